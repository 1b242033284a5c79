/- slices.AppendSeq and slices.Collect over a map's places. -/
import Derived.Test.YthegopajkljlmaaKeys
set_option linter.unusedVariables false
namespace Go.Proofs.Ythegopajkljlmaa
open Go.RowKit Go.Maps Go.Sort Go.Shelf
attribute [local go_sem] Oper.semAt_some
theorem cellsP_len (p : Pl) : (cellsP p).length = 2 := rfl
theorem cellsP_one (p : Pl) : ∀ u ∈ cellsP p, u.oneCell' = true := by intro u hu; simp [cellsP] at hu; rcases hu with rfl | rfl <;> rfl
theorem placeInfo : ∃ i, Try.prog.info? 100 = some i ∧ i.zero = some (.agg #[.int .i64 0, .int .i64 0]) ∧ i.size = 2 ∧ i.bytes = 16 := info_parts (by kernel_rfl)
/-- A block that holds a place. -/
def PlBox (W : World) (B : Nat) (x : Pl) : Prop := W.heap[B]? = some (.cells #[.int .i64 x.1.1, .int .i64 x.1.2] 100 (0, 0))
set_option maxHeartbeats 2000000 in
theorem appendSeq_in (F : Fence) (n : Nat) (h46 : F.fn 85) (hro : F.round = none) (hn : 2 ≤ n) (g : Nat) (lb : Array Value) (hFg : F.fn g) (eg : ∀ args w, (callFunc g args).run Try.prog w = .ok (.enter g args) w)
    (S Sp : List Pl → Prop) (N : Nat) (hN : N ≤ maxLen) (hNb : N * 16 ≤ 140737488355328) (w : World) (hseq : SeqStopsK F (n - 1) Try.prog g lb (fun x : Pl => #[encP x]) KeepsWalks S Sp N w) :
    CallsIn F n Try.prog 85 #[.slice none 0 0, .func (.func g) #[] lb] w fun e w' => ∃ (v : Value) (ss : List Pl), e = .returned v ∧ S ss ∧ w'.ownsRow w.heap.size 100 2 v ss.length (ss.flatMap cellsP) ∧ (v = .slice none 0 0 ↔ ss = []) ∧ Below w.heap.size w w' := by
  have h1 : 1 ≤ n := by omega
  obtain ⟨i0, hi, hz0, hz1, hz2⟩ := placeInfo
  refine callsIn_of_wp_marks Try.func85 rfl h46 ?_ hro
  simp only [Try.ntmps85, List.size_toArray, List.length_cons, List.length_nil, Nat.reduceAdd, Nat.reduceSub, Array.replicate_succ, Array.replicate_zero, List.push_toArray, List.append_toArray, List.nil_append, List.cons_append]
  gi_wp2
  have bS := Boxed.new w 97 (.slice none 0 0)
  have hB0 : Below w.heap.size w (w.alloc (.cells #[.slice none 0 0] 97)) := (Below.refl _ w).alloc (Nat.le_refl _) _
  refine wpIn_rangeFunc_ownH hro h1 (gf := g) (lb := lb) rfl hFg eg (hseq) walksK_t walksK_b hB0 (fun _ => rfl)
    (fun pre W => (∃ v, Boxed W w.heap.size 97 v ∧ W.ownsRow w.heap.size 100 2 v pre.length (pre.flatMap cellsP) ∧ (v = .slice none 0 0 ↔ pre = [])) ∧ Below w.heap.size w W)
    (fun _ _ _ => False)
    (OwnFrom.and (Own.from (holdsRow_own w.heap.size w.heap.size 97 100 2 (fun pre : List Pl => pre.length) (fun pre => pre.flatMap cellsP) (fun pre v => (v = .slice none 0 0 ↔ pre = []))) _) (ownFrom_below (Nat.le_refl _) (by simp)))
    (fun _ _ _ _ _ hs _ _ => hs)
    ⟨⟨_, bS, World.ownsRow_nil _ _ _ _, by simp⟩, hB0⟩
    (fun x a' W => ∃ Bx, w.heap.size < Bx ∧ PlBox W Bx x ∧ a' = { tmps := #[.slice none 0 0, .func (.func g) #[] lb, .pointer (some ⟨w.heap.size, 0, none⟩), undef, .slice none 0 0, .pointer (some ⟨Bx, 0, none⟩), .func (.func g) #[] lb, encP x, undef, undef, undef, undef, undef], defers := [] })
    (fun x a' _ X Y row hs hg hr => by
      obtain ⟨Bx, h1, h2, h3⟩ := hs
      refine ⟨Bx, h1, ?_, h3⟩
      refine (hg.block Bx (Array.getElem?_eq_some_iff.1 h2).1 (fun e => ?_)).trans h2
      obtain ⟨_, o, ho, hc⟩ := hr Bx e.symm
      rw [show X.heap[Bx]? = _ from h2] at ho
      cases ho
      cases hc)
    ?assign ?body ?done ?stop
  case assign =>
    rintro l pre x W K ⟨⟨v, hv, hrow, hnil⟩, hB⟩ hK
    obtain ⟨⟨xa, xb⟩, hx1, hx2⟩ := x
    gi_wp2
    exact hK _ _ ((KeepsOthers.alloc _ _).from _) (KeepsWalks.alloc _ _) ⟨⟨v, hv.alloc _, hrow.alloc _, hnil⟩, hB.alloc hB.size _⟩ ⟨W.heap.size, hv.lt, World.alloc_heap_new W _, rfl⟩
  case body =>
    rintro l pre x a' W hl ⟨r, hr⟩ ⟨⟨v, hv, hrow, hnil⟩, hB⟩ ⟨Bx, hBx, bX, rfl⟩ hlt
    obtain ⟨⟨xa, xb⟩, hx1, hx2⟩ := x
    have hc := hv.cell
    have cX0 : W.cell? ⟨Bx, 0, none⟩ = some (.int .i64 xa) := by simp [World.cell?, show W.heap[Bx]? = _ from bX]
    have cX1 : W.cell? ⟨Bx, 1, none⟩ = some (.int .i64 xb) := by simp [World.cell?, show W.heap[Bx]? = _ from bX]
    gi_wp2_with (gi_at_builtin; refine wpListIn_append_own _ rfl _ _ 97 rfl w.heap.size 100 i0 _ 2 16 Try.underlying97 hi hz0 hz1 hz2 rfl (by decide) _ _ _ rfl (hrow.alloc _) ⟨W.heap.size, 0, none⟩ 1 1 [.int .i64 xa, .int .i64 xb] rfl rfl ?hnews (by simp [Value.oneCell']) (by omega) (by omega) (by have := hB.size; simp; omega) ?hk)
    case hnews =>
      intro j u hu
      match j, hu with
      | 0, hu => simp at hu; subst hu; simp [go_sem]
      | 1, hu => simp at hu; subst hu; simp [go_sem]
      | j + 2, hu => simp at hu
    intro v' w1 hown' hgrow _
    obtain ⟨g', cap', rfl⟩ := ownsRow_succ hown'
    obtain ⟨hv1, hv2, hr2, hk2, hb2⟩ := hv.appended (by decide) hrow hB.size (Nat.le_refl _) hown' hgrow
    have hc1 := hv1.cell
    have hf1 := hv1.frozen
    gi_wp2
    have hr3 : (w1.setCell ⟨w.heap.size, 0, none⟩ (.slice (some ⟨g', 0, none⟩) (pre.length + 1) cap')).ownsRow w.heap.size 100 2 (.slice (some ⟨g', 0, none⟩) (pre.length + 1) cap') (pre ++ [(⟨(xa, xb), hx1, hx2⟩ : Pl)]).length ((pre ++ [(⟨(xa, xb), hx1, hx2⟩ : Pl)]).flatMap cellsP) := by
      rw [List.length_append, List.flatMap_append, List.length_singleton]
      exact hr2
    exact ⟨hk2.from _, hk2.walks, ⟨_, hv2, hr3, by simp⟩, hB.trans hb2⟩
  case done =>
    rintro D ys W hD hS ⟨⟨v, hv, hrow, hnil⟩, hB⟩ hK
    have hc := hv.cell
    gi_wp2
    refine ⟨by simp, .inl ⟨_, _, rfl, run_takeDeferred hK, ?_⟩⟩
    exact ⟨_, results_tmp rfl _ _ _, v, ys, rfl, hS, ownsRow_putObj hrow _ hK rfl, hnil, hB.trans (belowK_b (w := w) (Nat.le_refl _) W D _ _ (by simp at hD; omega) hK rfl rfl)⟩
  case stop =>
    intro D c pre W _ _ h _
    exact h.elim
theorem collect_in (F : Fence) (n : Nat) (h42 : F.fn 75) (h46 : F.fn 85) (hro : F.round = none) (hn : 3 ≤ n) (g : Nat) (lb : Array Value) (hFg : F.fn g) (eg : ∀ args w, (callFunc g args).run Try.prog w = .ok (.enter g args) w)
    (S Sp : List Pl → Prop) (N : Nat) (hN : N ≤ maxLen) (hNb : N * 16 ≤ 140737488355328) (w : World) (hseq : SeqStopsK F (n - 1 - 1) Try.prog g lb (fun x : Pl => #[encP x]) KeepsWalks S Sp N w) :
    CallsIn F n Try.prog 75 #[.func (.func g) #[] lb] w fun e w' => ∃ (v : Value) (ss : List Pl), e = .returned v ∧ S ss ∧ w'.ownsRow w.heap.size 100 2 v ss.length (ss.flatMap cellsP) ∧ (v = .slice none 0 0 ↔ ss = []) ∧ Below w.heap.size w w' := by
  have h1 : 1 ≤ n := by omega
  refine callsIn_of_wp Try.func75 rfl h42 ?_ hro
  simp only [Try.ntmps75, List.size_toArray, List.length_cons, List.length_nil, Nat.reduceAdd, Nat.reduceSub, Array.replicate_succ, Array.replicate_zero, List.push_toArray, List.append_toArray, List.nil_append, List.cons_append]
  gi_wp2_with (gi_at_call 85; refine (appendSeq_in F (n - 1) h46 hro (by omega) g lb hFg eg S Sp N hN hNb _ hseq).mono ?_; rintro e w' ⟨v, ss, rfl, hS, hrow, hnil, hb⟩)
  go_ret
  exact ⟨v, ss, rfl, hS, hrow, hnil, hb⟩
/-- maps.Keys(m), then slices.Collect of it. -/
theorem keys_any (mb : Option Nat) (w : World) : Calls Try.prog 64 #[.map mb] w fun e w' => e = .returned (.func (.func 77) #[] #[.pointer (some ⟨w.heap.size, 0, none⟩)]) ∧ w' = w.alloc (.cells #[.map mb] 102) := by
  go_enter Try.func64, Try.ntmps64
  go_wp2
  go_ret
  exact ⟨rfl, rfl⟩
/-- slices.Collect of a map's keys: all its places, each once, in some order. -/
theorem collect_keys {H : Type} (Bm b nn : Nat) (D0 : DataW H) {R : Value → Option (DataW H × List MemPlace)} (w : World) (hBm : Bm < w.heap.size) (hm : w.cell? ⟨Bm, 0, none⟩ = some (.map (some b))) (hown : w.ownsMap Try.prog 100 R b nn D0)
    (hN : Maps.size D0 ≤ maxLen) (hNb : Maps.size D0 * 16 ≤ 140737488355328) :
    Calls Try.prog 75 #[.func (.func 77) #[] #[.pointer (some ⟨Bm, 0, none⟩)]] w fun e w' =>
      ∃ (v : Value) (ss : List Pl), e = .returned v ∧ PlacesOf D0 ss ∧ w'.ownsRow w.heap.size 100 2 v ss.length (ss.flatMap cellsP) ∧ (v = .slice none 0 0 ↔ ss = []) ∧ Below w.heap.size w w' := by
  refine (callsIn_wide (n := 5)).1 ?_
  exact collect_in Fence.wide 5 trivial trivial rfl (by omega) _ _ trivial (enters_of Try.func77 (by kernel_rfl) rfl) (PlacesOf D0) (fun _ => True) (Maps.size D0) hN hNb w
    (keys_stops Fence.wide _ trivial rfl (by omega) Bm b nn D0 w hBm hm hown)
def ltP (x y : Pl) : Prop := x.1.1 < y.1.1 ∨ (x.1.1 = y.1.1 ∧ x.1.2 < y.1.2)
end Go.Proofs.Ythegopajkljlmaa
