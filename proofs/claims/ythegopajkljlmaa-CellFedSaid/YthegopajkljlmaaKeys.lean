/- maps.Keys at places: the iterator; slices.AppendSeq, slices.Collect over it. -/
import Derived.Test.YthegopajkljlmaaPlace
import Derived.Shelf.SlIterI.Collect
import Derived.RangeFuncNested
import Derived.RangeFuncBound
import Derived.RangeFuncCalls
import Derived.RangeFuncLeaves
import Derived.Shelf.RegionOpen
import Derived.OwnWalkIn
import Derived.TacticsInMore
import Derived.LoopNIn
import Derived.LoopIn
import Derived.Maps.AppendAt
set_option linter.unusedVariables false
namespace Go.Proofs.Ythegopajkljlmaa
open Go.RowKit Go.Maps Go.Sort Go.Shelf
/-- No place twice; a place is on the list just where the map has it and it is no longer to come. -/
def CollP {H : Type} (D0 : DataW H) (left : Lit → Bool) (ss : List Pl) : Prop := ss.Nodup ∧ ∀ x, x ∈ ss ↔ (Maps.has D0 (litP x) = true ∧ left (litP x) = false)
theorem litP_same (x y : Pl) : (litP x).sameKey (litP y) = decide (x = y) := by
  by_cases h : x = y
  · subst h; simp [litP, Lit.sameKey]
  · rw [decide_eq_false h]
    by_cases hs : (litP x).sameKey (litP y) = true
    · exact absurd (litP_inj (WideAt.sameKey_eq hs)) h
    · simpa using hs
section
variable {H : Type} {D0 : DataW H} {left : Lit → Bool} {ss : List Pl}
theorem CollP.start (D0 : DataW H) : CollP D0 (Maps.has D0) [] := ⟨List.nodup_nil, fun x => by cases Maps.has D0 (litP x) <;> simp⟩
theorem CollP.step (h : CollP D0 left ss) {x : Pl} {y : DataW H} (hlk : left (litP x) = true) (hat : ∀ zd, D0.atKey (litP x) zd = y) : CollP D0 (fun z => left z && !z.sameKey (litP x)) (ss ++ [x]) := by
  have hhas : Maps.has D0 (litP x) = true := has_true_of_atKey hat
  have hnew : x ∉ ss := fun hx => by have := ((h.2 x).1 hx).2; rw [hlk] at this; cases this
  refine ⟨List.nodup_append.2 ⟨h.1, by simp, fun a ha b hb => by simp at hb; subst hb; exact fun e => hnew (e ▸ ha)⟩, fun y => ?_⟩
  by_cases hy : y = x
  · subst hy; simp [hhas, litP_same]
  · simp [h.2 y, hy, litP_same]
end
/-- The places of a map: each once. -/
def PlacesOf {H : Type} (D0 : DataW H) (ss : List Pl) : Prop := ss.Nodup ∧ ∀ x, x ∈ ss ↔ Maps.has D0 (litP x) = true
set_option maxRecDepth 100000 in
set_option maxHeartbeats 1000000 in
theorem keys1_in {H : Type} (F : Fence) (n : Nat) (h1 : F.fn 77) (hro : F.round = none) (hn : 1 ≤ n) (l Bm b nn : Nat) (D0 : DataW H) {R : Value → Option (DataW H × List MemPlace)} (J Jx : List Pl → World → Prop)
    (hY : ∀ pre x W, J pre W → pre.length < Maps.size D0 → YieldAt F (n - 1) Try.prog l #[encP x] W fun e W' => (e = .returned (.bool true) ∧ J (pre ++ [x]) W' ∧ KeepsWalks W W') ∨ (e = .returned (.bool false) ∧ Jx (pre ++ [x]) W'))
    (W : World) (hJ : AbidesFrom W.heap.size J) (hm : W.cell? ⟨Bm, 0, none⟩ = some (.map (some b))) (hown : W.ownsMap Try.prog 100 R b nn D0) (h0 : J [] W) :
    CallsIn F n Try.prog 77 #[.func (.yield l) #[] #[], .pointer (some ⟨Bm, 0, none⟩)] W fun e W' => (∃ v, e = .returned v) ∧ ((∃ ss : List Pl, PlacesOf D0 ss ∧ J ss W') ∨ (∃ pre : List Pl, True ∧ Jx pre W')) := by
  refine callsIn_of_wp Try.func77 rfl h1 ?_ hro
  simp only [Try.ntmps77, List.size_toArray, List.length_cons, List.length_nil, Nat.reduceAdd, Nat.reduceSub, Array.replicate_succ, Array.replicate_zero, List.push_toArray, List.append_toArray, List.nil_append, List.cons_append]
  gi_wp2_with (first
    | (gi_at_range; refine wpListIn_range_own _ rfl _ 102 rfl 100 123 placeKeyed Try.underlying102 _ b nn _ rfl hown ?_; intro w0 hrg0 hg0 hs0)
    | gi_in)
  go_frame
  gi_loopw [3] (fun _ wr => ∃ (left : Lit → Bool) (cnt : Nat) (ss : List Pl), wr.ranges Try.prog 100 R b W.heap.size nn D0 left cnt ∧ ss.length + cnt ≤ Maps.size D0 ∧ CollP D0 left ss ∧ J ss wr)
    (fun _ wr => wr.rangeLeft b W.heap.size)
  case atStart =>
    exact ⟨_, _, [], hrg0, by simp, CollP.start D0, hJ [] W w0 none h0 hg0 (fun r e => by cases e)⟩
  case round =>
    obtain ⟨left, cnt, ss, hrg, hcs, hC, hJs⟩ := hrel
    gi_wp2_with (first
      | (gi_at_next; refine wpListIn_next_ranges _ rfl _ rfl 100 placeKeyed R encP id (fun key kl hk => by obtain ⟨x, hx, _⟩ := keyOf_place_inv hk; exact ⟨x, hx⟩) (fun v _ _ => ⟨v, rfl⟩) b W.heap.size nn _ _ _ rfl hrg ?_ ?_)
      | gi_in)
    · intro hc0 hl0
      gi_wp2
      go_end0
      exact ⟨⟨_, rfl⟩, .inl ⟨ss, ⟨hC.1, fun x => by rw [hC.2 x, hl0]; simp⟩, hJs⟩⟩
    · intro xa xb hxw c kl yd yp w2 cnt2 hkey hlk hv hat hrg2 hlt hg2 hs2 hen
      obtain ⟨x', ex, rfl⟩ := keyOf_place_inv hkey
      obtain rfl : x' = ⟨(xa, xb), hxw⟩ := by
        have := keyOf_place ⟨(xa, xb), hxw⟩
        exact litP_inj (Option.some.inj (hkey.symm.trans this))
      have hJ2 : J ss w2 := hJ ss wr w2 (some W.heap.size) hJs hg2 (fun r e => by cases e; exact ⟨Nat.le_refl _, hrg.iter_walk⟩)
      have hJ3 : J ss (w2.alloc (.cells #[.int .i64 xa, .int .i64 xb] 100)) := hJ ss w2 _ none hJ2 (World.grownBy_alloc _ _ _) (fun r e => by cases e)
      obtain ⟨fn, tmps, assign, body, hy, hR⟩ := hY ss ⟨(xa, xb), hxw⟩ _ hJ3 (by omega)
      clear hs2
      dsimp only [encP] at hy
      gi_wp2
      refine hR.mono ?_
      rintro e W3 (⟨rfl, hJ4, hk3⟩ | ⟨rfl, hJx⟩)
      rotate_left
      · gi_wp2
        refine bodyPost_ret (results_none rfl _ _ _) rfl ?_
        exact ⟨⟨_, rfl⟩, .inr ⟨_, trivial, hJx⟩⟩
      gi_wp2
      have hrg3 := (hrg2.of_walks (KeepsWalks.alloc _ _)).of_walks hk3
      have hlen : (ss ++ [(⟨(xa, xb), hxw⟩ : Pl)]).length + cnt2 ≤ Maps.size D0 := by rw [List.length_append, List.length_singleton]; omega
      have hC2 := hC.step hlk hat
      go_roundw
      case rel => exact ⟨_, cnt2, ss ++ [⟨(xa, xb), hxw⟩], hrg3, hlen, hC2, hJ4⟩
      case measure => rw [hrg3.left_eq, hrg.left_eq]; exact hlt
theorem keys_stops {H : Type} (F : Fence) (n : Nat) (h1 : F.fn 77) (hro : F.round = none) (hn : 1 ≤ n) (Bm b nn : Nat) (D0 : DataW H) {R : Value → Option (DataW H × List MemPlace)} (w : World) (hBm : Bm < w.heap.size)
    (hm : w.cell? ⟨Bm, 0, none⟩ = some (.map (some b))) (hown : w.ownsMap Try.prog 100 R b nn D0) :
    SeqStopsK F n Try.prog 77 #[.pointer (some ⟨Bm, 0, none⟩)] (fun x : Pl => #[encP x]) KeepsWalks (PlacesOf D0) (fun _ => True) (Maps.size D0) w := fun l J Jx W hW hJ hJx hY h0 => by
  have hown' : W.ownsMap Try.prog 100 R b nn D0 := by
    have hbl := hown.lt
    obtain ⟨es, clock, hb, Ft, hs, hD⟩ := hown
    exact ⟨es, clock, (hW.block b hbl).trans hb, Ft, hs, hD⟩
  exact keys1_in F n h1 hro hn l Bm b nn D0 J Jx hY W hJ ((hW.cell (p := ⟨Bm, 0, none⟩) hBm).trans hm) hown' h0
end Go.Proofs.Ythegopajkljlmaa
