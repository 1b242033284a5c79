/- Several texts of this seat, joined: SortP, Sorted, Panes, Put, Close, Shut, PaneKit, Sep, SepSl, PanesSt. -/
import Derived.Test.YtdncpihaeobaeaaGreatK1
import Derived.Test.YtdncpihaeobaeaaGreatLay
import Derived.Shelf.SlSortCmp.NoneTotal
import Derived.Deep.RegionHeld3
import Derived.Deep.CutRange
set_option linter.unusedVariables false
namespace Go.Proofs.YtdncpihaeobaeaaGreat
/- SortP -/
section
open Go.Shelf Go.RowKit Go.Lib Go.Sort Go.Proofs
instance : Inhabited Pl := ⟨⟨(0, 0), by decide, by decide⟩⟩
def cmpI (a b : Int) : Int := if a < b then -1 else if b < a then 1 else 0
theorem isNaN_int (a : Int) (w : World) : Calls Tryz.prog 149 #[.int .i64 a] w fun e w' => e = .returned (.bool false) ∧ w' = w := by
  go_enter Tryz.func149, Tryz.ntmps149
  go_wp2
  go_ret
  exact ⟨by simp, rfl⟩
theorem cmp_int (a b : Int) (w : World) : Calls Tryz.prog 136 #[.int .i64 a, .int .i64 b] w fun e w' => e = .returned (.int .i64 (cmpI a b)) ∧ w' = w := by
  unfold cmpI
  by_cases h1 : a < b
  · rw [if_pos h1]
    go_enter Tryz.func136, Tryz.ntmps136
    go_wp2_with (go_at_call 149; refine (isNaN_int _ _).mono ?_; rintro e w' ⟨rfl, rfl⟩)
    go_ret
    exact ⟨rfl, rfl⟩
  · rw [if_neg h1]
    by_cases h2 : b < a
    · rw [if_pos h2]
      go_enter Tryz.func136, Tryz.ntmps136
      go_wp2_with (go_at_call 149; refine (isNaN_int _ _).mono ?_; rintro e w' ⟨rfl, rfl⟩)
      go_ret
      exact ⟨rfl, rfl⟩
    · rw [if_neg h2]
      go_enter Tryz.func136, Tryz.ntmps136
      go_wp2_with (go_at_call 149; refine (isNaN_int _ _).mono ?_; rintro e w' ⟨rfl, rfl⟩)
      go_ret
      exact ⟨rfl, rfl⟩
def first2 (p q : Int) : Int := if p ≠ 0 then p else q
theorem or_two (p q : Int) (ab : Nat) (w : World) (c0 : w.cell? ⟨ab, 0, none⟩ = some (.int .i64 p)) (c1 : w.cell? ⟨ab, 1, none⟩ = some (.int .i64 q)) :
    Calls Tryz.prog 135 #[.slice (some ⟨ab, 0, none⟩) 2 2] w fun e w' => e = .returned (.int .i64 (first2 p q)) ∧ w' = w := by
  unfold first2
  by_cases h1 : p = 0
  · rw [if_neg (by simp [h1])]
    subst h1
    by_cases h2 : q = 0
    · subst h2
      go_enter Tryz.func135, Tryz.ntmps135
      go_wp2
      go_rounds 3
      go_ret
      exact ⟨rfl, rfl⟩
    · go_enter Tryz.func135, Tryz.ntmps135
      go_wp2
      go_rounds 3
      go_ret
      exact ⟨rfl, rfl⟩
  · rw [if_pos h1]
    go_enter Tryz.func135, Tryz.ntmps135
    go_wp2
    go_rounds 3
    go_ret
    exact ⟨rfl, rfl⟩
def cmpP (x y : Pl) : Int := first2 (cmpI x.1.1 y.1.1) (cmpI x.1.2 y.1.2)
set_option maxRecDepth 20000 in
theorem closureP (x y : Pl) (W : World) : Calls Tryz.prog 134 #[.agg #[.int .i64 x.1.1, .int .i64 x.1.2], .agg #[.int .i64 y.1.1, .int .i64 y.1.2]] W fun e w' => e = .returned (.int .i64 (cmpP x y)) ∧ ∃ q os', w' = grow (W.drewN q) os' := by
  obtain ⟨⟨a1, a2⟩, hx⟩ := x
  obtain ⟨⟨b1, b2⟩, hy⟩ := y
  unfold cmpP
  dsimp only
  clear hx hy
  go_enter Tryz.func134, Tryz.ntmps134
  go_wp2
  refine region_tail 10 (by kernel_rfl) (by kernel_rfl) ?_
  simp only [List.take_succ_cons, List.take_zero, List.drop_succ_cons, List.drop_zero]
  repeat still_step
  still_call (cmp_int _ _ _)
  repeat still_step
  still_call (cmp_int _ _ _)
  refine wpStill_nil ?_
  go_wp2_with fail
  refine (or_two (cmpI a1 b1) (cmpI a2 b2) (W.heap.size + 1 + 1) _ ?c0 ?c1).mono ?_
  case c0 => simp [go_sem]
  case c1 => simp [go_sem]
  rintro e w' ⟨rfl, rfl⟩
  go_wp2
  go_ret
  exact ⟨rfl, 1, _, by rw [alloc_eq_grow, alloc_eq_grow, alloc_eq_grow, grow_grow, grow_grow]; rfl⟩
theorem cmpLaysP (blk off size : Nat) (w : World) : CmpLays Tryz.prog 134 #[] cellsP 2 cmpP blk off size w :=
  fun _ _ _ _ x y => closureP x y _
/-- one place ahead of another -/
theorem ltOf_cmpP (x y : Pl) : ltOf cmpP x y = decide (x.1.1 < y.1.1 ∨ (x.1.1 = y.1.1 ∧ x.1.2 < y.1.2)) := by
  unfold ltOf cmpP first2 cmpI
  by_cases h1 : x.1.1 < y.1.1
  · simp [h1]
  · by_cases h2 : y.1.1 < x.1.1
    · simp [h1, h2]; omega
    · have h3 : x.1.1 = y.1.1 := by omega
      by_cases h4 : x.1.2 < y.1.2
      · simp [h3, h4]
      · by_cases h5 : y.1.2 < x.1.2
        · simp [h3, h4, h5]
        · simp [h3, h4, h5]
theorem swoP : SWO (ltOf cmpP) where
  irrefl x := by rw [ltOf_cmpP]; simp
  trans x y z h1 h2 := by rw [ltOf_cmpP] at *; simp at *; omega
  ntrans x y z h1 h2 := by rw [ltOf_cmpP] at *; simp at *; omega
theorem sortFunc_places (blk cap : Nat) (d : Array Pl) (w : World) (hH : HoldsK cellsP 2 w blk 0 d) (hblk : blk < w.heap.size) (hsz : d.size < 4611686018427387904) :
    Calls Tryz.prog 147 #[.slice (some ⟨blk, 0, none⟩) d.size cap, .func (.func 134) #[] #[]] w fun e w' => e = .returned (.tuple #[]) ∧ ∃ d' n os, PermIn 0 d.size d d' ∧ SortedIn (ltOf cmpP) 0 d.size d' ∧ w' = sortWorldK cellsP 2 w blk 0 n d' os := by
  have eg : ∀ args w, (callFunc 134 args).run Tryz.prog w = .ok (.enter 134 args) w := enters_of Tryz.func134 (by kernel_rfl) rfl
  have hcon := AnyQ.slices_SortFunc Tryz.sortP 2 Tryz.isAgg196 Tryz.sizeOf196 cellsP cellsP_len (fun x v hv => cellsP_one x v hv) cmpP swoP 134 #[] blk 0 cap d w eg (cmpLaysP blk 0 d.size w) hH hblk hsz
  exact hcon
end
/- Sorted -/
section
open Go.Shelf Go.RowKit Go.Lib Go.Sort Go.Proofs
theorem below_sorted {α : Type} [Inhabited α] (enc : α → List Value) (k : Nat) (w : World) (blk off m : Nat) (dk : Array α) (os : Array Obj) {B : Nat} (hB : B ≤ blk) (hs : B ≤ w.heap.size) : RowKit.Below B w (sortWorldK enc k w blk off m dk os) := by
  refine ⟨rfl, rfl, rfl, size_sortWorldK_c enc k w blk off m dk os, fun i hi => ?_⟩
  show (Array.append (Array.modify w.heap blk _) os)[i]? = _
  have e : (Array.append (Array.modify w.heap blk (onCells (putCells id off (flatK enc k dk)))) os) = (Array.modify w.heap blk (onCells (putCells id off (flatK enc k dk)))) ++ os := rfl
  rw [e, Array.getElem?_append_left (by simp; omega), Array.getElem?_modify, if_neg (by omega)]
/-- A row of the call's own, as the sort's kit has it. -/
theorem holdsK_own {α : Type} [Inhabited α] {enc : α → List Value} {c : Nat} (hc : ∀ x, (enc x).length = c) (c0 : 0 < c) {w : World} {B : Nat} {e : TypeId} {l : List α} {g cap : Nat} (h : w.ownsRow B e c (.slice (some ⟨g, 0, none⟩) l.length cap) l.length (l.flatMap enc)) :
    HoldsK enc c w g 0 l.toArray := by
  intro j hj
  simp at hj
  have hd := Nat.div_add_mod j c
  have hm := Nat.mod_lt j c0
  have hi : j / c < l.length := by rw [Nat.div_lt_iff_lt_mul c0]; exact hj
  obtain ⟨h1, h2⟩ := own_cell h hj
  rw [Nat.zero_add]
  refine ⟨?_, h2⟩
  have hf := flatMap_at hc l (j / c) (j % c) hm
  rw [Nat.mul_comm, hd, List.getElem?_eq_getElem hi] at hf
  rw [h1, hf, id, get_flatK _ _ _ _ (by simpa using hj)]
  have hx : l.toArray[j / c]! = l[j / c] := by simp [hi]
  rw [hx]
  simp only [Option.bind_some]
  rw [List.getElem?_eq_getElem (by rw [hc]; exact hm)]
  simp [hc, hm]
theorem slAt_holdsK {α : Type} [Inhabited α] {enc : α → List Value} {c : Nat} (hc : ∀ x, (enc x).length = c) {w : World} {g : Nat} {d : Array α} (hg : g < w.heap.size) (h : HoldsK enc c w g 0 d) : SlAt c (flat enc) w (some ⟨g, 0, none⟩) d.toList := by
  refine .inr ⟨g, 0, rfl, hg, fun i hi => ?_⟩
  have hi' : i < d.size := by simpa using hi
  refine ⟨enc d.toList[i], hc _, fun j hj => ?_, rfl⟩
  have := (HoldsK.cell h hi' hj).1
  rw [this]
  have e : d[i]! = d.toList[i] := by simp [hi']
  rw [e, List.getElem?_eq_getElem (by rw [hc]; exact hj)]
  simp [hc, hj]
theorem pairwise_of_sorted {d : Array Pl} (hs : SortedIn (ltOf cmpP) 0 d.size d) (hn : d.toList.Nodup) : d.toList.Pairwise ltP := by
  rw [List.pairwise_iff_getElem]
  intro i j hi hj hij
  have h1 : i < d.size := by simpa using hi
  have h2 : j < d.size := by simpa using hj
  have h := hs i j (Nat.zero_le _) hij h2
  rw [ltOf_cmpP] at h
  simp only [decide_eq_false_iff_not] at h
  have ei : d[i]! = d.toList[i] := by simp [h1]
  have ej : d[j]! = d.toList[j] := by simp [h2]
  rw [ei, ej] at h
  have hne : d.toList[i] ≠ d.toList[j] := fun e => by
    have := (List.getElem_inj (h₀ := hi) (h₁ := hj) hn).1 e
    omega
  generalize d.toList[i] = x at *
  generalize d.toList[j] = y at *
  obtain ⟨⟨a, b⟩, hx⟩ := x
  obtain ⟨⟨c, e⟩, hy⟩ := y
  unfold ltP
  simp at *
  by_cases h3 : a = c
  · subst h3; simp at hne; omega
  · omega
/-- SortedFunc over a map's keys: all its places, each once, rising. -/
theorem sorted_places {H : Type} (Bm b nn : Nat) (D0 : DataW H) {R : Value → Option (DataW H × List MemPlace)} (w : World) (hBm : Bm < w.heap.size) (hm : w.cell? ⟨Bm, 0, none⟩ = some (.map (some b))) (hown : w.ownsMap Tryz.prog 196 R b nn D0)
    (hN : Maps.size D0 ≤ 2 ^ 40) (hC : ∀ ss, PlacesOf D0 ss → ss.length ≤ 2 ^ 40) :
    Calls Tryz.prog 132 #[.func (.func 148) #[] #[.pointer (some ⟨Bm, 0, none⟩)], .func (.func 134) #[] #[]] w fun e w' =>
      ∃ (a : Option Addr) (cap : Nat) (ss : List Pl), e = .returned (.slice a ss.length cap) ∧ PlacesOf D0 ss ∧ ss.Pairwise ltP ∧ ss.length ≤ cap ∧ cap ≤ maxLen ∧ (a = none → cap = 0) ∧ SlAt 2 (flat cellsP) w' a ss ∧ (∀ b o, a = some ⟨b, o, none⟩ → w.heap.size ≤ b) ∧ RowKit.Below w.heap.size w w' := by
  have hN1 : Maps.size D0 ≤ maxLen := by unfold maxLen; omega
  have hN2 : Maps.size D0 * 16 ≤ 140737488355328 := by omega
  go_enter Tryz.func132, Tryz.ntmps132
  go_wp2_with (go_at_call 146; refine (collect_keys Bm b nn D0 w hBm hm hown hN1 hN2).mono ?_; rintro e w1 ⟨v, ss, rfl, hP, hrow, hnil, hb⟩)
  by_cases h0 : ss = []
  · subst h0
    obtain rfl := hnil.2 rfl
    have hS := fun W => AnyF.slices_SortFunc_none (P := Tryz.prog) (ρ := _) { Tryz.sortP with } none 0 (.func (.func 134) #[] #[]) W
    change ∀ W, Calls Tryz.prog 147 _ _ _ at hS
    go_wp2_with (go_at_call 147; refine (hS _).mono ?_; rintro e w' ⟨rfl, rfl⟩)
    go_ret
    exact ⟨none, 0, [], rfl, hP, List.Pairwise.nil, by simp, by decide, fun _ => rfl, .inl rfl, by simp, hb⟩
  · have hl : 0 < ss.length := List.length_pos_iff.2 h0
    obtain ⟨g, cap, rfl, hc1, hc2⟩ := own_form hrow hl
    have hlt := own_lt hrow
    have hS := sortFunc_places g cap ss.toArray w1 (holdsK_own cellsP_len (by omega) hrow) hlt.2 (by have := hC ss hP; simp; omega)
    simp only [List.size_toArray] at hS
    have HR := Lib.hid (holdsK_own cellsP_len (by omega) hrow)
    clear hrow hnil
    go_wp2_with (go_at_call 147; refine hS.mono ?_; rintro e w' ⟨rfl, d', q, os, hp, hs, rfl⟩)
    go_ret
    have hsz : d'.size = ss.length := by simpa using hp.1
    have hperm : d'.toList.Perm ss := by
      have := hp.2.2
      simpa [List.take_of_length_le (show d'.toList.length ≤ ss.length by simp [hsz])] using this
    have hlen : d'.toList.length = ss.length := by simpa using hsz
    have hnd : d'.toList.Nodup := hperm.nodup_iff.2 hP.1
    have hH := holdsK_sortWorldK_c cellsP 2 w1 g 0 ss.toArray d' q os HR.out hlt.2 (by simpa using hsz)
    refine ⟨some ⟨g, 0, none⟩, cap, d'.toList, by rw [hlen]; rfl, ⟨hnd, fun x => by rw [hperm.mem_iff]; exact hP.2 x⟩, pairwise_of_sorted (by rw [hsz]; exact hs) hnd, by omega, hc2, by simp, ?_, ?_, ?_⟩
    · exact slAt_holdsK cellsP_len (Nat.lt_of_lt_of_le hlt.2 (size_sortWorldK_c cellsP 2 w1 g 0 q d' os)) hH
    · intro b o he; cases he; exact hlt.1
    · exact hb.trans (below_sorted cellsP 2 w1 g 0 q d' os hlt.1 hb.size)
end
/- Panes -/
section
open Go.RowKit Go.Maps
def plOf (a b : Int) : Pl := if h : (Lit.int .i64 a).wf = true ∧ (Lit.int .i64 b).wf = true then ⟨(a, b), h⟩ else ⟨(0, 0), by decide, by decide⟩
theorem plOf_val {a b : Int} (h1 : (Lit.int .i64 a).wf = true) (h2 : (Lit.int .i64 b).wf = true) : plOf a b = ⟨(a, b), h1, h2⟩ := by
  unfold plOf
  rw [dif_pos ⟨h1, h2⟩]
theorem plOf_1 {a b : Int} (h1 : (Lit.int .i64 a).wf = true) (h2 : (Lit.int .i64 b).wf = true) : (plOf a b).1 = (a, b) := by rw [plOf_val h1 h2]
def stepPn (x : Pn) (v lab : Int) : Pn := ⟨x.c + 1, x.k, takeV x.k x.c x.v v 1, bits .or .u64 x.l lab⟩
def putS (kd : Int) (L : PL) (e : Ev) (s : Int) : PL := insL L (plOf s e.key) (stepPn ((lookL L (plOf s e.key)).getD ⟨0, kd, 0, 0⟩) e.value e.label)
def putE (kd sz sl : Int) (L : PL) (e : Ev) : PL := (startsOf e.time sz sl).foldl (fun L s => putS kd L e s) L
def putL (kd sz sl : Int) (L : PL) (es : List Ev) : PL := es.foldl (putE kd sz sl) L
/-- What is kept of the list while events come. -/
structure GoodL (kd sz sl : Int) (N : Nat) (L : PL) : Prop where
  len : L.length ≤ N
  each : ∀ p x, (p, x) ∈ L → 0 ≤ p.1.1 ∧ p.1.1 ≤ 1099511627776 ∧ 0 ≤ x.c ∧ x.c ≤ N ∧ x.k = kd ∧ x.wf
  right : L ≠ [] → rightW sz sl
theorem GoodL.empty (kd sz sl : Int) : GoodL kd sz sl 0 [] := ⟨by simp, by simp, by simp⟩
theorem GoodL.mono {kd sz sl : Int} {N M : Nat} {L : PL} (h : GoodL kd sz sl N L) (hM : N ≤ M) : GoodL kd sz sl M L :=
  ⟨Nat.le_trans h.len hM, fun p x hx => by obtain ⟨h1, h2, h3, h4, h5, h6⟩ := h.each p x hx; exact ⟨h1, h2, h3, by omega, h5, h6⟩, h.right⟩
theorem starts_range {t sz sl s : Int} (h : s ∈ startsOf t sz sl) : rightW sz sl ∧ 0 ≤ t ∧ t ≤ 1099511627776 ∧ 0 ≤ s ∧ s ≤ t ∧ t < s + sz := by
  unfold startsOf at h
  split at h
  · rename_i hc
    obtain ⟨h1, h2, k, h3, h4⟩ := winds_mem h
    have hs := hc.1.1
    have h5 := Int.emod_nonneg t (show sl ≠ 0 by omega)
    have h6 : 0 ≤ (k : Int) * sl := Int.mul_nonneg (by omega) (by omega)
    exact ⟨hc.1, hc.2.1, hc.2.2, h1, by omega, by omega⟩
  · simp at h
theorem starts_len (t sz sl : Int) : (startsOf t sz sl).length ≤ 8 := by
  unfold startsOf
  split
  · rename_i hc
    have := winds_len (t - t % sl) t sz sl (mostOf sz sl).toNat
    have := hc.1.2.2.2
    omega
  · simp
theorem getD_each {kd sz sl : Int} {N : Nat} {L : PL} (hG : GoodL kd sz sl N L) (hs : SortedL L) (hkd : (Lit.int .i64 kd).wf = true) (p : Pl) :
    0 ≤ ((lookL L p).getD ⟨0, kd, 0, 0⟩).c ∧ ((lookL L p).getD ⟨0, kd, 0, 0⟩).c ≤ N ∧ ((lookL L p).getD ⟨0, kd, 0, 0⟩).k = kd ∧ ((lookL L p).getD ⟨0, kd, 0, 0⟩).wf := by
  cases hl : lookL L p with
  | none => exact ⟨by simp, by simp, rfl, show (Lit.int .i64 0).wf = true by decide, hkd, show (Lit.int .i64 0).wf = true by decide, show (Lit.int .u64 0).wf = true by decide⟩
  | some x => exact (hG.each p x ((lookL_some hs).1 hl)).2.2
theorem stepPn_wf {x : Pn} {v lab : Int} (hx : x.wf) (hv : (Lit.int .i64 v).wf = true) (h0 : 0 ≤ x.c) (h1 : x.c ≤ 2 ^ 41) : (stepPn x v lab).wf := by
  refine ⟨WalkArith.wf_i64 ?_, hx.2.1, takeV_wf hx.2.2.1 hv, or_wf _ _⟩
  show -9223372036854775808 ≤ x.c + 1 ∧ x.c + 1 ≤ 9223372036854775807
  omega
theorem GoodL.put {kd sz sl : Int} {N : Nat} {L : PL} (hG : GoodL kd sz sl N L) (hs : SortedL L) (hkd : (Lit.int .i64 kd).wf = true) (hN : N < 2 ^ 41) {e : Ev} (he : e.wf) {s : Int} (hm : s ∈ startsOf e.time sz sl) : GoodL kd sz sl (N + 1) (putS kd L e s) := by
  have hr := starts_range hm
  have hw : (Lit.int .i64 s).wf = true := WalkArith.wf_i64 (by omega)
  have hg := getD_each hG hs hkd (plOf s e.key)
  refine ⟨?_, ?_, fun _ => hr.1⟩
  · unfold putS
    rw [insL_length hs]
    have := hG.len
    split <;> omega
  · intro p x hx
    rcases (mem_insL hs p x).1 hx with ⟨rfl, rfl⟩ | ⟨_, hx⟩
    · rw [plOf_1 hw he.2.1]
      refine ⟨hr.2.2.2.1, by omega, ?_, ?_, hg.2.2.1, stepPn_wf hg.2.2.2 he.2.2.1 hg.1 (by have := hg.2.1; omega)⟩
      · show 0 ≤ ((lookL L (plOf s e.key)).getD ⟨0, kd, 0, 0⟩).c + 1
        omega
      · show ((lookL L (plOf s e.key)).getD ⟨0, kd, 0, 0⟩).c + 1 ≤ _
        omega
    · exact (hG.mono (Nat.le_succ N)).each p x hx
theorem putS_sorted {kd : Int} {L : PL} (hs : SortedL L) (e : Ev) (s : Int) : SortedL (putS kd L e s) := insL_sorted hs _ _
theorem GoodL.puts {kd sz sl : Int} (hkd : (Lit.int .i64 kd).wf = true) {e : Ev} (he : e.wf) : ∀ (ss : List Int) (N : Nat) (L : PL), (∀ s ∈ ss, s ∈ startsOf e.time sz sl) → GoodL kd sz sl N L → SortedL L → N + ss.length < 2 ^ 41 → GoodL kd sz sl (N + ss.length) (ss.foldl (fun L s => putS kd L e s) L) ∧ SortedL (ss.foldl (fun L s => putS kd L e s) L)
  | [], N, L, _, hG, hs, _ => ⟨hG, hs⟩
  | s :: ss, N, L, hm, hG, hs, hN => by
    simp only [List.length_cons] at hN
    have := GoodL.puts hkd he ss (N + 1) (putS kd L e s) (fun t ht => hm t (by simp [ht])) (hG.put hs hkd (by omega) he (hm s (by simp))) (putS_sorted hs e s) (by omega)
    rw [List.length_cons, List.foldl_cons, show N + (ss.length + 1) = N + 1 + ss.length by omega]
    exact this
theorem GoodL.putE {kd sz sl : Int} {N : Nat} {L : PL} (hG : GoodL kd sz sl N L) (hs : SortedL L) (hkd : (Lit.int .i64 kd).wf = true) (hN : N + 8 < 2 ^ 41) {e : Ev} (he : e.wf) : GoodL kd sz sl (N + 8) (putE kd sz sl L e) ∧ SortedL (putE kd sz sl L e) := by
  have hl := starts_len e.time sz sl
  have := GoodL.puts hkd he (startsOf e.time sz sl) N L (fun s h => h) hG hs (by omega)
  exact ⟨this.1.mono (by omega), this.2⟩
theorem GoodL.putL {kd sz sl : Int} (hkd : (Lit.int .i64 kd).wf = true) : ∀ (es : List Ev) (N : Nat) (L : PL), (∀ e ∈ es, e.wf) → GoodL kd sz sl N L → SortedL L → N + 8 * es.length < 2 ^ 41 → GoodL kd sz sl (N + 8 * es.length) (putL kd sz sl L es) ∧ SortedL (putL kd sz sl L es)
  | [], N, L, _, hG, hs, _ => ⟨hG, hs⟩
  | e :: es, N, L, hw, hG, hs, hN => by
    simp only [List.length_cons] at hN
    obtain ⟨h1, h2⟩ := hG.putE hs hkd (by omega) (hw e (by simp))
    have := GoodL.putL hkd es (N + 8) _ (fun e he => hw e (by simp [he])) h1 h2 (by omega)
    rw [List.length_cons, show N + 8 * (es.length + 1) = N + 8 + 8 * es.length by omega]
    exact this
theorem paneInfo : ∃ i, Tryz.prog.info? 211 = some i ∧ i.zero = some (.agg #[.int .i64 0, .int .i64 0, .int .i64 0, .int .u64 0]) ∧ i.size = 4 ∧ i.bytes = 32 := info_parts (by kernel_rfl)
/-- The windows lie at a block, their map at another. -/
def MapAt (w : World) (mb : Nat) (L : PL) : Prop := ∃ D n, w.ownsMap Tryz.prog 196 elemPn mb n D ∧ MapOf D L
def PanesAt (w : World) (pb mb : Nat) (sz sl kd : Int) (L : PL) : Prop :=
  w.heap[pb]? = some (.cells #[.int .i64 sz, .int .i64 sl, .int .i64 kd, .map (some mb)] 136 (0, 0)) ∧ MapAt w mb L
theorem ownsMap_at {H : Type} {P : Program} {k : TypeId} {R : Value → Option (DataW H × List MemPlace)} {w w' : World} {b n : Nat} {D : DataW H} (h : w.ownsMap P k R b n D) (he : w'.heap[b]? = w.heap[b]?) : w'.ownsMap P k R b n D := by
  obtain ⟨es, clock, hb, r⟩ := h
  exact ⟨es, clock, he.trans hb, r⟩
theorem ownsMap_tight {H : Type} {P : Program} {k : TypeId} {R : Value → Option (DataW H × List MemPlace)} {w : World} {b n : Nat} {D : DataW H} (h : w.ownsMap P k R b n D) : w.ownsMap P k R b (Maps.size D) D := by
  obtain ⟨es, clock, hb, hF, _, rfl⟩ := h
  exact ⟨es, clock, hb, hF, by simp [Maps.size, length_sorted], rfl⟩
theorem MapAt.same {w w' : World} {mb : Nat} {L : PL} (h : MapAt w mb L) (he : w'.heap[mb]? = w.heap[mb]?) : MapAt w' mb L := by
  obtain ⟨D, n, h1, h2⟩ := h
  exact ⟨D, n, ownsMap_at h1 he, h2⟩
theorem MapAt.block {w : World} {mb : Nat} {L : PL} (h : MapAt w mb L) : ∃ es clock, w.heap[mb]? = some (.map es clock) := by
  obtain ⟨D, n, ⟨es, clock, h1, _⟩, h2⟩ := h
  exact ⟨es, clock, h1⟩
theorem MapAt.lt {w : World} {mb : Nat} {L : PL} (h : MapAt w mb L) : mb < w.heap.size := by
  obtain ⟨es, clock, h1⟩ := h.block
  exact (Array.getElem?_eq_some_iff.1 h1).1
theorem MapAt.sorted {w : World} {mb : Nat} {L : PL} (h : MapAt w mb L) : SortedL L := by
  obtain ⟨D, n, h1, h2⟩ := h
  exact h2.1
theorem PanesAt.ne {w : World} {pb mb : Nat} {sz sl kd : Int} {L : PL} (h : PanesAt w pb mb sz sl kd L) : pb ≠ mb := by
  rintro rfl
  obtain ⟨es, clock, h1⟩ := h.2.block
  rw [h.1] at h1
  cases h1
theorem PanesAt.lt {w : World} {pb mb : Nat} {sz sl kd : Int} {L : PL} (h : PanesAt w pb mb sz sl kd L) : pb < w.heap.size := (Array.getElem?_eq_some_iff.1 h.1).1
theorem PanesAt.same {w w' : World} {pb mb : Nat} {sz sl kd : Int} {L : PL} (h : PanesAt w pb mb sz sl kd L) (h1 : w'.heap[pb]? = w.heap[pb]?) (h2 : w'.heap[mb]? = w.heap[mb]?) : PanesAt w' pb mb sz sl kd L :=
  ⟨h1.trans h.1, h.2.same h2⟩
theorem PanesAt.below {w w' : World} {B pb mb : Nat} {sz sl kd : Int} {L : PL} (h : PanesAt w pb mb sz sl kd L) (hb : Below B w w') (h1 : pb < B) (h2 : mb < B) : PanesAt w' pb mb sz sl kd L :=
  h.same (hb.block _ h1) (hb.block _ h2)
/-- Cells lie in no map's block. -/
theorem SlAt.mapped {α : Type} {c : Nat} {enc : α → List Value} (hc : ∀ x, (enc x).length = c) (c0 : 0 < c) {w w' : World} {a : Option Addr} {l : List α} {mb : Nat} (h : SlAt c (flat enc) w a l) (hm : ∃ es clock, w.heap[mb]? = some (.map es clock)) (hg : w.grownBy w' (some mb)) : SlAt c (flat enc) w' a l := by
  rcases h with h | ⟨b, o, rfl, hlt, h⟩
  · exact .inl h
  · by_cases hl : l = []
    · exact .inl hl
    · have h0 : 0 < l.length := List.length_pos_iff.2 hl
      have hne : b ≠ mb := by
        rintro rfl
        obtain ⟨es, clock, he⟩ := hm
        obtain ⟨cs, h1, h2, h3⟩ := h 0 h0
        have := h2 0 c0
        rw [List.getElem?_eq_getElem (by omega)] at this
        simp [World.cell?, he] at this
      have hb : w'.heap[b]? = w.heap[b]? := hg.block b hlt (fun e => hne (by cases e; rfl))
      refine .inr ⟨b, o, rfl, by have := hg.size; omega, fun i hi => ?_⟩
      obtain ⟨cs, h1, h2, h3⟩ := h i hi
      exact ⟨cs, h1, fun j hj => (World.cell?_of_block (w := w) hb).trans (h2 j hj), h3⟩
theorem grownBy_refl (w : World) (r : Option Nat) : w.grownBy w r := ⟨rfl, rfl, rfl, Nat.le_refl _, fun _ _ _ => rfl⟩
theorem grownBy_trans {a b c : World} {r : Option Nat} (h : a.grownBy b r) (k : b.grownBy c r) : a.grownBy c r :=
  ⟨k.os.trans h.os, k.tape.trans h.tape, k.output.trans h.output, Nat.le_trans h.size k.size, fun i hi hne => (k.block i (Nat.lt_of_lt_of_le hi h.size) hne).trans (h.block i hi hne)⟩
theorem grownBy_below {a b c : World} {r : Option Nat} {B : Nat} (h : a.grownBy b r) (k : Below B b c) (hB : a.heap.size ≤ B) : a.grownBy c r :=
  ⟨k.os.trans h.os, k.tape.trans h.tape, k.output.trans h.output, Nat.le_trans h.size k.size, fun i hi hne => (k.block i (by omega)).trans (h.block i hi hne)⟩
theorem below_grownBy {a b : World} {r : Option Nat} (h : Below a.heap.size a b) : a.grownBy b r := ⟨h.os, h.tape, h.output, h.size, fun k hk _ => h.block k hk⟩
def numOf : Value → Int | .int _ q => q | _ => 0
theorem panesNew_any (sz sl kd : Int) (w : World) :
    Calls Tryz.prog 88 #[.int .i64 sz, .int .i64 sl, .int .i64 kd] w fun e w' => ∃ pb mb, e = .returned (.pointer (some ⟨pb, 0, none⟩)) ∧ w.heap.size ≤ pb ∧ w.heap.size ≤ mb ∧ PanesAt w' pb mb sz sl kd [] ∧ Below w.heap.size w w' := by
  have hmk := @run_makeMap Tryz.prog
  go_enter Tryz.func88, Tryz.ntmps88
  go_wp2
  go_ret
  refine ⟨w.heap.size + 1, w.heap.size, rfl, by omega, by omega, ⟨?_, .map [], 0, ?_, MapOf.empty⟩, ?_⟩
  · exact new_at _ _ _ (by simp)
  · exact (World.ownsMap_made _ _ _ _).alloc _
  · exact ((Below.refl _ w).alloc (Nat.le_refl _) _).alloc (by simp) _
theorem pane_zero_run (w : World) : (zeroValue 211).run Tryz.prog w = .ok (encPn Pn.zero) w := by
  obtain ⟨i, h1, h2, _⟩ := paneInfo
  simp [zeroValue, typeInfo, h1, h2, encPn, Pn.zero]
theorem look_run {w : World} {mb : Nat} {L : PL} (h : MapAt w mb L) (p : Pl) : (Instr.lookup 134 (.map (some mb)) (encP p) true).run Tryz.prog w = .ok (.tuple #[encPn ((lookL L p).getD Pn.zero), .bool (lookL L p).isSome]) w := by
  obtain ⟨D, n, h1, h2⟩ := h
  obtain ⟨v, ps, hr, hv⟩ := h1.look_ok placeKeyed Tryz.underlying134 (pane_zero_run w) elemPn_zero (keyOf_place p)
  obtain ⟨x, rfl, hx, hz⟩ := elemPn_inv hv
  have hd := congrArg Prod.fst hz
  rw [h2.at_look p Pn.zero] at hd
  rw [hr, h2.has_look p, dPn_inj hd]
/-- A look at a window, at a step of a region that draws. -/
theorem step_look {w : World} {mb : Nat} {L : PL} (hM : MapAt w mb L) (p : Pl) {ops : Array Oper} {o : Oper} {a : Act} {K : Act → World → Prop} {Q : Exit → Act → World → Prop} {E : Prop} (hgd : o.guard = none) (m x : Operand)
    (ho : o.op = .lookup 134 m x true) (hm : a.eval m = .map (some mb)) (hx : a.eval x = encP p)
    (h : K (a.put o.dst (.tuple #[encPn ((lookL L p).getD Pn.zero), .bool (lookL L p).isSome])) w) : if Region.wanted o (yielded ops a.tmps) = true then Oper.wp Tryz.prog o a w K Q else E := by
  have hw : Region.wanted o (yielded ops a.tmps) = true := by simp [Region.wanted, hgd]
  rw [if_pos hw]
  unfold Oper.wp
  simp [execOp, ho, hm, hx, look_run hM p, Result.andThen]
  exact h
theorem update_run {w : World} {mb : Nat} {L : PL} (h : MapAt w mb L) (hN : L.length < 2 ^ 40) (p : Pl) (x : Pn) (hx : x.wf) : ∃ w', (Instr.mapUpdate 134 (.map (some mb)) (encP p) (encPn x)).run Tryz.prog w = .ok () w' ∧ MapAt w' mb (insL L p x) ∧ w.grownBy w' (some mb) := by
  obtain ⟨D, n, h1, h2⟩ := h
  have h3 := ownsMap_tight h1
  obtain ⟨w', hr, h4, h5⟩ := h3.update placeKeyed Tryz.underlying134 (by rw [h2.2.2.2]; unfold maxLen; omega) (keyOf_place p) (elemPn_mk x hx)
  exact ⟨w', hr, ⟨_, _, h4, h2.put (h1.tidy placeKeyed) p x⟩, h5⟩
theorem step_update {w : World} {mb : Nat} {L : PL} (hM : MapAt w mb L) (hN : L.length < 2 ^ 40) (p : Pl) (y : Pn) (hy : y.wf) {ops : Array Oper} {o : Oper} {a : Act} {K : Act → World → Prop} {Q : Exit → Act → World → Prop} {E : Prop} (hgd : o.guard = none) (m x v : Operand)
    (ho : o.op = .mapUpdate 134 m x v) (hm : a.eval m = .map (some mb)) (hx : a.eval x = encP p) (hv : a.eval v = encPn y)
    (h : ∀ w', MapAt w' mb (insL L p y) → w.grownBy w' (some mb) → K (a.put o.dst undef) w') : if Region.wanted o (yielded ops a.tmps) = true then Oper.wp Tryz.prog o a w K Q else E := by
  have hw : Region.wanted o (yielded ops a.tmps) = true := by simp [Region.wanted, hgd]
  rw [if_pos hw]
  obtain ⟨w', hr, h1, h2⟩ := update_run hM hN p y hy
  unfold Oper.wp
  simp [execOp, ho, hm, hx, hv, hr, Result.andThen]
  exact h w' h1 h2
theorem wpList_update {w : World} {mb : Nat} {L : PL} (hM : MapAt w mb L) (hN : L.length < 2 ^ 40) (p : Pl) (y : Pn) (hy : y.wf) {ops : Array Oper} {rest : List Oper} {o : Oper} {a : Act} {Q : Exit → Act → World → Prop} (hgd : o.guard = none) (m x v : Operand)
    (ho : o.op = .mapUpdate 134 m x v) (hm : a.eval m = .map (some mb)) (hx : a.eval x = encP p) (hv : a.eval v = encPn y)
    (h : ∀ w', MapAt w' mb (insL L p y) → w.grownBy w' (some mb) → wpList Tryz.prog ops Q rest (a.put o.dst undef) w') : wpList Tryz.prog ops Q (o :: rest) a w := by
  refine wpList_plain hgd fun K' hK' => ?_
  obtain ⟨w', hr, h1, h2⟩ := update_run hM hN p y hy
  unfold Oper.wp
  simp [execOp, ho, hm, hx, hv, hr, Result.andThen]
  exact hK' _ _ (h w' h1 h2)
theorem put_mid {kd sz sl : Int} (hkd : (Lit.int .i64 kd).wf = true) {es : List Ev} {N : Nat} {L : PL} (hw : ∀ e ∈ es, e.wf) (hG : GoodL kd sz sl N L) (hs : SortedL L) (hN : N + 8 * es.length < 2 ^ 40) (k : Nat) (hk : k < es.length) (ev : Ev) (he : ev.wf) (j : Nat) :
    GoodL kd sz sl (N + 8 * es.length) (((startsOf ev.time sz sl).take j).foldl (fun L s => putS kd L ev s) (putL kd sz sl L (es.take k))) ∧ SortedL (((startsOf ev.time sz sl).take j).foldl (fun L s => putS kd L ev s) (putL kd sz sl L (es.take k))) := by
  have h1 := GoodL.putL hkd (es.take k) N L (fun e h => hw e (List.mem_of_mem_take h)) hG hs (by rw [List.length_take]; omega)
  have hl := starts_len ev.time sz sl
  have hj : ((startsOf ev.time sz sl).take j).length ≤ 8 := by rw [List.length_take]; omega
  have hk' : (es.take k).length = k := by rw [List.length_take]; omega
  have h2 := GoodL.puts hkd he ((startsOf ev.time sz sl).take j) _ _ (fun s h => List.mem_of_mem_take h) h1.1 h1.2 (by omega)
  exact ⟨h2.1.mono (by omega), h2.2⟩
theorem starts_wf {t sz sl s : Int} (h : s ∈ startsOf t sz sl) : (Lit.int .i64 s).wf = true := by
  have := starts_range h
  exact WalkArith.wf_i64 (by omega)
end
/- Put -/
section
open Go.RowKit Go.Maps
set_option maxHeartbeats 2000000 in
set_option maxRecDepth 20000 in
theorem put_any (pb mb : Nat) (sz sl kd : Int) (L : PL) (N : Nat) (a : Option Addr) (cap : Nat) (es : List Ev) (w : World) (hP : PanesAt w pb mb sz sl kd L) (hG : GoodL kd sz sl N L) (hkd : (Lit.int .i64 kd).wf = true)
    (hes : SlAt 4 (flat Ev.cells) w a es) (hwf : ∀ e ∈ es, e.wf) (hN : N + 8 * es.length < 2 ^ 40) :
    Calls Tryz.prog 112 #[.pointer (some ⟨pb, 0, none⟩), .slice a es.length cap] w fun e w' => e = .returned (.tuple #[]) ∧ PanesAt w' pb mb sz sl kd (putL kd sz sl L es) ∧ w.grownBy w' (some mb) := by
  have hne := hP.ne
  have hlt := hP.lt
  have hml := hP.2.lt
  have HP := Lib.hid hP
  have HE := Lib.hid hes
  have HW := Lib.hid hwf
  have HG := Lib.hid hG
  have hlen : es.length < 2 ^ 37 := by omega
  clear hP hes hwf hG
  go_enter Tryz.func112, Tryz.ntmps112
  go_wp2
  go_loopw [13] (fun iv wr => ∃ k : Nat, k ≤ es.length ∧ iv = .int .i64 k ∧ PanesAt wr pb mb sz sl kd (putL kd sz sl L (es.take k)) ∧ w.grownBy wr (some mb)) (fun iv _ => es.length - (numOf iv).toNat)
  case atStart => exact ⟨0, by omega, rfl, by simpa [putL] using HP.out, grownBy_refl _ _⟩
  case round =>
    obtain ⟨k, hk, rfl, hP, hgr⟩ := hrel
    have hpr := hP.lt
    have hmr := hP.2.lt
    have hp0 : wr.cell? ⟨pb, 0, none⟩ = some (.int .i64 sz) := by simp [World.cell?, hP.1]
    have hp1 : wr.cell? ⟨pb, 1, none⟩ = some (.int .i64 sl) := by simp [World.cell?, hP.1]
    have hsz := hgr.size
    have HPr := Lib.hid hP
    have HGR := Lib.hid hgr
    clear hP hgr
    by_cases hlt : (k : Int) < es.length
    · have hkl : k < es.length := by omega
      obtain ⟨b, o, rfl, hbl, c0, c1, c2, c3⟩ := (HE.out.mapped Ev.len (by omega) HP.out.2.block HGR.out).evAt k hkl
      have hew := HW.out _ (List.getElem_mem hkl)
      have hev : es.take (k + 1) = es.take k ++ [es[k]?.getD Ev.zero] := by rw [List.take_add_one, List.getElem?_eq_getElem hkl]; rfl
      rw [List.getElem?_eq_getElem hkl] at c0 c1 c2 c3 hev
      simp only [Option.getD_some] at c0 c1 c2 c3 hev
      generalize es[k] = ev at *
      have HEW := Lib.hid hew
      have HEV := Lib.hid hev
      clear hew hev
      go_wp2
      obtain ⟨w1, hw1⟩ : ∃ x, x = wr.alloc (.cells #[.int .i64 ev.time, .int .i64 ev.key, .int .i64 ev.value, .int .u64 ev.label] 63) := ⟨_, rfl⟩
      rw [← hw1]
      have hb1 : Below wr.heap.size wr w1 := by rw [hw1]; exact (Below.refl _ wr).alloc (Nat.le_refl _) _
      have hs1 : w1.heap.size = wr.heap.size + 1 := by rw [hw1]; simp
      have hv1 : w1.heap[wr.heap.size]? = some (.cells #[.int .i64 ev.time, .int .i64 ev.key, .int .i64 ev.value, .int .u64 ev.label] 63 (0, 0)) := by rw [hw1]; exact new_at _ _ _ rfl
      have hP1 := HPr.out.below hb1 hpr hmr
      have hgr1 := grownBy_trans HGR.out (below_grownBy hb1)
      clear hw1 c0 c1 c2 c3 hp0 hp1 HPr HGR
      generalize wr.heap.size = g at *
      have q0 : w1.cell? ⟨pb, 0, none⟩ = some (.int .i64 sz) := by simp [World.cell?, hP1.1]
      have q1 : w1.cell? ⟨pb, 1, none⟩ = some (.int .i64 sl) := by simp [World.cell?, hP1.1]
      have v0 : w1.cell? ⟨g, 0, none⟩ = some (.int .i64 ev.time) := by simp [World.cell?, hv1]
      have HV1 := Lib.hid hv1
      have HP1 := Lib.hid hP1
      have HGR1 := Lib.hid hgr1
      clear hv1 hP1 hgr1 hb1
      go_region_held3 (fun w' => w'.cell? ⟨pb, 0, none⟩ = some (.int .i64 sz) ∧ w'.cell? ⟨pb, 1, none⟩ = some (.int .i64 sl) ∧ w'.cell? ⟨g, 0, none⟩ = some (.int .i64 ev.time)) (first | exact ⟨q0, q1, v0⟩ | exact ⟨(hb2.cell (p := ⟨pb, 0, none⟩) (by simp only [World.size_drew, hs1]; omega)).trans q0, (hb2.cell (p := ⟨pb, 1, none⟩) (by simp only [World.size_drew, hs1]; omega)).trans q1, (hb2.cell (p := ⟨g, 0, none⟩) (by simp only [World.size_drew, hs1]; omega)).trans v0⟩) (first | (go_at_call 130; refine (starts_any _ _ _ _).mono ?_; rintro e w2 ⟨v, rfl, hown, hb2⟩; obtain ⟨a2, cap2, rfl, hle, hmx, hnil, hblk, hss⟩ := slAt_of_own (intC_len _) hown))
      have hs2 := hb2.size
      simp only [World.size_drew] at hs2 hblk hown hb2
      have hP2 := HP1.out.below (w' := w2) (B := g + 1) (Below.trans (by go_grown) (hs1 ▸ hb2)) (by omega) (by omega)
      have hg2 := grownBy_trans HGR1.out (below_grownBy (b := w2) (Below.trans (by go_grown) hb2))
      have hv2 : w2.heap[g]? = some (.cells #[.int .i64 ev.time, .int .i64 ev.key, .int .i64 ev.value, .int .u64 ev.label] 63 (0, 0)) := (hb2.block g (by omega)).trans HV1.out
      have hE : putL kd sz sl L (es.take (k + 1)) = (startsOf ev.time sz sl).foldl (fun L s => putS kd L ev s) (putL kd sz sl L (es.take k)) := by
        rw [HEV.out]; simp [putL, putE]
      have hMid := put_mid hkd HW.out HG.out HP.out.2.sorted (by omega) k hkl ev HEW.out
      have hSw : ∀ s ∈ startsOf ev.time sz sl, (Lit.int .i64 s).wf = true := fun s h => starts_wf h
      have hS8 := starts_len ev.time sz sl
      have HSS := Lib.hid hss
      rename_i hHeld
      clear hHeld hss hown
      generalize startsOf ev.time sz sl = S at *
      have HE' := Lib.hid hE
      have HMid := Lib.hid hMid
      have HSW := Lib.hid hSw
      have HG2 := Lib.hid hg2
      have HV2 := Lib.hid hv2
      have HP2 := Lib.hid hP2
      clear hE hMid hSw hg2 hv2 hP2 q0 q1 v0 HV1 HP1 HGR1 hb2
      go_wp2
      go_loopw [29] (fun jv wx => ∃ j : Nat, j ≤ S.length ∧ jv = .int .i64 j ∧ PanesAt wx pb mb sz sl kd ((S.take j).foldl (fun L s => putS kd L ev s) (putL kd sz sl L (es.take k))) ∧ w2.grownBy wx (some mb)) (fun jv _ => S.length - (numOf jv).toNat)
      case atStart => exact ⟨0, by omega, rfl, HP2.out, grownBy_refl _ _⟩
      case round =>
        obtain ⟨j, hj, rfl, hPx, hgx⟩ := hrel
        have hMj := HMid.out j
        have hMs : (S.take (j + 1)).foldl (fun L s => putS kd L ev s) (putL kd sz sl L (es.take k)) = putS kd ((S.take j).foldl (fun L s => putS kd L ev s) (putL kd sz sl L (es.take k))) ev (S[j]?.getD 0) ∨ S.length ≤ j := by
          by_cases h : j < S.length
          · left
            rw [List.take_add_one, List.getElem?_eq_getElem h, Option.toList_some, List.foldl_append]
            rfl
          · right; omega
        have hMe : S.length ≤ j → (S.take j).foldl (fun L s => putS kd L ev s) (putL kd sz sl L (es.take k)) = S.foldl (fun L s => putS kd L ev s) (putL kd sz sl L (es.take k)) := fun h => by rw [List.take_of_length_le h]
        generalize hM : (S.take j).foldl (fun L s => putS kd L ev s) (putL kd sz sl L (es.take k)) = M at *
        have hgs := hgx.size
        have HPX := Lib.hid hPx
        have HGX := Lib.hid hgx
        have HMJ := Lib.hid hMj
        have HMS := Lib.hid hMs
        have HME := Lib.hid hMe
        clear hPx hgx hMj hMs hMe hM
        by_cases hjl : (j : Int) < S.length
        · have hjn : j < S.length := by omega
          obtain ⟨sb, so, rfl, hsb, d0⟩ := (HSS.out.mapped (intC_len _) (by omega) HP2.out.2.block HGX.out).intAt j hjn
          have hsw := HSW.out S[j] (List.getElem_mem hjn)
          have hms := HMS.out.resolve_right (by omega)
          rw [List.getElem?_eq_getElem hjn] at d0 hms
          simp only [Option.getD_some] at d0 hms
          generalize S[j] = s at *
          have hvx : wr.heap[g]? = some (.cells #[.int .i64 ev.time, .int .i64 ev.key, .int .i64 ev.value, .int .u64 ev.label] 63 (0, 0)) := (HGX.out.block g (by omega) (by simp; omega)).trans HV2.out
          have e1 : wr.cell? ⟨g, 1, none⟩ = some (.int .i64 ev.key) := by simp [World.cell?, hvx]
          have HSW1 := Lib.hid hsw
          have HMS1 := Lib.hid hms
          have HVX := Lib.hid hvx
          clear hsw hms hvx
          have hgw : g < wr.heap.size := by omega
          go_wp2
          obtain ⟨w3, hw3⟩ : ∃ x, x = wr.alloc (.cells #[.int .i64 s, .int .i64 ev.key] 196) := ⟨_, rfl⟩
          rw [← hw3]
          have hb3 : Below wr.heap.size wr w3 := by rw [hw3]; exact (Below.refl _ wr).alloc (Nat.le_refl _) _
          have hs3 : w3.heap.size = wr.heap.size + 1 := by rw [hw3]; simp
          have hp3 : w3.heap[wr.heap.size]? = some (.cells #[.int .i64 s, .int .i64 ev.key] 196 (0, 0)) := by rw [hw3]; exact new_at _ _ _ rfl
          have hP3 := HPX.out.below hb3 (by omega) (by omega)
          have hg3 := grownBy_trans HGX.out (below_grownBy hb3)
          have hv3 := (hb3.block g hgw).trans HVX.out
          clear hw3 d0 e1 HPX HGX HVX hb3
          generalize wr.heap.size = gp at *
          have m0 : w3.cell? ⟨pb, 3, none⟩ = some (.map (some mb)) := by simp [World.cell?, hP3.1]
          have m1 : w3.cell? ⟨gp, 0, none⟩ = some (.int .i64 s) := by simp [World.cell?, hp3]
          have m2 : w3.cell? ⟨gp, 1, none⟩ = some (.int .i64 ev.key) := by simp [World.cell?, hp3]
          have HM3 := Lib.hid hP3.2
          have HP3 := Lib.hid hP3
          have HG3 := Lib.hid hg3
          have HV3 := Lib.hid hv3
          have HPL := Lib.hid hp3
          clear hP3 hg3 hv3 hp3
          have hlk := look_run (w := w3.drew) (HM3.out.same rfl) ⟨(s, ev.key), HSW1.out, HEW.out.2.1⟩
          have hlk2 := look_run (w := (w3.alloc (.cells #[.int .i64 0, .int .i64 0, .int .i64 0, .int .u64 0] 211)).drew) (HM3.out.same (((Below.refl _ w3).alloc (Nat.le_refl _) _).block mb (by omega))) ⟨(s, ev.key), HSW1.out, HEW.out.2.1⟩
          simp only [encP] at hlk hlk2
          have hpl : plOf s ev.key = ⟨(s, ev.key), HSW1.out, HEW.out.2.1⟩ := plOf_val HSW1.out HEW.out.2.1
          rw [← hpl] at hlk hlk2
          have hgd := getD_each HMJ.out.1 HMJ.out.2 hkd (plOf s ev.key)
          obtain ⟨x, hx⟩ : ∃ x, x = (lookL M (plOf s ev.key)).getD ⟨0, kd, 0, 0⟩ := ⟨_, rfl⟩
          obtain ⟨y, hy⟩ : ∃ y, y = (lookL M (plOf s ev.key)).getD Pn.zero := ⟨_, rfl⟩
          obtain ⟨ok, hok⟩ : ∃ ok, ok = (lookL M (plOf s ev.key)).isSome := ⟨_, rfl⟩
          have hcase : (ok = true ∧ y = x) ∨ (ok = false ∧ y = ⟨0, 0, 0, 0⟩ ∧ x = ⟨0, kd, 0, 0⟩) := by
            rw [hok, hy, hx]
            cases lookL M (plOf s ev.key)
            · exact .inr ⟨rfl, rfl, rfl⟩
            · exact .inl ⟨rfl, rfl⟩
          rw [← hy, ← hok] at hlk hlk2
          rw [← hx] at hgd
          have HX := Lib.hid hx
          have HGD := Lib.hid hgd
          have HCASE := Lib.hid hcase
          have HPLO := Lib.hid hpl
          clear hx hy hok hgd hcase hpl
          obtain ⟨yc, yk, yv, yl⟩ := y
          simp only [encPn] at hlk hlk2
          go_cut [9, 10] from 37 to 45 (fun u v wx => u = .pointer (some ⟨gp + 1, 0, none⟩) ∧ v = .bool ok ∧ wx.heap[gp + 1]? = some (.cells #[.int .i64 yc, .int .i64 yk, .int .i64 yv, .int .u64 yl] 211 (0, 0)) ∧ Below w3.heap.size w3 wx)
          case first =>
            go_region_held3 (fun w' => w'.heap[mb]? = w3.heap[mb]? ∧ w'.cell? ⟨pb, 3, none⟩ = some (.map (some mb)) ∧ w'.cell? ⟨gp, 0, none⟩ = some (.int .i64 s) ∧ w'.cell? ⟨gp, 1, none⟩ = some (.int .i64 ev.key)) (first | exact ⟨rfl, m0, m1, m2⟩ | assumption | exact ⟨Below.block (B := w3.heap.size) (w := w3) (by go_grown) mb (by omega), (Below.cell (B := w3.heap.size) (w := w3) (p := ⟨pb, 3, none⟩) (by go_grown) (by simp only []; omega)).trans m0, (Below.cell (B := w3.heap.size) (w := w3) (p := ⟨gp, 0, none⟩) (by go_grown) (by simp only []; omega)).trans m1, (Below.cell (B := w3.heap.size) (w := w3) (p := ⟨gp, 1, none⟩) (by go_grown) (by simp only []; omega)).trans m2⟩) (fail)
            all_goals
              go_wp2
              go_meet
              exact ⟨rfl, rfl, new_at _ _ _ hs3.symm, by go_grown⟩
          case rest =>
            obtain ⟨rfl, rfl, hy4, hb4⟩ := hcut
            have hs4 := (Array.getElem?_eq_some_iff.1 hy4).1
            have HY4 := Lib.hid hy4
            have HB4 := Lib.hid hb4
            clear hy4 hb4 hlk hlk2 m0 m1 m2
            generalize wc = w4 at *
            have hP4 := HP3.out.below HB4.out (by omega) (by omega)
            have k4 : w4.cell? ⟨pb, 2, none⟩ = some (.int .i64 kd) := by simp [World.cell?, hP4.1]
            have hgv4 := (HB4.out.block g (by omega)).trans HV3.out
            have hpl4 := (HB4.out.block gp (by omega)).trans HPL.out
            have HP4 := Lib.hid hP4
            have HV4 := Lib.hid hgv4
            have HPL4 := Lib.hid hpl4
            have HG4 := Lib.hid (grownBy_trans HG3.out (below_grownBy HB4.out))
            have hne4 : pb ≠ gp + 1 := by omega
            have hmn4 : mb ≠ gp + 1 := by omega
            clear hP4 hgv4 hpl4 HP3 HV3 HPL HG3 HM3
            go_upto_if 47 with fail
            go_cut [] from 46 to 53 (fun wx => wx.heap[gp + 1]? = some (.cells #[.int .i64 x.c, .int .i64 x.k, .int .i64 x.v, .int .u64 x.l] 211 (0, 0)) ∧ Below (gp + 1) w4 wx)
            case first =>
              rcases HCASE.out with ⟨rfl, hyx⟩ | ⟨rfl, hyx, hxx⟩
              · go_wp2
                go_meet
                have := HY4.out
                subst hyx
                exact ⟨this, Below.refl _ _⟩
              · subst hxx
                simp at hyx
                obtain ⟨rfl, rfl, rfl, rfl⟩ := hyx
                have hy4 := HY4.out
                have y0 : w4.cell? ⟨gp + 1, 0, none⟩ = some (.int .i64 0) := by simp [World.cell?, hy4]
                have y1 : w4.cell? ⟨gp + 1, 1, none⟩ = some (.int .i64 0) := by simp [World.cell?, hy4]
                have y2 : w4.cell? ⟨gp + 1, 2, none⟩ = some (.int .i64 0) := by simp [World.cell?, hy4]
                have z0 : w4.frozen? ⟨gp + 1, 0, none⟩ = false := by simp [World.frozen?, hy4]
                have z1 : w4.frozen? ⟨gp + 1, 1, none⟩ = false := by simp [World.frozen?, hy4]
                have z2 : w4.frozen? ⟨gp + 1, 2, none⟩ = false := by simp [World.frozen?, hy4]
                go_wp2_with (go_at_call 70; refine (aggNew_any _ _).mono ?_; rintro e w' ⟨rfl, rfl⟩)
                go_meet
                refine ⟨Eq.trans (((Below.refl _ _).alloc (Nat.le_refl _) _).block (gp + 1) (by simp; omega)) (heap_setCell_row (heap_setCell_row (heap_setCell_row hy4 0 _) 1 _) 2 _), by go_grown⟩
            case rest =>
              obtain ⟨hx5, hb5⟩ := hcut
              have hP5 := HP4.out.below hb5 (by omega) (by omega)
              have hs5 := (Array.getElem?_eq_some_iff.1 hx5).1
              have p3 : wc.cell? ⟨pb, 3, none⟩ = some (.map (some mb)) := by simp [World.cell?, hP5.1]
              have hg5 := (hb5.block g (by omega)).trans HV4.out
              have hp5 := (hb5.block gp (by omega)).trans HPL4.out
              have x0 : wc.cell? ⟨gp + 1, 0, none⟩ = some (.int .i64 x.c) := by simp [World.cell?, hx5]
              have x1 : wc.cell? ⟨gp + 1, 1, none⟩ = some (.int .i64 x.k) := by simp [World.cell?, hx5]
              have x2 : wc.cell? ⟨gp + 1, 2, none⟩ = some (.int .i64 x.v) := by simp [World.cell?, hx5]
              have x3 : wc.cell? ⟨gp + 1, 3, none⟩ = some (.int .u64 x.l) := by simp [World.cell?, hx5]
              have z0 : wc.frozen? ⟨gp + 1, 0, none⟩ = false := by simp [World.frozen?, hx5]
              have z2 : wc.frozen? ⟨gp + 1, 2, none⟩ = false := by simp [World.frozen?, hx5]
              have z3 : wc.frozen? ⟨gp + 1, 3, none⟩ = false := by simp [World.frozen?, hx5]
              have v2 : wc.cell? ⟨g, 2, none⟩ = some (.int .i64 ev.value) := by simp [World.cell?, hg5]
              have v3 : wc.cell? ⟨g, 3, none⟩ = some (.int .u64 ev.label) := by simp [World.cell?, hg5]
              have l0 : wc.cell? ⟨gp, 0, none⟩ = some (.int .i64 s) := by simp [World.cell?, hp5]
              have l1 : wc.cell? ⟨gp, 1, none⟩ = some (.int .i64 ev.key) := by simp [World.cell?, hp5]
              have hgp : gp < wc.heap.size := by omega
              have hgg : g < wc.heap.size := by omega
              have hgb : pb < wc.heap.size := by omega
              have HP5 := Lib.hid hP5
              have HB5 := Lib.hid hb5
              have xc0 := HGD.out.1
              have xc1 : x.c < 2 ^ 60 := by have := HGD.out.2.1; omega
              have HX5 := Lib.hid hx5
              clear hP5 hb5 hx5 hg5 hp5
              go_upto_region 12 with (first | (go_at_call 131; refine (add_one (gp + 1) 0 x.k x.c x.v ev.value wc.heap.size _ xc0 xc1 (by simp [go_sem, hs5, x0]) (by simp [go_sem, hs5, x1]) (by simp [go_sem, hs5, x2]) (by simp [go_sem, hs5, z0]) (by simp [go_sem, hs5, z2]) (by simp [go_sem])).mono ?_; rintro e w' ⟨rfl, rfl⟩) | (go_at_call 116; refine (join_two x.l ev.label _ _ (by simp [go_sem]) (by simp [go_sem])).mono ?_; rintro e w' ⟨rfl, rfl⟩))
              obtain ⟨w5, hw5⟩ : ∃ y, y = ((((wc.setCell ⟨gp + 1, 2, none⟩ (.int .i64 (takeV x.k x.c x.v ev.value 1))).setCell ⟨gp + 1, 0, none⟩ (.int .i64 (x.c + 1))).setCell ⟨gp + 1, 3, none⟩ (.int .u64 (bits .or .u64 (bits .or .u64 0 x.l) ev.label))).alloc (.cells #[.int .i64 ev.value] 3)).alloc (.cells #[.int .u64 x.l, .int .u64 ev.label] 53) := ⟨_, rfl⟩
              rw [← hw5]
              have hb6 : Below (gp + 1) wc w5 := by rw [hw5]; go_grown
              have hx6 : w5.heap[gp + 1]? = some (.cells #[.int .i64 (x.c + 1), .int .i64 x.k, .int .i64 (takeV x.k x.c x.v ev.value 1), .int .u64 (bits .or .u64 (bits .or .u64 0 x.l) ev.label)] 211 (0, 0)) := by
                rw [hw5]
                exact Eq.trans ((((Below.refl _ _).alloc (Nat.le_refl _) _).alloc (by simp) _).block (gp + 1) (by simp; omega)) (heap_setCell_row (heap_setCell_row (heap_setCell_row HX5.out 2 _) 0 _) 3 _)
              have t0 : w5.cell? ⟨gp + 1, 0, none⟩ = some (.int .i64 (x.c + 1)) := by simp [World.cell?, hx6]
              have t1 : w5.cell? ⟨gp + 1, 1, none⟩ = some (.int .i64 x.k) := by simp [World.cell?, hx6]
              have t2 : w5.cell? ⟨gp + 1, 2, none⟩ = some (.int .i64 (takeV x.k x.c x.v ev.value 1)) := by simp [World.cell?, hx6]
              have t3 : w5.cell? ⟨gp + 1, 3, none⟩ = some (.int .u64 (bits .or .u64 (bits .or .u64 0 x.l) ev.label)) := by simp [World.cell?, hx6]
              rw [or_zero HGD.out.2.2.2.2.2.2] at t3
              clear hw5 hx6 x0 x1 x2 x3 z0 z2 z3 v2 v3
              have r0 := (hb6.cell (p := ⟨gp, 0, none⟩) (by show gp < _; omega)).trans l0
              have r1 := (hb6.cell (p := ⟨gp, 1, none⟩) (by show gp < _; omega)).trans l1
              have r2 := (hb6.cell (p := ⟨pb, 3, none⟩) (by show pb < _; omega)).trans p3
              have hP6 := HP5.out.below hb6 (by omega) (by omega)
              have HP6 := Lib.hid hP6
              have HB6 := Lib.hid hb6
              clear hP6 hb6 l0 l1 p3
              refine region_tail 6 (by kernel_rfl) (by kernel_rfl) ?_
              simp only [List.take_succ_cons, List.take_zero, List.drop_succ_cons, List.drop_zero]
              repeat still_step
              refine wpStill_nil ?_
              refine wpList_update (w := w5.drew) (HP6.out.2.same rfl) (by have := HMJ.out.1.len; omega) ⟨(s, ev.key), HSW1.out, HEW.out.2.1⟩ (stepPn x ev.value ev.label) (stepPn_wf HGD.out.2.2.2 HEW.out.2.2.1 xc0 (by have := HGD.out.2.1; omega)) rfl _ _ _ rfl rfl rfl rfl ?_
              intro w7 hm7 hg7
              have hg7' : w5.grownBy w7 (some mb) := ⟨hg7.os, hg7.tape, hg7.output, hg7.size, hg7.block⟩
              have HG58 := Lib.hid (grownBy_trans (grownBy_below (grownBy_below HG4.out HB5.out (by omega)) HB6.out (by omega)) hg7')
              have hP7 : PanesAt w7 pb mb sz sl kd (putS kd M ev s) := by
                refine ⟨(hg7.block pb (by have := HB6.out.size; show pb < w5.heap.size; omega) (by simp; omega)).trans HP6.out.1, ?_⟩
                unfold putS
                rw [HPLO.out, ← HPLO.out, ← HX.out, HPLO.out]
                exact hm7
              have hg8 : w2.grownBy w7 (some mb) := HG58.out
              go_wp2
              exact ⟨⟨j + 1, by omega, by simp, by rw [HMS1.out]; exact hP7, hg8⟩, by simp [numOf]; omega⟩
        · go_wp2
          have hP' := HPX.out
          rw [HME.out (by omega), ← HE'.out] at hP'
          exact ⟨⟨k + 1, by omega, by simp, hP', grownBy_trans HG2.out HGX.out⟩, by simp [numOf]; omega⟩
    · go_wp2
      go_end0
      have hke : k = es.length := by omega
      subst hke
      have hP := HPr.out
      rw [List.take_length] at hP
      exact ⟨rfl, hP, HGR.out⟩
end
/- Close -/
section
open Go.RowKit Go.Maps
set_option maxRecDepth 20000 in
theorem places_any (pb mb : Nat) (sz sl kd : Int) (L : PL) (w : World) (hP : PanesAt w pb mb sz sl kd L) (hN : L.length ≤ 2 ^ 40) :
    Calls Tryz.prog 113 #[.pointer (some ⟨pb, 0, none⟩)] w fun e w' => ∃ (a : Option Addr) (cap : Nat), e = .returned (.slice a L.length cap) ∧ L.length ≤ cap ∧ cap ≤ maxLen ∧ (a = none → cap = 0) ∧ SlAt 2 (flat cellsP) w' a (L.map (·.1)) ∧ (∀ b o, a = some ⟨b, o, none⟩ → w.heap.size ≤ b) ∧ Below w.heap.size w w' := by
  obtain ⟨D, n, hown, hD⟩ := hP.2
  have hlt := hP.lt
  have hml := hP.2.lt
  have m0 : w.cell? ⟨pb, 3, none⟩ = some (.map (some mb)) := by simp [World.cell?, hP.1]
  have hsz : Maps.size D ≤ 2 ^ 40 := by rw [hD.2.2.2]; exact hN
  have hC : ∀ ss, PlacesOf D ss → ss.length ≤ 2 ^ 40 := fun ss h => by rw [hD.places_len h]; exact hN
  have HO := Lib.hid hown
  have HD := Lib.hid hD
  have HC := Lib.hid hC
  clear hown hD hP hC
  go_enter Tryz.func113, Tryz.ntmps113
  go_wp2_with (first
    | (go_at_call 133; refine (keys_any _ _).mono ?_; rintro e w1 ⟨rfl, rfl⟩)
    | (go_at_call 132; refine (sorted_places w.heap.size mb n D _ (by simp) (by simp [go_sem]) (HO.out.alloc _) hsz HC.out).mono ?_; rintro e w2 ⟨a, cap, ss, rfl, hp, hs, hcap, hmax, hnil, hss, hblk, hb⟩))
  go_ret
  have e : ss = L.map (·.1) := HD.out.places hp hs
  subst e
  rw [List.length_map] at hcap ⊢
  exact ⟨a, cap, rfl, hcap, hmax, hnil, hss, fun b o h => by have := hblk b o h; simp at this; omega, Below.trans (by go_grown) (hb.mono (by simp))⟩
def rowOf (p : Pl) (x : Pn) : Rw := ⟨p.1.1, p.1.2, x.v, x.c, x.l⟩
theorem look1_run {w : World} {mb : Nat} {L : PL} (h : MapAt w mb L) (p : Pl) : (Instr.lookup 134 (.map (some mb)) (encP p) false).run Tryz.prog w = .ok (encPn ((lookL L p).getD Pn.zero)) w := by
  obtain ⟨D, n, h1, h2⟩ := h
  obtain ⟨v, ps, hr, hv⟩ := h1.lookup placeKeyed Tryz.underlying134 (pane_zero_run w) elemPn_zero (keyOf_place p)
  obtain ⟨x, rfl, hx, hz⟩ := elemPn_inv hv
  have hd := congrArg Prod.fst hz
  rw [h2.at_look p Pn.zero] at hd
  rw [hr, dPn_inj hd]
theorem row_any (pb mb : Nat) (sz sl kd : Int) (L : PL) (p : Pl) (w : World) (hP : PanesAt w pb mb sz sl kd L) :
    Calls Tryz.prog 114 #[.pointer (some ⟨pb, 0, none⟩), encP p] w fun e w' => e = .returned (.agg (rowOf p ((lookL L p).getD Pn.zero)).cells.toArray) ∧ Below w.heap.size w w' := by
  have hlt := hP.lt
  have hml := hP.2.lt
  have m0 : w.cell? ⟨pb, 3, none⟩ = some (.map (some mb)) := by simp [World.cell?, hP.1]
  have HP := Lib.hid hP
  clear hP
  obtain ⟨⟨a, b⟩, ha, hb⟩ := p
  simp only [encP]
  go_enter Tryz.func114, Tryz.ntmps114
  go_wp2
  obtain ⟨w1, hw1⟩ : ∃ y, y = ((w.alloc (.cells #[.int .i64 a, .int .i64 b] 196)).alloc (.cells #[.int .i64 0, .int .i64 0, .int .i64 0, .int .i64 0, .int .u64 0] 55)) := ⟨_, rfl⟩
  rw [← hw1]
  have hb1 : Below w.heap.size w w1 := by rw [hw1]; go_grown
  have hs1 : w1.heap.size = w.heap.size + 2 := by rw [hw1]; simp
  have m1 : w1.cell? ⟨pb, 3, none⟩ = some (.map (some mb)) := (hb1.cell (p := ⟨pb, 3, none⟩) hlt).trans m0
  have hp1 : w1.heap[w.heap.size]? = some (.cells #[.int .i64 a, .int .i64 b] 196 (0, 0)) := by
    rw [hw1]; exact ((((Below.refl _ _).alloc (Nat.le_refl _) _).block w.heap.size (by simp))).trans (new_at _ _ _ rfl)
  have hr1 : w1.heap[w.heap.size + 1]? = some (.cells #[.int .i64 0, .int .i64 0, .int .i64 0, .int .i64 0, .int .u64 0] 55 (0, 0)) := by
    rw [hw1]; exact new_at _ _ _ (by simp)
  have q0 : w1.cell? ⟨w.heap.size, 0, none⟩ = some (.int .i64 a) := by simp [World.cell?, hp1]
  have q1 : w1.cell? ⟨w.heap.size, 1, none⟩ = some (.int .i64 b) := by simp [World.cell?, hp1]
  have HP1 := Lib.hid (HP.out.below hb1 hlt hml)
  have hlk := look1_run (w := w1.drew) (HP1.out.2.same rfl) ⟨(a, b), ha, hb⟩
  have hlk2 := look1_run (w := (w1.alloc (.cells #[.int .i64 0, .int .i64 0, .int .i64 0, .int .u64 0] 211)).drew) (HP1.out.2.same (((Below.refl _ w1).alloc (Nat.le_refl _) _).block mb (by omega))) ⟨(a, b), ha, hb⟩
  obtain ⟨y, hy⟩ : ∃ y, y = (lookL L ⟨(a, b), ha, hb⟩).getD Pn.zero := ⟨_, rfl⟩
  rw [← hy] at hlk hlk2
  have HYY := Lib.hid hy
  clear hy
  obtain ⟨yc, yk, yv, yl⟩ := y
  simp only [encPn, encP] at hlk hlk2
  have HB1 := Lib.hid hb1
  have HR1 := Lib.hid hr1
  have HQ1 := Lib.hid hp1
  clear hw1 hb1 hp1 hr1 m0
  generalize hg : w.heap.size = g at *
  have HGG := Lib.hid hg
  clear hg
  go_cut [5] from 5 to 11 (fun u wx => u = .pointer (some ⟨g + 2, 0, none⟩) ∧ wx.heap[g + 2]? = some (.cells #[.int .i64 yc, .int .i64 yk, .int .i64 yv, .int .u64 yl] 211 (0, 0)) ∧ Below w1.heap.size w1 wx)
  case first =>
    go_region_held3 (fun w' => w'.heap[mb]? = w1.heap[mb]? ∧ w'.cell? ⟨pb, 3, none⟩ = some (.map (some mb)) ∧ w'.cell? ⟨g, 0, none⟩ = some (.int .i64 a) ∧ w'.cell? ⟨g, 1, none⟩ = some (.int .i64 b)) (first | exact ⟨rfl, m1, q0, q1⟩ | assumption | exact ⟨Below.block (B := w1.heap.size) (w := w1) (by go_grown) mb (by omega), (Below.cell (B := w1.heap.size) (w := w1) (p := ⟨pb, 3, none⟩) (by go_grown) (by show pb < _; omega)).trans m1, (Below.cell (B := w1.heap.size) (w := w1) (p := ⟨g, 0, none⟩) (by go_grown) (by show g < _; omega)).trans q0, (Below.cell (B := w1.heap.size) (w := w1) (p := ⟨g, 1, none⟩) (by go_grown) (by show g < _; omega)).trans q1⟩) (fail)
    all_goals
      go_wp2
      go_meet
      exact ⟨rfl, new_at _ _ _ hs1.symm, by go_grown⟩
  case rest =>
    obtain ⟨rfl, hx, hb2⟩ := hcut
    have hs2 := (Array.getElem?_eq_some_iff.1 hx).1
    have hr2 := (hb2.block (g + 1) (by omega)).trans HR1.out
    have hq2 := (hb2.block g (by omega)).trans HQ1.out
    have x0 : wc.cell? ⟨g + 2, 0, none⟩ = some (.int .i64 yc) := by simp [World.cell?, hx]
    have x2 : wc.cell? ⟨g + 2, 2, none⟩ = some (.int .i64 yv) := by simp [World.cell?, hx]
    have x3 : wc.cell? ⟨g + 2, 3, none⟩ = some (.int .u64 yl) := by simp [World.cell?, hx]
    have c0 : wc.cell? ⟨g + 1, 0, none⟩ = some (.int .i64 0) := by simp [World.cell?, hr2]
    have f0 : wc.frozen? ⟨g + 1, 0, none⟩ = false := by simp [World.frozen?, hr2]
    have c1 : wc.cell? ⟨g + 1, 1, none⟩ = some (.int .i64 0) := by simp [World.cell?, hr2]
    have f1 : wc.frozen? ⟨g + 1, 1, none⟩ = false := by simp [World.frozen?, hr2]
    have c2 : wc.cell? ⟨g + 1, 2, none⟩ = some (.int .i64 0) := by simp [World.cell?, hr2]
    have f2 : wc.frozen? ⟨g + 1, 2, none⟩ = false := by simp [World.frozen?, hr2]
    have c3 : wc.cell? ⟨g + 1, 3, none⟩ = some (.int .i64 0) := by simp [World.cell?, hr2]
    have f3 : wc.frozen? ⟨g + 1, 3, none⟩ = false := by simp [World.frozen?, hr2]
    have c4 : wc.cell? ⟨g + 1, 4, none⟩ = some (.int .u64 0) := by simp [World.cell?, hr2]
    have f4 : wc.frozen? ⟨g + 1, 4, none⟩ = false := by simp [World.frozen?, hr2]
    have hs3 : g + 1 < wc.heap.size := by omega
    have z0 : wc.cell? ⟨g, 0, none⟩ = some (.int .i64 a) := by simp [World.cell?, hq2]
    have z1 : wc.cell? ⟨g, 1, none⟩ = some (.int .i64 b) := by simp [World.cell?, hq2]
    have hb3 := HB1.out.trans (hb2.mono (by omega))
    have HB3 := Lib.hid hb3
    clear hb3 hb2 hx hq2 hlk hlk2
    have HR2 := Lib.hid hr2
    clear hr2
    go_wp2
    obtain ⟨w3, hw3⟩ : ∃ y, y = (((((wc.setCell ⟨g + 1, 0, none⟩ (.int .i64 a)).setCell ⟨g + 1, 1, none⟩ (.int .i64 b)).setCell ⟨g + 1, 2, none⟩ (.int .i64 yv)).setCell ⟨g + 1, 3, none⟩ (.int .i64 yc)).setCell ⟨g + 1, 4, none⟩ (.int .u64 yl)) := ⟨_, rfl⟩
    rw [← hw3]
    have hr3 : w3.heap[g + 1]? = some (.cells #[.int .i64 a, .int .i64 b, .int .i64 yv, .int .i64 yc, .int .u64 yl] 55 (0, 0)) := by
      rw [hw3]
      exact heap_setCell_row (heap_setCell_row (heap_setCell_row (heap_setCell_row (heap_setCell_row HR2.out 0 _) 1 _) 2 _) 3 _) 4 _
    have hb4 : Below g w w3 := by
      have := HB3.out
      rw [hw3]
      go_grown
    have c0 : w3.cell? ⟨g + 1, 0, none⟩ = some (.int .i64 a) := by simp [World.cell?, hr3]
    have c1 : w3.cell? ⟨g + 1, 1, none⟩ = some (.int .i64 b) := by simp [World.cell?, hr3]
    have c2 : w3.cell? ⟨g + 1, 2, none⟩ = some (.int .i64 yv) := by simp [World.cell?, hr3]
    have c3 : w3.cell? ⟨g + 1, 3, none⟩ = some (.int .i64 yc) := by simp [World.cell?, hr3]
    have c4 : w3.cell? ⟨g + 1, 4, none⟩ = some (.int .u64 yl) := by simp [World.cell?, hr3]
    refine bodyPost_ret (v := .agg #[.int .i64 a, .int .i64 b, .int .i64 yv, .int .i64 yc, .int .u64 yl]) ?_ rfl ⟨?_, HGG.out.symm ▸ hb4⟩
    · simp [results, go_sem, c0, c1, c2, c3, c4]
    · rw [← HYY.out]; rfl
end
/- Shut -/
section
open Go.RowKit Go.Maps
theorem SlAt.plAt {w : World} {a : Option Addr} {l : List Pl} (h : SlAt 2 (flat cellsP) w a l) (k : Nat) (hk : k < l.length) :
    ∃ b o, a = some ⟨b, o, none⟩ ∧ b < w.heap.size ∧ w.cell? ⟨b, o + k * 2, none⟩ = some (.int .i64 l[k].1.1) ∧ w.cell? ⟨b, o + k * 2 + 1, none⟩ = some (.int .i64 l[k].1.2) := by
  rcases h with rfl | ⟨b, o, rfl, hlt, h⟩
  · simp at hk
  · obtain ⟨cs, h1, h2, h3⟩ := h k hk
    unfold flat at h3
    subst h3
    exact ⟨b, o, rfl, hlt, h2 0 (by omega), h2 1 (by omega)⟩
theorem SlAt.kept {α : Type} {c : Nat} {enc : α → List Value} {w w' : World} {a : Option Addr} {l : List α} (h : SlAt c (flat enc) w a l) (hb : Below w.heap.size w w') : SlAt c (flat enc) w' a l := by
  rcases h with h | ⟨b, o, rfl, hlt, h⟩
  · exact .inl h
  · refine .inr ⟨b, o, rfl, by have := hb.size; omega, fun i hi => ?_⟩
    obtain ⟨cs, h1, h2, h3⟩ := h i hi
    exact ⟨cs, h1, fun j hj => (hb.cell (p := ⟨b, _, none⟩) hlt).trans (h2 j hj), h3⟩
theorem below_drewN (w : World) (n : Nat) : Below w.heap.size w (w.drewN n) := ⟨rfl, rfl, rfl, Nat.le_refl _, fun _ _ => rfl⟩
theorem own_grown {w w' : World} {B mb : Nat} {e : TypeId} {c n : Nat} {v : Value} {xs : List Value} (h : w.ownsRow B e c v n xs) (hb : w.grownBy w' (some mb)) (hm : mb < B) : w'.ownsRow B e c v n xs := by
  refine ⟨h.1, ?_⟩
  rcases h.2 with hn | ⟨g, cap, cur, hv, hB, hg, rest⟩
  · exact .inl hn
  · exact .inr ⟨g, cap, cur, hv, hB, (hb.block g (Array.getElem?_eq_some_iff.1 hg).1 (fun e => by cases e; omega)).trans hg, rest⟩
theorem grownBy_own {a b c : World} {r o : Option Nat} (h : a.grownBy b r) (k : b.grownBy c o) (ho : ∀ i, o = some i → a.heap.size ≤ i) : a.grownBy c r :=
  ⟨k.os.trans h.os, k.tape.trans h.tape, k.output.trans h.output, Nat.le_trans h.size k.size, fun i hi hne => (k.block i (Nat.lt_of_lt_of_le hi h.size) (fun e => by have := ho i e.symm; omega)).trans (h.block i hi hne)⟩
theorem own_keep {w w' : World} {B : Nat} {e : TypeId} {c n : Nat} {v : Value} {xs : List Value} (h : w.ownsRow B e c v n xs) (hb : Below w.heap.size w w') : w'.ownsRow B e c v n xs := by
  refine ⟨h.1, ?_⟩
  rcases h.2 with hn | ⟨g, cap, cur, hv, hB, hg, rest⟩
  · exact .inl hn
  · exact .inr ⟨g, cap, cur, hv, hB, (hb.block g (Array.getElem?_eq_some_iff.1 hg).1).trans hg, rest⟩
def rowsL (L : PL) : List Rw := L.map fun q => rowOf q.1 q.2
theorem rowsL_take {L : PL} {k : Nat} (hk : k < L.length) : rowsL (L.take (k + 1)) = rowsL (L.take k) ++ [rowOf L[k].1 L[k].2] := by
  unfold rowsL
  rw [List.take_add_one, List.getElem?_eq_getElem hk, List.map_append]
  rfl
theorem look_at {L : PL} (hs : SortedL L) {k : Nat} (hk : k < L.length) : lookL L L[k].1 = some L[k].2 := (lookL_some hs).2 (List.getElem_mem hk)
set_option maxRecDepth 20000 in
theorem len_any (pb mb : Nat) (sz sl kd : Int) (L : PL) (w : World) (hP : PanesAt w pb mb sz sl kd L) :
    Calls Tryz.prog 34 #[.pointer (some ⟨pb, 0, none⟩)] w fun e w' => e = .returned (.int .i64 L.length) ∧ Below w.heap.size w w' := by
  obtain ⟨D, n, hown, hD⟩ := hP.2
  have hlt := hP.lt
  have m0 : w.cell? ⟨pb, 3, none⟩ = some (.map (some mb)) := by simp [World.cell?, hP.1]
  have hl := hD.2.2.2
  have HO := Lib.hid hown
  have HL := Lib.hid hl
  clear hP hown hD hl
  go_enter Tryz.func34, Tryz.ntmps34
  go_wp2_with (at_len; refine wpList_len_own _ rfl _ 134 rfl 196 211 Tryz.underlying134 _ mb n D rfl HO.out ?_)
  go_ret
  exact ⟨by rw [HL.out]; rfl, Below.refl _ _⟩
def endsB (sz mark : Int) (q : Pl × Pn) : Bool := decide (q.1.1.1 + sz ≤ mark)
def keepL (sz mark : Int) (L : PL) : PL := L.filter fun q => !endsB sz mark q
def doneL (sz mark : Int) (L : PL) : PL := L.filter fun q => endsB sz mark q
theorem sorted_parts {L : PL} (hs : SortedL L) {k : Nat} (hk : k < L.length) : (∀ q ∈ L.take k, ltP q.1 L[k].1) ∧ (∀ q ∈ L.drop (k + 1), ltP L[k].1 q.1) := by
  have e : L = L.take k ++ L[k] :: L.drop (k + 1) := by rw [← List.drop_eq_getElem_cons hk, List.take_append_drop]
  unfold SortedL at hs
  rw [e, List.pairwise_append, List.pairwise_cons] at hs
  exact ⟨fun q hq => hs.2.2 q hq _ List.mem_cons_self, fun q hq => hs.2.1.1 q hq⟩
theorem mid_sorted {L : PL} (hs : SortedL L) (f : Pl × Pn → Bool) (k : Nat) : SortedL ((L.take k).filter f ++ L.drop k) := by
  refine List.Pairwise.sublist ?_ hs
  conv => rhs; rw [← List.take_append_drop k L]
  exact List.Sublist.append List.filter_sublist (List.Sublist.refl _)
theorem del_mid {L : PL} (hs : SortedL L) (f : Pl × Pn → Bool) {k : Nat} (hk : k < L.length) : delL ((L.take k).filter f ++ L.drop k) L[k].1 = (L.take k).filter f ++ L.drop (k + 1) := by
  obtain ⟨h1, h2⟩ := sorted_parts hs hk
  unfold delL
  rw [List.filter_append, List.drop_eq_getElem_cons hk, List.filter_cons]
  simp only [ne_eq, not_true_eq_false, decide_false, Bool.false_eq_true, if_false]
  congr 1
  · refine List.filter_eq_self.2 fun q hq => ?_
    have := h1 q (List.mem_filter.1 hq).1
    refine decide_eq_true fun e => ?_
    rw [e] at this
    exact ltP_irrefl _ this
  · refine List.filter_eq_self.2 fun q hq => ?_
    have := h2 q hq
    refine decide_eq_true fun e => ?_
    rw [e] at this
    exact ltP_irrefl _ this
theorem take_one {L : PL} {k : Nat} (hk : k < L.length) : L.take (k + 1) = L.take k ++ [L[k]] := by
  rw [List.take_add_one, List.getElem?_eq_getElem hk]
  rfl
theorem mid_keep {L : PL} (f : Pl × Pn → Bool) {k : Nat} (hk : k < L.length) (h : f L[k] = true) : (L.take k).filter f ++ L.drop k = (L.take (k + 1)).filter f ++ L.drop (k + 1) := by
  rw [take_one hk, List.filter_append, List.drop_eq_getElem_cons hk, List.append_assoc]
  simp only [List.filter_cons, h, List.filter_nil, if_true]
  rfl
theorem mid_skip {L : PL} (f : Pl × Pn → Bool) {k : Nat} (hk : k < L.length) (h : f L[k] = false) : (L.take (k + 1)).filter f = (L.take k).filter f := by
  rw [take_one hk, List.filter_append]
  simp only [List.filter_cons, h, List.filter_nil, Bool.false_eq_true, if_false, List.append_nil]
theorem mid_more {L : PL} (f : Pl × Pn → Bool) {k : Nat} (hk : k < L.length) (h : f L[k] = true) : (L.take (k + 1)).filter f = (L.take k).filter f ++ [L[k]] := by
  rw [take_one hk, List.filter_append]
  simp only [List.filter_cons, h, List.filter_nil, if_true]
theorem mid_look {L : PL} (hs : SortedL L) (f : Pl × Pn → Bool) {k : Nat} (hk : k < L.length) : lookL ((L.take k).filter f ++ L.drop k) L[k].1 = some L[k].2 := by
  refine (lookL_some (mid_sorted hs f k)).2 (List.mem_append.2 (.inr ?_))
  rw [List.drop_eq_getElem_cons hk]
  exact List.mem_cons_self
theorem wpList_del {w : World} {mb : Nat} {L : PL} (hM : MapAt w mb L) (p : Pl) {ops : Array Oper} {rest : List Oper} {o : Oper} {a : Act} {Q : Exit → Act → World → Prop} (hgd : o.guard = none) (m x : Operand)
    (ho : o.op = Op.call { callee := Callee.builtin Builtin.delete, args := #[m, x], argTypes := #[134, 196] }) (hm : a.eval m = .map (some mb)) (hx : a.eval x = encP p)
    (h : ∀ w', MapAt w' mb (delL L p) → w.grownBy w' (some mb) → wpList Tryz.prog ops Q rest (a.put o.dst (.tuple #[])) w') : wpList Tryz.prog ops Q (o :: rest) a w := by
  obtain ⟨D, n, h1, h2⟩ := hM
  exact wpList_delete_own _ hgd m x _ _ ho _ placeKeyed Tryz.underlying134 _ mb n D hm h1 _ _ hx (keyOf_place p) fun w' h3 h4 => h w' ⟨_, _, h3, h2.del (h1.tidy placeKeyed) p⟩ h4.grown
set_option maxHeartbeats 1000000 in
set_option maxRecDepth 20000 in
theorem close_any (pb mb : Nat) (sz sl kd : Int) (L : PL) (N : Nat) (mark : Int) (w : World) (hP : PanesAt w pb mb sz sl kd L) (hG : GoodL kd sz sl N L) (hN : N < 2 ^ 40) :
    Calls Tryz.prog 91 #[.pointer (some ⟨pb, 0, none⟩), .int .i64 mark] w fun e w' => ∃ v, e = .returned v ∧ w'.ownsRow w.heap.size 55 5 v (rowsL (doneL sz mark L)).length ((rowsL (doneL sz mark L)).flatMap Rw.cells) ∧ PanesAt w' pb mb sz sl kd (keepL sz mark L) ∧ w.grownBy w' (some mb) := by
  have hlt := hP.lt
  have hml := hP.2.lt
  have hne := hP.ne
  have hs := Lib.hid hP.2.sorted
  have HP := Lib.hid hP
  have HG := Lib.hid hG
  have hlen : L.length < 2 ^ 40 := by have := hG.len; omega
  obtain ⟨i0, hi, hz0, hz1, hz2⟩ := rwInfo
  clear hP hG
  go_enter Tryz.func91, Tryz.ntmps91
  go_wp2_with (first | (go_at_call 113; refine (places_any pb mb sz sl kd L _ HP.out (by omega)).mono ?_; rintro e w1 ⟨a, cap, rfl, hcap, hmax, hnil, hss, hblk, hb⟩))
  have HSS := Lib.hid hss
  have HB := Lib.hid hb
  have hs1 := hb.size
  have HP1 := Lib.hid (HP.out.below hb hlt hml)
  have hm1 : mb < w1.heap.size := by omega
  clear hss hb
  go_loopw [5, 11] (fun ov iv wr => ∃ k : Nat, k ≤ L.length ∧ iv = .int .i64 k ∧ wr.ownsRow w1.heap.size 55 5 ov (rowsL ((L.take k).filter fun q => endsB sz mark q)).length ((rowsL ((L.take k).filter fun q => endsB sz mark q)).flatMap Rw.cells) ∧ PanesAt wr pb mb sz sl kd ((L.take k).filter (fun q => !endsB sz mark q) ++ L.drop k) ∧ w1.grownBy wr (some mb)) (fun _ iv _ => L.length - (numOf iv).toNat)
  case atStart => exact ⟨0, by omega, rfl, World.ownsRow_nil _ _ _ _, HP1.out, grownBy_refl _ _⟩
  case round =>
    obtain ⟨k, hk, rfl, hown, hPr, hgr⟩ := hrel
    have hsz := hgr.size
    have HOWN := Lib.hid hown
    have HPR := Lib.hid hPr
    have HGR := Lib.hid hgr
    have hpr := hPr.lt
    have hmr := hPr.2.lt
    have q0 : wr.cell? ⟨pb, 0, none⟩ = some (.int .i64 sz) := by simp [World.cell?, hPr.1]
    have q3 : wr.cell? ⟨pb, 3, none⟩ = some (.map (some mb)) := by simp [World.cell?, hPr.1]
    clear hown hPr hgr
    by_cases hkl : (k : Int) < L.length
    · have hkn : k < L.length := by omega
      obtain ⟨b, o, rfl, hbl, c0, c1⟩ := (HSS.out.mapped cellsP_len (by omega) HP1.out.2.block HGR.out).plAt k (by simpa using hkn)
      rw [List.getElem_map] at c0 c1
      have hlk := mid_look hs.out (fun q => !endsB sz mark q) hkn
      have hdm := del_mid hs.out (fun q => !endsB sz mark q) hkn
      have hgood := HG.out.each L[k].1 L[k].2 (List.getElem_mem hkn)
      have hright := HG.out.right (fun e => by rw [e] at hkn; simp at hkn)
      have hends : endsB sz mark L[k] = decide (L[k].1.1.1 + sz ≤ mark) := rfl
      have hmk := mid_keep (fun q => !endsB sz mark q) hkn
      have hms := mid_skip (fun q => endsB sz mark q) hkn
      have hmm := mid_more (fun q => endsB sz mark q) hkn
      have hms' := mid_skip (fun q => !endsB sz mark q) hkn
      generalize hq : L[k] = q at *
      obtain ⟨p, x⟩ := q
      dsimp only at c0 c1 hlk hdm hgood hends
      have hg0 := hgood.1
      have hg1 := hgood.2.1
      have hr0 := hright.1
      have hr1 := hright.2.1
      have hr2 := hright.2.2.1
      have hle : ((L.take k).filter fun q => endsB sz mark q).length ≤ k := Nat.le_trans (List.length_filter_le _ _) (by rw [List.length_take]; omega)
      have HLK := Lib.hid hlk
      have HDM := Lib.hid hdm
      have HEN := Lib.hid hends
      have HMK := Lib.hid hmk
      have HMS := Lib.hid hms
      have HMM := Lib.hid hmm
      have HMS' := Lib.hid hms'
      clear hlk hdm hgood hright hends hmk hms hmm hms' hq
      go_wp2
      obtain ⟨w2, hw2⟩ : ∃ y, y = wr.alloc (.cells #[.int .i64 p.1.1, .int .i64 p.1.2] 196) := ⟨_, rfl⟩
      rw [← hw2]
      have hb2 : Below wr.heap.size wr w2 := by rw [hw2]; go_grown
      have hs2 : w2.heap.size = wr.heap.size + 1 := by rw [hw2]; simp
      have r0 := (hb2.cell (p := ⟨pb, 0, none⟩) hpr).trans q0
      have r3 := (hb2.cell (p := ⟨pb, 3, none⟩) hpr).trans q3
      have hp2 : w2.heap[wr.heap.size]? = some (.cells #[.int .i64 p.1.1, .int .i64 p.1.2] 196 (0, 0)) := by rw [hw2]; exact new_at _ _ _ rfl
      have z0 : w2.cell? ⟨wr.heap.size, 0, none⟩ = some (.int .i64 p.1.1) := by simp [World.cell?, hp2]
      have z1 : w2.cell? ⟨wr.heap.size, 1, none⟩ = some (.int .i64 p.1.2) := by simp [World.cell?, hp2]
      have HP2 := Lib.hid (HPR.out.below hb2 hpr hmr)
      have HO2 := Lib.hid (own_keep HOWN.out hb2)
      have HG2 := Lib.hid (grownBy_trans HGR.out (below_grownBy hb2))
      have HZ := Lib.hid hp2
      clear hw2 hb2 q0 q3 c0 c1 hp2
      have HOB : Hid (∀ i, u5.ownBlock = some i → w1.heap.size ≤ i ∧ i < wr.heap.size) := Lib.hid (fun i hi => HOWN.out.lt i hi)
      generalize wr.heap.size = g at *
      by_cases hcase : p.1.1 + sz ≤ mark
      · have hcase' : ¬ mark < p.1.1 + sz := by omega
        have hen : endsB sz mark (p, x) = true := by rw [HEN.out]; exact decide_eq_true hcase
        have HMMT := Lib.hid (HMM.out hen)
        have HMST := Lib.hid (HMS'.out (by simp [hen]))
        clear hen HMM HMS' HMK HMS
        go_quiet (fail)
        go_wp2_with (first
          | (go_at_call 114; refine (row_any pb mb sz sl kd _ p _ (by exact HP2.out.same rfl rfl)).mono ?_; rintro e w3 ⟨rfl, hb3⟩; have hs3 : w2.heap.size ≤ w3.heap.size := hb3.size; simp only [HLK.out, Option.getD_some, Rw.cells, rowOf])
          | (at_builtin; refine wpList_append_sl Rw.len (by decide) Rw.one rfl _ _ 49 rfl w1.heap.size 55 i0 _ 40 Tryz.underlying49 hi hz0 hz1 hz2 rfl _ (rowsL ((L.take k).filter fun q => endsB sz mark q)) rfl (own_keep HO2.out (Below.trans (below_drewN w2 _) (hb3.alloc hs3 _))) (some ⟨w3.heap.size, 0, none⟩) 1 [rowOf p x] rfl (by simp) (SlAt.one Rw.len (heap_new _ _)) (by simp [rowsL]; omega) (by simp [rowsL, maxLen]; omega) (by simp; omega) ?_))
        intro v' w4 h1 h2 h3
        have hb4 : Below w2.heap.size w2 (w3.alloc (.cells #[.int .i64 p.1.1, .int .i64 p.1.2, .int .i64 x.v, .int .i64 x.c, .int .u64 x.l] 55)) := Below.trans (below_drewN w2 _) (hb3.alloc hs3 _)
        have hob : ∀ i, u5.ownBlock = some i → w1.heap.size ≤ i ∧ i < g := HOB.out
        have hk4 : ∀ i, i < w2.heap.size → (i < w1.heap.size ∨ g ≤ i) → w4.heap[i]? = w2.heap[i]? := fun i hi hd => (h2.block i (by have := hb4.size; omega) (fun e => by have := hob i e.symm; omega)).trans (hb4.block i hi)
        have hs4 := h2.size
        have hs4' := hb4.size
        have HP4 := Lib.hid (HP2.out.same (hk4 pb (by omega) (by omega)) (hk4 mb (by omega) (by omega)))
        have hz4 := (hk4 g (by omega) (by omega)).trans HZ.out
        have z4 : w4.cell? ⟨g, 0, none⟩ = some (.int .i64 p.1.1) := by simp [World.cell?, hz4]
        have z5 : w4.cell? ⟨g, 1, none⟩ = some (.int .i64 p.1.2) := by simp [World.cell?, hz4]
        have r5 : w4.cell? ⟨pb, 3, none⟩ = some (.map (some mb)) := by simp [World.cell?, HP4.out.1]
        have HG4 := Lib.hid (grownBy_own (grownBy_below HG2.out hb4 (by omega)) h2 (fun i hi => (hob i hi).1))
        have H1 := Lib.hid h1
        clear h1 h2 h3 hb4 hob hk4 hz4 r0 r3 z0 z1
        go_wp2
        refine region_tail 5 (by kernel_rfl) (by kernel_rfl) ?_
        simp only [List.take_succ_cons, List.take_zero, List.drop_succ_cons, List.drop_zero]
        repeat still_step
        refine wpStill_nil ?_
        refine wpList_del (w := w4.drew) (HP4.out.2.same rfl) p rfl _ _ rfl rfl rfl ?_
        intro w6 hm6 hg6
        rw [HDM.out] at hm6
        have hg6' : w4.grownBy w6 (some mb) := ⟨hg6.os, hg6.tape, hg6.output, hg6.size, hg6.block⟩
        have hP6 : PanesAt w6 pb mb sz sl kd ((L.take (k + 1)).filter (fun q => !endsB sz mark q) ++ L.drop (k + 1)) := ⟨(hg6'.block pb (by omega) (by simp; omega)).trans HP4.out.1, by rw [HMST.out]; exact hm6⟩
        go_wp2
        have hrows : rowsL ((L.take (k + 1)).filter fun q => endsB sz mark q) = rowsL ((L.take k).filter fun q => endsB sz mark q) ++ [rowOf p x] := by rw [HMMT.out]; simp [rowsL]
        refine ⟨⟨k + 1, by omega, by simp, ?_, hP6, grownBy_trans HG4.out hg6'⟩, by simp [numOf]; omega⟩
        rw [hrows]
        have := own_grown H1.out hg6' hm1
        simpa using this
      · have hcase' : mark < p.1.1 + sz := by omega
        have hen : endsB sz mark (p, x) = false := by rw [HEN.out]; exact decide_eq_false hcase
        have HMKT := Lib.hid (HMK.out (by simp [hen]))
        have HMST := Lib.hid (HMS.out hen)
        clear hen HMM HMS' HMK HMS
        go_quiet (fail)
        go_wp2
        go_roundw
        case rel => exact ⟨k + 1, by omega, by go_num, by rw [HMST.out]; exact own_keep HO2.out (below_drewN w2 _), by rw [← HMKT.out]; exact HP2.out.same rfl rfl, grownBy_trans HG2.out (below_grownBy (below_drewN w2 _))⟩
        case measure => simp [numOf]; omega
    · go_wp2
      go_ret
      have hke : k = L.length := by omega
      subst hke
      have h1 := HOWN.out
      have h2 := HPR.out
      rw [List.take_length] at h1 h2
      rw [List.drop_length, List.append_nil] at h2
      exact ⟨_, rfl, Go.Joins.ownsRow_le h1 (by omega), h2, grownBy_trans (below_grownBy HB.out) HGR.out⟩
set_option maxRecDepth 20000 in
theorem copy_any (pb mb : Nat) (sz sl kd : Int) (L : PL) (w : World) (hP : PanesAt w pb mb sz sl kd L) :
    Calls Tryz.prog 103 #[.pointer (some ⟨pb, 0, none⟩)] w fun e w' => ∃ qb nb, e = .returned (.pointer (some ⟨qb, 0, none⟩)) ∧ w.heap.size ≤ qb ∧ w.heap.size ≤ nb ∧ PanesAt w' qb nb sz sl kd L ∧ Below w.heap.size w w' := by
  obtain ⟨D, n, hown, hD⟩ := hP.2
  have hlt := hP.lt
  have hml := hP.2.lt
  have m0 : w.cell? ⟨pb, 0, none⟩ = some (.int .i64 sz) := by simp [World.cell?, hP.1]
  have m1 : w.cell? ⟨pb, 1, none⟩ = some (.int .i64 sl) := by simp [World.cell?, hP.1]
  have m2 : w.cell? ⟨pb, 2, none⟩ = some (.int .i64 kd) := by simp [World.cell?, hP.1]
  have m3 : w.cell? ⟨pb, 3, none⟩ = some (.map (some mb)) := by simp [World.cell?, hP.1]
  have HO := Lib.hid hown
  have HD := Lib.hid hD
  have hcl := fun (W : World) (h : W.ownsMap Tryz.prog 196 elemPn mb n D) => AnyW.maps_Clone_owns Tryz.cloneP 196 elemPn mb n D W h
  have HCL := Lib.hid hcl
  clear hP hown hD hcl
  go_enter Tryz.func103, Tryz.ntmps103
  go_wp2_with (first | (go_at_call 126; refine (HCL.out _ (HO.out.alloc _)).mono ?_; rintro e w2 ⟨rfl, h1, h2, hb⟩; have hs := hb.size; simp only [World.size_alloc] at hs; have hv := (hb.block w.heap.size (by simp)).trans (heap_new w _); have hc3 : w2.cell? ⟨w.heap.size, 3, none⟩ = some (.map (some mb)) := (by simp [World.cell?, hv]); have hf3 : w2.frozen? ⟨w.heap.size, 3, none⟩ = false := (by simp [World.frozen?, hv])))
  go_ret
  simp only [World.size_alloc] at h1 hb
  refine ⟨w.heap.size, w.heap.size + 1, rfl, Nat.le_refl _, by omega, ⟨?_, D, n, ?_, HD.out⟩, ?_⟩
  · exact heap_setCell_row hv 3 _
  · exact ownsMap_at h1 (Below.heap_setCell _ _ _ _ (by simp))
  · have h0 : Below w.heap.size w w2 := Below.trans ((Below.refl _ w).alloc (Nat.le_refl _) (.cells #[.int .i64 sz, .int .i64 sl, .int .i64 kd, .map (some mb)] 136)) (hb.mono (by omega))
    go_grown
end
/- PaneKit -/
section
open Go.RowKit Go.Maps
theorem SlAt.ofRow {α : Type} {c : Nat} {enc : α → List Value} (hc : ∀ x, (enc x).length = c) {w : World} {g : Nat} {l : List α} {e : TypeId} {fr : Nat × Nat} (h : w.heap[g]? = some (.cells (l.flatMap enc).toArray e fr)) : SlAt c (flat enc) w (some ⟨g, 0, none⟩) l := by
  refine .inr ⟨g, 0, rfl, (Array.getElem?_eq_some_iff.1 h).1, fun i hi => ⟨enc l[i], hc _, fun j hj => ?_, rfl⟩⟩
  have hf := flatMap_at hc l i j hj
  rw [List.getElem?_eq_getElem hi] at hf
  simp only [World.cell?, h, Nat.zero_add]
  simpa using hf
theorem belowMap {B : Nat} {a b c : World} {mb : Nat} (h : Below B a b) (k : b.grownBy c (some mb)) (hs : B ≤ b.heap.size) (hm : B ≤ mb) : Below B a c := h.grown k hs (fun j hj => by cases hj; exact hm)
/-- A row of the call's own as a slice to be read. -/
theorem PanesAt.good_len {kd sz sl : Int} {N : Nat} {L : PL} (h : GoodL kd sz sl N L) (hN : N < 2 ^ 40) : L.length < 2 ^ 40 := by have := h.len; omega
theorem GoodL.keep {kd sz sl : Int} {N : Nat} {L : PL} (h : GoodL kd sz sl N L) (mark : Int) : GoodL kd sz sl N (keepL sz mark L) := by
  refine ⟨Nat.le_trans (List.length_filter_le _ _) h.len, fun p x hx => h.each p x (List.mem_filter.1 hx).1, fun hne => h.right fun e => hne ?_⟩
  rw [e]
  rfl
theorem put_one (pb mb : Nat) (sz sl kd : Int) (L : PL) (N : Nat) (g : Nat) (ev : Ev) (w : World) (hP : PanesAt w pb mb sz sl kd L) (hG : GoodL kd sz sl N L) (hkd : (Lit.int .i64 kd).wf = true)
    (hv : w.heap[g]? = some (.cells ev.cells.toArray 63 (0, 0))) (he : ev.wf) (hN : N + 8 < 2 ^ 40) :
    Calls Tryz.prog 112 #[.pointer (some ⟨pb, 0, none⟩), .slice (some ⟨g, 0, none⟩) 1 1] w fun e w' => e = .returned (.tuple #[]) ∧ PanesAt w' pb mb sz sl kd (putE kd sz sl L ev) ∧ GoodL kd sz sl (N + 8) (putE kd sz sl L ev) ∧ w.grownBy w' (some mb) :=
  (put_any pb mb sz sl kd L N (some ⟨g, 0, none⟩) 1 [ev] w hP hG hkd (SlAt.one Ev.len hv) (by simpa using he) (by simpa using hN)).mono (by
    rintro e w' ⟨rfl, h1, h2⟩
    exact ⟨rfl, h1, (hG.putE hP.2.sorted hkd (by omega) he).1, h2⟩)
theorem putL_step {kd sz sl : Int} (f : Ev → Ev) (l : List Ev) {k : Nat} (hk : k < l.length) : putL kd sz sl [] ((l.take (k + 1)).map f) = putE kd sz sl (putL kd sz sl [] ((l.take k).map f)) (f l[k]) := by
  rw [List.take_add_one, List.getElem?_eq_getElem hk, List.map_append]
  unfold putL
  rw [List.foldl_append]
  rfl
end
/- Sep -/
section
open Go.RowKit
/-- What is kept in some blocks. -/
def HP : Type := (Nat → Option Obj) → Prop
def part (h : Nat → Option Obj) (f : Nat → Bool) : Nat → Option Obj := fun b => if f b then h b else none
def emp : HP := fun _ => True
def sepL (L : List HP) : HP := fun h => ∃ own : Nat → Nat, ∀ i (P : HP), L[i]? = some P → P (part h fun b => own b == i)
def above (w0 w : World) : Nat → Option Obj := part (fun b => w.heap[b]?) fun b => decide (w0.heap.size ≤ b)
/-- Below w0's blocks w is as w0; above them these things are kept, each in blocks of its own. -/
structure St (w0 w : World) (L : List HP) : Prop where
  below : Below w0.heap.size w0 w
  sep : sepL L (above w0 w)
theorem part_part (h : Nat → Option Obj) (f g : Nat → Bool) : part (part h f) g = part h fun b => f b && g b := by
  funext b
  unfold part
  cases hf : f b <;> cases hg : g b <;> simp [hf, hg]
theorem part_congr {h k : Nat → Option Obj} {f g : Nat → Bool} (H : ∀ b, (if f b then h b else none) = if g b then k b else none) : part h f = part k g := funext H
theorem getD_of {L : List HP} {i : Nat} {P : HP} (h : L[i]? = some P) : L.getD i emp = P := by simp [h]
theorem part_eq {h k : Nat → Option Obj} {f g : Nat → Bool} (H : ∀ b, f b = true → (g b = true ∧ h b = k b) ∨ (h b = none ∧ (g b = true → k b = none))) (H' : ∀ b, g b = true → f b = true ∨ k b = none) : part h f = part k g := by
  funext b
  unfold part
  cases hf : f b
  · cases hg : g b
    · rfl
    · rcases H' b hg with h1 | h1
      · rw [hf] at h1; cases h1
      · simp [h1]
  · rcases H b hf with ⟨h1, h2⟩ | ⟨h1, h2⟩
    · simp [h1, h2]
    · cases hg : g b
      · simp [h1]
      · simp [h1, h2 hg]
/-- The same blocks by two accounts of what they belong to. -/
theorem part_own {h : Nat → Option Obj} {f g : Nat → Bool} (H : ∀ b, f b = true ↔ g b = true) : part h f = part h g := part_eq (fun b hb => .inl ⟨(H b).1 hb, rfl⟩) fun b hb => .inl ((H b).2 hb)
theorem sepL_pick {L : List HP} {h : Nat → Option Obj} (s : sepL L h) (is : List Nat) (hd : is.Nodup) : sepL (is.map fun i => L.getD i emp) h := by
  obtain ⟨own, ho⟩ := s
  refine ⟨fun b => is.idxOf (own b), fun j P hj => ?_⟩
  rw [List.getElem?_map] at hj
  obtain ⟨i, hi, rfl⟩ := Option.map_eq_some_iff.1 hj
  obtain ⟨hjl, hi⟩ := List.getElem?_eq_some_iff.1 hi
  cases hL : L[i]? with
  | none => simp [hL]; trivial
  | some P =>
    rw [getD_of hL]
    refine cast (congrArg P (part_own fun b => ?_)) (ho i P hL)
    simp only [beq_iff_eq]
    constructor
    · intro he
      rw [he, ← hi]
      exact List.Nodup.idxOf_getElem hd j hjl
    · intro he
      have hm : own b ∈ is := List.idxOf_lt_length_iff.1 (by rw [he]; exact hjl)
      have := List.getElem_idxOf (List.idxOf_lt_length_iff.2 hm)
      simp only [he] at this
      exact this.symm.trans hi
theorem sepL_split {L K : List HP} {n : Nat} {h : Nat → Option Obj} (s : sepL L h) (hn : L[n]? = some (sepL K)) : sepL (L.set n emp ++ K) h := by
  obtain ⟨own, ho⟩ := s
  obtain ⟨own2, ho2⟩ := ho n _ hn
  have hnl := (List.getElem?_eq_some_iff.1 hn).1
  refine ⟨fun b => if own b = n then L.length + own2 b else if own b < L.length then own b else L.length + K.length, fun i P hi => ?_⟩
  by_cases hil : i < L.length
  · rw [List.getElem?_append_left (by simpa using hil), List.getElem?_set] at hi
    by_cases hin : n = i
    · rw [if_pos hin] at hi
      simp [hil, hin] at hi
      obtain ⟨_, rfl⟩ := hi
      trivial
    · rw [if_neg hin] at hi
      refine cast (congrArg P (part_own fun b => ?_)) (ho i P hi)
      simp only [beq_iff_eq]
      constructor
      · intro he
        rw [if_neg (by omega), if_pos (by omega), he]
      · intro he
        split at he
        · omega
        · split at he <;> omega
  · rw [List.getElem?_append_right (by simpa using hil)] at hi
    simp only [List.length_set] at hi
    have := ho2 _ P hi
    rw [part_part] at this
    have hk := (List.getElem?_eq_some_iff.1 hi).1
    refine cast (congrArg P (part_own fun b => ?_)) this
    simp only [beq_iff_eq, Bool.and_eq_true]
    constructor
    · rintro ⟨h1, h2⟩
      rw [if_pos h1]
      omega
    · intro he
      split at he
      · exact ⟨by assumption, by omega⟩
      · split at he <;> omega
theorem sepL_join {L : List HP} {h : Nat → Option Obj} (s : sepL L h) (is js : List Nat) (hd : (is ++ js).Nodup) : sepL (sepL (is.map fun i => L.getD i emp) :: js.map fun i => L.getD i emp) h := by
  obtain ⟨own, ho⟩ := sepL_pick s _ hd
  have h1 : ∀ (l : List Nat) j P, (l.map fun i => L.getD i emp)[j]? = some P → j < l.length := fun l j P hj => by simpa using (List.getElem?_eq_some_iff.1 hj).1
  refine ⟨fun b => if own b < is.length then 0 else own b - is.length + 1, fun i P hi => ?_⟩
  cases i with
  | zero =>
    simp at hi
    subst hi
    refine ⟨own, fun j P hj => ?_⟩
    have hj' := h1 _ _ _ hj
    have := ho j P (by rw [List.map_append, List.getElem?_append_left (by simpa using hj')]; exact hj)
    rw [part_part]
    refine cast (congrArg P (part_own fun b => ?_)) this
    simp only [beq_iff_eq, Bool.and_eq_true]
    constructor
    · intro he
      exact ⟨by rw [if_pos (by omega)], he⟩
    · exact fun he => he.2
  | succ i =>
    simp only [List.getElem?_cons_succ] at hi
    have hi' := h1 _ _ _ hi
    have := ho (is.length + i) P (by rw [List.map_append, List.getElem?_append_right (by simp)]; simpa using hi)
    refine cast (congrArg P (part_own fun b => ?_)) this
    simp only [beq_iff_eq]
    constructor
    · intro he
      rw [if_neg (by omega)]
      omega
    · intro he
      split at he <;> omega
theorem sepL_front {L : List HP} {X : HP} {n : Nat} {h : Nat → Option Obj} (s : sepL L h) (hn : L[n]? = some X) : sepL [X, sepL (L.set n emp)] h := by
  obtain ⟨own, ho⟩ := s
  refine ⟨fun b => if own b = n then 0 else 1, fun i P hi => ?_⟩
  match i, hi with
  | 0, hi =>
    simp at hi
    subst hi
    refine cast (congrArg X (part_own fun b => ?_)) (ho n X hn)
    simp only [beq_iff_eq]
    constructor
    · intro he; rw [if_pos he]
    · intro he; split at he <;> omega
  | 1, hi =>
    simp at hi
    subst hi
    refine ⟨own, fun j P hj => ?_⟩
    rw [List.getElem?_set] at hj
    split at hj
    · split at hj
      · cases hj; trivial
      · cases hj
    · rename_i hjn
      rw [part_part]
      refine cast (congrArg P (part_own fun b => ?_)) (ho j P hj)
      simp only [beq_iff_eq, Bool.and_eq_true]
      constructor
      · intro he; exact ⟨by rw [if_neg (by omega)], he⟩
      · exact fun he => he.2
  | i + 2, hi => simp at hi
theorem sepL_back {L K : List HP} {X : HP} {n : Nat} {h : Nat → Option Obj} (hn : n < L.length) (s : sepL (X :: sepL (L.set n emp) :: K) h) : sepL (L.set n X ++ K) h := by
  obtain ⟨own, ho⟩ := s
  obtain ⟨own2, ho2⟩ := ho 1 _ rfl
  refine ⟨fun b => if own b = 0 then n else if own b = 1 then (if own2 b < L.length ∧ own2 b ≠ n then own2 b else L.length + K.length) else own b - 2 + L.length, fun i P hi => ?_⟩
  by_cases hil : i < L.length
  · rw [List.getElem?_append_left (by simpa using hil), List.getElem?_set] at hi
    by_cases hin : n = i
    · rw [if_pos hin] at hi
      simp [hil, hin] at hi
      obtain ⟨_, rfl⟩ := hi
      refine cast (congrArg X (part_own fun b => ?_)) (ho 0 X rfl)
      simp only [beq_iff_eq]
      constructor
      · intro he; rw [if_pos he, hin]
      · intro he
        split at he
        · assumption
        · split at he
          · split at he <;> omega
          · omega
    · rw [if_neg hin] at hi
      have := ho2 i P (by rw [List.getElem?_set, if_neg hin]; exact hi)
      rw [part_part] at this
      refine cast (congrArg P (part_own fun b => ?_)) this
      simp only [beq_iff_eq, Bool.and_eq_true]
      constructor
      · rintro ⟨h1, h2⟩
        rw [if_neg (by omega), if_pos h1, if_pos ⟨by omega, by omega⟩, h2]
      · intro he
        split at he
        · omega
        · split at he
          · split at he
            · exact ⟨by assumption, he⟩
            · omega
          · omega
  · rw [List.getElem?_append_right (by simpa using hil)] at hi
    simp only [List.length_set] at hi
    have hk := (List.getElem?_eq_some_iff.1 hi).1
    have := ho (i - L.length + 2) P hi
    refine cast (congrArg P (part_own fun b => ?_)) this
    simp only [beq_iff_eq]
    constructor
    · intro he
      rw [if_neg (by omega), if_neg (by omega)]
      omega
    · intro he
      split at he
      · omega
      · split at he
        · split at he <;> omega
        · omega
theorem sepL_imp {L : List HP} {X X' : HP} {n : Nat} {h : Nat → Option Obj} (s : sepL L h) (hn : L[n]? = some X) (H : ∀ h, X h → X' h) : sepL (L.set n X') h := by
  obtain ⟨own, ho⟩ := s
  refine ⟨own, fun i P hi => ?_⟩
  rw [List.getElem?_set] at hi
  split at hi
  · rename_i e
    subst e
    split at hi
    · cases hi; exact H _ (ho n X hn)
    · cases hi
  · exact ho i P hi
theorem sepL_group {K1 K2 : List HP} {h : Nat → Option Obj} (s : sepL (K1 ++ K2) h) : sepL (sepL K1 :: K2) h := by
  obtain ⟨own, ho⟩ := s
  refine ⟨fun b => if own b < K1.length then 0 else own b - K1.length + 1, fun i P hi => ?_⟩
  cases i with
  | zero =>
    simp at hi
    subst hi
    refine ⟨own, fun j P hj => ?_⟩
    have hj' := (List.getElem?_eq_some_iff.1 hj).1
    have := ho j P (by rw [List.getElem?_append_left hj']; exact hj)
    rw [part_part]
    refine cast (congrArg P (part_own fun b => ?_)) this
    simp only [beq_iff_eq, Bool.and_eq_true]
    constructor
    · intro he
      exact ⟨by rw [if_pos (by omega)], he⟩
    · exact fun he => he.2
  | succ i =>
    simp only [List.getElem?_cons_succ] at hi
    have := ho (K1.length + i) P (by rw [List.getElem?_append_right (by omega)]; simpa using hi)
    refine cast (congrArg P (part_own fun b => ?_)) this
    simp only [beq_iff_eq]
    constructor
    · intro he
      rw [if_neg (by omega)]
      omega
    · intro he
      split at he <;> omega
theorem sepL_ungroup {K1 K2 : List HP} {h : Nat → Option Obj} (s : sepL (sepL K1 :: K2) h) : sepL (K1 ++ K2) h := by
  obtain ⟨own, ho⟩ := s
  obtain ⟨own2, ho2⟩ := ho 0 _ rfl
  refine ⟨fun b => if own b = 0 then (if own2 b < K1.length then own2 b else K1.length + K2.length) else own b - 1 + K1.length, fun i P hi => ?_⟩
  by_cases hil : i < K1.length
  · rw [List.getElem?_append_left hil] at hi
    have := ho2 i P hi
    rw [part_part] at this
    refine cast (congrArg P (part_own fun b => ?_)) this
    simp only [beq_iff_eq, Bool.and_eq_true]
    constructor
    · rintro ⟨h1, h2⟩
      rw [if_pos h1, if_pos (by omega), h2]
    · intro he
      split at he
      · split at he
        · exact ⟨by assumption, he⟩
        · omega
      · omega
  · rw [List.getElem?_append_right (by omega)] at hi
    have hk := (List.getElem?_eq_some_iff.1 hi).1
    have := ho (i - K1.length + 1) P (by simpa using hi)
    refine cast (congrArg P (part_own fun b => ?_)) this
    simp only [beq_iff_eq]
    constructor
    · intro he
      rw [if_neg (by omega)]
      omega
    · intro he
      split at he
      · split at he <;> omega
      · omega
/-- These places hold nothing any more. -/
def wipe (L : List HP) (js : List Nat) : List HP := js.foldl (fun L j => L.set j emp) L
theorem wipe_len (L : List HP) (js : List Nat) : (wipe L js).length = L.length := by
  unfold wipe
  induction js generalizing L with
  | nil => rfl
  | cons j js ih => rw [List.foldl_cons, ih, List.length_set]
theorem wipe_at (L : List HP) (js : List Nat) (m : Nat) {P : HP} (h : (wipe L js)[m]? = some P) : (m ∈ js ∧ P = emp) ∨ (m ∉ js ∧ L[m]? = some P) := by
  unfold wipe at h
  induction js generalizing L with
  | nil => exact .inr ⟨by simp, h⟩
  | cons j js ih =>
    rcases ih _ h with ⟨h1, h2⟩ | ⟨h1, h2⟩
    · exact .inl ⟨by simp [h1], h2⟩
    · rw [List.getElem?_set] at h2
      split at h2
      · rename_i e
        subst e
        split at h2
        · cases h2; exact .inl ⟨by simp, rfl⟩
        · cases h2
      · rename_i e
        exact .inr ⟨by simp [h1]; omega, h2⟩
theorem sepL_fold {L : List HP} {h : Nat → Option Obj} (s : sepL L h) (i : Nat) (js : List Nat) (hd : (i :: js).Nodup) (hi : i < L.length) : sepL ((wipe L js).set i (sepL ((i :: js).map fun j => L.getD j emp))) h := by
  obtain ⟨own, ho⟩ := s
  have hij : i ∉ js := (List.nodup_cons.1 hd).1
  refine ⟨fun b => if own b ∈ js then i else own b, fun m P hm => ?_⟩
  rw [List.getElem?_set] at hm
  split at hm
  · rename_i e
    subst e
    rw [if_pos (by rw [wipe_len]; exact hi)] at hm
    cases hm
    refine ⟨fun b => (i :: js).idxOf (own b), fun t Q hQ => ?_⟩
    rw [List.getElem?_map] at hQ
    obtain ⟨x, hx, rfl⟩ := Option.map_eq_some_iff.1 hQ
    obtain ⟨htl, hx⟩ := List.getElem?_eq_some_iff.1 hx
    cases hL : L[x]? with
    | none => simp [hL]; trivial
    | some P =>
      rw [getD_of hL, part_part]
      refine cast (congrArg P (part_own fun b => ?_)) (ho x P hL)
      simp only [beq_iff_eq, Bool.and_eq_true]
      constructor
      · intro he
        refine ⟨?_, ?_⟩
        · by_cases hj : own b ∈ js
          · rw [if_pos hj]
          · rw [if_neg hj]
            have : own b ∈ i :: js := by rw [he, ← hx]; exact List.getElem_mem htl
            rcases List.mem_cons.1 this with e | e
            · exact e
            · exact absurd e hj
        · rw [he, ← hx]
          exact List.Nodup.idxOf_getElem hd t htl
      · rintro ⟨_, he⟩
        have hmem : own b ∈ i :: js := List.idxOf_lt_length_iff.1 (by rw [he]; exact htl)
        have := List.getElem_idxOf (List.idxOf_lt_length_iff.2 hmem)
        simp only [he] at this
        exact this.symm.trans hx
  · rename_i hne
    rcases wipe_at L js m hm with ⟨_, rfl⟩ | ⟨hmj, hm⟩
    · trivial
    · refine cast (congrArg P (part_own fun b => ?_)) (ho m P hm)
      simp only [beq_iff_eq]
      constructor
      · intro he
        rw [if_neg (by rw [he]; exact hmj), he]
      · intro he
        split at he
        · omega
        · exact he
theorem above_eq {w0 w : World} {b : Nat} (h : w0.heap.size ≤ b) : above w0 w b = w.heap[b]? := by unfold above part; rw [if_pos (by simpa using h)]
theorem above_none {w0 w : World} {b : Nat} (h : w.heap.size ≤ b) : above w0 w b = none := by
  unfold above part
  split
  · simpa using h
  · rfl
theorem above_low {w0 w : World} {b : Nat} (h : b < w0.heap.size) : above w0 w b = none := by unfold above part; rw [if_neg (by simp; omega)]
theorem above_keep {w0 w w' : World} {b : Nat} (h : w'.heap[b]? = w.heap[b]?) : above w0 w b = above w0 w' b := by unfold above part; simp only [h]
namespace St
variable {w0 w w' : World} {L K : List HP} {X X' : HP} {n m : Nat}
theorem pick (h : St w0 w L) (is : List Nat) (hd : is.Nodup) : St w0 w (is.map fun i => L.getD i emp) := ⟨h.below, sepL_pick h.sep is hd⟩
theorem split (h : St w0 w L) (n : Nat) {K : List HP} (hn : L[n]? = some (sepL K)) : St w0 w (L.set n emp ++ K) := ⟨h.below, sepL_split h.sep hn⟩
theorem join (h : St w0 w L) (is js : List Nat) (hd : (is ++ js).Nodup) : St w0 w (sepL (is.map fun i => L.getD i emp) :: js.map fun i => L.getD i emp) := ⟨h.below, sepL_join h.sep is js hd⟩
theorem front (h : St w0 w L) (n : Nat) {X : HP} (hn : L[n]? = some X) : St w0 w [X, sepL (L.set n emp)] := ⟨h.below, sepL_front h.sep hn⟩
theorem back (h : St w0 w (X :: sepL (L.set n emp) :: K)) (hn : n < L.length) : St w0 w (L.set n X ++ K) := ⟨h.below, sepL_back hn h.sep⟩
theorem imp (h : St w0 w L) (n : Nat) {X X' : HP} (hn : L[n]? = some X) (H : ∀ h, X h → X' h) : St w0 w (L.set n X') := ⟨h.below, sepL_imp h.sep hn H⟩
theorem group (h : St w0 w (L ++ K)) : St w0 w (sepL L :: K) := ⟨h.below, sepL_group h.sep⟩
theorem ungroup (h : St w0 w (sepL L :: K)) : St w0 w (L ++ K) := ⟨h.below, sepL_ungroup h.sep⟩
theorem fold (h : St w0 w L) (i : Nat) (js : List Nat) (hd : (i :: js).Nodup) (hi : i < L.length) : St w0 w ((wipe L js).set i (sepL ((i :: js).map fun j => L.getD j emp))) := ⟨h.below, sepL_fold h.sep i js hd hi⟩
theorem wrap (h : St w0 w L) : St w0 w [sepL L] := group (L := L) (K := []) (by rwa [List.append_nil])
theorem unwrap (h : St w0 w (sepL L :: K)) : St w0 w (L ++ K) := h.ungroup
theorem start (w : World) : St w w [] := ⟨Below.refl _ _, fun _ => 0, fun i P h => by simp at h⟩
theorem drew (h : St w0 w L) : St w0 w.drew L := ⟨h.below.drew, h.sep⟩
theorem size (h : St w0 w L) : w0.heap.size ≤ w.heap.size := h.below.size
end St
/-- Something known of what is kept, and something unknown in it. -/
def andP (φ : Prop) (X : HP) : HP := fun h => φ ∧ X h
def exP {α : Type} (X : α → HP) : HP := fun h => ∃ x, X x h
theorem St.pure {w0 w : World} {L : List HP} (h : St w0 w L) (n : Nat) {φ : Prop} {X : HP} (hn : L[n]? = some (andP φ X)) : φ ∧ St w0 w (L.set n X) := by
  refine ⟨?_, h.imp n hn fun _ h => h.2⟩
  obtain ⟨own, ho⟩ := h.sep
  exact (ho n _ hn).1
theorem St.ex {w0 w : World} {L : List HP} (h : St w0 w L) (n : Nat) {α : Type} {X : α → HP} (hn : L[n]? = some (exP X)) : ∃ x, St w0 w (L.set n (X x)) := by
  obtain ⟨own, ho⟩ := h.sep
  obtain ⟨x, hx⟩ := ho n _ hn
  refine ⟨x, h.below, own, fun i P hi => ?_⟩
  rw [List.getElem?_set] at hi
  split at hi
  · rename_i e
    subst e
    split at hi
    · cases hi; exact hx
    · cases hi
  · exact ho i P hi
/-- One block, known whole. -/
def pt (b : Nat) (o : Obj) : HP := fun h => h b = some o
theorem part_some {h : Nat → Option Obj} {f : Nat → Bool} {b : Nat} {o : Obj} (e : part h f b = some o) : f b = true ∧ h b = some o := by
  unfold part at e
  split at e
  · rename_i hf; exact ⟨hf, e⟩
  · cases e
theorem above_some {w0 w : World} {b : Nat} {o : Obj} (e : above w0 w b = some o) : w0.heap.size ≤ b ∧ w.heap[b]? = some o := by
  have := part_some e
  exact ⟨by simpa using this.1, this.2⟩
theorem St.blk {w0 w : World} {L : List HP} (h : St w0 w L) (n : Nat) {b : Nat} {o : Obj} (hn : L[n]? = some (pt b o)) : w.heap[b]? = some o ∧ w0.heap.size ≤ b ∧ b < w.heap.size := by
  obtain ⟨own, ho⟩ := h.sep
  have h1 := above_some (part_some (ho n _ hn)).2
  exact ⟨h1.2, h1.1, (Array.getElem?_eq_some_iff.1 h1.2).1⟩
theorem St.ne {w0 w : World} {L : List HP} (h : St w0 w L) (n m : Nat) {b b' : Nat} {o o' : Obj} (hn : L[n]? = some (pt b o)) (hm : L[m]? = some (pt b' o')) (hd : n ≠ m) : b ≠ b' := by
  obtain ⟨own, ho⟩ := h.sep
  have h1 := (part_some (ho n _ hn)).1
  have h2 := (part_some (ho m _ hm)).1
  simp at h1 h2
  intro e
  subst e
  omega
theorem St.alloc {w0 w : World} {L : List HP} (h : St w0 w L) (o : Obj) : St w0 (w.alloc o) (L ++ [pt w.heap.size o]) := by
  refine ⟨h.below.alloc h.below.size o, ?_⟩
  obtain ⟨own, ho⟩ := h.sep
  have hs := h.below.size
  refine ⟨fun b => if b = w.heap.size then L.length else own b, fun i P hi => ?_⟩
  by_cases hil : i < L.length
  · rw [List.getElem?_append_left hil] at hi
    refine cast (congrArg P (part_eq (fun b hb => ?_) fun b hb => ?_)) (ho i P hi)
    · simp only [beq_iff_eq] at hb ⊢
      by_cases hbs : b = w.heap.size
      · exact .inr ⟨above_none (by omega), fun e => by rw [if_pos hbs] at e; omega⟩
      · exact .inl ⟨by rw [if_neg hbs, hb], above_keep (by show (w.heap.push o)[b]? = _; rw [Array.getElem?_push, if_neg hbs])⟩
    · simp only [beq_iff_eq] at hb ⊢
      split at hb
      · omega
      · exact .inl hb
  · rw [List.getElem?_append_right (by omega)] at hi
    have hk := (List.getElem?_eq_some_iff.1 hi).1
    obtain rfl : i = L.length := by simp at hk; omega
    simp at hi
    subst hi
    unfold pt
    show part _ _ _ = _
    unfold part
    rw [if_pos (by simp), above_eq hs]
    exact heap_new w o
theorem St.set {w0 w : World} {L : List HP} (h : St w0 w L) (n : Nat) {b : Nat} {cs : Array Value} {T : TypeId} {fr : Nat × Nat} (hn : L[n]? = some (pt b (.cells cs T fr))) (i : Nat) (v : Value) :
    St w0 (w.setCell ⟨b, i, none⟩ v) (L.set n (pt b (.cells (cs.setIfInBounds i v) T fr))) := by
  obtain ⟨hb, hlo, _⟩ := h.blk n hn
  refine ⟨h.below.setCell hlo v, ?_⟩
  obtain ⟨own, ho⟩ := h.sep
  have hob := (part_some (ho n _ hn)).1
  simp at hob
  refine ⟨own, fun j P hj => ?_⟩
  rw [List.getElem?_set] at hj
  split at hj
  · rename_i e
    subst e
    split at hj
    · cases hj
      show part _ _ _ = _
      unfold part
      rw [if_pos (by simpa using hob), above_eq hlo]
      exact heap_setCell_row hb i v
    · cases hj
  · rename_i hne
    refine cast (congrArg P (part_eq (fun b' hb' => ?_) fun b' hb' => .inl hb')) (ho j P hj)
    have hb'' := hb'
    simp only [beq_iff_eq] at hb''
    have hbb : b' ≠ b := by rintro rfl; omega
    exact .inl ⟨hb', above_keep (Below.heap_setCell w ⟨b, i, none⟩ v b' hbb)⟩
/-- Open one thing: what it is kept in, and how to close it behind a call that turned nothing else and made something new. -/
theorem St.opened2 {w0 w : World} {L : List HP} (h : St w0 w L) (n : Nat) {X : HP} (hn : L[n]? = some X) : ∃ F : Nat → Bool, (∀ b, F b = true → w0.heap.size ≤ b) ∧ X (part (fun b => w.heap[b]?) F) ∧
    ∀ (w' : World) (X' Y : HP) (F' G : Nat → Bool), (∀ b, F' b = true → F b = true ∨ w.heap.size ≤ b) → X' (part (fun b => w'.heap[b]?) F') → (∀ b, G b = true → w.heap.size ≤ b ∧ F' b = false) → Y (part (fun b => w'.heap[b]?) G) → w'.os = w.os → w'.tape = w.tape → w'.output = w.output → w.heap.size ≤ w'.heap.size →
      (∀ b, b < w.heap.size → F b = false → w'.heap[b]? = w.heap[b]?) → St w0 w' (L.set n X' ++ [Y]) := by
  obtain ⟨own, ho⟩ := h.sep
  have hs := h.below.size
  have hnl := (List.getElem?_eq_some_iff.1 hn).1
  refine ⟨fun b => decide (w0.heap.size ≤ b) && (own b == n), fun b hb => by simp at hb; exact hb.1, ?_, ?_⟩
  · have := ho n X hn
    unfold above at this
    rw [part_part] at this
    exact this
  intro w' X' Y F' G hF' hX' hG hY hos htp hou hsz hk
  have hF1 : ∀ b, F' b = true → w0.heap.size ≤ b ∧ (own b = n ∨ w.heap.size ≤ b) := fun b hb => by
    rcases hF' b hb with h | h
    · simp at h; exact ⟨h.1, .inl h.2⟩
    · exact ⟨by omega, .inr h⟩
  refine ⟨⟨hos.trans h.below.os, htp.trans h.below.tape, hou.trans h.below.output, by omega, fun b hb => (hk b (by omega) (by simp; omega)).trans (h.below.block b hb)⟩, fun b => if F' b then n else if G b then L.length else if b < w.heap.size ∧ own b ≠ n ∧ own b < L.length then own b else L.length + 1, fun i P hi => ?_⟩
  by_cases hil : i < L.length
  · rw [List.getElem?_append_left (by simpa using hil), List.getElem?_set] at hi
    split at hi
    · rename_i e
      subst e
      try rw [if_pos hnl] at hi
      cases hi
      refine cast (congrArg X' (part_eq (fun b hb => ?_) fun b hb => ?_)) hX'
      · exact .inl ⟨by simp [hb], (above_eq (hF1 b hb).1).symm⟩
      · simp only [beq_iff_eq] at hb
        split at hb
        · left; assumption
        · split at hb
          · omega
          · split at hb <;> omega
    · rename_i hne
      refine cast (congrArg P (part_eq (fun b hb => ?_) fun b hb => ?_)) (ho i P hi)
      · simp only [beq_iff_eq] at hb ⊢
        by_cases hbs : b < w.heap.size
        · have hFf : F' b = false := by
            cases hf : F' b
            · rfl
            · have := hF1 b hf; omega
          have hGf : G b = false := by
            cases hf : G b
            · rfl
            · have := hG b hf; omega
          by_cases hlo : w0.heap.size ≤ b
          · exact .inl ⟨by rw [if_neg (by simp [hFf]), if_neg (by simp [hGf]), if_pos ⟨hbs, by omega, by omega⟩, hb], above_keep (hk b hbs (by simp; omega))⟩
          · exact .inr ⟨above_low (by omega), fun _ => above_low (by omega)⟩
        · refine .inr ⟨above_none (by omega), fun e => ?_⟩
          split at e
          · omega
          · split at e
            · omega
            · split at e <;> omega
      · simp only [beq_iff_eq] at hb ⊢
        split at hb
        · omega
        · split at hb
          · omega
          · split at hb
            · exact .inl hb
            · omega
  · rw [List.getElem?_append_right (by simpa using hil)] at hi
    have hkk := (List.getElem?_eq_some_iff.1 hi).1
    obtain rfl : i = L.length := by simp at hkk; omega
    simp at hi
    subst hi
    refine cast (congrArg Y (part_eq (fun b hb => ?_) fun b hb => ?_)) hY
    · have := hG b hb
      exact .inl ⟨by simp [hb, this.2], (above_eq (by omega)).symm⟩
    · simp only [beq_iff_eq] at hb
      split at hb
      · omega
      · split at hb
        · left; assumption
        · split at hb <;> omega
theorem St.cut {w0 w : World} {L K : List HP} (h : St w0 w (L ++ K)) : St w0 w L := by
  refine ⟨h.below, ?_⟩
  obtain ⟨own, ho⟩ := h.sep
  exact ⟨own, fun i P hi => ho i P (by rw [List.getElem?_append_left (List.getElem?_eq_some_iff.1 hi).1]; exact hi)⟩
theorem St.opened {w0 w : World} {L : List HP} (h : St w0 w L) (n : Nat) {X : HP} (hn : L[n]? = some X) : ∃ F : Nat → Bool, (∀ b, F b = true → w0.heap.size ≤ b) ∧ X (part (fun b => w.heap[b]?) F) ∧
    ∀ (w' : World) (X' : HP) (F' : Nat → Bool), (∀ b, F' b = true → F b = true ∨ w.heap.size ≤ b) → X' (part (fun b => w'.heap[b]?) F') → w'.os = w.os → w'.tape = w.tape → w'.output = w.output → w.heap.size ≤ w'.heap.size →
      (∀ b, b < w.heap.size → F b = false → w'.heap[b]? = w.heap[b]?) → St w0 w' (L.set n X') := by
  obtain ⟨F, h1, h2, h3⟩ := h.opened2 n hn
  exact ⟨F, h1, h2, fun w' X' F' g1 g2 g3 g4 g5 g6 g7 => (h3 w' X' emp F' (fun _ => false) g1 g2 (fun _ h => by cases h) trivial g3 g4 g5 g6 g7).cut⟩
/-- A call that turned nothing of all that. -/
theorem St.kept {w0 w w' : World} {L : List HP} (h : St w0 w L) (hb : Below w.heap.size w w') : St w0 w' L := by
  refine ⟨h.below.trans (hb.mono h.below.size), ?_⟩
  obtain ⟨own, ho⟩ := h.sep
  refine ⟨fun b => if b < w.heap.size then own b else L.length, fun i P hi => ?_⟩
  have hil := (List.getElem?_eq_some_iff.1 hi).1
  refine cast (congrArg P (part_eq (fun b hb' => ?_) fun b hb' => ?_)) (ho i P hi)
  · simp only [beq_iff_eq] at hb' ⊢
    by_cases hbs : b < w.heap.size
    · exact .inl ⟨by rw [if_pos hbs, hb'], above_keep (hb.block b hbs)⟩
    · exact .inr ⟨above_none (by omega), fun e => by rw [if_neg hbs] at e; omega⟩
  · simp only [beq_iff_eq] at hb' ⊢
    split at hb'
    · exact .inl hb'
    · omega
/-- New blocks that are kept from now on. -/
theorem St.gain {w0 w w' : World} {L : List HP} (h : St w0 w L) (hb : Below w.heap.size w w') (X : HP) (F : Nat → Bool) (hF : ∀ b, F b = true → w.heap.size ≤ b) (hX : X (part (fun b => w'.heap[b]?) F)) : St w0 w' (L ++ [X]) := by
  refine ⟨h.below.trans (hb.mono h.below.size), ?_⟩
  have hs := h.below.size
  obtain ⟨own, ho⟩ := h.sep
  refine ⟨fun b => if b < w.heap.size then (if own b < L.length then own b else L.length + 1) else if F b then L.length else L.length + 1, fun i P hi => ?_⟩
  by_cases hil : i < L.length
  · rw [List.getElem?_append_left hil] at hi
    refine cast (congrArg P (part_eq (fun b hb' => ?_) fun b hb' => ?_)) (ho i P hi)
    · simp only [beq_iff_eq] at hb' ⊢
      by_cases hbs : b < w.heap.size
      · exact .inl ⟨by rw [if_pos hbs, if_pos (by omega), hb'], above_keep (hb.block b hbs)⟩
      · refine .inr ⟨above_none (by omega), fun e => ?_⟩
        rw [if_neg hbs] at e
        split at e <;> omega
    · simp only [beq_iff_eq] at hb' ⊢
      split at hb'
      · split at hb'
        · exact .inl hb'
        · omega
      · split at hb' <;> omega
  · rw [List.getElem?_append_right (by omega)] at hi
    have hk := (List.getElem?_eq_some_iff.1 hi).1
    obtain rfl : i = L.length := by simp at hk; omega
    simp at hi
    subst hi
    refine cast (congrArg X (part_eq (fun b hb' => ?_) fun b hb' => ?_)) hX
    · have hbs := hF b hb'
      exact .inl ⟨by simp only [beq_iff_eq]; rw [if_neg (by omega), if_pos hb'], (above_eq (by omega)).symm⟩
    · simp only [beq_iff_eq] at hb'
      split at hb'
      · split at hb' <;> omega
      · split at hb'
        · left; assumption
        · omega
end
/- SepSl -/
section
open Go.RowKit
/-- A slice of the call's own that may be appended to. -/
def ownP {α : Type} (e : TypeId) (c : Nat) (enc : α → List Value) (v : Value) (l : List α) : HP := fun h =>
  (v = .slice none 0 0 ∧ l = []) ∨ ∃ g cap cur, v = .slice (some ⟨g, 0, none⟩) l.length cap ∧ h g = some (.cells cur e (0, 0)) ∧ l.length ≤ cap ∧ cap ≤ maxLen ∧ cur.size = cap * c ∧ cur.toList.take (l.length * c) = l.flatMap enc
theorem St.at {w0 w : World} {L : List HP} (h : St w0 w L) (n : Nat) {X : HP} (hn : L[n]? = some X) : ∃ F : Nat → Bool, X (part (above w0 w) F) := by
  obtain ⟨own, ho⟩ := h.sep
  exact ⟨_, ho n X hn⟩
theorem St.owns {α : Type} {e : TypeId} {c : Nat} {enc : α → List Value} (hc : ∀ x, (enc x).length = c) {v : Value} {l : List α} {w0 w : World} {L : List HP} (h : St w0 w L) (n : Nat) (hn : L[n]? = some (ownP e c enc v l)) :
    w.ownsRow w0.heap.size e c v l.length (l.flatMap enc) := by
  obtain ⟨F, hF⟩ := h.at n hn
  refine ⟨flatMap_len hc l, ?_⟩
  rcases hF with ⟨rfl, rfl⟩ | ⟨g, cap, cur, rfl, hg, h1, h2, h3, h4⟩
  · exact .inl ⟨rfl, rfl⟩
  · have := above_some (part_some hg).2
    exact .inr ⟨g, cap, cur, rfl, this.1, this.2, h1, h2, h3, h4⟩
theorem ownP_of {α : Type} {e : TypeId} {c B : Nat} {enc : α → List Value} {v : Value} {l : List α} {w : World} (h : w.ownsRow B e c v l.length (l.flatMap enc)) {f : Nat → Option Obj} (hf : ∀ g, v.ownBlock = some g → f g = w.heap[g]?) : ownP e c enc v l f := by
  rcases h.2 with ⟨rfl, h1⟩ | ⟨g, cap, cur, rfl, hB, hg, h1, h2, h3, h4⟩
  · exact .inl ⟨rfl, List.eq_nil_of_length_eq_zero h1⟩
  · exact .inr ⟨g, cap, cur, rfl, (hf g rfl).trans hg, h1, h2, h3, h4⟩
/-- A row of a call's own, kept from now on. -/
theorem St.gainOwn {α : Type} {e : TypeId} {c : Nat} {enc : α → List Value} {v : Value} {l : List α} {w0 w w' : World} {L : List HP} (h : St w0 w L) (hb : Below w.heap.size w w') (ho : w'.ownsRow w.heap.size e c v l.length (l.flatMap enc)) :
    St w0 w' (L ++ [ownP e c enc v l]) := by
  refine h.gain hb _ (fun b => decide (v.ownBlock = some b)) (fun b hbt => (ho.lt b (by simpa using hbt)).1) (ownP_of ho fun g hg => ?_)
  unfold part
  rw [if_pos (by simp [hg])]
/-- Nothing yet: a nil slice. -/
theorem St.nil {α : Type} (e : TypeId) (c : Nat) (enc : α → List Value) {w0 w : World} {L : List HP} (h : St w0 w L) : St w0 w (L ++ [ownP e c enc (.slice none 0 0) ([] : List α)]) :=
  h.gain (Below.refl _ _) _ (fun _ => false) (fun _ h => by cases h) (.inl ⟨rfl, rfl⟩)
theorem St.emp {w0 w : World} {L : List HP} (h : St w0 w L) (X : HP) (hX : ∀ h, X h) : St w0 w (L ++ [X]) :=
  h.gain (Below.refl _ _) _ (fun _ => false) (fun _ h => by cases h) (hX _)
/-- A literal's block, kept as a slice that may be appended to. -/
theorem ownP_lit {α : Type} {e : TypeId} {c : Nat} {enc : α → List Value} (hc : ∀ x, (enc x).length = c) {g : Nat} {l : List α} (hm : l.length ≤ maxLen) {h : Nat → Option Obj} (hp : pt g (.cells (l.flatMap enc).toArray e (0, 0)) h) : ownP e c enc (.slice (some ⟨g, 0, none⟩) l.length l.length) l h := by
  refine .inr ⟨g, l.length, _, rfl, hp, Nat.le_refl _, hm, by simp [-List.length_flatMap, flatMap_len hc], ?_⟩
  rw [← flatMap_len hc]
  simp [-List.length_flatMap]
theorem St.sl {α : Type} {e : TypeId} {c : Nat} {enc : α → List Value} (hc : ∀ x, (enc x).length = c) {v : Value} {l : List α} {w0 w : World} {L : List HP} (h : St w0 w L) (n : Nat) (hn : L[n]? = some (ownP e c enc v l)) :
    ∃ a cap, v = .slice a l.length cap ∧ l.length ≤ cap ∧ cap ≤ maxLen ∧ (a = none → cap = 0) ∧ SlAt c (flat enc) w a l := by
  obtain ⟨a, cap, h1, h2, h3, h4, _, h5⟩ := slAt_of_own hc (h.owns hc n hn)
  exact ⟨a, cap, h1, h2, h3, h4, h5⟩
theorem St.slOf {α : Type} {e : TypeId} {c : Nat} {enc : α → List Value} (hc : ∀ x, (enc x).length = c) {a : Option Addr} {k cap : Nat} {l : List α} {w0 w : World} {L : List HP} (h : St w0 w L) (n : Nat) (hn : L[n]? = some (ownP e c enc (.slice a k cap) l)) : SlAt c (flat enc) w a l := by
  obtain ⟨a', cap', hv, _, _, _, h5⟩ := h.sl hc n hn
  cases hv
  exact h5
/-- Behind an append to a slice that is kept. -/
theorem St.appended {α : Type} {e : TypeId} {c : Nat} {enc : α → List Value} {v v' : Value} {l l' : List α} {w0 w w' : World} {L : List HP} (h : St w0 w L) (n : Nat) (hn : L[n]? = some (ownP e c enc v l)) {B : Nat}
    (h1 : w'.ownsRow B e c v' l'.length (l'.flatMap enc)) (h2 : w.grownBy w' v.ownBlock) (h3 : ∀ k, v'.ownBlock = some k → v.ownBlock = some k ∨ w.heap.size ≤ k) : St w0 w' (L.set n (ownP e c enc v' l')) := by
  obtain ⟨F, hF, hX, hcl⟩ := h.opened n hn
  have hvF : ∀ k, v.ownBlock = some k → F k = true := by
    intro k hk
    rcases hX with ⟨rfl, _⟩ | ⟨g, cap, cur, rfl, hg, _⟩
    · cases hk
    · cases hk
      exact (part_some hg).1
  refine hcl w' _ (fun b => decide (v'.ownBlock = some b)) (fun b hb => ?_) (ownP_of h1 fun g hg => ?_) h2.os h2.tape h2.output h2.size fun b hb hFb => h2.block b hb fun e => ?_
  · rcases h3 b (by simpa using hb) with h | h
    · exact .inl (hvF b h)
    · exact .inr h
  · unfold part
    rw [if_pos (by simp [hg])]
  · have := hvF b e.symm
    rw [hFb] at this
    cases this
theorem run_append_where {P : Program} (w : World) (base : Nat) (t ty e : TypeId) (i : TypeInfo) (z : Value) (size bytes : Nat) (ht : P.underlying t = some (.slice e)) (hi : P.info? e = some i) (hz : i.zero = some z)
    (hsize : i.size = size) (hby : i.bytes = bytes) (hzs : z.cells.size = size) (hsz : 0 < size)
    (v : Value) (n : Nat) (xs : List Value) (hown : w.ownsRow base e size v n xs)
    (a : Addr) (m c : Nat) (news : List Value) (hl : news.length = m * size) (hnews : ∀ j u, news[j]? = some u → w.cell? (a.add j) = some u) (h1 : ∀ u ∈ news, u.oneCell' = true)
    (h63 : n + m ≤ maxLen) (hbytes : (n + m) * bytes ≤ 140737488355328) (hbase : base ≤ w.heap.size) :
    ∃ v' w', (Builtin.append_ #[t, t] ty #[v, .slice (some a) m c]).run P w = .ok v' w' ∧ w'.ownsRow base e size v' (n + m) (xs ++ news) ∧ w.grownBy w' v.ownBlock ∧
      (v' = .slice none 0 0 ↔ v = .slice none 0 0 ∧ m = 0) ∧ ∀ k, v'.ownBlock = some k → v.ownBlock = some k ∨ w.heap.size ≤ k := by
  obtain ⟨v', w', hr, h2, h3, h4⟩ := run_append_own (P := P) w base t ty e i z size bytes ht hi hz hsize hby hzs hsz v n xs hown a m c news hl hnews h1 h63 hbytes hbase
  refine ⟨v', w', hr, h2, h3, h4, ?_⟩
  subst hsize
  have hsmall : n + m ≤ 9223372036854775807 := by simp only [maxLen] at h63; omega
  rcases hown.2 with ⟨rfl, rfl⟩ | ⟨g, cap, cur, rfl, hbg, hg, hnc, hcm, hcs, htake⟩
  · have hx : xs = [] := List.eq_nil_of_length_eq_zero (by simpa using hown.1)
    subst hx
    obtain ⟨v2, w2, hr2, g2, _, _⟩ := run_append_own (P := P) w w.heap.size t ty e i z i.size bytes ht hi hz rfl hby hzs hsz (.slice none 0 0) 0 [] (World.ownsRow_nil _ _ _ _) a m c news hl hnews h1 h63 hbytes (Nat.le_refl _)
    rw [hr] at hr2
    cases hr2
    exact fun k hk => .inr (g2.lt k hk).1
  · by_cases hroom : n + m ≤ cap
    · have hfit : n * i.size + news.length ≤ cur.size := by rw [hl, hcs, ← Nat.add_mul]; exact Nat.mul_le_mul_right _ hroom
      have hr2 := run_append_room (P := P) w t ty e i ht hi g n cap cur hg a m c news hl hnews h1 hroom hfit
      rw [hr] at hr2
      cases hr2
      exact fun k hk => .inl hk
    · have holds : ∀ j u, xs[j]? = some u → w.cell? ((⟨g, 0, none⟩ : Addr).add j) = some u := hown.cells (g := g) rfl
      have hr2 := run_append_grow (P := P) w t ty e i z ht hi hz ⟨g, 0, none⟩ n cap xs hown.1 holds a m c news hl hnews (by omega) (by omega) (growslice_fits (by omega) (by subst hby; exact hbytes))
      rw [hr] at hr2
      cases hr2
      exact fun k hk => .inr (by cases hk; exact Nat.le_refl _)
theorem ownP_empty {α : Type} {e : TypeId} {c : Nat} {enc : α → List Value} {g : Nat} {h : Nat → Option Obj} (hp : pt g (.cells #[] e (0, 0)) h) : ownP e c enc (.slice (some ⟨g, 0, none⟩) 0 0) ([] : List α) h :=
  .inr ⟨g, 0, #[], rfl, hp, Nat.le_refl _, Nat.zero_le _, by simp, by simp⟩
/-- What an append must know of a type of elements. -/
structure Elem (P : Program) (t e : TypeId) {α : Type} (c : Nat) (enc : α → List Value) : Prop where
  len : ∀ x, (enc x).length = c
  pos : 0 < c
  one : ∀ x, ∀ u ∈ enc x, u.oneCell' = true
  under : P.underlying t = some (.slice e)
  info : ∃ i z, P.info? e = some i ∧ i.zero = some z ∧ i.size = c ∧ i.bytes ≤ 128 ∧ z.cells.size = c
section
variable {P : Program} {α : Type} {enc : α → List Value} {c : Nat} {w0 w : World} {L : List HP}
theorem wp_append_st {t e : TypeId} (E : Elem P t e c enc) {o : Oper} {a : Act} {K : Act → World → Prop} {Q : Exit → Act → World → Prop} (hst : St w0 w L) (n : Nat) {v : Value} {l0 : List α} (hn : L[n]? = some (ownP e c enc v l0))
    (s x : Operand) (ho : o.op = .call { callee := .builtin .append, args := #[s, x], argTypes := #[t, t] }) (hs : a.eval s = v)
    (ad : Option Addr) (cap : Nat) (l : List α) (hx : a.eval x = .slice ad l.length cap) (hnil : ad = none → cap = 0) (hsl : SlAt c (flat enc) w ad l) (hlen : l0.length + l.length ≤ 1099511627776)
    (h : ∀ v' w', St w0 w' (L.set n (ownP e c enc v' (l0 ++ l))) → (v ≠ .slice none 0 0 → v' ≠ .slice none 0 0) → K (a.put o.dst v') w') : o.wp P a w K Q := by
  obtain ⟨i, z, hi, hz, hsize, hby, hzs⟩ := E.info
  have hown := hst.owns E.len n hn
  match ad, hnil, hsl, hx with
  | none, hnil, hsl, hx =>
    have hl : l = [] := by rcases hsl with h | ⟨b, o, he, _⟩; exact h; cases he
    subst hl
    rw [hnil rfl] at hx
    have hrun := run_append_owned_none (P := P) (w := w) w0.heap.size t o.type e i c E.under hi v _ _ hown
    unfold Oper.wp
    simp [execOp, ho, resolve, invoke, builtin, hs, hx, hrun, Result.andThen]
    refine h v w ?_ id
    rw [List.append_nil]
    exact hst.imp n hn fun _ h => h
  | some ad, hnil, hsl, hx =>
    obtain ⟨v', w', hr, h2, h3, h4, h5⟩ := run_append_where (P := P) w w0.heap.size t o.type e i z c i.bytes E.under hi hz hsize rfl hzs E.pos v _ _ hown ad l.length cap (l.flatMap enc) (flatMap_len E.len l)
      (by
        intro j u hu
        rcases hsl with rfl | ⟨b, o, he, hlt, hh⟩
        · simp at hu
        · simp at he
          subst he
          have := SlAt.cells E.len E.pos (b := b) (o := o) (.inr ⟨b, o, rfl, hlt, hh⟩) j u hu
          rw [← this]
          congr 1
          simp [Addr.add])
      (by
        intro u hu
        simp at hu
        obtain ⟨x, _, hx⟩ := hu
        exact E.one x u hx)
      (by unfold maxLen; omega) (Nat.le_trans (Nat.mul_le_mul hlen hby) (by decide)) hst.size
    unfold Oper.wp execOp
    simp only [ho, resolve, invoke, builtin, Sem.run_bind, Sem.run_pure, Result.andThen_ok, List.map_toArray, List.map_cons, List.map_nil, hs, hx, hr]
    refine h v' w' (hst.appended n hn (by rw [List.flatMap_append, List.length_append]; exact h2) h3 h5) fun hv hv' => hv (h4.1 hv').1
theorem wpList_append_st {t e : TypeId} (E : Elem P t e c enc) {ops : Array Oper} {rest : List Oper} {o : Oper} {a : Act} {Q : Exit → Act → World → Prop} (hgd : o.guard = none) (hst : St w0 w L) (n : Nat) {v : Value} {l0 : List α} (hn : L[n]? = some (ownP e c enc v l0))
    (s x : Operand) (ho : o.op = .call { callee := .builtin .append, args := #[s, x], argTypes := #[t, t] }) (hs : a.eval s = v)
    (ad : Option Addr) (cap : Nat) (l : List α) (hx : a.eval x = .slice ad l.length cap) (hnil : ad = none → cap = 0) (hsl : SlAt c (flat enc) w ad l) (hlen : l0.length + l.length ≤ 1099511627776)
    (h : ∀ v' w', St w0 w' (L.set n (ownP e c enc v' (l0 ++ l))) → (v ≠ .slice none 0 0 → v' ≠ .slice none 0 0) → wpList P ops Q rest (a.put o.dst v') w') : wpList P ops Q (o :: rest) a w :=
  wpList_plain hgd fun K hK => wp_append_st E hst n hn s x ho hs ad cap l hx hnil hsl hlen fun v' w' h1 h2 => hK _ _ (h v' w' h1 h2)
/-- The same at a step of a region that draws its order. -/
theorem step_append_st {t e : TypeId} (E : Elem P t e c enc) {ops : Array Oper} {o : Oper} {a : Act} {K : Act → World → Prop} {Q : Exit → Act → World → Prop} {F : Prop} (hgd : o.guard = none) (hst : St w0 w L) (n : Nat) {v : Value} {l0 : List α} (hn : L[n]? = some (ownP e c enc v l0))
    (s x : Operand) (ho : o.op = .call { callee := .builtin .append, args := #[s, x], argTypes := #[t, t] }) (hs : a.eval s = v)
    (ad : Option Addr) (cap : Nat) (l : List α) (hx : a.eval x = .slice ad l.length cap) (hnil : ad = none → cap = 0) (hsl : SlAt c (flat enc) w ad l) (hlen : l0.length + l.length ≤ 1099511627776)
    (h : ∀ v' w', St w0 w' (L.set n (ownP e c enc v' (l0 ++ l))) → (v ≠ .slice none 0 0 → v' ≠ .slice none 0 0) → K (a.put o.dst v') w') : if Region.wanted o (yielded ops a.tmps) = true then Oper.wp P o a w K Q else F := by
  have hw : Region.wanted o (yielded ops a.tmps) = true := by simp [Region.wanted, hgd]
  rw [if_pos hw]
  exact wp_append_st E hst n hn s x ho hs ad cap l hx hnil hsl hlen h
/-- 'append([]T{}, x...)': a copy of its own. -/
theorem wpList_copy_st {t e : TypeId} (E : Elem P t e c enc) {ops : Array Oper} {rest : List Oper} {o : Oper} {a : Act} {Q : Exit → Act → World → Prop} (hgd : o.guard = none) (hst : St w0 w L) (n : Nat) {g : Nat} (hn : L[n]? = some (pt g (.cells #[] e (0, 0))))
    (s x : Operand) (ho : o.op = .call { callee := .builtin .append, args := #[s, x], argTypes := #[t, t] }) (hs : a.eval s = .slice (some ⟨g, 0, none⟩) 0 0)
    (ad : Option Addr) (cap : Nat) (l : List α) (hx : a.eval x = .slice ad l.length cap) (hnil : ad = none → cap = 0) (hsl : SlAt c (flat enc) w ad l) (hlen : l.length ≤ 1099511627776)
    (h : ∀ b cap' w', St w0 w' (L.set n (ownP e c enc (.slice (some ⟨b, 0, none⟩) l.length cap') l)) → wpList P ops Q rest (a.put o.dst (.slice (some ⟨b, 0, none⟩) l.length cap')) w') : wpList P ops Q (o :: rest) a w := by
  have hnl := (List.getElem?_eq_some_iff.1 hn).1
  have hn1 : (L.set n (ownP e c enc (.slice (some ⟨g, 0, none⟩) 0 0) ([] : List α)))[n]? = some (ownP e c enc (.slice (some ⟨g, 0, none⟩) 0 0) ([] : List α)) := by simp [hnl]
  have hst1 : St w0 w (L.set n (ownP e c enc (.slice (some ⟨g, 0, none⟩) 0 0) ([] : List α))) := hst.imp n hn fun h hp => ownP_empty hp
  refine wpList_append_st E hgd hst1 n hn1 s x ho hs ad cap l hx hnil hsl (by simpa using hlen) fun v' w' h1 h2 => ?_
  rw [List.nil_append, List.set_set] at h1
  have hn2 : (L.set n (ownP e c enc v' l))[n]? = some (ownP e c enc v' l) := by simp [hnl]
  obtain ⟨F, hF⟩ := h1.at n hn2
  rcases hF with ⟨hv, _⟩ | ⟨b, cap2, cur, rfl, _⟩
  · exact absurd hv (h2 (by simp))
  · exact h b cap2 w' h1
/-- One element more: it lies in a block of its own. -/
theorem wpList_push_st {t e : TypeId} (E : Elem P t e c enc) {ops : Array Oper} {rest : List Oper} {o : Oper} {a : Act} {Q : Exit → Act → World → Prop} (hgd : o.guard = none) (hst : St w0 w L) (n : Nat) {v : Value} {l0 : List α} (hn : L[n]? = some (ownP e c enc v l0))
    (s x : Operand) (ho : o.op = .call { callee := .builtin .append, args := #[s, x], argTypes := #[t, t] }) (hs : a.eval s = v)
    (g : Nat) (y : α) (hx : a.eval x = .slice (some ⟨g, 0, none⟩) 1 1) (hg : w.heap[g]? = some (.cells (enc y).toArray e (0, 0))) (hlen : l0.length < 1099511627776)
    (h : ∀ v' w', St w0 w' (L.set n (ownP e c enc v' (l0 ++ [y]))) → (v ≠ .slice none 0 0 → v' ≠ .slice none 0 0) → wpList P ops Q rest (a.put o.dst v') w') : wpList P ops Q (o :: rest) a w :=
  wpList_append_st E hgd hst n hn s x ho hs (some ⟨g, 0, none⟩) 1 [y] hx (by simp) (SlAt.one E.len hg) (by show l0.length + 1 ≤ _; omega) h
end
/-- A slice that lies in what is not turned. -/
def Seen {α : Type} (w0 : World) (R : HP) (c : Nat) (enc : α → List Value) (a : Option Addr) (l : List α) : Prop := ∀ (w' : World) (L' : List HP) (m : Nat), St w0 w' L' → L'[m]? = some R → SlAt c (flat enc) w' a l
theorem Seen.old {α : Type} {w0 : World} {R : HP} {c : Nat} {enc : α → List Value} {a : Option Addr} {l : List α} (h : SlAt c (flat enc) w0 a l) : Seen w0 R c enc a l := fun w' L' m hs hm => h.below hs.below (fun _ _ h => h)
theorem Seen.own {α : Type} {w0 : World} {K : List HP} {c : Nat} {enc : α → List Value} (hc : ∀ x, (enc x).length = c) {e : TypeId} {a : Option Addr} {k cap : Nat} {l : List α} (n : Nat) (h : K[n]? = some (ownP e c enc (.slice a k cap) l)) : Seen w0 (sepL K) c enc a l := by
  intro w' L' m hs hm
  have h1 := hs.split m hm
  refine h1.slOf hc (L'.length + n) (e := e) (k := k) (cap := cap) ?_
  rw [List.getElem?_append_right (by simp)]
  simpa using h
theorem Seen.take {α : Type} {w0 : World} {R : HP} {c : Nat} {enc : α → List Value} {a : Option Addr} {l : List α} (h : Seen w0 R c enc a l) (n : Nat) : Seen w0 R c enc a (l.take n) := fun w' L' m hs hm => (h w' L' m hs hm).take n
theorem Seen.drop {α : Type} {w0 : World} {R : HP} {c : Nat} {enc : α → List Value} {b o : Nat} {l : List α} (h : Seen w0 R c enc (some ⟨b, o, none⟩) l) (n : Nat) : Seen w0 R c enc (some ⟨b, o + n * c, none⟩) (l.drop n) := fun w' L' m hs hm => (h w' L' m hs hm).drop n
end
/- PanesSt -/
section
open Go.RowKit Go.Maps
def panesP (pb : Nat) (sz sl kd : Int) (N : Nat) (L : PL) : HP := fun h =>
  (GoodL kd sz sl N L ∧ (Lit.int .i64 kd).wf = true) ∧ ∃ (u : World) (mb : Nat), PanesAt u pb mb sz sl kd L ∧ h pb = u.heap[pb]? ∧ h mb = u.heap[mb]?
theorem panesP_good {pb N : Nat} {sz sl kd : Int} {M : PL} {w0 w : World} {L : List HP} (h : St w0 w L) (n : Nat) (hn : L[n]? = some (panesP pb sz sl kd N M)) : GoodL kd sz sl N M ∧ SortedL M ∧ (Lit.int .i64 kd).wf = true := by
  obtain ⟨F, hF⟩ := h.at n hn
  obtain ⟨⟨hG, hk⟩, u, mb, hP, _⟩ := hF
  exact ⟨hG, hP.2.sorted, hk⟩
/-- The windows that are open, at a world. -/
theorem panesP_at {pb N : Nat} {sz sl kd : Int} {M : PL} {w0 w : World} {L : List HP} (h : St w0 w L) (n : Nat) (hn : L[n]? = some (panesP pb sz sl kd N M)) : ∃ mb, w0.heap.size ≤ mb ∧ PanesAt w pb mb sz sl kd M ∧
    ∀ (w' : World) (N' : Nat) (M' : PL) (Y : HP) (G : Nat → Bool), w.grownBy w' (some mb) → PanesAt w' pb mb sz sl kd M' → GoodL kd sz sl N' M' → (∀ b, G b = true → w.heap.size ≤ b) → Y (part (fun b => w'.heap[b]?) G) → St w0 w' (L.set n (panesP pb sz sl kd N' M') ++ [Y]) := by
  obtain ⟨F, hF, ⟨⟨hG, hk⟩, u, mb, hP, h1, h2⟩, hcl⟩ := h.opened2 n hn
  obtain ⟨es, ck, hu⟩ := hP.2.block
  rw [hP.1] at h1
  rw [hu] at h2
  have h1' := part_some h1
  have h2' := part_some h2
  have hat : PanesAt w pb mb sz sl kd M := hP.same (by rw [hP.1]; exact h1'.2) (by rw [hu]; exact h2'.2)
  refine ⟨mb, hF mb h2'.1, hat, fun w' N' M' Y G hg hP' hG' hGf hY => ?_⟩
  refine hcl w' _ Y (fun b => F b && decide (b < w.heap.size)) G (fun b hb => .inl (by simp at hb; exact hb.1)) ⟨⟨hG', hk⟩, w', mb, hP', ?_, ?_⟩ (fun b hb => ⟨hGf b hb, by have := hGf b hb; simp; omega⟩) hY hg.os hg.tape hg.output hg.size fun b hb hFb => hg.block b hb fun e => ?_
  · unfold part; rw [if_pos (by simp [h1'.1, hat.lt])]
  · unfold part; rw [if_pos (by simp [h2'.1, hat.2.lt])]
  · cases e
    rw [h2'.1] at hFb
    cases hFb
theorem St.gainPanes {pb mb N : Nat} {sz sl kd : Int} {M : PL} {w0 w w' : World} {L : List HP} (h : St w0 w L) (hb : Below w.heap.size w w') (hP : PanesAt w' pb mb sz sl kd M) (h1 : w.heap.size ≤ pb) (h2 : w.heap.size ≤ mb) (hG : GoodL kd sz sl N M) (hk : (Lit.int .i64 kd).wf = true) :
    St w0 w' (L ++ [panesP pb sz sl kd N M]) := by
  refine h.gain hb _ (fun b => decide (b = pb ∨ b = mb)) (fun b hb => ?_) ⟨⟨hG, hk⟩, w', mb, hP, ?_, ?_⟩
  · rcases of_decide_eq_true hb with rfl | rfl
    · exact h1
    · exact h2
  · unfold part; rw [if_pos (by simp)]
  · unfold part; rw [if_pos (by simp)]
section
variable {pb N : Nat} {sz sl kd : Int} {M : PL} {w0 w : World} {L : List HP}
theorem panesNew_st (sz sl kd : Int) (hk : (Lit.int .i64 kd).wf = true) (h : St w0 w L) : Calls Tryz.prog 88 #[.int .i64 sz, .int .i64 sl, .int .i64 kd] w fun e w' => ∃ pb, e = .returned (.pointer (some ⟨pb, 0, none⟩)) ∧ St w0 w' (L ++ [panesP pb sz sl kd 0 []]) :=
  (panesNew_any sz sl kd w).mono (by
    rintro e w' ⟨pb, mb, rfl, h1, h2, hP, hb⟩
    exact ⟨pb, rfl, h.gainPanes hb hP h1 h2 (GoodL.empty _ _ _) hk⟩)
theorem panesPut_st (h : St w0 w L) (n : Nat) (hn : L[n]? = some (panesP pb sz sl kd N M)) (a : Option Addr) (cap : Nat) (es : List Ev) (hes : SlAt 4 (flat Ev.cells) w a es) (hwf : ∀ e ∈ es, e.wf) (hN : N + 8 * es.length < 2 ^ 40) :
    Calls Tryz.prog 112 #[.pointer (some ⟨pb, 0, none⟩), .slice a es.length cap] w fun e w' => e = .returned (.tuple #[]) ∧ St w0 w' (L.set n (panesP pb sz sl kd (N + 8 * es.length) (putL kd sz sl M es))) := by
  obtain ⟨hG, hs, hk⟩ := panesP_good h n hn
  obtain ⟨mb, hm, hP, hcl⟩ := panesP_at h n hn
  exact (put_any pb mb sz sl kd M N a cap es w hP hG hk hes hwf hN).mono (by
    rintro e w' ⟨rfl, h1, h2⟩
    exact ⟨rfl, (hcl w' _ _ emp (fun _ => false) h2 h1 (GoodL.putL hk es N M hwf hG hs (by omega)).1 (fun _ h => by cases h) trivial).cut⟩)
theorem panesPut1_st (h : St w0 w L) (n : Nat) (hn : L[n]? = some (panesP pb sz sl kd N M)) (m : Nat) {g : Nat} {x : Ev} (hm : L[m]? = some (pt g (.cells #[.int .i64 x.time, .int .i64 x.key, .int .i64 x.value, .int .u64 x.label] 63 (0, 0)))) (hx : x.wf) (hN : N + 8 < 2 ^ 40) :
    Calls Tryz.prog 112 #[.pointer (some ⟨pb, 0, none⟩), .slice (some ⟨g, 0, none⟩) 1 1] w fun e w' => e = .returned (.tuple #[]) ∧ St w0 w' (L.set n (panesP pb sz sl kd (N + 8) (putE kd sz sl M x))) :=
  (panesPut_st h n hn (some ⟨g, 0, none⟩) 1 [x] (SlAt.one Ev.len (h.blk m hm).1) (by simpa using hx) (by simpa using hN)).mono fun e w' h => h
theorem panesClose_st (h : St w0 w L) (n : Nat) (hn : L[n]? = some (panesP pb sz sl kd N M)) (mark : Int) (hN : N < 2 ^ 40) :
    Calls Tryz.prog 91 #[.pointer (some ⟨pb, 0, none⟩), .int .i64 mark] w fun e w' => ∃ v, e = .returned v ∧ St w0 w' (L.set n (panesP pb sz sl kd N (keepL sz mark M)) ++ [ownP 55 5 Rw.cells v (rowsL (doneL sz mark M))]) := by
  obtain ⟨hG, hs, hk⟩ := panesP_good h n hn
  obtain ⟨mb, hm, hP, hcl⟩ := panesP_at h n hn
  refine (close_any pb mb sz sl kd M N mark w hP hG hN).mono ?_
  rintro e w' ⟨v, rfl, h1, h2, h3⟩
  refine ⟨v, rfl, hcl w' N _ _ (fun b => decide (v.ownBlock = some b)) h3 h2 (hG.keep mark) (fun b hb => (h1.lt b (by simpa using hb)).1) (ownP_of h1 fun g hg => ?_)⟩
  unfold part
  rw [if_pos (by simp [hg])]
theorem panesLen_st (h : St w0 w L) (n : Nat) (hn : L[n]? = some (panesP pb sz sl kd N M)) :
    Calls Tryz.prog 34 #[.pointer (some ⟨pb, 0, none⟩)] w fun e w' => e = .returned (.int .i64 M.length) ∧ St w0 w' L := by
  obtain ⟨mb, hm, hP, hcl⟩ := panesP_at h n hn
  refine (len_any pb mb sz sl kd M w hP).mono ?_
  rintro e w' ⟨rfl, h2⟩
  exact ⟨rfl, h.kept h2⟩
theorem panesCopy_st (h : St w0 w L) (n : Nat) (hn : L[n]? = some (panesP pb sz sl kd N M)) :
    Calls Tryz.prog 103 #[.pointer (some ⟨pb, 0, none⟩)] w fun e w' => ∃ qb, e = .returned (.pointer (some ⟨qb, 0, none⟩)) ∧ St w0 w' (L ++ [panesP qb sz sl kd N M]) := by
  obtain ⟨hG, hs, hk⟩ := panesP_good h n hn
  obtain ⟨mb, hm, hP, hcl⟩ := panesP_at h n hn
  refine (copy_any pb mb sz sl kd M w hP).mono ?_
  rintro e w' ⟨qb, nb, rfl, h1, h2, h3, h4⟩
  exact ⟨qb, rfl, h.gainPanes h4 h3 h1 h2 hG hk⟩
end
end
end Go.Proofs.YtdncpihaeobaeaaGreat
