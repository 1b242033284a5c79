/- Comparing places; sorting them. -/
import Derived.Test.YthegopajkljlmaaCollect
import Derived.Test.YthegopajkljlmaaLay
set_option linter.unusedVariables false
namespace Go.Proofs.Ythegopajkljlmaa
open Go.Shelf Go.RowKit Go.Lib Go.Sort Go.Proofs
instance : Inhabited Pl := ⟨⟨(0, 0), by decide, by decide⟩⟩
def cmpI (a b : Int) : Int := if a < b then -1 else if b < a then 1 else 0
theorem isNaN_int (a : Int) (w : World) : Calls Try.prog 78 #[.int .i64 a] w fun e w' => e = .returned (.bool false) ∧ w' = w := by
  go_enter Try.func78, Try.ntmps78
  go_wp2
  go_ret
  exact ⟨by simp, rfl⟩
theorem cmp_int (a b : Int) (w : World) : Calls Try.prog 67 #[.int .i64 a, .int .i64 b] w fun e w' => e = .returned (.int .i64 (cmpI a b)) ∧ w' = w := by
  unfold cmpI
  by_cases h1 : a < b
  · rw [if_pos h1]
    go_enter Try.func67, Try.ntmps67
    go_wp2_with (go_at_call 78; refine (isNaN_int _ _).mono ?_; rintro e w' ⟨rfl, rfl⟩)
    go_ret
    exact ⟨rfl, rfl⟩
  · rw [if_neg h1]
    by_cases h2 : b < a
    · rw [if_pos h2]
      go_enter Try.func67, Try.ntmps67
      go_wp2_with (go_at_call 78; refine (isNaN_int _ _).mono ?_; rintro e w' ⟨rfl, rfl⟩)
      go_ret
      exact ⟨rfl, rfl⟩
    · rw [if_neg h2]
      go_enter Try.func67, Try.ntmps67
      go_wp2_with (go_at_call 78; refine (isNaN_int _ _).mono ?_; rintro e w' ⟨rfl, rfl⟩)
      go_ret
      exact ⟨rfl, rfl⟩
def first2 (p q : Int) : Int := if p ≠ 0 then p else q
theorem or_two (p q : Int) (ab : Nat) (w : World) (c0 : w.cell? ⟨ab, 0, none⟩ = some (.int .i64 p)) (c1 : w.cell? ⟨ab, 1, none⟩ = some (.int .i64 q)) :
    Calls Try.prog 66 #[.slice (some ⟨ab, 0, none⟩) 2 2] w fun e w' => e = .returned (.int .i64 (first2 p q)) ∧ w' = w := by
  unfold first2
  by_cases h1 : p = 0
  · rw [if_neg (by simp [h1])]
    subst h1
    by_cases h2 : q = 0
    · subst h2
      go_enter Try.func66, Try.ntmps66
      go_wp2
      go_rounds 3
      go_ret
      exact ⟨rfl, rfl⟩
    · go_enter Try.func66, Try.ntmps66
      go_wp2
      go_rounds 3
      go_ret
      exact ⟨rfl, rfl⟩
  · rw [if_pos h1]
    go_enter Try.func66, Try.ntmps66
    go_wp2
    go_rounds 3
    go_ret
    exact ⟨rfl, rfl⟩
def cmpP (x y : Pl) : Int := first2 (cmpI x.1.1 y.1.1) (cmpI x.1.2 y.1.2)
set_option maxRecDepth 20000 in
theorem closureP (x y : Pl) (W : World) : Calls Try.prog 65 #[.agg #[.int .i64 x.1.1, .int .i64 x.1.2], .agg #[.int .i64 y.1.1, .int .i64 y.1.2]] W fun e w' => e = .returned (.int .i64 (cmpP x y)) ∧ ∃ q os', w' = grow (W.drewN q) os' := by
  obtain ⟨⟨a1, a2⟩, hx⟩ := x
  obtain ⟨⟨b1, b2⟩, hy⟩ := y
  unfold cmpP
  dsimp only
  clear hx hy
  go_enter Try.func65, Try.ntmps65
  go_wp2
  refine region_tail 10 (by kernel_rfl) (by kernel_rfl) ?_
  simp only [List.take_succ_cons, List.take_zero, List.drop_succ_cons, List.drop_zero]
  repeat still_step
  still_call (cmp_int _ _ _)
  repeat still_step
  still_call (cmp_int _ _ _)
  refine wpStill_nil ?_
  go_wp2_with fail
  refine (or_two (cmpI a1 b1) (cmpI a2 b2) (W.heap.size + 1 + 1) _ ?c0 ?c1).mono ?_
  case c0 => simp [go_sem]
  case c1 => simp [go_sem]
  rintro e w' ⟨rfl, rfl⟩
  go_wp2
  go_ret
  exact ⟨rfl, 1, _, by rw [alloc_eq_grow, alloc_eq_grow, alloc_eq_grow, grow_grow, grow_grow]; rfl⟩
theorem cmpLaysP (blk off size : Nat) (w : World) : CmpLays Try.prog 65 #[] cellsP 2 cmpP blk off size w :=
  fun _ _ _ _ x y => closureP x y _
/-- one place ahead of another -/
theorem ltOf_cmpP (x y : Pl) : ltOf cmpP x y = decide (x.1.1 < y.1.1 ∨ (x.1.1 = y.1.1 ∧ x.1.2 < y.1.2)) := by
  unfold ltOf cmpP first2 cmpI
  by_cases h1 : x.1.1 < y.1.1
  · simp [h1]
  · by_cases h2 : y.1.1 < x.1.1
    · simp [h1, h2]; omega
    · have h3 : x.1.1 = y.1.1 := by omega
      by_cases h4 : x.1.2 < y.1.2
      · simp [h3, h4]
      · by_cases h5 : y.1.2 < x.1.2
        · simp [h3, h4, h5]
        · simp [h3, h4, h5]
theorem swoP : SWO (ltOf cmpP) where
  irrefl x := by rw [ltOf_cmpP]; simp
  trans x y z h1 h2 := by rw [ltOf_cmpP] at *; simp at *; omega
  ntrans x y z h1 h2 := by rw [ltOf_cmpP] at *; simp at *; omega
theorem sortFunc_places (blk cap : Nat) (d : Array Pl) (w : World) (hH : HoldsK cellsP 2 w blk 0 d) (hblk : blk < w.heap.size) (hsz : d.size < 4611686018427387904) :
    Calls Try.prog 76 #[.slice (some ⟨blk, 0, none⟩) d.size cap, .func (.func 65) #[] #[]] w fun e w' => e = .returned (.tuple #[]) ∧ ∃ d' n os, PermIn 0 d.size d d' ∧ SortedIn (ltOf cmpP) 0 d.size d' ∧ w' = sortWorldK cellsP 2 w blk 0 n d' os := by
  have eg : ∀ args w, (callFunc 65 args).run Try.prog w = .ok (.enter 65 args) w := enters_of Try.func65 (by kernel_rfl) rfl
  have hcon := AnyQ.slices_SortFunc Try.sortP 2 Try.isAgg100 Try.sizeOf100 cellsP cellsP_len (fun x v hv => cellsP_one x v hv) cmpP swoP 65 #[] blk 0 cap d w eg (cmpLaysP blk 0 d.size w) hH hblk hsz
  exact hcon
end Go.Proofs.Ythegopajkljlmaa
