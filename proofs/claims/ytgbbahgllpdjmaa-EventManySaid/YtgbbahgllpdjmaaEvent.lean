/- Walks of package event: Compare. -/
import Derived.Test.YtgbbahgllpdjmaaBase
set_option linter.unusedVariables false
namespace Go.Proofs.Ytgbbahgllpdjmaa
open Go.RowKit
def cmpI (a b : Int) : Int := if a < b then -1 else if b < a then 1 else 0
theorem isNaN_int (a : Int) (w : World) : Calls Try.prog 35 #[.int .i64 a] w fun e w' => e = .returned (.bool false) ∧ w' = w := by
  go_enter Try.func35, Try.ntmps35
  go_wp2
  go_ret
  exact ⟨by simp, rfl⟩
theorem isNaN_u64 (a : Int) (w : World) : Calls Try.prog 36 #[.int .u64 a] w fun e w' => e = .returned (.bool false) ∧ w' = w := by
  go_enter Try.func36, Try.ntmps36
  go_wp2
  go_ret
  exact ⟨by simp, rfl⟩
theorem cmp_int (a b : Int) (w : World) : Calls Try.prog 33 #[.int .i64 a, .int .i64 b] w fun e w' => e = .returned (.int .i64 (cmpI a b)) ∧ w' = w := by
  unfold cmpI
  by_cases h1 : a < b
  · rw [if_pos h1]
    go_enter Try.func33, Try.ntmps33
    go_wp2_with (go_at_call 35; refine (isNaN_int _ _).mono ?_; rintro e w' ⟨rfl, rfl⟩)
    go_ret
    exact ⟨rfl, rfl⟩
  · rw [if_neg h1]
    by_cases h2 : b < a
    · rw [if_pos h2]
      go_enter Try.func33, Try.ntmps33
      go_wp2_with (go_at_call 35; refine (isNaN_int _ _).mono ?_; rintro e w' ⟨rfl, rfl⟩)
      go_ret
      exact ⟨rfl, rfl⟩
    · rw [if_neg h2]
      go_enter Try.func33, Try.ntmps33
      go_wp2_with (go_at_call 35; refine (isNaN_int _ _).mono ?_; rintro e w' ⟨rfl, rfl⟩)
      go_ret
      exact ⟨rfl, rfl⟩
theorem cmp_u64 (a b : Int) (w : World) : Calls Try.prog 34 #[.int .u64 a, .int .u64 b] w fun e w' => e = .returned (.int .i64 (cmpI a b)) ∧ w' = w := by
  unfold cmpI
  by_cases h1 : a < b
  · rw [if_pos h1]
    go_enter Try.func34, Try.ntmps34
    go_wp2_with (go_at_call 36; refine (isNaN_u64 _ _).mono ?_; rintro e w' ⟨rfl, rfl⟩)
    go_ret
    exact ⟨rfl, rfl⟩
  · rw [if_neg h1]
    by_cases h2 : b < a
    · rw [if_pos h2]
      go_enter Try.func34, Try.ntmps34
      go_wp2_with (go_at_call 36; refine (isNaN_u64 _ _).mono ?_; rintro e w' ⟨rfl, rfl⟩)
      go_ret
      exact ⟨rfl, rfl⟩
    · rw [if_neg h2]
      go_enter Try.func34, Try.ntmps34
      go_wp2_with (go_at_call 36; refine (isNaN_u64 _ _).mono ?_; rintro e w' ⟨rfl, rfl⟩)
      go_ret
      exact ⟨rfl, rfl⟩
def firstOf (p q r s : Int) : Int := if p ≠ 0 then p else if q ≠ 0 then q else if r ≠ 0 then r else s
theorem or_four (p q r s : Int) (ab : Nat) (w : World) (c0 : w.cell? ⟨ab, 0, none⟩ = some (.int .i64 p)) (c1 : w.cell? ⟨ab, 1, none⟩ = some (.int .i64 q)) (c2 : w.cell? ⟨ab, 2, none⟩ = some (.int .i64 r)) (c3 : w.cell? ⟨ab, 3, none⟩ = some (.int .i64 s)) :
    Calls Try.prog 32 #[.slice (some ⟨ab, 0, none⟩) 4 4] w fun e w' => e = .returned (.int .i64 (firstOf p q r s)) ∧ w' = w := by
  unfold firstOf
  by_cases h1 : p = 0
  · rw [if_neg (by simp [h1])]
    subst h1
    by_cases h2 : q = 0
    · rw [if_neg (by simp [h2])]
      subst h2
      by_cases h3 : r = 0
      · rw [if_neg (by simp [h3])]
        subst h3
        by_cases h4 : s = 0
        · subst h4
          go_enter Try.func32, Try.ntmps32
          go_wp2
          go_rounds 5
          go_ret
          exact ⟨rfl, rfl⟩
        · go_enter Try.func32, Try.ntmps32
          go_wp2
          go_rounds 5
          go_ret
          exact ⟨rfl, rfl⟩
      · rw [if_pos h3]
        go_enter Try.func32, Try.ntmps32
        go_wp2
        go_rounds 5
        go_ret
        exact ⟨rfl, rfl⟩
    · rw [if_pos h2]
      go_enter Try.func32, Try.ntmps32
      go_wp2
      go_rounds 5
      go_ret
      exact ⟨rfl, rfl⟩
  · rw [if_pos h1]
    go_enter Try.func32, Try.ntmps32
    go_wp2
    go_rounds 5
    go_ret
    exact ⟨rfl, rfl⟩
def cmpE (a1 a2 a3 a4 b1 b2 b3 b4 : Int) : Int := firstOf (cmpI a1 b1) (cmpI a2 b2) (cmpI a3 b3) (cmpI a4 b4)
theorem evCompare (a1 a2 a3 a4 b1 b2 b3 b4 : Int) (w : World) :
    Calls Try.prog 27 #[.agg #[.int .i64 a1, .int .i64 a2, .int .i64 a3, .int .u64 a4], .agg #[.int .i64 b1, .int .i64 b2, .int .i64 b3, .int .u64 b4]] w fun e w' => e = .returned (.int .i64 (cmpE a1 a2 a3 a4 b1 b2 b3 b4)) ∧ Below w.heap.size w w' := by
  go_enter Try.func27, Try.ntmps27
  go_wp2
  refine region_tail 20 (by kernel_rfl) (by kernel_rfl) ?_
  simp only [List.take_succ_cons, List.take_zero, List.drop_succ_cons, List.drop_zero]
  repeat still_step
  still_call (cmp_int _ _ _)
  repeat still_step
  still_call (cmp_int _ _ _)
  repeat still_step
  still_call (cmp_int _ _ _)
  repeat still_step
  still_call (cmp_u64 _ _ _)
  refine wpStill_nil ?_
  go_wp2_with fail
  refine (or_four (cmpI a1 b1) (cmpI a2 b2) (cmpI a3 b3) (cmpI a4 b4) (w.heap.size + 1 + 1) _ ?c0 ?c1 ?c2 ?c3).mono ?_
  case c0 => simp [go_sem]
  case c1 => simp [go_sem]
  case c2 => simp [go_sem]
  case c3 => simp [go_sem]
  rintro e w' ⟨rfl, rfl⟩
  go_wp2
  go_ret
  refine ⟨rfl, ?_⟩
  go_grown

def evRight (t k l : Int) : Bool := decide (0 ≤ t ∧ t ≤ 1099511627776 ∧ 0 ≤ k ∧ k ≤ 255 ∧ l ≠ 0)
theorem evRight_any (t k v l : Int) (w : World) : Calls Try.prog 30 #[.agg #[.int .i64 t, .int .i64 k, .int .i64 v, .int .u64 l]] w fun e w' => e = .returned (.bool (evRight t k l)) ∧ w' = w.alloc (.cells #[.int .i64 t, .int .i64 k, .int .i64 v, .int .u64 l] 49) := by
  by_cases h1 : 0 ≤ t
  · by_cases h2 : t ≤ 1099511627776
    · by_cases h3 : 0 ≤ k
      · by_cases h4 : k ≤ 255
        · by_cases h5 : l = 0
          · have hr : evRight t k l = false := by simp [evRight, h5]
            rw [hr]
            subst h5
            clear hr
            go_enter Try.func30, Try.ntmps30
            go_wp2
            go_ret
            exact ⟨rfl, rfl⟩
          · have hr : evRight t k l = true := by simp [evRight, h1, h2, h3, h4, h5]
            rw [hr]
            have h6 : (l != 0) = true := by simp [h5]
            clear hr
            go_enter Try.func30, Try.ntmps30
            go_wp2
            go_ret
            exact ⟨rfl, rfl⟩
        · have hr : evRight t k l = false := by simp [evRight, h4]
          rw [hr]
          clear hr
          go_enter Try.func30, Try.ntmps30
          go_wp2
          go_ret
          exact ⟨rfl, rfl⟩
      · have hr : evRight t k l = false := by simp [evRight, h3]
        rw [hr]
        clear hr
        go_enter Try.func30, Try.ntmps30
        go_wp2
        go_ret
        exact ⟨rfl, rfl⟩
    · have hr : evRight t k l = false := by simp [evRight, h2]
      rw [hr]
      clear hr
      go_enter Try.func30, Try.ntmps30
      go_wp2
      go_ret
      exact ⟨rfl, rfl⟩
  · have hr : evRight t k l = false := by simp [evRight, h1]
    rw [hr]
    clear hr
    go_enter Try.func30, Try.ntmps30
    go_wp2
    go_ret
    exact ⟨rfl, rfl⟩
end Go.Proofs.Ytgbbahgllpdjmaa
