/- Walks of package slot. -/
import Derived.Test.YtgbbahgllpdjmaaBase
set_option linter.unusedVariables false
namespace Go.Proofs.Ytgbbahgllpdjmaa
open Go.RowKit
theorem Order_neg (t : Int) (w : World) (h : t < 0) :
    Calls Try.prog 20 #[.int .i64 t] w fun e w' => e = .returned (.slice none 0 0) ∧ w' = w := by
  go_enter Try.func20, Try.ntmps20
  go_wp2
  go_ret
  exact ⟨rfl, rfl⟩
theorem Order_any (t : Int) (w : World) (h : 0 ≤ t) (h1 : t ≤ 9223372036854775807) :
    Calls Try.prog 20 #[.int .i64 t] w fun e w' => e = .returned (.slice (some ⟨w.heap.size, 0, none⟩) 8 8) ∧
      w' = w.alloc (.cells #[.int .i64 (t % 8), .int .i64 0, .int .i64 ((t + 1) % 8), .int .i64 0, .int .i64 ((t + 2) % 8), .int .i64 0, .int .i64 ((t + 3) % 8), .int .i64 0, .int .i64 ((t + 4) % 8), .int .i64 0, .int .i64 ((t + 5) % 8), .int .i64 0, .int .i64 ((t + 6) % 8), .int .i64 0, .int .i64 ((t + 7) % 8), .int .i64 0] 36) := by
  have hmk : ∀ w, (Instr.makeSlice 32 (.int .i64 8) (.int .i64 8)).run Try.prog w = .ok (.slice (some ⟨w.heap.size, 0, none⟩) 8 8) (w.alloc (.cells #[.int .i64 0, .int .i64 0, .int .i64 0, .int .i64 0, .int .i64 0, .int .i64 0, .int .i64 0, .int .i64 0, .int .i64 0, .int .i64 0, .int .i64 0, .int .i64 0, .int .i64 0, .int .i64 0, .int .i64 0, .int .i64 0] 36)) := fun _ => by kernel_rfl
  go_enter Try.func20, Try.ntmps20
  go_wp2
  go_rounds 9
  go_ret
  exact ⟨rfl, rfl⟩
theorem Ticks_any (n b : Int) (w : World) (hn : n ≤ 9223372036854775806) :
    Calls Try.prog 22 #[.int .i64 n, .int .i64 b] w fun e w' => e = .returned (.int .i64 (if n ≤ 0 then 0 else if b ≤ 0 then -1 else (n + b - 1) / b)) ∧ w' = w := by
  by_cases h1 : n ≤ 0
  · rw [if_pos h1]
    go_enter Try.func22, Try.ntmps22
    go_wp2
    go_ret
    exact ⟨rfl, rfl⟩
  · rw [if_neg h1]
    by_cases h2 : b ≤ 0
    · rw [if_pos h2]
      go_enter Try.func22, Try.ntmps22
      go_wp2
      go_ret
      exact ⟨rfl, rfl⟩
    · rw [if_neg h2]
      have hb : 0 < b := by omega
      have hq0 : 0 ≤ n / b := Int.ediv_nonneg (by omega) (by omega)
      have hq1 : n / b ≤ n := Int.ediv_le_self _ (by omega)
      have hm := Int.emod_nonneg n (show b ≠ 0 by omega)
      have hm2 := Int.emod_lt_of_pos n hb
      have he := Int.mul_ediv_add_emod n b
      by_cases h3 : n % b = 0
      · have hv : (n + b - 1) / b = n / b := by
          rw [show n + b - 1 = (b - 1) + b * (n / b) from by omega, Int.add_mul_ediv_left _ _ (by omega), Int.ediv_eq_zero_of_lt (by omega) (by omega)]
          omega
        rw [hv]
        clear hv he
        go_enter Try.func22, Try.ntmps22
        go_wp2
        all_goals
          go_ret
          exact ⟨rfl, rfl⟩
      · have hv : (n + b - 1) / b = n / b + 1 := by
          rw [show n + b - 1 = (n % b - 1) + b * (n / b + 1) from by rw [Int.mul_add]; omega, Int.add_mul_ediv_left _ _ (by omega), Int.ediv_eq_zero_of_lt (by omega) (by omega)]
          omega
        rw [hv]
        have h4 : 0 < n % b := by omega
        clear hv he
        go_enter Try.func22, Try.ntmps22
        go_wp2
        all_goals
          go_ret
          exact ⟨rfl, rfl⟩
end Go.Proofs.Ytgbbahgllpdjmaa
