/- Walk of cordonbook.Within. -/
import Derived.Test.YthegopajkljlmaaBase
set_option linter.unusedVariables false
namespace Go.Proofs.Ythegopajkljlmaa
open Go.RowKit
/-- a number brought into lo .. hi -/
def within (n lo hi : Int) : Int := lo + n % (hi - lo + 1)
theorem within_range (n lo hi : Int) (h : lo ≤ hi) : lo ≤ within n lo hi ∧ within n lo hi ≤ hi := by
  unfold within
  have h1 := Int.emod_nonneg n (show hi - lo + 1 ≠ 0 by omega)
  have h2 := Int.emod_lt_of_pos n (show 0 < hi - lo + 1 by omega)
  omega
theorem Within_any (n lo hi : Int) (w : World) (hn0 : -9223372036854775808 ≤ n) (hn1 : n ≤ 9223372036854775807) (h : lo ≤ hi) (hlo : -1000000000000000 ≤ lo) (hhi : hi ≤ 1000000000000000) :
    Calls Try.prog 21 #[.int .i64 n, .int .i64 lo, .int .i64 hi] w fun e w' => e = .returned (.int .i64 (within n lo hi)) ∧ w' = w := by
  have h1 := Int.emod_nonneg n (show hi - lo + 1 ≠ 0 by omega)
  have h2 := Int.emod_lt_of_pos n (show 0 < hi - lo + 1 by omega)
  have hd : (hi - lo + 1 == 0) = false := by simp; omega
  by_cases h0 : 0 ≤ n
  · go_enter Try.func21, Try.ntmps21
    go_wp2
    go_ret
    exact ⟨rfl, rfl⟩
  · have hm : 0 < hi - lo + 1 := by omega
    have ht := Int.tmod_eq_emod (a := n) (b := hi - lo + 1)
    have hna : ((hi - lo + 1).natAbs : Int) = hi - lo + 1 := by omega
    have hf : (n.tmod (hi - lo + 1) = 0 ∧ n % (hi - lo + 1) = 0) ∨ (n.tmod (hi - lo + 1) < 0 ∧ -(hi - lo + 1) < n.tmod (hi - lo + 1) ∧ n % (hi - lo + 1) = n.tmod (hi - lo + 1) + (hi - lo + 1)) := by
      by_cases hdv : (hi - lo + 1) ∣ n
      · have := Int.emod_eq_zero_of_dvd hdv
        rw [if_pos (.inr hdv)] at ht
        left
        omega
      · rw [if_neg (by rintro (h | h); omega; exact hdv h)] at ht
        have hne : n % (hi - lo + 1) ≠ 0 := fun h => hdv (Int.dvd_of_emod_eq_zero h)
        right
        omega
    have hw : within n lo hi = lo + n % (hi - lo + 1) := rfl
    rw [hw]
    clear hw ht hna
    rcases hf with ⟨h3, h4⟩ | ⟨h3, h4, h5⟩
    · rw [h4]
      go_enter Try.func21, Try.ntmps21
      go_wp2
      all_goals
        go_ret
        exact ⟨by first | rfl | (congr 2; omega), rfl⟩
    · rw [h5]
      clear h1 h2 h5
      have h6 : lo + n.tmod (hi - lo + 1) + (hi - lo + 1) = lo + (n.tmod (hi - lo + 1) + hi - lo + 1) := by omega
      rw [show lo + (n.tmod (hi - lo + 1) + (hi - lo + 1)) = lo + (n.tmod (hi - lo + 1) + hi - lo + 1) from by omega]
      clear h6
      go_enter Try.func21, Try.ntmps21
      go_wp2
      all_goals
        go_ret
        exact ⟨by first | rfl | (congr 2; omega), rfl⟩
end Go.Proofs.Ythegopajkljlmaa
