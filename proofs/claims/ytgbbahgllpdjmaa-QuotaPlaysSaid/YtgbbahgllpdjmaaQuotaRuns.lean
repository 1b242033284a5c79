/- Walk of the law QuotaRuns. -/
import Derived.Test.YtgbbahgllpdjmaaQuota
import Derived.WalkSmall
namespace Go.Proofs.Ytgbbahgllpdjmaa
open Go.RowKit
theorem QuotaRuns_any (w : World) : Calls Try.prog 3 #[] w fun e w' => e = .returned (.bool true) ∧ Below w.heap.size w w' := by
  go_enter Try.func3, Try.ntmps3
  go_wp2_with (go_at_call 14; refine (show Calls Try.prog 14 #[.int .i64 5] _ _ from Of_any 5 _).mono ?_; rintro e w' ⟨rfl, rfl⟩; simp only [show (max (5 : Int) 0) = 5 from by decide])
  refine (Spend_yes (w.heap.size + 1) 0 5 0 [2, 1] 2 (some ⟨w.heap.size + 1 + 1, 0, none⟩) _ 2 ?c0 ?c1 ?f0 ?f1 ?hn (by decide) (by decide) (by decide) (by decide) (by decide) (by decide)).mono ?_
  case c0 => simp [go_sem]
  case c1 => simp [go_sem]
  case f0 => simp [go_sem]
  case f1 => simp [go_sem]
  case hn =>
    refine SlAt.ofInts (by simp) ?_
    intro i hi
    match i, hi with
    | 0, _ => simp [go_sem]
    | 1, _ => simp [go_sem]
  rintro e w' ⟨rfl, n, rfl⟩
  go_wp2_with fail
  refine (Spend_no (w.heap.size + 1) 0 2 0 [3] 1 (some ⟨w.heap.size + 1 + 1 + 1, 0, none⟩) _ ?c0 ?c2 ?f2 ?hn (by decide) (by decide) (by decide) (by decide) (by decide) (by decide)).mono ?_
  case c0 => simp [go_sem]
  case c2 => simp [go_sem]
  case f2 => simp [go_sem]
  case hn =>
    refine SlAt.ofInts (by simp) ?_
    intro i hi
    match i, hi with
    | 0, _ => simp [go_sem]
  rintro e w' ⟨rfl, rfl⟩
  simp only [show (0 : Int) + 1 = 1 from by decide]
  go_wp2_with (first | (go_at_call 16; refine (Left_any _ _ _ _).mono ?_; rintro e w' ⟨rfl, rfl⟩) | (go_at_call 17; refine (Spent_any _ _ _ _).mono ?_; rintro e w' ⟨rfl, rfl⟩) | (go_at_call 18; refine (Refused_any _ _ _ _).mono ?_; rintro e w' ⟨rfl, rfl⟩))
  go_ret
  refine ⟨rfl, ?_⟩
  repeat (first | exact Below.refl _ _ | refine Below.alloc ?_ (by simp <;> omega) _ | refine Below.setCell ?_ (by simp <;> omega) _ | refine below_drewN ?_ _)
  go_goals
end Go.Proofs.Ytgbbahgllpdjmaa
