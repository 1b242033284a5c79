/- Walk of the law EventRuns. -/
import Derived.Test.YtgbbahgllpdjmaaEvents
set_option linter.unusedVariables false
namespace Go.Proofs.Ytgbbahgllpdjmaa
open Go.RowKit
theorem EventRuns_any (w : World) : Calls Try.prog 10 #[] w fun e w' => e = .returned (.bool true) ∧ Below w.heap.size w w' := by
  go_enter Try.func10, Try.ntmps10
  go_wp2_with fail
  refine (evCompare 1 2 3 0 1 2 4 0 _).mono ?_
  rintro e w1 ⟨rfl, hb1⟩
  simp only [show cmpE 1 2 3 0 1 2 4 0 = -1 from by decide]
  have hB1 : Below w.heap.size w w1 := Below.trans (by go_grown) (hb1.mono (by simp <;> omega))
  have hs1 := hB1.size
  go_wp2_with fail
  refine (Latest_any [⟨4, 0, 0, 0⟩, ⟨9, 0, 0, 0⟩] w1.heap.size 0 2 _ _ (.inr rfl) (by simp) ?h (by decide)).mono ?_
  case h =>
    intro i hi
    match i, hi with
    | 0, _ | 1, _ => simp [go_sem]
  rintro e w2 ⟨rfl, hb2⟩
  simp only [show latestOf [⟨4, 0, 0, 0⟩, ⟨9, 0, 0, 0⟩] = 9 from by decide]
  go_wp2_with (first | (go_at_call 28; refine (Latest_nil _ _ _).mono ?_; rintro e w' ⟨rfl, rfl⟩) | (go_at_call 29; refine (Labels_nil _ _ _).mono ?_; rintro e w' ⟨rfl, rfl⟩))
  go_ret
  refine ⟨rfl, ?_⟩
  exact (hB1.alloc hB1.size _).trans (hb2.mono (by simp; omega))
end Go.Proofs.Ytgbbahgllpdjmaa
