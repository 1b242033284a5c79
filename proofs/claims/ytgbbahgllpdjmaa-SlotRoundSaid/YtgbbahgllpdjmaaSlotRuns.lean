/- Walk of the law SlotRuns. -/
import Derived.Test.YtgbbahgllpdjmaaPlan
set_option linter.unusedVariables false
namespace Go.Proofs.Ytgbbahgllpdjmaa
open Go.RowKit
theorem plan3 : planCells 3 0 [5, 0, 2] 8 = #[.int .i64 0, .int .i64 3, .int .i64 1, .int .i64 0, .int .i64 2, .int .i64 2, .int .i64 3, .int .i64 0, .int .i64 4, .int .i64 0, .int .i64 5, .int .i64 0, .int .i64 6, .int .i64 0, .int .i64 7, .int .i64 0] := by
  simp [planCells, serve]
  decide
theorem SlotRuns_any (w : World) : Calls Try.prog 5 #[] w fun e w' => e = .returned (.bool true) ∧ Below w.heap.size w w' := by
  go_enter Try.func5, Try.ntmps5
  go_wp2_with (go_at_call 20; refine (Order_any 9 _ (by decide) (by decide)).mono ?_; rintro e w' ⟨rfl, rfl⟩)
  refine (Plan_any 3 0 [5, 0, 2] (some ⟨w.heap.size + 1, 0, none⟩) 3 3 _ (by decide) (by decide) rfl ?hw (by decide)).mono ?_
  case hw =>
    refine SlAt.ofInts (by simp) ?_
    intro i hi
    match i, hi with
    | 0, _ | 1, _ | 2, _ => simp [go_sem]
  rintro e w1 ⟨rfl, hrow, hb⟩
  rw [plan3] at hrow
  simp only [World.size_alloc] at hrow
  have p0 := cell_of_row w1 _ 0 _ _ _ hrow
  have p1 := cell_of_row w1 _ 1 _ _ _ hrow
  have p3 := cell_of_row w1 _ 3 _ _ _ hrow
  have p5 := cell_of_row w1 _ 5 _ _ _ hrow
  simp at p0 p1 p3 p5
  have o0 : w1.cell? ⟨w.heap.size, 0, none⟩ = some (.int .i64 1) := (hb.cell (p := ⟨w.heap.size, 0, none⟩) (by simp; omega)).trans (by simp [go_sem])
  have o7 : w1.cell? ⟨w.heap.size, 14, none⟩ = some (.int .i64 0) := (hb.cell (p := ⟨w.heap.size, 14, none⟩) (by simp; omega)).trans (by simp [go_sem])
  have HB := Lib.hid hb
  clear hb hrow
  simp only [World.size_alloc]
  go_wp2_with (go_at_call 22; refine (show Calls Try.prog 22 #[.int .i64 7, .int .i64 3] _ (fun e w' => e = .returned (.int .i64 3) ∧ w' = _) from Ticks_any 7 3 _ (by decide)).mono ?_; rintro e w' ⟨rfl, rfl⟩)
  go_ret
  refine ⟨rfl, ?_⟩
  have := HB.out
  exact (((Below.refl _ _).alloc (Nat.le_refl _) _).alloc (by simp) _).trans (this.mono (by simp; omega))
end Go.Proofs.Ytgbbahgllpdjmaa
