/- Walks of package slot. -/
import Derived.Test.YtdncpihaeobaeaaGreatK4
set_option linter.unusedVariables false
namespace Go.Proofs.YtdncpihaeobaeaaGreat
open Go.RowKit
theorem Order_neg (t : Int) (w : World) (h : t < 0) :
    Calls Tryz.prog 137 #[.int .i64 t] w fun e w' => e = .returned (.slice none 0 0) ∧ w' = w := by
  go_enter Tryz.func137, Tryz.ntmps137
  go_wp2
  go_ret
  exact ⟨rfl, rfl⟩
theorem Order_any (t : Int) (w : World) (h : 0 ≤ t) (h1 : t ≤ 9223372036854775807) :
    Calls Tryz.prog 137 #[.int .i64 t] w fun e w' => e = .returned (.slice (some ⟨w.heap.size, 0, none⟩) 8 8) ∧
      w' = w.alloc (.cells #[.int .i64 (t % 8), .int .i64 0, .int .i64 ((t + 1) % 8), .int .i64 0, .int .i64 ((t + 2) % 8), .int .i64 0, .int .i64 ((t + 3) % 8), .int .i64 0, .int .i64 ((t + 4) % 8), .int .i64 0, .int .i64 ((t + 5) % 8), .int .i64 0, .int .i64 ((t + 6) % 8), .int .i64 0, .int .i64 ((t + 7) % 8), .int .i64 0] 205) := by
  have hmk : ∀ w, (Instr.makeSlice 202 (.int .i64 8) (.int .i64 8)).run Tryz.prog w = .ok (.slice (some ⟨w.heap.size, 0, none⟩) 8 8) (w.alloc (.cells #[.int .i64 0, .int .i64 0, .int .i64 0, .int .i64 0, .int .i64 0, .int .i64 0, .int .i64 0, .int .i64 0, .int .i64 0, .int .i64 0, .int .i64 0, .int .i64 0, .int .i64 0, .int .i64 0, .int .i64 0, .int .i64 0] 205)) := fun _ => by kernel_rfl
  go_enter Tryz.func137, Tryz.ntmps137
  go_wp2
  go_rounds 9
  go_ret
  exact ⟨rfl, rfl⟩
end Go.Proofs.YtdncpihaeobaeaaGreat
