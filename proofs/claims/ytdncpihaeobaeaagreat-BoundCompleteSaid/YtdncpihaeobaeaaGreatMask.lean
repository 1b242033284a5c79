/- Walks of package mask. -/
import Derived.Test.YtdncpihaeobaeaaGreatCoreM
set_option linter.unusedVariables false
set_option linter.unusedSimpArgs false
namespace Go.Proofs.YtdncpihaeobaeaaGreat
open Go.RowKit
theorem bit_any (id : Int) (w : World) : Calls Tryz.prog 142 #[.int .i64 id] w fun e w' => e = .returned (.int .u64 (bitOf id)) ∧ w' = w := by
  unfold bitOf
  by_cases h0 : 0 ≤ id
  · by_cases h1 : id < 64
    · rw [if_pos ⟨h0, h1⟩]
      go_enter Tryz.func142, Tryz.ntmps142
      go_wp2
      go_ret
      exact ⟨rfl, rfl⟩
    · rw [if_neg (by omega)]
      go_enter Tryz.func142, Tryz.ntmps142
      go_wp2
      go_ret
      exact ⟨rfl, rfl⟩
  · rw [if_neg (by omega)]
    go_enter Tryz.func142, Tryz.ntmps142
    go_wp2
    go_ret
    exact ⟨rfl, rfl⟩
theorem has_any (m id : Int) (w : World) : Calls Tryz.prog 124 #[.int .u64 m, .int .i64 id] w fun e w' => e = .returned (.bool (hasB m id)) ∧ w' = w := by
  unfold hasB
  go_enter Tryz.func124, Tryz.ntmps124
  go_wp2_with (go_at_call 142; refine (bit_any _ _).mono ?_; rintro e wz ⟨rfl, rfl⟩)
  go_ret
  exact ⟨rfl, rfl⟩
theorem below_any (a b : Int) (w : World) : Calls Tryz.prog 115 #[.int .u64 a, .int .u64 b] w fun e w' => e = .returned (.bool (belowB a b)) ∧ w' = w := by
  unfold belowB
  go_enter Tryz.func115, Tryz.ntmps115
  go_wp2
  go_ret
  exact ⟨rfl, rfl⟩
theorem of_one (id : Int) (g : Nat) (w : World) (c0 : w.cell? ⟨g, 0, none⟩ = some (.int .i64 id)) : Calls Tryz.prog 140 #[.slice (some ⟨g, 0, none⟩) 1 1] w fun e w' => e = .returned (.int .u64 (bits .or .u64 0 (bitOf id))) ∧ w' = w := by
  go_enter Tryz.func140, Tryz.ntmps140
  go_wp2_with fail
  refine wp_loop_rounds 2 ?_
  rw [rounds_succ]
  go_wp2_with (go_at_call 142; refine (bit_any _ _).mono ?_; rintro e wz ⟨rfl, rfl⟩)
  rw [rounds_succ]
  go_wp2_with fail
  go_ret
  exact ⟨rfl, rfl⟩
theorem ones_any (x : Int) (w : World) : Calls Tryz.prog 141 #[.int .u64 x] w fun e w' => e = .returned (.int .i64 (popc x)) ∧ w' = w := by
  go_enter Tryz.func141, Tryz.ntmps141
  go_upto_region 2 with fail
  rw [show IntKind.u64.wrap (bits .and .u64 (x / 2) 6148914691236517205 + bits .and .u64 x 6148914691236517205) = pop1 x from rfl]
  obtain ⟨x1, hx1⟩ : ∃ y, pop1 x = y := ⟨_, rfl⟩
  rw [hx1]
  have Hx1 := Lib.hid hx1
  clear hx1
  go_upto_region 3 with fail
  rw [show IntKind.u64.wrap (bits .and .u64 (x1 / 4) 3689348814741910323 + bits .and .u64 x1 3689348814741910323) = pop2 x1 from rfl]
  obtain ⟨x2, hx2⟩ : ∃ y, pop2 x1 = y := ⟨_, rfl⟩
  rw [hx2]
  have Hx2 := Lib.hid hx2
  clear hx2
  go_upto_region 4 with fail
  rw [show bits .and .u64 (IntKind.u64.wrap (x2 / 16 + x2)) 1085102592571150095 = pop3 x2 from rfl]
  obtain ⟨x3, hx3⟩ : ∃ y, pop3 x2 = y := ⟨_, rfl⟩
  rw [hx3]
  have Hx3 := Lib.hid hx3
  clear hx3
  go_upto_region 5 with fail
  rw [show IntKind.u64.wrap (x3 + x3 / 256) = pop4 x3 from rfl]
  obtain ⟨x4, hx4⟩ : ∃ y, pop4 x3 = y := ⟨_, rfl⟩
  rw [hx4]
  have Hx4 := Lib.hid hx4
  clear hx4
  go_upto_region 6 with fail
  rw [show IntKind.u64.wrap (x4 + x4 / 65536) = pop5 x4 from rfl]
  obtain ⟨x5, hx5⟩ : ∃ y, pop5 x4 = y := ⟨_, rfl⟩
  rw [hx5]
  have Hx5 := Lib.hid hx5
  clear hx5
  go_upto_region 7 with fail
  rw [show IntKind.u64.wrap (x5 + x5 / 4294967296) = pop6 x5 from rfl]
  obtain ⟨x6, hx6⟩ : ∃ y, pop6 x5 = y := ⟨_, rfl⟩
  rw [hx6]
  have Hx6 := Lib.hid hx6
  clear hx6
  go_wp2
  go_ret
  refine ⟨?_, rfl⟩
  unfold popc
  rw [Hx1.out, Hx2.out, Hx3.out, Hx4.out, Hx5.out, Hx6.out]
  rfl
theorem count_any (x : Int) (w : World) : Calls Tryz.prog 123 #[.int .u64 x] w fun e w' => e = .returned (.int .i64 (popc x)) ∧ w' = w := by
  go_enter Tryz.func123, Tryz.ntmps123
  go_wp2_with (go_at_call 141; refine (ones_any _ _).mono ?_; rintro e wz ⟨rfl, rfl⟩)
  go_ret
  exact ⟨rfl, rfl⟩
end Go.Proofs.YtdncpihaeobaeaaGreat
