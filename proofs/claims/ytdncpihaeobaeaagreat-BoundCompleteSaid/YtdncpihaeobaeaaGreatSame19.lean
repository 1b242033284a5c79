/- Same of releases, of operations. -/
import Derived.Test.YtdncpihaeobaeaaGreatKeep19
set_option linter.unusedVariables false
set_option linter.unusedSimpArgs false
namespace Go.Proofs.YtdncpihaeobaeaaGreat
open Go.RowKit
theorem SlAt.atRe {w : World} {sa : Option Addr} {l : List Rel} (h : SlAt 4 (flat Rel.cells) w sa l) (i : Nat) (hi : i < l.length) (x : Rel) (hx : l[i] = x) : ∃ b o, sa = some ⟨b, o, none⟩ ∧ b < w.heap.size ∧ w.cell? ⟨b, o + i * 4, none⟩ = some (.int .i64 x.sink) ∧ w.cell? ⟨b, o + i * 4 + 1, none⟩ = some (.int .i64 x.epoch) ∧ w.cell? ⟨b, o + i * 4 + 2, none⟩ = some (.int .i64 x.value) ∧ w.cell? ⟨b, o + i * 4 + 3, none⟩ = some (.bool x.hidden) := by
  rcases h with rfl | ⟨b, o, rfl, hlt, h⟩
  · simp at hi
  · obtain ⟨cs, h1, h2, rfl⟩ := h i hi
    rw [hx] at h2
    exact ⟨b, o, rfl, hlt, h2 0 (by show 0 < 4; omega), h2 1 (by show 1 < 4; omega), h2 2 (by show 2 < 4; omega), h2 3 (by show 3 < 4; omega)⟩
theorem SameRe_yes (l : List Rel) (a b : Option Addr) (ca cb : Nat) (w : World) (ha : SlAt 4 (flat Rel.cells) w a l) (hb : SlAt 4 (flat Rel.cells) w b l) (hlen : l.length ≤ 1099511627776) (hca : l.length ≤ ca) (hcb : l.length ≤ cb) :
    Calls Tryz.prog 17 #[.slice a l.length ca, .slice b l.length cb] w fun e w' => e = .returned (.bool true) ∧ ∃ n, w' = w.drewN n := by
  have HA := Lib.hid ha
  have HB := Lib.hid hb
  clear ha hb
  go_enter Tryz.func17, Tryz.ntmps17
  go_wp2
  go_loopw [5] (fun i wr => ∃ (k n : Nat), k ≤ l.length ∧ i = .int .i64 k ∧ wr = w.drewN n) (fun i _ => l.length - (RowKit.intOf i).toNat)
  case atStart => exact ⟨0, 0, by omega, rfl, rfl⟩
  case round =>
    obtain ⟨k, n, hk, rfl, rfl⟩ := hrel
    by_cases hlt : k < l.length
    · obtain ⟨x, hx⟩ : ∃ x, l[k] = x := ⟨_, rfl⟩
      obtain ⟨b1, o1, rfl, h1, x0, x1, x2, x3⟩ := HA.out.atRe k hlt x hx
      obtain ⟨b2, o2, rfl, h2, y0, y1, y2, y3⟩ := HB.out.atRe k hlt x hx
      clear hx
      go_wp2_with fail
      have hk1 : (k : Int) < l.length := by omega
      have hk2 : (k : Int) < ca := by omega
      go_quiet (fail)
      go_wp2
      go_roundw
      case rel => exact ⟨k + 1, _, by omega, by go_num, rfl⟩
      case measure => simp [RowKit.intOf]; omega
    · go_wp2
      go_ret
      exact ⟨rfl, n, rfl⟩
theorem SlAt.atOp {w : World} {sa : Option Addr} {l : List Opr} (h : SlAt 2 (flat Opr.cells) w sa l) (i : Nat) (hi : i < l.length) (x : Opr) (hx : l[i] = x) : ∃ b o, sa = some ⟨b, o, none⟩ ∧ b < w.heap.size ∧ w.cell? ⟨b, o + i * 2, none⟩ = some (.int .i64 x.kind) ∧ w.cell? ⟨b, o + i * 2 + 1, none⟩ = some (.int .i64 x.n) := by
  rcases h with rfl | ⟨b, o, rfl, hlt, h⟩
  · simp at hi
  · obtain ⟨cs, h1, h2, rfl⟩ := h i hi
    rw [hx] at h2
    exact ⟨b, o, rfl, hlt, h2 0 (by show 0 < 2; omega), h2 1 (by show 1 < 2; omega)⟩
theorem SameOp_yes (l : List Opr) (a b : Option Addr) (ca cb : Nat) (w : World) (ha : SlAt 2 (flat Opr.cells) w a l) (hb : SlAt 2 (flat Opr.cells) w b l) (hlen : l.length ≤ 1099511627776) (hca : l.length ≤ ca) (hcb : l.length ≤ cb) :
    Calls Tryz.prog 76 #[.slice a l.length ca, .slice b l.length cb] w fun e w' => e = .returned (.bool true) ∧ ∃ n, w' = w.drewN n := by
  have HA := Lib.hid ha
  have HB := Lib.hid hb
  clear ha hb
  go_enter Tryz.func76, Tryz.ntmps76
  go_wp2
  go_loopw [5] (fun i wr => ∃ (k n : Nat), k ≤ l.length ∧ i = .int .i64 k ∧ wr = w.drewN n) (fun i _ => l.length - (RowKit.intOf i).toNat)
  case atStart => exact ⟨0, 0, by omega, rfl, rfl⟩
  case round =>
    obtain ⟨k, n, hk, rfl, rfl⟩ := hrel
    by_cases hlt : k < l.length
    · obtain ⟨x, hx⟩ : ∃ x, l[k] = x := ⟨_, rfl⟩
      obtain ⟨b1, o1, rfl, h1, x0, x1⟩ := HA.out.atOp k hlt x hx
      obtain ⟨b2, o2, rfl, h2, y0, y1⟩ := HB.out.atOp k hlt x hx
      clear hx
      go_wp2_with fail
      have hk1 : (k : Int) < l.length := by omega
      have hk2 : (k : Int) < ca := by omega
      go_quiet (fail)
      go_wp2
      go_roundw
      case rel => exact ⟨k + 1, _, by omega, by go_num, rfl⟩
      case measure => simp [RowKit.intOf]; omega
    · go_wp2
      go_ret
      exact ⟨rfl, n, rfl⟩
theorem below_of_drewN (w : World) (n : Nat) : Below w.heap.size w (w.drewN n) := ⟨rfl, rfl, rfl, Nat.le_refl _, fun _ _ => rfl⟩
set_option maxHeartbeats 2000000 in
set_option maxRecDepth 20000 in
theorem Answers_yes (er : Int) (R : List Rw) (T : List Rel) (ra rb ta tb : Option Addr) (rc rd tc td : Nat) (w : World) (x1 : SlAt 5 (flat Rw.cells) w ra R) (y1 : SlAt 5 (flat Rw.cells) w rb R) (x2 : SlAt 4 (flat Rel.cells) w ta T) (y2 : SlAt 4 (flat Rel.cells) w tb T) (hR : R.length ≤ 1099511627776) (hT : T.length ≤ 1099511627776) (h1 : R.length ≤ rc) (h2 : R.length ≤ rd) (h3 : T.length ≤ tc) (h4 : T.length ≤ td) :
    Calls Tryz.prog 21 #[.agg #[.int .i64 er, .slice ra R.length rc, .slice ta T.length tc], .agg #[.int .i64 er, .slice rb R.length rd, .slice tb T.length td]] w fun x w' => x = .returned (.bool true) ∧ Below w.heap.size w w' := by
  have hb2 : Below w.heap.size w ((w.alloc (.cells #[.int .i64 er, .slice ra R.length rc, .slice ta T.length tc] 51)).alloc (.cells #[.int .i64 er, .slice rb R.length rd, .slice tb T.length td] 51)) := ((Below.refl _ w).alloc (Nat.le_refl _) _).alloc (by simp) _
  have hs1 := SameRw_yes R ra rb rc rd ((w.alloc (.cells #[.int .i64 er, .slice ra R.length rc, .slice ta T.length tc] 51)).alloc (.cells #[.int .i64 er, .slice rb R.length rd, .slice tb T.length td] 51)) (x1.below hb2 (fun _ _ h => h)) (y1.below hb2 (fun _ _ h => h)) hR h1 h2
  have HS1 := Lib.hid hs1
  have hs2 : ∀ n, Calls Tryz.prog 17 #[.slice ta T.length tc, .slice tb T.length td] (((w.alloc (.cells #[.int .i64 er, .slice ra R.length rc, .slice ta T.length tc] 51)).alloc (.cells #[.int .i64 er, .slice rb R.length rd, .slice tb T.length td] 51)).drewN n) fun e w' => e = .returned (.bool true) ∧ ∃ m, w' = (((w.alloc (.cells #[.int .i64 er, .slice ra R.length rc, .slice ta T.length tc] 51)).alloc (.cells #[.int .i64 er, .slice rb R.length rd, .slice tb T.length td] 51)).drewN n).drewN m := fun n => by
    have hb3 : Below w.heap.size w (((w.alloc (.cells #[.int .i64 er, .slice ra R.length rc, .slice ta T.length tc] 51)).alloc (.cells #[.int .i64 er, .slice rb R.length rd, .slice tb T.length td] 51)).drewN n) := hb2.trans ((below_of_drewN ((w.alloc (.cells #[.int .i64 er, .slice ra R.length rc, .slice ta T.length tc] 51)).alloc (.cells #[.int .i64 er, .slice rb R.length rd, .slice tb T.length td] 51)) n).mono (by simp; omega))
    exact SameRe_yes T ta tb tc td _ (x2.below hb3 (fun _ _ h => h)) (y2.below hb3 (fun _ _ h => h)) hT h3 h4
  have HS2 := Lib.hid hs2
  have hend : ∀ n, Below w.heap.size w (((w.alloc (.cells #[.int .i64 er, .slice ra R.length rc, .slice ta T.length tc] 51)).alloc (.cells #[.int .i64 er, .slice rb R.length rd, .slice tb T.length td] 51)).drewN n) := fun n => hb2.trans ((below_of_drewN ((w.alloc (.cells #[.int .i64 er, .slice ra R.length rc, .slice ta T.length tc] 51)).alloc (.cells #[.int .i64 er, .slice rb R.length rd, .slice tb T.length td] 51)) n).mono (by simp; omega))
  have HEND := Lib.hid hend
  clear x1 y1 x2 y2 hb2 hs1 hs2 hend
  go_enter Tryz.func21, Tryz.ntmps21
  go_wp2_with (first
    | (go_at_call 22; (with_reducible refine HS1.out.mono ?_); rintro x w3 ⟨rfl, n, rfl⟩)
    | (go_at_call 17; (with_reducible refine (HS2.out _).mono ?_); rintro x w4 ⟨rfl, m, rfl⟩))
  go_ret
  exact ⟨rfl, HEND.out _⟩
end Go.Proofs.YtdncpihaeobaeaaGreat
