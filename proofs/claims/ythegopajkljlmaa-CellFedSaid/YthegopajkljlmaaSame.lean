/- Walks of cordonbook.Same at rows and events. -/
import Derived.Test.YthegopajkljlmaaEv
import Derived.Deep.RegionHeld3
set_option linter.unusedVariables false
namespace Go.Proofs.Ythegopajkljlmaa
open Go.RowKit
theorem SameRw_yes (l : List Rw) (a b : Option Addr) (ca cb : Nat) (w : World) (ha : SlAt 5 (flat Rw.cells) w a l) (hb : SlAt 5 (flat Rw.cells) w b l) (hlen : l.length ≤ 1099511627776) (hca : l.length ≤ ca) (hcb : l.length ≤ cb) :
    Calls Try.prog 17 #[.slice a l.length ca, .slice b l.length cb] w fun e w' => e = .returned (.bool true) ∧ ∃ n, w' = w.drewN n := by
  have HA := Lib.hid ha
  have HB := Lib.hid hb
  clear ha hb
  go_enter Try.func17, Try.ntmps17
  go_wp2
  go_loopw [5] (fun i wr => ∃ (k n : Nat), k ≤ l.length ∧ i = .int .i64 k ∧ wr = w.drewN n) (fun i _ => l.length - (RowKit.intOf i).toNat)
  case atStart => exact ⟨0, 0, by omega, rfl, rfl⟩
  case round =>
    obtain ⟨k, n, hk, rfl, rfl⟩ := hrel
    by_cases hlt : k < l.length
    · obtain ⟨b1, o1, rfl, h1, x0, x1, x2, x3, x4⟩ := HA.out.rwAt k hlt
      obtain ⟨b2, o2, rfl, h2, y0, y1, y2, y3, y4⟩ := HB.out.rwAt k hlt
      generalize l[k]?.getD Rw.zero = x at *
      go_wp2_with fail
      have hk1 : (k : Int) < l.length := by omega
      have hk2 : (k : Int) < ca := by omega
      go_quiet (fail)
      go_wp2
      go_roundw
      case rel => exact ⟨k + 1, _, by omega, by go_num, rfl⟩
      case measure => simp [RowKit.intOf]; omega
    · go_wp2
      go_ret
      exact ⟨rfl, n, rfl⟩
theorem SameRw_ok (l : List Rw) (a b : Option Addr) (ca cb : Nat) (w : World) (ha : SlAt 5 (flat Rw.cells) w a l) (hb : SlAt 5 (flat Rw.cells) w b l) (hlen : l.length ≤ 1099511627776) (hca : l.length ≤ ca) (hcb : l.length ≤ cb) :
    Calls Try.prog 17 #[.slice a l.length ca, .slice b l.length cb] w fun e w' => e = .returned (.bool true) ∧ Below w.heap.size w w' :=
  (SameRw_yes l a b ca cb w ha hb hlen hca hcb).mono (by rintro e w' ⟨rfl, n, rfl⟩; exact ⟨rfl, rfl, rfl, rfl, Nat.le_refl _, fun _ _ => rfl⟩)
end Go.Proofs.Ythegopajkljlmaa
