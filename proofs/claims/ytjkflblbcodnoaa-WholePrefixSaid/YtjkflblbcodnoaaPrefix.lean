/- Walks of slices.Equal at rows, of whole.Prefix. -/
import Derived.Test.YtjkflblbcodnoaaSame
import Derived.Deep.RegionHeld3
set_option linter.unusedVariables false
namespace Go.Proofs.Ytjkflblbcodnoaa
open Go.RowKit
theorem EqualRw_yes (l : List Rw) (a b : Option Addr) (ca cb : Nat) (w : World) (ha : SlAt 5 (flat Rw.cells) w a l) (hb : SlAt 5 (flat Rw.cells) w b l) (hlen : l.length ≤ 1099511627776) (hca : l.length ≤ ca) (hcb : l.length ≤ cb) :
    Calls Try.prog 75 #[.slice a l.length ca, .slice b l.length cb] w fun e w' => e = .returned (.bool true) ∧ ∃ n, w' = w.drewN n := by
  have HA := Lib.hid ha
  have HB := Lib.hid hb
  clear ha hb
  go_enter Try.func75, Try.ntmps75
  go_wp2
  go_loopw [5, 13] (fun _ i wr => ∃ (k n : Nat), k ≤ l.length ∧ i = .int .i64 k ∧ wr = w.drewN n) (fun _ i _ => l.length - (RowKit.intOf i).toNat)
  case atStart => exact ⟨0, 0, by omega, rfl, rfl⟩
  case round =>
    obtain ⟨k, n, hk, rfl, rfl⟩ := hrel
    by_cases hlt : k < l.length
    · obtain ⟨b1, o1, rfl, h1, x0, x1, x2, x3, x4⟩ := HA.out.rwAt k hlt
      obtain ⟨b2, o2, rfl, h2, y0, y1, y2, y3, y4⟩ := HB.out.rwAt k hlt
      generalize l[k]?.getD Rw.zero = x at *
      go_wp2_with fail
      have hk1 : (k : Int) < l.length := by omega
      have hk2 : (k : Int) < ca := by omega
      go_quiet (fail)
      go_wp2
      go_roundw
      case rel => exact ⟨k + 1, _, by omega, by go_num, rfl⟩
      case measure => simp [RowKit.intOf]; omega
    · go_wp2
      go_ret
      exact ⟨rfl, n, rfl⟩
/-- Two lists of one length that are not alike. -/
theorem EqualRw_no (l l' : List Rw) (hll : l.length = l'.length) (hne : l ≠ l') (a b : Option Addr) (ca cb : Nat) (w : World) (ha : SlAt 5 (flat Rw.cells) w a l) (hb : SlAt 5 (flat Rw.cells) w b l') (hlen : l.length ≤ 1099511627776) (hca : l.length ≤ ca) (hcb : l.length ≤ cb) :
    Calls Try.prog 75 #[.slice a l.length ca, .slice b l.length cb] w fun e w' => e = .returned (.bool false) ∧ Below w.heap.size w w' := by
  have HA := Lib.hid ha
  have HB := Lib.hid hb
  have HL := Lib.hid hll
  have HN := Lib.hid hne
  clear ha hb hll hne
  go_enter Try.func75, Try.ntmps75
  go_wp2
  go_loopw [5, 13] (fun _ i wr => ∃ (k n : Nat), k ≤ l.length ∧ i = .int .i64 k ∧ wr = w.drewN n ∧ Hid (∀ j, j < k → l[j]?.getD Rw.zero = l'[j]?.getD Rw.zero)) (fun _ i _ => l.length - (RowKit.intOf i).toNat)
  case atStart => exact ⟨0, 0, by omega, rfl, rfl, Lib.hid fun j h => absurd h (Nat.not_lt_zero _)⟩
  case round =>
    obtain ⟨k, n, hk, rfl, rfl, HE⟩ := hrel
    by_cases hlt : k < l.length
    · obtain ⟨b1, o1, rfl, h1, x0, x1, x2, x3, x4⟩ := HA.out.rwAt k hlt
      obtain ⟨b2, o2, rfl, h2, y0, y1, y2, y3, y4⟩ := HB.out.rwAt k (by have := HL.out; omega)
      by_cases hxy : l[k]?.getD Rw.zero = l'[k]?.getD Rw.zero
      · have HE1 : Hid (∀ j, j < k + 1 → l[j]?.getD Rw.zero = l'[j]?.getD Rw.zero) := Lib.hid fun j hj => by
          rcases Nat.lt_or_eq_of_le (Nat.le_of_lt_succ hj) with h | h
          · exact HE.out j h
          · subst h; exact hxy
        rw [← hxy] at y0 y1 y2 y3 y4
        clear hxy HE
        generalize l[k]?.getD Rw.zero = x at x0 x1 x2 x3 x4 y0 y1 y2 y3 y4
        go_wp2_with fail
        have hk1 : (k : Int) < l.length := by omega
        have hk2 : (k : Int) < ca := by omega
        go_quiet (fail)
        go_wp2
        go_roundw
        case rel => exact ⟨k + 1, _, by omega, by go_num, rfl, HE1⟩
        case measure => simp [RowKit.intOf]; omega
      · clear HE
        generalize l[k]?.getD Rw.zero = x at x0 x1 x2 x3 x4 hxy
        generalize l'[k]?.getD Rw.zero = y at y0 y1 y2 y3 y4 hxy
        have HXY := Lib.hid hxy
        clear hxy
        obtain ⟨xs, xk, xv, xc, xl⟩ := x
        obtain ⟨ys, yk, yv, yc, yl⟩ := y
        dsimp only at x0 x1 x2 x3 x4 y0 y1 y2 y3 y4
        by_cases hs : xs = ys
        case neg =>
          have hd : (xs == ys) = false := by simpa using hs
          have hd2 : (xs = ys) = False := eq_false hs
          go_wp2_with fail
          have hk1 : (k : Int) < l.length := by omega
          have hk2 : (k : Int) < ca := by omega
          have hk3 : (k : Int) < cb := by omega
          go_quiet (fail)
          go_wp2
          go_ret
          exact ⟨rfl, below_drewN (below_drewN (Below.refl _ _) _) _⟩
        subst hs
        by_cases hk : xk = yk
        case neg =>
          have hd : (xk == yk) = false := by simpa using hk
          have hd2 : (xk = yk) = False := eq_false hk
          go_wp2_with fail
          have hk1 : (k : Int) < l.length := by omega
          have hk2 : (k : Int) < ca := by omega
          have hk3 : (k : Int) < cb := by omega
          go_quiet (fail)
          go_wp2
          go_ret
          exact ⟨rfl, below_drewN (below_drewN (Below.refl _ _) _) _⟩
        subst hk
        by_cases hv : xv = yv
        case neg =>
          have hd : (xv == yv) = false := by simpa using hv
          have hd2 : (xv = yv) = False := eq_false hv
          go_wp2_with fail
          have hk1 : (k : Int) < l.length := by omega
          have hk2 : (k : Int) < ca := by omega
          have hk3 : (k : Int) < cb := by omega
          go_quiet (fail)
          go_wp2
          go_ret
          exact ⟨rfl, below_drewN (below_drewN (Below.refl _ _) _) _⟩
        subst hv
        by_cases hc : xc = yc
        case neg =>
          have hd : (xc == yc) = false := by simpa using hc
          have hd2 : (xc = yc) = False := eq_false hc
          go_wp2_with fail
          have hk1 : (k : Int) < l.length := by omega
          have hk2 : (k : Int) < ca := by omega
          have hk3 : (k : Int) < cb := by omega
          go_quiet (fail)
          go_wp2
          go_ret
          exact ⟨rfl, below_drewN (below_drewN (Below.refl _ _) _) _⟩
        subst hc
        by_cases hl : xl = yl
        case neg =>
          have hd : (xl == yl) = false := by simpa using hl
          have hd2 : (xl = yl) = False := eq_false hl
          go_wp2_with fail
          have hk1 : (k : Int) < l.length := by omega
          have hk2 : (k : Int) < ca := by omega
          have hk3 : (k : Int) < cb := by omega
          go_quiet (fail)
          go_wp2
          go_ret
          exact ⟨rfl, below_drewN (below_drewN (Below.refl _ _) _) _⟩
        subst hl
        exact absurd rfl HXY.out
    · exfalso
      refine HN.out (List.ext_getElem HL.out fun j h1 h2 => ?_)
      have := HE.out j (by omega)
      rw [List.getElem?_eq_getElem h1, List.getElem?_eq_getElem h2] at this
      exact this
theorem Prefix_yes (l l' : List Rw) (hp : l <+: l') (a b : Option Addr) (ca cb : Nat) (w : World) (ha : SlAt 5 (flat Rw.cells) w a l) (hb : SlAt 5 (flat Rw.cells) w b l') (hlen : l.length ≤ 1099511627776) (hlen' : l'.length ≤ 1099511627776) (hca : l.length ≤ ca) (hcb : l'.length ≤ cb) :
    Calls Try.prog 51 #[.slice a l.length ca, .slice b l'.length cb] w fun e w' => e = .returned (.bool true) ∧ Below w.heap.size w w' := by
  have hle := hp.length_le
  have ht : l'.take l.length = l := (List.prefix_iff_eq_take.1 hp).symm
  have hb2 := hb.take l.length
  rw [ht] at hb2
  have HA := Lib.hid ha
  have HB := Lib.hid hb2
  clear ha hb hb2 ht hp
  have hi1 : (l.length : Int) ≤ l'.length := by omega
  have hi2 : (l.length : Int) ≤ cb := by omega
  go_enter Try.func51, Try.ntmps51
  go_wp2_with (go_at_call 75; refine (EqualRw_yes l a b ca cb _ HA.out HB.out (by omega) (by omega) (by omega)).mono ?_; rintro e w5 ⟨rfl, n, rfl⟩)
  go_ret
  exact ⟨rfl, below_drewN (Below.refl _ _) _⟩
theorem Prefix_no (l l' : List Rw) (hp : ¬ l <+: l') (a b : Option Addr) (ca cb : Nat) (w : World) (ha : SlAt 5 (flat Rw.cells) w a l) (hb : SlAt 5 (flat Rw.cells) w b l') (hlen : l.length ≤ 1099511627776) (hlen' : l'.length ≤ 1099511627776) (hca : l.length ≤ ca) (hcb : l'.length ≤ cb) :
    Calls Try.prog 51 #[.slice a l.length ca, .slice b l'.length cb] w fun e w' => e = .returned (.bool false) ∧ Below w.heap.size w w' := by
  by_cases hle : l.length ≤ l'.length
  · have HT := Lib.hid (show l ≠ l'.take l.length from fun h => hp (List.prefix_iff_eq_take.2 h))
    have HA := Lib.hid ha
    have HB := Lib.hid (hb.take l.length)
    clear ha hb hp
    have hi1 : (l.length : Int) ≤ l'.length := by omega
    have hi2 : (l.length : Int) ≤ cb := by omega
    go_enter Try.func51, Try.ntmps51
    go_wp2_with (go_at_call 75; refine (EqualRw_no l _ (by simp; omega) HT.out a b ca cb _ HA.out HB.out (by omega) (by omega) (by omega)).mono ?_; rintro e w5 ⟨rfl, hb5⟩)
    go_ret
    exact ⟨rfl, hb5⟩
  · have hi1 : ¬ (l.length : Int) ≤ l'.length := by omega
    clear ha hb hp
    go_enter Try.func51, Try.ntmps51
    go_wp2_with fail
    go_ret
    exact ⟨rfl, Below.refl _ _⟩
end Go.Proofs.Ytjkflblbcodnoaa
