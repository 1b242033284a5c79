/- Walks of package quota. -/
import Derived.Test.YtgbbahgllpdjmaaOwn
set_option linter.unusedVariables false
namespace Go.Proofs.Ytgbbahgllpdjmaa
open Go.RowKit
/-- what is left behind spendings -/
def spendTo : Int → List Int → Option Int
  | left, [] => some left
  | left, n :: l => if n < 0 ∨ left < n then none else spendTo (left - n) l

theorem Of_any (most : Int) (w : World) :
    Calls Try.prog 14 #[.int .i64 most] w fun e w' => e = .returned (.agg #[.int .i64 (max most 0), .int .i64 0, .int .i64 0]) ∧ w' = w.alloc (.cells #[.int .i64 (max most 0), .int .i64 0, .int .i64 0] 23) := by
  by_cases h : most < 0
  · rw [show max most 0 = 0 from by omega]
    go_enter Try.func14, Try.ntmps14
    go_wp2
    exact bodyPost_ret (v := .agg #[.int .i64 0, .int .i64 0, .int .i64 0]) (by simp [results, go_sem]) rfl ⟨rfl, rfl⟩
  · rw [show max most 0 = most from by omega]
    go_enter Try.func14, Try.ntmps14
    go_wp2
    exact bodyPost_ret (v := .agg #[.int .i64 most, .int .i64 0, .int .i64 0]) (by simp [results, go_sem]) rfl ⟨rfl, rfl⟩
theorem Refuse_any (b o : Nat) (r : Int) (w : World) (hr0 : 0 ≤ r) (hr1 : r < 9223372036854775807) (c2 : w.cell? ⟨b, o + 2, none⟩ = some (.int .i64 r)) (f2 : w.frozen? ⟨b, o + 2, none⟩ = false) :
    Calls Try.prog 19 #[.pointer (some ⟨b, o, none⟩)] w fun e w' => e = .returned (.tuple #[]) ∧ w' = w.setCell ⟨b, o + 2, none⟩ (.int .i64 (r + 1)) := by
  go_enter Try.func19, Try.ntmps19
  go_wp2
  go_end0
  exact ⟨rfl, rfl⟩

theorem Left_any (a b c : Int) (w : World) :
    Calls Try.prog 16 #[.agg #[.int .i64 a, .int .i64 b, .int .i64 c]] w fun e w' => e = .returned (.int .i64 a) ∧ w' = w.alloc (.cells #[.int .i64 a, .int .i64 b, .int .i64 c] 23) := by
  go_enter Try.func16, Try.ntmps16
  go_wp2
  go_ret
  exact ⟨rfl, rfl⟩
theorem Spent_any (a b c : Int) (w : World) :
    Calls Try.prog 17 #[.agg #[.int .i64 a, .int .i64 b, .int .i64 c]] w fun e w' => e = .returned (.int .i64 b) ∧ w' = w.alloc (.cells #[.int .i64 a, .int .i64 b, .int .i64 c] 23) := by
  go_enter Try.func17, Try.ntmps17
  go_wp2
  go_ret
  exact ⟨rfl, rfl⟩
theorem Refused_any (a b c : Int) (w : World) :
    Calls Try.prog 18 #[.agg #[.int .i64 a, .int .i64 b, .int .i64 c]] w fun e w' => e = .returned (.int .i64 c) ∧ w' = w.alloc (.cells #[.int .i64 a, .int .i64 b, .int .i64 c] 23) := by
  go_enter Try.func18, Try.ntmps18
  go_wp2
  go_ret
  exact ⟨rfl, rfl⟩
theorem spend_step (y : Int) (ns : List Int) (k : Nat) (h : k < ns.length) : spendTo y (ns.drop k) = if ns[k]?.getD 0 < 0 ∨ y < ns[k]?.getD 0 then none else spendTo (y - ns[k]?.getD 0) (ns.drop (k + 1)) := by
  rw [List.drop_eq_getElem_cons h, List.getElem?_eq_getElem h]; rfl
/-- Spend says no: one refusal more. -/
theorem Spend_no (b o : Nat) (l r : Int) (ns : List Int) (cap : Nat) (a : Option Addr) (w : World)
    (c0 : w.cell? ⟨b, o, none⟩ = some (.int .i64 l)) (c2 : w.cell? ⟨b, o + 2, none⟩ = some (.int .i64 r)) (f2 : w.frozen? ⟨b, o + 2, none⟩ = false)
    (hn : SlAt 1 (flat (intC .i64)) w a ns) (hlen : ns.length ≤ 1000) (h0 : 0 ≤ l) (h1 : l ≤ 9223372036854775807) (hr0 : 0 ≤ r) (hr1 : r < 9223372036854775807) (hs : spendTo l ns = none) :
    Calls Try.prog 15 #[.pointer (some ⟨b, o, none⟩), .slice a ns.length cap] w fun e w' => e = .returned (.bool false) ∧ w' = w.setCell ⟨b, o + 2, none⟩ (.int .i64 (r + 1)) := by
  have HS := Lib.hid hs
  have HN := Lib.hid hn
  clear hs hn
  go_enter Try.func15, Try.ntmps15
  go_wp2
  go_loop [5, 14] (fun x i => ∃ (k : Nat) (y : Int), k ≤ ns.length ∧ i = .int .i64 k ∧ x = .int .i64 y ∧ 0 ≤ y ∧ y ≤ l ∧ spendTo y (ns.drop k) = none) (fun _ i => ns.length - (intOf i).toNat)
  case atStart => exact ⟨0, l, by omega, rfl, rfl, h0, by omega, by simpa using HS.out⟩
  case round =>
    obtain ⟨k, y, hk, rfl, rfl, hy0, hy1, hsp⟩ := hrel
    have HY := Lib.hid hsp
    clear hsp HS
    by_cases hlt : k < ns.length
    · obtain ⟨ab, ao, rfl, _, hck⟩ := HN.out.intAt k hlt
      have HT := Lib.hid (spend_step y ns k hlt)
      generalize ns[k]?.getD 0 = x at hck HT
      by_cases hb1 : x < 0
      · go_wp2_with (go_at_call 19; refine (Refuse_any b o r w hr0 hr1 c2 f2).mono ?_; rintro e w' ⟨rfl, rfl⟩)
        go_ret
        exact ⟨rfl, rfl⟩
      · by_cases hb2 : y < x
        · go_wp2_with (go_at_call 19; refine (Refuse_any b o r w hr0 hr1 c2 f2).mono ?_; rintro e w' ⟨rfl, rfl⟩)
          go_ret
          exact ⟨rfl, rfl⟩
        · go_wp2
          go_round
          case rel => exact ⟨k + 1, y - x, by omega, by go_num, rfl, by omega, by omega, by have h := HT.out; rw [if_neg (by omega), HY.out] at h; exact h.symm⟩
          case measure => simp [intOf]; omega
    · exfalso
      have h := HY.out
      rw [List.drop_eq_nil_of_le (by omega)] at h
      cases h
/-- Spend says yes. -/
theorem Spend_yes (b o : Nat) (l s : Int) (ns : List Int) (cap : Nat) (a : Option Addr) (w : World) (rest : Int)
    (c0 : w.cell? ⟨b, o, none⟩ = some (.int .i64 l)) (c1 : w.cell? ⟨b, o + 1, none⟩ = some (.int .i64 s)) (f0 : w.frozen? ⟨b, o, none⟩ = false) (f1 : w.frozen? ⟨b, o + 1, none⟩ = false)
    (hn : SlAt 1 (flat (intC .i64)) w a ns) (hlen : ns.length ≤ 1000) (h0 : 0 ≤ l) (h1 : l ≤ 9223372036854775807) (h2 : 0 ≤ s) (h3 : s + l ≤ 9223372036854775807) (hs : spendTo l ns = some rest) :
    Calls Try.prog 15 #[.pointer (some ⟨b, o, none⟩), .slice a ns.length cap] w fun e w' => e = .returned (.bool true) ∧
      ∃ n, w' = ((w.setCell ⟨b, o + 1, none⟩ (.int .i64 (s + (l - rest)))).setCell ⟨b, o, none⟩ (.int .i64 rest)).drewN n := by
  have HS := Lib.hid hs
  have HN := Lib.hid hn
  clear hs hn
  go_enter Try.func15, Try.ntmps15
  go_wp2
  go_loop [5, 14] (fun x i => ∃ (k : Nat) (y : Int), k ≤ ns.length ∧ i = .int .i64 k ∧ x = .int .i64 y ∧ 0 ≤ y ∧ y ≤ l ∧ spendTo y (ns.drop k) = some rest) (fun _ i => ns.length - (intOf i).toNat)
  case atStart => exact ⟨0, l, by omega, rfl, rfl, h0, by omega, by simpa using HS.out⟩
  case round =>
    obtain ⟨k, y, hk, rfl, rfl, hy0, hy1, hsp⟩ := hrel
    have HY := Lib.hid hsp
    clear hsp HS
    by_cases hlt : k < ns.length
    · obtain ⟨ab, ao, rfl, _, hck⟩ := HN.out.intAt k hlt
      have HT := Lib.hid (spend_step y ns k hlt)
      generalize ns[k]?.getD 0 = x at hck HT
      have hx : 0 ≤ x ∧ x ≤ y := by
        have h := HT.out
        rw [HY.out] at h
        split at h
        · cases h
        · omega
      obtain ⟨hx0, hx1⟩ := hx
      go_wp2
      go_round
      case rel => exact ⟨k + 1, y - x, by omega, by go_num, rfl, by omega, by omega, by have h := HT.out; rw [if_neg (by omega), HY.out] at h; exact h.symm⟩
      case measure => simp [intOf]; omega
    · obtain rfl : y = rest := by
        have h := HY.out
        rw [List.drop_eq_nil_of_le (by omega)] at h
        exact Option.some.inj h
      clear HY
      go_wp2
      go_region
      all_goals
        go_wp2
        go_ret
        exact ⟨rfl, 1, rfl⟩
end Go.Proofs.Ytgbbahgllpdjmaa
