/- Walks of package bound. -/
import Derived.Test.YthegopajkljlmaaCellNew
import Derived.Test.YthegopajkljlmaaCellRuns
set_option linter.unusedVariables false
set_option linter.unusedSimpArgs false
namespace Go.Proofs.Ythegopajkljlmaa
open Go.RowKit
theorem Ticks_any (n b : Int) (w : World) (hn : n ≤ 9223372036854775806) :
    Calls Try.prog 40 #[.int .i64 n, .int .i64 b] w fun e w' => e = .returned (.int .i64 (if n ≤ 0 then 0 else if b ≤ 0 then -1 else (n + b - 1) / b)) ∧ w' = w := by
  by_cases h1 : n ≤ 0
  · rw [if_pos h1]
    go_enter Try.func40, Try.ntmps40
    go_wp2
    go_ret
    exact ⟨rfl, rfl⟩
  · rw [if_neg h1]
    by_cases h2 : b ≤ 0
    · rw [if_pos h2]
      go_enter Try.func40, Try.ntmps40
      go_wp2
      go_ret
      exact ⟨rfl, rfl⟩
    · rw [if_neg h2]
      have hb : 0 < b := by omega
      have hq0 : 0 ≤ n / b := Int.ediv_nonneg (by omega) (by omega)
      have hq1 : n / b ≤ n := Int.ediv_le_self _ (by omega)
      have hm := Int.emod_nonneg n (show b ≠ 0 by omega)
      have hm2 := Int.emod_lt_of_pos n hb
      have he := Int.mul_ediv_add_emod n b
      by_cases h3 : n % b = 0
      · have hv : (n + b - 1) / b = n / b := by
          rw [show n + b - 1 = (b - 1) + b * (n / b) from by omega, Int.add_mul_ediv_left _ _ (by omega), Int.ediv_eq_zero_of_lt (by omega) (by omega)]
          omega
        rw [hv]
        clear hv he
        go_enter Try.func40, Try.ntmps40
        go_wp2
        all_goals
          go_ret
          exact ⟨rfl, rfl⟩
      · have hv : (n + b - 1) / b = n / b + 1 := by
          rw [show n + b - 1 = (n % b - 1) + b * (n / b + 1) from by rw [Int.mul_add]; omega, Int.add_mul_ediv_left _ _ (by omega), Int.ediv_eq_zero_of_lt (by omega) (by omega)]
          omega
        rw [hv]
        have h4 : 0 < n % b := by omega
        clear hv he
        go_enter Try.func40, Try.ntmps40
        go_wp2
        all_goals
          go_ret
          exact ⟨rfl, rfl⟩
def ticksOf (n b : Int) : Int := if n ≤ 0 then 0 else if b ≤ 0 then -1 else (n + b - 1) / b
set_option maxHeartbeats 1000000 in
theorem boundTicks_nil (b : Int) (w : World) : Calls Try.prog 12 #[.pointer none, .int .i64 b] w fun e w' => e = .returned (.int .i64 0) ∧ w' = w := by
  go_enter Try.func12, Try.ntmps12
  go_wp2
  go_ret
  exact ⟨rfl, rfl⟩
theorem some_any (n : Int) (h0 : 0 ≤ n) (h1 : n ≤ 1099511627776) (w : World) : Calls Try.prog 41 #[.int .i64 n] w fun e w' => e = .returned (.int .i64 n) ∧ w' = w := by
  have d1 : ¬ n < 0 := by omega
  have d2 : ¬ 1099511627776 < n := by omega
  go_enter Try.func41, Try.ntmps41
  go_wp2
  go_ret
  exact ⟨rfl, rfl⟩
theorem some_off (n : Int) (h : n < 0 ∨ 1099511627776 < n) (w : World) : Calls Try.prog 41 #[.int .i64 n] w fun e w' => e = .returned (.int .i64 0) ∧ w' = w := by
  by_cases d1 : n < 0
  · go_enter Try.func41, Try.ntmps41
    go_wp2
    go_ret
    exact ⟨rfl, rfl⟩
  · have d2 : 1099511627776 < n := by omega
    go_enter Try.func41, Try.ntmps41
    go_wp2
    go_ret
    exact ⟨rfl, rfl⟩
theorem ticks_of (n b : Int) (w : World) (hn : n ≤ 9223372036854775806) : Calls Try.prog 40 #[.int .i64 n, .int .i64 b] w fun e w' => e = .returned (.int .i64 (ticksOf n b)) ∧ w' = w := Ticks_any n b w hn
def someI (n : Int) : Int := if n < 0 ∨ 1099511627776 < n then 0 else n
theorem someI_any (n : Int) (w : World) : Calls Try.prog 41 #[.int .i64 n] w fun e w' => e = .returned (.int .i64 (someI n)) ∧ w' = w := by
  unfold someI
  split
  · rename_i h; exact some_off n h w
  · rename_i h; exact some_any n (by omega) (by omega) w
theorem someI_range (n : Int) : 0 ≤ someI n ∧ someI n ≤ 1099511627776 := by unfold someI; split <;> omega
set_option maxHeartbeats 1000000 in
theorem most_of (room feeds b : Int) (w : World) : Calls Try.prog 13 #[.int .i64 room, .int .i64 feeds, .int .i64 b] w fun e w' => e = .returned (.int .i64 (ticksOf (someI room + someI feeds) b)) ∧ w' = w := by
  have h1 := someI_range room
  have h2 := someI_range feeds
  have HA := Lib.hid (someI_any room)
  have HB := Lib.hid (someI_any feeds)
  have HT := Lib.hid (ticks_of (someI room + someI feeds) b)
  generalize someI room = x at *
  generalize someI feeds = y at *
  have hw : wrap64 (x + y) = x + y := by unfold wrap64; omega
  go_enter Try.func13, Try.ntmps13
  go_wp2_with (first
    | (go_at_call 40; (with_reducible refine (HT.out _ (by omega)).mono ?_); rintro e wz ⟨rfl, hwz⟩; have hwz := hwz.symm; subst hwz)
    | (go_at_call 41; (with_reducible refine (HA.out _).mono ?_); rintro e wz ⟨rfl, hwz⟩; have hwz := hwz.symm; subst hwz; clear HA)
    | (go_at_call 41; (with_reducible refine (HB.out _).mono ?_); rintro e wz ⟨rfl, hwz⟩; have hwz := hwz.symm; subst hwz))
  go_ret
  exact ⟨rfl, rfl⟩
set_option maxHeartbeats 1000000 in
theorem boundTicks_st {w0 w : World} {L : List HP} {cb N : Nat} {c : Cl} (h : St w0 w L) (n : Nat) (hn : L[n]? = some (clP cb c N)) (b : Int) (hN : N < 2 ^ 28) :
    Calls Try.prog 12 #[.pointer (some ⟨cb, 0, none⟩), .int .i64 b] w fun e w' => e = .returned (.int .i64 (ticksOf c.q.length b)) ∧ St w0 w' L := by
  obtain ⟨rb, qa, qc, rv, tv, hok, hb, hl⟩ := cl_see h n hn
  have hlen := hok.len
  obtain ⟨_, _, _, c3, _⟩ := cells8 hb (Below.refl _ _)
  have HW := Lib.hid (waiting_st qa c.q.length qc h)
  have HT := Lib.hid (fun w' => ticks_of c.q.length b w' (by omega))
  clear h hn hb hok hlen hN
  go_enter Try.func12, Try.ntmps12
  go_wp2_with (first
    | (go_at_call 40; (with_reducible refine (HT.out _).mono ?_); rintro e wz ⟨rfl, hwz⟩; have hwz := hwz.symm; subst hwz)
    | (go_at_call 25; (with_reducible refine HW.out.mono ?_); rintro e w1 ⟨rfl, h1⟩; have H1 := Lib.hid h1; clear h1 HW))
  go_ret
  exact ⟨rfl, H1.out⟩
theorem clear_none (w : World) : Calls Try.prog 14 #[.slice none 0 0] w fun e w' => e = .returned (.bool true) ∧ w' = w := by
  go_enter Try.func14, Try.ntmps14
  go_wp2
  go_rounds 1
  go_ret
  exact ⟨rfl, rfl⟩
theorem clear_nilptr {g : Nat} {T : TypeId} (w : World) (hg : w.heap[g]? = some (.cells #[.pointer none] T (0, 0))) : Calls Try.prog 14 #[.slice (some ⟨g, 0, none⟩) 1 1] w fun e w' => e = .returned (.bool true) ∧ w' = w := by
  have g0 := cells1 hg (Below.refl _ _)
  go_enter Try.func14, Try.ntmps14
  go_wp2
  go_rounds 2
  go_ret
  exact ⟨rfl, rfl⟩
theorem rn_c3 {w : World} {rb pb : Nat} {v : Value} {r : Rn} {T : TypeId} (h : w.heap[rb]? = some (.cells (r.cells pb v) T (0, 0))) : w.cell? ⟨rb, 3, none⟩ = some (.pointer (some ⟨pb, 0, none⟩)) := by
  obtain ⟨_, _, _, h3, _⟩ := cells10 h (Below.refl _ _)
  exact h3
set_option maxHeartbeats 1000000 in
theorem clear_busy {w0 w : World} {L : List HP} {cb N : Nat} {c : Cl} (h : St w0 w L) (n : Nat) (hn : L[n]? = some (clP cb c N)) {g : Nat} {T : TypeId} (m : Nat) (hm : L[m]? = some (pt g (.cells #[.pointer (some ⟨cb, 0, none⟩)] T (0, 0)))) (hq : 0 < c.q.length) :
    Calls Try.prog 14 #[.slice (some ⟨g, 0, none⟩) 1 1] w fun e w' => e = .returned (.bool false) ∧ St w0 w' L := by
  obtain ⟨rb, qa, qc, rv, tv, hok, hb, hl⟩ := cl_see h n hn
  obtain ⟨_, _, _, c3, _⟩ := cells8 hb (Below.refl _ _)
  have g0 := cells1 (h.blk m hm).1 (Below.refl _ _)
  have HW := Lib.hid (waiting_st qa c.q.length qc h)
  have hq' : (0 : Int) < c.q.length := by omega
  clear h hn hb hok hm hq
  generalize c.q.length = ql at *
  go_enter Try.func14, Try.ntmps14
  go_wp2
  refine wp_loop_rounds 2 ?_
  rw [rounds_succ]
  go_wp2_with (go_at_call 25; (with_reducible refine HW.out.mono ?_); rintro e w1 ⟨rfl, h1⟩; have H1 := Lib.hid h1; clear h1 HW)
  go_ret
  exact ⟨rfl, H1.out⟩
end Go.Proofs.Ythegopajkljlmaa
