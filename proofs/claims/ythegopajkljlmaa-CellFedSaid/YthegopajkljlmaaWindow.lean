/- Walks of package window: the starts of a time's windows. -/
import Derived.Test.YthegopajkljlmaaOwn
set_option linter.unusedVariables false
namespace Go.Proofs.Ythegopajkljlmaa
open Go.RowKit
def mostOf (size slide : Int) : Int := (size + slide - 1) / slide
def rightW (size slide : Int) : Prop := 1 ≤ slide ∧ slide ≤ size ∧ size ≤ 1048576 ∧ mostOf size slide ≤ 8
instance (a b : Int) : Decidable (rightW a b) := by unfold rightW; infer_instance
theorem mostOf_mul {size slide : Int} (h1 : 1 ≤ slide) (h2 : slide ≤ size) : size ≤ mostOf size slide * slide ∧ mostOf size slide * slide ≤ size + slide - 1 ∧ 1 ≤ mostOf size slide := by
  unfold mostOf
  have h := Int.mul_ediv_add_emod (size + slide - 1) slide
  have hm := Int.emod_nonneg (size + slide - 1) (show slide ≠ 0 by omega)
  have hl := Int.emod_lt_of_pos (size + slide - 1) (show 0 < slide by omega)
  rw [Int.mul_comm] at h
  refine ⟨by omega, by omega, ?_⟩
  rw [Int.le_ediv_iff_mul_le (by omega)]
  omega
/-- windows number n - 1 to 0 before a time, as they are kept -/
def winds (last time size slide : Int) : Nat → List Int
  | 0 => []
  | n + 1 => (if 0 ≤ last - n * slide ∧ time - size < last - n * slide then [last - n * slide] else []) ++ winds last time size slide n
def startsOf (time size slide : Int) : List Int :=
  if rightW size slide ∧ 0 ≤ time ∧ time ≤ 1099511627776 then winds (time - time % slide) time size slide (mostOf size slide).toNat else []
theorem winds_mem {last time size slide : Int} {n : Nat} {s : Int} (h : s ∈ winds last time size slide n) : 0 ≤ s ∧ time - size < s ∧ ∃ k : Nat, k < n ∧ s = last - k * slide := by
  induction n with
  | zero => simp [winds] at h
  | succ n ih =>
    rw [winds, List.mem_append] at h
    rcases h with h | h
    · split at h
      · rename_i hc
        simp at h
        exact ⟨by omega, by omega, n, by omega, h⟩
      · simp at h
    · obtain ⟨h1, h2, k, h3, h4⟩ := ih h
      exact ⟨h1, h2, k, by omega, h4⟩
theorem winds_len (last time size slide : Int) (n : Nat) : (winds last time size slide n).length ≤ n := by
  induction n with
  | zero => simp [winds]
  | succ n ih =>
    rw [winds, List.length_append]
    split <;> simp <;> omega
theorem most_any (size slide : Int) (w : World) (h0 : 1 ≤ slide) (h1 : slide ≤ size) (h2 : size ≤ 1048576) :
    Calls Try.prog 71 #[.int .i64 size, .int .i64 slide] w fun e w' => e = .returned (.int .i64 (mostOf size slide)) ∧ w' = w := by
  unfold mostOf
  go_enter Try.func71, Try.ntmps71
  go_wp2
  go_ret
  exact ⟨rfl, rfl⟩
theorem right_any (size slide : Int) (w : World) :
    Calls Try.prog 53 #[.int .i64 size, .int .i64 slide] w fun e w' => e = .returned (.bool (decide (rightW size slide))) ∧ w' = w := by
  by_cases h : 1 ≤ slide ∧ slide ≤ size ∧ size ≤ 1048576
  · obtain ⟨h0, h1, h2⟩ := h
    have hm := most_any size slide w h0 h1 h2
    have hd : decide (rightW size slide) = decide (mostOf size slide ≤ 8) := decide_eq_decide.2 ⟨fun h => h.2.2.2, fun h => ⟨h0, h1, h2, h⟩⟩
    rw [hd]
    generalize mostOf size slide = m at *
    go_enter Try.func53, Try.ntmps53
    go_wp2_with (go_at_call 71; refine hm.mono ?_; rintro e w ⟨rfl, rfl⟩)
    all_goals
      go_ret
      exact ⟨by simp [*], rfl⟩
  · have hd : decide (rightW size slide) = false := decide_eq_false fun hr => h ⟨hr.1, hr.2.1, hr.2.2.1⟩
    rw [hd]
    clear hd
    by_cases h0 : 1 ≤ slide
    · by_cases h1 : slide ≤ size
      · have h2 : ¬ size ≤ 1048576 := fun h2 => h ⟨h0, h1, h2⟩
        clear h
        go_enter Try.func53, Try.ntmps53
        go_wp2
        go_ret
        exact ⟨rfl, rfl⟩
      · clear h
        go_enter Try.func53, Try.ntmps53
        go_wp2
        go_ret
        exact ⟨rfl, rfl⟩
    · clear h
      go_enter Try.func53, Try.ntmps53
      go_wp2
      go_ret
      exact ⟨rfl, rfl⟩
theorem starts_none (time size slide : Int) (w : World) (h : ¬ (rightW size slide ∧ 0 ≤ time ∧ time ≤ 1099511627776)) :
    Calls Try.prog 81 #[.int .i64 time, .int .i64 size, .int .i64 slide] w fun e w' => e = .returned (.slice none 0 0) ∧ w' = w := by
  have hr := right_any size slide w
  by_cases h1 : rightW size slide
  · rw [decide_eq_true h1] at hr
    by_cases h2 : time < 0
    · clear h
      go_enter Try.func81, Try.ntmps81
      go_wp2_with (go_at_call 53; refine hr.mono ?_; rintro e w ⟨rfl, rfl⟩)
      go_ret
      exact ⟨rfl, rfl⟩
    · have h3 : 1099511627776 < time := by
        by_cases h3 : 1099511627776 < time
        · exact h3
        · exact absurd ⟨h1, by omega, by omega⟩ h
      clear h
      go_enter Try.func81, Try.ntmps81
      go_wp2_with (go_at_call 53; refine hr.mono ?_; rintro e w ⟨rfl, rfl⟩)
      go_ret
      exact ⟨rfl, rfl⟩
  · rw [decide_eq_false h1] at hr
    clear h h1
    go_enter Try.func81, Try.ntmps81
    go_wp2_with (go_at_call 53; refine hr.mono ?_; rintro e w ⟨rfl, rfl⟩)
    go_ret
    exact ⟨rfl, rfl⟩
theorem intInfo : ∃ i, Try.prog.info? 3 = some i ∧ i.zero = some (.int .i64 0) ∧ i.size = 1 ∧ i.bytes = 8 := info_parts (by kernel_rfl)
set_option maxHeartbeats 1000000 in
set_option maxRecDepth 20000 in
theorem starts_any (time size slide : Int) (w : World) :
    Calls Try.prog 81 #[.int .i64 time, .int .i64 size, .int .i64 slide] w fun e w' => ∃ (v : Value), e = .returned v ∧ w'.ownsRow w.heap.size 3 1 v (startsOf time size slide).length ((startsOf time size slide).flatMap (intC .i64)) ∧ Below w.heap.size w w' := by
  by_cases h : rightW size slide ∧ 0 ≤ time ∧ time ≤ 1099511627776
  · have hS : startsOf time size slide = winds (time - time % slide) time size slide (mostOf size slide).toNat := by unfold startsOf; rw [if_pos h]
    rw [hS]
    clear hS
    obtain ⟨hr, ht0, ht1⟩ := h
    have hw := right_any size slide w
    rw [decide_eq_true hr] at hw
    obtain ⟨hs0, hs1, hs2, hm8⟩ := hr
    have hmm := most_any size slide w hs0 hs1 hs2
    have hm1 := (mostOf_mul hs0 hs1).2.2
    have hmod0 := Int.emod_nonneg time (show slide ≠ 0 by omega)
    have hmod1 := Int.emod_lt_of_pos time (show 0 < slide by omega)
    have htm : time.tmod slide = time % slide := Int.tmod_eq_emod_of_nonneg ht0
    have htl : time % slide ≤ time := by
      have h1 := Int.mul_ediv_add_emod time slide
      have h2 := Int.mul_nonneg (show 0 ≤ slide by omega) (Int.ediv_nonneg ht0 (show 0 ≤ slide by omega))
      omega
    obtain ⟨i0, hi, hz0, hz1, hz2⟩ := intInfo
    generalize hlast : time - time % slide = last at *
    generalize hmo : mostOf size slide = m at *
    go_enter Try.func81, Try.ntmps81
    go_wp2_with (first | (go_at_call 53; refine hw.mono ?_; rintro e w ⟨rfl, rfl⟩) | (go_at_call 71; refine hmm.mono ?_; rintro e w ⟨rfl, rfl⟩))
    have hmN : ((m.toNat : Nat) : Int) = m := by omega
    go_loopw [7, 9] (fun v iv wr => ∃ (n : Nat) (xs : List Int), n ≤ m.toNat ∧ xs.length + n ≤ m.toNat ∧ iv = .int .i64 (n - 1) ∧ wr.ownsRow w.heap.size 3 1 v xs.length (xs.flatMap (intC .i64)) ∧ Below w.heap.size w wr ∧ xs ++ winds last time size slide n = winds last time size slide m.toNat) (fun _ iv _ => (intOf iv + 1).toNat)
    case atStart => exact ⟨m.toNat, [], by omega, by simp, by rw [hmN], World.ownsRow_nil _ _ _ _, Below.refl _ _, rfl⟩
    case round =>
      obtain ⟨n, xs, hn, hxs, rfl, hown, hbel, heq⟩ := hrel
      have hsz := hbel.size
      match n, hn, hxs, heq with
      | 0, hn, hxs, heq =>
        simp only [winds, List.append_nil] at heq
        subst heq
        go_wp2
        go_ret
        exact ⟨_, rfl, hown, hbel⟩
      | n + 1, hn, hxs, heq =>
        rw [show (((n + 1 : Nat) : Int) - 1) = n from by omega]
        rw [winds] at heq
        have hp0 : 0 ≤ (n : Int) * slide := Int.mul_nonneg (by omega) (by omega)
        have hp1 : (n : Int) * slide ≤ 7 * 1048576 := Int.mul_le_mul (by omega) (by omega) (by omega) (by omega)
        have HO := Lib.hid hown
        have HE := Lib.hid heq
        clear hown heq
        by_cases c1 : 0 ≤ last - n * slide
        · by_cases c2 : time - size < last - n * slide
          · have HE' : Hid (xs ++ [last - n * slide] ++ winds last time size slide n = winds last time size slide m.toNat) := by
              show _ = _
              rw [← HE.out, if_pos ⟨c1, c2⟩]
              simp
            clear HE
            go_wp2_with (at_builtin; refine wpList_append_sl (intC_len _) (by decide) (intC_one _) rfl _ _ 54 rfl w.heap.size 3 i0 _ 8 Try.underlying54 hi hz0 hz1 hz2 rfl _ xs rfl (HO.out.alloc _) (some ⟨wr.heap.size, 0, none⟩) 1 [last - n * slide] rfl (by simp) (SlAt.one (intC_len _) (heap_new _ _)) (by simp; omega) (by simp [maxLen]; omega) (by simp; omega) ?_)
            intro v' w' h1 h2 h3
            go_wp2
            go_roundw
            case rel => exact ⟨n, xs ++ [last - n * slide], by omega, by simp; omega, by go_num, by simpa using h1, (hbel.alloc (by omega) _).grown h2 (by simp; omega) (fun k hk => (HO.out.lt k hk).1), HE'.out⟩
            case measure => simp [intOf]
          · have HE' : Hid (xs ++ winds last time size slide n = winds last time size slide m.toNat) := by
              show _ = _
              rw [← HE.out, if_neg (fun h => c2 h.2)]
              simp
            clear HE
            go_wp2
            go_roundw
            case rel => exact ⟨n, xs, by omega, by omega, by go_num, HO.out, hbel, HE'.out⟩
            case measure => simp [intOf]
        · have HE' : Hid (xs ++ winds last time size slide n = winds last time size slide m.toNat) := by
            show _ = _
            rw [← HE.out, if_neg (fun h => c1 h.1)]
            simp
          clear HE
          go_wp2
          go_roundw
          case rel => exact ⟨n, xs, by omega, by omega, by go_num, HO.out, hbel, HE'.out⟩
          case measure => simp [intOf]
  · have hS : startsOf time size slide = [] := by unfold startsOf; rw [if_neg h]
    rw [hS]
    exact (starts_none time size slide w h).mono (by rintro e w' ⟨rfl, rfl⟩; exact ⟨_, rfl, World.ownsRow_nil _ _ _ _, Below.refl _ _⟩)
end Go.Proofs.Ythegopajkljlmaa
