/- The walk of BoundRuns. -/
import Derived.Test.YtdncpihaeobaeaaGreatK4
set_option linter.unusedVariables false
set_option linter.unusedSimpArgs false
namespace Go.Proofs.YtdncpihaeobaeaaGreat
open Go.RowKit
def i24 (j : Nat) : Inp := ⟨false, ⟨j, 0, 0, 0⟩⟩
def c24 : Nat → Cl
  | 0 => newC 50 0 p15
  | j + 1 => ((c24 j).offer 9 (i24 j)).2
theorem o24 : ∀ j, j < 7 → ((c24 j).offer 9 (i24 j)).1 = 0 := by decide +kernel
theorem l24 : (c24 7).q.length = 7 := by decide +kernel
theorem t24 : ticksOf 7 3 = 3 := by decide +kernel
theorem u24 : ticksOf (someI 16 + someI 0) 4 = 4 := by decide +kernel
theorem i24_wf {j : Nat} (hj : j < 7) : (i24 j).ev.wf := ⟨WalkArith.wf_i64 (by show _ ≤ (j : Int) ∧ (j : Int) ≤ _; omega), mark1000_wf.2⟩
set_option maxHeartbeats 4000000 in
set_option maxRecDepth 20000 in
theorem BoundRuns_any (w : World) : Calls Tryz.prog 39 #[] w fun e w' => e = .returned (.bool true) ∧ Below w.heap.size w w' := by
  have hc := cellNew_st (St.start w) 0 50 (by decide) (by decide) (by decide) (by decide) p15 none 0 (Seen.old (.inl rfl)) (fun _ => rfl) (fun _ h => by cases h) (by decide) p15_right
  have hc : Calls Tryz.prog 63 #[.int .i64 0, .int .i64 50, .agg #[.slice none 0 0, .int .i64 10, .int .i64 10, .int .i64 2, .int .i64 (-1), .int .i64 (-1)]] w _ := hc
  have HC := Lib.hid hc
  clear hc
  go_enter Tryz.func39, Tryz.ntmps39
  go_upto_block 0 with (go_at_call 63; (with_reducible refine HC.out.mono ?_); rintro e w1 ⟨cb, rfl, h1⟩; have h1 : St w w1 [clP cb (c24 0) 0] := h1; have HS1 := Lib.hid h1; clear h1 HC)
  go_cut [2] from 7 to 16 (fun _ wx => St w wx [clP cb (c24 7) 7])
  case first =>
    go_wp2_with fail
    go_loopw [7] (fun iv wr => ∃ j : Nat, j ≤ 7 ∧ iv = .int .i64 j ∧ St w wr [clP cb (c24 j) j]) (fun iv _ => 7 - (intOf iv).toNat)
    case atStart => exact ⟨0, by omega, rfl, HS1.out⟩
    case round =>
      obtain ⟨j, hj, rfl, hst⟩ := hrel
      by_cases hlt : (j : Int) < 7
      · have hjn : j < 7 := by omega
        have ho := o24 j hjn
        have hoc := offer_st hst 0 rfl 9 (i24 j) (i24_wf hjn) (by omega)
        have hoc : Calls Tryz.prog 64 #[.pointer (some ⟨cb, 0, none⟩), .int .i64 9, .agg #[.bool false, .int .i64 j, .int .i64 0, .int .i64 0, .int .u64 0]] _ _ := hoc
        have HOC := Lib.hid hoc
        have HO := Lib.hid ho
        clear hoc ho hst
        go_wp2_with (go_at_call 64; (with_reducible refine HOC.out.mono ?_); rintro e w2 ⟨rfl, h2⟩; rw [HO.out]; have h2 : St w w2 [clP cb (c24 (j + 1)) (j + 1)] := h2; have HS2 := Lib.hid h2; clear h2 HOC)
        go_roundw
        case rel => exact ⟨j + 1, by omega, by go_num, HS2.out⟩
        case measure => simp [intOf]; omega
      · obtain rfl : j = 7 := by omega
        have HST := Lib.hid hst
        clear hst
        go_wp2
        go_meet
        exact HST.out
  case rest =>
    have h := hcut
    clear hcut HS1
    have HT := Lib.hid (boundTicks_st h 0 rfl 3 (by decide))
    clear h
    go_wp2_with (first
      | (go_at_call 35; (with_reducible refine (boundTicks_nil 3 _).mono ?_); rintro e wz ⟨rfl, hwz⟩; have hwz := hwz.symm; subst hwz)
      | (go_at_call 36; (with_reducible refine (clear_none _).mono ?_); rintro e wz ⟨rfl, hwz⟩; have hwz := hwz.symm; subst hwz)
      | (go_at_call 36; (with_reducible refine HB.out.mono ?_); rintro e w3 ⟨rfl, h3⟩; have H3 := Lib.hid h3; have HN := Lib.hid (clear_nilptr (T := 72) (w3.alloc (.cells #[.pointer none] 72)) (heap_new _ _)); clear h3 HB)
      | (go_at_call 36; (with_reducible refine HN.out.mono ?_); rintro e wz ⟨rfl, hwz⟩; have hwz := hwz.symm; subst hwz)
      | (go_at_call 38; (with_reducible refine (most_of 16 0 4 _).mono ?_); rintro e wz ⟨rfl, hwz⟩; have hwz := hwz.symm; subst hwz; rw [u24])
      | (go_at_call 35; (with_reducible refine HT.out.mono ?_); rintro e w2 ⟨rfl, h2⟩; rw [l24]; rw [show ticksOf ((7 : Nat) : Int) 3 = 3 from t24]; have HB := Lib.hid (clear_busy (h2.alloc (.cells #[.pointer (some ⟨cb, 0, none⟩)] 72)) 0 rfl 1 rfl (by rw [l24]; decide)); clear h2 HT))
    go_ret
    exact ⟨rfl, (H3.out.alloc _).below⟩
end Go.Proofs.YtdncpihaeobaeaaGreat
