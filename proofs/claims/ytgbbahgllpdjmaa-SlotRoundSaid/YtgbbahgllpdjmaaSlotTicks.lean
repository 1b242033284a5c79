/- Walk of the law SlotTicks. -/
import Derived.Test.YtgbbahgllpdjmaaSlotSums
set_option linter.unusedVariables false
namespace Go.Proofs.Ytgbbahgllpdjmaa
open Go.ChangeShapes Go.WideShapes Go.ChangeAt Go.RowKit
set_option maxHeartbeats 2000000 in
theorem SlotTicks_walk (w : World) (n : Int) (hn0 : -9223372036854775808 ≤ n) (hn1 : n ≤ 9223372036854775807) (budget : Int) (hb0 : -9223372036854775808 ≤ budget) (hb1 : budget ≤ 9223372036854775807)
    (tenant : Int) (ht0 : -9223372036854775808 ≤ tenant) (ht1 : tenant ≤ 9223372036854775807) (tick : Int) (hk0 : -9223372036854775808 ≤ tick) (hk1 : tick ≤ 9223372036854775807)
    (a1 : Option Addr) (cap1 : Nat) (l : List Int) (hle1 : l.length ≤ cap1) (hmx1 : cap1 ≤ maxLen) (hs1 : SlAt 1 (isInt .i64) w a1 l) :
    Calls Try.prog 7 #[.int .i64 n, .int .i64 budget, .int .i64 tenant, .int .i64 tick, .slice a1 l.length cap1] w fun e w' => e = .returned (.bool true) ∧ Below w.heap.size w w' := by
  obtain ⟨i0, hi, hz0, hz1, hz2⟩ := intInfo'
  simp only [maxLen] at hmx1
  have H1 := Lib.hid hs1
  clear hs1
  have hww := within_range n 0 60 (by decide)
  have hbb := within_range budget 1 8 (by decide)
  have htt := within_range tenant 0 7 (by decide)
  have hat := within_range tick 0 1099511627776 (by decide)
  go_enter Try.func7, Try.ntmps7
  go_wp2_with fail
  refine (Within_any n 0 60 _ hn0 hn1 (by decide) (by decide) (by decide)).mono ?_
  rintro e w ⟨rfl, rfl⟩
  generalize within n 0 60 = wt at *
  go_wp2_with fail
  refine (Within_any budget 1 8 _ hb0 hb1 (by decide) (by decide) (by decide)).mono ?_
  rintro e w ⟨rfl, rfl⟩
  generalize within budget 1 8 = b at *
  go_wp2_with fail
  refine (Within_any tenant 0 7 _ ht0 ht1 (by decide) (by decide) (by decide)).mono ?_
  rintro e w ⟨rfl, rfl⟩
  generalize within tenant 0 7 = t at *
  go_wp2_with fail
  refine (Within_any tick 0 1099511627776 _ hk0 hk1 (by decide) (by decide) (by decide)).mono ?_
  rintro e w ⟨rfl, rfl⟩
  generalize within tick 0 1099511627776 = at0 at *
  obtain ⟨hww0, hww1⟩ := hww
  obtain ⟨hbb0, hbb1⟩ := hbb
  obtain ⟨htt0, htt1⟩ := htt
  obtain ⟨hat0, hat1⟩ := hat
  go_wp2_with fail
  go_loopw [15, 31] (fun rv iv wr => ∃ (xs : List Int), xs.length ≤ 8 ∧ iv = .int .i64 xs.length ∧ wr.ownsRow w.heap.size 3 1 rv xs.length (xs.flatMap (intC .i64)) ∧ Below w.heap.size w wr) (fun _ iv _ => 8 - (intOf iv).toNat)
  case atStart => exact ⟨[], by simp, rfl, World.ownsRow_nil _ _ _ _, Below.refl _ _⟩
  case round =>
    obtain ⟨xs, hk8, rfl, hown, hbel⟩ := hrel
    have hsz := hbel.size
    have HO := Lib.hid hown
    have HB := Lib.hid hbel
    clear hown hbel
    by_cases hlt : xs.length < 8
    · have hlti : (xs.length : Int) < 8 := by omega
      go_upto_if 37 with fail
      go_cut [17, 37] from 38 to 42 (fun xv cv wx => ∃ x, xv = .int .i64 x ∧ 0 ≤ x ∧ x ≤ 99 ∧ wx = wr)
      case first =>
        by_cases hl : xs.length < l.length
        · have hli : (xs.length : Int) < (l.length : Int) := by omega
          obtain ⟨bb, o, rfl, hbw, hcell, hwf⟩ := H1.out.int xs.length hl
          have hcell := (HB.out.cell (p := ⟨bb, o + xs.length, none⟩) hbw).trans hcell
          obtain ⟨hy0, hy1⟩ := wfRange hwf
          generalize l[xs.length]?.getD 0 = y at *
          have hyy := within_range y 0 99 (by decide)
          clear hwf
          go_wp2_with fail
          refine (Within_any y 0 99 _ hy0 hy1 (by decide) (by decide) (by decide)).mono ?_
          rintro e wr ⟨rfl, rfl⟩
          go_wp2
          go_meet
          exact ⟨_, rfl, hyy.1, hyy.2, rfl⟩
        · have hli : ¬ (xs.length : Int) < (l.length : Int) := by omega
          go_wp2
          go_meet
          exact ⟨0, rfl, by decide, by decide, rfl⟩
      case rest =>
        obtain ⟨x, rfl, hx0, hx1, rfl⟩ := hcut
        go_wp2_with (at_builtin; refine wpList_append_sl (intC_len _) (by decide) (intC_one _) rfl _ _ 30 rfl w.heap.size 3 i0 _ 8 Try.underlying30 hi hz0 hz1 hz2 rfl _ xs rfl (HO.out.alloc _) (some ⟨wc.heap.size, 0, none⟩) 1 [x] rfl (by simp) (SlAt.one (intC_len _) (heap_new _ _)) (by simp; omega) (by simp [maxLen]; omega) (by simp; omega) ?_)
        intro v' w2 hown2 hg2 _
        have hown3 : w2.ownsRow w.heap.size 3 1 v' (xs ++ [x]).length ((xs ++ [x]).flatMap (intC .i64)) := by simpa using hown2
        have hB2 : Below w.heap.size w w2 := (HB.out.alloc hsz _).grown hg2 (by simp; omega) (fun k hk => (HO.out.lt k hk).1)
        have HO2 := Lib.hid hown3
        have HB2 := Lib.hid hB2
        clear hown2 hown3 hg2 hB2
        have hlx : Hid ((xs ++ [x]).length = xs.length + 1) := List.length_append
        go_wp2
        go_roundw
        case rel => exact ⟨xs ++ [x], by rw [hlx.out]; omega, by rw [hlx.out]; go_num, HO2.out, HB2.out⟩
        case measure => simp [intOf]; omega
    · obtain ⟨hl8, _⟩ : xs.length = 8 ∧ True := ⟨by omega, trivial⟩
      obtain ⟨g, cap2, rfl, hcap2, hcmax2⟩ := own_form HO.out (by omega)
      simp only [maxLen] at hcmax2
      clear H1 hi hz0 hz1 hz2
      obtain ⟨hg0, hg1⟩ := own_lt HO.out
      obtain ⟨tn, rfl⟩ : ∃ tn : Nat, t = tn := ⟨t.toNat, by omega⟩
      have HSW := Lib.hid (tk_spec wt b hww0 (by omega))
      have HW0 : Hid (Below w.heap.size w wr ∧ wr.ownsRow w.heap.size 3 1 (.slice (some ⟨g, 0, none⟩) xs.length cap2) xs.length (xs.flatMap (intC .i64))) := ⟨HB.out, HO.out⟩
      rw [hl8] at HW0 ⊢
      clear HB HO
      go_wp2_with fail
      go_loopw [18, 19] (fun lv tv wx => ∃ (left ticks : Int) (ys : List Int), lv = .int .i64 left ∧ tv = .int .i64 ticks ∧ 0 ≤ left ∧ left ≤ 60 ∧ 0 ≤ ticks ∧ ticks + tk left b = tk wt b ∧ ys.length = 8 ∧ wx.ownsRow w.heap.size 3 1 (.slice (some ⟨g, 0, none⟩) 8 cap2) 8 (ys.flatMap (intC .i64)) ∧ Below w.heap.size w wx) (fun lv _ _ => (intOf lv).toNat)
      case atStart => exact ⟨wt, 0, xs, rfl, rfl, hww0, hww1, by decide, by omega, hl8, HW0.out.2, HW0.out.1⟩
      case round =>
        obtain ⟨left, ticks, ys, rfl, rfl, hle0, hle60, htk0, htk, hys, hown, hbel⟩ := hrel
        have hsp := tk_spec left b hle0 (by omega)
        have hsw := HSW.out
        have htk60 : ticks ≤ 60 := by omega
        have HO := Lib.hid hown
        have HB := Lib.hid hbel
        have hsz := hbel.size
        obtain ⟨hg2, hg3⟩ := own_lt hown
        clear hown hbel hsp hsw
        by_cases hpos : 0 < left
        · have hst := tk_step left b hpos (by omega)
          obtain ⟨hc1, hc2⟩ := own_cell (i := tn) HO.out (by omega)
          rw [ints_at _ _ _ (by omega)] at hc1
          have hOs := own_setCell (i := tn) (u := .int .i64 left) HO.out (by omega)
          rw [ints_set] at hOs
          have hBs : Below w.heap.size w (wr.setCell ⟨g, tn, none⟩ (.int .i64 left)) := HB.out.setCell hg2 _
          have hly : (ys.set tn left).length = 8 := by rw [List.length_set]; exact hys
          have hsv : serve b (ys.set tn left) tn = min b left := by
            unfold serve
            rw [Int.toNat_natCast, if_pos (by omega), List.getElem?_set_self (by omega)]
            simp only [Option.getD_some]
            omega
          have HOS := Lib.hid hOs
          have HBS := Lib.hid hBs
          have HSV := Lib.hid hsv
          have HST := Lib.hid hst
          have HTK := Lib.hid htk
          clear hOs hBs hsv hst HO HB htk
          go_wp2_with fail
          generalize hw2 : wr.setCell ⟨g, tn, none⟩ (.int .i64 left) = w2 at *
          have hsz2 : wr.heap.size ≤ w2.heap.size := by rw [← hw2]; simp
          have hS2 : SlAt 1 (flat (intC .i64)) w2 (some ⟨g, 0, none⟩) (ys.set tn left) := (slAt_own (l := ys.set tn left) (intC_len _) (by rw [hly]; exact HOS.out)).1
          generalize ys.set tn left = zs at *
          have HS2 := Lib.hid hS2
          clear hw2 hS2 hc1 hc2
          refine (Plan_any b (at0 + ticks) zs (some ⟨g, 0, none⟩) 8 cap2 _ (by omega) (by omega) hly.symm HS2.out (by omega)).mono ?_
          rintro e w3 ⟨rfl, hrow, hb⟩
          have hlt3 := (Array.getElem?_eq_some_iff.1 hrow).1
          have HR3 := Lib.hid hrow
          have HB3 := Lib.hid (HBS.out.trans (hb.mono (by omega)))
          have HO3 := Lib.hid (own_block HOS.out (hb.block g (by omega)))
          have hs3 := hb.size
          clear hrow hb HBS HOS HS2
          generalize w2.heap.size = bk at *
          go_wp2_with fail
          go_loopw [20, 66] (fun sv iv wx => ∃ k : Nat, k ≤ 8 ∧ iv = .int .i64 k ∧ sv = .int .i64 (if ((tn : Int) - (at0 + ticks)) % 8 < k then min b left else 0) ∧ Below w3.heap.size w3 wx) (fun _ iv _ => 8 - (intOf iv).toNat)
          case atStart => exact ⟨0, by omega, rfl, by rw [if_neg (by omega)], Below.refl _ _⟩
          case round =>
            obtain ⟨k, hk, rfl, rfl, hb⟩ := hrel
            have hsx := hb.size
            by_cases hk8 : k < 8
            · have d0 := (hb.cell (p := ⟨bk, k * 2, none⟩) (by simpa using hlt3)).trans ((cell_of_row w3 _ (k * 2) _ _ _ HR3.out).trans (planCells_tenant _ _ _ _ _ hk8))
              have d1 := (hb.cell (p := ⟨bk, k * 2 + 1, none⟩) (by simpa using hlt3)).trans ((cell_of_row w3 _ (k * 2 + 1) _ _ _ HR3.out).trans (planCells_at _ _ _ _ _ hk8))
              rw [if_pos hk8] at d1
              have hbw : bk < wr.heap.size := by omega
              by_cases heq : (at0 + ticks + k) % 8 = tn
              · rw [heq] at d0 d1
                rw [HSV.out] at d1
                rw [if_neg (by omega)] at *
                have HNX : Hid ((if ((tn : Int) - (at0 + ticks)) % 8 < ((k + 1 : Nat) : Int) then min b left else 0) = min b left) := if_pos (by omega)
                have hq0 : 0 ≤ min b left := by omega
                have hq1 : min b left ≤ 60 := by omega
                generalize min b left = q at *
                go_wp2
                go_roundw
                case rel => exact ⟨k + 1, by omega, by go_num, by first | (rw [HNX.out]; done) | (rw [HNX.out]; congr 1; omega), by go_grown⟩
                case measure => simp [intOf]; omega
              · have HNX : Hid ((if ((tn : Int) - (at0 + ticks)) % 8 < ((k + 1 : Nat) : Int) then min b left else 0) = if ((tn : Int) - (at0 + ticks)) % 8 < (k : Int) then min b left else 0) := by
                  by_cases h : ((tn : Int) - (at0 + ticks)) % 8 < (k : Int)
                  · rw [if_pos h]; exact if_pos (by omega)
                  · rw [if_neg h]; exact if_neg (by omega)
                generalize (if ((tn : Int) - (at0 + ticks)) % 8 < (k : Int) then min b left else 0) = q0 at *
                generalize serve b zs ((at0 + ticks + k) % 8) = q at *
                generalize (at0 + ticks + k) % 8 = tt at *
                go_wp2
                go_roundw
                case rel => exact ⟨k + 1, by omega, by go_num, by rw [HNX.out], by go_grown⟩
                case measure => simp [intOf]; omega
            · obtain rfl : k = 8 := by omega
              have HO4 := Lib.hid (own_block HO3.out (hb.block g (by omega)))
              have HB4 := Lib.hid (HB3.out.trans (hb.mono (by omega)))
              rw [if_pos (by omega)]
              clear hb HO3 HB3 HR3
              have hTK := HTK.out
              have hST := HST.out
              by_cases hbl : b ≤ left
              · have hmin : min b left = b := by omega
                rw [hmin] at hST ⊢
                clear hmin
                go_wp2
                all_goals
                  go_roundw
                  case rel => first | exact ⟨left - b, ticks + 1, zs, by first | rfl | go_num | (congr 1; omega), by first | rfl | go_num | (congr 1; omega), by omega, by omega, by omega, by omega, hly, HO4.out, HB4.out⟩ | ((repeat apply Exists.intro); exact ⟨⟨left - b, ticks + 1, zs, by first | rfl | go_num | (congr 1; omega), by first | rfl | go_num | (congr 1; omega), by omega, by omega, by omega, by omega, hly, HO4.out, HB4.out⟩, rfl⟩) | ((repeat apply Exists.intro); exact ⟨⟨left - b, by first | rfl | go_num | (congr 1; omega), ticks + 1, by first | rfl | go_num | (congr 1; omega), by omega, by omega, by omega, by omega, zs, hly, HO4.out, HB4.out⟩, rfl⟩)
                  case measure => simp [intOf]; omega
              · have hmin : min b left = left := by omega
                rw [hmin] at hST ⊢
                rw [show left - left = 0 by omega] at hST
                clear hmin
                go_wp2
                all_goals
                  go_roundw
                  case rel => (repeat apply Exists.intro); exact ⟨⟨0, rfl, ticks + 1, rfl, by omega, by omega, by omega, by omega, zs, hly, HO4.out, HB4.out⟩, rfl, rfl, rfl⟩
                  case measure => simp [intOf]; omega
        · obtain rfl : left = 0 := by omega
          have htk00 : tk 0 b = 0 := rfl
          have hT : ticks = tk wt b := by omega
          clear htk htk00
          go_wp2_with fail
          refine (show Calls Try.prog 22 #[.int .i64 wt, .int .i64 b] wr (fun e w' => e = .returned (.int .i64 (tk wt b)) ∧ w' = wr) from Ticks_any wt b wr (by omega)).mono ?_
          rw [← hT]
          rintro e wr ⟨rfl, rfl⟩
          clear hT
          go_wp2_with fail
          refine (show Calls Try.prog 22 #[.int .i64 (wt + 1), .int .i64 0] wr (fun e w' => e = .returned (.int .i64 (-1)) ∧ w' = wr) from by have := Ticks_any (wt + 1) 0 wr (by omega); rwa [if_neg (by omega), if_pos (by decide)] at this).mono ?_
          rintro e wr ⟨rfl, rfl⟩
          go_wp2_with fail
          refine (show Calls Try.prog 22 #[.int .i64 0, .int .i64 0] wr (fun e w' => e = .returned (.int .i64 0) ∧ w' = wr) from Ticks_any 0 0 wr (by omega)).mono ?_
          rintro e wr ⟨rfl, rfl⟩
          go_wp2_with fail
          refine (show Calls Try.prog 22 #[.int .i64 (-wt), .int .i64 b] wr (fun e w' => e = .returned (.int .i64 0) ∧ w' = wr) from by have := Ticks_any (-wt) b wr (by omega); rwa [if_pos (by omega)] at this).mono ?_
          rintro e wr ⟨rfl, rfl⟩
          go_wp2_with (go_at_call 5; refine (SlotRuns_any _).mono ?_; rintro e w9 ⟨rfl, hb9⟩)
          go_ret
          exact ⟨rfl, HB.out.trans (hb9.mono hsz)⟩
theorem SlotTicks_row (w : World) (a0 : Int) (w0 : (Lit.int .i64 a0).wf = true) (a1 : Int) (w1 : (Lit.int .i64 a1).wf = true) (a2 : Int) (w2 : (Lit.int .i64 a2).wf = true) (a3 : Int) (w3 : (Lit.int .i64 a3).wf = true)
    (a4 : Option Addr) (cap4 : Nat) (l4 : List Int) (le4 : l4.length ≤ cap4) (mx4 : cap4 ≤ maxLen) (nil4 : a4 = none → cap4 = 0) (h4 : SlAt 1 (isInt .i64) w a4 l4) :
    Calls Try.prog 7 #[.int .i64 a0, .int .i64 a1, .int .i64 a2, .int .i64 a3, .slice a4 l4.length cap4] w fun e w' => e = .returned (.bool true) ∧ Below w.heap.size w w' :=
  SlotTicks_walk w a0 (wfRange w0).1 (wfRange w0).2 a1 (wfRange w1).1 (wfRange w1).2 a2 (wfRange w2).1 (wfRange w2).2 a3 (wfRange w3).1 (wfRange w3).2 a4 cap4 l4 le4 mx4 h4
end Go.Proofs.Ytgbbahgllpdjmaa
