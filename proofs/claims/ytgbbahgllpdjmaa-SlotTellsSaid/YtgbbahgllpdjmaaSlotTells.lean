/- Walk of the law SlotTells. -/
import Derived.Test.YtgbbahgllpdjmaaSlotSums
import Derived.Test.YtgbbahgllpdjmaaRoomy
import Derived.Deep.RegionHeld3
set_option linter.unusedVariables false
namespace Go.Proofs.Ytgbbahgllpdjmaa
open Go.ChangeShapes Go.WideShapes Go.ChangeAt Go.RowKit
set_option maxHeartbeats 2000000 in
theorem SlotTells_walk (w : World) (tick : Int) (ht0 : -9223372036854775808 ≤ tick) (ht1 : tick ≤ 9223372036854775807) (budget : Int) (hb0 : -9223372036854775808 ≤ budget) (hb1 : budget ≤ 9223372036854775807)
    (a1 : Option Addr) (cap1 : Nat) (l : List Int) (hle1 : l.length ≤ cap1) (hmx1 : cap1 ≤ maxLen) (hnil1 : a1 = none → cap1 = 0) (hs1 : SlAt 1 (isInt .i64) w a1 l) :
    Calls Try.prog 6 #[.int .i64 tick, .int .i64 budget, .slice a1 l.length cap1] w fun e w' => e = .returned (.bool true) ∧ Below w.heap.size w w' := by
  obtain ⟨i0, hi, hz0, hz1, hz2⟩ := intInfo'
  simp only [maxLen] at hmx1
  obtain ⟨own, hwn⟩ : ∃ own, own = l.take 10 := ⟨_, rfl⟩
  have HLN : Hid (own.length = min 10 l.length) := by rw [hwn]; exact List.length_take
  have HW : Hid (SlAt 1 (flat (intC .i64)) w a1 own) := by rw [hwn]; exact (hs1.take 10).imp (fun cs x h => h.1)
  have HN := Lib.hid hnil1
  clear hwn hs1 hnil1
  go_enter Try.func6, Try.ntmps6
  go_upto_region 1 with fail
  go_cut [7] from 14 to 20 (fun v wx => ∃ b cap, v = .slice (some ⟨b, 0, none⟩) own.length cap ∧ own.length ≤ cap ∧ wx.ownsRow w.heap.size 3 1 (.slice (some ⟨b, 0, none⟩) own.length cap) own.length (own.flatMap (intC .i64)) ∧ Below w.heap.size w wx)
  case first =>
    by_cases h20 : l.length ≤ 10
    · have HX : Hid (own.length = l.length) := by have := HLN.out; show _ = _; omega
      go_wp2_with (at_builtin; refine wpList_copy_sl (intC_len .i64) (by decide) (intC_one .i64) rfl _ _ 30 rfl w.heap.size 3 i0 _ 8 Try.underlying30 hi hz0 hz1 hz2 rfl _ rfl (by first | exact new_at _ _ _ (by simp) | exact new_drew _ _ _ (by simp)) (by omega) a1 cap1 own (by rw [HX.out]; rfl) HN.out ?hsl (by have := HLN.out; omega) (by have := HLN.out; unfold maxLen; omega) ?hh)
      case hsl => exact HW.out.below (by go_grown) (fun _ _ h => h)
      intro b' c' w' h1 h2 h3
      have HO : Hid (w'.ownsRow w.heap.size 3 1 (.slice (some ⟨b', 0, none⟩) own.length c') own.length (own.flatMap (intC .i64))) := by rw [HX.out]; first | exact h1 | (rw [HX.out] at h1; exact h1)
      clear h1
      go_wp2
      go_meet
      exact ⟨b', c', by rw [HX.out], (slAt_own (intC_len _) HO.out).2.2.2.1, HO.out, Below.trans (by go_grown) (h2.mono (by omega))⟩
    · have h21 : 10 < l.length := by omega
      have HX : Hid (own.length = 10) := by have := HLN.out; show _ = _; omega
      clear h20
      go_wp2_with (at_builtin; refine wpList_copy_sl (intC_len .i64) (by decide) (intC_one .i64) rfl _ _ 30 rfl w.heap.size 3 i0 _ 8 Try.underlying30 hi hz0 hz1 hz2 rfl _ rfl (by first | exact new_at _ _ _ (by simp) | exact new_drew _ _ _ (by simp)) (by omega) a1 cap1 own (by rw [HX.out]; rfl) HN.out ?hsl2 (by have := HLN.out; omega) (by have := HLN.out; unfold maxLen; omega) ?hh2)
      case hsl2 => exact HW.out.below (by go_grown) (fun _ _ h => h)
      intro b' c' w' h1 h2 h3
      have HO := Lib.hid h1
      clear h1
      go_wp2
      go_meet
      exact ⟨b', c', rfl, (slAt_own (intC_len _) HO.out).2.2.2.1, HO.out, Below.trans (by go_grown) (h2.mono (by omega))⟩
  case rest =>
    obtain ⟨b, cap, rfl, hcap, hown, hbel⟩ := hcut
    have hlen : own.length ≤ 10 := by have := HLN.out; omega
    have hsl := (slAt_own (intC_len _) hown).1
    have hbl := own_lt hown
    have HS := Lib.hid hsl
    have HB := Lib.hid hbel
    have hsz := hbel.size
    obtain ⟨hbl0, hbl1⟩ := hbl
    clear hown hsl hbel HW HLN HN hi hz0 hz1 hz2 hle1 hmx1
    go_wp2_with fail
    refine (RoomyInt_any own (some ⟨b, 0, none⟩) cap 7 _ (by simp) HS.out (by omega)).mono ?_
    rintro e w2 ⟨rfl, hown2, hb2⟩
    have hr2 := own_lt hown2
    rw [← roomy_len own 7] at hown2
    have hslr := (slAt_own (intC_len _) hown2).1
    have HR2 := Lib.hid hslr
    have HS2 := Lib.hid (HS.out.below hb2 (fun _ _ h => h))
    have HB2 := Lib.hid (HB.out.trans (hb2.mono hsz))
    have hs2 := hb2.size
    generalize wc.heap.size = g at *
    have HT2 : Hid (SlAt 1 (flat (intC .i64)) w2 (some ⟨g, 0, none⟩) own) := by
      have := HR2.out.take own.length
      unfold roomy at this
      rwa [List.take_left] at this
    clear hown2 hslr hb2 HS HB
    have hle80 : (own.length : Int) ≤ (own.length : Int) + 80 := by omega
    by_cases htick : tick < 0
    · go_upto_region 3 with fail
      go_region_held3 (fun w' => True) (first | trivial) (first | (go_at_call 20; refine (Order_neg _ _ htick).mono ?_; rintro e w' ⟨rfl, rfl⟩) | (go_at_call 21; refine (Plan_neg _ _ _ _ _ _ htick).mono ?_; rintro e w' ⟨rfl, rfl⟩))
      all_goals
        go_wp2_with (go_at_call 5; refine (SlotRuns_any _).mono ?_; rintro e w9 ⟨rfl, hb9⟩)
        go_ret
        exact ⟨rfl, HB2.out.trans (Below.trans (by go_grown) (hb9.mono (by simp; have := HB2.out.size; omega)))⟩
    · have htick0 : 0 ≤ tick := by omega
      go_upto_region 3 with fail
      go_cut [9, 10] from 23 to 31 (fun u v wx => ∃ g1 g2, u = .slice (some ⟨g1, 0, none⟩) 8 8 ∧ v = .slice (some ⟨g2, 0, none⟩) 8 8 ∧ wx.heap[g1]? = some (.cells (planCells budget tick own 0) 36 (0, 0)) ∧ wx.heap[g2]? = some (.cells (planCells budget tick own 8) 36 (0, 0)) ∧ Below w2.heap.size w2 wx)
      case first =>
        go_region_held3 (fun w' => True) (first | trivial) (first | (go_at_call 20; refine (Order_any _ _ htick0 ht1).mono ?_; rintro e w' ⟨rfl, rfl⟩) | (go_at_call 21; refine (Plan_any budget tick own (some ⟨g, 0, none⟩) _ _ _ htick0 ht1 rfl (by refine HT2.out.below ?_ (fun _ _ h => h); go_grown) (by omega)).mono ?_; rintro e w' ⟨rfl, hrow, hb3⟩))
        all_goals
          simp only [World.size_drew, World.size_alloc] at hrow hb3
          have h1 := (hb3.block w2.heap.size (by omega)).trans (new_drew w2 _ _ rfl)
          have HR := Lib.hid hrow
          have H1 := Lib.hid h1
          have HBX := Lib.hid hb3
          clear hrow hb3 h1
          go_wp2
          go_meet
          exact ⟨_, _, rfl, rfl, by rw [H1.out]; simp [planCells], HR.out, Below.trans (by go_grown) (HBX.out.mono (by omega))⟩
      case rest =>
        obtain ⟨g1, g2, rfl, rfl, hrow1, hrow2, hb3⟩ := hcut
        have hg1 := (Array.getElem?_eq_some_iff.1 hrow1).1
        have hg2 := (Array.getElem?_eq_some_iff.1 hrow2).1
        have HR1 := Lib.hid hrow1
        have HR2' := Lib.hid hrow2
        have HF3 := Lib.hid (HR2.out.below hb3 (fun _ _ h => h))
        have HS3 := Lib.hid (HS2.out.below hb3 (fun _ _ h => h))
        have HB3 := Lib.hid (HB2.out.trans (hb3.mono HB2.out.size))
        have hs3 := hb3.size
        clear hrow1 hrow2 hb3 HR2 HS2 HT2 HB2
        go_wp2_with fail
        refine (IntactInt_yes own g (some ⟨b, 0, none⟩) cap 7 _ HF3.out HS3.out (by omega)).mono ?_
        rintro e w4 ⟨rfl, n, rfl⟩
        go_wp2_with fail
        go_loopw [61] (fun iv wx => ∃ (k m : Nat), k ≤ 8 ∧ iv = .int .i64 k ∧ wx = wc.drewN m) (fun iv _ => 8 - (intOf iv).toNat)
        case atStart => exact ⟨0, n, by omega, rfl, rfl⟩
        case round =>
          obtain ⟨k, m, hk, rfl, rfl⟩ := hrel
          by_cases hk8 : k < 8
          · have d0 := (cell_of_row wc _ (k * 2) _ _ _ HR1.out).trans (planCells_tenant _ _ _ _ _ hk8)
            have d1 := (cell_of_row wc _ (k * 2 + 1) _ _ _ HR1.out).trans (planCells_at _ _ _ _ _ hk8)
            rw [if_neg (by omega)] at d1
            have f0 := (cell_of_row wc _ (k * 2) _ _ _ HR2'.out).trans (planCells_tenant _ _ _ _ _ hk8)
            have f1 := (cell_of_row wc _ (k * 2 + 1) _ _ _ HR2'.out).trans (planCells_at _ _ _ _ _ hk8)
            rw [if_pos hk8] at f1
            have hj0 : 0 ≤ (tick + k) % 8 := by omega
            have hj1 : (tick + k) % 8 < 8 := by omega
            have hjm : (tick % 8 + k) % 8 = (tick + k) % 8 := by omega
            have htm0 : 0 ≤ tick % 8 := by omega
            have htm1 : tick % 8 < 8 := by omega
            by_cases hin : (tick + k) % 8 < own.length
            · obtain ⟨b5, o5, he5, _, x5⟩ := HS3.out.intAt ((tick + k) % 8).toNat (by omega)
              simp at he5
              obtain ⟨rfl, rfl⟩ := he5
              simp only [Nat.zero_add] at x5
              have hsv : serve budget own ((tick + k) % 8) = max 0 (min budget (own[((tick + k) % 8).toNat]?.getD 0)) := by unfold serve; rw [if_pos (by omega)]
              generalize own[((tick + k) % 8).toNat]?.getD 0 = x at *
              go_wp2_with fail
              all_goals
                go_roundw
                case rel => exact ⟨k + 1, m, by omega, by go_num, rfl⟩
                case measure => simp [intOf]; omega
            · have hsv : serve budget own ((tick + k) % 8) = 0 := by unfold serve; rw [if_neg (by omega)]
              rw [hsv] at f1
              clear hsv
              go_wp2_with fail
              all_goals
                go_roundw
                case rel => exact ⟨k + 1, m, by omega, by go_num, rfl⟩
                case measure => simp [intOf]; omega
          · go_wp2_with (go_at_call 5; refine (SlotRuns_any _).mono ?_; rintro e w9 ⟨rfl, hb9⟩)
            go_ret
            exact ⟨rfl, (below_drewN HB3.out m).trans (hb9.mono (by simp; exact HB3.out.size))⟩
theorem SlotTells_row (w : World) (a0 : Int) (w0 : (Lit.int .i64 a0).wf = true) (a1 : Int) (w1 : (Lit.int .i64 a1).wf = true)
    (a2 : Option Addr) (cap2 : Nat) (l2 : List Int) (le2 : l2.length ≤ cap2) (mx2 : cap2 ≤ maxLen) (nil2 : a2 = none → cap2 = 0) (h2 : SlAt 1 (isInt .i64) w a2 l2) :
    Calls Try.prog 6 #[.int .i64 a0, .int .i64 a1, .slice a2 l2.length cap2] w fun e w' => e = .returned (.bool true) ∧ Below w.heap.size w w' :=
  SlotTells_walk w a0 (wfRange w0).1 (wfRange w0).2 a1 (wfRange w1).1 (wfRange w1).2 a2 cap2 l2 le2 mx2 nil2 h2
end Go.Proofs.Ytgbbahgllpdjmaa
