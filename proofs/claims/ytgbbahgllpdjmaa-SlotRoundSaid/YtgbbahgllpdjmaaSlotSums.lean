/- Walk of the law SlotSums. -/
import Derived.Test.YtgbbahgllpdjmaaSlotLaw
import Derived.Deep.CutRange
set_option linter.unusedVariables false
namespace Go.Proofs.Ytgbbahgllpdjmaa
open Go.ChangeShapes Go.WideShapes Go.ChangeAt Go.RowKit
theorem intInfo' : ∃ i, Try.prog.info? 3 = some i ∧ i.zero = some (.int .i64 0) ∧ i.size = 1 ∧ i.bytes = 8 := info_parts (by kernel_rfl)
theorem wfRange {n : Int} (h : (Lit.int .i64 n).wf = true) : -9223372036854775808 ≤ n ∧ n ≤ 9223372036854775807 := by
  simp [Lit.wf, IntKind.min, IntKind.max, IntKind.signed, IntKind.bits] at h
  omega
/-- the greatest -/
def mostOf (l : List Int) : Int := l.foldl max 0
theorem mostOf_push (l : List Int) (x : Int) : mostOf (l ++ [x]) = max (mostOf l) x := by simp [mostOf]
theorem sum_push (l : List Int) (x : Int) : (l ++ [x]).sum = l.sum + x := by simp
theorem SlotSums_walk (w : World) (tick : Int) (ht0 : -9223372036854775808 ≤ tick) (ht1 : tick ≤ 9223372036854775807) (a1 : Option Addr) (cap1 : Nat) (l : List Int) (hle1 : l.length ≤ cap1) (hmx1 : cap1 ≤ maxLen) (hs1 : SlAt 1 (isInt .i64) w a1 l)
    (budget : Int) (hb0 : -9223372036854775808 ≤ budget) (hb1 : budget ≤ 9223372036854775807) (more : Int) (hm0 : -9223372036854775808 ≤ more) (hm1 : more ≤ 9223372036854775807) :
    Calls Try.prog 9 #[.int .i64 tick, .slice a1 l.length cap1, .int .i64 budget, .int .i64 more] w fun e w' => e = .returned (.bool true) ∧ Below w.heap.size w w' := by
  obtain ⟨i0, hi, hz0, hz1, hz2⟩ := intInfo'
  simp only [maxLen] at hmx1
  have H1 := Lib.hid hs1
  clear hs1
  have hat := within_range tick 0 1099511627776 (by decide)
  have hbb := within_range budget 1 50 (by decide)
  have hmm := within_range more 0 50 (by decide)
  go_enter Try.func9, Try.ntmps9
  go_wp2_with fail
  refine (Within_any tick 0 1099511627776 _ ht0 ht1 (by decide) (by decide) (by decide)).mono ?_
  rintro e w ⟨rfl, rfl⟩
  generalize within tick 0 1099511627776 = at0 at *
  obtain ⟨hat0, hat1⟩ := hat
  go_wp2_with fail
  go_loopw [10, 11, 12, 13] (fun rv sv mv iv wr => ∃ (xs : List Int), xs.length ≤ l.length ∧ xs.length ≤ 8 ∧ iv = .int .i64 xs.length ∧ sv = .int .i64 xs.sum ∧ mv = .int .i64 (mostOf xs) ∧ (∀ x ∈ xs, 0 ≤ x ∧ x ≤ 500) ∧ 0 ≤ xs.sum ∧ xs.sum ≤ 500 * xs.length ∧ 0 ≤ mostOf xs ∧ mostOf xs ≤ 500 ∧
    wr.ownsRow w.heap.size 3 1 rv xs.length (xs.flatMap (intC .i64)) ∧ Below w.heap.size w wr) (fun _ _ _ iv _ => l.length - (intOf iv).toNat)
  case atStart => exact ⟨[], by simp, by simp, rfl, rfl, rfl, by simp, by simp, by simp, by simp [mostOf], by simp [mostOf], World.ownsRow_nil _ _ _ _, Below.refl _ _⟩
  case round =>
    obtain ⟨xs, hk1, hk2, rfl, rfl, rfl, hx, hsu0, hsu1, hmo0, hmo1, hown, hbel⟩ := hrel
    have hsz := hbel.size
    have HX := Lib.hid hx
    have HO := Lib.hid hown
    have HB := Lib.hid hbel
    clear hx hown hbel
    by_cases hlt : xs.length < l.length ∧ xs.length < 8
    · obtain ⟨hlt1, hlt2⟩ := hlt
      have hlt2i : (xs.length : Int) < 8 := by omega
      obtain ⟨b, o, rfl, hbw, hcell, hwf⟩ := H1.out.int xs.length hlt1
      have hcell := (HB.out.cell (p := ⟨b, o + xs.length, none⟩) hbw).trans hcell
      obtain ⟨hy0, hy1⟩ := wfRange hwf
      generalize l[xs.length]?.getD 0 = y at *
      have hyy := within_range y 0 500 (by decide)
      clear hwf
      have HSU := Lib.hid (sum_push xs (within y 0 500))
      have HMO := Lib.hid (mostOf_push xs (within y 0 500))
      go_wp2_with fail
      refine (Within_any y 0 500 _ hy0 hy1 (by decide) (by decide) (by decide)).mono ?_
      rintro e wr ⟨rfl, rfl⟩
      generalize within y 0 500 = x at *
      obtain ⟨hxx0, hxx1⟩ := hyy
      go_wp2_with (at_builtin; refine wpList_append_sl (intC_len _) (by decide) (intC_one _) rfl _ _ 30 rfl w.heap.size 3 i0 _ 8 Try.underlying30 hi hz0 hz1 hz2 rfl _ xs rfl (HO.out.alloc _) (some ⟨wr.heap.size, 0, none⟩) 1 [x] rfl (by simp) (SlAt.one (intC_len _) (heap_new _ _)) (by simp; omega) (by simp [maxLen]; omega) (by simp; omega) ?_)
      intro v' w2 hown2 hg2 _
      have hown3 : w2.ownsRow w.heap.size 3 1 v' (xs ++ [x]).length ((xs ++ [x]).flatMap (intC .i64)) := by simpa using hown2
      have hB2 : Below w.heap.size w w2 := (HB.out.alloc hsz _).grown hg2 (by simp; omega) (fun k hk => (HO.out.lt k hk).1)
      have HO2 := Lib.hid hown3
      have HB2 := Lib.hid hB2
      clear hown2 hown3 hg2 hB2
      have hlx : Hid ((xs ++ [x]).length = xs.length + 1) := List.length_append
      have HSP : Hid (∀ y ∈ xs ++ [x], 0 ≤ y ∧ y ≤ 500) := by
        intro y hy
        rcases List.mem_append.1 hy with h | h
        · exact HX.out y h
        · simp at h; subst h; exact ⟨hxx0, hxx1⟩
      go_wp2
      all_goals
        go_roundw
        case rel =>
          refine ⟨xs ++ [x], by rw [hlx.out]; omega, by rw [hlx.out]; omega, by rw [hlx.out]; go_num, by rw [HSU.out], by rw [HMO.out]; congr 1; omega, HSP.out, by rw [HSU.out]; omega, by rw [HSU.out, hlx.out]; omega, by rw [HMO.out]; omega, by rw [HMO.out]; omega, HO2.out, HB2.out⟩
        case measure => simp [intOf]; omega
    · have hl8 : xs.length ≤ 8 := hk2
      obtain ⟨a2, cap2, rfl, hcap2, hcmax2, hn2, hblk2, hsl2⟩ := slAt_of_own (intC_len _) HO.out
      simp only [maxLen] at hcmax2
      have HS2 := Lib.hid hsl2
      have HP1 := Lib.hid (planSum_all 500 at0 xs hat0 hl8 HX.out)
      have HP2 := Lib.hid (planSum_none (-3) at0 xs (by decide) 8)
      clear hsl2 hn2 hblk2 HO HX hi hz0 hz1 hz2
      go_upto_region 5 with fail
      go_cut [32] from 25 to 32 (fun c wx => c = .bool false ∧ wx = wr)
      case first =>
        go_wp2
        all_goals
          go_meet
          exact ⟨by first | rfl | (simp; omega), rfl⟩
      case rest =>
        obtain ⟨rfl, rfl⟩ := hcut
        go_wp2_with fail
        refine (Plan_any 500 at0 xs a2 xs.length cap2 _ hat0 (by omega) rfl HS2.out (by omega)).mono ?_
        rintro e w3 ⟨rfl, hrow, hb⟩
        have hlt3 := (Array.getElem?_eq_some_iff.1 hrow).1
        have HR3 := Lib.hid hrow
        have HB3 := Lib.hid (HB.out.trans (hb.mono (by omega)))
        have HS3 := Lib.hid (HS2.out.below hb (fun _ _ h => h))
        have hs3 := hb.size
        clear hrow hb HB HS2
        go_wp2_with fail
        go_loopw [15, 54] (fun sv iv wx => ∃ k : Nat, k ≤ 8 ∧ iv = .int .i64 k ∧ sv = .int .i64 (planSum 500 at0 xs k) ∧ Below w3.heap.size w3 wx) (fun _ iv _ => 8 - (intOf iv).toNat)
        case atStart => exact ⟨0, by omega, rfl, rfl, Below.refl _ _⟩
        case round =>
          obtain ⟨k, hk, rfl, rfl, hb⟩ := hrel
          have hsx := hb.size
          by_cases hk8 : k < 8
          · have d0 := (hb.cell (p := ⟨wc.heap.size, k * 2, none⟩) (by simpa using hlt3)).trans ((cell_of_row w3 _ (k * 2) _ _ _ HR3.out).trans (planCells_tenant _ _ _ _ _ hk8))
            have d1 := (hb.cell (p := ⟨wc.heap.size, k * 2 + 1, none⟩) (by simpa using hlt3)).trans ((cell_of_row w3 _ (k * 2 + 1) _ _ _ HR3.out).trans (planCells_at _ _ _ _ _ hk8))
            rw [if_pos hk8] at d1
            have hpr := planSum_range 500 at0 xs (by decide) k
            have hsr := serve_range 500 xs ((at0 + k) % 8) (by decide)
            have HST : Hid (planSum 500 at0 xs (k + 1) = planSum 500 at0 xs k + serve 500 xs ((at0 + k) % 8)) := rfl
            generalize planSum 500 at0 xs k = p at *
            generalize serve 500 xs ((at0 + k) % 8) = q at *
            generalize (at0 + k) % 8 = tt at *
            have hbw : wc.heap.size < wr.heap.size := by omega
            go_wp2
            go_roundw
            case rel => exact ⟨k + 1, by omega, by go_num, by first | (rw [HST.out]; done) | (rw [HST.out]; congr 1; omega), by go_grown⟩
            case measure => simp [intOf]; omega
          · obtain rfl : k = 8 := by omega
            rw [HP1.out]
            clear hlt3 HR3 HP1
            have HB4 := Lib.hid (HB3.out.trans (hb.mono (by omega)))
            have HS4 := Lib.hid (HS3.out.below hb (fun _ _ h => h))
            clear hb HB3 HS3
            go_wp2_with fail
            refine (Plan_any (-3) at0 xs a2 xs.length cap2 _ hat0 (by omega) rfl HS4.out (by omega)).mono ?_
            rintro e w5 ⟨rfl, hrow, hb⟩
            have hlt5 := (Array.getElem?_eq_some_iff.1 hrow).1
            have HR5 := Lib.hid hrow
            have hs5 := hb.size
            have HB5 := Lib.hid (HB4.out.trans (hb.mono (by omega)))
            clear hrow hb HB4 HS4
            generalize hbk : wr.heap.size = bk at *
            go_wp2_with fail
            go_loopw [18, 67] (fun sv iv wx => ∃ k : Nat, k ≤ 8 ∧ iv = .int .i64 k ∧ sv = .int .i64 (planSum (-3) at0 xs k) ∧ Below w5.heap.size w5 wx) (fun _ iv _ => 8 - (intOf iv).toNat)
            case atStart => exact ⟨0, by omega, rfl, rfl, Below.refl _ _⟩
            case round =>
              obtain ⟨k, hk, rfl, rfl, hb⟩ := hrel
              have hsx := hb.size
              by_cases hk8 : k < 8
              · have d0 := (hb.cell (p := ⟨bk, k * 2, none⟩) (by simpa using hlt5)).trans ((cell_of_row w5 _ (k * 2) _ _ _ HR5.out).trans (planCells_tenant _ _ _ _ _ hk8))
                have d1 := (hb.cell (p := ⟨bk, k * 2 + 1, none⟩) (by simpa using hlt5)).trans ((cell_of_row w5 _ (k * 2 + 1) _ _ _ HR5.out).trans (planCells_at _ _ _ _ _ hk8))
                rw [if_pos hk8] at d1
                have hpr := planSum_none (-3) at0 xs (by decide) k
                have hsr := serve_none (-3) xs ((at0 + k) % 8) (by decide)
                have HST : Hid (planSum (-3) at0 xs (k + 1) = planSum (-3) at0 xs k + serve (-3) xs ((at0 + k) % 8)) := rfl
                generalize planSum (-3) at0 xs k = p at *
                generalize serve (-3) xs ((at0 + k) % 8) = q at *
                generalize (at0 + k) % 8 = tt at *
                have hbw : bk < wr.heap.size := by omega
                go_wp2
                go_roundw
                case rel => exact ⟨k + 1, by omega, by go_num, by first | (rw [HST.out]; done) | (rw [HST.out]; congr 1; omega), by go_grown⟩
                case measure => simp [intOf]; omega
              · obtain rfl : k = 8 := by omega
                rw [HP2.out]
                have HB6 := Lib.hid (HB5.out.trans (hb.mono (by omega)))
                clear hb HB5 HP2 HR5 hlt5
                obtain ⟨hbb0, hbb1⟩ := hbb
                obtain ⟨hmm0, hmm1⟩ := hmm
                have hsp := tk_spec (mostOf xs) (within budget 1 50) hmo0 (by omega)
                have hmn := tk_mono (mostOf xs) (within budget 1 50) (within more 0 50) hmo0 (by omega) hmm0
                go_wp2_with fail
                refine (Within_any budget 1 50 _ hb0 hb1 (by decide) (by decide) (by decide)).mono ?_
                rintro e wr ⟨rfl, rfl⟩
                generalize within budget 1 50 = b at *
                go_wp2_with fail
                refine (show Calls Try.prog 22 #[.int .i64 (mostOf xs), .int .i64 b] wr (fun e w' => e = .returned (.int .i64 (tk (mostOf xs) b)) ∧ w' = wr) from Ticks_any (mostOf xs) b wr (by omega)).mono ?_
                rintro e wr ⟨rfl, rfl⟩
                have htm := Ticks_any (mostOf xs) (b + within more 0 50)
                generalize mostOf xs = mo at *
                generalize hn : tk mo b = n at *
                obtain ⟨hsp0, hsp1, hsp2, hsp3⟩ := hsp
                have hnb0 : 0 ≤ n * b := Int.mul_nonneg hsp0 (by omega)
                have hnb1 : n * b ≤ 500 * 50 := by
                  have h1 := Int.mul_le_mul_of_nonneg_left (show b ≤ 50 by omega) hsp0
                  omega
                have hnc : (n - 1) * b = n * b - b := by rw [Int.sub_mul]; omega
                rw [hnc] at hsp2
                have HNC := Lib.hid hnc
                have HSP2 := Lib.hid hsp2
                have HTM := Lib.hid htm
                clear hn hnc hsp2 htm
                go_wp2_with fail
                by_cases hn0 : n = 0
                · subst hn0
                  refine (Within_any more 0 50 _ hm0 hm1 (by decide) (by decide) (by decide)).mono ?_
                  rintro e wr ⟨rfl, rfl⟩
                  generalize within more 0 50 = mm at *
                  go_wp2_with fail
                  refine (show Calls Try.prog 22 #[.int .i64 mo, .int .i64 (b + mm)] wr (fun e w' => e = .returned (.int .i64 (tk mo (b + mm))) ∧ w' = wr) from HTM.out wr (by omega)).mono ?_
                  rintro e wr ⟨rfl, rfl⟩
                  generalize tk mo (b + mm) = n2 at *
                  go_wp2_with (go_at_call 5; refine (SlotRuns_any _).mono ?_; rintro e w9 ⟨rfl, hb9⟩)
                  all_goals
                    go_ret
                    exact ⟨rfl, HB6.out.trans (hb9.mono HB6.out.size)⟩
                · have hsp2 := HSP2.out.resolve_left hn0
                  have hnc := HNC.out
                  refine (Within_any more 0 50 _ hm0 hm1 (by decide) (by decide) (by decide)).mono ?_
                  rintro e wr ⟨rfl, rfl⟩
                  generalize within more 0 50 = mm at *
                  go_wp2_with fail
                  refine (show Calls Try.prog 22 #[.int .i64 mo, .int .i64 (b + mm)] wr (fun e w' => e = .returned (.int .i64 (tk mo (b + mm))) ∧ w' = wr) from HTM.out wr (by omega)).mono ?_
                  rintro e wr ⟨rfl, rfl⟩
                  generalize tk mo (b + mm) = n2 at *
                  go_wp2_with (go_at_call 5; refine (SlotRuns_any _).mono ?_; rintro e w9 ⟨rfl, hb9⟩)
                  all_goals
                    go_ret
                    exact ⟨rfl, HB6.out.trans (hb9.mono HB6.out.size)⟩
theorem SlotSums_row (w : World) (a0 : Int) (w0 : (Lit.int .i64 a0).wf = true) (a1 : Option Addr) (cap1 : Nat) (l1 : List Int) (le1 : l1.length ≤ cap1) (mx1 : cap1 ≤ maxLen) (nil1 : a1 = none → cap1 = 0) (h1 : SlAt 1 (isInt .i64) w a1 l1)
    (a2 : Int) (w2 : (Lit.int .i64 a2).wf = true) (a3 : Int) (w3 : (Lit.int .i64 a3).wf = true) :
    Calls Try.prog 9 #[.int .i64 a0, .slice a1 l1.length cap1, .int .i64 a2, .int .i64 a3] w fun e w' => e = .returned (.bool true) ∧ Below w.heap.size w w' :=
  SlotSums_walk w a0 (wfRange w0).1 (wfRange w0).2 a1 cap1 l1 le1 mx1 h1 a2 (wfRange w2).1 (wfRange w2).2 a3 (wfRange w3).1 (wfRange w3).2
end Go.Proofs.Ytgbbahgllpdjmaa
