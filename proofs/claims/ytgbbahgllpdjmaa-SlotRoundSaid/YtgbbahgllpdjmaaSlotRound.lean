/- Walk of the law SlotRound. -/
import Derived.Test.YtgbbahgllpdjmaaSlotTicks
import Derived.Maps.OwnSet
set_option linter.unusedVariables false
namespace Go.Proofs.Ytgbbahgllpdjmaa
open Go.ChangeShapes Go.WideShapes Go.ChangeAt Go.RowKit Go.Maps
/-- The set of those that were first. -/
def firsts (r : Int) : Nat → DataW Unit
  | 0 => .map []
  | k + 1 => (firsts r k).put (.int .i64 ((r + k) % 8)) (.lit (.bool true))
theorem firsts_size (t : Int) (h : 0 ≤ t) : Maps.size (firsts (t % 8) 8) = 8 := by
  have h1 : 0 ≤ t % 8 := by omega
  have h2 : t % 8 < 8 := by omega
  generalize t % 8 = r at *
  have hr : r = 0 ∨ r = 1 ∨ r = 2 ∨ r = 3 ∨ r = 4 ∨ r = 5 ∨ r = 6 ∨ r = 7 := by omega
  rcases hr with rfl | rfl | rfl | rfl | rfl | rfl | rfl | rfl <;> decide
theorem firsts_step (t : Int) (k : Nat) (h : 0 ≤ t) : (firsts (t % 8) k).put (.int .i64 ((t + k) % 8)) (.lit (.bool true)) = firsts (t % 8) (k + 1) := by
  rw [firsts, show (t % 8 + k) % 8 = (t + k) % 8 from by omega]
theorem keyI : Keyed Try.prog 3 := int_keyed Try.underlying3
/-- The closure of the law: what the tenant is served. -/
theorem served_any (b t : Int) (ws : List Int) (g p : Nat) (tn : Nat) (w : World) (hrow : w.heap[g]? = some (.cells (planCells b t ws 8) 36 (0, 0))) (hp : w.cell? ⟨p, 0, none⟩ = some (.int .i64 tn)) (ht : 0 ≤ t) (hn : tn < 8) :
    Calls Try.prog 26 #[.slice (some ⟨g, 0, none⟩) 8 8, .pointer (some ⟨p, 0, none⟩)] w fun e w' => e = .returned (.int .i64 (serve b ws tn)) ∧ Below w.heap.size w w' := by
  have hpl := lt_of_cell hp
  have hgl := (Array.getElem?_eq_some_iff.1 hrow).1
  simp only at hpl
  have HR := Lib.hid hrow
  have HP := Lib.hid hp
  clear hrow hp
  go_enter Try.func26, Try.ntmps26
  go_wp2
  go_loopw [8] (fun iv wr => ∃ k : Nat, k ≤ 8 ∧ iv = .int .i64 k ∧ (∀ j : Nat, j < k → (t + j) % 8 ≠ tn) ∧ Below w.heap.size w wr) (fun iv _ => 8 - (intOf iv).toNat)
  case atStart => exact ⟨0, by omega, rfl, by omega, Below.refl _ _⟩
  case round =>
    obtain ⟨k, hk, rfl, hno, hb⟩ := hrel
    have hsz := hb.size
    have HNO := Lib.hid hno
    clear hno
    have hp := (hb.cell (p := ⟨p, 0, none⟩) hpl).trans HP.out
    have hpw : p < wr.heap.size := by omega
    have hgw : g < wr.heap.size := by omega
    by_cases hk8 : k < 8
    · have d0 := (hb.cell (p := ⟨g, k * 2, none⟩) (by simpa using hgl)).trans ((cell_of_row w _ (k * 2) _ _ _ HR.out).trans (planCells_tenant _ _ _ _ _ hk8))
      have d1 := (hb.cell (p := ⟨g, k * 2 + 1, none⟩) (by simpa using hgl)).trans ((cell_of_row w _ (k * 2 + 1) _ _ _ HR.out).trans (planCells_at _ _ _ _ _ hk8))
      rw [if_pos hk8] at d1
      by_cases heq : (t + k) % 8 = tn
      · rw [heq] at d0 d1
        go_wp2
        go_ret
        exact ⟨rfl, by go_grown⟩
      · have HEQ := Lib.hid heq
        generalize serve b ws ((t + k) % 8) = q at *
        generalize htt : (t + k) % 8 = tt at *
        have HTT := Lib.hid htt
        clear htt
        go_wp2
        go_roundw
        case rel =>
          refine ⟨k + 1, by omega, by go_num, ?_, by go_grown⟩
          intro j hj
          by_cases hjk : j < k
          · exact HNO.out j hjk
          · obtain rfl : j = k := by omega
            rw [HTT.out]; exact HEQ.out
        case measure => simp [intOf]; omega
    · exfalso
      have := HNO.out (((tn : Int) - t) % 8).toNat (by omega)
      omega
theorem ownsMap_block {H : Type} {P : Program} {k : TypeId} {R : Value → Option (DataW H × List MemPlace)} {w w' : World} {b n : Nat} {D : DataW H} (h : w.ownsMap P k R b n D) (he : w'.heap[b]? = w.heap[b]?) : w'.ownsMap P k R b n D := by
  obtain ⟨es, clock, hb, rest⟩ := h
  exact ⟨es, clock, he.trans hb, rest⟩
theorem and3 (x : Int) : 0 ≤ bits .and .i64 x 3 ∧ bits .and .i64 x 3 ≤ 3 := by
  have h : (BitVec.ofInt 64 x &&& BitVec.ofInt 64 3).toNat ≤ 3 := by
    have := Nat.and_le_right (n := (BitVec.ofInt 64 x).toNat) (m := (BitVec.ofInt 64 3).toNat)
    rw [BitVec.toNat_and]
    exact Nat.le_trans this (by decide)
  show 0 ≤ IntKind.wrap .i64 ((BitVec.ofInt 64 x &&& BitVec.ofInt 64 3).toNat : Int) ∧ IntKind.wrap .i64 ((BitVec.ofInt 64 x &&& BitVec.ofInt 64 3).toNat : Int) ≤ 3
  generalize (BitVec.ofInt 64 x &&& BitVec.ofInt 64 3).toNat = n at h
  simp [IntKind.wrap, IntKind.bits, IntKind.signed]
  omega
set_option maxHeartbeats 2000000 in
theorem SlotRound_walk (w : World) (tick : Int) (hk0 : -9223372036854775808 ≤ tick) (hk1 : tick ≤ 9223372036854775807) (budget : Int) (hb0 : -9223372036854775808 ≤ budget) (hb1 : budget ≤ 9223372036854775807)
    (a1 : Option Addr) (cap1 : Nat) (l : List Int) (hle1 : l.length ≤ cap1) (hmx1 : cap1 ≤ maxLen) (hs1 : SlAt 1 (isInt .i64) w a1 l)
    (tenant : Int) (ht0 : -9223372036854775808 ≤ tenant) (ht1 : tenant ≤ 9223372036854775807) (other : Int) (ho0 : -9223372036854775808 ≤ other) (ho1 : other ≤ 9223372036854775807) :
    Calls Try.prog 8 #[.int .i64 tick, .int .i64 budget, .slice a1 l.length cap1, .int .i64 tenant, .int .i64 other] w fun e w' => e = .returned (.bool true) ∧ Below w.heap.size w w' := by
  obtain ⟨i0, hi, hz0, hz1, hz2⟩ := intInfo'
  have hmm := @run_makeMap Try.prog
  simp only [maxLen] at hmx1
  have H1 := Lib.hid hs1
  clear hs1
  have hat := within_range tick 0 1099511627776 (by decide)
  have htt := within_range tenant 0 7 (by decide)
  have hbb := within_range budget 0 9 (by decide)
  have hoo := within_range other 0 99 (by decide)
  have h3 := and3 other
  go_enter Try.func8, Try.ntmps8
  go_wp2_with fail
  refine (Within_any tick 0 1099511627776 _ hk0 hk1 (by decide) (by decide) (by decide)).mono ?_
  rintro e w ⟨rfl, rfl⟩
  generalize within tick 0 1099511627776 = at0 at *
  obtain ⟨hat0, hat1⟩ := hat
  have HD8 := Lib.hid (firsts_size at0 hat0)
  go_wp2_with fail
  go_loopw [27] (fun iv wr => ∃ k : Nat, k ≤ 8 ∧ iv = .int .i64 k ∧ wr.ownsMap Try.prog 3 (plainElem Try.prog 4) w.heap.size k (firsts (at0 % 8) k) ∧ Below w.heap.size w wr ∧ w.heap.size < wr.heap.size) (fun iv _ => 8 - (intOf iv).toNat)
  case atStart => exact ⟨0, by omega, rfl, World.ownsMap_made _ _ _ _, by go_grown, by simp⟩
  case round =>
    obtain ⟨k, hk, rfl, hown, hbel, hsz⟩ := hrel
    have HO := Lib.hid hown
    have HB := Lib.hid hbel
    clear hown hbel
    by_cases hk8 : k < 8
    · have hs := firsts_step at0 k hat0
      have HS := Lib.hid hs
      clear hs
      go_wp2_with (first
        | (go_at_call 20; refine (Order_any (at0 + k) _ (by omega) (by omega)).mono ?_; rintro e w' ⟨rfl, rfl⟩)
        | (at_mapUpdate; refine wpList_mapUpdate_own _ rfl _ _ _ 43 rfl 3 4 keyI Try.underlying43 _ w.heap.size k _ rfl (HO.out.alloc _) (by unfold maxLen; omega) _ _ _ rfl rfl (keyOf_int_mk Try.underlying3 (WalkArith.wf_i64 (by omega))) _ [] (plainElem_bool Try.underlying4 true) ?_))
      intro w2 hown2 hg2
      rw [HS.out] at hown2
      have hB2 : Below w.heap.size w w2 := (HB.out.alloc (by omega) _).grown hg2 (by simp; omega) (fun j hj => by cases hj; exact Nat.le_refl _)
      have hs2 := hg2.size
      simp at hs2
      have HO2 := Lib.hid hown2
      have HB2 := Lib.hid hB2
      clear hown2 hB2 hg2
      go_wp2
      go_roundw
      case rel => exact ⟨k + 1, by omega, by go_num, HO2.out, HB2.out, by omega⟩
      case measure => simp [intOf]; omega
    · obtain rfl : k = 8 := by omega
      generalize firsts (at0 % 8) 8 = D at *
      go_wp2_with fail
      refine (Within_any tenant 0 7 _ ht0 ht1 (by decide) (by decide) (by decide)).mono ?_
      rintro e wr ⟨rfl, rfl⟩
      obtain ⟨htt0, htt1⟩ := htt
      obtain ⟨tn, htn⟩ : ∃ tn : Nat, within tenant 0 7 = tn := ⟨(within tenant 0 7).toNat, by omega⟩
      rw [htn] at htt0 htt1 ⊢
      clear htn
      go_wp2_with fail
      generalize hW1 : wr.alloc (.cells #[.int .i64 tn] 3) = W1 at *
      have hcap : W1.cell? ⟨wr.heap.size, 0, none⟩ = some (.int .i64 tn) := by rw [← hW1]; simp [go_sem]
      have hW1s : wr.heap.size < W1.heap.size := by rw [← hW1]; simp
      have HM1 := Lib.hid (ownsMap_block (w' := W1) HO.out (by rw [← hW1]; exact Below.heap_alloc _ _ _ hsz))
      have HB1 := Lib.hid (show Below w.heap.size w W1 by rw [← hW1]; exact HB.out.alloc (by omega) _)
      generalize wr.heap.size = T at *
      have HC := Lib.hid hcap
      clear hW1 HO HB hcap
      go_loopw [16, 45] (fun rv iv wx => ∃ (xs : List Int), xs.length ≤ 8 ∧ iv = .int .i64 xs.length ∧ (∀ x ∈ xs, 0 ≤ x ∧ x ≤ 99) ∧ wx.ownsRow (T + 1) 3 1 rv xs.length (xs.flatMap (intC .i64)) ∧ Below (T + 1) W1 wx) (fun _ iv _ => 8 - (intOf iv).toNat)
      case atStart => exact ⟨[], by simp, rfl, by simp, World.ownsRow_nil _ _ _ _, Below.refl _ _⟩
      case round =>
        obtain ⟨xs, hk8, rfl, hxs, hown, hbel⟩ := hrel
        have hsz2 := hbel.size
        have HX := Lib.hid hxs
        have HO := Lib.hid hown
        have HB := Lib.hid hbel
        clear hown hbel hxs
        by_cases hlt : xs.length < 8
        · have hlti : (xs.length : Int) < 8 := by omega
          go_upto_if 51 with fail
          go_cut [18, 51] from 52 to 56 (fun xv cv wx => ∃ x, xv = .int .i64 x ∧ 0 ≤ x ∧ x ≤ 99 ∧ wx = wr)
          case first =>
            by_cases hl : xs.length < l.length
            · have hli : (xs.length : Int) < (l.length : Int) := by omega
              obtain ⟨bb, o, rfl, hbw, hcell, hwf⟩ := H1.out.int xs.length hl
              have hcell := ((HB1.out.trans (HB.out.mono (by omega))).cell (p := ⟨bb, o + xs.length, none⟩) hbw).trans hcell
              obtain ⟨hy0, hy1⟩ := wfRange hwf
              generalize l[xs.length]?.getD 0 = y at *
              have hyy := within_range y 0 99 (by decide)
              clear hwf
              go_wp2_with fail
              refine (Within_any y 0 99 _ hy0 hy1 (by decide) (by decide) (by decide)).mono ?_
              rintro e wr ⟨rfl, rfl⟩
              go_wp2
              go_meet
              exact ⟨_, rfl, hyy.1, hyy.2, rfl⟩
            · have hli : ¬ (xs.length : Int) < (l.length : Int) := by omega
              go_wp2
              go_meet
              exact ⟨0, rfl, by decide, by decide, rfl⟩
          case rest =>
            obtain ⟨x, rfl, hx0, hx1, rfl⟩ := hcut
            go_wp2_with (at_builtin; refine wpList_append_sl (intC_len .i64) (by decide) (intC_one .i64) rfl _ _ 30 rfl (T + 1) 3 i0 _ 8 Try.underlying30 hi hz0 hz1 hz2 rfl _ xs rfl (HO.out.alloc _) (some ⟨wc.heap.size, 0, none⟩) 1 [x] rfl (by simp) (SlAt.one (intC_len _) (heap_new _ _)) (by simp; omega) (by simp [maxLen]; omega) (by simp; omega) ?_)
            intro v' w2 hown2 hg2 _
            have hown3 : w2.ownsRow (T + 1) 3 1 v' (xs ++ [x]).length ((xs ++ [x]).flatMap (intC .i64)) := by simpa using hown2
            have hB2 : Below (T + 1) W1 w2 := (HB.out.alloc (by omega) _).grown hg2 (by simp; omega) (fun k hk => (HO.out.lt k hk).1)
            have HO2 := Lib.hid hown3
            have HB2 := Lib.hid hB2
            clear hown2 hown3 hg2 hB2
            have hlx : Hid ((xs ++ [x]).length = xs.length + 1) := List.length_append
            have HX2 : Hid (∀ y ∈ xs ++ [x], 0 ≤ y ∧ y ≤ 99) := by
              intro y hy
              rcases List.mem_append.1 hy with h | h
              · exact HX.out y h
              · simp at h; subst h; exact ⟨hx0, hx1⟩
            go_wp2
            go_roundw
            case rel => exact ⟨xs ++ [x], by rw [hlx.out]; omega, by rw [hlx.out]; go_num, HX2.out, HO2.out, HB2.out⟩
            case measure => simp [intOf]; omega
        · obtain ⟨hl8, _⟩ : xs.length = 8 ∧ True := ⟨by omega, trivial⟩
          obtain ⟨g, cap2, rfl, hcap2, hcmax2⟩ := own_form HO.out (by omega)
          simp only [maxLen] at hcmax2
          obtain ⟨hg0, hg1⟩ := own_lt HO.out
          have HS := Lib.hid (slAt_own (intC_len _) HO.out).1
          rw [hl8] at HO ⊢
          go_wp2_with (at_builtin; refine wpList_copy_sl (intC_len .i64) (by decide) (intC_one .i64) rfl _ _ 30 rfl wr.heap.size 3 i0 _ 8 Try.underlying30 hi hz0 hz1 hz2 rfl _ rfl (by first | exact new_at _ _ _ (by simp) | exact new_drew _ _ _ (by simp)) (by omega) (some ⟨g, 0, none⟩) cap2 xs (by rw [hl8]; rfl) (by simp) ?hsl (by omega) (by unfold maxLen; omega) ?hh)
          case hsl => exact HS.out.below (by go_grown) (fun _ _ h => h)
          intro b2 cap3 w2 hown2 hb2 hs2
          have HO2 := Lib.hid hown2
          have HB2 := Lib.hid (show Below wr.heap.size wr w2 from Below.trans (by go_grown) hb2)
          clear hown2 hb2 hi hz0 hz1 hz2 hmm H1
          generalize hbase : wr.heap.size = base at *
          go_wp2_with fail
          go_loopw [67] (fun iv wx => ∃ (k : Nat) (zs : List Int), k ≤ 8 ∧ iv = .int .i64 k ∧ zs.length = 8 ∧ zs[tn]? = xs[tn]? ∧ wx.ownsRow base 3 1 (.slice (some ⟨b2, 0, none⟩) 8 cap3) 8 (zs.flatMap (intC .i64)) ∧ Below base wr wx) (fun iv _ => 8 - (intOf iv).toNat)
          case atStart => exact ⟨0, xs, by omega, rfl, hl8, rfl, HO2.out, HB2.out⟩
          case round =>
            obtain ⟨k, zs, hk, rfl, hzl, hzt, hown3, hb3⟩ := hrel
            have hs3 := hb3.size
            obtain ⟨hg2, hg3⟩ := own_lt hown3
            have HO3 := Lib.hid hown3
            have HB3 := Lib.hid hb3
            have HZT := Lib.hid hzt
            clear hown3 hb3 hzt
            have hcell := (HB3.out.cell (p := ⟨T, 0, none⟩) (by simp; omega)).trans ((HB.out.cell (p := ⟨T, 0, none⟩) (by simp)).trans HC.out)
            by_cases hk8 : k < 8
            · by_cases hkt : k = tn
              · subst hkt
                go_wp2
                go_roundw
                case rel => exact ⟨k + 1, zs, by omega, by go_num, hzl, HZT.out, HO3.out, HB3.out⟩
                case measure => simp [intOf]; omega
              · obtain ⟨hc1, hc2⟩ := own_cell (i := k) HO3.out (by omega)
                rw [ints_at _ _ _ (by omega)] at hc1
                have hO4 := own_setCell (i := k) (u := .int .i64 (within other 0 99)) HO3.out (by omega)
                rw [ints_set] at hO4
                have HO4 := Lib.hid hO4
                have HZ4 : Hid ((zs.set k (within other 0 99))[tn]? = xs[tn]?) := by
                  show _ = _
                  rw [List.getElem?_set_ne hkt]; exact HZT.out
                have HL4 : Hid ((zs.set k (within other 0 99)).length = 8) := by
                  show _ = _
                  rw [List.length_set]; exact hzl
                clear hO4
                have hkti : ¬ (k : Int) = (tn : Int) := by omega
                generalize zs[k]?.getD 0 = z0 at *
                go_wp2_with fail
                refine (Within_any other 0 99 _ ho0 ho1 (by decide) (by decide) (by decide)).mono ?_
                rintro e w4 ⟨rfl, hw4⟩
                obtain rfl := hw4.symm
                go_wp2
                go_roundw
                case rel => exact ⟨k + 1, zs.set k (within other 0 99), by omega, by go_num, HL4.out, HZ4.out, HO4.out, HB3.out.setCell hg2 _⟩
                case measure => simp [intOf]; omega
            · go_wp2_with fail
              refine (Within_any budget 0 9 _ hb0 hb1 (by decide) (by decide) (by decide)).mono ?_
              rintro e w4 ⟨rfl, hw4⟩
              obtain rfl := hw4.symm
              obtain ⟨hbb0, hbb1⟩ := hbb
              generalize within budget 0 9 = b at *
              have HSx := Lib.hid (HS.out.flatBelow HB3.out (fun b' o' h _ => by simp at h; omega))
              have HSz := Lib.hid (slAt_own (l := zs) (intC_len _) (by rw [hzl]; exact HO3.out)).1
              have HMx := Lib.hid (ownsMap_block HM1.out (((HB3.out.block _ (by omega)).trans (HB.out.block _ (by omega)))))
              have HBw := Lib.hid ((HB1.out.trans (HB.out.mono (by omega))).trans (HB3.out.mono (by omega)))
              have HC5 := Lib.hid hcell
              have hTlt := lt_of_cell hcell
              simp only at hTlt
              clear HS HB HB1 HB3 HO3 HO HO2 HB2 HM1 HC hcell
              go_wp2_with fail
              refine (Plan_any b at0 xs (some ⟨g, 0, none⟩) 8 cap2 _ hat0 (by omega) hl8.symm HSx.out (by omega)).mono ?_
              rintro e w5 ⟨rfl, hrow5, hb5⟩
              have HR5 := Lib.hid hrow5
              have HB5 := Lib.hid hb5
              have hs5 := hb5.size
              have HC6 := Lib.hid ((hb5.cell (p := ⟨T, 0, none⟩) hTlt).trans HC5.out)
              clear hrow5 hb5
              have hbk : wr.heap.size < w5.heap.size := (Array.getElem?_eq_some_iff.1 HR5.out).1
              go_wp2_with fail
              refine (served_any b at0 xs wr.heap.size T tn w5 HR5.out HC6.out hat0 (by omega)).mono ?_
              rintro e w6 ⟨rfl, hb6⟩
              have hs6 := hb6.size
              have HC7 := Lib.hid ((hb6.cell (p := ⟨T, 0, none⟩) (by simp; omega)).trans HC6.out)
              have HB6 := Lib.hid (HBw.out.trans ((HB5.out.mono (by omega)).trans (hb6.mono (by omega))))
              have HM6 := Lib.hid (ownsMap_block HMx.out ((hb6.block _ (by omega)).trans (HB5.out.block _ (by omega))))
              have HSx6 := Lib.hid ((HSx.out.below HB5.out (fun _ _ h => h)).below hb6 (fun _ _ h => h))
              have HSz6 := Lib.hid ((HSz.out.below HB5.out (fun _ _ h => h)).below hb6 (fun _ _ h => h))
              obtain ⟨xv, hxv⟩ : ∃ xv, xv = xs[tn]?.getD 0 := ⟨_, rfl⟩
              have HXV := Lib.hid hxv
              have hn1 : serve b xs tn = max 0 (min b xv) := by unfold serve; rw [Int.toNat_natCast, if_pos (by omega), hxv]
              have hn2 : serve b zs tn = max 0 (min b xv) := by unfold serve; rw [Int.toNat_natCast, if_pos (by omega), HZT.out, hxv]
              have hx9 : 0 ≤ xv ∧ xv ≤ 99 := by rw [hxv, List.getElem?_eq_getElem (by omega : tn < xs.length)]; exact HX.out _ (List.getElem_mem _)
              obtain ⟨hx90, hx91⟩ := hx9
              rw [hn1]
              have HN2 := Lib.hid hn2
              clear hb6 HBw HB5 HMx HSx HSz HC5 HC6 HR5 hn1 hn2 hxv
              go_wp2_with (at_len; refine wpList_len_own _ rfl _ 43 rfl 3 4 Try.underlying43 _ w.heap.size 8 D rfl HM6.out ?_; rw [show Maps.size D = 8 from HD8.out])
              obtain ⟨h30, h31⟩ := h3
              generalize bits .and .i64 other 3 = o3 at *
              refine (Plan_any b (at0 + o3) zs (some ⟨b2, 0, none⟩) 8 cap3 _ (by omega) (by omega) hzl.symm HSz6.out (by omega)).mono ?_
              rintro e w7 ⟨rfl, hrow7, hb7⟩
              have hs7 := hb7.size
              have hbk7 : w6.heap.size < w7.heap.size := (Array.getElem?_eq_some_iff.1 hrow7).1
              have HR7 := Lib.hid hrow7
              have HC8 := Lib.hid ((hb7.cell (p := ⟨T, 0, none⟩) (by simp; omega)).trans HC7.out)
              have HB7 := Lib.hid (HB6.out.trans (hb7.mono (by omega)))
              have HSx7 := Lib.hid (HSx6.out.below hb7 (fun _ _ h => h))
              clear hrow7 hb7 HSz6 HC7 HB6 HM6 HSx6
              go_wp2_with fail
              refine (served_any b (at0 + o3) zs w6.heap.size T tn w7 HR7.out HC8.out (by omega) (by omega)).mono ?_
              rw [HN2.out]
              rintro e w8 ⟨rfl, hb8⟩
              have hs8 := hb8.size
              have hcT := (hb8.cell (p := ⟨T, 0, none⟩) (by simp; omega)).trans HC8.out
              obtain ⟨b9, o9, he9, _, hx9⟩ := (HSx7.out.below hb8 (fun _ _ h => h)).intAt tn (by omega)
              simp at he9
              obtain ⟨rfl, rfl⟩ := he9
              simp only [Nat.zero_add] at hx9
              rw [← HXV.out] at hx9
              have HB8 := Lib.hid (HB7.out.trans (hb8.mono (by have := HB7.out.size; omega)))
              clear hb8 HR7 HC8 HB7 HSx7 HN2 HXV
              by_cases hbx : b ≤ xv
              · rw [show max 0 (min b xv) = b from by omega]
                go_wp2_with (go_at_call 5; refine (SlotRuns_any _).mono ?_; rintro e w9 ⟨rfl, hb9⟩)
                go_ret
                exact ⟨rfl, HB8.out.trans (hb9.mono HB8.out.size)⟩
              · rw [show max 0 (min b xv) = xv from by omega]
                go_wp2_with (go_at_call 5; refine (SlotRuns_any _).mono ?_; rintro e w9 ⟨rfl, hb9⟩)
                go_ret
                exact ⟨rfl, HB8.out.trans (hb9.mono HB8.out.size)⟩
theorem SlotRound_row (w : World) (a0 : Int) (w0 : (Lit.int .i64 a0).wf = true) (a1 : Int) (w1 : (Lit.int .i64 a1).wf = true)
    (a2 : Option Addr) (cap2 : Nat) (l2 : List Int) (le2 : l2.length ≤ cap2) (mx2 : cap2 ≤ maxLen) (nil2 : a2 = none → cap2 = 0) (h2 : SlAt 1 (isInt .i64) w a2 l2)
    (a3 : Int) (w3 : (Lit.int .i64 a3).wf = true) (a4 : Int) (w4 : (Lit.int .i64 a4).wf = true) :
    Calls Try.prog 8 #[.int .i64 a0, .int .i64 a1, .slice a2 l2.length cap2, .int .i64 a3, .int .i64 a4] w fun e w' => e = .returned (.bool true) ∧ Below w.heap.size w w' :=
  SlotRound_walk w a0 (wfRange w0).1 (wfRange w0).2 a1 (wfRange w1).1 (wfRange w1).2 a2 cap2 l2 le2 mx2 h2 a3 (wfRange w3).1 (wfRange w3).2 a4 (wfRange w4).1 (wfRange w4).2
end Go.Proofs.Ytgbbahgllpdjmaa
