/- The walk of BoundMost. -/
import Derived.Test.YthegopajkljlmaaBoundRuns
import Derived.Test.YthegopajkljlmaaOffers
set_option linter.unusedVariables false
set_option linter.unusedSimpArgs false
namespace Go.Proofs.Ythegopajkljlmaa
open Go.RowKit Go.Maps
theorem tick_mono : ∀ q : Fin 17, ∀ b : Fin 9, ∀ x : Fin 10, 1 ≤ b.val → ticksOf (q.val : Int) ((b.val : Int) + (x.val : Int)) ≤ ticksOf (q.val : Int) (b.val : Int) := by decide +kernel
theorem tick_most : ∀ q : Fin 17, ∀ b : Fin 9, 1 ≤ b.val → 0 ≤ ticksOf (q.val : Int) (b.val : Int) ∧ ticksOf (q.val : Int) (b.val : Int) ≤ ticksOf 16 (b.val : Int) ∧ ticksOf 16 (b.val : Int) ≤ 99 := by decide +kernel
theorem tick_end : ∀ q : Fin 17, ∀ b : Fin 9, 1 ≤ b.val → q.val ≤ (ticksOf (q.val : Int) (b.val : Int)).toNat * b.val := by decide +kernel
theorem tick_on : ∀ q : Fin 17, ∀ b : Fin 9, 1 ≤ b.val → ∀ i : Fin 17, (i.val : Int) < ticksOf (q.val : Int) (b.val : Int) → i.val * b.val < q.val := by decide +kernel
theorem tick_small : ∀ q : Fin 17, ∀ b : Fin 9, 1 ≤ b.val → ticksOf (q.val : Int) (b.val : Int) ≤ 16 := by decide +kernel
theorem tick_zero (b : Int) : ticksOf 0 b = 0 := rfl
set_option maxHeartbeats 4000000 in
set_option maxRecDepth 20000 in
theorem BoundMost_any (w : World) (cs : Array Value) (k : PipeQ) (hk : isPq w cs.toList k) (al : Option Addr) (cap : Nat) (l : List InQ) (hle : l.length ≤ cap) (hmx : cap ≤ maxLen) (hnil : al = none → cap = 0) (hl : SlAt 4 isIq w al l) (budget : Int) (hbudget : (Lit.int .i64 budget).wf = true) (more : Int) (hmore : (Lit.int .i64 more).wf = true) :
    Calls Try.prog 8 #[.agg cs, .slice al l.length cap, .int .i64 budget, .int .i64 more] w fun e w' => e = .returned (.bool true) ∧ Below w.heap.size w w' := by
  obtain ⟨ao, co, an, cn, hcs, hso, hsn, hkw⟩ := hk
  obtain rfl : cs = #[.slice ao k.ops.length co, .slice an k.ns.length cn, .int .i64 k.size, .int .i64 k.slide, .int .i64 k.agg, .int .i64 k.sink, .int .i64 k.feed] := by
    obtain ⟨cl⟩ := cs
    dsimp only at hcs
    rw [hcs]
  clear hcs
  obtain ⟨hli, hlw⟩ := hl.iq
  have hrbudget := i64_range hbudget
  have hrmore := i64_range hmore
  have hlm : l.length ≤ maxLen := by omega
  obtain ⟨hpr, hpo, hpl, hps1, hps2, hps3, hps4⟩ := pipeOf_right k
  have HPR := Lib.hid hpr
  have HPO := Lib.hid hpo
  have HLI := Lib.hid hli
  have HLW := Lib.hid hlw
  have hst0 := (St.start w).alloc (.cells #[.slice ao k.ops.length co, .slice an k.ns.length cn, .int .i64 k.size, .int .i64 k.slide, .int .i64 k.agg, .int .i64 k.sink, .int .i64 k.feed] 56)
  have HC0 := Lib.hid (pipe_st hst0 k hkw ao an co cn (Seen.old hso) (Seen.old hsn))
  clear hst0 hli hlw hl hbudget hmore hso hsn hkw hle hnil hpr hpo
  unfold maxLen at hmx
  generalize pipeOf k = p at *
  go_enter Try.func8, Try.ntmps8
  have hil := inputs_len l
  have hiw := inputs_wf l
  obtain ⟨ins, hins⟩ : ∃ x, x = inputsOf l := ⟨_, rfl⟩
  rw [← hins] at hil hiw
  have HINS := Lib.hid hins
  have HIW := Lib.hid hiw
  clear hins hiw
  go_upto_block 0 with (first
    | (go_at_call 20; (with_reducible refine HC0.out.mono ?_); rintro e w1 ⟨pa, pc, rfl, hpn, hst1⟩; have HCN := Lib.hid (cellNew_st hst1 0 99 (by decide) (by decide) (by decide) (by decide) p pa pc (Seen.own Opr.len 1 rfl) hpn HPO.out (by omega) HPR.out); clear HC0 hst1 hpn)
    | (go_at_call 10; (with_reducible refine HCN.out.mono ?_); rintro e w2 ⟨cb, rfl, hst2⟩; have HCI := Lib.hid (inputs_st hst2 al cap l (Seen.old HLI.out) HLW.out hlm); clear HCN hst2)
    | (go_at_call 22; (with_reducible refine HCI.out.mono ?_); rintro e w5 ⟨vi, rfl, hst5⟩; rw [← HINS.out] at hst5; obtain ⟨ia, ic, rfl, hic, him, hin, _⟩ := hst5.sl Inp.len 3 rfl; have HS5 := Lib.hid hst5; clear hst5 HCI))
  obtain ⟨c0, hc0⟩ : ∃ x, x = newC 99 0 p := ⟨_, rfl⟩
  have hq0 : c0.q.length ≤ 16 := by rw [hc0]; exact Nat.zero_le _
  have hs5 := HS5.out
  rw [← hc0] at hs5
  have HS6 := Lib.hid hs5
  clear HS5 hs5 hc0
  go_cut [11] from 23 to 30 (fun _ wx => St w wx [pt w.heap.size (.cells #[.slice ao k.ops.length co, .slice an k.ns.length cn, .int .i64 k.size, .int .i64 k.slide, .int .i64 k.agg, .int .i64 k.sink, .int .i64 k.feed] 56 (0, 0)), ownP 92 2 Opr.cells (.slice pa p.ops.length pc) p.ops, clP cb (offAll c0 16 ins) ins.length, ownP 33 5 Inp.cells (.slice ia ins.length ic) ins])
  case first =>
    go_wp2_with fail
    go_loopw [23] (fun iv wr => ∃ j : Nat, j ≤ ins.length ∧ iv = .int .i64 j ∧ St w wr [pt w.heap.size (.cells #[.slice ao k.ops.length co, .slice an k.ns.length cn, .int .i64 k.size, .int .i64 k.slide, .int .i64 k.agg, .int .i64 k.sink, .int .i64 k.feed] 56 (0, 0)), ownP 92 2 Opr.cells (.slice pa p.ops.length pc) p.ops, clP cb (offAll c0 16 (ins.take j)) j, ownP 33 5 Inp.cells (.slice ia ins.length ic) ins]) (fun iv _ => ins.length - (intOf iv).toNat)
    case atStart => exact ⟨0, by omega, rfl, HS6.out⟩
    case round =>
      obtain ⟨j, hj, rfl, hst⟩ := hrel
      by_cases hlt : (j : Int) < ins.length
      · have hjn : j < ins.length := by omega
        obtain ⟨b, o, rfl, hbl, d0, d1, d2, d3, d4⟩ := (hst.slOf Inp.len 3 rfl).inAt j hjn
        have hiw := HIW.out _ (List.getElem_mem hjn)
        have hof := offAll_take c0 16 hjn
        rw [List.getElem?_eq_getElem hjn] at d0 d1 d2 d3 d4
        simp only [Option.getD_some] at d0 d1 d2 d3 d4
        generalize ins[j] = i at *
        obtain ⟨im, ie⟩ := i
        dsimp only at d0 d1 d2 d3 d4
        have hoc := offer_st (hst.alloc (.cells #[.bool im, .int .i64 ie.time, .int .i64 ie.key, .int .i64 ie.value, .int .u64 ie.label] 33)) 2 rfl 16 ⟨im, ie⟩ hiw (by omega)
        have HOC := Lib.hid hoc
        have HOF := Lib.hid hof
        clear hoc hst hiw hof
        go_wp2_with (go_at_call 11; (with_reducible refine HOC.out.mono ?_); rintro e w2 ⟨rfl, h2⟩; have HS2 := Lib.hid h2; clear h2 HOC)
        go_roundw
        case rel => exact ⟨j + 1, by omega, by go_num, by rw [HOF.out]; exact HS2.out.pick [0, 1, 2, 3] (by decide)⟩
        case measure => simp [intOf]; omega
      · obtain rfl : j = ins.length := by omega
        rw [List.take_length] at hst
        have HST := Lib.hid hst
        clear hst
        go_wp2
        go_meet
        exact HST.out
  case rest =>
    have hq := offAll_q (c := c0) (room := 16) (m := 16) (by decide) ins hq0
    have HSA := Lib.hid hcut
    clear hcut HS6
    have hbr := within_range budget 1 8 (by omega)
    have hxr := within_range more 0 9 (by omega)
    obtain ⟨b, hb⟩ : ∃ b : Nat, within budget 1 8 = b := ⟨(within budget 1 8).toNat, by omega⟩
    obtain ⟨x, hx⟩ : ∃ x : Nat, within more 0 9 = x := ⟨(within more 0 9).toNat, by omega⟩
    rw [hb] at hbr
    rw [hx] at hxr
    have HB := Lib.hid hb
    have HX := Lib.hid hx
    generalize offAll c0 16 ins = c at *
    obtain ⟨q, hql⟩ : ∃ q, c.q.length = q := ⟨_, rfl⟩
    rw [hql] at hq
    have b1 : 1 ≤ b := by omega
    have t1 := tick_most ⟨q, by omega⟩ ⟨b, by omega⟩ b1
    have t2 := tick_mono ⟨q, by omega⟩ ⟨b, by omega⟩ ⟨x, by omega⟩ b1
    have t3 := tick_end ⟨q, by omega⟩ ⟨b, by omega⟩ b1
    have t4 := tick_on ⟨q, by omega⟩ ⟨b, by omega⟩ b1
    have t5 := tick_small ⟨q, by omega⟩ ⟨b, by omega⟩ b1
    dsimp only at t1 t2 t3 t4 t5
    have HT1 := Lib.hid (boundTicks_st HSA.out 2 rfl (b : Int) (by omega))
    have hmo : ∀ w', Calls Try.prog 13 #[.int .i64 16, .int .i64 0, .int .i64 b] w' fun e w'' => e = .returned (.int .i64 (ticksOf 16 b)) ∧ w'' = w' := fun w' => most_of 16 0 b w'
    have hmz : ∀ w', Calls Try.prog 13 #[.int .i64 (-5), .int .i64 (-5), .int .i64 b] w' fun e w'' => e = .returned (.int .i64 0) ∧ w'' = w' := fun w' => most_of (-5) (-5) b w'
    have HMO := Lib.hid hmo
    have HMZ := Lib.hid hmz
    have HQL := Lib.hid hql
    have HT3 := Lib.hid t3
    have HT4 := Lib.hid t4
    have hwb : wrap64 ((b : Int) + x) = (b : Int) + x := by unfold wrap64; omega
    clear hb hx hmo hmz hql t3 t4
    generalize hO : ticksOf (q : Int) b = own at *
    generalize hM : ticksOf 16 (b : Int) = most at *
    generalize hP : ticksOf (q : Int) ((b : Int) + x) = own2 at *
    have HO := Lib.hid hO
    have HP := Lib.hid hP
    clear hO hP hM
    have g1 : ¬ most < own := by omega
    have g2 : ¬ own < 0 := by omega
    have g3 : ¬ most < 0 := by omega
    have g4 : ¬ 99 < most := by omega
    have g5 : ¬ own < own2 := by omega
    have hwi1 : ∀ w', Calls Try.prog 21 #[.int .i64 budget, .int .i64 1, .int .i64 8] w' fun e w'' => e = .returned (.int .i64 b) ∧ w'' = w' := fun w' => by have h := Within_at budget 1 8 w' hrbudget.1 hrbudget.2 (by decide) (by decide) (by decide); rw [HB.out] at h; exact h.mono fun e w'' hh => ⟨hh.1, hh.2.symm⟩
    have hwi2 : ∀ w', Calls Try.prog 21 #[.int .i64 more, .int .i64 0, .int .i64 9] w' fun e w'' => e = .returned (.int .i64 x) ∧ w'' = w' := fun w' => by have h := Within_at more 0 9 w' hrmore.1 hrmore.2 (by decide) (by decide) (by decide); rw [HX.out] at h; exact h.mono fun e w'' hh => ⟨hh.1, hh.2.symm⟩
    have HI1 := Lib.hid hwi1
    have HI2 := Lib.hid hwi2
    have HT15 := Lib.hid (And.intro t1 (And.intro t2 t5))
    have hN28 : ins.length < 2 ^ 28 := by omega
    have HN28 := Lib.hid hN28
    have HBX := Lib.hid (And.intro hbr hxr)
    clear hwi1 hwi2 t1 t2 t5 hq hbr hxr b1 hN28 hrbudget hrmore
    go_upto_block 2 with (first
      | (go_at_call 21; (with_reducible refine (HI1.out _).mono ?_); rintro e wz ⟨rfl, hwz⟩; have hwz := hwz.symm; subst hwz)
      | (go_at_call 21; (with_reducible refine (HI2.out _).mono ?_); rintro e wz ⟨rfl, hwz⟩; have hwz := hwz.symm; subst hwz)
      | (go_at_call 13; (with_reducible refine (HMO.out _).mono ?_); rintro e wz ⟨rfl, hwz⟩; have hwz := hwz.symm; subst hwz)
      | (go_at_call 13; (with_reducible refine (HMZ.out _).mono ?_); rintro e wz ⟨rfl, hwz⟩; have hwz := hwz.symm; subst hwz)
      | (go_at_call 12; (with_reducible refine HT2.out.mono ?_); rintro e w7 ⟨rfl, h7⟩; rw [HQL.out, HP.out]; have HS7 := Lib.hid h7; clear h7 HT2)
      | (go_at_call 12; (with_reducible refine HT1.out.mono ?_); rintro e w6 ⟨rfl, h6⟩; rw [HQL.out, HO.out]; have HT2 := Lib.hid (boundTicks_st h6 2 rfl ((b : Int) + x) HN28.out); clear h6 HT1))
    have ho0 : 0 ≤ own := by omega
    have hN29 := HN28.out
    clear g1 g2 g3 g4 g5 hwb HI1 HI2 HMO HMZ HINS
    generalize ins.length = N at *
    go_cut [11] from 69 to 80 (fun _ wx => ∃ c' : Cl, c'.q.length = 0 ∧ St w wx [pt w.heap.size (.cells #[.slice ao k.ops.length co, .slice an k.ns.length cn, .int .i64 k.size, .int .i64 k.slide, .int .i64 k.agg, .int .i64 k.sink, .int .i64 k.feed] 56 (0, 0)), ownP 92 2 Opr.cells (.slice pa p.ops.length pc) p.ops, clP cb c' N, ownP 33 5 Inp.cells (.slice ia N ic) ins])
    case first =>
      go_wp2_with fail
      go_loopw [69] (fun iv wr => ∃ (i : Nat) (c' : Cl), (i : Int) ≤ own ∧ iv = .int .i64 i ∧ c'.q.length = q - i * b ∧ St w wr [pt w.heap.size (.cells #[.slice ao k.ops.length co, .slice an k.ns.length cn, .int .i64 k.size, .int .i64 k.slide, .int .i64 k.agg, .int .i64 k.sink, .int .i64 k.feed] 56 (0, 0)), ownP 92 2 Opr.cells (.slice pa p.ops.length pc) p.ops, clP cb c' N, ownP 33 5 Inp.cells (.slice ia N ic) ins]) (fun iv _ => own.toNat - (intOf iv).toNat)
      case atStart => exact ⟨0, c, by omega, rfl, by rw [HQL.out]; simp, HS7.out⟩
      case round =>
        obtain ⟨i, c', hi, rfl, hq', hst⟩ := hrel
        by_cases hlt : (i : Int) < own
        · have h5 := HT15.out.2.2
          have hib := HT4.out ⟨i, by omega⟩ hlt
          dsimp only at hib
          have hsb : (i + 1) * b = i * b + b := Nat.succ_mul i b
          obtain ⟨k0, k1, k2, k5, ⟨qa, qc, k3⟩, hlc⟩ := cl_cells hst 2 rfl
          rw [hq'] at k3
          obtain ⟨m, hm⟩ : ∃ m, q - i * b = m := ⟨_, rfl⟩
          rw [hm] at k3 hq'
          have hm0 : 0 < m := by omega
          have hm1 : (m : Int) ≠ 0 := by omega
          have HW := Lib.hid (waiting_st qa m qc hst)
          obtain ⟨j, hj⟩ : ∃ j, j = min b m := ⟨_, rfl⟩
          have hj' : max 0 (min (b : Int) c'.q.length) = (j : Int) := by rw [hq']; omega
          have hqn : (c'.serve j).q.length = q - (i + 1) * b := by
            show (c'.q.drop j).length = _
            rw [List.length_drop, hq', hsb]
            omega
          have HJ := Lib.hid hj'
          have HQN := Lib.hid hqn
          clear hst hj' hqn hq' hj hsb hib h5 k0 k1 k2 k5
          go_wp2_with (first
            | (go_at_call 15; (with_reducible refine HSV.out.mono ?_); rintro e w9 ⟨v9, rfl, h9⟩; have HS9 := Lib.hid (h9.pick [0, 1, 2, 3] (by decide)); clear h9 HSV)
            | (go_at_call 25; (with_reducible refine HW.out.mono ?_); rintro e w8 ⟨rfl, h8⟩; have HSV := Lib.hid (serve_st h8 2 rfl (b : Int) j HJ.out hN29); clear h8 HW))
          go_roundw
          case rel => exact ⟨i + 1, c'.serve j, by omega, by go_num, HQN.out, HS9.out⟩
          case measure => simp [intOf]; omega
        · have h3 := HT3.out
          have hio : own.toNat = i := by omega
          rw [hio] at h3
          have HST := Lib.hid hst
          have HQ0 := Lib.hid (show c'.q.length = 0 by rw [hq']; omega)
          clear hst
          go_wp2
          go_meet
          exact ⟨c', HQ0.out, HST.out⟩
    case rest =>
      obtain ⟨c', hq', hst⟩ := hcut
      obtain ⟨k0, k1, k2, k5, ⟨qa, qc, k3⟩, hlc⟩ := cl_cells hst 2 rfl
      rw [hq'] at k3
      have HW := Lib.hid (waiting_st qa 0 qc hst)
      have HQ0 := Lib.hid hq'
      clear hst hq'
      go_wp2_with (first
        | (go_at_call 3; (with_reducible refine (BoundRuns_any _).mono ?_); rintro e w18 ⟨rfl, hb18⟩; have HS18 := Lib.hid (HS9.out.kept hb18); clear hb18)
        | (go_at_call 12; (with_reducible refine HT9.out.mono ?_); rintro e w9 ⟨rfl, h9⟩; rw [HQ0.out]; rw [show ticksOf ((0 : Nat) : Int) b = 0 from rfl]; have HS9 := Lib.hid h9; clear h9 HT9)
        | (go_at_call 25; (with_reducible refine HW.out.mono ?_); rintro e w8 ⟨rfl, h8⟩; have HT9 := Lib.hid (boundTicks_st h8 2 rfl (b : Int) hN29); clear h8 HW))
      go_ret
      exact ⟨rfl, HS18.out.below⟩
end Go.Proofs.Ythegopajkljlmaa
