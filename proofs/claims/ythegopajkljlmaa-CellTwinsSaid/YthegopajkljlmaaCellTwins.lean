/- The walk of CellTwins. -/
import Derived.Test.YthegopajkljlmaaCellRuns
import Derived.Test.YthegopajkljlmaaOffers
set_option linter.unusedVariables false
set_option linter.unusedSimpArgs false
namespace Go.Proofs.Ythegopajkljlmaa
open Go.RowKit Go.Maps
theorem wrap_i64 {x : Int} (h0 : -1000000000000000 ≤ x) (h1 : x ≤ 1000000000000000) : IntKind.i64.wrap x = x := by
  simp [IntKind.wrap, IntKind.bits, IntKind.signed]
  omega
theorem serve_rows (c : Cl) (j : Nat) : (c.serve j).rows = c.rows ++ rowsR c.rn (c.q.take j) := rowsR_append _ _ _
theorem offAll_rows (room : Int) (l : List Inp) (c : Cl) : (offAll c room l).rows = c.rows := by
  have h := offAll_p room l c
  unfold Cl.rows
  rw [h.1, h.2.2]
theorem tell_first (R U : List Rw) : (tellR (R ++ U) 0 (((tellR R 0 32).1.length : Nat) : Int)) = ((tellR R 0 32).1, 0) ∧ (tellR R 0 32).2 = 0 := by
  have h0 : ∀ X : List Rw, ¬ ((0 : Int) < 0 ∨ (X.length : Int) < 0) := fun X => by omega
  have h1 : (tellR R 0 32) = ((R.drop 0).take (max 0 (min (min 32 32) ((R.length : Int) - 0))).toNat, 0) := by unfold tellR; rw [if_neg (h0 R)]; rfl
  rw [h1]
  refine ⟨?_, rfl⟩
  unfold tellR
  rw [if_neg (h0 _)]
  dsimp only
  obtain ⟨k, hk⟩ : ∃ k : Nat, (max 0 (min (min 32 32) ((R.length : Int) - 0))).toNat = k := ⟨_, rfl⟩
  have hkr : k ≤ R.length ∧ k ≤ 32 := by omega
  rw [hk]
  have hl : ((R.drop 0).take k).length = k := by simp; omega
  rw [hl]
  have hk2 : (max 0 (min (min (k : Int) 32) (((R ++ U).length : Int) - 0))).toNat = k := by rw [List.length_append]; omega
  rw [hk2]
  simp only [Int.toNat_zero, List.drop_zero]
  rw [List.take_append_of_le_length hkr.1]
set_option maxHeartbeats 4000000 in
set_option maxRecDepth 100000 in
theorem CellTwins_any (w : World) (cs : Array Value) (k : PipeQ) (hk : isPq w cs.toList k) (al : Option Addr) (cap : Nat) (l : List InQ) (hle : l.length ≤ cap) (hmx : cap ≤ maxLen) (hnil : al = none → cap = 0) (hl : SlAt 4 isIq w al l) (bl : Option Addr) (cap2 : Nat) (l2 : List InQ) (hle2 : l2.length ≤ cap2) (hmx2 : cap2 ≤ maxLen) (hnil2 : bl = none → cap2 = 0) (hl2 : SlAt 4 isIq w bl l2) (n : Int) (hn : (Lit.int .i64 n).wf = true) :
    Calls Try.prog 9 #[.agg cs, .slice al l.length cap, .slice bl l2.length cap2, .int .i64 n] w fun e w' => e = .returned (.bool true) ∧ Below w.heap.size w w' := by
  obtain ⟨ao, co, an, cn, hcs, hso, hsn, hkw⟩ := hk
  obtain rfl : cs = #[.slice ao k.ops.length co, .slice an k.ns.length cn, .int .i64 k.size, .int .i64 k.slide, .int .i64 k.agg, .int .i64 k.sink, .int .i64 k.feed] := by
    obtain ⟨cl⟩ := cs
    dsimp only at hcs
    rw [hcs]
  clear hcs
  obtain ⟨hli, hlw⟩ := hl.iq
  obtain ⟨hli2, hlw2⟩ := hl2.iq
  have hrn := i64_range hn
  have hlm : l.length ≤ maxLen := by omega
  have hlm2 : l2.length ≤ maxLen := by omega
  obtain ⟨hpr, hpo, hpl, hps1, hps2, hps3, hps4⟩ := pipeOf_right k
  have HPR := Lib.hid hpr
  have HPO := Lib.hid hpo
  have HLI := Lib.hid hli
  have HLW := Lib.hid hlw
  have HLI2 := Lib.hid hli2
  have HLW2 := Lib.hid hlw2
  have HLM2 := Lib.hid hlm2
  have hst0 := (St.start w).alloc (.cells #[.slice ao k.ops.length co, .slice an k.ns.length cn, .int .i64 k.size, .int .i64 k.slide, .int .i64 k.agg, .int .i64 k.sink, .int .i64 k.feed] 56)
  have HC0 := Lib.hid (pipe_st hst0 k hkw ao an co cn (Seen.old hso) (Seen.old hsn))
  clear hst0 hli hlw hl hn hso hsn hkw hle hnil hpr hpo hli2 hlw2 hl2 hle2 hnil2 hlm2 hmx2
  unfold maxLen at hmx
  generalize pipeOf k = p at *
  have hil := inputs_len l
  have hiw := inputs_wf l
  have hil2 := inputs_len l2
  have hiw2 := inputs_wf l2
  obtain ⟨ins, hins⟩ : ∃ x, x = inputsOf l := ⟨_, rfl⟩
  obtain ⟨jns, hjns⟩ : ∃ x, x = inputsOf l2 := ⟨_, rfl⟩
  rw [← hins] at hil hiw
  rw [← hjns] at hil2 hiw2
  have HINS := Lib.hid hins
  have HIW := Lib.hid hiw
  have HJNS := Lib.hid hjns
  have HJW := Lib.hid hiw2
  clear hins hiw hjns hiw2
  go_enter Try.func9, Try.ntmps9
  go_upto_block 0 with (first
    | (go_at_call 20; (with_reducible refine HC0.out.mono ?_); rintro e w1 ⟨pa, pc, rfl, hpn, hst1⟩; have HCN := Lib.hid (cellNew_st hst1 1 60 (by decide) (by decide) (by decide) (by decide) p pa pc (Seen.own Opr.len 1 rfl) hpn HPO.out (by omega) HPR.out); clear HC0 hst1 hpn)
    | (go_at_call 10; (with_reducible refine HCN.out.mono ?_); rintro e w2 ⟨cb, rfl, hst2⟩; have HCI := Lib.hid (inputs_st hst2 al cap l (Seen.old HLI.out) HLW.out hlm); clear HCN hst2)
    | (go_at_call 22; (with_reducible refine HCI.out.mono ?_); rintro e w5 ⟨vi, rfl, hst5⟩; rw [← HINS.out] at hst5; obtain ⟨ia, ic, rfl, hic, him, hin, _⟩ := hst5.sl Inp.len 3 rfl; have HS5 := Lib.hid hst5; clear hst5 HCI))
  obtain ⟨c0, hc0⟩ : ∃ x, x = newC 60 1 p := ⟨_, rfl⟩
  have hr0 : c0.rows = [] := by rw [hc0]; rfl
  have hs5 := HS5.out
  rw [← hc0] at hs5
  have HS6 := Lib.hid hs5
  clear HS5 hs5 hc0
  go_cut [11] from 32 to 39 (fun _ wx => St w wx [pt w.heap.size (.cells #[.slice ao k.ops.length co, .slice an k.ns.length cn, .int .i64 k.size, .int .i64 k.slide, .int .i64 k.agg, .int .i64 k.sink, .int .i64 k.feed] 56 (0, 0)), ownP 92 2 Opr.cells (.slice pa p.ops.length pc) p.ops, clP cb (offAll c0 99 ins) ins.length, ownP 33 5 Inp.cells (.slice ia ins.length ic) ins])
  case first =>
    go_wp2_with fail
    go_loopw [32] (fun iv wr => ∃ j : Nat, j ≤ ins.length ∧ iv = .int .i64 j ∧ St w wr [pt w.heap.size (.cells #[.slice ao k.ops.length co, .slice an k.ns.length cn, .int .i64 k.size, .int .i64 k.slide, .int .i64 k.agg, .int .i64 k.sink, .int .i64 k.feed] 56 (0, 0)), ownP 92 2 Opr.cells (.slice pa p.ops.length pc) p.ops, clP cb (offAll c0 99 (ins.take j)) j, ownP 33 5 Inp.cells (.slice ia ins.length ic) ins]) (fun iv _ => ins.length - (intOf iv).toNat)
    case atStart => exact ⟨0, by omega, rfl, HS6.out⟩
    case round =>
      obtain ⟨j, hj, rfl, hst⟩ := hrel
      by_cases hlt : (j : Int) < ins.length
      · have hjn : j < ins.length := by omega
        obtain ⟨b, o, rfl, hbl, d0, d1, d2, d3, d4⟩ := (hst.slOf Inp.len 3 rfl).inAt j hjn
        have hiw := HIW.out _ (List.getElem_mem hjn)
        have hof := offAll_take c0 99 hjn
        rw [List.getElem?_eq_getElem hjn] at d0 d1 d2 d3 d4
        simp only [Option.getD_some] at d0 d1 d2 d3 d4
        generalize ins[j] = i at *
        obtain ⟨im, ie⟩ := i
        dsimp only at d0 d1 d2 d3 d4
        have hoc := offer_st (hst.alloc (.cells #[.bool im, .int .i64 ie.time, .int .i64 ie.key, .int .i64 ie.value, .int .u64 ie.label] 33)) 2 rfl 99 ⟨im, ie⟩ hiw (by omega)
        have HOC := Lib.hid hoc
        have HOF := Lib.hid hof
        clear hoc hst hiw hof
        go_wp2_with (go_at_call 11; (with_reducible refine HOC.out.mono ?_); rintro e w2 ⟨rfl, h2⟩; have HS2 := Lib.hid h2; clear h2 HOC)
        go_roundw
        case rel => exact ⟨j + 1, by omega, by go_num, by rw [HOF.out]; exact HS2.out.pick [0, 1, 2, 3] (by decide)⟩
        case measure => simp [intOf]; omega
      · obtain rfl : j = ins.length := by omega
        rw [List.take_length] at hst
        have HST := Lib.hid hst
        clear hst
        go_wp2
        go_meet
        exact HST.out
  case rest =>
    have h := hcut
    have hrw := offAll_rows 99 ins c0
    rw [hr0] at hrw
    clear hcut HS6 hr0
    generalize offAll c0 99 ins = c1 at *
    obtain ⟨x, hx⟩ : ∃ x : Nat, within n 0 30 = x := ⟨(within n 0 30).toNat, by have := within_range n 0 30 (by omega); omega⟩
    have hwi : ∀ w', Calls Try.prog 21 #[.int .i64 n, .int .i64 0, .int .i64 30] w' fun e w'' => e = .returned (.int .i64 x) ∧ w'' = w' := fun w' => by have h := Within_at n 0 30 w' hrn.1 hrn.2 (by decide) (by decide) (by decide); rw [hx] at h; exact h.mono fun e w'' hh => ⟨hh.1, hh.2.symm⟩
    have HWI := Lib.hid hwi
    have hN1 : ins.length < 2 ^ 28 := by omega
    have hN2 : ins.length + jns.length < 2 ^ 28 := by omega
    have HCT := Lib.hid (cellTwin_st h 2 rfl hN1)
    obtain ⟨j1, hj1⟩ : ∃ j : Nat, max 0 (min (x : Int) c1.q.length) = j := ⟨(max 0 (min (x : Int) c1.q.length)).toNat, by omega⟩
    have HJ1 := Lib.hid hj1
    have HN1 := Lib.hid hN1
    have HN2 := Lib.hid hN2
    have hsr := serve_rows c1 j1
    rw [hrw, List.nil_append] at hsr
    obtain ⟨R1, hR1⟩ : ∃ x, x = rowsR c1.rn (c1.q.take j1) := ⟨_, rfl⟩
    rw [← hR1] at hsr
    obtain ⟨c2, hc2⟩ : ∃ c, c = c1.serve j1 := ⟨_, rfl⟩
    rw [← hc2] at hsr
    have HR1 := Lib.hid hR1
    have HC2 := Lib.hid hc2
    obtain ⟨FF, hFF⟩ : ∃ x, x = (tellR R1 0 32).1 := ⟨_, rfl⟩
    have HFF := Lib.hid hFF
    have HSR := Lib.hid hsr
    have HRW := Lib.hid (show c1.rows.length = 0 by rw [hrw]; rfl)
    have hrl1 : R1.length ≤ 1099511627776 := by
      obtain ⟨_, _, _, _, _, hok, _⟩ := cl_see h 2 rfl
      have h1 := clRows_len hok
      have h2 := rowsR_len c1.rn (c1.q.take j1)
      have h3 := hok.len
      have h4 := List.length_take_le j1 c1.q
      rw [hR1]
      omega
    have HRL1 := Lib.hid hrl1
    have hcar : ∀ N : Nat, c1.rows.length + c1.rn.L.length ≤ 8 * N → True := fun _ _ => trivial
    clear h hwi hx hj1 hN1 hN2 hsr hR1 hc2 hFF hrw hrl1 hcar
    go_upto_block 2 with (first
      | (go_at_call 32; (with_reducible refine HCT.out.mono ?_); rintro e w2 ⟨db, rfl, h2⟩; have HCC := Lib.hid (count_st h2 2 rfl); clear h2 HCT)
      | (go_at_call 26; (with_reducible refine HCC.out.mono ?_); rintro e w3 ⟨rfl, h3⟩; rw [HRW.out]; have HSV := Lib.hid (serve_st h3 2 rfl (x : Int) j1 HJ1.out HN1.out); clear h3 HCC)
      | (go_at_call 21; (with_reducible refine (HWI.out _).mono ?_); rintro e wz ⟨rfl, hwz⟩; have hwz := hwz.symm; subst hwz)
      | (go_at_call 15; (with_reducible refine HSW.out.mono ?_); rintro e w5 ⟨v5, rfl, h5⟩; have h5 : St w w5 [pt w.heap.size (.cells #[.slice ao k.ops.length co, .slice an k.ns.length cn, .int .i64 k.size, .int .i64 k.slide, .int .i64 k.agg, .int .i64 k.sink, .int .i64 k.feed] 56 (0, 0)), ownP 92 2 Opr.cells (.slice pa p.ops.length pc) p.ops, clP cb (c1.serve j1) ins.length, ownP 33 5 Inp.cells (.slice ia ins.length ic) ins, clP db (c1.serve j1) ins.length, ownP 43 5 Rw.cells v4 (rowsR c1.rn (c1.q.take j1)), ownP 43 5 Rw.cells v5 (rowsR c1.rn (c1.q.take j1))] := h5; rw [← HR1.out, ← HC2.out] at h5; obtain ⟨xa, xc, rfl, _, _, _, _⟩ := h5.sl Rw.len 5 rfl; obtain ⟨ya, yc, rfl, _, _, _, _⟩ := h5.sl Rw.len 6 rfl; have HSM := Lib.hid (sameRw_any h5 5 6 rfl rfl rfl HRL1.out); clear h5 HSW)
      | (go_at_call 15; (with_reducible refine HSV.out.mono ?_); rintro e w4 ⟨v4, rfl, h4⟩; have HSW := Lib.hid (serve_st h4 4 rfl (x : Int) j1 HJ1.out HN1.out); clear h4 HSV)
      | (go_at_call 17; (with_reducible refine HSM.out.mono ?_); rintro e w6 ⟨rfl, h6⟩; have HTL := Lib.hid (tell_st h6 2 rfl 0 32 HN1.out (by decide)); clear h6 HSM)
      | (go_at_call 16; (with_reducible refine HTL.out.mono ?_); rintro e w7 ⟨v7, rfl, h7⟩; rw [HSR.out] at h7 ⊢; rw [(tell_first R1 []).2]; rw [← HFF.out] at h7; obtain ⟨fa, fc, rfl, _, _, _, _⟩ := h7.sl Rw.len 7 rfl; have HCJ := Lib.hid (inputs_st h7 bl cap2 l2 (Seen.old HLI2.out) HLW2.out HLM2.out); clear h7 HTL)
      | (go_at_call 22; (with_reducible refine HCJ.out.mono ?_); rintro e w8 ⟨v8, rfl, h8⟩; rw [← HJNS.out] at h8; obtain ⟨ja, jc, rfl, _, _, _, _⟩ := h8.sl Inp.len 8 rfl; have h8 : St w w8 [pt w.heap.size (.cells #[.slice ao k.ops.length co, .slice an k.ns.length cn, .int .i64 k.size, .int .i64 k.slide, .int .i64 k.agg, .int .i64 k.sink, .int .i64 k.feed] 56 (0, 0)), ownP 92 2 Opr.cells (.slice pa p.ops.length pc) p.ops, clP cb (c2) (ins.length), ownP 33 5 Inp.cells (.slice ia ins.length ic) ins, clP db (c2) (ins.length), ownP 43 5 Rw.cells (.slice xa R1.length xc) R1, ownP 43 5 Rw.cells (.slice ya R1.length yc) R1, ownP 43 5 Rw.cells (.slice fa FF.length fc) FF, ownP 33 5 Inp.cells (.slice ja jns.length jc) jns] := h8; have HS8 := Lib.hid h8; clear h8 HCJ))
    have hr2 := HSR.out
    have HS8 := HS8
    clear HR1 HC2 HJ1 HRW HWI HINS HLI2 HLW2 HLM2
    go_cut [19] from 69 to 80 (fun _ wx => St w wx [pt w.heap.size (.cells #[.slice ao k.ops.length co, .slice an k.ns.length cn, .int .i64 k.size, .int .i64 k.slide, .int .i64 k.agg, .int .i64 k.sink, .int .i64 k.feed] 56 (0, 0)), ownP 92 2 Opr.cells (.slice pa p.ops.length pc) p.ops, clP cb (offAll c2 99 jns) (ins.length + jns.length), ownP 33 5 Inp.cells (.slice ia ins.length ic) ins, clP db (offAll c2 99 jns) (ins.length + jns.length), ownP 43 5 Rw.cells (.slice xa R1.length xc) R1, ownP 43 5 Rw.cells (.slice ya R1.length yc) R1, ownP 43 5 Rw.cells (.slice fa FF.length fc) FF, ownP 33 5 Inp.cells (.slice ja jns.length jc) jns])
    case first =>
      go_wp2_with fail
      go_loopw [69] (fun iv wr => ∃ j : Nat, j ≤ jns.length ∧ iv = .int .i64 j ∧ St w wr [pt w.heap.size (.cells #[.slice ao k.ops.length co, .slice an k.ns.length cn, .int .i64 k.size, .int .i64 k.slide, .int .i64 k.agg, .int .i64 k.sink, .int .i64 k.feed] 56 (0, 0)), ownP 92 2 Opr.cells (.slice pa p.ops.length pc) p.ops, clP cb (offAll c2 99 (jns.take j)) (ins.length + j), ownP 33 5 Inp.cells (.slice ia ins.length ic) ins, clP db (offAll c2 99 (jns.take j)) (ins.length + j), ownP 43 5 Rw.cells (.slice xa R1.length xc) R1, ownP 43 5 Rw.cells (.slice ya R1.length yc) R1, ownP 43 5 Rw.cells (.slice fa FF.length fc) FF, ownP 33 5 Inp.cells (.slice ja jns.length jc) jns]) (fun iv _ => jns.length - (intOf iv).toNat)
      case atStart => exact ⟨0, by omega, rfl, HS8.out⟩
      case round =>
        obtain ⟨j, hj, rfl, hst⟩ := hrel
        by_cases hlt : (j : Int) < jns.length
        · have hjn : j < jns.length := by omega
          obtain ⟨b, o, rfl, hbl, d0, d1, d2, d3, d4⟩ := (hst.slOf Inp.len 8 rfl).inAt j hjn
          have hiw := HJW.out _ (List.getElem_mem hjn)
          have hof := offAll_take c2 99 hjn
          rw [List.getElem?_eq_getElem hjn] at d0 d1 d2 d3 d4
          simp only [Option.getD_some] at d0 d1 d2 d3 d4
          generalize jns[j] = i at *
          obtain ⟨im, ie⟩ := i
          dsimp only at d0 d1 d2 d3 d4
          generalize offAll c2 99 (jns.take j) = cj at *
          have hNj : ins.length + j < 2 ^ 28 := by omega
          have hoc := offer_st (hst.alloc (.cells #[.bool im, .int .i64 ie.time, .int .i64 ie.key, .int .i64 ie.value, .int .u64 ie.label] 33)).drew 2 rfl 99 ⟨im, ie⟩ hiw hNj
          have a5 := cells5 ((hst.alloc (.cells #[.bool im, .int .i64 ie.time, .int .i64 ie.key, .int .i64 ie.value, .int .u64 ie.label] 33)).drew.blk 9 rfl).1 (Below.refl _ _)
          have HOC := Lib.hid hoc
          have HOF := Lib.hid hof
          have HIW2 := Lib.hid hiw
          have HA5 := Lib.hid a5
          have HNJ := Lib.hid hNj
          clear hoc hst hiw hof a5 hNj
          go_wp2_with fail
          go_region_held3 (fun w' => w'.cell? ⟨wr.heap.size, 0, none⟩ = some (.bool im) ∧ w'.cell? ⟨wr.heap.size, 1, none⟩ = some (.int .i64 ie.time) ∧ w'.cell? ⟨wr.heap.size, 2, none⟩ = some (.int .i64 ie.key) ∧ w'.cell? ⟨wr.heap.size, 3, none⟩ = some (.int .i64 ie.value) ∧ w'.cell? ⟨wr.heap.size, 4, none⟩ = some (.int .u64 ie.label)) (first | (with_reducible exact ⟨k0, k1, k2, k3, k4⟩) | exact HA5.out)
            (first
              | (go_at_call 11; (with_reducible refine HOD.out.mono ?_); rintro e w3 ⟨rfl, h3⟩; obtain ⟨k0, k1, k2, k3, k4⟩ := cells5 (h3.blk 9 rfl).1 (Below.refl _ _); have HS3 := Lib.hid (h3.pick [0, 1, 2, 3, 4, 5, 6, 7, 8] (by decide)); clear h3 HOD)
              | (go_at_call 11; (with_reducible refine HOC.out.mono ?_); rintro e w2 ⟨rfl, h2⟩; obtain ⟨k0, k1, k2, k3, k4⟩ := cells5 (h2.blk 9 rfl).1 (Below.refl _ _); have HOD := Lib.hid (offer_st h2 4 rfl 99 ⟨im, ie⟩ HIW2.out HNJ.out); clear h2 HOC))
          all_goals
            go_wp2
            go_roundw
            case rel => exact ⟨j + 1, by omega, by go_num, by rw [HOF.out]; exact HS3.out⟩
            case measure => simp [intOf]; omega
        · obtain rfl : j = jns.length := by omega
          rw [List.take_length] at hst
          have HST := Lib.hid hst
          clear hst
          go_wp2
          go_meet
          exact HST.out
    case rest =>
      have h := hcut
      have hr3 := offAll_rows 99 jns c2
      rw [hr2] at hr3
      clear hcut HS8 hr2
      generalize offAll c2 99 jns = c3' at *
      obtain ⟨j2, hj2⟩ : ∃ j : Nat, max 0 (min (99 : Int) c3'.q.length) = j := ⟨(max 0 (min (99 : Int) c3'.q.length)).toNat, by omega⟩
      have HSV := Lib.hid (serve_st h 2 rfl 99 j2 hj2 HN2.out)
      have hsr := serve_rows c3' j2
      rw [hr3] at hsr
      obtain ⟨_, _, _, _, _, hok, _⟩ := cl_see h 2 rfl
      have hb1 := clRows_len hok
      have hb2 := rowsR_len c3'.rn (c3'.q.take j2)
      have hb3 := hok.len
      have hb4 := List.length_take_le j2 c3'.q
      have hb0 := HN2.out
      rw [hr3] at hb1
      obtain ⟨U, hU⟩ : ∃ x, x = rowsR c3'.rn (c3'.q.take j2) := ⟨_, rfl⟩
      rw [← hU] at hsr hb2
      have hul : U.length ≤ 1099511627776 := by omega
      have hfl : FF.length ≤ 32 ∧ FF.length ≤ R1.length := by
        rw [HFF.out]
        unfold tellR
        rw [if_neg (by omega)]
        simp only [List.length_take, List.length_drop]
        omega
      obtain ⟨SS, hSS⟩ : ∃ S : Int, S = (R1.length : Int) + U.length := ⟨_, rfl⟩
      have HWL2 := Lib.hid (show IntKind.i64.wrap ((R1.length : Int) + U.length) = SS by rw [hSS]; exact wrap_i64 (by omega) (by omega))
      have HWL := Lib.hid (show wrap64 ((R1.length : Int) + U.length) = SS by rw [hSS]; unfold wrap64; omega)
      obtain ⟨c3, hc3⟩ : ∃ c, c = c3'.serve j2 := ⟨_, rfl⟩
      rw [← hc3] at hsr
      have HCNT := Lib.hid (show (c3.rows.length : Int) = SS by rw [hsr, List.length_append, hSS]; omega)
      clear hSS
      have htl : (tellR (R1 ++ U) 0 (FF.length : Int)) = (FF, 0) := by rw [HFF.out]; exact (tell_first R1 U).1
      have HTW := Lib.hid htl
      have HSR3 := Lib.hid hsr
      have HU := Lib.hid hU
      have HC3 := Lib.hid hc3
      have HJ2 := Lib.hid hj2
      have HUL := Lib.hid hul
      have HFL := Lib.hid (show FF.length ≤ 1099511627776 by omega)
      clear h hj2 hsr hok hb1 hb2 hb3 hb4 hb0 hU hul hfl hc3 htl hr3
      go_upto_region 25 with (first
        | (go_at_call 15; (with_reducible refine HSW.out.mono ?_); rintro e w5 ⟨v5, rfl, h5⟩; have h5 : St w w5 [pt w.heap.size (.cells #[.slice ao k.ops.length co, .slice an k.ns.length cn, .int .i64 k.size, .int .i64 k.slide, .int .i64 k.agg, .int .i64 k.sink, .int .i64 k.feed] 56 (0, 0)), ownP 92 2 Opr.cells (.slice pa p.ops.length pc) p.ops, clP cb (c3'.serve j2) (ins.length + jns.length), ownP 33 5 Inp.cells (.slice ia ins.length ic) ins, clP db (c3'.serve j2) (ins.length + jns.length), ownP 43 5 Rw.cells (.slice xa R1.length xc) R1, ownP 43 5 Rw.cells (.slice ya R1.length yc) R1, ownP 43 5 Rw.cells (.slice fa FF.length fc) FF, ownP 33 5 Inp.cells (.slice ja jns.length jc) jns, ownP 43 5 Rw.cells v4 (rowsR c3'.rn (c3'.q.take j2)), ownP 43 5 Rw.cells v5 (rowsR c3'.rn (c3'.q.take j2))] := h5; rw [← HU.out, ← HC3.out] at h5; obtain ⟨ua, uc, rfl, _, _, _, _⟩ := h5.sl Rw.len 9 rfl; obtain ⟨va, vc, rfl, _, _, _, _⟩ := h5.sl Rw.len 10 rfl; have HTL := Lib.hid (tell_st h5 2 rfl 0 (FF.length : Int) HN2.out (by decide)); clear h5 HSW)
        | (go_at_call 15; (with_reducible refine HSV.out.mono ?_); rintro e w4 ⟨v4, rfl, h4⟩; have HSW := Lib.hid (serve_st h4 4 rfl 99 j2 HJ2.out HN2.out); clear h4 HSV)
        | (go_at_call 16; (with_reducible refine HTL.out.mono ?_); rintro e w7 ⟨v7, rfl, h7⟩; rw [HSR3.out, HTW.out] at h7 ⊢; obtain ⟨ga, gc, rfl, _, _, _, _⟩ := h7.sl Rw.len 11 rfl; have HS7 := Lib.hid h7; clear h7 HTL))
      try dsimp only
      have hs7 := HS7.out
      have hwl := HWL.out
      have hwl2 := HWL2.out
      have HSM := Lib.hid (sameRw_any hs7.drew 9 10 rfl rfl rfl HUL.out)
      obtain ⟨k0, k1, k2, _, _, hlc⟩ := cl_cells hs7.drew 2 rfl; obtain ⟨e0, e1, e2, _, _, hld⟩ := cl_cells hs7.drew 4 rfl
      have hk6 := And.intro k0 (And.intro k1 (And.intro k2 (And.intro e0 (And.intro e1 e2))))
      have HK6 := Lib.hid hk6
      clear hs7 k0 k1 k2 e0 e1 e2 hk6
      go_region_held3 (fun w' => w'.cell? ⟨cb, 0, none⟩ = some (.int .i64 c3.left) ∧ w'.cell? ⟨cb, 1, none⟩ = some (.int .i64 c3.spent) ∧ w'.cell? ⟨cb, 2, none⟩ = some (.int .i64 c3.refused) ∧ w'.cell? ⟨db, 0, none⟩ = some (.int .i64 c3.left) ∧ w'.cell? ⟨db, 1, none⟩ = some (.int .i64 c3.spent) ∧ w'.cell? ⟨db, 2, none⟩ = some (.int .i64 c3.refused)) (first | (with_reducible exact ⟨k0, k1, k2, e0, e1, e2⟩) | exact HK6.out)
        (first
          | (go_at_call 17; (with_reducible refine HSN.out.mono ?_); rintro e w11 ⟨rfl, h11⟩; obtain ⟨k0, k1, k2, _, _, hlc⟩ := cl_cells h11 2 rfl; obtain ⟨e0, e1, e2, _, _, hld⟩ := cl_cells h11 4 rfl; have HCC := Lib.hid (count_st h11 2 rfl); clear h11 HSN)
          | (go_at_call 17; (with_reducible refine HSM.out.mono ?_); rintro e w10 ⟨rfl, h10⟩; obtain ⟨k0, k1, k2, _, _, hlc⟩ := cl_cells h10 2 rfl; obtain ⟨e0, e1, e2, _, _, hld⟩ := cl_cells h10 4 rfl; have HSN := Lib.hid (sameRw_any h10 11 7 rfl rfl rfl HFL.out); clear h10 HSM)
          | (go_at_call 26; (with_reducible refine HCC.out.mono ?_); rintro e w12 ⟨rfl, h12⟩; rw [HCNT.out]; obtain ⟨k0, k1, k2, _, _, hlc⟩ := cl_cells h12 2 rfl; obtain ⟨e0, e1, e2, _, _, hld⟩ := cl_cells h12 4 rfl; have HL1 := Lib.hid (left_st c3.left c3.spent c3.refused h12); clear h12 HCC)
          | (go_at_call 18; (with_reducible refine HL2.out.mono ?_); rintro e w14 ⟨rfl, h14⟩; obtain ⟨k0, k1, k2, _, _, hlc⟩ := cl_cells h14 2 rfl; obtain ⟨e0, e1, e2, _, _, hld⟩ := cl_cells h14 4 rfl; have HF1 := Lib.hid (refused_st c3.left c3.spent c3.refused h14); clear h14 HL2)
          | (go_at_call 18; (with_reducible refine HL1.out.mono ?_); rintro e w13 ⟨rfl, h13⟩; obtain ⟨k0, k1, k2, _, _, hlc⟩ := cl_cells h13 2 rfl; obtain ⟨e0, e1, e2, _, _, hld⟩ := cl_cells h13 4 rfl; have HL2 := Lib.hid (left_st c3.left c3.spent c3.refused h13); clear h13 HL1)
          | (go_at_call 19; (with_reducible refine HF2.out.mono ?_); rintro e w16 ⟨rfl, h16⟩; obtain ⟨k0, k1, k2, _, _, hlc⟩ := cl_cells h16 2 rfl; obtain ⟨e0, e1, e2, _, _, hld⟩ := cl_cells h16 4 rfl; have HZ := Lib.hid h16; clear h16 HF2)
          | (go_at_call 19; (with_reducible refine HF1.out.mono ?_); rintro e w15 ⟨rfl, h15⟩; obtain ⟨k0, k1, k2, _, _, hlc⟩ := cl_cells h15 2 rfl; obtain ⟨e0, e1, e2, _, _, hld⟩ := cl_cells h15 4 rfl; have HF2 := Lib.hid (refused_st c3.left c3.spent c3.refused h15); clear h15 HF1)
          | (go_at_call 4; (with_reducible refine (CellRuns_any _).mono ?_); rintro e w18 ⟨rfl, hb18⟩; have h18 := HZ.out.kept hb18; obtain ⟨k0, k1, k2, _, _, hlc⟩ := cl_cells h18 2 rfl; obtain ⟨e0, e1, e2, _, _, hld⟩ := cl_cells h18 4 rfl; have HY := Lib.hid h18; clear hb18 h18))
      all_goals
        go_wp2
        go_ret
        exact ⟨rfl, HY.out.below⟩
end Go.Proofs.Ythegopajkljlmaa
