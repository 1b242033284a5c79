/- The walk of CellServes. -/
import Derived.Test.YthegopajkljlmaaCellRuns
import Derived.Test.YthegopajkljlmaaOffers
import Derived.Test.YthegopajkljlmaaCellMore
set_option linter.unusedVariables false
set_option linter.unusedSimpArgs false
namespace Go.Proofs.Ythegopajkljlmaa
open Go.RowKit Go.Maps
theorem serve_serve (c : Cl) (a b : Nat) : (c.serve a).serve b = c.serve (a + b) := by
  unfold Cl.serve
  simp only [List.drop_drop, List.append_assoc]
  congr 2
  exact (List.take_add ..).symm
theorem tell_mid (R : List Rw) (t : Nat) (n : Int) (ht : t < R.length) (hn : 1 ≤ n) : ∃ k : Nat, 1 ≤ k ∧ k ≤ 32 ∧ t + k ≤ R.length ∧ tellR R (t : Int) n = ((R.drop t).take k, 0) := by
  refine ⟨(max 0 (min (min n 32) ((R.length : Int) - t))).toNat, by omega, by omega, by omega, ?_⟩
  unfold tellR
  rw [if_neg (by omega), Int.toNat_natCast]
theorem tell_end (R : List Rw) : tellR R (R.length : Int) 5 = ([], 0) := by
  unfold tellR
  rw [if_neg (by omega), Int.toNat_natCast]
  simp
theorem serve_zero (c : Cl) : c.serve 0 = c := by
  unfold Cl.serve
  simp
theorem serve_rn (c : Cl) (a : Nat) : (c.serve a).rn = afterR c.rn (c.q.take a) := afterR_append _ _ _
theorem rows_more (c : Cl) (a b : Nat) : rowsR c.rn (c.q.take (a + b)) = rowsR c.rn (c.q.take a) ++ rowsR (c.serve a).rn ((c.serve a).q.take b) := by
  rw [serve_rn, List.take_add, rowsR_append]
  rfl
theorem offer_len (c : Cl) (room : Int) (i : Inp) : (c.offer room i).2.q.length ≤ c.q.length + 1 := by
  unfold Cl.offer
  split
  · exact Nat.le_succ _
  · split
    · exact Nat.le_succ _
    · split
      · exact Nat.le_succ _
      · show (c.q ++ [ownI c.id i]).length ≤ _
        simp
theorem offAll_len (room : Int) : ∀ (l : List Inp) (c : Cl), (offAll c room l).q.length ≤ c.q.length + l.length := by
  intro l
  induction l with
  | nil => exact fun c => Nat.le_refl _
  | cons i l ih =>
    intro c
    have h1 := ih (c.offer room i).2
    have h2 := offer_len c room i
    show (offAll (c.offer room i).2 room l).q.length ≤ _
    simp only [List.length_cons]
    omega
set_option maxHeartbeats 4000000 in
set_option maxRecDepth 100000 in
theorem CellServes_any (w : World) (cs : Array Value) (k : PipeQ) (hk : isPq w cs.toList k) (al : Option Addr) (cap : Nat) (l : List InQ) (hle : l.length ≤ cap) (hmx : cap ≤ maxLen) (hnil : al = none → cap = 0) (hl : SlAt 4 isIq w al l) (bl : Option Addr) (cap2 : Nat) (l2 : List Int) (hle2 : l2.length ≤ cap2) (hmx2 : cap2 ≤ maxLen) (hnil2 : bl = none → cap2 = 0) (hl2 : SlAt 1 (isInt .i64) w bl l2) (dl : Option Addr) (cap3 : Nat) (l3 : List Int) (hle3 : l3.length ≤ cap3) (hmx3 : cap3 ≤ maxLen) (hnil3 : dl = none → cap3 = 0) (hl3 : SlAt 1 (isInt .i64) w dl l3) :
    Calls Try.prog 6 #[.agg cs, .slice al l.length cap, .slice bl l2.length cap2, .slice dl l3.length cap3] w fun e w' => e = .returned (.bool true) ∧ Below w.heap.size w w' := by
  obtain ⟨ao, co, an, cn, hcs, hso, hsn, hkw⟩ := hk
  obtain rfl : cs = #[.slice ao k.ops.length co, .slice an k.ns.length cn, .int .i64 k.size, .int .i64 k.slide, .int .i64 k.agg, .int .i64 k.sink, .int .i64 k.feed] := by
    obtain ⟨cl⟩ := cs
    dsimp only at hcs
    rw [hcs]
  clear hcs
  obtain ⟨hli, hlw⟩ := hl.iq
  obtain ⟨hli2, hlw2⟩ := hl2.ints
  obtain ⟨hli3, hlw3⟩ := hl3.ints
  have hlm : l.length ≤ maxLen := by omega
  obtain ⟨hpr, hpo, hpl, hps1, hps2, hps3, hps4⟩ := pipeOf_right k
  have HPR := Lib.hid hpr
  have HPO := Lib.hid hpo
  have HLI := Lib.hid hli
  have HLW := Lib.hid hlw
  have HLI2 := Lib.hid hli2
  have HLW2 := Lib.hid hlw2
  have HLI3 := Lib.hid hli3
  have HLW3 := Lib.hid hlw3
  have hst0 := (St.start w).alloc (.cells #[.slice ao k.ops.length co, .slice an k.ns.length cn, .int .i64 k.size, .int .i64 k.slide, .int .i64 k.agg, .int .i64 k.sink, .int .i64 k.feed] 56)
  have HC0 := Lib.hid (pipe_st hst0 k hkw ao an co cn (Seen.old hso) (Seen.old hsn))
  clear hst0 hli hlw hl hso hsn hkw hle hnil hpr hpo hli2 hlw2 hl2 hnil2 hli3 hlw3 hl3 hnil3
  unfold maxLen at hmx hmx2 hmx3
  generalize pipeOf k = p at *
  have hil := inputs_len l
  have hiw := inputs_wf l
  obtain ⟨ins, hins⟩ : ∃ x, x = inputsOf l := ⟨_, rfl⟩
  rw [← hins] at hil hiw
  have HINS := Lib.hid hins
  have HIW := Lib.hid hiw
  clear hins hiw
  go_enter Try.func6, Try.ntmps6
  go_upto_region 2 with (go_at_call 20; (with_reducible refine HC0.out.mono ?_); rintro e w1 ⟨pa, pc, rfl, hpn, hst1⟩; have HPN := Lib.hid hpn; have HS1 := Lib.hid (hst1.alloc (.cells #[.slice pa p.ops.length pc, .int .i64 p.size, .int .i64 p.slide, .int .i64 p.agg, .int .i64 p.sink, .int .i64 p.feed] 26)); clear HC0 hst1 hpn)
  generalize w1.heap.size = g at *
  refine wp_at HS1.out ?_
  intro w2 hst2
  clear HS1
  have HP6 := Lib.hid (cells6 (hst2.drew.blk 2 rfl).1 (Below.refl _ _))
  have HCA := Lib.hid (cellNew_st hst2.drew 0 99 (by omega) (by omega) (by decide) (by decide) p pa pc (Seen.own Opr.len 1 rfl) HPN.out HPO.out (by omega) HPR.out)
  clear hst2
  go_cut [10, 11] from 27 to 30 (fun u v wx => ∃ ca da, u = .pointer (some ⟨ca, 0, none⟩) ∧ v = .pointer (some ⟨da, 0, none⟩) ∧ St w wx [pt w.heap.size (.cells #[.slice ao k.ops.length co, .slice an k.ns.length cn, .int .i64 k.size, .int .i64 k.slide, .int .i64 k.agg, .int .i64 k.sink, .int .i64 k.feed] 56 (0, 0)), ownP 92 2 Opr.cells (.slice pa p.ops.length pc) p.ops, pt g (.cells #[.slice pa p.ops.length pc, .int .i64 p.size, .int .i64 p.slide, .int .i64 p.agg, .int .i64 p.sink, .int .i64 p.feed] 26 (0, 0)), clP ca (newC 99 0 p) 0, clP da (newC 99 0 p) 0])
  case first =>
    go_region_held3 (fun w' => w'.cell? ⟨g, 0, none⟩ = some (.slice pa p.ops.length pc) ∧ w'.cell? ⟨g, 1, none⟩ = some (.int .i64 p.size) ∧ w'.cell? ⟨g, 2, none⟩ = some (.int .i64 p.slide) ∧ w'.cell? ⟨g, 3, none⟩ = some (.int .i64 p.agg) ∧ w'.cell? ⟨g, 4, none⟩ = some (.int .i64 p.sink) ∧ w'.cell? ⟨g, 5, none⟩ = some (.int .i64 p.feed)) (first | (with_reducible exact ⟨k0, k1, k2, k3, k4, k5⟩) | exact HP6.out)
      (first
        | (go_at_call 10; (with_reducible refine HCB.out.mono ?_); rintro e w4 ⟨da, rfl, h4⟩; obtain ⟨k0, k1, k2, k3, k4, k5⟩ := cells6 (h4.blk 2 rfl).1 (Below.refl _ _); have HS4 := Lib.hid h4; clear h4 HCB)
        | (go_at_call 10; (with_reducible refine HCA.out.mono ?_); rintro e w3 ⟨ca, rfl, h3⟩; obtain ⟨k0, k1, k2, k3, k4, k5⟩ := cells6 (h3.blk 2 rfl).1 (Below.refl _ _); have HCB := Lib.hid (cellNew_st h3 0 99 (by omega) (by omega) (by decide) (by decide) p pa pc (Seen.own Opr.len 1 rfl) HPN.out HPO.out (by omega) HPR.out); clear h3 HCA))
    all_goals
      go_wp2
      go_meet
      exact ⟨ca, da, rfl, rfl, HS4.out⟩
  case rest =>
    obtain ⟨ca, da, rfl, rfl, h⟩ := hcut
    have HCI := Lib.hid (inputs_st h al cap l (Seen.old HLI.out) HLW.out hlm)
    obtain ⟨c0, hc0⟩ : ∃ c, c = newC 99 0 p := ⟨_, rfl⟩
    have ht0 : c0.taken = [] := by rw [hc0]; rfl
    have hq0 : c0.q.length = 0 := by rw [hc0]; rfl
    have HC0 := Lib.hid hc0
    clear h hc0
    go_upto_block 0 with (go_at_call 22; (with_reducible refine HCI.out.mono ?_); rintro e w5 ⟨vi, rfl, hst5⟩; rw [← HINS.out, ← HC0.out] at hst5; obtain ⟨ia, ic, rfl, hic, him, hin, _⟩ := hst5.sl Inp.len 5 rfl; have HS5 := Lib.hid hst5; clear hst5 HCI)
    go_cut [13] from 40 to 51 (fun _ wx => St w wx [pt w.heap.size (.cells #[.slice ao k.ops.length co, .slice an k.ns.length cn, .int .i64 k.size, .int .i64 k.slide, .int .i64 k.agg, .int .i64 k.sink, .int .i64 k.feed] 56 (0, 0)), ownP 92 2 Opr.cells (.slice pa p.ops.length pc) p.ops, pt g (.cells #[.slice pa p.ops.length pc, .int .i64 p.size, .int .i64 p.slide, .int .i64 p.agg, .int .i64 p.sink, .int .i64 p.feed] 26 (0, 0)), clP ca (offAll c0 99 ins) (ins.length), clP da (offAll c0 99 ins) (ins.length), ownP 33 5 Inp.cells (.slice ia ins.length ic) ins])
    case first =>
      go_wp2_with fail
      go_loopw [40] (fun iv wr => ∃ j : Nat, j ≤ ins.length ∧ iv = .int .i64 j ∧ St w wr [pt w.heap.size (.cells #[.slice ao k.ops.length co, .slice an k.ns.length cn, .int .i64 k.size, .int .i64 k.slide, .int .i64 k.agg, .int .i64 k.sink, .int .i64 k.feed] 56 (0, 0)), ownP 92 2 Opr.cells (.slice pa p.ops.length pc) p.ops, pt g (.cells #[.slice pa p.ops.length pc, .int .i64 p.size, .int .i64 p.slide, .int .i64 p.agg, .int .i64 p.sink, .int .i64 p.feed] 26 (0, 0)), clP ca (offAll c0 99 (ins.take j)) (j), clP da (offAll c0 99 (ins.take j)) (j), ownP 33 5 Inp.cells (.slice ia ins.length ic) ins]) (fun iv _ => ins.length - (intOf iv).toNat)
      case atStart => exact ⟨0, by omega, rfl, HS5.out⟩
      case round =>
        obtain ⟨j, hj, rfl, hst⟩ := hrel
        by_cases hlt : (j : Int) < ins.length
        · have hjn : j < ins.length := by omega
          obtain ⟨b, o, rfl, hbl, d0, d1, d2, d3, d4⟩ := (hst.slOf Inp.len 5 rfl).inAt j hjn
          have hiw := HIW.out _ (List.getElem_mem hjn)
          have hof := offAll_take c0 99 hjn
          rw [List.getElem?_eq_getElem hjn] at d0 d1 d2 d3 d4
          simp only [Option.getD_some] at d0 d1 d2 d3 d4
          generalize ins[j] = i at *
          obtain ⟨im, ie⟩ := i
          dsimp only at d0 d1 d2 d3 d4
          generalize offAll c0 99 (ins.take j) = cj at *
          have hNj : j < 2 ^ 28 := by omega
          have hoc := offer_st (hst.alloc (.cells #[.bool im, .int .i64 ie.time, .int .i64 ie.key, .int .i64 ie.value, .int .u64 ie.label] 33)).drew 3 rfl 99 ⟨im, ie⟩ hiw hNj
          have a5 := cells5 ((hst.alloc (.cells #[.bool im, .int .i64 ie.time, .int .i64 ie.key, .int .i64 ie.value, .int .u64 ie.label] 33)).drew.blk 6 rfl).1 (Below.refl _ _)
          have HOC := Lib.hid hoc
          have HOF := Lib.hid hof
          have HIW2 := Lib.hid hiw
          have HA5 := Lib.hid a5
          have HNJ := Lib.hid hNj
          clear hoc hst hiw hof a5 hNj
          go_wp2_with fail
          go_region_held3 (fun w' => w'.cell? ⟨wr.heap.size, 0, none⟩ = some (.bool im) ∧ w'.cell? ⟨wr.heap.size, 1, none⟩ = some (.int .i64 ie.time) ∧ w'.cell? ⟨wr.heap.size, 2, none⟩ = some (.int .i64 ie.key) ∧ w'.cell? ⟨wr.heap.size, 3, none⟩ = some (.int .i64 ie.value) ∧ w'.cell? ⟨wr.heap.size, 4, none⟩ = some (.int .u64 ie.label)) (first | (with_reducible exact ⟨k0, k1, k2, k3, k4⟩) | exact HA5.out)
            (first
              | (go_at_call 11; (with_reducible refine HOD.out.mono ?_); rintro e w3 ⟨rfl, h3⟩; obtain ⟨k0, k1, k2, k3, k4⟩ := cells5 (h3.blk 6 rfl).1 (Below.refl _ _); have HS3 := Lib.hid (h3.pick [0, 1, 2, 3, 4, 5] (by decide)); clear h3 HOD)
              | (go_at_call 11; (with_reducible refine HOC.out.mono ?_); rintro e w2 ⟨rfl, h2⟩; obtain ⟨k0, k1, k2, k3, k4⟩ := cells5 (h2.blk 6 rfl).1 (Below.refl _ _); have HOD := Lib.hid (offer_st h2 4 rfl 99 ⟨im, ie⟩ HIW2.out HNJ.out); clear h2 HOC))
          all_goals
            go_wp2
            go_roundw
            case rel => exact ⟨j + 1, by omega, by go_num, by rw [HOF.out]; exact HS3.out⟩
            case measure => simp [intOf]; omega
        · obtain rfl : j = ins.length := by omega
          rw [List.take_length] at hst
          have HST := Lib.hid hst
          clear hst
          go_wp2
          go_meet
          exact HST.out
    case rest =>
      have h := hcut
      have hp := offAll_p 99 ins c0
      have hql := offAll_len 99 ins c0
      rw [ht0] at hp
      clear hcut HS5
      obtain ⟨c1, hc1⟩ : ∃ c, c = offAll c0 99 ins := ⟨_, rfl⟩
      rw [← hc1] at h hp hql
      have hN1 : ins.length < 2 ^ 28 := by omega
      obtain ⟨Q, hQ⟩ : ∃ Q, Q = c1.q.length := ⟨_, rfl⟩
      rw [← hQ] at hql
      have hQ25 : Q ≤ 25 := by omega
      have hj2 : max 0 (min (99 : Int) c1.q.length) = (Q : Int) := by omega
      have hrn1 : c1.rn.L = [] := by unfold Cl.rn; rw [hp.2.2]; rfl
      have hrw1 : c1.rows = [] := by unfold Cl.rows; rw [hp.2.2]; rfl
      have hb2 := rowsR_len c1.rn (c1.q.take Q)
      have hb4 := List.length_take_le Q c1.q
      rw [hrn1] at hb2
      obtain ⟨R, hR⟩ : ∃ x, x = rowsR c1.rn (c1.q.take Q) := ⟨_, rfl⟩
      rw [← hR] at hb2
      have hR200 : R.length ≤ 200 := by simp only [List.length_nil] at hb2; omega
      have hrws : (c1.serve Q).rows = R := by
        show wholeRows c1.p (c1.taken ++ c1.q.take Q) = R
        have : wholeRows c1.p (c1.taken ++ c1.q.take Q) = c1.rows ++ rowsR c1.rn (c1.q.take Q) := rowsR_append _ _ _
        rw [this, hrw1, hR]
        rfl
      have hbm : ∀ m, m ≤ Q → (rowsR c1.rn (c1.q.take m)).length ≤ 200 := fun m hm => by
        have h1 := rowsR_len c1.rn (c1.q.take m)
        have h2 := List.length_take_le m c1.q
        rw [hrn1] at h1
        simp only [List.length_nil] at h1
        omega
      have HBM := Lib.hid hbm
      have HSV := Lib.hid (serve_st h 3 rfl 99 Q hj2 hN1)
      have HR := Lib.hid hR
      have HQ := Lib.hid hQ
      have HN1 := Lib.hid hN1
      have HRWS := Lib.hid hrws
      clear h hp hql hc1 hj2 hrn1 hrw1 hb2 hb4 hR hQ hrws hbm ht0 hq0
      go_upto_block 2 with (go_at_call 15; (with_reducible refine HSV.out.mono ?_); rintro e w4 ⟨v4, rfl, h4⟩; rw [← HR.out] at h4; obtain ⟨ua, uc, rfl, _, _, _, _⟩ := h4.sl Rw.len 6 rfl; have HS9 := Lib.hid (h4.nil 43 5 Rw.cells); clear h4 HSV)
      go_cut [15, 16, 17] from 54 to 79 (fun sv _ _ wx => St w wx [pt w.heap.size (.cells #[.slice ao k.ops.length co, .slice an k.ns.length cn, .int .i64 k.size, .int .i64 k.slide, .int .i64 k.agg, .int .i64 k.sink, .int .i64 k.feed] 56 (0, 0)), ownP 92 2 Opr.cells (.slice pa p.ops.length pc) p.ops, pt g (.cells #[.slice pa p.ops.length pc, .int .i64 p.size, .int .i64 p.slide, .int .i64 p.agg, .int .i64 p.sink, .int .i64 p.feed] 26 (0, 0)), clP ca (c1.serve Q) (ins.length), clP da (c1.serve Q) (ins.length), ownP 33 5 Inp.cells (.slice ia ins.length ic) ins, ownP 43 5 Rw.cells (.slice ua R.length uc) R, ownP 43 5 Rw.cells sv (rowsR c1.rn (c1.q.take Q))])
      case first =>
        go_wp2_with fail
        go_loopw [15, 16] (fun sv iv wr => ∃ i m : Nat, i ≤ m ∧ m ≤ Q ∧ iv = .int .i64 i ∧ St w wr [pt w.heap.size (.cells #[.slice ao k.ops.length co, .slice an k.ns.length cn, .int .i64 k.size, .int .i64 k.slide, .int .i64 k.agg, .int .i64 k.sink, .int .i64 k.feed] 56 (0, 0)), ownP 92 2 Opr.cells (.slice pa p.ops.length pc) p.ops, pt g (.cells #[.slice pa p.ops.length pc, .int .i64 p.size, .int .i64 p.slide, .int .i64 p.agg, .int .i64 p.sink, .int .i64 p.feed] 26 (0, 0)), clP ca (c1.serve Q) (ins.length), clP da (c1.serve m) (ins.length), ownP 33 5 Inp.cells (.slice ia ins.length ic) ins, ownP 43 5 Rw.cells (.slice ua R.length uc) R, ownP 43 5 Rw.cells sv (rowsR c1.rn (c1.q.take m))]) (fun _ iv _ => 60 - (intOf iv).toNat)
        case atStart => exact ⟨0, 0, by omega, by omega, rfl, by rw [serve_zero]; exact HS9.out⟩
        case round =>
          obtain ⟨i, m, him, hmQ, rfl, hst⟩ := hrel
          have hi60 : (i : Int) < 60 := by omega
          obtain ⟨r, hr⟩ : ∃ r, r = Q - m := ⟨_, rfl⟩
          have hqm : (c1.serve m).q.length = r := by
            show (c1.q.drop m).length = r
            rw [List.length_drop, ← HQ.out, hr]
          have hrq1 : r + m ≤ Q := by omega
          have hrq2 : Q ≤ r + m := by omega
          clear hr
          have HQM := Lib.hid hqm
          obtain ⟨k0, k1, k2, k5, ⟨qa, qc, k3⟩, hlc⟩ := cl_cells hst 4 rfl
          rw [hqm] at k3
          have HW := Lib.hid (waiting_st qa r qc hst)
          clear hqm k0 k1 k2 k5
          by_cases hr0 : 0 < r
          · have hr1 : (0 : Int) < r := by omega
            by_cases hil2 : (i : Int) < l2.length
            · have hil3 : i < l2.length := by omega
              have hi63 : (i : Int) < cap2 := by omega
              obtain ⟨b2, o2, hbl2, hb2, f0⟩ := (HLI2.out.below hst.below (fun _ _ h => h)).intAt i hil3
              subst hbl2
              have hpw := i64_range (HLW2.out _ (List.getElem_mem hil3))
              have hf : ∀ w' L', St w w' L' → w'.cell? ⟨b2, o2 + i, none⟩ = some (.int .i64 l2[i]) := fun w' L' hs => by
                obtain ⟨b3, o3, hb3, _, f⟩ := (HLI2.out.below hs.below (fun _ _ h => h)).intAt i hil3
                cases hb3
                rw [List.getElem?_eq_getElem hil3] at f
                exact f
              clear f0
              generalize l2[i] = pn at *
              have HF := Lib.hid hf
              clear hf
              obtain ⟨nn, hnn⟩ : ∃ x : Nat, within pn 1 5 = x := ⟨(within pn 1 5).toNat, by have := within_range pn 1 5 (by omega); omega⟩
              have hnr : 1 ≤ nn ∧ nn ≤ 5 := by have := within_range pn 1 5 (by omega); omega
              have hwn : ∀ w', Calls Try.prog 21 #[.int .i64 pn, .int .i64 1, .int .i64 5] w' fun e w'' => e = .returned (.int .i64 nn) ∧ w'' = w' := fun w' => by have h := Within_at pn 1 5 w' hpw.1 hpw.2 (by decide) (by decide) (by decide); rw [hnn] at h; exact h.mono fun e w'' hh => ⟨hh.1, hh.2.symm⟩
              have HWN := Lib.hid hwn
              clear hwn hnn hpw
              obtain ⟨j, hj⟩ : ∃ j, j = min nn r := ⟨_, rfl⟩
              have hj1 : 1 ≤ j := by omega
              have hjm : m + j ≤ Q := by omega
              have hjs : max 0 (min ((nn : Int)) ((c1.serve m).q.length : Int)) = (j : Int) := by rw [HQM.out]; omega
              have hrm := rows_more c1 m j
              have hbj := HBM.out (m + j) hjm
              have HSS := Lib.hid (serve_serve c1 m j)
              obtain ⟨RR, hRR⟩ : ∃ x, x = rowsR (c1.serve m).rn ((c1.serve m).q.take j) := ⟨_, rfl⟩
              rw [← hRR] at hrm
              have hapl : (rowsR c1.rn (c1.q.take m)).length + RR.length ≤ 1099511627776 := by rw [hrm, List.length_append] at hbj; omega
              have HRM := Lib.hid hrm
              have HRR := Lib.hid hRR
              have HJS := Lib.hid hjs
              have HAP := Lib.hid hapl
              have HIJ := Lib.hid (show i + 1 ≤ m + j ∧ m + j ≤ Q from ⟨by omega, hjm⟩)
              clear hj hjs hrm hbj hRR hapl hst
              go_wp2_with (first
                | (go_at_call 21; (with_reducible refine (HWN.out _).mono ?_); rintro e wz ⟨rfl, hwz⟩; have hwz := hwz.symm; subst hwz)
                | (go_at_call 25; (with_reducible refine HW.out.mono ?_); rintro e w8 ⟨rfl, h8⟩; have f0 := HF.out _ _ h8; have HSV := Lib.hid (serve_st h8 4 rfl ((nn : Int)) j HJS.out HN1.out); clear h8 HW)
                | (go_at_call 15; (with_reducible refine HSV.out.mono ?_); rintro e w9 ⟨v9, rfl, h9⟩; rw [← HRR.out, HSS.out] at h9; obtain ⟨xa, xc, rfl, _, _, hxn, _⟩ := h9.sl Rw.len 8 rfl; have HXN := Lib.hid hxn; have HS10 := Lib.hid h9; clear h9 HSV hxn)
                | (at_builtin; refine wpList_append_st rwElem rfl HS10.out 7 rfl _ _ rfl rfl xa xc RR rfl HXN.out (HS10.out.slOf Rw.len 8 rfl) HAP.out ?_; intro v11 w11 h11 _; rw [← HRM.out] at h11; have HS11 := Lib.hid (h11.pick [0, 1, 2, 3, 4, 5, 6, 7] (by decide)); clear h11))
              go_roundw
              case rel => exact ⟨i + 1, m + j, HIJ.out.1, HIJ.out.2, by go_num, HS11.out⟩
              case measure => simp [intOf]; omega
            · obtain ⟨j, hj⟩ : ∃ j, j = min 1 r := ⟨_, rfl⟩
              have hj1 : 1 ≤ j := by omega
              have hjm : m + j ≤ Q := by omega
              have hjs : max 0 (min ((1 : Int)) ((c1.serve m).q.length : Int)) = (j : Int) := by rw [HQM.out]; omega
              have hrm := rows_more c1 m j
              have hbj := HBM.out (m + j) hjm
              have HSS := Lib.hid (serve_serve c1 m j)
              obtain ⟨RR, hRR⟩ : ∃ x, x = rowsR (c1.serve m).rn ((c1.serve m).q.take j) := ⟨_, rfl⟩
              rw [← hRR] at hrm
              have hapl : (rowsR c1.rn (c1.q.take m)).length + RR.length ≤ 1099511627776 := by rw [hrm, List.length_append] at hbj; omega
              have HRM := Lib.hid hrm
              have HRR := Lib.hid hRR
              have HJS := Lib.hid hjs
              have HAP := Lib.hid hapl
              have HIJ := Lib.hid (show i + 1 ≤ m + j ∧ m + j ≤ Q from ⟨by omega, hjm⟩)
              clear hj hjs hrm hbj hRR hapl hst
              go_wp2_with (first
                | (go_at_call 25; (with_reducible refine HW.out.mono ?_); rintro e w8 ⟨rfl, h8⟩; have HSV := Lib.hid (serve_st h8 4 rfl ((1 : Int)) j HJS.out HN1.out); clear h8 HW)
                | (go_at_call 15; (with_reducible refine HSV.out.mono ?_); rintro e w9 ⟨v9, rfl, h9⟩; rw [← HRR.out, HSS.out] at h9; obtain ⟨xa, xc, rfl, _, _, hxn, _⟩ := h9.sl Rw.len 8 rfl; have HXN := Lib.hid hxn; have HS10 := Lib.hid h9; clear h9 HSV hxn)
                | (at_builtin; refine wpList_append_st rwElem rfl HS10.out 7 rfl _ _ rfl rfl xa xc RR rfl HXN.out (HS10.out.slOf Rw.len 8 rfl) HAP.out ?_; intro v11 w11 h11 _; rw [← HRM.out] at h11; have HS11 := Lib.hid (h11.pick [0, 1, 2, 3, 4, 5, 6, 7] (by decide)); clear h11))
              go_roundw
              case rel => exact ⟨i + 1, m + j, HIJ.out.1, HIJ.out.2, by go_num, HS11.out⟩
              case measure => simp [intOf]; omega
          · obtain rfl : r = 0 := by omega
            obtain rfl : m = Q := by omega
            clear hst
            go_wp2_with (go_at_call 25; (with_reducible refine HW.out.mono ?_); rintro e w8 ⟨rfl, h8⟩; have HS8 := Lib.hid h8; clear h8 HW)
            go_meet
            exact HS8.out
      case rest =>
        have h := hcut
        rw [← HR.out] at h
        obtain ⟨sa, sc, hsv, _, _, _, _⟩ := h.sl Rw.len 7 rfl
        subst hsv
        have HS9 := Lib.hid (h.nil 43 5 Rw.cells)
        clear hcut h HBM
        go_upto_block 4 with fail
        go_cut [18, 19, 20, 21, 22] from 80 to 122 (fun tv _ _ _ _ wx => St w wx [pt w.heap.size (.cells #[.slice ao k.ops.length co, .slice an k.ns.length cn, .int .i64 k.size, .int .i64 k.slide, .int .i64 k.agg, .int .i64 k.sink, .int .i64 k.feed] 56 (0, 0)), ownP 92 2 Opr.cells (.slice pa p.ops.length pc) p.ops, pt g (.cells #[.slice pa p.ops.length pc, .int .i64 p.size, .int .i64 p.slide, .int .i64 p.agg, .int .i64 p.sink, .int .i64 p.feed] 26 (0, 0)), clP ca (c1.serve Q) (ins.length), clP da (c1.serve Q) (ins.length), ownP 33 5 Inp.cells (.slice ia ins.length ic) ins, ownP 43 5 Rw.cells (.slice ua R.length uc) R, ownP 43 5 Rw.cells (.slice sa R.length sc) R, ownP 43 5 Rw.cells tv R])
        case first =>
          go_wp2_with fail
          go_loopw [18, 19] (fun tv iv wr => ∃ i t : Nat, i ≤ t ∧ t ≤ R.length ∧ iv = .int .i64 i ∧ St w wr [pt w.heap.size (.cells #[.slice ao k.ops.length co, .slice an k.ns.length cn, .int .i64 k.size, .int .i64 k.slide, .int .i64 k.agg, .int .i64 k.sink, .int .i64 k.feed] 56 (0, 0)), ownP 92 2 Opr.cells (.slice pa p.ops.length pc) p.ops, pt g (.cells #[.slice pa p.ops.length pc, .int .i64 p.size, .int .i64 p.slide, .int .i64 p.agg, .int .i64 p.sink, .int .i64 p.feed] 26 (0, 0)), clP ca (c1.serve Q) (ins.length), clP da (c1.serve Q) (ins.length), ownP 33 5 Inp.cells (.slice ia ins.length ic) ins, ownP 43 5 Rw.cells (.slice ua R.length uc) R, ownP 43 5 Rw.cells (.slice sa R.length sc) R, ownP 43 5 Rw.cells tv (R.take t)]) (fun _ iv _ => 200 - (intOf iv).toNat)
          case atStart => exact ⟨0, 0, by omega, by omega, rfl, HS9.out⟩
          case round =>
            obtain ⟨i, t, hit, htR', rfl, hst⟩ := hrel
            obtain ⟨ta, tc, htv, _, _, _, _⟩ := hst.sl Rw.len 8 rfl
            have htl' : (R.take t).length = t := by simp; omega
            rw [htl'] at htv
            subst htv
            have HCN := Lib.hid (count_st hst 3 rfl)
            by_cases hi200 : (i : Int) < 200
            · by_cases htR : t < R.length
              · have htR1 : (t : Int) < R.length := by omega
                by_cases hil2 : (i : Int) < l3.length
                · have hil3 : i < l3.length := by omega
                  have hi63 : (i : Int) < cap3 := by omega
                  obtain ⟨b2, o2, hbl2, hb2, f0⟩ := (HLI3.out.below hst.below (fun _ _ h => h)).intAt i hil3
                  subst hbl2
                  have hpw := i64_range (HLW3.out _ (List.getElem_mem hil3))
                  have hf : ∀ w' L', St w w' L' → w'.cell? ⟨b2, o2 + i, none⟩ = some (.int .i64 l3[i]) := fun w' L' hs => by
                    obtain ⟨b3, o3, hb3, _, f⟩ := (HLI3.out.below hs.below (fun _ _ h => h)).intAt i hil3
                    cases hb3
                    rw [List.getElem?_eq_getElem hil3] at f
                    exact f
                  clear f0
                  generalize l3[i] = pn at *
                  have HF := Lib.hid hf
                  obtain ⟨nn, hnn⟩ : ∃ x : Nat, within pn 1 40 = x := ⟨(within pn 1 40).toNat, by have := within_range pn 1 40 (by omega); omega⟩
                  have hnr : 1 ≤ nn ∧ nn ≤ 40 := by have := within_range pn 1 40 (by omega); omega
                  have hwn : ∀ w', Calls Try.prog 21 #[.int .i64 pn, .int .i64 1, .int .i64 40] w' fun e w'' => e = .returned (.int .i64 nn) ∧ w'' = w' := fun w' => by have h := Within_at pn 1 40 w' hpw.1 hpw.2 (by decide) (by decide) (by decide); rw [hnn] at h; exact h.mono fun e w'' hh => ⟨hh.1, hh.2.symm⟩
                  have HWN := Lib.hid hwn
                  clear hwn hnn hpw hf
                  obtain ⟨kk, hk1, hk2, hk3, htell⟩ := tell_mid R t ((nn : Int)) htR (by omega)
                  have htk : R.take t ++ (R.drop t).take kk = R.take (t + kk) := (List.take_add ..).symm
                  have hcl : ((R.drop t).take kk).length = kk := by simp; omega
                  have HTE := Lib.hid htell
                  have HTKK := Lib.hid htk
                  have HCL := Lib.hid hcl
                  have HAP := Lib.hid (show (R.take t).length + ((R.drop t).take kk).length ≤ 1099511627776 by rw [hcl, htl']; omega)
                  have HIJ := Lib.hid (show i + 1 ≤ t + kk ∧ t + kk ≤ R.length from ⟨by omega, hk3⟩)
                  have hz1 : ¬ (kk : Int) = 0 := by omega
                  have hz2 : ¬ (32 : Int) < kk := by omega
                  have hz3 : ¬ kk = 0 := by omega
                  have hz5 : ((kk : Int) == 0) = false := by simpa using hz1
                  have hz6 : (kk : Int) ≤ 32 := by omega
                  clear htell htk hcl hst hk3
                  go_wp2_with (first
                    | (go_at_call 21; (with_reducible refine (HWN.out _).mono ?_); rintro e wz ⟨rfl, hwz⟩; have hwz := hwz.symm; subst hwz)
                    | (go_at_call 26; (with_reducible refine HCN.out.mono ?_); rintro e w8 ⟨rfl, h8⟩; rw [HRWS.out]; have f0 := HF.out _ _ h8; have HTL := Lib.hid (tell_st h8 3 rfl (t : Int) ((nn : Int)) HN1.out ⟨by omega, by omega⟩); clear h8 HCN)
                    | (go_at_call 16; (with_reducible refine HTL.out.mono ?_); rintro e w9 ⟨v9, rfl, h9⟩; rw [HRWS.out, HTE.out] at h9 ⊢; obtain ⟨xa, xc, rfl, _, _, hxn, _⟩ := h9.sl Rw.len 9 rfl; have HXN := Lib.hid hxn; dsimp only at h9 ⊢; rw [HCL.out] at h9 ⊢; have HS10 := Lib.hid h9; clear h9 HTL hxn)
                    | (at_builtin; refine wpList_append_len rwElem rfl HS10.out 8 rfl _ _ rfl rfl xa kk xc ((R.drop t).take kk) HCL.out rfl HXN.out (HS10.out.slOf Rw.len 9 rfl) HAP.out ?_; intro v11 w11 h11 _; rw [HTKK.out] at h11; have HS11 := Lib.hid (h11.pick [0, 1, 2, 3, 4, 5, 6, 7, 8] (by decide)); clear h11))
                  go_roundw
                  case rel => exact ⟨i + 1, t + kk, HIJ.out.1, HIJ.out.2, by go_num, HS11.out⟩
                  case measure => simp [intOf]; omega
                · obtain ⟨kk, hk1, hk2, hk3, htell⟩ := tell_mid R t ((1 : Int)) htR (by omega)
                  have htk : R.take t ++ (R.drop t).take kk = R.take (t + kk) := (List.take_add ..).symm
                  have hcl : ((R.drop t).take kk).length = kk := by simp; omega
                  have HTE := Lib.hid htell
                  have HTKK := Lib.hid htk
                  have HCL := Lib.hid hcl
                  have HAP := Lib.hid (show (R.take t).length + ((R.drop t).take kk).length ≤ 1099511627776 by rw [hcl, htl']; omega)
                  have HIJ := Lib.hid (show i + 1 ≤ t + kk ∧ t + kk ≤ R.length from ⟨by omega, hk3⟩)
                  have hz1 : ¬ (kk : Int) = 0 := by omega
                  have hz2 : ¬ (32 : Int) < kk := by omega
                  have hz3 : ¬ kk = 0 := by omega
                  have hz5 : ((kk : Int) == 0) = false := by simpa using hz1
                  have hz6 : (kk : Int) ≤ 32 := by omega
                  clear htell htk hcl hst hk3
                  go_wp2_with (first
                    | (go_at_call 26; (with_reducible refine HCN.out.mono ?_); rintro e w8 ⟨rfl, h8⟩; rw [HRWS.out]; have HTL := Lib.hid (tell_st h8 3 rfl (t : Int) ((1 : Int)) HN1.out ⟨by omega, by omega⟩); clear h8 HCN)
                    | (go_at_call 16; (with_reducible refine HTL.out.mono ?_); rintro e w9 ⟨v9, rfl, h9⟩; rw [HRWS.out, HTE.out] at h9 ⊢; obtain ⟨xa, xc, rfl, _, _, hxn, _⟩ := h9.sl Rw.len 9 rfl; have HXN := Lib.hid hxn; dsimp only at h9 ⊢; rw [HCL.out] at h9 ⊢; have HS10 := Lib.hid h9; clear h9 HTL hxn)
                    | (at_builtin; refine wpList_append_len rwElem rfl HS10.out 8 rfl _ _ rfl rfl xa kk xc ((R.drop t).take kk) HCL.out rfl HXN.out (HS10.out.slOf Rw.len 9 rfl) HAP.out ?_; intro v11 w11 h11 _; rw [HTKK.out] at h11; have HS11 := Lib.hid (h11.pick [0, 1, 2, 3, 4, 5, 6, 7, 8] (by decide)); clear h11))
                  go_roundw
                  case rel => exact ⟨i + 1, t + kk, HIJ.out.1, HIJ.out.2, by go_num, HS11.out⟩
                  case measure => simp [intOf]; omega
              · obtain rfl : t = R.length := by omega
                rw [List.take_length] at HCN
                clear hst
                go_wp2_with (go_at_call 26; (with_reducible refine HCN.out.mono ?_); rintro e w8 ⟨rfl, h8⟩; rw [HRWS.out]; have HS8 := Lib.hid h8; clear h8 HCN)
                go_meet
                exact HS8.out
            · obtain rfl : t = R.length := by omega
              rw [List.take_length] at hst
              have HS8 := Lib.hid hst
              clear hst
              go_wp2
              go_meet
              exact HS8.out
        case rest =>
          have h := hcut
          obtain ⟨ta, tc, htv, _, _, _, _⟩ := h.sl Rw.len 8 rfl
          subst htv
          obtain ⟨_, _, _, _, _, hok, _⟩ := cl_see h 3 rfl
          have htk : (c1.serve Q).taken.length ≤ 1099511627776 := by have := hok.len; omega
          have HTK := Lib.hid htk
          have HRL := Lib.hid (show R.length ≤ 1099511627776 by omega)
          have HCN := Lib.hid (count_st h 3 rfl)
          have HTE := Lib.hid (tell_end R)
          clear hcut h hok htk HS9
          go_wp2_with (first
            | (go_at_call 26; (with_reducible refine HCN.out.mono ?_); rintro e w6 ⟨rfl, h6⟩; rw [HRWS.out]; have HTL := Lib.hid (tell_st h6 3 rfl (R.length : Int) 5 HN1.out ⟨by omega, by omega⟩); clear h6 HCN)
            | (go_at_call 16; (with_reducible refine HTL.out.mono ?_); rintro e w7 ⟨v7, rfl, h7⟩; rw [HRWS.out, HTE.out] at h7 ⊢; dsimp only at h7 ⊢; obtain ⟨ea, ec, rfl, _, _, _, _⟩ := h7.sl Rw.len 9 rfl; have HSM := Lib.hid (sameRw_any h7 6 7 rfl rfl rfl HRL.out); clear h7 HTL)
            | (go_at_call 17; (with_reducible refine HSN.out.mono ?_); rintro e w9 ⟨rfl, h9⟩; have HTA := Lib.hid (taken_st h9 3 rfl HN1.out); clear h9 HSN)
            | (go_at_call 17; (with_reducible refine HSM.out.mono ?_); rintro e w8 ⟨rfl, h8⟩; have HSN := Lib.hid (sameRw_any h8 8 6 rfl rfl rfl HRL.out); clear h8 HSM)
            | (go_at_call 24; (with_reducible refine HTA.out.mono ?_); rintro e wa ⟨va, rfl, ha⟩; obtain ⟨xa, xc, rfl, _, _, _, _⟩ := ha.sl Inp.len 10 rfl; have HTB := Lib.hid (taken_st ha 4 rfl HN1.out); clear ha HTA)
            | (go_at_call 24; (with_reducible refine HTB.out.mono ?_); rintro e wb ⟨vb, rfl, hb⟩; obtain ⟨ya, yc, rfl, _, _, _, _⟩ := hb.sl Inp.len 11 rfl; have HSI := Lib.hid (sameIn_any hb 10 11 rfl rfl rfl HTK.out); clear hb HTB)
            | (go_at_call 23; (with_reducible refine HSI.out.mono ?_); rintro e wd ⟨rfl, hd⟩; have HZ := Lib.hid hd; clear hd HSI)
            | (go_at_call 4; (with_reducible refine (CellRuns_any _).mono ?_); rintro e w18 ⟨rfl, hb18⟩; have HY := Lib.hid (HZ.out.kept hb18); clear hb18))
          go_ret
          exact ⟨rfl, HY.out.below⟩
end Go.Proofs.Ythegopajkljlmaa
