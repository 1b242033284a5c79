/- The walk of RunnerLate. -/
import Derived.Test.YtjkflblbcodnoaaLateLaw
import Derived.Test.YtjkflblbcodnoaaWholeRuns
import Derived.Test.YtjkflblbcodnoaaStore
set_option linter.unusedVariables false
set_option linter.unusedSimpArgs false
namespace Go.Proofs.Ytjkflblbcodnoaa
open Go.RowKit Go.Maps
theorem rn4 {w w' : World} {rb pb : Nat} {v : Value} {r : Rn} {T : TypeId} (h : w.heap[rb]? = some (.cells (r.cells pb v) T (0, 0))) (hb : Below w.heap.size w w') :
    w'.cell? ⟨rb, 0, none⟩ = some (.int .i64 r.c.mark) ∧ w'.cell? ⟨rb, 1, none⟩ = some (.int .i64 r.c.late) ∧ w'.cell? ⟨rb, 2, none⟩ = some (.int .i64 r.c.seen) ∧ w'.cell? ⟨rb, 3, none⟩ = some (.pointer (some ⟨pb, 0, none⟩)) := by
  obtain ⟨h0, h1, h2, h3, _⟩ := cells10 h hb
  exact ⟨h0, h1, h2, h3⟩
theorem four10 {w w' : World} {g : Nat} {v0 v1 v2 v3 v4 v5 v6 v7 v8 v9 : Value} {T : TypeId} (h : w.heap[g]? = some (.cells #[v0, v1, v2, v3, v4, v5, v6, v7, v8, v9] T (0, 0))) (hb : Below w.heap.size w w') :
    w'.cell? ⟨g, 0, none⟩ = some v0 ∧ w'.cell? ⟨g, 1, none⟩ = some v1 ∧ w'.cell? ⟨g, 2, none⟩ = some v2 ∧ w'.cell? ⟨g, 3, none⟩ = some v3 := by
  obtain ⟨h0, h1, h2, h3, _⟩ := cells10 h hb
  exact ⟨h0, h1, h2, h3⟩
theorem rightW_of {p : Pp} (h : rightPp p = true) : rightW p.size p.slide := by
  unfold rightPp at h
  simp at h
  exact h.1.1.1.2
theorem panesN_any (size slide : Int) (w : World) (h : rightW size slide) :
    Calls Try.prog 38 #[.int .i64 size, .int .i64 slide] w fun e w' => e = .returned (.int .i64 (mostOf size slide)) ∧ w' = w := by
  have hR := Lib.hid (right_any size slide w)
  have hM := Lib.hid (most_any size slide w h.1 h.2.1 h.2.2.1)
  have hD := Lib.hid (decide_eq_true h)
  clear h
  go_enter Try.func38, Try.ntmps38
  go_wp2_with (first
    | (go_at_call 67; (with_reducible refine hR.out.mono ?_); rintro e wz ⟨rfl, hwz⟩; have hwz := hwz.symm; subst hwz; rw [hD.out])
    | (go_at_call 68; (with_reducible refine hM.out.mono ?_); rintro e wz ⟨rfl, hwz⟩; have hwz := hwz.symm; subst hwz))
  go_ret
  exact ⟨rfl, rfl⟩
theorem inputs_low (l : List InQ) : ∀ i ∈ inputsOf l, i.ev.wf ∧ i.ev.time ≤ 160 := by
  intro i hi
  refine ⟨inputs_wf l i hi, ?_⟩
  obtain ⟨q, _, rfl⟩ := List.mem_map.1 hi
  unfold inpOf
  split
  · have := within_range q.time 0 160 (by omega); dsimp only; omega
  · have := within_range q.time 0 120 (by omega); dsimp only; omega
theorem sumC_take {R : List Rw} {j : Nat} (hj : j < R.length) : sumC (R.take (j + 1)) = sumC (R.take j) + R[j].count := by
  rw [List.take_add_one, List.getElem?_eq_getElem hj, sumC_app]
  simp [sumC]
theorem wrap_add (a b : Int) : wrap64 (wrap64 a + b) = wrap64 (a + b) := by unfold wrap64; omega
theorem wrap_id {a : Int} (h0 : -1000000 ≤ a) (h1 : a ≤ 1000000) : wrap64 a = a := by unfold wrap64; omega
set_option maxHeartbeats 4000000 in
set_option maxRecDepth 20000 in
theorem RunnerLate_any (w : World) (cs : Array Value) (k : PipeQ) (hk : isPq w cs.toList k) (al : Option Addr) (cap : Nat) (l : List InQ) (hle : l.length ≤ cap) (hmx : cap ≤ maxLen) (hnil : al = none → cap = 0) (hl : SlAt 4 isIq w al l) (time : Int) (htime : (Lit.int .i64 time).wf = true) (value : Int) (hvalue : (Lit.int .i64 value).wf = true) :
    Calls Try.prog 7 #[.agg cs, .slice al l.length cap, .int .i64 time, .int .i64 value] w fun e w' => e = .returned (.bool true) ∧ Below w.heap.size w w' := by
  obtain ⟨ao, co, an, cn, hcs, hso, hsn, hkw⟩ := hk
  obtain rfl : cs = #[.slice ao k.ops.length co, .slice an k.ns.length cn, .int .i64 k.size, .int .i64 k.slide, .int .i64 k.agg, .int .i64 k.sink, .int .i64 k.feed] := by
    obtain ⟨cl⟩ := cs
    dsimp only at hcs
    rw [hcs]
  clear hcs
  obtain ⟨hli, hlw⟩ := hl.iq
  have hrtime := i64_range htime
  have hrvalue := i64_range hvalue
  have hlm : l.length ≤ maxLen := by omega
  obtain ⟨hpr, hpo, hpl, hps1, hps2, hps3, hps4⟩ := pipeOf_right k
  have HPR := Lib.hid hpr
  have HPO := Lib.hid hpo
  have HLI := Lib.hid hli
  have HLW := Lib.hid hlw
  have hst0 := (St.start w).alloc (.cells #[.slice ao k.ops.length co, .slice an k.ns.length cn, .int .i64 k.size, .int .i64 k.slide, .int .i64 k.agg, .int .i64 k.sink, .int .i64 k.feed] 69)
  have HC0 := Lib.hid (pipe_st hst0 k hkw ao an co cn (Seen.old hso) (Seen.old hsn))
  clear hst0 hli hlw hl htime hvalue hso hsn hkw hle hnil hpr hpo
  unfold maxLen at hmx
  generalize pipeOf k = p at *
  go_enter Try.func7, Try.ntmps7
  have hil := inputs_len l
  have HIT := Lib.hid (inputs_low l)
  have HRW := Lib.hid (rightW_of HPR.out)
  obtain ⟨ins, hins⟩ : ∃ x, x = inputsOf l := ⟨_, rfl⟩
  rw [← hins] at hil HIT
  have HINS := Lib.hid hins
  clear hins
  have HVW := Lib.hid (show (⟨0, 0, value, 1⟩ : Ev).wf from ⟨(by decide : (Lit.int .i64 0).wf = true), (by decide : (Lit.int .i64 0).wf = true), WalkArith.wf_i64 (by omega), (by decide : (Lit.int .u64 1).wf = true)⟩)
  go_upto_region 6 with (first
    | (go_at_call 36; (with_reducible refine HC0.out.mono ?_); rintro e w1 ⟨pa, pc, rfl, hpn, hst1⟩; have HPN := Lib.hid hpn; have HS1 := Lib.hid (hst1.alloc (.cells #[.slice pa p.ops.length pc, .int .i64 p.size, .int .i64 p.slide, .int .i64 p.agg, .int .i64 p.sink, .int .i64 p.feed] 57)); have HCN := Lib.hid (rnNew_st HS1.out p pa pc (HS1.out.slOf Opr.len 1 rfl) hpn HPO.out (by omega) HPR.out); clear HC0 hst1 hpn)
    | (go_at_call 29; (with_reducible refine HCN.out.mono ?_); rintro e w2 ⟨rb, rfl, hst2⟩; obtain ⟨pb0, v0, _, ⟨hb0, _, hlr⟩, _⟩ := rn_see hst2 3 rfl (by decide); obtain ⟨a0, a1, a2, a3⟩ := rn4 hb0 (Below.refl _ _); have HS2 := Lib.hid hst2; have HCI := Lib.hid (inputs_st hst2 al cap l (Seen.old HLI.out) HLW.out hlm); clear HCN hst2 hb0)
    | (go_at_call 37; (with_reducible refine HCI.out.mono ?_); rintro e w5 ⟨vi, rfl, hst5⟩; rw [← HINS.out] at hst5; obtain ⟨ia, ic, rfl, hic, him, hin, _⟩ := hst5.sl Inp.len 4 rfl; have HCT := Lib.hid (rnTake_st hst5 3 rfl ia ic ins (Seen.own Inp.len 4 rfl) (fun i hi => (HIT.out i hi).1) (by omega) (by simp)); clear hst5 HCI)
    | (go_at_call 30; (with_reducible refine HCT.out.mono ?_); rintro e w6 ⟨v6, rfl, hst6⟩; obtain ⟨ra, rc, rfl, hrc, hrm, hrn, _⟩ := hst6.sl Rw.len 5 rfl; have HS6 := Lib.hid hst6; clear hst6 HCT))
  have hRlen : (rowsR (newR p) ins).length ≤ 200 := by
    have h1 := rowsR_len (newR p) ins
    have h0 : (newR p).L.length = 0 := rfl
    omega
  have hst := HS6.out
  have hlaw := late_law HRW.out HPO.out (fun i hi => (HIT.out i hi).1)
  have hlow := (afterR_low ins (newR p) List.Pairwise.nil (fun _ _ h => by cases h) (by show (0 : Int) ≤ 160; decide) HPO.out HIT.out).2
  have hqp : (afterR (newR p) ins).p = p := afterR_p _ _
  have hq : afterR (⟨⟨0, 0, 0⟩, p, []⟩ : Rn) ins = afterR (newR p) ins := rfl
  have hR : rowsR (⟨⟨0, 0, 0⟩, p, []⟩ : Rn) ins = rowsR (newR p) ins := rfl
  rw [hq, hR] at hst
  rw [hR] at hrc
  rw [hR]
  generalize rowsR (newR p) ins = R at *
  generalize afterR (newR p) ins = q at *
  generalize w1.heap.size = g at *
  obtain ⟨⟨m, lt, sn⟩, qp, qL⟩ := q
  obtain rfl : p = qp := hqp.symm
  clear HS6 HS2 HS1 hq hR a0 a1 a2 a3
  obtain ⟨pb, v, hok, hst⟩ := rn_flat hst 3 rfl
  rw [Nat.zero_add] at hst hok
  have hst : St w w6 [pt w.heap.size (.cells #[.slice ao k.ops.length co, .slice an k.ns.length cn, .int .i64 k.size, .int .i64 k.slide, .int .i64 k.agg, .int .i64 k.sink, .int .i64 k.feed] 69 (0, 0)), ownP 54 2 Opr.cells (.slice pa p.ops.length pc) p.ops, pt g (.cells #[.slice pa p.ops.length pc, .int .i64 p.size, .int .i64 p.slide, .int .i64 p.agg, .int .i64 p.sink, .int .i64 p.feed] 57 (0, 0)), ownP 64 5 Inp.cells (.slice ia ins.length ic) ins, ownP 45 5 Rw.cells (.slice ra R.length rc) R, pt rb (.cells #[.int .i64 m, .int .i64 lt, .int .i64 sn, .pointer (some ⟨pb, 0, none⟩), v, .int .i64 p.size, .int .i64 p.slide, .int .i64 p.agg, .int .i64 p.sink, .int .i64 p.feed] 61 (0, 0)), panesP pb p.size p.slide p.agg (8 * (ins.length)) qL, ownP 54 2 Opr.cells v p.ops] := hst.pick [0, 1, 2, 4, 5, 6, 7, 8] (by decide)
  obtain ⟨hsrt, _, hlow1, hlow2, hup, hmost, hleast, hpos⟩ := hlaw
  replace hpos : 0 ≤ sumC R + totalL qL := hpos
  replace hmost : sumC R + totalL qL ≤ (sn - lt) * mostOf p.size p.slide := hmost
  replace hleast : p.ops = [] → sn - lt ≤ sumC R + totalL qL := hleast
  replace hlow : m ≤ 160 := hlow
  replace hlow1 : lt ≤ sn := hlow1
  replace hlow2 : 0 ≤ lt := hlow2
  replace hup : sn ≤ ins.length := hup
  obtain ⟨O, hO⟩ : ∃ x, x = rowsL qL := ⟨_, rfl⟩
  have hOs : sumC R + sumC O = sumC R + totalL qL := by rw [hO, sumC_rows]
  have holen : O.length ≤ 200 := by
    have := (panesP_good hst 6 rfl).1.len
    rw [hO]
    simp only [rowsL, List.length_map]
    omega
  have HMOST := Lib.hid hmost
  have HLEAST := Lib.hid hleast
  have HOS := Lib.hid hOs
  have HO := Lib.hid hO
  have HOK := Lib.hid hok
  clear hmost hleast hO hOs hok hsrt
  have HST := Lib.hid hst
  clear hst
  go_cut [12, 13, 14, 15] from 37 to 56 (fun u12 u13 u14 u15 wx => ∃ oa oc, u12 = .slice oa O.length oc ∧ u13 = .int .i64 m ∧ u14 = .int .i64 lt ∧ u15 = .int .i64 sn ∧ St w wx [pt w.heap.size (.cells #[.slice ao k.ops.length co, .slice an k.ns.length cn, .int .i64 k.size, .int .i64 k.slide, .int .i64 k.agg, .int .i64 k.sink, .int .i64 k.feed] 69 (0, 0)), ownP 54 2 Opr.cells (.slice pa p.ops.length pc) p.ops, pt g (.cells #[.slice pa p.ops.length pc, .int .i64 p.size, .int .i64 p.slide, .int .i64 p.agg, .int .i64 p.sink, .int .i64 p.feed] 57 (0, 0)), ownP 64 5 Inp.cells (.slice ia ins.length ic) ins, ownP 45 5 Rw.cells (.slice ra R.length rc) R, pt rb (.cells #[.int .i64 m, .int .i64 lt, .int .i64 sn, .pointer (some ⟨pb, 0, none⟩), v, .int .i64 p.size, .int .i64 p.slide, .int .i64 p.agg, .int .i64 p.sink, .int .i64 p.feed] 61 (0, 0)), panesP pb p.size p.slide p.agg (8 * (ins.length)) qL, ownP 54 2 Opr.cells v p.ops, ownP 45 5 Rw.cells (.slice oa O.length oc) O])
  case first =>
    obtain ⟨a0, a1, a2, a3⟩ := four10 (HST.out.drew.blk 5 rfl).1 (Below.refl _ _)
    have HCO := Lib.hid (panesOpen_st HST.out.drew 6 rfl (by omega))
    go_region_held3 (fun w' => w'.cell? ⟨rb, 0, none⟩ = some (.int .i64 m) ∧ w'.cell? ⟨rb, 1, none⟩ = some (.int .i64 lt) ∧ w'.cell? ⟨rb, 2, none⟩ = some (.int .i64 sn) ∧ w'.cell? ⟨rb, 3, none⟩ = some (.pointer (some ⟨pb, 0, none⟩))) (first | exact ⟨k0, k1, k2, k3⟩ | exact ⟨a0, a1, a2, a3⟩)
      (first
        | (go_at_call 27; (with_reducible refine HCO.out.mono ?_); rintro e w2 ⟨vo, rfl, h2⟩; rw [← HO.out] at h2; obtain ⟨oa, oc, rfl, _, _, _, _⟩ := h2.sl Rw.len 8 rfl; obtain ⟨k0, k1, k2, k3⟩ := four10 (h2.blk 5 rfl).1 (Below.refl _ _); have HCM := Lib.hid (mark_st m lt sn h2); clear h2)
        | (go_at_call 35; (with_reducible refine HCM.out.mono ?_); rintro e w3 ⟨rfl, h3⟩; obtain ⟨k0, k1, k2, k3⟩ := four10 (h3.blk 5 rfl).1 (Below.refl _ _); have HCL := Lib.hid (late_st m lt sn h3); clear h3)
        | (go_at_call 33; (with_reducible refine HCL.out.mono ?_); rintro e w4 ⟨rfl, h4⟩; obtain ⟨k0, k1, k2, k3⟩ := four10 (h4.blk 5 rfl).1 (Below.refl _ _); have HCS := Lib.hid (seen_st m lt sn h4); clear h4)
        | (go_at_call 34; (with_reducible refine HCS.out.mono ?_); rintro e w5 ⟨rfl, h5⟩; obtain ⟨k0, k1, k2, k3⟩ := four10 (h5.blk 5 rfl).1 (Below.refl _ _); have HZ := Lib.hid h5; clear h5))
    all_goals
      go_wp2
      go_meet
      exact ⟨oa, oc, rfl, rfl, rfl, rfl, HZ.out⟩
  case rest =>
    obtain ⟨oa, oc, rfl, rfl, rfl, rfl, hst7⟩ := hcut
    have hmt : m ≤ 160 := hlow
    have HON := Lib.hid (show oa = none → oc = 0 by obtain ⟨_, _, hv, _, _, h, _⟩ := hst7.sl Rw.len 8 rfl; cases hv; exact h)
    have HS7 := Lib.hid hst7
    clear hst7 HST
    go_upto_if 58 with fail
    go_cut [16] from 57 to 113 (fun _ wx => St w wx [pt w.heap.size (.cells #[.slice ao k.ops.length co, .slice an k.ns.length cn, .int .i64 k.size, .int .i64 k.slide, .int .i64 k.agg, .int .i64 k.sink, .int .i64 k.feed] 69 (0, 0)), ownP 54 2 Opr.cells (.slice pa p.ops.length pc) p.ops, pt g (.cells #[.slice pa p.ops.length pc, .int .i64 p.size, .int .i64 p.slide, .int .i64 p.agg, .int .i64 p.sink, .int .i64 p.feed] 57 (0, 0)), ownP 45 5 Rw.cells (.slice ra R.length rc) R, ownP 45 5 Rw.cells (.slice oa O.length oc) O])
    case first =>
      by_cases hm0 : (0 : Int) < m
      · have htr := within_range time 0 (m - 1) (by omega)
        obtain ⟨t, ht⟩ : ∃ t, within time 0 (m - 1) = t := ⟨_, rfl⟩
        rw [ht] at htr
        have HT := Lib.hid ht
        clear ht
        have hw1 : wrap64 (lt + 1) = lt + 1 := wrap_id (by omega) (by omega)
        have hw2 : wrap64 (sn + 1) = sn + 1 := wrap_id (by omega) (by omega)
        have hgl := (panesP_good HS7.out 6 rfl).1.len
        have HCA := Lib.hid (at_st t value HS7.out)
        have HTHREE := Lib.hid (late_three (r := ⟨⟨m, lt, sn⟩, p, qL⟩) (t := t) (m := m) (v := value) rfl (by omega) (by omega) (by omega))
        have hmw : (Lit.int .i64 m).wf = true := WalkArith.wf_i64 (by omega)
        have htw : (Lit.int .i64 t).wf = true := WalkArith.wf_i64 (by omega)
        have HWF := Lib.hid (show ∀ i ∈ ([⟨false, ⟨t, 0, value, 1⟩⟩, ⟨true, ⟨t, 0, 0, 0⟩⟩, ⟨true, ⟨m, 0, 0, 0⟩⟩] : List Inp), i.ev.wf by
          intro i hi
          simp at hi
          rcases hi with rfl | rfl | rfl
          · exact ⟨htw, HVW.out.2.1, HVW.out.2.2.1, HVW.out.2.2.2⟩
          · exact ⟨htw, mark1000_wf.2⟩
          · exact ⟨hmw, mark1000_wf.2⟩)
        clear hmw htw
        go_wp2_with (first
          | (go_at_call 16; refine (Within_at _ _ _ _ (by omega) (by omega) (by omega) (by omega) (by omega)).mono ?_; rintro e wz ⟨rfl, rfl⟩; rw [HT.out])
          | (go_at_call 24; (with_reducible refine HCE.out.mono ?_); rintro e wb ⟨rfl, hb⟩; have HZ := Lib.hid hb; clear hb HCE)
          | (go_at_call 27; (with_reducible refine HCO.out.mono ?_); rintro e wa ⟨vo, rfl, ha⟩; obtain ⟨ya, yc, rfl, _, _, _, _⟩ := ha.sl Rw.len 11 rfl; have HCE := Lib.hid (sameRw_any ha 11 4 rfl rfl HO.out (by rw [← HO.out]; omega)); clear ha HCO)
          | (go_at_call 35; (with_reducible refine HCM.out.mono ?_); rintro e w9 ⟨rfl, h9⟩; obtain ⟨k0, k1, k2, k3⟩ := four10 (h9.blk 8 rfl).1 (Below.refl _ _); have HCO := Lib.hid (panesOpen_st h9 9 rfl (by omega)); clear h9 HCM)
          | (go_at_call 34; (with_reducible refine HCS.out.mono ?_); rintro e w8 ⟨rfl, h8⟩; obtain ⟨k0, k1, k2, k3⟩ := four10 (h8.blk 8 rfl).1 (Below.refl _ _); have HCM := Lib.hid (mark_st m (lt + 1) (sn + 1) h8); clear h8 HCS)
          | (go_at_call 33; (with_reducible refine HCL.out.mono ?_); rintro e w7 ⟨rfl, h7⟩; obtain ⟨k0, k1, k2, k3⟩ := four10 (h7.blk 8 rfl).1 (Below.refl _ _); have HCS := Lib.hid (seen_st m (lt + 1) (sn + 1) h7); clear h7 HCL)
          | (go_at_call 30; (with_reducible refine HCT.out.mono ?_); rintro e w6 ⟨v6, rfl, h6⟩; rw [HTHREE.out.1, HTHREE.out.2] at h6; obtain ⟨xa, xc, rfl, _, _, _, _⟩ := h6.sl Rw.len 7 rfl; obtain ⟨pb2, v2, hok2, h6⟩ := rn_flat h6 5 rfl; have h6 : St w w6 [pt w.heap.size (.cells #[.slice ao k.ops.length co, .slice an k.ns.length cn, .int .i64 k.size, .int .i64 k.slide, .int .i64 k.agg, .int .i64 k.sink, .int .i64 k.feed] 69 (0, 0)), ownP 54 2 Opr.cells (.slice pa p.ops.length pc) p.ops, pt g (.cells #[.slice pa p.ops.length pc, .int .i64 p.size, .int .i64 p.slide, .int .i64 p.agg, .int .i64 p.sink, .int .i64 p.feed] 57 (0, 0)), ownP 45 5 Rw.cells (.slice ra R.length rc) R, ownP 45 5 Rw.cells (.slice oa O.length oc) O, emp, pt _ (.cells #[.bool false, .int .i64 t, .int .i64 0, .int .i64 value, .int .u64 1, .bool true, .int .i64 t, .int .i64 0, .int .i64 0, .int .u64 0, .bool true, .int .i64 m, .int .i64 0, .int .i64 0, .int .u64 0] 64 (0, 0)), ownP 45 5 Rw.cells (.slice xa 0 xc) [], pt rb (.cells #[.int .i64 m, .int .i64 (lt + 1), .int .i64 (sn + 1), .pointer (some ⟨pb2, 0, none⟩), v2, .int .i64 p.size, .int .i64 p.slide, .int .i64 p.agg, .int .i64 p.sink, .int .i64 p.feed] 61 (0, 0)), panesP pb2 p.size p.slide p.agg (8 * (ins.length + 3)) qL, ownP 54 2 Opr.cells v2 p.ops] := h6; obtain ⟨k0, k1, k2, k3⟩ := four10 (h6.blk 8 rfl).1 (Below.refl _ _); have HCL := Lib.hid (late_st m (lt + 1) (sn + 1) h6); clear h6 HCT)
          | (go_at_call 32; (with_reducible refine HCC.out.mono ?_); rintro e w5 ⟨rfl, h5⟩; have h4 := (((h5.alloc (.cells #[.bool false, .int .i64 t, .int .i64 0, .int .i64 value, .int .u64 1, .bool true, .int .i64 t, .int .i64 0, .int .i64 0, .int .u64 0, .bool true, .int .i64 m, .int .i64 0, .int .i64 0, .int .u64 0] 64)).fold 5 [6, 7] (by decide) (by simp)).imp 5 rfl (X' := rnP rb ⟨⟨m, lt, sn⟩, p, qL⟩ ins.length) fun h hh => rn_pack HOK.out h hh).pick [0, 1, 2, 4, 8, 5, 9] (by decide); have hct := rnTake_st h4 5 rfl (some ⟨w5.heap.size, 0, none⟩) 3 [⟨false, ⟨t, 0, value, 1⟩⟩, ⟨true, ⟨t, 0, 0, 0⟩⟩, ⟨true, ⟨m, 0, 0, 0⟩⟩] (Seen.pt (l := [⟨false, ⟨t, 0, value, 1⟩⟩, ⟨true, ⟨t, 0, 0, 0⟩⟩, ⟨true, ⟨m, 0, 0, 0⟩⟩]) Inp.len 6 rfl) HWF.out (by show ins.length + 3 < _; omega) hgl; have hct : Calls Try.prog 30 #[.pointer (some ⟨rb, 0, none⟩), .slice (some ⟨w5.heap.size, 0, none⟩) 3 3] _ _ := hct; have HCT := Lib.hid hct; clear HCC hct h4 h5)
          | (go_at_call 32; (with_reducible refine HCB.out.mono ?_); rintro e w4 ⟨rfl, h4⟩; have HCC := Lib.hid (mk_st m h4); clear HCB h4)
          | (go_at_call 31; (with_reducible refine HCA.out.mono ?_); rintro e w3 ⟨rfl, h3⟩; have HCB := Lib.hid (mk_st t h3); clear HCA h3))
        go_meet
        exact HZ.out.pick [0, 1, 2, 3, 4] (by decide)
      · go_wp2
        go_meet
        exact HS7.out.pick [0, 1, 2, 4, 8] (by decide)
    case rest =>
      have HSB := Lib.hid hcut
      clear hcut HS7
      obtain ⟨A, hA⟩ : ∃ x, x = R ++ O := ⟨_, rfl⟩
      obtain ⟨P, hP⟩ : ∃ x, x = mostOf p.size p.slide := ⟨_, rfl⟩
      have hP8 : 1 ≤ P ∧ P ≤ 8 := by
        have := HRW.out
        rw [hP]
        exact ⟨(mostOf_mul this.1 this.2.1).2.2, this.2.2.2⟩
      have hsA : sumC A = sumC R + totalL qL := by rw [hA, sumC_app]; exact HOS.out
      have hmost := HMOST.out
      have hleast := HLEAST.out
      rw [← hP, ← hsA] at hmost
      rw [← hsA] at hleast hpos
      have hX1 : 0 ≤ (sn - lt) * P := Int.mul_nonneg (by omega) (by omega)
      have hX2 : (sn - lt) * P ≤ 200 := by
        have h1 : (sn - lt) * P ≤ (sn - lt) * 8 := Int.mul_le_mul_of_nonneg_left (by omega) (by omega)
        omega
      have hAl : A.length ≤ 400 := by rw [hA, List.length_append]; omega
      have HA := Lib.hid hA
      have HP := Lib.hid hP
      have HLS := Lib.hid hleast
      clear hA hP hleast hsA
      have hw3 : wrap64 (sn - lt) = sn - lt := wrap_id (by omega) (by omega)
      have hw4 : wrap64 ((sn - lt) * P) = (sn - lt) * P := wrap_id (by omega) (by omega)
      have HW3 := Lib.hid hw3
      have HW4 := Lib.hid hw4
      clear hw3 hw4
      go_upto_block 0 with (at_builtin; refine wpList_append_st rwElem rfl HSB.out 3 rfl _ _ rfl rfl oa oc O rfl HON.out (HSB.out.slOf Rw.len 4 rfl) (by omega) ?_; intro v8 w8 hst8 _; rw [← HA.out] at hst8; obtain ⟨ya, yc, rfl, _, _, _, _⟩ := hst8.sl Rw.len 3 rfl; have HL := Lib.hid hst8; clear hst8)
      go_cut [17] from 118 to 126 (fun u wx => u = .int .i64 (sumC A) ∧ St w wx [pt w.heap.size (.cells #[.slice ao k.ops.length co, .slice an k.ns.length cn, .int .i64 k.size, .int .i64 k.slide, .int .i64 k.agg, .int .i64 k.sink, .int .i64 k.feed] 69 (0, 0)), ownP 54 2 Opr.cells (.slice pa p.ops.length pc) p.ops, pt g (.cells #[.slice pa p.ops.length pc, .int .i64 p.size, .int .i64 p.slide, .int .i64 p.agg, .int .i64 p.sink, .int .i64 p.feed] 57 (0, 0)), ownP 45 5 Rw.cells (.slice ya A.length yc) A, ownP 45 5 Rw.cells (.slice oa O.length oc) O])
      case first =>
        go_wp2_with fail
        go_loopw [17, 118] (fun cv iv wr => ∃ j : Nat, j ≤ A.length ∧ iv = .int .i64 j ∧ cv = .int .i64 (wrap64 (sumC (A.take j))) ∧ St w wr [pt w.heap.size (.cells #[.slice ao k.ops.length co, .slice an k.ns.length cn, .int .i64 k.size, .int .i64 k.slide, .int .i64 k.agg, .int .i64 k.sink, .int .i64 k.feed] 69 (0, 0)), ownP 54 2 Opr.cells (.slice pa p.ops.length pc) p.ops, pt g (.cells #[.slice pa p.ops.length pc, .int .i64 p.size, .int .i64 p.slide, .int .i64 p.agg, .int .i64 p.sink, .int .i64 p.feed] 57 (0, 0)), ownP 45 5 Rw.cells (.slice ya A.length yc) A, ownP 45 5 Rw.cells (.slice oa O.length oc) O]) (fun _ iv _ => A.length - (intOf iv).toNat)
        case atStart => exact ⟨0, by omega, rfl, (by simp [sumC, wrap64]), HL.out⟩
        case round =>
          obtain ⟨j, hj, rfl, rfl, hst⟩ := hrel
          by_cases hlt : (j : Int) < A.length
          · have hjn : j < A.length := by omega
            obtain ⟨b, o, rfl, hbl, d0, d1, d2, d3, d4⟩ := (hst.slOf Rw.len 3 rfl).rwAt j hjn
            have hs := sumC_take hjn
            rw [List.getElem?_eq_getElem hjn] at d0 d1 d2 d3 d4
            simp only [Option.getD_some] at d0 d1 d2 d3 d4
            generalize A[j] = row at *
            obtain ⟨rs, rk, rv, rn, rl⟩ := row
            dsimp only at d0 d1 d2 d3 d4 hs
            have HST := Lib.hid hst
            have HSU := Lib.hid hs
            clear hst hs
            generalize sumC (A.take j) = S at *
            go_wp2_with fail
            go_roundw
            case rel => exact ⟨j + 1, by omega, by go_num, by rw [HSU.out, wrap_add], (HST.out.alloc _).pick [0, 1, 2, 3, 4] (by decide)⟩
            case measure => simp [intOf]; omega
          · obtain rfl : j = A.length := by omega
            rw [List.take_length]
            have hwA : wrap64 (sumC A) = sumC A := wrap_id (by omega) (by omega)
            rw [hwA]
            have HST := Lib.hid hst
            clear hst
            go_wp2
            go_meet
            exact ⟨rfl, HST.out⟩
      case rest =>
        obtain ⟨rfl, hst⟩ := hcut
        obtain ⟨k0, k1, k2, k3, k4, k5⟩ := cells6 (hst.blk 2 rfl).1 (Below.refl _ _)
        have HST := Lib.hid hst
        clear hst
        have hw3 := HW3.out
        have hw4 := HW4.out
        have HPN := Lib.hid (fun w' => panesN_any p.size p.slide w' HRW.out)
        by_cases h0 : (0 : Int) < p.ops.length
        · have hne : ¬ p.ops = [] := fun h => by rw [h] at h0; simp at h0
          go_wp2_with (first
            | (go_at_call 38; (with_reducible refine (HPN.out _).mono ?_); rintro e wz ⟨rfl, hwz⟩; have hwz := hwz.symm; subst hwz; rw [← HP.out])
            | (go_at_call 4; refine (RunnerRuns_any _).mono ?_; rintro e w18 ⟨rfl, hb18⟩; have HS18 := Lib.hid (HST.out.kept hb18); clear hb18))
          go_ret
          exact ⟨rfl, HS18.out.below⟩
        · have hp0 : p.ops = [] := List.eq_nil_of_length_eq_zero (by omega)
          have hle := HLS.out hp0
          go_wp2_with (first
            | (go_at_call 38; (with_reducible refine (HPN.out _).mono ?_); rintro e wz ⟨rfl, hwz⟩; have hwz := hwz.symm; subst hwz; rw [← HP.out])
            | (go_at_call 4; refine (RunnerRuns_any _).mono ?_; rintro e w18 ⟨rfl, hb18⟩; have HS18 := Lib.hid (HST.out.kept hb18); clear hb18))
          go_ret
          exact ⟨rfl, HS18.out.below⟩
end Go.Proofs.Ytjkflblbcodnoaa
