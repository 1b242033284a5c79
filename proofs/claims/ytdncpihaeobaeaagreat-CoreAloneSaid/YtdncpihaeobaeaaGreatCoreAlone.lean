/- The walk of CoreAlone. -/
import Derived.Test.YtdncpihaeobaeaaGreatSetLaw
import Derived.Test.YtdncpihaeobaeaaGreatActs
import Derived.Test.YtdncpihaeobaeaaGreatDoLit
import Derived.Test.YtdncpihaeobaeaaGreatOwnW
import Derived.Test.YtdncpihaeobaeaaGreatWoven
set_option linter.unusedVariables false
set_option linter.unusedSimpArgs false
namespace Go.Proofs.YtdncpihaeobaeaaGreat
open Go.RowKit
theorem sinks_after (k : SetQ) (l : List ActM) : ((newCo (suOf k)).after l).s.sinks = sksOf k := by
  rw [(after_s l (newCo (suOf k))).1]
  rfl
set_option maxHeartbeats 16000000 in
set_option maxRecDepth 20000 in
theorem CoreAlone_any (w : World) (cs : Array Value) (k : SetQ) (hk : isStq w cs.toList k) (al : Option Addr) (cap : Nat) (l : List ActQR) (hle : l.length ≤ cap) (hmx : cap ≤ maxLen) (hnil : al = none → cap = 0) (hl : SlAt 15 isAq w al l) (bl : Option Addr) (cap2 : Nat) (l2 : List ActQR) (hle2 : l2.length ≤ cap2) (hmx2 : cap2 ≤ maxLen) (hnil2 : bl = none → cap2 = 0) (hl2 : SlAt 15 isAq w bl l2) (tn : Int) (htn : (Lit.int .i64 tn).wf = true) :
    Calls Tryz.prog 5 #[.agg cs, .slice al l.length cap, .slice bl l2.length cap2, .int .i64 tn] w fun e w' => e = .returned (.bool true) ∧ Below w.heap.size w w' := by
  obtain ⟨ka, kc, hcs, hks, hkw, hkl⟩ := hk
  obtain rfl : cs = #[.int .i64 k.budget, .int .i64 k.room, .int .i64 k.quota, .slice ka k.sinks.length kc] := by
    obtain ⟨cl⟩ := cs
    dsimp only at hcs
    rw [hcs]
  clear hcs
  have hrc := i64_range htn
  obtain ⟨hla, hlq⟩ := hl.aq
  have hlm : l.length ≤ maxLen := by omega
  have HLA := Lib.hid hla
  have HAT : RowKit.Hid (∀ R : HP, ∀ x ∈ l, Seen w R 1 (intC .i64) x.oa x.p.ops ∧ Seen w R 1 (intC .i64) x.na x.p.ns ∧ x.q.wf) := Lib.hid (fun R x hx => ⟨Seen.old (hlq x hx).1, Seen.old (hlq x hx).2.1, (hlq x hx).2.2⟩)
  clear hla hlq hl hnil hle hmx
  obtain ⟨hla2, hlq2⟩ := hl2.aq
  have hlm2 : l2.length ≤ maxLen := by omega
  have HLA2 := Lib.hid hla2
  have HAT2 : RowKit.Hid (∀ R : HP, ∀ x ∈ l2, Seen w R 1 (intC .i64) x.oa x.p.ops ∧ Seen w R 1 (intC .i64) x.na x.p.ns ∧ x.q.wf) := Lib.hid (fun R x hx => ⟨Seen.old (hlq2 x hx).1, Seen.old (hlq2 x hx).2.1, (hlq2 x hx).2.2⟩)
  clear hla2 hlq2 hl2 hnil2 hle2 hmx2
  have h0 : St w (w.alloc (.cells #[.int .i64 k.budget, .int .i64 k.room, .int .i64 k.quota, .slice ka k.sinks.length kc] 24)) [pt w.heap.size (.cells #[.int .i64 k.budget, .int .i64 k.room, .int .i64 k.quota, .slice ka k.sinks.length kc] 24 (0, 0))] := (St.start w).alloc (.cells #[.int .i64 k.budget, .int .i64 k.room, .int .i64 k.quota, .slice ka k.sinks.length kc] 24)
  have hse := setup_st h0 k ka kc (Seen.old hks) hkw hkl (sksOf k) rfl
  have k0 := (blkCells (h0.blk 0 rfl).1).1
  have k1 := (k0 0).trans rfl
  have k2 := (k0 1).trans rfl
  have k3 := (k0 2).trans rfl
  have k4 := (k0 3).trans rfl
  have HSE := Lib.hid hse
  have hsl := sksOf_len k
  have HSW := Lib.hid (sksOf_wf k)
  clear h0 hse k0 hks hkw hkl
  clear htn
  go_enter Tryz.func5, Tryz.ntmps5
  go_upto_region 2 with (go_at_call 10; (with_reducible refine HSE.out.mono ?_); rintro e w1 ⟨na, nc, rfl, h1⟩; have H1 := Lib.hid (h1.alloc (.cells #[.int .i64 (within k.budget 1 4), .int .i64 (within k.room 1 8), .int .i64 (within k.quota 0 30), .slice na (sksOf k).length nc] 28)); clear h1 HSE)
  refine wp_at H1.out ?_
  intro w3 h3
  generalize w1.heap.size = g at *
  have h3 : St w w3 [pt w.heap.size (.cells #[.int .i64 k.budget, .int .i64 k.room, .int .i64 k.quota, .slice ka k.sinks.length kc] 24 (0, 0)), ownP 113 5 Sk.cells (.slice na (sksOf k).length nc) (sksOf k), pt g (.cells #[.int .i64 (within k.budget 1 4), .int .i64 (within k.room 1 8), .int .i64 (within k.quota 0 30), .slice na (sksOf k).length nc] 28 (0, 0))] := h3
  have HAC := Lib.hid (acts_st h3 al cap l (Seen.old HLA.out) (HAT.out _) hlm)
  clear H1 h3
  obtain ⟨t, ht, ht8⟩ : ∃ t : Nat, within tn 0 3 = t ∧ t < 8 := ⟨(within tn 0 3).toNat, by have := within_range tn 0 3 (by omega); omega, by have := within_range tn 0 3 (by omega); omega⟩
  have hwi := fun w' => Within_at tn 0 3 w' hrc.1 hrc.2 (by omega) (by omega) (by omega)
  rw [ht] at hwi
  have HWI := Lib.hid hwi
  clear hwi ht
  go_upto_region 4 with (first
    | (go_at_call 11; (with_reducible refine (HWI.out _).mono ?_); rintro e wz ⟨rfl, hwz⟩; subst hwz)
    | (go_at_call 12; (with_reducible refine HWO.out.mono ?_); rintro e w6 ⟨vx, vy, rfl, h6⟩; obtain ⟨xa, xc, rfl, hxc, _⟩ := h6.sl ActR.len 7 rfl; obtain ⟨ya, yc, rfl, hyc, _⟩ := h6.sl ActR.len 8 rfl; have h6 : St w w6 [pt w.heap.size (.cells #[.int .i64 k.budget, .int .i64 k.room, .int .i64 k.quota, .slice ka k.sinks.length kc] 24 (0, 0)), ownP 113 5 Sk.cells (.slice na (sksOf k).length nc) (sksOf k), pt g (.cells #[.int .i64 (within k.budget 1 4), .int .i64 (within k.room 1 8), .int .i64 (within k.quota 0 30), .slice na (sksOf k).length nc] 28 (0, 0)), ownP 67 15 ActR.cells (.slice aa us.length ac) us, poolP actP us, ownP 67 15 ActR.cells (.slice ba ms.length bc) ms, poolP actP ms, ownP 67 15 ActR.cells (.slice xa X.length xc) X, ownP 67 15 ActR.cells (.slice ya Y.length yc) Y] := h6; have H6 := Lib.hid h6; clear h6 HWO)
    | (go_at_call 13; (with_reducible refine HA2.out.mono ?_); rintro e w5 ⟨vb, ms, rfl, hms, h5⟩; obtain ⟨ba, bc, rfl, hbc, _⟩ := h5.sl ActR.len 5 rfl; have hul := vals_len HUS.out; have hml := vals_len hms; have hwo := woven_st h5 aa ac us.length us (Seen.own ActR.len 3 rfl) ba bc ms.length ms (Seen.own ActR.len 5 rfl) (t : Int) rfl rfl (by omega) (by omega); have hfx := wv_all us ms (t : Int) true; have HOU := Lib.hid (vals_ok HUS.out); have HOM := Lib.hid (vals_ok hms); have hxy := alone_same (suOf k) us ms t ht8; have hxl := wv_len us ms (t : Int) true; obtain ⟨X, hX⟩ : ∃ X, (wvK us ms (t : Int) true).1 = X := ⟨_, rfl⟩; obtain ⟨Y, hY⟩ : ∃ Y, (wvK us ms (t : Int) true).2.1 = Y := ⟨_, rfl⟩; rw [hX, hY] at hwo hfx hxy hxl; have HWO := Lib.hid hwo; have HFX := Lib.hid hfx; have HXY := Lib.hid hxy; have HXL : RowKit.Hid (X.length ≤ 40 ∧ Y.length ≤ 80) := Lib.hid (by omega); clear hwo hfx hxy hxl hX hY h5 hul hml HA2 HUS)
    | (go_at_call 13; (with_reducible refine HAC.out.mono ?_); rintro e w4 ⟨va, us, rfl, hus, h4⟩; obtain ⟨aa, ac, rfl, hac, _⟩ := h4.sl ActR.len 3 rfl; have HUS := Lib.hid hus; have HA2 := Lib.hid (acts_st h4 bl cap2 l2 (Seen.old HLA2.out) (HAT2.out _) hlm2); clear h4 hus HAC))
  have S0 : ((w6).cell? ⟨g, 0, none⟩ = some (.int .i64 (within k.budget 1 4)) ∧ (w6).cell? ⟨g, 1, none⟩ = some (.int .i64 (within k.room 1 8)) ∧ (w6).cell? ⟨g, 2, none⟩ = some (.int .i64 (within k.quota 0 30)) ∧ (w6).cell? ⟨g, 3, none⟩ = some (.slice na (sksOf k).length nc)) := (by obtain ⟨zz, _⟩ := blkCells (H6.out.blk 2 rfl).1; exact ⟨(zz 0).trans rfl, (zz 1).trans rfl, (zz 2).trans rfl, (zz 3).trans rfl⟩)
  have S1 : ((w6.drew).cell? ⟨g, 0, none⟩ = some (.int .i64 (within k.budget 1 4)) ∧ (w6.drew).cell? ⟨g, 1, none⟩ = some (.int .i64 (within k.room 1 8)) ∧ (w6.drew).cell? ⟨g, 2, none⟩ = some (.int .i64 (within k.quota 0 30)) ∧ (w6.drew).cell? ⟨g, 3, none⟩ = some (.slice na (sksOf k).length nc)) := (by obtain ⟨zz, _⟩ := blkCells (H6.out.drew.blk 2 rfl).1; exact ⟨(zz 0).trans rfl, (zz 1).trans rfl, (zz 2).trans rfl, (zz 3).trans rfl⟩)
  have hna := coreNew_st H6.out.drew (suOf k) na nc (H6.out.drew.slOf Sk.len 1 rfl) (sk_nil H6.out 1 rfl) (suOf_right k) HSW.out
  have hna : Calls Tryz.prog 14 #[.agg #[.int .i64 (within k.budget 1 4), .int .i64 (within k.room 1 8), .int .i64 (within k.quota 0 30), .slice na (sksOf k).length nc]] w6.drew _ := hna
  have HNA := Lib.hid hna
  clear hna
  go_cut [13, 14] from 32 to 35 (fun u v wx => ∃ ca cb ma mc ma' mc', u = .pointer (some ⟨ca, 0, none⟩) ∧ v = .pointer (some ⟨cb, 0, none⟩) ∧ St w wx [pt w.heap.size (.cells #[.int .i64 k.budget, .int .i64 k.room, .int .i64 k.quota, .slice ka k.sinks.length kc] 24 (0, 0)), ownP 113 5 Sk.cells (.slice na (sksOf k).length nc) (sksOf k), pt g (.cells #[.int .i64 (within k.budget 1 4), .int .i64 (within k.room 1 8), .int .i64 (within k.quota 0 30), .slice na (sksOf k).length nc] 28 (0, 0)), ownP 67 15 ActR.cells (.slice aa us.length ac) us, poolP actP us, ownP 67 15 ActR.cells (.slice ba ms.length bc) ms, poolP actP ms, ownP 67 15 ActR.cells (.slice xa X.length xc) X, ownP 67 15 ActR.cells (.slice ya Y.length yc) Y, coP ca ma mc (newCo (suOf k)) 0, ownP 113 5 Sk.cells (.slice ma (sksOf k).length mc) (sksOf k), coP cb ma' mc' (newCo (suOf k)) 0, ownP 113 5 Sk.cells (.slice ma' (sksOf k).length mc') (sksOf k)])
  case first =>
    go_region_held3 (fun w' => ((w').cell? ⟨g, 0, none⟩ = some (.int .i64 (within k.budget 1 4)) ∧ (w').cell? ⟨g, 1, none⟩ = some (.int .i64 (within k.room 1 8)) ∧ (w').cell? ⟨g, 2, none⟩ = some (.int .i64 (within k.quota 0 30)) ∧ (w').cell? ⟨g, 3, none⟩ = some (.slice na (sksOf k).length nc))) (first | (with_reducible exact S0) | (with_reducible exact S1) | (with_reducible exact S2) | (with_reducible exact S3))
      (first
        | (go_at_call 14; (with_reducible refine HNB.out.mono ?_); rintro e wn2 ⟨cb, ma', mc', rfl, h6⟩; have S3 : ((wn2).cell? ⟨g, 0, none⟩ = some (.int .i64 (within k.budget 1 4)) ∧ (wn2).cell? ⟨g, 1, none⟩ = some (.int .i64 (within k.room 1 8)) ∧ (wn2).cell? ⟨g, 2, none⟩ = some (.int .i64 (within k.quota 0 30)) ∧ (wn2).cell? ⟨g, 3, none⟩ = some (.slice na (sksOf k).length nc)) := (by obtain ⟨zz, _⟩ := blkCells (h6.blk 2 rfl).1; exact ⟨(zz 0).trans rfl, (zz 1).trans rfl, (zz 2).trans rfl, (zz 3).trans rfl⟩); have HN2 := Lib.hid h6; clear h6 HNB)
        | (go_at_call 14; (with_reducible refine HNA.out.mono ?_); rintro e wn1 ⟨ca, ma, mc, rfl, h5⟩; have S2 : ((wn1).cell? ⟨g, 0, none⟩ = some (.int .i64 (within k.budget 1 4)) ∧ (wn1).cell? ⟨g, 1, none⟩ = some (.int .i64 (within k.room 1 8)) ∧ (wn1).cell? ⟨g, 2, none⟩ = some (.int .i64 (within k.quota 0 30)) ∧ (wn1).cell? ⟨g, 3, none⟩ = some (.slice na (sksOf k).length nc)) := (by obtain ⟨zz, _⟩ := blkCells (h5.blk 2 rfl).1; exact ⟨(zz 0).trans rfl, (zz 1).trans rfl, (zz 2).trans rfl, (zz 3).trans rfl⟩); have hnb := coreNew_st h5 (suOf k) na nc (h5.slOf Sk.len 1 rfl) (sk_nil h5 1 rfl) (suOf_right k) HSW.out; have hnb : Calls Tryz.prog 14 #[.agg #[.int .i64 (within k.budget 1 4), .int .i64 (within k.room 1 8), .int .i64 (within k.quota 0 30), .slice na (sksOf k).length nc]] wn1 _ := hnb; have HNB := Lib.hid hnb; clear hnb h5 HNA))
    all_goals
      go_wp2
      go_meet
      exact ⟨ca, cb, ma, mc, ma', mc', rfl, rfl, HN2.out⟩
  case rest =>
    obtain ⟨ca, cb, ma, mc, ma', mc', rfl, rfl, h⟩ := hcut
    have HD1 := Lib.hid (doAll_in (h.front 9 rfl) (Seen.own Sk.len 10 rfl) (sk_nil h 10 rfl) X xa xc (Seen.own ActR.len 7 rfl) ((acts_ok h 4 rfl HOU.out _ 4 rfl).made (acts_ok h 6 rfl HOM.out _ 6 rfl) HFX.out.1) (by have := HXL.out; omega))
    clear h H6
    go_upto_region 10 with (first
      | (go_at_call 16; (with_reducible refine HD2.out.mono ?_); rintro e wq ⟨vq, qs, rfl, hqs, hq⟩; obtain ⟨qa, qc, rfl, hqc, _⟩ := hq.sl AnsR.len 2 rfl; have hql : qs.length = Y.length := (by have := congrArg List.length hqs; rw [List.length_map, ans_len, List.length_map] at this; exact this); rw [hql] at hq hqc ⊢; have HQL := Lib.hid hql; have HQS := Lib.hid hqs; have hq := hq.back (n := 11) (by simp); have HQ := Lib.hid hq; clear hq hqs hql HD2)
      | (go_at_call 16; (with_reducible refine HD1.out.mono ?_); rintro e wp ⟨vp, ps, rfl, hps, hp⟩; obtain ⟨pa, pc, rfl, hpc, _⟩ := hp.sl AnsR.len 2 rfl; have hpl : ps.length = X.length := (by have := congrArg List.length hps; rw [List.length_map, ans_len, List.length_map] at this; exact this); rw [hpl] at hp hpc ⊢; have HPL := Lib.hid hpl; have HPS := Lib.hid hps; have hp := hp.back (n := 9) (by simp); have HD2 := Lib.hid (doAll_in (hp.front 11 rfl) (Seen.own Sk.len 12 rfl) (sk_nil hp 12 rfl) Y ya yc (Seen.own ActR.len 8 rfl) ((acts_ok hp 4 rfl HOU.out _ 4 rfl).made (acts_ok hp 6 rfl HOM.out _ 6 rfl) HFX.out.2) (by have := HXL.out; omega)); clear hp hps hpl HD1))
    obtain ⟨U, hU⟩ : ∃ U, ownA (fun a : ActR => ansB (t : Int) a.val) X ps = U := ⟨_, rfl⟩
    obtain ⟨V, hV⟩ : ∃ V, ownA (fun a : ActR => ansB (t : Int) a.val) Y qs = V := ⟨_, rfl⟩
    have huv : U.map AnsR.val = V.map AnsR.val := by
      rw [← hU, ← hV, ownA_map ActR.val AnsR.val (ansB (t : Int)), ownA_map ActR.val AnsR.val (ansB (t : Int)), HPS.out, HQS.out]
      exact HXY.out
    have hvl : V.length = U.length := by have := congrArg List.length huv; rw [List.length_map, List.length_map] at this; omega
    have hul : U.length ≤ 1000 := by
      have := ownA_len (fun a : ActR => ansB (t : Int) a.val) X ps
      rw [hU, HPL.out] at this
      have := HXL.out
      omega
    have hsu : ∀ x ∈ U, x ∈ ps := by rw [← hU]; exact ownA_sub _ _ _
    have hsv : ∀ x ∈ V, x ∈ qs := by rw [← hV]; exact ownA_sub _ _ _
    have hfp : ∀ x ∈ ps.map AnsR.val, x.rows.length ≤ 32 ∧ x.told.length ≤ 32 := by rw [HPS.out]; exact ans_few _ _
    have hfq : ∀ x ∈ qs.map AnsR.val, x.rows.length ≤ 32 ∧ x.told.length ≤ 32 := by rw [HQS.out]; exact ans_few _ _
    have ho1 := ownW_st HQ.out xa xc X (Seen.own ActR.len 7 rfl) pa pc X.length ps (Seen.own AnsR.len 13 rfl) (t : Int) rfl HPL.out (by have := HXL.out; omega)
    rw [hU] at ho1
    have HU2 := Lib.hid hV
    have HO1 := Lib.hid ho1
    have HUV := Lib.hid huv
    have HVL := Lib.hid hvl
    have HUL := Lib.hid hul
    have HSU := Lib.hid hsu
    have HSV := Lib.hid hsv
    have HFP := Lib.hid hfp
    have HFQ := Lib.hid hfq
    clear ho1 hU hV huv hvl hul hsu hsv hfp hfq HXY HPS HQS
    go_wp2_with (first
      | (go_at_call 28; (with_reducible refine HO2.out.mono ?_); rintro e wv ⟨vv, rfl, hv⟩; obtain ⟨va, vc, rfl, hvc, _⟩ := hv.sl AnsR.len 18 rfl; rw [HVL.out] at hv hvc ⊢; have HAN := Lib.hid (answers_yes U V U.length ua va uc vc wv HUV.out rfl HVL.out (hv.slOf AnsR.len 17 rfl) (hv.slOf AnsR.len 18 rfl) (fun x hx => hv.ansAt 14 rfl HFP.out x (HSU.out x hx)) (fun x hx => hv.ansAt 16 rfl HFQ.out x (HSV.out x hx)) (by have := HUL.out; omega) huc hvc); have HV := Lib.hid hv; clear hv hvc huc HO2)
      | (go_at_call 28; (with_reducible refine HO1.out.mono ?_); rintro e wu ⟨vu, rfl, hu⟩; obtain ⟨ua, uc, rfl, huc, _⟩ := hu.sl AnsR.len 17 rfl; have ho2 := ownW_st hu ya yc Y (Seen.own ActR.len 8 rfl) qa qc Y.length qs (Seen.own AnsR.len 15 rfl) (t : Int) rfl HQL.out (by have := HXL.out; omega); rw [HU2.out] at ho2; have HO2 := Lib.hid ho2; clear hu ho2 HO1)
      | (go_at_call 25; (with_reducible refine HAN.out.mono ?_); rintro e wg ⟨rfl, hbg⟩; have hg := HV.out.kept hbg; have HCR := Lib.hid (CoreRuns_any wg); have HG := Lib.hid hg; clear hg hbg HAN)
      | (go_at_call 27; (with_reducible refine HCR.out.mono ?_); rintro e w8 ⟨rfl, hb8⟩; have H9 := Lib.hid (HG.out.kept hb8); clear hb8 HCR HG))
    go_ret
    exact ⟨rfl, H9.out.below⟩
end Go.Proofs.YtdncpihaeobaeaaGreat
