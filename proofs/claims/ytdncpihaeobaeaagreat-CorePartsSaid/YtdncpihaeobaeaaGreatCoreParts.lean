/- The walk of CoreParts (begun). -/
import Derived.Test.YtdncpihaeobaeaaGreatSetLaw
import Derived.Test.YtdncpihaeobaeaaGreatActs
import Derived.Test.YtdncpihaeobaeaaGreatSameAct
import Derived.Test.YtdncpihaeobaeaaGreatDoLit
set_option linter.unusedVariables false
set_option linter.unusedSimpArgs false
namespace Go.Proofs.YtdncpihaeobaeaaGreat
open Go.RowKit
theorem sinks_after (k : SetQ) (l : List ActM) : ((newCo (suOf k)).after l).s.sinks = sksOf k := by
  rw [(after_s l (newCo (suOf k))).1]
  rfl
set_option maxHeartbeats 16000000 in
set_option maxRecDepth 20000 in
theorem CoreParts_any (w : World) (cs : Array Value) (k : SetQ) (hk : isStq w cs.toList k) (al : Option Addr) (cap : Nat) (l : List ActQR) (hle : l.length ≤ cap) (hmx : cap ≤ maxLen) (hnil : al = none → cap = 0) (hl : SlAt 15 isAq w al l) (cut : Int) (hcu : (Lit.int .i64 cut).wf = true) :
    Calls Tryz.prog 4 #[.agg cs, .slice al l.length cap, .int .i64 cut] w fun e w' => e = .returned (.bool true) ∧ Below w.heap.size w w' := by
  obtain ⟨ka, kc, hcs, hks, hkw, hkl⟩ := hk
  obtain rfl : cs = #[.int .i64 k.budget, .int .i64 k.room, .int .i64 k.quota, .slice ka k.sinks.length kc] := by
    obtain ⟨cl⟩ := cs
    dsimp only at hcs
    rw [hcs]
  clear hcs
  have hrc := i64_range hcu
  obtain ⟨hla, hlq⟩ := hl.aq
  have hlm : l.length ≤ maxLen := by omega
  have hat : ∀ R : HP, ∀ x ∈ l, Seen w R 1 (intC .i64) x.oa x.p.ops ∧ Seen w R 1 (intC .i64) x.na x.p.ns ∧ x.q.wf := fun R x hx => ⟨Seen.old (hlq x hx).1, Seen.old (hlq x hx).2.1, (hlq x hx).2.2⟩
  have HLA := Lib.hid hla
  have HAT := Lib.hid hat
  have h0 : St w (w.alloc (.cells #[.int .i64 k.budget, .int .i64 k.room, .int .i64 k.quota, .slice ka k.sinks.length kc] 24)) [pt w.heap.size (.cells #[.int .i64 k.budget, .int .i64 k.room, .int .i64 k.quota, .slice ka k.sinks.length kc] 24 (0, 0))] := (St.start w).alloc (.cells #[.int .i64 k.budget, .int .i64 k.room, .int .i64 k.quota, .slice ka k.sinks.length kc] 24)
  have hse := setup_st h0 k ka kc (Seen.old hks) hkw hkl (sksOf k) rfl
  have k0 := (blkCells (h0.blk 0 rfl).1).1
  have k1 := (k0 0).trans rfl
  have k2 := (k0 1).trans rfl
  have k3 := (k0 2).trans rfl
  have k4 := (k0 3).trans rfl
  have HSE := Lib.hid hse
  have hsl := sksOf_len k
  have HSW := Lib.hid (sksOf_wf k)
  clear h0 hse k0 hks hkw hkl hcu hl hla hlq hat hnil hle hmx
  go_enter Tryz.func4, Tryz.ntmps4
  go_upto_region 2 with (go_at_call 10; (with_reducible refine HSE.out.mono ?_); rintro e w1 ⟨na, nc, rfl, h1⟩; have H1 := Lib.hid (h1.alloc (.cells #[.int .i64 (within k.budget 1 4), .int .i64 (within k.room 1 8), .int .i64 (within k.quota 0 30), .slice na (sksOf k).length nc] 28)); clear h1 HSE)
  refine wp_at H1.out ?_
  intro w3 h3
  generalize w1.heap.size = g at *
  have h3 : St w w3 [pt w.heap.size (.cells #[.int .i64 k.budget, .int .i64 k.room, .int .i64 k.quota, .slice ka k.sinks.length kc] 24 (0, 0)), ownP 113 5 Sk.cells (.slice na (sksOf k).length nc) (sksOf k), pt g (.cells #[.int .i64 (within k.budget 1 4), .int .i64 (within k.room 1 8), .int .i64 (within k.quota 0 30), .slice na (sksOf k).length nc] 28 (0, 0))] := h3
  have HAC := Lib.hid (acts_st h3 al cap l (Seen.old HLA.out) (HAT.out _) hlm)
  clear H1 h3
  go_upto_region 3 with (go_at_call 13; (with_reducible refine HAC.out.mono ?_); rintro e w4 ⟨va, us, rfl, hus, h4⟩; obtain ⟨aa, ac, rfl, hac, _, hna, _⟩ := h4.sl ActR.len 3 rfl; have h4 : St w w4 [pt w.heap.size (.cells #[.int .i64 k.budget, .int .i64 k.room, .int .i64 k.quota, .slice ka k.sinks.length kc] 24 (0, 0)), ownP 113 5 Sk.cells (.slice na (sksOf k).length nc) (sksOf k), pt g (.cells #[.int .i64 (within k.budget 1 4), .int .i64 (within k.room 1 8), .int .i64 (within k.quota 0 30), .slice na (sksOf k).length nc] 28 (0, 0)), ownP 67 15 ActR.cells (.slice aa us.length ac) us, poolP actP us] := h4; have H4 := Lib.hid h4; have HUS := Lib.hid hus; clear h4 hus HAC)
  obtain ⟨c, hc, hcl⟩ : ∃ c : Nat, within cut 0 us.length = c ∧ c ≤ us.length := ⟨(within cut 0 us.length).toNat, by have := within_range cut 0 us.length (by omega); omega, by have := within_range cut 0 us.length (by omega); omega⟩
  have hul := vals_len HUS.out
  have hwi := fun w' => Within_at cut 0 us.length w' hrc.1 hrc.2 (by omega) (by omega) (by omega)
  rw [hc] at hwi
  have HWI := Lib.hid hwi
  clear hwi hc
  go_upto_region 4 with (go_at_call 11; (with_reducible refine (HWI.out _).mono ?_); rintro e wz ⟨rfl, hwz⟩; subst hwz)
  have S0 : ((w4).cell? ⟨g, 0, none⟩ = some (.int .i64 (within k.budget 1 4)) ∧ (w4).cell? ⟨g, 1, none⟩ = some (.int .i64 (within k.room 1 8)) ∧ (w4).cell? ⟨g, 2, none⟩ = some (.int .i64 (within k.quota 0 30)) ∧ (w4).cell? ⟨g, 3, none⟩ = some (.slice na (sksOf k).length nc)) := (by obtain ⟨zz, _⟩ := blkCells (H4.out.blk 2 rfl).1; exact ⟨(zz 0).trans rfl, (zz 1).trans rfl, (zz 2).trans rfl, (zz 3).trans rfl⟩)
  have S1 : ((w4.drew).cell? ⟨g, 0, none⟩ = some (.int .i64 (within k.budget 1 4)) ∧ (w4.drew).cell? ⟨g, 1, none⟩ = some (.int .i64 (within k.room 1 8)) ∧ (w4.drew).cell? ⟨g, 2, none⟩ = some (.int .i64 (within k.quota 0 30)) ∧ (w4.drew).cell? ⟨g, 3, none⟩ = some (.slice na (sksOf k).length nc)) := (by obtain ⟨zz, _⟩ := blkCells (H4.out.drew.blk 2 rfl).1; exact ⟨(zz 0).trans rfl, (zz 1).trans rfl, (zz 2).trans rfl, (zz 3).trans rfl⟩)
  have hna := coreNew_st H4.out.drew (suOf k) na nc (H4.out.drew.slOf Sk.len 1 rfl) (sk_nil H4.out 1 rfl) (suOf_right k) HSW.out
  have hna : Calls Tryz.prog 14 #[.agg #[.int .i64 (within k.budget 1 4), .int .i64 (within k.room 1 8), .int .i64 (within k.quota 0 30), .slice na (sksOf k).length nc]] w4.drew _ := hna
  have HNA := Lib.hid hna
  clear hna
  go_cut [10, 11] from 24 to 27 (fun u v wx => ∃ ca cb ma mc ma' mc', u = .pointer (some ⟨ca, 0, none⟩) ∧ v = .pointer (some ⟨cb, 0, none⟩) ∧ St w wx [pt w.heap.size (.cells #[.int .i64 k.budget, .int .i64 k.room, .int .i64 k.quota, .slice ka k.sinks.length kc] 24 (0, 0)), ownP 113 5 Sk.cells (.slice na (sksOf k).length nc) (sksOf k), pt g (.cells #[.int .i64 (within k.budget 1 4), .int .i64 (within k.room 1 8), .int .i64 (within k.quota 0 30), .slice na (sksOf k).length nc] 28 (0, 0)), ownP 67 15 ActR.cells (.slice aa us.length ac) us, poolP actP us, coP ca ma mc (newCo (suOf k)) 0, ownP 113 5 Sk.cells (.slice ma (sksOf k).length mc) (sksOf k), coP cb ma' mc' (newCo (suOf k)) 0, ownP 113 5 Sk.cells (.slice ma' (sksOf k).length mc') (sksOf k)])
  case first =>
    go_region_held3 (fun w' => ((w').cell? ⟨g, 0, none⟩ = some (.int .i64 (within k.budget 1 4)) ∧ (w').cell? ⟨g, 1, none⟩ = some (.int .i64 (within k.room 1 8)) ∧ (w').cell? ⟨g, 2, none⟩ = some (.int .i64 (within k.quota 0 30)) ∧ (w').cell? ⟨g, 3, none⟩ = some (.slice na (sksOf k).length nc))) (first | (with_reducible exact S0) | (with_reducible exact S1) | (with_reducible exact S2) | (with_reducible exact S3))
      (first
        | (go_at_call 14; (with_reducible refine HNB.out.mono ?_); rintro e w6 ⟨cb, ma', mc', rfl, h6⟩; have S3 : ((w6).cell? ⟨g, 0, none⟩ = some (.int .i64 (within k.budget 1 4)) ∧ (w6).cell? ⟨g, 1, none⟩ = some (.int .i64 (within k.room 1 8)) ∧ (w6).cell? ⟨g, 2, none⟩ = some (.int .i64 (within k.quota 0 30)) ∧ (w6).cell? ⟨g, 3, none⟩ = some (.slice na (sksOf k).length nc)) := (by obtain ⟨zz, _⟩ := blkCells (h6.blk 2 rfl).1; exact ⟨(zz 0).trans rfl, (zz 1).trans rfl, (zz 2).trans rfl, (zz 3).trans rfl⟩); have H6 := Lib.hid h6; clear h6 HNB)
        | (go_at_call 14; (with_reducible refine HNA.out.mono ?_); rintro e w5 ⟨ca, ma, mc, rfl, h5⟩; have S2 : ((w5).cell? ⟨g, 0, none⟩ = some (.int .i64 (within k.budget 1 4)) ∧ (w5).cell? ⟨g, 1, none⟩ = some (.int .i64 (within k.room 1 8)) ∧ (w5).cell? ⟨g, 2, none⟩ = some (.int .i64 (within k.quota 0 30)) ∧ (w5).cell? ⟨g, 3, none⟩ = some (.slice na (sksOf k).length nc)) := (by obtain ⟨zz, _⟩ := blkCells (h5.blk 2 rfl).1; exact ⟨(zz 0).trans rfl, (zz 1).trans rfl, (zz 2).trans rfl, (zz 3).trans rfl⟩); have hnb := coreNew_st h5 (suOf k) na nc (h5.slOf Sk.len 1 rfl) (sk_nil h5 1 rfl) (suOf_right k) HSW.out; have hnb : Calls Tryz.prog 14 #[.agg #[.int .i64 (within k.budget 1 4), .int .i64 (within k.room 1 8), .int .i64 (within k.quota 0 30), .slice na (sksOf k).length nc]] w5 _ := hnb; have HNB := Lib.hid hnb; clear hnb h5 HNA))
    all_goals
      go_wp2
      go_meet
      exact ⟨ca, cb, ma, mc, ma', mc', rfl, rfl, H6.out⟩
  case rest =>
    obtain ⟨ca, cb, ma, mc, ma', mc', rfl, rfl, h⟩ := hcut
    have hdo := doAll_in (h.front 5 rfl) (Seen.own Sk.len 6 rfl) (sk_nil h 6 rfl) us aa ac (Seen.own ActR.len 3 rfl) (acts_ok h 4 rfl (vals_ok HUS.out) _ 4 rfl) (by omega)
    have HDO := Lib.hid hdo
    clear h hdo
    go_upto_region 8 with (go_at_call 16; (with_reducible refine HDO.out.mono ?_); rintro e w7 ⟨v7, xs, rfl, hxs, h7⟩; obtain ⟨xa, xc, rfl, hxc, _⟩ := h7.sl AnsR.len 2 rfl; have H7 := Lib.hid (h7.back (n := 5) (by simp)); have HXS := Lib.hid hxs; clear h7 hxs HDO)
    have hca : ∀ (ys zs : List AnsR) (co : Co), ys.map AnsR.val = co.ans ((us.take c).map ActR.val) → zs.map AnsR.val = (co.after ((us.take c).map ActR.val)).ans ((us.drop c).map ActR.val) → (ys ++ zs).map AnsR.val = co.ans (us.map ActR.val) := by
      intro ys zs co h1 h2
      rw [List.map_append, h1, h2, ← ans_append, ← List.map_append, List.take_append_drop]
    have HCA := Lib.hid hca
    clear hca
    go_cut [13] from 37 to 49 (fun v wx => ∃ zs : List AnsR, zs.map AnsR.val = (newCo (suOf k)).ans (us.map ActR.val) ∧ St w wx [pt w.heap.size (.cells #[.int .i64 k.budget, .int .i64 k.room, .int .i64 k.quota, .slice ka k.sinks.length kc] 24 (0, 0)), ownP 113 5 Sk.cells (.slice na (sksOf k).length nc) (sksOf k), pt g (.cells #[.int .i64 (within k.budget 1 4), .int .i64 (within k.room 1 8), .int .i64 (within k.quota 0 30), .slice na (sksOf k).length nc] 28 (0, 0)), ownP 67 15 ActR.cells (.slice aa us.length ac) us, poolP actP us, coP ca ma mc ((newCo (suOf k)).after (us.map ActR.val)) (0 + 9 * us.length), ownP 113 5 Sk.cells (.slice ma (sksOf k).length mc) (sksOf k), coP cb ma' mc' (Co.after ((newCo (suOf k)).after ((us.take c).map ActR.val)) ((us.drop c).map ActR.val)) (0 + 9 * c + 9 * (us.length - c)), ownP 113 5 Sk.cells (.slice ma' (sksOf k).length mc') (sksOf k), ownP 51 3 AnsR.cells (.slice xa xs.length xc) xs, poolP ansP xs, ownP 51 3 AnsR.cells v zs, poolP ansP zs])
    case first =>
      obtain ⟨F, hF⟩ := H7.out.at 3 rfl
      rcases hF with ⟨hv, hnl⟩ | ⟨gg, cap4, cur4, hv, _⟩
      · have e1 : aa = none := by injection hv
        have e3 : ac = 0 := by injection hv
        subst hnl
        obtain rfl : c = 0 := by have := hcl; simp at this; omega
        subst e1 e3
        clear hv
        have hb0 : St w (w7.drew.alloc (.cells #[] 51)) [pt w.heap.size (.cells #[.int .i64 k.budget, .int .i64 k.room, .int .i64 k.quota, .slice ka k.sinks.length kc] 24 (0, 0)), ownP 113 5 Sk.cells (.slice na (sksOf k).length nc) (sksOf k), pt g (.cells #[.int .i64 (within k.budget 1 4), .int .i64 (within k.room 1 8), .int .i64 (within k.quota 0 30), .slice na (sksOf k).length nc] 28 (0, 0)), ownP 67 15 ActR.cells (.slice none ([] : List ActR).length 0) ([] : List ActR), poolP actP ([] : List ActR), coP ca ma mc ((newCo (suOf k)).after (([] : List ActR).map ActR.val)) (0 + 9 * ([] : List ActR).length), ownP 113 5 Sk.cells (.slice ma (sksOf k).length mc) (sksOf k), coP cb ma' mc' (newCo (suOf k)) 0, ownP 113 5 Sk.cells (.slice ma' (sksOf k).length mc') (sksOf k), ownP 51 3 AnsR.cells (.slice xa xs.length xc) xs, poolP ansP xs, pt w7.heap.size (.cells #[] 51 (0, 0))] := H7.out.drew.alloc (.cells #[] 51)
        have hc0 : St w ((w7.alloc (.cells #[] 51)).drew) [pt w.heap.size (.cells #[.int .i64 k.budget, .int .i64 k.room, .int .i64 k.quota, .slice ka k.sinks.length kc] 24 (0, 0)), ownP 113 5 Sk.cells (.slice na (sksOf k).length nc) (sksOf k), pt g (.cells #[.int .i64 (within k.budget 1 4), .int .i64 (within k.room 1 8), .int .i64 (within k.quota 0 30), .slice na (sksOf k).length nc] 28 (0, 0)), ownP 67 15 ActR.cells (.slice none ([] : List ActR).length 0) ([] : List ActR), poolP actP ([] : List ActR), coP ca ma mc ((newCo (suOf k)).after (([] : List ActR).map ActR.val)) (0 + 9 * ([] : List ActR).length), ownP 113 5 Sk.cells (.slice ma (sksOf k).length mc) (sksOf k), coP cb ma' mc' (newCo (suOf k)) 0, ownP 113 5 Sk.cells (.slice ma' (sksOf k).length mc') (sksOf k), ownP 51 3 AnsR.cells (.slice xa xs.length xc) xs, poolP ansP xs, pt w7.heap.size (.cells #[] 51 (0, 0))] := (H7.out.alloc (.cells #[] 51)).drew
        have hda := doAll_in (H7.out.drew.front 7 rfl) (Seen.own Sk.len 8 rfl) (sk_nil H7.out.drew 8 rfl) (([] : List ActR).take 0) none 0 ((Seen.own ActR.len 3 rfl).take 0) ((acts_ok H7.out.drew 4 rfl (vals_ok HUS.out) _ 4 rfl).sub fun a ha => List.mem_of_mem_take ha) (by rw [List.length_take]; omega)
        rw [List.length_take_of_le hcl] at hda
        have HDA := Lib.hid hda
        clear hda
        have hdb := doAll_in (hb0.front 7 rfl) (Seen.own Sk.len 8 rfl) (sk_nil hb0 8 rfl) (([] : List ActR).take 0) none 0 ((Seen.own ActR.len 3 rfl).take 0) ((acts_ok hb0 4 rfl (vals_ok HUS.out) _ 4 rfl).sub fun a ha => List.mem_of_mem_take ha) (by rw [List.length_take]; omega)
        rw [List.length_take_of_le hcl] at hdb
        have HDB := Lib.hid hdb
        clear hdb
        have hdc := doAll_in (hc0.front 7 rfl) (Seen.own Sk.len 8 rfl) (sk_nil hc0 8 rfl) (([] : List ActR).take 0) none 0 ((Seen.own ActR.len 3 rfl).take 0) ((acts_ok hc0 4 rfl (vals_ok HUS.out) _ 4 rfl).sub fun a ha => List.mem_of_mem_take ha) (by rw [List.length_take]; omega)
        rw [List.length_take_of_le hcl] at hdc
        have HDC := Lib.hid hdc
        clear hdc
        clear hb0 hc0
        go_region_held3 (fun _ => True) (trivial)
          (first
            | (go_at_call 16; (with_reducible refine HDA.out.mono ?_); rintro e w8 ⟨v8, ys, rfl, hys, h8⟩; obtain ⟨ya, yc, rfl, hyc, _, hyn, hya⟩ := h8.sl AnsR.len 2 rfl; have h8 := h8.back (n := 7) (by simp); have HYS := Lib.hid hys; have HYN := Lib.hid hyn; have HA1 := Lib.hid ((h8.alloc (.cells #[] 51)).imp 13 rfl (X' := ownP 51 3 AnsR.cells (.slice (some ⟨w8.heap.size, 0, none⟩) 0 0) ([] : List AnsR)) (fun f hp => ownP_empty hp)); clear h8 hys hyn hya)
            | (go_at_call 16; (with_reducible refine HDB.out.mono ?_); rintro e w8 ⟨v8, ys, rfl, hys, h8⟩; obtain ⟨ya, yc, rfl, hyc, _, hyn, hya⟩ := h8.sl AnsR.len 2 rfl; have h8 := h8.back (n := 7) (by simp); have HYS := Lib.hid hys; have HYN := Lib.hid hyn; have HA2 := Lib.hid (h8.imp 11 rfl (X' := ownP 51 3 AnsR.cells (.slice (some ⟨w7.heap.size, 0, none⟩) 0 0) ([] : List AnsR)) (fun f hp => ownP_empty hp)); clear h8 hys hyn hya)
            | (go_at_call 16; (with_reducible refine HDC.out.mono ?_); rintro e w8 ⟨v8, ys, rfl, hys, h8⟩; obtain ⟨ya, yc, rfl, hyc, _, hyn, hya⟩ := h8.sl AnsR.len 2 rfl; have h8 := h8.back (n := 7) (by simp); have HYS := Lib.hid hys; have HYN := Lib.hid hyn; have HA2 := Lib.hid (h8.imp 11 rfl (X' := ownP 51 3 AnsR.cells (.slice (some ⟨w7.heap.size, 0, none⟩) 0 0) ([] : List AnsR)) (fun f hp => ownP_empty hp)); clear h8 hys hyn hya)
            | (go_at_call 16; (with_reducible refine HD2.out.mono ?_); rintro e wa ⟨va2, zs, rfl, hzs, ha⟩; obtain ⟨za, zc, rfl, hzc, _, hzn, hza⟩ := ha.sl AnsR.len 2 rfl; have ha := ha.back (n := 7) (by simp); have HZS := Lib.hid hzs; have HZN := Lib.hid hzn; have HB := Lib.hid ha; clear ha hzs hzn hza HD2)
            | (refine step_append_st ansElem rfl HB.out 11 rfl _ _ rfl rfl za zc zs rfl HZN.out (HB.out.slOf AnsR.len 13 rfl) (by have h1 := congrArg List.length HYS.out; have h2 := congrArg List.length HZS.out; rw [List.length_map, ans_len, List.length_map, List.length_take] at h1; rw [List.length_map, ans_len, List.length_map, List.length_drop] at h2; rw [List.nil_append]; omega) ?_; intro vf wf hf _; have HF := Lib.hid ((hf.pick [0, 1, 2, 3, 4, 5, 6, 7, 8, 9, 10, 11, 12, 14] (by simp)).merge 12 13 (by decide) rfl rfl (Z := poolP ansP (ys ++ zs)) fun f s => poolP_two s); clear hf HB)
            | (refine step_append_st ansElem rfl HA1.out 13 rfl _ _ rfl rfl ya yc ys rfl HYN.out (HA1.out.slOf AnsR.len 11 rfl) (by have := congrArg List.length HYS.out; rw [List.length_map, ans_len, List.length_map, List.length_take] at this; show 0 + ys.length ≤ _; omega) ?_; intro v9 w9 h9 _; have h9 := h9.pick [0, 1, 2, 3, 4, 5, 6, 7, 8, 9, 10, 13, 12] (by simp); have hd2 := doAll_in (h9.front 7 rfl) (by rw [sinks_after]; exact Seen.own Sk.len 8 rfl) (sk_nil h9 8 rfl) (([] : List ActR).drop 0) none 0 (Seen.old (.inl rfl)) ((acts_ok h9 4 rfl (vals_ok HUS.out) _ 4 rfl).sub fun a ha => List.mem_of_mem_drop ha) (by rw [List.length_drop]; omega); have hd2 : Calls Tryz.prog 16 #[.pointer (some ⟨cb, 0, none⟩), .slice none 0 0] _ _ := hd2; have HD2 := Lib.hid hd2; clear h9 hd2)
            | (refine step_append_st ansElem rfl HA2.out 11 rfl _ _ rfl rfl ya yc ys rfl HYN.out (HA2.out.slOf AnsR.len 12 rfl) (by have := congrArg List.length HYS.out; rw [List.length_map, ans_len, List.length_map, List.length_take] at this; show 0 + ys.length ≤ _; omega) ?_; intro v9 w9 h9 _; have h9 := h9.pick [0, 1, 2, 3, 4, 5, 6, 7, 8, 9, 10, 11, 13] (by simp); have hd2 := doAll_in (h9.front 7 rfl) (by rw [sinks_after]; exact Seen.own Sk.len 8 rfl) (sk_nil h9 8 rfl) (([] : List ActR).drop 0) none 0 (Seen.old (.inl rfl)) ((acts_ok h9 4 rfl (vals_ok HUS.out) _ 4 rfl).sub fun a ha => List.mem_of_mem_drop ha) (by rw [List.length_drop]; omega); have hd2 : Calls Tryz.prog 16 #[.pointer (some ⟨cb, 0, none⟩), .slice none 0 0] _ _ := hd2; have HD2 := Lib.hid hd2; clear h9 hd2))
        all_goals
          go_wp2
          go_meet
          exact ⟨_, HCA.out _ _ _ HYS.out HZS.out, HF.out.pick [0, 1, 2, 3, 4, 5, 6, 7, 8, 9, 10, 11, 12] (by simp)⟩
      · cases hv
        have hse4 : ∀ K : List HP, K[3]? = some (ownP 67 15 ActR.cells (.slice (some ⟨gg, 0, none⟩) us.length ac) us) → Seen w (sepL K) 15 ActR.cells (some ⟨gg, c * 15, none⟩) (us.drop c) := fun K hK => by
          have := (Seen.own (w0 := w) ActR.len 3 hK).drop c
          rw [Nat.zero_add] at this
          exact this
        have hcac : (c : Int) ≤ ac := by omega
        have hcac2 : (c : Int) ≤ us.length := by omega
        by_cases hcc : ac = c
        · have hdr : us.drop c = [] := List.drop_of_length_le (by omega)
          have heq : (ac = c) = True := eq_true hcc
          clear hcc
          have hb0 : St w (w7.drew.alloc (.cells #[] 51)) [pt w.heap.size (.cells #[.int .i64 k.budget, .int .i64 k.room, .int .i64 k.quota, .slice ka k.sinks.length kc] 24 (0, 0)), ownP 113 5 Sk.cells (.slice na (sksOf k).length nc) (sksOf k), pt g (.cells #[.int .i64 (within k.budget 1 4), .int .i64 (within k.room 1 8), .int .i64 (within k.quota 0 30), .slice na (sksOf k).length nc] 28 (0, 0)), ownP 67 15 ActR.cells (.slice (some ⟨gg, 0, none⟩) us.length ac) us, poolP actP us, coP ca ma mc ((newCo (suOf k)).after (us.map ActR.val)) (0 + 9 * us.length), ownP 113 5 Sk.cells (.slice ma (sksOf k).length mc) (sksOf k), coP cb ma' mc' (newCo (suOf k)) 0, ownP 113 5 Sk.cells (.slice ma' (sksOf k).length mc') (sksOf k), ownP 51 3 AnsR.cells (.slice xa xs.length xc) xs, poolP ansP xs, pt w7.heap.size (.cells #[] 51 (0, 0))] := H7.out.drew.alloc (.cells #[] 51)
          have hc0 : St w ((w7.alloc (.cells #[] 51)).drew) [pt w.heap.size (.cells #[.int .i64 k.budget, .int .i64 k.room, .int .i64 k.quota, .slice ka k.sinks.length kc] 24 (0, 0)), ownP 113 5 Sk.cells (.slice na (sksOf k).length nc) (sksOf k), pt g (.cells #[.int .i64 (within k.budget 1 4), .int .i64 (within k.room 1 8), .int .i64 (within k.quota 0 30), .slice na (sksOf k).length nc] 28 (0, 0)), ownP 67 15 ActR.cells (.slice (some ⟨gg, 0, none⟩) us.length ac) us, poolP actP us, coP ca ma mc ((newCo (suOf k)).after (us.map ActR.val)) (0 + 9 * us.length), ownP 113 5 Sk.cells (.slice ma (sksOf k).length mc) (sksOf k), coP cb ma' mc' (newCo (suOf k)) 0, ownP 113 5 Sk.cells (.slice ma' (sksOf k).length mc') (sksOf k), ownP 51 3 AnsR.cells (.slice xa xs.length xc) xs, poolP ansP xs, pt w7.heap.size (.cells #[] 51 (0, 0))] := (H7.out.alloc (.cells #[] 51)).drew
          have hda := doAll_in (H7.out.drew.front 7 rfl) (Seen.own Sk.len 8 rfl) (sk_nil H7.out.drew 8 rfl) (us.take c) (some ⟨gg, 0, none⟩) ac ((Seen.own ActR.len 3 rfl).take c) ((acts_ok H7.out.drew 4 rfl (vals_ok HUS.out) _ 4 rfl).sub fun a ha => List.mem_of_mem_take ha) (by rw [List.length_take]; omega)
          rw [List.length_take_of_le hcl] at hda
          have HDA := Lib.hid hda
          clear hda
          have hdb := doAll_in (hb0.front 7 rfl) (Seen.own Sk.len 8 rfl) (sk_nil hb0 8 rfl) (us.take c) (some ⟨gg, 0, none⟩) ac ((Seen.own ActR.len 3 rfl).take c) ((acts_ok hb0 4 rfl (vals_ok HUS.out) _ 4 rfl).sub fun a ha => List.mem_of_mem_take ha) (by rw [List.length_take]; omega)
          rw [List.length_take_of_le hcl] at hdb
          have HDB := Lib.hid hdb
          clear hdb
          have hdc := doAll_in (hc0.front 7 rfl) (Seen.own Sk.len 8 rfl) (sk_nil hc0 8 rfl) (us.take c) (some ⟨gg, 0, none⟩) ac ((Seen.own ActR.len 3 rfl).take c) ((acts_ok hc0 4 rfl (vals_ok HUS.out) _ 4 rfl).sub fun a ha => List.mem_of_mem_take ha) (by rw [List.length_take]; omega)
          rw [List.length_take_of_le hcl] at hdc
          have HDC := Lib.hid hdc
          clear hdc
          clear hb0 hc0
          go_region_held3 (fun _ => True) (trivial)
            (first
              | (go_at_call 16; (with_reducible refine HDA.out.mono ?_); rintro e w8 ⟨v8, ys, rfl, hys, h8⟩; obtain ⟨ya, yc, rfl, hyc, _, hyn, hya⟩ := h8.sl AnsR.len 2 rfl; have h8 := h8.back (n := 7) (by simp); have HYS := Lib.hid hys; have HYN := Lib.hid hyn; have HA1 := Lib.hid ((h8.alloc (.cells #[] 51)).imp 13 rfl (X' := ownP 51 3 AnsR.cells (.slice (some ⟨w8.heap.size, 0, none⟩) 0 0) ([] : List AnsR)) (fun f hp => ownP_empty hp)); clear h8 hys hyn hya)
              | (go_at_call 16; (with_reducible refine HDB.out.mono ?_); rintro e w8 ⟨v8, ys, rfl, hys, h8⟩; obtain ⟨ya, yc, rfl, hyc, _, hyn, hya⟩ := h8.sl AnsR.len 2 rfl; have h8 := h8.back (n := 7) (by simp); have HYS := Lib.hid hys; have HYN := Lib.hid hyn; have HA2 := Lib.hid (h8.imp 11 rfl (X' := ownP 51 3 AnsR.cells (.slice (some ⟨w7.heap.size, 0, none⟩) 0 0) ([] : List AnsR)) (fun f hp => ownP_empty hp)); clear h8 hys hyn hya)
              | (go_at_call 16; (with_reducible refine HDC.out.mono ?_); rintro e w8 ⟨v8, ys, rfl, hys, h8⟩; obtain ⟨ya, yc, rfl, hyc, _, hyn, hya⟩ := h8.sl AnsR.len 2 rfl; have h8 := h8.back (n := 7) (by simp); have HYS := Lib.hid hys; have HYN := Lib.hid hyn; have HA2 := Lib.hid (h8.imp 11 rfl (X' := ownP 51 3 AnsR.cells (.slice (some ⟨w7.heap.size, 0, none⟩) 0 0) ([] : List AnsR)) (fun f hp => ownP_empty hp)); clear h8 hys hyn hya)
              | (go_at_call 16; (with_reducible refine HD2.out.mono ?_); rintro e wa ⟨va2, zs, rfl, hzs, ha⟩; obtain ⟨za, zc, rfl, hzc, _, hzn, hza⟩ := ha.sl AnsR.len 2 rfl; have ha := ha.back (n := 7) (by simp); have HZS := Lib.hid hzs; have HZN := Lib.hid hzn; have HB := Lib.hid ha; clear ha hzs hzn hza HD2)
              | (refine step_append_st ansElem rfl HB.out 11 rfl _ _ rfl rfl za zc zs rfl HZN.out (HB.out.slOf AnsR.len 13 rfl) (by have h1 := congrArg List.length HYS.out; have h2 := congrArg List.length HZS.out; rw [List.length_map, ans_len, List.length_map, List.length_take] at h1; rw [List.length_map, ans_len, List.length_map, List.length_drop] at h2; rw [List.nil_append]; omega) ?_; intro vf wf hf _; have HF := Lib.hid ((hf.pick [0, 1, 2, 3, 4, 5, 6, 7, 8, 9, 10, 11, 12, 14] (by simp)).merge 12 13 (by decide) rfl rfl (Z := poolP ansP (ys ++ zs)) fun f s => poolP_two s); clear hf HB)
              | (refine step_append_st ansElem rfl HA1.out 13 rfl _ _ rfl rfl ya yc ys rfl HYN.out (HA1.out.slOf AnsR.len 11 rfl) (by have := congrArg List.length HYS.out; rw [List.length_map, ans_len, List.length_map, List.length_take] at this; show 0 + ys.length ≤ _; omega) ?_; intro v9 w9 h9 _; have h9 := h9.pick [0, 1, 2, 3, 4, 5, 6, 7, 8, 9, 10, 13, 12] (by simp); have hd2 := doAll_in (h9.front 7 rfl) (by rw [sinks_after]; exact Seen.own Sk.len 8 rfl) (sk_nil h9 8 rfl) (us.drop c) (some ⟨gg, 0, none⟩) (ac - c) (Seen.old (.inl hdr)) ((acts_ok h9 4 rfl (vals_ok HUS.out) _ 4 rfl).sub fun a ha => List.mem_of_mem_drop ha) (by rw [List.length_drop]; omega); rw [List.length_drop] at hd2; have HD2 := Lib.hid hd2; clear h9 hd2)
              | (refine step_append_st ansElem rfl HA2.out 11 rfl _ _ rfl rfl ya yc ys rfl HYN.out (HA2.out.slOf AnsR.len 12 rfl) (by have := congrArg List.length HYS.out; rw [List.length_map, ans_len, List.length_map, List.length_take] at this; show 0 + ys.length ≤ _; omega) ?_; intro v9 w9 h9 _; have h9 := h9.pick [0, 1, 2, 3, 4, 5, 6, 7, 8, 9, 10, 11, 13] (by simp); have hd2 := doAll_in (h9.front 7 rfl) (by rw [sinks_after]; exact Seen.own Sk.len 8 rfl) (sk_nil h9 8 rfl) (us.drop c) (some ⟨gg, 0, none⟩) (ac - c) (Seen.old (.inl hdr)) ((acts_ok h9 4 rfl (vals_ok HUS.out) _ 4 rfl).sub fun a ha => List.mem_of_mem_drop ha) (by rw [List.length_drop]; omega); rw [List.length_drop] at hd2; have HD2 := Lib.hid hd2; clear h9 hd2))
          all_goals
            go_wp2
            go_meet
            exact ⟨_, HCA.out _ _ _ HYS.out HZS.out, HF.out.pick [0, 1, 2, 3, 4, 5, 6, 7, 8, 9, 10, 11, 12] (by simp)⟩
        · have hne : (ac = c) = False := eq_false hcc
          have hb0 : St w (w7.drew.alloc (.cells #[] 51)) [pt w.heap.size (.cells #[.int .i64 k.budget, .int .i64 k.room, .int .i64 k.quota, .slice ka k.sinks.length kc] 24 (0, 0)), ownP 113 5 Sk.cells (.slice na (sksOf k).length nc) (sksOf k), pt g (.cells #[.int .i64 (within k.budget 1 4), .int .i64 (within k.room 1 8), .int .i64 (within k.quota 0 30), .slice na (sksOf k).length nc] 28 (0, 0)), ownP 67 15 ActR.cells (.slice (some ⟨gg, 0, none⟩) us.length ac) us, poolP actP us, coP ca ma mc ((newCo (suOf k)).after (us.map ActR.val)) (0 + 9 * us.length), ownP 113 5 Sk.cells (.slice ma (sksOf k).length mc) (sksOf k), coP cb ma' mc' (newCo (suOf k)) 0, ownP 113 5 Sk.cells (.slice ma' (sksOf k).length mc') (sksOf k), ownP 51 3 AnsR.cells (.slice xa xs.length xc) xs, poolP ansP xs, pt w7.heap.size (.cells #[] 51 (0, 0))] := H7.out.drew.alloc (.cells #[] 51)
          have hc0 : St w ((w7.alloc (.cells #[] 51)).drew) [pt w.heap.size (.cells #[.int .i64 k.budget, .int .i64 k.room, .int .i64 k.quota, .slice ka k.sinks.length kc] 24 (0, 0)), ownP 113 5 Sk.cells (.slice na (sksOf k).length nc) (sksOf k), pt g (.cells #[.int .i64 (within k.budget 1 4), .int .i64 (within k.room 1 8), .int .i64 (within k.quota 0 30), .slice na (sksOf k).length nc] 28 (0, 0)), ownP 67 15 ActR.cells (.slice (some ⟨gg, 0, none⟩) us.length ac) us, poolP actP us, coP ca ma mc ((newCo (suOf k)).after (us.map ActR.val)) (0 + 9 * us.length), ownP 113 5 Sk.cells (.slice ma (sksOf k).length mc) (sksOf k), coP cb ma' mc' (newCo (suOf k)) 0, ownP 113 5 Sk.cells (.slice ma' (sksOf k).length mc') (sksOf k), ownP 51 3 AnsR.cells (.slice xa xs.length xc) xs, poolP ansP xs, pt w7.heap.size (.cells #[] 51 (0, 0))] := (H7.out.alloc (.cells #[] 51)).drew
          have hda := doAll_in (H7.out.drew.front 7 rfl) (Seen.own Sk.len 8 rfl) (sk_nil H7.out.drew 8 rfl) (us.take c) (some ⟨gg, 0, none⟩) ac ((Seen.own ActR.len 3 rfl).take c) ((acts_ok H7.out.drew 4 rfl (vals_ok HUS.out) _ 4 rfl).sub fun a ha => List.mem_of_mem_take ha) (by rw [List.length_take]; omega)
          rw [List.length_take_of_le hcl] at hda
          have HDA := Lib.hid hda
          clear hda
          have hdb := doAll_in (hb0.front 7 rfl) (Seen.own Sk.len 8 rfl) (sk_nil hb0 8 rfl) (us.take c) (some ⟨gg, 0, none⟩) ac ((Seen.own ActR.len 3 rfl).take c) ((acts_ok hb0 4 rfl (vals_ok HUS.out) _ 4 rfl).sub fun a ha => List.mem_of_mem_take ha) (by rw [List.length_take]; omega)
          rw [List.length_take_of_le hcl] at hdb
          have HDB := Lib.hid hdb
          clear hdb
          have hdc := doAll_in (hc0.front 7 rfl) (Seen.own Sk.len 8 rfl) (sk_nil hc0 8 rfl) (us.take c) (some ⟨gg, 0, none⟩) ac ((Seen.own ActR.len 3 rfl).take c) ((acts_ok hc0 4 rfl (vals_ok HUS.out) _ 4 rfl).sub fun a ha => List.mem_of_mem_take ha) (by rw [List.length_take]; omega)
          rw [List.length_take_of_le hcl] at hdc
          have HDC := Lib.hid hdc
          clear hdc
          clear hb0 hc0
          go_region_held3 (fun _ => True) (trivial)
            (first
              | (go_at_call 16; (with_reducible refine HDA.out.mono ?_); rintro e w8 ⟨v8, ys, rfl, hys, h8⟩; obtain ⟨ya, yc, rfl, hyc, _, hyn, hya⟩ := h8.sl AnsR.len 2 rfl; have h8 := h8.back (n := 7) (by simp); have HYS := Lib.hid hys; have HYN := Lib.hid hyn; have HA1 := Lib.hid ((h8.alloc (.cells #[] 51)).imp 13 rfl (X' := ownP 51 3 AnsR.cells (.slice (some ⟨w8.heap.size, 0, none⟩) 0 0) ([] : List AnsR)) (fun f hp => ownP_empty hp)); clear h8 hys hyn hya)
              | (go_at_call 16; (with_reducible refine HDB.out.mono ?_); rintro e w8 ⟨v8, ys, rfl, hys, h8⟩; obtain ⟨ya, yc, rfl, hyc, _, hyn, hya⟩ := h8.sl AnsR.len 2 rfl; have h8 := h8.back (n := 7) (by simp); have HYS := Lib.hid hys; have HYN := Lib.hid hyn; have HA2 := Lib.hid (h8.imp 11 rfl (X' := ownP 51 3 AnsR.cells (.slice (some ⟨w7.heap.size, 0, none⟩) 0 0) ([] : List AnsR)) (fun f hp => ownP_empty hp)); clear h8 hys hyn hya)
              | (go_at_call 16; (with_reducible refine HDC.out.mono ?_); rintro e w8 ⟨v8, ys, rfl, hys, h8⟩; obtain ⟨ya, yc, rfl, hyc, _, hyn, hya⟩ := h8.sl AnsR.len 2 rfl; have h8 := h8.back (n := 7) (by simp); have HYS := Lib.hid hys; have HYN := Lib.hid hyn; have HA2 := Lib.hid (h8.imp 11 rfl (X' := ownP 51 3 AnsR.cells (.slice (some ⟨w7.heap.size, 0, none⟩) 0 0) ([] : List AnsR)) (fun f hp => ownP_empty hp)); clear h8 hys hyn hya)
              | (go_at_call 16; (with_reducible refine HD2.out.mono ?_); rintro e wa ⟨va2, zs, rfl, hzs, ha⟩; obtain ⟨za, zc, rfl, hzc, _, hzn, hza⟩ := ha.sl AnsR.len 2 rfl; have ha := ha.back (n := 7) (by simp); have HZS := Lib.hid hzs; have HZN := Lib.hid hzn; have HB := Lib.hid ha; clear ha hzs hzn hza HD2)
              | (refine step_append_st ansElem rfl HB.out 11 rfl _ _ rfl rfl za zc zs rfl HZN.out (HB.out.slOf AnsR.len 13 rfl) (by have h1 := congrArg List.length HYS.out; have h2 := congrArg List.length HZS.out; rw [List.length_map, ans_len, List.length_map, List.length_take] at h1; rw [List.length_map, ans_len, List.length_map, List.length_drop] at h2; rw [List.nil_append]; omega) ?_; intro vf wf hf _; have HF := Lib.hid ((hf.pick [0, 1, 2, 3, 4, 5, 6, 7, 8, 9, 10, 11, 12, 14] (by simp)).merge 12 13 (by decide) rfl rfl (Z := poolP ansP (ys ++ zs)) fun f s => poolP_two s); clear hf HB)
              | (refine step_append_st ansElem rfl HA1.out 13 rfl _ _ rfl rfl ya yc ys rfl HYN.out (HA1.out.slOf AnsR.len 11 rfl) (by have := congrArg List.length HYS.out; rw [List.length_map, ans_len, List.length_map, List.length_take] at this; show 0 + ys.length ≤ _; omega) ?_; intro v9 w9 h9 _; have h9 := h9.pick [0, 1, 2, 3, 4, 5, 6, 7, 8, 9, 10, 13, 12] (by simp); have hd2 := doAll_in (h9.front 7 rfl) (by rw [sinks_after]; exact Seen.own Sk.len 8 rfl) (sk_nil h9 8 rfl) (us.drop c) (some ⟨gg, c * 15, none⟩) (ac - c) (hse4 _ rfl) ((acts_ok h9 4 rfl (vals_ok HUS.out) _ 4 rfl).sub fun a ha => List.mem_of_mem_drop ha) (by rw [List.length_drop]; omega); rw [List.length_drop] at hd2; have HD2 := Lib.hid hd2; clear h9 hd2)
              | (refine step_append_st ansElem rfl HA2.out 11 rfl _ _ rfl rfl ya yc ys rfl HYN.out (HA2.out.slOf AnsR.len 12 rfl) (by have := congrArg List.length HYS.out; rw [List.length_map, ans_len, List.length_map, List.length_take] at this; show 0 + ys.length ≤ _; omega) ?_; intro v9 w9 h9 _; have h9 := h9.pick [0, 1, 2, 3, 4, 5, 6, 7, 8, 9, 10, 11, 13] (by simp); have hd2 := doAll_in (h9.front 7 rfl) (by rw [sinks_after]; exact Seen.own Sk.len 8 rfl) (sk_nil h9 8 rfl) (us.drop c) (some ⟨gg, c * 15, none⟩) (ac - c) (hse4 _ rfl) ((acts_ok h9 4 rfl (vals_ok HUS.out) _ 4 rfl).sub fun a ha => List.mem_of_mem_drop ha) (by rw [List.length_drop]; omega); rw [List.length_drop] at hd2; have HD2 := Lib.hid hd2; clear h9 hd2))
          all_goals
            go_wp2
            go_meet
            exact ⟨_, HCA.out _ _ _ HYS.out HZS.out, HF.out.pick [0, 1, 2, 3, 4, 5, 6, 7, 8, 9, 10, 11, 12] (by simp)⟩
    case rest =>
      obtain ⟨zs, hzs, h⟩ := hcut
      obtain ⟨za, zc, hv, hzc, _⟩ := h.sl AnsR.len 11 rfl
      subst hv
      have HA2 := Lib.hid (acts_st h al cap l (Seen.old HLA.out) (HAT.out _) hlm)
      have HZS := Lib.hid hzs
      clear h hzs
      go_wp2_with (go_at_call 13; (with_reducible refine HA2.out.mono ?_); rintro e wb ⟨vb, us2, rfl, hus2, hb⟩; obtain ⟨ba, bc, rfl, _⟩ := hb.sl ActR.len 13 rfl; have HUS2 := Lib.hid hus2; have hb : St w wb [pt w.heap.size (.cells #[.int .i64 k.budget, .int .i64 k.room, .int .i64 k.quota, .slice ka k.sinks.length kc] 24 (0, 0)), ownP 113 5 Sk.cells (.slice na (sksOf k).length nc) (sksOf k), pt g (.cells #[.int .i64 (within k.budget 1 4), .int .i64 (within k.room 1 8), .int .i64 (within k.quota 0 30), .slice na (sksOf k).length nc] 28 (0, 0)), ownP 67 15 ActR.cells (.slice aa us.length ac) us, poolP actP us, coP ca ma mc ((newCo (suOf k)).after (us.map ActR.val)) (0 + 9 * us.length), ownP 113 5 Sk.cells (.slice ma (sksOf k).length mc) (sksOf k), coP cb ma' mc' (Co.after ((newCo (suOf k)).after ((us.take c).map ActR.val)) ((us.drop c).map ActR.val)) (0 + 9 * c + 9 * (us.length - c)), ownP 113 5 Sk.cells (.slice ma' (sksOf k).length mc') (sksOf k), ownP 51 3 AnsR.cells (.slice xa xs.length xc) xs, poolP ansP xs, ownP 51 3 AnsR.cells (.slice za zs.length zc) zs, poolP ansP zs, ownP 67 15 ActR.cells (.slice ba us2.length bc) us2, poolP actP us2] := hb; have HB := Lib.hid hb; clear hb hus2 HA2)
      go_loopw [54] (fun iv wr => ∃ j : Nat, j ≤ us.length ∧ iv = .int .i64 j ∧ St w wr [pt w.heap.size (.cells #[.int .i64 k.budget, .int .i64 k.room, .int .i64 k.quota, .slice ka k.sinks.length kc] 24 (0, 0)), ownP 113 5 Sk.cells (.slice na (sksOf k).length nc) (sksOf k), pt g (.cells #[.int .i64 (within k.budget 1 4), .int .i64 (within k.room 1 8), .int .i64 (within k.quota 0 30), .slice na (sksOf k).length nc] 28 (0, 0)), ownP 67 15 ActR.cells (.slice aa us.length ac) us, poolP actP us, coP ca ma mc ((newCo (suOf k)).after (us.map ActR.val)) (0 + 9 * us.length), ownP 113 5 Sk.cells (.slice ma (sksOf k).length mc) (sksOf k), coP cb ma' mc' (Co.after ((newCo (suOf k)).after ((us.take c).map ActR.val)) ((us.drop c).map ActR.val)) (0 + 9 * c + 9 * (us.length - c)), ownP 113 5 Sk.cells (.slice ma' (sksOf k).length mc') (sksOf k), ownP 51 3 AnsR.cells (.slice xa xs.length xc) xs, poolP ansP xs, ownP 51 3 AnsR.cells (.slice za zs.length zc) zs, poolP ansP zs, ownP 67 15 ActR.cells (.slice ba us2.length bc) us2, poolP actP us2]) (fun iv _ => us.length - (intOf iv).toNat)
      case atStart => exact ⟨0, by omega, rfl, HB.out⟩
      case round =>
        clear HB
        obtain ⟨j, hj, rfl, hst⟩ := hrel
        by_cases hlt : (j : Int) < us.length
        · have hul2 : us2.length = us.length := by have h1 := congrArg List.length HUS2.out; have h2 := congrArg List.length HUS.out; rw [List.length_map] at h1 h2; omega
          have hj1 : j < us.length := by omega
          have hj2 : j < us2.length := by omega
          clear hul2
          obtain ⟨x, hx⟩ : ∃ x, us[j] = x := ⟨_, rfl⟩
          obtain ⟨y, hy⟩ : ∃ y, us2[j] = y := ⟨_, rfl⟩
          have hxy : x.val = y.val := by
            have h1 : (us.map ActR.val)[j]? = (us2.map ActR.val)[j]? := by rw [HUS.out, HUS2.out]
            rw [List.getElem?_map, List.getElem?_map, List.getElem?_eq_getElem hj1, List.getElem?_eq_getElem hj2, hx, hy] at h1
            simpa using h1
          obtain ⟨F1, hF1⟩ := hst.pool 4 rfl x (by rw [← hx]; exact List.getElem_mem hj1)
          obtain ⟨F2, hF2⟩ := hst.pool 14 rfl y (by rw [← hy]; exact List.getElem_mem hj2)
          obtain ⟨p1, _, p3, p4, _⟩ := seeP_at Opr.len hF1
          obtain ⟨q1, _, q3, _, _⟩ := seeP_at Opr.len hF2
          have hfew := (vals_ok HUS.out x (by rw [← hx]; exact List.getElem_mem hj1)).few
          obtain ⟨b1, o1, rfl, hb1, c0, c1, c2, c3, c4, c5, c6, c7, c8, c9, c10, c11, c12, c13, c14⟩ := (hst.slOf ActR.len 3 rfl).actAt j hj1 x hx
          obtain ⟨b2, o2, rfl, hb2, d0, d1, d2, d3, d4, d5, d6, d7, d8, d9, d10, d11, d12, d13, d14⟩ := (hst.slOf ActR.len 13 rfl).actAt j hj2 y hy
          obtain ⟨kd, tn, fr, nn, oa, oc, p, i⟩ := x
          obtain ⟨kd', tn', fr', nn', oa2, oc2, p', i'⟩ := y
          dsimp only at p1 p3 q1 q3 hfew c0 c1 c2 c3 c4 c5 c6 c7 c8 c9 c10 c11 c12 c13 c14 d0 d1 d2 d3 d4 d5 d6 d7 d8 d9 d10 d11 d12 d13 d14
          simp only [ActR.val, ActM.mk.injEq] at hxy
          obtain ⟨rfl, rfl, rfl, rfl, rfl, rfl⟩ := hxy
          have hks : ∀ w' : World, Below wr.heap.size wr w' → (w'.cell? ⟨b1, o1 + j * 15, none⟩ = some (.int .i64 kd) ∧ w'.cell? ⟨b1, o1 + j * 15 + 1, none⟩ = some (.int .i64 tn) ∧ w'.cell? ⟨b1, o1 + j * 15 + 2, none⟩ = some (.int .i64 fr) ∧ w'.cell? ⟨b1, o1 + j * 15 + 3, none⟩ = some (.int .i64 nn) ∧ w'.cell? ⟨b1, o1 + j * 15 + 4, none⟩ = some (.slice oa p.ops.length oc) ∧ w'.cell? ⟨b1, o1 + j * 15 + 5, none⟩ = some (.int .i64 p.size) ∧ w'.cell? ⟨b1, o1 + j * 15 + 6, none⟩ = some (.int .i64 p.slide) ∧ w'.cell? ⟨b1, o1 + j * 15 + 7, none⟩ = some (.int .i64 p.agg) ∧ w'.cell? ⟨b1, o1 + j * 15 + 8, none⟩ = some (.int .i64 p.sink) ∧ w'.cell? ⟨b1, o1 + j * 15 + 9, none⟩ = some (.int .i64 p.feed) ∧ w'.cell? ⟨b1, o1 + j * 15 + 10, none⟩ = some (.bool i.mark) ∧ w'.cell? ⟨b1, o1 + j * 15 + 11, none⟩ = some (.int .i64 i.ev.time) ∧ w'.cell? ⟨b1, o1 + j * 15 + 12, none⟩ = some (.int .i64 i.ev.key) ∧ w'.cell? ⟨b1, o1 + j * 15 + 13, none⟩ = some (.int .i64 i.ev.value) ∧ w'.cell? ⟨b1, o1 + j * 15 + 14, none⟩ = some (.int .u64 i.ev.label) ∧ w'.cell? ⟨b2, o2 + j * 15, none⟩ = some (.int .i64 kd) ∧ w'.cell? ⟨b2, o2 + j * 15 + 1, none⟩ = some (.int .i64 tn) ∧ w'.cell? ⟨b2, o2 + j * 15 + 2, none⟩ = some (.int .i64 fr) ∧ w'.cell? ⟨b2, o2 + j * 15 + 3, none⟩ = some (.int .i64 nn) ∧ w'.cell? ⟨b2, o2 + j * 15 + 4, none⟩ = some (.slice oa2 p.ops.length oc2) ∧ w'.cell? ⟨b2, o2 + j * 15 + 5, none⟩ = some (.int .i64 p.size) ∧ w'.cell? ⟨b2, o2 + j * 15 + 6, none⟩ = some (.int .i64 p.slide) ∧ w'.cell? ⟨b2, o2 + j * 15 + 7, none⟩ = some (.int .i64 p.agg) ∧ w'.cell? ⟨b2, o2 + j * 15 + 8, none⟩ = some (.int .i64 p.sink) ∧ w'.cell? ⟨b2, o2 + j * 15 + 9, none⟩ = some (.int .i64 p.feed) ∧ w'.cell? ⟨b2, o2 + j * 15 + 10, none⟩ = some (.bool i.mark) ∧ w'.cell? ⟨b2, o2 + j * 15 + 11, none⟩ = some (.int .i64 i.ev.time) ∧ w'.cell? ⟨b2, o2 + j * 15 + 12, none⟩ = some (.int .i64 i.ev.key) ∧ w'.cell? ⟨b2, o2 + j * 15 + 13, none⟩ = some (.int .i64 i.ev.value) ∧ w'.cell? ⟨b2, o2 + j * 15 + 14, none⟩ = some (.int .u64 i.ev.label)) := fun w' hb => ⟨(hb.cell hb1).trans c0, (hb.cell hb1).trans c1, (hb.cell hb1).trans c2, (hb.cell hb1).trans c3, (hb.cell hb1).trans c4, (hb.cell hb1).trans c5, (hb.cell hb1).trans c6, (hb.cell hb1).trans c7, (hb.cell hb1).trans c8, (hb.cell hb1).trans c9, (hb.cell hb1).trans c10, (hb.cell hb1).trans c11, (hb.cell hb1).trans c12, (hb.cell hb1).trans c13, (hb.cell hb1).trans c14, (hb.cell hb2).trans d0, (hb.cell hb2).trans d1, (hb.cell hb2).trans d2, (hb.cell hb2).trans d3, (hb.cell hb2).trans d4, (hb.cell hb2).trans d5, (hb.cell hb2).trans d6, (hb.cell hb2).trans d7, (hb.cell hb2).trans d8, (hb.cell hb2).trans d9, (hb.cell hb2).trans d10, (hb.cell hb2).trans d11, (hb.cell hb2).trans d12, (hb.cell hb2).trans d13, (hb.cell hb2).trans d14⟩
          have HKS := Lib.hid hks
          have hsm : ∀ w' : World, Below wr.heap.size wr w' → Calls Tryz.prog 24 #[.agg #[.int .i64 kd, .int .i64 tn, .int .i64 fr, .int .i64 nn, .slice oa p.ops.length oc, .int .i64 p.size, .int .i64 p.slide, .int .i64 p.agg, .int .i64 p.sink, .int .i64 p.feed, .bool i.mark, .int .i64 i.ev.time, .int .i64 i.ev.key, .int .i64 i.ev.value, .int .u64 i.ev.label], .agg #[.int .i64 kd, .int .i64 tn, .int .i64 fr, .int .i64 nn, .slice oa2 p.ops.length oc2, .int .i64 p.size, .int .i64 p.slide, .int .i64 p.agg, .int .i64 p.sink, .int .i64 p.feed, .bool i.mark, .int .i64 i.ev.time, .int .i64 i.ev.key, .int .i64 i.ev.value, .int .u64 i.ev.label]] w' fun x w'' => x = .returned (.bool true) ∧ Below w'.heap.size w' w'' := fun w' hb => SameAct_yes kd tn fr nn p i oa oa2 oc oc2 w' (p1.below hb fun _ _ h => h) (q1.below hb fun _ _ h => h) hfew p3 q3
          have HSM := Lib.hid hsm
          have HST := Lib.hid hst
          clear hst hks hsm p1 q1 hx hy c0 c1 c2 c3 c4 c5 c6 c7 c8 c9 c10 c11 c12 c13 c14 d0 d1 d2 d3 d4 d5 d6 d7 d8 d9 d10 d11 d12 d13 d14 hfew
          go_wp2_with fail
          go_region_held3 (fun w' => (w'.cell? ⟨b1, o1 + j * 15, none⟩ = some (.int .i64 kd) ∧ w'.cell? ⟨b1, o1 + j * 15 + 1, none⟩ = some (.int .i64 tn) ∧ w'.cell? ⟨b1, o1 + j * 15 + 2, none⟩ = some (.int .i64 fr) ∧ w'.cell? ⟨b1, o1 + j * 15 + 3, none⟩ = some (.int .i64 nn) ∧ w'.cell? ⟨b1, o1 + j * 15 + 4, none⟩ = some (.slice oa p.ops.length oc) ∧ w'.cell? ⟨b1, o1 + j * 15 + 5, none⟩ = some (.int .i64 p.size) ∧ w'.cell? ⟨b1, o1 + j * 15 + 6, none⟩ = some (.int .i64 p.slide) ∧ w'.cell? ⟨b1, o1 + j * 15 + 7, none⟩ = some (.int .i64 p.agg) ∧ w'.cell? ⟨b1, o1 + j * 15 + 8, none⟩ = some (.int .i64 p.sink) ∧ w'.cell? ⟨b1, o1 + j * 15 + 9, none⟩ = some (.int .i64 p.feed) ∧ w'.cell? ⟨b1, o1 + j * 15 + 10, none⟩ = some (.bool i.mark) ∧ w'.cell? ⟨b1, o1 + j * 15 + 11, none⟩ = some (.int .i64 i.ev.time) ∧ w'.cell? ⟨b1, o1 + j * 15 + 12, none⟩ = some (.int .i64 i.ev.key) ∧ w'.cell? ⟨b1, o1 + j * 15 + 13, none⟩ = some (.int .i64 i.ev.value) ∧ w'.cell? ⟨b1, o1 + j * 15 + 14, none⟩ = some (.int .u64 i.ev.label) ∧ w'.cell? ⟨b2, o2 + j * 15, none⟩ = some (.int .i64 kd) ∧ w'.cell? ⟨b2, o2 + j * 15 + 1, none⟩ = some (.int .i64 tn) ∧ w'.cell? ⟨b2, o2 + j * 15 + 2, none⟩ = some (.int .i64 fr) ∧ w'.cell? ⟨b2, o2 + j * 15 + 3, none⟩ = some (.int .i64 nn) ∧ w'.cell? ⟨b2, o2 + j * 15 + 4, none⟩ = some (.slice oa2 p.ops.length oc2) ∧ w'.cell? ⟨b2, o2 + j * 15 + 5, none⟩ = some (.int .i64 p.size) ∧ w'.cell? ⟨b2, o2 + j * 15 + 6, none⟩ = some (.int .i64 p.slide) ∧ w'.cell? ⟨b2, o2 + j * 15 + 7, none⟩ = some (.int .i64 p.agg) ∧ w'.cell? ⟨b2, o2 + j * 15 + 8, none⟩ = some (.int .i64 p.sink) ∧ w'.cell? ⟨b2, o2 + j * 15 + 9, none⟩ = some (.int .i64 p.feed) ∧ w'.cell? ⟨b2, o2 + j * 15 + 10, none⟩ = some (.bool i.mark) ∧ w'.cell? ⟨b2, o2 + j * 15 + 11, none⟩ = some (.int .i64 i.ev.time) ∧ w'.cell? ⟨b2, o2 + j * 15 + 12, none⟩ = some (.int .i64 i.ev.key) ∧ w'.cell? ⟨b2, o2 + j * 15 + 13, none⟩ = some (.int .i64 i.ev.value) ∧ w'.cell? ⟨b2, o2 + j * 15 + 14, none⟩ = some (.int .u64 i.ev.label))) (first | exact HKS.out _ (by go_grown) | (with_reducible exact HKS.out _ hbz))
            (first
              | (go_at_call 24; refine (HSM.out _ (by go_grown)).mono ?_; rintro e wz ⟨rfl, hbz0⟩; have HZ := Lib.hid (HST.out.drew.kept hbz0); have hbz : Below wr.heap.size wr wz := (Below.refl _ wr).drew.trans hbz0; clear hbz0))
          all_goals
            go_wp2_with fail
            go_roundw
            case rel => exact ⟨j + 1, by omega, by go_num, HZ.out⟩
            case measure => simp [intOf]; omega
        · have hxl : xs.length = us.length := by have := congrArg List.length HXS.out; rw [List.length_map, ans_len, List.length_map] at this; exact this
          have hzl : zs.length = us.length := by have := congrArg List.length HZS.out; rw [List.length_map, ans_len, List.length_map] at this; exact this
          obtain ⟨_, _, e1, hx1, _⟩ := hst.sl AnsR.len 9 rfl
          cases e1
          obtain ⟨_, _, e1, hz1, _⟩ := hst.sl AnsR.len 11 rfl
          cases e1
          have hfx : ∀ x ∈ xs.map AnsR.val, x.rows.length ≤ 32 ∧ x.told.length ≤ 32 := by rw [HXS.out]; exact ans_few _ _
          have hfz : ∀ x ∈ zs.map AnsR.val, x.rows.length ≤ 32 ∧ x.told.length ≤ 32 := by rw [HZS.out]; exact ans_few _ _
          have e2 : (Co.after ((newCo (suOf k)).after ((us.take c).map ActR.val)) ((us.drop c).map ActR.val)) = ((newCo (suOf k)).after (us.map ActR.val)) := by rw [← after_append, ← List.map_append, List.take_append_drop]
          rw [hxl] at hx1
          rw [hzl] at hz1
          have HAN := Lib.hid (answers_yes xs zs us.length xa za xc zc wr (HXS.out.trans HZS.out.symm) hxl hzl (hst.slOf AnsR.len 9 rfl) (hst.slOf AnsR.len 11 rfl) (hst.ansAt 10 rfl hfx) (hst.ansAt 12 rfl hfz) (by omega) hx1 hz1)
          rw [e2] at hst
          have HST := Lib.hid hst
          rw [hxl, hzl]
          clear hst hfx hfz e2 hxl hzl hzc
          go_wp2_with (first
            | (go_at_call 25; (with_reducible refine HAN.out.mono ?_); rintro e wg ⟨rfl, hbg⟩; have hg := HST.out.kept hbg; have HT1 := Lib.hid (ticks_in (hg.front 5 rfl)); have HT2 := Lib.hid (ticks_in (hg.front 7 rfl)); have HDN := Lib.hid (doAll_in (hg.front 5 rfl) (by rw [sinks_after]; exact Seen.own Sk.len 6 rfl) (sk_nil hg 6 rfl) ([] : List ActR) none 0 (Seen.old (.inl rfl)) (fun a ha => by cases ha) (by simp; omega)); clear hg hbg HAN HST)
            | (go_at_call 26; (with_reducible refine HT1.out.mono ?_); rintro e wz ⟨rfl, hwz⟩; subst hwz; clear HT1)
            | (go_at_call 26; (with_reducible refine HT2.out.mono ?_); rintro e wz ⟨rfl, hwz⟩; subst hwz; clear HT2)
            | (go_at_call 16; (refine HDN.out.mono ?_); rintro e wn ⟨vn, ns, rfl, hns, hn⟩; have hn0 : ns = [] := List.map_eq_nil_iff.1 hns; subst hn0; obtain ⟨qa, qc, rfl, _⟩ := hn.sl AnsR.len 2 rfl; have HN := Lib.hid hn; clear hn hns HDN)
            | (go_at_call 27; refine (CoreRuns_any wn).mono ?_; rintro e w8 ⟨rfl, hb8⟩; have H9 := Lib.hid (HN.out.kept hb8); clear hb8 HN))
          go_ret
          exact ⟨rfl, H9.out.below⟩
end Go.Proofs.YtdncpihaeobaeaaGreat
