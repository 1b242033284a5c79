/- The walk of CoreTwins. -/
import Derived.Test.YtpkpcomocimghaaGreatSetLaw
import Derived.Test.YtpkpcomocimghaaGreatActs
import Derived.Test.YtpkpcomocimghaaGreatDoLit
import Derived.Test.YtpkpcomocimghaaGreatOwnW
set_option linter.unusedVariables false
set_option linter.unusedSimpArgs false
namespace Go.Proofs.YtpkpcomocimghaaGreat
open Go.RowKit
def markX : Inp := ⟨true, ⟨777, 0, 0, 0⟩⟩
theorem markX_wf : markX.ev.wf := ⟨by decide, by decide, by decide, by decide⟩
theorem sinks_after (k : SetQ) (l : List ActM) : ((newCo (suOf k)).after l).s.sinks = sksOf k := by
  rw [(after_s l (newCo (suOf k))).1]
  rfl
theorem pots_few (k : SetQ) (l : List ActM) : ((newCo (suOf k)).after l).pots.length ≤ 1099511627776 := by
  rw [(after_s l (newCo (suOf k))).2.2.2]
  show ((sksOf k).map newPot).length ≤ _
  rw [List.length_map]
  have := sksOf_len k
  omega
set_option maxHeartbeats 16000000 in
set_option maxRecDepth 20000 in
theorem CoreTwins_any (w : World) (cs : Array Value) (k : SetQ) (hk : isStq w cs.toList k) (al : Option Addr) (cap : Nat) (l : List ActQR) (hle : l.length ≤ cap) (hmx : cap ≤ maxLen) (hnil : al = none → cap = 0) (hl : SlAt 15 isAq w al l) (bl : Option Addr) (cap2 : Nat) (l2 : List ActQR) (hle2 : l2.length ≤ cap2) (hmx2 : cap2 ≤ maxLen) (hnil2 : bl = none → cap2 = 0) (hl2 : SlAt 15 isAq w bl l2) (cut : Int) (hcu : (Lit.int .i64 cut).wf = true) :
    Calls Tryz.prog 10 #[.agg cs, .slice al l.length cap, .slice bl l2.length cap2, .int .i64 cut] w fun e w' => e = .returned (.bool true) ∧ Below w.heap.size w w' := by
  obtain ⟨ka, kc, hcs, hks, hkw, hkl⟩ := hk
  obtain rfl : cs = #[.int .i64 k.budget, .int .i64 k.room, .int .i64 k.quota, .slice ka k.sinks.length kc] := by
    obtain ⟨cl⟩ := cs
    dsimp only at hcs
    rw [hcs]
  clear hcs
  have hrc := i64_range hcu
  obtain ⟨hla, hlq⟩ := hl.aq
  obtain ⟨hlb, hlp⟩ := hl2.aq
  have hlm : l.length ≤ maxLen := by omega
  have hlm2 : l2.length ≤ maxLen := by omega
  have hat : ∀ R : HP, ∀ x ∈ l, Seen w R 1 (intC .i64) x.oa x.p.ops ∧ Seen w R 1 (intC .i64) x.na x.p.ns ∧ x.q.wf := fun R x hx => ⟨Seen.old (hlq x hx).1, Seen.old (hlq x hx).2.1, (hlq x hx).2.2⟩
  have hat2 : ∀ R : HP, ∀ x ∈ l2, Seen w R 1 (intC .i64) x.oa x.p.ops ∧ Seen w R 1 (intC .i64) x.na x.p.ns ∧ x.q.wf := fun R x hx => ⟨Seen.old (hlp x hx).1, Seen.old (hlp x hx).2.1, (hlp x hx).2.2⟩
  have HLA := Lib.hid hla
  have HAT := Lib.hid hat
  have HLB := Lib.hid hlb
  have HAT2 := Lib.hid hat2
  have h0 : St w (w.alloc (.cells #[.int .i64 k.budget, .int .i64 k.room, .int .i64 k.quota, .slice ka k.sinks.length kc] 56)) [pt w.heap.size (.cells #[.int .i64 k.budget, .int .i64 k.room, .int .i64 k.quota, .slice ka k.sinks.length kc] 56 (0, 0))] := (St.start w).alloc (.cells #[.int .i64 k.budget, .int .i64 k.room, .int .i64 k.quota, .slice ka k.sinks.length kc] 56)
  have hse := setup_st h0 k ka kc (Seen.old hks) hkw hkl (sksOf k) rfl
  have k0 := (blkCells (h0.blk 0 rfl).1).1
  have k1 := (k0 0).trans rfl
  have k2 := (k0 1).trans rfl
  have k3 := (k0 2).trans rfl
  have k4 := (k0 3).trans rfl
  have HSE := Lib.hid hse
  have hsl := sksOf_len k
  have HSW := Lib.hid (sksOf_wf k)
  clear h0 hse k0 hks hkw hkl hcu hl hla hlq hat hl2 hlb hlp hat2 hnil hle hmx hnil2 hle2 hmx2
  go_enter Tryz.func10, Tryz.ntmps10
  go_upto_region 5 with (first
    | (go_at_call 20; (with_reducible refine HSE.out.mono ?_); rintro e w1 ⟨na, nc, rfl, h1⟩; have hne := coreNew_st h1 (suOf k) na nc (h1.slOf Sk.len 1 rfl) (sk_nil h1 1 rfl) (suOf_right k) HSW.out; have hne : Calls Tryz.prog 14 #[.agg #[.int .i64 (within k.budget 1 4), .int .i64 (within k.room 1 8), .int .i64 (within k.quota 0 30), .slice na (sksOf k).length nc]] w1 _ := hne; have HNE := Lib.hid hne; clear hne h1 HSE)
    | (go_at_call 14; (with_reducible refine HNE.out.mono ?_); rintro e w2 ⟨cb, ma, mc, rfl, h2⟩; have HAC := Lib.hid (acts_st h2 al cap l (Seen.old HLA.out) (HAT.out _) hlm); clear h2 HNE)
    | (go_at_call 21; (with_reducible refine HAC.out.mono ?_); rintro e w4 ⟨va, us, rfl, hus, h4⟩; obtain ⟨aa, ac, rfl, hac, _, hna, _⟩ := h4.sl ActR.len 4 rfl; have h4 : St w w4 [pt w.heap.size (.cells #[.int .i64 k.budget, .int .i64 k.room, .int .i64 k.quota, .slice ka k.sinks.length kc] 56 (0, 0)), ownP 69 5 Sk.cells (.slice na (sksOf k).length nc) (sksOf k), coP cb ma mc (newCo (suOf k)) 0, ownP 69 5 Sk.cells (.slice ma (sksOf k).length mc) (sksOf k), ownP 38 15 ActR.cells (.slice aa us.length ac) us, poolP actP us] := h4; have H4 := Lib.hid h4; have HUS := Lib.hid hus; clear h4 hus HAC))
  obtain ⟨c, hc, hcl⟩ : ∃ c : Nat, within cut 0 us.length = c ∧ c ≤ us.length := ⟨(within cut 0 us.length).toNat, by have := within_range cut 0 us.length (by omega); omega, by have := within_range cut 0 us.length (by omega); omega⟩
  have hul := vals_len HUS.out
  have hwi := fun w' => Within_at cut 0 us.length w' hrc.1 hrc.2 (by omega) (by omega) (by omega)
  rw [hc] at hwi
  have HWI := Lib.hid hwi
  have hcac : (c : Int) ≤ ac := by omega
  have hdo := doAll_in (H4.out.front 2 rfl) (Seen.own Sk.len 3 rfl) (sk_nil H4.out 3 rfl) (us.take c) aa ac ((Seen.own ActR.len 4 rfl).take c) ((acts_ok H4.out 5 rfl (vals_ok HUS.out) _ 5 rfl).sub fun a ha => List.mem_of_mem_take ha) (by rw [List.length_take]; omega)
  rw [List.length_take_of_le hcl] at hdo
  have HDO := Lib.hid hdo
  clear hwi hc hdo
  go_upto_region 8 with (first
    | (go_at_call 22; (with_reducible refine (HWI.out _).mono ?_); rintro e wz ⟨rfl, hwz⟩; subst hwz)
    | (go_at_call 16; (with_reducible refine HDO.out.mono ?_); rintro e w5 ⟨v5, xs, rfl, hxs, h5⟩; have h6 := (h5.back (n := 2) (by simp)).pick [0, 1, 2, 3, 4, 5] (by decide); have HTW := Lib.hid (coreTwin_in (h6.front 2 rfl) (by omega) (pots_few k _)); clear h5 h6 hxs HDO)
    | (go_at_call 32; (with_reducible refine HTW.out.mono ?_); rintro e w6 ⟨db, rfl, h7⟩; have h8 : St w w6 [pt w.heap.size (.cells #[.int .i64 k.budget, .int .i64 k.room, .int .i64 k.quota, .slice ka k.sinks.length kc] 56 (0, 0)), ownP 69 5 Sk.cells (.slice na (sksOf k).length nc) (sksOf k), coP cb ma mc ((newCo (suOf k)).after ((us.take c).map ActR.val)) (0 + 9 * c), ownP 69 5 Sk.cells (.slice ma (sksOf k).length mc) (sksOf k), ownP 38 15 ActR.cells (.slice aa us.length ac) us, poolP actP us, coP db ma mc ((newCo (suOf k)).after ((us.take c).map ActR.val)) (0 + 9 * c)] := h7.back (n := 2) (by simp); have H8 := Lib.hid h8; clear h7 h8 HTW))
  go_wp2_with fail
  go_loopw [38] (fun iv wr => ∃ t : Nat, t ≤ 8 ∧ iv = .int .i64 t ∧ St w wr [pt w.heap.size (.cells #[.int .i64 k.budget, .int .i64 k.room, .int .i64 k.quota, .slice ka k.sinks.length kc] 56 (0, 0)), ownP 69 5 Sk.cells (.slice na (sksOf k).length nc) (sksOf k), coP cb ma mc ((newCo (suOf k)).after ((us.take c).map ActR.val)) (0 + 9 * c), ownP 69 5 Sk.cells (.slice ma (sksOf k).length mc) (sksOf k), ownP 38 15 ActR.cells (.slice aa us.length ac) us, poolP actP us, coP db ma mc ((newCo (suOf k)).after ((us.take c).map ActR.val)) (0 + 9 * c)]) (fun iv _ => 8 - (intOf iv).toNat)
  case atStart => exact ⟨0, by omega, rfl, H8.out⟩
  case round =>
    clear H4 H8
    obtain ⟨t, ht, rfl, hst⟩ := hrel
    by_cases hlt : (t : Int) < 8
    · have HCE := Lib.hid (coreCell_in (hst.front 2 rfl) (t : Int) (by omega))
      clear hst
      go_upto_region 14 with (go_at_call 28; (with_reducible refine HCE.out.mono ?_); rintro e w5 ⟨p, rfl, h5⟩; have h6 : St w w5 [pt w.heap.size (.cells #[.int .i64 k.budget, .int .i64 k.room, .int .i64 k.quota, .slice ka k.sinks.length kc] 56 (0, 0)), ownP 69 5 Sk.cells (.slice na (sksOf k).length nc) (sksOf k), coP cb ma mc ((newCo (suOf k)).after ((us.take c).map ActR.val)) (0 + 9 * c), ownP 69 5 Sk.cells (.slice ma (sksOf k).length mc) (sksOf k), ownP 38 15 ActR.cells (.slice aa us.length ac) us, poolP actP us, coP db ma mc ((newCo (suOf k)).after ((us.take c).map ActR.val)) (0 + 9 * c), optP (0 + 9 * c) p (Co.at ((newCo (suOf k)).after ((us.take c).map ActR.val)) (t : Int))] := h5.back (n := 2) (by simp); have H6 := Lib.hid h6; clear h5 h6 HCE)
      rcases p with _ | b
      · rw [show ptrV none = .pointer none from rfl]
        go_wp2_with fail
        go_roundw
        case rel => exact ⟨t + 1, by omega, by go_num, H6.out.pick [0, 1, 2, 3, 4, 5, 6] (by simp)⟩
        case measure => simp [intOf]; omega
      · rw [show ptrV (some b) = .pointer (some ⟨b, 0, none⟩) from rfl]
        have h6 := H6.out
        rcases hca : Co.at ((newCo (suOf k)).after ((us.take c).map ActR.val)) (t : Int) with _ | cl
        · rw [hca] at h6
          obtain ⟨F, hF⟩ := h6.at 7 rfl
          exact hF.elim
        · rw [hca] at h6
          have h6 : St w w5 [pt w.heap.size (.cells #[.int .i64 k.budget, .int .i64 k.room, .int .i64 k.quota, .slice ka k.sinks.length kc] 56 (0, 0)), ownP 69 5 Sk.cells (.slice na (sksOf k).length nc) (sksOf k), coP cb ma mc ((newCo (suOf k)).after ((us.take c).map ActR.val)) (0 + 9 * c), ownP 69 5 Sk.cells (.slice ma (sksOf k).length mc) (sksOf k), ownP 38 15 ActR.cells (.slice aa us.length ac) us, poolP actP us, coP db ma mc ((newCo (suOf k)).after ((us.take c).map ActR.val)) (0 + 9 * c), clP b cl (0 + 9 * c)] := h6
          have hof := offer_st h6 7 rfl 99 markX markX_wf (by omega)
          have hof : Calls Tryz.prog 33 #[.pointer (some ⟨b, 0, none⟩), .int .i64 99, .agg #[.bool true, .int .i64 777, .int .i64 0, .int .i64 0, .int .u64 0]] w5 _ := hof
          have HOF := Lib.hid hof
          clear h6 hof hca H6
          go_wp2_with (first
            | (go_at_call 33; (with_reducible refine HOF.out.mono ?_); rintro e w6 ⟨rfl, h7⟩; have HSV := Lib.hid (serve_st h7 7 rfl 99 (max 0 (min (99 : Int) (cl.offer 99 markX).2.q.length)).toNat (by omega) (by omega)); clear h7 HOF)
            | (go_at_call 34; (with_reducible refine HSV.out.mono ?_); rintro e w7 ⟨v7, rfl, h8⟩; have H8 := Lib.hid (h8.pick [0, 1, 2, 3, 4, 5, 6] (by simp)); clear h8 HSV))
          go_roundw
          case rel => exact ⟨t + 1, by omega, by go_num, H8.out⟩
          case measure => simp [intOf]; omega
    · obtain ⟨F, hF⟩ := hst.at 4 rfl
      rcases hF with ⟨hv, hnl⟩ | ⟨gg, cap4, cur4, hv, _⟩
      · have e1 : aa = none := by injection hv
        have e3 : ac = 0 := by injection hv
        subst hnl
        obtain rfl : c = 0 := by have := hcl; simp at this; omega
        subst e1 e3
        clear hv
        have hdo := doAll_in (hst.front 2 rfl) (by rw [sinks_after]; exact Seen.own Sk.len 3 rfl) (sk_nil hst 3 rfl) (([] : List ActR).drop 0) none 0 (Seen.old (.inl rfl)) ((acts_ok hst 5 rfl (vals_ok HUS.out) _ 5 rfl).sub fun a ha => List.mem_of_mem_drop ha) (by rw [List.length_drop]; omega)
        have hdo : Calls Tryz.prog 16 #[.pointer (some ⟨cb, 0, none⟩), .slice none 0 0] _ _ := hdo
        have HDO := Lib.hid hdo
        clear hdo hst
        go_upto_region 24 with (first
          | (go_at_call 16; (with_reducible refine HD3.out.mono ?_); rintro e wf ⟨vf, ys, rfl, hys, hf⟩; obtain ⟨ya, yc, rfl, hyc, _⟩ := hf.sl AnsR.len 2 rfl; have hyl : ys.length = 0 := (by have := congrArg List.length hys; rw [List.length_map, ans_len, List.length_map, List.length_drop] at this; exact this); rw [hyl] at hf hyc ⊢; have HYL := Lib.hid hyl; have HYS := Lib.hid hys; have HF := Lib.hid (hf.back (n := 6) (by simp)); clear hf hys hyl HD3)
          | (go_at_call 16; (with_reducible refine HD2.out.mono ?_); rintro e wd ⟨vd, zs, rfl, _, hd⟩; have hd := hd.back (n := 9) (by simp); have hdo := doAll_in (hd.front 6 rfl) (by rw [sinks_after]; exact Seen.own Sk.len 3 rfl) (sk_nil hd 3 rfl) (([] : List ActR).drop 0) none 0 (Seen.old (.inl rfl)) ((acts_ok hd 5 rfl (vals_ok HUS.out) _ 5 rfl).sub fun a ha => List.mem_of_mem_drop ha) (by rw [List.length_drop]; omega); have hdo : Calls Tryz.prog 16 #[.pointer (some ⟨db, 0, none⟩), .slice none 0 0] _ _ := hdo; have HD3 := Lib.hid hdo; clear hd hdo HD2)
          | (go_at_call 21; (with_reducible refine HA2.out.mono ?_); rintro e wb ⟨vb, us2, rfl, hus2, hb⟩; obtain ⟨ba, bc, rfl, _⟩ := hb.sl ActR.len 10 rfl; have hul2 := vals_len hus2; have HD2 := Lib.hid (doAll_in (hb.front 9 rfl) (by rw [sinks_after]; exact Seen.own Sk.len 3 rfl) (sk_nil hb 3 rfl) us2 ba bc (Seen.own ActR.len 10 rfl) (acts_ok hb 11 rfl (vals_ok hus2) _ 11 rfl) (by omega)); clear hb hus2 HA2)
          | (go_at_call 32; (with_reducible refine HTW.out.mono ?_); rintro e wo ⟨ob, rfl, ho⟩; have ho := ho.back (n := 6) (by simp); have HA2 := Lib.hid (acts_st ho bl cap2 l2 (Seen.old HLB.out) (HAT2.out _) hlm2); clear ho HTW)
          | (go_at_call 16; (with_reducible refine HDO.out.mono ?_); rintro e wp ⟨vp, xs, rfl, hxs, hp⟩; obtain ⟨xa, xc, rfl, hxc, _⟩ := hp.sl AnsR.len 2 rfl; have hxl : xs.length = 0 := (by have := congrArg List.length hxs; rw [List.length_map, ans_len, List.length_map, List.length_drop] at this; exact this); rw [hxl] at hp hxc ⊢; have HXL := Lib.hid hxl; have HXS := Lib.hid hxs; have hp := hp.back (n := 2) (by simp); have HTW := Lib.hid (coreTwin_in (hp.front 6 rfl) (by omega) (pots_few k _)); clear hp hxs hxl HDO))
        have hfx : ∀ x ∈ xs.map AnsR.val, x.rows.length ≤ 32 ∧ x.told.length ≤ 32 := by rw [HXS.out]; exact ans_few _ _
        have hfy : ∀ x ∈ ys.map AnsR.val, x.rows.length ≤ 32 ∧ x.told.length ≤ 32 := by rw [HYS.out]; exact ans_few _ _
        have HAN := Lib.hid (answers_yes xs ys (0) xa ya xc yc wf (HXS.out.trans HYS.out.symm) HXL.out HYL.out (HF.out.slOf AnsR.len 7 rfl) (HF.out.slOf AnsR.len 14 rfl) (HF.out.ansAt 8 rfl hfx) (HF.out.ansAt 15 rfl hfy) (by omega) hxc hyc)
        clear hfx hfy
        go_wp2_with (first
          | (go_at_call 24; (with_reducible refine HAN.out.mono ?_); rintro e wg ⟨rfl, hbg⟩; have hg := HF.out.kept hbg; have HT1 := Lib.hid (ticks_in (hg.front 2 rfl)); have HT2 := Lib.hid (ticks_in (hg.front 6 rfl)); have HCR := Lib.hid (CoreRuns_any wg); have HG := Lib.hid hg; clear hg hbg HAN)
          | (go_at_call 19; (with_reducible refine HT1.out.mono ?_); rintro e wz ⟨rfl, hwz⟩; subst hwz; clear HT1)
          | (go_at_call 19; (with_reducible refine HT2.out.mono ?_); rintro e wz ⟨rfl, hwz⟩; subst hwz; clear HT2)
          | (go_at_call 3; (with_reducible refine HCR.out.mono ?_); rintro e w8 ⟨rfl, hb8⟩; have H9 := Lib.hid (HG.out.kept hb8); clear hb8 HCR HG))
        go_ret
        exact ⟨rfl, H9.out.below⟩
      · cases hv
        have hse4 : ∀ K : List HP, K[4]? = some (ownP 38 15 ActR.cells (.slice (some ⟨gg, 0, none⟩) us.length ac) us) → Seen w (sepL K) 15 ActR.cells (some ⟨gg, c * 15, none⟩) (us.drop c) := fun K hK => by
          have := (Seen.own (w0 := w) ActR.len 4 hK).drop c
          rw [Nat.zero_add] at this
          exact this
        by_cases hcc : ac = c
        · have hdr : us.drop c = [] := List.drop_of_length_le (by omega)
          have hdo := doAll_in (hst.front 2 rfl) (by rw [sinks_after]; exact Seen.own Sk.len 3 rfl) (sk_nil hst 3 rfl) (us.drop c) (some ⟨gg, 0, none⟩) 0 (Seen.old (.inl hdr)) ((acts_ok hst 5 rfl (vals_ok HUS.out) _ 5 rfl).sub fun a ha => List.mem_of_mem_drop ha) (by rw [List.length_drop]; omega)
          rw [List.length_drop] at hdo
          have HDO := Lib.hid hdo
          clear hdo hst
          go_upto_region 24 with (first
            | (go_at_call 16; (with_reducible refine HD3.out.mono ?_); rintro e wf ⟨vf, ys, rfl, hys, hf⟩; obtain ⟨ya, yc, rfl, hyc, _⟩ := hf.sl AnsR.len 2 rfl; have hyl : ys.length = us.length - c := (by have := congrArg List.length hys; rw [List.length_map, ans_len, List.length_map, List.length_drop] at this; exact this); rw [hyl] at hf hyc ⊢; have HYL := Lib.hid hyl; have HYS := Lib.hid hys; have HF := Lib.hid (hf.back (n := 6) (by simp)); clear hf hys hyl HD3)
            | (go_at_call 16; (with_reducible refine HD2.out.mono ?_); rintro e wd ⟨vd, zs, rfl, _, hd⟩; have hd := hd.back (n := 9) (by simp); have hdo := doAll_in (hd.front 6 rfl) (by rw [sinks_after]; exact Seen.own Sk.len 3 rfl) (sk_nil hd 3 rfl) (us.drop c) (some ⟨gg, 0, none⟩) 0 (Seen.old (.inl hdr)) ((acts_ok hd 5 rfl (vals_ok HUS.out) _ 5 rfl).sub fun a ha => List.mem_of_mem_drop ha) (by rw [List.length_drop]; omega); rw [List.length_drop] at hdo; have HD3 := Lib.hid hdo; clear hd hdo HD2)
            | (go_at_call 21; (with_reducible refine HA2.out.mono ?_); rintro e wb ⟨vb, us2, rfl, hus2, hb⟩; obtain ⟨ba, bc, rfl, _⟩ := hb.sl ActR.len 10 rfl; have hul2 := vals_len hus2; have HD2 := Lib.hid (doAll_in (hb.front 9 rfl) (by rw [sinks_after]; exact Seen.own Sk.len 3 rfl) (sk_nil hb 3 rfl) us2 ba bc (Seen.own ActR.len 10 rfl) (acts_ok hb 11 rfl (vals_ok hus2) _ 11 rfl) (by omega)); clear hb hus2 HA2)
            | (go_at_call 32; (with_reducible refine HTW.out.mono ?_); rintro e wo ⟨ob, rfl, ho⟩; have ho := ho.back (n := 6) (by simp); have HA2 := Lib.hid (acts_st ho bl cap2 l2 (Seen.old HLB.out) (HAT2.out _) hlm2); clear ho HTW)
            | (go_at_call 16; (with_reducible refine HDO.out.mono ?_); rintro e wp ⟨vp, xs, rfl, hxs, hp⟩; obtain ⟨xa, xc, rfl, hxc, _⟩ := hp.sl AnsR.len 2 rfl; have hxl : xs.length = us.length - c := (by have := congrArg List.length hxs; rw [List.length_map, ans_len, List.length_map, List.length_drop] at this; exact this); rw [hxl] at hp hxc ⊢; have HXL := Lib.hid hxl; have HXS := Lib.hid hxs; have hp := hp.back (n := 2) (by simp); have HTW := Lib.hid (coreTwin_in (hp.front 6 rfl) (by omega) (pots_few k _)); clear hp hxs hxl HDO))
          have hfx : ∀ x ∈ xs.map AnsR.val, x.rows.length ≤ 32 ∧ x.told.length ≤ 32 := by rw [HXS.out]; exact ans_few _ _
          have hfy : ∀ x ∈ ys.map AnsR.val, x.rows.length ≤ 32 ∧ x.told.length ≤ 32 := by rw [HYS.out]; exact ans_few _ _
          have HAN := Lib.hid (answers_yes xs ys (us.length - c) xa ya xc yc wf (HXS.out.trans HYS.out.symm) HXL.out HYL.out (HF.out.slOf AnsR.len 7 rfl) (HF.out.slOf AnsR.len 14 rfl) (HF.out.ansAt 8 rfl hfx) (HF.out.ansAt 15 rfl hfy) (by omega) hxc hyc)
          clear hfx hfy
          go_wp2_with (first
            | (go_at_call 24; (with_reducible refine HAN.out.mono ?_); rintro e wg ⟨rfl, hbg⟩; have hg := HF.out.kept hbg; have HT1 := Lib.hid (ticks_in (hg.front 2 rfl)); have HT2 := Lib.hid (ticks_in (hg.front 6 rfl)); have HCR := Lib.hid (CoreRuns_any wg); have HG := Lib.hid hg; clear hg hbg HAN)
            | (go_at_call 19; (with_reducible refine HT1.out.mono ?_); rintro e wz ⟨rfl, hwz⟩; subst hwz; clear HT1)
            | (go_at_call 19; (with_reducible refine HT2.out.mono ?_); rintro e wz ⟨rfl, hwz⟩; subst hwz; clear HT2)
            | (go_at_call 3; (with_reducible refine HCR.out.mono ?_); rintro e w8 ⟨rfl, hb8⟩; have H9 := Lib.hid (HG.out.kept hb8); clear hb8 HCR HG))
          go_ret
          exact ⟨rfl, H9.out.below⟩
        · have hne : (ac = c) = False := eq_false hcc
          have hcac2 : (c : Int) ≤ us.length := by omega
          have hdo := doAll_in (hst.front 2 rfl) (by rw [sinks_after]; exact Seen.own Sk.len 3 rfl) (sk_nil hst 3 rfl) (us.drop c) (some ⟨gg, c * 15, none⟩) (ac - c) (hse4 _ rfl) ((acts_ok hst 5 rfl (vals_ok HUS.out) _ 5 rfl).sub fun a ha => List.mem_of_mem_drop ha) (by rw [List.length_drop]; omega)
          rw [List.length_drop] at hdo
          have HDO := Lib.hid hdo
          clear hdo hst
          go_upto_region 24 with (first
            | (go_at_call 16; (with_reducible refine HD3.out.mono ?_); rintro e wf ⟨vf, ys, rfl, hys, hf⟩; obtain ⟨ya, yc, rfl, hyc, _⟩ := hf.sl AnsR.len 2 rfl; have hyl : ys.length = us.length - c := (by have := congrArg List.length hys; rw [List.length_map, ans_len, List.length_map, List.length_drop] at this; exact this); rw [hyl] at hf hyc ⊢; have HYL := Lib.hid hyl; have HYS := Lib.hid hys; have HF := Lib.hid (hf.back (n := 6) (by simp)); clear hf hys hyl HD3)
            | (go_at_call 16; (with_reducible refine HD2.out.mono ?_); rintro e wd ⟨vd, zs, rfl, _, hd⟩; have hd := hd.back (n := 9) (by simp); have hdo := doAll_in (hd.front 6 rfl) (by rw [sinks_after]; exact Seen.own Sk.len 3 rfl) (sk_nil hd 3 rfl) (us.drop c) (some ⟨gg, c * 15, none⟩) (ac - c) (hse4 _ rfl) ((acts_ok hd 5 rfl (vals_ok HUS.out) _ 5 rfl).sub fun a ha => List.mem_of_mem_drop ha) (by rw [List.length_drop]; omega); rw [List.length_drop] at hdo; have HD3 := Lib.hid hdo; clear hd hdo HD2)
            | (go_at_call 21; (with_reducible refine HA2.out.mono ?_); rintro e wb ⟨vb, us2, rfl, hus2, hb⟩; obtain ⟨ba, bc, rfl, _⟩ := hb.sl ActR.len 10 rfl; have hul2 := vals_len hus2; have HD2 := Lib.hid (doAll_in (hb.front 9 rfl) (by rw [sinks_after]; exact Seen.own Sk.len 3 rfl) (sk_nil hb 3 rfl) us2 ba bc (Seen.own ActR.len 10 rfl) (acts_ok hb 11 rfl (vals_ok hus2) _ 11 rfl) (by omega)); clear hb hus2 HA2)
            | (go_at_call 32; (with_reducible refine HTW.out.mono ?_); rintro e wo ⟨ob, rfl, ho⟩; have ho := ho.back (n := 6) (by simp); have HA2 := Lib.hid (acts_st ho bl cap2 l2 (Seen.old HLB.out) (HAT2.out _) hlm2); clear ho HTW)
            | (go_at_call 16; (with_reducible refine HDO.out.mono ?_); rintro e wp ⟨vp, xs, rfl, hxs, hp⟩; obtain ⟨xa, xc, rfl, hxc, _⟩ := hp.sl AnsR.len 2 rfl; have hxl : xs.length = us.length - c := (by have := congrArg List.length hxs; rw [List.length_map, ans_len, List.length_map, List.length_drop] at this; exact this); rw [hxl] at hp hxc ⊢; have HXL := Lib.hid hxl; have HXS := Lib.hid hxs; have hp := hp.back (n := 2) (by simp); have HTW := Lib.hid (coreTwin_in (hp.front 6 rfl) (by omega) (pots_few k _)); clear hp hxs hxl HDO))
          have hfx : ∀ x ∈ xs.map AnsR.val, x.rows.length ≤ 32 ∧ x.told.length ≤ 32 := by rw [HXS.out]; exact ans_few _ _
          have hfy : ∀ x ∈ ys.map AnsR.val, x.rows.length ≤ 32 ∧ x.told.length ≤ 32 := by rw [HYS.out]; exact ans_few _ _
          have HAN := Lib.hid (answers_yes xs ys (us.length - c) xa ya xc yc wf (HXS.out.trans HYS.out.symm) HXL.out HYL.out (HF.out.slOf AnsR.len 7 rfl) (HF.out.slOf AnsR.len 14 rfl) (HF.out.ansAt 8 rfl hfx) (HF.out.ansAt 15 rfl hfy) (by omega) hxc hyc)
          clear hfx hfy
          go_wp2_with (first
            | (go_at_call 24; (with_reducible refine HAN.out.mono ?_); rintro e wg ⟨rfl, hbg⟩; have hg := HF.out.kept hbg; have HT1 := Lib.hid (ticks_in (hg.front 2 rfl)); have HT2 := Lib.hid (ticks_in (hg.front 6 rfl)); have HCR := Lib.hid (CoreRuns_any wg); have HG := Lib.hid hg; clear hg hbg HAN)
            | (go_at_call 19; (with_reducible refine HT1.out.mono ?_); rintro e wz ⟨rfl, hwz⟩; subst hwz; clear HT1)
            | (go_at_call 19; (with_reducible refine HT2.out.mono ?_); rintro e wz ⟨rfl, hwz⟩; subst hwz; clear HT2)
            | (go_at_call 3; (with_reducible refine HCR.out.mono ?_); rintro e w8 ⟨rfl, hb8⟩; have H9 := Lib.hid (HG.out.kept hb8); clear hb8 HCR HG))
          go_ret
          exact ⟨rfl, H9.out.below⟩
end Go.Proofs.YtpkpcomocimghaaGreat
