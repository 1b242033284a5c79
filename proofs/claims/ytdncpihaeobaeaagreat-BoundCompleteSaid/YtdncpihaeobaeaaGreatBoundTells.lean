/- The walk of BoundTells. -/
import Derived.Test.YtdncpihaeobaeaaGreatSetLaw
import Derived.Test.YtdncpihaeobaeaaGreatActs
import Derived.Test.YtdncpihaeobaeaaGreatDoLit
import Derived.Test.YtdncpihaeobaeaaGreatBoundAll
import Derived.Test.YtdncpihaeobaeaaGreatBoundRunsK
set_option linter.unusedVariables false
set_option linter.unusedSimpArgs false
namespace Go.Proofs.YtdncpihaeobaeaaGreat
open Go.RowKit
theorem ptrElem : Elem Tryz.prog 85 72 1 ptrC :=
  ⟨ptrC_len, by decide, fun x u hu => by simp [ptrC] at hu; subst hu; cases x <;> rfl, Tryz.underlying85, by
    obtain ⟨i, h1, h2, h3, h4⟩ := info_parts (P := Tryz.prog) (e := 72) (z := .pointer none) (size := 1) (bytes := 8) (by kernel_rfl)
    exact ⟨i, _, h1, h2, h3, by omega, rfl⟩⟩
set_option maxHeartbeats 1000000 in
theorem boundTicks_look {w : World} {d : Nat} {c : Cl} (h : lookC w d c) (b : Int) :
    Calls Tryz.prog 35 #[.pointer (some ⟨d, 0, none⟩), .int .i64 b] w fun e w' => e = .returned (.int .i64 (ticksOf c.q.length b)) ∧ Below w.heap.size w w' := by
  obtain ⟨rb, pb, qa, qc, ⟨h1, h2⟩, ⟨c1, c2, c3⟩, hq, hll⟩ := h
  have HW := Lib.hid (waiting_any qa c.q.length qc w)
  have HT := Lib.hid (fun w' => ticks_of c.q.length b w' (by omega))
  clear hll c2 c3 hq
  go_enter Tryz.func35, Tryz.ntmps35
  go_wp2_with (first
    | (go_at_call 61; (with_reducible refine (HT.out _).mono ?_); rintro e wz ⟨rfl, hwz⟩; have hwz := hwz.symm; subst hwz)
    | (go_at_call 33; (with_reducible refine HW.out.mono ?_); rintro e w1 ⟨rfl, h1⟩; have H1 := Lib.hid h1; clear h1 HW))
  go_ret
  exact ⟨rfl, H1.out⟩
theorem cls_snoc (ps : List (Option Nat)) (cs : List (Option Cl)) (N : Nat) (p : Option Nat) (c : Option Cl) (h : ps.length = cs.length) : clsL (ps ++ [p]) (cs ++ [c]) N = clsL ps cs N ++ [optP N p c] := by
  unfold clsL
  rw [List.zipWith_append h]
  rfl
theorem range_snoc {α : Type} (f : Nat → α) (t : Nat) : (List.range (t + 1)).map f = (List.range t).map f ++ [f t] := by
  rw [List.range_succ, List.map_append]
  rfl
theorem allM_nonneg (co : Co) (b : Int) (hb : 1 ≤ b) (t : Nat) : 0 ≤ allM co b t := by
  induction t with
  | zero => exact Int.le_refl 0
  | succ t ih =>
    rw [allM_succ]
    split
    · exact ih
    · exact Int.le_trans ih (Int.le_max_left _ _)
theorem ticks_quo (q : Nat) (b : Int) (hb : 1 ≤ b) : ((q : Int) + b - 1).tdiv b = ticksOf q b := by
  unfold ticksOf
  rw [Int.tdiv_eq_ediv_of_nonneg (by omega)]
  split
  · have : (q : Int) = 0 := by omega
    rw [this]
    exact Int.ediv_eq_zero_of_lt (by omega) (by omega)
  · rw [if_neg (by omega)]
theorem ticks_quoI (n b : Int) (hn : 0 ≤ n) (hb : 1 ≤ b) : (n + b - 1).tdiv b = ticksOf n b := by
  have h := ticks_quo n.toNat b hb
  rw [show ((n.toNat : Nat) : Int) = n by omega] at h
  exact h
/-- Cells joined to those that are kept already. -/
theorem cls_join {w0 w : World} {L : List HP} {ps : List (Option Nat)} {cs : List (Option Cl)} {N : Nat} {p : Option Nat} {c : Option Cl} (h : St w0 w L) (i j : Nat) (hij : i ≠ j) (hi : L[i]? = some (sepL (clsL ps cs N))) (hj : L[j]? = some (optP N p c)) (hl : ps.length = cs.length) : St w0 w ((L.set j emp).set i (sepL (clsL (ps ++ [p]) (cs ++ [c]) N))) := by
  refine h.merge i j hij hi hj fun f s => ?_
  rw [cls_snoc _ _ _ _ _ hl]
  obtain ⟨own, ho⟩ := s
  obtain ⟨own2, ho2⟩ := ho 0 _ rfl
  have h1 := ho 1 _ rfl
  refine ⟨fun b => if own b = 0 then (if own2 b < (clsL ps cs N).length then own2 b else (clsL ps cs N).length + 1) else if own b = 1 then (clsL ps cs N).length else (clsL ps cs N).length + 1, fun m P hm => ?_⟩
  by_cases hml : m < (clsL ps cs N).length
  · rw [List.getElem?_append_left hml] at hm
    have := ho2 m P hm
    rw [part_part] at this
    refine cast (congrArg P (part_own fun b => ?_)) this
    simp only [beq_iff_eq, Bool.and_eq_true]
    constructor
    · rintro ⟨e1, e2⟩
      rw [if_pos e1, if_pos (by omega), e2]
    · intro e
      split at e
      · split at e
        · exact ⟨by assumption, e⟩
        · omega
      · split at e <;> omega
  · rw [List.getElem?_append_right (by omega)] at hm
    have hk := (List.getElem?_eq_some_iff.1 hm).1
    obtain rfl : m = (clsL ps cs N).length := by simp at hk; omega
    simp at hm
    subst hm
    refine cast (congrArg _ (part_own fun b => ?_)) h1
    simp only [beq_iff_eq]
    constructor
    · intro e
      rw [if_neg (by omega), if_pos e]
    · intro e
      split at e
      · split at e <;> omega
      · split at e
        · assumption
        · omega
set_option maxHeartbeats 16000000 in
set_option maxRecDepth 200000 in
theorem BoundTells_any (w : World) (cs : Array Value) (k : SetQ) (hk : isStq w cs.toList k) (al : Option Addr) (cap : Nat) (l : List ActQR) (hle : l.length ≤ cap) (hmx : cap ≤ maxLen) (hnil : al = none → cap = 0) (hl : SlAt 15 isAq w al l) (bu : Int) (hbu : (Lit.int .i64 bu).wf = true) (ro : Int) (hro : (Lit.int .i64 ro).wf = true) (fe : Int) (hfe : (Lit.int .i64 fe).wf = true) :
    Calls Tryz.prog 7 #[.agg cs, .slice al l.length cap, .int .i64 bu, .int .i64 ro, .int .i64 fe] w fun e w' => e = .returned (.bool true) ∧ Below w.heap.size w w' := by
  obtain ⟨ka, kc, hcs, hks, hkw, hkl⟩ := hk
  obtain rfl : cs = #[.int .i64 k.budget, .int .i64 k.room, .int .i64 k.quota, .slice ka k.sinks.length kc] := by
    obtain ⟨cl⟩ := cs
    dsimp only at hcs
    rw [hcs]
  clear hcs
  have hrc := i64_range hbu
  obtain ⟨hla, hlq⟩ := hl.aq
  have hlm : l.length ≤ maxLen := by omega
  have HLA := Lib.hid hla
  have HAT : RowKit.Hid (∀ R : HP, ∀ x ∈ l, Seen w R 1 (intC .i64) x.oa x.p.ops ∧ Seen w R 1 (intC .i64) x.na x.p.ns ∧ x.q.wf) := Lib.hid (fun R x hx => ⟨Seen.old (hlq x hx).1, Seen.old (hlq x hx).2.1, (hlq x hx).2.2⟩)
  clear hla hlq hl hnil hle hmx
  have h0 : St w (w.alloc (.cells #[.int .i64 k.budget, .int .i64 k.room, .int .i64 k.quota, .slice ka k.sinks.length kc] 24)) [pt w.heap.size (.cells #[.int .i64 k.budget, .int .i64 k.room, .int .i64 k.quota, .slice ka k.sinks.length kc] 24 (0, 0))] := (St.start w).alloc (.cells #[.int .i64 k.budget, .int .i64 k.room, .int .i64 k.quota, .slice ka k.sinks.length kc] 24)
  have hse := setup_st h0 k ka kc (Seen.old hks) hkw hkl (sksOf k) rfl
  have k0 := (blkCells (h0.blk 0 rfl).1).1
  have k1 := (k0 0).trans rfl
  have k2 := (k0 1).trans rfl
  have k3 := (k0 2).trans rfl
  have k4 := (k0 3).trans rfl
  have HSE := Lib.hid hse
  have hsl := sksOf_len k
  have HSW := Lib.hid (sksOf_wf k)
  clear h0 hse k0 hks hkw hkl
  clear hbu
  go_enter Tryz.func7, Tryz.ntmps7
  obtain ⟨b, hbe, hb1, hb8⟩ : ∃ b : Int, within bu 1 8 = b ∧ 1 ≤ b ∧ b ≤ 8 := ⟨_, rfl, by have := within_range bu 1 8 (by omega); omega, by have := within_range bu 1 8 (by omega); omega⟩
  have hwi := fun w' => Within_at bu 1 8 w' hrc.1 hrc.2 (by omega) (by omega) (by omega)
  rw [hbe] at hwi
  have HWI := Lib.hid hwi
  clear hwi hbe
  go_upto_region 8 with (first
    | (go_at_call 11; (with_reducible refine (HWI.out _).mono ?_); rintro e wz ⟨rfl, hwz⟩; subst hwz)
    | (go_at_call 16; (with_reducible refine HDO.out.mono ?_); rintro e w5 ⟨v5, zs, rfl, hzs, h5⟩; obtain ⟨za, zc, rfl, _⟩ := h5.sl AnsR.len 2 rfl; have hzl : zs.length = us.length := (by have := congrArg List.length hzs; rw [List.length_map, ans_len, List.length_map] at this; exact this); rw [hzl] at h5; have h5 : St w w5 [pt w.heap.size (.cells #[.int .i64 k.budget, .int .i64 k.room, .int .i64 k.quota, .slice ka k.sinks.length kc] 24 (0, 0)), ownP 113 5 Sk.cells (.slice na (sksOf k).length nc) (sksOf k), coP cb ma mc ((newCo (suOf k)).after (us.map ActR.val)) (0 + 9 * us.length), ownP 113 5 Sk.cells (.slice ma (sksOf k).length mc) (sksOf k), ownP 67 15 ActR.cells (.slice aa us.length ac) us, poolP actP us, ownP 51 3 AnsR.cells (.slice za us.length zc) zs, poolP ansP zs] := h5.back (n := 2) (by simp); have h6 : St w w5 [pt w.heap.size (.cells #[.int .i64 k.budget, .int .i64 k.room, .int .i64 k.quota, .slice ka k.sinks.length kc] 24 (0, 0)), ownP 113 5 Sk.cells (.slice na (sksOf k).length nc) (sksOf k), coP cb ma mc ((newCo (suOf k)).after (us.map ActR.val)) (0 + 9 * us.length), ownP 113 5 Sk.cells (.slice ma (sksOf k).length mc) (sksOf k), ownP 67 15 ActR.cells (.slice aa us.length ac) us, poolP actP us, ownP 51 3 AnsR.cells (.slice za us.length zc) zs, poolP ansP zs, sepL (clsL ([] : List (Option Nat)) ((List.range 0).map fun i : Nat => Co.at ((newCo (suOf k)).after (us.map ActR.val)) (i : Int)) (0 + 9 * us.length)), ownP 72 1 ptrC (.slice none 0 0) ([] : List (Option Nat))] := (h5.emp (sepL (clsL ([] : List (Option Nat)) ((List.range 0).map fun i : Nat => Co.at ((newCo (suOf k)).after (us.map ActR.val)) (i : Int)) (0 + 9 * us.length))) (fun f => ⟨fun _ => 0, fun i P hi => (by simp [clsL] at hi)⟩)).nil 72 1 ptrC; have H6 := Lib.hid h6; clear h5 h6 hzs hzl HDO)
    | (go_at_call 13; (with_reducible refine HAC.out.mono ?_); rintro e w4 ⟨va, us, rfl, hus, h4⟩; obtain ⟨aa, ac, rfl, hac, _⟩ := h4.sl ActR.len 4 rfl; have hul := vals_len hus; have HOU := Lib.hid (vals_ok hus); have HDO := Lib.hid (doAll_in (h4.front 2 rfl) (Seen.own Sk.len 3 rfl) (sk_nil h4 3 rfl) us aa ac (Seen.own ActR.len 4 rfl) (acts_ok h4 5 rfl HOU.out _ 5 rfl) (by omega)); clear h4 hus HAC)
    | (go_at_call 14; (with_reducible refine HNE.out.mono ?_); rintro e w2 ⟨cb, ma, mc, rfl, h2⟩; have HAC := Lib.hid (acts_st h2 al cap l (Seen.old HLA.out) (HAT.out _) hlm); clear h2 HNE)
    | (go_at_call 10; (with_reducible refine HSE.out.mono ?_); rintro e w1 ⟨na, nc, rfl, h1⟩; have hne := coreNew_st h1 (suOf k) na nc (h1.slOf Sk.len 1 rfl) (sk_nil h1 1 rfl) (suOf_right k) HSW.out; have hne : Calls Tryz.prog 14 #[.agg #[.int .i64 (within k.budget 1 4), .int .i64 (within k.room 1 8), .int .i64 (within k.quota 0 30), .slice na (sksOf k).length nc]] w1 _ := hne; have HNE := Lib.hid hne; clear hne h1 HSE))
  go_wp2_with fail
  go_loopw [13, 14, 15, 33] (fun mv cv pv iv wr => ∃ (t : Nat) (ps : List (Option Nat)), t ≤ 8 ∧ RowKit.Hid (ps.length = t) ∧ mv = .int .i64 (allM ((newCo (suOf k)).after (us.map ActR.val)) b t) ∧ cv = .bool (((List.range t).map fun i : Nat => Co.at ((newCo (suOf k)).after (us.map ActR.val)) (i : Int)).all clearO) ∧ iv = .int .i64 t ∧ St w wr [pt w.heap.size (.cells #[.int .i64 k.budget, .int .i64 k.room, .int .i64 k.quota, .slice ka k.sinks.length kc] 24 (0, 0)), ownP 113 5 Sk.cells (.slice na (sksOf k).length nc) (sksOf k), coP cb ma mc ((newCo (suOf k)).after (us.map ActR.val)) (0 + 9 * us.length), ownP 113 5 Sk.cells (.slice ma (sksOf k).length mc) (sksOf k), ownP 67 15 ActR.cells (.slice aa us.length ac) us, poolP actP us, ownP 51 3 AnsR.cells (.slice za us.length zc) zs, poolP ansP zs, sepL (clsL ps ((List.range t).map fun i : Nat => Co.at ((newCo (suOf k)).after (us.map ActR.val)) (i : Int)) (0 + 9 * us.length)), ownP 72 1 ptrC pv ps]) (fun _ _ _ iv _ => 8 - (intOf iv).toNat)
  case atStart => exact ⟨0, [], by omega, Lib.hid rfl, rfl, rfl, rfl, H6.out⟩
  case round =>
    clear H6
    obtain ⟨t, ps, ht, HPL, rfl, rfl, rfl, hst⟩ := hrel
    obtain ⟨pa, pc, hov, _⟩ := hst.sl ptrC_len 9 rfl
    subst hov
    by_cases hlt : (t : Int) < 8
    · have hsu := allM_succ ((newCo (suOf k)).after (us.map ActR.val)) b t
      have hal : ((List.range (t + 1)).map fun i : Nat => Co.at ((newCo (suOf k)).after (us.map ActR.val)) (i : Int)).all clearO = (((List.range t).map fun i : Nat => Co.at ((newCo (suOf k)).after (us.map ActR.val)) (i : Int)).all clearO && clearO (Co.at ((newCo (suOf k)).after (us.map ActR.val)) (t : Int))) := by rw [range_snoc, List.all_append]; simp
      have hrs := range_snoc (fun i : Nat => Co.at ((newCo (suOf k)).after (us.map ActR.val)) (i : Int)) t
      have hm0 := allM_nonneg ((newCo (suOf k)).after (us.map ActR.val)) b hb1 t
      have hcl : (((List.range t).map fun i : Nat => Co.at ((newCo (suOf k)).after (us.map ActR.val)) (i : Int))).length = t := by simp
      generalize hgm : allM ((newCo (suOf k)).after (us.map ActR.val)) b t = m0 at *
      generalize hgc : ((List.range t).map fun i : Nat => Co.at ((newCo (suOf k)).after (us.map ActR.val)) (i : Int)).all clearO = c0 at *
      have HCE := Lib.hid (coreCell_in (hst.front 2 rfl) (t : Int) (by omega))
      have HSU := Lib.hid hsu
      have HAL := Lib.hid hal
      have HRS := Lib.hid hrs
      have HCL0 := Lib.hid hcl
      clear hst hsu hal hrs hcl hgm hgc
      go_upto_region 13 with (go_at_call 29; (with_reducible refine HCE.out.mono ?_); rintro e w5 ⟨p, rfl, h5⟩; have h6 : St w w5 [pt w.heap.size (.cells #[.int .i64 k.budget, .int .i64 k.room, .int .i64 k.quota, .slice ka k.sinks.length kc] 24 (0, 0)), ownP 113 5 Sk.cells (.slice na (sksOf k).length nc) (sksOf k), coP cb ma mc ((newCo (suOf k)).after (us.map ActR.val)) (0 + 9 * us.length), ownP 113 5 Sk.cells (.slice ma (sksOf k).length mc) (sksOf k), ownP 67 15 ActR.cells (.slice aa us.length ac) us, poolP actP us, ownP 51 3 AnsR.cells (.slice za us.length zc) zs, poolP ansP zs, sepL (clsL ps ((List.range t).map fun i : Nat => Co.at ((newCo (suOf k)).after (us.map ActR.val)) (i : Int)) (0 + 9 * us.length)), ownP 72 1 ptrC (.slice pa ps.length pc) ps, optP (0 + 9 * us.length) p (Co.at ((newCo (suOf k)).after (us.map ActR.val)) (t : Int))] := h5.back (n := 2) (by simp); have H6 := Lib.hid h6; clear h5 h6 HCE)
      have hjn : ∀ (w' : World) (v : Value), St w w' [pt w.heap.size (.cells #[.int .i64 k.budget, .int .i64 k.room, .int .i64 k.quota, .slice ka k.sinks.length kc] 24 (0, 0)), ownP 113 5 Sk.cells (.slice na (sksOf k).length nc) (sksOf k), coP cb ma mc ((newCo (suOf k)).after (us.map ActR.val)) (0 + 9 * us.length), ownP 113 5 Sk.cells (.slice ma (sksOf k).length mc) (sksOf k), ownP 67 15 ActR.cells (.slice aa us.length ac) us, poolP actP us, ownP 51 3 AnsR.cells (.slice za us.length zc) zs, poolP ansP zs, sepL (clsL ps ((List.range t).map fun i : Nat => Co.at ((newCo (suOf k)).after (us.map ActR.val)) (i : Int)) (0 + 9 * us.length)), ownP 72 1 ptrC v (ps ++ [p]), optP (0 + 9 * us.length) p (Co.at ((newCo (suOf k)).after (us.map ActR.val)) (t : Int))] → St w w' [pt w.heap.size (.cells #[.int .i64 k.budget, .int .i64 k.room, .int .i64 k.quota, .slice ka k.sinks.length kc] 24 (0, 0)), ownP 113 5 Sk.cells (.slice na (sksOf k).length nc) (sksOf k), coP cb ma mc ((newCo (suOf k)).after (us.map ActR.val)) (0 + 9 * us.length), ownP 113 5 Sk.cells (.slice ma (sksOf k).length mc) (sksOf k), ownP 67 15 ActR.cells (.slice aa us.length ac) us, poolP actP us, ownP 51 3 AnsR.cells (.slice za us.length zc) zs, poolP ansP zs, sepL (clsL (ps ++ [p]) ((List.range (t + 1)).map fun i : Nat => Co.at ((newCo (suOf k)).after (us.map ActR.val)) (i : Int)) (0 + 9 * us.length)), ownP 72 1 ptrC v (ps ++ [p])] := fun w' v h => by
        have := (cls_join h 8 10 (by decide) rfl rfl (HPL.out.trans HCL0.out.symm)).pick [0, 1, 2, 3, 4, 5, 6, 7, 8, 9] (by simp)
        rw [← HRS.out] at this
        exact this
      have HJN := Lib.hid hjn
      have HPL2 : RowKit.Hid ((ps ++ [p]).length = t + 1) := Lib.hid (by rw [List.length_append, HPL.out]; rfl)
      have hpm : ps.length < 1099511627776 := by have := HPL.out; omega
      clear hjn
      rcases hca : Co.at ((newCo (suOf k)).after (us.map ActR.val)) (t : Int) with _ | cl
      · have h6 := H6.out
        rw [hca] at h6 HSU HAL HJN
        have hp := optP_none h6 10 rfl
        subst hp
        rw [show ptrV none = .pointer none from rfl]
        have hal : clearO none = true := rfl
        rw [hal, Bool.and_true] at HAL
        have HTN := Lib.hid (boundTicks_nil b)
        have h7 := h6.alloc (.cells #[.pointer none] 72)
        have hcl := clear_any (w5.alloc (.cells #[.pointer none] 72)) [none] [none] 1 rfl rfl (fun k h1 h2 => by obtain rfl : k = 0 := (by simp at h1; omega); trivial) (some ⟨w5.heap.size, 0, none⟩) 1 (SlAt.one ptrC_len (x := none) (h7.blk 11 rfl).1) (by omega)
        have hcl : Calls Tryz.prog 36 #[.slice (some ⟨w5.heap.size, 0, none⟩) 1 1] (w5.alloc (.cells #[.pointer none] 72)) fun e w' => e = .returned (.bool true) ∧ Below (w5.alloc (.cells #[.pointer none] 72)).heap.size (w5.alloc (.cells #[.pointer none] 72)) w' := hcl
        have HCLR := Lib.hid hcl
        have H7 := Lib.hid h7
        have hmx : max m0 0 = m0 := by omega
        clear h6 h7 hcl H6 hca hal
        cases c0 <;> (
          go_wp2_with (first
            | (go_at_call 35; (with_reducible refine (HTN.out _).mono ?_); rintro e wz ⟨rfl, hwz⟩; have hwz := hwz.symm; subst hwz)
            | (go_at_call 36; (with_reducible refine HCLR.out.mono ?_); rintro e w8 ⟨rfl, hb8⟩; have h8 := H7.out.kept hb8; have H8 := Lib.hid (h8.alloc (.cells #[.pointer none] 72)); clear h8 hb8 HCLR)
            | (at_builtin; refine wpList_push_st ptrElem rfl H8.out 9 rfl _ _ rfl rfl _ none rfl (H8.out.blk 12 rfl).1 hpm ?_; intro v9 w9 h9 _; have H9 := Lib.hid (h9.pick [0, 1, 2, 3, 4, 5, 6, 7, 8, 9, 10] (by simp)); clear h9 H8))
          go_roundw
          case rel => exact ⟨t + 1, ps ++ [none], by omega, HPL2, by rw [HSU.out], by rw [HAL.out], by go_num, HJN.out _ _ H9.out⟩
          case measure => simp [intOf]; omega)
      · have h6 := H6.out
        rw [hca] at h6 HSU HAL HJN
        obtain ⟨d, hp⟩ := optP_some h6 10 rfl
        subst hp
        rw [show ptrV (some d) = .pointer (some ⟨d, 0, none⟩) from rfl]
        have h6 : St w w5 [pt w.heap.size (.cells #[.int .i64 k.budget, .int .i64 k.room, .int .i64 k.quota, .slice ka k.sinks.length kc] 24 (0, 0)), ownP 113 5 Sk.cells (.slice na (sksOf k).length nc) (sksOf k), coP cb ma mc ((newCo (suOf k)).after (us.map ActR.val)) (0 + 9 * us.length), ownP 113 5 Sk.cells (.slice ma (sksOf k).length mc) (sksOf k), ownP 67 15 ActR.cells (.slice aa us.length ac) us, poolP actP us, ownP 51 3 AnsR.cells (.slice za us.length zc) zs, poolP ansP zs, sepL (clsL ps ((List.range t).map fun i : Nat => Co.at ((newCo (suOf k)).after (us.map ActR.val)) (i : Int)) (0 + 9 * us.length)), ownP 72 1 ptrC (.slice pa ps.length pc) ps, optP (0 + 9 * us.length) (some d) (some cl)] := h6
        have hk := lookC_of (c := cl) (b := d) (N := (0 + 9 * us.length)) h6 10 rfl (by omega)
        clear hca H6
        obtain ⟨tk0, tk1⟩ := ticksOf_nonneg cl.q.length b hb1
        have hqq := ticks_quo cl.q.length b hb1
        have hco : clearO (some cl) = ((cl.q.length == 0) && (cl.rn.L.length == 0)) := rfl
        rw [hco] at HAL
        clear hco
        obtain ⟨rb, pb, qa, qc, ⟨g1, g2⟩, ⟨c1, c2, c3⟩, hql, hln⟩ := hk
        have hcc : ∀ w', Below w5.heap.size w5 w' → (w'.cell? ⟨d, 3, none⟩ = some (.slice qa cl.q.length qc) ∧ w'.cell? ⟨d, 4, none⟩ = some (.pointer (some ⟨rb, 0, none⟩)) ∧ w'.cell? ⟨rb, 3, none⟩ = some (.pointer (some ⟨pb, 0, none⟩))) := fun w' hb => ⟨(hb.cell g1).trans c1, (hb.cell g1).trans c2, (hb.cell g2).trans c3⟩
        have hlk : ∀ w', Below w5.heap.size w5 w' → lookC w' d cl := fun w' hb => lookC.below ⟨rb, pb, qa, qc, ⟨g1, g2⟩, ⟨c1, c2, c3⟩, hql, hln⟩ hb
        have HLN := Lib.hid hln
        have HLK := Lib.hid hlk
        have HCC := Lib.hid hcc
        have H6 := Lib.hid h6
        obtain ⟨ql, hqe⟩ : ∃ n, cl.q.length = n := ⟨_, rfl⟩
        have HQE := Lib.hid hqe
        have HSU : RowKit.Hid (allM ((newCo (suOf k)).after (us.map ActR.val)) b (t + 1) = max m0 (ticksOf cl.q.length b)) := HSU
        rw [hqe] at hql tk0 tk1 hqq c1 HCC HSU HAL
        have HW1 := Lib.hid (waiting_any qa ql qc w5)
        have hw1 : wrap64 ((ql : Int) + b) = ql + b := wrap64_id (by omega) (by omega)
        have hw2 : wrap64 ((ql : Int) + b - 1) = ql + b - 1 := wrap64_id (by omega) (by omega)
        clear hln hlk hcc h6 hqe
        by_cases hq0 : ql = 0
        · have htz : ticksOf ((0 : Nat) : Int) b = 0 := rfl
          subst hq0
          rw [htz] at HSU tk0 tk1 hqq
          have hw3 : wrap64 b = b := wrap64_id (by omega) (by omega)
          have hw4 : wrap64 (b - 1) = b - 1 := wrap64_id (by omega) (by omega)
          have hqz : (b - 1).tdiv b = 0 := by
            have h := hqq
            rw [show (((0 : Nat) : Int) + b - 1) = b - 1 by omega] at h
            exact h
          have hmx : max m0 0 = m0 := by omega
          obtain ⟨ll, hle⟩ : ∃ n, cl.rn.L.length = n := ⟨_, rfl⟩
          have HLE := Lib.hid hle
          rw [hle] at HLN HAL
          clear hw1 hw2 hqq hle htz tk0 tk1
          by_cases hl0 : ll = 0
          · subst hl0
            have HAL : RowKit.Hid (((List.range (t + 1)).map fun i : Nat => Co.at ((newCo (suOf k)).after (us.map ActR.val)) (i : Int)).all clearO = (c0 && true)) := HAL
            rw [Bool.and_true] at HAL
            cases c0 <;> (
              go_wp2_with (first
                | (go_at_call 33; (with_reducible refine HW2.out.mono ?_); rintro e w7 ⟨rfl, hb7⟩; have hb75 := HB6.out.trans (hb7.mono HB6.out.size); obtain ⟨f1, f2, f3⟩ := HCC.out _ hb75; have HLC := Lib.hid (HLN.out _ hb75); have HB7 := Lib.hid hb75; clear hb7 hb75 HW2)
                | (go_at_call 33; (with_reducible refine HW1.out.mono ?_); rintro e w6 ⟨rfl, hb6⟩; obtain ⟨d1, d2, d3⟩ := HCC.out _ hb6; have HB6 := Lib.hid hb6; have HW2 := Lib.hid (waiting_any qa 0 qc w6); clear hb6 HW1)
                | (go_at_call 34; (with_reducible refine HLC.out.mono ?_); rintro e w8 ⟨rfl, hb8⟩; have hb85 := HB7.out.trans (hb8.mono HB7.out.size); have htk := boundTicks_look (HLK.out _ hb85) b; rw [HQE.out] at htk; have htk : Calls Tryz.prog 35 #[.pointer (some ⟨d, 0, none⟩), .int .i64 b] w8 fun e w' => e = .returned (.int .i64 0) ∧ Below w8.heap.size w8 w' := htk; have HTK := Lib.hid htk; have HB8 := Lib.hid hb85; clear hb8 hb85 htk HLC)
                | (go_at_call 35; (with_reducible refine HTK.out.mono ?_); rintro e w9 ⟨rfl, hb9⟩; have hb95 := HB8.out.trans (hb9.mono HB8.out.size); have h9 := H6.out.kept hb95; have h10 := h9.alloc (.cells #[.pointer (some ⟨d, 0, none⟩)] 72); have hl9 := (HLK.out _ hb95).below (show Below w9.heap.size w9 (w9.alloc (.cells #[.pointer (some ⟨d, 0, none⟩)] 72)) from (Below.refl _ _).alloc (Nat.le_refl _) _); have hcl := clear_any (w9.alloc (.cells #[.pointer (some ⟨d, 0, none⟩)] 72)) [some d] [some cl] 1 rfl rfl (fun k h1 h2 => (by obtain rfl : k = 0 := (by simp at h1; omega); exact hl9)) (some ⟨w9.heap.size, 0, none⟩) 1 (SlAt.one ptrC_len (x := some d) (h10.blk 11 rfl).1) (by omega); rw [show [some cl].all clearO = true from (by show (((cl.q.length == 0) && (cl.rn.L.length == 0)) && true) = true; rw [HQE.out, HLE.out]; rfl)] at hcl; have HCLR := Lib.hid hcl; have H10 := Lib.hid h10; clear h9 h10 hl9 hcl hb9 hb95 HTK)
                | (go_at_call 36; (with_reducible refine HCLR.out.mono ?_); rintro e wa ⟨rfl, hba⟩; have ha := H10.out.kept hba; have HA := Lib.hid (ha.alloc (.cells #[.pointer (some ⟨d, 0, none⟩)] 72)); clear ha hba HCLR)
                | (at_builtin; refine wpList_push_st ptrElem rfl HA.out 9 rfl _ _ rfl rfl _ (some d) rfl (HA.out.blk 12 rfl).1 hpm ?_; intro vb wb hb _; have HZ := Lib.hid (hb.pick [0, 1, 2, 3, 4, 5, 6, 7, 8, 9, 10] (by simp)); clear hb HA))
              go_roundw
              case rel => exact ⟨t + 1, ps ++ [some d], by omega, HPL2, by rw [HSU.out, hmx], by rw [HAL.out], by go_num, HJN.out _ _ HZ.out⟩
              case measure => simp [intOf]; omega)
          · have hlp : (0 : Int) < ll := by omega
            have hln : ((ll : Int) == 0) = false := by simp; omega
            have hld : decide ((ll : Int) = 0) = false := by simp; omega
            have hlb : (((0 : Nat) == 0) && (ll == 0)) = false := by simp [hl0]
            rw [hlb, Bool.and_false] at HAL
            have HLB := Lib.hid hlb
            clear hlb hl0
            cases c0 <;> (
              go_wp2_with (first
                | (go_at_call 33; (with_reducible refine HW2.out.mono ?_); rintro e w7 ⟨rfl, hb7⟩; have hb75 := HB6.out.trans (hb7.mono HB6.out.size); obtain ⟨f1, f2, f3⟩ := HCC.out _ hb75; have HLC := Lib.hid (HLN.out _ hb75); have HB7 := Lib.hid hb75; clear hb7 hb75 HW2)
                | (go_at_call 33; (with_reducible refine HW1.out.mono ?_); rintro e w6 ⟨rfl, hb6⟩; obtain ⟨d1, d2, d3⟩ := HCC.out _ hb6; have HB6 := Lib.hid hb6; have HW2 := Lib.hid (waiting_any qa 0 qc w6); clear hb6 HW1)
                | (go_at_call 34; (with_reducible refine HLC.out.mono ?_); rintro e w8 ⟨rfl, hb8⟩; have hb85 := HB7.out.trans (hb8.mono HB7.out.size); have htk := boundTicks_look (HLK.out _ hb85) b; rw [HQE.out] at htk; have htk : Calls Tryz.prog 35 #[.pointer (some ⟨d, 0, none⟩), .int .i64 b] w8 fun e w' => e = .returned (.int .i64 0) ∧ Below w8.heap.size w8 w' := htk; have HTK := Lib.hid htk; have HB8 := Lib.hid hb85; clear hb8 hb85 htk HLC)
                | (go_at_call 35; (with_reducible refine HTK.out.mono ?_); rintro e w9 ⟨rfl, hb9⟩; have hb95 := HB8.out.trans (hb9.mono HB8.out.size); have h9 := H6.out.kept hb95; have h10 := h9.alloc (.cells #[.pointer (some ⟨d, 0, none⟩)] 72); have hl9 := (HLK.out _ hb95).below (show Below w9.heap.size w9 (w9.alloc (.cells #[.pointer (some ⟨d, 0, none⟩)] 72)) from (Below.refl _ _).alloc (Nat.le_refl _) _); have hcl := clear_any (w9.alloc (.cells #[.pointer (some ⟨d, 0, none⟩)] 72)) [some d] [some cl] 1 rfl rfl (fun k h1 h2 => (by obtain rfl : k = 0 := (by simp at h1; omega); exact hl9)) (some ⟨w9.heap.size, 0, none⟩) 1 (SlAt.one ptrC_len (x := some d) (h10.blk 11 rfl).1) (by omega); rw [show [some cl].all clearO = false from (by show (((cl.q.length == 0) && (cl.rn.L.length == 0)) && true) = false; rw [HQE.out, HLE.out, HLB.out]; rfl)] at hcl; have HCLR := Lib.hid hcl; have H10 := Lib.hid h10; clear h9 h10 hl9 hcl hb9 hb95 HTK)
                | (go_at_call 36; (with_reducible refine HCLR.out.mono ?_); rintro e wa ⟨rfl, hba⟩; have ha := H10.out.kept hba; have HA := Lib.hid (ha.alloc (.cells #[.pointer (some ⟨d, 0, none⟩)] 72)); clear ha hba HCLR)
                | (at_builtin; refine wpList_push_st ptrElem rfl HA.out 9 rfl _ _ rfl rfl _ (some d) rfl (HA.out.blk 12 rfl).1 hpm ?_; intro vb wb hb _; have HZ := Lib.hid (hb.pick [0, 1, 2, 3, 4, 5, 6, 7, 8, 9, 10] (by simp)); clear hb HA))
              go_roundw
              case rel => exact ⟨t + 1, ps ++ [some d], by omega, HPL2, by rw [HSU.out, hmx], by rw [HAL.out], by go_num, HJN.out _ _ HZ.out⟩
              case measure => simp [intOf]; omega)
        · have hqp : (0 : Int) < ql := by omega
          have hqn : ((ql : Int) == 0) = false := by simp; omega
          have hqd : decide ((ql : Int) = 0) = false := by simp; omega
          have hqb : ((ql == 0) && (cl.rn.L.length == 0)) = false := by simp [hq0]
          rw [hqb, Bool.and_false] at HAL
          have HQB : RowKit.Hid (((ql == 0) && (cl.rn.L.length == 0)) = false) := Lib.hid (by simp [hq0])
          clear hqb hq0
          cases c0 <;> (
            go_wp2_with (first
              | (go_at_call 33; (with_reducible refine HW2.out.mono ?_); rintro e w7 ⟨rfl, hb7⟩; have hb75 := HB6.out.trans (hb7.mono HB6.out.size); have htk := boundTicks_look (HLK.out _ hb75) b; rw [HQE.out] at htk; have HTK := Lib.hid htk; have HB7 := Lib.hid hb75; clear hb7 hb75 htk HW2)
              | (go_at_call 33; (with_reducible refine HW1.out.mono ?_); rintro e w6 ⟨rfl, hb6⟩; obtain ⟨d1, d2, d3⟩ := HCC.out _ hb6; have HB6 := Lib.hid hb6; have HW2 := Lib.hid (waiting_any qa ql qc w6); clear hb6 HW1)
              | (go_at_call 35; (with_reducible refine HTK.out.mono ?_); rintro e w9 ⟨rfl, hb9⟩; have hb95 := HB7.out.trans (hb9.mono HB7.out.size); have h9 := H6.out.kept hb95; have h10 := h9.alloc (.cells #[.pointer (some ⟨d, 0, none⟩)] 72); have hl9 := (HLK.out _ hb95).below (show Below w9.heap.size w9 (w9.alloc (.cells #[.pointer (some ⟨d, 0, none⟩)] 72)) from (Below.refl _ _).alloc (Nat.le_refl _) _); have hcl := clear_any (w9.alloc (.cells #[.pointer (some ⟨d, 0, none⟩)] 72)) [some d] [some cl] 1 rfl rfl (fun k h1 h2 => (by obtain rfl : k = 0 := (by simp at h1; omega); exact hl9)) (some ⟨w9.heap.size, 0, none⟩) 1 (SlAt.one ptrC_len (x := some d) (h10.blk 11 rfl).1) (by omega); rw [show [some cl].all clearO = false from (by show (((cl.q.length == 0) && (cl.rn.L.length == 0)) && true) = false; rw [HQE.out, HQB.out]; rfl)] at hcl; have HCLR := Lib.hid hcl; have H10 := Lib.hid h10; clear h9 h10 hl9 hcl hb9 hb95 HTK)
              | (go_at_call 36; (with_reducible refine HCLR.out.mono ?_); rintro e wa ⟨rfl, hba⟩; have ha := H10.out.kept hba; have HA := Lib.hid (ha.alloc (.cells #[.pointer (some ⟨d, 0, none⟩)] 72)); clear ha hba HCLR)
              | (at_builtin; refine wpList_push_st ptrElem rfl HA.out 9 rfl _ _ rfl rfl _ (some d) rfl (HA.out.blk 12 rfl).1 hpm ?_; intro vb wb hb _; have HZ := Lib.hid (hb.pick [0, 1, 2, 3, 4, 5, 6, 7, 8, 9, 10] (by simp)); clear hb HA))
            go_roundw
            case rel => exact ⟨t + 1, ps ++ [some d], by omega, HPL2, by rw [HSU.out], by rw [HAL.out], by go_num, HJN.out _ _ HZ.out⟩
            case measure => simp [intOf]; omega)
    · obtain rfl : t = 8 := by omega
      rw [HPL.out] at hst ⊢
      have hst : St w wr [pt w.heap.size (.cells #[.int .i64 k.budget, .int .i64 k.room, .int .i64 k.quota, .slice ka k.sinks.length kc] 24 (0, 0)), ownP 113 5 Sk.cells (.slice na (sksOf k).length nc) (sksOf k), coP cb ma mc ((newCo (suOf k)).after (us.map ActR.val)) (0 + 9 * us.length), ownP 113 5 Sk.cells (.slice ma (sksOf k).length mc) (sksOf k), ownP 67 15 ActR.cells (.slice aa us.length ac) us, poolP actP us, ownP 51 3 AnsR.cells (.slice za us.length zc) zs, poolP ansP zs, sepL (clsL ps ((List.range 8).map fun i : Nat => Co.at ((newCo (suOf k)).after (us.map ActR.val)) (i : Int)) (0 + 9 * us.length)), ownP 72 1 ptrC (.slice pa 8 pc) ps] := hst
      have hlk : ∀ j (h1 : j < ps.length) (h2 : j < (((List.range 8).map fun i : Nat => Co.at ((newCo (suOf k)).after (us.map ActR.val)) (i : Int))).length), lookP wr ps[j] (((List.range 8).map fun i : Nat => Co.at ((newCo (suOf k)).after (us.map ActR.val)) (i : Int)))[j] := fun j h1 h2 => by
        obtain ⟨g1, g2⟩ := hst.cellIn 8 rfl HPL.out (by simp) j (by have := HPL.out; omega)
        exact lookP_of g1 _ g2 (by omega)
      have HCF := Lib.hid (clear_any wr ps ((List.range 8).map fun i : Nat => Co.at ((newCo (suOf k)).after (us.map ActR.val)) (i : Int)) 8 HPL.out (by simp) hlk pa pc (hst.slOf ptrC_len 9 rfl) (by omega))
      have HBA := Lib.hid (boundAll_in (hst.drew.front 2 rfl) b hb1 (by omega))
      have HCFA := Lib.hid (fun (w' : World) (h : St w w' [pt w.heap.size (.cells #[.int .i64 k.budget, .int .i64 k.room, .int .i64 k.quota, .slice ka k.sinks.length kc] 24 (0, 0)), ownP 113 5 Sk.cells (.slice na (sksOf k).length nc) (sksOf k), coP cb ma mc ((newCo (suOf k)).after (us.map ActR.val)) (0 + 9 * us.length), ownP 113 5 Sk.cells (.slice ma (sksOf k).length mc) (sksOf k), ownP 67 15 ActR.cells (.slice aa us.length ac) us, poolP actP us, ownP 51 3 AnsR.cells (.slice za us.length zc) zs, poolP ansP zs, sepL (clsL ps ((List.range 8).map fun i : Nat => Co.at ((newCo (suOf k)).after (us.map ActR.val)) (i : Int)) (0 + 9 * us.length)), ownP 72 1 ptrC (.slice pa 8 pc) ps]) => (clear_any w' ps ((List.range 8).map fun i : Nat => Co.at ((newCo (suOf k)).after (us.map ActR.val)) (i : Int)) 8 HPL.out (by simp) (fun j h1 h2 => by
        obtain ⟨g1, g2⟩ := h.cellIn 8 rfl HPL.out (by simp) j (by have := HPL.out; omega)
        exact lookP_of g1 _ g2 (by omega)) pa pc (h.slOf ptrC_len 9 rfl) (by omega)))
      have HMO := Lib.hid (most_of ro fe b)
      have HBN := Lib.hid (boundAll_nil b)
      have HST := Lib.hid hst
      generalize hgm : allM ((newCo (suOf k)).after (us.map ActR.val)) b 8 = m0 at *
      generalize hgc : (((List.range 8).map fun i : Nat => Co.at ((newCo (suOf k)).after (us.map ActR.val)) (i : Int))).all clearO = c0 at *
      clear hst hlk HCF hgm hgc
      go_upto_region 23 with fail
      go_cut [114] from 109 to 114 (fun v wx => v = .bool (decide (ro < 0 ∨ 1099511627776 < ro)) ∧ wx = wr)
      case first =>
        by_cases d1 : ro < 0
        · go_wp2_with fail
          go_meet
          exact ⟨by simp [d1], rfl⟩
        · by_cases d2 : 1099511627776 < ro
          · go_wp2_with fail
            go_meet
            exact ⟨by simp [d2], rfl⟩
          · go_wp2_with fail
            go_meet
            exact ⟨by simp [d1, d2], rfl⟩
      case rest =>
       obtain ⟨rfl, hwc⟩ := hcut
       have hwc := hwc.symm
       subst hwc
       go_upto_if 114 with fail
       go_cut [20] from 109 to 114 (fun v wx => v = .int .i64 (someI ro) ∧ wx = wr)
       case first =>
         generalize hq : decide (ro < 0 ∨ 1099511627776 < ro) = q
         cases q
         · have hs : someI ro = ro := if_neg (of_decide_eq_false hq)
           clear hq
           go_wp2_with fail
           go_meet
           exact ⟨by rw [hs], rfl⟩
         · have hs : someI ro = 0 := if_pos (of_decide_eq_true hq)
           clear hq
           go_wp2_with fail
           go_meet
           exact ⟨by rw [hs], rfl⟩
       case rest =>
        obtain ⟨rfl, hwc⟩ := hcut
        have hwc := hwc.symm
        subst hwc
        go_upto_region 25 with fail
        go_cut [120] from 115 to 120 (fun v wx => v = .bool (decide (fe < 0 ∨ 1099511627776 < fe)) ∧ wx = wr)
        case first =>
          by_cases d1 : fe < 0
          · go_wp2_with fail
            go_meet
            exact ⟨by simp [d1], rfl⟩
          · by_cases d2 : 1099511627776 < fe
            · go_wp2_with fail
              go_meet
              exact ⟨by simp [d2], rfl⟩
            · go_wp2_with fail
              go_meet
              exact ⟨by simp [d1, d2], rfl⟩
        case rest =>
         obtain ⟨rfl, hwc⟩ := hcut
         have hwc := hwc.symm
         subst hwc
         go_upto_if 120 with fail
         go_cut [21] from 115 to 120 (fun v wx => v = .int .i64 (someI fe) ∧ wx = wr)
         case first =>
           generalize hq : decide (fe < 0 ∨ 1099511627776 < fe) = q
           cases q
           · have hs : someI fe = fe := if_neg (of_decide_eq_false hq)
             clear hq
             go_wp2_with fail
             go_meet
             exact ⟨by rw [hs], rfl⟩
           · have hs : someI fe = 0 := if_pos (of_decide_eq_true hq)
             clear hq
             go_wp2_with fail
             go_meet
             exact ⟨by rw [hs], rfl⟩
         case rest =>
          obtain ⟨rfl, hwc⟩ := hcut
          have hwc := hwc.symm
          subst hwc
          obtain ⟨r0, r1⟩ := someI_range ro
          obtain ⟨f0, f1⟩ := someI_range fe
          generalize someI ro = rn at *
          generalize someI fe = fn at *
          have hqi := ticks_quoI (rn + fn) b (by omega) hb1
          have hw1 : wrap64 (rn + fn) = rn + fn := wrap64_id (by omega) (by omega)
          have hw2 : wrap64 (rn + fn + b) = rn + fn + b := wrap64_id (by omega) (by omega)
          have hw3 : wrap64 (rn + fn + b - 1) = rn + fn + b - 1 := wrap64_id (by omega) (by omega)
          have hv1 : IntKind.i64.wrap (rn + fn) = rn + fn := (IntKind.wrap_i64 _).trans (by omega)
          have hv2 : IntKind.i64.wrap (rn + fn + b) = rn + fn + b := (IntKind.wrap_i64 _).trans (by omega)
          have hv3 : IntKind.i64.wrap (rn + fn + b - 1) = rn + fn + b - 1 := (IntKind.wrap_i64 _).trans (by omega)
          have hb0 : (b == 0) = false := by simp; omega
          have hbn : ¬ b = 0 := by omega
          have hbd : decide (b = 0) = false := by simp; omega
          have htr : 0 ≤ ticksOf (rn + fn) b ∧ ticksOf (rn + fn) b ≤ rn + fn := by
            have h := ticksOf_nonneg (rn + fn).toNat b hb1
            rw [show (((rn + fn).toNat : Nat) : Int) = rn + fn by omega] at h
            exact h
          have hv4 : IntKind.i64.wrap (ticksOf (rn + fn) b) = ticksOf (rn + fn) b := (IntKind.wrap_i64 _).trans (by omega)
          generalize hgt : ticksOf (rn + fn) b = tk at *
          clear hgt r0 r1 f0 f1 htr
          go_wp2_with fail
          go_region_held3 (fun _ => True) (trivial)
            (first
              | (go_at_call 39; (with_reducible refine HBR.out.mono ?_); rintro e wz ⟨rfl, hbz⟩; have H9 := Lib.hid (H5.out.kept hbz); clear hbz HBR)
              | (go_at_call 38; (with_reducible refine (HMO.out _).mono ?_); rintro e wy ⟨rfl, hwy⟩; have hwy := hwy.symm; subst hwy)
              | (go_at_call 36; (with_reducible refine HCL.out.mono ?_); rintro e wx ⟨rfl, hbx⟩; have H5 := Lib.hid (H4.out.kept hbx); have HBR := Lib.hid (BoundRuns_any wx); clear hbx HCL)
              | (go_at_call 37; (with_reducible refine (HBN.out _).mono ?_); rintro e wy ⟨rfl, hwy⟩; have hwy := hwy.symm; subst hwy)
              | (go_at_call 37; (with_reducible refine HBA.out.mono ?_); rintro e w1 ⟨rfl, h1⟩; have h1 : St w w1 [pt w.heap.size (.cells #[.int .i64 k.budget, .int .i64 k.room, .int .i64 k.quota, .slice ka k.sinks.length kc] 24 (0, 0)), ownP 113 5 Sk.cells (.slice na (sksOf k).length nc) (sksOf k), coP cb ma mc ((newCo (suOf k)).after (us.map ActR.val)) (0 + 9 * us.length), ownP 113 5 Sk.cells (.slice ma (sksOf k).length mc) (sksOf k), ownP 67 15 ActR.cells (.slice aa us.length ac) us, poolP actP us, ownP 51 3 AnsR.cells (.slice za us.length zc) zs, poolP ansP zs, sepL (clsL ps ((List.range 8).map fun i : Nat => Co.at ((newCo (suOf k)).after (us.map ActR.val)) (i : Int)) (0 + 9 * us.length)), ownP 72 1 ptrC (.slice pa 8 pc) ps] := h1.back (n := 2) (by simp); have HCL := Lib.hid (HCFA.out _ h1); have H4 := Lib.hid h1; clear h1 HBA))
          all_goals
            go_wp2_with fail
            go_ret
            exact ⟨rfl, H9.out.below⟩
end Go.Proofs.YtdncpihaeobaeaaGreat
