/- The walk of BoundComplete. -/
import Derived.Test.YtdncpihaeobaeaaGreatSetLaw
import Derived.Test.YtdncpihaeobaeaaGreatCompLaw
import Derived.Test.YtdncpihaeobaeaaGreatDoLit
import Derived.Test.YtdncpihaeobaeaaGreatBoundTells
import Derived.Test.YtdncpihaeobaeaaGreatActs
set_option linter.unusedVariables false
set_option linter.unusedSimpArgs false
namespace Go.Proofs.YtdncpihaeobaeaaGreat
open Go.RowKit
theorem plain_okF {a : ActM} (h3 : a.p.ops = []) (h5 : -4611686018427387904 ≤ a.fr) (h6 : a.fr ≤ 4611686018427387904) (h4 : a.i = Inp.zero) : a.ok :=
  ⟨fun o ho => (by rw [h3] at ho; cases ho), (by rw [h4]; exact ⟨by decide, by decide, by decide, by decide⟩), h5, h6, (by rw [h3]; decide)⟩
theorem end_ok (t : Int) : (endA t).ok := ⟨fun o ho => (by cases ho), (show (⟨5000, 0, 0, 0⟩ : Ev).wf from ⟨by decide, by decide, by decide, by decide⟩), (by show (-4611686018427387904 : Int) ≤ 0; omega), (by show (0 : Int) ≤ 4611686018427387904; omega), (by show (0 : Nat) ≤ 1099511627776; omega)⟩
theorem most_enough (room bud : Int) (hr0 : 1 ≤ room) (hr1 : room ≤ 8) (hb0 : 1 ≤ bud) (hb1 : bud ≤ 4) : ∃ K : Nat, ticksOf (someI room + someI 0) bud = K ∧ K ≤ 8 ∧ room ≤ K * bud := by
  have h1 : someI room = room := if_neg (by omega)
  have h2 : someI 0 = 0 := if_neg (by omega)
  rw [h1, h2, Int.add_zero]
  obtain rfl | rfl | rfl | rfl | rfl | rfl | rfl | rfl : room = 1 ∨ room = 2 ∨ room = 3 ∨ room = 4 ∨ room = 5 ∨ room = 6 ∨ room = 7 ∨ room = 8 := by omega
  all_goals
    obtain rfl | rfl | rfl | rfl : bud = 1 ∨ bud = 2 ∨ bud = 3 ∨ bud = 4 := by omega
  all_goals first
    | exact ⟨1, by decide, by omega, by decide⟩
    | exact ⟨2, by decide, by omega, by decide⟩
    | exact ⟨3, by decide, by omega, by decide⟩
    | exact ⟨4, by decide, by omega, by decide⟩
    | exact ⟨5, by decide, by omega, by decide⟩
    | exact ⟨6, by decide, by omega, by decide⟩
    | exact ⟨7, by decide, by omega, by decide⟩
    | exact ⟨8, by decide, by omega, by decide⟩
theorem pK_right : rightPp pK = true := by decide
theorem ticks_one (b : Int) (hb : 1 ≤ b) : ticksOf ((1 : Nat) : Int) b = 1 := by
  unfold ticksOf
  rw [if_neg (by omega), if_neg (by omega), show (((1 : Nat) : Int) + b - 1) = b by omega]
  exact Int.ediv_self (by omega)
set_option maxHeartbeats 16000000 in
set_option maxRecDepth 200000 in
theorem BoundComplete_any (w : World) (cs : Array Value) (k : SetQ) (hk : isStq w cs.toList k) (al : Option Addr) (cap : Nat) (l : List ActQR) (hle : l.length ≤ cap) (hmx : cap ≤ maxLen) (hnil : al = none → cap = 0) (hl : SlAt 15 isAq w al l) (bl : Option Addr) (cap2 : Nat) (l2 : List ActQR) (hle2 : l2.length ≤ cap2) (hmx2 : cap2 ≤ maxLen) (hnil2 : bl = none → cap2 = 0) (hl2 : SlAt 15 isAq w bl l2) (tnt : Int) (htn : (Lit.int .i64 tnt).wf = true) :
    Calls Tryz.prog 9 #[.agg cs, .slice al l.length cap, .slice bl l2.length cap2, .int .i64 tnt] w fun e w' => e = .returned (.bool true) ∧ Below w.heap.size w w' := by
  obtain ⟨ka, kc, hcs, hks, hkw, hkl⟩ := hk
  obtain rfl : cs = #[.int .i64 k.budget, .int .i64 k.room, .int .i64 k.quota, .slice ka k.sinks.length kc] := by
    obtain ⟨cl⟩ := cs
    dsimp only at hcs
    rw [hcs]
  clear hcs
  have hrc := i64_range htn
  obtain ⟨hla, hlq⟩ := hl.aq
  have hlm : l.length ≤ maxLen := by omega
  have HLA := Lib.hid hla
  have HAT : RowKit.Hid (∀ R : HP, ∀ x ∈ l, Seen w R 1 (intC .i64) x.oa x.p.ops ∧ Seen w R 1 (intC .i64) x.na x.p.ns ∧ x.q.wf) := Lib.hid (fun R x hx => ⟨Seen.old (hlq x hx).1, Seen.old (hlq x hx).2.1, (hlq x hx).2.2⟩)
  clear hla hlq hl hnil hle hmx
  obtain ⟨hla2, hlq2⟩ := hl2.aq
  have hlm2 : l2.length ≤ maxLen := by omega
  have HLA2Q := Lib.hid hla2
  have HAT2 : RowKit.Hid (∀ R : HP, ∀ x ∈ l2, Seen w R 1 (intC .i64) x.oa x.p.ops ∧ Seen w R 1 (intC .i64) x.na x.p.ns ∧ x.q.wf) := Lib.hid (fun R x hx => ⟨Seen.old (hlq2 x hx).1, Seen.old (hlq2 x hx).2.1, (hlq2 x hx).2.2⟩)
  clear hla2 hlq2 hl2 hnil2 hle2 hmx2
  have h0 : St w (w.alloc (.cells #[.int .i64 k.budget, .int .i64 k.room, .int .i64 k.quota, .slice ka k.sinks.length kc] 24)) [pt w.heap.size (.cells #[.int .i64 k.budget, .int .i64 k.room, .int .i64 k.quota, .slice ka k.sinks.length kc] 24 (0, 0))] := (St.start w).alloc (.cells #[.int .i64 k.budget, .int .i64 k.room, .int .i64 k.quota, .slice ka k.sinks.length kc] 24)
  have hse := setup_st h0 k ka kc (Seen.old hks) hkw hkl (sksOf k) rfl
  have k0 := (blkCells (h0.blk 0 rfl).1).1
  have k1 := (k0 0).trans rfl
  have k2 := (k0 1).trans rfl
  have k3 := (k0 2).trans rfl
  have k4 := (k0 3).trans rfl
  have HSE := Lib.hid hse
  have hsl := sksOf_len k
  have HSW := Lib.hid (sksOf_wf k)
  clear h0 hse k0 hks hkw hkl
  have hwq := within_range k.quota 0 30 (by omega)
  have hwr := within_range k.room 1 8 (by omega)
  have hwb := within_range k.budget 1 4 (by omega)
  have hsr : rightSu (⟨within k.budget 1 4, within k.room 1 8, 200, sksOf k⟩ : Su) = true := right_of k _ _ _ (by omega) (by omega) (by omega) (by omega) (by omega) (by omega)
  generalize hgr : within k.room 1 8 = room at *
  generalize hgb : within k.budget 1 4 = bud at *
  have HSR := Lib.hid hsr
  clear htn hsr hgr hgb
  obtain ⟨t, ht, ht8⟩ : ∃ t : Nat, within tnt 0 3 = t ∧ t < 8 := ⟨(within tnt 0 3).toNat, by have := within_range tnt 0 3 (by omega); omega, by have := within_range tnt 0 3 (by omega); omega⟩
  have hwi := fun w' => Within_at tnt 0 3 w' hrc.1 hrc.2 (by omega) (by omega) (by omega)
  rw [ht] at hwi
  have HWI := Lib.hid hwi
  clear hwi ht
  go_enter Tryz.func9, Tryz.ntmps9
  go_upto_region 2 with (go_at_call 10; (with_reducible refine HSE.out.mono ?_); rintro e w1 ⟨na, nc, rfl, h1⟩; have H1 := Lib.hid (h1.alloc (.cells #[.int .i64 bud, .int .i64 room, .int .i64 (within k.quota 0 30), .slice na (sksOf k).length nc] 28)); clear h1 HSE)
  refine wp_at H1.out ?_
  intro w2 h2
  generalize w1.heap.size = g at *
  have h2 : St w w2 [pt w.heap.size (.cells #[.int .i64 k.budget, .int .i64 k.room, .int .i64 k.quota, .slice ka k.sinks.length kc] 24 (0, 0)), ownP 113 5 Sk.cells (.slice na (sksOf k).length nc) (sksOf k), pt g (.cells #[.int .i64 bud, .int .i64 room, .int .i64 (within k.quota 0 30), .slice na (sksOf k).length nc] 28 (0, 0))] := h2
  clear H1
  obtain ⟨zz, fz⟩ := blkCells (h2.blk 2 rfl).1
  have z2 := (zz 2).trans rfl
  have hlg := (h2.blk 2 rfl).2.2
  have H2 := Lib.hid (h2.set 2 rfl 2 (.int .i64 200))
  clear zz h2
  go_upto_region 3 with fail
  refine wp_at H2.out ?_
  intro w3 h3
  clear H2 z2 fz hlg
  have h3 : St w w3 [pt w.heap.size (.cells #[.int .i64 k.budget, .int .i64 k.room, .int .i64 k.quota, .slice ka k.sinks.length kc] 24 (0, 0)), ownP 113 5 Sk.cells (.slice na (sksOf k).length nc) (sksOf k), pt g (.cells #[.int .i64 bud, .int .i64 room, .int .i64 200, .slice na (sksOf k).length nc] 28 (0, 0))] := h3
  have z0 : w3.cell? ⟨g, 0, none⟩ = some (.int .i64 bud) := ((blkCells (h3.blk 2 rfl).1).1 0).trans rfl
  have z1 : w3.cell? ⟨g, 1, none⟩ = some (.int .i64 room) := ((blkCells (h3.blk 2 rfl).1).1 1).trans rfl
  have z2 : w3.cell? ⟨g, 2, none⟩ = some (.int .i64 200) := ((blkCells (h3.blk 2 rfl).1).1 2).trans rfl
  have z3 : w3.cell? ⟨g, 3, none⟩ = some (.slice na (sksOf k).length nc) := ((blkCells (h3.blk 2 rfl).1).1 3).trans rfl
  have hne := coreNew_st h3 (⟨bud, room, 200, sksOf k⟩ : Su) na nc (h3.slOf Sk.len 1 rfl) (sk_nil h3 1 rfl) HSR.out HSW.out
  have hne : Calls Tryz.prog 14 #[.agg #[.int .i64 bud, .int .i64 room, .int .i64 200, .slice na (sksOf k).length nc]] w3 _ := hne
  have HNE := Lib.hid hne
  clear hne h3
  have hcs := comp_start (⟨bud, room, 200, sksOf k⟩ : Su) HSR.out rfl (by show 0 ≤ room; omega) t ht8
  go_upto_region 8 with (first
    | (go_at_call 11; (with_reducible refine (HWI.out _).mono ?_); rintro e wz ⟨rfl, hwz⟩; subst hwz)
    | (go_at_call 14; (with_reducible refine HNE.out.mono ?_); rintro e w4 ⟨ca, ma, mc, rfl, h4⟩; clear z0 z1 z2 z3; have H5 := Lib.hid (h4.alloc (.cells #[.slice none 0 0, .int .i64 8, .int .i64 4, .int .i64 2, .int .i64 (-1), .int .i64 (-1)] 61)); clear h4 HNE))
  refine wp_at H5.out ?_
  intro w5 h5
  generalize w4.heap.size = g3 at *
  have h5 : St w w5 [pt w.heap.size (.cells #[.int .i64 k.budget, .int .i64 k.room, .int .i64 k.quota, .slice ka k.sinks.length kc] 24 (0, 0)), ownP 113 5 Sk.cells (.slice na (sksOf k).length nc) (sksOf k), pt g (.cells #[.int .i64 bud, .int .i64 room, .int .i64 200, .slice na (sksOf k).length nc] 28 (0, 0)), coP ca ma mc (newCo (⟨bud, room, 200, sksOf k⟩ : Su)) 0, ownP 113 5 Sk.cells (.slice ma (sksOf k).length mc) (sksOf k), pt g3 (.cells #[.slice none 0 0, .int .i64 8, .int .i64 4, .int .i64 2, .int .i64 (-1), .int .i64 (-1)] 61 (0, 0))] := h5
  clear H5
  have p0 : w5.cell? ⟨g3, 0, none⟩ = some (.slice none 0 0) := ((blkCells (h5.blk 5 rfl).1).1 0).trans rfl
  have p1 : w5.cell? ⟨g3, 1, none⟩ = some (.int .i64 8) := ((blkCells (h5.blk 5 rfl).1).1 1).trans rfl
  have p2 : w5.cell? ⟨g3, 2, none⟩ = some (.int .i64 4) := ((blkCells (h5.blk 5 rfl).1).1 2).trans rfl
  have p3 : w5.cell? ⟨g3, 3, none⟩ = some (.int .i64 2) := ((blkCells (h5.blk 5 rfl).1).1 3).trans rfl
  have p4 : w5.cell? ⟨g3, 4, none⟩ = some (.int .i64 (-1)) := ((blkCells (h5.blk 5 rfl).1).1 4).trans rfl
  have p5 : w5.cell? ⟨g3, 5, none⟩ = some (.int .i64 (-1)) := ((blkCells (h5.blk 5 rfl).1).1 5).trans rfl
  have h6 := h5.alloc (.cells #[.int .i64 1, .int .i64 (t : Int), .int .i64 0, .int .i64 0, .slice none 0 0, .int .i64 8, .int .i64 4, .int .i64 2, .int .i64 (-1), .int .i64 (-1), .bool false, .int .i64 0, .int .i64 0, .int .i64 0, .int .u64 0] 67)
  have hdo := doLit_st h6 3 4 6 rfl rfl rfl (⟨1, (t : Int), 0, 0, none, 0, pK, Inp.zero⟩ : ActR) rfl rfl (by decide) (by decide) rfl rfl rfl (plain_okF rfl (by show (-4611686018427387904 : Int) ≤ 0; omega) (by show (0 : Int) ≤ 4611686018427387904; omega) rfl) (by omega) ((newCo (⟨bud, room, 200, sksOf k⟩ : Su)).do1 (regK (t : Int))) rfl
  generalize ((newCo (⟨bud, room, 200, sksOf k⟩ : Su)).do1 (regK (t : Int))).2 = A1 at *
  have HDO := Lib.hid hdo
  have HCS := Lib.hid hcs
  clear h5 h6 hdo hcs
  go_upto_region 11 with (first
    | (go_at_call 29; (with_reducible refine HCE.out.mono ?_); rintro e w9 ⟨q, rfl, h9⟩; rw [HAT1.out] at h9; have h9 : St w w9 [pt w.heap.size (.cells #[.int .i64 k.budget, .int .i64 k.room, .int .i64 k.quota, .slice ka k.sinks.length kc] 24 (0, 0)), ownP 113 5 Sk.cells (.slice na (sksOf k).length nc) (sksOf k), pt g (.cells #[.int .i64 bud, .int .i64 room, .int .i64 200, .slice na (sksOf k).length nc] 28 (0, 0)), coP ca ma mc (A1.after (us.map ActR.val)) (0 + 9 + 9 * us.length), ownP 113 5 Sk.cells (.slice ma (sksOf k).length mc) (sksOf k), pt g3 (.cells #[.slice none 0 0, .int .i64 8, .int .i64 4, .int .i64 2, .int .i64 (-1), .int .i64 (-1)] 61 (0, 0)), ownP 67 15 ActR.cells (.slice aa us.length ac) us, poolP actP us, ownP 51 3 AnsR.cells (.slice za us.length zc) zs, poolP ansP zs, optP (0 + 9 + 9 * us.length) q (some c)] := h9.back (n := 3) (by simp); obtain ⟨d, hp⟩ := optP_some h9 10 rfl; subst hp; have H9 := Lib.hid h9; clear h9 HCE)
    | (go_at_call 16; (with_reducible refine HDA.out.mono ?_); rintro e w8 ⟨v8, zs, rfl, hzs, h8⟩; obtain ⟨za, zc, rfl, _⟩ := h8.sl AnsR.len 2 rfl; have hzl : zs.length = us.length := (by have := congrArg List.length hzs; rw [List.length_map, ans_len, List.length_map] at this; exact this); rw [hzl] at h8 ⊢; have h8 : St w w8 [pt w.heap.size (.cells #[.int .i64 k.budget, .int .i64 k.room, .int .i64 k.quota, .slice ka k.sinks.length kc] 24 (0, 0)), ownP 113 5 Sk.cells (.slice na (sksOf k).length nc) (sksOf k), pt g (.cells #[.int .i64 bud, .int .i64 room, .int .i64 200, .slice na (sksOf k).length nc] 28 (0, 0)), coP ca ma mc (A1.after (us.map ActR.val)) (0 + 9 + 9 * us.length), ownP 113 5 Sk.cells (.slice ma (sksOf k).length mc) (sksOf k), pt g3 (.cells #[.slice none 0 0, .int .i64 8, .int .i64 4, .int .i64 2, .int .i64 (-1), .int .i64 (-1)] 61 (0, 0)), ownP 67 15 ActR.cells (.slice aa us.length ac) us, poolP actP us, ownP 51 3 AnsR.cells (.slice za us.length zc) zs, poolP ansP zs] := h8.back (n := 3) (by simp); obtain ⟨c, hc⟩ := comp_acts ht8 (us.map ActR.val) (n := 0) (by rw [List.length_map]; omega) HCS.out (by rw [HUS.out]; exact acts_low _); have hat : (A1.after (us.map ActR.val)).at (t : Int) = some c := (at_x _ t ht8).trans hc.x; have HAT1 := Lib.hid hat; have HC := Lib.hid hc; have HCE := Lib.hid (coreCell_in (h8.front 3 rfl) (t : Int) (by omega)); clear h8 hzs hzl hat hc HDA)
    | (go_at_call 13; (with_reducible refine HAC.out.mono ?_); rintro e w7 ⟨va, us, rfl, hus, h7⟩; obtain ⟨aa, ac, rfl, hac, _⟩ := h7.sl ActR.len 6 rfl; have hul := vals_len hus; have HUS := Lib.hid hus; have HDA := Lib.hid (doAll_in (h7.front 3 rfl) (by rw [HCS.out.su]; exact Seen.own Sk.len 4 rfl) (sk_nil h7 4 rfl) us aa ac (Seen.own ActR.len 6 rfl) (acts_ok h7 7 rfl (vals_ok hus) _ 7 rfl) (by omega)); clear h7 hus HAC)
    | (go_at_call 16; (with_reducible refine HDO.out.mono ?_); rintro e w6 ⟨ua, uc, u, rfl, _, _, h7⟩; have h7 : St w w6 [pt w.heap.size (.cells #[.int .i64 k.budget, .int .i64 k.room, .int .i64 k.quota, .slice ka k.sinks.length kc] 24 (0, 0)), ownP 113 5 Sk.cells (.slice na (sksOf k).length nc) (sksOf k), pt g (.cells #[.int .i64 bud, .int .i64 room, .int .i64 200, .slice na (sksOf k).length nc] 28 (0, 0)), coP ca ma mc A1 (0 + 9), ownP 113 5 Sk.cells (.slice ma (sksOf k).length mc) (sksOf k), pt g3 (.cells #[.slice none 0 0, .int .i64 8, .int .i64 4, .int .i64 2, .int .i64 (-1), .int .i64 (-1)] 61 (0, 0))] := h7.pick [0, 1, 2, 3, 4, 5] (by decide); have HAC := Lib.hid (acts_st h7 al cap l (Seen.old HLA.out) (HAT.out _) hlm); clear h7 HDO))
  rw [show ptrV (some d) = .pointer (some ⟨d, 0, none⟩) from rfl]
  have h9 : St w w9 [pt w.heap.size (.cells #[.int .i64 k.budget, .int .i64 k.room, .int .i64 k.quota, .slice ka k.sinks.length kc] 24 (0, 0)), ownP 113 5 Sk.cells (.slice na (sksOf k).length nc) (sksOf k), pt g (.cells #[.int .i64 bud, .int .i64 room, .int .i64 200, .slice na (sksOf k).length nc] 28 (0, 0)), coP ca ma mc (A1.after (us.map ActR.val)) (0 + 9 + 9 * us.length), ownP 113 5 Sk.cells (.slice ma (sksOf k).length mc) (sksOf k), pt g3 (.cells #[.slice none 0 0, .int .i64 8, .int .i64 4, .int .i64 2, .int .i64 (-1), .int .i64 (-1)] 61 (0, 0)), ownP 67 15 ActR.cells (.slice aa us.length ac) us, poolP actP us, ownP 51 3 AnsR.cells (.slice za us.length zc) zs, poolP ansP zs, clP d c (0 + 9 + 9 * us.length)] := H9.out
  obtain ⟨rb, pb, qa, qc, _, ⟨c1, c2, c3⟩, _, _⟩ := lookC_of h9 10 rfl (by omega)
  obtain ⟨K, hK, hK8, hKb⟩ := most_enough room bud (by omega) (by omega) (by omega) (by omega)
  have hmo := most_of room 0 bud
  rw [hK] at hmo
  have HMO := Lib.hid hmo
  have z0 : w9.cell? ⟨g, 0, none⟩ = some (.int .i64 bud) := ((blkCells (h9.blk 2 rfl).1).1 0).trans rfl
  have z1 : w9.cell? ⟨g, 1, none⟩ = some (.int .i64 room) := ((blkCells (h9.blk 2 rfl).1).1 1).trans rfl
  have H10 : RowKit.Hid (St w w9 [pt w.heap.size (.cells #[.int .i64 k.budget, .int .i64 k.room, .int .i64 k.quota, .slice ka k.sinks.length kc] 24 (0, 0)), ownP 113 5 Sk.cells (.slice na (sksOf k).length nc) (sksOf k), pt g (.cells #[.int .i64 bud, .int .i64 room, .int .i64 200, .slice na (sksOf k).length nc] 28 (0, 0)), coP ca ma mc (A1.after (us.map ActR.val)) (0 + 9 + 9 * us.length), ownP 113 5 Sk.cells (.slice ma (sksOf k).length mc) (sksOf k), pt g3 (.cells #[.slice none 0 0, .int .i64 8, .int .i64 4, .int .i64 2, .int .i64 (-1), .int .i64 (-1)] 61 (0, 0)), ownP 67 15 ActR.cells (.slice aa us.length ac) us, poolP actP us, ownP 51 3 AnsR.cells (.slice za us.length zc) zs, poolP ansP zs]) := Lib.hid (h9.pick [0, 1, 2, 3, 4, 5, 6, 7, 8, 9] (by decide))
  have hc40 : compAt (A1.after (us.map ActR.val)) (⟨bud, room, 200, sksOf k⟩ : Su) t 40 c := ⟨HC.out.good, HC.out.su, HC.out.x, HC.out.c.more (by rw [List.length_map]; omega)⟩
  have HC40 := Lib.hid hc40
  have HQ0 : RowKit.Hid ((c.q.length : Int) ≤ room) := Lib.hid hc40.c.room
  have HKB := Lib.hid hKb
  clear hmo hK hKb h9 H9 hc40 HC
  go_upto_region 14 with (go_at_call 38; (with_reducible refine (HMO.out _).mono ?_); rintro e wy ⟨rfl, hwy⟩; have hwy := hwy.symm; subst hwy)
  clear c1 c2 c3 z0 z1
  go_loopw [67] (fun iv wr => ∃ (j N : Nat) (A : Co) (c : Cl), j ≤ K ∧ iv = .int .i64 j ∧ N ≤ 400 + 9 * j ∧ compAt A (⟨bud, room, 200, sksOf k⟩ : Su) t 40 c ∧ (c.q.length : Int) ≤ max 0 (room - j * bud) ∧ St w wr [pt w.heap.size (.cells #[.int .i64 k.budget, .int .i64 k.room, .int .i64 k.quota, .slice ka k.sinks.length kc] 24 (0, 0)), ownP 113 5 Sk.cells (.slice na (sksOf k).length nc) (sksOf k), pt g (.cells #[.int .i64 bud, .int .i64 room, .int .i64 200, .slice na (sksOf k).length nc] 28 (0, 0)), coP ca ma mc A N, ownP 113 5 Sk.cells (.slice ma (sksOf k).length mc) (sksOf k), pt g3 (.cells #[.slice none 0 0, .int .i64 8, .int .i64 4, .int .i64 2, .int .i64 (-1), .int .i64 (-1)] 61 (0, 0)), ownP 67 15 ActR.cells (.slice aa us.length ac) us, poolP actP us, ownP 51 3 AnsR.cells (.slice za us.length zc) zs, poolP ansP zs]) (fun iv _ => K - (intOf iv).toNat)
  case atStart => exact ⟨0, _, _, c, by omega, rfl, by omega, HC40.out, by have := HQ0.out; omega, H10.out⟩
  case round =>
    clear H10 HC40 HQ0 HCS
    obtain ⟨j, N, A, c, hj, rfl, hN, hc, hq, hst⟩ := hrel
    by_cases hlt : (j : Int) < K
    · have hc2 := comp_tick hc
      have hql := serve_len (c := c) (s := (⟨bud, room, 200, sksOf k⟩ : Su)) (by show 0 ≤ bud; omega)
      have hqn : (((c.serve (((⟨bud, room, 200, sksOf k⟩ : Su) : Su).servN c)).q.length : Nat) : Int) ≤ max 0 (room - ((j + 1 : Nat) : Int) * bud) := by
        rw [hql]
        have e : ((j + 1 : Nat) : Int) * bud = j * bud + bud := by rw [Int.natCast_add, Int.add_mul]; omega
        rw [e]
        show max 0 ((c.q.length : Int) - bud) ≤ _
        generalize (j : Int) * bud = jb at *
        omega
      have h5 := hst.alloc (.cells #[.int .i64 3, .int .i64 0, .int .i64 0, .int .i64 0, .slice none 0 0, .int .i64 0, .int .i64 0, .int .i64 0, .int .i64 0, .int .i64 0, .bool false, .int .i64 0, .int .i64 0, .int .i64 0, .int .u64 0] 67)
      have hdo := doLit_st h5 3 4 10 rfl rfl (by rw [hc.su]) (⟨3, 0, 0, 0, none, 0, Pp.zero, Inp.zero⟩ : ActR) rfl rfl (by decide) (by decide) rfl rfl rfl (plain_okF rfl (by show (-4611686018427387904 : Int) ≤ 0; omega) (by show (0 : Int) ≤ 4611686018427387904; omega) rfl) (by omega) (A.do1 tickF) rfl
      have HDT := Lib.hid hdo
      have HC2 := Lib.hid hc2
      have HQN := Lib.hid hqn
      clear h5 hdo hst hc hc2 hql hqn hq
      go_wp2_with (go_at_call 16; (with_reducible refine HDT.out.mono ?_); rintro e w5 ⟨ua, uc, u, rfl, _, _, h6⟩; have H6 := Lib.hid (h6.pick [0, 1, 2, 3, 4, 5, 6, 7, 8, 9] (by decide)); clear h6 HDT)
      go_roundw
      case rel => exact ⟨j + 1, N + 9, _, _, by omega, by go_num, by omega, HC2.out, HQN.out, H6.out⟩
      case measure => simp [intOf]; omega
    · have hje : K = j := by omega
      subst hje
      have hq0 : c.q = [] := by
        have h := HKB.out
        generalize (K : Int) * bud = kb at *
        exact List.length_eq_zero_iff.1 (by omega)
      obtain ⟨her, hla⟩ := comp_end ht8 (by omega) (by show 1 ≤ room; omega) hc hq0
      have hT40 : c.taken.length ≤ 40 := by
        have h1 := hc.c.spent
        have h2 := hc.c.few
        omega
      have hTl := fun i (hi : i ∈ c.taken) => hc.c.all i (.inr hi)
      generalize c.taken = T at *
      have hsu := hc.su
      have HST := Lib.hid hst
      have HER := Lib.hid her
      have HLA2 := Lib.hid hla
      have HTL := Lib.hid hTl
      have HSU := Lib.hid hsu
      clear hst her hla hc hq0 hTl hsu hq HKB
      have H11 : RowKit.Hid (St w (wr.alloc (.cells #[.int .i64 2, .int .i64 (t : Int), .int .i64 0, .int .i64 0, .slice none 0 0, .int .i64 0, .int .i64 0, .int .i64 0, .int .i64 0, .int .i64 0, .bool true, .int .i64 5000, .int .i64 0, .int .i64 0, .int .u64 0] 67)) ([pt w.heap.size (.cells #[.int .i64 k.budget, .int .i64 k.room, .int .i64 k.quota, .slice ka k.sinks.length kc] 24 (0, 0)), ownP 113 5 Sk.cells (.slice na (sksOf k).length nc) (sksOf k), pt g (.cells #[.int .i64 bud, .int .i64 room, .int .i64 200, .slice na (sksOf k).length nc] 28 (0, 0)), coP ca ma mc A N, ownP 113 5 Sk.cells (.slice ma (sksOf k).length mc) (sksOf k), pt g3 (.cells #[.slice none 0 0, .int .i64 8, .int .i64 4, .int .i64 2, .int .i64 (-1), .int .i64 (-1)] 61 (0, 0)), ownP 67 15 ActR.cells (.slice aa us.length ac) us, poolP actP us, ownP 51 3 AnsR.cells (.slice za us.length zc) zs, poolP ansP zs] ++ [pt wr.heap.size (.cells #[.int .i64 2, .int .i64 (t : Int), .int .i64 0, .int .i64 0, .slice none 0 0, .int .i64 0, .int .i64 0, .int .i64 0, .int .i64 0, .int .i64 0, .bool true, .int .i64 5000, .int .i64 0, .int .i64 0, .int .u64 0] 67 (0, 0))])) := Lib.hid (HST.out.alloc (.cells #[.int .i64 2, .int .i64 (t : Int), .int .i64 0, .int .i64 0, .slice none 0 0, .int .i64 0, .int .i64 0, .int .i64 0, .int .i64 0, .int .i64 0, .bool true, .int .i64 5000, .int .i64 0, .int .i64 0, .int .u64 0] 67))
      go_upto_region 18 with fail
      refine wp_at H11.out ?_
      intro w11 h11
      generalize wr.heap.size = g14 at *
      clear H11 HST
      have a0 : w11.cell? ⟨g14, 0, none⟩ = some (.int .i64 2) := ((blkCells (h11.blk 10 rfl).1).1 0).trans rfl
      have a1 : w11.cell? ⟨g14, 1, none⟩ = some (.int .i64 (t : Int)) := ((blkCells (h11.blk 10 rfl).1).1 1).trans rfl
      have a2 : w11.cell? ⟨g14, 2, none⟩ = some (.int .i64 0) := ((blkCells (h11.blk 10 rfl).1).1 2).trans rfl
      have a3 : w11.cell? ⟨g14, 3, none⟩ = some (.int .i64 0) := ((blkCells (h11.blk 10 rfl).1).1 3).trans rfl
      have a4 : w11.cell? ⟨g14, 4, none⟩ = some (.slice none 0 0) := ((blkCells (h11.blk 10 rfl).1).1 4).trans rfl
      have a5 : w11.cell? ⟨g14, 5, none⟩ = some (.int .i64 0) := ((blkCells (h11.blk 10 rfl).1).1 5).trans rfl
      have a6 : w11.cell? ⟨g14, 6, none⟩ = some (.int .i64 0) := ((blkCells (h11.blk 10 rfl).1).1 6).trans rfl
      have a7 : w11.cell? ⟨g14, 7, none⟩ = some (.int .i64 0) := ((blkCells (h11.blk 10 rfl).1).1 7).trans rfl
      have a8 : w11.cell? ⟨g14, 8, none⟩ = some (.int .i64 0) := ((blkCells (h11.blk 10 rfl).1).1 8).trans rfl
      have a9 : w11.cell? ⟨g14, 9, none⟩ = some (.int .i64 0) := ((blkCells (h11.blk 10 rfl).1).1 9).trans rfl
      have a10 : w11.cell? ⟨g14, 10, none⟩ = some (.bool true) := ((blkCells (h11.blk 10 rfl).1).1 10).trans rfl
      have a11 : w11.cell? ⟨g14, 11, none⟩ = some (.int .i64 5000) := ((blkCells (h11.blk 10 rfl).1).1 11).trans rfl
      have a12 : w11.cell? ⟨g14, 12, none⟩ = some (.int .i64 0) := ((blkCells (h11.blk 10 rfl).1).1 12).trans rfl
      have a13 : w11.cell? ⟨g14, 13, none⟩ = some (.int .i64 0) := ((blkCells (h11.blk 10 rfl).1).1 13).trans rfl
      have a14 : w11.cell? ⟨g14, 14, none⟩ = some (.int .u64 0) := ((blkCells (h11.blk 10 rfl).1).1 14).trans rfl
      have h12 := h11.alloc (.cells #[.int .i64 2, .int .i64 (t : Int), .int .i64 0, .int .i64 0, .slice none 0 0, .int .i64 0, .int .i64 0, .int .i64 0, .int .i64 0, .int .i64 0, .bool true, .int .i64 5000, .int .i64 0, .int .i64 0, .int .u64 0] 67)
      have hdo := doLit_st h12 3 4 11 rfl rfl (by rw [HSU.out]) (⟨2, (t : Int), 0, 0, none, 0, Pp.zero, endK⟩ : ActR) rfl rfl (by decide) (by decide) rfl rfl rfl (end_ok (t : Int)) (by omega) (A.do1 (endA (t : Int))) rfl
      have HDE := Lib.hid hdo
      clear h11 h12 hdo
      go_upto_region 21 with (go_at_call 16; (with_reducible refine HDE.out.mono ?_); rintro e w12 ⟨ua, uc, u, rfl, hu1, huv, h13⟩; obtain ⟨b6, o6, rfl, hb6, y0, _, _⟩ := (h13.slOf AnsR.len 12 rfl).ansAt 0 (by show 0 < 1; omega) u rfl; simp only [Nat.zero_mul, Nat.add_zero] at y0; rw [show u.err = 0 from (congrArg Ans.err huv).trans HER.out] at y0; have H13 := Lib.hid (h13.pick [0, 1, 2, 3, 4, 5, 6, 7, 8, 9] (by decide)); clear h13 huv HDE)
      generalize (A.do1 (endA (t : Int))).2 = A2 at *
      have h13 : St w w12 [pt w.heap.size (.cells #[.int .i64 k.budget, .int .i64 k.room, .int .i64 k.quota, .slice ka k.sinks.length kc] 24 (0, 0)), ownP 113 5 Sk.cells (.slice na (sksOf k).length nc) (sksOf k), pt g (.cells #[.int .i64 bud, .int .i64 room, .int .i64 200, .slice na (sksOf k).length nc] 28 (0, 0)), coP ca ma mc A2 (N + 9), ownP 113 5 Sk.cells (.slice ma (sksOf k).length mc) (sksOf k), pt g3 (.cells #[.slice none 0 0, .int .i64 8, .int .i64 4, .int .i64 2, .int .i64 (-1), .int .i64 (-1)] 61 (0, 0)), ownP 67 15 ActR.cells (.slice aa us.length ac) us, poolP actP us, ownP 51 3 AnsR.cells (.slice za us.length zc) zs, poolP ansP zs] := H13.out
      obtain ⟨c1, hx1, hp1, hid1, hq1, hT1, hsp1⟩ := HLA2.out.x
      have hat : A2.at (t : Int) = some c1 := (at_x A2 t ht8).trans hx1
      have HAT1 := Lib.hid hat
      have HCE := Lib.hid (coreCell_in (h13.front 3 rfl) (t : Int) (by omega))
      have HQ1 := Lib.hid hq1
      clear h13 H13 hat hx1 hp1 hid1 hq1 hT1 hsp1
      go_upto_region 22 with (go_at_call 29; (with_reducible refine HCE.out.mono ?_); rintro e w14 ⟨q, rfl, h14⟩; rw [HAT1.out] at h14; have h14 : St w w14 [pt w.heap.size (.cells #[.int .i64 k.budget, .int .i64 k.room, .int .i64 k.quota, .slice ka k.sinks.length kc] 24 (0, 0)), ownP 113 5 Sk.cells (.slice na (sksOf k).length nc) (sksOf k), pt g (.cells #[.int .i64 bud, .int .i64 room, .int .i64 200, .slice na (sksOf k).length nc] 28 (0, 0)), coP ca ma mc A2 (N + 9), ownP 113 5 Sk.cells (.slice ma (sksOf k).length mc) (sksOf k), pt g3 (.cells #[.slice none 0 0, .int .i64 8, .int .i64 4, .int .i64 2, .int .i64 (-1), .int .i64 (-1)] 61 (0, 0)), ownP 67 15 ActR.cells (.slice aa us.length ac) us, poolP actP us, ownP 51 3 AnsR.cells (.slice za us.length zc) zs, poolP ansP zs, optP (N + 9) q (some c1)] := h14.back (n := 3) (by simp); obtain ⟨d, hp⟩ := optP_some h14 10 rfl; subst hp; have H14 := Lib.hid h14; clear h14 HCE)
      rw [show ptrV (some d) = .pointer (some ⟨d, 0, none⟩) from rfl]
      have h14 : St w w14 [pt w.heap.size (.cells #[.int .i64 k.budget, .int .i64 k.room, .int .i64 k.quota, .slice ka k.sinks.length kc] 24 (0, 0)), ownP 113 5 Sk.cells (.slice na (sksOf k).length nc) (sksOf k), pt g (.cells #[.int .i64 bud, .int .i64 room, .int .i64 200, .slice na (sksOf k).length nc] 28 (0, 0)), coP ca ma mc A2 (N + 9), ownP 113 5 Sk.cells (.slice ma (sksOf k).length mc) (sksOf k), pt g3 (.cells #[.slice none 0 0, .int .i64 8, .int .i64 4, .int .i64 2, .int .i64 (-1), .int .i64 (-1)] 61 (0, 0)), ownP 67 15 ActR.cells (.slice aa us.length ac) us, poolP actP us, ownP 51 3 AnsR.cells (.slice za us.length zc) zs, poolP ansP zs, clP d c1 (N + 9)] := H14.out
      have HA2 := Lib.hid (acts_st h14 bl cap2 l2 (Seen.old HLA2Q.out) (HAT2.out _) hlm2)
      clear h14 H14
      go_upto_region 26 with (first
        | (go_at_call 13; (with_reducible refine HA2.out.mono ?_); rintro e w15 ⟨vb, ms, rfl, hms, h15⟩; obtain ⟨ba, bc, rfl, hbc, _⟩ := h15.sl ActR.len 11 rfl; have htk := boundTicks_look (lookC_of h15 10 rfl (by omega)) bud; rw [HQ1.out] at htk; rw [show ticksOf ((([endK] : List Inp).length : Nat) : Int) bud = 1 from ticks_one bud (by omega)] at htk; have HTK := Lib.hid htk; have z0 : w15.cell? ⟨g, 0, none⟩ = some (.int .i64 bud) := ((blkCells (h15.blk 2 rfl).1).1 0).trans rfl; have H15 := Lib.hid h15; have HMS := Lib.hid hms; clear h15 hms htk HA2)
        | (go_at_call 35; (with_reducible refine HTK.out.mono ?_); rintro e w16 ⟨rfl, hb16⟩; have h16 := H15.out.kept hb16; have H16 : RowKit.Hid (St w w16 [pt w.heap.size (.cells #[.int .i64 k.budget, .int .i64 k.room, .int .i64 k.quota, .slice ka k.sinks.length kc] 24 (0, 0)), ownP 113 5 Sk.cells (.slice na (sksOf k).length nc) (sksOf k), pt g (.cells #[.int .i64 bud, .int .i64 room, .int .i64 200, .slice na (sksOf k).length nc] 28 (0, 0)), coP ca ma mc A2 (N + 9), ownP 113 5 Sk.cells (.slice ma (sksOf k).length mc) (sksOf k), pt g3 (.cells #[.slice none 0 0, .int .i64 8, .int .i64 4, .int .i64 2, .int .i64 (-1), .int .i64 (-1)] 61 (0, 0)), ownP 67 15 ActR.cells (.slice aa us.length ac) us, poolP actP us, ownP 51 3 AnsR.cells (.slice za us.length zc) zs, poolP ansP zs, ownP 67 15 ActR.cells (.slice ba ms.length bc) ms, poolP actP ms]) := Lib.hid (h16.pick [0, 1, 2, 3, 4, 5, 6, 7, 8, 9, 11, 12] (by decide)); clear h16 hb16 HTK))
      have hml := vals_len HMS.out
      go_wp2_with fail
      go_loopw [18, 19] (fun iv _ wr => ∃ (i N2 : Nat) (A : Co), i ≤ 1 ∧ iv = .int .i64 i ∧ N2 ≤ 600 + 100 * i ∧ (if i = 0 then lastAt A (⟨bud, room, 200, sksOf k⟩ : Su) t T [endK] else lastAt A (⟨bud, room, 200, sksOf k⟩ : Su) t (T ++ [endK]) []) ∧ St w wr [pt w.heap.size (.cells #[.int .i64 k.budget, .int .i64 k.room, .int .i64 k.quota, .slice ka k.sinks.length kc] 24 (0, 0)), ownP 113 5 Sk.cells (.slice na (sksOf k).length nc) (sksOf k), pt g (.cells #[.int .i64 bud, .int .i64 room, .int .i64 200, .slice na (sksOf k).length nc] 28 (0, 0)), coP ca ma mc A N2, ownP 113 5 Sk.cells (.slice ma (sksOf k).length mc) (sksOf k), pt g3 (.cells #[.slice none 0 0, .int .i64 8, .int .i64 4, .int .i64 2, .int .i64 (-1), .int .i64 (-1)] 61 (0, 0)), ownP 67 15 ActR.cells (.slice aa us.length ac) us, poolP actP us, ownP 51 3 AnsR.cells (.slice za us.length zc) zs, poolP ansP zs, ownP 67 15 ActR.cells (.slice ba ms.length bc) ms, poolP actP ms]) (fun iv _ _ => 1 - (intOf iv).toNat)
      case atStart => exact ⟨0, _, _, by omega, rfl, by omega, HLA2.out, H16.out⟩
      case round =>
        clear H16 HLA2 HAT1 HQ1
        obtain ⟨i, N2, A, hi, rfl, hN2, hla, hst⟩ := hrel
        by_cases hlt2 : (i : Int) < 1
        · obtain rfl : i = 0 := by omega
          have hla : lastAt A (⟨bud, room, 200, sksOf k⟩ : Su) t T [endK] := hla
          have HST := Lib.hid hst
          have HLB := Lib.hid hla
          clear hst hla
          go_wp2_with fail
          go_loopw [19] (fun mv wr => ∃ (m N3 : Nat) (A3 : Co), m ≤ 3 ∧ mv = .int .i64 m ∧ N3 ≤ N2 + 9 * m ∧ lastAt A3 (⟨bud, room, 200, sksOf k⟩ : Su) t T [endK] ∧ St w wr [pt w.heap.size (.cells #[.int .i64 k.budget, .int .i64 k.room, .int .i64 k.quota, .slice ka k.sinks.length kc] 24 (0, 0)), ownP 113 5 Sk.cells (.slice na (sksOf k).length nc) (sksOf k), pt g (.cells #[.int .i64 bud, .int .i64 room, .int .i64 200, .slice na (sksOf k).length nc] 28 (0, 0)), coP ca ma mc A3 N3, ownP 113 5 Sk.cells (.slice ma (sksOf k).length mc) (sksOf k), pt g3 (.cells #[.slice none 0 0, .int .i64 8, .int .i64 4, .int .i64 2, .int .i64 (-1), .int .i64 (-1)] 61 (0, 0)), ownP 67 15 ActR.cells (.slice aa us.length ac) us, poolP actP us, ownP 51 3 AnsR.cells (.slice za us.length zc) zs, poolP ansP zs, ownP 67 15 ActR.cells (.slice ba ms.length bc) ms, poolP actP ms]) (fun mv _ => 3 - (intOf mv).toNat)
          case atStart => exact ⟨0, _, _, by omega, rfl, by omega, HLB.out, HST.out⟩
          case round =>
            clear HST HLB
            obtain ⟨m, N3, A3, hm, rfl, hN3, hla, hst⟩ := hrel
            by_cases hm3 : (m : Int) < 3
            · by_cases hml2 : (m : Int) < ms.length
              · have hm1 : m < ms.length := by omega
                obtain ⟨y, hy⟩ : ∃ y, ms[m] = y := ⟨_, rfl⟩
                have hym : y ∈ ms := by rw [← hy]; exact List.getElem_mem hm1
                obtain ⟨b2, o2, hba2, hbl2, e0, e1, e2, e3, e4, e5, e6, e7, e8, e9, e10, e11, e12, e13, e14⟩ := (hst.slOf ActR.len 10 rfl).actAt m hm1 y hy
                subst hba2
                obtain ⟨kd, tn, fr, nn, oa, oc, p, i⟩ := y
                dsimp only at e0 e1 e2 e3 e4 e5 e6 e7 e8 e9 e10 e11 e12 e13 e14
                have h5 := hst.alloc (.cells #[.int .i64 kd, .int .i64 tn, .int .i64 fr, .int .i64 nn, .slice oa p.ops.length oc, .int .i64 p.size, .int .i64 p.slide, .int .i64 p.agg, .int .i64 p.sink, .int .i64 p.feed, .bool i.mark, .int .i64 i.ev.time, .int .i64 i.ev.key, .int .i64 i.ev.value, .int .u64 i.ev.label] 67)
                have hdo := doAll_in (h5.front 3 rfl) (by rw [hla.su]; exact Seen.own Sk.len 4 rfl) (sk_nil h5 4 rfl) [(⟨kd, tn, fr, nn, oa, oc, p, i⟩ : ActR)] (some ⟨wr.heap.size, 0, none⟩) 1 (Seen.pt ActR.len 12 rfl) ((acts_ok h5 11 rfl (vals_ok HMS.out) _ 11 rfl).sub (fun x hx => by obtain rfl : x = (⟨kd, tn, fr, nn, oa, oc, p, i⟩ : ActR) := (by simpa using hx); exact hym)) (by show N3 + 9 * 1 < _; omega)
                have hdo : Calls Tryz.prog 16 #[.pointer (some ⟨ca, 0, none⟩), .slice (some ⟨wr.heap.size, 0, none⟩) 1 1] _ _ := hdo
                have HDY := Lib.hid hdo
                have HST := Lib.hid hst
                have HLB := Lib.hid hla
                clear h5 hdo hst hla hy hym
                by_cases q1 : kd = 3
                · subst q1
                  clear HDY
                  go_wp2_with fail
                  go_roundw
                  case rel => exact ⟨m + 1, N3, A3, by omega, by go_num, by omega, HLB.out, HST.out⟩
                  case measure => simp [intOf]; omega
                · have p9 : (kd != 3) = true := by simp [q1]
                  by_cases q2 : tn = (t : Int)
                  · subst q2
                    clear HDY
                    go_wp2_with fail
                    go_roundw
                    case rel => exact ⟨m + 1, N3, A3, by omega, by go_num, by omega, HLB.out, HST.out⟩
                    case measure => simp [intOf]; omega
                  · have p8 : (tn != (t : Int)) = true := by simp [q2]
                    have HLC := Lib.hid (last_other HLB.out ((⟨kd, tn, fr, nn, oa, oc, p, i⟩ : ActR)).val q1 q2)
                    go_wp2_with (go_at_call 16; (with_reducible refine HDY.out.mono ?_); rintro e w20 ⟨v20, xs, rfl, _, h20⟩; have h20 := (h20.back (n := 3) (by simp)).pick [0, 1, 2, 3, 4, 5, 6, 7, 8, 9, 10, 11] (by decide); have H20 := Lib.hid h20; clear h20 HDY)
                    go_roundw
                    case rel => exact ⟨m + 1, N3 + 9 * 1, _, by omega, by go_num, by omega, HLC.out, H20.out⟩
                    case measure => simp [intOf]; omega
              · skip
                have h5 := hst.alloc (.cells #[.int .i64 3, .int .i64 0, .int .i64 0, .int .i64 0, .slice none 0 0, .int .i64 0, .int .i64 0, .int .i64 0, .int .i64 0, .int .i64 0, .bool false, .int .i64 0, .int .i64 0, .int .i64 0, .int .u64 0] 67)
                have hdo := doLit_st h5 3 4 12 rfl rfl (by rw [hla.su]) (⟨3, 0, 0, 0, none, 0, Pp.zero, Inp.zero⟩ : ActR) rfl rfl (by decide) (by decide) rfl rfl rfl (plain_okF rfl (by show (-4611686018427387904 : Int) ≤ 0; omega) (by show (0 : Int) ≤ 4611686018427387904; omega) rfl) (by omega) (A3.do1 tickF) rfl
                have HDT := Lib.hid hdo
                have HLC := Lib.hid (last_tick (by show 1 ≤ bud; omega) hla)
                clear h5 hdo hst hla
                go_wp2_with (go_at_call 16; (with_reducible refine HDT.out.mono ?_); rintro e w22 ⟨ua2, uc2, u2, rfl, _, _, h22⟩; have H22 := Lib.hid (h22.pick [0, 1, 2, 3, 4, 5, 6, 7, 8, 9, 10, 11] (by decide)); clear h22 HDT)
                go_roundw
                case rel => exact ⟨1, N3 + 9, _, by omega, by go_num, by omega, HLC.out, H22.out⟩
                case measure => simp [intOf]
            · skip
              have h5 := hst.alloc (.cells #[.int .i64 3, .int .i64 0, .int .i64 0, .int .i64 0, .slice none 0 0, .int .i64 0, .int .i64 0, .int .i64 0, .int .i64 0, .int .i64 0, .bool false, .int .i64 0, .int .i64 0, .int .i64 0, .int .u64 0] 67)
              have hdo := doLit_st h5 3 4 12 rfl rfl (by rw [hla.su]) (⟨3, 0, 0, 0, none, 0, Pp.zero, Inp.zero⟩ : ActR) rfl rfl (by decide) (by decide) rfl rfl rfl (plain_okF rfl (by show (-4611686018427387904 : Int) ≤ 0; omega) (by show (0 : Int) ≤ 4611686018427387904; omega) rfl) (by omega) (A3.do1 tickF) rfl
              have HDT := Lib.hid hdo
              have HLC := Lib.hid (last_tick (by show 1 ≤ bud; omega) hla)
              clear h5 hdo hst hla
              go_wp2_with (go_at_call 16; (with_reducible refine HDT.out.mono ?_); rintro e w22 ⟨ua2, uc2, u2, rfl, _, _, h22⟩; have H22 := Lib.hid (h22.pick [0, 1, 2, 3, 4, 5, 6, 7, 8, 9, 10, 11] (by decide)); clear h22 HDT)
              go_roundw
              case rel => exact ⟨1, N3 + 9, _, by omega, by go_num, by omega, HLC.out, H22.out⟩
              case measure => simp [intOf]
        · obtain rfl : i = 1 := by omega
          have hla : lastAt A (⟨bud, room, 200, sksOf k⟩ : Su) t (T ++ [endK]) [] := hla
          have hpast := past_K HTL.out
          have hwf : ∀ i ∈ T ++ [endK], i.ev.wf := by
            intro i hi
            rcases List.mem_append.1 hi with hi | hi
            · exact (HTL.out i hi).1
            · obtain rfl : i = endK := by simpa using hi
              exact ⟨by decide, by decide, by decide, by decide⟩
          have hT1l : (T ++ [endK]).length ≤ 41 := by rw [List.length_append]; show T.length + 1 ≤ 41; omega
          generalize T ++ [endK] = T1 at *
          obtain ⟨⟨lf, sp, rf, id2, p2, q2, tk2⟩, hx, hp, hid, hq, hTk, hsp⟩ := hla.x
          dsimp only at hp hid hq hTk hsp
          have hsp2 : sp = (T1.length : Int) := by rw [hsp]; simp
          clear hsp
          have hTk := hTk.symm
          subst hp hid hq hTk hsp2
          have hat : A.at (t : Int) = some (⟨lf, (T1.length : Int), rf, (t : Int), pK, [], T1⟩ : Cl) := (at_x A t ht8).trans hx
          have HAT1 := Lib.hid hat
          have HCE := Lib.hid (coreCell_in (hst.front 3 rfl) (t : Int) (by omega))
          clear hst hla hx hat
          go_upto_region 36 with (go_at_call 29; (with_reducible refine HCE.out.mono ?_); rintro e w21 ⟨q, rfl, h21⟩; rw [HAT1.out] at h21; have h21 : St w w21 [pt w.heap.size (.cells #[.int .i64 k.budget, .int .i64 k.room, .int .i64 k.quota, .slice ka k.sinks.length kc] 24 (0, 0)), ownP 113 5 Sk.cells (.slice na (sksOf k).length nc) (sksOf k), pt g (.cells #[.int .i64 bud, .int .i64 room, .int .i64 200, .slice na (sksOf k).length nc] 28 (0, 0)), coP ca ma mc A N2, ownP 113 5 Sk.cells (.slice ma (sksOf k).length mc) (sksOf k), pt g3 (.cells #[.slice none 0 0, .int .i64 8, .int .i64 4, .int .i64 2, .int .i64 (-1), .int .i64 (-1)] 61 (0, 0)), ownP 67 15 ActR.cells (.slice aa us.length ac) us, poolP actP us, ownP 51 3 AnsR.cells (.slice za us.length zc) zs, poolP ansP zs, ownP 67 15 ActR.cells (.slice ba ms.length bc) ms, poolP actP ms, optP N2 q (some (⟨lf, (T1.length : Int), rf, (t : Int), pK, [], T1⟩ : Cl))] := h21.back (n := 3) (by simp); obtain ⟨d, hp⟩ := optP_some h21 12 rfl; subst hp; have H21 := Lib.hid h21; clear h21 HCE)
          rw [show ptrV (some d) = .pointer (some ⟨d, 0, none⟩) from rfl]
          have h21 : St w w21 [pt w.heap.size (.cells #[.int .i64 k.budget, .int .i64 k.room, .int .i64 k.quota, .slice ka k.sinks.length kc] 24 (0, 0)), ownP 113 5 Sk.cells (.slice na (sksOf k).length nc) (sksOf k), pt g (.cells #[.int .i64 bud, .int .i64 room, .int .i64 200, .slice na (sksOf k).length nc] 28 (0, 0)), coP ca ma mc A N2, ownP 113 5 Sk.cells (.slice ma (sksOf k).length mc) (sksOf k), pt g3 (.cells #[.slice none 0 0, .int .i64 8, .int .i64 4, .int .i64 2, .int .i64 (-1), .int .i64 (-1)] 61 (0, 0)), ownP 67 15 ActR.cells (.slice aa us.length ac) us, poolP actP us, ownP 51 3 AnsR.cells (.slice za us.length zc) zs, poolP ansP zs, ownP 67 15 ActR.cells (.slice ba ms.length bc) ms, poolP actP ms, clP d (⟨lf, (T1.length : Int), rf, (t : Int), pK, [], T1⟩ : Cl) N2] := H21.out
          have h22 := h21.alloc (.cells #[.pointer (some ⟨d, 0, none⟩)] 72)
          have hcl := clear_any (w21.alloc (.cells #[.pointer (some ⟨d, 0, none⟩)] 72)) [some d] [some (⟨lf, (T1.length : Int), rf, (t : Int), pK, [], T1⟩ : Cl)] 1 rfl rfl (fun x h1 h2 => (by obtain rfl : x = 0 := (by simp at h1; omega); exact lookC_of h22 12 rfl (by omega))) (some ⟨w21.heap.size, 0, none⟩) 1 (SlAt.one ptrC_len (x := some d) (h22.blk 13 rfl).1) (by omega)
          rw [show [some (⟨lf, (T1.length : Int), rf, (t : Int), pK, [], T1⟩ : Cl)].all clearO = true from (by show ((([] : List Inp).length == 0) && ((afterR (newR pK) T1).L.length == 0)) && true = true; rw [hpast]; rfl)] at hcl
          have HCL := Lib.hid hcl
          have H22 := Lib.hid h22
          have HPAST := Lib.hid hpast
          have HWF := Lib.hid hwf
          clear h21 h22 hcl hpast hwf H21
          go_cut [163] from 20 to 163 (fun v wx => v = .bool false ∧ St w wx [pt w.heap.size (.cells #[.int .i64 k.budget, .int .i64 k.room, .int .i64 k.quota, .slice ka k.sinks.length kc] 24 (0, 0)), ownP 113 5 Sk.cells (.slice na (sksOf k).length nc) (sksOf k), pt g (.cells #[.int .i64 bud, .int .i64 room, .int .i64 200, .slice na (sksOf k).length nc] 28 (0, 0)), coP ca ma mc A N2, ownP 113 5 Sk.cells (.slice ma (sksOf k).length mc) (sksOf k), pt g3 (.cells #[.slice none 0 0, .int .i64 8, .int .i64 4, .int .i64 2, .int .i64 (-1), .int .i64 (-1)] 61 (0, 0)), ownP 67 15 ActR.cells (.slice aa us.length ac) us, poolP actP us, ownP 51 3 AnsR.cells (.slice za us.length zc) zs, poolP ansP zs, ownP 67 15 ActR.cells (.slice ba ms.length bc) ms, poolP actP ms, clP d (⟨lf, (T1.length : Int), rf, (t : Int), pK, [], T1⟩ : Cl) N2])
          case first =>
            go_wp2_with (go_at_call 36; (with_reducible refine HCL.out.mono ?_); rintro e w23 ⟨rfl, hb23⟩; have h23 : St w w23 [pt w.heap.size (.cells #[.int .i64 k.budget, .int .i64 k.room, .int .i64 k.quota, .slice ka k.sinks.length kc] 24 (0, 0)), ownP 113 5 Sk.cells (.slice na (sksOf k).length nc) (sksOf k), pt g (.cells #[.int .i64 bud, .int .i64 room, .int .i64 200, .slice na (sksOf k).length nc] 28 (0, 0)), coP ca ma mc A N2, ownP 113 5 Sk.cells (.slice ma (sksOf k).length mc) (sksOf k), pt g3 (.cells #[.slice none 0 0, .int .i64 8, .int .i64 4, .int .i64 2, .int .i64 (-1), .int .i64 (-1)] 61 (0, 0)), ownP 67 15 ActR.cells (.slice aa us.length ac) us, poolP actP us, ownP 51 3 AnsR.cells (.slice za us.length zc) zs, poolP ansP zs, ownP 67 15 ActR.cells (.slice ba ms.length bc) ms, poolP actP ms, clP d (⟨lf, (T1.length : Int), rf, (t : Int), pK, [], T1⟩ : Cl) N2] := (H22.out.kept hb23).pick [0, 1, 2, 3, 4, 5, 6, 7, 8, 9, 10, 11, 12] (by decide); have H23 := Lib.hid h23; clear h23 hb23 HCL)
            go_meet
            exact ⟨rfl, H23.out⟩
          case rest =>
            obtain ⟨rfl, h23⟩ := hcut
            have H23 := Lib.hid h23
            clear h23 HCL
            go_upto_region 38 with fail
            have hsx : ∀ (w' : World) (K : List HP), St w w' K → K[5]? = some (pt g3 (.cells #[.slice none 0 0, .int .i64 8, .int .i64 4, .int .i64 2, .int .i64 (-1), .int .i64 (-1)] 61 (0, 0))) → K[12]? = some (clP d (⟨lf, (T1.length : Int), rf, (t : Int), pK, [], T1⟩ : Cl) N2) → ((w').cell? ⟨g3, 0, none⟩ = some (.slice none 0 0) ∧ (w').cell? ⟨g3, 1, none⟩ = some (.int .i64 8) ∧ (w').cell? ⟨g3, 2, none⟩ = some (.int .i64 4) ∧ (w').cell? ⟨g3, 3, none⟩ = some (.int .i64 2) ∧ (w').cell? ⟨g3, 4, none⟩ = some (.int .i64 (-1)) ∧ (w').cell? ⟨g3, 5, none⟩ = some (.int .i64 (-1)) ∧ (w').cell? ⟨d, 0, none⟩ = some (.int .i64 lf) ∧ (w').cell? ⟨d, 1, none⟩ = some (.int .i64 T1.length) ∧ (w').cell? ⟨d, 2, none⟩ = some (.int .i64 rf)) := fun w' K hh e1 e2 => by
              obtain ⟨q, _⟩ := blkCells (hh.blk 5 e1).1
              obtain ⟨rb, qa, qc, rv, tv, _, hb, _⟩ := cl_see hh 12 e2
              obtain ⟨f0, f1, f2, _⟩ := cells8 hb (Below.refl _ _)
              exact ⟨(q 0).trans rfl, (q 1).trans rfl, (q 2).trans rfl, (q 3).trans rfl, (q 4).trans rfl, (q 5).trans rfl, f0, f1, f2⟩
            have h23 := H23.out
            have S0 := Lib.hid (hsx _ _ h23 rfl rfl)
            have S1 := Lib.hid (hsx _ _ h23.drew rfl rfl)
            have HSX := Lib.hid hsx
            have hco := count_st h23.drew 12 rfl
            obtain ⟨R, hR⟩ : ∃ R, wholeRows pK T1 = R := ⟨_, rfl⟩
            have hco : Calls Tryz.prog 40 #[.pointer (some ⟨d, 0, none⟩)] wc.drew fun x w' => x = .returned (.int .i64 (wholeRows pK T1).length) ∧ St w w' _ := hco
            rw [hR] at hco
            have HCO := Lib.hid hco
            have HR := Lib.hid hR
            clear h23 hsx hco hR H22
            go_region_held3 (fun w' => ((w').cell? ⟨g3, 0, none⟩ = some (.slice none 0 0) ∧ (w').cell? ⟨g3, 1, none⟩ = some (.int .i64 8) ∧ (w').cell? ⟨g3, 2, none⟩ = some (.int .i64 4) ∧ (w').cell? ⟨g3, 3, none⟩ = some (.int .i64 2) ∧ (w').cell? ⟨g3, 4, none⟩ = some (.int .i64 (-1)) ∧ (w').cell? ⟨g3, 5, none⟩ = some (.int .i64 (-1)) ∧ (w').cell? ⟨d, 0, none⟩ = some (.int .i64 lf) ∧ (w').cell? ⟨d, 1, none⟩ = some (.int .i64 T1.length) ∧ (w').cell? ⟨d, 2, none⟩ = some (.int .i64 rf))) (first | (with_reducible exact S0.out) | (with_reducible exact S1.out) | (with_reducible exact S2.out) | (with_reducible exact S3.out) | (with_reducible exact S4.out) | (with_reducible exact S5.out) | (with_reducible exact S6.out) | (with_reducible exact S7.out) | (with_reducible exact S8.out) | (with_reducible exact S9.out))
              (first
                | (go_at_call 39; (with_reducible refine HBR.out.mono ?_); rintro e wz ⟨rfl, hbz⟩; have hz := HX7.out.kept hbz; have S9 := Lib.hid (HSX.out _ _ hz rfl rfl); have HZ := Lib.hid hz; clear hz hbz HBR)
                | (go_at_call 32; (with_reducible refine HT3.out.mono ?_); rintro e w37 ⟨v, rfl, hz⟩; obtain ⟨ga, gc, rfl, _⟩ := hz.sl Inp.len 16 rfl; have S8 := Lib.hid (HSX.out _ _ hz rfl rfl); have HBR := Lib.hid (BoundRuns_any w37); have HX7 := Lib.hid hz; clear hz HT3)
                | (go_at_call 43; (with_reducible refine HSP.out.mono ?_); rintro e w36 ⟨rfl, hz⟩; have S7 := Lib.hid (HSX.out _ _ hz rfl rfl); have HT3 := Lib.hid (taken_st hz 12 rfl (by omega)); clear hz HSP)
                | (go_at_call 42; (with_reducible refine HPA.out.mono ?_); rintro e w35 ⟨rfl, hz⟩; have S6 := Lib.hid (HSX.out _ _ hz rfl rfl); have HSP := Lib.hid (spent_st lf (T1.length : Int) rf hz); clear hz HPA)
                | (go_at_call 32; (with_reducible refine HT2.out.mono ?_); rintro e w34 ⟨v, rfl, hz⟩; obtain ⟨ga, gc, rfl, _⟩ := hz.sl Inp.len 15 rfl; have S5 := Lib.hid (HSX.out _ _ hz rfl rfl); have hpa := past_st hz pK none 0 (.inl rfl) (fun _ => rfl) (fun o ho => by cases ho) (by decide) pK_right ga gc T1 (Seen.own Inp.len 15 rfl) HWF.out (by omega); rw [HPAST.out] at hpa; have hpa : Calls Tryz.prog 42 #[.agg #[.slice none 0 0, .int .i64 8, .int .i64 4, .int .i64 2, .int .i64 (-1), .int .i64 (-1)], .slice ga T1.length gc] w34 fun e w' => e = .returned (.bool true) ∧ St w w' _ := hpa; have HPA := Lib.hid hpa; clear hz hpa HT2)
                | (go_at_call 41; (with_reducible refine HRW.out.mono ?_); rintro e w33 ⟨v, rfl, hz⟩; rw [HR.out] at hz; obtain ⟨ra, rc, rfl, _⟩ := hz.sl Rw.len 14 rfl; have S4 := Lib.hid (HSX.out _ _ hz rfl rfl); have HT2 := Lib.hid (taken_st hz 12 rfl (by omega)); clear hz HRW)
                | (go_at_call 32; (with_reducible refine HT1.out.mono ?_); rintro e w32 ⟨v, rfl, hz⟩; obtain ⟨ga, gc, rfl, _⟩ := hz.sl Inp.len 13 rfl; have S3 := Lib.hid (HSX.out _ _ hz rfl rfl); have hrw := rows_st hz pK none 0 (.inl rfl) (fun _ => rfl) (fun o ho => by cases ho) (by decide) pK_right ga gc T1 (Seen.own Inp.len 13 rfl) HWF.out (by omega); have hrw : Calls Tryz.prog 41 #[.agg #[.slice none 0 0, .int .i64 8, .int .i64 4, .int .i64 2, .int .i64 (-1), .int .i64 (-1)], .slice ga T1.length gc] w32 _ := hrw; have HRW := Lib.hid hrw; clear hz hrw HT1)
                | (go_at_call 40; (with_reducible refine HCO.out.mono ?_); rintro e w31 ⟨rfl, hz⟩; have S2 := Lib.hid (HSX.out _ _ hz rfl rfl); have HT1 := Lib.hid (taken_st hz 12 rfl (by omega)); clear hz HCO))
            all_goals
              go_wp2_with fail
              go_ret
              exact ⟨rfl, HZ.out.below⟩
end Go.Proofs.YtdncpihaeobaeaaGreat
