/- The walk of CoreFull. -/
import Derived.Test.YtpkpcomocimghaaGreatSetLaw
import Derived.Test.YtpkpcomocimghaaGreatFullLaw
import Derived.Test.YtpkpcomocimghaaGreatDoLit
set_option linter.unusedVariables false
set_option linter.unusedSimpArgs false
namespace Go.Proofs.YtpkpcomocimghaaGreat
open Go.RowKit
theorem plain_okF {a : ActM} (h3 : a.p.ops = []) (h5 : -4611686018427387904 ≤ a.fr) (h6 : a.fr ≤ 4611686018427387904) (h4 : a.i = Inp.zero) : a.ok :=
  ⟨fun o ho => (by rw [h3] at ho; cases ho), (by rw [h4]; exact ⟨by decide, by decide, by decide, by decide⟩), h5, h6, (by rw [h3]; decide)⟩
set_option maxHeartbeats 16000000 in
set_option maxRecDepth 20000 in
theorem CoreFull_any (w : World) (cs : Array Value) (k : SetQ) (hk : isStq w cs.toList k) (n : Int) (hn : (Lit.int .i64 n).wf = true) (m : Int) (hm : (Lit.int .i64 m).wf = true) :
    Calls Tryz.prog 7 #[.agg cs, .int .i64 n, .int .i64 m] w fun e w' => e = .returned (.bool true) ∧ Below w.heap.size w w' := by
  obtain ⟨ka, kc, hcs, hks, hkw, hkl⟩ := hk
  obtain rfl : cs = #[.int .i64 k.budget, .int .i64 k.room, .int .i64 k.quota, .slice ka k.sinks.length kc] := by
    obtain ⟨cl⟩ := cs
    dsimp only at hcs
    rw [hcs]
  clear hcs
  have hrn := i64_range hn
  have hrm := i64_range hm
  have h0 : St w (w.alloc (.cells #[.int .i64 k.budget, .int .i64 k.room, .int .i64 k.quota, .slice ka k.sinks.length kc] 56)) [pt w.heap.size (.cells #[.int .i64 k.budget, .int .i64 k.room, .int .i64 k.quota, .slice ka k.sinks.length kc] 56 (0, 0))] := (St.start w).alloc (.cells #[.int .i64 k.budget, .int .i64 k.room, .int .i64 k.quota, .slice ka k.sinks.length kc] 56)
  have hse := setup_st h0 k ka kc (Seen.old hks) hkw hkl (sksOf k) rfl
  have k0 := (blkCells (h0.blk 0 rfl).1).1
  have k1 := (k0 0).trans rfl
  have k2 := (k0 1).trans rfl
  have k3 := (k0 2).trans rfl
  have k4 := (k0 3).trans rfl
  have HSE := Lib.hid hse
  have hwq := within_range k.quota 0 30 (by omega)
  have hwr := within_range k.room 1 8 (by omega)
  have hwb := within_range k.budget 1 4 (by omega)
  have hq1 : wrap64 (within k.quota 0 30 + 1) = within k.quota 0 30 + 1 := wrap64_id (by omega) (by omega)
  have hsl := sksOf_len k
  have hsr : rightSu (⟨within k.budget 1 4, within k.room 1 8, within k.quota 0 30 + 1, sksOf k⟩ : Su) = true := right_of k _ _ _ (by omega) (by omega) (by omega) (by omega) (by omega) (by omega)
  have HSR := Lib.hid hsr
  have HSW := Lib.hid (sksOf_wf k)
  clear h0 hse k0 hks hkw hkl hn hm hsr
  go_enter Tryz.func7, Tryz.ntmps7
  go_upto_region 2 with (go_at_call 20; (with_reducible refine HSE.out.mono ?_); rintro e w1 ⟨na, nc, rfl, h1⟩; have H1 := Lib.hid (h1.alloc (.cells #[.int .i64 (within k.budget 1 4), .int .i64 (within k.room 1 8), .int .i64 (within k.quota 0 30), .slice na (sksOf k).length nc] 26)); clear h1 HSE)
  refine wp_at H1.out ?_
  intro w2 h2
  generalize w1.heap.size = g at *
  have h2 : St w w2 [pt w.heap.size (.cells #[.int .i64 k.budget, .int .i64 k.room, .int .i64 k.quota, .slice ka k.sinks.length kc] 56 (0, 0)), ownP 69 5 Sk.cells (.slice na (sksOf k).length nc) (sksOf k), pt g (.cells #[.int .i64 (within k.budget 1 4), .int .i64 (within k.room 1 8), .int .i64 (within k.quota 0 30), .slice na (sksOf k).length nc] 26 (0, 0))] := h2
  clear H1
  obtain ⟨zz, fz⟩ := blkCells (h2.blk 2 rfl).1
  have z2 := (zz 2).trans rfl
  have hlg := (h2.blk 2 rfl).2.2
  have H2 := Lib.hid (h2.set 2 rfl 2 (.int .i64 (within k.quota 0 30 + 1)))
  clear zz h2
  go_upto_region 3 with fail
  refine wp_at H2.out ?_
  intro w3 h3
  clear H2 z2 fz hlg
  have h3 : St w w3 [pt w.heap.size (.cells #[.int .i64 k.budget, .int .i64 k.room, .int .i64 k.quota, .slice ka k.sinks.length kc] 56 (0, 0)), ownP 69 5 Sk.cells (.slice na (sksOf k).length nc) (sksOf k), pt g (.cells #[.int .i64 (within k.budget 1 4), .int .i64 (within k.room 1 8), .int .i64 (within k.quota 0 30 + 1), .slice na (sksOf k).length nc] 26 (0, 0))] := h3
  obtain ⟨zz, _⟩ := blkCells (h3.blk 2 rfl).1
  have z0 := (zz 0).trans rfl
  have z1 := (zz 1).trans rfl
  have z2 := (zz 2).trans rfl
  have z3 := (zz 3).trans rfl
  clear zz
  have hne := coreNew_st h3 (⟨within k.budget 1 4, within k.room 1 8, within k.quota 0 30 + 1, sksOf k⟩ : Su) na nc (h3.slOf Sk.len 1 rfl) (sk_nil h3 1 rfl) HSR.out HSW.out
  have hne : Calls Tryz.prog 14 #[.agg #[.int .i64 (within k.budget 1 4), .int .i64 (within k.room 1 8), .int .i64 (within k.quota 0 30 + 1), .slice na (sksOf k).length nc]] w3 _ := hne
  have HNE := Lib.hid hne
  clear hne h3
  go_upto_region 9 with (first
    | (go_at_call 14; (with_reducible refine HNE.out.mono ?_); rintro e w4 ⟨cb, ma, mc, rfl, h4⟩; clear z0 z1 z2 z3; have h5 := (((h4.alloc (.cells #[.slice none 0 0, .int .i64 5, .int .i64 5, .int .i64 1, .int .i64 (-1), .int .i64 (-1)] 30)).alloc (.cells #[.int .i64 2, .int .i64 1, .int .i64 0, .int .i64 0, .slice none 0 0, .int .i64 0, .int .i64 0, .int .i64 0, .int .i64 0, .int .i64 0, .bool false, .int .i64 0, .int .i64 0, .int .i64 0, .int .u64 0] 38)).alloc (.cells #[.int .i64 2, .int .i64 2, .int .i64 0, .int .i64 0, .slice none 0 0, .int .i64 0, .int .i64 0, .int .i64 0, .int .i64 0, .int .i64 0, .bool false, .int .i64 0, .int .i64 0, .int .i64 0, .int .u64 0] 38)).alloc (.cells #[.int .i64 1, .int .i64 1, .int .i64 0, .int .i64 0, .slice none 0 0, .int .i64 5, .int .i64 5, .int .i64 1, .int .i64 (-1), .int .i64 (-1), .bool false, .int .i64 0, .int .i64 0, .int .i64 0, .int .u64 0, .int .i64 1, .int .i64 2, .int .i64 0, .int .i64 0, .slice none 0 0, .int .i64 5, .int .i64 5, .int .i64 1, .int .i64 (-1), .int .i64 (-1), .bool false, .int .i64 0, .int .i64 0, .int .i64 0, .int .u64 0] 38); simp only [World.size_alloc] at h5; have h5 : St w _ ([pt w.heap.size (.cells #[.int .i64 k.budget, .int .i64 k.room, .int .i64 k.quota, .slice ka k.sinks.length kc] 56 (0, 0)), ownP 69 5 Sk.cells (.slice na (sksOf k).length nc) (sksOf k), pt g (.cells #[.int .i64 (within k.budget 1 4), .int .i64 (within k.room 1 8), .int .i64 (within k.quota 0 30 + 1), .slice na (sksOf k).length nc] 26 (0, 0)), coP cb ma mc (newCo (⟨within k.budget 1 4, within k.room 1 8, within k.quota 0 30 + 1, sksOf k⟩ : Su)) 0, ownP 69 5 Sk.cells (.slice ma (sksOf k).length mc) (sksOf k)] ++ [pt w4.heap.size (.cells #[.slice none 0 0, .int .i64 5, .int .i64 5, .int .i64 1, .int .i64 (-1), .int .i64 (-1)] 30 (0, 0)), pt (w4.heap.size + 1) (.cells #[.int .i64 2, .int .i64 1, .int .i64 0, .int .i64 0, .slice none 0 0, .int .i64 0, .int .i64 0, .int .i64 0, .int .i64 0, .int .i64 0, .bool false, .int .i64 0, .int .i64 0, .int .i64 0, .int .u64 0] 38 (0, 0)), pt (w4.heap.size + 1 + 1) (.cells #[.int .i64 2, .int .i64 2, .int .i64 0, .int .i64 0, .slice none 0 0, .int .i64 0, .int .i64 0, .int .i64 0, .int .i64 0, .int .i64 0, .bool false, .int .i64 0, .int .i64 0, .int .i64 0, .int .u64 0] 38 (0, 0))] ++ [pt (w4.heap.size + 1 + 1 + 1) (.cells #[.int .i64 1, .int .i64 1, .int .i64 0, .int .i64 0, .slice none 0 0, .int .i64 5, .int .i64 5, .int .i64 1, .int .i64 (-1), .int .i64 (-1), .bool false, .int .i64 0, .int .i64 0, .int .i64 0, .int .u64 0, .int .i64 1, .int .i64 2, .int .i64 0, .int .i64 0, .slice none 0 0, .int .i64 5, .int .i64 5, .int .i64 1, .int .i64 (-1), .int .i64 (-1), .bool false, .int .i64 0, .int .i64 0, .int .i64 0, .int .u64 0] 38 (0, 0))]) := h5; have h6 := doAll_in (h5.front 3 rfl) (Seen.own Sk.len 4 rfl) (sk_nil h5 4 rfl) [(⟨1, 1, 0, 0, none, 0, pF, Inp.zero⟩ : ActR), ⟨1, 2, 0, 0, none, 0, pF, Inp.zero⟩] (some ⟨w4.heap.size + 1 + 1 + 1, 0, none⟩) 2 (Seen.pt ActR.len 8 rfl) (by { intro a ha; have hh : a.oa = none ∧ a.oc = 0 ∧ a.p.ops = [] ∧ a.i.ev.wf ∧ a.fr = 0 := by { simp only [List.mem_cons, List.not_mem_nil, or_false] at ha; rcases ha with rfl | rfl <;> exact ⟨rfl, rfl, rfl, ⟨by decide, by decide, by decide, by decide⟩, rfl⟩ }; exact acts_plain hh }) (by decide); have h6 : Calls Tryz.prog 16 #[.pointer (some ⟨cb, 0, none⟩), .slice (some ⟨w4.heap.size + 1 + 1 + 1, 0, none⟩) 2 2] _ _ := h6; have HDO := Lib.hid h6; clear h4 h5 h6 HNE)
    | (go_at_call 16; (with_reducible refine HDO.out.mono ?_); rintro e w5 ⟨v5, us, rfl, hus, h5⟩; have H5 := Lib.hid ((h5.back (n := 3) (by simp)).pick [0, 1, 2, 3, 4, 5, 6, 7] (by decide)); clear h5 hus HDO))
  generalize w4.heap.size = g3 at *
  have hw1 := Within_at n 1 60
  obtain ⟨W, hW, hW1⟩ : ∃ W : Nat, within n 1 60 = W ∧ W ≤ 60 := ⟨(within n 1 60).toNat, by have := within_range n 1 60 (by omega); omega, by have := within_range n 1 60 (by omega); omega⟩
  have hwn : ∀ w', Calls Tryz.prog 22 #[.int .i64 n, .int .i64 1, .int .i64 60] w' fun e w'' => e = .returned (.int .i64 W) ∧ w'' = w' := fun w' => by have h := Within_at n 1 60 w' hrn.1 hrn.2 (by omega) (by omega) (by omega); rw [hW] at h; exact h.mono fun e w'' hh => ⟨hh.1, hh.2.symm⟩
  obtain ⟨M, hM, hM1, hM2⟩ : ∃ M : Nat, within m 1 9 = M ∧ M ≤ 9 ∧ 1 ≤ M := ⟨(within m 1 9).toNat, by have := within_range m 1 9 (by omega); omega, by have := within_range m 1 9 (by omega); omega, by have := within_range m 1 9 (by omega); omega⟩
  have hwm : ∀ w', Calls Tryz.prog 22 #[.int .i64 m, .int .i64 1, .int .i64 9] w' fun e w'' => e = .returned (.int .i64 M) ∧ w'' = w' := fun w' => by have h := Within_at m 1 9 w' hrm.1 hrm.2 (by omega) (by omega) (by omega); rw [hM] at h; exact h.mono fun e w'' hh => ⟨hh.1, hh.2.symm⟩
  have HWN := Lib.hid hwn
  have HWM := Lib.hid hwm
  clear hwn hwm hw1 hW hM
  obtain ⟨zz, _⟩ := blkCells (H5.out.blk 2 rfl).1
  have z2 : w5.cell? ⟨g, 2, none⟩ = some (.int .i64 (within k.quota 0 30 + 1)) := (zz 2).trans rfl
  clear zz
  go_quiet (fail)
  go_wp2_with fail
  go_loopw [12, 13, 14] (fun av bv iv wr => ∃ (j N : Nat) (wait left : Int) (co : Co), j ≤ W ∧ iv = .int .i64 j ∧ N ≤ 18 + 18 * j ∧ av = .int .i64 wait ∧ bv = .int .i64 left ∧ 0 ≤ wait ∧ wait ≤ j ∧ 0 ≤ left ∧ left ≤ 31 ∧ fullAt co (⟨within k.budget 1 4, within k.room 1 8, within k.quota 0 30 + 1, sksOf k⟩ : Su) wait left ∧ St w wr [pt w.heap.size (.cells #[.int .i64 k.budget, .int .i64 k.room, .int .i64 k.quota, .slice ka k.sinks.length kc] 56 (0, 0)), ownP 69 5 Sk.cells (.slice na (sksOf k).length nc) (sksOf k), pt g (.cells #[.int .i64 (within k.budget 1 4), .int .i64 (within k.room 1 8), .int .i64 (within k.quota 0 30 + 1), .slice na (sksOf k).length nc] 26 (0, 0)), coP cb ma mc co N, ownP 69 5 Sk.cells (.slice ma (sksOf k).length mc) (sksOf k), pt g3 (.cells #[.slice none 0 0, .int .i64 5, .int .i64 5, .int .i64 1, .int .i64 (-1), .int .i64 (-1)] 30 (0, 0)), pt (g3 + 1) (.cells #[.int .i64 2, .int .i64 1, .int .i64 0, .int .i64 0, .slice none 0 0, .int .i64 0, .int .i64 0, .int .i64 0, .int .i64 0, .int .i64 0, .bool false, .int .i64 0, .int .i64 0, .int .i64 0, .int .u64 0] 38 (0, 0)), pt (g3 + 1 + 1) (.cells #[.int .i64 2, .int .i64 2, .int .i64 0, .int .i64 0, .slice none 0 0, .int .i64 0, .int .i64 0, .int .i64 0, .int .i64 0, .int .i64 0, .bool false, .int .i64 0, .int .i64 0, .int .i64 0, .int .u64 0] 38 (0, 0))]) (fun _ _ iv _ => W - (intOf iv).toNat)
  case atStart => exact ⟨0, 18, 0, within k.quota 0 30 + 1, _, by omega, rfl, by omega, rfl, rfl, by omega, by omega, by omega, by omega, full_start _ HSR.out, H5.out.drewN _⟩
  case round =>
    clear H5
    obtain ⟨j, N, wait, left, co, hj, rfl, hN, rfl, rfl, hw0, hwj, hl0, hl1, hco, hst⟩ := hrel
    have HSU := Lib.hid hco.su
    obtain ⟨zz, _⟩ := blkCells (hst.blk 2 rfl).1
    have z1 : wr.cell? ⟨g, 1, none⟩ = some (.int .i64 (within k.room 1 8)) := (zz 1).trans rfl
    clear zz
    by_cases hlt : (j : Int) < W
    · skip
      obtain ⟨zz, _⟩ := blkCells (hst.blk 6 rfl).1
      have a0 : wr.cell? ⟨(g3 + 1), 0, none⟩ = some (.int .i64 2) := (zz 0).trans rfl
      have a1 : wr.cell? ⟨(g3 + 1), 1, none⟩ = some (.int .i64 1) := (zz 1).trans rfl
      have a2 : wr.cell? ⟨(g3 + 1), 2, none⟩ = some (.int .i64 0) := (zz 2).trans rfl
      have a3 : wr.cell? ⟨(g3 + 1), 3, none⟩ = some (.int .i64 0) := (zz 3).trans rfl
      have a4 : wr.cell? ⟨(g3 + 1), 4, none⟩ = some (.slice none 0 0) := (zz 4).trans rfl
      have a5 : wr.cell? ⟨(g3 + 1), 5, none⟩ = some (.int .i64 0) := (zz 5).trans rfl
      have a6 : wr.cell? ⟨(g3 + 1), 6, none⟩ = some (.int .i64 0) := (zz 6).trans rfl
      have a7 : wr.cell? ⟨(g3 + 1), 7, none⟩ = some (.int .i64 0) := (zz 7).trans rfl
      have a8 : wr.cell? ⟨(g3 + 1), 8, none⟩ = some (.int .i64 0) := (zz 8).trans rfl
      have a9 : wr.cell? ⟨(g3 + 1), 9, none⟩ = some (.int .i64 0) := (zz 9).trans rfl
      have a10 : wr.cell? ⟨(g3 + 1), 10, none⟩ = some (.bool false) := (zz 10).trans rfl
      have a11 : wr.cell? ⟨(g3 + 1), 11, none⟩ = some (.int .i64 0) := (zz 11).trans rfl
      have a12 : wr.cell? ⟨(g3 + 1), 12, none⟩ = some (.int .i64 0) := (zz 12).trans rfl
      have a13 : wr.cell? ⟨(g3 + 1), 13, none⟩ = some (.int .i64 0) := (zz 13).trans rfl
      have a14 : wr.cell? ⟨(g3 + 1), 14, none⟩ = some (.int .u64 0) := (zz 14).trans rfl
      clear zz
      obtain ⟨hf1, hf2⟩ := full_one co (⟨within k.budget 1 4, within k.room 1 8, within k.quota 0 30 + 1, sksOf k⟩ : Su) wait left hco
      have h5 := hst.alloc (.cells #[.int .i64 2, .int .i64 1, .int .i64 0, .int .i64 0, .slice none 0 0, .int .i64 0, .int .i64 0, .int .i64 0, .int .i64 0, .int .i64 0, .bool false, .int .i64 0, .int .i64 0, .int .i64 0, .int .u64 0] 38)
      have hdo := doLit_st h5 3 4 8 rfl rfl (by rw [HSU.out]) (⟨2, 1, 0, 0, none, 0, Pp.zero, Inp.zero⟩ : ActR) rfl rfl (by decide) (by decide) rfl rfl rfl (plain_okF rfl (by decide) (by decide) rfl) (by omega) _ rfl
      have HDO := Lib.hid hdo
      clear h5 hdo hst hco
      by_cases hA : left = 0
      · skip
        have hwt : wantF (⟨within k.budget 1 4, within k.room 1 8, within k.quota 0 30 + 1, sksOf k⟩ : Su) wait left = 4 := by unfold wantF; rw [if_pos hA]
        rw [hwt] at hf1 hf2
        have HER := Lib.hid hf1
        rw [if_neg (by decide), if_neg (by decide)] at hf2
        have HCO2 := Lib.hid hf2
        clear hf1 hf2 hwt
        have hw5 : wrap64 (wait - within k.budget 1 4) = wait - within k.budget 1 4 := wrap64_id (by omega) (by omega)
        go_wp2_with (first
          | (go_at_call 22; (with_reducible refine (HWM.out _).mono ?_); rintro e wz ⟨rfl, hwz⟩; subst hwz)
          | (go_at_call 22; (with_reducible refine (HWN.out _).mono ?_); rintro e wz ⟨rfl, hwz⟩; subst hwz)
          | (go_at_call 16; (with_reducible refine HDT.out.mono ?_); rintro e w7 ⟨va, vc, v, rfl, hv1, hvv, h8⟩; obtain ⟨zz, _⟩ := blkCells (h8.blk 2 rfl).1; have z0 : w7.cell? ⟨g, 0, none⟩ = some (.int .i64 (within k.budget 1 4)) := (zz 0).trans rfl; clear zz hvv; have H8 := Lib.hid (h8.pick [0, 1, 2, 3, 4, 5, 6, 7] (by decide)); clear h8 HDT)
          | (go_at_call 16; (with_reducible refine HDO.out.mono ?_); rintro e w5 ⟨ua, uc, u, rfl, hu1, huv, h6⟩; obtain ⟨b6, o6, rfl, hb6, c0, _, _⟩ := (h6.slOf AnsR.len 9 rfl).ansAt 0 (by show 0 < 1; omega) u rfl; simp only [Nat.zero_mul, Nat.add_zero] at c0; rw [show u.err = 4 from (congrArg Ans.err huv).trans HER.out] at c0; have h6b := h6.pick [0, 1, 2, 3, 4, 5, 6, 7] (by decide); have h7 := h6b.alloc (.cells #[.int .i64 3, .int .i64 0, .int .i64 0, .int .i64 0, .slice none 0 0, .int .i64 0, .int .i64 0, .int .i64 0, .int .i64 0, .int .i64 0, .bool false, .int .i64 0, .int .i64 0, .int .i64 0, .int .u64 0] 38); have hdo := doLit_st h7 3 4 8 rfl rfl (by rw [(do1_s co _).1, HSU.out]) (⟨3, 0, 0, 0, none, 0, Pp.zero, Inp.zero⟩ : ActR) rfl rfl (by decide) (by decide) rfl rfl rfl (plain_okF rfl (by decide) (by decide) rfl) (by omega) _ rfl; have HDT := Lib.hid hdo; have H7 := Lib.hid h6b; clear h6 h6b h7 hdo huv HDO))
        all_goals
          go_roundw
          case rel => first | exact ⟨j + 1, N + 9 + 9, max (wait - within k.budget 1 4) 0, left, _, by omega, by go_num, by omega, by first | rfl | (congr 1; omega), by rw [hA], by omega, by omega, by omega, by omega, full_tick _ _ _ _ (by show 0 ≤ within k.budget 1 4; omega) HCO2.out, H8.out⟩ | exact ⟨j + 1, N + 9, wait, left, _, by omega, by go_num, by omega, rfl, by rw [hA], by omega, by omega, by omega, by omega, HCO2.out, H7.out⟩
          case measure => simp [intOf]; omega
      · by_cases hB : within k.room 1 8 ≤ wait
        · skip
          have hwt : wantF (⟨within k.budget 1 4, within k.room 1 8, within k.quota 0 30 + 1, sksOf k⟩ : Su) wait left = 3 := by unfold wantF; rw [if_neg hA, if_pos hB]
          rw [hwt] at hf1 hf2
          have HER := Lib.hid hf1
          rw [if_neg (by decide), if_neg (by decide)] at hf2
          have HCO2 := Lib.hid hf2
          clear hf1 hf2 hwt
          have hw5 : wrap64 (wait - within k.budget 1 4) = wait - within k.budget 1 4 := wrap64_id (by omega) (by omega)
          go_wp2_with (first
            | (go_at_call 22; (with_reducible refine (HWM.out _).mono ?_); rintro e wz ⟨rfl, hwz⟩; subst hwz)
            | (go_at_call 22; (with_reducible refine (HWN.out _).mono ?_); rintro e wz ⟨rfl, hwz⟩; subst hwz)
            | (go_at_call 16; (with_reducible refine HDT.out.mono ?_); rintro e w7 ⟨va, vc, v, rfl, hv1, hvv, h8⟩; obtain ⟨zz, _⟩ := blkCells (h8.blk 2 rfl).1; have z0 : w7.cell? ⟨g, 0, none⟩ = some (.int .i64 (within k.budget 1 4)) := (zz 0).trans rfl; clear zz hvv; have H8 := Lib.hid (h8.pick [0, 1, 2, 3, 4, 5, 6, 7] (by decide)); clear h8 HDT)
            | (go_at_call 16; (with_reducible refine HDO.out.mono ?_); rintro e w5 ⟨ua, uc, u, rfl, hu1, huv, h6⟩; obtain ⟨b6, o6, rfl, hb6, c0, _, _⟩ := (h6.slOf AnsR.len 9 rfl).ansAt 0 (by show 0 < 1; omega) u rfl; simp only [Nat.zero_mul, Nat.add_zero] at c0; rw [show u.err = 3 from (congrArg Ans.err huv).trans HER.out] at c0; have h6b := h6.pick [0, 1, 2, 3, 4, 5, 6, 7] (by decide); have h7 := h6b.alloc (.cells #[.int .i64 3, .int .i64 0, .int .i64 0, .int .i64 0, .slice none 0 0, .int .i64 0, .int .i64 0, .int .i64 0, .int .i64 0, .int .i64 0, .bool false, .int .i64 0, .int .i64 0, .int .i64 0, .int .u64 0] 38); have hdo := doLit_st h7 3 4 8 rfl rfl (by rw [(do1_s co _).1, HSU.out]) (⟨3, 0, 0, 0, none, 0, Pp.zero, Inp.zero⟩ : ActR) rfl rfl (by decide) (by decide) rfl rfl rfl (plain_okF rfl (by decide) (by decide) rfl) (by omega) _ rfl; have HDT := Lib.hid hdo; have H7 := Lib.hid h6b; clear h6 h6b h7 hdo huv HDO))
          all_goals
            go_roundw
            case rel => first | exact ⟨j + 1, N + 9 + 9, max (wait - within k.budget 1 4) 0, left, _, by omega, by go_num, by omega, by first | rfl | (congr 1; omega), rfl, by omega, by omega, by omega, by omega, full_tick _ _ _ _ (by show 0 ≤ within k.budget 1 4; omega) HCO2.out, H8.out⟩ | exact ⟨j + 1, N + 9, wait, left, _, by omega, by go_num, by omega, rfl, rfl, by omega, by omega, by omega, by omega, HCO2.out, H7.out⟩
            case measure => simp [intOf]; omega
        · skip
          have hwt : wantF (⟨within k.budget 1 4, within k.room 1 8, within k.quota 0 30 + 1, sksOf k⟩ : Su) wait left = 0 := by unfold wantF; rw [if_neg hA, if_neg hB]
          rw [hwt] at hf1 hf2
          have HER := Lib.hid hf1
          rw [if_pos rfl, if_pos rfl] at hf2
          have HCO2 := Lib.hid hf2
          clear hf1 hf2 hwt
          have hw3 : wrap64 (wait + 1) = wait + 1 := wrap64_id (by omega) (by omega)
          have hw4 : wrap64 (left - 1) = left - 1 := wrap64_id (by omega) (by omega)
          have hw5 : wrap64 ((wait + 1) - within k.budget 1 4) = (wait + 1) - within k.budget 1 4 := wrap64_id (by omega) (by omega)
          go_wp2_with (first
            | (go_at_call 22; (with_reducible refine (HWM.out _).mono ?_); rintro e wz ⟨rfl, hwz⟩; subst hwz)
            | (go_at_call 22; (with_reducible refine (HWN.out _).mono ?_); rintro e wz ⟨rfl, hwz⟩; subst hwz)
            | (go_at_call 16; (with_reducible refine HDT.out.mono ?_); rintro e w7 ⟨va, vc, v, rfl, hv1, hvv, h8⟩; obtain ⟨zz, _⟩ := blkCells (h8.blk 2 rfl).1; have z0 : w7.cell? ⟨g, 0, none⟩ = some (.int .i64 (within k.budget 1 4)) := (zz 0).trans rfl; clear zz hvv; have H8 := Lib.hid (h8.pick [0, 1, 2, 3, 4, 5, 6, 7] (by decide)); clear h8 HDT)
            | (go_at_call 16; (with_reducible refine HDO.out.mono ?_); rintro e w5 ⟨ua, uc, u, rfl, hu1, huv, h6⟩; obtain ⟨b6, o6, rfl, hb6, c0, _, _⟩ := (h6.slOf AnsR.len 9 rfl).ansAt 0 (by show 0 < 1; omega) u rfl; simp only [Nat.zero_mul, Nat.add_zero] at c0; rw [show u.err = 0 from (congrArg Ans.err huv).trans HER.out] at c0; have h6b := h6.pick [0, 1, 2, 3, 4, 5, 6, 7] (by decide); have h7 := h6b.alloc (.cells #[.int .i64 3, .int .i64 0, .int .i64 0, .int .i64 0, .slice none 0 0, .int .i64 0, .int .i64 0, .int .i64 0, .int .i64 0, .int .i64 0, .bool false, .int .i64 0, .int .i64 0, .int .i64 0, .int .u64 0] 38); have hdo := doLit_st h7 3 4 8 rfl rfl (by rw [(do1_s co _).1, HSU.out]) (⟨3, 0, 0, 0, none, 0, Pp.zero, Inp.zero⟩ : ActR) rfl rfl (by decide) (by decide) rfl rfl rfl (plain_okF rfl (by decide) (by decide) rfl) (by omega) _ rfl; have HDT := Lib.hid hdo; have H7 := Lib.hid h6b; clear h6 h6b h7 hdo huv HDO))
          all_goals
            go_roundw
            case rel => first | exact ⟨j + 1, N + 9 + 9, max ((wait + 1) - within k.budget 1 4) 0, (left - 1), _, by omega, by go_num, by omega, by first | rfl | (congr 1; omega), rfl, by omega, by omega, by omega, by omega, full_tick _ _ _ _ (by show 0 ≤ within k.budget 1 4; omega) HCO2.out, H8.out⟩ | exact ⟨j + 1, N + 9, (wait + 1), (left - 1), _, by omega, by go_num, by omega, rfl, rfl, by omega, by omega, by omega, by omega, HCO2.out, H7.out⟩
            case measure => simp [intOf]; omega
    · skip
      obtain ⟨zz, _⟩ := blkCells (hst.blk 7 rfl).1
      have a0 : wr.cell? ⟨(g3 + 1 + 1), 0, none⟩ = some (.int .i64 2) := (zz 0).trans rfl
      have a1 : wr.cell? ⟨(g3 + 1 + 1), 1, none⟩ = some (.int .i64 2) := (zz 1).trans rfl
      have a2 : wr.cell? ⟨(g3 + 1 + 1), 2, none⟩ = some (.int .i64 0) := (zz 2).trans rfl
      have a3 : wr.cell? ⟨(g3 + 1 + 1), 3, none⟩ = some (.int .i64 0) := (zz 3).trans rfl
      have a4 : wr.cell? ⟨(g3 + 1 + 1), 4, none⟩ = some (.slice none 0 0) := (zz 4).trans rfl
      have a5 : wr.cell? ⟨(g3 + 1 + 1), 5, none⟩ = some (.int .i64 0) := (zz 5).trans rfl
      have a6 : wr.cell? ⟨(g3 + 1 + 1), 6, none⟩ = some (.int .i64 0) := (zz 6).trans rfl
      have a7 : wr.cell? ⟨(g3 + 1 + 1), 7, none⟩ = some (.int .i64 0) := (zz 7).trans rfl
      have a8 : wr.cell? ⟨(g3 + 1 + 1), 8, none⟩ = some (.int .i64 0) := (zz 8).trans rfl
      have a9 : wr.cell? ⟨(g3 + 1 + 1), 9, none⟩ = some (.int .i64 0) := (zz 9).trans rfl
      have a10 : wr.cell? ⟨(g3 + 1 + 1), 10, none⟩ = some (.bool false) := (zz 10).trans rfl
      have a11 : wr.cell? ⟨(g3 + 1 + 1), 11, none⟩ = some (.int .i64 0) := (zz 11).trans rfl
      have a12 : wr.cell? ⟨(g3 + 1 + 1), 12, none⟩ = some (.int .i64 0) := (zz 12).trans rfl
      have a13 : wr.cell? ⟨(g3 + 1 + 1), 13, none⟩ = some (.int .i64 0) := (zz 13).trans rfl
      have a14 : wr.cell? ⟨(g3 + 1 + 1), 14, none⟩ = some (.int .u64 0) := (zz 14).trans rfl
      clear zz
      have hf := full_two co (⟨within k.budget 1 4, within k.room 1 8, within k.quota 0 30 + 1, sksOf k⟩ : Su) wait left hco (by show within k.quota 0 30 + 1 ≠ 0; omega) (by show 1 ≤ within k.room 1 8; omega)
      have h5 := hst.alloc (.cells #[.int .i64 2, .int .i64 2, .int .i64 0, .int .i64 0, .slice none 0 0, .int .i64 0, .int .i64 0, .int .i64 0, .int .i64 0, .int .i64 0, .bool false, .int .i64 0, .int .i64 0, .int .i64 0, .int .u64 0] 38)
      have hdo := doLit_st h5 3 4 8 rfl rfl (by rw [HSU.out]) (⟨2, 2, 0, 0, none, 0, Pp.zero, Inp.zero⟩ : ActR) rfl rfl (by decide) (by decide) rfl rfl rfl (plain_okF rfl (by decide) (by decide) rfl) (by omega) _ rfl
      have HDO := Lib.hid hdo
      have HER := Lib.hid hf
      clear h5 hdo hst hco hf
      go_wp2_with (first
        | (go_at_call 22; (with_reducible refine (HWN.out _).mono ?_); rintro e wz ⟨rfl, hwz⟩; subst hwz)
        | (go_at_call 3; (with_reducible refine HCR.out.mono ?_); rintro e w8 ⟨rfl, hb8⟩; have H9 := Lib.hid (H8.out.kept hb8); clear hb8 HCR H8)
        | (go_at_call 16; (with_reducible refine HDO.out.mono ?_); rintro e w5 ⟨ua, uc, u, rfl, hu1, huv, h6⟩; obtain ⟨b6, o6, rfl, hb6, c0, _, _⟩ := (h6.slOf AnsR.len 9 rfl).ansAt 0 (by show 0 < 1; omega) u rfl; simp only [Nat.zero_mul, Nat.add_zero] at c0; rw [show u.err = 0 from (congrArg Ans.err huv).trans HER.out] at c0; have HCR := Lib.hid (CoreRuns_any w5); have H8 := Lib.hid h6; clear h6 huv HDO))
      go_ret
      exact ⟨rfl, H9.out.below⟩
end Go.Proofs.YtpkpcomocimghaaGreat
