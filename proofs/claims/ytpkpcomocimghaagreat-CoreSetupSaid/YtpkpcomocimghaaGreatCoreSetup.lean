/- The walk of CoreSetup. -/
import Derived.Test.YtpkpcomocimghaaGreatSetLaw
import Derived.Test.YtpkpcomocimghaaGreatCoreRuns
set_option linter.unusedVariables false
set_option linter.unusedSimpArgs false
namespace Go.Proofs.YtpkpcomocimghaaGreat
open Go.RowKit
set_option maxHeartbeats 16000000 in
set_option maxRecDepth 20000 in
theorem CoreSetup_any (w : World) (cs : Array Value) (k : SetQ) (hk : isStq w cs.toList k) (what : Int) (hwh : (Lit.int .i64 what).wf = true) (byn : Int) (hby : (Lit.int .i64 byn).wf = true) :
    Calls Tryz.prog 6 #[.agg cs, .int .i64 what, .int .i64 byn] w fun e w' => e = .returned (.bool true) ∧ Below w.heap.size w w' := by
  obtain ⟨ka, kc, hcs, hks, hkw, hkl⟩ := hk
  obtain rfl : cs = #[.int .i64 k.budget, .int .i64 k.room, .int .i64 k.quota, .slice ka k.sinks.length kc] := by
    obtain ⟨cl⟩ := cs
    dsimp only at hcs
    rw [hcs]
  clear hcs
  have hrw := i64_range hwh
  have hrb := i64_range hby
  have h0 : St w (w.alloc (.cells #[.int .i64 k.budget, .int .i64 k.room, .int .i64 k.quota, .slice ka k.sinks.length kc] 56)) [pt w.heap.size (.cells #[.int .i64 k.budget, .int .i64 k.room, .int .i64 k.quota, .slice ka k.sinks.length kc] 56 (0, 0))] := (St.start w).alloc (.cells #[.int .i64 k.budget, .int .i64 k.room, .int .i64 k.quota, .slice ka k.sinks.length kc] 56)
  have hse := setup_st h0 k ka kc (Seen.old hks) hkw hkl (sksOf k) rfl
  have k0 := (blkCells (h0.blk 0 rfl).1).1
  have k1 := (k0 0).trans rfl
  have k2 := (k0 1).trans rfl
  have k3 := (k0 2).trans rfl
  have k4 := (k0 3).trans rfl
  have HSE := Lib.hid hse
  have hbn := within_range byn 0 1099511627776 (by omega)
  have hwb := Within_at byn 0 1099511627776
  obtain ⟨N, hN⟩ : ∃ N, within byn 0 1099511627776 = N := ⟨_, rfl⟩
  rw [hN] at hbn
  have hn1 : wrap64 (1 + N) = 1 + N := wrap64_id (by omega) (by omega)
  have hsl := sksOf_len k
  clear h0 hse k0 hks hkw hkl hwh hby hwb
  have HNN := Lib.hid hN
  clear hN
  go_enter Tryz.func6, Tryz.ntmps6
  go_upto_region 2 with (go_at_call 20; (with_reducible refine HSE.out.mono ?_); rintro e w1 ⟨na, nc, rfl, h1⟩; have H1 := Lib.hid (h1.alloc (.cells #[.int .i64 (within k.budget 1 4), .int .i64 (within k.room 1 8), .int .i64 (within k.quota 0 30), .slice na (sksOf k).length nc] 26)); clear h1 HSE)
  refine wp_at H1.out ?_
  intro w2 h2
  generalize w1.heap.size = g at *
  have h2 : St w w2 [pt w.heap.size (.cells #[.int .i64 k.budget, .int .i64 k.room, .int .i64 k.quota, .slice ka k.sinks.length kc] 56 (0, 0)), ownP 69 5 Sk.cells (.slice na (sksOf k).length nc) (sksOf k), pt g (.cells #[.int .i64 (within k.budget 1 4), .int .i64 (within k.room 1 8), .int .i64 (within k.quota 0 30), .slice na (sksOf k).length nc] 26 (0, 0))] := h2
  clear H1
  obtain ⟨zz, fz⟩ := blkCells (h2.blk 2 rfl).1
  have z0 := (zz 0).trans rfl
  have z1 := (zz 1).trans rfl
  have z2 := (zz 2).trans rfl
  have z3 := (zz 3).trans rfl
  have hlg := (h2.blk 2 rfl).2.2
  have hri := coreRight_any (suOf k) na nc w2 (h2.slOf Sk.len 1 rfl) (by show (sksOf k).length ≤ _; omega)
  rw [suOf_right] at hri
  have hri : Calls Tryz.prog 27 #[.agg #[.int .i64 (within k.budget 1 4), .int .i64 (within k.room 1 8), .int .i64 (within k.quota 0 30), .slice na (sksOf k).length nc]] w2 _ := hri
  have HRI := Lib.hid hri
  have H2 := Lib.hid h2
  have hwn := Within_at byn 0 1099511627776 w2 hrb.1 hrb.2 (by omega) (by omega) (by omega)
  rw [HNN.out] at hwn
  have HWN := Lib.hid hwn
  clear h2 hri hwn zz
  go_upto_region 5 with (first
    | (go_at_call 27; (with_reducible refine HRI.out.mono ?_); rintro e w3 ⟨rfl, hb3⟩; have H3 := Lib.hid (H2.out.kept hb3); clear hb3 HRI H2)
    | (go_at_call 22; (with_reducible refine HWN.out.mono ?_); rintro e wz ⟨rfl, rfl⟩))
  clear z0 z1 z2 z3 fz hlg
  obtain ⟨zz, fz⟩ := blkCells (H3.out.blk 2 rfl).1
  have z0 := (zz 0).trans rfl
  have z1 := (zz 1).trans rfl
  have z2 := (zz 2).trans rfl
  have z3 := (zz 3).trans rfl
  have hlg := (H3.out.blk 2 rfl).2.2
  clear zz
  have hw8 := within_range what 0 7 (by omega)
  have h8 : within what 0 7 = 0 ∨ within what 0 7 = 1 ∨ within what 0 7 = 2 ∨ within what 0 7 = 3 ∨ within what 0 7 = 4 ∨ within what 0 7 = 5 ∨ within what 0 7 = 6 ∨ within what 0 7 = 7 := by omega
  have hwa := Within_at what 0 7 w3 hrw.1 hrw.2 (by omega) (by omega) (by omega)
  rcases h8 with hc | hc | hc | hc | hc | hc | hc | hc
  · rw [hc] at hwa
    have HWA := Lib.hid hwa
    clear hwa hc
    have hn2 : wrap64 (1 - (1 + N)) = 1 - (1 + N) := wrap64_id (by omega) (by omega)
    have H5 := Lib.hid (H3.out.set 2 rfl 0 (.int .i64 (1 - (1 + N))))
    clear H3
    go_upto_region 22 with (go_at_call 22; (with_reducible refine HWA.out.mono ?_); rintro e wz ⟨rfl, rfl⟩)
    refine wp_at H5.out ?_
    intro w5 h5
    clear H5 z0 z1 z2 z3 fz hlg
    
    obtain ⟨zz, fz⟩ := blkCells (h5.blk 2 rfl).1
    have z0 : w5.cell? ⟨g, 0, none⟩ = some (.int .i64 (1 - (1 + N))) := (zz 0).trans rfl
    have z1 : w5.cell? ⟨g, 1, none⟩ = some (.int .i64 ((within k.room 1 8))) := (zz 1).trans rfl
    have z2 : w5.cell? ⟨g, 2, none⟩ = some (.int .i64 ((within k.quota 0 30))) := (zz 2).trans rfl
    have z3 : w5.cell? ⟨g, 3, none⟩ = some (.slice na (sksOf k).length nc) := (zz 3).trans rfl
    clear zz fz
    have hwr : rightSu (⟨1 - (1 + N), (within k.room 1 8), (within k.quota 0 30), sksOf k⟩ : Su) = false := wrong_budget _ _ _ _ (by omega)
    have hri := coreRight_any (⟨1 - (1 + N), (within k.room 1 8), (within k.quota 0 30), sksOf k⟩ : Su) na nc w5 (h5.slOf Sk.len 1 rfl) (by show (sksOf k).length ≤ _; omega)
    rw [hwr] at hri
    
    have hri : Calls Tryz.prog 27 #[.agg #[.int .i64 (1 - (1 + N)), .int .i64 ((within k.room 1 8)), .int .i64 ((within k.quota 0 30)), .slice na (sksOf k).length nc]] w5 _ := hri
    have HRI := Lib.hid hri
    have HWR := Lib.hid hwr
    have H6 := Lib.hid h5
    clear hri hwr h5
    go_wp2_with (first
      | (go_at_call 3; refine (CoreRuns_any w7).mono ?_; rintro e w8 ⟨rfl, hb8⟩; have H8 := Lib.hid (H7.out.kept hb8); clear hb8 H7)
      | (go_at_call 14; (with_reducible refine HNO.out.mono ?_); rintro e w7 ⟨rfl, h7⟩; have H7 := Lib.hid h7; clear h7 HNO)
      | (go_at_call 27; (with_reducible refine HRI.out.mono ?_); rintro e w6 ⟨rfl, hb6⟩; have h6 := H6.out.kept hb6; have hno := coreNew_no h6 (⟨1 - (1 + N), (within k.room 1 8), (within k.quota 0 30), sksOf k⟩ : Su) na nc (h6.slOf Sk.len 1 rfl) (by show (sksOf k).length ≤ _; omega) HWR.out; have hno : Calls Tryz.prog 14 #[.agg #[.int .i64 (1 - (1 + N)), .int .i64 ((within k.room 1 8)), .int .i64 ((within k.quota 0 30)), .slice na (sksOf k).length nc]] w6 _ := hno; have HNO := Lib.hid hno; obtain ⟨zz, fz⟩ := blkCells (h6.blk 2 rfl).1; have z0 : w6.cell? ⟨g, 0, none⟩ = some (.int .i64 (1 - (1 + N))) := (zz 0).trans rfl; have z1 : w6.cell? ⟨g, 1, none⟩ = some (.int .i64 ((within k.room 1 8))) := (zz 1).trans rfl; have z2 : w6.cell? ⟨g, 2, none⟩ = some (.int .i64 ((within k.quota 0 30))) := (zz 2).trans rfl; have z3 : w6.cell? ⟨g, 3, none⟩ = some (.slice na (sksOf k).length nc) := (zz 3).trans rfl; clear zz fz h6 hno hb6 HRI H6))
    go_ret
    exact ⟨rfl, H8.out.below⟩
  · rw [hc] at hwa
    have HWA := Lib.hid hwa
    clear hwa hc
    have hn2 : wrap64 (8 + (1 + N)) = 8 + (1 + N) := wrap64_id (by omega) (by omega)
    have H5 := Lib.hid (H3.out.set 2 rfl 0 (.int .i64 (8 + (1 + N))))
    clear H3
    go_upto_region 22 with (go_at_call 22; (with_reducible refine HWA.out.mono ?_); rintro e wz ⟨rfl, rfl⟩)
    refine wp_at H5.out ?_
    intro w5 h5
    clear H5 z0 z1 z2 z3 fz hlg
    
    obtain ⟨zz, fz⟩ := blkCells (h5.blk 2 rfl).1
    have z0 : w5.cell? ⟨g, 0, none⟩ = some (.int .i64 (8 + (1 + N))) := (zz 0).trans rfl
    have z1 : w5.cell? ⟨g, 1, none⟩ = some (.int .i64 ((within k.room 1 8))) := (zz 1).trans rfl
    have z2 : w5.cell? ⟨g, 2, none⟩ = some (.int .i64 ((within k.quota 0 30))) := (zz 2).trans rfl
    have z3 : w5.cell? ⟨g, 3, none⟩ = some (.slice na (sksOf k).length nc) := (zz 3).trans rfl
    clear zz fz
    have hwr : rightSu (⟨8 + (1 + N), (within k.room 1 8), (within k.quota 0 30), sksOf k⟩ : Su) = false := wrong_budget _ _ _ _ (by omega)
    have hri := coreRight_any (⟨8 + (1 + N), (within k.room 1 8), (within k.quota 0 30), sksOf k⟩ : Su) na nc w5 (h5.slOf Sk.len 1 rfl) (by show (sksOf k).length ≤ _; omega)
    rw [hwr] at hri
    
    have hri : Calls Tryz.prog 27 #[.agg #[.int .i64 (8 + (1 + N)), .int .i64 ((within k.room 1 8)), .int .i64 ((within k.quota 0 30)), .slice na (sksOf k).length nc]] w5 _ := hri
    have HRI := Lib.hid hri
    have HWR := Lib.hid hwr
    have H6 := Lib.hid h5
    clear hri hwr h5
    go_wp2_with (first
      | (go_at_call 3; refine (CoreRuns_any w7).mono ?_; rintro e w8 ⟨rfl, hb8⟩; have H8 := Lib.hid (H7.out.kept hb8); clear hb8 H7)
      | (go_at_call 14; (with_reducible refine HNO.out.mono ?_); rintro e w7 ⟨rfl, h7⟩; have H7 := Lib.hid h7; clear h7 HNO)
      | (go_at_call 27; (with_reducible refine HRI.out.mono ?_); rintro e w6 ⟨rfl, hb6⟩; have h6 := H6.out.kept hb6; have hno := coreNew_no h6 (⟨8 + (1 + N), (within k.room 1 8), (within k.quota 0 30), sksOf k⟩ : Su) na nc (h6.slOf Sk.len 1 rfl) (by show (sksOf k).length ≤ _; omega) HWR.out; have hno : Calls Tryz.prog 14 #[.agg #[.int .i64 (8 + (1 + N)), .int .i64 ((within k.room 1 8)), .int .i64 ((within k.quota 0 30)), .slice na (sksOf k).length nc]] w6 _ := hno; have HNO := Lib.hid hno; obtain ⟨zz, fz⟩ := blkCells (h6.blk 2 rfl).1; have z0 : w6.cell? ⟨g, 0, none⟩ = some (.int .i64 (8 + (1 + N))) := (zz 0).trans rfl; have z1 : w6.cell? ⟨g, 1, none⟩ = some (.int .i64 ((within k.room 1 8))) := (zz 1).trans rfl; have z2 : w6.cell? ⟨g, 2, none⟩ = some (.int .i64 ((within k.quota 0 30))) := (zz 2).trans rfl; have z3 : w6.cell? ⟨g, 3, none⟩ = some (.slice na (sksOf k).length nc) := (zz 3).trans rfl; clear zz fz h6 hno hb6 HRI H6))
    go_ret
    exact ⟨rfl, H8.out.below⟩
  · rw [hc] at hwa
    have HWA := Lib.hid hwa
    clear hwa hc
    have hn2 : wrap64 (1 - (1 + N)) = 1 - (1 + N) := wrap64_id (by omega) (by omega)
    have H5 := Lib.hid (H3.out.set 2 rfl 1 (.int .i64 (1 - (1 + N))))
    clear H3
    go_upto_region 22 with (go_at_call 22; (with_reducible refine HWA.out.mono ?_); rintro e wz ⟨rfl, rfl⟩)
    refine wp_at H5.out ?_
    intro w5 h5
    clear H5 z0 z1 z2 z3 fz hlg
    
    obtain ⟨zz, fz⟩ := blkCells (h5.blk 2 rfl).1
    have z0 : w5.cell? ⟨g, 0, none⟩ = some (.int .i64 ((within k.budget 1 4))) := (zz 0).trans rfl
    have z1 : w5.cell? ⟨g, 1, none⟩ = some (.int .i64 (1 - (1 + N))) := (zz 1).trans rfl
    have z2 : w5.cell? ⟨g, 2, none⟩ = some (.int .i64 ((within k.quota 0 30))) := (zz 2).trans rfl
    have z3 : w5.cell? ⟨g, 3, none⟩ = some (.slice na (sksOf k).length nc) := (zz 3).trans rfl
    clear zz fz
    have hwr : rightSu (⟨(within k.budget 1 4), 1 - (1 + N), (within k.quota 0 30), sksOf k⟩ : Su) = false := wrong_room _ _ _ _ (by omega)
    have hri := coreRight_any (⟨(within k.budget 1 4), 1 - (1 + N), (within k.quota 0 30), sksOf k⟩ : Su) na nc w5 (h5.slOf Sk.len 1 rfl) (by show (sksOf k).length ≤ _; omega)
    rw [hwr] at hri
    
    have hri : Calls Tryz.prog 27 #[.agg #[.int .i64 ((within k.budget 1 4)), .int .i64 (1 - (1 + N)), .int .i64 ((within k.quota 0 30)), .slice na (sksOf k).length nc]] w5 _ := hri
    have HRI := Lib.hid hri
    have HWR := Lib.hid hwr
    have H6 := Lib.hid h5
    clear hri hwr h5
    go_wp2_with (first
      | (go_at_call 3; refine (CoreRuns_any w7).mono ?_; rintro e w8 ⟨rfl, hb8⟩; have H8 := Lib.hid (H7.out.kept hb8); clear hb8 H7)
      | (go_at_call 14; (with_reducible refine HNO.out.mono ?_); rintro e w7 ⟨rfl, h7⟩; have H7 := Lib.hid h7; clear h7 HNO)
      | (go_at_call 27; (with_reducible refine HRI.out.mono ?_); rintro e w6 ⟨rfl, hb6⟩; have h6 := H6.out.kept hb6; have hno := coreNew_no h6 (⟨(within k.budget 1 4), 1 - (1 + N), (within k.quota 0 30), sksOf k⟩ : Su) na nc (h6.slOf Sk.len 1 rfl) (by show (sksOf k).length ≤ _; omega) HWR.out; have hno : Calls Tryz.prog 14 #[.agg #[.int .i64 ((within k.budget 1 4)), .int .i64 (1 - (1 + N)), .int .i64 ((within k.quota 0 30)), .slice na (sksOf k).length nc]] w6 _ := hno; have HNO := Lib.hid hno; obtain ⟨zz, fz⟩ := blkCells (h6.blk 2 rfl).1; have z0 : w6.cell? ⟨g, 0, none⟩ = some (.int .i64 ((within k.budget 1 4))) := (zz 0).trans rfl; have z1 : w6.cell? ⟨g, 1, none⟩ = some (.int .i64 (1 - (1 + N))) := (zz 1).trans rfl; have z2 : w6.cell? ⟨g, 2, none⟩ = some (.int .i64 ((within k.quota 0 30))) := (zz 2).trans rfl; have z3 : w6.cell? ⟨g, 3, none⟩ = some (.slice na (sksOf k).length nc) := (zz 3).trans rfl; clear zz fz h6 hno hb6 HRI H6))
    go_ret
    exact ⟨rfl, H8.out.below⟩
  · rw [hc] at hwa
    have HWA := Lib.hid hwa
    clear hwa hc
    have hn2 : wrap64 (16 + (1 + N)) = 16 + (1 + N) := wrap64_id (by omega) (by omega)
    have H5 := Lib.hid (H3.out.set 2 rfl 1 (.int .i64 (16 + (1 + N))))
    clear H3
    go_upto_region 22 with (go_at_call 22; (with_reducible refine HWA.out.mono ?_); rintro e wz ⟨rfl, rfl⟩)
    refine wp_at H5.out ?_
    intro w5 h5
    clear H5 z0 z1 z2 z3 fz hlg
    
    obtain ⟨zz, fz⟩ := blkCells (h5.blk 2 rfl).1
    have z0 : w5.cell? ⟨g, 0, none⟩ = some (.int .i64 ((within k.budget 1 4))) := (zz 0).trans rfl
    have z1 : w5.cell? ⟨g, 1, none⟩ = some (.int .i64 (16 + (1 + N))) := (zz 1).trans rfl
    have z2 : w5.cell? ⟨g, 2, none⟩ = some (.int .i64 ((within k.quota 0 30))) := (zz 2).trans rfl
    have z3 : w5.cell? ⟨g, 3, none⟩ = some (.slice na (sksOf k).length nc) := (zz 3).trans rfl
    clear zz fz
    have hwr : rightSu (⟨(within k.budget 1 4), 16 + (1 + N), (within k.quota 0 30), sksOf k⟩ : Su) = false := wrong_room _ _ _ _ (by omega)
    have hri := coreRight_any (⟨(within k.budget 1 4), 16 + (1 + N), (within k.quota 0 30), sksOf k⟩ : Su) na nc w5 (h5.slOf Sk.len 1 rfl) (by show (sksOf k).length ≤ _; omega)
    rw [hwr] at hri
    
    have hri : Calls Tryz.prog 27 #[.agg #[.int .i64 ((within k.budget 1 4)), .int .i64 (16 + (1 + N)), .int .i64 ((within k.quota 0 30)), .slice na (sksOf k).length nc]] w5 _ := hri
    have HRI := Lib.hid hri
    have HWR := Lib.hid hwr
    have H6 := Lib.hid h5
    clear hri hwr h5
    go_wp2_with (first
      | (go_at_call 3; refine (CoreRuns_any w7).mono ?_; rintro e w8 ⟨rfl, hb8⟩; have H8 := Lib.hid (H7.out.kept hb8); clear hb8 H7)
      | (go_at_call 14; (with_reducible refine HNO.out.mono ?_); rintro e w7 ⟨rfl, h7⟩; have H7 := Lib.hid h7; clear h7 HNO)
      | (go_at_call 27; (with_reducible refine HRI.out.mono ?_); rintro e w6 ⟨rfl, hb6⟩; have h6 := H6.out.kept hb6; have hno := coreNew_no h6 (⟨(within k.budget 1 4), 16 + (1 + N), (within k.quota 0 30), sksOf k⟩ : Su) na nc (h6.slOf Sk.len 1 rfl) (by show (sksOf k).length ≤ _; omega) HWR.out; have hno : Calls Tryz.prog 14 #[.agg #[.int .i64 ((within k.budget 1 4)), .int .i64 (16 + (1 + N)), .int .i64 ((within k.quota 0 30)), .slice na (sksOf k).length nc]] w6 _ := hno; have HNO := Lib.hid hno; obtain ⟨zz, fz⟩ := blkCells (h6.blk 2 rfl).1; have z0 : w6.cell? ⟨g, 0, none⟩ = some (.int .i64 ((within k.budget 1 4))) := (zz 0).trans rfl; have z1 : w6.cell? ⟨g, 1, none⟩ = some (.int .i64 (16 + (1 + N))) := (zz 1).trans rfl; have z2 : w6.cell? ⟨g, 2, none⟩ = some (.int .i64 ((within k.quota 0 30))) := (zz 2).trans rfl; have z3 : w6.cell? ⟨g, 3, none⟩ = some (.slice na (sksOf k).length nc) := (zz 3).trans rfl; clear zz fz h6 hno hb6 HRI H6))
    go_ret
    exact ⟨rfl, H8.out.below⟩
  · rw [hc] at hwa
    have HWA := Lib.hid hwa
    clear hwa hc
    have hn2 : wrap64 (-(1 + N)) = -(1 + N) := wrap64_id (by omega) (by omega)
    have H5 := Lib.hid (H3.out.set 2 rfl 2 (.int .i64 (-(1 + N))))
    clear H3
    go_upto_region 22 with (go_at_call 22; (with_reducible refine HWA.out.mono ?_); rintro e wz ⟨rfl, rfl⟩)
    refine wp_at H5.out ?_
    intro w5 h5
    clear H5 z0 z1 z2 z3 fz hlg
    
    obtain ⟨zz, fz⟩ := blkCells (h5.blk 2 rfl).1
    have z0 : w5.cell? ⟨g, 0, none⟩ = some (.int .i64 ((within k.budget 1 4))) := (zz 0).trans rfl
    have z1 : w5.cell? ⟨g, 1, none⟩ = some (.int .i64 ((within k.room 1 8))) := (zz 1).trans rfl
    have z2 : w5.cell? ⟨g, 2, none⟩ = some (.int .i64 (-(1 + N))) := (zz 2).trans rfl
    have z3 : w5.cell? ⟨g, 3, none⟩ = some (.slice na (sksOf k).length nc) := (zz 3).trans rfl
    clear zz fz
    have hwr : rightSu (⟨(within k.budget 1 4), (within k.room 1 8), -(1 + N), sksOf k⟩ : Su) = false := wrong_quota _ _ _ _ (by omega)
    have hri := coreRight_any (⟨(within k.budget 1 4), (within k.room 1 8), -(1 + N), sksOf k⟩ : Su) na nc w5 (h5.slOf Sk.len 1 rfl) (by show (sksOf k).length ≤ _; omega)
    rw [hwr] at hri
    
    have hri : Calls Tryz.prog 27 #[.agg #[.int .i64 ((within k.budget 1 4)), .int .i64 ((within k.room 1 8)), .int .i64 (-(1 + N)), .slice na (sksOf k).length nc]] w5 _ := hri
    have HRI := Lib.hid hri
    have HWR := Lib.hid hwr
    have H6 := Lib.hid h5
    clear hri hwr h5
    go_wp2_with (first
      | (go_at_call 3; refine (CoreRuns_any w7).mono ?_; rintro e w8 ⟨rfl, hb8⟩; have H8 := Lib.hid (H7.out.kept hb8); clear hb8 H7)
      | (go_at_call 14; (with_reducible refine HNO.out.mono ?_); rintro e w7 ⟨rfl, h7⟩; have H7 := Lib.hid h7; clear h7 HNO)
      | (go_at_call 27; (with_reducible refine HRI.out.mono ?_); rintro e w6 ⟨rfl, hb6⟩; have h6 := H6.out.kept hb6; have hno := coreNew_no h6 (⟨(within k.budget 1 4), (within k.room 1 8), -(1 + N), sksOf k⟩ : Su) na nc (h6.slOf Sk.len 1 rfl) (by show (sksOf k).length ≤ _; omega) HWR.out; have hno : Calls Tryz.prog 14 #[.agg #[.int .i64 ((within k.budget 1 4)), .int .i64 ((within k.room 1 8)), .int .i64 (-(1 + N)), .slice na (sksOf k).length nc]] w6 _ := hno; have HNO := Lib.hid hno; obtain ⟨zz, fz⟩ := blkCells (h6.blk 2 rfl).1; have z0 : w6.cell? ⟨g, 0, none⟩ = some (.int .i64 ((within k.budget 1 4))) := (zz 0).trans rfl; have z1 : w6.cell? ⟨g, 1, none⟩ = some (.int .i64 ((within k.room 1 8))) := (zz 1).trans rfl; have z2 : w6.cell? ⟨g, 2, none⟩ = some (.int .i64 (-(1 + N))) := (zz 2).trans rfl; have z3 : w6.cell? ⟨g, 3, none⟩ = some (.slice na (sksOf k).length nc) := (zz 3).trans rfl; clear zz fz h6 hno hb6 HRI H6))
    go_ret
    exact ⟨rfl, H8.out.below⟩
  · rw [hc] at hwa
    have HWA := Lib.hid hwa
    clear hwa hc
    have hn2 : wrap64 (4000 + (1 + N)) = 4000 + (1 + N) := wrap64_id (by omega) (by omega)
    have H5 := Lib.hid (H3.out.set 2 rfl 2 (.int .i64 (4000 + (1 + N))))
    clear H3
    go_upto_region 22 with (go_at_call 22; (with_reducible refine HWA.out.mono ?_); rintro e wz ⟨rfl, rfl⟩)
    refine wp_at H5.out ?_
    intro w5 h5
    clear H5 z0 z1 z2 z3 fz hlg
    
    obtain ⟨zz, fz⟩ := blkCells (h5.blk 2 rfl).1
    have z0 : w5.cell? ⟨g, 0, none⟩ = some (.int .i64 ((within k.budget 1 4))) := (zz 0).trans rfl
    have z1 : w5.cell? ⟨g, 1, none⟩ = some (.int .i64 ((within k.room 1 8))) := (zz 1).trans rfl
    have z2 : w5.cell? ⟨g, 2, none⟩ = some (.int .i64 (4000 + (1 + N))) := (zz 2).trans rfl
    have z3 : w5.cell? ⟨g, 3, none⟩ = some (.slice na (sksOf k).length nc) := (zz 3).trans rfl
    clear zz fz
    have hwr : rightSu (⟨(within k.budget 1 4), (within k.room 1 8), 4000 + (1 + N), sksOf k⟩ : Su) = false := wrong_quota _ _ _ _ (by omega)
    have hri := coreRight_any (⟨(within k.budget 1 4), (within k.room 1 8), 4000 + (1 + N), sksOf k⟩ : Su) na nc w5 (h5.slOf Sk.len 1 rfl) (by show (sksOf k).length ≤ _; omega)
    rw [hwr] at hri
    
    have hri : Calls Tryz.prog 27 #[.agg #[.int .i64 ((within k.budget 1 4)), .int .i64 ((within k.room 1 8)), .int .i64 (4000 + (1 + N)), .slice na (sksOf k).length nc]] w5 _ := hri
    have HRI := Lib.hid hri
    have HWR := Lib.hid hwr
    have H6 := Lib.hid h5
    clear hri hwr h5
    go_wp2_with (first
      | (go_at_call 3; refine (CoreRuns_any w7).mono ?_; rintro e w8 ⟨rfl, hb8⟩; have H8 := Lib.hid (H7.out.kept hb8); clear hb8 H7)
      | (go_at_call 14; (with_reducible refine HNO.out.mono ?_); rintro e w7 ⟨rfl, h7⟩; have H7 := Lib.hid h7; clear h7 HNO)
      | (go_at_call 27; (with_reducible refine HRI.out.mono ?_); rintro e w6 ⟨rfl, hb6⟩; have h6 := H6.out.kept hb6; have hno := coreNew_no h6 (⟨(within k.budget 1 4), (within k.room 1 8), 4000 + (1 + N), sksOf k⟩ : Su) na nc (h6.slOf Sk.len 1 rfl) (by show (sksOf k).length ≤ _; omega) HWR.out; have hno : Calls Tryz.prog 14 #[.agg #[.int .i64 ((within k.budget 1 4)), .int .i64 ((within k.room 1 8)), .int .i64 (4000 + (1 + N)), .slice na (sksOf k).length nc]] w6 _ := hno; have HNO := Lib.hid hno; obtain ⟨zz, fz⟩ := blkCells (h6.blk 2 rfl).1; have z0 : w6.cell? ⟨g, 0, none⟩ = some (.int .i64 ((within k.budget 1 4))) := (zz 0).trans rfl; have z1 : w6.cell? ⟨g, 1, none⟩ = some (.int .i64 ((within k.room 1 8))) := (zz 1).trans rfl; have z2 : w6.cell? ⟨g, 2, none⟩ = some (.int .i64 (4000 + (1 + N))) := (zz 2).trans rfl; have z3 : w6.cell? ⟨g, 3, none⟩ = some (.slice na (sksOf k).length nc) := (zz 3).trans rfl; clear zz fz h6 hno hb6 HRI H6))
    go_ret
    exact ⟨rfl, H8.out.below⟩
  · rw [hc] at hwa
    have HWA := Lib.hid hwa
    clear hwa hc
    have h4 := H3.out.alloc (.cells #[] 69)
    have hsa := h4.slOf Sk.len 1 rfl
    have hna : na = none → nc = 0 := by
      rintro rfl
      exact (h4.sl Sk.len 1 rfl).elim fun _ h => h.elim fun _ h => by { obtain ⟨e, _, _, h4, _⟩ := h; cases e; exact h4 rfl }
    have H4 := Lib.hid h4
    have HSA := Lib.hid hsa
    have HNA := Lib.hid hna
    clear h4 hsa hna H3
    go_upto_region 22 with (first
      | (go_at_call 22; (with_reducible refine HWA.out.mono ?_); rintro e wz ⟨rfl, rfl⟩)
      | (at_builtin; refine wpList_push_st skElem rfl (H6.out.alloc (.cells #[.int .u64 1, .int .u64 0, .int .i64 1, .int .i64 1, .int .i64 1] 69)) 3 rfl _ _ rfl rfl _ badSk rfl (heap_new _ _) (by omega) ?_; intro v7 w7 hst7 _; have h7 := hst7; obtain ⟨va, vc, rfl, _⟩ := h7.sl Sk.len 3 rfl; rw [show (sksOf k ++ [badSk]).length = (sksOf k).length + 1 from by simp] at h7 ⊢; have H5 := Lib.hid (h7.set 2 rfl 3 (.slice va ((sksOf k).length + 1) vc)); obtain ⟨zz, fz⟩ := blkCells (h7.blk 2 rfl).1; have z0 := (zz 0).trans rfl; have z1 := (zz 1).trans rfl; have z2 := (zz 2).trans rfl; have z3 := (zz 3).trans rfl; have hlg := (h7.blk 2 rfl).2.2; clear h7 hst7 H6 zz)
      | (at_builtin; refine wpList_copy_st skElem rfl H4.out 3 rfl _ _ rfl rfl na nc (sksOf k) rfl HNA.out HSA.out (by omega) ?_; intro b6 cap6 w6 hst6; have H6 := Lib.hid hst6; clear hst6 H4))
    refine wp_at H5.out ?_
    intro w5 h5
    clear H5 z0 z1 z2 z3 fz hlg
    
    obtain ⟨zz, fz⟩ := blkCells (h5.blk 2 rfl).1
    have z0 : w5.cell? ⟨g, 0, none⟩ = some (.int .i64 ((within k.budget 1 4))) := (zz 0).trans rfl
    have z1 : w5.cell? ⟨g, 1, none⟩ = some (.int .i64 ((within k.room 1 8))) := (zz 1).trans rfl
    have z2 : w5.cell? ⟨g, 2, none⟩ = some (.int .i64 ((within k.quota 0 30))) := (zz 2).trans rfl
    have z3 : w5.cell? ⟨g, 3, none⟩ = some (.slice va ((sksOf k).length + 1) vc) := (zz 3).trans rfl
    clear zz fz
    have hwr : rightSu (⟨(within k.budget 1 4), (within k.room 1 8), (within k.quota 0 30), sksOf k ++ [badSk]⟩ : Su) = false := wrong_sinks _ _ _ _ (wrong_more _)
    have hri := coreRight_any (⟨(within k.budget 1 4), (within k.room 1 8), (within k.quota 0 30), sksOf k ++ [badSk]⟩ : Su) va vc w5 (h5.slOf Sk.len 3 rfl) (by show (sksOf k ++ [badSk]).length ≤ _; rw [List.length_append]; show (sksOf k).length + 1 ≤ _; omega)
    rw [hwr] at hri
    dsimp only at hri; rw [List.length_append] at hri
    have hri : Calls Tryz.prog 27 #[.agg #[.int .i64 ((within k.budget 1 4)), .int .i64 ((within k.room 1 8)), .int .i64 ((within k.quota 0 30)), .slice va ((sksOf k).length + 1) vc]] w5 _ := hri
    have HRI := Lib.hid hri
    have HWR := Lib.hid hwr
    have H6 := Lib.hid h5
    clear hri hwr h5
    go_wp2_with (first
      | (go_at_call 3; refine (CoreRuns_any w7).mono ?_; rintro e w8 ⟨rfl, hb8⟩; have H8 := Lib.hid (H7.out.kept hb8); clear hb8 H7)
      | (go_at_call 14; (with_reducible refine HNO.out.mono ?_); rintro e w7 ⟨rfl, h7⟩; have H7 := Lib.hid h7; clear h7 HNO)
      | (go_at_call 27; (with_reducible refine HRI.out.mono ?_); rintro e w6 ⟨rfl, hb6⟩; have h6 := H6.out.kept hb6; have hno := coreNew_no h6 (⟨(within k.budget 1 4), (within k.room 1 8), (within k.quota 0 30), sksOf k ++ [badSk]⟩ : Su) va vc (h6.slOf Sk.len 3 rfl) (by show (sksOf k ++ [badSk]).length ≤ _; rw [List.length_append]; show (sksOf k).length + 1 ≤ _; omega) HWR.out; dsimp only at hno; rw [List.length_append] at hno; have hno : Calls Tryz.prog 14 #[.agg #[.int .i64 ((within k.budget 1 4)), .int .i64 ((within k.room 1 8)), .int .i64 ((within k.quota 0 30)), .slice va ((sksOf k).length + 1) vc]] w6 _ := hno; have HNO := Lib.hid hno; obtain ⟨zz, fz⟩ := blkCells (h6.blk 2 rfl).1; have z0 : w6.cell? ⟨g, 0, none⟩ = some (.int .i64 ((within k.budget 1 4))) := (zz 0).trans rfl; have z1 : w6.cell? ⟨g, 1, none⟩ = some (.int .i64 ((within k.room 1 8))) := (zz 1).trans rfl; have z2 : w6.cell? ⟨g, 2, none⟩ = some (.int .i64 ((within k.quota 0 30))) := (zz 2).trans rfl; have z3 : w6.cell? ⟨g, 3, none⟩ = some (.slice va ((sksOf k).length + 1) vc) := (zz 3).trans rfl; clear zz fz h6 hno hb6 HRI H6))
    go_ret
    exact ⟨rfl, H8.out.below⟩
  · rw [hc] at hwa
    have HWA := Lib.hid hwa
    clear hwa hc
    have hsz : (w3.setCell ⟨g, 3, none⟩ (.slice (some ⟨w3.heap.size + 1, 0, none⟩) 5 5)).heap.size = w3.heap.size := by simp [World.setCell]
    have h4 := ((H3.out.set 2 rfl 3 (.slice (some ⟨w3.heap.size + 1, 0, none⟩) 5 5)).alloc (.cells #[.int .u64 3, .int .u64 0, .int .i64 2, .int .i64 1, .int .i64 1] 69)).alloc (.cells #[.int .u64 3, .int .u64 0, .int .i64 2, .int .i64 1, .int .i64 1, .int .u64 3, .int .u64 0, .int .i64 2, .int .i64 1, .int .i64 1, .int .u64 3, .int .u64 0, .int .i64 2, .int .i64 1, .int .i64 1, .int .u64 3, .int .u64 0, .int .i64 2, .int .i64 1, .int .i64 1, .int .u64 3, .int .u64 0, .int .i64 2, .int .i64 1, .int .i64 1] 69)
    rw [World.size_alloc, hsz] at h4
    have h6 := h4.imp 4 rfl (X' := ownP 69 5 Sk.cells (.slice (some ⟨w3.heap.size + 1, 0, none⟩) 5 5) [oneSk, oneSk, oneSk, oneSk, oneSk]) (fun f hp => ownP_lit (l := [oneSk, oneSk, oneSk, oneSk, oneSk]) Sk.len (by decide) hp)
    have H5 := Lib.hid h6
    clear h4 h6 H3 hsz
    go_upto_region 22 with (go_at_call 22; (with_reducible refine HWA.out.mono ?_); rintro e wz ⟨rfl, rfl⟩)
    refine wp_at H5.out ?_
    intro w5 h5
    clear H5 z0 z1 z2 z3 fz hlg
    
    obtain ⟨zz, fz⟩ := blkCells (h5.blk 2 rfl).1
    have z0 : w5.cell? ⟨g, 0, none⟩ = some (.int .i64 ((within k.budget 1 4))) := (zz 0).trans rfl
    have z1 : w5.cell? ⟨g, 1, none⟩ = some (.int .i64 ((within k.room 1 8))) := (zz 1).trans rfl
    have z2 : w5.cell? ⟨g, 2, none⟩ = some (.int .i64 ((within k.quota 0 30))) := (zz 2).trans rfl
    have z3 : w5.cell? ⟨g, 3, none⟩ = some (.slice (some ⟨w3.heap.size + 1, 0, none⟩) 5 5) := (zz 3).trans rfl
    clear zz fz
    have hwr : rightSu (⟨(within k.budget 1 4), (within k.room 1 8), (within k.quota 0 30), [oneSk, oneSk, oneSk, oneSk, oneSk]⟩ : Su) = false := wrong_sinks _ _ _ _ wrong_five
    have hri := coreRight_any (⟨(within k.budget 1 4), (within k.room 1 8), (within k.quota 0 30), [oneSk, oneSk, oneSk, oneSk, oneSk]⟩ : Su) (some ⟨w3.heap.size + 1, 0, none⟩) 5 w5 (h5.slOf Sk.len 4 rfl) (by show (5 : Nat) ≤ _; omega)
    rw [hwr] at hri
    
    have hri : Calls Tryz.prog 27 #[.agg #[.int .i64 ((within k.budget 1 4)), .int .i64 ((within k.room 1 8)), .int .i64 ((within k.quota 0 30)), .slice (some ⟨w3.heap.size + 1, 0, none⟩) 5 5]] w5 _ := hri
    have HRI := Lib.hid hri
    have HWR := Lib.hid hwr
    have H6 := Lib.hid h5
    clear hri hwr h5
    go_wp2_with (first
      | (go_at_call 3; refine (CoreRuns_any w7).mono ?_; rintro e w8 ⟨rfl, hb8⟩; have H8 := Lib.hid (H7.out.kept hb8); clear hb8 H7)
      | (go_at_call 14; (with_reducible refine HNO.out.mono ?_); rintro e w7 ⟨rfl, h7⟩; have H7 := Lib.hid h7; clear h7 HNO)
      | (go_at_call 27; (with_reducible refine HRI.out.mono ?_); rintro e w6 ⟨rfl, hb6⟩; have h6 := H6.out.kept hb6; have hno := coreNew_no h6 (⟨(within k.budget 1 4), (within k.room 1 8), (within k.quota 0 30), [oneSk, oneSk, oneSk, oneSk, oneSk]⟩ : Su) (some ⟨w3.heap.size + 1, 0, none⟩) 5 (h6.slOf Sk.len 4 rfl) (by show (5 : Nat) ≤ _; omega) HWR.out; have hno : Calls Tryz.prog 14 #[.agg #[.int .i64 ((within k.budget 1 4)), .int .i64 ((within k.room 1 8)), .int .i64 ((within k.quota 0 30)), .slice (some ⟨w3.heap.size + 1, 0, none⟩) 5 5]] w6 _ := hno; have HNO := Lib.hid hno; obtain ⟨zz, fz⟩ := blkCells (h6.blk 2 rfl).1; have z0 : w6.cell? ⟨g, 0, none⟩ = some (.int .i64 ((within k.budget 1 4))) := (zz 0).trans rfl; have z1 : w6.cell? ⟨g, 1, none⟩ = some (.int .i64 ((within k.room 1 8))) := (zz 1).trans rfl; have z2 : w6.cell? ⟨g, 2, none⟩ = some (.int .i64 ((within k.quota 0 30))) := (zz 2).trans rfl; have z3 : w6.cell? ⟨g, 3, none⟩ = some (.slice (some ⟨w3.heap.size + 1, 0, none⟩) 5 5) := (zz 3).trans rfl; clear zz fz h6 hno hb6 HRI H6))
    go_ret
    exact ⟨rfl, H8.out.below⟩
end Go.Proofs.YtpkpcomocimghaaGreat
