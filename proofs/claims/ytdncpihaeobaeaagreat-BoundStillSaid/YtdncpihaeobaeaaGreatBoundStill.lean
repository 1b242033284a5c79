/- The walk of BoundStill. -/
import Derived.Test.YtdncpihaeobaeaaGreatSetLaw
import Derived.Test.YtdncpihaeobaeaaGreatBStillLaw
import Derived.Test.YtdncpihaeobaeaaGreatDoLit
import Derived.Test.YtdncpihaeobaeaaGreatBoundTells
set_option linter.unusedVariables false
set_option linter.unusedSimpArgs false
namespace Go.Proofs.YtdncpihaeobaeaaGreat
open Go.RowKit
theorem plain_okF {a : ActM} (h3 : a.p.ops = []) (h5 : -4611686018427387904 ≤ a.fr) (h6 : a.fr ≤ 4611686018427387904) (h4 : a.i = Inp.zero) : a.ok :=
  ⟨fun o ho => (by rw [h3] at ho; cases ho), (by rw [h4]; exact ⟨by decide, by decide, by decide, by decide⟩), h5, h6, (by rw [h3]; decide)⟩
set_option maxHeartbeats 16000000 in
set_option maxRecDepth 20000 in
theorem BoundStill_any (w : World) (cs : Array Value) (k : SetQ) (hk : isStq w cs.toList k) (n : Int) (hn : (Lit.int .i64 n).wf = true) (ot : Int) (hot : (Lit.int .i64 ot).wf = true) :
    Calls Tryz.prog 8 #[.agg cs, .int .i64 n, .int .i64 ot] w fun e w' => e = .returned (.bool true) ∧ Below w.heap.size w w' := by
  obtain ⟨ka, kc, hcs, hks, hkw, hkl⟩ := hk
  obtain rfl : cs = #[.int .i64 k.budget, .int .i64 k.room, .int .i64 k.quota, .slice ka k.sinks.length kc] := by
    obtain ⟨cl⟩ := cs
    dsimp only at hcs
    rw [hcs]
  clear hcs
  have hrn := i64_range hn
  have hro := i64_range hot
  have h0 : St w (w.alloc (.cells #[.int .i64 k.budget, .int .i64 k.room, .int .i64 k.quota, .slice ka k.sinks.length kc] 24)) [pt w.heap.size (.cells #[.int .i64 k.budget, .int .i64 k.room, .int .i64 k.quota, .slice ka k.sinks.length kc] 24 (0, 0))] := (St.start w).alloc (.cells #[.int .i64 k.budget, .int .i64 k.room, .int .i64 k.quota, .slice ka k.sinks.length kc] 24)
  have hse := setup_st h0 k ka kc (Seen.old hks) hkw hkl (sksOf k) rfl
  have k0 := (blkCells (h0.blk 0 rfl).1).1
  have k1 := (k0 0).trans rfl
  have k2 := (k0 1).trans rfl
  have k3 := (k0 2).trans rfl
  have k4 := (k0 3).trans rfl
  have HSE := Lib.hid hse
  have hsl := sksOf_len k
  have HSW := Lib.hid (sksOf_wf k)
  clear h0 hse k0 hks hkw hkl
  have hwq := within_range k.quota 0 30 (by omega)
  have hwr := within_range k.room 1 8 (by omega)
  have hwb := within_range k.budget 1 4 (by omega)
  have hsr : rightSu (⟨within k.budget 1 4, within k.room 1 8, 50, sksOf k⟩ : Su) = true := right_of k _ _ _ (by omega) (by omega) (by omega) (by omega) (by omega) (by omega)
  generalize hgr : within k.room 1 8 = room at *
  generalize hgb : within k.budget 1 4 = bud at *
  have HSR := Lib.hid hsr
  clear hn hot hsr hgr hgb
  go_enter Tryz.func8, Tryz.ntmps8
  go_upto_region 2 with (go_at_call 10; (with_reducible refine HSE.out.mono ?_); rintro e w1 ⟨na, nc, rfl, h1⟩; have H1 := Lib.hid (h1.alloc (.cells #[.int .i64 bud, .int .i64 room, .int .i64 (within k.quota 0 30), .slice na (sksOf k).length nc] 28)); clear h1 HSE)
  refine wp_at H1.out ?_
  intro w2 h2
  generalize w1.heap.size = g at *
  have h2 : St w w2 [pt w.heap.size (.cells #[.int .i64 k.budget, .int .i64 k.room, .int .i64 k.quota, .slice ka k.sinks.length kc] 24 (0, 0)), ownP 113 5 Sk.cells (.slice na (sksOf k).length nc) (sksOf k), pt g (.cells #[.int .i64 bud, .int .i64 room, .int .i64 (within k.quota 0 30), .slice na (sksOf k).length nc] 28 (0, 0))] := h2
  clear H1
  obtain ⟨zz, fz⟩ := blkCells (h2.blk 2 rfl).1
  have z2 := (zz 2).trans rfl
  have hlg := (h2.blk 2 rfl).2.2
  have H2 := Lib.hid (h2.set 2 rfl 2 (.int .i64 50))
  clear zz h2
  go_upto_region 3 with fail
  refine wp_at H2.out ?_
  intro w3 h3
  clear H2 z2 fz hlg
  have h3 : St w w3 [pt w.heap.size (.cells #[.int .i64 k.budget, .int .i64 k.room, .int .i64 k.quota, .slice ka k.sinks.length kc] 24 (0, 0)), ownP 113 5 Sk.cells (.slice na (sksOf k).length nc) (sksOf k), pt g (.cells #[.int .i64 bud, .int .i64 room, .int .i64 50, .slice na (sksOf k).length nc] 28 (0, 0))] := h3
  have H3 := Lib.hid h3
  clear h3
  have S0 : ((w3).cell? ⟨g, 0, none⟩ = some (.int .i64 bud) ∧ (w3).cell? ⟨g, 1, none⟩ = some (.int .i64 room) ∧ (w3).cell? ⟨g, 2, none⟩ = some (.int .i64 50) ∧ (w3).cell? ⟨g, 3, none⟩ = some (.slice na (sksOf k).length nc)) := (by obtain ⟨zz, _⟩ := blkCells (H3.out.blk 2 rfl).1; exact ⟨(zz 0).trans rfl, (zz 1).trans rfl, (zz 2).trans rfl, (zz 3).trans rfl⟩)
  have S1 : ((w3.drew).cell? ⟨g, 0, none⟩ = some (.int .i64 bud) ∧ (w3.drew).cell? ⟨g, 1, none⟩ = some (.int .i64 room) ∧ (w3.drew).cell? ⟨g, 2, none⟩ = some (.int .i64 50) ∧ (w3.drew).cell? ⟨g, 3, none⟩ = some (.slice na (sksOf k).length nc)) := (by obtain ⟨zz, _⟩ := blkCells (H3.out.drew.blk 2 rfl).1; exact ⟨(zz 0).trans rfl, (zz 1).trans rfl, (zz 2).trans rfl, (zz 3).trans rfl⟩)
  have hna := coreNew_st H3.out.drew (⟨bud, room, 50, sksOf k⟩ : Su) na nc (H3.out.drew.slOf Sk.len 1 rfl) (sk_nil H3.out 1 rfl) (HSR.out) HSW.out
  have hna : Calls Tryz.prog 14 #[.agg #[.int .i64 bud, .int .i64 room, .int .i64 50, .slice na (sksOf k).length nc]] w3.drew _ := hna
  have HNA := Lib.hid hna
  clear hna
  go_cut [8, 9] from 22 to 25 (fun u v wx => ∃ ca cb ma mc ma' mc', u = .pointer (some ⟨ca, 0, none⟩) ∧ v = .pointer (some ⟨cb, 0, none⟩) ∧ St w wx [pt w.heap.size (.cells #[.int .i64 k.budget, .int .i64 k.room, .int .i64 k.quota, .slice ka k.sinks.length kc] 24 (0, 0)), ownP 113 5 Sk.cells (.slice na (sksOf k).length nc) (sksOf k), pt g (.cells #[.int .i64 bud, .int .i64 room, .int .i64 50, .slice na (sksOf k).length nc] 28 (0, 0)), coP ca ma mc (newCo (⟨bud, room, 50, sksOf k⟩ : Su)) 0, ownP 113 5 Sk.cells (.slice ma (sksOf k).length mc) (sksOf k), coP cb ma' mc' (newCo (⟨bud, room, 50, sksOf k⟩ : Su)) 0, ownP 113 5 Sk.cells (.slice ma' (sksOf k).length mc') (sksOf k)])
  case first =>
    go_region_held3 (fun w' => ((w').cell? ⟨g, 0, none⟩ = some (.int .i64 bud) ∧ (w').cell? ⟨g, 1, none⟩ = some (.int .i64 room) ∧ (w').cell? ⟨g, 2, none⟩ = some (.int .i64 50) ∧ (w').cell? ⟨g, 3, none⟩ = some (.slice na (sksOf k).length nc))) (first | (with_reducible exact S0) | (with_reducible exact S1) | (with_reducible exact S2) | (with_reducible exact S3))
      (first
        | (go_at_call 14; (with_reducible refine HNB.out.mono ?_); rintro e wn2 ⟨cb, ma', mc', rfl, h6⟩; have S3 : ((wn2).cell? ⟨g, 0, none⟩ = some (.int .i64 bud) ∧ (wn2).cell? ⟨g, 1, none⟩ = some (.int .i64 room) ∧ (wn2).cell? ⟨g, 2, none⟩ = some (.int .i64 50) ∧ (wn2).cell? ⟨g, 3, none⟩ = some (.slice na (sksOf k).length nc)) := (by obtain ⟨zz, _⟩ := blkCells (h6.blk 2 rfl).1; exact ⟨(zz 0).trans rfl, (zz 1).trans rfl, (zz 2).trans rfl, (zz 3).trans rfl⟩); have HN2 := Lib.hid h6; clear h6 HNB)
        | (go_at_call 14; (with_reducible refine HNA.out.mono ?_); rintro e wn1 ⟨ca, ma, mc, rfl, h5⟩; have S2 : ((wn1).cell? ⟨g, 0, none⟩ = some (.int .i64 bud) ∧ (wn1).cell? ⟨g, 1, none⟩ = some (.int .i64 room) ∧ (wn1).cell? ⟨g, 2, none⟩ = some (.int .i64 50) ∧ (wn1).cell? ⟨g, 3, none⟩ = some (.slice na (sksOf k).length nc)) := (by obtain ⟨zz, _⟩ := blkCells (h5.blk 2 rfl).1; exact ⟨(zz 0).trans rfl, (zz 1).trans rfl, (zz 2).trans rfl, (zz 3).trans rfl⟩); have hnb := coreNew_st h5 (⟨bud, room, 50, sksOf k⟩ : Su) na nc (h5.slOf Sk.len 1 rfl) (sk_nil h5 1 rfl) (HSR.out) HSW.out; have hnb : Calls Tryz.prog 14 #[.agg #[.int .i64 bud, .int .i64 room, .int .i64 50, .slice na (sksOf k).length nc]] wn1 _ := hnb; have HNB := Lib.hid hnb; clear hnb h5 HNA))
    all_goals
      go_wp2
      go_meet
      exact ⟨ca, cb, ma, mc, ma', mc', rfl, rfl, HN2.out⟩
  case rest =>
    obtain ⟨ca, cb, ma, mc, ma', mc', rfl, rfl, h⟩ := hcut
    have H4 := Lib.hid (h.alloc (.cells #[.slice none 0 0, .int .i64 5, .int .i64 5, .int .i64 1, .int .i64 (-1), .int .i64 (-1)] 61))
    clear h H3
    go_upto_region 7 with fail
    refine wp_at H4.out ?_
    intro w7 h7
    generalize wc.heap.size = g3 at *
    have h7 : St w w7 [pt w.heap.size (.cells #[.int .i64 k.budget, .int .i64 k.room, .int .i64 k.quota, .slice ka k.sinks.length kc] 24 (0, 0)), ownP 113 5 Sk.cells (.slice na (sksOf k).length nc) (sksOf k), pt g (.cells #[.int .i64 bud, .int .i64 room, .int .i64 50, .slice na (sksOf k).length nc] 28 (0, 0)), coP ca ma mc (newCo (⟨bud, room, 50, sksOf k⟩ : Su)) 0, ownP 113 5 Sk.cells (.slice ma (sksOf k).length mc) (sksOf k), coP cb ma' mc' (newCo (⟨bud, room, 50, sksOf k⟩ : Su)) 0, ownP 113 5 Sk.cells (.slice ma' (sksOf k).length mc') (sksOf k), pt g3 (.cells #[.slice none 0 0, .int .i64 5, .int .i64 5, .int .i64 1, .int .i64 (-1), .int .i64 (-1)] 61 (0, 0))] := h7
    clear H4
    obtain ⟨m, hm, hm8⟩ : ∃ m : Nat, within n 0 room = m ∧ (m : Int) ≤ room := ⟨(within n 0 room).toNat, by have := within_range n 0 room (by omega); omega, by have := within_range n 0 room (by omega); omega⟩
    obtain ⟨o, ho, ho8⟩ : ∃ m : Nat, within ot 0 room = m ∧ (m : Int) ≤ room := ⟨(within ot 0 room).toNat, by have := within_range ot 0 room (by omega); omega, by have := within_range ot 0 room (by omega); omega⟩
    have hwm := fun w' => Within_at n 0 room w' hrn.1 hrn.2 (by omega) (by omega) (by omega)
    have hwo := fun w' => Within_at ot 0 room w' hro.1 hro.2 (by omega) (by omega) (by omega)
    rw [hm] at hwm
    rw [ho] at hwo
    have HWM := Lib.hid hwm
    have HWO := Lib.hid hwo
    have z1 : w7.cell? ⟨g, 1, none⟩ = some (.int .i64 room) := ((blkCells (h7.blk 2 rfl).1).1 1).trans rfl
    have z2 : w7.drew.cell? ⟨g, 1, none⟩ = some (.int .i64 room) := ((blkCells (h7.drew.blk 2 rfl).1).1 1).trans rfl
    have H7 := Lib.hid h7
    clear hwm hwo hm ho h7
    go_cut [11, 12] from 33 to 40 (fun u v wx => u = .int .i64 m ∧ v = .int .i64 o ∧ St w wx [pt w.heap.size (.cells #[.int .i64 k.budget, .int .i64 k.room, .int .i64 k.quota, .slice ka k.sinks.length kc] 24 (0, 0)), ownP 113 5 Sk.cells (.slice na (sksOf k).length nc) (sksOf k), pt g (.cells #[.int .i64 bud, .int .i64 room, .int .i64 50, .slice na (sksOf k).length nc] 28 (0, 0)), coP ca ma mc (newCo (⟨bud, room, 50, sksOf k⟩ : Su)) 0, ownP 113 5 Sk.cells (.slice ma (sksOf k).length mc) (sksOf k), coP cb ma' mc' (newCo (⟨bud, room, 50, sksOf k⟩ : Su)) 0, ownP 113 5 Sk.cells (.slice ma' (sksOf k).length mc') (sksOf k), pt g3 (.cells #[.slice none 0 0, .int .i64 5, .int .i64 5, .int .i64 1, .int .i64 (-1), .int .i64 (-1)] 61 (0, 0))])
    case first =>
      go_region_held3 (fun w' => w'.cell? ⟨g, 1, none⟩ = some (.int .i64 room)) (first | (with_reducible exact z1) | (with_reducible exact z2))
        (first
          | (go_at_call 11; (with_reducible refine (HWM.out _).mono ?_); rintro e wz ⟨rfl, hwz⟩; subst hwz)
          | (go_at_call 11; (with_reducible refine (HWO.out _).mono ?_); rintro e wz ⟨rfl, hwz⟩; subst hwz))
      all_goals
        go_wp2
        go_meet
        exact ⟨rfl, rfl, H7.out.drew⟩
    case rest =>
      obtain ⟨rfl, rfl, h⟩ := hcut
      have H8 := Lib.hid (h.alloc (.cells #[.pointer (some ⟨ca, 0, none⟩), .pointer (some ⟨cb, 0, none⟩)] 35))
      clear h H7 z1 z2
      go_upto_block 0 with fail
      refine wp_at H8.out ?_
      intro w8 h8
      have h8 : St w w8 [pt w.heap.size (.cells #[.int .i64 k.budget, .int .i64 k.room, .int .i64 k.quota, .slice ka k.sinks.length kc] 24 (0, 0)), ownP 113 5 Sk.cells (.slice na (sksOf k).length nc) (sksOf k), pt g (.cells #[.int .i64 bud, .int .i64 room, .int .i64 50, .slice na (sksOf k).length nc] 28 (0, 0)), coP ca ma mc (newCo (⟨bud, room, 50, sksOf k⟩ : Su)) 0, ownP 113 5 Sk.cells (.slice ma (sksOf k).length mc) (sksOf k), coP cb ma' mc' (newCo (⟨bud, room, 50, sksOf k⟩ : Su)) 0, ownP 113 5 Sk.cells (.slice ma' (sksOf k).length mc') (sksOf k), pt g3 (.cells #[.slice none 0 0, .int .i64 5, .int .i64 5, .int .i64 1, .int .i64 (-1), .int .i64 (-1)] 61 (0, 0)), pt wc.heap.size (.cells #[.pointer (some ⟨ca, 0, none⟩), .pointer (some ⟨cb, 0, none⟩)] 35 (0, 0))] := h8
      generalize wc.heap.size = g8 at *
      have H9 := Lib.hid h8
      clear H8 h8
      go_wp2_with fail
      go_loopw [45] (fun iv wr => ∃ (j NA NB : Nat) (A B : Co), j ≤ 2 ∧ iv = .int .i64 j ∧ NA ≤ 100 * j ∧ NB ≤ 100 * j ∧ (if j = 0 then A = newCo (⟨bud, room, 50, sksOf k⟩ : Su) else boxAt A (⟨bud, room, 50, sksOf k⟩ : Su) (f2 m)) ∧ (if j ≤ 1 then B = newCo (⟨bud, room, 50, sksOf k⟩ : Su) else boxAt B (⟨bud, room, 50, sksOf k⟩ : Su) (f2 m)) ∧ St w wr [pt w.heap.size (.cells #[.int .i64 k.budget, .int .i64 k.room, .int .i64 k.quota, .slice ka k.sinks.length kc] 24 (0, 0)), ownP 113 5 Sk.cells (.slice na (sksOf k).length nc) (sksOf k), pt g (.cells #[.int .i64 bud, .int .i64 room, .int .i64 50, .slice na (sksOf k).length nc] 28 (0, 0)), coP ca ma mc A NA, ownP 113 5 Sk.cells (.slice ma (sksOf k).length mc) (sksOf k), coP cb ma' mc' B NB, ownP 113 5 Sk.cells (.slice ma' (sksOf k).length mc') (sksOf k), pt g3 (.cells #[.slice none 0 0, .int .i64 5, .int .i64 5, .int .i64 1, .int .i64 (-1), .int .i64 (-1)] 61 (0, 0)), pt g8 (.cells #[.pointer (some ⟨ca, 0, none⟩), .pointer (some ⟨cb, 0, none⟩)] 35 (0, 0))]) (fun iv _ => 2 - (intOf iv).toNat)
      case atStart => exact ⟨0, 0, 0, _, _, by omega, rfl, by omega, by omega, rfl, rfl, H9.out⟩
      case round =>
        clear H9
        obtain ⟨j, NA, NB, A, B, hj, rfl, hNA, hNB, hA, hB, hst⟩ := hrel
        by_cases hlt : (j : Int) < 2
        · obtain rfl | rfl : j = 0 ∨ j = 1 := by omega
          · have hA : A = newCo (⟨bud, room, 50, sksOf k⟩ : Su) := hA
            have hB : B = newCo (⟨bud, room, 50, sksOf k⟩ : Su) := hB
            subst hA hB
            have p0 : wr.cell? ⟨g3, 0, none⟩ = some (.slice none 0 0) := ((blkCells (hst.blk 7 rfl).1).1 0).trans rfl
            have p1 : wr.cell? ⟨g3, 1, none⟩ = some (.int .i64 5) := ((blkCells (hst.blk 7 rfl).1).1 1).trans rfl
            have p2 : wr.cell? ⟨g3, 2, none⟩ = some (.int .i64 5) := ((blkCells (hst.blk 7 rfl).1).1 2).trans rfl
            have p3 : wr.cell? ⟨g3, 3, none⟩ = some (.int .i64 1) := ((blkCells (hst.blk 7 rfl).1).1 3).trans rfl
            have p4 : wr.cell? ⟨g3, 4, none⟩ = some (.int .i64 (-1)) := ((blkCells (hst.blk 7 rfl).1).1 4).trans rfl
            have p5 : wr.cell? ⟨g3, 5, none⟩ = some (.int .i64 (-1)) := ((blkCells (hst.blk 7 rfl).1).1 5).trans rfl
            have q0 : wr.cell? ⟨g8, 0, none⟩ = some (.pointer (some ⟨ca, 0, none⟩)) := ((blkCells (hst.blk 8 rfl).1).1 0).trans rfl
            obtain ⟨hbx, hxx⟩ := box_reg (newCo (⟨bud, room, 50, sksOf k⟩ : Su)) (⟨bud, room, 50, sksOf k⟩ : Su) (fun _ => none) 2 (by omega) rfl rfl (box_new (⟨bud, room, 50, sksOf k⟩ : Su) HSR.out)
            have h5 := hst.alloc (.cells #[.int .i64 1, .int .i64 2, .int .i64 0, .int .i64 0, .slice none 0 0, .int .i64 5, .int .i64 5, .int .i64 1, .int .i64 (-1), .int .i64 (-1), .bool false, .int .i64 0, .int .i64 0, .int .i64 0, .int .u64 0] 67)
            have hdo := doLit_st h5 3 4 9 rfl rfl rfl (⟨1, 2, 0, 0, none, 0, pF, Inp.zero⟩ : ActR) rfl rfl (by decide) (by decide) rfl rfl rfl (plain_okF rfl (by decide) (by decide) rfl) (by omega) ((newCo (⟨bud, room, 50, sksOf k⟩ : Su)).do1 (regF ((2 : Nat) : Int))) rfl
            generalize ((newCo (⟨bud, room, 50, sksOf k⟩ : Su)).do1 (regF ((2 : Nat) : Int))).2 = C1 at *
            have HDO := Lib.hid hdo
            have hbx : boxAt C1 (⟨bud, room, 50, sksOf k⟩ : Su) (f2 0) := hbx
            have hat : C1.at (2 : Int) = some (newC 50 ((2 : Nat) : Int) pF) := (at_x C1 2 (by omega)).trans hxx
            have HAT2 := Lib.hid hat
            have HBX := Lib.hid hbx
            have hal : allM C1 bud 8 = 0 := (all_f2 C1 (⟨bud, room, 50, sksOf k⟩ : Su) bud (by omega) 0 hbx).trans rfl
            have HALL := Lib.hid hal
            clear h5 hdo hst hbx hxx hat hal
            go_upto_region 13 with (first
              | (go_at_call 16; (with_reducible refine HDO.out.mono ?_); rintro e w5 ⟨ua, uc, u, rfl, _, _, h6⟩; have h6 : St w w5 [pt w.heap.size (.cells #[.int .i64 k.budget, .int .i64 k.room, .int .i64 k.quota, .slice ka k.sinks.length kc] 24 (0, 0)), ownP 113 5 Sk.cells (.slice na (sksOf k).length nc) (sksOf k), pt g (.cells #[.int .i64 bud, .int .i64 room, .int .i64 50, .slice na (sksOf k).length nc] 28 (0, 0)), coP ca ma mc C1 (NA + 9), ownP 113 5 Sk.cells (.slice ma (sksOf k).length mc) (sksOf k), coP cb ma' mc' (newCo (⟨bud, room, 50, sksOf k⟩ : Su)) NB, ownP 113 5 Sk.cells (.slice ma' (sksOf k).length mc') (sksOf k), pt g3 (.cells #[.slice none 0 0, .int .i64 5, .int .i64 5, .int .i64 1, .int .i64 (-1), .int .i64 (-1)] 61 (0, 0)), pt g8 (.cells #[.pointer (some ⟨ca, 0, none⟩), .pointer (some ⟨cb, 0, none⟩)] 35 (0, 0))] := h6.pick [0, 1, 2, 3, 4, 5, 6, 7, 8] (by decide); have HCE := Lib.hid (coreCell_in (h6.front 3 rfl) (2 : Int) (by omega)); clear h6 HDO)
              | (go_at_call 29; (with_reducible refine HCE.out.mono ?_); rintro e w6 ⟨p, rfl, h7⟩; rw [HAT2.out] at h7; have h7 : St w w6 [pt w.heap.size (.cells #[.int .i64 k.budget, .int .i64 k.room, .int .i64 k.quota, .slice ka k.sinks.length kc] 24 (0, 0)), ownP 113 5 Sk.cells (.slice na (sksOf k).length nc) (sksOf k), pt g (.cells #[.int .i64 bud, .int .i64 room, .int .i64 50, .slice na (sksOf k).length nc] 28 (0, 0)), coP ca ma mc C1 (NA + 9), ownP 113 5 Sk.cells (.slice ma (sksOf k).length mc) (sksOf k), coP cb ma' mc' (newCo (⟨bud, room, 50, sksOf k⟩ : Su)) NB, ownP 113 5 Sk.cells (.slice ma' (sksOf k).length mc') (sksOf k), pt g3 (.cells #[.slice none 0 0, .int .i64 5, .int .i64 5, .int .i64 1, .int .i64 (-1), .int .i64 (-1)] 61 (0, 0)), pt g8 (.cells #[.pointer (some ⟨ca, 0, none⟩), .pointer (some ⟨cb, 0, none⟩)] 35 (0, 0)), optP (NA + 9) p (some (newC 50 ((2 : Nat) : Int) pF))] := h7.back (n := 3) (by simp); obtain ⟨d, hp⟩ := optP_some h7 9 rfl; subst hp; have H7 := Lib.hid h7; clear h7 HCE))
            rw [show ptrV (some d) = .pointer (some ⟨d, 0, none⟩) from rfl]
            have h7 : St w w6 [pt w.heap.size (.cells #[.int .i64 k.budget, .int .i64 k.room, .int .i64 k.quota, .slice ka k.sinks.length kc] 24 (0, 0)), ownP 113 5 Sk.cells (.slice na (sksOf k).length nc) (sksOf k), pt g (.cells #[.int .i64 bud, .int .i64 room, .int .i64 50, .slice na (sksOf k).length nc] 28 (0, 0)), coP ca ma mc C1 (NA + 9), ownP 113 5 Sk.cells (.slice ma (sksOf k).length mc) (sksOf k), coP cb ma' mc' (newCo (⟨bud, room, 50, sksOf k⟩ : Su)) NB, ownP 113 5 Sk.cells (.slice ma' (sksOf k).length mc') (sksOf k), pt g3 (.cells #[.slice none 0 0, .int .i64 5, .int .i64 5, .int .i64 1, .int .i64 (-1), .int .i64 (-1)] 61 (0, 0)), pt g8 (.cells #[.pointer (some ⟨ca, 0, none⟩), .pointer (some ⟨cb, 0, none⟩)] 35 (0, 0)), clP d (newC 50 ((2 : Nat) : Int) pF) (NA + 9)] := H7.out
            have htk := boundTicks_look (lookC_of h7 9 rfl (by omega)) bud
            have htk : Calls Tryz.prog 35 #[.pointer (some ⟨d, 0, none⟩), .int .i64 bud] w6 fun e w' => e = .returned (.int .i64 0) ∧ Below w6.heap.size w6 w' := htk
            have HTK := Lib.hid htk
            have z0 : w6.cell? ⟨g, 0, none⟩ = some (.int .i64 bud) := ((blkCells (h7.blk 2 rfl).1).1 0).trans rfl
            have H7 := Lib.hid h7
            clear h7 htk
            go_upto_region 15 with (first
              | (go_at_call 37; (with_reducible refine HBA.out.mono ?_); rintro e w9 ⟨rfl, h9⟩; have h9 : St w w9 [pt w.heap.size (.cells #[.int .i64 k.budget, .int .i64 k.room, .int .i64 k.quota, .slice ka k.sinks.length kc] 24 (0, 0)), ownP 113 5 Sk.cells (.slice na (sksOf k).length nc) (sksOf k), pt g (.cells #[.int .i64 bud, .int .i64 room, .int .i64 50, .slice na (sksOf k).length nc] 28 (0, 0)), coP ca ma mc C1 (NA + 9), ownP 113 5 Sk.cells (.slice ma (sksOf k).length mc) (sksOf k), coP cb ma' mc' (newCo (⟨bud, room, 50, sksOf k⟩ : Su)) NB, ownP 113 5 Sk.cells (.slice ma' (sksOf k).length mc') (sksOf k), pt g3 (.cells #[.slice none 0 0, .int .i64 5, .int .i64 5, .int .i64 1, .int .i64 (-1), .int .i64 (-1)] 61 (0, 0)), pt g8 (.cells #[.pointer (some ⟨ca, 0, none⟩), .pointer (some ⟨cb, 0, none⟩)] 35 (0, 0)), clP d (newC 50 ((2 : Nat) : Int) pF) (NA + 9), pt w7.heap.size (.cells #[.pointer (some ⟨d, 0, none⟩)] 72 (0, 0))] := h9.back (n := 3) (by simp); have H9 : RowKit.Hid (St w w9 [pt w.heap.size (.cells #[.int .i64 k.budget, .int .i64 k.room, .int .i64 k.quota, .slice ka k.sinks.length kc] 24 (0, 0)), ownP 113 5 Sk.cells (.slice na (sksOf k).length nc) (sksOf k), pt g (.cells #[.int .i64 bud, .int .i64 room, .int .i64 50, .slice na (sksOf k).length nc] 28 (0, 0)), coP ca ma mc C1 (NA + 9), ownP 113 5 Sk.cells (.slice ma (sksOf k).length mc) (sksOf k), coP cb ma' mc' (newCo (⟨bud, room, 50, sksOf k⟩ : Su)) NB, ownP 113 5 Sk.cells (.slice ma' (sksOf k).length mc') (sksOf k), pt g3 (.cells #[.slice none 0 0, .int .i64 5, .int .i64 5, .int .i64 1, .int .i64 (-1), .int .i64 (-1)] 61 (0, 0)), pt g8 (.cells #[.pointer (some ⟨ca, 0, none⟩), .pointer (some ⟨cb, 0, none⟩)] 35 (0, 0))]) := Lib.hid (h9.pick [0, 1, 2, 3, 4, 5, 6, 7, 8] (by decide)); clear h9 HBA)
              | (go_at_call 35; (with_reducible refine HTK.out.mono ?_); rintro e w7 ⟨rfl, hb7⟩; have h8 := (H7.out.kept hb7).alloc (.cells #[.pointer (some ⟨d, 0, none⟩)] 72); have hcl := clear_any (w7.alloc (.cells #[.pointer (some ⟨d, 0, none⟩)] 72)) [some d] [some (newC 50 ((2 : Nat) : Int) pF)] 1 rfl rfl (fun x h1 h2 => (by obtain rfl : x = 0 := (by simp at h1; omega); exact lookC_of h8 9 rfl (by omega))) (some ⟨w7.heap.size, 0, none⟩) 1 (SlAt.one ptrC_len (x := some d) (h8.blk 10 rfl).1) (by omega); have hcl : Calls Tryz.prog 36 #[.slice (some ⟨w7.heap.size, 0, none⟩) 1 1] (w7.alloc (.cells #[.pointer (some ⟨d, 0, none⟩)] 72)) fun e w' => e = .returned (.bool true) ∧ Below (w7.alloc (.cells #[.pointer (some ⟨d, 0, none⟩)] 72)).heap.size (w7.alloc (.cells #[.pointer (some ⟨d, 0, none⟩)] 72)) w' := hcl; have HCL := Lib.hid hcl; have H8 := Lib.hid h8; clear h8 hcl hb7 HTK)
              | (go_at_call 36; (with_reducible refine HCL.out.mono ?_); rintro e w8 ⟨rfl, hb8⟩; have h9 := H8.out.kept hb8; have y0 : w8.cell? ⟨g, 0, none⟩ = some (.int .i64 bud) := ((blkCells (h9.blk 2 rfl).1).1 0).trans rfl; have hba := boundAll_in (h9.front 3 rfl) bud (by omega) (by omega); rw [HALL.out] at hba; have HBA := Lib.hid hba; clear h9 hba hb8 HCL))
            go_wp2_with fail
            go_loopw [79] (fun iv wr => ∃ (i N : Nat) (C : Co), i ≤ m ∧ iv = .int .i64 i ∧ N ≤ NA + 9 + 9 * i ∧ boxAt C (⟨bud, room, 50, sksOf k⟩ : Su) (f2 i) ∧ St w wr [pt w.heap.size (.cells #[.int .i64 k.budget, .int .i64 k.room, .int .i64 k.quota, .slice ka k.sinks.length kc] 24 (0, 0)), ownP 113 5 Sk.cells (.slice na (sksOf k).length nc) (sksOf k), pt g (.cells #[.int .i64 bud, .int .i64 room, .int .i64 50, .slice na (sksOf k).length nc] 28 (0, 0)), coP ca ma mc C N, ownP 113 5 Sk.cells (.slice ma (sksOf k).length mc) (sksOf k), coP cb ma' mc' (newCo (⟨bud, room, 50, sksOf k⟩ : Su)) NB, ownP 113 5 Sk.cells (.slice ma' (sksOf k).length mc') (sksOf k), pt g3 (.cells #[.slice none 0 0, .int .i64 5, .int .i64 5, .int .i64 1, .int .i64 (-1), .int .i64 (-1)] 61 (0, 0)), pt g8 (.cells #[.pointer (some ⟨ca, 0, none⟩), .pointer (some ⟨cb, 0, none⟩)] 35 (0, 0))]) (fun iv _ => m - (intOf iv).toNat)
            case atStart => exact ⟨0, _, _, by omega, rfl, by omega, HBX.out, H9.out⟩
            case round =>
              clear H9 HBX
              obtain ⟨i, N, C, hi, rfl, hN, hbx, hst⟩ := hrel
              by_cases hlt : (i : Int) < m
              · have hbx2 := box_off C (⟨bud, room, 50, sksOf k⟩ : Su) (f2 i) 2 i (by omega) rfl (by show (i : Int) < room; omega) (by omega) hbx
                rw [f2_off] at hbx2
                have h5 := hst.alloc (.cells #[.int .i64 2, .int .i64 2, .int .i64 0, .int .i64 0, .slice none 0 0, .int .i64 0, .int .i64 0, .int .i64 0, .int .i64 0, .int .i64 0, .bool false, .int .i64 0, .int .i64 0, .int .i64 0, .int .u64 0] 67)
                have hdo := doLit_st h5 3 4 9 rfl rfl (by rw [hbx.su]) (⟨2, 2, 0, 0, none, 0, Pp.zero, Inp.zero⟩ : ActR) rfl rfl (by decide) (by decide) rfl rfl rfl (plain_okF rfl (by decide) (by decide) rfl) (by omega) (C.do1 (offF ((2 : Nat) : Int))) rfl
                have HDO := Lib.hid hdo
                have HBX2 := Lib.hid hbx2
                clear h5 hdo hst hbx hbx2
                go_wp2_with (go_at_call 16; (with_reducible refine HDO.out.mono ?_); rintro e w5 ⟨ua, uc, u, rfl, _, _, h6⟩; have H6 := Lib.hid (h6.pick [0, 1, 2, 3, 4, 5, 6, 7, 8] (by decide)); clear h6 HDO)
                go_roundw
                case rel => exact ⟨i + 1, N + 9, _, by omega, by go_num, by omega, HBX2.out, H6.out⟩
                case measure => simp [intOf]; omega
              · have hie : m = i := by omega
                subst hie
                have HBX := Lib.hid hbx
                have HST := Lib.hid hst
                clear hst hbx
                go_wp2_with fail
                go_roundw
                case rel => exact ⟨1, N, NB, C, (newCo (⟨bud, room, 50, sksOf k⟩ : Su)), by omega, by go_num, by omega, by omega, HBX.out, rfl, HST.out⟩
                case measure => simp [intOf]
          · have hA : boxAt A (⟨bud, room, 50, sksOf k⟩ : Su) (f2 m) := hA
            have hB : B = newCo (⟨bud, room, 50, sksOf k⟩ : Su) := hB
            subst hB
            have HA2 := Lib.hid hA
            clear hA
            have p0 : wr.cell? ⟨g3, 0, none⟩ = some (.slice none 0 0) := ((blkCells (hst.blk 7 rfl).1).1 0).trans rfl
            have p1 : wr.cell? ⟨g3, 1, none⟩ = some (.int .i64 5) := ((blkCells (hst.blk 7 rfl).1).1 1).trans rfl
            have p2 : wr.cell? ⟨g3, 2, none⟩ = some (.int .i64 5) := ((blkCells (hst.blk 7 rfl).1).1 2).trans rfl
            have p3 : wr.cell? ⟨g3, 3, none⟩ = some (.int .i64 1) := ((blkCells (hst.blk 7 rfl).1).1 3).trans rfl
            have p4 : wr.cell? ⟨g3, 4, none⟩ = some (.int .i64 (-1)) := ((blkCells (hst.blk 7 rfl).1).1 4).trans rfl
            have p5 : wr.cell? ⟨g3, 5, none⟩ = some (.int .i64 (-1)) := ((blkCells (hst.blk 7 rfl).1).1 5).trans rfl
            have q0 : wr.cell? ⟨g8, 1, none⟩ = some (.pointer (some ⟨cb, 0, none⟩)) := ((blkCells (hst.blk 8 rfl).1).1 1).trans rfl
            obtain ⟨hbx, hxx⟩ := box_reg (newCo (⟨bud, room, 50, sksOf k⟩ : Su)) (⟨bud, room, 50, sksOf k⟩ : Su) (fun _ => none) 2 (by omega) rfl rfl (box_new (⟨bud, room, 50, sksOf k⟩ : Su) HSR.out)
            have h5 := hst.alloc (.cells #[.int .i64 1, .int .i64 2, .int .i64 0, .int .i64 0, .slice none 0 0, .int .i64 5, .int .i64 5, .int .i64 1, .int .i64 (-1), .int .i64 (-1), .bool false, .int .i64 0, .int .i64 0, .int .i64 0, .int .u64 0] 67)
            have hdo := doLit_st h5 5 6 9 rfl rfl rfl (⟨1, 2, 0, 0, none, 0, pF, Inp.zero⟩ : ActR) rfl rfl (by decide) (by decide) rfl rfl rfl (plain_okF rfl (by decide) (by decide) rfl) (by omega) ((newCo (⟨bud, room, 50, sksOf k⟩ : Su)).do1 (regF ((2 : Nat) : Int))) rfl
            generalize ((newCo (⟨bud, room, 50, sksOf k⟩ : Su)).do1 (regF ((2 : Nat) : Int))).2 = C1 at *
            have HDO := Lib.hid hdo
            have hbx : boxAt C1 (⟨bud, room, 50, sksOf k⟩ : Su) (f2 0) := hbx
            have hat : C1.at (2 : Int) = some (newC 50 ((2 : Nat) : Int) pF) := (at_x C1 2 (by omega)).trans hxx
            have HAT2 := Lib.hid hat
            have HBX := Lib.hid hbx
            have hal : allM C1 bud 8 = 0 := (all_f2 C1 (⟨bud, room, 50, sksOf k⟩ : Su) bud (by omega) 0 hbx).trans rfl
            have HALL := Lib.hid hal
            clear h5 hdo hst hbx hxx hat hal
            go_upto_region 13 with (first
              | (go_at_call 16; (with_reducible refine HDO.out.mono ?_); rintro e w5 ⟨ua, uc, u, rfl, _, _, h6⟩; have h6 : St w w5 [pt w.heap.size (.cells #[.int .i64 k.budget, .int .i64 k.room, .int .i64 k.quota, .slice ka k.sinks.length kc] 24 (0, 0)), ownP 113 5 Sk.cells (.slice na (sksOf k).length nc) (sksOf k), pt g (.cells #[.int .i64 bud, .int .i64 room, .int .i64 50, .slice na (sksOf k).length nc] 28 (0, 0)), coP ca ma mc A NA, ownP 113 5 Sk.cells (.slice ma (sksOf k).length mc) (sksOf k), coP cb ma' mc' C1 (NB + 9), ownP 113 5 Sk.cells (.slice ma' (sksOf k).length mc') (sksOf k), pt g3 (.cells #[.slice none 0 0, .int .i64 5, .int .i64 5, .int .i64 1, .int .i64 (-1), .int .i64 (-1)] 61 (0, 0)), pt g8 (.cells #[.pointer (some ⟨ca, 0, none⟩), .pointer (some ⟨cb, 0, none⟩)] 35 (0, 0))] := h6.pick [0, 1, 2, 3, 4, 5, 6, 7, 8] (by decide); have HCE := Lib.hid (coreCell_in (h6.front 5 rfl) (2 : Int) (by omega)); clear h6 HDO)
              | (go_at_call 29; (with_reducible refine HCE.out.mono ?_); rintro e w6 ⟨p, rfl, h7⟩; rw [HAT2.out] at h7; have h7 : St w w6 [pt w.heap.size (.cells #[.int .i64 k.budget, .int .i64 k.room, .int .i64 k.quota, .slice ka k.sinks.length kc] 24 (0, 0)), ownP 113 5 Sk.cells (.slice na (sksOf k).length nc) (sksOf k), pt g (.cells #[.int .i64 bud, .int .i64 room, .int .i64 50, .slice na (sksOf k).length nc] 28 (0, 0)), coP ca ma mc A NA, ownP 113 5 Sk.cells (.slice ma (sksOf k).length mc) (sksOf k), coP cb ma' mc' C1 (NB + 9), ownP 113 5 Sk.cells (.slice ma' (sksOf k).length mc') (sksOf k), pt g3 (.cells #[.slice none 0 0, .int .i64 5, .int .i64 5, .int .i64 1, .int .i64 (-1), .int .i64 (-1)] 61 (0, 0)), pt g8 (.cells #[.pointer (some ⟨ca, 0, none⟩), .pointer (some ⟨cb, 0, none⟩)] 35 (0, 0)), optP (NB + 9) p (some (newC 50 ((2 : Nat) : Int) pF))] := h7.back (n := 5) (by simp); obtain ⟨d, hp⟩ := optP_some h7 9 rfl; subst hp; have H7 := Lib.hid h7; clear h7 HCE))
            rw [show ptrV (some d) = .pointer (some ⟨d, 0, none⟩) from rfl]
            have h7 : St w w6 [pt w.heap.size (.cells #[.int .i64 k.budget, .int .i64 k.room, .int .i64 k.quota, .slice ka k.sinks.length kc] 24 (0, 0)), ownP 113 5 Sk.cells (.slice na (sksOf k).length nc) (sksOf k), pt g (.cells #[.int .i64 bud, .int .i64 room, .int .i64 50, .slice na (sksOf k).length nc] 28 (0, 0)), coP ca ma mc A NA, ownP 113 5 Sk.cells (.slice ma (sksOf k).length mc) (sksOf k), coP cb ma' mc' C1 (NB + 9), ownP 113 5 Sk.cells (.slice ma' (sksOf k).length mc') (sksOf k), pt g3 (.cells #[.slice none 0 0, .int .i64 5, .int .i64 5, .int .i64 1, .int .i64 (-1), .int .i64 (-1)] 61 (0, 0)), pt g8 (.cells #[.pointer (some ⟨ca, 0, none⟩), .pointer (some ⟨cb, 0, none⟩)] 35 (0, 0)), clP d (newC 50 ((2 : Nat) : Int) pF) (NB + 9)] := H7.out
            have htk := boundTicks_look (lookC_of h7 9 rfl (by omega)) bud
            have htk : Calls Tryz.prog 35 #[.pointer (some ⟨d, 0, none⟩), .int .i64 bud] w6 fun e w' => e = .returned (.int .i64 0) ∧ Below w6.heap.size w6 w' := htk
            have HTK := Lib.hid htk
            have z0 : w6.cell? ⟨g, 0, none⟩ = some (.int .i64 bud) := ((blkCells (h7.blk 2 rfl).1).1 0).trans rfl
            have H7 := Lib.hid h7
            clear h7 htk
            go_upto_region 15 with (first
              | (go_at_call 37; (with_reducible refine HBA.out.mono ?_); rintro e w9 ⟨rfl, h9⟩; have h9 : St w w9 [pt w.heap.size (.cells #[.int .i64 k.budget, .int .i64 k.room, .int .i64 k.quota, .slice ka k.sinks.length kc] 24 (0, 0)), ownP 113 5 Sk.cells (.slice na (sksOf k).length nc) (sksOf k), pt g (.cells #[.int .i64 bud, .int .i64 room, .int .i64 50, .slice na (sksOf k).length nc] 28 (0, 0)), coP ca ma mc A NA, ownP 113 5 Sk.cells (.slice ma (sksOf k).length mc) (sksOf k), coP cb ma' mc' C1 (NB + 9), ownP 113 5 Sk.cells (.slice ma' (sksOf k).length mc') (sksOf k), pt g3 (.cells #[.slice none 0 0, .int .i64 5, .int .i64 5, .int .i64 1, .int .i64 (-1), .int .i64 (-1)] 61 (0, 0)), pt g8 (.cells #[.pointer (some ⟨ca, 0, none⟩), .pointer (some ⟨cb, 0, none⟩)] 35 (0, 0)), clP d (newC 50 ((2 : Nat) : Int) pF) (NB + 9), pt w7.heap.size (.cells #[.pointer (some ⟨d, 0, none⟩)] 72 (0, 0))] := h9.back (n := 5) (by simp); have H9 : RowKit.Hid (St w w9 [pt w.heap.size (.cells #[.int .i64 k.budget, .int .i64 k.room, .int .i64 k.quota, .slice ka k.sinks.length kc] 24 (0, 0)), ownP 113 5 Sk.cells (.slice na (sksOf k).length nc) (sksOf k), pt g (.cells #[.int .i64 bud, .int .i64 room, .int .i64 50, .slice na (sksOf k).length nc] 28 (0, 0)), coP ca ma mc A NA, ownP 113 5 Sk.cells (.slice ma (sksOf k).length mc) (sksOf k), coP cb ma' mc' C1 (NB + 9), ownP 113 5 Sk.cells (.slice ma' (sksOf k).length mc') (sksOf k), pt g3 (.cells #[.slice none 0 0, .int .i64 5, .int .i64 5, .int .i64 1, .int .i64 (-1), .int .i64 (-1)] 61 (0, 0)), pt g8 (.cells #[.pointer (some ⟨ca, 0, none⟩), .pointer (some ⟨cb, 0, none⟩)] 35 (0, 0))]) := Lib.hid (h9.pick [0, 1, 2, 3, 4, 5, 6, 7, 8] (by decide)); clear h9 HBA)
              | (go_at_call 35; (with_reducible refine HTK.out.mono ?_); rintro e w7 ⟨rfl, hb7⟩; have h8 := (H7.out.kept hb7).alloc (.cells #[.pointer (some ⟨d, 0, none⟩)] 72); have hcl := clear_any (w7.alloc (.cells #[.pointer (some ⟨d, 0, none⟩)] 72)) [some d] [some (newC 50 ((2 : Nat) : Int) pF)] 1 rfl rfl (fun x h1 h2 => (by obtain rfl : x = 0 := (by simp at h1; omega); exact lookC_of h8 9 rfl (by omega))) (some ⟨w7.heap.size, 0, none⟩) 1 (SlAt.one ptrC_len (x := some d) (h8.blk 10 rfl).1) (by omega); have hcl : Calls Tryz.prog 36 #[.slice (some ⟨w7.heap.size, 0, none⟩) 1 1] (w7.alloc (.cells #[.pointer (some ⟨d, 0, none⟩)] 72)) fun e w' => e = .returned (.bool true) ∧ Below (w7.alloc (.cells #[.pointer (some ⟨d, 0, none⟩)] 72)).heap.size (w7.alloc (.cells #[.pointer (some ⟨d, 0, none⟩)] 72)) w' := hcl; have HCL := Lib.hid hcl; have H8 := Lib.hid h8; clear h8 hcl hb7 HTK)
              | (go_at_call 36; (with_reducible refine HCL.out.mono ?_); rintro e w8 ⟨rfl, hb8⟩; have h9 := H8.out.kept hb8; have y0 : w8.cell? ⟨g, 0, none⟩ = some (.int .i64 bud) := ((blkCells (h9.blk 2 rfl).1).1 0).trans rfl; have hba := boundAll_in (h9.front 5 rfl) bud (by omega) (by omega); rw [HALL.out] at hba; have HBA := Lib.hid hba; clear h9 hba hb8 HCL))
            go_wp2_with fail
            go_loopw [79] (fun iv wr => ∃ (i N : Nat) (C : Co), i ≤ m ∧ iv = .int .i64 i ∧ N ≤ NB + 9 + 9 * i ∧ boxAt C (⟨bud, room, 50, sksOf k⟩ : Su) (f2 i) ∧ St w wr [pt w.heap.size (.cells #[.int .i64 k.budget, .int .i64 k.room, .int .i64 k.quota, .slice ka k.sinks.length kc] 24 (0, 0)), ownP 113 5 Sk.cells (.slice na (sksOf k).length nc) (sksOf k), pt g (.cells #[.int .i64 bud, .int .i64 room, .int .i64 50, .slice na (sksOf k).length nc] 28 (0, 0)), coP ca ma mc A NA, ownP 113 5 Sk.cells (.slice ma (sksOf k).length mc) (sksOf k), coP cb ma' mc' C N, ownP 113 5 Sk.cells (.slice ma' (sksOf k).length mc') (sksOf k), pt g3 (.cells #[.slice none 0 0, .int .i64 5, .int .i64 5, .int .i64 1, .int .i64 (-1), .int .i64 (-1)] 61 (0, 0)), pt g8 (.cells #[.pointer (some ⟨ca, 0, none⟩), .pointer (some ⟨cb, 0, none⟩)] 35 (0, 0))]) (fun iv _ => m - (intOf iv).toNat)
            case atStart => exact ⟨0, _, _, by omega, rfl, by omega, HBX.out, H9.out⟩
            case round =>
              clear H9 HBX
              obtain ⟨i, N, C, hi, rfl, hN, hbx, hst⟩ := hrel
              by_cases hlt : (i : Int) < m
              · have hbx2 := box_off C (⟨bud, room, 50, sksOf k⟩ : Su) (f2 i) 2 i (by omega) rfl (by show (i : Int) < room; omega) (by omega) hbx
                rw [f2_off] at hbx2
                have h5 := hst.alloc (.cells #[.int .i64 2, .int .i64 2, .int .i64 0, .int .i64 0, .slice none 0 0, .int .i64 0, .int .i64 0, .int .i64 0, .int .i64 0, .int .i64 0, .bool false, .int .i64 0, .int .i64 0, .int .i64 0, .int .u64 0] 67)
                have hdo := doLit_st h5 5 6 9 rfl rfl (by rw [hbx.su]) (⟨2, 2, 0, 0, none, 0, Pp.zero, Inp.zero⟩ : ActR) rfl rfl (by decide) (by decide) rfl rfl rfl (plain_okF rfl (by decide) (by decide) rfl) (by omega) (C.do1 (offF ((2 : Nat) : Int))) rfl
                have HDO := Lib.hid hdo
                have HBX2 := Lib.hid hbx2
                clear h5 hdo hst hbx hbx2
                go_wp2_with (go_at_call 16; (with_reducible refine HDO.out.mono ?_); rintro e w5 ⟨ua, uc, u, rfl, _, _, h6⟩; have H6 := Lib.hid (h6.pick [0, 1, 2, 3, 4, 5, 6, 7, 8] (by decide)); clear h6 HDO)
                go_roundw
                case rel => exact ⟨i + 1, N + 9, _, by omega, by go_num, by omega, HBX2.out, H6.out⟩
                case measure => simp [intOf]; omega
              · have hie : m = i := by omega
                subst hie
                have HBX := Lib.hid hbx
                have HST := Lib.hid hst
                clear hst hbx
                go_wp2_with fail
                go_roundw
                case rel => exact ⟨2, NA, N, A, C, by omega, by go_num, by omega, by omega, HA2.out, HBX.out, HST.out⟩
                case measure => simp [intOf]
        · obtain rfl : j = 2 := by omega
          have hA : boxAt A (⟨bud, room, 50, sksOf k⟩ : Su) (f2 m) := hA
          have hB : boxAt B (⟨bud, room, 50, sksOf k⟩ : Su) (f2 m) := hB
          have HA2 := Lib.hid hA
          obtain ⟨hbx, hxx⟩ := box_reg B (⟨bud, room, 50, sksOf k⟩ : Su) (f2 m) 6 (by omega) rfl rfl hB
          have hbx : boxAt (B.do1 (regF ((6 : Nat) : Int))).2 (⟨bud, room, 50, sksOf k⟩ : Su) (f26 m 0) := hbx
          have p0 : wr.cell? ⟨g3, 0, none⟩ = some (.slice none 0 0) := ((blkCells (hst.blk 7 rfl).1).1 0).trans rfl
          have p1 : wr.cell? ⟨g3, 1, none⟩ = some (.int .i64 5) := ((blkCells (hst.blk 7 rfl).1).1 1).trans rfl
          have p2 : wr.cell? ⟨g3, 2, none⟩ = some (.int .i64 5) := ((blkCells (hst.blk 7 rfl).1).1 2).trans rfl
          have p3 : wr.cell? ⟨g3, 3, none⟩ = some (.int .i64 1) := ((blkCells (hst.blk 7 rfl).1).1 3).trans rfl
          have p4 : wr.cell? ⟨g3, 4, none⟩ = some (.int .i64 (-1)) := ((blkCells (hst.blk 7 rfl).1).1 4).trans rfl
          have p5 : wr.cell? ⟨g3, 5, none⟩ = some (.int .i64 (-1)) := ((blkCells (hst.blk 7 rfl).1).1 5).trans rfl
          have h5 := hst.alloc (.cells #[.int .i64 1, .int .i64 6, .int .i64 0, .int .i64 0, .slice none 0 0, .int .i64 5, .int .i64 5, .int .i64 1, .int .i64 (-1), .int .i64 (-1), .bool false, .int .i64 0, .int .i64 0, .int .i64 0, .int .u64 0] 67)
          have hdo := doLit_st h5 5 6 9 rfl rfl (by rw [hB.su]) (⟨1, 6, 0, 0, none, 0, pF, Inp.zero⟩ : ActR) rfl rfl (by decide) (by decide) rfl rfl rfl (plain_okF rfl (by decide) (by decide) rfl) (by omega) (B.do1 (regF ((6 : Nat) : Int))) rfl
          generalize (B.do1 (regF ((6 : Nat) : Int))).2 = B1 at *
          have HDO := Lib.hid hdo
          have HBX := Lib.hid hbx
          clear h5 hdo hst hbx hxx hA hB
          go_upto_region 21 with (go_at_call 16; (with_reducible refine HDO.out.mono ?_); rintro e w5 ⟨ua, uc, u, rfl, _, _, h6⟩; have h6 : St w w5 [pt w.heap.size (.cells #[.int .i64 k.budget, .int .i64 k.room, .int .i64 k.quota, .slice ka k.sinks.length kc] 24 (0, 0)), ownP 113 5 Sk.cells (.slice na (sksOf k).length nc) (sksOf k), pt g (.cells #[.int .i64 bud, .int .i64 room, .int .i64 50, .slice na (sksOf k).length nc] 28 (0, 0)), coP ca ma mc A NA, ownP 113 5 Sk.cells (.slice ma (sksOf k).length mc) (sksOf k), coP cb ma' mc' B1 (NB + 9), ownP 113 5 Sk.cells (.slice ma' (sksOf k).length mc') (sksOf k), pt g3 (.cells #[.slice none 0 0, .int .i64 5, .int .i64 5, .int .i64 1, .int .i64 (-1), .int .i64 (-1)] 61 (0, 0)), pt g8 (.cells #[.pointer (some ⟨ca, 0, none⟩), .pointer (some ⟨cb, 0, none⟩)] 35 (0, 0))] := h6.pick [0, 1, 2, 3, 4, 5, 6, 7, 8] (by decide); have H9 := Lib.hid h6; clear h6 HDO)
          go_wp2_with fail
          go_loopw [93] (fun iv wr => ∃ (i N : Nat) (C : Co), i ≤ o ∧ iv = .int .i64 i ∧ N ≤ NB + 9 + 9 * i ∧ boxAt C (⟨bud, room, 50, sksOf k⟩ : Su) (f26 m i) ∧ St w wr [pt w.heap.size (.cells #[.int .i64 k.budget, .int .i64 k.room, .int .i64 k.quota, .slice ka k.sinks.length kc] 24 (0, 0)), ownP 113 5 Sk.cells (.slice na (sksOf k).length nc) (sksOf k), pt g (.cells #[.int .i64 bud, .int .i64 room, .int .i64 50, .slice na (sksOf k).length nc] 28 (0, 0)), coP ca ma mc A NA, ownP 113 5 Sk.cells (.slice ma (sksOf k).length mc) (sksOf k), coP cb ma' mc' C N, ownP 113 5 Sk.cells (.slice ma' (sksOf k).length mc') (sksOf k), pt g3 (.cells #[.slice none 0 0, .int .i64 5, .int .i64 5, .int .i64 1, .int .i64 (-1), .int .i64 (-1)] 61 (0, 0)), pt g8 (.cells #[.pointer (some ⟨ca, 0, none⟩), .pointer (some ⟨cb, 0, none⟩)] 35 (0, 0))]) (fun iv _ => o - (intOf iv).toNat)
          case atStart => exact ⟨0, _, _, by omega, rfl, by omega, HBX.out, H9.out⟩
          case round =>
            clear H9 HBX
            obtain ⟨i, N, C, hi, rfl, hN, hbx, hst⟩ := hrel
            by_cases hlt : (i : Int) < o
            · have hbx2 := box_off C (⟨bud, room, 50, sksOf k⟩ : Su) (f26 m i) 6 i (by omega) rfl (by show (i : Int) < room; omega) (by omega) hbx
              rw [f26_off] at hbx2
              have h5 := hst.alloc (.cells #[.int .i64 2, .int .i64 6, .int .i64 0, .int .i64 0, .slice none 0 0, .int .i64 0, .int .i64 0, .int .i64 0, .int .i64 0, .int .i64 0, .bool false, .int .i64 0, .int .i64 0, .int .i64 0, .int .u64 0] 67)
              have hdo := doLit_st h5 5 6 9 rfl rfl (by rw [hbx.su]) (⟨2, 6, 0, 0, none, 0, Pp.zero, Inp.zero⟩ : ActR) rfl rfl (by decide) (by decide) rfl rfl rfl (plain_okF rfl (by decide) (by decide) rfl) (by omega) (C.do1 (offF ((6 : Nat) : Int))) rfl
              have HDO := Lib.hid hdo
              have HBX2 := Lib.hid hbx2
              clear h5 hdo hst hbx hbx2
              go_wp2_with (go_at_call 16; (with_reducible refine HDO.out.mono ?_); rintro e w5 ⟨ua, uc, u, rfl, _, _, h6⟩; have H6 := Lib.hid (h6.pick [0, 1, 2, 3, 4, 5, 6, 7, 8] (by decide)); clear h6 HDO)
              go_roundw
              case rel => exact ⟨i + 1, N + 9, _, by omega, by go_num, by omega, HBX2.out, H6.out⟩
              case measure => simp [intOf]; omega
            · have hie : o = i := by omega
              subst hie
              have HBX := Lib.hid hbx
              have HST := Lib.hid hst
              clear hst hbx
              clear hlt
              have HBC := Lib.hid (coreCell_in (HST.out.front 3 rfl) (2 : Int) (by omega))
              go_upto_region 26 with (first
                | (go_at_call 29; (with_reducible refine HBD.out.mono ?_); rintro e wy ⟨q, rfl, hy⟩; have hy : St w wy [pt w.heap.size (.cells #[.int .i64 k.budget, .int .i64 k.room, .int .i64 k.quota, .slice ka k.sinks.length kc] 24 (0, 0)), ownP 113 5 Sk.cells (.slice na (sksOf k).length nc) (sksOf k), pt g (.cells #[.int .i64 bud, .int .i64 room, .int .i64 50, .slice na (sksOf k).length nc] 28 (0, 0)), coP ca ma mc A NA, ownP 113 5 Sk.cells (.slice ma (sksOf k).length mc) (sksOf k), coP cb ma' mc' C N, ownP 113 5 Sk.cells (.slice ma' (sksOf k).length mc') (sksOf k), pt g3 (.cells #[.slice none 0 0, .int .i64 5, .int .i64 5, .int .i64 1, .int .i64 (-1), .int .i64 (-1)] 61 (0, 0)), pt g8 (.cells #[.pointer (some ⟨ca, 0, none⟩), .pointer (some ⟨cb, 0, none⟩)] 35 (0, 0)), optP NA p (A.at (2 : Int)), optP N q (C.at (2 : Int))] := hy.back (n := 5) (by simp); have HY := Lib.hid hy; clear hy HBD)
                | (go_at_call 29; (with_reducible refine HBC.out.mono ?_); rintro e wx ⟨p, rfl, hx⟩; have hx : St w wx [pt w.heap.size (.cells #[.int .i64 k.budget, .int .i64 k.room, .int .i64 k.quota, .slice ka k.sinks.length kc] 24 (0, 0)), ownP 113 5 Sk.cells (.slice na (sksOf k).length nc) (sksOf k), pt g (.cells #[.int .i64 bud, .int .i64 room, .int .i64 50, .slice na (sksOf k).length nc] 28 (0, 0)), coP ca ma mc A NA, ownP 113 5 Sk.cells (.slice ma (sksOf k).length mc) (sksOf k), coP cb ma' mc' C N, ownP 113 5 Sk.cells (.slice ma' (sksOf k).length mc') (sksOf k), pt g3 (.cells #[.slice none 0 0, .int .i64 5, .int .i64 5, .int .i64 1, .int .i64 (-1), .int .i64 (-1)] 61 (0, 0)), pt g8 (.cells #[.pointer (some ⟨ca, 0, none⟩), .pointer (some ⟨cb, 0, none⟩)] 35 (0, 0)), optP NA p (A.at (2 : Int))] := hx.back (n := 3) (by simp); have HBD := Lib.hid (coreCell_in (hx.front 5 rfl) (2 : Int) (by omega)); clear hx HBC))
              obtain ⟨x, hx1, _, _, hx4⟩ : ∃ c, A.x 2 = some c ∧ c.id = ((2 : Nat) : Int) ∧ c.left = 50 - (m : Int) ∧ c.q.length = m := HA2.out.cell 2 (by omega)
              obtain ⟨y, hy1, _, _, hy4⟩ : ∃ c, C.x 2 = some c ∧ c.id = ((2 : Nat) : Int) ∧ c.left = 50 - (m : Int) ∧ c.q.length = m := HBX.out.cell 2 (by omega)
              have hta : A.at (2 : Int) = some x := (at_x A 2 (by omega)).trans hx1
              have htb : C.at (2 : Int) = some y := (at_x C 2 (by omega)).trans hy1
              have hy := HY.out
              rw [hta, htb] at hy
              obtain ⟨d, hp⟩ := optP_some hy 9 rfl
              subst hp
              obtain ⟨d2, hp⟩ := optP_some hy 10 rfl
              subst hp
              rw [show ptrV (some d) = .pointer (some ⟨d, 0, none⟩) from rfl, show ptrV (some d2) = .pointer (some ⟨d2, 0, none⟩) from rfl]
              have hy : St w wy [pt w.heap.size (.cells #[.int .i64 k.budget, .int .i64 k.room, .int .i64 k.quota, .slice ka k.sinks.length kc] 24 (0, 0)), ownP 113 5 Sk.cells (.slice na (sksOf k).length nc) (sksOf k), pt g (.cells #[.int .i64 bud, .int .i64 room, .int .i64 50, .slice na (sksOf k).length nc] 28 (0, 0)), coP ca ma mc A NA, ownP 113 5 Sk.cells (.slice ma (sksOf k).length mc) (sksOf k), coP cb ma' mc' C N, ownP 113 5 Sk.cells (.slice ma' (sksOf k).length mc') (sksOf k), pt g3 (.cells #[.slice none 0 0, .int .i64 5, .int .i64 5, .int .i64 1, .int .i64 (-1), .int .i64 (-1)] 61 (0, 0)), pt g8 (.cells #[.pointer (some ⟨ca, 0, none⟩), .pointer (some ⟨cb, 0, none⟩)] 35 (0, 0)), clP d x NA, clP d2 y N] := hy
              have hall := all_f2 A (⟨bud, room, 50, sksOf k⟩ : Su) bud (by omega) m HA2.out
              have halb := all_f26 C (⟨bud, room, 50, sksOf k⟩ : Su) bud (by omega) m o HBX.out
              have ht1 := boundTicks_look (lookC_of hy.drew 9 rfl (by omega)) bud
              rw [hx4] at ht1
              have htm := ticks_quo m bud (by omega)
              have hto := ticks_quo o bud (by omega)
              obtain ⟨tm0, tm1⟩ := ticksOf_nonneg m bud (by omega)
              obtain ⟨to0, to1⟩ := ticksOf_nonneg o bud (by omega)
              have hs2 : ∀ (w' : World) (K : List HP), St w w' K → K[2]? = some (pt g (.cells #[.int .i64 bud, .int .i64 room, .int .i64 50, .slice na (sksOf k).length nc] 28 (0, 0))) → w'.cell? ⟨g, 0, none⟩ = some (.int .i64 bud) := fun w' K hh e => ((blkCells (hh.blk 2 e).1).1 0).trans rfl
              have z0 := hs2 _ _ hy rfl
              have S1 := hs2 _ _ hy.drew rfl
              have HS2 := Lib.hid hs2
              have HY2 := Lib.hid hy
              have HX4 := Lib.hid hx4
              have HY4 := Lib.hid hy4
              obtain ⟨tm, htme⟩ : ∃ t, ticksOf (m : Int) bud = t := ⟨_, rfl⟩
              have HTM := Lib.hid htme
              rw [htme] at htm tm0 tm1 ht1 hall halb
              clear htme
              generalize ticksOf (o : Int) bud = tp at *
              have HAL := Lib.hid hall
              have HBL := Lib.hid halb
              have HT1 := Lib.hid ht1
              have hw1 : wrap64 ((m : Int) + bud) = m + bud := wrap64_id (by omega) (by omega)
              have hw2 : wrap64 ((m : Int) + bud - 1) = m + bud - 1 := wrap64_id (by omega) (by omega)
              have hw3 : wrap64 tm = tm := wrap64_id (by omega) (by omega)
              have hv1 : IntKind.i64.wrap ((o : Int) + bud) = o + bud := (IntKind.wrap_i64 _).trans (by omega)
              have hv2 : IntKind.i64.wrap ((o : Int) + bud - 1) = o + bud - 1 := (IntKind.wrap_i64 _).trans (by omega)
              have hv3 : IntKind.i64.wrap tp = tp := (IntKind.wrap_i64 _).trans (by omega)
              have hb0 : (bud == 0) = false := by simp; omega
              have hbn : ¬ bud = 0 := by omega
              have hbd : decide (bud = 0) = false := by simp; omega
              clear hx1 hy1 hx4 hy4 hta htb hy hall halb ht1 hs2 HY HST
              go_upto_region 27 with fail
              go_region_held3 (fun w' => w'.cell? ⟨g, 0, none⟩ = some (.int .i64 bud)) (first | (with_reducible exact z0) | (with_reducible exact S1) | (with_reducible exact S2) | (with_reducible exact S3) | (with_reducible exact S4) | (with_reducible exact S5) | (with_reducible exact S6))
                (first
                  | (go_at_call 39; (with_reducible refine HBR.out.mono ?_); rintro e wz ⟨rfl, hbz⟩; have hz := HE.out.kept hbz; have S6 := HS2.out _ _ hz rfl; have HZ := Lib.hid hz; clear hz hbz HBR)
                  | (go_at_call 37; (with_reducible refine HA4.out.mono ?_); rintro e we ⟨rfl, he⟩; have he : St w we [pt w.heap.size (.cells #[.int .i64 k.budget, .int .i64 k.room, .int .i64 k.quota, .slice ka k.sinks.length kc] 24 (0, 0)), ownP 113 5 Sk.cells (.slice na (sksOf k).length nc) (sksOf k), pt g (.cells #[.int .i64 bud, .int .i64 room, .int .i64 50, .slice na (sksOf k).length nc] 28 (0, 0)), coP ca ma mc A NA, ownP 113 5 Sk.cells (.slice ma (sksOf k).length mc) (sksOf k), coP cb ma' mc' C N, ownP 113 5 Sk.cells (.slice ma' (sksOf k).length mc') (sksOf k), pt g3 (.cells #[.slice none 0 0, .int .i64 5, .int .i64 5, .int .i64 1, .int .i64 (-1), .int .i64 (-1)] 61 (0, 0)), pt g8 (.cells #[.pointer (some ⟨ca, 0, none⟩), .pointer (some ⟨cb, 0, none⟩)] 35 (0, 0)), clP d x NA, clP d2 y N] := he.back (n := 5) (by simp); have S5 := HS2.out _ _ he rfl; have HBR := Lib.hid (BoundRuns_any we); have HE := Lib.hid he; clear he HA4)
                  | (go_at_call 37; (with_reducible refine HA3.out.mono ?_); rintro e wd ⟨rfl, hd⟩; have hd : St w wd [pt w.heap.size (.cells #[.int .i64 k.budget, .int .i64 k.room, .int .i64 k.quota, .slice ka k.sinks.length kc] 24 (0, 0)), ownP 113 5 Sk.cells (.slice na (sksOf k).length nc) (sksOf k), pt g (.cells #[.int .i64 bud, .int .i64 room, .int .i64 50, .slice na (sksOf k).length nc] 28 (0, 0)), coP ca ma mc A NA, ownP 113 5 Sk.cells (.slice ma (sksOf k).length mc) (sksOf k), coP cb ma' mc' C N, ownP 113 5 Sk.cells (.slice ma' (sksOf k).length mc') (sksOf k), pt g3 (.cells #[.slice none 0 0, .int .i64 5, .int .i64 5, .int .i64 1, .int .i64 (-1), .int .i64 (-1)] 61 (0, 0)), pt g8 (.cells #[.pointer (some ⟨ca, 0, none⟩), .pointer (some ⟨cb, 0, none⟩)] 35 (0, 0)), clP d x NA, clP d2 y N] := hd.back (n := 3) (by simp); have S4 := HS2.out _ _ hd rfl; have ha4 := boundAll_in (hd.front 5 rfl) bud (by omega) (by omega); rw [HBL.out] at ha4; have HA4 := Lib.hid ha4; clear hd ha4 HA3)
                  | (go_at_call 35; (with_reducible refine HT2.out.mono ?_); rintro e wb2 ⟨rfl, hb2⟩; have hc := HC2.out.kept hb2; have S3 := HS2.out _ _ hc rfl; have ha3 := boundAll_in (hc.front 3 rfl) bud (by omega) (by omega); rw [HAL.out] at ha3; have HA3 := Lib.hid ha3; clear hc ha3 hb2 HT2)
                  | (go_at_call 35; (with_reducible refine HT1.out.mono ?_); rintro e wb1 ⟨rfl, hb1⟩; have hc := HY2.out.drew.kept hb1; have S2 := HS2.out _ _ hc rfl; have ht2 := boundTicks_look (lookC_of hc 10 rfl (by omega)) bud; rw [HY4.out] at ht2; rw [HTM.out] at ht2; have HT2 := Lib.hid ht2; have HC2 := Lib.hid hc; clear hc ht2 hb1 HT1))
              all_goals
                go_wp2_with fail
                go_ret
                exact ⟨rfl, HZ.out.below⟩
end Go.Proofs.YtdncpihaeobaeaaGreat
