/- Walks of core.Ticks, core.Cell, core.Twin. -/
import Derived.Test.YtpkpcomocimghaaGreatDoAll
set_option linter.unusedVariables false
set_option linter.unusedSimpArgs false
namespace Go.Proofs.YtpkpcomocimghaaGreat
open Go.RowKit
theorem ticks_in {w0 w : World} {K : List HP} {cb sc N : Nat} {sa : Option Addr} {co : Co} (h : St w0 w (coP cb sa sc co N :: K)) : Calls Tryz.prog 19 #[.pointer (some ⟨cb, 0, none⟩)] w fun x w' => x = .returned (.int .i64 co.ticks) ∧ w' = w := by
  obtain ⟨ps, pv, bb, hp8, hok, hst⟩ := co_open h
  obtain ⟨_, _, _, _, _, _, z14, _⟩ := co_c (hst.blk 0 rfl).1 hp8
  clear h hst
  go_enter Tryz.func19, Tryz.ntmps19
  go_wp2
  go_ret
  exact ⟨rfl, rfl⟩
set_option maxHeartbeats 4000000 in
set_option maxRecDepth 20000 in
theorem coreCell_in {w0 w : World} {R : HP} {cb sc N : Nat} {sa : Option Addr} {co : Co} (h : St w0 w [coP cb sa sc co N, R]) (t : Int) (hN : N < 2 ^ 28) : Calls Tryz.prog 28 #[.pointer (some ⟨cb, 0, none⟩), .int .i64 t] w fun x w' => ∃ p : Option Nat, x = .returned (ptrV p) ∧ St w0 w' [coP cb sa sc co N, R, optP N p (co.at t)] := by
  have H0 := Lib.hid ((show St w0 w [coP cb sa sc co N, R, optP N none none] from h.pick [0, 1, 2] (by decide)))
  obtain ⟨ps, pv, bb, hp8, hok, hst⟩ := co_open h
  clear h
  have h8 := hok.good.cells
  rcases at_cases t with ⟨u, hu8, rfl⟩ | hn
  · rw [at_x co u hu8]
    obtain ⟨h5, i5⟩ := hst.cellIn 3 rfl hp8 h8 u hu8
    rw [x_get h8 u hu8] at i5
    have cu := (co_cells (hst.blk 0 rfl).1 hp8).2.2.2.2.1 u hu8
    cases hx : co.x u with
    | none =>
      rw [hx] at i5
      have hb := optP_none h5 _ i5
      rw [hb] at cu
      have HAT := Lib.hid (coreAt_in cb u (.pointer none) _ hu8 cu)
      clear h5 i5 hst cu hb hx hok
      go_enter Tryz.func28, Tryz.ntmps28
      go_wp2_with (go_at_call 57; (with_reducible refine HAT.out.mono ?_); rintro e wz ⟨rfl, hwz⟩; have hwz := hwz.symm; subst hwz)
      go_ret
      exact ⟨none, rfl, H0.out⟩
    | some c =>
      rw [hx] at i5
      obtain ⟨b, hb⟩ := optP_some h5 _ i5
      rw [hb] at i5 cu
      have HAT := Lib.hid (coreAt_in cb u (.pointer (some ⟨b, 0, none⟩)) _ hu8 cu)
      have HCT := Lib.hid (cellTwin_st h5 _ i5 hN)
      have hfin : ∀ w' X, St w0 w' (([pt cb (.cells (coCells co sa sc pv bb ps).toArray 107 (0, 0)), ownP 113 4 Pot.cells pv co.pots, boardP bb co.told N, sepL (clsL ps co.cells N), R].set 3 emp ++ clsL ps co.cells N) ++ [X]) → St w0 w' [coP cb sa sc co N, R, X] := fun w' X h' => by
        rw [List.append_assoc] at h'
        exact co_shut (K := [R, X]) hp8 hok (h'.unsplit (by simp))
      have HFIN := Lib.hid hfin
      clear h5 i5 hst cu hb hx hok hfin
      go_enter Tryz.func28, Tryz.ntmps28
      go_wp2_with (first
        | (go_at_call 57; (with_reducible refine HAT.out.mono ?_); rintro e wz ⟨rfl, hwz⟩; have hwz := hwz.symm; subst hwz)
        | (go_at_call 58; (with_reducible refine HCT.out.mono ?_); rintro e w2 ⟨g, rfl, h2⟩; have h3 := HFIN.out _ _ h2; have H3 := Lib.hid h3; clear h2 h3))
      go_ret
      exact ⟨some g, rfl, H3.out⟩
  · rw [at_out co t hn]
    have HAT := Lib.hid (coreAt_out cb t w hn)
    clear hst hok
    go_enter Tryz.func28, Tryz.ntmps28
    go_wp2_with (go_at_call 57; (with_reducible refine HAT.out.mono ?_); rintro e wz ⟨rfl, hwz⟩; have hwz := hwz.symm; subst hwz)
    go_ret
    exact ⟨none, rfl, H0.out⟩
def addK (f : Nat → HP) (k : Nat) : List HP := (List.range k).map f
theorem cls_take (xs : List (Option Nat)) (cs : List (Option Cl)) (N k : Nat) (hx : xs.length = 8) (hc : cs.length = 8) (hk : k < 8) (p : Option Nat) : clsL (xs.take k) (cs.take k) N ++ [optP N p (cs[k]'(by omega))] = clsL ((xs.set k p).take (k + 1)) (cs.take (k + 1)) N := by
  have e1 : (xs.set k p).take (k + 1) = xs.take k ++ [p] := by
    rw [List.take_add_one, List.take_set_of_le (Nat.le_refl k), List.getElem?_set_self (by omega)]
    rfl
  rw [e1, List.take_add_one, List.getElem?_eq_getElem (by omega)]
  unfold clsL
  rw [List.zipWith_append (by simp; omega)]
  rfl
set_option maxHeartbeats 8000000 in
set_option maxRecDepth 20000 in
theorem coreTwin_in {w0 w : World} {R : HP} {cb sc N : Nat} {sa : Option Addr} {co : Co} (h : St w0 w [coP cb sa sc co N, R]) (hN : N < 2 ^ 28) (hpl : co.pots.length ≤ 1099511627776) :
    Calls Tryz.prog 32 #[.pointer (some ⟨cb, 0, none⟩)] w fun x w' => ∃ g, x = .returned (.pointer (some ⟨g, 0, none⟩)) ∧ St w0 w' [coP cb sa sc co N, R, coP g sa sc co N] := by
  obtain ⟨ps, pv, bb, hp8, hok, hst⟩ := co_open h
  clear h
  have h8 := hok.good.cells
  obtain ⟨p0, p1, p2, p3, p4, p5, p6, p7, rfl⟩ := pts8 hp8
  obtain ⟨pa, pc, rfl, hpc, hpm, hpn, _⟩ := hst.sl Pot.len 1 rfl
  obtain ⟨q, _⟩ := blkCells (hst.blk 0 rfl).1
  have e0 : w.cell? ⟨cb, 0, none⟩ = some (.int .i64 co.s.budget) := (q 0).trans rfl
  have e1 : w.cell? ⟨cb, 1, none⟩ = some (.int .i64 co.s.room) := (q 1).trans rfl
  have e2 : w.cell? ⟨cb, 2, none⟩ = some (.int .i64 co.s.quota) := (q 2).trans rfl
  have e3 : w.cell? ⟨cb, 3, none⟩ = some (.slice sa co.s.sinks.length sc) := (q 3).trans rfl
  have e4 : w.cell? ⟨cb, 4, none⟩ = some (.pointer (p0.map fun b => ⟨b, 0, none⟩)) := (q 4).trans rfl
  have e5 : w.cell? ⟨cb, 5, none⟩ = some (.pointer (p1.map fun b => ⟨b, 0, none⟩)) := (q 5).trans rfl
  have e6 : w.cell? ⟨cb, 6, none⟩ = some (.pointer (p2.map fun b => ⟨b, 0, none⟩)) := (q 6).trans rfl
  have e7 : w.cell? ⟨cb, 7, none⟩ = some (.pointer (p3.map fun b => ⟨b, 0, none⟩)) := (q 7).trans rfl
  have e8 : w.cell? ⟨cb, 8, none⟩ = some (.pointer (p4.map fun b => ⟨b, 0, none⟩)) := (q 8).trans rfl
  have e9 : w.cell? ⟨cb, 9, none⟩ = some (.pointer (p5.map fun b => ⟨b, 0, none⟩)) := (q 9).trans rfl
  have e10 : w.cell? ⟨cb, 10, none⟩ = some (.pointer (p6.map fun b => ⟨b, 0, none⟩)) := (q 10).trans rfl
  have e11 : w.cell? ⟨cb, 11, none⟩ = some (.pointer (p7.map fun b => ⟨b, 0, none⟩)) := (q 11).trans rfl
  have e12 : w.cell? ⟨cb, 12, none⟩ = some (.slice pa co.pots.length pc) := (q 12).trans rfl
  have e13 : w.cell? ⟨cb, 13, none⟩ = some (.pointer (some ⟨bb, 0, none⟩)) := (q 13).trans rfl
  have e14 : w.cell? ⟨cb, 14, none⟩ = some (.int .i64 co.ticks) := (q 14).trans rfl
  have h1 : St w0 (w.alloc (.cells #[.int .i64 co.s.budget, .int .i64 co.s.room, .int .i64 co.s.quota, .slice sa co.s.sinks.length sc, .pointer (p0.map fun b => ⟨b, 0, none⟩), .pointer (p1.map fun b => ⟨b, 0, none⟩), .pointer (p2.map fun b => ⟨b, 0, none⟩), .pointer (p3.map fun b => ⟨b, 0, none⟩), .pointer (p4.map fun b => ⟨b, 0, none⟩), .pointer (p5.map fun b => ⟨b, 0, none⟩), .pointer (p6.map fun b => ⟨b, 0, none⟩), .pointer (p7.map fun b => ⟨b, 0, none⟩), .slice pa co.pots.length pc, .pointer (some ⟨bb, 0, none⟩), .int .i64 co.ticks] 107)) ([pt cb (.cells (coCells co sa sc (.slice pa co.pots.length pc) bb ([p0, p1, p2, p3, p4, p5, p6, p7])).toArray 107 (0, 0)), ownP 113 4 Pot.cells (.slice pa co.pots.length pc) co.pots, boardP bb co.told N, sepL (clsL [p0, p1, p2, p3, p4, p5, p6, p7] co.cells N), R, pt w.heap.size (.cells (coCells co sa sc (.slice pa co.pots.length pc) bb ([p0, p1, p2, p3, p4, p5, p6, p7])).toArray 107 (0, 0))]) := hst.alloc (.cells #[.int .i64 co.s.budget, .int .i64 co.s.room, .int .i64 co.s.quota, .slice sa co.s.sinks.length sc, .pointer (p0.map fun b => ⟨b, 0, none⟩), .pointer (p1.map fun b => ⟨b, 0, none⟩), .pointer (p2.map fun b => ⟨b, 0, none⟩), .pointer (p3.map fun b => ⟨b, 0, none⟩), .pointer (p4.map fun b => ⟨b, 0, none⟩), .pointer (p5.map fun b => ⟨b, 0, none⟩), .pointer (p6.map fun b => ⟨b, 0, none⟩), .pointer (p7.map fun b => ⟨b, 0, none⟩), .slice pa co.pots.length pc, .pointer (some ⟨bb, 0, none⟩), .int .i64 co.ticks] 107)
  have HBT := Lib.hid (boardTwin_in (h1.front 2 rfl) (by omega))
  have HOK := Lib.hid hok
  have hcl := (hst.blk 0 rfl).2.2
  clear q hst h1
  go_enter Tryz.func32, Tryz.ntmps32
  go_upto_region 3 with (go_at_call 60; (with_reducible refine HBT.out.mono ?_); rintro e w2 ⟨nb, rfl, h2⟩; have h3 := h2.back (n := 2) (by simp); have q2 := ((blkCells (h3.blk 5 rfl).1).1 13).trans rfl; have z2 := (blkCells (h3.blk 5 rfl).1).2 13; have H3 := Lib.hid h3; clear h2 h3 HBT)
  have h4 := H3.out.set 5 rfl 13 (.pointer (some ⟨nb, 0, none⟩))
  have h4 : St w0 (w2.setCell ⟨w.heap.size, 13, none⟩ (.pointer (some ⟨nb, 0, none⟩))) ([pt cb (.cells (coCells co sa sc (.slice pa co.pots.length pc) bb ([p0, p1, p2, p3, p4, p5, p6, p7])).toArray 107 (0, 0)), ownP 113 4 Pot.cells (.slice pa co.pots.length pc) co.pots, boardP bb co.told N, sepL (clsL [p0, p1, p2, p3, p4, p5, p6, p7] co.cells N), R, pt w.heap.size (.cells (coCells co sa sc (.slice pa co.pots.length pc) nb ([p0, p1, p2, p3, p4, p5, p6, p7])).toArray 107 (0, 0)), boardP nb co.told N]) := h4
  clear H3 q2 z2 e0 e1 e2 e3 e4 e5 e6 e7 e8 e9 e10 e11 e12 e13 e14 hcl
  generalize w.heap.size = g at *
  refine wp_at h4 ?_
  intro w3 h3
  clear h4
  obtain ⟨_, _, _, _, _, z12, _, _⟩ := co_c (h3.blk 0 rfl).1 hp8
  have HCL := Lib.hid (clonePot_st h3 pa pc co.pots (h3.slOf Pot.len 1 rfl) hpn hpl)
  clear h3
  go_wp2_with (go_at_call 61; (with_reducible refine HCL.out.mono ?_); rintro e w4 ⟨v4, rfl, h4⟩; obtain ⟨na, nc, rfl, _⟩ := h4.sl Pot.len 7 rfl; have q12 := ((blkCells (h4.blk 5 rfl).1).1 12).trans (rfl : _ = some (Value.slice pa co.pots.length pc)); have f12 := (blkCells (h4.blk 5 rfl).1).2 12; have H4 := Lib.hid h4; clear h4 HCL)
  have h5 := H4.out.set 5 rfl 12 (.slice na co.pots.length nc)
  have h5 : St w0 (w4.setCell ⟨g, 12, none⟩ (.slice na co.pots.length nc)) ([pt cb (.cells (coCells co sa sc (.slice pa co.pots.length pc) bb ([p0, p1, p2, p3, p4, p5, p6, p7])).toArray 107 (0, 0)), ownP 113 4 Pot.cells (.slice pa co.pots.length pc) co.pots, boardP bb co.told N, sepL (clsL [p0, p1, p2, p3, p4, p5, p6, p7] co.cells N), R, pt g (.cells (coCells co sa sc (.slice na co.pots.length nc) nb ([p0, p1, p2, p3, p4, p5, p6, p7])).toArray 107 (0, 0)), boardP nb co.told N, ownP 113 4 Pot.cells (.slice na co.pots.length nc) co.pots]) := h5
  have h6 := co_shut (K := [R, pt g (.cells (coCells co sa sc (.slice na co.pots.length nc) nb ([p0, p1, p2, p3, p4, p5, p6, p7])).toArray 107 (0, 0)), boardP nb co.told N, ownP 113 4 Pot.cells (.slice na co.pots.length nc) co.pots]) hp8 HOK.out h5
  have h7 : St w0 (w4.setCell ⟨g, 12, none⟩ (.slice na co.pots.length nc)) ([coP cb sa sc co N, R, pt g (.cells (coCells co sa sc (.slice na co.pots.length nc) nb ([p0, p1, p2, p3, p4, p5, p6, p7])).toArray 107 (0, 0)), ownP 113 4 Pot.cells (.slice na co.pots.length nc) co.pots, boardP nb co.told N, emp] ++ clsL ([p0, p1, p2, p3, p4, p5, p6, p7].take 0) (co.cells.take 0) N) := h6.pick [0, 1, 2, 4, 3, 5] (by decide)
  have H7 := Lib.hid h7
  clear h5 h6 h7 H4 q12 f12 z12 hpn hpc hpm
  go_loopw [20] (fun iv wr => ∃ k : Nat, k ≤ 8 ∧ iv = .int .i64 k ∧ ∃ xs : List (Option Nat), xs.length = 8 ∧ St w0 wr ([coP cb sa sc co N, R, pt g (.cells (coCells co sa sc (.slice na co.pots.length nc) nb (xs)).toArray 107 (0, 0)), ownP 113 4 Pot.cells (.slice na co.pots.length nc) co.pots, boardP nb co.told N, emp] ++ clsL (xs.take k) (co.cells.take k) N)) (fun iv _ => 8 - (intOf iv).toNat)
  case atStart => exact ⟨0, by omega, rfl, [p0, p1, p2, p3, p4, p5, p6, p7], rfl, H7.out⟩
  case round =>
    clear H7
    obtain ⟨k, hk, rfl, xs, hxl, hst⟩ := hrel
    by_cases hlt : (k : Int) < 8
    · have hk8 : k < 8 := by omega
      have hca : co.at (k : Int) = co.cells[k]'(by omega) := by rw [at_x co k hk8, ← x_get h8 k hk8]
      have hcc := coreCell_in (hst.front 0 rfl) (k : Int) hN
      have hcc : Calls Tryz.prog 28 #[.pointer (some ⟨cb, 0, none⟩), .int .i64 k] wr fun x w' => ∃ p : Option Nat, x = .returned (.pointer (p.map fun b => ⟨b, 0, none⟩)) ∧ St w0 w' [coP cb sa sc co N, sepL (([coP cb sa sc co N, R, pt g (.cells (coCells co sa sc (.slice na co.pots.length nc) nb (xs)).toArray 107 (0, 0)), ownP 113 4 Pot.cells (.slice na co.pots.length nc) co.pots, boardP nb co.told N, emp] ++ clsL (xs.take k) (co.cells.take k) N).set 0 emp), optP N p (co.at (k : Int))] := hcc
      have HCC := Lib.hid hcc
      have hfin : ∀ w' p, St w0 w' (coP cb sa sc co N :: sepL (([coP cb sa sc co N, R, pt g (.cells (coCells co sa sc (.slice na co.pots.length nc) nb (xs)).toArray 107 (0, 0)), ownP 113 4 Pot.cells (.slice na co.pots.length nc) co.pots, boardP nb co.told N, emp] ++ clsL (xs.take k) (co.cells.take k) N).set 0 emp) :: [optP N p (co.at (k : Int))]) → (∃ z, w'.cell? ⟨g, 4 + k, none⟩ = some z) ∧ w'.frozen? ⟨g, 4 + k, none⟩ = false ∧ St w0 (w'.setCell ⟨g, 4 + k, none⟩ (.pointer (p.map fun b => ⟨b, 0, none⟩))) ([coP cb sa sc co N, R, pt g (.cells (coCells co sa sc (.slice na co.pots.length nc) nb ((xs.set k p))).toArray 107 (0, 0)), ownP 113 4 Pot.cells (.slice na co.pots.length nc) co.pots, boardP nb co.told N, emp] ++ clsL ((xs.set k p).take (k + 1)) (co.cells.take (k + 1)) N) := fun w' p h' => by
        have h1 := h'.back (n := 0) (by simp)
        have h2 : St w0 w' (([coP cb sa sc co N, R, pt g (.cells (coCells co sa sc (.slice na co.pots.length nc) nb (xs)).toArray 107 (0, 0)), ownP 113 4 Pot.cells (.slice na co.pots.length nc) co.pots, boardP nb co.told N, emp] ++ clsL (xs.take k) (co.cells.take k) N) ++ [optP N p (co.at (k : Int))]) := h1
        rw [hca, List.append_assoc, cls_take xs co.cells N k hxl h8 hk8 p] at h2
        have h3 := h2.set 2 rfl (4 + k) (ptrV p)
        rw [coCells_set (co := co) (co' := co) rfl rfl hxl k hk8 p] at h3
        exact ⟨⟨_, (co_cells (h2.blk 2 rfl).1 hxl).2.2.2.2.1 k hk8⟩, (blkCells (h2.blk 2 rfl).1).2 _, h3⟩
      have HFIN := Lib.hid hfin
      have hk0 : (0 : Int) ≤ k := by omega
      have hxs : ∀ p, (xs.set k p).length = 8 := fun p => by simpa using hxl
      have HXS := Lib.hid hxs
      clear hst hcc hfin hca hxs hxl
      go_wp2_with (go_at_call 28; (with_reducible refine HCC.out.mono ?_); rintro e w5 ⟨p, rfl, h5⟩; obtain ⟨⟨z5, e5⟩, f5, h6⟩ := HFIN.out _ _ h5; have H6 := Lib.hid h6; clear h5 h6)
      go_roundw
      case rel => exact ⟨k + 1, by omega, by go_num, xs.set k p, HXS.out p, H6.out⟩
      case measure => simp [intOf]; omega
    · obtain rfl : k = 8 := by omega
      rw [List.take_of_length_le (by omega), List.take_of_length_le (by omega)] at hst
      have h1 : St w0 wr ([coP cb sa sc co N, R, pt g (.cells (coCells co sa sc (.slice na co.pots.length nc) nb (xs)).toArray 107 (0, 0)), ownP 113 4 Pot.cells (.slice na co.pots.length nc) co.pots, boardP nb co.told N, emp].set 5 emp ++ (clsL xs co.cells N ++ [])) := by rw [List.append_nil]; exact hst
      have h2 := h1.unsplit (by simp)
      have h3 : St w0 wr [coP cb sa sc co N, R, pt g (.cells (coCells co sa sc (.slice na co.pots.length nc) nb (xs)).toArray 107 (0, 0)), ownP 113 4 Pot.cells (.slice na co.pots.length nc) co.pots, boardP nb co.told N, sepL (clsL xs co.cells N)] := h2
      have h4 := co_shut (K := [coP cb sa sc co N, R]) hxl HOK.out (h3.pick [2, 3, 4, 5, 0, 1] (by decide))
      have H5 := Lib.hid (h4.pick [1, 2, 0] (by decide))
      clear h1 h2 h3 h4 hst
      go_wp2
      go_ret
      exact ⟨g, rfl, H5.out⟩
end Go.Proofs.YtpkpcomocimghaaGreat
