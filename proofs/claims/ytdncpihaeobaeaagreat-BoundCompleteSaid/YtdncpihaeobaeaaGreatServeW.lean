/- Walk of core.serve. -/
import Derived.Test.YtdncpihaeobaeaaGreatServe
set_option linter.unusedVariables false
set_option linter.unusedSimpArgs false
namespace Go.Proofs.YtdncpihaeobaeaaGreat
open Go.RowKit
theorem may_sink {id : Int} {p : Pp} {l : List Sk} (h : mayB id p l = true) (hs : ¬ p.sink = -1) : ∃ u : Nat, p.sink = u ∧ u < l.length := by
  unfold mayB at h
  simp only [Bool.and_eq_true] at h
  have h1 := h.1.2
  unfold inB at h1
  rw [if_neg hs] at h1
  simp only [Bool.and_eq_true, decide_eq_true_eq] at h1
  exact ⟨p.sink.toNat, by omega, by omega⟩
theorem setCell_off {w : World} {b o : Nat} {v : Value} : w.setCell ⟨b, o * 1 + 0, none⟩ v = w.setCell ⟨b, o, none⟩ v := by rw [Nat.mul_one, Nat.add_zero]
set_option maxHeartbeats 8000000 in
set_option maxRecDepth 20000 in
theorem serve_in {w0 w : World} {R : HP} {cb sc N : Nat} {sa : Option Addr} {co : Co} (h : St w0 w [coP cb sa sc co N, R]) (hS : Seen w0 R 5 Sk.cells sa co.s.sinks) (hN : N < 2 ^ 28) :
    Calls Tryz.prog 96 #[.pointer (some ⟨cb, 0, none⟩)] w fun e w' => e = .returned (.tuple #[]) ∧ St w0 w' [coP cb sa sc (co.serveK 8) N, R] := by
  obtain ⟨ps, pv, bb, hp8, hok, hst⟩ := co_open h
  have hmk : ∀ w, (Instr.makeSlice 100 (.int .i64 8) (.int .i64 8)).run Tryz.prog w = .ok (.slice (some ⟨w.heap.size, 0, none⟩) 8 8) (w.alloc (.cells #[.int .i64 0, .int .i64 0, .int .i64 0, .int .i64 0, .int .i64 0, .int .i64 0, .int .i64 0, .int .i64 0] 3)) := fun _ => by kernel_rfl
  obtain ⟨p0, p1, p2, p3, p4, p5, p6, p7, rfl⟩ := pts8 hp8
  have h8 := hok.good.cells
  have hst1 := (hst.alloc (.cells #[.int .i64 0, .int .i64 0, .int .i64 0, .int .i64 0, .int .i64 0, .int .i64 0, .int .i64 0, .int .i64 0] 3)).imp 5 rfl (X' := ownP 3 1 (intC .i64) (.slice (some ⟨w.heap.size, 0, none⟩) 8 8) (co.waitK 0)) (fun f hf => ownP_lit (l := co.waitK 0) (intC_len .i64) (by rw [waitK_len]; decide) (by
    have e : ((co.waitK 0).flatMap (intC .i64)).toArray = #[.int .i64 0, .int .i64 0, .int .i64 0, .int .i64 0, .int .i64 0, .int .i64 0, .int .i64 0, .int .i64 0] := by
      unfold Co.waitK
      simp only [Nat.not_lt_zero, if_false]
      rfl
    rw [e]
    exact hf))
  have hst1 : St w0 _ [pt cb (.cells (coCells co sa sc pv bb [p0, p1, p2, p3, p4, p5, p6, p7]).toArray 119 (0, 0)), ownP 125 4 Pot.cells pv co.pots, boardP bb co.told N, sepL (clsL [p0, p1, p2, p3, p4, p5, p6, p7] co.cells N), R, ownP 3 1 (intC .i64) (.slice (some ⟨w.heap.size, 0, none⟩) 8 8) (co.waitK 0)] := hst1
  have hcc := co_cells (hst1.blk 0 rfl).1 hp8
  have c4 := hcc.2.2.2.2.1 0 (by decide)
  have c5 := hcc.2.2.2.2.1 1 (by decide)
  have c6 := hcc.2.2.2.2.1 2 (by decide)
  have c7 := hcc.2.2.2.2.1 3 (by decide)
  have c8 := hcc.2.2.2.2.1 4 (by decide)
  have c9 := hcc.2.2.2.2.1 5 (by decide)
  have c10 := hcc.2.2.2.2.1 6 (by decide)
  have c11 := hcc.2.2.2.2.1 7 (by decide)
  simp only [List.getElem_cons_zero, List.getElem_cons_succ, Nat.reduceAdd] at c4 c5 c6 c7 c8 c9 c10 c11
  have hcl : cb < w.heap.size + 1 := by have := hcc.2.2.2.2.2.2.2.2; simpa using this
  have HS := Lib.hid hst1
  have HOK := Lib.hid hok
  have HSK := Lib.hid hS
  have hsz := hst.size
  clear hst hst1 hcc h hS
  go_enter Tryz.func96, Tryz.ntmps96
  go_wp2_with fail
  go_loopw [15] (fun iv wr => ∃ k : Nat, k ≤ 8 ∧ iv = .int .i64 k ∧ St w0 wr [pt cb (.cells (coCells co sa sc pv bb [p0, p1, p2, p3, p4, p5, p6, p7]).toArray 119 (0, 0)), ownP 125 4 Pot.cells pv co.pots, boardP bb co.told N, sepL (clsL [p0, p1, p2, p3, p4, p5, p6, p7] co.cells N), R, ownP 3 1 (intC .i64) (.slice (some ⟨w.heap.size, 0, none⟩) 8 8) (co.waitK k)]) (fun iv _ => 8 - (intOf iv).toNat)
  case atStart => exact ⟨0, by omega, rfl, HS.out⟩
  case round =>
    obtain ⟨k, hk, rfl, hst⟩ := hrel
    by_cases hlt : (k : Int) < 8
    · have hk8 : k < 8 := by omega
      have hix := idxPtr (ptrV p0) (ptrV p1) (ptrV p2) (ptrV p3) (ptrV p4) (ptrV p5) (ptrV p6) (ptrV p7) k hk8
      rw [show ([ptrV p0, ptrV p1, ptrV p2, ptrV p3, ptrV p4, ptrV p5, ptrV p6, ptrV p7][k]'(by simpa using hk8)) = ptrV ([p0, p1, p2, p3, p4, p5, p6, p7][k]'(by simpa using hk8)) from by
        match k, hk8 with
        | 0, _ | 1, _ | 2, _ | 3, _ | 4, _ | 5, _ | 6, _ | 7, _ => rfl] at hix
      obtain ⟨hst5, hi5⟩ := hst.cellIn 3 rfl hp8 h8 k hk8
      rw [x_get h8 k hk8] at hi5
      cases hx : co.x k with
      | none =>
        rw [hx] at hi5
        have hpn := optP_none hst5 _ hi5
        rw [hpn] at hix
        have hixn : ∀ w', (Instr.index 116 (.agg #[ptrV p0, ptrV p1, ptrV p2, ptrV p3, ptrV p4, ptrV p5, ptrV p6, ptrV p7]) (.int .i64 k)).run Tryz.prog w' = .ok (.pointer none) w' := hix
        have hwn := waitK_none co k (by rw [wait_x, hx])
        have HWN := Lib.hid hwn
        have HST := Lib.hid hst
        clear hst hst5 hi5 hx hwn hpn hix
        go_wp2
        go_roundw
        case rel => exact ⟨k + 1, by omega, by go_num, by rw [← HWN.out]; exact HST.out⟩
        case measure => simp [intOf]; omega
      | some c =>
        rw [hx] at hi5
        obtain ⟨b, hpb⟩ := optP_some hst5 _ hi5
        rw [hpb] at hix hi5
        have hixs : ∀ w', (Instr.index 116 (.agg #[ptrV p0, ptrV p1, ptrV p2, ptrV p3, ptrV p4, ptrV p5, ptrV p6, ptrV p7]) (.int .i64 k)).run Tryz.prog w' = .ok (.pointer (some ⟨b, 0, none⟩)) w' := hix
        obtain ⟨k0, k1, k2, k5, ⟨qa, qc, k3⟩, hlc⟩ := cl_cells hst5 _ hi5
        have hwk : co.wait k = (c.q.length : Int) := by rw [wait_x, hx]
        have HW := Lib.hid (waiting_st qa c.q.length qc hst)
        have hws := waitK_step co k hk8
        rw [hwk] at hws
        have HWS := Lib.hid hws
        clear hst hst5 hi5 hx hws hwk k0 k1 k2 k5 hpb hix
        go_wp2_with (go_at_call 33; (with_reducible refine HW.out.mono ?_); rintro e w8 ⟨rfl, h8⟩; have f0 := h8.ownFree 5 rfl k; have e0 := ownCells (intC_len .i64) h8 5 rfl k (by rw [waitK_len]; exact hk8) 0 (by decide); rw [Nat.mul_one, Nat.add_zero] at e0; have hw8 := lt_of_cell e0; have HS8 := Lib.hid h8; clear h8 HW)
        go_roundw
        case rel =>
          refine ⟨k + 1, by omega, by go_num, ?_⟩
          have h9 := HS8.out.ownSet (intC_len .i64) 5 rfl k 0 (by rw [waitK_len]; exact hk8) (by decide) (c.q.length : Int) (.int .i64 (c.q.length : Int)) rfl
          rw [HWS.out, setCell_off] at h9
          exact h9
        case measure => simp [intOf]; omega
    · obtain rfl : k = 8 := by omega
      clear c4 c5 c6 c7 c8 c9 c10 c11
      have hcc := co_cells (hst.blk 0 rfl).1 hp8
      obtain ⟨c0, _, _, _, _, _, _, c14, hcl2⟩ := hcc
      have hnn : co.ticks ≤ N := HOK.out.ticks
      have hwl := waitK_len co 8
      have HPL := Lib.hid (Plan_any co.s.budget (co.ticks : Int) (co.waitK 8) (some ⟨w.heap.size, 0, none⟩) 8 8 wr.drew (by omega) (by omega) hwl.symm (hst.drew.slOf (intC_len .i64) 5 rfl) (by omega))
      have HST := Lib.hid hst
      clear hst hwl
      have e0 : wr.drew.cell? ⟨cb, 0, none⟩ = some (.int .i64 co.s.budget) := c0
      have e14 : wr.drew.cell? ⟨cb, 14, none⟩ = some (.int .i64 co.ticks) := c14
      go_wp2_with fail
      go_region_held3 (fun w' => w'.cell? ⟨cb, 0, none⟩ = some (.int .i64 co.s.budget) ∧ w'.cell? ⟨cb, 14, none⟩ = some (.int .i64 co.ticks)) (first | (with_reducible exact ⟨d0, d14⟩) | (with_reducible exact ⟨e0, e14⟩)) (first | (go_at_call 120; (with_reducible refine HPL.out.mono ?_); rintro e w2 ⟨rfl, hpl, hbe⟩; have h2 := HST.out.drew.gainPt hbe hpl (Nat.le_refl _); obtain ⟨d0, _, _, _, _, _, _, d14, _⟩ := co_cells (h2.blk 0 rfl).1 hp8; have h3 := co_shut (K := [R, pt wr.heap.size (.cells (planCells co.s.budget co.ticks (co.waitK 8) 8) 205 (0, 0))]) hp8 HOK.out (h2.pick [0, 1, 2, 3, 4, 6] (by decide)); have HS3 := Lib.hid h3; clear h2 h3 hpl hbe HPL))
      go_wp2_with fail
      generalize wr.heap.size = gp at *
      clear HS HST c0 c14 e0 e14 d0 d14 hcl hcl2
      go_loopw [42] (fun iv wx => ∃ k : Nat, k ≤ 8 ∧ iv = .int .i64 k ∧ St w0 wx [coP cb sa sc (co.serveK k) N, R, pt gp (.cells (planCells co.s.budget co.ticks (co.waitK 8) 8) 205 (0, 0))]) (fun iv _ => 8 - (intOf iv).toNat)
      case atStart => exact ⟨0, by omega, rfl, HS3.out⟩
      case round =>
        obtain ⟨k, hk, rfl, hst⟩ := hrel
        by_cases hlt : (k : Int) < 8
        · have hk8 : k < 8 := by omega
          obtain ⟨qs, qv, qb, hq8, hqok, hstq⟩ := co_open hst
          obtain ⟨qp, _⟩ := blkCells (hst.blk 2 rfl).1
          have g0 := (qp (k * 2)).trans (planCells_tenant _ _ _ 8 k hk8)
          have g1 := (qp (k * 2 + 1)).trans (planCells_at _ _ _ 8 k hk8)
          rw [if_pos hk8] at g1
          clear qp
          have hgl := (hst.blk 2 rfl).2.2
          have hqc := co_cells (hstq.blk 0 rfl).1 hq8
          obtain ⟨j, hj⟩ : ∃ j : Nat, (co.ticks + k) % 8 = j := ⟨_, rfl⟩
          have hj8 : j < 8 := by omega
          have hji : ((co.ticks : Int) + k) % 8 = (j : Int) := by omega
          have hsx := serveK_x co h8 k hk8
          rw [hj] at hsx
          rw [hji] at g0 g1
          have hsn := serveK_succ co k
          rw [hj] at hsn
          have hsv : serve co.s.budget (co.waitK 8) (j : Int) = max 0 (min co.s.budget (co.wait j)) := by
            unfold serve
            rw [Int.toNat_natCast, waitK_len, if_pos hj8, waitK_at co j hj8]
            rfl
          rw [hsv] at g1
          have cj := hqc.2.2.2.2.1 j hj8
          obtain ⟨hsb, _, hst4, hsc, _⟩ := serve_s co k
          have hql : ((co.serveK k).cells).length = 8 := hsc.trans h8
          obtain ⟨hst5, hi5⟩ := hstq.cellIn 3 rfl hq8 hql j hj8
          rw [x_get hql j hj8] at hi5
          cases hx : (co.serveK k).x j with
          | none =>
            rw [hx] at hi5 hsx
            have hpn := optP_none hst5 _ hi5
            rw [hpn] at cj
            have HAT := Lib.hid (fun w' => coreAt_in cb j (.pointer none) w' hj8)
            rw [turn_none hx] at hsn
            have HSN := Lib.hid hsn
            have HST := Lib.hid hst
            have cj : ∀ o, (wr.alloc o).cell? ⟨cb, 4 + j, none⟩ = some (.pointer none) := fun o => by
              rw [World.cell?_alloc_lt _ _ _ (lt_of_cell cj)]; exact cj
            have HCJ := Lib.hid cj
            clear hst hstq hst5 hi5 hqc hx hsn hsx cj
            go_wp2_with (go_at_call 58; (with_reducible refine (HAT.out _ (HCJ.out _)).mono ?_); rintro e wz ⟨rfl, hwz⟩; have hwz := hwz.symm; subst hwz)
            go_roundw
            case rel => exact ⟨k + 1, by omega, by go_num, by rw [HSN.out]; exact (HST.out.alloc _).cut (K := [_])⟩
            case measure => simp [intOf]; omega
          | some c =>
            rw [hx] at hi5 hsx
            obtain ⟨b, hpb⟩ := optP_some hst5 _ hi5
            rw [hpb] at cj hi5
            have HAT := Lib.hid (fun w' => coreAt_in cb j (.pointer (some ⟨b, 0, none⟩)) w' hj8)
            have hwk : co.wait j = (c.q.length : Int) := by rw [wait_x, ← hsx]
            rw [hwk] at g1
            rw [turn_some hx] at hsn
            have hqs : qs.set j (some b) = qs := by rw [← hpb]; exact List.set_getElem_self _
            have hvn : (co.serveK k).servN c = co.servN c := by unfold Co.servN; rw [hsb]
            rw [hvn] at hsn
            obtain ⟨n, hn⟩ : ∃ n, co.servN c = n := ⟨_, rfl⟩
            rw [hn] at hsn
            have hjn : max 0 (min (max 0 (min co.s.budget (c.q.length : Int))) (c.q.length : Int)) = (n : Int) := by rw [← hn]; unfold Co.servN; omega
            have hmay := (hqok.good.who j c hx).2
            obtain ⟨_, hcok, _⟩ := cl_runner hst5 _ hi5
            have hrw := cl_rows_wf hcok hN n
            have hsta := hstq.alloc (.cells #[.int .i64 j, .int .i64 (max 0 (min co.s.budget c.q.length))] 205)
            have hsta : St w0 _ [pt cb (.cells (coCells (co.serveK k) sa sc qv qb qs).toArray 119 (0, 0)), ownP 125 4 Pot.cells qv (co.serveK k).pots, boardP qb (co.serveK k).told N, sepL (clsL qs (co.serveK k).cells N), R, pt gp (.cells (planCells co.s.budget co.ticks (co.waitK 8) 8) 205 (0, 0)), pt wr.heap.size (.cells #[.int .i64 j, .int .i64 (max 0 (min co.s.budget c.q.length))] 205 (0, 0))] := hsta
            obtain ⟨hsta5, hai5⟩ := hsta.cellIn 3 rfl hq8 hql j hj8
            rw [x_get hql j hj8, hx, hpb] at hai5
            have HSV := Lib.hid (serve_st hsta5 _ hai5 _ n hjn hN)
            have hout : ∀ w' v, St w0 w' (([pt cb (.cells (coCells (co.serveK k) sa sc qv qb qs).toArray 119 (0, 0)), ownP 125 4 Pot.cells qv (co.serveK k).pots, boardP qb (co.serveK k).told N, sepL (clsL qs (co.serveK k).cells N), R, pt gp (.cells (planCells co.s.budget co.ticks (co.waitK 8) 8) 205 (0, 0)), pt wr.heap.size (.cells #[.int .i64 j, .int .i64 (max 0 (min co.s.budget c.q.length))] 205 (0, 0))].set 3 emp ++ clsL qs (co.serveK k).cells N).set ([pt cb (.cells (coCells (co.serveK k) sa sc qv qb qs).toArray 119 (0, 0)), ownP 125 4 Pot.cells qv (co.serveK k).pots, boardP qb (co.serveK k).told N, sepL (clsL qs (co.serveK k).cells N), R, pt gp (.cells (planCells co.s.budget co.ticks (co.waitK 8) 8) 205 (0, 0)), pt wr.heap.size (.cells #[.int .i64 j, .int .i64 (max 0 (min co.s.budget c.q.length))] 205 (0, 0))].length + j) (clP b (c.serve n) N) ++ [ownP 55 5 Rw.cells v (rowsR c.rn (c.q.take n))]) → St w0 w' [pt cb (.cells (coCells (co.serveK k) sa sc qv qb qs).toArray 119 (0, 0)), ownP 125 4 Pot.cells qv (co.serveK k).pots, boardP qb (co.serveK k).told N, sepL (clsL qs ((co.serveK k).cells.set j (some (c.serve n))) N), R, pt gp (.cells (planCells co.s.budget co.ticks (co.waitK 8) 8) 205 (0, 0)), pt wr.heap.size (.cells #[.int .i64 j, .int .i64 (max 0 (min co.s.budget c.q.length))] 205 (0, 0)), ownP 55 5 Rw.cells v (rowsR c.rn (c.q.take n))] := fun w' v h' => by
              have := St.cellOut 3 (by simp) hq8 hql j hj8 (some b) (some (c.serve n)) (Nat.le_refl N) h'
              rw [hqs] at this
              exact this
            have HOUT := Lib.hid hout
            have hokn : ∀ pots, (∀ p ∈ pots, (Lit.int .i64 p.value).wf = true) → co.serveK (k + 1) = { co.serveK k with cells := (co.serveK k).cells.set j (some (c.serve n)), pots := pots } → Co.ok (co.serveK (k + 1)) N := fun pots hp he => ⟨good_serveK co HOK.out.good (k + 1) (by omega), by rw [(serve_s co (k + 1)).2.2.1]; exact HOK.out.ticks, by rw [he]; exact hp, by rw [(serve_s co (k + 1)).1]; exact HOK.out.sinks⟩
            have HOKN := Lib.hid hokn
            have cj : ∀ o, (wr.alloc o).cell? ⟨cb, 4 + j, none⟩ = some (.pointer (some ⟨b, 0, none⟩)) := fun o => by
              rw [World.cell?_alloc_lt _ _ _ (lt_of_cell cj)]; exact cj
            have HCJ := Lib.hid cj
            have hql2 : ((co.serveK k).cells.set j (some (c.serve n))).length = 8 := by simpa using hql
            have hgx : ((co.serveK k).cells.set j (some (c.serve n)))[j]'(by omega) = some (c.serve n) := by simp
            have HGX := Lib.hid hgx
            have HRW := Lib.hid hrw
            have HPB := Lib.hid hpb
            have HQOK := Lib.hid hqok
            have hrl0 : (rowsR c.rn (c.q.take n)).length ≤ 8 * (2 * N) := by
              have e1 := rowsR_len c.rn (c.q.take n)
              have e2 : (c.q.take n).length ≤ c.q.length := by rw [List.length_take]; omega
              have e3 := clRows_len hcok
              have e4 := hcok.len
              omega
            have HRL := Lib.hid hrl0
            clear hrl0
            have HMAY := Lib.hid hmay
            clear hst hstq hst5 hi5 hqc hx hsx cj hsta hsta5 hai5 hout hokn hgx hqs hvn hn hjn hmay hrw hwk hpb hqok hcok
            by_cases hs1 : c.p.sink = -1
            · rw [if_pos hs1] at hsn
              have HSN := Lib.hid hsn
              clear hsn
              go_wp2_with (first
                | (go_at_call 58; (with_reducible refine (HAT.out _ (HCJ.out _)).mono ?_); rintro e wz ⟨rfl, hwz⟩; have hwz := hwz.symm; subst hwz)
                | (go_at_call 121; (with_reducible refine HSV.out.mono ?_); rintro e w9 ⟨v9, rfl, h9⟩; have h10 := HOUT.out _ _ h9; obtain ⟨h11, i11⟩ := h10.cellIn 3 rfl hq8 hql2 j hj8; rw [HGX.out, HPB.out] at i11; obtain ⟨rb, _, hbl, hrbl, x4, _, _, _, x8, _, _⟩ := cl_runner h11 _ i11; rw [rn_p, show (c.serve n).p.sink = c.p.sink from rfl, hs1] at x8; have HS10 := Lib.hid h10; clear h9 h10 h11 i11 HSV))
              go_roundw
              case rel =>
                refine ⟨k + 1, by omega, by go_num, ?_⟩
                have hok2 := HOKN.out _ HQOK.out.pots HSN.out
                have h12 := HS10.out.pick [0, 1, 2, 3, 4, 5] (by decide)
                rw [HSN.out] at hok2 ⊢
                exact co_shut hq8 hok2 h12
              case measure => simp [intOf]; omega
            · rw [if_neg hs1] at hsn
              obtain ⟨u, hu, hul⟩ := may_sink HMAY.out hs1
              rw [hsb] at hul
              have hpl : (co.serveK k).pots.length = co.s.sinks.length := by rw [HQOK.out.good.pots, hsb]
              have hup : u < (co.serveK k).pots.length := by omega
              rw [hu, Int.toNat_natCast, show (co.serveK k).s.sinks = co.s.sinks by rw [hsb]] at hsn
              have hpd : (co.serveK k).pots.getD u Pot.zero = (co.serveK k).pots[u] := by rw [List.getD_eq_getElem?_getD, List.getElem?_eq_getElem hup]; rfl
              rw [hpd] at hsn
              have HSN := Lib.hid hsn
              have hu1 : ¬ ((u : Int) = -1) := by omega
              have hu2 : ((u : Int) != -1) = true := by simp
              have hrl : (rowsR c.rn (c.q.take n)).length ≤ 1099511627776 := by have := HRL.out; omega
              have HRL2 := Lib.hid hrl
              clear hsn hpd hrl
              go_wp2_with (first
                | (go_at_call 58; (with_reducible refine (HAT.out _ (HCJ.out _)).mono ?_); rintro e wz ⟨rfl, hwz⟩; have hwz := hwz.symm; subst hwz)
                | (go_at_call 121; (with_reducible refine HSV.out.mono ?_); rintro e w9 ⟨v9, rfl, h9⟩; have h10 := HOUT.out _ _ h9; obtain ⟨h11, i11⟩ := h10.cellIn 3 rfl hq8 hql2 j hj8; rw [HGX.out, HPB.out] at i11; obtain ⟨rb, _, hbl, hrbl, x4, _, _, _, x8, _, _⟩ := cl_runner h11 _ i11; rw [rn_p, show (c.serve n).p.sink = c.p.sink from rfl, hu] at x8; have HS10 := Lib.hid h10; clear h9 h10 h11 i11 HSV))
              have h10 := HS10.out
              obtain ⟨ra, rc, hv9, _⟩ := h10.sl Rw.len 7 rfl
              subst hv9
              rcases ownP_addr h10 1 rfl with ⟨_, hz⟩ | ⟨pb, pc, hqv, hpc, hpm⟩
              · exfalso
                rw [hz] at hup
                exact absurd hup (by simp)
              subst hqv
              obtain ⟨sb, so, hsa, hsbl, y0, y1, y2, y3, y4⟩ := (HSK.out.now h10 4 rfl).skAt u hul
              subst hsa
              obtain ⟨_, _, _, z3, _, z12, _⟩ := co_cells (h10.blk 0 rfl).1 hq8
              rw [hsb] at z3
              obtain ⟨t0, _⟩ := cells2 (h10.blk 6 rfl).1 (Below.refl _ _)
              have ul1 : (u : Int) < co.s.sinks.length := by omega
              have ul2 : (u : Int) < ((co.serveK k).pots.length : Int) := by omega
              have ul0 : (0 : Int) ≤ u := by omega
              obtain ⟨s, hs⟩ : ∃ s, co.s.sinks.getD u Sk.zero = s := ⟨_, rfl⟩
              rw [hs] at y0 y1 y2 y3 y4
              have HG := Lib.hid (give_st h10.drew 1 rfl u hup s (j : Int) ra rc (rowsR c.rn (c.q.take n)) (Kept.own Rw.len 7 rfl (by decide)) HRL2.out)
              have HSS := Lib.hid hs
              obtain ⟨M, hM⟩ : ∃ M, (co.serveK k).pots.length = M := ⟨_, rfl⟩
              obtain ⟨M2, hM2⟩ : ∃ M, co.s.sinks.length = M := ⟨_, rfl⟩
              rw [hM] at HG z12 ul2
              rw [hM2] at z3 ul1
              have HM := Lib.hid hM
              have HM2 := Lib.hid hM2
              have z12 : w9.drew.cell? ⟨cb, 12, none⟩ = some (.slice (some ⟨pb, 0, none⟩) M pc) := z12
              have z3 : w9.drew.cell? ⟨cb, 3, none⟩ = some (.slice (some ⟨sb, so, none⟩) M2 sc) := z3
              have y0 : w9.drew.cell? ⟨sb, so + u * 5, none⟩ = some (.int .u64 s.fr) := y0
              have y1 : w9.drew.cell? ⟨sb, so + u * 5 + 1, none⟩ = some (.int .u64 s.dst) := y1
              have y2 : w9.drew.cell? ⟨sb, so + u * 5 + 2, none⟩ = some (.int .i64 s.least) := y2
              have y3 : w9.drew.cell? ⟨sb, so + u * 5 + 3, none⟩ = some (.int .i64 s.agg) := y3
              have y4 : w9.drew.cell? ⟨sb, so + u * 5 + 4, none⟩ = some (.int .i64 s.ticks) := y4
              have t0 : w9.drew.cell? ⟨wr.heap.size, 0, none⟩ = some (.int .i64 j) := t0
              clear h10 hs x4 x8 hpl hM hM2
              go_region_held3 (fun w' => w'.cell? ⟨cb, 12, none⟩ = some (.slice (some ⟨pb, 0, none⟩) M pc) ∧ w'.cell? ⟨cb, 3, none⟩ = some (.slice (some ⟨sb, so, none⟩) M2 sc) ∧ w'.cell? ⟨sb, so + u * 5, none⟩ = some (.int .u64 s.fr) ∧ w'.cell? ⟨sb, so + u * 5 + 1, none⟩ = some (.int .u64 s.dst) ∧ w'.cell? ⟨sb, so + u * 5 + 2, none⟩ = some (.int .i64 s.least) ∧ w'.cell? ⟨sb, so + u * 5 + 3, none⟩ = some (.int .i64 s.agg) ∧ w'.cell? ⟨sb, so + u * 5 + 4, none⟩ = some (.int .i64 s.ticks) ∧ w'.cell? ⟨wr.heap.size, 0, none⟩ = some (.int .i64 j)) (first | (with_reducible exact ⟨z12, z3, y0, y1, y2, y3, y4, t0⟩) | (with_reducible exact ⟨a12, a3, b0, b1, b2, b3, b4, d0⟩))
                (first
                  | (go_at_call 122; (with_reducible refine HG.out.mono ?_); rintro e w10 ⟨⟨mm, rfl⟩, h12⟩; obtain ⟨sb2, so2, hsa2, _, b0, b1, b2, b3, b4⟩ := (HSK.out.now h12 4 rfl).skAt u hul; cases hsa2; obtain ⟨_, _, _, a3, _, a12, _⟩ := co_cells (h12.blk 0 rfl).1 hq8; rw [hsb, HM2.out] at a3; rw [HSS.out] at b0 b1 b2 b3 b4; obtain ⟨d0, _⟩ := cells2 (h12.blk 6 rfl).1 (Below.refl _ _); have HS12 := Lib.hid h12; clear h12 HG))
              go_wp2
              go_roundw
              case rel =>
                refine ⟨k + 1, by omega, by go_num, ?_⟩
                have hok2 := HOKN.out _ (fun p hp => by
                  rcases List.mem_or_eq_of_mem_set hp with hp | rfl
                  · exact HQOK.out.pots p hp
                  · exact giveP_wf _ _ _ _ (HQOK.out.pots _ (List.getElem_mem hup)) HRW.out) HSN.out
                have h12 := HS12.out.pick [0, 1, 2, 3, 4, 5] (by decide)
                rw [HSN.out] at hok2 ⊢
                rw [HSS.out] at hok2 ⊢
                rw [← HM.out] at h12
                exact co_shut hq8 hok2 h12
              case measure => simp [intOf]; omega
        · obtain rfl : k = 8 := by omega
          have HST := Lib.hid hst
          clear hst
          go_wp2
          go_end0
          exact ⟨rfl, HST.out.pick [0, 1] (by decide)⟩
end Go.Proofs.YtdncpihaeobaeaaGreat
