/- Walk of core.feed. -/
import Derived.Test.YtdncpihaeobaeaaGreatFeedX
import Derived.Test.YtdncpihaeobaeaaGreatServeW
set_option linter.unusedVariables false
set_option linter.unusedSimpArgs false
namespace Go.Proofs.YtdncpihaeobaeaaGreat
open Go.RowKit
theorem St.drewN {w0 w : World} {L : List HP} (h : St w0 w L) (n : Nat) : St w0 (w.drewN n) L := h.kept (below_dr (Below.refl _ _) n)
theorem split_get {L K : List HP} {m k j : Nat} {X Y : HP} (hj : L[j]? = some Y) (hm : m ≠ j) : ((L.set m emp ++ K).set (L.length + k) X)[j]? = some Y := by
  have hl := (List.getElem?_eq_some_iff.1 hj).1
  rw [List.getElem?_set, if_neg (by omega), List.getElem?_append_left (by simpa using hl), List.getElem?_set, if_neg hm]
  exact hj
theorem split_get2 {L K M : List HP} {m k j : Nat} {X Y Z : HP} (hj : L[j]? = some Y) (hm : m ≠ j) : (((L.set m emp ++ K).set (L.length + k) X ++ M).set (L.length + k) Z)[j]? = some Y := by
  have hl := (List.getElem?_eq_some_iff.1 hj).1
  rw [List.getElem?_set, if_neg (by omega), List.getElem?_append_left (by simp; omega)]
  exact split_get hj hm
theorem set_twice {A B : List HP} {i : Nat} {X Y Z : HP} (h : i < A.length) : ((A.set i X ++ B).set i Y).set i Z = A.set i Z ++ B := by
  rw [List.set_set, List.set_append_left _ _ (by simpa using h), List.set_set]
theorem clX_lower {cb rb N M : Nat} {c : Cl} (hc : c.ok N) {h : Nat → Option Obj} (hh : clX cb rb c M h) : clX cb rb c N h := by
  obtain ⟨x, _, hs⟩ := hh
  exact ⟨x, hc, hs⟩
theorem feed_rn (c : Cl) (e : Ev) : (c.feed e).rn = c.rn := by
  unfold Cl.feed
  split <;> rfl
def feedK (co : Co) (r : Rel) (k : Nat) : List (Option Cl) := co.cells.mapIdx fun t x => if t < k then x.map (feedCl (co.s.sinks.getD r.sink.toNat Sk.zero) r t) else x
theorem feedK_len (co : Co) (r : Rel) (k : Nat) : (feedK co r k).length = co.cells.length := by simp [feedK]
theorem feedK_zero (co : Co) (r : Rel) : feedK co r 0 = co.cells := by
  apply List.ext_getElem (feedK_len ..)
  intro i h1 h2
  simp [feedK]
theorem feedK_all (co : Co) (r : Rel) (h8 : co.cells.length = 8) : feedK co r 8 = (co.feed r).cells := by
  apply List.ext_getElem (by simp [feedK, Co.feed])
  intro i h1 h2
  have : i < 8 := by rw [feedK_len, h8] at h1; exact h1
  simp [feedK, Co.feed, this]
theorem feedK_get (co : Co) (r : Rel) (h8 : co.cells.length = 8) (k : Nat) (hk : k < 8) : (feedK co r k)[k]'(by rw [feedK_len]; omega) = co.x k := by
  rw [← x_get h8 k hk]
  simp [feedK]
theorem feedK_step (co : Co) (r : Rel) (h8 : co.cells.length = 8) (k : Nat) (hk : k < 8) (x : Option Cl) (hx : (co.x k).map (feedCl (co.s.sinks.getD r.sink.toNat Sk.zero) r k) = x) : (feedK co r k).set k x = feedK co r (k + 1) := by
  apply List.ext_getElem (by simp [feedK])
  intro i h1 h2
  rw [List.getElem_set]
  split
  · rename_i e; subst e
    rw [← hx, ← x_get h8 k hk]
    simp [feedK]
  · simp only [feedK, List.getElem_mapIdx, show i < k + 1 ↔ i < k by omega]
theorem feedK_same (co : Co) (r : Rel) (h8 : co.cells.length = 8) (k : Nat) (hk : k < 8) (hx : (co.x k).map (feedCl (co.s.sinks.getD r.sink.toNat Sk.zero) r k) = co.x k) : feedK co r k = feedK co r (k + 1) := by
  rw [← feedK_step co r h8 k hk _ hx, ← feedK_get co r h8 k hk]
  simp
set_option maxHeartbeats 8000000 in
set_option maxRecDepth 20000 in
theorem feed_in {w0 w : World} {R : HP} {cb sc N : Nat} {sa : Option Addr} {co : Co} (h : St w0 w [coP cb sa sc co N, R]) (hS : Seen w0 R 5 Sk.cells sa co.s.sinks) (hN : N < 2 ^ 27) (u : Nat) (re rv : Int) (rh : Bool) (hul : u < co.s.sinks.length) (hrv : (Lit.int .i64 rv).wf = true) :
    Calls Tryz.prog 100 #[.pointer (some ⟨cb, 0, none⟩), .agg #[.int .i64 u, .int .i64 re, .int .i64 rv, .bool rh]] w fun e w' => e = .returned (.tuple #[]) ∧ St w0 w' [coP cb sa sc (co.feed (⟨(u : Int), re, rv, rh⟩ : Rel)) (N + 1), R] := by
  obtain ⟨ps, pv, bb, hp8, hok, hst⟩ := co_open h
  obtain ⟨p0, p1, p2, p3, p4, p5, p6, p7, rfl⟩ := pts8 hp8
  have h8 := hok.good.cells
  have hsm : ∀ i, i < co.s.sinks.length → (Lit.int .u64 (co.s.sinks.getD i Sk.zero).fr).wf = true := fun i hi => by
    rw [List.getD_eq_getElem?_getD, List.getElem?_eq_getElem hi]
    exact hok.sinks _ (List.getElem_mem hi)
  have hsf := hsm u hul
  have hall : ∀ k, k < 8 → ∀ c, co.x k = some c → c.ok N := fun k hk c hx => by
    obtain ⟨g1, g2⟩ := hst.cellIn 3 rfl hp8 h8 k hk
    rw [x_get h8 k hk, hx] at g2
    obtain ⟨b, hb⟩ := optP_some g1 _ g2
    rw [hb] at g2
    obtain ⟨_, h', _⟩ := cl_runner g1 _ g2
    exact h'
  have HALL := Lib.hid hall
  clear hall
  have hfa := feedK_all co (⟨(u : Int), re, rv, rh⟩ : Rel) h8
  have hfg := feedK_get co (⟨(u : Int), re, rv, rh⟩ : Rel) h8
  have hfs := feedK_step co (⟨(u : Int), re, rv, rh⟩ : Rel) h8
  have hfe := feedK_same co (⟨(u : Int), re, rv, rh⟩ : Rel) h8
  have hst0 := hst.imp 3 rfl (X' := sepL (clsL [p0, p1, p2, p3, p4, p5, p6, p7] (feedK co (⟨(u : Int), re, rv, rh⟩ : Rel) 0) (N + 1))) (fun f hf => by rw [feedK_zero]; exact cls_mono (Nat.le_succ N) _ _ hf)
  have hst1 : St w0 _ [pt cb (.cells (coCells co sa sc pv bb [p0, p1, p2, p3, p4, p5, p6, p7]).toArray 119 (0, 0)), ownP 125 4 Pot.cells pv co.pots, boardP bb co.told N, sepL (clsL [p0, p1, p2, p3, p4, p5, p6, p7] (feedK co (⟨(u : Int), re, rv, rh⟩ : Rel) 0) (N + 1)), R, pt w.heap.size (.cells #[.int .i64 u, .int .i64 re, .int .i64 rv, .bool rh] 42 (0, 0))] := hst0.alloc (.cells #[.int .i64 u, .int .i64 re, .int .i64 rv, .bool rh] 42)
  obtain ⟨sb, so, hsa, hsbl, y0, y1, y2, y3, y4⟩ := (hS.now hst1 4 rfl).skAt u hul
  obtain ⟨s, hs⟩ : ∃ s, co.s.sinks.getD u Sk.zero = s := ⟨_, rfl⟩
  rw [hs] at y0 y1 y2 y3 y4 hsf
  have hs2 : co.s.sinks.getD (u : Int).toNat Sk.zero = s := by rw [Int.toNat_natCast]; exact hs
  dsimp only at hfs hfe
  rw [hs2] at hfs hfe
  have hsw : St w0 ((w.alloc (.cells #[.int .i64 u, .int .i64 re, .int .i64 rv, .bool rh] 42)).alloc (.cells #[.int .u64 s.fr, .int .u64 s.dst, .int .i64 s.least, .int .i64 s.agg, .int .i64 s.ticks] 113)).drew [pt cb (.cells (coCells co sa sc pv bb [p0, p1, p2, p3, p4, p5, p6, p7]).toArray 119 (0, 0)), ownP 125 4 Pot.cells pv co.pots, boardP bb co.told N, sepL (clsL [p0, p1, p2, p3, p4, p5, p6, p7] (feedK co (⟨(u : Int), re, rv, rh⟩ : Rel) 0) (N + 1)), R, pt w.heap.size (.cells #[.int .i64 u, .int .i64 re, .int .i64 rv, .bool rh] 42 (0, 0)), pt (w.heap.size + 1) (.cells #[.int .u64 s.fr, .int .u64 s.dst, .int .i64 s.least, .int .i64 s.agg, .int .i64 s.ticks] 113 (0, 0))] := by
    have := (hst1.alloc (.cells #[.int .u64 s.fr, .int .u64 s.dst, .int .i64 s.least, .int .i64 s.agg, .int .i64 s.ticks] 113)).drew
    rw [World.size_alloc] at this
    exact this
  obtain ⟨_, _, _, z3, _, _, _, _, hcl⟩ := co_cells (hst1.blk 0 rfl).1 hp8
  have hcc := co_cells (hsw.blk 0 rfl).1 hp8
  have c4 := hcc.2.2.2.2.1 0 (by decide)
  have c5 := hcc.2.2.2.2.1 1 (by decide)
  have c6 := hcc.2.2.2.2.1 2 (by decide)
  have c7 := hcc.2.2.2.2.1 3 (by decide)
  have c8 := hcc.2.2.2.2.1 4 (by decide)
  have c9 := hcc.2.2.2.2.1 5 (by decide)
  have c10 := hcc.2.2.2.2.1 6 (by decide)
  have c11 := hcc.2.2.2.2.1 7 (by decide)
  simp only [List.getElem_cons_zero, List.getElem_cons_succ, Nat.reduceAdd] at c4 c5 c6 c7 c8 c9 c10 c11
  obtain ⟨r0, _, _, _⟩ := cells4 (hst1.blk 5 rfl).1 (Below.refl _ _)
  have hrl := (hst1.blk 5 rfl).2.2
  obtain ⟨M2, hM2⟩ : ∃ M, co.s.sinks.length = M := ⟨_, rfl⟩
  rw [hM2, hsa] at z3
  have ul1 : (u : Int) < M2 := by omega
  have ul0 : (0 : Int) ≤ u := by omega
  have hok2 : (co.feed (⟨(u : Int), re, rv, rh⟩ : Rel)).ok (N + 1) := ⟨good_feed co hok.good _, Nat.le_succ_of_le hok.ticks, hok.pots, hok.sinks⟩
  have HFIN := Lib.hid (fun (w' : World) (hs : St w0 w' [pt cb (.cells (coCells co sa sc pv bb [p0, p1, p2, p3, p4, p5, p6, p7]).toArray 119 (0, 0)), ownP 125 4 Pot.cells pv co.pots, boardP bb co.told N, sepL (clsL [p0, p1, p2, p3, p4, p5, p6, p7] (feedK co (⟨(u : Int), re, rv, rh⟩ : Rel) 8) (N + 1)), R]) => (co_shut (co := co.feed (⟨(u : Int), re, rv, rh⟩ : Rel)) (N := N + 1) hp8 hok2 (by rw [hfa] at hs; exact hs.imp 2 rfl (fun f hf => boardP_mono (Nat.le_succ N) hf)) : St w0 w' [coP cb sa sc (co.feed (⟨(u : Int), re, rv, rh⟩ : Rel)) (N + 1), R]))
  have HSL := Lib.hid (show co.s.sinks.length ≤ 4 by
    have := hok.good.su
    unfold rightSu rightSks at this
    simp only [Bool.and_eq_true, decide_eq_true_eq] at this
    exact this.2.2)
  have HSA := Lib.hid hsa
  have HSW := Lib.hid hsw
  have HOK := Lib.hid hok
  have HFG := Lib.hid hfg
  have HFS := Lib.hid hfs
  have HFE := Lib.hid hfe
  have HSF := Lib.hid hsf
  have HRV := Lib.hid hrv
  clear hsa hst hst0 hcc h hS hfa hfg hfs hfe hok2 hs hs2 hM2 hsm hsf hrv hsw hok
  go_enter Tryz.func100, Tryz.ntmps100
  go_wp2_with fail
  go_region_held3 (fun w' => w'.cell? ⟨cb, 3, none⟩ = some (.slice (some ⟨sb, so, none⟩) M2 sc) ∧ w'.cell? ⟨w.heap.size, 0, none⟩ = some (.int .i64 u) ∧ w'.cell? ⟨sb, so + u * 5, none⟩ = some (.int .u64 s.fr) ∧ w'.cell? ⟨sb, so + u * 5 + 1, none⟩ = some (.int .u64 s.dst) ∧ w'.cell? ⟨sb, so + u * 5 + 2, none⟩ = some (.int .i64 s.least) ∧ w'.cell? ⟨sb, so + u * 5 + 3, none⟩ = some (.int .i64 s.agg) ∧ w'.cell? ⟨sb, so + u * 5 + 4, none⟩ = some (.int .i64 s.ticks)) (exact ⟨(Below.cell (B := (w.alloc (.cells #[.int .i64 u, .int .i64 re, .int .i64 rv, .bool rh] 42)).heap.size) (w := w.alloc (.cells #[.int .i64 u, .int .i64 re, .int .i64 rv, .bool rh] 42)) (by go_grown) hcl).trans z3, (Below.cell (B := (w.alloc (.cells #[.int .i64 u, .int .i64 re, .int .i64 rv, .bool rh] 42)).heap.size) (w := w.alloc (.cells #[.int .i64 u, .int .i64 re, .int .i64 rv, .bool rh] 42)) (by go_grown) hrl).trans r0, (Below.cell (B := (w.alloc (.cells #[.int .i64 u, .int .i64 re, .int .i64 rv, .bool rh] 42)).heap.size) (w := w.alloc (.cells #[.int .i64 u, .int .i64 re, .int .i64 rv, .bool rh] 42)) (by go_grown) hsbl).trans y0, (Below.cell (B := (w.alloc (.cells #[.int .i64 u, .int .i64 re, .int .i64 rv, .bool rh] 42)).heap.size) (w := w.alloc (.cells #[.int .i64 u, .int .i64 re, .int .i64 rv, .bool rh] 42)) (by go_grown) hsbl).trans y1, (Below.cell (B := (w.alloc (.cells #[.int .i64 u, .int .i64 re, .int .i64 rv, .bool rh] 42)).heap.size) (w := w.alloc (.cells #[.int .i64 u, .int .i64 re, .int .i64 rv, .bool rh] 42)) (by go_grown) hsbl).trans y2, (Below.cell (B := (w.alloc (.cells #[.int .i64 u, .int .i64 re, .int .i64 rv, .bool rh] 42)).heap.size) (w := w.alloc (.cells #[.int .i64 u, .int .i64 re, .int .i64 rv, .bool rh] 42)) (by go_grown) hsbl).trans y3, (Below.cell (B := (w.alloc (.cells #[.int .i64 u, .int .i64 re, .int .i64 rv, .bool rh] 42)).heap.size) (w := w.alloc (.cells #[.int .i64 u, .int .i64 re, .int .i64 rv, .bool rh] 42)) (by go_grown) hsbl).trans y4⟩) (fail)
  go_wp2_with fail
  generalize w.heap.size = g at *
  clear z3 r0 y0 y1 y2 y3 y4
  go_loopw [20] (fun iv wr => ∃ k : Nat, k ≤ 8 ∧ iv = .int .i64 k ∧ St w0 wr [pt cb (.cells (coCells co sa sc pv bb [p0, p1, p2, p3, p4, p5, p6, p7]).toArray 119 (0, 0)), ownP 125 4 Pot.cells pv co.pots, boardP bb co.told N, sepL (clsL [p0, p1, p2, p3, p4, p5, p6, p7] (feedK co (⟨(u : Int), re, rv, rh⟩ : Rel) k) (N + 1)), R, pt g (.cells #[.int .i64 u, .int .i64 re, .int .i64 rv, .bool rh] 42 (0, 0)), pt (g + 1) (.cells #[.int .u64 s.fr, .int .u64 s.dst, .int .i64 s.least, .int .i64 s.agg, .int .i64 s.ticks] 113 (0, 0))]) (fun iv _ => 8 - (intOf iv).toNat)
  case atStart => exact ⟨0, by omega, rfl, HSW.out⟩
  case round =>
    clear c4 c5 c6 c7 c8 c9 c10 c11
    obtain ⟨k, hk, rfl, hst⟩ := hrel
    by_cases hlt : (k : Int) < 8
    · have hk8 : k < 8 := by omega
      have hix := idxPtr (ptrV p0) (ptrV p1) (ptrV p2) (ptrV p3) (ptrV p4) (ptrV p5) (ptrV p6) (ptrV p7) k hk8
      rw [show ([ptrV p0, ptrV p1, ptrV p2, ptrV p3, ptrV p4, ptrV p5, ptrV p6, ptrV p7][k]'(by simpa using hk8)) = ptrV ([p0, p1, p2, p3, p4, p5, p6, p7][k]'(by simpa using hk8)) from by
        match k, hk8 with
        | 0, _ | 1, _ | 2, _ | 3, _ | 4, _ | 5, _ | 6, _ | 7, _ => rfl] at hix
      have hfl : (feedK co (⟨(u : Int), re, rv, rh⟩ : Rel) k).length = 8 := by rw [feedK_len]; exact h8
      obtain ⟨hst5, hi5⟩ := hst.cellIn 3 rfl hp8 hfl k hk8
      rw [HFG.out k hk8] at hi5
      cases hx : co.x k with
      | none =>
        rw [hx] at hi5
        have hpn := optP_none hst5 _ hi5
        rw [hpn] at hix
        have hixn : ∀ w', (Instr.index 116 (.agg #[ptrV p0, ptrV p1, ptrV p2, ptrV p3, ptrV p4, ptrV p5, ptrV p6, ptrV p7]) (.int .i64 k)).run Tryz.prog w' = .ok (.pointer none) w' := hix
        have hwn := HFE.out k hk8 (by rw [hx]; rfl)
        have HWN := Lib.hid hwn
        have HST := Lib.hid hst
        clear hst hst5 hi5 hx hwn hpn hix
        go_wp2_with fail
        go_quiet (fail)
        go_wp2
        go_roundw
        case rel => exact ⟨k + 1, by omega, by go_num, by rw [← HWN.out]; exact HST.out.drewN nq⟩
        case measure => simp [intOf]; omega
      | some c =>
        rw [hx] at hi5
        obtain ⟨b, hpb⟩ := optP_some hst5 _ hi5
        rw [hpb] at hix hi5
        have hixs : ∀ w', (Instr.index 116 (.agg #[ptrV p0, ptrV p1, ptrV p2, ptrV p3, ptrV p4, ptrV p5, ptrV p6, ptrV p7]) (.int .i64 k)).run Tryz.prog w' = .ok (.pointer (some ⟨b, 0, none⟩)) w' := hix
        obtain ⟨rb, hst6⟩ := clX_name hst5 _ hi5
        have i6 := set_get (List.getElem?_eq_some_iff.1 hi5).1 (clX b rb c (N + 1))
        have hst6 := hst6.imp' _ i6 (fun f hf => clX_lower (HALL.out k hk8 c hx) hf) (List.set_set ..)
        have i6 := set_get (List.getElem?_eq_some_iff.1 hi5).1 (clX b rb c N)
        obtain ⟨hcok, hbl, hrbl, x4, x0, x1, x2, _, x9, hck⟩ := clX_runner hst6 _ i6
        rw [rn_p] at x9
        obtain ⟨q0, _, q2, _⟩ := cells4 (hst.blk 5 rfl).1 (Below.refl _ _)
        obtain ⟨v0, v1, v2, v3, v4⟩ := cells5 (hst.blk 6 rfl).1 (Below.refl _ _)
        have hgl := (hst.blk 5 rfl).2.2
        have hgl2 := (hst.blk 6 rfl).2.2
        have hqs : [p0, p1, p2, p3, p4, p5, p6, p7].set k (some b) = [p0, p1, p2, p3, p4, p5, p6, p7] := by rw [← hpb]; exact List.set_getElem_self _
        have HQS := Lib.hid hqs
        have HFL := Lib.hid hfl
        clear hix hpb hqs
        cases hh : hasB s.dst k with
        | false =>
          have HH := Lib.hid hh
          clear hh
          have hwn := HFE.out k hk8 (by
            rw [hx]
            show some (feedCl s _ k c) = some c
            unfold feedCl
            rw [if_neg (by simp [HH.out])])
          have HWN := Lib.hid hwn
          have HST := Lib.hid hst
          clear hst hst5 hi5 hst6 i6 hx hwn hcok hck
          go_wp2_with fail
          go_quiet ((refine (has_any _ _ _).mono ?_; rintro e w1 ⟨rfl, rfl⟩; rw [HH.out]; exact ⟨rfl, _, rfl⟩))
          go_wp2
          go_roundw
          case rel => exact ⟨k + 1, by omega, by go_num, by rw [← HWN.out]; exact HST.out.drewN nq⟩
          case measure => simp [intOf]; omega
        | true =>
          have HH := Lib.hid hh
          clear hh
          by_cases hf : c.p.feed = (u : Int)
          · rw [hf] at x9
            have hfu : ((u : Int) != u) = false := by simp
            have hm0 := hck.1
            have hm1 := hck.2.1
            have hu4 := HSL.out
            have hwf : (⟨c.rn.c.mark, u, rv, s.fr⟩ : Ev).wf := by
              refine ⟨?_, ?_, HRV.out, HSF.out⟩
              · show (Lit.int .i64 c.rn.c.mark).wf = true
                exact WalkArith.wf_i64 (by omega)
              · show (Lit.int .i64 (u : Int)).wf = true
                exact WalkArith.wf_i64 (by omega)
            have hws := HFS.out k hk8 (some (c.feed ⟨c.rn.c.mark, u, rv, s.fr⟩)) (by
              rw [hx]
              show some (feedCl s _ k c) = _
              unfold feedCl
              rw [if_pos (by simp [HH.out, hf])])
            have HWS := Lib.hid hws
            have HWF := Lib.hid hwf
            have HS6 := Lib.hid hst6
            have HI5 := Lib.hid hi5
            clear hst hst5 hst6 hx hws hwf hcok hck
            go_wp2_with fail
            go_quiet ((refine (has_any _ _ _).mono ?_; rintro e w1 ⟨rfl, rfl⟩; rw [HH.out]; exact ⟨rfl, _, rfl⟩))
            go_wp2_with fail
            refine wp_at (HS6.out.drewN nq) ?_
            intro w5 h5
            have hmk : ∀ w', Calls Tryz.prog 92 #[.agg #[.int .i64 c.rn.c.mark, .int .i64 c.rn.c.late, .int .i64 c.rn.c.seen]] w' fun e w'' => e = .returned (.int .i64 c.rn.c.mark) ∧ w'' = w'.alloc (.cells #[.int .i64 c.rn.c.mark, .int .i64 c.rn.c.late, .int .i64 c.rn.c.seen] 87) := fun w' => mark_any c.rn.c w'
            have HMK := Lib.hid hmk
            have hil := (List.getElem?_eq_some_iff.1 HI5.out).1
            have hix5 : ([pt cb (.cells (coCells co sa sc pv bb [p0, p1, p2, p3, p4, p5, p6, p7]).toArray 119 (0, 0)), ownP 125 4 Pot.cells pv co.pots, boardP bb co.told N, sepL (clsL [p0, p1, p2, p3, p4, p5, p6, p7] (feedK co (⟨(u : Int), re, rv, rh⟩ : Rel) k) (N + 1)), R, pt g (.cells #[.int .i64 u, .int .i64 re, .int .i64 rv, .bool rh] 42 (0, 0)), pt (g + 1) (.cells #[.int .u64 s.fr, .int .u64 s.dst, .int .i64 s.least, .int .i64 s.agg, .int .i64 s.ticks] 113 (0, 0))].set 3 emp ++ clsL [p0, p1, p2, p3, p4, p5, p6, p7] (feedK co (⟨(u : Int), re, rv, rh⟩ : Rel) k) (N + 1))[7 + k]? = some (optP (N + 1) (some b) (some c)) := HI5.out
            obtain ⟨_, hbl5, hrbl5, a4, a0, a1, a2, _, _, _⟩ := clX_runner h5 (7 + k) (set_get hil _)
            obtain ⟨m0, _, m2, _⟩ := cells4 (h5.blk 5 (split_get (L := [pt cb (.cells (coCells co sa sc pv bb [p0, p1, p2, p3, p4, p5, p6, p7]).toArray 119 (0, 0)), ownP 125 4 Pot.cells pv co.pots, boardP bb co.told N, sepL (clsL [p0, p1, p2, p3, p4, p5, p6, p7] (feedK co (⟨(u : Int), re, rv, rh⟩ : Rel) k) (N + 1)), R, pt g (.cells #[.int .i64 u, .int .i64 re, .int .i64 rv, .bool rh] 42 (0, 0)), pt (g + 1) (.cells #[.int .u64 s.fr, .int .u64 s.dst, .int .i64 s.least, .int .i64 s.agg, .int .i64 s.ticks] 113 (0, 0))]) (m := 3) (k := k) rfl (by decide))).1 (Below.refl _ _)
            obtain ⟨n0, _, _, _, _⟩ := cells5 (h5.blk 6 (split_get (L := [pt cb (.cells (coCells co sa sc pv bb [p0, p1, p2, p3, p4, p5, p6, p7]).toArray 119 (0, 0)), ownP 125 4 Pot.cells pv co.pots, boardP bb co.told N, sepL (clsL [p0, p1, p2, p3, p4, p5, p6, p7] (feedK co (⟨(u : Int), re, rv, rh⟩ : Rel) k) (N + 1)), R, pt g (.cells #[.int .i64 u, .int .i64 re, .int .i64 rv, .bool rh] 42 (0, 0)), pt (g + 1) (.cells #[.int .u64 s.fr, .int .u64 s.dst, .int .i64 s.least, .int .i64 s.agg, .int .i64 s.ticks] 113 (0, 0))]) (m := 3) (k := k) rfl (by decide))).1 (Below.refl _ _)
            have hg5 := (h5.blk 5 (split_get (L := [pt cb (.cells (coCells co sa sc pv bb [p0, p1, p2, p3, p4, p5, p6, p7]).toArray 119 (0, 0)), ownP 125 4 Pot.cells pv co.pots, boardP bb co.told N, sepL (clsL [p0, p1, p2, p3, p4, p5, p6, p7] (feedK co (⟨(u : Int), re, rv, rh⟩ : Rel) k) (N + 1)), R, pt g (.cells #[.int .i64 u, .int .i64 re, .int .i64 rv, .bool rh] 42 (0, 0)), pt (g + 1) (.cells #[.int .u64 s.fr, .int .u64 s.dst, .int .i64 s.least, .int .i64 s.agg, .int .i64 s.ticks] 113 (0, 0))]) (m := 3) (k := k) rfl (by decide))).2.2
            have hg6 := (h5.blk 6 (split_get (L := [pt cb (.cells (coCells co sa sc pv bb [p0, p1, p2, p3, p4, p5, p6, p7]).toArray 119 (0, 0)), ownP 125 4 Pot.cells pv co.pots, boardP bb co.told N, sepL (clsL [p0, p1, p2, p3, p4, p5, p6, p7] (feedK co (⟨(u : Int), re, rv, rh⟩ : Rel) k) (N + 1)), R, pt g (.cells #[.int .i64 u, .int .i64 re, .int .i64 rv, .bool rh] 42 (0, 0)), pt (g + 1) (.cells #[.int .u64 s.fr, .int .u64 s.dst, .int .i64 s.least, .int .i64 s.agg, .int .i64 s.ticks] 113 (0, 0))]) (m := 3) (k := k) rfl (by decide))).2.2
            have h6 := (h5.alloc (.cells #[.int .i64 c.rn.c.mark, .int .i64 c.rn.c.late, .int .i64 c.rn.c.seen] 87)).drew
            have hi7 : (([pt cb (.cells (coCells co sa sc pv bb [p0, p1, p2, p3, p4, p5, p6, p7]).toArray 119 (0, 0)), ownP 125 4 Pot.cells pv co.pots, boardP bb co.told N, sepL (clsL [p0, p1, p2, p3, p4, p5, p6, p7] (feedK co (⟨(u : Int), re, rv, rh⟩ : Rel) k) (N + 1)), R, pt g (.cells #[.int .i64 u, .int .i64 re, .int .i64 rv, .bool rh] 42 (0, 0)), pt (g + 1) (.cells #[.int .u64 s.fr, .int .u64 s.dst, .int .i64 s.least, .int .i64 s.agg, .int .i64 s.ticks] 113 (0, 0))].set 3 emp ++ clsL [p0, p1, p2, p3, p4, p5, p6, p7] (feedK co (⟨(u : Int), re, rv, rh⟩ : Rel) k) (N + 1)).set (7 + k) (clX b rb c N) ++ [pt w5.heap.size (.cells #[.int .i64 c.rn.c.mark, .int .i64 c.rn.c.late, .int .i64 c.rn.c.seen] 87 (0, 0))])[7 + k]? = some (clX b rb c N) := by
              rw [List.getElem?_append_left (by rw [List.length_set]; exact hil)]
              exact set_get hil _
            have HFD := Lib.hid (feedX_st h6 (7 + k) hi7 ⟨c.rn.c.mark, u, rv, s.fr⟩ HWF.out (by omega))
            have H5 := Lib.hid h5
            have HI7 := Lib.hid hi7
            clear h5 h6 hmk hi7 hix5 hm0 hm1 hu4
            go_region_held3 (fun w' => w'.cell? ⟨b, 4, none⟩ = some (.pointer (some ⟨rb, 0, none⟩)) ∧ w'.cell? ⟨rb, 0, none⟩ = some (.int .i64 c.rn.c.mark) ∧ w'.cell? ⟨rb, 1, none⟩ = some (.int .i64 c.rn.c.late) ∧ w'.cell? ⟨rb, 2, none⟩ = some (.int .i64 c.rn.c.seen) ∧ w'.cell? ⟨g, 0, none⟩ = some (.int .i64 u) ∧ w'.cell? ⟨g, 2, none⟩ = some (.int .i64 rv) ∧ w'.cell? ⟨g + 1, 0, none⟩ = some (.int .u64 s.fr))
              (first | (with_reducible exact ⟨f4, f0, f1, f2, e0, e2, d0⟩) | exact ⟨(Below.cell (B := w5.heap.size) (w := w5) (by go_grown) hbl5).trans a4, (Below.cell (B := w5.heap.size) (w := w5) (by go_grown) hrbl5).trans a0, (Below.cell (B := w5.heap.size) (w := w5) (by go_grown) hrbl5).trans a1, (Below.cell (B := w5.heap.size) (w := w5) (by go_grown) hrbl5).trans a2, (Below.cell (B := w5.heap.size) (w := w5) (by go_grown) hg5).trans m0, (Below.cell (B := w5.heap.size) (w := w5) (by go_grown) hg5).trans m2, (Below.cell (B := w5.heap.size) (w := w5) (by go_grown) hg6).trans n0⟩)
              (first
                | (go_at_call 92; (with_reducible refine (HMK.out _).mono ?_); rintro e w6 ⟨rfl, rfl⟩)
                | (go_at_call 125; (with_reducible refine HFD.out.mono ?_); rintro e w7 ⟨rfl, h7⟩; obtain ⟨_, _, _, f4, f0, f1, f2, _, _, _⟩ := clX_runner h7 (7 + k) (set_get (List.getElem?_eq_some_iff.1 HI7.out).1 _); rw [feed_rn] at f0 f1 f2; obtain ⟨e0, _, e2, _⟩ := cells4 (h7.blk 5 (split_get2 (L := [pt cb (.cells (coCells co sa sc pv bb [p0, p1, p2, p3, p4, p5, p6, p7]).toArray 119 (0, 0)), ownP 125 4 Pot.cells pv co.pots, boardP bb co.told N, sepL (clsL [p0, p1, p2, p3, p4, p5, p6, p7] (feedK co (⟨(u : Int), re, rv, rh⟩ : Rel) k) (N + 1)), R, pt g (.cells #[.int .i64 u, .int .i64 re, .int .i64 rv, .bool rh] 42 (0, 0)), pt (g + 1) (.cells #[.int .u64 s.fr, .int .u64 s.dst, .int .i64 s.least, .int .i64 s.agg, .int .i64 s.ticks] 113 (0, 0))]) (m := 3) (k := k) rfl (by decide))).1 (Below.refl _ _); obtain ⟨d0, _, _, _, _⟩ := cells5 (h7.blk 6 (split_get2 (L := [pt cb (.cells (coCells co sa sc pv bb [p0, p1, p2, p3, p4, p5, p6, p7]).toArray 119 (0, 0)), ownP 125 4 Pot.cells pv co.pots, boardP bb co.told N, sepL (clsL [p0, p1, p2, p3, p4, p5, p6, p7] (feedK co (⟨(u : Int), re, rv, rh⟩ : Rel) k) (N + 1)), R, pt g (.cells #[.int .i64 u, .int .i64 re, .int .i64 rv, .bool rh] 42 (0, 0)), pt (g + 1) (.cells #[.int .u64 s.fr, .int .u64 s.dst, .int .i64 s.least, .int .i64 s.agg, .int .i64 s.ticks] 113 (0, 0))]) (m := 3) (k := k) rfl (by decide))).1 (Below.refl _ _); have HS7 := Lib.hid h7; clear h7 HFD))
            all_goals
              go_wp2
              go_roundw
              case rel =>
                refine ⟨k + 1, by omega, by go_num, ?_⟩
                have h9 : St w0 w7 (([pt cb (.cells (coCells co sa sc pv bb [p0, p1, p2, p3, p4, p5, p6, p7]).toArray 119 (0, 0)), ownP 125 4 Pot.cells pv co.pots, boardP bb co.told N, sepL (clsL [p0, p1, p2, p3, p4, p5, p6, p7] (feedK co (⟨(u : Int), re, rv, rh⟩ : Rel) k) (N + 1)), R, pt g (.cells #[.int .i64 u, .int .i64 re, .int .i64 rv, .bool rh] 42 (0, 0)), pt (g + 1) (.cells #[.int .u64 s.fr, .int .u64 s.dst, .int .i64 s.least, .int .i64 s.agg, .int .i64 s.ticks] 113 (0, 0))].set 3 emp ++ clsL [p0, p1, p2, p3, p4, p5, p6, p7] (feedK co (⟨(u : Int), re, rv, rh⟩ : Rel) k) (N + 1)).set (7 + k) (optP (N + 1) (some b) (some (c.feed ⟨c.rn.c.mark, u, rv, s.fr⟩))) ++ [pt w5.heap.size (.cells #[.int .i64 c.rn.c.mark, .int .i64 c.rn.c.late, .int .i64 c.rn.c.seen] 87 (0, 0))]) := by
                  have e := set_twice (X := clX b rb c N) (Y := clX b rb (c.feed ⟨c.rn.c.mark, u, rv, s.fr⟩) (N + 1)) (Z := optP (N + 1) (some b) (some (c.feed ⟨c.rn.c.mark, u, rv, s.fr⟩))) (A := ([pt cb (.cells (coCells co sa sc pv bb [p0, p1, p2, p3, p4, p5, p6, p7]).toArray 119 (0, 0)), ownP 125 4 Pot.cells pv co.pots, boardP bb co.told N, sepL (clsL [p0, p1, p2, p3, p4, p5, p6, p7] (feedK co (⟨(u : Int), re, rv, rh⟩ : Rel) k) (N + 1)), R, pt g (.cells #[.int .i64 u, .int .i64 re, .int .i64 rv, .bool rh] 42 (0, 0)), pt (g + 1) (.cells #[.int .u64 s.fr, .int .u64 s.dst, .int .i64 s.least, .int .i64 s.agg, .int .i64 s.ticks] 113 (0, 0))].set 3 emp ++ clsL [p0, p1, p2, p3, p4, p5, p6, p7] (feedK co (⟨(u : Int), re, rv, rh⟩ : Rel) k) (N + 1))) (B := [pt w5.heap.size (.cells #[.int .i64 c.rn.c.mark, .int .i64 c.rn.c.late, .int .i64 c.rn.c.seen] 87 (0, 0))]) (i := 7 + k) hil
                  rw [← e]
                  exact HS7.out.imp (7 + k) (set_get (List.getElem?_eq_some_iff.1 HI7.out).1 _) (X' := optP (N + 1) (some b) (some (c.feed ⟨c.rn.c.mark, u, rv, s.fr⟩))) (fun f hf => clX_P hf)
                have h10 := St.cellOut 3 (by simp) hp8 HFL.out k hk8 (some b) (some (c.feed ⟨c.rn.c.mark, u, rv, s.fr⟩)) (Nat.le_refl _) h9
                rw [HQS.out, HWS.out] at h10
                exact h10.cut
              case measure => simp [intOf]; omega
          · have hfn : (c.p.feed != (u : Int)) = true := by simp [hf]
            have HF := Lib.hid hf
            have hwn := HFE.out k hk8 (by
              rw [hx]
              show some (feedCl s _ k c) = some c
              unfold feedCl
              rw [if_neg (by simp [HF.out])])
            have HWN := Lib.hid hwn
            have HST := Lib.hid hst
            clear hst hst5 hi5 hst6 i6 hx hwn hcok hck
            go_wp2_with fail
            go_quiet ((refine (has_any _ _ _).mono ?_; rintro e w1 ⟨rfl, rfl⟩; rw [HH.out]; exact ⟨rfl, _, rfl⟩))
            go_wp2
            go_roundw
            case rel => exact ⟨k + 1, by omega, by go_num, by rw [← HWN.out]; exact HST.out.drewN nq⟩
            case measure => simp [intOf]; omega
    · obtain rfl : k = 8 := by omega
      have HST := Lib.hid hst
      clear hst
      go_wp2
      go_end0
      exact ⟨rfl, HFIN.out _ (HST.out.pick [0, 1, 2, 3, 4] (by decide))⟩
end Go.Proofs.YtdncpihaeobaeaaGreat
