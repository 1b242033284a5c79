/- Walks of package runner. -/
import Derived.Test.YthegopajkljlmaaClock
import Derived.Test.YthegopajkljlmaaPanesSt
set_option linter.unusedVariables false
namespace Go.Proofs.Ythegopajkljlmaa
open Go.RowKit Go.Maps
/-- A runner: its clock, its pipe, the windows that are open. -/
structure Rn where
  c : Clk
  p : Pp
  L : PL
def Rn.cells (r : Rn) (pb : Nat) (v : Value) : Array Value := #[.int .i64 r.c.mark, .int .i64 r.c.late, .int .i64 r.c.seen, .pointer (some ⟨pb, 0, none⟩), v, .int .i64 r.p.size, .int .i64 r.p.slide, .int .i64 r.p.agg, .int .i64 r.p.sink, .int .i64 r.p.feed]
def Rn.ok (r : Rn) (N : Nat) : Prop := r.c.ok N ∧ (∀ o ∈ r.p.ops, o.wf) ∧ r.p.ops.length ≤ 6
def rnP (rb : Nat) (r : Rn) (N : Nat) : HP := exP fun x : Nat × Value => andP (r.ok N) (sepL [pt rb (.cells (r.cells x.1 x.2) 70 (0, 0)), panesP x.1 r.p.size r.p.slide r.p.agg (8 * N) r.L, ownP 92 2 Opr.cells x.2 r.p.ops])
/-- A runner, laid open. -/
theorem rn_open {w0 w : World} {L : List HP} {rb N : Nat} {r : Rn} (h : St w0 w L) (n : Nat) (hn : L[n]? = some (rnP rb r N)) : ∃ (pb : Nat) (v : Value), r.ok N ∧ St w0 w [pt rb (.cells (r.cells pb v) 70 (0, 0)), panesP pb r.p.size r.p.slide r.p.agg (8 * N) r.L, ownP 92 2 Opr.cells v r.p.ops, sepL (L.set n emp)] := by
  obtain ⟨x, h2⟩ := (h.front n hn).ex 0 rfl
  obtain ⟨hφ, h3⟩ := h2.pure 0 rfl
  exact ⟨x.1, x.2, hφ, h3.ungroup⟩
theorem rn_shut {w0 w : World} {L K : List HP} {rb N pb n : Nat} {v : Value} {r : Rn} (hok : r.ok N) (hn : n < L.length)
    (h : St w0 w (pt rb (.cells (r.cells pb v) 70 (0, 0)) :: panesP pb r.p.size r.p.slide r.p.agg (8 * N) r.L :: ownP 92 2 Opr.cells v r.p.ops :: sepL (L.set n emp) :: K)) : St w0 w (L.set n (rnP rb r N) ++ K) :=
  ((St.group (L := [_, _, _]) h).imp 0 rfl (X' := rnP rb r N) fun h hh => ⟨(pb, v), hok, hh⟩).back hn
/-- A runner, laid open among others. -/
theorem rn_flat {w0 w : World} {L : List HP} {rb N : Nat} {r : Rn} (h : St w0 w L) (n : Nat) (hn : L[n]? = some (rnP rb r N)) : ∃ (pb : Nat) (v : Value), r.ok N ∧ St w0 w (L.set n emp ++ [pt rb (.cells (r.cells pb v) 70 (0, 0)), panesP pb r.p.size r.p.slide r.p.agg (8 * N) r.L, ownP 92 2 Opr.cells v r.p.ops]) := by
  have hnl := (List.getElem?_eq_some_iff.1 hn).1
  obtain ⟨x, h2⟩ := h.ex n hn
  obtain ⟨hφ, h3⟩ := h2.pure n (by simp [hnl]; rfl)
  have h4 := h3.split n (by simp [hnl]; rfl)
  rw [List.set_set, List.set_set] at h4
  exact ⟨x.1, x.2, hφ, h4⟩
theorem rn_pack {r : Rn} {rb N pb : Nat} {v : Value} (hok : r.ok N) (h : Nat → Option Obj) (hh : sepL [pt rb (.cells (r.cells pb v) 70 (0, 0)), panesP pb r.p.size r.p.slide r.p.agg (8 * N) r.L, ownP 92 2 Opr.cells v r.p.ops] h) : rnP rb r N h := ⟨(pb, v), hok, hh⟩
theorem onC_mark (c : Clk) (t : Int) : (onC c t).mark = c.mark := by
  unfold onC
  split
  · split <;> rfl
  · rfl
theorem set2 {L : List HP} {n b : Nat} {cs : Array Value} {T : TypeId} {w0 w : World} (h : St w0 w L) (hn : L[n]? = some (pt b (.cells cs T (0, 0)))) (i j : Nat) (u v : Value) :
    St w0 ((w.setCell ⟨b, i, none⟩ u).setCell ⟨b, j, none⟩ v) (L.set n (pt b (.cells ((cs.setIfInBounds i u).setIfInBounds j v) T (0, 0)))) := by
  have hnl := (List.getElem?_eq_some_iff.1 hn).1
  have := (h.set n hn i u).set n (by simp [hnl]; rfl) j v
  rwa [List.set_set] at this
theorem on_st {w0 w : World} {L : List HP} {n b N : Nat} {c : Clk} {rest : List Value} {T : TypeId} (h : St w0 w L) (hn : L[n]? = some (pt b (.cells (c.cells ++ rest).toArray T (0, 0)))) (t : Int) (hok : c.ok N) (hN : N < 2 ^ 60) :
    Calls Try.prog 72 #[.pointer (some ⟨b, 0, none⟩), .int .i64 t] w fun e w' => e = .returned (.bool (onB c t)) ∧ St w0 w' (L.set n (pt b (.cells ((onC c t).cells ++ rest).toArray T (0, 0)))) :=
  (on_any b c t rest T w N hok hN (h.blk n hn).1).mono (by
    rintro e w' ⟨rfl, rfl⟩
    refine ⟨rfl, ?_⟩
    have := set2 h hn 2 1 (.int .i64 (onC c t).seen) (.int .i64 (onC c t).late)
    have e : ((c.cells ++ rest).toArray.setIfInBounds 2 (.int .i64 (onC c t).seen)).setIfInBounds 1 (.int .i64 (onC c t).late) = ((onC c t).cells ++ rest).toArray := by
      simp [Clk.cells, onC_mark]
    rwa [e] at this)
theorem advance_st {w0 w : World} {L : List HP} {n b N : Nat} {c : Clk} {rest : List Value} {T : TypeId} (h : St w0 w L) (hn : L[n]? = some (pt b (.cells (c.cells ++ rest).toArray T (0, 0)))) (t : Int) (hok : c.ok N) :
    Calls Try.prog 60 #[.pointer (some ⟨b, 0, none⟩), .int .i64 t] w fun e w' => e = .returned (.bool (advB c t)) ∧ St w0 w' (L.set n (pt b (.cells ((advC c t).cells ++ rest).toArray T (0, 0)))) :=
  (advance_any b c t rest T w N hok (h.blk n hn).1).mono (by
    rintro e w' ⟨rfl, rfl⟩
    refine ⟨rfl, ?_⟩
    have := h.set n hn 0 (.int .i64 (advC c t).mark)
    have e : (c.cells ++ rest).toArray.setIfInBounds 0 (.int .i64 (advC c t).mark) = ((advC c t).cells ++ rest).toArray := by
      unfold advC
      split <;> simp [Clk.cells]
    rwa [e] at this)
theorem wpList_at {P : Program} {ops : Array Oper} {Q : Exit → Act → World → Prop} {l : List Oper} {a : Act} {w0 w : World} {L : List HP} (h : St w0 w L) (H : ∀ w', St w0 w' L → wpList P ops Q l a w') : wpList P ops Q l a w := H w h
theorem wp_at {P : Program} {c : Code} {Q : Exit → Act → World → Prop} {a : Act} {w0 w : World} {L : List HP} (h : St w0 w L) (H : ∀ w', St w0 w' L → c.wp P Q a w') : c.wp P Q a w := H w h
theorem panesP_mono {pb N M : Nat} {sz sl kd : Int} {L : PL} (hN : N ≤ M) {h : Nat → Option Obj} (hh : panesP pb sz sl kd N L h) : panesP pb sz sl kd M L h := ⟨⟨hh.1.1.mono hN, hh.1.2⟩, hh.2⟩
theorem runO_wf {e x : Ev} : ∀ {l : List Opr}, e.wf → (∀ o ∈ l, o.wf) → runO e l = some x → x.wf := by
  intro l
  induction l generalizing e with
  | nil => intro he _ h; cases h; exact he
  | cons o l ih =>
    intro he hl h
    unfold runO at h
    rw [List.foldl_cons, Option.bind_some] at h
    cases ho : applyO o e with
    | none => rw [ho, runO_none] at h; cases h
    | some y =>
      rw [ho] at h
      exact ih (applyO_wf he (hl o (by simp)) ho) (fun o ho => hl o (by simp [ho])) h
/-- An event comes. -/
def evR (r : Rn) (e : Ev) : Rn := ⟨onC r.c e.time, r.p, if onB r.c e.time then (match runO e r.p.ops with | some x => putE r.p.agg r.p.size r.p.slide r.L x | none => r.L) else r.L⟩
set_option maxHeartbeats 1000000 in
set_option maxRecDepth 20000 in
theorem rnEvent_st {w0 w : World} {L : List HP} {rb N : Nat} {r : Rn} (h : St w0 w L) (n : Nat) (hn : L[n]? = some (rnP rb r N)) (e : Ev) (he : e.wf) (hN : N < 2 ^ 30) :
    Calls Try.prog 59 #[.pointer (some ⟨rb, 0, none⟩), .agg e.cells.toArray] w fun x w' => x = .returned (.tuple #[]) ∧ St w0 w' (L.set n (rnP rb (evR r e) (N + 1))) := by
  have hnl := (List.getElem?_eq_some_iff.1 hn).1
  obtain ⟨pb, v, hok, hst⟩ := rn_open h n hn
  clear h hn
  have hend : ∀ (w' : World) (r' : Rn), r'.p = r.p → r'.c.ok (N + 1) → St w0 w' ([pt rb (.cells (r'.cells pb v) 70 (0, 0)), panesP pb r'.p.size r'.p.slide r'.p.agg (8 * (N + 1)) r'.L, ownP 92 2 Opr.cells v r'.p.ops, sepL (L.set n emp)]) → St w0 w' (L.set n (rnP rb r' (N + 1))) := fun w' r' hp hc h => by
    have := rn_shut (K := []) ⟨hc, by rw [hp]; exact hok.2⟩ hnl h
    simpa using this
  generalize sepL (L.set n emp) = R at *
  obtain ⟨hb, _, hlt⟩ := hst.blk 0 rfl
  obtain ⟨av, cap, hv, hcap, hmax, hnil, hops⟩ := hst.sl Opr.len 2 rfl
  subst hv
  have HS := Lib.hid hst
  have HOK := Lib.hid hok
  have HE := Lib.hid he
  have HEND := Lib.hid hend
  have HNL := Lib.hid hnl
  clear hst hok he hend hnl hops hnil
  unfold Rn.cells at hb
  obtain ⟨q, z⟩ := blkCells hb
  have HB := Lib.hid hb
  clear hb
  cases hB : onB r.c e.time with
  | false =>
    have HBB := Lib.hid hB
    clear hB
    dsimp only [Ev.cells]
    go_enter Try.func59, Try.ntmps59
    go_wp2_with fail
    refine region_tail 5 (by kernel_rfl) (by kernel_rfl) ?_
    simp only [List.take_succ_cons, List.take_zero, List.drop_succ_cons, List.drop_zero]
    repeat still_step
    refine wpStill_nil ?_
    refine wpList_at ((HS.out.alloc _).drew) ?_
    intro w1 hst1
    go_wp2_with (go_at_call 72; refine (on_st (c := r.c) (rest := [.pointer (some ⟨pb, 0, none⟩), .slice av r.p.ops.length cap, .int .i64 r.p.size, .int .i64 r.p.slide, .int .i64 r.p.agg, .int .i64 r.p.sink, .int .i64 r.p.feed]) hst1 (n := 0) rfl e.time HOK.out.1 (by omega)).mono ?_; rintro y w2 ⟨rfl, hst2⟩; rw [HBB.out])
    refine bodyPost_ret (results_none rfl _ _ _) rfl ?_
    refine ⟨rfl, HEND.out _ (evR r e) rfl (Clk.ok_on HOK.out.1 e.time) ?_⟩
    have hev : (evR r e).L = r.L := by unfold evR; simp [HBB.out]
    rw [hev]
    exact (hst2.imp 1 rfl fun h hh => panesP_mono (by omega) hh).pick [0, 1, 2, 3] (by decide)
  | true =>
    have HBB := Lib.hid hB
    clear hB
    dsimp only [Ev.cells]
    go_enter Try.func59, Try.ntmps59
    go_wp2_with fail
    refine region_tail 5 (by kernel_rfl) (by kernel_rfl) ?_
    simp only [List.take_succ_cons, List.take_zero, List.drop_succ_cons, List.drop_zero]
    repeat still_step
    refine wpStill_nil ?_
    refine wpList_at ((HS.out.alloc _).drew) ?_
    intro w1 hst1
    go_wp2_with (go_at_call 72; refine (on_st (c := r.c) (rest := [.pointer (some ⟨pb, 0, none⟩), .slice av r.p.ops.length cap, .int .i64 r.p.size, .int .i64 r.p.slide, .int .i64 r.p.agg, .int .i64 r.p.sink, .int .i64 r.p.feed]) hst1 (n := 0) rfl e.time HOK.out.1 (by omega)).mono ?_; rintro y w2 ⟨rfl, hst2⟩; rw [HBB.out])
    have hz2 : w.heap.size < w2.heap.size := (hst2.blk 4 rfl).2.2
    have hrl : rb < w2.heap.size := (hst2.blk 0 rfl).2.2
    obtain ⟨q2, z2⟩ := blkCells (hst2.blk 0 rfl).1
    obtain ⟨p2, y2⟩ := blkCells (hst2.blk 4 rfl).1
    have c0 := p2 0
    have c1 := p2 1
    have c2 := p2 2
    have c3 := p2 3
    have c4 := q2 4
    simp [Clk.cells] at c0 c1 c2 c3 c4
    have HOPS := Lib.hid (hst2.slOf Opr.len 2 rfl)
    have HS2 := Lib.hid hst2
    have HW := Lib.hid HOK.out.2.1
    have HL := Lib.hid HOK.out.2.2
    clear q2 z2 p2 y2 q z hst1 hst2
    go_cut [4, 5] from 13 to 22 (fun u v wx => ∃ g, u = .pointer (some ⟨g, 0, none⟩) ∧ v = .bool (runO e r.p.ops).isSome ∧ St w0 wx [pt rb (.cells ((⟨onC r.c e.time, r.p, r.L⟩ : Rn).cells pb (.slice av r.p.ops.length cap)) 70 (0, 0)), panesP pb r.p.size r.p.slide r.p.agg (8 * N) r.L, ownP 92 2 Opr.cells (.slice av r.p.ops.length cap) r.p.ops, R, pt g (.cells ((runO e r.p.ops).getD Ev.zero).cells.toArray 31 (0, 0))])
    case first =>
      go_region_held3 (fun w' => w'.cell? ⟨w.heap.size, 0, none⟩ = some (.int .i64 e.time) ∧ w'.cell? ⟨w.heap.size, 1, none⟩ = some (.int .i64 e.key) ∧ w'.cell? ⟨w.heap.size, 2, none⟩ = some (.int .i64 e.value) ∧ w'.cell? ⟨w.heap.size, 3, none⟩ = some (.int .u64 e.label) ∧ w'.cell? ⟨rb, 4, none⟩ = some (.slice av r.p.ops.length cap)) (exact ⟨(Below.cell (B := w2.heap.size) (w := w2) (by go_grown) hz2).trans c0, (Below.cell (B := w2.heap.size) (w := w2) (by go_grown) hz2).trans c1, (Below.cell (B := w2.heap.size) (w := w2) (by go_grown) hz2).trans c2, (Below.cell (B := w2.heap.size) (w := w2) (by go_grown) hz2).trans c3, (Below.cell (B := w2.heap.size) (w := w2) (by go_grown) hrl).trans c4⟩) (first
        | (go_at_call 73; (with_reducible refine (run_at e av cap r.p.ops ((w2.alloc (.cells #[.int .i64 0, .int .i64 0, .int .i64 0, .int .u64 0] 31)).drew) HE.out ?_ HW.out (by have := HL.out; omega)).mono ?_); exact HOPS.out.below (by go_grown) (fun _ _ h => h); rintro x w3 ⟨rfl, hb3⟩; have HG3 := Lib.hid ((hb3.block w2.heap.size (by simp)).trans (new_drew _ _ _ rfl)); obtain ⟨k3, f3⟩ := blkCells HG3.out; have hb4 : Below w2.heap.size w2 w3 := Below.trans (by go_grown) (hb3.mono (by simp)); have hs3 := hb4.size; have hs4 := hb3.size; simp only [World.size_alloc, World.size_drew] at hs4; have HB3 := Lib.hid hb3; clear hb3; dsimp only [okE, Ev.cells])
        | (go_at_call 73; refine (run_at e av cap r.p.ops _ HE.out ?_ HW.out (by have := HL.out; omega)).mono ?_; exact HOPS.out.below (by go_grown) (fun _ _ h => h); rintro x w3 ⟨rfl, hb3⟩; have hb4 : Below w2.heap.size w2 w3 := Below.trans (by go_grown) (hb3.mono (by simp)); have hs3 := hb4.size; have HB3 := Lib.hid hb3; clear hb3; dsimp only [okE, Ev.cells]))
      all_goals
        go_wp2
        go_meet
      · refine ⟨_, rfl, rfl, ?_⟩
        have := ((HS2.out.drew.kept HB3.out).alloc (.cells ((runO e r.p.ops).getD Ev.zero).cells.toArray 31)).pick [0, 1, 2, 3, 5] (by decide)
        exact this
      · refine ⟨_, rfl, rfl, ?_⟩
        have := ((HS2.out.alloc (.cells #[.int .i64 0, .int .i64 0, .int .i64 0, .int .u64 0] 31)).drew.kept HB3.out).pick [0, 1, 2, 3, 5] (by decide)
        generalize (runO e r.p.ops).getD Ev.zero = x at *
        exact set2 (set2 this (n := 4) rfl 0 1 (.int .i64 x.time) (.int .i64 x.key)) (n := 4) rfl 2 3 (.int .i64 x.value) (.int .u64 x.label)
    case rest =>
      obtain ⟨g, rfl, rfl, hst3⟩ := hcut
      cases hR : runO e r.p.ops with
      | none =>
        have HR := Lib.hid hR
        have HS3 := Lib.hid hst3
        clear hst3 c0 c1 c2 c3 c4 hR
        dsimp only [Option.isSome_none]
        go_wp2
        refine bodyPost_end (results_none rfl _ _ _) rfl ?_
        refine ⟨rfl, HEND.out _ (evR r e) rfl (Clk.ok_on HOK.out.1 e.time) ?_⟩
        have hev : (evR r e).L = r.L := by unfold evR; simp [HR.out]
        rw [hev]
        exact (HS3.out.imp 1 rfl fun h hh => panesP_mono (by omega) hh).pick [0, 1, 2, 3] (by decide)
      | some x =>
        have HR := Lib.hid hR
        rw [hR] at hst3
        clear hR
        dsimp only [Option.isSome_some, Option.getD_some] at hst3 ⊢
        obtain ⟨q3, z3⟩ := blkCells (hst3.blk 0 rfl).1
        obtain ⟨p3, y3⟩ := blkCells (hst3.blk 4 rfl).1
        have hg3 : g < wc.heap.size := (hst3.blk 4 rfl).2.2
        have hrl3 : rb < wc.heap.size := (hst3.blk 0 rfl).2.2
        have c0 := p3 0
        have c1 := p3 1
        have c2 := p3 2
        have c3 := p3 3
        have c4 := q3 3
        simp [Rn.cells, Ev.cells] at c0 c1 c2 c3 c4
        have HS3 := Lib.hid hst3
        clear hst3 q3 z3 p3 y3
        have HXW := Lib.hid (runO_wf HE.out HW.out HR.out)
        have HC := Lib.hid (panesPut1_st (x := x) (HS3.out.alloc (.cells #[.int .i64 x.time, .int .i64 x.key, .int .i64 x.value, .int .u64 x.label] 31)).drew 1 rfl 5 rfl HXW.out (by omega))
        go_wp2_with fail
        go_region_held3 (fun w' => w'.cell? ⟨g, 0, none⟩ = some (.int .i64 x.time) ∧ w'.cell? ⟨g, 1, none⟩ = some (.int .i64 x.key) ∧ w'.cell? ⟨g, 2, none⟩ = some (.int .i64 x.value) ∧ w'.cell? ⟨g, 3, none⟩ = some (.int .u64 x.label) ∧ w'.cell? ⟨rb, 3, none⟩ = some (.pointer (some ⟨pb, 0, none⟩)))
          (first | exact ⟨k0, k1, k2, k3, k4⟩ | exact ⟨(Below.cell (B := wc.heap.size) (w := wc) (by go_grown) hg3).trans c0, (Below.cell (B := wc.heap.size) (w := wc) (by go_grown) hg3).trans c1, (Below.cell (B := wc.heap.size) (w := wc) (by go_grown) hg3).trans c2, (Below.cell (B := wc.heap.size) (w := wc) (by go_grown) hg3).trans c3, (Below.cell (B := wc.heap.size) (w := wc) (by go_grown) hrl3).trans c4⟩)
          (first | (go_at_call 74; (with_reducible refine HC.out.mono ?_); rintro y w5 ⟨rfl, hst5⟩; obtain ⟨q5, _⟩ := blkCells (hst5.blk 0 rfl).1; obtain ⟨p5, _⟩ := blkCells (hst5.blk 4 rfl).1; have k0 := p5 0; have k1 := p5 1; have k2 := p5 2; have k3 := p5 3; have k4 := q5 3; simp [Rn.cells, Ev.cells] at k0 k1 k2 k3 k4; have HS5 := Lib.hid hst5; clear hst5 q5 p5))
        go_wp2
        refine bodyPost_end (results_none rfl _ _ _) rfl ?_
        refine ⟨rfl, HEND.out _ (evR r e) rfl (Clk.ok_on HOK.out.1 e.time) ?_⟩
        have hev : (evR r e).L = putE r.p.agg r.p.size r.p.slide r.L x := by unfold evR; simp [HBB.out, HR.out]
        rw [hev]
        exact HS5.out.pick [0, 1, 2, 3] (by decide)
/-- An input: is it a mark? the event. -/
structure Inp where
  mark : Bool
  ev : Ev
deriving DecidableEq
def Inp.cells (i : Inp) : List Value := [.bool i.mark, .int .i64 i.ev.time, .int .i64 i.ev.key, .int .i64 i.ev.value, .int .u64 i.ev.label]
def Inp.zero : Inp := ⟨false, Ev.zero⟩
theorem Inp.len (i : Inp) : i.cells.length = 5 := rfl
theorem Inp.one (i : Inp) : ∀ u ∈ i.cells, u.oneCell' = true := by intro u hu; simp [Inp.cells] at hu; rcases hu with rfl | rfl | rfl | rfl | rfl <;> rfl
theorem SlAt.inAt {w : World} {a : Option Addr} {l : List Inp} (h : SlAt 5 (flat Inp.cells) w a l) (k : Nat) (hk : k < l.length) :
    ∃ b o, a = some ⟨b, o, none⟩ ∧ b < w.heap.size ∧ w.cell? ⟨b, o + k * 5, none⟩ = some (.bool (l[k]?.getD Inp.zero).mark) ∧ w.cell? ⟨b, o + k * 5 + 1, none⟩ = some (.int .i64 (l[k]?.getD Inp.zero).ev.time) ∧ w.cell? ⟨b, o + k * 5 + 2, none⟩ = some (.int .i64 (l[k]?.getD Inp.zero).ev.key) ∧
      w.cell? ⟨b, o + k * 5 + 3, none⟩ = some (.int .i64 (l[k]?.getD Inp.zero).ev.value) ∧ w.cell? ⟨b, o + k * 5 + 4, none⟩ = some (.int .u64 (l[k]?.getD Inp.zero).ev.label) := by
  rcases h with rfl | ⟨b, o, rfl, hlt, h⟩
  · simp at hk
  · obtain ⟨cs, h1, h2, h3⟩ := h k hk
    rw [List.getElem?_eq_getElem hk]
    unfold flat at h3
    subst h3
    exact ⟨b, o, rfl, hlt, h2 0 (by omega), h2 1 (by omega), h2 2 (by omega), h2 3 (by omega), h2 4 (by omega)⟩
theorem rwElem : Elem Try.prog 38 43 5 Rw.cells :=
  ⟨Rw.len, by decide, Rw.one, Try.underlying38, by
    obtain ⟨i, h1, h2, h3, h4⟩ := rwInfo
    exact ⟨i, _, h1, h2, h3, by omega, rfl⟩⟩
/-- One input: the runner behind it, the rows that it closes. -/
def takeR (r : Rn) (i : Inp) : Rn × List Rw :=
  if i.mark then (if advB r.c i.ev.time then (⟨advC r.c i.ev.time, r.p, keepL r.p.size i.ev.time r.L⟩, rowsL (doneL r.p.size i.ev.time r.L)) else (r, [])) else (evR r i.ev, [])
def afterR (r : Rn) (l : List Inp) : Rn := l.foldl (fun r i => (takeR r i).1) r
def rowsR (r : Rn) : List Inp → List Rw
  | [] => []
  | i :: l => (takeR r i).2 ++ rowsR (takeR r i).1 l
theorem afterR_append (r : Rn) (l m : List Inp) : afterR r (l ++ m) = afterR (afterR r l) m := by unfold afterR; rw [List.foldl_append]
theorem rowsR_append (r : Rn) (l m : List Inp) : rowsR r (l ++ m) = rowsR r l ++ rowsR (afterR r l) m := by
  induction l generalizing r with
  | nil => rfl
  | cons i l ih => rw [List.cons_append, rowsR, rowsR, ih, List.append_assoc]; rfl
theorem insL_len_le : ∀ (L : PL) (p : Pl) (x : Pn), (insL L p x).length ≤ L.length + 1
  | [], _, _ => by simp [insL]
  | q :: L, p, x => by
    unfold insL
    split
    · simp
    · split
      · have := insL_len_le L p x; simp; omega
      · simp
theorem putE_len (kd sz sl : Int) (L : PL) (e : Ev) : (putE kd sz sl L e).length ≤ L.length + 8 := by
  have h : ∀ (ss : List Int) (L : PL), (ss.foldl (fun L s => putS kd L e s) L).length ≤ L.length + ss.length := by
    intro ss
    induction ss with
    | nil => intro L; simp
    | cons s ss ih =>
      intro L
      rw [List.foldl_cons]
      have h1 := ih (putS kd L e s)
      have h2 : (putS kd L e s).length ≤ L.length + 1 := insL_len_le _ _ _
      simp only [List.length_cons]
      omega
  have h1 := h (startsOf e.time sz sl) L
  have h2 := starts_len e.time sz sl
  unfold putE
  omega
theorem part_len (sz t : Int) (L : PL) : (doneL sz t L).length + (keepL sz t L).length = L.length := by
  unfold doneL keepL
  induction L with
  | nil => rfl
  | cons q L ih =>
    rw [List.filter_cons, List.filter_cons]
    cases endsB sz t q
    · simp only [Bool.false_eq_true, if_false, Bool.not_false, if_true, List.length_cons]
      omega
    · simp only [if_true, Bool.not_true, Bool.false_eq_true, if_false, List.length_cons]
      omega
theorem takeR_len (r : Rn) (i : Inp) : (takeR r i).2.length + (takeR r i).1.L.length ≤ r.L.length + 8 := by
  unfold takeR
  split
  · split
    · have := part_len r.p.size i.ev.time r.L
      simp only [rowsL, List.length_map]
      omega
    · simp
  · unfold evR
    dsimp only
    split
    · split
      · rename_i x _
        have := putE_len r.p.agg r.p.size r.p.slide r.L x
        rw [List.length_nil]
        omega
      · rw [List.length_nil]
        omega
    · rw [List.length_nil]
      omega
theorem rowsR_len (r : Rn) (l : List Inp) : (rowsR r l).length + (afterR r l).L.length ≤ r.L.length + 8 * l.length := by
  induction l generalizing r with
  | nil => simp [rowsR, afterR]
  | cons i l ih =>
    have h1 := takeR_len r i
    have h2 := ih (takeR r i).1
    simp only [rowsR, List.length_append, List.length_cons]
    have h3 : afterR r (i :: l) = afterR (takeR r i).1 l := rfl
    rw [h3]
    omega
theorem takeR_p (r : Rn) (i : Inp) : (takeR r i).1.p = r.p := by
  unfold takeR
  split
  · split <;> rfl
  · rfl
theorem afterR_p (r : Rn) (l : List Inp) : (afterR r l).p = r.p := by
  induction l generalizing r with
  | nil => rfl
  | cons i l ih => exact (ih _).trans (takeR_p r i)
end Go.Proofs.Ythegopajkljlmaa
