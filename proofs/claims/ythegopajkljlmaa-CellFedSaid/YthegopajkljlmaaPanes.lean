/- Walks of package panes: New, Put. -/
import Derived.Test.YthegopajkljlmaaPane
set_option linter.unusedVariables false
namespace Go.Proofs.Ythegopajkljlmaa
open Go.RowKit Go.Maps
def plOf (a b : Int) : Pl := if h : (Lit.int .i64 a).wf = true ∧ (Lit.int .i64 b).wf = true then ⟨(a, b), h⟩ else ⟨(0, 0), by decide, by decide⟩
theorem plOf_val {a b : Int} (h1 : (Lit.int .i64 a).wf = true) (h2 : (Lit.int .i64 b).wf = true) : plOf a b = ⟨(a, b), h1, h2⟩ := by
  unfold plOf
  rw [dif_pos ⟨h1, h2⟩]
theorem plOf_1 {a b : Int} (h1 : (Lit.int .i64 a).wf = true) (h2 : (Lit.int .i64 b).wf = true) : (plOf a b).1 = (a, b) := by rw [plOf_val h1 h2]
def stepPn (x : Pn) (v lab : Int) : Pn := ⟨x.c + 1, x.k, takeV x.k x.c x.v v 1, bits .or .u64 x.l lab⟩
def putS (kd : Int) (L : PL) (e : Ev) (s : Int) : PL := insL L (plOf s e.key) (stepPn ((lookL L (plOf s e.key)).getD ⟨0, kd, 0, 0⟩) e.value e.label)
def putE (kd sz sl : Int) (L : PL) (e : Ev) : PL := (startsOf e.time sz sl).foldl (fun L s => putS kd L e s) L
def putL (kd sz sl : Int) (L : PL) (es : List Ev) : PL := es.foldl (putE kd sz sl) L
/-- What is kept of the list while events come. -/
structure GoodL (kd sz sl : Int) (N : Nat) (L : PL) : Prop where
  len : L.length ≤ N
  each : ∀ p x, (p, x) ∈ L → 0 ≤ p.1.1 ∧ p.1.1 ≤ 1099511627776 ∧ 0 ≤ x.c ∧ x.c ≤ N ∧ x.k = kd ∧ x.wf
  right : L ≠ [] → rightW sz sl
theorem GoodL.empty (kd sz sl : Int) : GoodL kd sz sl 0 [] := ⟨by simp, by simp, by simp⟩
theorem GoodL.mono {kd sz sl : Int} {N M : Nat} {L : PL} (h : GoodL kd sz sl N L) (hM : N ≤ M) : GoodL kd sz sl M L :=
  ⟨Nat.le_trans h.len hM, fun p x hx => by obtain ⟨h1, h2, h3, h4, h5, h6⟩ := h.each p x hx; exact ⟨h1, h2, h3, by omega, h5, h6⟩, h.right⟩
theorem starts_range {t sz sl s : Int} (h : s ∈ startsOf t sz sl) : rightW sz sl ∧ 0 ≤ t ∧ t ≤ 1099511627776 ∧ 0 ≤ s ∧ s ≤ t ∧ t < s + sz := by
  unfold startsOf at h
  split at h
  · rename_i hc
    obtain ⟨h1, h2, k, h3, h4⟩ := winds_mem h
    have hs := hc.1.1
    have h5 := Int.emod_nonneg t (show sl ≠ 0 by omega)
    have h6 : 0 ≤ (k : Int) * sl := Int.mul_nonneg (by omega) (by omega)
    exact ⟨hc.1, hc.2.1, hc.2.2, h1, by omega, by omega⟩
  · simp at h
theorem starts_len (t sz sl : Int) : (startsOf t sz sl).length ≤ 8 := by
  unfold startsOf
  split
  · rename_i hc
    have := winds_len (t - t % sl) t sz sl (mostOf sz sl).toNat
    have := hc.1.2.2.2
    omega
  · simp
theorem getD_each {kd sz sl : Int} {N : Nat} {L : PL} (hG : GoodL kd sz sl N L) (hs : SortedL L) (hkd : (Lit.int .i64 kd).wf = true) (p : Pl) :
    0 ≤ ((lookL L p).getD ⟨0, kd, 0, 0⟩).c ∧ ((lookL L p).getD ⟨0, kd, 0, 0⟩).c ≤ N ∧ ((lookL L p).getD ⟨0, kd, 0, 0⟩).k = kd ∧ ((lookL L p).getD ⟨0, kd, 0, 0⟩).wf := by
  cases hl : lookL L p with
  | none => exact ⟨by simp, by simp, rfl, show (Lit.int .i64 0).wf = true by decide, hkd, show (Lit.int .i64 0).wf = true by decide, show (Lit.int .u64 0).wf = true by decide⟩
  | some x => exact (hG.each p x ((lookL_some hs).1 hl)).2.2
theorem stepPn_wf {x : Pn} {v lab : Int} (hx : x.wf) (hv : (Lit.int .i64 v).wf = true) (h0 : 0 ≤ x.c) (h1 : x.c ≤ 2 ^ 41) : (stepPn x v lab).wf := by
  refine ⟨WalkArith.wf_i64 ?_, hx.2.1, takeV_wf hx.2.2.1 hv, or_wf _ _⟩
  show -9223372036854775808 ≤ x.c + 1 ∧ x.c + 1 ≤ 9223372036854775807
  omega
theorem GoodL.put {kd sz sl : Int} {N : Nat} {L : PL} (hG : GoodL kd sz sl N L) (hs : SortedL L) (hkd : (Lit.int .i64 kd).wf = true) (hN : N < 2 ^ 41) {e : Ev} (he : e.wf) {s : Int} (hm : s ∈ startsOf e.time sz sl) : GoodL kd sz sl (N + 1) (putS kd L e s) := by
  have hr := starts_range hm
  have hw : (Lit.int .i64 s).wf = true := WalkArith.wf_i64 (by omega)
  have hg := getD_each hG hs hkd (plOf s e.key)
  refine ⟨?_, ?_, fun _ => hr.1⟩
  · unfold putS
    rw [insL_length hs]
    have := hG.len
    split <;> omega
  · intro p x hx
    rcases (mem_insL hs p x).1 hx with ⟨rfl, rfl⟩ | ⟨_, hx⟩
    · rw [plOf_1 hw he.2.1]
      refine ⟨hr.2.2.2.1, by omega, ?_, ?_, hg.2.2.1, stepPn_wf hg.2.2.2 he.2.2.1 hg.1 (by have := hg.2.1; omega)⟩
      · show 0 ≤ ((lookL L (plOf s e.key)).getD ⟨0, kd, 0, 0⟩).c + 1
        omega
      · show ((lookL L (plOf s e.key)).getD ⟨0, kd, 0, 0⟩).c + 1 ≤ _
        omega
    · exact (hG.mono (Nat.le_succ N)).each p x hx
theorem putS_sorted {kd : Int} {L : PL} (hs : SortedL L) (e : Ev) (s : Int) : SortedL (putS kd L e s) := insL_sorted hs _ _
theorem GoodL.puts {kd sz sl : Int} (hkd : (Lit.int .i64 kd).wf = true) {e : Ev} (he : e.wf) : ∀ (ss : List Int) (N : Nat) (L : PL), (∀ s ∈ ss, s ∈ startsOf e.time sz sl) → GoodL kd sz sl N L → SortedL L → N + ss.length < 2 ^ 41 → GoodL kd sz sl (N + ss.length) (ss.foldl (fun L s => putS kd L e s) L) ∧ SortedL (ss.foldl (fun L s => putS kd L e s) L)
  | [], N, L, _, hG, hs, _ => ⟨hG, hs⟩
  | s :: ss, N, L, hm, hG, hs, hN => by
    simp only [List.length_cons] at hN
    have := GoodL.puts hkd he ss (N + 1) (putS kd L e s) (fun t ht => hm t (by simp [ht])) (hG.put hs hkd (by omega) he (hm s (by simp))) (putS_sorted hs e s) (by omega)
    rw [List.length_cons, List.foldl_cons, show N + (ss.length + 1) = N + 1 + ss.length by omega]
    exact this
theorem GoodL.putE {kd sz sl : Int} {N : Nat} {L : PL} (hG : GoodL kd sz sl N L) (hs : SortedL L) (hkd : (Lit.int .i64 kd).wf = true) (hN : N + 8 < 2 ^ 41) {e : Ev} (he : e.wf) : GoodL kd sz sl (N + 8) (putE kd sz sl L e) ∧ SortedL (putE kd sz sl L e) := by
  have hl := starts_len e.time sz sl
  have := GoodL.puts hkd he (startsOf e.time sz sl) N L (fun s h => h) hG hs (by omega)
  exact ⟨this.1.mono (by omega), this.2⟩
theorem GoodL.putL {kd sz sl : Int} (hkd : (Lit.int .i64 kd).wf = true) : ∀ (es : List Ev) (N : Nat) (L : PL), (∀ e ∈ es, e.wf) → GoodL kd sz sl N L → SortedL L → N + 8 * es.length < 2 ^ 41 → GoodL kd sz sl (N + 8 * es.length) (putL kd sz sl L es) ∧ SortedL (putL kd sz sl L es)
  | [], N, L, _, hG, hs, _ => ⟨hG, hs⟩
  | e :: es, N, L, hw, hG, hs, hN => by
    simp only [List.length_cons] at hN
    obtain ⟨h1, h2⟩ := hG.putE hs hkd (by omega) (hw e (by simp))
    have := GoodL.putL hkd es (N + 8) _ (fun e he => hw e (by simp [he])) h1 h2 (by omega)
    rw [List.length_cons, show N + 8 * (es.length + 1) = N + 8 + 8 * es.length by omega]
    exact this
theorem paneInfo : ∃ i, Try.prog.info? 123 = some i ∧ i.zero = some (.agg #[.int .i64 0, .int .i64 0, .int .i64 0, .int .u64 0]) ∧ i.size = 4 ∧ i.bytes = 32 := info_parts (by kernel_rfl)
/-- The windows lie at a block, their map at another. -/
def MapAt (w : World) (mb : Nat) (L : PL) : Prop := ∃ D n, w.ownsMap Try.prog 100 elemPn mb n D ∧ MapOf D L
def PanesAt (w : World) (pb mb : Nat) (sz sl kd : Int) (L : PL) : Prop :=
  w.heap[pb]? = some (.cells #[.int .i64 sz, .int .i64 sl, .int .i64 kd, .map (some mb)] 104 (0, 0)) ∧ MapAt w mb L
theorem ownsMap_at {H : Type} {P : Program} {k : TypeId} {R : Value → Option (DataW H × List MemPlace)} {w w' : World} {b n : Nat} {D : DataW H} (h : w.ownsMap P k R b n D) (he : w'.heap[b]? = w.heap[b]?) : w'.ownsMap P k R b n D := by
  obtain ⟨es, clock, hb, r⟩ := h
  exact ⟨es, clock, he.trans hb, r⟩
theorem ownsMap_tight {H : Type} {P : Program} {k : TypeId} {R : Value → Option (DataW H × List MemPlace)} {w : World} {b n : Nat} {D : DataW H} (h : w.ownsMap P k R b n D) : w.ownsMap P k R b (Maps.size D) D := by
  obtain ⟨es, clock, hb, hF, _, rfl⟩ := h
  exact ⟨es, clock, hb, hF, by simp [Maps.size, length_sorted], rfl⟩
theorem MapAt.same {w w' : World} {mb : Nat} {L : PL} (h : MapAt w mb L) (he : w'.heap[mb]? = w.heap[mb]?) : MapAt w' mb L := by
  obtain ⟨D, n, h1, h2⟩ := h
  exact ⟨D, n, ownsMap_at h1 he, h2⟩
theorem MapAt.block {w : World} {mb : Nat} {L : PL} (h : MapAt w mb L) : ∃ es clock, w.heap[mb]? = some (.map es clock) := by
  obtain ⟨D, n, ⟨es, clock, h1, _⟩, h2⟩ := h
  exact ⟨es, clock, h1⟩
theorem MapAt.lt {w : World} {mb : Nat} {L : PL} (h : MapAt w mb L) : mb < w.heap.size := by
  obtain ⟨es, clock, h1⟩ := h.block
  exact (Array.getElem?_eq_some_iff.1 h1).1
theorem MapAt.sorted {w : World} {mb : Nat} {L : PL} (h : MapAt w mb L) : SortedL L := by
  obtain ⟨D, n, h1, h2⟩ := h
  exact h2.1
theorem PanesAt.ne {w : World} {pb mb : Nat} {sz sl kd : Int} {L : PL} (h : PanesAt w pb mb sz sl kd L) : pb ≠ mb := by
  rintro rfl
  obtain ⟨es, clock, h1⟩ := h.2.block
  rw [h.1] at h1
  cases h1
theorem PanesAt.lt {w : World} {pb mb : Nat} {sz sl kd : Int} {L : PL} (h : PanesAt w pb mb sz sl kd L) : pb < w.heap.size := (Array.getElem?_eq_some_iff.1 h.1).1
theorem PanesAt.same {w w' : World} {pb mb : Nat} {sz sl kd : Int} {L : PL} (h : PanesAt w pb mb sz sl kd L) (h1 : w'.heap[pb]? = w.heap[pb]?) (h2 : w'.heap[mb]? = w.heap[mb]?) : PanesAt w' pb mb sz sl kd L :=
  ⟨h1.trans h.1, h.2.same h2⟩
theorem PanesAt.below {w w' : World} {B pb mb : Nat} {sz sl kd : Int} {L : PL} (h : PanesAt w pb mb sz sl kd L) (hb : Below B w w') (h1 : pb < B) (h2 : mb < B) : PanesAt w' pb mb sz sl kd L :=
  h.same (hb.block _ h1) (hb.block _ h2)
/-- Cells lie in no map's block. -/
theorem SlAt.mapped {α : Type} {c : Nat} {enc : α → List Value} (hc : ∀ x, (enc x).length = c) (c0 : 0 < c) {w w' : World} {a : Option Addr} {l : List α} {mb : Nat} (h : SlAt c (flat enc) w a l) (hm : ∃ es clock, w.heap[mb]? = some (.map es clock)) (hg : w.grownBy w' (some mb)) : SlAt c (flat enc) w' a l := by
  rcases h with h | ⟨b, o, rfl, hlt, h⟩
  · exact .inl h
  · by_cases hl : l = []
    · exact .inl hl
    · have h0 : 0 < l.length := List.length_pos_iff.2 hl
      have hne : b ≠ mb := by
        rintro rfl
        obtain ⟨es, clock, he⟩ := hm
        obtain ⟨cs, h1, h2, h3⟩ := h 0 h0
        have := h2 0 c0
        rw [List.getElem?_eq_getElem (by omega)] at this
        simp [World.cell?, he] at this
      have hb : w'.heap[b]? = w.heap[b]? := hg.block b hlt (fun e => hne (by cases e; rfl))
      refine .inr ⟨b, o, rfl, by have := hg.size; omega, fun i hi => ?_⟩
      obtain ⟨cs, h1, h2, h3⟩ := h i hi
      exact ⟨cs, h1, fun j hj => (World.cell?_of_block (w := w) hb).trans (h2 j hj), h3⟩
theorem grownBy_refl (w : World) (r : Option Nat) : w.grownBy w r := ⟨rfl, rfl, rfl, Nat.le_refl _, fun _ _ _ => rfl⟩
theorem grownBy_trans {a b c : World} {r : Option Nat} (h : a.grownBy b r) (k : b.grownBy c r) : a.grownBy c r :=
  ⟨k.os.trans h.os, k.tape.trans h.tape, k.output.trans h.output, Nat.le_trans h.size k.size, fun i hi hne => (k.block i (Nat.lt_of_lt_of_le hi h.size) hne).trans (h.block i hi hne)⟩
theorem grownBy_below {a b c : World} {r : Option Nat} {B : Nat} (h : a.grownBy b r) (k : Below B b c) (hB : a.heap.size ≤ B) : a.grownBy c r :=
  ⟨k.os.trans h.os, k.tape.trans h.tape, k.output.trans h.output, Nat.le_trans h.size k.size, fun i hi hne => (k.block i (by omega)).trans (h.block i hi hne)⟩
theorem below_grownBy {a b : World} {r : Option Nat} (h : Below a.heap.size a b) : a.grownBy b r := ⟨h.os, h.tape, h.output, h.size, fun k hk _ => h.block k hk⟩
def numOf : Value → Int | .int _ q => q | _ => 0
theorem panesNew_any (sz sl kd : Int) (w : World) :
    Calls Try.prog 57 #[.int .i64 sz, .int .i64 sl, .int .i64 kd] w fun e w' => ∃ pb mb, e = .returned (.pointer (some ⟨pb, 0, none⟩)) ∧ w.heap.size ≤ pb ∧ w.heap.size ≤ mb ∧ PanesAt w' pb mb sz sl kd [] ∧ Below w.heap.size w w' := by
  have hmk := @run_makeMap Try.prog
  go_enter Try.func57, Try.ntmps57
  go_wp2
  go_ret
  refine ⟨w.heap.size + 1, w.heap.size, rfl, by omega, by omega, ⟨?_, .map [], 0, ?_, MapOf.empty⟩, ?_⟩
  · exact new_at _ _ _ (by simp)
  · exact (World.ownsMap_made _ _ _ _).alloc _
  · exact ((Below.refl _ w).alloc (Nat.le_refl _) _).alloc (by simp) _
theorem pane_zero_run (w : World) : (zeroValue 123).run Try.prog w = .ok (encPn Pn.zero) w := by
  obtain ⟨i, h1, h2, _⟩ := paneInfo
  simp [zeroValue, typeInfo, h1, h2, encPn, Pn.zero]
theorem look_run {w : World} {mb : Nat} {L : PL} (h : MapAt w mb L) (p : Pl) : (Instr.lookup 102 (.map (some mb)) (encP p) true).run Try.prog w = .ok (.tuple #[encPn ((lookL L p).getD Pn.zero), .bool (lookL L p).isSome]) w := by
  obtain ⟨D, n, h1, h2⟩ := h
  obtain ⟨v, ps, hr, hv⟩ := h1.look_ok placeKeyed Try.underlying102 (pane_zero_run w) elemPn_zero (keyOf_place p)
  obtain ⟨x, rfl, hx, hz⟩ := elemPn_inv hv
  have hd := congrArg Prod.fst hz
  rw [h2.at_look p Pn.zero] at hd
  rw [hr, h2.has_look p, dPn_inj hd]
/-- A look at a window, at a step of a region that draws. -/
theorem step_look {w : World} {mb : Nat} {L : PL} (hM : MapAt w mb L) (p : Pl) {ops : Array Oper} {o : Oper} {a : Act} {K : Act → World → Prop} {Q : Exit → Act → World → Prop} {E : Prop} (hgd : o.guard = none) (m x : Operand)
    (ho : o.op = .lookup 102 m x true) (hm : a.eval m = .map (some mb)) (hx : a.eval x = encP p)
    (h : K (a.put o.dst (.tuple #[encPn ((lookL L p).getD Pn.zero), .bool (lookL L p).isSome])) w) : if Region.wanted o (yielded ops a.tmps) = true then Oper.wp Try.prog o a w K Q else E := by
  have hw : Region.wanted o (yielded ops a.tmps) = true := by simp [Region.wanted, hgd]
  rw [if_pos hw]
  unfold Oper.wp
  simp [execOp, ho, hm, hx, look_run hM p, Result.andThen]
  exact h
theorem update_run {w : World} {mb : Nat} {L : PL} (h : MapAt w mb L) (hN : L.length < 2 ^ 40) (p : Pl) (x : Pn) (hx : x.wf) : ∃ w', (Instr.mapUpdate 102 (.map (some mb)) (encP p) (encPn x)).run Try.prog w = .ok () w' ∧ MapAt w' mb (insL L p x) ∧ w.grownBy w' (some mb) := by
  obtain ⟨D, n, h1, h2⟩ := h
  have h3 := ownsMap_tight h1
  obtain ⟨w', hr, h4, h5⟩ := h3.update placeKeyed Try.underlying102 (by rw [h2.2.2.2]; unfold maxLen; omega) (keyOf_place p) (elemPn_mk x hx)
  exact ⟨w', hr, ⟨_, _, h4, h2.put (h1.tidy placeKeyed) p x⟩, h5⟩
theorem step_update {w : World} {mb : Nat} {L : PL} (hM : MapAt w mb L) (hN : L.length < 2 ^ 40) (p : Pl) (y : Pn) (hy : y.wf) {ops : Array Oper} {o : Oper} {a : Act} {K : Act → World → Prop} {Q : Exit → Act → World → Prop} {E : Prop} (hgd : o.guard = none) (m x v : Operand)
    (ho : o.op = .mapUpdate 102 m x v) (hm : a.eval m = .map (some mb)) (hx : a.eval x = encP p) (hv : a.eval v = encPn y)
    (h : ∀ w', MapAt w' mb (insL L p y) → w.grownBy w' (some mb) → K (a.put o.dst undef) w') : if Region.wanted o (yielded ops a.tmps) = true then Oper.wp Try.prog o a w K Q else E := by
  have hw : Region.wanted o (yielded ops a.tmps) = true := by simp [Region.wanted, hgd]
  rw [if_pos hw]
  obtain ⟨w', hr, h1, h2⟩ := update_run hM hN p y hy
  unfold Oper.wp
  simp [execOp, ho, hm, hx, hv, hr, Result.andThen]
  exact h w' h1 h2
theorem wpList_update {w : World} {mb : Nat} {L : PL} (hM : MapAt w mb L) (hN : L.length < 2 ^ 40) (p : Pl) (y : Pn) (hy : y.wf) {ops : Array Oper} {rest : List Oper} {o : Oper} {a : Act} {Q : Exit → Act → World → Prop} (hgd : o.guard = none) (m x v : Operand)
    (ho : o.op = .mapUpdate 102 m x v) (hm : a.eval m = .map (some mb)) (hx : a.eval x = encP p) (hv : a.eval v = encPn y)
    (h : ∀ w', MapAt w' mb (insL L p y) → w.grownBy w' (some mb) → wpList Try.prog ops Q rest (a.put o.dst undef) w') : wpList Try.prog ops Q (o :: rest) a w := by
  refine wpList_plain hgd fun K' hK' => ?_
  obtain ⟨w', hr, h1, h2⟩ := update_run hM hN p y hy
  unfold Oper.wp
  simp [execOp, ho, hm, hx, hv, hr, Result.andThen]
  exact hK' _ _ (h w' h1 h2)
theorem put_mid {kd sz sl : Int} (hkd : (Lit.int .i64 kd).wf = true) {es : List Ev} {N : Nat} {L : PL} (hw : ∀ e ∈ es, e.wf) (hG : GoodL kd sz sl N L) (hs : SortedL L) (hN : N + 8 * es.length < 2 ^ 40) (k : Nat) (hk : k < es.length) (ev : Ev) (he : ev.wf) (j : Nat) :
    GoodL kd sz sl (N + 8 * es.length) (((startsOf ev.time sz sl).take j).foldl (fun L s => putS kd L ev s) (putL kd sz sl L (es.take k))) ∧ SortedL (((startsOf ev.time sz sl).take j).foldl (fun L s => putS kd L ev s) (putL kd sz sl L (es.take k))) := by
  have h1 := GoodL.putL hkd (es.take k) N L (fun e h => hw e (List.mem_of_mem_take h)) hG hs (by rw [List.length_take]; omega)
  have hl := starts_len ev.time sz sl
  have hj : ((startsOf ev.time sz sl).take j).length ≤ 8 := by rw [List.length_take]; omega
  have hk' : (es.take k).length = k := by rw [List.length_take]; omega
  have h2 := GoodL.puts hkd he ((startsOf ev.time sz sl).take j) _ _ (fun s h => List.mem_of_mem_take h) h1.1 h1.2 (by omega)
  exact ⟨h2.1.mono (by omega), h2.2⟩
theorem starts_wf {t sz sl s : Int} (h : s ∈ startsOf t sz sl) : (Lit.int .i64 s).wf = true := by
  have := starts_range h
  exact WalkArith.wf_i64 (by omega)
end Go.Proofs.Ythegopajkljlmaa
