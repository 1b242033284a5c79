/- How numbers of pipes and of inputs read. -/
import Derived.Test.YthegopajkljlmaaKeepPipe
set_option linter.unusedVariables false
namespace Go.Proofs.Ythegopajkljlmaa
open Go.RowKit Go.Maps Go.ChangeShapes Go.WideShapes Go.ChangeAt
def isIq (w : World) (cs : List Value) (q : InQ) : Prop := cs = q.cells ∧ q.wf
set_option maxRecDepth 20000 in
theorem Rdr_iq {H : Type} {enc : TypeId × Value → H} : Rdr enc Try.prog 94 isIq := by
  intro w fuel cs x h
  obtain ⟨y0, y1, y2, y3, n, hx, hl, h0, h1, h2, h3⟩ := Go.Joins.trod_struct4 Try.underlying94 h
  rw [show Try.prog.cellsOf 94 = 4 by kernel_rfl] at hl
  match cs, hl with
  | [c0, c1, c2, c3], _ =>
    rw [show Try.prog.cellsOf 3 = 1 by kernel_rfl] at h0 h1 h2 h3
    obtain ⟨n0, e0, _, w0⟩ := DataW.trod_int Try.underlying3 h0
    obtain ⟨n1, e1, _, w1⟩ := DataW.trod_int Try.underlying3 h1
    obtain ⟨n2, e2, _, w2⟩ := DataW.trod_int Try.underlying3 h2
    obtain ⟨n3, e3, _, w3⟩ := DataW.trod_int Try.underlying3 h3
    simp at e0 e1 e2 e3
    subst e0 e1 e2 e3
    exact ⟨⟨n0, n1, n2, n3⟩, rfl, w0, w1, w2, w3⟩
theorem SlAt.iq {w : World} {a : Option Addr} {l : List InQ} (h : SlAt 4 isIq w a l) : SlAt 4 (flat InQ.cells) w a l ∧ ∀ e ∈ l, e.wf := by
  refine ⟨h.imp fun cs x h => h.1, fun e he => ?_⟩
  rcases h with rfl | ⟨b, o, rfl, hlt, h⟩
  · cases he
  · obtain ⟨i, hi, rfl⟩ := List.getElem_of_mem he
    obtain ⟨cs, h1, h2, h3⟩ := h i hi
    exact h3.2
theorem SlAt.ints {kd : IntKind} {w : World} {a : Option Addr} {l : List Int} (h : SlAt 1 (isInt kd) w a l) : SlAt 1 (flat (intC kd)) w a l ∧ ∀ x ∈ l, (Lit.int kd x).wf = true := by
  refine ⟨h.imp fun cs x h => h.1, fun e he => ?_⟩
  rcases h with rfl | ⟨b, o, rfl, hlt, h⟩
  · cases he
  · obtain ⟨i, hi, rfl⟩ := List.getElem_of_mem he
    obtain ⟨cs, h1, h2, h3⟩ := h i hi
    exact h3.2
def isPq (w : World) (cs : List Value) (k : PipeQ) : Prop := ∃ ao co an cn, cs = [.slice ao k.ops.length co, .slice an k.ns.length cn, .int .i64 k.size, .int .i64 k.slide, .int .i64 k.agg, .int .i64 k.sink, .int .i64 k.feed] ∧ SlAt 1 (flat (intC .i64)) w ao k.ops ∧ SlAt 1 (flat (intC .i64)) w an k.ns ∧ k.wf
set_option maxRecDepth 20000 in
theorem Rdr_pq {H : Type} {enc : TypeId × Value → H} : Rdr enc Try.prog 56 isPq := by
  intro w fuel cs x h
  obtain ⟨xs, n, _, _, hl, hxl, hf⟩ := DataW.trod_struct Try.underlying56 h
  rw [show Try.prog.cellsOf 56 = 7 by kernel_rfl] at hl
  have f0 := hf 0 _ rfl
  have f1 := hf 1 _ rfl
  have f2 := hf 2 _ rfl
  have f3 := hf 3 _ rfl
  have f4 := hf 4 _ rfl
  have f5 := hf 5 _ rfl
  have f6 := hf 6 _ rfl
  match xs, hxl with
  | [y0, y1, y2, y3, y4, y5, y6], _ =>
    match cs, hl with
    | [c0, c1, c2, c3, c4, c5, c6], _ =>
      simp only [List.getElem_toArray, List.getElem_cons_succ, List.getElem_cons_zero] at f0 f1 f2 f3 f4 f5 f6
      rw [show Try.prog.cellsOf 3 = 1 by kernel_rfl] at f2 f3 f4 f5 f6
      rw [show Try.prog.cellsOf 54 = 1 by kernel_rfl] at f0 f1
      obtain ⟨l0, a0, k0, e0, _, m0, _, s0⟩ := Rdr.slice Try.underlying54 1 (by kernel_rfl) (by decide) (Rdr.int Try.underlying3) w _ _ _ f0
      obtain ⟨l1, a1, k1, e1, _, m1, _, s1⟩ := Rdr.slice Try.underlying54 1 (by kernel_rfl) (by decide) (Rdr.int Try.underlying3) w _ _ _ f1
      obtain ⟨n2, e2, _, w2⟩ := DataW.trod_int Try.underlying3 f2
      obtain ⟨n3, e3, _, w3⟩ := DataW.trod_int Try.underlying3 f3
      obtain ⟨n4, e4, _, w4⟩ := DataW.trod_int Try.underlying3 f4
      obtain ⟨n5, e5, _, w5⟩ := DataW.trod_int Try.underlying3 f5
      obtain ⟨n6, e6, _, w6⟩ := DataW.trod_int Try.underlying3 f6
      simp at e0 e1 e2 e3 e4 e5 e6
      subst e0 e1 e2 e3 e4 e5 e6
      exact ⟨⟨l0, l1, n2, n3, n4, n5, n6⟩, a0, k0, a1, k1, rfl, s0.ints.1, s1.ints.1, s0.ints.2, s1.ints.2, w2, w3, w4, w5, w6, by dsimp only; omega, by dsimp only; omega⟩
end Go.Proofs.Ythegopajkljlmaa
