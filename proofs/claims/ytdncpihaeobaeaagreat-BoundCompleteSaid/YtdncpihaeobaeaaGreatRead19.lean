/- How numbers of acts, sinks and setups read. -/
import Derived.Test.YtdncpihaeobaeaaGreatAnsLen
set_option linter.unusedVariables false
namespace Go.Proofs.YtdncpihaeobaeaaGreat
open Go.RowKit Go.Maps Go.ChangeShapes Go.WideShapes Go.ChangeAt
/-- Numbers of an act, with the places of its lists. -/
structure ActQR where
  kind : Int
  tenant : Int
  fr : Int
  n : Int
  oa : Option Addr
  oc : Nat
  na : Option Addr
  nc : Nat
  p : PipeQ
  i : InQ
def ActQR.q (a : ActQR) : ActQ := ⟨a.kind, a.tenant, a.fr, a.n, a.p, a.i⟩
def ActQR.cells (a : ActQR) : List Value := [.int .i64 a.kind, .int .i64 a.tenant, .int .i64 a.fr, .int .i64 a.n, .slice a.oa a.p.ops.length a.oc, .slice a.na a.p.ns.length a.nc, .int .i64 a.p.size, .int .i64 a.p.slide, .int .i64 a.p.agg, .int .i64 a.p.sink, .int .i64 a.p.feed, .int .i64 a.i.time, .int .i64 a.i.key, .int .i64 a.i.value, .int .i64 a.i.mark]
theorem ActQR.len (a : ActQR) : a.cells.length = 15 := rfl
def ActQR.at (w : World) (a : ActQR) : Prop := SlAt 1 (flat (intC .i64)) w a.oa a.p.ops ∧ SlAt 1 (flat (intC .i64)) w a.na a.p.ns ∧ a.q.wf
def isAq (w : World) (cs : List Value) (a : ActQR) : Prop := cs = a.cells ∧ a.at w
set_option maxRecDepth 20000 in
theorem Rdr_aq {H : Type} {enc : TypeId × Value → H} : Rdr enc Tryz.prog 106 isAq := by
  intro w fuel cs x h
  obtain ⟨xs, n, _, _, hl, hxl, hf⟩ := DataW.trod_struct Tryz.underlying106 h
  rw [show Tryz.prog.cellsOf 106 = 15 by kernel_rfl] at hl
  have f0 := hf 0 _ rfl
  have f1 := hf 1 _ rfl
  have f2 := hf 2 _ rfl
  have f3 := hf 3 _ rfl
  have f4 := hf 4 _ rfl
  have f5 := hf 5 _ rfl
  match xs, hxl with
  | [y0, y1, y2, y3, y4, y5], _ =>
    match cs, hl with
    | [c0, c1, c2, c3, c4, c5, c6, c7, c8, c9, c10, c11, c12, c13, c14], _ =>
      simp only [List.getElem_toArray, List.getElem_cons_succ, List.getElem_cons_zero] at f0 f1 f2 f3 f4 f5
      rw [show Tryz.prog.cellsOf 3 = 1 by kernel_rfl] at f0 f1 f2 f3
      rw [show Tryz.prog.cellsOf 102 = 7 by kernel_rfl] at f4
      rw [show Tryz.prog.cellsOf 104 = 4 by kernel_rfl] at f5
      obtain ⟨n0, e0, _, w0⟩ := DataW.trod_int Tryz.underlying3 f0
      obtain ⟨n1, e1, _, w1⟩ := DataW.trod_int Tryz.underlying3 f1
      obtain ⟨n2, e2, _, w2⟩ := DataW.trod_int Tryz.underlying3 f2
      obtain ⟨n3, e3, _, w3⟩ := DataW.trod_int Tryz.underlying3 f3
      obtain ⟨k4, ao, co, an, cn, e4, s4, t4, w4⟩ := Rdr_pq w _ _ _ f4
      obtain ⟨k5, e5, w5⟩ := Rdr_iq w _ _ _ f5
      simp [InQ.cells] at e0 e1 e2 e3 e4 e5
      obtain ⟨rfl, rfl, rfl, rfl, rfl, rfl, rfl⟩ := e4
      obtain ⟨rfl, rfl, rfl, rfl⟩ := e5
      subst e0 e1 e2 e3
      exact ⟨⟨n0, n1, n2, n3, ao, co, an, cn, k4, k5⟩, rfl, s4, t4, w0, w1, w2, w3, w4, w5⟩
theorem SlAt.aq {w : World} {a : Option Addr} {l : List ActQR} (h : SlAt 15 isAq w a l) : SlAt 15 (flat ActQR.cells) w a l ∧ ∀ e ∈ l, e.at w := by
  refine ⟨h.imp fun cs x h => h.1, fun e he => ?_⟩
  rcases h with rfl | ⟨b, o, rfl, hlt, h⟩
  · cases he
  · obtain ⟨i, hi, rfl⟩ := List.getElem_of_mem he
    obtain ⟨cs, h1, h2, h3⟩ := h i hi
    exact h3.2
def isSkq (w : World) (cs : List Value) (q : SinkQ) : Prop := cs = q.cells ∧ q.wf
set_option maxRecDepth 20000 in
theorem Rdr_skq {H : Type} {enc : TypeId × Value → H} : Rdr enc Tryz.prog 144 isSkq := by
  intro w fuel cs x h
  obtain ⟨xs, n, _, _, hl, hxl, hf⟩ := DataW.trod_struct Tryz.underlying144 h
  rw [show Tryz.prog.cellsOf 144 = 5 by kernel_rfl] at hl
  have f0 := hf 0 _ rfl
  have f1 := hf 1 _ rfl
  have f2 := hf 2 _ rfl
  have f3 := hf 3 _ rfl
  have f4 := hf 4 _ rfl
  match xs, hxl with
  | [y0, y1, y2, y3, y4], _ =>
    match cs, hl with
    | [c0, c1, c2, c3, c4], _ =>
      simp only [List.getElem_toArray, List.getElem_cons_succ, List.getElem_cons_zero] at f0 f1 f2 f3 f4
      rw [show Tryz.prog.cellsOf 3 = 1 by kernel_rfl] at f0 f1 f2 f3 f4
      obtain ⟨n0, e0, _, w0⟩ := DataW.trod_int Tryz.underlying3 f0
      obtain ⟨n1, e1, _, w1⟩ := DataW.trod_int Tryz.underlying3 f1
      obtain ⟨n2, e2, _, w2⟩ := DataW.trod_int Tryz.underlying3 f2
      obtain ⟨n3, e3, _, w3⟩ := DataW.trod_int Tryz.underlying3 f3
      obtain ⟨n4, e4, _, w4⟩ := DataW.trod_int Tryz.underlying3 f4
      simp at e0 e1 e2 e3 e4
      subst e0 e1 e2 e3 e4
      exact ⟨⟨n0, n1, n2, n3, n4⟩, rfl, w0, w1, w2, w3, w4⟩
theorem SlAt.skq {w : World} {a : Option Addr} {l : List SinkQ} (h : SlAt 5 isSkq w a l) : SlAt 5 (flat SinkQ.cells) w a l ∧ ∀ e ∈ l, e.wf := by
  refine ⟨h.imp fun cs x h => h.1, fun e he => ?_⟩
  rcases h with rfl | ⟨b, o, rfl, hlt, h⟩
  · cases he
  · obtain ⟨i, hi, rfl⟩ := List.getElem_of_mem he
    obtain ⟨cs, h1, h2, h3⟩ := h i hi
    exact h3.2
def isStq (w : World) (cs : List Value) (k : SetQ) : Prop := ∃ sa sc, cs = [.int .i64 k.budget, .int .i64 k.room, .int .i64 k.quota, .slice sa k.sinks.length sc] ∧ SlAt 5 (flat SinkQ.cells) w sa k.sinks ∧ k.wf ∧ k.sinks.length ≤ maxLen
set_option maxRecDepth 20000 in
theorem Rdr_stq {H : Type} {enc : TypeId × Value → H} : Rdr enc Tryz.prog 24 isStq := by
  intro w fuel cs x h
  obtain ⟨xs, n, _, _, hl, hxl, hf⟩ := DataW.trod_struct Tryz.underlying24 h
  rw [show Tryz.prog.cellsOf 24 = 4 by kernel_rfl] at hl
  have f0 := hf 0 _ rfl
  have f1 := hf 1 _ rfl
  have f2 := hf 2 _ rfl
  have f3 := hf 3 _ rfl
  match xs, hxl with
  | [y0, y1, y2, y3], _ =>
    match cs, hl with
    | [c0, c1, c2, c3], _ =>
      simp only [List.getElem_toArray, List.getElem_cons_succ, List.getElem_cons_zero] at f0 f1 f2 f3
      rw [show Tryz.prog.cellsOf 3 = 1 by kernel_rfl] at f0 f1 f2
      rw [show Tryz.prog.cellsOf 22 = 1 by kernel_rfl] at f3
      obtain ⟨n0, e0, _, w0⟩ := DataW.trod_int Tryz.underlying3 f0
      obtain ⟨n1, e1, _, w1⟩ := DataW.trod_int Tryz.underlying3 f1
      obtain ⟨n2, e2, _, w2⟩ := DataW.trod_int Tryz.underlying3 f2
      obtain ⟨l3, a3, k3, e3, _, m3, _, s3⟩ := Rdr.slice Tryz.underlying22 5 (by kernel_rfl) (by decide) Rdr_skq w _ _ _ f3
      simp at e0 e1 e2 e3
      subst e0 e1 e2 e3
      exact ⟨⟨n0, n1, n2, l3⟩, a3, k3, rfl, s3.skq.1, ⟨w0, w1, w2, s3.skq.2⟩, by dsimp only; omega⟩
end Go.Proofs.YtdncpihaeobaeaaGreat
