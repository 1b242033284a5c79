/- Acts and setups that are made of numbers: plain words. -/
import Derived.Test.YtdncpihaeobaeaaGreatCoreLaw2
set_option linter.unusedVariables false
set_option linter.unusedSimpArgs false
namespace Go.Proofs.YtdncpihaeobaeaaGreat
open Go.RowKit
def Pp.zero : Pp := ⟨[], 0, 0, 0, 0, 0⟩
/-- An act with the place of its pipe's operations. -/
structure ActR where
  kind : Int
  tenant : Int
  fr : Int
  n : Int
  oa : Option Addr
  oc : Nat
  p : Pp
  i : Inp
def ActR.cells (a : ActR) : List Value := [.int .i64 a.kind, .int .i64 a.tenant, .int .i64 a.fr, .int .i64 a.n, .slice a.oa a.p.ops.length a.oc, .int .i64 a.p.size, .int .i64 a.p.slide, .int .i64 a.p.agg, .int .i64 a.p.sink, .int .i64 a.p.feed, .bool a.i.mark, .int .i64 a.i.ev.time, .int .i64 a.i.ev.key, .int .i64 a.i.ev.value, .int .u64 a.i.ev.label]
def ActR.val (a : ActR) : ActM := ⟨a.kind, a.tenant, a.fr, a.n, a.p, a.i⟩
theorem ActR.len (a : ActR) : a.cells.length = 15 := rfl
theorem ActR.one (a : ActR) : ∀ u ∈ a.cells, u.oneCell' = true := by
  intro u hu
  simp only [ActR.cells, List.mem_cons, List.not_mem_nil, or_false] at hu
  rcases hu with rfl | rfl | rfl | rfl | rfl | rfl | rfl | rfl | rfl | rfl | rfl | rfl | rfl | rfl | rfl <;> rfl
def actP (a : ActR) : HP := seeP 2 Opr.cells (.slice a.oa a.p.ops.length a.oc) a.p.ops
/-- What is asked of an act: numbers in range, operations that are numbers. -/
structure ActM.ok (a : ActM) : Prop where
  ops : ∀ o ∈ a.p.ops, o.wf
  ev : a.i.ev.wf
  fr0 : -4611686018427387904 ≤ a.fr
  fr1 : a.fr ≤ 4611686018427387904
  few : a.p.ops.length ≤ 1099511627776
/-- An answer with the places of what it tells. -/
structure AnsR where
  err : Int
  ra : Option Addr
  rc : Nat
  rows : List Rw
  ta : Option Addr
  tc : Nat
  told : List Rel
def AnsR.cells (a : AnsR) : List Value := [.int .i64 a.err, .slice a.ra a.rows.length a.rc, .slice a.ta a.told.length a.tc]
def AnsR.val (a : AnsR) : Ans := ⟨a.err, a.rows, a.told⟩
theorem AnsR.len (a : AnsR) : a.cells.length = 3 := rfl
theorem AnsR.one (a : AnsR) : ∀ u ∈ a.cells, u.oneCell' = true := by
  intro u hu
  simp only [AnsR.cells, List.mem_cons, List.not_mem_nil, or_false] at hu
  rcases hu with rfl | rfl | rfl <;> rfl
def ansP (a : AnsR) : HP := fun h => seeP 5 Rw.cells (.slice a.ra a.rows.length a.rc) a.rows h ∧ seeP 4 Rel.cells (.slice a.ta a.told.length a.tc) a.told h
/-- Numbers of which acts, sinks, setups are made. -/
structure ActQ where
  kind : Int
  tenant : Int
  fr : Int
  n : Int
  p : PipeQ
  i : InQ
def ActQ.wf (a : ActQ) : Prop := (Lit.int .i64 a.kind).wf = true ∧ (Lit.int .i64 a.tenant).wf = true ∧ (Lit.int .i64 a.fr).wf = true ∧ (Lit.int .i64 a.n).wf = true ∧ a.p.wf ∧ a.i.wf
structure SinkQ where
  fr : Int
  dst : Int
  least : Int
  agg : Int
  ticks : Int
def SinkQ.cells (q : SinkQ) : List Value := [.int .i64 q.fr, .int .i64 q.dst, .int .i64 q.least, .int .i64 q.agg, .int .i64 q.ticks]
theorem SinkQ.len (s : SinkQ) : s.cells.length = 5 := rfl
def SinkQ.wf (q : SinkQ) : Prop := (Lit.int .i64 q.fr).wf = true ∧ (Lit.int .i64 q.dst).wf = true ∧ (Lit.int .i64 q.least).wf = true ∧ (Lit.int .i64 q.agg).wf = true ∧ (Lit.int .i64 q.ticks).wf = true
structure SetQ where
  budget : Int
  room : Int
  quota : Int
  sinks : List SinkQ
def SetQ.wf (q : SetQ) : Prop := (Lit.int .i64 q.budget).wf = true ∧ (Lit.int .i64 q.room).wf = true ∧ (Lit.int .i64 q.quota).wf = true ∧ ∀ s ∈ q.sinks, s.wf
def sinkOf (k : SinkQ) : Sk := ⟨within k.fr 1 255, within k.dst 0 255, within k.least 2 4, within k.agg 1 4, within k.ticks 1 6⟩
def setOf (k : SetQ) : Su := ⟨within k.budget 1 4, within k.room 1 8, within k.quota 0 30, (k.sinks.take 2).map sinkOf⟩
def kindOf (n : Int) : Int := if within n 0 9 = 0 then 1 else if within n 0 9 ≤ 5 then 2 else if within n 0 9 ≤ 7 then 3 else if within n 0 9 = 8 then 4 else 5
def actOf (k : ActQ) : ActM := ⟨kindOf k.kind, within k.tenant 0 3, within k.fr (-1) 6, within k.n (-1) 9, if kindOf k.kind = 1 then pipeOf k.p else Pp.zero, if kindOf k.kind = 2 then inpOf k.i else Inp.zero⟩
def actsOf (l : List ActQ) : List ActM := (l.take 40).map actOf
theorem kindOf_range (n : Int) : 1 ≤ kindOf n ∧ kindOf n ≤ 5 := by
  unfold kindOf
  repeat' split
  all_goals omega
theorem actOf_ok (k : ActQ) : (actOf k).ok := by
  obtain ⟨hpr, hpo, hpl, hps1, hps2, hps3, hps4⟩ := pipeOf_right k.p
  have hf := within_range k.fr (-1) 6 (by omega)
  refine ⟨?_, ?_, by show _ ≤ within k.fr (-1) 6; omega, by show within k.fr (-1) 6 ≤ _; omega, ?_⟩
  · intro o ho
    simp only [actOf] at ho
    split at ho
    · exact hpo o ho
    · simp [Pp.zero] at ho
  · simp only [actOf]
    split
    · exact inpOf_wf k.i
    · exact ⟨by decide, by decide, by decide, by decide⟩
  · simp only [actOf]
    split
    · omega
    · simp [Pp.zero]
theorem actsOf_ok (l : List ActQ) : ∀ a ∈ actsOf l, a.ok := by
  intro a ha
  obtain ⟨k, _, rfl⟩ := List.mem_map.1 ha
  exact actOf_ok k
theorem actsOf_len (l : List ActQ) : (actsOf l).length ≤ 40 := by simp [actsOf]; omega
end Go.Proofs.YtdncpihaeobaeaaGreat
