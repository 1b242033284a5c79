/- Events and rows: their cells. -/
import Derived.Test.YthegopajkljlmaaOwn
import Derived.Lib.SmallJoins
set_option linter.unusedVariables false
namespace Go.Proofs.Ythegopajkljlmaa
open Go.ChangeShapes Go.WideShapes Go.ChangeAt Go.RowKit
/-- An event's four numbers. -/
structure Ev where
  time : Int
  key : Int
  value : Int
  label : Int
deriving DecidableEq
def Ev.cells (e : Ev) : List Value := [.int .i64 e.time, .int .i64 e.key, .int .i64 e.value, .int .u64 e.label]
def Ev.zero : Ev := ⟨0, 0, 0, 0⟩
def Ev.wf (e : Ev) : Prop := (Lit.int .i64 e.time).wf = true ∧ (Lit.int .i64 e.key).wf = true ∧ (Lit.int .i64 e.value).wf = true ∧ (Lit.int .u64 e.label).wf = true
theorem Ev.len (e : Ev) : e.cells.length = 4 := rfl
theorem Ev.one (e : Ev) : ∀ u ∈ e.cells, u.oneCell' = true := by intro u hu; simp [Ev.cells] at hu; rcases hu with rfl | rfl | rfl | rfl <;> rfl
theorem evInfo : ∃ i, Try.prog.info? 31 = some i ∧ i.zero = some (.agg #[.int .i64 0, .int .i64 0, .int .i64 0, .int .u64 0]) ∧ i.size = 4 ∧ i.bytes = 32 := info_parts (by kernel_rfl)
def isEv (w : World) (cs : List Value) (e : Ev) : Prop := cs = e.cells ∧ e.wf
set_option maxRecDepth 20000 in
theorem Rdr_ev {H : Type} {enc : TypeId × Value → H} : Rdr enc Try.prog 31 isEv := by
  intro w fuel cs x h
  obtain ⟨y0, y1, y2, y3, n, hx, hl, h0, h1, h2, h3⟩ := Go.Joins.trod_struct4 Try.underlying31 h
  rw [show Try.prog.cellsOf 31 = 4 by kernel_rfl] at hl
  match cs, hl with
  | [c0, c1, c2, c3], _ =>
    rw [show Try.prog.cellsOf 3 = 1 by kernel_rfl] at h0 h1 h2
    rw [show Try.prog.cellsOf 29 = 1 by kernel_rfl] at h3
    obtain ⟨n0, e0, _, w0⟩ := DataW.trod_int Try.underlying3 h0
    obtain ⟨n1, e1, _, w1⟩ := DataW.trod_int Try.underlying3 h1
    obtain ⟨n2, e2, _, w2⟩ := DataW.trod_int Try.underlying3 h2
    obtain ⟨n3, e3, _, w3⟩ := DataW.trod_int Try.underlying29 h3
    simp at e0 e1 e2 e3
    subst e0 e1 e2 e3
    exact ⟨⟨n0, n1, n2, n3⟩, rfl, w0, w1, w2, w3⟩
/-- What is well formed, beside its cells. -/
theorem SlAt.both {w : World} {a : Option Addr} {l : List Ev} (h : SlAt 4 isEv w a l) : SlAt 4 (flat Ev.cells) w a l ∧ ∀ e ∈ l, e.wf := by
  refine ⟨h.imp fun _ _ hx => hx.1, ?_⟩
  rcases h with rfl | ⟨b, o, rfl, hlt, h⟩
  · simp
  · intro e he
    obtain ⟨i, hi, rfl⟩ := List.getElem_of_mem he
    obtain ⟨cs, _, _, h3⟩ := h i hi
    exact h3.2
/-- A slice of events: cell by cell. -/
theorem SlAt.evAt {w : World} {a : Option Addr} {l : List Ev} (h : SlAt 4 (flat Ev.cells) w a l) (k : Nat) (hk : k < l.length) :
    ∃ b o, a = some ⟨b, o, none⟩ ∧ b < w.heap.size ∧ w.cell? ⟨b, o + k * 4, none⟩ = some (.int .i64 (l[k]?.getD Ev.zero).time) ∧ w.cell? ⟨b, o + k * 4 + 1, none⟩ = some (.int .i64 (l[k]?.getD Ev.zero).key) ∧
      w.cell? ⟨b, o + k * 4 + 2, none⟩ = some (.int .i64 (l[k]?.getD Ev.zero).value) ∧ w.cell? ⟨b, o + k * 4 + 3, none⟩ = some (.int .u64 (l[k]?.getD Ev.zero).label) := by
  rcases h with rfl | ⟨b, o, rfl, hlt, h⟩
  · simp at hk
  · obtain ⟨cs, h1, h2, h3⟩ := h k hk
    rw [List.getElem?_eq_getElem hk]
    unfold flat at h3
    subst h3
    exact ⟨b, o, rfl, hlt, by simpa [Ev.cells] using h2 0 (by omega), by simpa [Ev.cells] using h2 1 (by omega), by simpa [Ev.cells] using h2 2 (by omega), by simpa [Ev.cells] using h2 3 (by omega)⟩
/-- A row's five numbers. -/
structure Rw where
  start : Int
  key : Int
  value : Int
  count : Int
  label : Int
deriving DecidableEq
def Rw.zero : Rw := ⟨0, 0, 0, 0, 0⟩
def Rw.cells (r : Rw) : List Value := [.int .i64 r.start, .int .i64 r.key, .int .i64 r.value, .int .i64 r.count, .int .u64 r.label]
theorem Rw.len (e : Rw) : e.cells.length = 5 := rfl
theorem Rw.one (e : Rw) : ∀ u ∈ e.cells, u.oneCell' = true := by intro u hu; simp [Rw.cells] at hu; rcases hu with rfl | rfl | rfl | rfl | rfl <;> rfl
theorem rwInfo : ∃ i, Try.prog.info? 43 = some i ∧ i.zero = some (.agg #[.int .i64 0, .int .i64 0, .int .i64 0, .int .i64 0, .int .u64 0]) ∧ i.size = 5 ∧ i.bytes = 40 := info_parts (by kernel_rfl)
theorem SlAt.rwAt {w : World} {a : Option Addr} {l : List Rw} (h : SlAt 5 (flat Rw.cells) w a l) (k : Nat) (hk : k < l.length) :
    ∃ b o, a = some ⟨b, o, none⟩ ∧ b < w.heap.size ∧ w.cell? ⟨b, o + k * 5, none⟩ = some (.int .i64 (l[k]?.getD Rw.zero).start) ∧ w.cell? ⟨b, o + k * 5 + 1, none⟩ = some (.int .i64 (l[k]?.getD Rw.zero).key) ∧
      w.cell? ⟨b, o + k * 5 + 2, none⟩ = some (.int .i64 (l[k]?.getD Rw.zero).value) ∧ w.cell? ⟨b, o + k * 5 + 3, none⟩ = some (.int .i64 (l[k]?.getD Rw.zero).count) ∧ w.cell? ⟨b, o + k * 5 + 4, none⟩ = some (.int .u64 (l[k]?.getD Rw.zero).label) := by
  rcases h with rfl | ⟨b, o, rfl, hlt, h⟩
  · simp at hk
  · obtain ⟨cs, h1, h2, h3⟩ := h k hk
    rw [List.getElem?_eq_getElem hk]
    unfold flat at h3
    subst h3
    exact ⟨b, o, rfl, hlt, by simpa [Rw.cells] using h2 0 (by omega), by simpa [Rw.cells] using h2 1 (by omega), by simpa [Rw.cells] using h2 2 (by omega), by simpa [Rw.cells] using h2 3 (by omega), by simpa [Rw.cells] using h2 4 (by omega)⟩
end Go.Proofs.Ythegopajkljlmaa
