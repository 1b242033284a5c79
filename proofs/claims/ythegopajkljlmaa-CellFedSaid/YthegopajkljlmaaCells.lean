/- The cells of a block of so many cells, in a world behind. -/
import Derived.Test.YthegopajkljlmaaOper
set_option linter.unusedVariables false
namespace Go.Proofs.Ythegopajkljlmaa
open Go.RowKit
theorem cells1 {w w' : World} {g : Nat} {v0 : Value} {T : TypeId} (h : w.heap[g]? = some (.cells #[v0] T (0, 0))) (hb : Below w.heap.size w w') : w'.cell? ⟨g, 0, none⟩ = some v0 := by
  obtain ⟨q, _⟩ := blkCells h
  have hlt := (Array.getElem?_eq_some_iff.1 h).1
  exact (Below.cell hb hlt).trans ((q 0).trans rfl)
theorem cells2 {w w' : World} {g : Nat} {v0 v1 : Value} {T : TypeId} (h : w.heap[g]? = some (.cells #[v0, v1] T (0, 0))) (hb : Below w.heap.size w w') : w'.cell? ⟨g, 0, none⟩ = some v0 ∧ w'.cell? ⟨g, 1, none⟩ = some v1 := by
  obtain ⟨q, _⟩ := blkCells h
  have hlt := (Array.getElem?_eq_some_iff.1 h).1
  exact ⟨(Below.cell hb hlt).trans ((q 0).trans rfl), (Below.cell hb hlt).trans ((q 1).trans rfl)⟩
theorem cells3 {w w' : World} {g : Nat} {v0 v1 v2 : Value} {T : TypeId} (h : w.heap[g]? = some (.cells #[v0, v1, v2] T (0, 0))) (hb : Below w.heap.size w w') : w'.cell? ⟨g, 0, none⟩ = some v0 ∧ w'.cell? ⟨g, 1, none⟩ = some v1 ∧ w'.cell? ⟨g, 2, none⟩ = some v2 := by
  obtain ⟨q, _⟩ := blkCells h
  have hlt := (Array.getElem?_eq_some_iff.1 h).1
  exact ⟨(Below.cell hb hlt).trans ((q 0).trans rfl), (Below.cell hb hlt).trans ((q 1).trans rfl), (Below.cell hb hlt).trans ((q 2).trans rfl)⟩
theorem cells4 {w w' : World} {g : Nat} {v0 v1 v2 v3 : Value} {T : TypeId} (h : w.heap[g]? = some (.cells #[v0, v1, v2, v3] T (0, 0))) (hb : Below w.heap.size w w') : w'.cell? ⟨g, 0, none⟩ = some v0 ∧ w'.cell? ⟨g, 1, none⟩ = some v1 ∧ w'.cell? ⟨g, 2, none⟩ = some v2 ∧ w'.cell? ⟨g, 3, none⟩ = some v3 := by
  obtain ⟨q, _⟩ := blkCells h
  have hlt := (Array.getElem?_eq_some_iff.1 h).1
  exact ⟨(Below.cell hb hlt).trans ((q 0).trans rfl), (Below.cell hb hlt).trans ((q 1).trans rfl), (Below.cell hb hlt).trans ((q 2).trans rfl), (Below.cell hb hlt).trans ((q 3).trans rfl)⟩
theorem cells5 {w w' : World} {g : Nat} {v0 v1 v2 v3 v4 : Value} {T : TypeId} (h : w.heap[g]? = some (.cells #[v0, v1, v2, v3, v4] T (0, 0))) (hb : Below w.heap.size w w') : w'.cell? ⟨g, 0, none⟩ = some v0 ∧ w'.cell? ⟨g, 1, none⟩ = some v1 ∧ w'.cell? ⟨g, 2, none⟩ = some v2 ∧ w'.cell? ⟨g, 3, none⟩ = some v3 ∧ w'.cell? ⟨g, 4, none⟩ = some v4 := by
  obtain ⟨q, _⟩ := blkCells h
  have hlt := (Array.getElem?_eq_some_iff.1 h).1
  exact ⟨(Below.cell hb hlt).trans ((q 0).trans rfl), (Below.cell hb hlt).trans ((q 1).trans rfl), (Below.cell hb hlt).trans ((q 2).trans rfl), (Below.cell hb hlt).trans ((q 3).trans rfl), (Below.cell hb hlt).trans ((q 4).trans rfl)⟩
theorem cells6 {w w' : World} {g : Nat} {v0 v1 v2 v3 v4 v5 : Value} {T : TypeId} (h : w.heap[g]? = some (.cells #[v0, v1, v2, v3, v4, v5] T (0, 0))) (hb : Below w.heap.size w w') : w'.cell? ⟨g, 0, none⟩ = some v0 ∧ w'.cell? ⟨g, 1, none⟩ = some v1 ∧ w'.cell? ⟨g, 2, none⟩ = some v2 ∧ w'.cell? ⟨g, 3, none⟩ = some v3 ∧ w'.cell? ⟨g, 4, none⟩ = some v4 ∧ w'.cell? ⟨g, 5, none⟩ = some v5 := by
  obtain ⟨q, _⟩ := blkCells h
  have hlt := (Array.getElem?_eq_some_iff.1 h).1
  exact ⟨(Below.cell hb hlt).trans ((q 0).trans rfl), (Below.cell hb hlt).trans ((q 1).trans rfl), (Below.cell hb hlt).trans ((q 2).trans rfl), (Below.cell hb hlt).trans ((q 3).trans rfl), (Below.cell hb hlt).trans ((q 4).trans rfl), (Below.cell hb hlt).trans ((q 5).trans rfl)⟩
theorem cells7 {w w' : World} {g : Nat} {v0 v1 v2 v3 v4 v5 v6 : Value} {T : TypeId} (h : w.heap[g]? = some (.cells #[v0, v1, v2, v3, v4, v5, v6] T (0, 0))) (hb : Below w.heap.size w w') : w'.cell? ⟨g, 0, none⟩ = some v0 ∧ w'.cell? ⟨g, 1, none⟩ = some v1 ∧ w'.cell? ⟨g, 2, none⟩ = some v2 ∧ w'.cell? ⟨g, 3, none⟩ = some v3 ∧ w'.cell? ⟨g, 4, none⟩ = some v4 ∧ w'.cell? ⟨g, 5, none⟩ = some v5 ∧ w'.cell? ⟨g, 6, none⟩ = some v6 := by
  obtain ⟨q, _⟩ := blkCells h
  have hlt := (Array.getElem?_eq_some_iff.1 h).1
  exact ⟨(Below.cell hb hlt).trans ((q 0).trans rfl), (Below.cell hb hlt).trans ((q 1).trans rfl), (Below.cell hb hlt).trans ((q 2).trans rfl), (Below.cell hb hlt).trans ((q 3).trans rfl), (Below.cell hb hlt).trans ((q 4).trans rfl), (Below.cell hb hlt).trans ((q 5).trans rfl), (Below.cell hb hlt).trans ((q 6).trans rfl)⟩
theorem cells8 {w w' : World} {g : Nat} {v0 v1 v2 v3 v4 v5 v6 v7 : Value} {T : TypeId} (h : w.heap[g]? = some (.cells #[v0, v1, v2, v3, v4, v5, v6, v7] T (0, 0))) (hb : Below w.heap.size w w') : w'.cell? ⟨g, 0, none⟩ = some v0 ∧ w'.cell? ⟨g, 1, none⟩ = some v1 ∧ w'.cell? ⟨g, 2, none⟩ = some v2 ∧ w'.cell? ⟨g, 3, none⟩ = some v3 ∧ w'.cell? ⟨g, 4, none⟩ = some v4 ∧ w'.cell? ⟨g, 5, none⟩ = some v5 ∧ w'.cell? ⟨g, 6, none⟩ = some v6 ∧ w'.cell? ⟨g, 7, none⟩ = some v7 := by
  obtain ⟨q, _⟩ := blkCells h
  have hlt := (Array.getElem?_eq_some_iff.1 h).1
  exact ⟨(Below.cell hb hlt).trans ((q 0).trans rfl), (Below.cell hb hlt).trans ((q 1).trans rfl), (Below.cell hb hlt).trans ((q 2).trans rfl), (Below.cell hb hlt).trans ((q 3).trans rfl), (Below.cell hb hlt).trans ((q 4).trans rfl), (Below.cell hb hlt).trans ((q 5).trans rfl), (Below.cell hb hlt).trans ((q 6).trans rfl), (Below.cell hb hlt).trans ((q 7).trans rfl)⟩
theorem cells9 {w w' : World} {g : Nat} {v0 v1 v2 v3 v4 v5 v6 v7 v8 : Value} {T : TypeId} (h : w.heap[g]? = some (.cells #[v0, v1, v2, v3, v4, v5, v6, v7, v8] T (0, 0))) (hb : Below w.heap.size w w') : w'.cell? ⟨g, 0, none⟩ = some v0 ∧ w'.cell? ⟨g, 1, none⟩ = some v1 ∧ w'.cell? ⟨g, 2, none⟩ = some v2 ∧ w'.cell? ⟨g, 3, none⟩ = some v3 ∧ w'.cell? ⟨g, 4, none⟩ = some v4 ∧ w'.cell? ⟨g, 5, none⟩ = some v5 ∧ w'.cell? ⟨g, 6, none⟩ = some v6 ∧ w'.cell? ⟨g, 7, none⟩ = some v7 ∧ w'.cell? ⟨g, 8, none⟩ = some v8 := by
  obtain ⟨q, _⟩ := blkCells h
  have hlt := (Array.getElem?_eq_some_iff.1 h).1
  exact ⟨(Below.cell hb hlt).trans ((q 0).trans rfl), (Below.cell hb hlt).trans ((q 1).trans rfl), (Below.cell hb hlt).trans ((q 2).trans rfl), (Below.cell hb hlt).trans ((q 3).trans rfl), (Below.cell hb hlt).trans ((q 4).trans rfl), (Below.cell hb hlt).trans ((q 5).trans rfl), (Below.cell hb hlt).trans ((q 6).trans rfl), (Below.cell hb hlt).trans ((q 7).trans rfl), (Below.cell hb hlt).trans ((q 8).trans rfl)⟩
theorem cells10 {w w' : World} {g : Nat} {v0 v1 v2 v3 v4 v5 v6 v7 v8 v9 : Value} {T : TypeId} (h : w.heap[g]? = some (.cells #[v0, v1, v2, v3, v4, v5, v6, v7, v8, v9] T (0, 0))) (hb : Below w.heap.size w w') : w'.cell? ⟨g, 0, none⟩ = some v0 ∧ w'.cell? ⟨g, 1, none⟩ = some v1 ∧ w'.cell? ⟨g, 2, none⟩ = some v2 ∧ w'.cell? ⟨g, 3, none⟩ = some v3 ∧ w'.cell? ⟨g, 4, none⟩ = some v4 ∧ w'.cell? ⟨g, 5, none⟩ = some v5 ∧ w'.cell? ⟨g, 6, none⟩ = some v6 ∧ w'.cell? ⟨g, 7, none⟩ = some v7 ∧ w'.cell? ⟨g, 8, none⟩ = some v8 ∧ w'.cell? ⟨g, 9, none⟩ = some v9 := by
  obtain ⟨q, _⟩ := blkCells h
  have hlt := (Array.getElem?_eq_some_iff.1 h).1
  exact ⟨(Below.cell hb hlt).trans ((q 0).trans rfl), (Below.cell hb hlt).trans ((q 1).trans rfl), (Below.cell hb hlt).trans ((q 2).trans rfl), (Below.cell hb hlt).trans ((q 3).trans rfl), (Below.cell hb hlt).trans ((q 4).trans rfl), (Below.cell hb hlt).trans ((q 5).trans rfl), (Below.cell hb hlt).trans ((q 6).trans rfl), (Below.cell hb hlt).trans ((q 7).trans rfl), (Below.cell hb hlt).trans ((q 8).trans rfl), (Below.cell hb hlt).trans ((q 9).trans rfl)⟩
theorem cells11 {w w' : World} {g : Nat} {v0 v1 v2 v3 v4 v5 v6 v7 v8 v9 v10 : Value} {T : TypeId} (h : w.heap[g]? = some (.cells #[v0, v1, v2, v3, v4, v5, v6, v7, v8, v9, v10] T (0, 0))) (hb : Below w.heap.size w w') : w'.cell? ⟨g, 0, none⟩ = some v0 ∧ w'.cell? ⟨g, 1, none⟩ = some v1 ∧ w'.cell? ⟨g, 2, none⟩ = some v2 ∧ w'.cell? ⟨g, 3, none⟩ = some v3 ∧ w'.cell? ⟨g, 4, none⟩ = some v4 ∧ w'.cell? ⟨g, 5, none⟩ = some v5 ∧ w'.cell? ⟨g, 6, none⟩ = some v6 ∧ w'.cell? ⟨g, 7, none⟩ = some v7 ∧ w'.cell? ⟨g, 8, none⟩ = some v8 ∧ w'.cell? ⟨g, 9, none⟩ = some v9 ∧ w'.cell? ⟨g, 10, none⟩ = some v10 := by
  obtain ⟨q, _⟩ := blkCells h
  have hlt := (Array.getElem?_eq_some_iff.1 h).1
  exact ⟨(Below.cell hb hlt).trans ((q 0).trans rfl), (Below.cell hb hlt).trans ((q 1).trans rfl), (Below.cell hb hlt).trans ((q 2).trans rfl), (Below.cell hb hlt).trans ((q 3).trans rfl), (Below.cell hb hlt).trans ((q 4).trans rfl), (Below.cell hb hlt).trans ((q 5).trans rfl), (Below.cell hb hlt).trans ((q 6).trans rfl), (Below.cell hb hlt).trans ((q 7).trans rfl), (Below.cell hb hlt).trans ((q 8).trans rfl), (Below.cell hb hlt).trans ((q 9).trans rfl), (Below.cell hb hlt).trans ((q 10).trans rfl)⟩
theorem cells12 {w w' : World} {g : Nat} {v0 v1 v2 v3 v4 v5 v6 v7 v8 v9 v10 v11 : Value} {T : TypeId} (h : w.heap[g]? = some (.cells #[v0, v1, v2, v3, v4, v5, v6, v7, v8, v9, v10, v11] T (0, 0))) (hb : Below w.heap.size w w') : w'.cell? ⟨g, 0, none⟩ = some v0 ∧ w'.cell? ⟨g, 1, none⟩ = some v1 ∧ w'.cell? ⟨g, 2, none⟩ = some v2 ∧ w'.cell? ⟨g, 3, none⟩ = some v3 ∧ w'.cell? ⟨g, 4, none⟩ = some v4 ∧ w'.cell? ⟨g, 5, none⟩ = some v5 ∧ w'.cell? ⟨g, 6, none⟩ = some v6 ∧ w'.cell? ⟨g, 7, none⟩ = some v7 ∧ w'.cell? ⟨g, 8, none⟩ = some v8 ∧ w'.cell? ⟨g, 9, none⟩ = some v9 ∧ w'.cell? ⟨g, 10, none⟩ = some v10 ∧ w'.cell? ⟨g, 11, none⟩ = some v11 := by
  obtain ⟨q, _⟩ := blkCells h
  have hlt := (Array.getElem?_eq_some_iff.1 h).1
  exact ⟨(Below.cell hb hlt).trans ((q 0).trans rfl), (Below.cell hb hlt).trans ((q 1).trans rfl), (Below.cell hb hlt).trans ((q 2).trans rfl), (Below.cell hb hlt).trans ((q 3).trans rfl), (Below.cell hb hlt).trans ((q 4).trans rfl), (Below.cell hb hlt).trans ((q 5).trans rfl), (Below.cell hb hlt).trans ((q 6).trans rfl), (Below.cell hb hlt).trans ((q 7).trans rfl), (Below.cell hb hlt).trans ((q 8).trans rfl), (Below.cell hb hlt).trans ((q 9).trans rfl), (Below.cell hb hlt).trans ((q 10).trans rfl), (Below.cell hb hlt).trans ((q 11).trans rfl)⟩
end Go.Proofs.Ythegopajkljlmaa
