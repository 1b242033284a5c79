/- Several texts of this seat, joined: Cells, Store, See, Clones, Queue, Cell, CellOps, CellMore, CellLast, CellTwin, CellNew, CellRuns, Offers, Bound. -/
import Derived.Test.YtdncpihaeobaeaaGreatK3
import Derived.Deep.RegionHeld3
set_option linter.unusedVariables false
set_option linter.unusedSimpArgs false
namespace Go.Proofs.YtdncpihaeobaeaaGreat
/- Cells -/
section
open Go.RowKit
theorem cells1 {w w' : World} {g : Nat} {v0 : Value} {T : TypeId} (h : w.heap[g]? = some (.cells #[v0] T (0, 0))) (hb : Below w.heap.size w w') : w'.cell? ⟨g, 0, none⟩ = some v0 := by
  obtain ⟨q, _⟩ := blkCells h
  have hlt := (Array.getElem?_eq_some_iff.1 h).1
  exact (Below.cell hb hlt).trans ((q 0).trans rfl)
theorem cells2 {w w' : World} {g : Nat} {v0 v1 : Value} {T : TypeId} (h : w.heap[g]? = some (.cells #[v0, v1] T (0, 0))) (hb : Below w.heap.size w w') : w'.cell? ⟨g, 0, none⟩ = some v0 ∧ w'.cell? ⟨g, 1, none⟩ = some v1 := by
  obtain ⟨q, _⟩ := blkCells h
  have hlt := (Array.getElem?_eq_some_iff.1 h).1
  exact ⟨(Below.cell hb hlt).trans ((q 0).trans rfl), (Below.cell hb hlt).trans ((q 1).trans rfl)⟩
theorem cells3 {w w' : World} {g : Nat} {v0 v1 v2 : Value} {T : TypeId} (h : w.heap[g]? = some (.cells #[v0, v1, v2] T (0, 0))) (hb : Below w.heap.size w w') : w'.cell? ⟨g, 0, none⟩ = some v0 ∧ w'.cell? ⟨g, 1, none⟩ = some v1 ∧ w'.cell? ⟨g, 2, none⟩ = some v2 := by
  obtain ⟨q, _⟩ := blkCells h
  have hlt := (Array.getElem?_eq_some_iff.1 h).1
  exact ⟨(Below.cell hb hlt).trans ((q 0).trans rfl), (Below.cell hb hlt).trans ((q 1).trans rfl), (Below.cell hb hlt).trans ((q 2).trans rfl)⟩
theorem cells4 {w w' : World} {g : Nat} {v0 v1 v2 v3 : Value} {T : TypeId} (h : w.heap[g]? = some (.cells #[v0, v1, v2, v3] T (0, 0))) (hb : Below w.heap.size w w') : w'.cell? ⟨g, 0, none⟩ = some v0 ∧ w'.cell? ⟨g, 1, none⟩ = some v1 ∧ w'.cell? ⟨g, 2, none⟩ = some v2 ∧ w'.cell? ⟨g, 3, none⟩ = some v3 := by
  obtain ⟨q, _⟩ := blkCells h
  have hlt := (Array.getElem?_eq_some_iff.1 h).1
  exact ⟨(Below.cell hb hlt).trans ((q 0).trans rfl), (Below.cell hb hlt).trans ((q 1).trans rfl), (Below.cell hb hlt).trans ((q 2).trans rfl), (Below.cell hb hlt).trans ((q 3).trans rfl)⟩
theorem cells5 {w w' : World} {g : Nat} {v0 v1 v2 v3 v4 : Value} {T : TypeId} (h : w.heap[g]? = some (.cells #[v0, v1, v2, v3, v4] T (0, 0))) (hb : Below w.heap.size w w') : w'.cell? ⟨g, 0, none⟩ = some v0 ∧ w'.cell? ⟨g, 1, none⟩ = some v1 ∧ w'.cell? ⟨g, 2, none⟩ = some v2 ∧ w'.cell? ⟨g, 3, none⟩ = some v3 ∧ w'.cell? ⟨g, 4, none⟩ = some v4 := by
  obtain ⟨q, _⟩ := blkCells h
  have hlt := (Array.getElem?_eq_some_iff.1 h).1
  exact ⟨(Below.cell hb hlt).trans ((q 0).trans rfl), (Below.cell hb hlt).trans ((q 1).trans rfl), (Below.cell hb hlt).trans ((q 2).trans rfl), (Below.cell hb hlt).trans ((q 3).trans rfl), (Below.cell hb hlt).trans ((q 4).trans rfl)⟩
theorem cells6 {w w' : World} {g : Nat} {v0 v1 v2 v3 v4 v5 : Value} {T : TypeId} (h : w.heap[g]? = some (.cells #[v0, v1, v2, v3, v4, v5] T (0, 0))) (hb : Below w.heap.size w w') : w'.cell? ⟨g, 0, none⟩ = some v0 ∧ w'.cell? ⟨g, 1, none⟩ = some v1 ∧ w'.cell? ⟨g, 2, none⟩ = some v2 ∧ w'.cell? ⟨g, 3, none⟩ = some v3 ∧ w'.cell? ⟨g, 4, none⟩ = some v4 ∧ w'.cell? ⟨g, 5, none⟩ = some v5 := by
  obtain ⟨q, _⟩ := blkCells h
  have hlt := (Array.getElem?_eq_some_iff.1 h).1
  exact ⟨(Below.cell hb hlt).trans ((q 0).trans rfl), (Below.cell hb hlt).trans ((q 1).trans rfl), (Below.cell hb hlt).trans ((q 2).trans rfl), (Below.cell hb hlt).trans ((q 3).trans rfl), (Below.cell hb hlt).trans ((q 4).trans rfl), (Below.cell hb hlt).trans ((q 5).trans rfl)⟩
theorem cells7 {w w' : World} {g : Nat} {v0 v1 v2 v3 v4 v5 v6 : Value} {T : TypeId} (h : w.heap[g]? = some (.cells #[v0, v1, v2, v3, v4, v5, v6] T (0, 0))) (hb : Below w.heap.size w w') : w'.cell? ⟨g, 0, none⟩ = some v0 ∧ w'.cell? ⟨g, 1, none⟩ = some v1 ∧ w'.cell? ⟨g, 2, none⟩ = some v2 ∧ w'.cell? ⟨g, 3, none⟩ = some v3 ∧ w'.cell? ⟨g, 4, none⟩ = some v4 ∧ w'.cell? ⟨g, 5, none⟩ = some v5 ∧ w'.cell? ⟨g, 6, none⟩ = some v6 := by
  obtain ⟨q, _⟩ := blkCells h
  have hlt := (Array.getElem?_eq_some_iff.1 h).1
  exact ⟨(Below.cell hb hlt).trans ((q 0).trans rfl), (Below.cell hb hlt).trans ((q 1).trans rfl), (Below.cell hb hlt).trans ((q 2).trans rfl), (Below.cell hb hlt).trans ((q 3).trans rfl), (Below.cell hb hlt).trans ((q 4).trans rfl), (Below.cell hb hlt).trans ((q 5).trans rfl), (Below.cell hb hlt).trans ((q 6).trans rfl)⟩
theorem cells8 {w w' : World} {g : Nat} {v0 v1 v2 v3 v4 v5 v6 v7 : Value} {T : TypeId} (h : w.heap[g]? = some (.cells #[v0, v1, v2, v3, v4, v5, v6, v7] T (0, 0))) (hb : Below w.heap.size w w') : w'.cell? ⟨g, 0, none⟩ = some v0 ∧ w'.cell? ⟨g, 1, none⟩ = some v1 ∧ w'.cell? ⟨g, 2, none⟩ = some v2 ∧ w'.cell? ⟨g, 3, none⟩ = some v3 ∧ w'.cell? ⟨g, 4, none⟩ = some v4 ∧ w'.cell? ⟨g, 5, none⟩ = some v5 ∧ w'.cell? ⟨g, 6, none⟩ = some v6 ∧ w'.cell? ⟨g, 7, none⟩ = some v7 := by
  obtain ⟨q, _⟩ := blkCells h
  have hlt := (Array.getElem?_eq_some_iff.1 h).1
  exact ⟨(Below.cell hb hlt).trans ((q 0).trans rfl), (Below.cell hb hlt).trans ((q 1).trans rfl), (Below.cell hb hlt).trans ((q 2).trans rfl), (Below.cell hb hlt).trans ((q 3).trans rfl), (Below.cell hb hlt).trans ((q 4).trans rfl), (Below.cell hb hlt).trans ((q 5).trans rfl), (Below.cell hb hlt).trans ((q 6).trans rfl), (Below.cell hb hlt).trans ((q 7).trans rfl)⟩
theorem cells9 {w w' : World} {g : Nat} {v0 v1 v2 v3 v4 v5 v6 v7 v8 : Value} {T : TypeId} (h : w.heap[g]? = some (.cells #[v0, v1, v2, v3, v4, v5, v6, v7, v8] T (0, 0))) (hb : Below w.heap.size w w') : w'.cell? ⟨g, 0, none⟩ = some v0 ∧ w'.cell? ⟨g, 1, none⟩ = some v1 ∧ w'.cell? ⟨g, 2, none⟩ = some v2 ∧ w'.cell? ⟨g, 3, none⟩ = some v3 ∧ w'.cell? ⟨g, 4, none⟩ = some v4 ∧ w'.cell? ⟨g, 5, none⟩ = some v5 ∧ w'.cell? ⟨g, 6, none⟩ = some v6 ∧ w'.cell? ⟨g, 7, none⟩ = some v7 ∧ w'.cell? ⟨g, 8, none⟩ = some v8 := by
  obtain ⟨q, _⟩ := blkCells h
  have hlt := (Array.getElem?_eq_some_iff.1 h).1
  exact ⟨(Below.cell hb hlt).trans ((q 0).trans rfl), (Below.cell hb hlt).trans ((q 1).trans rfl), (Below.cell hb hlt).trans ((q 2).trans rfl), (Below.cell hb hlt).trans ((q 3).trans rfl), (Below.cell hb hlt).trans ((q 4).trans rfl), (Below.cell hb hlt).trans ((q 5).trans rfl), (Below.cell hb hlt).trans ((q 6).trans rfl), (Below.cell hb hlt).trans ((q 7).trans rfl), (Below.cell hb hlt).trans ((q 8).trans rfl)⟩
theorem cells10 {w w' : World} {g : Nat} {v0 v1 v2 v3 v4 v5 v6 v7 v8 v9 : Value} {T : TypeId} (h : w.heap[g]? = some (.cells #[v0, v1, v2, v3, v4, v5, v6, v7, v8, v9] T (0, 0))) (hb : Below w.heap.size w w') : w'.cell? ⟨g, 0, none⟩ = some v0 ∧ w'.cell? ⟨g, 1, none⟩ = some v1 ∧ w'.cell? ⟨g, 2, none⟩ = some v2 ∧ w'.cell? ⟨g, 3, none⟩ = some v3 ∧ w'.cell? ⟨g, 4, none⟩ = some v4 ∧ w'.cell? ⟨g, 5, none⟩ = some v5 ∧ w'.cell? ⟨g, 6, none⟩ = some v6 ∧ w'.cell? ⟨g, 7, none⟩ = some v7 ∧ w'.cell? ⟨g, 8, none⟩ = some v8 ∧ w'.cell? ⟨g, 9, none⟩ = some v9 := by
  obtain ⟨q, _⟩ := blkCells h
  have hlt := (Array.getElem?_eq_some_iff.1 h).1
  exact ⟨(Below.cell hb hlt).trans ((q 0).trans rfl), (Below.cell hb hlt).trans ((q 1).trans rfl), (Below.cell hb hlt).trans ((q 2).trans rfl), (Below.cell hb hlt).trans ((q 3).trans rfl), (Below.cell hb hlt).trans ((q 4).trans rfl), (Below.cell hb hlt).trans ((q 5).trans rfl), (Below.cell hb hlt).trans ((q 6).trans rfl), (Below.cell hb hlt).trans ((q 7).trans rfl), (Below.cell hb hlt).trans ((q 8).trans rfl), (Below.cell hb hlt).trans ((q 9).trans rfl)⟩
theorem cells11 {w w' : World} {g : Nat} {v0 v1 v2 v3 v4 v5 v6 v7 v8 v9 v10 : Value} {T : TypeId} (h : w.heap[g]? = some (.cells #[v0, v1, v2, v3, v4, v5, v6, v7, v8, v9, v10] T (0, 0))) (hb : Below w.heap.size w w') : w'.cell? ⟨g, 0, none⟩ = some v0 ∧ w'.cell? ⟨g, 1, none⟩ = some v1 ∧ w'.cell? ⟨g, 2, none⟩ = some v2 ∧ w'.cell? ⟨g, 3, none⟩ = some v3 ∧ w'.cell? ⟨g, 4, none⟩ = some v4 ∧ w'.cell? ⟨g, 5, none⟩ = some v5 ∧ w'.cell? ⟨g, 6, none⟩ = some v6 ∧ w'.cell? ⟨g, 7, none⟩ = some v7 ∧ w'.cell? ⟨g, 8, none⟩ = some v8 ∧ w'.cell? ⟨g, 9, none⟩ = some v9 ∧ w'.cell? ⟨g, 10, none⟩ = some v10 := by
  obtain ⟨q, _⟩ := blkCells h
  have hlt := (Array.getElem?_eq_some_iff.1 h).1
  exact ⟨(Below.cell hb hlt).trans ((q 0).trans rfl), (Below.cell hb hlt).trans ((q 1).trans rfl), (Below.cell hb hlt).trans ((q 2).trans rfl), (Below.cell hb hlt).trans ((q 3).trans rfl), (Below.cell hb hlt).trans ((q 4).trans rfl), (Below.cell hb hlt).trans ((q 5).trans rfl), (Below.cell hb hlt).trans ((q 6).trans rfl), (Below.cell hb hlt).trans ((q 7).trans rfl), (Below.cell hb hlt).trans ((q 8).trans rfl), (Below.cell hb hlt).trans ((q 9).trans rfl), (Below.cell hb hlt).trans ((q 10).trans rfl)⟩
theorem cells12 {w w' : World} {g : Nat} {v0 v1 v2 v3 v4 v5 v6 v7 v8 v9 v10 v11 : Value} {T : TypeId} (h : w.heap[g]? = some (.cells #[v0, v1, v2, v3, v4, v5, v6, v7, v8, v9, v10, v11] T (0, 0))) (hb : Below w.heap.size w w') : w'.cell? ⟨g, 0, none⟩ = some v0 ∧ w'.cell? ⟨g, 1, none⟩ = some v1 ∧ w'.cell? ⟨g, 2, none⟩ = some v2 ∧ w'.cell? ⟨g, 3, none⟩ = some v3 ∧ w'.cell? ⟨g, 4, none⟩ = some v4 ∧ w'.cell? ⟨g, 5, none⟩ = some v5 ∧ w'.cell? ⟨g, 6, none⟩ = some v6 ∧ w'.cell? ⟨g, 7, none⟩ = some v7 ∧ w'.cell? ⟨g, 8, none⟩ = some v8 ∧ w'.cell? ⟨g, 9, none⟩ = some v9 ∧ w'.cell? ⟨g, 10, none⟩ = some v10 ∧ w'.cell? ⟨g, 11, none⟩ = some v11 := by
  obtain ⟨q, _⟩ := blkCells h
  have hlt := (Array.getElem?_eq_some_iff.1 h).1
  exact ⟨(Below.cell hb hlt).trans ((q 0).trans rfl), (Below.cell hb hlt).trans ((q 1).trans rfl), (Below.cell hb hlt).trans ((q 2).trans rfl), (Below.cell hb hlt).trans ((q 3).trans rfl), (Below.cell hb hlt).trans ((q 4).trans rfl), (Below.cell hb hlt).trans ((q 5).trans rfl), (Below.cell hb hlt).trans ((q 6).trans rfl), (Below.cell hb hlt).trans ((q 7).trans rfl), (Below.cell hb hlt).trans ((q 8).trans rfl), (Below.cell hb hlt).trans ((q 9).trans rfl), (Below.cell hb hlt).trans ((q 10).trans rfl), (Below.cell hb hlt).trans ((q 11).trans rfl)⟩
end
/- Store -/
section
open Go.RowKit
theorem flatMap_set {α : Type} {enc : α → List Value} {c : Nat} (hc : ∀ x, (enc x).length = c) : ∀ (l : List α) (i j : Nat) (hi : i < l.length) (x : α) (v : Value), enc x = (enc l[i]).set j v → j < c → (l.set i x).flatMap enc = (l.flatMap enc).set (i * c + j) v
  | [], i, j, hi, x, v, hx, hj => by simp at hi
  | y :: l, 0, j, hi, x, v, hx, hj => by
    simp only [List.getElem_cons_zero] at hx
    simp only [List.set_cons_zero, List.flatMap_cons, hx, Nat.zero_mul, Nat.zero_add]
    rw [List.set_append_left _ _ (by rw [hc]; exact hj)]
  | y :: l, i + 1, j, hi, x, v, hx, hj => by
    simp only [List.getElem_cons_succ] at hx
    simp only [List.set_cons_succ, List.flatMap_cons]
    rw [flatMap_set hc l i j (by simpa using hi) x v hx hj, List.set_append_right _ _ (by rw [hc, Nat.succ_mul]; omega), hc]
    congr 2
    rw [Nat.succ_mul]
    omega
theorem set_get {L : List HP} {n : Nat} (hn : n < L.length) (X : HP) : (L.set n X)[n]? = some X := by simp [hn]
/-- A slice's block, known whole, and what its cells are. -/
theorem St.ownOpen {α : Type} {e : TypeId} {c : Nat} {enc : α → List Value} {b k cap : Nat} {l : List α} {w0 w : World} {L : List HP} (h : St w0 w L) (n : Nat) (hn : L[n]? = some (ownP e c enc (.slice (some ⟨b, 0, none⟩) k cap) l)) :
    ∃ cur : Array Value, l.length = k ∧ k ≤ cap ∧ cap ≤ maxLen ∧ cur.size = cap * c ∧ cur.toList.take (l.length * c) = l.flatMap enc ∧ St w0 w (L.set n (pt b (.cells cur e (0, 0)))) := by
  have h1 := h.imp n hn (X' := exP fun cur : Array Value => andP (l.length = k ∧ k ≤ cap ∧ cap ≤ maxLen ∧ cur.size = cap * c ∧ cur.toList.take (l.length * c) = l.flatMap enc) (pt b (.cells cur e (0, 0)))) (by
    rintro f (⟨hv, _⟩ | ⟨g, cap', cur, hv, hg, h1, h2, h3, h4⟩)
    · cases hv
    · cases hv
      exact ⟨cur, ⟨rfl, h1, h2, h3, h4⟩, hg⟩)
  have hnl := (List.getElem?_eq_some_iff.1 hn).1
  obtain ⟨cur, h2⟩ := h1.ex n (set_get hnl _)
  obtain ⟨⟨a1, a2, a3, a4, a5⟩, h3⟩ := h2.pure n ((congrArg (·[n]?) (List.set_set ..)).trans (set_get hnl _))
  refine ⟨cur, a1, a2, a3, a4, a5, ?_⟩
  simpa [List.set_set] using h3
theorem St.ownSet {α : Type} {e : TypeId} {c : Nat} {enc : α → List Value} (hc : ∀ x, (enc x).length = c) {b k cap : Nat} {l : List α} {w0 w : World} {L : List HP} (h : St w0 w L) (n : Nat) (hn : L[n]? = some (ownP e c enc (.slice (some ⟨b, 0, none⟩) k cap) l))
    (i j : Nat) (hi : i < l.length) (hj : j < c) (x : α) (v : Value) (hx : enc x = (enc l[i]).set j v) :
    St w0 (w.setCell ⟨b, i * c + j, none⟩ v) (L.set n (ownP e c enc (.slice (some ⟨b, 0, none⟩) k cap) (l.set i x))) := by
  obtain ⟨cur, h1, h2, h3, h4, h5, h6⟩ := h.ownOpen n hn
  have hnl := (List.getElem?_eq_some_iff.1 hn).1
  have h7 := h6.set n (set_get hnl _) (i * c + j) v
  have h8 := h7.imp n (X' := ownP e c enc (.slice (some ⟨b, 0, none⟩) k cap) (l.set i x)) ((congrArg (·[n]?) (List.set_set ..)).trans (set_get hnl _)) (by
    intro f hf
    subst h1
    refine .inr ⟨b, cap, _, by rw [List.length_set], hf, by simpa using h2, h3, by simpa using h4, ?_⟩
    have hlt : i * c + j < l.length * c := by
      have : (i + 1) * c ≤ l.length * c := Nat.mul_le_mul_right _ hi
      rw [Nat.succ_mul] at this
      omega
    rw [flatMap_set hc l i j hi x v hx hj, ← h5, List.length_set]
    apply List.ext_getElem?
    intro m
    simp only [List.getElem?_take, Array.toList_setIfInBounds, List.getElem?_set, List.length_take]
    have hs : l.length * c ≤ cur.toList.length := by simp only [Array.length_toList, h4]; exact Nat.mul_le_mul_right _ h2
    split <;> split <;> simp_all <;> omega)
  simpa [List.set_set] using h8
theorem St.ownFree {α : Type} {e : TypeId} {c : Nat} {enc : α → List Value} {b k cap : Nat} {l : List α} {w0 w : World} {L : List HP} (h : St w0 w L) (n : Nat) (hn : L[n]? = some (ownP e c enc (.slice (some ⟨b, 0, none⟩) k cap) l)) (i : Nat) : w.frozen? ⟨b, i, none⟩ = false := by
  obtain ⟨cur, h1, h2, h3, h4, h5, h6⟩ := h.ownOpen n hn
  have hnl := (List.getElem?_eq_some_iff.1 hn).1
  exact (blkCells (h6.blk n (set_get hnl _)).1).2 i
end
/- See -/
section
open Go.RowKit
/-- A slice that may be read: what it holds lies in one block. -/
def seeP {α : Type} (c : Nat) (enc : α → List Value) (v : Value) (l : List α) : HP := fun h =>
  (v = .slice none 0 0 ∧ l = []) ∨ ∃ b o cap, v = .slice (some ⟨b, o, none⟩) l.length cap ∧ l.length ≤ cap ∧ cap ≤ maxLen ∧ (l = [] ∨ ∃ cs T fr, h b = some (.cells cs T fr) ∧ ∀ k (hk : k < l.length) j, j < c → cs[o + k * c + j]? = (enc l[k])[j]?)
theorem seeP_own {α : Type} {e : TypeId} {c : Nat} {enc : α → List Value} (hc : ∀ x, (enc x).length = c) {v : Value} {l : List α} {h : Nat → Option Obj} (hh : ownP e c enc v l h) : seeP c enc v l h := by
  rcases hh with h1 | ⟨g, cap, cur, h1, hg, h2, h3, h4, h5⟩
  · exact .inl h1
  · refine .inr ⟨g, 0, cap, h1, h2, h3, .inr ⟨cur, e, (0, 0), hg, fun k hk j hj => ?_⟩⟩
    have hlt : k * c + j < l.length * c := by
      have : (k + 1) * c ≤ l.length * c := Nat.mul_le_mul_right _ hk
      rw [Nat.succ_mul] at this
      omega
    have h6 : (l.flatMap enc)[k * c + j]? = (enc l[k])[j]? := by
      rw [flatMap_at hc l k j hj, List.getElem?_eq_getElem hk, Option.bind_some]
    rw [← h6, ← h5, List.getElem?_take, if_pos hlt, Nat.zero_add]
    simp
theorem St.see {α : Type} {c : Nat} {enc : α → List Value} (hc : ∀ x, (enc x).length = c) {v : Value} {l : List α} {w0 w : World} {L : List HP} (h : St w0 w L) (n : Nat) (hn : L[n]? = some (seeP c enc v l)) :
    ∃ a cap, v = .slice a l.length cap ∧ l.length ≤ cap ∧ cap ≤ maxLen ∧ (a = none → cap = 0) ∧ (a = none ∨ ∃ b o, a = some ⟨b, o, none⟩) ∧ SlAt c (flat enc) w a l := by
  obtain ⟨F, hF⟩ := h.at n hn
  rcases hF with ⟨h1, rfl⟩ | ⟨b, o, cap, h1, h2, h3, h4⟩
  · exact ⟨none, 0, h1, Nat.le_refl _, Nat.zero_le _, fun _ => rfl, .inl rfl, .inl rfl⟩
  · refine ⟨_, cap, h1, h2, h3, fun h => by (cases h), .inr ⟨b, o, rfl⟩, ?_⟩
    rcases h4 with rfl | ⟨cs, T, fr, hb, h4⟩
    · exact .inl rfl
    · have hb' := above_some (part_some hb).2
      refine .inr ⟨b, o, rfl, (Array.getElem?_eq_some_iff.1 hb'.2).1, fun k hk => ⟨enc l[k], hc _, fun j hj => ?_, rfl⟩⟩
      have : w.cell? ⟨b, o + k * c + j, none⟩ = cs[o + k * c + j]? := by simp [World.cell?, hb'.2]
      rw [this, h4 k hk j hj]
theorem seeP_drop {α : Type} {c : Nat} {enc : α → List Value} {b o k cap n : Nat} {l : List α} {h : Nat → Option Obj} (hh : seeP c enc (.slice (some ⟨b, o, none⟩) k cap) l h) (hn : n ≤ l.length) :
    seeP c enc (.slice (if cap = n then some ⟨b, o, none⟩ else some ⟨b, o + n * c, none⟩) (k - n) (cap - n)) (l.drop n) h := by
  rcases hh with ⟨h1, _⟩ | ⟨b', o', cap', h1, h2, h3, h4⟩
  · cases h1
  · cases h1
    by_cases e : cap = n
    · rw [if_pos e]
      refine .inr ⟨b, o, cap - n, by rw [List.length_drop], by rw [List.length_drop]; omega, by omega, .inl (List.drop_of_length_le (by omega))⟩
    · rw [if_neg e]
      refine .inr ⟨b, o + n * c, cap - n, by rw [List.length_drop], by rw [List.length_drop]; omega, by omega, ?_⟩
      rcases h4 with rfl | ⟨cs, T, fr, hb, h4⟩
      · exact .inl (by simp)
      · refine .inr ⟨cs, T, fr, hb, fun k hk j hj => ?_⟩
        rw [List.length_drop] at hk
        have := h4 (n + k) (by omega) j hj
        rw [List.getElem_drop, ← this]
        congr 1
        rw [Nat.add_mul]
        omega
theorem St.sees {α : Type} {c : Nat} {enc : α → List Value} (hc : ∀ x, (enc x).length = c) {a : Option Addr} {k cap : Nat} {l : List α} {w0 w : World} {L : List HP} (h : St w0 w L) (n : Nat) (hn : L[n]? = some (seeP c enc (.slice a k cap) l)) : SlAt c (flat enc) w a l := by
  obtain ⟨a', cap', hv, _, _, _, _, h5⟩ := h.see hc n hn
  cases hv
  exact h5
theorem Seen.see {α : Type} {w0 : World} {K : List HP} {c : Nat} {enc : α → List Value} (hc : ∀ x, (enc x).length = c) {a : Option Addr} {k cap : Nat} {l : List α} (n : Nat) (h : K[n]? = some (seeP c enc (.slice a k cap) l)) : Seen w0 (sepL K) c enc a l := by
  intro w' L' m hs hm
  have h1 := hs.split m hm
  refine h1.sees hc (L'.length + n) (k := k) (cap := cap) ?_
  rw [List.getElem?_append_right (by simp)]
  simpa using h
end
/- Clones -/
section
open Go.RowKit
/-- slices.Clone at api.Input: a copy of its own. -/
theorem cloneInp_st {w0 w : World} {L : List HP} (h : St w0 w L) (a : Option Addr) (cap : Nat) (l : List Inp) (hl : SlAt 5 (flat Inp.cells) w a l) (hn : a = none → cap = 0) (hlen : l.length ≤ 1099511627776) :
    Calls Tryz.prog 60 #[.slice a l.length cap] w fun e w' => ∃ v, e = .returned v ∧ St w0 w' (L ++ [ownP 65 5 Inp.cells v l]) := by
  have HS := Lib.hid h
  have HL := Lib.hid hl
  have HN := Lib.hid hlen
  clear h hl hlen
  have q : ∀ (w : World) (a : Option Addr) (n c n' c' : Nat), (binOp .eql 75 (.slice a n c) (.slice none n' c')).run Tryz.prog w = .ok (.bool a.isNone) w := fun w a n c n' c' => Lib.run_eql_slice_nil w _ _ a n c n' c' Tryz.underlying75
  cases a with
  | none =>
    have hll : l = [] := by rcases HL.out with h | ⟨b, o, he, _⟩; exact h; cases he
    subst hll
    obtain rfl := hn rfl
    clear hn HN
    go_enter Tryz.func60, Tryz.ntmps60
    go_wp2
    go_ret
    exact ⟨_, rfl, HS.out.nil _ _ _⟩
  | some a =>
    go_enter Tryz.func60, Tryz.ntmps60
    go_wp2_with (at_builtin; refine wpList_copy_st inpElem rfl (HS.out.alloc (.cells #[] 65)) L.length (by simp) _ _ rfl rfl (some a) cap l rfl (by simp) (HL.out.below ((Below.refl _ w).alloc (Nat.le_refl _) _) (fun _ _ h => h)) HN.out ?_; intro b c w1 h1)
    go_ret
    refine ⟨_, rfl, ?_⟩
    simpa using h1
/-- slices.Clone at api.Row: a copy of its own. -/
theorem cloneRw_st {w0 w : World} {L : List HP} (h : St w0 w L) (a : Option Addr) (cap : Nat) (l : List Rw) (hl : SlAt 5 (flat Rw.cells) w a l) (hn : a = none → cap = 0) (hlen : l.length ≤ 1099511627776) :
    Calls Tryz.prog 79 #[.slice a l.length cap] w fun e w' => ∃ v, e = .returned v ∧ St w0 w' (L ++ [ownP 55 5 Rw.cells v l]) := by
  have HS := Lib.hid h
  have HL := Lib.hid hl
  have HN := Lib.hid hlen
  clear h hl hlen
  have q : ∀ (w : World) (a : Option Addr) (n c n' c' : Nat), (binOp .eql 49 (.slice a n c) (.slice none n' c')).run Tryz.prog w = .ok (.bool a.isNone) w := fun w a n c n' c' => Lib.run_eql_slice_nil w _ _ a n c n' c' Tryz.underlying49
  cases a with
  | none =>
    have hll : l = [] := by rcases HL.out with h | ⟨b, o, he, _⟩; exact h; cases he
    subst hll
    obtain rfl := hn rfl
    clear hn HN
    go_enter Tryz.func79, Tryz.ntmps79
    go_wp2
    go_ret
    exact ⟨_, rfl, HS.out.nil _ _ _⟩
  | some a =>
    go_enter Tryz.func79, Tryz.ntmps79
    go_wp2_with (at_builtin; refine wpList_copy_st rwElem rfl (HS.out.alloc (.cells #[] 55)) L.length (by simp) _ _ rfl rfl (some a) cap l rfl (by simp) (HL.out.below ((Below.refl _ w).alloc (Nat.le_refl _) _) (fun _ _ h => h)) HN.out ?_; intro b c w1 h1)
    go_ret
    refine ⟨_, rfl, ?_⟩
    simpa using h1
end
/- Queue -/
section
open Go.RowKit
def evRight (t k l : Int) : Bool := decide (0 ≤ t ∧ t ≤ 1099511627776 ∧ 0 ≤ k ∧ k ≤ 255 ∧ l ≠ 0)
theorem evRight_any (t k v l : Int) (w : World) : Calls Tryz.prog 108 #[.agg #[.int .i64 t, .int .i64 k, .int .i64 v, .int .u64 l]] w fun e w' => e = .returned (.bool (evRight t k l)) ∧ w' = w.alloc (.cells #[.int .i64 t, .int .i64 k, .int .i64 v, .int .u64 l] 63) := by
  by_cases h1 : 0 ≤ t
  · by_cases h2 : t ≤ 1099511627776
    · by_cases h3 : 0 ≤ k
      · by_cases h4 : k ≤ 255
        · by_cases h5 : l = 0
          · have hr : evRight t k l = false := by simp [evRight, h5]
            rw [hr]
            subst h5
            clear hr
            go_enter Tryz.func108, Tryz.ntmps108
            go_wp2
            go_ret
            exact ⟨rfl, rfl⟩
          · have hr : evRight t k l = true := by simp [evRight, h1, h2, h3, h4, h5]
            rw [hr]
            have h6 : (l != 0) = true := by simp [h5]
            clear hr
            go_enter Tryz.func108, Tryz.ntmps108
            go_wp2
            go_ret
            exact ⟨rfl, rfl⟩
        · have hr : evRight t k l = false := by simp [evRight, h4]
          rw [hr]
          clear hr
          go_enter Tryz.func108, Tryz.ntmps108
          go_wp2
          go_ret
          exact ⟨rfl, rfl⟩
      · have hr : evRight t k l = false := by simp [evRight, h3]
        rw [hr]
        clear hr
        go_enter Tryz.func108, Tryz.ntmps108
        go_wp2
        go_ret
        exact ⟨rfl, rfl⟩
    · have hr : evRight t k l = false := by simp [evRight, h2]
      rw [hr]
      clear hr
      go_enter Tryz.func108, Tryz.ntmps108
      go_wp2
      go_ret
      exact ⟨rfl, rfl⟩
  · have hr : evRight t k l = false := by simp [evRight, h1]
    rw [hr]
    clear hr
    go_enter Tryz.func108, Tryz.ntmps108
    go_wp2
    go_ret
    exact ⟨rfl, rfl⟩
theorem Left_any (a b c : Int) (w : World) :
    Calls Tryz.prog 84 #[.agg #[.int .i64 a, .int .i64 b, .int .i64 c]] w fun e w' => e = .returned (.int .i64 a) ∧ w' = w.alloc (.cells #[.int .i64 a, .int .i64 b, .int .i64 c] 78) := by
  go_enter Tryz.func84, Tryz.ntmps84
  go_wp2
  go_ret
  exact ⟨rfl, rfl⟩
theorem Spent_any (a b c : Int) (w : World) :
    Calls Tryz.prog 43 #[.agg #[.int .i64 a, .int .i64 b, .int .i64 c]] w fun e w' => e = .returned (.int .i64 b) ∧ w' = w.alloc (.cells #[.int .i64 a, .int .i64 b, .int .i64 c] 78) := by
  go_enter Tryz.func43, Tryz.ntmps43
  go_wp2
  go_ret
  exact ⟨rfl, rfl⟩
theorem refuse_st {w0 w : World} {L : List HP} {b n : Nat} {l s r : Int} {v3 v4 v5 v6 v7 : Value} {T : TypeId} (h : St w0 w L) (hn : L[n]? = some (pt b (.cells #[.int .i64 l, .int .i64 s, .int .i64 r, v3, v4, v5, v6, v7] T (0, 0)))) :
    Calls Tryz.prog 109 #[.pointer (some ⟨b, 0, none⟩)] w fun e w' => e = .returned (.tuple #[]) ∧ St w0 w' (L.set n (pt b (.cells #[.int .i64 l, .int .i64 s, .int .i64 (wrap64 (r + 1)), v3, v4, v5, v6, v7] T (0, 0)))) := by
  have HS := Lib.hid (h.set n hn 2 (.int .i64 (wrap64 (r + 1))))
  obtain ⟨c0, c1, c2, _⟩ := cells8 (h.blk n hn).1 (Below.refl _ _)
  have z := (blkCells (h.blk n hn).1).2 2
  clear h hn
  go_enter Tryz.func109, Tryz.ntmps109
  go_wp2
  go_end0
  exact ⟨rfl, HS.out⟩
theorem left_st {w0 w : World} {L : List HP} (x y z : Int) (h : St w0 w L) : Calls Tryz.prog 84 #[.agg #[.int .i64 x, .int .i64 y, .int .i64 z]] w fun e w' => e = .returned (.int .i64 x) ∧ St w0 w' L :=
  (Left_any x y z w).mono fun e w' h' => ⟨h'.1, by rw [h'.2]; exact (h.alloc _).cut⟩
theorem spent_st {w0 w : World} {L : List HP} (x y z : Int) (h : St w0 w L) : Calls Tryz.prog 43 #[.agg #[.int .i64 x, .int .i64 y, .int .i64 z]] w fun e w' => e = .returned (.int .i64 y) ∧ St w0 w' L :=
  (Spent_any x y z w).mono fun e w' h' => ⟨h'.1, by rw [h'.2]; exact (h.alloc _).cut⟩
theorem evRight_st {w0 w : World} {L : List HP} (t k v l : Int) (h : St w0 w L) : Calls Tryz.prog 108 #[.agg #[.int .i64 t, .int .i64 k, .int .i64 v, .int .u64 l]] w fun e w' => e = .returned (.bool (evRight t k l)) ∧ St w0 w' L :=
  (evRight_any t k v l w).mono fun e w' h' => ⟨h'.1, by rw [h'.2]; exact (h.alloc _).cut⟩
theorem Of_at (most : Int) (w : World) (hm : max most 0 = most) :
    Calls Tryz.prog 81 #[.int .i64 most] w fun e w' => e = .returned (.agg #[.int .i64 most, .int .i64 0, .int .i64 0]) ∧ w' = w.alloc (.cells #[.int .i64 most, .int .i64 0, .int .i64 0] 78) := by
  go_enter Tryz.func81, Tryz.ntmps81
  go_wp2
  exact bodyPost_ret (v := .agg #[.int .i64 most, .int .i64 0, .int .i64 0]) (by simp [results, go_sem, hm]) rfl ⟨rfl, rfl⟩
theorem quotaOf_st {w0 w : World} {L : List HP} (most : Int) (hm : 0 ≤ most) (h : St w0 w L) : Calls Tryz.prog 81 #[.int .i64 most] w fun e w' => e = .returned (.agg #[.int .i64 most, .int .i64 0, .int .i64 0]) ∧ St w0 w' L :=
  (Of_at most w (by omega)).mono fun e w' h' => ⟨h'.1, by rw [h'.2]; exact (h.alloc _).cut⟩
set_option maxHeartbeats 1000000 in
theorem spend_st {w0 w : World} {L : List HP} {b n : Nat} {l s r : Int} {v3 v4 v5 v6 v7 : Value} {T : TypeId} (h : St w0 w L) (hn : L[n]? = some (pt b (.cells #[.int .i64 l, .int .i64 s, .int .i64 r, v3, v4, v5, v6, v7] T (0, 0)))) (hl : 1 ≤ l) (hmx : l ≤ 9223372036854775807) {g : Nat} (m : Nat) (hg : L[m]? = some (pt g (.cells #[.int .i64 1] 3 (0, 0)))) :
    Calls Tryz.prog 86 #[.pointer (some ⟨b, 0, none⟩), .slice (some ⟨g, 0, none⟩) 1 1] w fun e w' => e = .returned (.bool true) ∧ St w0 w' (L.set n (pt b (.cells #[.int .i64 (l - 1), .int .i64 (wrap64 (s + 1)), .int .i64 r, v3, v4, v5, v6, v7] T (0, 0)))) := by
  have hnl := (List.getElem?_eq_some_iff.1 hn).1
  have h2 := (h.set n hn 1 (.int .i64 (wrap64 (s + 1)))).set n (by simp [hnl]; rfl) 0 (.int .i64 (l - 1))
  rw [List.set_set] at h2
  have HS := Lib.hid h2
  obtain ⟨c0, c1, c2, _⟩ := cells8 (h.blk n hn).1 (Below.refl _ _)
  have z0 := (blkCells (h.blk n hn).1).2 0
  have z1 := (blkCells (h.blk n hn).1).2 1
  have g0 := cells1 (h.blk m hg).1 (Below.refl _ _)
  have hw1 : wrap64 (l - 1) = l - 1 := by unfold wrap64; omega
  have hw2 : wrap64 (l - (l - 1)) = 1 := by unfold wrap64; omega
  clear h hn hg h2
  go_enter Tryz.func86, Tryz.ntmps86
  go_wp2
  go_rounds 2
  go_region
  all_goals go_wp2
  go_ret
  refine ⟨rfl, ?_⟩
  rw [show l - (l - 1) = 1 by omega]
  exact HS.out.drew
theorem waiting_st {w0 w : World} {L : List HP} (a : Option Addr) (k cap : Nat) (h : St w0 w L) : Calls Tryz.prog 33 #[.agg #[.slice a k cap]] w fun e w' => e = .returned (.int .i64 k) ∧ St w0 w' L := by
  have HS := Lib.hid (h.alloc (.cells #[.slice a k cap] 80)).cut
  clear h
  go_enter Tryz.func33, Tryz.ntmps33
  go_wp2
  go_ret
  exact ⟨rfl, HS.out⟩
theorem all_st {w0 w : World} {L : List HP} {a : Option Addr} {cap : Nat} {q : List Inp} (h : St w0 w L) (m : Nat) (hm : L[m]? = some (seeP 5 Inp.cells (.slice a q.length cap) q)) (hlen : q.length ≤ 1099511627776) :
    Calls Tryz.prog 31 #[.agg #[.slice a q.length cap]] w fun e w' => ∃ v, e = .returned v ∧ St w0 w' (L ++ [ownP 65 5 Inp.cells v q]) := by
  obtain ⟨_, _, hv, _, _, hnil, _⟩ := h.see Inp.len m hm
  cases hv
  have hml := (List.getElem?_eq_some_iff.1 hm).1
  have h1 := h.wrap.alloc (.cells #[.slice a q.length cap] 80)
  have hs : SlAt 5 (flat Inp.cells) (w.alloc (.cells #[.slice a q.length cap] 80)) a q := (h.alloc _).sees Inp.len m (by rw [List.getElem?_append_left hml]; exact hm)
  have HC := Lib.hid (cloneInp_st h1 a cap q hs hnil hlen)
  have hend : ∀ (w' : World) (v : Value), St w0 w' [sepL L, ownP 65 5 Inp.cells v q] → St w0 w' (L ++ [ownP 65 5 Inp.cells v q]) := fun w' v h => h.unwrap
  have HEND := Lib.hid hend
  clear h hm hnil hml h1 hs hend
  go_enter Tryz.func31, Tryz.ntmps31
  go_wp2_with (go_at_call 60; (with_reducible refine HC.out.mono ?_); rintro e w1 ⟨v, rfl, h1⟩; have H1 := Lib.hid h1; clear h1 HC)
  go_ret
  exact ⟨v, rfl, HEND.out _ _ (H1.out.pick [0, 2] (by decide))⟩
theorem St.moveLast {w0 w : World} {L : List HP} {Y : HP} (h : St w0 w (L ++ [Y])) (m : Nat) (hm : m < L.length) : St w0 w (L.set m Y) := by
  refine ⟨h.below, ?_⟩
  obtain ⟨own, ho⟩ := h.sep
  refine ⟨fun b => if own b = L.length then m else if own b = m then L.length + 1 else own b, fun i P hi => ?_⟩
  rw [List.getElem?_set] at hi
  by_cases him : m = i
  · rw [if_pos him, if_pos hm] at hi
    cases hi
    have h1 := ho L.length Y (by simp)
    refine cast (congrArg Y (part_own fun b => ?_)) h1
    simp only [beq_iff_eq]
    constructor
    · intro he; rw [if_pos he, him]
    · intro he
      split at he
      · assumption
      · split at he <;> omega
  · rw [if_neg him] at hi
    have hil := (List.getElem?_eq_some_iff.1 hi).1
    have h1 := ho i P (by rw [List.getElem?_append_left hil]; exact hi)
    refine cast (congrArg P (part_own fun b => ?_)) h1
    simp only [beq_iff_eq]
    constructor
    · intro he
      rw [if_neg (by omega), if_neg (by omega), he]
    · intro he
      split at he
      · omega
      · split at he <;> omega
set_option maxHeartbeats 1000000 in
theorem push_no {w0 w : World} {L : List HP} {b n : Nat} {v0 v1 v2 v4 v5 v6 v7 : Value} {T : TypeId} {a : Option Addr} {cap : Nat} {q : List Inp} (h : St w0 w L) (hn : L[n]? = some (pt b (.cells #[v0, v1, v2, .slice a q.length cap, v4, v5, v6, v7] T (0, 0)))) (m : Nat) (hm : L[m]? = some (seeP 5 Inp.cells (.slice a q.length cap) q)) (hd : n ≠ m) (hlen : q.length < 1099511627776) (room : Int) (hroom : room < q.length + 1) (ga : Option Addr) (gc : Nat) :
    Calls Tryz.prog 85 #[.pointer (some ⟨b, 3, none⟩), .int .i64 room, .slice ga 1 gc] w fun e w' => e = .returned (.bool false) ∧ St w0 w' L := by
  obtain ⟨_, _, _, c3, _⟩ := cells8 (h.blk n hn).1 (Below.refl _ _)
  have HS := Lib.hid h
  clear h hn hm
  go_enter Tryz.func85, Tryz.ntmps85
  go_wp2
  go_ret
  exact ⟨rfl, HS.out⟩
set_option maxHeartbeats 1000000 in
theorem push_yes {w0 w : World} {L : List HP} {b n : Nat} {v0 v1 v2 v4 v5 v6 v7 : Value} {T : TypeId} {a : Option Addr} {cap : Nat} {q : List Inp} (h : St w0 w L) (hn : L[n]? = some (pt b (.cells #[v0, v1, v2, .slice a q.length cap, v4, v5, v6, v7] T (0, 0)))) (m : Nat) (hm : L[m]? = some (seeP 5 Inp.cells (.slice a q.length cap) q)) (hd : n ≠ m) (hlen : q.length < 1099511627776) (room : Int) (hroom : (q.length : Int) + 1 ≤ room) {g : Nat} (i : Inp) (k : Nat) (hk : L[k]? = some (pt g (.cells #[.bool i.mark, .int .i64 i.ev.time, .int .i64 i.ev.key, .int .i64 i.ev.value, .int .u64 i.ev.label] 65 (0, 0)))) :
    Calls Tryz.prog 85 #[.pointer (some ⟨b, 3, none⟩), .int .i64 room, .slice (some ⟨g, 0, none⟩) 1 1] w fun e w' => ∃ v, e = .returned (.bool true) ∧ St w0 w' ((L.set n (pt b (.cells #[v0, v1, v2, v, v4, v5, v6, v7] T (0, 0)))).set m (ownP 65 5 Inp.cells v (q ++ [i]))) := by
  obtain ⟨_, _, _, c3, _⟩ := cells8 (h.blk n hn).1 (Below.refl _ _)
  obtain ⟨_, _, hv, _, _, hnil, _, hsl⟩ := h.see Inp.len m hm
  cases hv
  have hnl := (List.getElem?_eq_some_iff.1 hn).1
  have hml := (List.getElem?_eq_some_iff.1 hm).1
  have hkl := (List.getElem?_eq_some_iff.1 hk).1
  have HC := Lib.hid (cloneInp_st h a cap q hsl hnil (by omega))
  have hend : ∀ (w' : World) (v : Value), St w0 w' (L ++ [ownP 65 5 Inp.cells v (q ++ [i])]) → w'.frozen? ⟨b, 3, none⟩ = false ∧ St w0 (w'.setCell ⟨b, 3, none⟩ v) ((L.set n (pt b (.cells #[v0, v1, v2, v, v4, v5, v6, v7] T (0, 0)))).set m (ownP 65 5 Inp.cells v (q ++ [i]))) := fun w' v h' => by
    have hn' : (L ++ [ownP 65 5 Inp.cells v (q ++ [i])])[n]? = some (pt b (.cells #[v0, v1, v2, .slice a q.length cap, v4, v5, v6, v7] T (0, 0))) := by rw [List.getElem?_append_left hnl]; exact hn
    refine ⟨(blkCells (h'.blk n hn').1).2 3, ?_⟩
    have h2 := h'.set n hn' 3 v
    rw [List.set_append_left _ _ hnl] at h2
    exact h2.moveLast m (by simpa using hml)
  have hblk : ∀ (w' : World) (Y : HP), St w0 w' (L ++ [Y]) → (w'.heap[g]? = some (.cells #[.bool i.mark, .int .i64 i.ev.time, .int .i64 i.ev.key, .int .i64 i.ev.value, .int .u64 i.ev.label] 65 (0, 0))) ∧ w'.cell? ⟨b, 3, none⟩ = some (.slice a q.length cap) := fun w' Y h' => by
    refine ⟨(h'.blk k (by rw [List.getElem?_append_left hkl]; exact hk)).1, ?_⟩
    obtain ⟨_, _, _, c3, _⟩ := cells8 (h'.blk n (by rw [List.getElem?_append_left hnl]; exact hn)).1 (Below.refl _ _)
    exact c3
  have HEND := Lib.hid hend
  have HBLK := Lib.hid hblk
  have HS := Lib.hid h
  have HLN := Lib.hid hlen
  have hln : ∀ w' v, St w0 w' (L ++ [ownP 65 5 Inp.cells v q]) → (L ++ [ownP 65 5 Inp.cells v q])[L.length]? = some (ownP 65 5 Inp.cells v q) := fun _ _ _ => by simp
  have HLE := Lib.hid hln
  have hroom' : ¬ (room < (q.length : Int) + 1) := by omega
  clear h hn hm hk hnil hsl hend hblk hln hnl hml hkl
  go_enter Tryz.func85, Tryz.ntmps85
  go_wp2_with (first
    | (go_at_call 60; (with_reducible refine HC.out.mono ?_); rintro e w1 ⟨v, rfl, h1⟩; have HG := Lib.hid (HBLK.out _ _ h1).1; have HN1 := Lib.hid (HLE.out _ _ h1); have H1 := Lib.hid h1; clear h1 HC)
    | (at_builtin; go_loud (refine wpList_push_st inpElem rfl H1.out L.length HN1.out _ _ rfl rfl _ i rfl HG.out HLN.out ?_; intro v2 w2 h2 _; rw [List.set_append_right _ _ (Nat.le_refl _), Nat.sub_self, List.set_cons_zero] at h2; obtain ⟨a2, c2, rfl, _, _, _, _⟩ := h2.sl Inp.len L.length (by simp; rfl); have hk2 : (q ++ [i]).length = q.length + 1 := (by simp); rw [hk2] at h2 ⊢; clear hk2; obtain ⟨z3, h3⟩ := HEND.out _ _ h2; obtain ⟨_, d3⟩ := HBLK.out _ _ h2; have H3 := Lib.hid h3; clear h2 h3)))
  go_ret
  exact ⟨_, rfl, H3.out⟩
theorem cloneInp_len {w0 w : World} {L : List HP} (h : St w0 w L) (a : Option Addr) (k cap : Nat) (l : List Inp) (hk : l.length = k) (hl : SlAt 5 (flat Inp.cells) w a l) (hn : a = none → cap = 0) (hlen : l.length ≤ 1099511627776) :
    Calls Tryz.prog 60 #[.slice a k cap] w fun e w' => ∃ v, e = .returned v ∧ St w0 w' (L ++ [ownP 65 5 Inp.cells v l]) := by
  subst hk
  exact cloneInp_st h a cap l hl hn hlen
theorem pop_end {w0 w' : World} {L : List HP} {Y : HP} {b n m : Nat} {v0 v1 v2 v4 v5 v6 v7 : Value} {T : TypeId} {a : Option Addr} {cap j : Nat} {q : List Inp} (h' : St w0 w' (L ++ [Y])) (hnl : n < L.length) (hml : m < L.length) (hd : n ≠ m) (hn : L[n]? = some (pt b (.cells #[v0, v1, v2, .slice a q.length cap, v4, v5, v6, v7] T (0, 0)))) (hm : L[m]? = some (seeP 5 Inp.cells (.slice a q.length cap) q)) (v : Value)
    (hv : ∀ h, seeP 5 Inp.cells (.slice a q.length cap) q h → seeP 5 Inp.cells v (q.drop j) h) :
    w'.frozen? ⟨b, 3, none⟩ = false ∧ w'.cell? ⟨b, 3, none⟩ = some (.slice a q.length cap) ∧ St w0 (w'.setCell ⟨b, 3, none⟩ v) ((L.set n (pt b (.cells #[v0, v1, v2, v, v4, v5, v6, v7] T (0, 0)))).set m (seeP 5 Inp.cells v (q.drop j)) ++ [Y]) := by
  have hn' : (L ++ [Y])[n]? = some (pt b (.cells #[v0, v1, v2, .slice a q.length cap, v4, v5, v6, v7] T (0, 0))) := by rw [List.getElem?_append_left hnl]; exact hn
  have hb := (h'.blk n hn').1
  obtain ⟨_, _, _, c3, _⟩ := cells8 hb (Below.refl _ _)
  refine ⟨(blkCells hb).2 3, c3, ?_⟩
  have h2 := h'.set n hn' 3 v
  rw [List.set_append_left _ _ hnl] at h2
  have h3 := h2.imp m (X := seeP 5 Inp.cells (.slice a q.length cap) q) (by rw [List.getElem?_append_left (by simpa using hml), List.getElem?_set, if_neg hd]; exact hm) hv
  rw [List.set_append_left _ _ (by simpa using hml)] at h3
  exact h3
set_option maxHeartbeats 1000000 in
theorem pop_st {w0 w : World} {L : List HP} {b n : Nat} {v0 v1 v2 v4 v5 v6 v7 : Value} {T : TypeId} {a : Option Addr} {cap : Nat} {q : List Inp} (h : St w0 w L) (hn : L[n]? = some (pt b (.cells #[v0, v1, v2, .slice a q.length cap, v4, v5, v6, v7] T (0, 0)))) (m : Nat) (hm : L[m]? = some (seeP 5 Inp.cells (.slice a q.length cap) q)) (hd : n ≠ m) (hlen : q.length < 1099511627776) (c : Int) (j : Nat) (hj : max 0 (min c q.length) = (j : Int)) :
    Calls Tryz.prog 138 #[.pointer (some ⟨b, 3, none⟩), .int .i64 c] w fun e w' => ∃ u v, e = .returned u ∧ St w0 w' ((L.set n (pt b (.cells #[v0, v1, v2, v, v4, v5, v6, v7] T (0, 0)))).set m (seeP 5 Inp.cells v (q.drop j)) ++ [ownP 65 5 Inp.cells u (q.take j)]) := by
  obtain ⟨_, _, _, c3, _⟩ := cells8 (h.blk n hn).1 (Below.refl _ _)
  obtain ⟨_, _, hv, hqc, hcm, hnil, hab, hsl⟩ := h.see Inp.len m hm
  cases hv
  have hnl := (List.getElem?_eq_some_iff.1 hn).1
  have hml := (List.getElem?_eq_some_iff.1 hm).1
  have hjq : j ≤ q.length := by omega
  have hjn : (q.take j).length = j := by simp; omega
  have HC := Lib.hid (cloneInp_len h a j cap (q.take j) hjn (hsl.take j) hnil (by omega))
  have hI1 : (j : Int) ≤ q.length := by omega
  have hI2 : (j : Int) ≤ cap := by omega
  have hI3 : (0 : Int) ≤ j := by omega
  clear hjn hsl
  unfold maxLen at hcm
  rcases hab with rfl | ⟨ab, ao, rfl⟩
  · obtain rfl := hnil rfl
    obtain rfl : q = [] := List.eq_nil_of_length_eq_zero (by omega)
    obtain rfl : j = 0 := by simpa using hjq
    have hend : ∀ (w' : World) (u : Value), St w0 w' (L ++ [ownP 65 5 Inp.cells u ([] : List Inp)]) → w'.frozen? ⟨b, 3, none⟩ = false ∧ w'.cell? ⟨b, 3, none⟩ = some (.slice none 0 0) ∧ St w0 (w'.setCell ⟨b, 3, none⟩ (.slice none 0 0)) ((L.set n (pt b (.cells #[v0, v1, v2, .slice none 0 0, v4, v5, v6, v7] T (0, 0)))).set m (seeP 5 Inp.cells (.slice none 0 0) ([] : List Inp)) ++ [ownP 65 5 Inp.cells u ([] : List Inp)]) := fun w' u h' => pop_end (q := []) (j := 0) h' hnl hml hd hn hm (.slice none 0 0) (fun _ h => h)
    have HEND := Lib.hid hend
    simp only [List.take_nil] at HC
    clear hend h hn hm hI1 hI2 hqc hjq hnil
    simp only [List.length_nil] at c3
    replace hj : max 0 (min c 0) = (0 : Int) := by simp only [List.length_nil] at hj; omega
    go_enter Tryz.func138, Tryz.ntmps138
    go_wp2_with (go_at_call 60; (with_reducible refine HC.out.mono ?_); rintro e w1 ⟨u, rfl, h1⟩; obtain ⟨z3, d3, h3⟩ := HEND.out _ _ h1; have H3 := Lib.hid h3; clear h1 h3 HC)
    go_ret
    exact ⟨_, _, rfl, H3.out⟩
  · by_cases hcj : cap = j
    · have hv := fun f (hf : seeP 5 Inp.cells (.slice (some ⟨ab, ao, none⟩) q.length cap) q f) => seeP_drop hf hjq
      rw [if_pos hcj] at hv
      subst hcj
      rw [Nat.sub_self] at hv
      have hend := fun (w' : World) (u : Value) (h' : St w0 w' (L ++ [ownP 65 5 Inp.cells u (q.take cap)])) => pop_end h' hnl hml hd hn hm _ hv
      have HEND := Lib.hid hend
      clear hend h hn hm hqc hjq hnil hv
      go_enter Tryz.func138, Tryz.ntmps138
      go_wp2_with (go_at_call 60; (with_reducible refine HC.out.mono ?_); rintro e w1 ⟨u, rfl, h1⟩; obtain ⟨z3, d3, h3⟩ := HEND.out _ _ h1; have H3 := Lib.hid h3; clear h1 h3 HC)
      go_ret
      exact ⟨_, _, rfl, H3.out⟩
    · have hv := fun f (hf : seeP 5 Inp.cells (.slice (some ⟨ab, ao, none⟩) q.length cap) q f) => seeP_drop hf hjq
      rw [if_neg hcj] at hv
      have hend := fun (w' : World) (u : Value) (h' : St w0 w' (L ++ [ownP 65 5 Inp.cells u (q.take j)])) => pop_end h' hnl hml hd hn hm _ hv
      have HEND := Lib.hid hend
      clear hend h hn hm hqc hjq hnil hv
      go_enter Tryz.func138, Tryz.ntmps138
      go_wp2_with (go_at_call 60; (with_reducible refine HC.out.mono ?_); rintro e w1 ⟨u, rfl, h1⟩; obtain ⟨z3, d3, h3⟩ := HEND.out _ _ h1; have H3 := Lib.hid h3; clear h1 h3 HC)
      go_ret
      exact ⟨_, _, rfl, H3.out⟩
end
/- Cell -/
section
open Go.RowKit
/-- A cell: what is left, was spent, was refused; its tenant; its pipe; what waits, what was served. -/
structure Cl where
  left : Int
  spent : Int
  refused : Int
  id : Int
  p : Pp
  q : List Inp
  taken : List Inp
def Cl.rn (c : Cl) : Rn := afterR (newR c.p) c.taken
def Cl.rows (c : Cl) : List Rw := wholeRows c.p c.taken
def Cl.cells (c : Cl) (rb : Nat) (qv rv tv : Value) : Array Value := #[.int .i64 c.left, .int .i64 c.spent, .int .i64 c.refused, qv, .pointer (some ⟨rb, 0, none⟩), .int .i64 c.id, rv, tv]
structure Cl.ok (c : Cl) (N : Nat) : Prop where
  left0 : 0 ≤ c.left
  left1 : c.left ≤ 9223372036854775807
  id0 : 0 ≤ c.id
  id1 : c.id < 8
  wfq : ∀ i ∈ c.q, i.ev.wf
  wft : ∀ i ∈ c.taken, i.ev.wf
  len : c.q.length + c.taken.length ≤ N
  right : rightPp c.p = true
  ops : ∀ o ∈ c.p.ops, o.wf
  few : c.p.ops.length ≤ 6
def clP (cb : Nat) (c : Cl) (N : Nat) : HP := exP fun x : Nat × Value × Value × Value => andP (c.ok N) (sepL [pt cb (.cells (c.cells x.1 x.2.1 x.2.2.1 x.2.2.2) 83 (0, 0)), seeP 5 Inp.cells x.2.1 c.q, rnP x.1 c.rn c.taken.length, ownP 55 5 Rw.cells x.2.2.1 c.rows, ownP 65 5 Inp.cells x.2.2.2 c.taken])
theorem Cl.ok.mono {c : Cl} {N M : Nat} (h : c.ok N) (hM : N ≤ M) : c.ok M := { h with len := Nat.le_trans h.len hM }
theorem cl_open {w0 w : World} {L : List HP} {cb N : Nat} {c : Cl} (h : St w0 w L) (n : Nat) (hn : L[n]? = some (clP cb c N)) : ∃ (rb : Nat) (qv rv tv : Value), c.ok N ∧ St w0 w [pt cb (.cells (c.cells rb qv rv tv) 83 (0, 0)), seeP 5 Inp.cells qv c.q, rnP rb c.rn c.taken.length, ownP 55 5 Rw.cells rv c.rows, ownP 65 5 Inp.cells tv c.taken, sepL (L.set n emp)] := by
  obtain ⟨x, h2⟩ := (h.front n hn).ex 0 rfl
  obtain ⟨hφ, h3⟩ := h2.pure 0 rfl
  exact ⟨x.1, x.2.1, x.2.2.1, x.2.2.2, hφ, h3.ungroup⟩
theorem cl_shut {w0 w : World} {L K : List HP} {cb N n rb : Nat} {qv rv tv : Value} {c : Cl} (hok : c.ok N) (hn : n < L.length)
    (h : St w0 w (pt cb (.cells (c.cells rb qv rv tv) 83 (0, 0)) :: seeP 5 Inp.cells qv c.q :: rnP rb c.rn c.taken.length :: ownP 55 5 Rw.cells rv c.rows :: ownP 65 5 Inp.cells tv c.taken :: sepL (L.set n emp) :: K)) : St w0 w (L.set n (clP cb c N) ++ K) :=
  ((St.group (L := [_, _, _, _, _]) h).imp 0 rfl (X' := clP cb c N) fun h hh => ⟨(rb, qv, rv, tv), hok, hh⟩).back hn
theorem cl_flat {w0 w : World} {L : List HP} {cb N : Nat} {c : Cl} (h : St w0 w L) (n : Nat) (hn : L[n]? = some (clP cb c N)) : ∃ (rb : Nat) (qv rv tv : Value), c.ok N ∧ St w0 w (L.set n emp ++ [pt cb (.cells (c.cells rb qv rv tv) 83 (0, 0)), seeP 5 Inp.cells qv c.q, rnP rb c.rn c.taken.length, ownP 55 5 Rw.cells rv c.rows, ownP 65 5 Inp.cells tv c.taken]) := by
  have hnl := (List.getElem?_eq_some_iff.1 hn).1
  obtain ⟨x, h2⟩ := h.ex n hn
  obtain ⟨hφ, h3⟩ := h2.pure n (by simp [hnl]; rfl)
  have h4 := h3.split n (by simp [hnl]; rfl)
  rw [List.set_set, List.set_set] at h4
  exact ⟨x.1, x.2.1, x.2.2.1, x.2.2.2, hφ, h4⟩
theorem cl_pack {c : Cl} {cb N rb : Nat} {qv rv tv : Value} (hok : c.ok N) (h : Nat → Option Obj) (hh : sepL [pt cb (.cells (c.cells rb qv rv tv) 83 (0, 0)), seeP 5 Inp.cells qv c.q, rnP rb c.rn c.taken.length, ownP 55 5 Rw.cells rv c.rows, ownP 65 5 Inp.cells tv c.taken] h) : clP cb c N h := ⟨(rb, qv, rv, tv), hok, hh⟩
theorem clP_mono {cb N M : Nat} {c : Cl} (hM : N ≤ M) {h : Nat → Option Obj} (hh : clP cb c N h) : clP cb c M h := by
  obtain ⟨x, hok, hs⟩ := hh
  exact ⟨x, hok.mono hM, hs⟩
def lab (id : Int) : Int := IntKind.u64.wrap (2 ^ id.toNat)
def ownI (id : Int) (i : Inp) : Inp := if i.mark then ⟨true, ⟨i.ev.time, 0, 0, 0⟩⟩ else ⟨false, ⟨i.ev.time, i.ev.key, i.ev.value, lab id⟩⟩
def ownB (id : Int) (i : Inp) : Bool := if i.mark then decide (1 ≤ i.ev.time ∧ i.ev.time ≤ 1099512676352) else evRight i.ev.time i.ev.key (lab id)
theorem lab_wf (id : Int) (h0 : 0 ≤ id) (h1 : id < 8) : (Lit.int .u64 (lab id)).wf = true := by
  unfold lab
  obtain rfl | rfl | rfl | rfl | rfl | rfl | rfl | rfl : id = 0 ∨ id = 1 ∨ id = 2 ∨ id = 3 ∨ id = 4 ∨ id = 5 ∨ id = 6 ∨ id = 7 := by omega
  all_goals decide
theorem ownI_wf {id : Int} {i : Inp} (h0 : 0 ≤ id) (h1 : id < 8) (h : i.ev.wf) : (ownI id i).ev.wf := by
  unfold ownI
  split
  · exact ⟨h.1, mark1000_wf.2⟩
  · exact ⟨h.1, h.2.1, h.2.2.1, lab_wf id h0 h1⟩
set_option maxHeartbeats 2000000 in
set_option maxRecDepth 20000 in
theorem own_st {w0 w : World} {L : List HP} {b n : Nat} {v0 v1 v2 v3 v4 v6 v7 : Value} {T : TypeId} {id : Int} (h : St w0 w L) (hn : L[n]? = some (pt b (.cells #[v0, v1, v2, v3, v4, .int .i64 id, v6, v7] T (0, 0)))) (h0 : 0 ≤ id) (h1 : id < 8) (i : Inp) :
    Calls Tryz.prog 82 #[.pointer (some ⟨b, 0, none⟩), .agg #[.bool i.mark, .int .i64 i.ev.time, .int .i64 i.ev.key, .int .i64 i.ev.value, .int .u64 i.ev.label]] w fun e w' => e = .returned (.tuple #[.agg #[.bool (ownI id i).mark, .int .i64 (ownI id i).ev.time, .int .i64 (ownI id i).ev.key, .int .i64 (ownI id i).ev.value, .int .u64 (ownI id i).ev.label], .bool (ownB id i)]) ∧ St w0 w' L := by
  obtain ⟨im, ⟨t, k, v, l⟩⟩ := i
  obtain ⟨_, _, _, _, _, c5, _⟩ := cells8 (h.blk n hn).1 (Below.refl _ _)
  have hlt := (h.blk n hn).2.2
  have hst := (h.wrap.alloc (.cells #[.bool im, .int .i64 t, .int .i64 k, .int .i64 v, .int .u64 l] 65)).alloc (.cells #[.bool false, .int .i64 0, .int .i64 0, .int .i64 0, .int .u64 0] 65)
  rw [World.size_alloc] at hst
  have hend : ∀ (w' : World) (X Y : HP), St w0 w' [sepL L, X, Y] → St w0 w' L := fun w' X Y h => by simpa using (h.pick [0] (by decide)).unwrap
  have HEND := Lib.hid hend
  have HST := Lib.hid hst
  cases im with
  | true =>
    have hO : ownI id ⟨true, ⟨t, k, v, l⟩⟩ = ⟨true, ⟨t, 0, 0, 0⟩⟩ := rfl
    have hB : ownB id ⟨true, ⟨t, k, v, l⟩⟩ = decide (1 ≤ t ∧ t ≤ 1099512676352) := rfl
    rw [hO, hB]
    have HW := Lib.hid h.wrap
    clear h hn hst hend hO hB HST
    by_cases ht1 : 1 ≤ t
    · by_cases ht2 : t ≤ 1099512676352
      · have hd : decide (1 ≤ t ∧ t ≤ 1099512676352) = true := decide_eq_true ⟨ht1, ht2⟩
        rw [hd]
        clear hd
        go_enter Tryz.func82, Tryz.ntmps82
        go_wp2
        exact bodyPost_ret (v := .tuple #[.agg #[.bool true, .int .i64 t, .int .i64 0, .int .i64 0, .int .u64 0], .bool true]) (by simp [results, go_sem]) rfl ⟨rfl, HEND.out _ _ _ ((HW.out.alloc _).alloc _)⟩
      · have hd : decide (1 ≤ t ∧ t ≤ 1099512676352) = false := decide_eq_false (fun h => ht2 h.2)
        rw [hd]
        clear hd
        go_enter Tryz.func82, Tryz.ntmps82
        go_wp2
        exact bodyPost_ret (v := .tuple #[.agg #[.bool true, .int .i64 t, .int .i64 0, .int .i64 0, .int .u64 0], .bool false]) (by simp [results, go_sem]) rfl ⟨rfl, HEND.out _ _ _ ((HW.out.alloc _).alloc _)⟩
    · have hd : decide (1 ≤ t ∧ t ≤ 1099512676352) = false := decide_eq_false (fun h => ht1 h.1)
      rw [hd]
      clear hd
      go_enter Tryz.func82, Tryz.ntmps82
      go_wp2
      exact bodyPost_ret (v := .tuple #[.agg #[.bool true, .int .i64 t, .int .i64 0, .int .i64 0, .int .u64 0], .bool false]) (by simp [results, go_sem]) rfl ⟨rfl, HEND.out _ _ _ ((HW.out.alloc _).alloc _)⟩
  | false =>
    have hO : ownI id ⟨false, ⟨t, k, v, l⟩⟩ = ⟨false, ⟨t, k, v, lab id⟩⟩ := rfl
    have hB : ownB id ⟨false, ⟨t, k, v, l⟩⟩ = evRight t k (lab id) := rfl
    rw [hO, hB]
    obtain ⟨lb, hlb⟩ : ∃ x, x = lab id := ⟨_, rfl⟩
    rw [← hlb]
    have hwl : IntKind.u64.wrap (2 ^ id.toNat) = lb := hlb.symm
    have HLB := Lib.hid hwl
    have hst2 := (h.wrap.alloc (.cells #[.bool false, .int .i64 t, .int .i64 k, .int .i64 v, .int .u64 lb] 65)).alloc (.cells #[.bool false, .int .i64 0, .int .i64 0, .int .i64 0, .int .u64 0] 65)
    rw [World.size_alloc] at hst2
    have HS2 := Lib.hid hst2.drew
    have HCR := Lib.hid (evRight_st t k v lb hst2.drew)
    have hid8 : ¬ id < 0 := by omega
    clear h hn hst hst2 hend hO hB HST hlb hwl
    go_enter Tryz.func82, Tryz.ntmps82
    go_wp2_with fail
    rw [HLB.out]
    obtain ⟨a0, a1, a2, a3, a4⟩ := cells5 (HS2.out.blk 1 rfl).1 (Below.refl _ _)
    go_region_held3 (fun w' => w'.cell? ⟨w.heap.size, 0, none⟩ = some (.bool false) ∧ w'.cell? ⟨w.heap.size, 1, none⟩ = some (.int .i64 t) ∧ w'.cell? ⟨w.heap.size, 2, none⟩ = some (.int .i64 k) ∧ w'.cell? ⟨w.heap.size, 3, none⟩ = some (.int .i64 v) ∧ w'.cell? ⟨w.heap.size, 4, none⟩ = some (.int .u64 lb)) (first | (with_reducible exact ⟨s0, s1, s2, s3, s4⟩) | (with_reducible exact ⟨k0, k1, k2, k3, k4⟩) | (with_reducible exact ⟨a0, a1, a2, a3, a4⟩))
      (first | (go_at_call 108; (with_reducible refine HCR.out.mono ?_); rintro e w2 ⟨rfl, h2⟩; obtain ⟨k0, k1, k2, k3, k4⟩ := cells5 (h2.blk 1 rfl).1 (Below.refl _ _); have hs5 := (((((h2.set 2 rfl 0 (.bool false)).set 2 rfl 1 (.int .i64 t)).set 2 rfl 2 (.int .i64 k)).set 2 rfl 3 (.int .i64 v)).set 2 rfl 4 (.int .u64 lb)); obtain ⟨s0, s1, s2, s3, s4⟩ := cells5 (hs5.blk 1 rfl).1 (Below.refl _ _); obtain ⟨q2, z2⟩ := blkCells (h2.blk 2 rfl).1; have hg2 := (h2.blk 2 rfl).2.2; have H5 := Lib.hid hs5; clear h2 hs5))
    all_goals
      go_wp2
      exact bodyPost_ret (v := .tuple #[.agg #[.bool false, .int .i64 t, .int .i64 k, .int .i64 v, .int .u64 lb], .bool (evRight t k lb)]) (by simp [results, go_sem, q2, hg2]) rfl ⟨rfl, HEND.out _ _ _ H5.out⟩
end
/- CellOps -/
section
open Go.RowKit
def Cl.refuse (c : Cl) : Cl := ⟨c.left, c.spent, wrap64 (c.refused + 1), c.id, c.p, c.q, c.taken⟩
def Cl.offer (c : Cl) (room : Int) (i : Inp) : Int × Cl :=
  if ownB c.id i = false then (1, c.refuse) else if c.left = 0 then (4, c.refuse) else if room < c.q.length + 1 then (3, c.refuse)
  else (0, ⟨c.left - 1, wrap64 (c.spent + 1), c.refused, c.id, c.p, c.q ++ [ownI c.id i], c.taken⟩)
def Cl.feed (c : Cl) (e : Ev) : Cl := if evRight e.time e.key e.label then ⟨c.left, c.spent, c.refused, c.id, c.p, c.q ++ [⟨false, e⟩], c.taken⟩ else c
def Cl.serve (c : Cl) (j : Nat) : Cl := ⟨c.left, c.spent, c.refused, c.id, c.p, c.q.drop j, c.taken ++ c.q.take j⟩
theorem Cl.ok_refuse {c : Cl} {N : Nat} (h : c.ok N) : c.refuse.ok N := ⟨h.left0, h.left1, h.id0, h.id1, h.wfq, h.wft, h.len, h.right, h.ops, h.few⟩
theorem cellRefused_st {w0 w : World} {L : List HP} {b n : Nat} {l s r : Int} {v3 v4 v5 v6 v7 : Value} {T : TypeId} (h : St w0 w L) (hn : L[n]? = some (pt b (.cells #[.int .i64 l, .int .i64 s, .int .i64 r, v3, v4, v5, v6, v7] T (0, 0)))) (x : Int) :
    Calls Tryz.prog 83 #[.pointer (some ⟨b, 0, none⟩), .int .i64 x] w fun e w' => e = .returned (.int .i64 x) ∧ St w0 w' (L.set n (pt b (.cells #[.int .i64 l, .int .i64 s, .int .i64 (wrap64 (r + 1)), v3, v4, v5, v6, v7] T (0, 0)))) := by
  have HC := Lib.hid (refuse_st h hn)
  clear h hn
  go_enter Tryz.func83, Tryz.ntmps83
  go_wp2_with (go_at_call 109; (with_reducible refine HC.out.mono ?_); rintro e w1 ⟨rfl, h1⟩; have H1 := Lib.hid h1; clear h1 HC)
  go_ret
  exact ⟨rfl, H1.out⟩
set_option maxHeartbeats 2000000 in
set_option maxRecDepth 20000 in
theorem offer_st {w0 w : World} {L : List HP} {cb N : Nat} {c : Cl} (h : St w0 w L) (n : Nat) (hn : L[n]? = some (clP cb c N)) (room : Int) (i : Inp) (hi : i.ev.wf) (hN : N < 2 ^ 28) :
    Calls Tryz.prog 64 #[.pointer (some ⟨cb, 0, none⟩), .int .i64 room, .agg #[.bool i.mark, .int .i64 i.ev.time, .int .i64 i.ev.key, .int .i64 i.ev.value, .int .u64 i.ev.label]] w fun e w' => e = .returned (.int .i64 (c.offer room i).1) ∧ St w0 w' (L.set n (clP cb (c.offer room i).2 (N + 1))) := by
  have hnl := (List.getElem?_eq_some_iff.1 hn).1
  obtain ⟨rb, qv, rv, tv, hok, hst⟩ := cl_open h n hn
  have hend : ∀ (w' : World) (c' : Cl) (M : Nat) (K : List HP) (rb : Nat) (qv rv tv : Value), c'.ok M → St w0 w' (pt cb (.cells (c'.cells rb qv rv tv) 83 (0, 0)) :: seeP 5 Inp.cells qv c'.q :: rnP rb c'.rn c'.taken.length :: ownP 55 5 Rw.cells rv c'.rows :: ownP 65 5 Inp.cells tv c'.taken :: sepL (L.set n emp) :: K) → St w0 w' (L.set n (clP cb c' M) ++ K) := fun w' c' M K rb qv rv tv hok h' => cl_shut hok hnl h'
  obtain ⟨l, s, r, id, p, q, tk⟩ := c
  have hqlen : q.length < 2 ^ 28 := by have := hok.len; dsimp only at this; omega
  obtain ⟨qa, qc, hqv, _⟩ := hst.see Inp.len 1 rfl
  subst hqv
  dsimp only [Cl.cells] at hst
  have hR : ∀ w', St w0 w' [pt cb (.cells #[.int .i64 l, .int .i64 s, .int .i64 (wrap64 (r + 1)), .slice qa q.length qc, .pointer (some ⟨rb, 0, none⟩), .int .i64 id, rv, tv] 83 (0, 0)), seeP 5 Inp.cells (.slice qa q.length qc) q, rnP rb (Cl.rn ⟨l, s, r, id, p, q, tk⟩) tk.length, ownP 55 5 Rw.cells rv (Cl.rows ⟨l, s, r, id, p, q, tk⟩), ownP 65 5 Inp.cells tv tk, sepL (L.set n emp)] → St w0 w' (L.set n (clP cb (Cl.refuse ⟨l, s, r, id, p, q, tk⟩) (N + 1))) := fun w' h' => by
    have := hend w' (Cl.refuse ⟨l, s, r, id, p, q, tk⟩) (N + 1) [] rb (.slice qa q.length qc) rv tv ((Cl.ok_refuse hok).mono (by omega)) h'
    simpa using this
  have hY : ∀ w' v, St w0 w' [pt cb (.cells #[.int .i64 (l - 1), .int .i64 (wrap64 (s + 1)), .int .i64 r, v, .pointer (some ⟨rb, 0, none⟩), .int .i64 id, rv, tv] 83 (0, 0)), ownP 65 5 Inp.cells v (q ++ [ownI id i]), rnP rb (Cl.rn ⟨l, s, r, id, p, q, tk⟩) tk.length, ownP 55 5 Rw.cells rv (Cl.rows ⟨l, s, r, id, p, q, tk⟩), ownP 65 5 Inp.cells tv tk, sepL (L.set n emp)] → l ≠ 0 → St w0 w' (L.set n (clP cb ⟨l - 1, wrap64 (s + 1), r, id, p, q ++ [ownI id i], tk⟩ (N + 1))) := fun w' v h' hl0 => by
    have hok' : Cl.ok ⟨l - 1, wrap64 (s + 1), r, id, p, q ++ [ownI id i], tk⟩ (N + 1) := by
      obtain ⟨a1, a2, a3, a4, a5, a6, a7, a8, a9, a10⟩ := hok
      dsimp only at a1 a2 a3 a4 a5 a6 a7 a8 a9 a10
      refine ⟨by dsimp only; omega, by dsimp only; omega, a3, a4, fun j hj => ?_, a6, by dsimp only; rw [List.length_append]; simp only [List.length_cons, List.length_nil]; omega, a8, a9, a10⟩
      rcases List.mem_append.1 hj with hj | hj
      · exact a5 j hj
      · simp at hj; subst hj; exact ownI_wf a3 a4 hi
    have := hend w' ⟨l - 1, wrap64 (s + 1), r, id, p, q ++ [ownI id i], tk⟩ (N + 1) [] rb v rv tv hok' (h'.imp 1 rfl fun f hf => seeP_own Inp.len hf)
    simpa using this
  have hl0 := hok.left0
  have hl1 := hok.left1
  have h00 := hok.id0
  have h01 := hok.id1
  dsimp only at hl0 hl1 h00 h01
  obtain ⟨im, ⟨ti, ki, vi, li⟩⟩ := i
  have HCO := Lib.hid (own_st (hst.alloc (.cells #[.bool im, .int .i64 ti, .int .i64 ki, .int .i64 vi, .int .u64 li] 65)) (n := 0) rfl h00 h01 ⟨im, ⟨ti, ki, vi, li⟩⟩)
  unfold Cl.offer
  dsimp only
  obtain ⟨O, hO⟩ : ∃ O, O = ownI id ⟨im, ⟨ti, ki, vi, li⟩⟩ := ⟨_, rfl⟩
  obtain ⟨om, ⟨ot, okk, ov, ol⟩⟩ := O
  rw [← hO] at HCO hY ⊢
  obtain ⟨hlt, _⟩ := (⟨(hst.blk 0 rfl).2.2, trivial⟩ : cb < w.heap.size ∧ True)
  have HR := Lib.hid hR
  have HY := Lib.hid hY
  have HST := Lib.hid hst
  clear h hn hok hst hend hR hY hO hi hnl
  generalize Cl.rn ⟨l, s, r, id, p, q, tk⟩ = rn at *
  generalize Cl.rows ⟨l, s, r, id, p, q, tk⟩ = rws at *
  dsimp only at HCO
  cases hob : ownB id ⟨im, ⟨ti, ki, vi, li⟩⟩ with
  | false =>
    have HOB := Lib.hid hob
    rw [if_pos rfl]
    clear hob
    go_enter Tryz.func64, Tryz.ntmps64
    go_upto_region 3 with (go_at_call 82; (with_reducible refine HCO.out.mono ?_); rintro e w1 ⟨rfl, h1⟩; rw [HOB.out]; have h1 := h1.alloc (.cells #[.bool om, .int .i64 ot, .int .i64 okk, .int .i64 ov, .int .u64 ol] 65); obtain ⟨c0, c1, c2, c3, c4, c5, c6, c7⟩ := cells8 (h1.blk 0 rfl).1 (Below.refl _ _); have hlc := (h1.blk 0 rfl).2.2; have HS1 := Lib.hid h1; clear h1 HCO)
    have HCR := Lib.hid (cellRefused_st HS1.out (n := 0) rfl 1)
    go_wp2_with (go_at_call 83; (with_reducible refine HCR.out.mono ?_); rintro e w2 ⟨rfl, h2⟩; have H2 := Lib.hid h2; clear h2 HCR)
    go_ret
    exact ⟨rfl, HR.out _ (H2.out.pick [0, 1, 2, 3, 4, 5] (by decide))⟩
  | true =>
    have HOB := Lib.hid hob
    rw [if_neg (by decide)]
    clear hob
    by_cases hz : l = 0
    · rw [if_pos hz]
      subst hz
      go_enter Tryz.func64, Tryz.ntmps64
      go_upto_region 4 with (go_at_call 82; (with_reducible refine HCO.out.mono ?_); rintro e w1 ⟨rfl, h1⟩; rw [HOB.out]; have h1 := h1.alloc (.cells #[.bool om, .int .i64 ot, .int .i64 okk, .int .i64 ov, .int .u64 ol] 65); obtain ⟨c0, c1, c2, c3, c4, c5, c6, c7⟩ := cells8 (h1.blk 0 rfl).1 (Below.refl _ _); have hlc := (h1.blk 0 rfl).2.2; have HS1 := Lib.hid h1; clear h1 HCO)
      have HCL := Lib.hid (left_st 0 s r HS1.out)
      go_upto_region 5 with (go_at_call 84; (with_reducible refine HCL.out.mono ?_); rintro e w2 ⟨rfl, h2⟩; have HS2 := Lib.hid h2; have HCR := Lib.hid (cellRefused_st h2 (n := 0) rfl 4); clear h2 HCL)
      go_wp2_with (go_at_call 83; (with_reducible refine HCR.out.mono ?_); rintro e w2 ⟨rfl, h2⟩; have H2 := Lib.hid h2; clear h2 HCR)
      go_ret
      exact ⟨rfl, HR.out _ (H2.out.pick [0, 1, 2, 3, 4, 5] (by decide))⟩
    · rw [if_neg hz]
      have hz' : (l == 0) = false := by simpa using hz
      by_cases hro : room < (q.length : Int) + 1
      · rw [if_pos hro]
        go_enter Tryz.func64, Tryz.ntmps64
        go_upto_region 4 with (go_at_call 82; (with_reducible refine HCO.out.mono ?_); rintro e w1 ⟨rfl, h1⟩; rw [HOB.out]; have h1 := h1.alloc (.cells #[.bool om, .int .i64 ot, .int .i64 okk, .int .i64 ov, .int .u64 ol] 65); obtain ⟨c0, c1, c2, c3, c4, c5, c6, c7⟩ := cells8 (h1.blk 0 rfl).1 (Below.refl _ _); have hlc := (h1.blk 0 rfl).2.2; have HS1 := Lib.hid h1; clear h1 HCO)
        have HCL := Lib.hid (left_st l s r HS1.out)
        go_upto_region 6 with (go_at_call 84; (with_reducible refine HCL.out.mono ?_); rintro e w2 ⟨rfl, h2⟩; have HS2 := Lib.hid h2; clear h2 HCL)
        have HCP := Lib.hid (push_no (HS2.out.alloc (.cells #[.bool om, .int .i64 ot, .int .i64 okk, .int .i64 ov, .int .u64 ol] 65)).drew (n := 0) rfl 1 rfl (by decide) (by omega) room hro (some ⟨w2.heap.size, 0, none⟩) 1)
        go_region_held3 (fun w' => w'.cell? ⟨w1.heap.size, 0, none⟩ = some (.bool om) ∧ w'.cell? ⟨w1.heap.size, 1, none⟩ = some (.int .i64 ot) ∧ w'.cell? ⟨w1.heap.size, 2, none⟩ = some (.int .i64 okk) ∧ w'.cell? ⟨w1.heap.size, 3, none⟩ = some (.int .i64 ov) ∧ w'.cell? ⟨w1.heap.size, 4, none⟩ = some (.int .u64 ol)) (first | (with_reducible exact ⟨k0, k1, k2, k3, k4⟩) | exact cells5 (HS2.out.blk 7 rfl).1 (by go_grown))
          (first | (go_at_call 85; (with_reducible refine HCP.out.mono ?_); rintro e w3 ⟨rfl, h3⟩; obtain ⟨k0, k1, k2, k3, k4⟩ := cells5 (h3.blk 7 rfl).1 (Below.refl _ _); have HS3 := Lib.hid h3; clear h3))
        all_goals
          have HCR := Lib.hid (cellRefused_st HS3.out (n := 0) rfl 3)
          go_wp2_with (go_at_call 83; (with_reducible refine HCR.out.mono ?_); rintro e w2 ⟨rfl, h2⟩; have H2 := Lib.hid h2; clear h2 HCR)
          go_ret
          exact ⟨rfl, HR.out _ (H2.out.pick [0, 1, 2, 3, 4, 5] (by decide))⟩
      · rw [if_neg hro]
        go_enter Tryz.func64, Tryz.ntmps64
        go_upto_region 4 with (go_at_call 82; (with_reducible refine HCO.out.mono ?_); rintro e w1 ⟨rfl, h1⟩; rw [HOB.out]; have h1 := h1.alloc (.cells #[.bool om, .int .i64 ot, .int .i64 okk, .int .i64 ov, .int .u64 ol] 65); obtain ⟨c0, c1, c2, c3, c4, c5, c6, c7⟩ := cells8 (h1.blk 0 rfl).1 (Below.refl _ _); have hlc := (h1.blk 0 rfl).2.2; have HS1 := Lib.hid h1; clear h1 HCO)
        have HCL := Lib.hid (left_st l s r HS1.out)
        go_upto_region 6 with (go_at_call 84; (with_reducible refine HCL.out.mono ?_); rintro e w2 ⟨rfl, h2⟩; have HS2 := Lib.hid h2; clear h2 HCL)
        have HCP := Lib.hid (push_yes (HS2.out.alloc (.cells #[.bool om, .int .i64 ot, .int .i64 okk, .int .i64 ov, .int .u64 ol] 65)).drew (n := 0) rfl 1 rfl (by decide) (by omega) room (by omega) ⟨om, ⟨ot, okk, ov, ol⟩⟩ 8 rfl)
        go_region_held3 (fun w' => w'.cell? ⟨w1.heap.size, 0, none⟩ = some (.bool om) ∧ w'.cell? ⟨w1.heap.size, 1, none⟩ = some (.int .i64 ot) ∧ w'.cell? ⟨w1.heap.size, 2, none⟩ = some (.int .i64 okk) ∧ w'.cell? ⟨w1.heap.size, 3, none⟩ = some (.int .i64 ov) ∧ w'.cell? ⟨w1.heap.size, 4, none⟩ = some (.int .u64 ol)) (first | (with_reducible exact ⟨k0, k1, k2, k3, k4⟩) | exact cells5 (HS2.out.blk 7 rfl).1 (by go_grown))
          (first | (go_at_call 85; (with_reducible refine HCP.out.mono ?_); rintro e w3 ⟨v3, rfl, h3⟩; obtain ⟨k0, k1, k2, k3, k4⟩ := cells5 (h3.blk 7 rfl).1 (Below.refl _ _); have HS3 := Lib.hid h3; clear h3))
        all_goals
          have hl1' : 1 ≤ l := by omega
          have HCS := Lib.hid (spend_st (HS3.out.alloc (.cells #[.int .i64 1] 3)) (n := 0) rfl hl1' hl1 9 rfl)
          go_wp2_with (go_at_call 86; (with_reducible refine HCS.out.mono ?_); rintro e w4 ⟨rfl, h4⟩; have H4 := Lib.hid h4; clear h4 HCS)
          go_ret
          exact ⟨rfl, HY.out _ _ (H4.out.pick [0, 1, 2, 3, 4, 5] (by decide)) hz⟩
end
/- CellMore -/
section
open Go.RowKit
set_option maxHeartbeats 2000000 in
set_option maxRecDepth 20000 in
theorem feed_st {w0 w : World} {L : List HP} {cb N : Nat} {c : Cl} (h : St w0 w L) (n : Nat) (hn : L[n]? = some (clP cb c N)) (e : Ev) (he : e.wf) (hN : N < 2 ^ 28) :
    Calls Tryz.prog 125 #[.pointer (some ⟨cb, 0, none⟩), .agg #[.int .i64 e.time, .int .i64 e.key, .int .i64 e.value, .int .u64 e.label]] w fun x w' => x = .returned (.tuple #[]) ∧ St w0 w' (L.set n (clP cb (c.feed e) (N + 1))) := by
  have hnl := (List.getElem?_eq_some_iff.1 hn).1
  obtain ⟨rb, qv, rv, tv, hok, hst⟩ := cl_open h n hn
  have hend : ∀ (w' : World) (c' : Cl) (M : Nat) (K : List HP) (rb : Nat) (qv rv tv : Value), c'.ok M → St w0 w' (pt cb (.cells (c'.cells rb qv rv tv) 83 (0, 0)) :: seeP 5 Inp.cells qv c'.q :: rnP rb c'.rn c'.taken.length :: ownP 55 5 Rw.cells rv c'.rows :: ownP 65 5 Inp.cells tv c'.taken :: sepL (L.set n emp) :: K) → St w0 w' (L.set n (clP cb c' M) ++ K) := fun w' c' M K rb qv rv tv hok h' => cl_shut hok hnl h'
  obtain ⟨l, s, r, id, p, q, tk⟩ := c
  have hqlen : q.length < 2 ^ 28 := by have := hok.len; dsimp only at this; omega
  obtain ⟨qa, qc, hqv, _⟩ := hst.see Inp.len 1 rfl
  subst hqv
  dsimp only [Cl.cells] at hst
  have hR : ∀ w', St w0 w' [pt cb (.cells #[.int .i64 l, .int .i64 s, .int .i64 r, .slice qa q.length qc, .pointer (some ⟨rb, 0, none⟩), .int .i64 id, rv, tv] 83 (0, 0)), seeP 5 Inp.cells (.slice qa q.length qc) q, rnP rb (Cl.rn ⟨l, s, r, id, p, q, tk⟩) tk.length, ownP 55 5 Rw.cells rv (Cl.rows ⟨l, s, r, id, p, q, tk⟩), ownP 65 5 Inp.cells tv tk, sepL (L.set n emp)] → St w0 w' (L.set n (clP cb ⟨l, s, r, id, p, q, tk⟩ (N + 1))) := fun w' h' => by
    have := hend w' ⟨l, s, r, id, p, q, tk⟩ (N + 1) [] rb (.slice qa q.length qc) rv tv (hok.mono (by omega)) h'
    simpa using this
  have hY : ∀ w' v, St w0 w' [pt cb (.cells #[.int .i64 l, .int .i64 s, .int .i64 r, v, .pointer (some ⟨rb, 0, none⟩), .int .i64 id, rv, tv] 83 (0, 0)), ownP 65 5 Inp.cells v (q ++ [⟨false, e⟩]), rnP rb (Cl.rn ⟨l, s, r, id, p, q, tk⟩) tk.length, ownP 55 5 Rw.cells rv (Cl.rows ⟨l, s, r, id, p, q, tk⟩), ownP 65 5 Inp.cells tv tk, sepL (L.set n emp)] → St w0 w' (L.set n (clP cb ⟨l, s, r, id, p, q ++ [⟨false, e⟩], tk⟩ (N + 1))) := fun w' v h' => by
    have hok' : Cl.ok ⟨l, s, r, id, p, q ++ [⟨false, e⟩], tk⟩ (N + 1) := by
      obtain ⟨a1, a2, a3, a4, a5, a6, a7, a8, a9, a10⟩ := hok
      dsimp only at a1 a2 a3 a4 a5 a6 a7 a8 a9 a10
      refine ⟨a1, a2, a3, a4, fun j hj => ?_, a6, by dsimp only; rw [List.length_append]; simp only [List.length_cons, List.length_nil]; omega, a8, a9, a10⟩
      rcases List.mem_append.1 hj with hj | hj
      · exact a5 j hj
      · simp at hj; subst hj; exact he
    have := hend w' ⟨l, s, r, id, p, q ++ [⟨false, e⟩], tk⟩ (N + 1) [] rb v rv tv hok' (h'.imp 1 rfl fun f hf => seeP_own Inp.len hf)
    simpa using this
  obtain ⟨ti, ki, vi, li⟩ := e
  have HCR := Lib.hid (evRight_st ti ki vi li (hst.alloc (.cells #[.int .i64 ti, .int .i64 ki, .int .i64 vi, .int .u64 li] 63)))
  unfold Cl.feed
  dsimp only
  have HR := Lib.hid hR
  have HY := Lib.hid hY
  clear h hn hok hst hend hR hY he hnl
  generalize Cl.rn ⟨l, s, r, id, p, q, tk⟩ = rn at *
  generalize Cl.rows ⟨l, s, r, id, p, q, tk⟩ = rws at *
  cases hob : evRight ti ki li with
  | false =>
    have HOB := Lib.hid hob
    rw [if_neg (by decide)]
    clear hob
    go_enter Tryz.func125, Tryz.ntmps125
    go_wp2_with (go_at_call 108; (with_reducible refine HCR.out.mono ?_); rintro e w1 ⟨rfl, h1⟩; rw [HOB.out]; have H1 := Lib.hid h1; clear h1 HCR)
    go_end0
    exact ⟨rfl, HR.out _ (H1.out.pick [0, 1, 2, 3, 4, 5] (by decide))⟩
  | true =>
    have HOB := Lib.hid hob
    rw [if_pos rfl]
    clear hob
    go_enter Tryz.func125, Tryz.ntmps125
    go_upto_region 2 with (go_at_call 108; (with_reducible refine HCR.out.mono ?_); rintro e w1 ⟨rfl, h1⟩; rw [HOB.out]; have HS2 := Lib.hid h1; clear h1 HCR)
    have hgs := (HS2.out.blk 6 rfl).2.2
    have HCP := Lib.hid (push_yes (HS2.out.alloc (.cells #[.bool false, .int .i64 ti, .int .i64 ki, .int .i64 vi, .int .u64 li] 65)).drew (n := 0) rfl 1 rfl (by decide) (by omega) 9223372036854775807 (by omega) ⟨false, ⟨ti, ki, vi, li⟩⟩ 7 rfl)
    go_region_held3 (fun w' => w'.cell? ⟨w.heap.size, 0, none⟩ = some (.int .i64 ti) ∧ w'.cell? ⟨w.heap.size, 1, none⟩ = some (.int .i64 ki) ∧ w'.cell? ⟨w.heap.size, 2, none⟩ = some (.int .i64 vi) ∧ w'.cell? ⟨w.heap.size, 3, none⟩ = some (.int .u64 li)) (first | (with_reducible exact ⟨k0, k1, k2, k3⟩) | exact cells4 (HS2.out.blk 6 rfl).1 (by go_grown))
      (first | (go_at_call 85; (with_reducible refine HCP.out.mono ?_); rintro e w3 ⟨v3, rfl, h3⟩; obtain ⟨k0, k1, k2, k3⟩ := cells4 (h3.blk 6 rfl).1 (Below.refl _ _); have HS3 := Lib.hid h3; clear h3))
    all_goals
      go_wp2
      go_end0
      exact ⟨rfl, HY.out _ _ (HS3.out.pick [0, 1, 2, 3, 4, 5] (by decide))⟩
theorem wpList_append_len {P : Program} {α : Type} {enc : α → List Value} {c : Nat} {w0 w : World} {L : List HP} {t e : TypeId} (E : Elem P t e c enc) {ops : Array Oper} {rest : List Oper} {o : Oper} {a : Act} {Q : Exit → Act → World → Prop} (hgd : o.guard = none) (hst : St w0 w L) (n : Nat) {v : Value} {l0 : List α} (hn : L[n]? = some (ownP e c enc v l0))
    (s x : Operand) (ho : o.op = .call { callee := .builtin .append, args := #[s, x], argTypes := #[t, t] }) (hs : a.eval s = v)
    (ad : Option Addr) (k cap : Nat) (l : List α) (hk : l.length = k) (hx : a.eval x = .slice ad k cap) (hnil : ad = none → cap = 0) (hsl : SlAt c (flat enc) w ad l) (hlen : l0.length + l.length ≤ 1099511627776)
    (h : ∀ v' w', St w0 w' (L.set n (ownP e c enc v' (l0 ++ l))) → (v ≠ .slice none 0 0 → v' ≠ .slice none 0 0) → wpList P ops Q rest (a.put o.dst v') w') : wpList P ops Q (o :: rest) a w := by
  subst hk
  exact wpList_append_st E hgd hst n hn s x ho hs ad cap l hx hnil hsl hlen h
theorem rnTake_len {w0 w : World} {L : List HP} {rb N : Nat} {r : Rn} (h : St w0 w L) (n : Nat) (hn : L[n]? = some (rnP rb r N)) (a : Option Addr) (k cap : Nat) (l : List Inp) (hk : l.length = k) (hl : Seen w0 (sepL (L.set n emp)) 5 Inp.cells a l) (hw : ∀ i ∈ l, i.ev.wf) (hN : N + k < 2 ^ 30) :
    Calls Tryz.prog 66 #[.pointer (some ⟨rb, 0, none⟩), .slice a k cap] w fun x w' => ∃ v, x = .returned v ∧ St w0 w' (L.set n (rnP rb (afterR r l) (N + l.length)) ++ [ownP 55 5 Rw.cells v (rowsR r l)]) := by
  subst hk
  obtain ⟨_, _, _, _, hG, _⟩ := rn_see h n hn (by omega)
  exact rnTake_st h n hn a cap l hl hw hN hG.len
set_option maxHeartbeats 2000000 in
set_option maxRecDepth 20000 in
theorem serve_st {w0 w : World} {L : List HP} {cb N : Nat} {c : Cl} (h : St w0 w L) (n : Nat) (hn : L[n]? = some (clP cb c N)) (m : Int) (j : Nat) (hj : max 0 (min m c.q.length) = (j : Int)) (hN : N < 2 ^ 28) :
    Calls Tryz.prog 121 #[.pointer (some ⟨cb, 0, none⟩), .int .i64 m] w fun x w' => ∃ v, x = .returned v ∧ St w0 w' (L.set n (clP cb (c.serve j) N) ++ [ownP 55 5 Rw.cells v (rowsR c.rn (c.q.take j))]) := by
  have hnl := (List.getElem?_eq_some_iff.1 hn).1
  obtain ⟨rb, qv, rv, tv, hok, hst⟩ := cl_open h n hn
  have hend : ∀ (w' : World) (c' : Cl) (M : Nat) (K : List HP) (rb : Nat) (qv rv tv : Value), c'.ok M → St w0 w' (pt cb (.cells (c'.cells rb qv rv tv) 83 (0, 0)) :: seeP 5 Inp.cells qv c'.q :: rnP rb c'.rn c'.taken.length :: ownP 55 5 Rw.cells rv c'.rows :: ownP 65 5 Inp.cells tv c'.taken :: sepL (L.set n emp) :: K) → St w0 w' (L.set n (clP cb c' M) ++ K) := fun w' c' M K rb qv rv tv hok h' => cl_shut hok hnl h'
  obtain ⟨l, s, r, id, p, q, tk⟩ := c
  dsimp only at hj
  have hjq : j ≤ q.length := by omega
  have htl : (q.take j).length = j := by simp; omega
  have hlen := hok.len
  dsimp only at hlen
  have hrl := rowsR_len (newR p) tk
  have hrl2 := rowsR_len (afterR (newR p) tk) (q.take j)
  have hn0 : (newR p).L.length = 0 := rfl
  have hrl : (Cl.rows ⟨l, s, r, id, p, q, tk⟩).length + (Cl.rn ⟨l, s, r, id, p, q, tk⟩).L.length ≤ 8 * tk.length := by
    show (rowsR (newR p) tk).length + (afterR (newR p) tk).L.length ≤ _
    omega
  have hrl2 : (rowsR (Cl.rn ⟨l, s, r, id, p, q, tk⟩) (q.take j)).length ≤ (Cl.rn ⟨l, s, r, id, p, q, tk⟩).L.length + 8 * j := by
    show (rowsR (afterR (newR p) tk) (q.take j)).length ≤ (afterR (newR p) tk).L.length + 8 * j
    rw [htl] at hrl2
    omega
  have hwq : ∀ i ∈ q.take j, i.ev.wf := fun i hi => hok.wfq i (List.mem_of_mem_take hi)
  obtain ⟨qa, qc, hqv, _⟩ := hst.see Inp.len 1 rfl
  subst hqv
  obtain ⟨ra, rc, hrv, _, _, _, _⟩ := hst.sl Rw.len 3 rfl
  subst hrv
  obtain ⟨ta, tc, htv, _, _, _, _⟩ := hst.sl Inp.len 4 rfl
  subst htv
  dsimp only [Cl.cells] at hst
  have hY : ∀ w' v1 v2 v3 v4, St w0 w' [pt cb (.cells #[.int .i64 l, .int .i64 s, .int .i64 r, v1, .pointer (some ⟨rb, 0, none⟩), .int .i64 id, v2, v3] 83 (0, 0)), seeP 5 Inp.cells v1 (q.drop j), rnP rb (afterR (Cl.rn ⟨l, s, r, id, p, q, tk⟩) (q.take j)) (tk.length + (q.take j).length), ownP 55 5 Rw.cells v2 (Cl.rows ⟨l, s, r, id, p, q, tk⟩ ++ rowsR (Cl.rn ⟨l, s, r, id, p, q, tk⟩) (q.take j)), ownP 65 5 Inp.cells v3 (tk ++ q.take j), sepL (L.set n emp), ownP 55 5 Rw.cells v4 (rowsR (Cl.rn ⟨l, s, r, id, p, q, tk⟩) (q.take j))] → St w0 w' (L.set n (clP cb (Cl.serve ⟨l, s, r, id, p, q, tk⟩ j) N) ++ [ownP 55 5 Rw.cells v4 (rowsR (Cl.rn ⟨l, s, r, id, p, q, tk⟩) (q.take j))]) := fun w' v1 v2 v3 v4 h' => by
    have hok' : Cl.ok (Cl.serve ⟨l, s, r, id, p, q, tk⟩ j) N := by
      obtain ⟨a1, a2, a3, a4, a5, a6, a7, a8, a9, a10⟩ := hok
      dsimp only at a1 a2 a3 a4 a5 a6 a7 a8 a9 a10
      refine ⟨a1, a2, a3, a4, fun i hi => a5 i (List.mem_of_mem_drop hi), fun i hi => ?_, ?_, a8, a9, a10⟩
      · rcases List.mem_append.1 hi with hi | hi
        · exact a6 i hi
        · exact hwq i hi
      · show (q.drop j).length + (tk ++ q.take j).length ≤ N
        rw [List.length_append, htl, List.length_drop]
        omega
    refine hend w' (Cl.serve ⟨l, s, r, id, p, q, tk⟩ j) N [ownP 55 5 Rw.cells v4 (rowsR (Cl.rn ⟨l, s, r, id, p, q, tk⟩) (q.take j))] rb v1 v2 v3 hok' ?_
    have e1 : (Cl.serve ⟨l, s, r, id, p, q, tk⟩ j).rn = afterR (Cl.rn ⟨l, s, r, id, p, q, tk⟩) (q.take j) := afterR_append _ _ _
    have e2 : (Cl.serve ⟨l, s, r, id, p, q, tk⟩ j).rows = Cl.rows ⟨l, s, r, id, p, q, tk⟩ ++ rowsR (Cl.rn ⟨l, s, r, id, p, q, tk⟩) (q.take j) := rowsR_append _ _ _
    have e3 : (Cl.serve ⟨l, s, r, id, p, q, tk⟩ j).taken.length = tk.length + (q.take j).length := List.length_append
    rw [e1, e2, e3]
    exact h'
  have HPO := Lib.hid (pop_st hst (n := 0) rfl 1 rfl (by decide) (by omega) m j hj)
  have HY := Lib.hid hY
  have HWQ := Lib.hid hwq
  have HTL := Lib.hid htl
  have hrn : Cl.rn ⟨l, s, r, id, p, q, tk⟩ = afterR (newR p) tk := rfl
  clear h hn hok hst hend hY hnl hwq htl hj
  dsimp only
  generalize Cl.rn ⟨l, s, r, id, p, q, tk⟩ = rn at *
  generalize Cl.rows ⟨l, s, r, id, p, q, tk⟩ = rws at *
  have hl1 : tk.length + (q.take j).length ≤ 1099511627776 := by rw [HTL.out]; omega
  have hl2 : rws.length + (rowsR rn (q.take j)).length ≤ 1099511627776 := by omega
  have HL1 := Lib.hid hl1
  have HL2 := Lib.hid hl2
  have hjb : tk.length + j < 2 ^ 30 := by omega
  clear hl1 hl2 hrn
  go_enter Tryz.func121, Tryz.ntmps121
  go_upto_region 2 with (go_at_call 138; (with_reducible refine HPO.out.mono ?_); rintro e w1 ⟨u1, v1, rfl, h1⟩; obtain ⟨ua, uc, rfl, _, _, hun, _⟩ := h1.sl Inp.len 6 rfl; obtain ⟨c0, c1, c2, c3, c4, c5, c6, c7⟩ := cells8 (h1.blk 0 rfl).1 (Below.refl _ _); have hlc := (h1.blk 0 rfl).2.2; have HUN := Lib.hid hun; have HS1 := Lib.hid h1; clear h1 HPO hun)
  have htv : (tk ++ q.take j).length = tk.length + j := by rw [List.length_append, HTL.out]
  have HTV := Lib.hid htv
  rw [HTL.out] at HS1
  clear htv
  go_upto_region 3 with (at_builtin; refine wpList_append_len inpElem rfl HS1.out 4 rfl _ _ rfl rfl ua j uc (q.take j) HTL.out rfl HUN.out (HS1.out.slOf Inp.len 6 rfl) HL1.out ?_; intro v2 w2 h2 _; obtain ⟨xa, xc, rfl, _, _, _, _⟩ := h2.sl Inp.len 4 rfl; rw [HTV.out] at h2 ⊢; obtain ⟨q2, z2⟩ := blkCells (h2.blk 0 rfl).1; have hlc2 := (h2.blk 0 rfl).2.2; have HS2 := Lib.hid h2; clear h2)
  have HCT := Lib.hid (rnTake_len (HS2.out.set 0 rfl 7 (.slice xa (tk.length + j) xc)) 2 rfl ua j uc (q.take j) HTL.out (Seen.own Inp.len 6 rfl) HWQ.out hjb)
  go_upto_region 4 with (go_at_call 66; (with_reducible refine HCT.out.mono ?_); rintro e w3 ⟨v3, rfl, h3⟩; obtain ⟨ya, yc, rfl, _, _, hyn, _⟩ := h3.sl Rw.len 7 rfl; obtain ⟨d0, d1, d2, d3, d4, d5, d6, d7⟩ := cells8 (h3.blk 0 rfl).1 (Below.refl _ _); have hlc3 := (h3.blk 0 rfl).2.2; have HYN := Lib.hid hyn; have HS3 := Lib.hid h3; clear h3 HCT hyn)
  have hrv : (rws ++ rowsR rn (q.take j)).length = rws.length + (rowsR rn (q.take j)).length := List.length_append
  have HRV := Lib.hid hrv
  clear hrv
  go_wp2_with (at_builtin; refine wpList_append_st rwElem rfl HS3.out 3 rfl _ _ rfl rfl ya yc (rowsR rn (q.take j)) rfl HYN.out (HS3.out.slOf Rw.len 7 rfl) HL2.out ?_; intro v4 w4 h4 _; obtain ⟨za, zc, rfl, _, _, _, _⟩ := h4.sl Rw.len 3 rfl; rw [HRV.out] at h4 ⊢; obtain ⟨q4, z4⟩ := blkCells (h4.blk 0 rfl).1; have hlc4 := (h4.blk 0 rfl).2.2; have HS4 := Lib.hid h4; clear h4)
  go_ret
  exact ⟨_, rfl, HY.out _ _ _ _ _ ((HS4.out.set 0 rfl 6 (.slice za (rws.length + (rowsR rn (q.take j)).length) zc)).pick [0, 1, 2, 3, 4, 5, 7] (by decide))⟩
end
/- CellLast -/
section
open Go.RowKit
def tellR (R : List Rw) (f n : Int) : List Rw × Int := if f < 0 ∨ (R.length : Int) < f then ([], 5) else ((R.drop f.toNat).take (max 0 (min (min n 32) (R.length - f))).toNat, 0)
theorem cloneRw_len {w0 w : World} {L : List HP} (h : St w0 w L) (a : Option Addr) (k cap : Nat) (l : List Rw) (hk : l.length = k) (hl : SlAt 5 (flat Rw.cells) w a l) (hn : a = none → cap = 0) (hlen : l.length ≤ 1099511627776) :
    Calls Tryz.prog 79 #[.slice a k cap] w fun e w' => ∃ v, e = .returned v ∧ St w0 w' (L ++ [ownP 55 5 Rw.cells v l]) := by
  subst hk
  exact cloneRw_st h a cap l hl hn hlen
theorem ownP_addr {α : Type} {e : TypeId} {c : Nat} {enc : α → List Value} {w0 w : World} {L : List HP} (h : St w0 w L) (n : Nat) {v : Value} {l : List α} (hn : L[n]? = some (ownP e c enc v l)) : (v = .slice none 0 0 ∧ l = []) ∨ ∃ b cap, v = .slice (some ⟨b, 0, none⟩) l.length cap ∧ l.length ≤ cap ∧ cap ≤ maxLen := by
  obtain ⟨F, hF⟩ := h.at n hn
  rcases hF with hv | ⟨b, cap, _, hv, _, h1, h2, _⟩
  · exact .inl hv
  · exact .inr ⟨b, cap, hv, h1, h2⟩
theorem cl_see {w0 w : World} {L : List HP} {cb N : Nat} {c : Cl} (h : St w0 w L) (n : Nat) (hn : L[n]? = some (clP cb c N)) : ∃ (rb : Nat) (qa : Option Addr) (qc : Nat) (rv tv : Value), c.ok N ∧ w.heap[cb]? = some (.cells #[.int .i64 c.left, .int .i64 c.spent, .int .i64 c.refused, .slice qa c.q.length qc, .pointer (some ⟨rb, 0, none⟩), .int .i64 c.id, rv, tv] 83 (0, 0)) ∧ cb < w.heap.size := by
  obtain ⟨rb, qv, rv, tv, hok, hst⟩ := cl_open h n hn
  obtain ⟨qa, qc, hqv, _⟩ := hst.see Inp.len 1 rfl
  subst hqv
  exact ⟨rb, qa, qc, rv, tv, hok, (hst.blk 0 rfl).1, (hst.blk 0 rfl).2.2⟩
theorem clRows_len {c : Cl} {N : Nat} (hok : c.ok N) : c.rows.length + c.rn.L.length ≤ 8 * c.taken.length := by
  have h := rowsR_len (newR c.p) c.taken
  have h0 : (newR c.p).L.length = 0 := rfl
  show (rowsR (newR c.p) c.taken).length + (afterR (newR c.p) c.taken).L.length ≤ _
  omega
set_option maxHeartbeats 1000000 in
theorem count_st {w0 w : World} {L : List HP} {cb N : Nat} {c : Cl} (h : St w0 w L) (n : Nat) (hn : L[n]? = some (clP cb c N)) : Calls Tryz.prog 40 #[.pointer (some ⟨cb, 0, none⟩)] w fun x w' => x = .returned (.int .i64 c.rows.length) ∧ St w0 w' L := by
  obtain ⟨rb, qv, rv, tv, hok, hst⟩ := cl_open h n hn
  obtain ⟨ra, rc, hrv, _, _, _, _⟩ := hst.sl Rw.len 3 rfl
  subst hrv
  obtain ⟨_, _, _, _, _, _, c6, _⟩ := cells8 (hst.blk 0 rfl).1 (Below.refl _ _)
  have HS := Lib.hid h
  clear h hn hst
  go_enter Tryz.func40, Tryz.ntmps40
  go_wp2
  go_ret
  exact ⟨rfl, HS.out⟩
set_option maxHeartbeats 1000000 in
theorem taken_st {w0 w : World} {L : List HP} {cb N : Nat} {c : Cl} (h : St w0 w L) (n : Nat) (hn : L[n]? = some (clP cb c N)) (hN : N < 2 ^ 28) : Calls Tryz.prog 32 #[.pointer (some ⟨cb, 0, none⟩)] w fun x w' => ∃ v, x = .returned v ∧ St w0 w' (L ++ [ownP 65 5 Inp.cells v c.taken]) := by
  have hset := set_same hn
  have hnl := (List.getElem?_eq_some_iff.1 hn).1
  obtain ⟨rb, qv, rv, tv, hok, hst⟩ := cl_open h n hn
  have hend : ∀ (w' : World) (c' : Cl) (M : Nat) (K : List HP) (rb : Nat) (qv rv tv : Value), c'.ok M → St w0 w' (pt cb (.cells (c'.cells rb qv rv tv) 83 (0, 0)) :: seeP 5 Inp.cells qv c'.q :: rnP rb c'.rn c'.taken.length :: ownP 55 5 Rw.cells rv c'.rows :: ownP 65 5 Inp.cells tv c'.taken :: sepL (L.set n emp) :: K) → St w0 w' (L.set n (clP cb c' M) ++ K) := fun w' c' M K rb qv rv tv hok h' => cl_shut hok hnl h'
  obtain ⟨ta, tc, htv, _, _, htn, _⟩ := hst.sl Inp.len 4 rfl
  subst htv
  obtain ⟨_, _, _, _, _, _, _, c7⟩ := cells8 (hst.blk 0 rfl).1 (Below.refl _ _)
  have hlen := hok.len
  have HC := Lib.hid (cloneInp_st hst ta tc c.taken (hst.slOf Inp.len 4 rfl) htn (by omega))
  have hY : ∀ w' v, St w0 w' [pt cb (.cells (c.cells rb qv rv (.slice ta c.taken.length tc)) 83 (0, 0)), seeP 5 Inp.cells qv c.q, rnP rb c.rn c.taken.length, ownP 55 5 Rw.cells rv c.rows, ownP 65 5 Inp.cells (.slice ta c.taken.length tc) c.taken, sepL (L.set n emp), ownP 65 5 Inp.cells v c.taken] → St w0 w' (L ++ [ownP 65 5 Inp.cells v c.taken]) := fun w' v h' => by
    have := hend w' c N [_] rb qv rv _ hok h'
    rwa [hset] at this
  have HY := Lib.hid hY
  clear h hn hst hend hY hok htn hset hnl
  go_enter Tryz.func32, Tryz.ntmps32
  go_wp2_with (go_at_call 60; (with_reducible refine HC.out.mono ?_); rintro e w1 ⟨v, rfl, h1⟩; have H1 := Lib.hid h1; clear h1 HC)
  go_ret
  exact ⟨v, rfl, HY.out _ _ H1.out⟩
set_option maxHeartbeats 2000000 in
set_option maxRecDepth 20000 in
theorem tell_st {w0 w : World} {L : List HP} {cb N : Nat} {c : Cl} (h : St w0 w L) (n : Nat) (hn : L[n]? = some (clP cb c N)) (f m : Int) (hN : N < 2 ^ 28) (hf : -4611686018427387904 ≤ f ∧ f ≤ 4611686018427387904) : Calls Tryz.prog 75 #[.pointer (some ⟨cb, 0, none⟩), .int .i64 f, .int .i64 m] w fun x w' => ∃ v, x = .returned (.tuple #[v, .int .i64 (tellR c.rows f m).2]) ∧ St w0 w' (L ++ [ownP 55 5 Rw.cells v (tellR c.rows f m).1]) := by
  have hset := set_same hn
  have hnl := (List.getElem?_eq_some_iff.1 hn).1
  obtain ⟨rb, qv, rv, tv, hok, hst⟩ := cl_open h n hn
  have hend : ∀ (w' : World) (c' : Cl) (M : Nat) (K : List HP) (rb : Nat) (qv rv tv : Value), c'.ok M → St w0 w' (pt cb (.cells (c'.cells rb qv rv tv) 83 (0, 0)) :: seeP 5 Inp.cells qv c'.q :: rnP rb c'.rn c'.taken.length :: ownP 55 5 Rw.cells rv c'.rows :: ownP 65 5 Inp.cells tv c'.taken :: sepL (L.set n emp) :: K) → St w0 w' (L.set n (clP cb c' M) ++ K) := fun w' c' M K rb qv rv tv hok h' => cl_shut hok hnl h'
  obtain ⟨_, _, _, _, _, _, c6, _⟩ := cells8 (hst.blk 0 rfl).1 (Below.refl _ _)
  have hlc := (hst.blk 0 rfl).2.2
  have hlen := hok.len
  have hrl := clRows_len hok
  have hY : ∀ w' v R, St w0 w' [pt cb (.cells (c.cells rb qv rv tv) 83 (0, 0)), seeP 5 Inp.cells qv c.q, rnP rb c.rn c.taken.length, ownP 55 5 Rw.cells rv c.rows, ownP 65 5 Inp.cells tv c.taken, sepL (L.set n emp), ownP 55 5 Rw.cells v R] → St w0 w' (L ++ [ownP 55 5 Rw.cells v R]) := fun w' v R h' => by
    have := hend w' c N [_] rb qv rv tv hok h'
    rwa [hset] at this
  have HY := Lib.hid hY
  have HS := Lib.hid hst
  unfold tellR
  clear h hn hst hend hY hok hset hnl
  generalize c.rows = R at *
  have hown := ownP_addr HS.out 3 rfl
  by_cases hbad : f < 0 ∨ (R.length : Int) < f
  · rw [if_pos hbad]
    have HN := Lib.hid (HS.out.nil 55 5 Rw.cells)
    obtain ⟨ra, rc, hrv⟩ : ∃ ra rc, rv = .slice ra R.length rc := by
      obtain ⟨a, b, h, _⟩ := HS.out.sl Rw.len 3 rfl
      exact ⟨a, b, h⟩
    subst hrv
    clear hown
    by_cases hf0 : f < 0
    · go_enter Tryz.func75, Tryz.ntmps75
      go_wp2
      exact bodyPost_ret (v := .tuple #[.slice none 0 0, .int .i64 5]) (by simp [results, go_sem]) rfl ⟨.slice none 0 0, rfl, HY.out w (.slice none 0 0) [] HN.out⟩
    · have hf1 : (R.length : Int) < f := by omega
      go_enter Tryz.func75, Tryz.ntmps75
      go_wp2
      exact bodyPost_ret (v := .tuple #[.slice none 0 0, .int .i64 5]) (by simp [results, go_sem]) rfl ⟨.slice none 0 0, rfl, HY.out w (.slice none 0 0) [] HN.out⟩
  · rw [if_neg hbad]
    obtain ⟨g, rfl⟩ : ∃ g : Nat, f = g := ⟨f.toNat, by omega⟩
    obtain ⟨k, hk⟩ : ∃ k : Nat, max 0 (min (min m 32) ((R.length : Int) - g)) = k := ⟨(max 0 (min (min m 32) ((R.length : Int) - g))).toNat, by omega⟩
    rw [hk]
    dsimp only
    simp only [Int.toNat_natCast]
    have hgr : g ≤ R.length := by omega
    have hkr : g + k ≤ R.length := by omega
    have hI1 : ¬ ((g : Int) < 0) := by omega
    have hI2 : ¬ ((R.length : Int) < g) := by omega
    have hI3 : (0 : Int) ≤ g := by omega
    have hI4 : (g : Int) ≤ (g : Int) + k := by omega
    have hw1 : wrap64 ((R.length : Int) - g) = (R.length : Int) - g := by unfold wrap64; omega
    have HW1 := Lib.hid hw1
    clear hw1
    have hw2 : wrap64 ((g : Int) + k) = (g : Int) + k := by unfold wrap64; omega
    have HW2 := Lib.hid hw2
    clear hw2 hbad hf
    rcases hown with ⟨rfl, hR⟩ | ⟨ab, rc, rfl, hrc, hrm⟩
    · subst hR
      simp only [List.length_nil] at hgr hkr hk hI2
      obtain rfl : g = 0 := by omega
      obtain rfl : k = 0 := by omega
      have HC := Lib.hid (cloneRw_len HS.out none 0 0 [] rfl (.inl rfl) (fun _ => rfl) (by simp))
      simp only [List.drop_nil, List.take_nil]
      clear hk hgr hkr hI2 hI4 hrl hlen
      by_cases hm0 : m ≤ 0
      · have hmx : max 0 m = 0 := by omega
        go_enter Tryz.func75, Tryz.ntmps75
        go_wp2_with (go_at_call 79; (with_reducible refine HC.out.mono ?_); rintro e w1 ⟨v, rfl, h1⟩; have H1 := Lib.hid h1; clear h1 HC)
        all_goals exact bodyPost_ret (v := .tuple #[v, .int .i64 0]) (by simp [results, go_sem]) rfl ⟨v, rfl, HY.out _ v _ H1.out⟩
      · have hmx : min (min m 32) 0 = 0 := by omega
        go_enter Tryz.func75, Tryz.ntmps75
        go_wp2_with (go_at_call 79; (with_reducible refine HC.out.mono ?_); rintro e w1 ⟨v, rfl, h1⟩; have H1 := Lib.hid h1; clear h1 HC)
        all_goals exact bodyPost_ret (v := .tuple #[v, .int .i64 0]) (by simp [results, go_sem]) rfl ⟨v, rfl, HY.out _ v _ H1.out⟩
    · have hI5 : (g : Int) + k ≤ rc := by omega
      have hI6 : (g : Int) ≤ rc := by omega
      unfold maxLen at hrm
      have hlk : ((R.drop g).take k).length = k := by simp; omega
      by_cases hcg : rc = g
      · subst hcg
        have hk0 : k = 0 := by omega
        subst hk0
        have HC := Lib.hid (cloneRw_len HS.out (some ⟨ab, 0, none⟩) 0 0 ((R.drop rc).take 0) (by simp) (.inl (by simp)) (by simp) (by simp))
        have hw1 := HW1.out
        have hz : (R.length : Int) - rc = 0 := by omega
        have hw2 := HW2.out
        clear hk hkr hrl hlen hlk hgr hI4 hI5
        by_cases hm0 : m ≤ 0
        · have hmx : max 0 m = 0 := by omega
          have hm1 : ¬ (32 : Int) < m := by omega
          have hm2 : ¬ (0 : Int) < m := by omega
          go_enter Tryz.func75, Tryz.ntmps75
          go_wp2_with (go_at_call 79; (with_reducible refine HC.out.mono ?_); rintro e w1 ⟨v, rfl, h1⟩; have H1 := Lib.hid h1; clear h1 HC)
          all_goals exact bodyPost_ret (v := .tuple #[v, .int .i64 0]) (by simp [results, go_sem]) rfl ⟨v, rfl, HY.out _ v _ H1.out⟩
        · have hm2 : (0 : Int) < m := by omega
          go_enter Tryz.func75, Tryz.ntmps75
          go_wp2_with (go_at_call 79; (with_reducible refine HC.out.mono ?_); rintro e w1 ⟨v, rfl, h1⟩; have H1 := Lib.hid h1; clear h1 HC)
          all_goals exact bodyPost_ret (v := .tuple #[v, .int .i64 0]) (by simp [results, go_sem]) rfl ⟨v, rfl, HY.out _ v _ H1.out⟩
      · have hsl := ((HS.out.slOf Rw.len 3 rfl).drop g).take k
        have HC := Lib.hid (cloneRw_len HS.out (some ⟨ab, 0 + g * 5, none⟩) k (rc - g) ((R.drop g).take k) hlk hsl (by simp) (by rw [hlk]; omega))
        simp only [Nat.zero_add] at HC
        have hw1 := HW1.out
        have HK := Lib.hid (show max 0 (if (R.length : Int) - g < (if 32 < m then 32 else m) then (R.length : Int) - g else if 32 < m then 32 else m) = k by split <;> split <;> omega)
        have HI4 := Lib.hid hI4
        have HI5 := Lib.hid hI5
        clear hsl hk hkr hrl hlen hlk hgr hI4 hI5
        go_enter Tryz.func75, Tryz.ntmps75
        go_upto_region 4 with fail
        rw [HK.out]
        have hw2 := HW2.out
        have hI4 := HI4.out
        have hI5 := HI5.out
        clear hw1
        go_wp2_with (go_at_call 79; (with_reducible refine HC.out.mono ?_); rintro e w1 ⟨v, rfl, h1⟩; have H1 := Lib.hid h1; clear h1 HC)
        all_goals exact bodyPost_ret (v := .tuple #[v, .int .i64 0]) (by simp [results, go_sem]) rfl ⟨v, rfl, HY.out _ v _ H1.out⟩
end
/- CellTwin -/
section
open Go.RowKit
theorem split_st {w0 w : World} {L : List HP} {a : Option Addr} {cap : Nat} {q : List Inp} (h : St w0 w L) (m : Nat) (hm : L[m]? = some (seeP 5 Inp.cells (.slice a q.length cap) q)) (hlen : q.length ≤ 1099511627776) :
    Calls Tryz.prog 77 #[.agg #[.slice a q.length cap]] w fun e w' => ∃ x y, e = .returned (.agg #[.slice x q.length y]) ∧ St w0 w' (L ++ [ownP 65 5 Inp.cells (.slice x q.length y) q]) := by
  have hml := (List.getElem?_eq_some_iff.1 hm).1
  have h1 := ((h.alloc (.cells #[.slice a q.length cap] 80)).alloc (.cells #[.slice none 0 0] 80))
  rw [World.size_alloc] at h1
  have hm1 : ((L ++ [pt w.heap.size (.cells #[.slice a q.length cap] 80 (0, 0))]) ++ [pt (w.heap.size + 1) (.cells #[.slice none 0 0] 80 (0, 0))])[m]? = some (seeP 5 Inp.cells (.slice a q.length cap) q) := by
    rw [List.append_assoc, List.getElem?_append_left hml]; exact hm
  have HC := Lib.hid (all_st h1 m hm1 hlen)
  have hend : ∀ (w' : World) (X Y Z : HP), St w0 w' (((L ++ [X]) ++ [Y]) ++ [Z]) → St w0 w' (L ++ [Z]) := fun w' X Y Z h => by
    have h2 : St w0 w' (L ++ X :: ([Y] ++ [Z])) := by simpa using h
    have h3 := h2.skip
    have h4 : St w0 w' (L ++ Y :: [Z]) := h3
    exact h4.skip
  have hbk : ∀ (w' : World) (X Z : HP) (o : Obj), St w0 w' (((L ++ [X]) ++ [pt (w.heap.size + 1) o]) ++ [Z]) → w'.heap[w.heap.size + 1]? = some o ∧ w.heap.size + 1 < w'.heap.size := fun w' X Z o h => by
    have := h.blk (L.length + 1) (b := w.heap.size + 1) (o := o) (by simp)
    exact ⟨this.1, this.2.2⟩
  have hset : ∀ (w' : World) (X Z : HP) (v : Value), St w0 w' (((L ++ [X]) ++ [pt (w.heap.size + 1) (.cells #[.slice none 0 0] 80 (0, 0))]) ++ [Z]) → St w0 (w'.setCell ⟨w.heap.size + 1, 0, none⟩ v) (((L ++ [X]) ++ [pt (w.heap.size + 1) (.cells #[v] 80 (0, 0))]) ++ [Z]) := fun w' X Z v h => by
    have := h.set (L.length + 1) (b := w.heap.size + 1) (by simp; rfl) 0 v
    simpa using this
  have HEND := Lib.hid hend
  have HBK := Lib.hid hbk
  have HSET := Lib.hid hset
  clear h hm h1 hm1 hend hbk hset hml
  go_enter Tryz.func77, Tryz.ntmps77
  go_wp2_with (go_at_call 31; (with_reducible refine HC.out.mono ?_); rintro e w1 ⟨v, rfl, h1⟩; obtain ⟨x, y, rfl, _, _, _, _⟩ := h1.sl (e := 65) (v := v) (l := q) Inp.len (L.length + 2) (by simp); obtain ⟨hb, hl⟩ := HBK.out _ _ _ _ h1; obtain ⟨q1, z1⟩ := blkCells hb; have H2 := Lib.hid (HSET.out _ _ _ (.slice x q.length y) h1); clear h1 HC hb)
  have hb2 := (HBK.out _ _ _ _ H2.out).1
  have q2 := cells1 hb2 (Below.refl _ _)
  exact bodyPost_ret (v := .agg #[.slice x q.length y]) (by simp [results, go_sem, q1, q2]) rfl ⟨x, y, rfl, HEND.out _ _ _ _ H2.out⟩
set_option maxHeartbeats 2000000 in
set_option maxRecDepth 20000 in
theorem cellTwin_st {w0 w : World} {L : List HP} {cb N : Nat} {c : Cl} (h : St w0 w L) (n : Nat) (hn : L[n]? = some (clP cb c N)) (hN : N < 2 ^ 28) : Calls Tryz.prog 59 #[.pointer (some ⟨cb, 0, none⟩)] w fun x w' => ∃ g, x = .returned (.pointer (some ⟨g, 0, none⟩)) ∧ St w0 w' (L ++ [clP g c N]) := by
  have hset := set_same hn
  have hnl := (List.getElem?_eq_some_iff.1 hn).1
  obtain ⟨rb, qv, rv, tv, hok, hst⟩ := cl_open h n hn
  have hY : ∀ w' Y, St w0 w' [clP cb c N, sepL (L.set n emp), Y] → St w0 w' (L ++ [Y]) := fun w' Y h' => by
    have := St.back (X := clP cb c N) (n := n) (L := L) (K := [Y]) h' hnl
    rwa [hset] at this
  have hlen := hok.len
  have hrl := clRows_len hok
  obtain ⟨qa, qc, hqv, _, _, _, _, _⟩ := hst.see Inp.len 1 rfl
  subst hqv
  obtain ⟨ra, rc, hrv, _, _, hrn, _⟩ := hst.sl Rw.len 3 rfl
  subst hrv
  obtain ⟨ta, tc, htv, _, _, _, _⟩ := hst.sl Inp.len 4 rfl
  subst htv
  dsimp only [Cl.cells] at hst
  have HY := Lib.hid hY
  have HOK := Lib.hid hok
  have HRN := Lib.hid hrn
  clear h hn hY hset hnl hok hrn
  generalize sepL (L.set n emp) = RR at *
  obtain ⟨c0, c1, c2, c3, c4, c5, c6, c7⟩ := cells8 (hst.blk 0 rfl).1 (Below.refl _ _)
  have hlc := (hst.blk 0 rfl).2.2
  have hst1 := hst.alloc (.cells #[.int .i64 c.left, .int .i64 c.spent, .int .i64 c.refused, .slice qa c.q.length qc, .pointer (some ⟨rb, 0, none⟩), .int .i64 c.id, .slice ra c.rows.length rc, .slice ta c.taken.length tc] 83)
  have HC1 := Lib.hid (split_st hst1 1 rfl (by omega))
  have HLN := Lib.hid (show c.rows.length ≤ 1099511627776 by omega)
  have HNN := Lib.hid hN
  clear hst hst1 hrl hlen hN
  go_enter Tryz.func59, Tryz.ntmps59
  go_upto_region 3 with (go_at_call 77; (with_reducible refine HC1.out.mono ?_); rintro e w1 ⟨x, y, rfl, h1⟩; obtain ⟨q1, z1⟩ := blkCells (h1.blk 6 rfl).1; have hl1 := (h1.blk 6 rfl).2.2; have HS1 := Lib.hid (h1.set 6 rfl 3 (.slice x c.q.length y)); clear h1 HC1)
  refine wp_at HS1.out ?_
  intro w2 hst2
  generalize w.heap.size = g at *
  clear HS1 q1 z1 hl1 c0 c1 c2 c3 c4 c5 c6 c7 hlc
  obtain ⟨c0, c1, c2, c3, c4, c5, c6, c7⟩ := cells8 (hst2.blk 0 rfl).1 (Below.refl _ _)
  have hlc := (hst2.blk 0 rfl).2.2
  have HC2 := Lib.hid (rnTwin_st hst2 2 rfl)
  clear hst2
  go_upto_region 4 with (go_at_call 78; (with_reducible refine HC2.out.mono ?_); rintro e w3 ⟨tb, rfl, h3⟩; obtain ⟨q1, z1⟩ := blkCells (h3.blk 6 rfl).1; have hl1 := (h3.blk 6 rfl).2.2; have HS3 := Lib.hid (h3.set 6 rfl 4 (.pointer (some ⟨tb, 0, none⟩))); clear h3 HC2)
  refine wp_at HS3.out ?_
  intro w4 hst4
  clear HS3 q1 z1 hl1 c0 c1 c2 c3 c4 c5 c6 c7 hlc
  obtain ⟨c0, c1, c2, c3, c4, c5, c6, c7⟩ := cells8 (hst4.blk 0 rfl).1 (Below.refl _ _)
  have hlc := (hst4.blk 0 rfl).2.2
  have HC4 := Lib.hid (cloneRw_st hst4 ra rc c.rows (hst4.slOf Rw.len 3 rfl) HRN.out HLN.out)
  clear hst4
  go_wp2_with (first
    | (go_at_call 32; (with_reducible refine HC6.out.mono ?_); rintro e w6 ⟨v6, rfl, h6⟩; obtain ⟨x6, y6, rfl, _, _, _, _⟩ := h6.sl Inp.len 10 rfl; obtain ⟨q1, z1⟩ := blkCells (h6.blk 6 rfl).1; have hl1 := (h6.blk 6 rfl).2.2; have HS6 := Lib.hid ((h6.set 6 rfl 6 (.slice x5 c.rows.length y5)).set 6 rfl 7 (.slice x6 c.taken.length y6)); clear h6 HC6)
    | (go_at_call 79; (with_reducible refine HC4.out.mono ?_); rintro e w5 ⟨v5, rfl, h5⟩; obtain ⟨x5, y5, rfl, _, _, _, _⟩ := h5.sl Rw.len 9 rfl; have h5 := (h5.fold 0 [1, 2, 3, 4] (by decide) (by simp)).imp 0 rfl (X' := clP cb c N) (fun h hh => cl_pack (rb := rb) (qv := .slice qa c.q.length qc) (rv := .slice ra c.rows.length rc) (tv := .slice ta c.taken.length tc) HOK.out h hh); have h5 : St w0 w5 [clP cb c N, emp, emp, emp, emp, RR, pt g (.cells #[.int .i64 c.left, .int .i64 c.spent, .int .i64 c.refused, .slice x c.q.length y, .pointer (some ⟨tb, 0, none⟩), .int .i64 c.id, .slice ra c.rows.length rc, .slice ta c.taken.length tc] 83 (0, 0)), ownP 65 5 Inp.cells (.slice x c.q.length y) c.q, rnP tb c.rn c.taken.length, ownP 55 5 Rw.cells (.slice x5 c.rows.length y5) c.rows] := h5; have HC6 := Lib.hid (taken_st h5 0 rfl HNN.out); clear h5 HC4))
  go_ret
  have h7 := (HS6.out.imp 7 rfl (X' := seeP 5 Inp.cells (.slice x c.q.length y) c.q) fun h hh => seeP_own Inp.len hh)
  have h8 := (h7.fold 6 [7, 8, 9, 10] (by decide) (by simp)).imp 6 rfl (X' := clP g c N) (fun h hh => cl_pack (rb := tb) (qv := .slice x c.q.length y) (rv := .slice x5 c.rows.length y5) (tv := .slice x6 c.taken.length y6) HOK.out h hh)
  exact ⟨g, rfl, HY.out _ _ (h8.pick [0, 5, 6] (by decide))⟩
end
/- CellNew -/
section
open Go.RowKit
theorem SameIn_yes (l : List Inp) (a b : Option Addr) (ca cb : Nat) (w : World) (ha : SlAt 5 (flat Inp.cells) w a l) (hb : SlAt 5 (flat Inp.cells) w b l) (hlen : l.length ≤ 1099511627776) (hca : l.length ≤ ca) (hcb : l.length ≤ cb) :
    Calls Tryz.prog 30 #[.slice a l.length ca, .slice b l.length cb] w fun e w' => e = .returned (.bool true) ∧ ∃ n, w' = w.drewN n := by
  have HA := Lib.hid ha
  have HB := Lib.hid hb
  clear ha hb
  go_enter Tryz.func30, Tryz.ntmps30
  go_wp2
  go_loopw [5] (fun i wr => ∃ (k n : Nat), k ≤ l.length ∧ i = .int .i64 k ∧ wr = w.drewN n) (fun i _ => l.length - (RowKit.intOf i).toNat)
  case atStart => exact ⟨0, 0, by omega, rfl, rfl⟩
  case round =>
    obtain ⟨k, n, hk, rfl, rfl⟩ := hrel
    by_cases hlt : k < l.length
    · obtain ⟨b1, o1, rfl, h1, x0, x1, x2, x3, x4⟩ := HA.out.inAt k hlt
      obtain ⟨b2, o2, rfl, h2, y0, y1, y2, y3, y4⟩ := HB.out.inAt k hlt
      generalize l[k]?.getD Inp.zero = x at *
      go_wp2_with fail
      have hk1 : (k : Int) < l.length := by omega
      have hk2 : (k : Int) < ca := by omega
      go_quiet (fail)
      go_wp2
      go_roundw
      case rel => exact ⟨k + 1, _, by omega, by go_num, rfl⟩
      case measure => simp [RowKit.intOf]; omega
    · go_wp2
      go_ret
      exact ⟨rfl, n, rfl⟩
theorem SameIn_ok (l : List Inp) (a b : Option Addr) (ca cb : Nat) (w : World) (ha : SlAt 5 (flat Inp.cells) w a l) (hb : SlAt 5 (flat Inp.cells) w b l) (hlen : l.length ≤ 1099511627776) (hca : l.length ≤ ca) (hcb : l.length ≤ cb) :
    Calls Tryz.prog 30 #[.slice a l.length ca, .slice b l.length cb] w fun e w' => e = .returned (.bool true) ∧ Below w.heap.size w w' :=
  (SameIn_yes l a b ca cb w ha hb hlen hca hcb).mono (by rintro e w' ⟨rfl, n, rfl⟩; exact ⟨rfl, rfl, rfl, rfl, Nat.le_refl _, fun _ _ => rfl⟩)
theorem sameIn_st {w0 w : World} {L : List HP} (l : List Inp) (a b : Option Addr) (ca cb : Nat) (h : St w0 w L) (ha : SlAt 5 (flat Inp.cells) w a l) (hb : SlAt 5 (flat Inp.cells) w b l) (hlen : l.length ≤ 1099511627776) (hca : l.length ≤ ca) (hcb : l.length ≤ cb) :
    Calls Tryz.prog 30 #[.slice a l.length ca, .slice b l.length cb] w fun e w' => e = .returned (.bool true) ∧ St w0 w' L :=
  (SameIn_ok l a b ca cb w ha hb hlen hca hcb).mono (by rintro e w' ⟨rfl, hb⟩; exact ⟨rfl, h.kept hb⟩)
theorem sameIn_any {w0 w : World} {L : List HP} (h : St w0 w L) (n m : Nat) {a b : Option Addr} {j i ca cb : Nat} {l l' : List Inp} (hn : L[n]? = some (ownP 65 5 Inp.cells (.slice a j ca) l)) (hm : L[m]? = some (ownP 65 5 Inp.cells (.slice b i cb) l')) (he : l' = l) (hlen : l.length ≤ 1099511627776) :
    Calls Tryz.prog 30 #[.slice a j ca, .slice b i cb] w fun e w' => e = .returned (.bool true) ∧ St w0 w' L := by
  subst he
  obtain ⟨a1, c1, e1, h1, _, _, s1⟩ := h.sl Inp.len n hn
  obtain ⟨a2, c2, e2, h2, _, _, s2⟩ := h.sl Inp.len m hm
  cases e1
  cases e2
  exact sameIn_st l' a b ca cb h s1 s2 hlen h1 h2
def newC (most id : Int) (p : Pp) : Cl := ⟨most, 0, 0, id, p, [], []⟩
set_option maxHeartbeats 2000000 in
set_option maxRecDepth 20000 in
theorem cellNew_st {w0 w : World} {L : List HP} (h : St w0 w L) (id most : Int) (h0 : 0 ≤ id) (h1 : id < 8) (hm0 : 0 ≤ most) (hm1 : most ≤ 9223372036854775807) (p : Pp) (a : Option Addr) (cap : Nat) (hl : Seen w0 (sepL L) 2 Opr.cells a p.ops) (hnil : a = none → cap = 0) (hw : ∀ o ∈ p.ops, o.wf) (hlen : p.ops.length ≤ 6) (hr : rightPp p = true) :
    Calls Tryz.prog 63 #[.int .i64 id, .int .i64 most, .agg #[.slice a p.ops.length cap, .int .i64 p.size, .int .i64 p.slide, .int .i64 p.agg, .int .i64 p.sink, .int .i64 p.feed]] w fun x w' => ∃ cb, x = .returned (.pointer (some ⟨cb, 0, none⟩)) ∧ St w0 w' (L ++ [clP cb (newC most id p) 0]) := by
  have hst := h.wrap.alloc (.cells #[.slice a p.ops.length cap, .int .i64 p.size, .int .i64 p.slide, .int .i64 p.agg, .int .i64 p.sink, .int .i64 p.feed] 61)
  have HL := Lib.hid hl
  have HW := Lib.hid hw
  have HR := Lib.hid hr
  have HNI := Lib.hid hnil
  have HC := Lib.hid (rightPp_at p a cap _ (hl _ _ 0 hst rfl) (by unfold maxLen; omega) true hr hst)
  have hend : ∀ (w' : World) (X : HP), St w0 w' [sepL L, X] → St w0 w' (L ++ [X]) := fun w' X h => h.unwrap
  have HEND := Lib.hid hend
  have d1 : ¬ (id < 0) := by omega
  have d2 : ¬ (8 ≤ id) := by omega
  have d3 : decide (id < 0) = false := decide_eq_false d1
  have d4 : decide (8 ≤ id) = false := decide_eq_false d2
  clear h hl hw hr hnil hst hend
  go_enter Tryz.func63, Tryz.ntmps63
  go_upto_region 3 with (go_at_call 80; (with_reducible refine HC.out.mono ?_); rintro e w1 ⟨rfl, h1⟩; have HS1 := Lib.hid h1; clear h1 HC)
  have HCO := Lib.hid (quotaOf_st most hm0 HS1.out.drew)
  go_region_held3 (fun w' => w'.cell? ⟨w.heap.size, 0, none⟩ = some (.slice a p.ops.length cap) ∧ w'.cell? ⟨w.heap.size, 1, none⟩ = some (.int .i64 p.size) ∧ w'.cell? ⟨w.heap.size, 2, none⟩ = some (.int .i64 p.slide) ∧ w'.cell? ⟨w.heap.size, 3, none⟩ = some (.int .i64 p.agg) ∧ w'.cell? ⟨w.heap.size, 4, none⟩ = some (.int .i64 p.sink) ∧ w'.cell? ⟨w.heap.size, 5, none⟩ = some (.int .i64 p.feed)) (first | exact cells6 (HS3.out.blk 1 rfl).1 (by go_grown) | (with_reducible exact ⟨k0, k1, k2, k3, k4, k5⟩) | exact cells6 (HS1.out.blk 1 rfl).1 (by go_grown))
    (first
      | (go_at_call 65; (with_reducible refine HCN.out.mono ?_); rintro e w3 ⟨rb, rfl, h3⟩; obtain ⟨k0, k1, k2, k3, k4, k5⟩ := cells6 (h3.blk 1 rfl).1 (Below.refl _ _); have HS3 := Lib.hid h3; clear h3)
      | (go_at_call 81; (with_reducible refine HCO.out.mono ?_); rintro e w2 ⟨rfl, h2⟩; obtain ⟨k0, k1, k2, k3, k4, k5⟩ := cells6 (h2.blk 1 rfl).1 (Below.refl _ _); have HCN := Lib.hid (rnNew_st h2 p a cap (HL.out _ _ 0 h2 rfl) HNI.out HW.out hlen HR.out); clear h2))
  all_goals
    go_wp2
    go_ret
    refine ⟨_, rfl, HEND.out _ _ ?_⟩
    have h4 := (((HS3.out.alloc (.cells #[.int .i64 most, .int .i64 0, .int .i64 0, .slice none 0 0, .pointer (some ⟨rb, 0, none⟩), .int .i64 id, .slice none 0 0, .slice none 0 0] 83)).emp (seeP 5 Inp.cells (.slice none 0 0) ([] : List Inp)) (fun h => .inl ⟨rfl, rfl⟩)).nil 55 5 Rw.cells).nil 65 5 Inp.cells
    have hok : (newC most id p).ok 0 := ⟨hm0, hm1, h0, h1, fun _ h => (by cases h), fun _ h => (by cases h), Nat.le_refl _, HR.out, HW.out, hlen⟩
    have h5 := (h4.fold 3 [4, 2, 5, 6] (by decide) (by simp)).imp 3 rfl (X' := clP _ (newC most id p) 0) (fun h hh => cl_pack (rb := rb) (qv := .slice none 0 0) (rv := .slice none 0 0) (tv := .slice none 0 0) hok h hh)
    exact h5.pick [0, 3] (by decide)
end
/- CellRuns -/
section
open Go.RowKit
def p15 : Pp := ⟨[], 10, 10, 2, -1, -1⟩
def e15 : Inp := ⟨false, ⟨3, 0, 5, 0⟩⟩
def m15 : Inp := ⟨true, ⟨10, 0, 0, 0⟩⟩
def c15a : Cl := newC 9 2 p15
def c15b : Cl := (c15a.offer 2 e15).2
def c15c : Cl := (c15b.offer 2 m15).2
def c15d : Cl := (c15c.offer 2 e15).2
def c15e : Cl := c15d.serve 2
def r15 : List Rw := [⟨0, 0, 5, 1, 4⟩]
theorem e15_wf : e15.ev.wf := ⟨by decide, by decide, by decide, by decide⟩
theorem m15_wf : m15.ev.wf := ⟨by decide, by decide, by decide, by decide⟩
theorem p15_right : rightPp p15 = true := by decide +kernel
theorem o15a : (c15a.offer 2 e15).1 = 0 := by decide +kernel
theorem o15b : (c15b.offer 2 m15).1 = 0 := by decide +kernel
theorem o15c : (c15c.offer 2 e15).1 = 3 := by decide +kernel
theorem s15 : rowsR c15d.rn (c15d.q.take 2) = r15 := by decide +kernel
theorem q15 : max 0 (min 2 (c15d.q.length : Int)) = ((2 : Nat) : Int) := by decide +kernel
theorem t15a : (tellR c15e.rows 0 5) = (r15, 0) := by decide +kernel
theorem t15b : (tellR c15e.rows 2 1) = ([], 5) := by decide +kernel
theorem l15 : c15e.left = 7 := by decide +kernel
theorem f15 : c15e.refused = 1 := by decide +kernel
theorem cl_cells {w0 w : World} {L : List HP} {cb N : Nat} {c : Cl} (h : St w0 w L) (n : Nat) (hn : L[n]? = some (clP cb c N)) : w.cell? ⟨cb, 0, none⟩ = some (.int .i64 c.left) ∧ w.cell? ⟨cb, 1, none⟩ = some (.int .i64 c.spent) ∧ w.cell? ⟨cb, 2, none⟩ = some (.int .i64 c.refused) ∧ w.cell? ⟨cb, 5, none⟩ = some (.int .i64 c.id) ∧ (∃ qa qc, w.cell? ⟨cb, 3, none⟩ = some (.slice qa c.q.length qc)) ∧ cb < w.heap.size := by
  obtain ⟨rb, qa, qc, rv, tv, _, hb, hl⟩ := cl_see h n hn
  obtain ⟨h0, h1, h2, h3, _, h5, _⟩ := cells8 hb (Below.refl _ _)
  exact ⟨h0, h1, h2, h5, ⟨qa, qc, h3⟩, hl⟩
end
/- Offers -/
section
open Go.RowKit
def offAll (c : Cl) (room : Int) (l : List Inp) : Cl := l.foldl (fun c i => (c.offer room i).2) c
theorem offAll_take (c : Cl) (room : Int) {l : List Inp} {j : Nat} (hj : j < l.length) : offAll c room (l.take (j + 1)) = ((offAll c room (l.take j)).offer room l[j]).2 := by
  unfold offAll
  rw [List.take_add_one, List.getElem?_eq_getElem hj, List.foldl_append]
  rfl
theorem offer_q {c : Cl} {room : Int} {m : Nat} (hr : room ≤ m) (i : Inp) (h : c.q.length ≤ m) : (c.offer room i).2.q.length ≤ m := by
  unfold Cl.offer
  split
  · exact h
  · split
    · exact h
    · split
      · exact h
      · show (c.q ++ [ownI c.id i]).length ≤ m
        rw [List.length_append]
        simp only [List.length_cons, List.length_nil]
        omega
theorem offAll_q {c : Cl} {room : Int} {m : Nat} (hr : room ≤ m) : ∀ (l : List Inp), c.q.length ≤ m → (offAll c room l).q.length ≤ m := by
  intro l
  induction l generalizing c with
  | nil => exact fun h => h
  | cons i l ih => exact fun h => ih (offer_q hr i h)
theorem offer_p (c : Cl) (room : Int) (i : Inp) : (c.offer room i).2.p = c.p ∧ (c.offer room i).2.id = c.id ∧ (c.offer room i).2.taken = c.taken := by
  unfold Cl.offer
  split
  · exact ⟨rfl, rfl, rfl⟩
  · split
    · exact ⟨rfl, rfl, rfl⟩
    · split <;> exact ⟨rfl, rfl, rfl⟩
theorem offAll_p (room : Int) : ∀ (l : List Inp) (c : Cl), (offAll c room l).p = c.p ∧ (offAll c room l).id = c.id ∧ (offAll c room l).taken = c.taken := by
  intro l
  induction l with
  | nil => exact fun c => ⟨rfl, rfl, rfl⟩
  | cons i l ih =>
    intro c
    have h1 := ih (c.offer room i).2
    have h2 := offer_p c room i
    exact ⟨h1.1.trans h2.1, h1.2.1.trans h2.2.1, h1.2.2.trans h2.2.2⟩
end
/- Bound -/
section
open Go.RowKit
theorem Ticks_any (n b : Int) (w : World) (hn : n ≤ 9223372036854775806) :
    Calls Tryz.prog 61 #[.int .i64 n, .int .i64 b] w fun e w' => e = .returned (.int .i64 (if n ≤ 0 then 0 else if b ≤ 0 then -1 else (n + b - 1) / b)) ∧ w' = w := by
  by_cases h1 : n ≤ 0
  · rw [if_pos h1]
    go_enter Tryz.func61, Tryz.ntmps61
    go_wp2
    go_ret
    exact ⟨rfl, rfl⟩
  · rw [if_neg h1]
    by_cases h2 : b ≤ 0
    · rw [if_pos h2]
      go_enter Tryz.func61, Tryz.ntmps61
      go_wp2
      go_ret
      exact ⟨rfl, rfl⟩
    · rw [if_neg h2]
      have hb : 0 < b := by omega
      have hq0 : 0 ≤ n / b := Int.ediv_nonneg (by omega) (by omega)
      have hq1 : n / b ≤ n := Int.ediv_le_self _ (by omega)
      have hm := Int.emod_nonneg n (show b ≠ 0 by omega)
      have hm2 := Int.emod_lt_of_pos n hb
      have he := Int.mul_ediv_add_emod n b
      by_cases h3 : n % b = 0
      · have hv : (n + b - 1) / b = n / b := by
          rw [show n + b - 1 = (b - 1) + b * (n / b) from by omega, Int.add_mul_ediv_left _ _ (by omega), Int.ediv_eq_zero_of_lt (by omega) (by omega)]
          omega
        rw [hv]
        clear hv he
        go_enter Tryz.func61, Tryz.ntmps61
        go_wp2
        all_goals
          go_ret
          exact ⟨rfl, rfl⟩
      · have hv : (n + b - 1) / b = n / b + 1 := by
          rw [show n + b - 1 = (n % b - 1) + b * (n / b + 1) from by rw [Int.mul_add]; omega, Int.add_mul_ediv_left _ _ (by omega), Int.ediv_eq_zero_of_lt (by omega) (by omega)]
          omega
        rw [hv]
        have h4 : 0 < n % b := by omega
        clear hv he
        go_enter Tryz.func61, Tryz.ntmps61
        go_wp2
        all_goals
          go_ret
          exact ⟨rfl, rfl⟩
def ticksOf (n b : Int) : Int := if n ≤ 0 then 0 else if b ≤ 0 then -1 else (n + b - 1) / b
set_option maxHeartbeats 1000000 in
theorem boundTicks_nil (b : Int) (w : World) : Calls Tryz.prog 35 #[.pointer none, .int .i64 b] w fun e w' => e = .returned (.int .i64 0) ∧ w' = w := by
  go_enter Tryz.func35, Tryz.ntmps35
  go_wp2
  go_ret
  exact ⟨rfl, rfl⟩
theorem some_any (n : Int) (h0 : 0 ≤ n) (h1 : n ≤ 1099511627776) (w : World) : Calls Tryz.prog 62 #[.int .i64 n] w fun e w' => e = .returned (.int .i64 n) ∧ w' = w := by
  have d1 : ¬ n < 0 := by omega
  have d2 : ¬ 1099511627776 < n := by omega
  go_enter Tryz.func62, Tryz.ntmps62
  go_wp2
  go_ret
  exact ⟨rfl, rfl⟩
theorem some_off (n : Int) (h : n < 0 ∨ 1099511627776 < n) (w : World) : Calls Tryz.prog 62 #[.int .i64 n] w fun e w' => e = .returned (.int .i64 0) ∧ w' = w := by
  by_cases d1 : n < 0
  · go_enter Tryz.func62, Tryz.ntmps62
    go_wp2
    go_ret
    exact ⟨rfl, rfl⟩
  · have d2 : 1099511627776 < n := by omega
    go_enter Tryz.func62, Tryz.ntmps62
    go_wp2
    go_ret
    exact ⟨rfl, rfl⟩
theorem ticks_of (n b : Int) (w : World) (hn : n ≤ 9223372036854775806) : Calls Tryz.prog 61 #[.int .i64 n, .int .i64 b] w fun e w' => e = .returned (.int .i64 (ticksOf n b)) ∧ w' = w := Ticks_any n b w hn
def someI (n : Int) : Int := if n < 0 ∨ 1099511627776 < n then 0 else n
theorem someI_any (n : Int) (w : World) : Calls Tryz.prog 62 #[.int .i64 n] w fun e w' => e = .returned (.int .i64 (someI n)) ∧ w' = w := by
  unfold someI
  split
  · rename_i h; exact some_off n h w
  · rename_i h; exact some_any n (by omega) (by omega) w
theorem someI_range (n : Int) : 0 ≤ someI n ∧ someI n ≤ 1099511627776 := by unfold someI; split <;> omega
set_option maxHeartbeats 1000000 in
theorem most_of (room feeds b : Int) (w : World) : Calls Tryz.prog 38 #[.int .i64 room, .int .i64 feeds, .int .i64 b] w fun e w' => e = .returned (.int .i64 (ticksOf (someI room + someI feeds) b)) ∧ w' = w := by
  have h1 := someI_range room
  have h2 := someI_range feeds
  have HA := Lib.hid (someI_any room)
  have HB := Lib.hid (someI_any feeds)
  have HT := Lib.hid (ticks_of (someI room + someI feeds) b)
  generalize someI room = x at *
  generalize someI feeds = y at *
  have hw : wrap64 (x + y) = x + y := by unfold wrap64; omega
  go_enter Tryz.func38, Tryz.ntmps38
  go_wp2_with (first
    | (go_at_call 61; (with_reducible refine (HT.out _ (by omega)).mono ?_); rintro e wz ⟨rfl, hwz⟩; have hwz := hwz.symm; subst hwz)
    | (go_at_call 62; (with_reducible refine (HA.out _).mono ?_); rintro e wz ⟨rfl, hwz⟩; have hwz := hwz.symm; subst hwz; clear HA)
    | (go_at_call 62; (with_reducible refine (HB.out _).mono ?_); rintro e wz ⟨rfl, hwz⟩; have hwz := hwz.symm; subst hwz))
  go_ret
  exact ⟨rfl, rfl⟩
set_option maxHeartbeats 1000000 in
theorem boundTicks_st {w0 w : World} {L : List HP} {cb N : Nat} {c : Cl} (h : St w0 w L) (n : Nat) (hn : L[n]? = some (clP cb c N)) (b : Int) (hN : N < 2 ^ 28) :
    Calls Tryz.prog 35 #[.pointer (some ⟨cb, 0, none⟩), .int .i64 b] w fun e w' => e = .returned (.int .i64 (ticksOf c.q.length b)) ∧ St w0 w' L := by
  obtain ⟨rb, qa, qc, rv, tv, hok, hb, hl⟩ := cl_see h n hn
  have hlen := hok.len
  obtain ⟨_, _, _, c3, _⟩ := cells8 hb (Below.refl _ _)
  have HW := Lib.hid (waiting_st qa c.q.length qc h)
  have HT := Lib.hid (fun w' => ticks_of c.q.length b w' (by omega))
  clear h hn hb hok hlen hN
  go_enter Tryz.func35, Tryz.ntmps35
  go_wp2_with (first
    | (go_at_call 61; (with_reducible refine (HT.out _).mono ?_); rintro e wz ⟨rfl, hwz⟩; have hwz := hwz.symm; subst hwz)
    | (go_at_call 33; (with_reducible refine HW.out.mono ?_); rintro e w1 ⟨rfl, h1⟩; have H1 := Lib.hid h1; clear h1 HW))
  go_ret
  exact ⟨rfl, H1.out⟩
theorem clear_none (w : World) : Calls Tryz.prog 36 #[.slice none 0 0] w fun e w' => e = .returned (.bool true) ∧ w' = w := by
  go_enter Tryz.func36, Tryz.ntmps36
  go_wp2
  go_rounds 1
  go_ret
  exact ⟨rfl, rfl⟩
theorem clear_nilptr {g : Nat} {T : TypeId} (w : World) (hg : w.heap[g]? = some (.cells #[.pointer none] T (0, 0))) : Calls Tryz.prog 36 #[.slice (some ⟨g, 0, none⟩) 1 1] w fun e w' => e = .returned (.bool true) ∧ w' = w := by
  have g0 := cells1 hg (Below.refl _ _)
  go_enter Tryz.func36, Tryz.ntmps36
  go_wp2
  go_rounds 2
  go_ret
  exact ⟨rfl, rfl⟩
theorem rn_c3 {w : World} {rb pb : Nat} {v : Value} {r : Rn} {T : TypeId} (h : w.heap[rb]? = some (.cells (r.cells pb v) T (0, 0))) : w.cell? ⟨rb, 3, none⟩ = some (.pointer (some ⟨pb, 0, none⟩)) := by
  obtain ⟨_, _, _, h3, _⟩ := cells10 h (Below.refl _ _)
  exact h3
set_option maxHeartbeats 1000000 in
theorem clear_busy {w0 w : World} {L : List HP} {cb N : Nat} {c : Cl} (h : St w0 w L) (n : Nat) (hn : L[n]? = some (clP cb c N)) {g : Nat} {T : TypeId} (m : Nat) (hm : L[m]? = some (pt g (.cells #[.pointer (some ⟨cb, 0, none⟩)] T (0, 0)))) (hq : 0 < c.q.length) :
    Calls Tryz.prog 36 #[.slice (some ⟨g, 0, none⟩) 1 1] w fun e w' => e = .returned (.bool false) ∧ St w0 w' L := by
  obtain ⟨rb, qa, qc, rv, tv, hok, hb, hl⟩ := cl_see h n hn
  obtain ⟨_, _, _, c3, _⟩ := cells8 hb (Below.refl _ _)
  have g0 := cells1 (h.blk m hm).1 (Below.refl _ _)
  have HW := Lib.hid (waiting_st qa c.q.length qc h)
  have hq' : (0 : Int) < c.q.length := by omega
  clear h hn hb hok hm hq
  generalize c.q.length = ql at *
  go_enter Tryz.func36, Tryz.ntmps36
  go_wp2
  refine wp_loop_rounds 2 ?_
  rw [rounds_succ]
  go_wp2_with (go_at_call 33; (with_reducible refine HW.out.mono ?_); rintro e w1 ⟨rfl, h1⟩; have H1 := Lib.hid h1; clear h1 HW)
  go_ret
  exact ⟨rfl, H1.out⟩
end
end Go.Proofs.YtdncpihaeobaeaaGreat
