/- A store into an element of a slice of the call's own. -/
import Derived.Test.YthegopajkljlmaaCells
set_option linter.unusedVariables false
namespace Go.Proofs.Ythegopajkljlmaa
open Go.RowKit
theorem flatMap_set {α : Type} {enc : α → List Value} {c : Nat} (hc : ∀ x, (enc x).length = c) : ∀ (l : List α) (i j : Nat) (hi : i < l.length) (x : α) (v : Value), enc x = (enc l[i]).set j v → j < c → (l.set i x).flatMap enc = (l.flatMap enc).set (i * c + j) v
  | [], i, j, hi, x, v, hx, hj => by simp at hi
  | y :: l, 0, j, hi, x, v, hx, hj => by
    simp only [List.getElem_cons_zero] at hx
    simp only [List.set_cons_zero, List.flatMap_cons, hx, Nat.zero_mul, Nat.zero_add]
    rw [List.set_append_left _ _ (by rw [hc]; exact hj)]
  | y :: l, i + 1, j, hi, x, v, hx, hj => by
    simp only [List.getElem_cons_succ] at hx
    simp only [List.set_cons_succ, List.flatMap_cons]
    rw [flatMap_set hc l i j (by simpa using hi) x v hx hj, List.set_append_right _ _ (by rw [hc, Nat.succ_mul]; omega), hc]
    congr 2
    rw [Nat.succ_mul]
    omega
theorem set_get {L : List HP} {n : Nat} (hn : n < L.length) (X : HP) : (L.set n X)[n]? = some X := by simp [hn]
/-- A slice's block, known whole, and what its cells are. -/
theorem St.ownOpen {α : Type} {e : TypeId} {c : Nat} {enc : α → List Value} {b k cap : Nat} {l : List α} {w0 w : World} {L : List HP} (h : St w0 w L) (n : Nat) (hn : L[n]? = some (ownP e c enc (.slice (some ⟨b, 0, none⟩) k cap) l)) :
    ∃ cur : Array Value, l.length = k ∧ k ≤ cap ∧ cap ≤ maxLen ∧ cur.size = cap * c ∧ cur.toList.take (l.length * c) = l.flatMap enc ∧ St w0 w (L.set n (pt b (.cells cur e (0, 0)))) := by
  have h1 := h.imp n hn (X' := exP fun cur : Array Value => andP (l.length = k ∧ k ≤ cap ∧ cap ≤ maxLen ∧ cur.size = cap * c ∧ cur.toList.take (l.length * c) = l.flatMap enc) (pt b (.cells cur e (0, 0)))) (by
    rintro f (⟨hv, _⟩ | ⟨g, cap', cur, hv, hg, h1, h2, h3, h4⟩)
    · cases hv
    · cases hv
      exact ⟨cur, ⟨rfl, h1, h2, h3, h4⟩, hg⟩)
  have hnl := (List.getElem?_eq_some_iff.1 hn).1
  obtain ⟨cur, h2⟩ := h1.ex n (set_get hnl _)
  obtain ⟨⟨a1, a2, a3, a4, a5⟩, h3⟩ := h2.pure n ((congrArg (·[n]?) (List.set_set ..)).trans (set_get hnl _))
  refine ⟨cur, a1, a2, a3, a4, a5, ?_⟩
  simpa [List.set_set] using h3
theorem St.ownSet {α : Type} {e : TypeId} {c : Nat} {enc : α → List Value} (hc : ∀ x, (enc x).length = c) {b k cap : Nat} {l : List α} {w0 w : World} {L : List HP} (h : St w0 w L) (n : Nat) (hn : L[n]? = some (ownP e c enc (.slice (some ⟨b, 0, none⟩) k cap) l))
    (i j : Nat) (hi : i < l.length) (hj : j < c) (x : α) (v : Value) (hx : enc x = (enc l[i]).set j v) :
    St w0 (w.setCell ⟨b, i * c + j, none⟩ v) (L.set n (ownP e c enc (.slice (some ⟨b, 0, none⟩) k cap) (l.set i x))) := by
  obtain ⟨cur, h1, h2, h3, h4, h5, h6⟩ := h.ownOpen n hn
  have hnl := (List.getElem?_eq_some_iff.1 hn).1
  have h7 := h6.set n (set_get hnl _) (i * c + j) v
  have h8 := h7.imp n (X' := ownP e c enc (.slice (some ⟨b, 0, none⟩) k cap) (l.set i x)) ((congrArg (·[n]?) (List.set_set ..)).trans (set_get hnl _)) (by
    intro f hf
    subst h1
    refine .inr ⟨b, cap, _, by rw [List.length_set], hf, by simpa using h2, h3, by simpa using h4, ?_⟩
    have hlt : i * c + j < l.length * c := by
      have : (i + 1) * c ≤ l.length * c := Nat.mul_le_mul_right _ hi
      rw [Nat.succ_mul] at this
      omega
    rw [flatMap_set hc l i j hi x v hx hj, ← h5, List.length_set]
    apply List.ext_getElem?
    intro m
    simp only [List.getElem?_take, Array.toList_setIfInBounds, List.getElem?_set, List.length_take]
    have hs : l.length * c ≤ cur.toList.length := by simp only [Array.length_toList, h4]; exact Nat.mul_le_mul_right _ h2
    split <;> split <;> simp_all <;> omega)
  simpa [List.set_set] using h8
theorem St.ownFree {α : Type} {e : TypeId} {c : Nat} {enc : α → List Value} {b k cap : Nat} {l : List α} {w0 w : World} {L : List HP} (h : St w0 w L) (n : Nat) (hn : L[n]? = some (ownP e c enc (.slice (some ⟨b, 0, none⟩) k cap) l)) (i : Nat) : w.frozen? ⟨b, i, none⟩ = false := by
  obtain ⟨cur, h1, h2, h3, h4, h5, h6⟩ := h.ownOpen n hn
  have hnl := (List.getElem?_eq_some_iff.1 hn).1
  exact (blkCells (h6.blk n (set_get hnl _)).1).2 i
end Go.Proofs.Ythegopajkljlmaa
