/- Inputs that are offered, one by one. -/
import Derived.Test.YthegopajkljlmaaCellNew
import Derived.Test.YthegopajkljlmaaRunKeys
set_option linter.unusedVariables false
namespace Go.Proofs.Ythegopajkljlmaa
open Go.RowKit
def offAll (c : Cl) (room : Int) (l : List Inp) : Cl := l.foldl (fun c i => (c.offer room i).2) c
theorem offAll_take (c : Cl) (room : Int) {l : List Inp} {j : Nat} (hj : j < l.length) : offAll c room (l.take (j + 1)) = ((offAll c room (l.take j)).offer room l[j]).2 := by
  unfold offAll
  rw [List.take_add_one, List.getElem?_eq_getElem hj, List.foldl_append]
  rfl
theorem offer_q {c : Cl} {room : Int} {m : Nat} (hr : room ≤ m) (i : Inp) (h : c.q.length ≤ m) : (c.offer room i).2.q.length ≤ m := by
  unfold Cl.offer
  split
  · exact h
  · split
    · exact h
    · split
      · exact h
      · show (c.q ++ [ownI c.id i]).length ≤ m
        rw [List.length_append]
        simp only [List.length_cons, List.length_nil]
        omega
theorem offAll_q {c : Cl} {room : Int} {m : Nat} (hr : room ≤ m) : ∀ (l : List Inp), c.q.length ≤ m → (offAll c room l).q.length ≤ m := by
  intro l
  induction l generalizing c with
  | nil => exact fun h => h
  | cons i l ih => exact fun h => ih (offer_q hr i h)
theorem offer_p (c : Cl) (room : Int) (i : Inp) : (c.offer room i).2.p = c.p ∧ (c.offer room i).2.id = c.id ∧ (c.offer room i).2.taken = c.taken := by
  unfold Cl.offer
  split
  · exact ⟨rfl, rfl, rfl⟩
  · split
    · exact ⟨rfl, rfl, rfl⟩
    · split <;> exact ⟨rfl, rfl, rfl⟩
theorem offAll_p (room : Int) : ∀ (l : List Inp) (c : Cl), (offAll c room l).p = c.p ∧ (offAll c room l).id = c.id ∧ (offAll c room l).taken = c.taken := by
  intro l
  induction l with
  | nil => exact fun c => ⟨rfl, rfl, rfl⟩
  | cons i l ih =>
    intro c
    have h1 := ih (c.offer room i).2
    have h2 := offer_p c room i
    exact ⟨h1.1.trans h2.1, h1.2.1.trans h2.2.1, h1.2.2.trans h2.2.2⟩
end Go.Proofs.Ythegopajkljlmaa
