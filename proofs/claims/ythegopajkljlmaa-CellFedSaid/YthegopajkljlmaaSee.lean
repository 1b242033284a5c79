/- Slices that are kept only to be read. -/
import Derived.Test.YthegopajkljlmaaStore
set_option linter.unusedVariables false
namespace Go.Proofs.Ythegopajkljlmaa
open Go.RowKit
/-- A slice that may be read: what it holds lies in one block. -/
def seeP {α : Type} (c : Nat) (enc : α → List Value) (v : Value) (l : List α) : HP := fun h =>
  (v = .slice none 0 0 ∧ l = []) ∨ ∃ b o cap, v = .slice (some ⟨b, o, none⟩) l.length cap ∧ l.length ≤ cap ∧ cap ≤ maxLen ∧ (l = [] ∨ ∃ cs T fr, h b = some (.cells cs T fr) ∧ ∀ k (hk : k < l.length) j, j < c → cs[o + k * c + j]? = (enc l[k])[j]?)
theorem seeP_own {α : Type} {e : TypeId} {c : Nat} {enc : α → List Value} (hc : ∀ x, (enc x).length = c) {v : Value} {l : List α} {h : Nat → Option Obj} (hh : ownP e c enc v l h) : seeP c enc v l h := by
  rcases hh with h1 | ⟨g, cap, cur, h1, hg, h2, h3, h4, h5⟩
  · exact .inl h1
  · refine .inr ⟨g, 0, cap, h1, h2, h3, .inr ⟨cur, e, (0, 0), hg, fun k hk j hj => ?_⟩⟩
    have hlt : k * c + j < l.length * c := by
      have : (k + 1) * c ≤ l.length * c := Nat.mul_le_mul_right _ hk
      rw [Nat.succ_mul] at this
      omega
    have h6 : (l.flatMap enc)[k * c + j]? = (enc l[k])[j]? := by
      rw [flatMap_at hc l k j hj, List.getElem?_eq_getElem hk, Option.bind_some]
    rw [← h6, ← h5, List.getElem?_take, if_pos hlt, Nat.zero_add]
    simp
theorem St.see {α : Type} {c : Nat} {enc : α → List Value} (hc : ∀ x, (enc x).length = c) {v : Value} {l : List α} {w0 w : World} {L : List HP} (h : St w0 w L) (n : Nat) (hn : L[n]? = some (seeP c enc v l)) :
    ∃ a cap, v = .slice a l.length cap ∧ l.length ≤ cap ∧ cap ≤ maxLen ∧ (a = none → cap = 0) ∧ (a = none ∨ ∃ b o, a = some ⟨b, o, none⟩) ∧ SlAt c (flat enc) w a l := by
  obtain ⟨F, hF⟩ := h.at n hn
  rcases hF with ⟨h1, rfl⟩ | ⟨b, o, cap, h1, h2, h3, h4⟩
  · exact ⟨none, 0, h1, Nat.le_refl _, Nat.zero_le _, fun _ => rfl, .inl rfl, .inl rfl⟩
  · refine ⟨_, cap, h1, h2, h3, fun h => by (cases h), .inr ⟨b, o, rfl⟩, ?_⟩
    rcases h4 with rfl | ⟨cs, T, fr, hb, h4⟩
    · exact .inl rfl
    · have hb' := above_some (part_some hb).2
      refine .inr ⟨b, o, rfl, (Array.getElem?_eq_some_iff.1 hb'.2).1, fun k hk => ⟨enc l[k], hc _, fun j hj => ?_, rfl⟩⟩
      have : w.cell? ⟨b, o + k * c + j, none⟩ = cs[o + k * c + j]? := by simp [World.cell?, hb'.2]
      rw [this, h4 k hk j hj]
theorem seeP_drop {α : Type} {c : Nat} {enc : α → List Value} {b o k cap n : Nat} {l : List α} {h : Nat → Option Obj} (hh : seeP c enc (.slice (some ⟨b, o, none⟩) k cap) l h) (hn : n ≤ l.length) :
    seeP c enc (.slice (if cap = n then some ⟨b, o, none⟩ else some ⟨b, o + n * c, none⟩) (k - n) (cap - n)) (l.drop n) h := by
  rcases hh with ⟨h1, _⟩ | ⟨b', o', cap', h1, h2, h3, h4⟩
  · cases h1
  · cases h1
    by_cases e : cap = n
    · rw [if_pos e]
      refine .inr ⟨b, o, cap - n, by rw [List.length_drop], by rw [List.length_drop]; omega, by omega, .inl (List.drop_of_length_le (by omega))⟩
    · rw [if_neg e]
      refine .inr ⟨b, o + n * c, cap - n, by rw [List.length_drop], by rw [List.length_drop]; omega, by omega, ?_⟩
      rcases h4 with rfl | ⟨cs, T, fr, hb, h4⟩
      · exact .inl (by simp)
      · refine .inr ⟨cs, T, fr, hb, fun k hk j hj => ?_⟩
        rw [List.length_drop] at hk
        have := h4 (n + k) (by omega) j hj
        rw [List.getElem_drop, ← this]
        congr 1
        rw [Nat.add_mul]
        omega
theorem St.sees {α : Type} {c : Nat} {enc : α → List Value} (hc : ∀ x, (enc x).length = c) {a : Option Addr} {k cap : Nat} {l : List α} {w0 w : World} {L : List HP} (h : St w0 w L) (n : Nat) (hn : L[n]? = some (seeP c enc (.slice a k cap) l)) : SlAt c (flat enc) w a l := by
  obtain ⟨a', cap', hv, _, _, _, _, h5⟩ := h.see hc n hn
  cases hv
  exact h5
theorem Seen.see {α : Type} {w0 : World} {K : List HP} {c : Nat} {enc : α → List Value} (hc : ∀ x, (enc x).length = c) {a : Option Addr} {k cap : Nat} {l : List α} (n : Nat) (h : K[n]? = some (seeP c enc (.slice a k cap) l)) : Seen w0 (sepL K) c enc a l := by
  intro w' L' m hs hm
  have h1 := hs.split m hm
  refine h1.sees hc (L'.length + n) (k := k) (cap := cap) ?_
  rw [List.getElem?_append_right (by simp)]
  simpa using h
end Go.Proofs.Ythegopajkljlmaa
