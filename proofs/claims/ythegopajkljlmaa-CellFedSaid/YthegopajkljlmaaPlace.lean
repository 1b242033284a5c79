/- Places as keys of a map. -/
import Derived.Test.YthegopajkljlmaaOwn
import Derived.DeepKeys4
import Derived.Maps.OwnSet
import Derived.Sort.KeysCollected
set_option linter.unusedVariables false
namespace Go.Proofs.Ythegopajkljlmaa
open Go.RowKit Go.Maps
/-- A place: two numbers in their bounds. -/
abbrev Pl := { p : Int × Int // (Lit.int .i64 p.1).wf = true ∧ (Lit.int .i64 p.2).wf = true }
abbrev encP (p : Pl) : Value := .agg #[.int .i64 p.1.1, .int .i64 p.1.2]
def cellsP (p : Pl) : List Value := [.int .i64 p.1.1, .int .i64 p.1.2]
def litP (p : Pl) : Lit := .string (keyBytes [.int .i64 p.1.1, .int .i64 p.1.2])
theorem placeLaidOut : laidOutB Try.prog = true := by kernel_rfl
theorem placeLaw : WideMaps.KeyLaw Try.prog 100 := deep_law_laid placeLaidOut (m := 2) (by omega) (of_decide_eq_true (by kernel_rfl)) (by kernel_rfl) (by kernel_rfl)
theorem placeKeyed : Keyed Try.prog 100 := Keyed.of_law placeLaw
theorem typesTwo : ∃ n, Try.prog.types.size + 1 = n + 2 := ⟨Try.prog.types.size - 1, by have : 0 < Try.prog.types.size := of_decide_eq_true (by kernel_rfl); omega⟩
def intKey : Value → Option (List Lit)
  | .int q n => if q = .i64 ∧ (Lit.int .i64 n).wf = true then some [.int .i64 n] else none
  | _ => none
theorem intKey_some {c : Value} {l : List Lit} (h : intKey c = some l) : ∃ a, c = .int .i64 a ∧ (Lit.int .i64 a).wf = true ∧ l = [.int .i64 a] := by
  cases c <;> simp [intKey] at h
  rename_i q a
  obtain ⟨⟨rfl, hw⟩, rfl⟩ := h
  exact ⟨a, rfl, hw, rfl⟩
theorem keyLits_int (d : Nat) (v : Value) : Try.prog.keyLits (d + 1) 3 [v] = intKey v := by
  unfold Program.keyLits
  rw [Try.underlying3]
  cases v <;> simp [intKey]
theorem keyLits_place (d : Nat) (x y : Value) : Try.prog.keyLits (d + 2) 100 [x, y] = (Try.prog.keyLits (d + 1) 3 [x]).bind fun l => (Try.prog.keyLits (d + 1) 3 [y]).map fun m => l ++ m := by
  conv => lhs; unfold Program.keyLits
  rw [Try.underlying100]
  simp only [show Try.prog.cellsOf 100 = 2 by kernel_rfl]
  simp [show Try.prog.cellsOf 3 = 1 by kernel_rfl]
  generalize Try.prog.keyLits (d + 1) 3 [x] = l0
  generalize Try.prog.keyLits (d + 1) 3 [y] = l1
  cases l0 <;> cases l1 <;> simp
theorem keyOf_place (p : Pl) : keyOf Try.prog 100 (encP p) = some (litP p) := by
  obtain ⟨⟨a, b⟩, h1, h2⟩ := p
  dsimp only at h1 h2
  obtain ⟨n, hn⟩ := typesTwo
  unfold keyOf
  rw [Try.underlying100]
  simp only []
  rw [if_pos ?h1, hn]
  case h1 =>
    rw [show Try.prog.keyType 100 = true by kernel_rfl]
    simp [Value.formed, Try.underlying100, show Try.prog.cellsOf 100 = 2 by kernel_rfl]
  simp only [Value.cells]
  rw [keyLits_place, keyLits_int, keyLits_int]
  simp [h1, h2, litP, intKey]
set_option maxRecDepth 20000 in
theorem keyOf_place_inv {v : Value} {kl : Lit} (h : keyOf Try.prog 100 v = some kl) : ∃ p : Pl, v = encP p ∧ kl = litP p := by
  obtain ⟨n, hn⟩ := typesTwo
  have h' := h
  unfold keyOf at h
  rw [Try.underlying100] at h
  simp only [] at h
  by_cases hf : (Try.prog.keyType 100 && Value.formed Try.prog 100 v) = true
  · rw [if_pos hf] at h
    simp only [Bool.and_eq_true] at hf
    obtain ⟨_, hf⟩ := hf
    obtain ⟨ls, hl, he⟩ := Option.map_eq_some_iff.1 h
    unfold Value.formed at hf
    rw [Try.underlying100] at hf
    cases v <;> simp at hf
    rename_i cs
    rw [show Try.prog.cellsOf 100 = 2 by kernel_rfl] at hf
    obtain ⟨c0, c1, rfl⟩ := Go.Joins.array2 hf
    rw [hn] at hl
    simp only [Value.cells] at hl
    rw [keyLits_place, keyLits_int, keyLits_int] at hl
    obtain ⟨l0, h0, hl⟩ := Option.bind_eq_some_iff.1 hl
    obtain ⟨l1, h1, rfl⟩ := Option.map_eq_some_iff.1 hl
    obtain ⟨a, rfl, ha, rfl⟩ := intKey_some h0
    obtain ⟨b, rfl, hb, rfl⟩ := intKey_some h1
    exact ⟨⟨(a, b), ha, hb⟩, rfl, he.symm⟩
  · rw [if_neg hf] at h
    cases h
theorem litP_inj {p q : Pl} (h : litP p = litP q) : p = q := by
  have h1 := placeKeyed.inj (keyOf_place p) (h ▸ keyOf_place q)
  obtain ⟨⟨a, b⟩, _⟩ := p
  obtain ⟨⟨c, d⟩, _⟩ := q
  simp [encP] at h1
  simp [h1]
end Go.Proofs.Ythegopajkljlmaa
