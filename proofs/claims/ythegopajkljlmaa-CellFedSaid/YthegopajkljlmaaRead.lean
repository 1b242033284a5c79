/- How arguments read: slices of numbers, of structs, of slices. -/
import Derived.Test.YthegopajkljlmaaBase
import Derived.OpenShut
import Derived.ProofKit
import Derived.ChangeOld
import Derived.Lib.SmallJoins
import Derived.Deep.Slices
set_option linter.unusedVariables false
namespace Go.Proofs.Ythegopajkljlmaa
open Go.ChangeShapes Go.WideShapes Go.ChangeAt Go.RowKit Go.Deep
/-- Cells that read as one number. -/
def isInt (k : IntKind) (w : World) (cs : List Value) (n : Int) : Prop := cs = [.int k n] ∧ (Lit.int k n).wf = true
def isBool (w : World) (cs : List Value) (b : Bool) : Prop := cs = [.bool b]
/-- A slice's elements lie at its address, each of c cells. -/
def SlAt {α : Type} (c : Nat) (R : World → List Value → α → Prop) (w : World) (a : Option Addr) (l : List α) : Prop :=
  l = [] ∨ ∃ b o, a = some ⟨b, o, none⟩ ∧ b < w.heap.size ∧ ∀ i (h : i < l.length), ∃ cs, cs.length = c ∧ (∀ j, j < c → w.cell? ⟨b, o + i * c + j, none⟩ = cs[j]?) ∧ R w cs l[i]
/-- One cell that reads as a slice. -/
def isSl {α : Type} (c : Nat) (R : World → List Value → α → Prop) (w : World) (cs : List Value) (l : List α) : Prop :=
  ∃ a cap, cs = [.slice a l.length cap] ∧ l.length ≤ cap ∧ cap ≤ maxLen ∧ (a = none → cap = 0) ∧ SlAt c R w a l
/-- At this type data read so. -/
def Rdr {H : Type} {α : Type} (enc : TypeId × Value → H) (P : Program) (t : TypeId) (R : World → List Value → α → Prop) : Prop :=
  ∀ (w : World) (fuel : Nat) (cs : List Value) (x : DataW H × List MemPlace), DataW.trod enc P w 0 (fun _ => true) true fuel t cs = some x → ∃ a, R w cs a
section
variable {H : Type} {enc : TypeId × Value → H} {P : Program}
theorem Rdr.int {t : TypeId} {k : IntKind} (ht : P.underlying t = some (.int k)) : Rdr enc P t (isInt k) := by
  intro w fuel cs x h
  obtain ⟨n, hc, _, hw⟩ := DataW.trod_int ht h
  exact ⟨n, hc, hw⟩
theorem Rdr.bool {t : TypeId} (ht : P.underlying t = some .bool) : Rdr enc P t isBool := by
  intro w fuel cs x h
  obtain ⟨b, hc, _⟩ := DataW.trod_bool ht h
  exact ⟨b, hc⟩
theorem lt_of_cell {w : World} {a : Addr} {v : Value} (h : w.cell? a = some v) : a.block < w.heap.size := by
  unfold World.cell? at h
  split at h
  · rename_i he; exact (Array.getElem?_eq_some_iff.1 he).1
  · cases h
theorem spot_of_cell {w : World} {a : Addr} {v : Value} (h : w.cell? a = some v) : a = ⟨a.block, a.off, none⟩ := by
  unfold World.cell? at h
  split at h
  · split at h
    · cases h
    · rename_i hs
      obtain ⟨b, o, s⟩ := a
      cases s with
      | none => rfl
      | some s => simp at hs
  · cases h
theorem Rdr.slice {α : Type} {t e : TypeId} {R : World → List Value → α → Prop} (ht : P.underlying t = some (.slice e)) (c : Nat) (hce : P.cellsOf e = c) (hc : 0 < c) (r : Rdr enc P e R) : Rdr enc P t (isSl c R) := by
  subst hce
  intro w fuel cs x h
  rcases open_slice ht h with ⟨rfl, _⟩ | ⟨a, len, cap, m, n, D, Pl, rfl, _, hl, hm, hmm, _, hx⟩
  · exact ⟨[], none, 0, rfl, Nat.le_refl _, by decide, fun _ => rfl, .inl rfl⟩
  · simp only [if_true] at hmm
    have each : ∀ i : Fin len, ∃ v cs', w.cells? 0 (a.add (i * P.cellsOf e)) (P.cellsOf e) = some cs' ∧ R w cs' v := by
      intro i
      obtain ⟨cs', h1, h2⟩ := hx i (by omega)
      obtain ⟨v, hv⟩ := r w _ _ _ h2
      exact ⟨v, cs', h1, hv⟩
    have hF : ∃ f : Fin len → α, ∀ i : Fin len, ∃ cs', w.cells? 0 (a.add (i * P.cellsOf e)) (P.cellsOf e) = some cs' ∧ R w cs' (f i) := ⟨fun i => Classical.choose (each i), fun i => Classical.choose_spec (each i)⟩
    obtain ⟨f, hf⟩ := hF
    refine ⟨List.ofFn f, some a, cap, by simp, by simp; omega, hm, by simp, ?_⟩
    by_cases h0 : len = 0
    · subst h0; exact .inl (by simp)
    · right
      obtain ⟨cs0, c0, _⟩ := hf ⟨0, by omega⟩
      obtain ⟨_, hn0, g0⟩ := World.cells?_some c0
      have g00 := g0 0 hc
      simp only [Nat.zero_mul] at g00
      rw [show (a.add 0).add 0 = a from rfl] at g00
      rw [List.getElem?_eq_getElem (by omega)] at g00
      obtain ⟨b, o, s⟩ := a
      have hs := spot_of_cell g00
      simp at hs
      subst hs
      refine ⟨b, o, rfl, lt_of_cell g00, ?_⟩
      intro i hi
      simp at hi
      obtain ⟨cs', h1, h2⟩ := hf ⟨i, hi⟩
      obtain ⟨_, hn, g⟩ := World.cells?_some h1
      refine ⟨cs', hn, ?_, by simpa using h2⟩
      intro j hj
      rw [← g j hj]
      congr 1
      simp [Addr.add]
      split <;> split <;> simp_all [Nat.add_assoc]
/-- A value of a slice type among the arguments. -/
theorem open_sl {α : Type} {t e : TypeId} {R : World → List Value → α → Prop} {w : World} {r : Reach} {b0 : Nat} {v : Value} {d : DataW H} {ps : List MemPlace} (ht : P.underlying t = some (.slice e)) (c : Nat) (hce : P.cellsOf e = c) (hc : 0 < c) (rd : Rdr enc P e R)
    (hval : Value.okWide P w r b0 t v) (hd : DataW.Trod enc P w 0 (fun _ => true) true t v d ps) : ∃ (a : Option Addr) (cap : Nat) (l : List α), v = .slice a l.length cap ∧ l.length ≤ cap ∧ cap ≤ maxLen ∧ (a = none → cap = 0) ∧ SlAt c R w a l := by
  obtain ⟨a, len, cap, rfl⟩ := okWide_slice ht hval
  obtain ⟨fuel, hf⟩ := hd
  obtain ⟨l, a', cap', hcs, h1, h2, hn, h3⟩ := Rdr.slice ht c hce hc rd w _ _ _ hf
  simp [Value.cells] at hcs
  obtain ⟨rfl, rfl, rfl⟩ := hcs
  exact ⟨_, _, l, rfl, h1, h2, hn, h3⟩
/-- A value of a struct type among the arguments. -/
theorem open_st {α : Type} {t : TypeId} {fs : Array Field} {R : World → List Value → α → Prop} {w : World} {r : Reach} {b0 : Nat} {v : Value} {d : DataW H} {ps : List MemPlace} (ht : P.underlying t = some (.struct fs)) (rd : Rdr enc P t R)
    (hval : Value.okWide P w r b0 t v) (hd : DataW.Trod enc P w 0 (fun _ => true) true t v d ps) : ∃ (cs : Array Value) (x : α), v = .agg cs ∧ R w cs.toList x := by
  obtain ⟨cs, rfl, _⟩ := okWide_struct ht hval
  obtain ⟨fuel, hf⟩ := hd
  obtain ⟨x, hx⟩ := rd w _ _ _ hf
  exact ⟨cs, x, rfl, by simpa [Value.cells] using hx⟩
end
theorem SlAt.below {α : Type} {c : Nat} {R : World → List Value → α → Prop} {w w' : World} {a : Option Addr} {l : List α} (h : SlAt c R w a l) (hb : Below w.heap.size w w') (hR : ∀ cs x, R w cs x → R w' cs x) : SlAt c R w' a l := by
  rcases h with h | ⟨b, o, rfl, hlt, h⟩
  · exact .inl h
  · refine .inr ⟨b, o, rfl, by have := hb.size; omega, fun i hi => ?_⟩
    obtain ⟨cs, h1, h2, h3⟩ := h i hi
    exact ⟨cs, h1, fun j hj => (hb.cell (p := ⟨b, _, none⟩) hlt).trans (h2 j hj), hR _ _ h3⟩
/-- A slice of numbers: cell by cell. -/
theorem SlAt.int {k : IntKind} {w : World} {a : Option Addr} {l : List Int} (h : SlAt 1 (isInt k) w a l) (i : Nat) (hi : i < l.length) : ∃ b o, a = some ⟨b, o, none⟩ ∧ b < w.heap.size ∧ w.cell? ⟨b, o + i, none⟩ = some (.int k (l[i]?.getD 0)) ∧ (Lit.int k (l[i]?.getD 0)).wf = true := by
  rcases h with rfl | ⟨b, o, rfl, hlt, h⟩
  · simp at hi
  · obtain ⟨cs, h1, h2, rfl, h4⟩ := h i hi
    have := h2 0 (by omega)
    rw [List.getElem?_eq_getElem hi]
    exact ⟨b, o, rfl, hlt, by simpa using this, h4⟩
theorem SlAt.bool {w : World} {a : Option Addr} {l : List Bool} (h : SlAt 1 isBool w a l) (i : Nat) (hi : i < l.length) : ∃ b o, a = some ⟨b, o, none⟩ ∧ b < w.heap.size ∧ w.cell? ⟨b, o + i, none⟩ = some (.bool (l[i]?.getD false)) := by
  rcases h with rfl | ⟨b, o, rfl, hlt, h⟩
  · simp at hi
  · obtain ⟨cs, h1, h2, rfl⟩ := h i hi
    have := h2 0 (by omega)
    rw [List.getElem?_eq_getElem hi]
    exact ⟨b, o, rfl, hlt, by simpa using this⟩
theorem SlAt.sl {α : Type} {c : Nat} {R : World → List Value → α → Prop} {w : World} {a : Option Addr} {l : List (List α)} (h : SlAt 1 (isSl c R) w a l) (i : Nat) (hi : i < l.length) :
    ∃ b o a' cap, a = some ⟨b, o, none⟩ ∧ b < w.heap.size ∧ w.cell? ⟨b, o + i, none⟩ = some (.slice a' (l[i]?.getD []).length cap) ∧ (l[i]?.getD []).length ≤ cap ∧ cap ≤ maxLen ∧ (a' = none → cap = 0) ∧ SlAt c R w a' (l[i]?.getD []) := by
  rcases h with rfl | ⟨b, o, rfl, hlt, h⟩
  · simp at hi
  · obtain ⟨cs, h1, h2, a', cap, rfl, h3, h4, hn, h5⟩ := h i hi
    have := h2 0 (by omega)
    rw [List.getElem?_eq_getElem hi]
    exact ⟨b, o, a', cap, rfl, hlt, by simpa using this, h3, h4, hn, h5⟩
end Go.Proofs.Ythegopajkljlmaa
