/- Plain laws of the latest time and of labels. -/
import Derived.Test.YtgbbahgllpdjmaaEventTells
set_option linter.unusedVariables false
namespace Go.Proofs.Ytgbbahgllpdjmaa
open Go.RowKit
def bv (x : Int) : BitVec 64 := BitVec.ofInt 64 x
theorem bits_or64 (x y : Int) : bits .or .u64 x y = ((bv x ||| bv y).toNat : Int) := by
  have h := (bv x ||| bv y).isLt
  show IntKind.wrap .u64 ((bv x ||| bv y).toNat : Int) = _
  generalize (bv x ||| bv y).toNat = n at h
  simp [IntKind.wrap, IntKind.bits, IntKind.signed]
  omega
theorem bv_toNat (b : BitVec 64) : bv (b.toNat : Int) = b := by
  unfold bv
  rw [BitVec.ofInt_natCast, BitVec.ofNat_toNat]
  simp
def lab (es : List Ev) : BitVec 64 := es.foldr (fun e acc => bv e.label ||| acc) 0
theorem labelsFrom_lab (es : List Ev) : ∀ (M : BitVec 64), labelsFrom (M.toNat : Int) es = ((M ||| lab es).toNat : Int) := by
  induction es with
  | nil => intro M; simp [labelsFrom, lab]
  | cons e es ih =>
    intro M
    show labelsFrom (bits .or .u64 (M.toNat : Int) e.label) es = _
    rw [bits_or64, bv_toNat, ih, BitVec.or_assoc]
    rfl
theorem labels_eq (es : List Ev) : labelsFrom 0 es = ((lab es).toNat : Int) := by
  have := labelsFrom_lab es 0
  simpa using this
theorem lab_append (a b : List Ev) : lab (a ++ b) = lab a ||| lab b := by
  induction a with
  | nil => simp [lab]
  | cons e a ih =>
    show bv e.label ||| lab (a ++ b) = (bv e.label ||| lab a) ||| lab b
    rw [ih, BitVec.or_assoc]
theorem labels_turned (a b : List Ev) : labelsFrom 0 (b ++ a) = bits .or .u64 (labelsFrom 0 a) (labelsFrom 0 b) := by
  rw [bits_or64, labels_eq a, labels_eq b, bv_toNat, bv_toNat, labels_eq, lab_append, BitVec.or_comm]
theorem latestFrom_ge (es : List Ev) : ∀ t, t ≤ latestFrom t es ∧ ∀ e ∈ es, e.time ≤ latestFrom t es := by
  induction es with
  | nil => intro t; simp [latestFrom]
  | cons x es ih =>
    intro t
    obtain ⟨h1, h2⟩ := ih (max t x.time)
    have he : latestFrom t (x :: es) = latestFrom (max t x.time) es := rfl
    rw [he]
    refine ⟨by omega, fun e he => ?_⟩
    rcases List.mem_cons.1 he with rfl | h
    · omega
    · exact h2 e h
theorem latestFrom_in (es : List Ev) : ∀ t, latestFrom t es = t ∨ ∃ e ∈ es, e.time = latestFrom t es := by
  induction es with
  | nil => intro t; simp [latestFrom]
  | cons x es ih =>
    intro t
    have he : latestFrom t (x :: es) = latestFrom (max t x.time) es := rfl
    rw [he]
    rcases ih (max t x.time) with h | ⟨e, he, h⟩
    · rw [h]
      by_cases hx : x.time ≤ t
      · left; omega
      · right; exact ⟨x, List.mem_cons_self, by omega⟩
    · right; exact ⟨e, List.mem_cons_of_mem _ he, h⟩
theorem latestOf_spec (es : List Ev) (h : es ≠ []) : (∀ e ∈ es, e.time ≤ latestOf es) ∧ ∃ e ∈ es, e.time = latestOf es := by
  cases es with
  | nil => exact absurd rfl h
  | cons x es =>
    have he : latestOf (x :: es) = latestFrom x.time (x :: es) := rfl
    rw [he]
    refine ⟨(latestFrom_ge _ _).2, ?_⟩
    rcases latestFrom_in (x :: es) x.time with h | h
    · exact ⟨x, List.mem_cons_self, h.symm⟩
    · exact h
theorem latest_same (a b : List Ev) (h : ∀ e, e ∈ a ↔ e ∈ b) : latestOf a = latestOf b := by
  by_cases ha : a = []
  · subst ha
    have : b = [] := by
      cases b with
      | nil => rfl
      | cons x b => have := (h x).2 List.mem_cons_self; cases this
    rw [this]
  · have hb : b ≠ [] := by
      rintro rfl
      cases a with
      | nil => exact ha rfl
      | cons x a => have := (h x).1 List.mem_cons_self; cases this
    obtain ⟨h1, e1, m1, g1⟩ := latestOf_spec a ha
    obtain ⟨h2, e2, m2, g2⟩ := latestOf_spec b hb
    have := h1 e2 ((h e2).2 m2)
    have := h2 e1 ((h e1).1 m1)
    omega
theorem latest_turned (l : List Ev) (n : Nat) : latestOf (l.drop n ++ l.take n) = latestOf l :=
  latest_same _ _ fun e => by
    rw [List.mem_append, Or.comm, ← List.mem_append, List.take_append_drop]
end Go.Proofs.Ytgbbahgllpdjmaa
