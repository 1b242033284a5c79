/- whole's calls at a pipe without operations; labels of parts. -/
import Derived.Test.YthegopajkljlmaaRunKeys
set_option linter.unusedVariables false
namespace Go.Proofs.Ythegopajkljlmaa
open Go.RowKit Go.Maps
theorem or_assoc64 (l a b : Int) : bits .or .u64 (bits .or .u64 l a) b = bits .or .u64 l (bits .or .u64 a b) := by
  simp only [bits_or64, bv_toNat]
  rw [BitVec.or_assoc]
theorem or_swap64 (l a b : Int) : bits .or .u64 (bits .or .u64 l a) b = bits .or .u64 (bits .or .u64 l b) a := by
  simp only [bits_or64, bv_toNat]
  rw [BitVec.or_assoc, BitVec.or_comm (bv a) (bv b), ← BitVec.or_assoc]
theorem labels_parts (f : Inp → Bool) : ∀ (l : List Inp) (x y : Int), l.foldl (fun m i => if i.mark then m else bits .or .u64 m i.ev.label) (bits .or .u64 x y) =
    bits .or .u64 ((l.filter fun i => i.mark || f i).foldl (fun m i => if i.mark then m else bits .or .u64 m i.ev.label) x) ((l.filter fun i => i.mark || !f i).foldl (fun m i => if i.mark then m else bits .or .u64 m i.ev.label) y)
  | [], x, y => rfl
  | i :: l, x, y => by
    rw [List.foldl_cons, List.filter_cons, List.filter_cons]
    cases hm : i.mark with
    | true =>
      simp only [Bool.true_or, if_true, List.foldl_cons, hm]
      exact labels_parts f l x y
    | false =>
      cases hf : f i with
      | true =>
        simp only [Bool.or_true, Bool.not_true, Bool.or_false, if_true, List.foldl_cons, hm, Bool.false_eq_true, if_false]
        rw [or_swap64, labels_parts f l]
      | false =>
        simp only [Bool.or_false, Bool.not_false, Bool.or_true, if_true, List.foldl_cons, hm, Bool.false_eq_true, if_false]
        rw [or_assoc64, labels_parts f l]
theorem labels_two (f : Inp → Bool) (l : List Inp) : labelsOf l = bits .or .u64 (labelsOf (l.filter fun i => i.mark || f i)) (labelsOf (l.filter fun i => i.mark || !f i)) := by
  have h := labels_parts f l 0 0
  have h0 : bits .or .u64 (0 : Int) 0 = 0 := by decide
  rw [h0] at h
  exact h
theorem mark1000_wf : (⟨1000, 0, 0, 0⟩ : Ev).wf := ⟨by decide, by decide, by decide, by decide⟩
def endI : Inp := ⟨true, ⟨1000, 0, 0, 0⟩⟩
theorem sameRw_any {w0 w : World} {L : List HP} (h : St w0 w L) (n m : Nat) {a b : Option Addr} {j i ca cb : Nat} {l l' : List Rw} (hn : L[n]? = some (ownP 43 5 Rw.cells (.slice a j ca) l)) (hm : L[m]? = some (ownP 43 5 Rw.cells (.slice b i cb) l')) (he : l' = l) (hlen : l.length ≤ 1099511627776) :
    Calls Try.prog 17 #[.slice a j ca, .slice b i cb] w fun e w' => e = .returned (.bool true) ∧ St w0 w' L := by
  subst he
  obtain ⟨a1, c1, e1, h1, _, _, s1⟩ := h.sl Rw.len n hn
  obtain ⟨a2, c2, e2, h2, _, _, s2⟩ := h.sl Rw.len m hm
  cases e1
  cases e2
  exact sameRw_st l' a b ca cb h s1 s2 hlen h1 h2
end Go.Proofs.Ythegopajkljlmaa
