/- Walks of package whole. -/
import Derived.Test.YthegopajkljlmaaLaw10
set_option linter.unusedVariables false
namespace Go.Proofs.Ythegopajkljlmaa
open Go.RowKit Go.Maps
def newR (p : Pp) : Rn := ⟨⟨0, 0, 0⟩, p, []⟩
def wholeRows (p : Pp) (l : List Inp) : List Rw := rowsR (newR p) l
theorem seen_more {α : Type} {w0 : World} {L : List HP} {X : HP} {c : Nat} {enc : α → List Value} {a : Option Addr} {l : List α} (h : Seen w0 (sepL L) c enc a l) : Seen w0 (sepL ((L ++ [X]).set L.length emp)) c enc a l := by
  intro w' L' m hs hm
  have h1 := hs.imp m hm (X' := sepL L) fun h ⟨own, ho⟩ => ⟨own, fun i P hi => ho i P (by
    have hl := (List.getElem?_eq_some_iff.1 hi).1
    rw [List.getElem?_set, if_neg (by omega), List.getElem?_append_left hl]
    exact hi)⟩
  exact h w' _ m h1 (by rw [List.getElem?_set, if_pos rfl, if_pos (List.getElem?_eq_some_iff.1 hm).1])
/-- One thing is let go. -/
theorem St.skip {w0 w : World} {L K : List HP} {Y : HP} (h : St w0 w (L ++ Y :: K)) : St w0 w (L ++ K) := by
  refine ⟨h.below, ?_⟩
  obtain ⟨own, ho⟩ := h.sep
  refine ⟨fun b => if own b < L.length then own b else if own b = L.length then L.length + K.length else own b - 1, fun i P hi => ?_⟩
  by_cases hil : i < L.length
  · rw [List.getElem?_append_left hil] at hi
    refine cast (congrArg P (part_own fun b => ?_)) (ho i P (by rw [List.getElem?_append_left hil]; exact hi))
    simp only [beq_iff_eq]
    constructor
    · intro he; rw [if_pos (by omega), he]
    · intro he
      split at he
      · exact he
      · split at he <;> omega
  · rw [List.getElem?_append_right (by omega)] at hi
    have hk := (List.getElem?_eq_some_iff.1 hi).1
    refine cast (congrArg P (part_own fun b => ?_)) (ho (i + 1) P (by rw [List.getElem?_append_right (by omega), show i + 1 - L.length = (i - L.length) + 1 by omega]; exact hi))
    simp only [beq_iff_eq]
    constructor
    · intro he; rw [if_neg (by omega), if_neg (by omega)]; omega
    · intro he
      split at he
      · omega
      · split at he <;> omega
theorem set_last {L : List HP} (X Y : HP) : (L ++ [X]).set L.length Y = L ++ [Y] := by rw [List.set_append_right _ _ (Nat.le_refl _), Nat.sub_self]; rfl
def labelsOf (l : List Inp) : Int := l.foldl (fun m i => if i.mark then m else bits .or .u64 m i.ev.label) 0
end Go.Proofs.Ythegopajkljlmaa
