/- Small lemmas on panes, rows, slices. -/
import Derived.Test.YthegopajkljlmaaShut
import Derived.Test.YthegopajkljlmaaPut
set_option linter.unusedVariables false
namespace Go.Proofs.Ythegopajkljlmaa
open Go.RowKit Go.Maps
theorem SlAt.ofRow {α : Type} {c : Nat} {enc : α → List Value} (hc : ∀ x, (enc x).length = c) {w : World} {g : Nat} {l : List α} {e : TypeId} {fr : Nat × Nat} (h : w.heap[g]? = some (.cells (l.flatMap enc).toArray e fr)) : SlAt c (flat enc) w (some ⟨g, 0, none⟩) l := by
  refine .inr ⟨g, 0, rfl, (Array.getElem?_eq_some_iff.1 h).1, fun i hi => ⟨enc l[i], hc _, fun j hj => ?_, rfl⟩⟩
  have hf := flatMap_at hc l i j hj
  rw [List.getElem?_eq_getElem hi] at hf
  simp only [World.cell?, h, Nat.zero_add]
  simpa using hf
theorem belowMap {B : Nat} {a b c : World} {mb : Nat} (h : Below B a b) (k : b.grownBy c (some mb)) (hs : B ≤ b.heap.size) (hm : B ≤ mb) : Below B a c := h.grown k hs (fun j hj => by cases hj; exact hm)
/-- A row of the call's own as a slice to be read. -/
theorem PanesAt.good_len {kd sz sl : Int} {N : Nat} {L : PL} (h : GoodL kd sz sl N L) (hN : N < 2 ^ 40) : L.length < 2 ^ 40 := by have := h.len; omega
theorem GoodL.keep {kd sz sl : Int} {N : Nat} {L : PL} (h : GoodL kd sz sl N L) (mark : Int) : GoodL kd sz sl N (keepL sz mark L) := by
  refine ⟨Nat.le_trans (List.length_filter_le _ _) h.len, fun p x hx => h.each p x (List.mem_filter.1 hx).1, fun hne => h.right fun e => hne ?_⟩
  rw [e]
  rfl
theorem put_one (pb mb : Nat) (sz sl kd : Int) (L : PL) (N : Nat) (g : Nat) (ev : Ev) (w : World) (hP : PanesAt w pb mb sz sl kd L) (hG : GoodL kd sz sl N L) (hkd : (Lit.int .i64 kd).wf = true)
    (hv : w.heap[g]? = some (.cells ev.cells.toArray 31 (0, 0))) (he : ev.wf) (hN : N + 8 < 2 ^ 40) :
    Calls Try.prog 74 #[.pointer (some ⟨pb, 0, none⟩), .slice (some ⟨g, 0, none⟩) 1 1] w fun e w' => e = .returned (.tuple #[]) ∧ PanesAt w' pb mb sz sl kd (putE kd sz sl L ev) ∧ GoodL kd sz sl (N + 8) (putE kd sz sl L ev) ∧ w.grownBy w' (some mb) :=
  (put_any pb mb sz sl kd L N (some ⟨g, 0, none⟩) 1 [ev] w hP hG hkd (SlAt.one Ev.len hv) (by simpa using he) (by simpa using hN)).mono (by
    rintro e w' ⟨rfl, h1, h2⟩
    exact ⟨rfl, h1, (hG.putE hP.2.sorted hkd (by omega) he).1, h2⟩)
theorem putL_step {kd sz sl : Int} (f : Ev → Ev) (l : List Ev) {k : Nat} (hk : k < l.length) : putL kd sz sl [] ((l.take (k + 1)).map f) = putE kd sz sl (putL kd sz sl [] ((l.take k).map f)) (f l[k]) := by
  rw [List.take_add_one, List.getElem?_eq_getElem hk, List.map_append]
  unfold putL
  rw [List.foldl_append]
  rfl
end Go.Proofs.Ythegopajkljlmaa
