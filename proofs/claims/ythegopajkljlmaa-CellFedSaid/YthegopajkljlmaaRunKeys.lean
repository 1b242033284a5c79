/- The walk of RunnerKeys. -/
import Derived.Test.YthegopajkljlmaaReaders
import Derived.Test.YthegopajkljlmaaPartLaw
import Derived.Test.YthegopajkljlmaaWhole
import Derived.Deep.CutBlock
set_option linter.unusedVariables false
namespace Go.Proofs.Ythegopajkljlmaa
open Go.RowKit Go.Maps
theorem labelOf_wf (n : Int) : (Lit.int .u64 (labelOf n)).wf = true := by
  unfold labelOf
  have h := within_range n 0 7 (by omega)
  have : within n 0 7 = 0 ∨ within n 0 7 = 1 ∨ within n 0 7 = 2 ∨ within n 0 7 = 3 ∨ within n 0 7 = 4 ∨ within n 0 7 = 5 ∨ within n 0 7 = 6 ∨ within n 0 7 = 7 := by omega
  rcases this with h | h | h | h | h | h | h | h <;> rw [h] <;> decide
theorem inpOf_wf (q : InQ) : (inpOf q).ev.wf := by
  unfold inpOf
  split
  · have h := within_range q.time 0 160 (by omega)
    exact ⟨WalkArith.wf_i64 (by dsimp only; omega), by dsimp only; decide, by dsimp only; decide, by dsimp only; decide⟩
  · have h1 := within_range q.time 0 120 (by omega)
    have h2 := within_range q.key 0 3 (by omega)
    have h3 := within_range q.value (-50) 50 (by omega)
    exact ⟨WalkArith.wf_i64 (by dsimp only; omega), WalkArith.wf_i64 (by dsimp only; omega), WalkArith.wf_i64 (by dsimp only; omega), labelOf_wf _⟩
theorem inputs_wf (l : List InQ) : ∀ i ∈ inputsOf l, i.ev.wf := by
  intro i hi
  obtain ⟨q, _, rfl⟩ := List.mem_map.1 hi
  exact inpOf_wf q
theorem inputs_len (l : List InQ) : (inputsOf l).length ≤ 25 := by simp [inputsOf]; omega
/-- A pipe without its operations. -/
def Pp.bare (p : Pp) : Pp := ⟨[], p.size, p.slide, p.agg, p.sink, p.feed⟩
theorem bare_right {p : Pp} (h : rightPp p = true) : rightPp p.bare = true := by
  unfold rightPp at *
  simp only [Bool.and_eq_true] at *
  exact ⟨⟨⟨⟨rfl, h.1.1.1.2⟩, h.1.1.2⟩, h.1.2⟩, h.2⟩
theorem filter_take {α : Type} {l : List α} (f : α → Bool) {m : Nat} (hm : m < l.length) : (l.take (m + 1)).filter f = if f l[m] then (l.take m).filter f ++ [l[m]] else (l.take m).filter f := by
  rw [List.take_add_one, List.getElem?_eq_getElem hm, List.filter_append]
  cases h : f l[m] <;> simp [h]
set_option maxRecDepth 20000 in
theorem bareNew_st {w0 w : World} {L : List HP} (h : St w0 w L) (p : Pp) (hr : rightPp p.bare = true) : Calls Try.prog 35 #[.agg #[.slice none 0 0, .int .i64 p.size, .int .i64 p.slide, .int .i64 p.agg, .int .i64 p.sink, .int .i64 p.feed]] w fun e w' => ∃ rb, e = .returned (.pointer (some ⟨rb, 0, none⟩)) ∧ St w0 w' (L ++ [rnP rb (newR p.bare) 0]) :=
  rnNew_st h p.bare none 0 (.inl rfl) (fun _ => rfl) (by simp [Pp.bare]) (by simp [Pp.bare]) hr
/-- One input handed to a runner. -/
theorem take1_st {w0 w : World} {L : List HP} {rb N : Nat} {r : Rn} (h : St w0 w L) (n : Nat) (hn : L[n]? = some (rnP rb r N)) (m : Nat) {g : Nat} {i : Inp} (hm : (L.set n emp)[m]? = some (pt g (.cells #[.bool i.mark, .int .i64 i.ev.time, .int .i64 i.ev.key, .int .i64 i.ev.value, .int .u64 i.ev.label] 33 (0, 0)))) (hw : i.ev.wf) (hN : N + 1 < 2 ^ 30) :
    Calls Try.prog 43 #[.pointer (some ⟨rb, 0, none⟩), .slice (some ⟨g, 0, none⟩) 1 1] w fun x w' => ∃ v, x = .returned v ∧ St w0 w' (L.set n (rnP rb (takeR r i).1 (N + 1)) ++ [ownP 43 5 Rw.cells v (takeR r i).2]) := by
  obtain ⟨pb, v, _, _, hG, _⟩ := rn_see h n hn (by omega)
  refine (rnTake_st h n hn (some ⟨g, 0, none⟩) 1 [i] (Seen.pt (l := [i]) Inp.len m hm) (by simpa using hw) hN hG.len).mono ?_
  rintro e w' ⟨v, rfl, hst⟩
  refine ⟨v, rfl, ?_⟩
  have e : rowsR r [i] = (takeR r i).2 := List.append_nil _
  rw [e] at hst
  exact hst
end Go.Proofs.Ythegopajkljlmaa
