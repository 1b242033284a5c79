/- Walk of board.Twin. -/
import Derived.Test.YtdncpihaeobaeaaGreatTold
set_option linter.unusedVariables false
set_option linter.unusedSimpArgs false
namespace Go.Proofs.YtdncpihaeobaeaaGreat
open Go.RowKit
theorem ownP_part {α : Type} {e : TypeId} {c : Nat} {enc : α → List Value} {v : Value} {l : List α} {h : Nat → Option Obj} {f : Nat → Bool} (hh : ownP e c enc v l (part h f)) : ownP e c enc v l h := by
  rcases hh with h1 | ⟨g, cap, cur, h1, hg, h2⟩
  · exact .inl h1
  · exact .inr ⟨g, cap, cur, h1, (part_some hg).2, h2⟩
set_option maxRecDepth 20000 in
theorem idxRel (v0 v1 v2 v3 v4 v5 v6 v7 : Value) (k : Nat) (hk : k < 8) (w : World) : (Instr.index 150 (.agg #[v0, v1, v2, v3, v4, v5, v6, v7]) (.int .i64 k)).run Tryz.prog w = .ok ([v0, v1, v2, v3, v4, v5, v6, v7][k]'(by simpa using hk)) w := by
  match k, hk with
  | 0, _ | 1, _ | 2, _ | 3, _ | 4, _ | 5, _ | 6, _ | 7, _ => rfl
def twinK (T : List (List Rel)) (k : Nat) : List (List Rel) := T.take k ++ List.replicate (8 - k) []
theorem twinK_len (T : List (List Rel)) (k : Nat) (h : T.length = 8) (hk : k ≤ 8) : (twinK T k).length = 8 := by simp [twinK]; omega
theorem twinK_set (T : List (List Rel)) (k : Nat) (h : T.length = 8) (hk : k < 8) : (twinK T k).set k (T[k]'(by omega)) = twinK T (k + 1) := by
  unfold twinK
  have e : List.replicate (8 - k) ([] : List Rel) = [] :: List.replicate (8 - (k + 1)) [] := by rw [show 8 - k = (8 - (k + 1)) + 1 by omega, List.replicate_succ]
  have hl : (T.take k).length = k := by simp; omega
  rw [e, List.set_append_right _ _ (by omega), hl, Nat.sub_self, List.set_cons_zero, List.take_add_one, List.getElem?_eq_getElem (by omega), Option.toList_some, List.append_assoc, List.singleton_append]
theorem twinK_all (T : List (List Rel)) (h : T.length = 8) : twinK T 8 = T := by unfold twinK; simp [← h]
theorem twinK_at (T : List (List Rel)) (k : Nat) (h : T.length = 8) (hk : k < 8) : (twinK T k)[k]'(by rw [twinK_len T k h (by omega)]; exact hk) = [] := by
  unfold twinK
  have hl : (T.take k).length = k := by simp; omega
  rw [List.getElem_append_right (by omega)]
  simp
theorem twinK_bound {T : List (List Rel)} {N k : Nat} (h : ∀ l ∈ T, l.length ≤ N) : ∀ l ∈ twinK T k, l.length ≤ N := by
  intro l hl
  rcases List.mem_append.1 hl with hl | hl
  · exact h l (List.mem_of_mem_take hl)
  · rw [(List.mem_replicate.1 hl).2]; simp
end Go.Proofs.YtdncpihaeobaeaaGreat
