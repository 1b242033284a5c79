/- A map[int]bool of the call's own. -/
import Derived.Test.YtapmfekeooeinaaOwn
import Derived.Maps.OwnSet
set_option linter.unusedVariables false
namespace Go.Proofs.Ytapmfekeooeinaa
open Go.RowKit Go.Maps
theorem keyB : Keyed Try.prog 3 := int_keyed Try.underlying3
theorem boolInfo : ∃ i, Try.prog.info? 4 = some i ∧ i.zero = some (.bool false) ∧ i.size = 1 ∧ i.bytes = 1 := info_parts (by kernel_rfl)
theorem bool_zero_run (w : World) : (zeroValue 4).run Try.prog w = .ok (.bool false) w := by
  obtain ⟨i, h1, h2, _⟩ := boolInfo
  simp [zeroValue, typeInfo, h1, h2]
/-- Block b is a map of at most N entries that answers f. -/
def BoolAt (w : World) (b N : Nat) (f : Int → Bool) : Prop :=
  ∃ (D : DataW Unit) (n : Nat), w.ownsMap Try.prog 3 (plainElem Try.prog 4) b n D ∧ Maps.size D ≤ N ∧ ∀ x : Int, D.atKey (.int .i64 x) (.lit (.bool false)) = .lit (.bool (f x))
theorem BoolAt.made (w : World) : BoolAt (w.alloc (.map #[] 0)) w.heap.size 0 (fun _ => false) :=
  ⟨.map [], 0, World.ownsMap_made _ _ _ _, Nat.le_refl _, fun _ => rfl⟩
theorem BoolAt.same {w w' : World} {b N : Nat} {f : Int → Bool} (h : BoolAt w b N f) (he : w'.heap[b]? = w.heap[b]?) : BoolAt w' b N f := by
  obtain ⟨D, n, ⟨es, clock, hb, r⟩, h2⟩ := h
  exact ⟨D, n, ⟨es, clock, he.trans hb, r⟩, h2⟩
theorem BoolAt.block {w : World} {b N : Nat} {f : Int → Bool} (h : BoolAt w b N f) : ∃ es clock, w.heap[b]? = some (.map es clock) := by
  obtain ⟨D, n, ⟨es, clock, h1, _⟩, h2⟩ := h
  exact ⟨es, clock, h1⟩
theorem BoolAt.lt {w : World} {b N : Nat} {f : Int → Bool} (h : BoolAt w b N f) : b < w.heap.size := by
  obtain ⟨es, clock, h1⟩ := h.block
  exact (Array.getElem?_eq_some_iff.1 h1).1
set_option maxRecDepth 20000 in
theorem plain_bool_inv {v : Value} {z : DataW Unit × List MemPlace} (h : plainElem Try.prog 4 v = some z) : ∃ x, v = .bool x ∧ z = (.lit (.bool x), []) := by
  unfold plainElem at h
  rw [Try.underlying4] at h
  cases v <;> simp at h
  exact ⟨_, rfl, h.symm⟩
theorem BoolAt.look {w : World} {b N : Nat} {f : Int → Bool} (h : BoolAt w b N f) (x : Int) (hx : (Lit.int .i64 x).wf = true) : (Instr.lookup 42 (.map (some b)) (.int .i64 x) false).run Try.prog w = .ok (.bool (f x)) w := by
  obtain ⟨D, n, h1, h2, h3⟩ := h
  obtain ⟨v, ps, hr, hv⟩ := h1.lookup keyB Try.underlying42 (bool_zero_run w) (plainElem_bool Try.underlying4 false) (keyOf_int_mk Try.underlying3 hx)
  obtain ⟨y, rfl, hz⟩ := plain_bool_inv hv
  have hd := congrArg Prod.fst hz
  rw [h3 x] at hd
  simp at hd
  rw [hr, hd]
theorem BoolAt.put_run {w : World} {b N : Nat} {f : Int → Bool} (h : BoolAt w b N f) (x : Int) (hx : (Lit.int .i64 x).wf = true) (hN : N < 2 ^ 40) :
    ∃ w', (Instr.mapUpdate 42 (.map (some b)) (.int .i64 x) (.bool true)).run Try.prog w = .ok () w' ∧ BoolAt w' b (N + 1) (fun y => f y || y == x) ∧ w.grownBy w' (some b) := by
  obtain ⟨D, n, h1, h2, h3⟩ := h
  have h4 : w.ownsMap Try.prog 3 (plainElem Try.prog 4) b (Maps.size D) D := by
    obtain ⟨es, clock, hb, hF, _, rfl⟩ := h1
    exact ⟨es, clock, hb, hF, by simp [Maps.size, length_sorted], rfl⟩
  have ht := h1.tidy keyB
  obtain ⟨w', hr, h5, h6⟩ := h4.update keyB Try.underlying42 (by unfold maxLen; omega) (keyOf_int_mk Try.underlying3 hx) (plainElem_bool Try.underlying4 true)
  refine ⟨w', hr, ⟨_, _, h5, ?_, fun y => ?_⟩, h6⟩
  · rw [size_put ht]
    split <;> omega
  · by_cases he : y = x
    · subst he
      rw [atKey_put_same ht.isMap (show WideAt.IsKeyLit (Lit.int .i64 y) from trivial)]
      simp
    · rw [atKey_put_other (by simpa using he), h3 y]
      simp [he]
theorem wpList_boolput {w : World} {b N : Nat} {f : Int → Bool} (h : BoolAt w b N f) (k : Int) (hk : (Lit.int .i64 k).wf = true) (hN : N < 2 ^ 40) {ops : Array Oper} {rest : List Oper} {o : Oper} {a : Act} {Q : Exit → Act → World → Prop} (hgd : o.guard = none) (m x v : Operand)
    (ho : o.op = .mapUpdate 42 m x v) (hm : a.eval m = .map (some b)) (hx : a.eval x = .int .i64 k) (hv : a.eval v = .bool true)
    (hK : ∀ w', BoolAt w' b (N + 1) (fun y => f y || y == k) → w.grownBy w' (some b) → wpList Try.prog ops Q rest (a.put o.dst undef) w') : wpList Try.prog ops Q (o :: rest) a w := by
  refine wpList_plain hgd fun K' hK' => ?_
  obtain ⟨w', hr, h1, h2⟩ := h.put_run k hk hN
  unfold Oper.wp
  simp [execOp, ho, hm, hx, hv, hr, Result.andThen]
  exact hK' _ _ (hK w' h1 h2)
end Go.Proofs.Ytapmfekeooeinaa
