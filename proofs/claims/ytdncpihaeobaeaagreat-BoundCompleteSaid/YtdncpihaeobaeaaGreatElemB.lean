/- Appends of elements of more than 128 bytes. -/
import Derived.Test.YtdncpihaeobaeaaGreatAnsLen
set_option linter.unusedVariables false
set_option linter.unusedSimpArgs false
namespace Go.Proofs.YtdncpihaeobaeaaGreat
open Go.RowKit
/-- What an append must know of a type of elements. -/
structure ElemB (P : Program) (t e : TypeId) {α : Type} (c : Nat) (enc : α → List Value) : Prop where
  len : ∀ x, (enc x).length = c
  pos : 0 < c
  one : ∀ x, ∀ u ∈ enc x, u.oneCell' = true
  under : P.underlying t = some (.slice e)
  info : ∃ i z, P.info? e = some i ∧ i.zero = some z ∧ i.size = c ∧ i.bytes ≤ 1024 ∧ z.cells.size = c
section
variable {P : Program} {α : Type} {enc : α → List Value} {c : Nat} {w0 w : World} {L : List HP}
theorem wp_append_stB {t e : TypeId} (E : ElemB P t e c enc) {o : Oper} {a : Act} {K : Act → World → Prop} {Q : Exit → Act → World → Prop} (hst : St w0 w L) (n : Nat) {v : Value} {l0 : List α} (hn : L[n]? = some (ownP e c enc v l0))
    (s x : Operand) (ho : o.op = .call { callee := .builtin .append, args := #[s, x], argTypes := #[t, t] }) (hs : a.eval s = v)
    (ad : Option Addr) (cap : Nat) (l : List α) (hx : a.eval x = .slice ad l.length cap) (hnil : ad = none → cap = 0) (hsl : SlAt c (flat enc) w ad l) (hlen : l0.length + l.length ≤ 1000000)
    (h : ∀ v' w', St w0 w' (L.set n (ownP e c enc v' (l0 ++ l))) → (v ≠ .slice none 0 0 → v' ≠ .slice none 0 0) → K (a.put o.dst v') w') : o.wp P a w K Q := by
  obtain ⟨i, z, hi, hz, hsize, hby, hzs⟩ := E.info
  have hown := hst.owns E.len n hn
  match ad, hnil, hsl, hx with
  | none, hnil, hsl, hx =>
    have hl : l = [] := by rcases hsl with h | ⟨b, o, he, _⟩; exact h; cases he
    subst hl
    rw [hnil rfl] at hx
    have hrun := run_append_owned_none (P := P) (w := w) w0.heap.size t o.type e i c E.under hi v _ _ hown
    unfold Oper.wp
    simp [execOp, ho, resolve, invoke, builtin, hs, hx, hrun, Result.andThen]
    refine h v w ?_ id
    rw [List.append_nil]
    exact hst.imp n hn fun _ h => h
  | some ad, hnil, hsl, hx =>
    obtain ⟨v', w', hr, h2, h3, h4, h5⟩ := run_append_where (P := P) w w0.heap.size t o.type e i z c i.bytes E.under hi hz hsize rfl hzs E.pos v _ _ hown ad l.length cap (l.flatMap enc) (flatMap_len E.len l)
      (by
        intro j u hu
        rcases hsl with rfl | ⟨b, o, he, hlt, hh⟩
        · simp at hu
        · simp at he
          subst he
          have := SlAt.cells E.len E.pos (b := b) (o := o) (.inr ⟨b, o, rfl, hlt, hh⟩) j u hu
          rw [← this]
          congr 1
          simp [Addr.add])
      (by
        intro u hu
        simp at hu
        obtain ⟨x, _, hx⟩ := hu
        exact E.one x u hx)
      (by unfold maxLen; omega) (Nat.le_trans (Nat.mul_le_mul hlen hby) (by decide)) hst.size
    unfold Oper.wp execOp
    simp only [ho, resolve, invoke, builtin, Sem.run_bind, Sem.run_pure, Result.andThen_ok, List.map_toArray, List.map_cons, List.map_nil, hs, hx, hr]
    refine h v' w' (hst.appended n hn (by rw [List.flatMap_append, List.length_append]; exact h2) h3 h5) fun hv hv' => hv (h4.1 hv').1
theorem wpList_append_stB {t e : TypeId} (E : ElemB P t e c enc) {ops : Array Oper} {rest : List Oper} {o : Oper} {a : Act} {Q : Exit → Act → World → Prop} (hgd : o.guard = none) (hst : St w0 w L) (n : Nat) {v : Value} {l0 : List α} (hn : L[n]? = some (ownP e c enc v l0))
    (s x : Operand) (ho : o.op = .call { callee := .builtin .append, args := #[s, x], argTypes := #[t, t] }) (hs : a.eval s = v)
    (ad : Option Addr) (cap : Nat) (l : List α) (hx : a.eval x = .slice ad l.length cap) (hnil : ad = none → cap = 0) (hsl : SlAt c (flat enc) w ad l) (hlen : l0.length + l.length ≤ 1000000)
    (h : ∀ v' w', St w0 w' (L.set n (ownP e c enc v' (l0 ++ l))) → (v ≠ .slice none 0 0 → v' ≠ .slice none 0 0) → wpList P ops Q rest (a.put o.dst v') w') : wpList P ops Q (o :: rest) a w :=
  wpList_plain hgd fun K hK => wp_append_stB E hst n hn s x ho hs ad cap l hx hnil hsl hlen fun v' w' h1 h2 => hK _ _ (h v' w' h1 h2)
/-- The same at a step of a region that draws its order. -/
theorem step_append_stB {t e : TypeId} (E : ElemB P t e c enc) {ops : Array Oper} {o : Oper} {a : Act} {K : Act → World → Prop} {Q : Exit → Act → World → Prop} {F : Prop} (hgd : o.guard = none) (hst : St w0 w L) (n : Nat) {v : Value} {l0 : List α} (hn : L[n]? = some (ownP e c enc v l0))
    (s x : Operand) (ho : o.op = .call { callee := .builtin .append, args := #[s, x], argTypes := #[t, t] }) (hs : a.eval s = v)
    (ad : Option Addr) (cap : Nat) (l : List α) (hx : a.eval x = .slice ad l.length cap) (hnil : ad = none → cap = 0) (hsl : SlAt c (flat enc) w ad l) (hlen : l0.length + l.length ≤ 1000000)
    (h : ∀ v' w', St w0 w' (L.set n (ownP e c enc v' (l0 ++ l))) → (v ≠ .slice none 0 0 → v' ≠ .slice none 0 0) → K (a.put o.dst v') w') : if Region.wanted o (yielded ops a.tmps) = true then Oper.wp P o a w K Q else F := by
  have hw : Region.wanted o (yielded ops a.tmps) = true := by simp [Region.wanted, hgd]
  rw [if_pos hw]
  exact wp_append_stB E hst n hn s x ho hs ad cap l hx hnil hsl hlen h
/-- 'append([]T{}, x...)': a copy of its own. -/
theorem wpList_copy_stB {t e : TypeId} (E : ElemB P t e c enc) {ops : Array Oper} {rest : List Oper} {o : Oper} {a : Act} {Q : Exit → Act → World → Prop} (hgd : o.guard = none) (hst : St w0 w L) (n : Nat) {g : Nat} (hn : L[n]? = some (pt g (.cells #[] e (0, 0))))
    (s x : Operand) (ho : o.op = .call { callee := .builtin .append, args := #[s, x], argTypes := #[t, t] }) (hs : a.eval s = .slice (some ⟨g, 0, none⟩) 0 0)
    (ad : Option Addr) (cap : Nat) (l : List α) (hx : a.eval x = .slice ad l.length cap) (hnil : ad = none → cap = 0) (hsl : SlAt c (flat enc) w ad l) (hlen : l.length ≤ 1000000)
    (h : ∀ b cap' w', St w0 w' (L.set n (ownP e c enc (.slice (some ⟨b, 0, none⟩) l.length cap') l)) → wpList P ops Q rest (a.put o.dst (.slice (some ⟨b, 0, none⟩) l.length cap')) w') : wpList P ops Q (o :: rest) a w := by
  have hnl := (List.getElem?_eq_some_iff.1 hn).1
  have hn1 : (L.set n (ownP e c enc (.slice (some ⟨g, 0, none⟩) 0 0) ([] : List α)))[n]? = some (ownP e c enc (.slice (some ⟨g, 0, none⟩) 0 0) ([] : List α)) := by simp [hnl]
  have hst1 : St w0 w (L.set n (ownP e c enc (.slice (some ⟨g, 0, none⟩) 0 0) ([] : List α))) := hst.imp n hn fun h hp => ownP_empty hp
  refine wpList_append_stB E hgd hst1 n hn1 s x ho hs ad cap l hx hnil hsl (by simpa using hlen) fun v' w' h1 h2 => ?_
  rw [List.nil_append, List.set_set] at h1
  have hn2 : (L.set n (ownP e c enc v' l))[n]? = some (ownP e c enc v' l) := by simp [hnl]
  obtain ⟨F, hF⟩ := h1.at n hn2
  rcases hF with ⟨hv, _⟩ | ⟨b, cap2, cur, rfl, _⟩
  · exact absurd hv (h2 (by simp))
  · exact h b cap2 w' h1
/-- One element more: it lies in a block of its own. -/
theorem wpList_push_stB {t e : TypeId} (E : ElemB P t e c enc) {ops : Array Oper} {rest : List Oper} {o : Oper} {a : Act} {Q : Exit → Act → World → Prop} (hgd : o.guard = none) (hst : St w0 w L) (n : Nat) {v : Value} {l0 : List α} (hn : L[n]? = some (ownP e c enc v l0))
    (s x : Operand) (ho : o.op = .call { callee := .builtin .append, args := #[s, x], argTypes := #[t, t] }) (hs : a.eval s = v)
    (g : Nat) (y : α) (hx : a.eval x = .slice (some ⟨g, 0, none⟩) 1 1) (hg : w.heap[g]? = some (.cells (enc y).toArray e (0, 0))) (hlen : l0.length < 1000000)
    (h : ∀ v' w', St w0 w' (L.set n (ownP e c enc v' (l0 ++ [y]))) → (v ≠ .slice none 0 0 → v' ≠ .slice none 0 0) → wpList P ops Q rest (a.put o.dst v') w') : wpList P ops Q (o :: rest) a w :=
  wpList_append_stB E hgd hst n hn s x ho hs (some ⟨g, 0, none⟩) 1 [y] hx (by simp) (SlAt.one E.len hg) (by show l0.length + 1 ≤ _; omega) h
end
theorem wrap64_id {x : Int} (h0 : -9223372036854775808 ≤ x) (h1 : x ≤ 9223372036854775807) : wrap64 x = x := by unfold wrap64; omega
end Go.Proofs.YtdncpihaeobaeaaGreat
