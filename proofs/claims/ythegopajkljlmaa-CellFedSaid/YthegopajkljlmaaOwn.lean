/- Slices of the call's own: appended, read again. -/
import Derived.Test.YthegopajkljlmaaRead
import Derived.Laws.AppendOwn
import Derived.Laws.AppendOwnNone
import Derived.OwnWalk
set_option linter.unusedVariables false
namespace Go.Proofs.Ythegopajkljlmaa
open Go.RowKit
/-- Cells that are just what a datum is laid out as. -/
def flat {α : Type} (enc : α → List Value) (w : World) (cs : List Value) (x : α) : Prop := cs = enc x
def intC (k : IntKind) (n : Int) : List Value := [.int k n]
def boolC (b : Bool) : List Value := [.bool b]
theorem SlAt.imp {α : Type} {c : Nat} {R R' : World → List Value → α → Prop} {w : World} {a : Option Addr} {l : List α} (h : SlAt c R w a l) (hR : ∀ cs x, R w cs x → R' w cs x) : SlAt c R' w a l := by
  rcases h with h | ⟨b, o, rfl, hlt, h⟩
  · exact .inl h
  · refine .inr ⟨b, o, rfl, hlt, fun i hi => ?_⟩
    obtain ⟨cs, h1, h2, h3⟩ := h i hi
    exact ⟨cs, h1, h2, hR _ _ h3⟩
theorem SlAt.take {α : Type} {c : Nat} {R : World → List Value → α → Prop} {w : World} {a : Option Addr} {l : List α} (h : SlAt c R w a l) (n : Nat) : SlAt c R w a (l.take n) := by
  rcases h with rfl | ⟨b, o, rfl, hlt, h⟩
  · exact .inl (by simp)
  · refine .inr ⟨b, o, rfl, hlt, fun i hi => ?_⟩
    simp at hi
    obtain ⟨cs, h1, h2, h3⟩ := h i (by omega)
    exact ⟨cs, h1, h2, by simpa using h3⟩
theorem SlAt.drop {α : Type} {c : Nat} {R : World → List Value → α → Prop} {w : World} {b o : Nat} {l : List α} (h : SlAt c R w (some ⟨b, o, none⟩) l) (n : Nat) : SlAt c R w (some ⟨b, o + n * c, none⟩) (l.drop n) := by
  rcases h with rfl | ⟨b', o', he, hlt, h⟩
  · exact .inl (by simp)
  · simp at he
    obtain ⟨rfl, rfl⟩ := he
    refine .inr ⟨b, _, rfl, hlt, fun i hi => ?_⟩
    simp at hi
    obtain ⟨cs, h1, h2, h3⟩ := h (n + i) (by omega)
    refine ⟨cs, h1, fun j hj => ?_, by simpa using h3⟩
    rw [← h2 j hj, Nat.add_mul, ← Nat.add_assoc]
theorem SlAt.flatBelow {α : Type} {c : Nat} {enc : α → List Value} {w w' : World} {a : Option Addr} {l : List α} (h : SlAt c (flat enc) w a l) {B : Nat} (hb : Below B w w') (hB : ∀ b o, a = some ⟨b, o, none⟩ → l ≠ [] → b < B) : SlAt c (flat enc) w' a l := by
  rcases h with h | ⟨b, o, rfl, hlt, h⟩
  · exact .inl h
  · by_cases hl : l = []
    · exact .inl hl
    · refine .inr ⟨b, o, rfl, by have := hb.size; omega, fun i hi => ?_⟩
      obtain ⟨cs, h1, h2, h3⟩ := h i hi
      exact ⟨cs, h1, fun j hj => (hb.cell (p := ⟨b, _, none⟩) (hB b o rfl hl)).trans (h2 j hj), h3⟩
theorem flatMap_at {α : Type} {enc : α → List Value} {c : Nat} (hc : ∀ x, (enc x).length = c) : ∀ (l : List α) (i j : Nat), j < c → (l.flatMap enc)[i * c + j]? = l[i]?.bind fun x => (enc x)[j]?
  | [], i, j, _ => by simp
  | x :: l, 0, j, hj => by
    rw [List.flatMap_cons, Nat.zero_mul, Nat.zero_add, List.getElem?_append_left (by rw [hc]; exact hj)]
    simp
  | x :: l, i + 1, j, hj => by
    rw [List.flatMap_cons, List.getElem?_append_right (by rw [hc, Nat.add_mul]; omega), hc, show (i + 1) * c + j - c = i * c + j from by rw [Nat.add_mul]; omega, flatMap_at hc l i j hj]
    simp
theorem flatMap_len {α : Type} {enc : α → List Value} {c : Nat} (hc : ∀ x, (enc x).length = c) (l : List α) : (l.flatMap enc).length = l.length * c := by
  induction l with
  | nil => simp
  | cons x l ih => rw [List.flatMap_cons, List.length_append, hc, ih, List.length_cons, Nat.add_mul]; omega
/-- A slice that reads at a row of flat data, cell by cell. -/
theorem SlAt.cells {α : Type} {c : Nat} {enc : α → List Value} (hc : ∀ x, (enc x).length = c) (c0 : 0 < c) {w : World} {b o : Nat} {l : List α} (h : SlAt c (flat enc) w (some ⟨b, o, none⟩) l) (j : Nat) (u : Value) (hu : (l.flatMap enc)[j]? = some u) : w.cell? ⟨b, o + j, none⟩ = some u := by
  rcases h with rfl | ⟨b', o', he, hlt, h⟩
  · simp at hu
  · simp at he
    obtain ⟨rfl, rfl⟩ := he
    have hj := Nat.div_add_mod j c
    rw [← hj, Nat.mul_comm, flatMap_at hc _ _ _ (Nat.mod_lt _ c0)] at hu
    by_cases hi : j / c < l.length
    · obtain ⟨cs, h1, h2, h3⟩ := h _ hi
      rw [List.getElem?_eq_getElem hi] at hu
      simp at hu
      rw [← hu, ← h3, ← h2 _ (Nat.mod_lt _ c0), Nat.add_assoc, Nat.mul_comm, hj]
    · rw [List.getElem?_eq_none (by omega)] at hu
      simp at hu
/-- A slice of the call's own reads at its data. -/
theorem slAt_of_own {α : Type} {enc : α → List Value} {c : Nat} (hc : ∀ x, (enc x).length = c) {w : World} {B : Nat} {e : TypeId} {v : Value} {l : List α} (h : w.ownsRow B e c v l.length (l.flatMap enc)) :
    ∃ a cap, v = .slice a l.length cap ∧ l.length ≤ cap ∧ cap ≤ maxLen ∧ (a = none → cap = 0) ∧ (∀ b o, a = some ⟨b, o, none⟩ → B ≤ b ∧ b < w.heap.size) ∧ SlAt c (flat enc) w a l := by
  rcases h.2 with ⟨rfl, hn⟩ | ⟨g, cap, cur, rfl, hB, hg, hle, hmax, hsz, htake⟩
  · have hl : l = [] := List.eq_nil_of_length_eq_zero hn
    subst hl
    exact ⟨none, 0, rfl, by simp, by decide, fun _ => rfl, by simp, .inl rfl⟩
  · have hlt := (Array.getElem?_eq_some_iff.1 hg).1
    refine ⟨_, cap, rfl, hle, hmax, by simp, ?_, .inr ⟨g, 0, rfl, hlt, fun i hi => ⟨enc l[i], hc _, fun j hj => ?_, rfl⟩⟩⟩
    · intro b o he
      simp at he
      obtain ⟨rfl, _⟩ := he
      exact ⟨hB, hlt⟩
    · have hf := flatMap_at hc l i j hj
      rw [List.getElem?_eq_getElem hi] at hf
      rw [← htake, List.getElem?_take] at hf
      have hb : i * c + j < l.length * c := by
        have : (i + 1) * c ≤ l.length * c := Nat.mul_le_mul_right _ hi
        rw [Nat.add_mul] at this
        omega
      rw [if_pos hb] at hf
      simp only [World.cell?, hg, Nat.zero_add]
      simpa using hf
theorem new_at (w : World) (o : Obj) (g : Nat) (h : g = w.heap.size) : (w.alloc o).heap[g]? = some o := by rw [h]; exact heap_new w o
theorem new_drew (w : World) (o : Obj) (g : Nat) (h : g = w.heap.size) : (w.alloc o).drew.heap[g]? = some o := new_at w o g h
/-- 'append(s, x...)': s the call's own, x any slice of flat data. -/
theorem wp_append_sl {P : Program} {α : Type} {enc : α → List Value} {c : Nat} (hc : ∀ x, (enc x).length = c) (c0 : 0 < c) (hone : ∀ x, ∀ u ∈ enc x, u.oneCell' = true) {w : World} {o : Oper} {a : Act} {K : Act → World → Prop} {Q : Exit → Act → World → Prop} (s x : Operand) (t : TypeId)
    (ho : o.op = .call { callee := .builtin .append, args := #[s, x], argTypes := #[t, t] })
    (base : Nat) (e : TypeId) (i : TypeInfo) (z : Value) (bytes : Nat) (ht : P.underlying t = some (.slice e)) (hi : P.info? e = some i) (hz : i.zero = some z)
    (hsize : i.size = c) (hby : i.bytes = bytes) (hzs : z.cells.size = c)
    (v : Value) (l0 : List α) (hs : a.eval s = v) (hown : w.ownsRow base e c v l0.length (l0.flatMap enc))
    (ad : Option Addr) (cap : Nat) (l : List α) (hx : a.eval x = .slice ad l.length cap) (hnil : ad = none → cap = 0) (hsl : SlAt c (flat enc) w ad l)
    (hbytes : (l0.length + l.length) * bytes ≤ 140737488355328) (h63 : l0.length + l.length ≤ maxLen) (hbase : base ≤ w.heap.size)
    (h : ∀ v' w', w'.ownsRow base e c v' (l0 ++ l).length ((l0 ++ l).flatMap enc) → w.grownBy w' v.ownBlock → (v ≠ .slice none 0 0 → v' ≠ .slice none 0 0) → K (a.put o.dst v') w') : o.wp P a w K Q := by
  match ad, hnil, hsl, hx with
  | none, hnil, hsl, hx =>
    have hl : l = [] := by rcases hsl with h | ⟨b, o, he, _⟩; exact h; cases he
    subst hl
    rw [hnil rfl] at hx
    have hrun := run_append_owned_none (P := P) (w := w) base t o.type e i c ht hi v _ _ hown
    unfold Oper.wp
    simp [execOp, ho, resolve, invoke, builtin, hs, hx, hrun, Result.andThen]
    exact h v w (by simpa using hown) ⟨rfl, rfl, rfl, Nat.le_refl _, fun _ _ _ => rfl⟩ id
  | some ad, hnil, hsl, hx =>
    refine wp_append_own w s x t ho base e i z c bytes ht hi hz hsize hby hzs c0 v _ _ hs hown ad l.length cap (l.flatMap enc) hx (flatMap_len hc l) ?_ ?_ h63 hbytes hbase ?_
    · intro j u hu
      rcases hsl with rfl | ⟨b, o, he, hlt, hh⟩
      · simp at hu
      · simp at he
        subst he
        have := SlAt.cells hc c0 (b := b) (o := o) (.inr ⟨b, o, rfl, hlt, hh⟩) j u hu
        rw [← this]
        congr 1
        simp [Addr.add]
    · intro u hu
      simp at hu
      obtain ⟨x, _, hx⟩ := hu
      exact hone x u hx
    · intro v' w' h1 h2 h3
      exact h v' w' (by rw [List.flatMap_append, List.length_append]; exact h1) h2 (fun hv hv' => hv (h3.1 hv').1)
/-- 'append([]T{}, x...)': a copy of the call's own. -/
theorem wp_copy_sl {P : Program} {α : Type} {enc : α → List Value} {c : Nat} (hc : ∀ x, (enc x).length = c) (c0 : 0 < c) (hone : ∀ x, ∀ u ∈ enc x, u.oneCell' = true) {w : World} {o : Oper} {a : Act} {K : Act → World → Prop} {Q : Exit → Act → World → Prop} (s x : Operand) (t : TypeId)
    (ho : o.op = .call { callee := .builtin .append, args := #[s, x], argTypes := #[t, t] })
    (base : Nat) (e : TypeId) (i : TypeInfo) (z : Value) (bytes : Nat) (ht : P.underlying t = some (.slice e)) (hi : P.info? e = some i) (hz : i.zero = some z)
    (hsize : i.size = c) (hby : i.bytes = bytes) (hzs : z.cells.size = c)
    (g : Nat) (hs : a.eval s = .slice (some ⟨g, 0, none⟩) 0 0) (hg : w.heap[g]? = some (.cells #[] e (0, 0))) (hbg : base ≤ g)
    (ad : Option Addr) (cap : Nat) (l : List α) (hx : a.eval x = .slice ad l.length cap) (hnil : ad = none → cap = 0) (hsl : SlAt c (flat enc) w ad l)
    (hbytes : l.length * bytes ≤ 140737488355328) (h63 : l.length ≤ maxLen)
    (h : ∀ b cap' w', w'.ownsRow base e c (.slice (some ⟨b, 0, none⟩) l.length cap') l.length (l.flatMap enc) → Below g w w' → w.heap.size ≤ w'.heap.size → K (a.put o.dst (.slice (some ⟨b, 0, none⟩) l.length cap')) w') : o.wp P a w K Q := by
  have hlt := (Array.getElem?_eq_some_iff.1 hg).1
  refine wp_append_sl hc c0 hone s x t ho base e i z bytes ht hi hz hsize hby hzs _ [] hs ?_ ad cap l hx hnil hsl (by simpa using hbytes) (by simpa using h63) (by omega) ?_
  · exact ⟨by simp, .inr ⟨g, 0, #[], rfl, hbg, hg, Nat.le_refl _, by decide, by simp, by simp⟩⟩
  · intro v' w' h1 h2 h3
    have h1 : w'.ownsRow base e c v' l.length (l.flatMap enc) := by simpa using h1
    obtain ⟨b, cap', hv⟩ : ∃ b cap', v' = .slice (some ⟨b, 0, none⟩) l.length cap' := by
      rcases h1.2 with ⟨hn, _⟩ | ⟨b, cap', _, hv, _⟩
      · exact absurd hn (h3 (by simp))
      · exact ⟨b, cap', hv⟩
    subst hv
    refine h b cap' w' h1 ?_ h2.size
    exact (Below.refl g w).grown h2 (by omega) (by intro k hk; simp [Value.ownBlock] at hk; omega)
theorem wpList_append_sl {P : Program} {α : Type} {enc : α → List Value} {c : Nat} (hc : ∀ x, (enc x).length = c) (c0 : 0 < c) (hone : ∀ x, ∀ u ∈ enc x, u.oneCell' = true) {w : World} {ops : Array Oper} {rest : List Oper} {o : Oper} {a : Act} {Q : Exit → Act → World → Prop} (hgd : o.guard = none) (s x : Operand) (t : TypeId)
    (ho : o.op = .call { callee := .builtin .append, args := #[s, x], argTypes := #[t, t] })
    (base : Nat) (e : TypeId) (i : TypeInfo) (z : Value) (bytes : Nat) (ht : P.underlying t = some (.slice e)) (hi : P.info? e = some i) (hz : i.zero = some z)
    (hsize : i.size = c) (hby : i.bytes = bytes) (hzs : z.cells.size = c)
    (v : Value) (l0 : List α) (hs : a.eval s = v) (hown : w.ownsRow base e c v l0.length (l0.flatMap enc))
    (ad : Option Addr) (cap : Nat) (l : List α) (hx : a.eval x = .slice ad l.length cap) (hnil : ad = none → cap = 0) (hsl : SlAt c (flat enc) w ad l)
    (hbytes : (l0.length + l.length) * bytes ≤ 140737488355328) (h63 : l0.length + l.length ≤ maxLen) (hbase : base ≤ w.heap.size)
    (h : ∀ v' w', w'.ownsRow base e c v' (l0 ++ l).length ((l0 ++ l).flatMap enc) → w.grownBy w' v.ownBlock → (v ≠ .slice none 0 0 → v' ≠ .slice none 0 0) → wpList P ops Q rest (a.put o.dst v') w') : wpList P ops Q (o :: rest) a w :=
  wpList_plain hgd fun K hK => wp_append_sl hc c0 hone s x t ho base e i z bytes ht hi hz hsize hby hzs v l0 hs hown ad cap l hx hnil hsl hbytes h63 hbase fun v' w' h1 h2 h3 => hK _ _ (h v' w' h1 h2 h3)
theorem wpList_copy_sl {P : Program} {α : Type} {enc : α → List Value} {c : Nat} (hc : ∀ x, (enc x).length = c) (c0 : 0 < c) (hone : ∀ x, ∀ u ∈ enc x, u.oneCell' = true) {w : World} {ops : Array Oper} {rest : List Oper} {o : Oper} {a : Act} {Q : Exit → Act → World → Prop} (hgd : o.guard = none) (s x : Operand) (t : TypeId)
    (ho : o.op = .call { callee := .builtin .append, args := #[s, x], argTypes := #[t, t] })
    (base : Nat) (e : TypeId) (i : TypeInfo) (z : Value) (bytes : Nat) (ht : P.underlying t = some (.slice e)) (hi : P.info? e = some i) (hz : i.zero = some z)
    (hsize : i.size = c) (hby : i.bytes = bytes) (hzs : z.cells.size = c)
    (g : Nat) (hs : a.eval s = .slice (some ⟨g, 0, none⟩) 0 0) (hg : w.heap[g]? = some (.cells #[] e (0, 0))) (hbg : base ≤ g)
    (ad : Option Addr) (cap : Nat) (l : List α) (hx : a.eval x = .slice ad l.length cap) (hnil : ad = none → cap = 0) (hsl : SlAt c (flat enc) w ad l)
    (hbytes : l.length * bytes ≤ 140737488355328) (h63 : l.length ≤ maxLen)
    (h : ∀ b cap' w', w'.ownsRow base e c (.slice (some ⟨b, 0, none⟩) l.length cap') l.length (l.flatMap enc) → Below g w w' → w.heap.size ≤ w'.heap.size → wpList P ops Q rest (a.put o.dst (.slice (some ⟨b, 0, none⟩) l.length cap')) w') : wpList P ops Q (o :: rest) a w :=
  wpList_plain hgd fun K hK => wp_copy_sl hc c0 hone s x t ho base e i z bytes ht hi hz hsize hby hzs g hs hg hbg ad cap l hx hnil hsl hbytes h63 fun b cap' w' h1 h2 h3 => hK _ _ (h b cap' w' h1 h2 h3)
/-- The same at a step of a region that draws its order. -/
theorem step_append_sl {P : Program} {α : Type} {enc : α → List Value} {c : Nat} (hc : ∀ x, (enc x).length = c) (c0 : 0 < c) (hone : ∀ x, ∀ u ∈ enc x, u.oneCell' = true) {w : World} {ops : Array Oper} {o : Oper} {a : Act} {K : Act → World → Prop} {Q : Exit → Act → World → Prop} {E : Prop} (hgd : o.guard = none) (s x : Operand) (t : TypeId)
    (ho : o.op = .call { callee := .builtin .append, args := #[s, x], argTypes := #[t, t] })
    (base : Nat) (e : TypeId) (i : TypeInfo) (z : Value) (bytes : Nat) (ht : P.underlying t = some (.slice e)) (hi : P.info? e = some i) (hz : i.zero = some z)
    (hsize : i.size = c) (hby : i.bytes = bytes) (hzs : z.cells.size = c)
    (v : Value) (l0 : List α) (hs : a.eval s = v) (hown : w.ownsRow base e c v l0.length (l0.flatMap enc))
    (ad : Option Addr) (cap : Nat) (l : List α) (hx : a.eval x = .slice ad l.length cap) (hnil : ad = none → cap = 0) (hsl : SlAt c (flat enc) w ad l)
    (hbytes : (l0.length + l.length) * bytes ≤ 140737488355328) (h63 : l0.length + l.length ≤ maxLen) (hbase : base ≤ w.heap.size)
    (h : ∀ v' w', w'.ownsRow base e c v' (l0 ++ l).length ((l0 ++ l).flatMap enc) → w.grownBy w' v.ownBlock → (v ≠ .slice none 0 0 → v' ≠ .slice none 0 0) → K (a.put o.dst v') w') : if Region.wanted o (yielded ops a.tmps) = true then Oper.wp P o a w K Q else E := by
  have hw : Region.wanted o (yielded ops a.tmps) = true := by simp [Region.wanted, hgd]
  rw [if_pos hw]
  exact wp_append_sl hc c0 hone s x t ho base e i z bytes ht hi hz hsize hby hzs v l0 hs hown ad cap l hx hnil hsl hbytes h63 hbase h
theorem step_copy_sl {P : Program} {α : Type} {enc : α → List Value} {c : Nat} (hc : ∀ x, (enc x).length = c) (c0 : 0 < c) (hone : ∀ x, ∀ u ∈ enc x, u.oneCell' = true) {w : World} {ops : Array Oper} {o : Oper} {a : Act} {K : Act → World → Prop} {Q : Exit → Act → World → Prop} {E : Prop} (hgd : o.guard = none) (s x : Operand) (t : TypeId)
    (ho : o.op = .call { callee := .builtin .append, args := #[s, x], argTypes := #[t, t] })
    (base : Nat) (e : TypeId) (i : TypeInfo) (z : Value) (bytes : Nat) (ht : P.underlying t = some (.slice e)) (hi : P.info? e = some i) (hz : i.zero = some z)
    (hsize : i.size = c) (hby : i.bytes = bytes) (hzs : z.cells.size = c)
    (g : Nat) (hs : a.eval s = .slice (some ⟨g, 0, none⟩) 0 0) (hg : w.heap[g]? = some (.cells #[] e (0, 0))) (hbg : base ≤ g)
    (ad : Option Addr) (cap : Nat) (l : List α) (hx : a.eval x = .slice ad l.length cap) (hnil : ad = none → cap = 0) (hsl : SlAt c (flat enc) w ad l)
    (hbytes : l.length * bytes ≤ 140737488355328) (h63 : l.length ≤ maxLen)
    (h : ∀ b cap' w', w'.ownsRow base e c (.slice (some ⟨b, 0, none⟩) l.length cap') l.length (l.flatMap enc) → Below g w w' → w.heap.size ≤ w'.heap.size → K (a.put o.dst (.slice (some ⟨b, 0, none⟩) l.length cap')) w') : if Region.wanted o (yielded ops a.tmps) = true then Oper.wp P o a w K Q else E := by
  have hw : Region.wanted o (yielded ops a.tmps) = true := by simp [Region.wanted, hgd]
  rw [if_pos hw]
  exact wp_copy_sl hc c0 hone s x t ho base e i z bytes ht hi hz hsize hby hzs g hs hg hbg ad cap l hx hnil hsl hbytes h63 h
theorem SlAt.intAt {kd : IntKind} {w : World} {a : Option Addr} {l : List Int} (h : SlAt 1 (flat (intC kd)) w a l) (k : Nat) (hk : k < l.length) :
    ∃ b o, a = some ⟨b, o, none⟩ ∧ b < w.heap.size ∧ w.cell? ⟨b, o + k, none⟩ = some (.int kd (l[k]?.getD 0)) := by
  rcases h with rfl | ⟨b, o, rfl, hlt, h⟩
  · simp at hk
  · obtain ⟨cs, h1, h2, h3⟩ := h k hk
    have := h2 0 (by omega)
    rw [List.getElem?_eq_getElem hk]
    exact ⟨b, o, rfl, hlt, by rw [h3] at this; simpa [intC] using this⟩
theorem SlAt.ofInts {kd : IntKind} {w : World} {b o : Nat} {l : List Int} (hb : b < w.heap.size) (h : ∀ i, i < l.length → w.cell? ⟨b, o + i, none⟩ = some (.int kd (l[i]?.getD 0))) : SlAt 1 (flat (intC kd)) w (some ⟨b, o, none⟩) l := by
  refine .inr ⟨b, o, rfl, hb, fun i hi => ⟨[.int kd l[i]], rfl, fun j hj => ?_, rfl⟩⟩
  obtain rfl : j = 0 := by omega
  have := h i hi
  rw [List.getElem?_eq_getElem hi] at this
  simpa using this
theorem SlAt.boolAt {w : World} {a : Option Addr} {l : List Bool} (h : SlAt 1 (flat boolC) w a l) (k : Nat) (hk : k < l.length) :
    ∃ b o, a = some ⟨b, o, none⟩ ∧ b < w.heap.size ∧ w.cell? ⟨b, o + k, none⟩ = some (.bool (l[k]?.getD false)) := by
  rcases h with rfl | ⟨b, o, rfl, hlt, h⟩
  · simp at hk
  · obtain ⟨cs, h1, h2, h3⟩ := h k hk
    have := h2 0 (by omega)
    rw [List.getElem?_eq_getElem hk]
    exact ⟨b, o, rfl, hlt, by rw [h3] at this; simpa [boolC] using this⟩
theorem intC_len (kd : IntKind) (n : Int) : (intC kd n).length = 1 := rfl
theorem intC_one (kd : IntKind) (n : Int) : ∀ u ∈ intC kd n, u.oneCell' = true := by intro u hu; simp [intC] at hu; subst hu; rfl
theorem slAt_own {α : Type} {enc : α → List Value} {c : Nat} (hc : ∀ x, (enc x).length = c) {w : World} {B : Nat} {e : TypeId} {l : List α} {b cap : Nat} (h : w.ownsRow B e c (.slice (some ⟨b, 0, none⟩) l.length cap) l.length (l.flatMap enc)) :
    SlAt c (flat enc) w (some ⟨b, 0, none⟩) l ∧ B ≤ b ∧ b < w.heap.size ∧ l.length ≤ cap ∧ cap ≤ maxLen := by
  obtain ⟨a, cap', hv, h1, h2, h3, h4, h5⟩ := slAt_of_own hc h
  simp at hv
  obtain ⟨rfl, rfl⟩ := hv
  exact ⟨h5, (h4 b 0 rfl).1, (h4 b 0 rfl).2, h1, h2⟩
theorem SlAt.one {α : Type} {enc : α → List Value} {c : Nat} (hc : ∀ x, (enc x).length = c) {w : World} {g : Nat} {x : α} {e : TypeId} {fr : Nat × Nat} (h : w.heap[g]? = some (.cells (enc x).toArray e fr)) : SlAt c (flat enc) w (some ⟨g, 0, none⟩) [x] := by
  refine .inr ⟨g, 0, rfl, (Array.getElem?_eq_some_iff.1 h).1, fun i hi => ?_⟩
  obtain rfl : i = 0 := by simp at hi; exact hi
  refine ⟨enc x, hc x, fun j hj => ?_, rfl⟩
  simp [World.cell?, h]
/-- A store into a row of the call's own. -/
theorem own_setCell {w : World} {B : Nat} {e : TypeId} {c n g cap i : Nat} {xs : List Value} {u : Value} (h : w.ownsRow B e c (.slice (some ⟨g, 0, none⟩) n cap) n xs) (hi : i < n * c) :
    (w.setCell ⟨g, i, none⟩ u).ownsRow B e c (.slice (some ⟨g, 0, none⟩) n cap) n (xs.set i u) := by
  refine ⟨by rw [List.length_set]; exact h.1, ?_⟩
  rcases h.2 with ⟨hn, _⟩ | ⟨g', cap', cur, hv, hB, hg, hle, hmax, hsz, htake⟩
  · cases hn
  · simp at hv
    obtain ⟨rfl, rfl⟩ := hv
    refine .inr ⟨g, cap, cur.setIfInBounds i u, rfl, hB, heap_setCell_row hg i u, hle, hmax, by simpa using hsz, ?_⟩
    rw [← htake, Array.toList_setIfInBounds, List.take_set]
theorem own_cell {w : World} {B : Nat} {e : TypeId} {c n g cap i : Nat} {xs : List Value} (h : w.ownsRow B e c (.slice (some ⟨g, 0, none⟩) n cap) n xs) (hi : i < n * c) :
    w.cell? ⟨g, i, none⟩ = xs[i]? ∧ w.frozen? ⟨g, i, none⟩ = false := by
  rcases h.2 with ⟨hn, _⟩ | ⟨g', cap', cur, hv, hB, hg, hle, hmax, hsz, htake⟩
  · cases hn
  · simp at hv
    obtain ⟨rfl, rfl⟩ := hv
    refine ⟨?_, by simp [World.frozen?, hg]⟩
    rw [← htake, List.getElem?_take, if_pos hi]
    simp [World.cell?, hg]
theorem own_block {w w' : World} {B : Nat} {e : TypeId} {c n g cap : Nat} {xs : List Value} (h : w.ownsRow B e c (.slice (some ⟨g, 0, none⟩) n cap) n xs) (hb : w'.heap[g]? = w.heap[g]?) :
    w'.ownsRow B e c (.slice (some ⟨g, 0, none⟩) n cap) n xs := by
  refine ⟨h.1, ?_⟩
  rcases h.2 with ⟨hn, _⟩ | ⟨g', cap', cur, hv, hB, hg, rest⟩
  · cases hn
  · simp at hv
    obtain ⟨rfl, rfl⟩ := hv
    exact .inr ⟨g, cap, cur, rfl, hB, hb.trans hg, rest⟩
theorem own_lt {w : World} {B : Nat} {e : TypeId} {c n g cap : Nat} {xs : List Value} (h : w.ownsRow B e c (.slice (some ⟨g, 0, none⟩) n cap) n xs) : B ≤ g ∧ g < w.heap.size := h.lt g rfl
theorem own_form {w : World} {B : Nat} {e : TypeId} {c n : Nat} {v : Value} {xs : List Value} (h : w.ownsRow B e c v n xs) (hn : 0 < n) : ∃ g cap, v = .slice (some ⟨g, 0, none⟩) n cap ∧ n ≤ cap ∧ cap ≤ maxLen := by
  rcases h.2 with ⟨_, h0⟩ | ⟨g, cap, cur, hv, hB, hg, hle, hmax, _⟩
  · omega
  · exact ⟨g, cap, hv, hle, hmax⟩
theorem ints_set (k : IntKind) : ∀ (l : List Int) (i : Nat) (x : Int), (l.flatMap (intC k)).set i (.int k x) = (l.set i x).flatMap (intC k)
  | [], _, _ => rfl
  | y :: l, 0, x => rfl
  | y :: l, i + 1, x => by
    show (intC k y ++ l.flatMap (intC k)).set (i + 1) _ = intC k y ++ (l.set i x).flatMap (intC k)
    rw [← ints_set k l i x]
    rfl
theorem ints_at (k : IntKind) (l : List Int) (i : Nat) (h : i < l.length) : (l.flatMap (intC k))[i]? = some (.int k (l[i]?.getD 0)) := by
  have := flatMap_at (enc := intC k) (c := 1) (intC_len k) l i 0 (by omega)
  simp only [Nat.mul_one, Nat.add_zero] at this
  rw [this, List.getElem?_eq_getElem h]
  rfl
end Go.Proofs.Ythegopajkljlmaa
