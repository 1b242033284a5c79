/- Slices that are kept: appended to, read. -/
import Derived.Test.YthegopajkljlmaaSep
set_option linter.unusedVariables false
namespace Go.Proofs.Ythegopajkljlmaa
open Go.RowKit
/-- A slice of the call's own that may be appended to. -/
def ownP {α : Type} (e : TypeId) (c : Nat) (enc : α → List Value) (v : Value) (l : List α) : HP := fun h =>
  (v = .slice none 0 0 ∧ l = []) ∨ ∃ g cap cur, v = .slice (some ⟨g, 0, none⟩) l.length cap ∧ h g = some (.cells cur e (0, 0)) ∧ l.length ≤ cap ∧ cap ≤ maxLen ∧ cur.size = cap * c ∧ cur.toList.take (l.length * c) = l.flatMap enc
theorem St.at {w0 w : World} {L : List HP} (h : St w0 w L) (n : Nat) {X : HP} (hn : L[n]? = some X) : ∃ F : Nat → Bool, X (part (above w0 w) F) := by
  obtain ⟨own, ho⟩ := h.sep
  exact ⟨_, ho n X hn⟩
theorem St.owns {α : Type} {e : TypeId} {c : Nat} {enc : α → List Value} (hc : ∀ x, (enc x).length = c) {v : Value} {l : List α} {w0 w : World} {L : List HP} (h : St w0 w L) (n : Nat) (hn : L[n]? = some (ownP e c enc v l)) :
    w.ownsRow w0.heap.size e c v l.length (l.flatMap enc) := by
  obtain ⟨F, hF⟩ := h.at n hn
  refine ⟨flatMap_len hc l, ?_⟩
  rcases hF with ⟨rfl, rfl⟩ | ⟨g, cap, cur, rfl, hg, h1, h2, h3, h4⟩
  · exact .inl ⟨rfl, rfl⟩
  · have := above_some (part_some hg).2
    exact .inr ⟨g, cap, cur, rfl, this.1, this.2, h1, h2, h3, h4⟩
theorem ownP_of {α : Type} {e : TypeId} {c B : Nat} {enc : α → List Value} {v : Value} {l : List α} {w : World} (h : w.ownsRow B e c v l.length (l.flatMap enc)) {f : Nat → Option Obj} (hf : ∀ g, v.ownBlock = some g → f g = w.heap[g]?) : ownP e c enc v l f := by
  rcases h.2 with ⟨rfl, h1⟩ | ⟨g, cap, cur, rfl, hB, hg, h1, h2, h3, h4⟩
  · exact .inl ⟨rfl, List.eq_nil_of_length_eq_zero h1⟩
  · exact .inr ⟨g, cap, cur, rfl, (hf g rfl).trans hg, h1, h2, h3, h4⟩
/-- A row of a call's own, kept from now on. -/
theorem St.gainOwn {α : Type} {e : TypeId} {c : Nat} {enc : α → List Value} {v : Value} {l : List α} {w0 w w' : World} {L : List HP} (h : St w0 w L) (hb : Below w.heap.size w w') (ho : w'.ownsRow w.heap.size e c v l.length (l.flatMap enc)) :
    St w0 w' (L ++ [ownP e c enc v l]) := by
  refine h.gain hb _ (fun b => decide (v.ownBlock = some b)) (fun b hbt => (ho.lt b (by simpa using hbt)).1) (ownP_of ho fun g hg => ?_)
  unfold part
  rw [if_pos (by simp [hg])]
/-- Nothing yet: a nil slice. -/
theorem St.nil {α : Type} (e : TypeId) (c : Nat) (enc : α → List Value) {w0 w : World} {L : List HP} (h : St w0 w L) : St w0 w (L ++ [ownP e c enc (.slice none 0 0) ([] : List α)]) :=
  h.gain (Below.refl _ _) _ (fun _ => false) (fun _ h => by cases h) (.inl ⟨rfl, rfl⟩)
theorem St.emp {w0 w : World} {L : List HP} (h : St w0 w L) (X : HP) (hX : ∀ h, X h) : St w0 w (L ++ [X]) :=
  h.gain (Below.refl _ _) _ (fun _ => false) (fun _ h => by cases h) (hX _)
/-- A literal's block, kept as a slice that may be appended to. -/
theorem ownP_lit {α : Type} {e : TypeId} {c : Nat} {enc : α → List Value} (hc : ∀ x, (enc x).length = c) {g : Nat} {l : List α} (hm : l.length ≤ maxLen) {h : Nat → Option Obj} (hp : pt g (.cells (l.flatMap enc).toArray e (0, 0)) h) : ownP e c enc (.slice (some ⟨g, 0, none⟩) l.length l.length) l h := by
  refine .inr ⟨g, l.length, _, rfl, hp, Nat.le_refl _, hm, by simp [-List.length_flatMap, flatMap_len hc], ?_⟩
  rw [← flatMap_len hc]
  simp [-List.length_flatMap]
theorem St.sl {α : Type} {e : TypeId} {c : Nat} {enc : α → List Value} (hc : ∀ x, (enc x).length = c) {v : Value} {l : List α} {w0 w : World} {L : List HP} (h : St w0 w L) (n : Nat) (hn : L[n]? = some (ownP e c enc v l)) :
    ∃ a cap, v = .slice a l.length cap ∧ l.length ≤ cap ∧ cap ≤ maxLen ∧ (a = none → cap = 0) ∧ SlAt c (flat enc) w a l := by
  obtain ⟨a, cap, h1, h2, h3, h4, _, h5⟩ := slAt_of_own hc (h.owns hc n hn)
  exact ⟨a, cap, h1, h2, h3, h4, h5⟩
theorem St.slOf {α : Type} {e : TypeId} {c : Nat} {enc : α → List Value} (hc : ∀ x, (enc x).length = c) {a : Option Addr} {k cap : Nat} {l : List α} {w0 w : World} {L : List HP} (h : St w0 w L) (n : Nat) (hn : L[n]? = some (ownP e c enc (.slice a k cap) l)) : SlAt c (flat enc) w a l := by
  obtain ⟨a', cap', hv, _, _, _, h5⟩ := h.sl hc n hn
  cases hv
  exact h5
/-- Behind an append to a slice that is kept. -/
theorem St.appended {α : Type} {e : TypeId} {c : Nat} {enc : α → List Value} {v v' : Value} {l l' : List α} {w0 w w' : World} {L : List HP} (h : St w0 w L) (n : Nat) (hn : L[n]? = some (ownP e c enc v l)) {B : Nat}
    (h1 : w'.ownsRow B e c v' l'.length (l'.flatMap enc)) (h2 : w.grownBy w' v.ownBlock) (h3 : ∀ k, v'.ownBlock = some k → v.ownBlock = some k ∨ w.heap.size ≤ k) : St w0 w' (L.set n (ownP e c enc v' l')) := by
  obtain ⟨F, hF, hX, hcl⟩ := h.opened n hn
  have hvF : ∀ k, v.ownBlock = some k → F k = true := by
    intro k hk
    rcases hX with ⟨rfl, _⟩ | ⟨g, cap, cur, rfl, hg, _⟩
    · cases hk
    · cases hk
      exact (part_some hg).1
  refine hcl w' _ (fun b => decide (v'.ownBlock = some b)) (fun b hb => ?_) (ownP_of h1 fun g hg => ?_) h2.os h2.tape h2.output h2.size fun b hb hFb => h2.block b hb fun e => ?_
  · rcases h3 b (by simpa using hb) with h | h
    · exact .inl (hvF b h)
    · exact .inr h
  · unfold part
    rw [if_pos (by simp [hg])]
  · have := hvF b e.symm
    rw [hFb] at this
    cases this
theorem run_append_where {P : Program} (w : World) (base : Nat) (t ty e : TypeId) (i : TypeInfo) (z : Value) (size bytes : Nat) (ht : P.underlying t = some (.slice e)) (hi : P.info? e = some i) (hz : i.zero = some z)
    (hsize : i.size = size) (hby : i.bytes = bytes) (hzs : z.cells.size = size) (hsz : 0 < size)
    (v : Value) (n : Nat) (xs : List Value) (hown : w.ownsRow base e size v n xs)
    (a : Addr) (m c : Nat) (news : List Value) (hl : news.length = m * size) (hnews : ∀ j u, news[j]? = some u → w.cell? (a.add j) = some u) (h1 : ∀ u ∈ news, u.oneCell' = true)
    (h63 : n + m ≤ maxLen) (hbytes : (n + m) * bytes ≤ 140737488355328) (hbase : base ≤ w.heap.size) :
    ∃ v' w', (Builtin.append_ #[t, t] ty #[v, .slice (some a) m c]).run P w = .ok v' w' ∧ w'.ownsRow base e size v' (n + m) (xs ++ news) ∧ w.grownBy w' v.ownBlock ∧
      (v' = .slice none 0 0 ↔ v = .slice none 0 0 ∧ m = 0) ∧ ∀ k, v'.ownBlock = some k → v.ownBlock = some k ∨ w.heap.size ≤ k := by
  obtain ⟨v', w', hr, h2, h3, h4⟩ := run_append_own (P := P) w base t ty e i z size bytes ht hi hz hsize hby hzs hsz v n xs hown a m c news hl hnews h1 h63 hbytes hbase
  refine ⟨v', w', hr, h2, h3, h4, ?_⟩
  subst hsize
  have hsmall : n + m ≤ 9223372036854775807 := by simp only [maxLen] at h63; omega
  rcases hown.2 with ⟨rfl, rfl⟩ | ⟨g, cap, cur, rfl, hbg, hg, hnc, hcm, hcs, htake⟩
  · have hx : xs = [] := List.eq_nil_of_length_eq_zero (by simpa using hown.1)
    subst hx
    obtain ⟨v2, w2, hr2, g2, _, _⟩ := run_append_own (P := P) w w.heap.size t ty e i z i.size bytes ht hi hz rfl hby hzs hsz (.slice none 0 0) 0 [] (World.ownsRow_nil _ _ _ _) a m c news hl hnews h1 h63 hbytes (Nat.le_refl _)
    rw [hr] at hr2
    cases hr2
    exact fun k hk => .inr (g2.lt k hk).1
  · by_cases hroom : n + m ≤ cap
    · have hfit : n * i.size + news.length ≤ cur.size := by rw [hl, hcs, ← Nat.add_mul]; exact Nat.mul_le_mul_right _ hroom
      have hr2 := run_append_room (P := P) w t ty e i ht hi g n cap cur hg a m c news hl hnews h1 hroom hfit
      rw [hr] at hr2
      cases hr2
      exact fun k hk => .inl hk
    · have holds : ∀ j u, xs[j]? = some u → w.cell? ((⟨g, 0, none⟩ : Addr).add j) = some u := hown.cells (g := g) rfl
      have hr2 := run_append_grow (P := P) w t ty e i z ht hi hz ⟨g, 0, none⟩ n cap xs hown.1 holds a m c news hl hnews (by omega) (by omega) (growslice_fits (by omega) (by subst hby; exact hbytes))
      rw [hr] at hr2
      cases hr2
      exact fun k hk => .inr (by cases hk; exact Nat.le_refl _)
theorem ownP_empty {α : Type} {e : TypeId} {c : Nat} {enc : α → List Value} {g : Nat} {h : Nat → Option Obj} (hp : pt g (.cells #[] e (0, 0)) h) : ownP e c enc (.slice (some ⟨g, 0, none⟩) 0 0) ([] : List α) h :=
  .inr ⟨g, 0, #[], rfl, hp, Nat.le_refl _, Nat.zero_le _, by simp, by simp⟩
/-- What an append must know of a type of elements. -/
structure Elem (P : Program) (t e : TypeId) {α : Type} (c : Nat) (enc : α → List Value) : Prop where
  len : ∀ x, (enc x).length = c
  pos : 0 < c
  one : ∀ x, ∀ u ∈ enc x, u.oneCell' = true
  under : P.underlying t = some (.slice e)
  info : ∃ i z, P.info? e = some i ∧ i.zero = some z ∧ i.size = c ∧ i.bytes ≤ 128 ∧ z.cells.size = c
section
variable {P : Program} {α : Type} {enc : α → List Value} {c : Nat} {w0 w : World} {L : List HP}
theorem wp_append_st {t e : TypeId} (E : Elem P t e c enc) {o : Oper} {a : Act} {K : Act → World → Prop} {Q : Exit → Act → World → Prop} (hst : St w0 w L) (n : Nat) {v : Value} {l0 : List α} (hn : L[n]? = some (ownP e c enc v l0))
    (s x : Operand) (ho : o.op = .call { callee := .builtin .append, args := #[s, x], argTypes := #[t, t] }) (hs : a.eval s = v)
    (ad : Option Addr) (cap : Nat) (l : List α) (hx : a.eval x = .slice ad l.length cap) (hnil : ad = none → cap = 0) (hsl : SlAt c (flat enc) w ad l) (hlen : l0.length + l.length ≤ 1099511627776)
    (h : ∀ v' w', St w0 w' (L.set n (ownP e c enc v' (l0 ++ l))) → (v ≠ .slice none 0 0 → v' ≠ .slice none 0 0) → K (a.put o.dst v') w') : o.wp P a w K Q := by
  obtain ⟨i, z, hi, hz, hsize, hby, hzs⟩ := E.info
  have hown := hst.owns E.len n hn
  match ad, hnil, hsl, hx with
  | none, hnil, hsl, hx =>
    have hl : l = [] := by rcases hsl with h | ⟨b, o, he, _⟩; exact h; cases he
    subst hl
    rw [hnil rfl] at hx
    have hrun := run_append_owned_none (P := P) (w := w) w0.heap.size t o.type e i c E.under hi v _ _ hown
    unfold Oper.wp
    simp [execOp, ho, resolve, invoke, builtin, hs, hx, hrun, Result.andThen]
    refine h v w ?_ id
    rw [List.append_nil]
    exact hst.imp n hn fun _ h => h
  | some ad, hnil, hsl, hx =>
    obtain ⟨v', w', hr, h2, h3, h4, h5⟩ := run_append_where (P := P) w w0.heap.size t o.type e i z c i.bytes E.under hi hz hsize rfl hzs E.pos v _ _ hown ad l.length cap (l.flatMap enc) (flatMap_len E.len l)
      (by
        intro j u hu
        rcases hsl with rfl | ⟨b, o, he, hlt, hh⟩
        · simp at hu
        · simp at he
          subst he
          have := SlAt.cells E.len E.pos (b := b) (o := o) (.inr ⟨b, o, rfl, hlt, hh⟩) j u hu
          rw [← this]
          congr 1
          simp [Addr.add])
      (by
        intro u hu
        simp at hu
        obtain ⟨x, _, hx⟩ := hu
        exact E.one x u hx)
      (by unfold maxLen; omega) (Nat.le_trans (Nat.mul_le_mul hlen hby) (by decide)) hst.size
    unfold Oper.wp execOp
    simp only [ho, resolve, invoke, builtin, Sem.run_bind, Sem.run_pure, Result.andThen_ok, List.map_toArray, List.map_cons, List.map_nil, hs, hx, hr]
    refine h v' w' (hst.appended n hn (by rw [List.flatMap_append, List.length_append]; exact h2) h3 h5) fun hv hv' => hv (h4.1 hv').1
theorem wpList_append_st {t e : TypeId} (E : Elem P t e c enc) {ops : Array Oper} {rest : List Oper} {o : Oper} {a : Act} {Q : Exit → Act → World → Prop} (hgd : o.guard = none) (hst : St w0 w L) (n : Nat) {v : Value} {l0 : List α} (hn : L[n]? = some (ownP e c enc v l0))
    (s x : Operand) (ho : o.op = .call { callee := .builtin .append, args := #[s, x], argTypes := #[t, t] }) (hs : a.eval s = v)
    (ad : Option Addr) (cap : Nat) (l : List α) (hx : a.eval x = .slice ad l.length cap) (hnil : ad = none → cap = 0) (hsl : SlAt c (flat enc) w ad l) (hlen : l0.length + l.length ≤ 1099511627776)
    (h : ∀ v' w', St w0 w' (L.set n (ownP e c enc v' (l0 ++ l))) → (v ≠ .slice none 0 0 → v' ≠ .slice none 0 0) → wpList P ops Q rest (a.put o.dst v') w') : wpList P ops Q (o :: rest) a w :=
  wpList_plain hgd fun K hK => wp_append_st E hst n hn s x ho hs ad cap l hx hnil hsl hlen fun v' w' h1 h2 => hK _ _ (h v' w' h1 h2)
/-- The same at a step of a region that draws its order. -/
theorem step_append_st {t e : TypeId} (E : Elem P t e c enc) {ops : Array Oper} {o : Oper} {a : Act} {K : Act → World → Prop} {Q : Exit → Act → World → Prop} {F : Prop} (hgd : o.guard = none) (hst : St w0 w L) (n : Nat) {v : Value} {l0 : List α} (hn : L[n]? = some (ownP e c enc v l0))
    (s x : Operand) (ho : o.op = .call { callee := .builtin .append, args := #[s, x], argTypes := #[t, t] }) (hs : a.eval s = v)
    (ad : Option Addr) (cap : Nat) (l : List α) (hx : a.eval x = .slice ad l.length cap) (hnil : ad = none → cap = 0) (hsl : SlAt c (flat enc) w ad l) (hlen : l0.length + l.length ≤ 1099511627776)
    (h : ∀ v' w', St w0 w' (L.set n (ownP e c enc v' (l0 ++ l))) → (v ≠ .slice none 0 0 → v' ≠ .slice none 0 0) → K (a.put o.dst v') w') : if Region.wanted o (yielded ops a.tmps) = true then Oper.wp P o a w K Q else F := by
  have hw : Region.wanted o (yielded ops a.tmps) = true := by simp [Region.wanted, hgd]
  rw [if_pos hw]
  exact wp_append_st E hst n hn s x ho hs ad cap l hx hnil hsl hlen h
/-- 'append([]T{}, x...)': a copy of its own. -/
theorem wpList_copy_st {t e : TypeId} (E : Elem P t e c enc) {ops : Array Oper} {rest : List Oper} {o : Oper} {a : Act} {Q : Exit → Act → World → Prop} (hgd : o.guard = none) (hst : St w0 w L) (n : Nat) {g : Nat} (hn : L[n]? = some (pt g (.cells #[] e (0, 0))))
    (s x : Operand) (ho : o.op = .call { callee := .builtin .append, args := #[s, x], argTypes := #[t, t] }) (hs : a.eval s = .slice (some ⟨g, 0, none⟩) 0 0)
    (ad : Option Addr) (cap : Nat) (l : List α) (hx : a.eval x = .slice ad l.length cap) (hnil : ad = none → cap = 0) (hsl : SlAt c (flat enc) w ad l) (hlen : l.length ≤ 1099511627776)
    (h : ∀ b cap' w', St w0 w' (L.set n (ownP e c enc (.slice (some ⟨b, 0, none⟩) l.length cap') l)) → wpList P ops Q rest (a.put o.dst (.slice (some ⟨b, 0, none⟩) l.length cap')) w') : wpList P ops Q (o :: rest) a w := by
  have hnl := (List.getElem?_eq_some_iff.1 hn).1
  have hn1 : (L.set n (ownP e c enc (.slice (some ⟨g, 0, none⟩) 0 0) ([] : List α)))[n]? = some (ownP e c enc (.slice (some ⟨g, 0, none⟩) 0 0) ([] : List α)) := by simp [hnl]
  have hst1 : St w0 w (L.set n (ownP e c enc (.slice (some ⟨g, 0, none⟩) 0 0) ([] : List α))) := hst.imp n hn fun h hp => ownP_empty hp
  refine wpList_append_st E hgd hst1 n hn1 s x ho hs ad cap l hx hnil hsl (by simpa using hlen) fun v' w' h1 h2 => ?_
  rw [List.nil_append, List.set_set] at h1
  have hn2 : (L.set n (ownP e c enc v' l))[n]? = some (ownP e c enc v' l) := by simp [hnl]
  obtain ⟨F, hF⟩ := h1.at n hn2
  rcases hF with ⟨hv, _⟩ | ⟨b, cap2, cur, rfl, _⟩
  · exact absurd hv (h2 (by simp))
  · exact h b cap2 w' h1
/-- One element more: it lies in a block of its own. -/
theorem wpList_push_st {t e : TypeId} (E : Elem P t e c enc) {ops : Array Oper} {rest : List Oper} {o : Oper} {a : Act} {Q : Exit → Act → World → Prop} (hgd : o.guard = none) (hst : St w0 w L) (n : Nat) {v : Value} {l0 : List α} (hn : L[n]? = some (ownP e c enc v l0))
    (s x : Operand) (ho : o.op = .call { callee := .builtin .append, args := #[s, x], argTypes := #[t, t] }) (hs : a.eval s = v)
    (g : Nat) (y : α) (hx : a.eval x = .slice (some ⟨g, 0, none⟩) 1 1) (hg : w.heap[g]? = some (.cells (enc y).toArray e (0, 0))) (hlen : l0.length < 1099511627776)
    (h : ∀ v' w', St w0 w' (L.set n (ownP e c enc v' (l0 ++ [y]))) → (v ≠ .slice none 0 0 → v' ≠ .slice none 0 0) → wpList P ops Q rest (a.put o.dst v') w') : wpList P ops Q (o :: rest) a w :=
  wpList_append_st E hgd hst n hn s x ho hs (some ⟨g, 0, none⟩) 1 [y] hx (by simp) (SlAt.one E.len hg) (by show l0.length + 1 ≤ _; omega) h
end
/-- A slice that lies in what is not turned. -/
def Seen {α : Type} (w0 : World) (R : HP) (c : Nat) (enc : α → List Value) (a : Option Addr) (l : List α) : Prop := ∀ (w' : World) (L' : List HP) (m : Nat), St w0 w' L' → L'[m]? = some R → SlAt c (flat enc) w' a l
theorem Seen.old {α : Type} {w0 : World} {R : HP} {c : Nat} {enc : α → List Value} {a : Option Addr} {l : List α} (h : SlAt c (flat enc) w0 a l) : Seen w0 R c enc a l := fun w' L' m hs hm => h.below hs.below (fun _ _ h => h)
theorem Seen.own {α : Type} {w0 : World} {K : List HP} {c : Nat} {enc : α → List Value} (hc : ∀ x, (enc x).length = c) {e : TypeId} {a : Option Addr} {k cap : Nat} {l : List α} (n : Nat) (h : K[n]? = some (ownP e c enc (.slice a k cap) l)) : Seen w0 (sepL K) c enc a l := by
  intro w' L' m hs hm
  have h1 := hs.split m hm
  refine h1.slOf hc (L'.length + n) (e := e) (k := k) (cap := cap) ?_
  rw [List.getElem?_append_right (by simp)]
  simpa using h
theorem Seen.take {α : Type} {w0 : World} {R : HP} {c : Nat} {enc : α → List Value} {a : Option Addr} {l : List α} (h : Seen w0 R c enc a l) (n : Nat) : Seen w0 R c enc a (l.take n) := fun w' L' m hs hm => (h w' L' m hs hm).take n
theorem Seen.drop {α : Type} {w0 : World} {R : HP} {c : Nat} {enc : α → List Value} {b o : Nat} {l : List α} (h : Seen w0 R c enc (some ⟨b, o, none⟩) l) (n : Nat) : Seen w0 R c enc (some ⟨b, o + n * c, none⟩) (l.drop n) := fun w' L' m hs hm => (h w' L' m hs hm).drop n
end Go.Proofs.Ythegopajkljlmaa
