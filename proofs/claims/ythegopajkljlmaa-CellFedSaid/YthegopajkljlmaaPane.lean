/- The windows that are open: a sorted list beside the map. -/
import Derived.Test.YthegopajkljlmaaCollect
import Derived.Test.YthegopajkljlmaaAgg
import Derived.Test.YthegopajkljlmaaWindow
import Derived.Test.YthegopajkljlmaaEv
set_option linter.unusedVariables false
namespace Go.Proofs.Ythegopajkljlmaa
open Go.RowKit Go.Maps
/-- A window's count, kind, value, label. -/
structure Pn where
  c : Int
  k : Int
  v : Int
  l : Int
deriving DecidableEq
def Pn.zero : Pn := ⟨0, 0, 0, 0⟩
def Pn.wf (x : Pn) : Prop := (Lit.int .i64 x.c).wf = true ∧ (Lit.int .i64 x.k).wf = true ∧ (Lit.int .i64 x.v).wf = true ∧ (Lit.int .u64 x.l).wf = true
def encPn (x : Pn) : Value := .agg #[.int .i64 x.c, .int .i64 x.k, .int .i64 x.v, .int .u64 x.l]
def dPn (x : Pn) : DataW Unit := .agg [.lit (.int .i64 x.c), .lit (.int .i64 x.k), .lit (.int .i64 x.v), .lit (.int .u64 x.l)]
instance (x : Pn) : Decidable x.wf := by unfold Pn.wf; infer_instance
def elemPn : Value → Option (DataW Unit × List MemPlace)
  | .agg cs => match cs.toList with
    | [.int .i64 c, .int .i64 k, .int .i64 v, .int .u64 l] => if Pn.wf ⟨c, k, v, l⟩ then some (dPn ⟨c, k, v, l⟩, []) else none
    | _ => none
  | _ => none
theorem elemPn_mk (x : Pn) (h : x.wf) : elemPn (encPn x) = some (dPn x, []) := by
  obtain ⟨c, k, v, l⟩ := x
  simp [elemPn, encPn, h]
theorem elemPn_zero : elemPn (.agg #[.int .i64 0, .int .i64 0, .int .i64 0, .int .u64 0]) = some (dPn Pn.zero, []) := elemPn_mk Pn.zero (by decide)
theorem dPn_inj {x y : Pn} (h : dPn x = dPn y) : x = y := by
  obtain ⟨c, k, v, l⟩ := x
  obtain ⟨c', k', v', l'⟩ := y
  simpa [dPn] using h
theorem elemPn_inv {v : Value} {z : DataW Unit × List MemPlace} (h : elemPn v = some z) : ∃ x : Pn, v = encPn x ∧ x.wf ∧ z = (dPn x, []) := by
  unfold elemPn at h
  split at h
  · rename_i cs
    split at h
    · rename_i c k v l he
      split at h
      · rename_i hw
        cases h
        obtain ⟨cl⟩ := cs
        simp at he
        subst he
        exact ⟨⟨c, k, v, l⟩, rfl, hw, rfl⟩
      · cases h
    · cases h
  · cases h
abbrev PL := List (Pl × Pn)
instance (x y : Pl) : Decidable (ltP x y) := by unfold ltP; infer_instance
theorem ltP_irrefl (x : Pl) : ¬ ltP x x := by unfold ltP; omega
theorem ltP_trans {x y z : Pl} (h : ltP x y) (h' : ltP y z) : ltP x z := by unfold ltP at *; omega
theorem ltP_total {x y : Pl} (h : x ≠ y) (h' : ¬ ltP x y) : ltP y x := by
  obtain ⟨⟨a, b⟩, hx⟩ := x
  obtain ⟨⟨c, d⟩, hy⟩ := y
  unfold ltP at *
  simp at *
  by_cases e : a = c
  · subst e; simp at h; omega
  · omega
def SortedL (L : PL) : Prop := L.Pairwise fun a b => ltP a.1 b.1
def lookL (L : PL) (p : Pl) : Option Pn := (L.find? fun q => q.1 = p).map (·.2)
def insL : PL → Pl → Pn → PL
  | [], p, x => [(p, x)]
  | q :: L, p, x => if q.1 = p then (p, x) :: L else if ltP q.1 p then q :: insL L p x else (p, x) :: q :: L
theorem mem_insL {L : PL} (hs : SortedL L) {p : Pl} {x : Pn} (q : Pl) (y : Pn) : (q, y) ∈ insL L p x ↔ (q = p ∧ y = x) ∨ (q ≠ p ∧ (q, y) ∈ L) := by
  induction L with
  | nil => simp [insL]
  | cons r L ih =>
    obtain ⟨r1, r2⟩ := r
    have hs' := List.pairwise_cons.1 hs
    have hr := hs'.1
    have ih := ih hs'.2
    unfold insL
    split
    · rename_i he
      dsimp only at he
      subst he
      have hne : ∀ z, (r1, z) ∉ L := fun z hz => ltP_irrefl r1 (hr (r1, z) hz)
      constructor
      · intro h
        simp at h
        rcases h with h | h
        · exact .inl h
        · exact .inr ⟨fun e => hne y (e ▸ h), by simp [h]⟩
      · rintro (⟨rfl, rfl⟩ | ⟨h1, h2⟩)
        · simp
        · simp [h1] at h2; simp [h2]
    · rename_i he
      split
      · rename_i hlt
        rw [List.mem_cons, ih]
        constructor
        · rintro (h | h | h)
          · cases h; exact .inr ⟨he, by simp⟩
          · exact .inl h
          · exact .inr ⟨h.1, by simp [h.2]⟩
        · rintro (h | ⟨h1, h2⟩)
          · exact .inr (.inl h)
          · rcases List.mem_cons.1 h2 with h2 | h2
            · exact .inl h2
            · exact .inr (.inr ⟨h1, h2⟩)
      · rename_i hlt
        have hpr : ltP p r1 := ltP_total he hlt
        have hne : ∀ z, (p, z) ∉ (r1, r2) :: L := fun z hz => by
          rcases List.mem_cons.1 hz with h | h
          · cases h; exact he rfl
          · exact ltP_irrefl _ (ltP_trans hpr (hr _ h))
        constructor
        · intro h
          rcases List.mem_cons.1 h with h | h
          · cases h; exact .inl ⟨rfl, rfl⟩
          · exact .inr ⟨fun e => hne y (e ▸ h), h⟩
        · rintro (⟨rfl, rfl⟩ | ⟨h1, h2⟩)
          · simp
          · exact List.mem_cons.2 (.inr h2)
theorem insL_sorted {L : PL} (hs : SortedL L) (p : Pl) (x : Pn) : SortedL (insL L p x) := by
  induction L with
  | nil => simp [insL, SortedL]
  | cons r L ih =>
    obtain ⟨r1, r2⟩ := r
    have hs' := List.pairwise_cons.1 hs
    unfold insL
    split
    · rename_i he
      dsimp only at he
      subst he
      exact List.pairwise_cons.2 ⟨hs'.1, hs'.2⟩
    · rename_i he
      split
      · rename_i hlt
        refine List.pairwise_cons.2 ⟨fun q hq => ?_, ih hs'.2⟩
        obtain ⟨q1, q2⟩ := q
        rcases (mem_insL hs'.2 q1 q2).1 hq with ⟨rfl, rfl⟩ | ⟨_, h⟩
        · exact hlt
        · exact hs'.1 _ h
      · rename_i hlt
        have hpr : ltP p r1 := ltP_total he hlt
        refine List.pairwise_cons.2 ⟨fun q hq => ?_, hs⟩
        rcases List.mem_cons.1 hq with h | h
        · subst h; exact hpr
        · exact ltP_trans hpr (hs'.1 _ h)
theorem lookL_some {L : PL} (hs : SortedL L) {p : Pl} {x : Pn} : lookL L p = some x ↔ (p, x) ∈ L := by
  induction L with
  | nil => simp [lookL]
  | cons r L ih =>
    obtain ⟨r1, r2⟩ := r
    have hs' := List.pairwise_cons.1 hs
    have ih := ih hs'.2
    unfold lookL at *
    rw [List.find?_cons]
    by_cases he : r1 = p
    · subst he
      have hne : (r1, x) ∉ L := fun hz => ltP_irrefl r1 (hs'.1 (r1, x) hz)
      simp [hne, eq_comm]
    · simp only [he, decide_false]
      rw [ih]
      simp [Ne.symm he]
theorem lookL_none {L : PL} (hs : SortedL L) {p : Pl} : lookL L p = none ↔ ∀ x, (p, x) ∉ L := by
  constructor
  · intro h x hx
    rw [(lookL_some hs).2 hx] at h
    cases h
  · intro h
    cases hl : lookL L p with
    | none => rfl
    | some x => exact absurd ((lookL_some hs).1 hl) (h x)
theorem insL_length {L : PL} (hs : SortedL L) (p : Pl) (x : Pn) : (insL L p x).length = if (lookL L p).isSome then L.length else L.length + 1 := by
  induction L with
  | nil => simp [insL, lookL]
  | cons r L ih =>
    obtain ⟨r1, r2⟩ := r
    have hs' := List.pairwise_cons.1 hs
    have ih := ih hs'.2
    unfold insL
    split
    · rename_i he
      dsimp only at he
      subst he
      rw [(lookL_some hs (p := r1) (x := r2)).2 (by simp)]
      simp
    · rename_i he
      split
      · have e : lookL ((r1, r2) :: L) p = lookL L p := by
          unfold lookL
          rw [List.find?_cons]
          simp [he]
        rw [e]
        simp only [List.length_cons, ih]
        split <;> rfl
      · rename_i hlt
        have hpr : ltP p r1 := ltP_total he hlt
        rw [(lookL_none hs (p := p)).2 (fun z hz => ?_)]
        · simp
        · rcases List.mem_cons.1 hz with h | h
          · cases h; exact he rfl
          · exact ltP_irrefl _ (ltP_trans hpr (hs'.1 _ h))
/-- The map holds just what the list holds. -/
def MapOf (D : DataW Unit) (L : PL) : Prop := SortedL L ∧ (∀ p, Maps.has D (litP p) = true ↔ ∃ x, (p, x) ∈ L) ∧ (∀ p x, (p, x) ∈ L → ∀ z, D.atKey (litP p) z = dPn x) ∧ Maps.size D = L.length
theorem litP_key (p : Pl) : WideAt.IsKeyLit (litP p) := trivial
theorem litP_ne {p q : Pl} (h : p ≠ q) : litP p ≠ litP q := fun e => h (litP_inj e)
theorem MapOf.empty : MapOf (.map []) [] := ⟨List.Pairwise.nil, fun p => by simp [Maps.has], fun p x h => by simp at h, rfl⟩
theorem MapOf.has_look {D : DataW Unit} {L : PL} (h : MapOf D L) (p : Pl) : Maps.has D (litP p) = (lookL L p).isSome := by
  cases hl : lookL L p with
  | none =>
    have := (lookL_none h.1).1 hl
    cases hh : Maps.has D (litP p) with
    | false => rfl
    | true => obtain ⟨x, hx⟩ := (h.2.1 p).1 hh; exact absurd hx (this x)
  | some x => rw [(h.2.1 p).2 ⟨x, (lookL_some h.1).1 hl⟩]; rfl
theorem MapOf.at_look {D : DataW Unit} {L : PL} (h : MapOf D L) (p : Pl) (z : Pn) : D.atKey (litP p) (dPn z) = dPn ((lookL L p).getD z) := by
  cases hl : lookL L p with
  | none =>
    have e := h.has_look p
    rw [hl] at e
    exact atKey_of_not_has e _
  | some x => exact h.2.2.1 p x ((lookL_some h.1).1 hl) _
theorem MapOf.put {D : DataW Unit} {L : PL} (h : MapOf D L) (hT : Tidy D) (p : Pl) (x : Pn) : MapOf (D.put (litP p) (dPn x)) (insL L p x) := by
  refine ⟨insL_sorted h.1 p x, fun q => ?_, fun q y hq z => ?_, ?_⟩
  · by_cases he : q = p
    · subst he
      rw [has_put_same hT.isMap (litP_key _)]
      simp [mem_insL h.1]
    · rw [has_put_other (litP_ne he), h.2.1 q]
      simp [mem_insL h.1, he]
  · rcases (mem_insL h.1 q y).1 hq with ⟨rfl, rfl⟩ | ⟨he, hm⟩
    · exact atKey_put_same hT.isMap (litP_key _) _ _
    · rw [atKey_put_other (litP_ne he)]
      exact h.2.2.1 q y hm z
  · rw [size_put hT, h.has_look p, insL_length h.1, h.2.2.2]
def delL (L : PL) (p : Pl) : PL := L.filter fun q => q.1 ≠ p
theorem delL_length {L : PL} (hs : SortedL L) (p : Pl) : (delL L p).length + (if (lookL L p).isSome then 1 else 0) = L.length := by
  induction L with
  | nil => simp [delL, lookL]
  | cons r L ih =>
    obtain ⟨r1, r2⟩ := r
    have hs' := List.pairwise_cons.1 hs
    have ih := ih hs'.2
    unfold delL at *
    rw [List.filter_cons]
    by_cases he : r1 = p
    · subst he
      rw [(lookL_some hs (p := r1) (x := r2)).2 (by simp)]
      have hn : lookL L r1 = none := (lookL_none hs'.2).2 fun z hz => ltP_irrefl r1 (hs'.1 (r1, z) hz)
      rw [hn] at ih
      rw [if_neg (by simp)]
      simp only [Option.isSome_none, Bool.false_eq_true, if_false, Nat.add_zero] at ih
      rw [ih]
      rfl
    · have e : lookL ((r1, r2) :: L) p = lookL L p := by
        unfold lookL
        rw [List.find?_cons]
        simp [he]
      rw [e]
      simp [he]
      simp at ih
      omega
theorem MapOf.del {D : DataW Unit} {L : PL} (h : MapOf D L) (hT : Tidy D) (p : Pl) : MapOf (D.del (litP p)) (delL L p) := by
  refine ⟨List.Pairwise.filter _ h.1, fun q => ?_, fun q y hq z => ?_, ?_⟩
  · by_cases he : q = p
    · subst he
      rw [has_del_same]
      simp [delL]
    · rw [has_del_other (litP_ne he), h.2.1 q]
      simp [delL, he]
  · simp [delL] at hq
    rw [atKey_del_other (litP_ne hq.2)]
    exact h.2.2.1 q y hq.1 z
  · have e1 := size_del hT (k := litP p)
    have e2 := delL_length h.1 p
    rw [h.has_look p, h.2.2.2] at e1
    omega
theorem sorted_ext : ∀ {l m : List Pl}, l.Pairwise ltP → m.Pairwise ltP → (∀ x, x ∈ l ↔ x ∈ m) → l = m
  | [], [], _, _, _ => rfl
  | [], y :: m, _, _, h => by simpa using (h y).2 (by simp)
  | x :: l, [], _, _, h => by simpa using (h x).1 (by simp)
  | x :: l, y :: m, hl, hm, h => by
    have hl' := List.pairwise_cons.1 hl
    have hm' := List.pairwise_cons.1 hm
    have e : x = y := by
      rcases List.mem_cons.1 ((h x).1 (by simp)) with e | hx
      · exact e
      · rcases List.mem_cons.1 ((h y).2 (by simp)) with e | hy
        · exact e.symm
        · exact absurd (ltP_trans (hl'.1 _ hy) (hm'.1 _ hx)) (ltP_irrefl _)
    subst e
    congr 1
    refine sorted_ext hl'.2 hm'.2 fun z => ?_
    constructor
    · intro hz
      rcases List.mem_cons.1 ((h z).1 (by simp [hz])) with e | hz'
      · subst e; exact absurd (hl'.1 _ hz) (ltP_irrefl _)
      · exact hz'
    · intro hz
      rcases List.mem_cons.1 ((h z).2 (by simp [hz])) with e | hz'
      · subst e; exact absurd (hm'.1 _ hz) (ltP_irrefl _)
      · exact hz'
theorem MapOf.places {D : DataW Unit} {L : PL} (h : MapOf D L) {ss : List Pl} (hp : PlacesOf D ss) (hs : ss.Pairwise ltP) : ss = L.map (·.1) := by
  refine sorted_ext hs ?_ fun x => ?_
  · exact List.pairwise_map.2 h.1
  · rw [hp.2 x, h.2.1 x]
    simp
theorem MapOf.places_len {D : DataW Unit} {L : PL} (h : MapOf D L) {ss : List Pl} (hp : PlacesOf D ss) : ss.length = L.length := by
  have hn : (L.map (·.1)).Nodup := by
    have : (L.map (·.1)).Pairwise ltP := List.pairwise_map.2 h.1
    refine List.Pairwise.imp (fun {a b} hab e => ?_) this
    subst e
    exact ltP_irrefl _ hab
  have : ss.Perm (L.map (·.1)) := (List.perm_ext_iff_of_nodup hp.1 hn).2 fun x => by rw [hp.2 x, h.2.1 x]; simp
  simpa using this.length_eq
end Go.Proofs.Ythegopajkljlmaa
