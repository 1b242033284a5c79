/- Pieces of memory, each by itself: a list of things that are kept in blocks of their own. -/
import Derived.Test.YthegopajkljlmaaOwn
set_option linter.unusedVariables false
namespace Go.Proofs.Ythegopajkljlmaa
open Go.RowKit
/-- What is kept in some blocks. -/
def HP : Type := (Nat → Option Obj) → Prop
def part (h : Nat → Option Obj) (f : Nat → Bool) : Nat → Option Obj := fun b => if f b then h b else none
def emp : HP := fun _ => True
def sepL (L : List HP) : HP := fun h => ∃ own : Nat → Nat, ∀ i (P : HP), L[i]? = some P → P (part h fun b => own b == i)
def above (w0 w : World) : Nat → Option Obj := part (fun b => w.heap[b]?) fun b => decide (w0.heap.size ≤ b)
/-- Below w0's blocks w is as w0; above them these things are kept, each in blocks of its own. -/
structure St (w0 w : World) (L : List HP) : Prop where
  below : Below w0.heap.size w0 w
  sep : sepL L (above w0 w)
theorem part_part (h : Nat → Option Obj) (f g : Nat → Bool) : part (part h f) g = part h fun b => f b && g b := by
  funext b
  unfold part
  cases hf : f b <;> cases hg : g b <;> simp [hf, hg]
theorem part_congr {h k : Nat → Option Obj} {f g : Nat → Bool} (H : ∀ b, (if f b then h b else none) = if g b then k b else none) : part h f = part k g := funext H
theorem getD_of {L : List HP} {i : Nat} {P : HP} (h : L[i]? = some P) : L.getD i emp = P := by simp [h]
theorem part_eq {h k : Nat → Option Obj} {f g : Nat → Bool} (H : ∀ b, f b = true → (g b = true ∧ h b = k b) ∨ (h b = none ∧ (g b = true → k b = none))) (H' : ∀ b, g b = true → f b = true ∨ k b = none) : part h f = part k g := by
  funext b
  unfold part
  cases hf : f b
  · cases hg : g b
    · rfl
    · rcases H' b hg with h1 | h1
      · rw [hf] at h1; cases h1
      · simp [h1]
  · rcases H b hf with ⟨h1, h2⟩ | ⟨h1, h2⟩
    · simp [h1, h2]
    · cases hg : g b
      · simp [h1]
      · simp [h1, h2 hg]
/-- The same blocks by two accounts of what they belong to. -/
theorem part_own {h : Nat → Option Obj} {f g : Nat → Bool} (H : ∀ b, f b = true ↔ g b = true) : part h f = part h g := part_eq (fun b hb => .inl ⟨(H b).1 hb, rfl⟩) fun b hb => .inl ((H b).2 hb)
theorem sepL_pick {L : List HP} {h : Nat → Option Obj} (s : sepL L h) (is : List Nat) (hd : is.Nodup) : sepL (is.map fun i => L.getD i emp) h := by
  obtain ⟨own, ho⟩ := s
  refine ⟨fun b => is.idxOf (own b), fun j P hj => ?_⟩
  rw [List.getElem?_map] at hj
  obtain ⟨i, hi, rfl⟩ := Option.map_eq_some_iff.1 hj
  obtain ⟨hjl, hi⟩ := List.getElem?_eq_some_iff.1 hi
  cases hL : L[i]? with
  | none => simp [hL]; trivial
  | some P =>
    rw [getD_of hL]
    refine cast (congrArg P (part_own fun b => ?_)) (ho i P hL)
    simp only [beq_iff_eq]
    constructor
    · intro he
      rw [he, ← hi]
      exact List.Nodup.idxOf_getElem hd j hjl
    · intro he
      have hm : own b ∈ is := List.idxOf_lt_length_iff.1 (by rw [he]; exact hjl)
      have := List.getElem_idxOf (List.idxOf_lt_length_iff.2 hm)
      simp only [he] at this
      exact this.symm.trans hi
theorem sepL_split {L K : List HP} {n : Nat} {h : Nat → Option Obj} (s : sepL L h) (hn : L[n]? = some (sepL K)) : sepL (L.set n emp ++ K) h := by
  obtain ⟨own, ho⟩ := s
  obtain ⟨own2, ho2⟩ := ho n _ hn
  have hnl := (List.getElem?_eq_some_iff.1 hn).1
  refine ⟨fun b => if own b = n then L.length + own2 b else if own b < L.length then own b else L.length + K.length, fun i P hi => ?_⟩
  by_cases hil : i < L.length
  · rw [List.getElem?_append_left (by simpa using hil), List.getElem?_set] at hi
    by_cases hin : n = i
    · rw [if_pos hin] at hi
      simp [hil, hin] at hi
      obtain ⟨_, rfl⟩ := hi
      trivial
    · rw [if_neg hin] at hi
      refine cast (congrArg P (part_own fun b => ?_)) (ho i P hi)
      simp only [beq_iff_eq]
      constructor
      · intro he
        rw [if_neg (by omega), if_pos (by omega), he]
      · intro he
        split at he
        · omega
        · split at he <;> omega
  · rw [List.getElem?_append_right (by simpa using hil)] at hi
    simp only [List.length_set] at hi
    have := ho2 _ P hi
    rw [part_part] at this
    have hk := (List.getElem?_eq_some_iff.1 hi).1
    refine cast (congrArg P (part_own fun b => ?_)) this
    simp only [beq_iff_eq, Bool.and_eq_true]
    constructor
    · rintro ⟨h1, h2⟩
      rw [if_pos h1]
      omega
    · intro he
      split at he
      · exact ⟨by assumption, by omega⟩
      · split at he <;> omega
theorem sepL_join {L : List HP} {h : Nat → Option Obj} (s : sepL L h) (is js : List Nat) (hd : (is ++ js).Nodup) : sepL (sepL (is.map fun i => L.getD i emp) :: js.map fun i => L.getD i emp) h := by
  obtain ⟨own, ho⟩ := sepL_pick s _ hd
  have h1 : ∀ (l : List Nat) j P, (l.map fun i => L.getD i emp)[j]? = some P → j < l.length := fun l j P hj => by simpa using (List.getElem?_eq_some_iff.1 hj).1
  refine ⟨fun b => if own b < is.length then 0 else own b - is.length + 1, fun i P hi => ?_⟩
  cases i with
  | zero =>
    simp at hi
    subst hi
    refine ⟨own, fun j P hj => ?_⟩
    have hj' := h1 _ _ _ hj
    have := ho j P (by rw [List.map_append, List.getElem?_append_left (by simpa using hj')]; exact hj)
    rw [part_part]
    refine cast (congrArg P (part_own fun b => ?_)) this
    simp only [beq_iff_eq, Bool.and_eq_true]
    constructor
    · intro he
      exact ⟨by rw [if_pos (by omega)], he⟩
    · exact fun he => he.2
  | succ i =>
    simp only [List.getElem?_cons_succ] at hi
    have hi' := h1 _ _ _ hi
    have := ho (is.length + i) P (by rw [List.map_append, List.getElem?_append_right (by simp)]; simpa using hi)
    refine cast (congrArg P (part_own fun b => ?_)) this
    simp only [beq_iff_eq]
    constructor
    · intro he
      rw [if_neg (by omega)]
      omega
    · intro he
      split at he <;> omega
theorem sepL_front {L : List HP} {X : HP} {n : Nat} {h : Nat → Option Obj} (s : sepL L h) (hn : L[n]? = some X) : sepL [X, sepL (L.set n emp)] h := by
  obtain ⟨own, ho⟩ := s
  refine ⟨fun b => if own b = n then 0 else 1, fun i P hi => ?_⟩
  match i, hi with
  | 0, hi =>
    simp at hi
    subst hi
    refine cast (congrArg X (part_own fun b => ?_)) (ho n X hn)
    simp only [beq_iff_eq]
    constructor
    · intro he; rw [if_pos he]
    · intro he; split at he <;> omega
  | 1, hi =>
    simp at hi
    subst hi
    refine ⟨own, fun j P hj => ?_⟩
    rw [List.getElem?_set] at hj
    split at hj
    · split at hj
      · cases hj; trivial
      · cases hj
    · rename_i hjn
      rw [part_part]
      refine cast (congrArg P (part_own fun b => ?_)) (ho j P hj)
      simp only [beq_iff_eq, Bool.and_eq_true]
      constructor
      · intro he; exact ⟨by rw [if_neg (by omega)], he⟩
      · exact fun he => he.2
  | i + 2, hi => simp at hi
theorem sepL_back {L K : List HP} {X : HP} {n : Nat} {h : Nat → Option Obj} (hn : n < L.length) (s : sepL (X :: sepL (L.set n emp) :: K) h) : sepL (L.set n X ++ K) h := by
  obtain ⟨own, ho⟩ := s
  obtain ⟨own2, ho2⟩ := ho 1 _ rfl
  refine ⟨fun b => if own b = 0 then n else if own b = 1 then (if own2 b < L.length ∧ own2 b ≠ n then own2 b else L.length + K.length) else own b - 2 + L.length, fun i P hi => ?_⟩
  by_cases hil : i < L.length
  · rw [List.getElem?_append_left (by simpa using hil), List.getElem?_set] at hi
    by_cases hin : n = i
    · rw [if_pos hin] at hi
      simp [hil, hin] at hi
      obtain ⟨_, rfl⟩ := hi
      refine cast (congrArg X (part_own fun b => ?_)) (ho 0 X rfl)
      simp only [beq_iff_eq]
      constructor
      · intro he; rw [if_pos he, hin]
      · intro he
        split at he
        · assumption
        · split at he
          · split at he <;> omega
          · omega
    · rw [if_neg hin] at hi
      have := ho2 i P (by rw [List.getElem?_set, if_neg hin]; exact hi)
      rw [part_part] at this
      refine cast (congrArg P (part_own fun b => ?_)) this
      simp only [beq_iff_eq, Bool.and_eq_true]
      constructor
      · rintro ⟨h1, h2⟩
        rw [if_neg (by omega), if_pos h1, if_pos ⟨by omega, by omega⟩, h2]
      · intro he
        split at he
        · omega
        · split at he
          · split at he
            · exact ⟨by assumption, he⟩
            · omega
          · omega
  · rw [List.getElem?_append_right (by simpa using hil)] at hi
    simp only [List.length_set] at hi
    have hk := (List.getElem?_eq_some_iff.1 hi).1
    have := ho (i - L.length + 2) P hi
    refine cast (congrArg P (part_own fun b => ?_)) this
    simp only [beq_iff_eq]
    constructor
    · intro he
      rw [if_neg (by omega), if_neg (by omega)]
      omega
    · intro he
      split at he
      · omega
      · split at he
        · split at he <;> omega
        · omega
theorem sepL_imp {L : List HP} {X X' : HP} {n : Nat} {h : Nat → Option Obj} (s : sepL L h) (hn : L[n]? = some X) (H : ∀ h, X h → X' h) : sepL (L.set n X') h := by
  obtain ⟨own, ho⟩ := s
  refine ⟨own, fun i P hi => ?_⟩
  rw [List.getElem?_set] at hi
  split at hi
  · rename_i e
    subst e
    split at hi
    · cases hi; exact H _ (ho n X hn)
    · cases hi
  · exact ho i P hi
theorem sepL_group {K1 K2 : List HP} {h : Nat → Option Obj} (s : sepL (K1 ++ K2) h) : sepL (sepL K1 :: K2) h := by
  obtain ⟨own, ho⟩ := s
  refine ⟨fun b => if own b < K1.length then 0 else own b - K1.length + 1, fun i P hi => ?_⟩
  cases i with
  | zero =>
    simp at hi
    subst hi
    refine ⟨own, fun j P hj => ?_⟩
    have hj' := (List.getElem?_eq_some_iff.1 hj).1
    have := ho j P (by rw [List.getElem?_append_left hj']; exact hj)
    rw [part_part]
    refine cast (congrArg P (part_own fun b => ?_)) this
    simp only [beq_iff_eq, Bool.and_eq_true]
    constructor
    · intro he
      exact ⟨by rw [if_pos (by omega)], he⟩
    · exact fun he => he.2
  | succ i =>
    simp only [List.getElem?_cons_succ] at hi
    have := ho (K1.length + i) P (by rw [List.getElem?_append_right (by omega)]; simpa using hi)
    refine cast (congrArg P (part_own fun b => ?_)) this
    simp only [beq_iff_eq]
    constructor
    · intro he
      rw [if_neg (by omega)]
      omega
    · intro he
      split at he <;> omega
theorem sepL_ungroup {K1 K2 : List HP} {h : Nat → Option Obj} (s : sepL (sepL K1 :: K2) h) : sepL (K1 ++ K2) h := by
  obtain ⟨own, ho⟩ := s
  obtain ⟨own2, ho2⟩ := ho 0 _ rfl
  refine ⟨fun b => if own b = 0 then (if own2 b < K1.length then own2 b else K1.length + K2.length) else own b - 1 + K1.length, fun i P hi => ?_⟩
  by_cases hil : i < K1.length
  · rw [List.getElem?_append_left hil] at hi
    have := ho2 i P hi
    rw [part_part] at this
    refine cast (congrArg P (part_own fun b => ?_)) this
    simp only [beq_iff_eq, Bool.and_eq_true]
    constructor
    · rintro ⟨h1, h2⟩
      rw [if_pos h1, if_pos (by omega), h2]
    · intro he
      split at he
      · split at he
        · exact ⟨by assumption, he⟩
        · omega
      · omega
  · rw [List.getElem?_append_right (by omega)] at hi
    have hk := (List.getElem?_eq_some_iff.1 hi).1
    have := ho (i - K1.length + 1) P (by simpa using hi)
    refine cast (congrArg P (part_own fun b => ?_)) this
    simp only [beq_iff_eq]
    constructor
    · intro he
      rw [if_neg (by omega)]
      omega
    · intro he
      split at he
      · split at he <;> omega
      · omega
/-- These places hold nothing any more. -/
def wipe (L : List HP) (js : List Nat) : List HP := js.foldl (fun L j => L.set j emp) L
theorem wipe_len (L : List HP) (js : List Nat) : (wipe L js).length = L.length := by
  unfold wipe
  induction js generalizing L with
  | nil => rfl
  | cons j js ih => rw [List.foldl_cons, ih, List.length_set]
theorem wipe_at (L : List HP) (js : List Nat) (m : Nat) {P : HP} (h : (wipe L js)[m]? = some P) : (m ∈ js ∧ P = emp) ∨ (m ∉ js ∧ L[m]? = some P) := by
  unfold wipe at h
  induction js generalizing L with
  | nil => exact .inr ⟨by simp, h⟩
  | cons j js ih =>
    rcases ih _ h with ⟨h1, h2⟩ | ⟨h1, h2⟩
    · exact .inl ⟨by simp [h1], h2⟩
    · rw [List.getElem?_set] at h2
      split at h2
      · rename_i e
        subst e
        split at h2
        · cases h2; exact .inl ⟨by simp, rfl⟩
        · cases h2
      · rename_i e
        exact .inr ⟨by simp [h1]; omega, h2⟩
theorem sepL_fold {L : List HP} {h : Nat → Option Obj} (s : sepL L h) (i : Nat) (js : List Nat) (hd : (i :: js).Nodup) (hi : i < L.length) : sepL ((wipe L js).set i (sepL ((i :: js).map fun j => L.getD j emp))) h := by
  obtain ⟨own, ho⟩ := s
  have hij : i ∉ js := (List.nodup_cons.1 hd).1
  refine ⟨fun b => if own b ∈ js then i else own b, fun m P hm => ?_⟩
  rw [List.getElem?_set] at hm
  split at hm
  · rename_i e
    subst e
    rw [if_pos (by rw [wipe_len]; exact hi)] at hm
    cases hm
    refine ⟨fun b => (i :: js).idxOf (own b), fun t Q hQ => ?_⟩
    rw [List.getElem?_map] at hQ
    obtain ⟨x, hx, rfl⟩ := Option.map_eq_some_iff.1 hQ
    obtain ⟨htl, hx⟩ := List.getElem?_eq_some_iff.1 hx
    cases hL : L[x]? with
    | none => simp [hL]; trivial
    | some P =>
      rw [getD_of hL, part_part]
      refine cast (congrArg P (part_own fun b => ?_)) (ho x P hL)
      simp only [beq_iff_eq, Bool.and_eq_true]
      constructor
      · intro he
        refine ⟨?_, ?_⟩
        · by_cases hj : own b ∈ js
          · rw [if_pos hj]
          · rw [if_neg hj]
            have : own b ∈ i :: js := by rw [he, ← hx]; exact List.getElem_mem htl
            rcases List.mem_cons.1 this with e | e
            · exact e
            · exact absurd e hj
        · rw [he, ← hx]
          exact List.Nodup.idxOf_getElem hd t htl
      · rintro ⟨_, he⟩
        have hmem : own b ∈ i :: js := List.idxOf_lt_length_iff.1 (by rw [he]; exact htl)
        have := List.getElem_idxOf (List.idxOf_lt_length_iff.2 hmem)
        simp only [he] at this
        exact this.symm.trans hx
  · rename_i hne
    rcases wipe_at L js m hm with ⟨_, rfl⟩ | ⟨hmj, hm⟩
    · trivial
    · refine cast (congrArg P (part_own fun b => ?_)) (ho m P hm)
      simp only [beq_iff_eq]
      constructor
      · intro he
        rw [if_neg (by rw [he]; exact hmj), he]
      · intro he
        split at he
        · omega
        · exact he
theorem above_eq {w0 w : World} {b : Nat} (h : w0.heap.size ≤ b) : above w0 w b = w.heap[b]? := by unfold above part; rw [if_pos (by simpa using h)]
theorem above_none {w0 w : World} {b : Nat} (h : w.heap.size ≤ b) : above w0 w b = none := by
  unfold above part
  split
  · simpa using h
  · rfl
theorem above_low {w0 w : World} {b : Nat} (h : b < w0.heap.size) : above w0 w b = none := by unfold above part; rw [if_neg (by simp; omega)]
theorem above_keep {w0 w w' : World} {b : Nat} (h : w'.heap[b]? = w.heap[b]?) : above w0 w b = above w0 w' b := by unfold above part; simp only [h]
namespace St
variable {w0 w w' : World} {L K : List HP} {X X' : HP} {n m : Nat}
theorem pick (h : St w0 w L) (is : List Nat) (hd : is.Nodup) : St w0 w (is.map fun i => L.getD i emp) := ⟨h.below, sepL_pick h.sep is hd⟩
theorem split (h : St w0 w L) (n : Nat) {K : List HP} (hn : L[n]? = some (sepL K)) : St w0 w (L.set n emp ++ K) := ⟨h.below, sepL_split h.sep hn⟩
theorem join (h : St w0 w L) (is js : List Nat) (hd : (is ++ js).Nodup) : St w0 w (sepL (is.map fun i => L.getD i emp) :: js.map fun i => L.getD i emp) := ⟨h.below, sepL_join h.sep is js hd⟩
theorem front (h : St w0 w L) (n : Nat) {X : HP} (hn : L[n]? = some X) : St w0 w [X, sepL (L.set n emp)] := ⟨h.below, sepL_front h.sep hn⟩
theorem back (h : St w0 w (X :: sepL (L.set n emp) :: K)) (hn : n < L.length) : St w0 w (L.set n X ++ K) := ⟨h.below, sepL_back hn h.sep⟩
theorem imp (h : St w0 w L) (n : Nat) {X X' : HP} (hn : L[n]? = some X) (H : ∀ h, X h → X' h) : St w0 w (L.set n X') := ⟨h.below, sepL_imp h.sep hn H⟩
theorem group (h : St w0 w (L ++ K)) : St w0 w (sepL L :: K) := ⟨h.below, sepL_group h.sep⟩
theorem ungroup (h : St w0 w (sepL L :: K)) : St w0 w (L ++ K) := ⟨h.below, sepL_ungroup h.sep⟩
theorem fold (h : St w0 w L) (i : Nat) (js : List Nat) (hd : (i :: js).Nodup) (hi : i < L.length) : St w0 w ((wipe L js).set i (sepL ((i :: js).map fun j => L.getD j emp))) := ⟨h.below, sepL_fold h.sep i js hd hi⟩
theorem wrap (h : St w0 w L) : St w0 w [sepL L] := group (L := L) (K := []) (by rwa [List.append_nil])
theorem unwrap (h : St w0 w (sepL L :: K)) : St w0 w (L ++ K) := h.ungroup
theorem start (w : World) : St w w [] := ⟨Below.refl _ _, fun _ => 0, fun i P h => by simp at h⟩
theorem drew (h : St w0 w L) : St w0 w.drew L := ⟨h.below.drew, h.sep⟩
theorem size (h : St w0 w L) : w0.heap.size ≤ w.heap.size := h.below.size
end St
/-- Something known of what is kept, and something unknown in it. -/
def andP (φ : Prop) (X : HP) : HP := fun h => φ ∧ X h
def exP {α : Type} (X : α → HP) : HP := fun h => ∃ x, X x h
theorem St.pure {w0 w : World} {L : List HP} (h : St w0 w L) (n : Nat) {φ : Prop} {X : HP} (hn : L[n]? = some (andP φ X)) : φ ∧ St w0 w (L.set n X) := by
  refine ⟨?_, h.imp n hn fun _ h => h.2⟩
  obtain ⟨own, ho⟩ := h.sep
  exact (ho n _ hn).1
theorem St.ex {w0 w : World} {L : List HP} (h : St w0 w L) (n : Nat) {α : Type} {X : α → HP} (hn : L[n]? = some (exP X)) : ∃ x, St w0 w (L.set n (X x)) := by
  obtain ⟨own, ho⟩ := h.sep
  obtain ⟨x, hx⟩ := ho n _ hn
  refine ⟨x, h.below, own, fun i P hi => ?_⟩
  rw [List.getElem?_set] at hi
  split at hi
  · rename_i e
    subst e
    split at hi
    · cases hi; exact hx
    · cases hi
  · exact ho i P hi
/-- One block, known whole. -/
def pt (b : Nat) (o : Obj) : HP := fun h => h b = some o
theorem part_some {h : Nat → Option Obj} {f : Nat → Bool} {b : Nat} {o : Obj} (e : part h f b = some o) : f b = true ∧ h b = some o := by
  unfold part at e
  split at e
  · rename_i hf; exact ⟨hf, e⟩
  · cases e
theorem above_some {w0 w : World} {b : Nat} {o : Obj} (e : above w0 w b = some o) : w0.heap.size ≤ b ∧ w.heap[b]? = some o := by
  have := part_some e
  exact ⟨by simpa using this.1, this.2⟩
theorem St.blk {w0 w : World} {L : List HP} (h : St w0 w L) (n : Nat) {b : Nat} {o : Obj} (hn : L[n]? = some (pt b o)) : w.heap[b]? = some o ∧ w0.heap.size ≤ b ∧ b < w.heap.size := by
  obtain ⟨own, ho⟩ := h.sep
  have h1 := above_some (part_some (ho n _ hn)).2
  exact ⟨h1.2, h1.1, (Array.getElem?_eq_some_iff.1 h1.2).1⟩
theorem St.ne {w0 w : World} {L : List HP} (h : St w0 w L) (n m : Nat) {b b' : Nat} {o o' : Obj} (hn : L[n]? = some (pt b o)) (hm : L[m]? = some (pt b' o')) (hd : n ≠ m) : b ≠ b' := by
  obtain ⟨own, ho⟩ := h.sep
  have h1 := (part_some (ho n _ hn)).1
  have h2 := (part_some (ho m _ hm)).1
  simp at h1 h2
  intro e
  subst e
  omega
theorem St.alloc {w0 w : World} {L : List HP} (h : St w0 w L) (o : Obj) : St w0 (w.alloc o) (L ++ [pt w.heap.size o]) := by
  refine ⟨h.below.alloc h.below.size o, ?_⟩
  obtain ⟨own, ho⟩ := h.sep
  have hs := h.below.size
  refine ⟨fun b => if b = w.heap.size then L.length else own b, fun i P hi => ?_⟩
  by_cases hil : i < L.length
  · rw [List.getElem?_append_left hil] at hi
    refine cast (congrArg P (part_eq (fun b hb => ?_) fun b hb => ?_)) (ho i P hi)
    · simp only [beq_iff_eq] at hb ⊢
      by_cases hbs : b = w.heap.size
      · exact .inr ⟨above_none (by omega), fun e => by rw [if_pos hbs] at e; omega⟩
      · exact .inl ⟨by rw [if_neg hbs, hb], above_keep (by show (w.heap.push o)[b]? = _; rw [Array.getElem?_push, if_neg hbs])⟩
    · simp only [beq_iff_eq] at hb ⊢
      split at hb
      · omega
      · exact .inl hb
  · rw [List.getElem?_append_right (by omega)] at hi
    have hk := (List.getElem?_eq_some_iff.1 hi).1
    obtain rfl : i = L.length := by simp at hk; omega
    simp at hi
    subst hi
    unfold pt
    show part _ _ _ = _
    unfold part
    rw [if_pos (by simp), above_eq hs]
    exact heap_new w o
theorem St.set {w0 w : World} {L : List HP} (h : St w0 w L) (n : Nat) {b : Nat} {cs : Array Value} {T : TypeId} {fr : Nat × Nat} (hn : L[n]? = some (pt b (.cells cs T fr))) (i : Nat) (v : Value) :
    St w0 (w.setCell ⟨b, i, none⟩ v) (L.set n (pt b (.cells (cs.setIfInBounds i v) T fr))) := by
  obtain ⟨hb, hlo, _⟩ := h.blk n hn
  refine ⟨h.below.setCell hlo v, ?_⟩
  obtain ⟨own, ho⟩ := h.sep
  have hob := (part_some (ho n _ hn)).1
  simp at hob
  refine ⟨own, fun j P hj => ?_⟩
  rw [List.getElem?_set] at hj
  split at hj
  · rename_i e
    subst e
    split at hj
    · cases hj
      show part _ _ _ = _
      unfold part
      rw [if_pos (by simpa using hob), above_eq hlo]
      exact heap_setCell_row hb i v
    · cases hj
  · rename_i hne
    refine cast (congrArg P (part_eq (fun b' hb' => ?_) fun b' hb' => .inl hb')) (ho j P hj)
    have hb'' := hb'
    simp only [beq_iff_eq] at hb''
    have hbb : b' ≠ b := by rintro rfl; omega
    exact .inl ⟨hb', above_keep (Below.heap_setCell w ⟨b, i, none⟩ v b' hbb)⟩
/-- Open one thing: what it is kept in, and how to close it behind a call that turned nothing else and made something new. -/
theorem St.opened2 {w0 w : World} {L : List HP} (h : St w0 w L) (n : Nat) {X : HP} (hn : L[n]? = some X) : ∃ F : Nat → Bool, (∀ b, F b = true → w0.heap.size ≤ b) ∧ X (part (fun b => w.heap[b]?) F) ∧
    ∀ (w' : World) (X' Y : HP) (F' G : Nat → Bool), (∀ b, F' b = true → F b = true ∨ w.heap.size ≤ b) → X' (part (fun b => w'.heap[b]?) F') → (∀ b, G b = true → w.heap.size ≤ b ∧ F' b = false) → Y (part (fun b => w'.heap[b]?) G) → w'.os = w.os → w'.tape = w.tape → w'.output = w.output → w.heap.size ≤ w'.heap.size →
      (∀ b, b < w.heap.size → F b = false → w'.heap[b]? = w.heap[b]?) → St w0 w' (L.set n X' ++ [Y]) := by
  obtain ⟨own, ho⟩ := h.sep
  have hs := h.below.size
  have hnl := (List.getElem?_eq_some_iff.1 hn).1
  refine ⟨fun b => decide (w0.heap.size ≤ b) && (own b == n), fun b hb => by simp at hb; exact hb.1, ?_, ?_⟩
  · have := ho n X hn
    unfold above at this
    rw [part_part] at this
    exact this
  intro w' X' Y F' G hF' hX' hG hY hos htp hou hsz hk
  have hF1 : ∀ b, F' b = true → w0.heap.size ≤ b ∧ (own b = n ∨ w.heap.size ≤ b) := fun b hb => by
    rcases hF' b hb with h | h
    · simp at h; exact ⟨h.1, .inl h.2⟩
    · exact ⟨by omega, .inr h⟩
  refine ⟨⟨hos.trans h.below.os, htp.trans h.below.tape, hou.trans h.below.output, by omega, fun b hb => (hk b (by omega) (by simp; omega)).trans (h.below.block b hb)⟩, fun b => if F' b then n else if G b then L.length else if b < w.heap.size ∧ own b ≠ n ∧ own b < L.length then own b else L.length + 1, fun i P hi => ?_⟩
  by_cases hil : i < L.length
  · rw [List.getElem?_append_left (by simpa using hil), List.getElem?_set] at hi
    split at hi
    · rename_i e
      subst e
      try rw [if_pos hnl] at hi
      cases hi
      refine cast (congrArg X' (part_eq (fun b hb => ?_) fun b hb => ?_)) hX'
      · exact .inl ⟨by simp [hb], (above_eq (hF1 b hb).1).symm⟩
      · simp only [beq_iff_eq] at hb
        split at hb
        · left; assumption
        · split at hb
          · omega
          · split at hb <;> omega
    · rename_i hne
      refine cast (congrArg P (part_eq (fun b hb => ?_) fun b hb => ?_)) (ho i P hi)
      · simp only [beq_iff_eq] at hb ⊢
        by_cases hbs : b < w.heap.size
        · have hFf : F' b = false := by
            cases hf : F' b
            · rfl
            · have := hF1 b hf; omega
          have hGf : G b = false := by
            cases hf : G b
            · rfl
            · have := hG b hf; omega
          by_cases hlo : w0.heap.size ≤ b
          · exact .inl ⟨by rw [if_neg (by simp [hFf]), if_neg (by simp [hGf]), if_pos ⟨hbs, by omega, by omega⟩, hb], above_keep (hk b hbs (by simp; omega))⟩
          · exact .inr ⟨above_low (by omega), fun _ => above_low (by omega)⟩
        · refine .inr ⟨above_none (by omega), fun e => ?_⟩
          split at e
          · omega
          · split at e
            · omega
            · split at e <;> omega
      · simp only [beq_iff_eq] at hb ⊢
        split at hb
        · omega
        · split at hb
          · omega
          · split at hb
            · exact .inl hb
            · omega
  · rw [List.getElem?_append_right (by simpa using hil)] at hi
    have hkk := (List.getElem?_eq_some_iff.1 hi).1
    obtain rfl : i = L.length := by simp at hkk; omega
    simp at hi
    subst hi
    refine cast (congrArg Y (part_eq (fun b hb => ?_) fun b hb => ?_)) hY
    · have := hG b hb
      exact .inl ⟨by simp [hb, this.2], (above_eq (by omega)).symm⟩
    · simp only [beq_iff_eq] at hb
      split at hb
      · omega
      · split at hb
        · left; assumption
        · split at hb <;> omega
theorem St.cut {w0 w : World} {L K : List HP} (h : St w0 w (L ++ K)) : St w0 w L := by
  refine ⟨h.below, ?_⟩
  obtain ⟨own, ho⟩ := h.sep
  exact ⟨own, fun i P hi => ho i P (by rw [List.getElem?_append_left (List.getElem?_eq_some_iff.1 hi).1]; exact hi)⟩
theorem St.opened {w0 w : World} {L : List HP} (h : St w0 w L) (n : Nat) {X : HP} (hn : L[n]? = some X) : ∃ F : Nat → Bool, (∀ b, F b = true → w0.heap.size ≤ b) ∧ X (part (fun b => w.heap[b]?) F) ∧
    ∀ (w' : World) (X' : HP) (F' : Nat → Bool), (∀ b, F' b = true → F b = true ∨ w.heap.size ≤ b) → X' (part (fun b => w'.heap[b]?) F') → w'.os = w.os → w'.tape = w.tape → w'.output = w.output → w.heap.size ≤ w'.heap.size →
      (∀ b, b < w.heap.size → F b = false → w'.heap[b]? = w.heap[b]?) → St w0 w' (L.set n X') := by
  obtain ⟨F, h1, h2, h3⟩ := h.opened2 n hn
  exact ⟨F, h1, h2, fun w' X' F' g1 g2 g3 g4 g5 g6 g7 => (h3 w' X' emp F' (fun _ => false) g1 g2 (fun _ h => by cases h) trivial g3 g4 g5 g6 g7).cut⟩
/-- A call that turned nothing of all that. -/
theorem St.kept {w0 w w' : World} {L : List HP} (h : St w0 w L) (hb : Below w.heap.size w w') : St w0 w' L := by
  refine ⟨h.below.trans (hb.mono h.below.size), ?_⟩
  obtain ⟨own, ho⟩ := h.sep
  refine ⟨fun b => if b < w.heap.size then own b else L.length, fun i P hi => ?_⟩
  have hil := (List.getElem?_eq_some_iff.1 hi).1
  refine cast (congrArg P (part_eq (fun b hb' => ?_) fun b hb' => ?_)) (ho i P hi)
  · simp only [beq_iff_eq] at hb' ⊢
    by_cases hbs : b < w.heap.size
    · exact .inl ⟨by rw [if_pos hbs, hb'], above_keep (hb.block b hbs)⟩
    · exact .inr ⟨above_none (by omega), fun e => by rw [if_neg hbs] at e; omega⟩
  · simp only [beq_iff_eq] at hb' ⊢
    split at hb'
    · exact .inl hb'
    · omega
/-- New blocks that are kept from now on. -/
theorem St.gain {w0 w w' : World} {L : List HP} (h : St w0 w L) (hb : Below w.heap.size w w') (X : HP) (F : Nat → Bool) (hF : ∀ b, F b = true → w.heap.size ≤ b) (hX : X (part (fun b => w'.heap[b]?) F)) : St w0 w' (L ++ [X]) := by
  refine ⟨h.below.trans (hb.mono h.below.size), ?_⟩
  have hs := h.below.size
  obtain ⟨own, ho⟩ := h.sep
  refine ⟨fun b => if b < w.heap.size then (if own b < L.length then own b else L.length + 1) else if F b then L.length else L.length + 1, fun i P hi => ?_⟩
  by_cases hil : i < L.length
  · rw [List.getElem?_append_left hil] at hi
    refine cast (congrArg P (part_eq (fun b hb' => ?_) fun b hb' => ?_)) (ho i P hi)
    · simp only [beq_iff_eq] at hb' ⊢
      by_cases hbs : b < w.heap.size
      · exact .inl ⟨by rw [if_pos hbs, if_pos (by omega), hb'], above_keep (hb.block b hbs)⟩
      · refine .inr ⟨above_none (by omega), fun e => ?_⟩
        rw [if_neg hbs] at e
        split at e <;> omega
    · simp only [beq_iff_eq] at hb' ⊢
      split at hb'
      · split at hb'
        · exact .inl hb'
        · omega
      · split at hb' <;> omega
  · rw [List.getElem?_append_right (by omega)] at hi
    have hk := (List.getElem?_eq_some_iff.1 hi).1
    obtain rfl : i = L.length := by simp at hk; omega
    simp at hi
    subst hi
    refine cast (congrArg X (part_eq (fun b hb' => ?_) fun b hb' => ?_)) hX
    · have hbs := hF b hb'
      exact .inl ⟨by simp only [beq_iff_eq]; rw [if_neg (by omega), if_pos hb'], (above_eq (by omega)).symm⟩
    · simp only [beq_iff_eq] at hb'
      split at hb'
      · split at hb' <;> omega
      · split at hb'
        · left; assumption
        · omega
end Go.Proofs.Ythegopajkljlmaa
