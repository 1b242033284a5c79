/- Between two ticks acts of unlike tenants may stand in any order. -/
import Derived.Test.YtdncpihaeobaeaaGreatAloneLaw
set_option linter.unusedVariables false
set_option linter.unusedSimpArgs false
namespace Go.Proofs.YtdncpihaeobaeaaGreat
open Go.RowKit
theorem Co.ext {a b : Co} (h1 : a.s = b.s) (h2 : a.cells = b.cells) (h3 : a.pots = b.pots) (h4 : a.told = b.told) (h5 : a.ticks = b.ticks) : a = b := by
  cases a; cases b; simp only at h1 h2 h3 h4 h5; subst h1 h2 h3 h4 h5; rfl
theorem cells_ext {a b : Co} (ha : a.cells.length = b.cells.length) (h : ∀ t, a.x t = b.x t) : a.cells = b.cells := by
  apply List.ext_getElem? 
  intro t
  have := h t
  unfold Co.x at this
  rw [List.getD_eq_getElem?_getD, List.getD_eq_getElem?_getD] at this
  by_cases ht : t < a.cells.length
  · rw [List.getElem?_eq_getElem ht, List.getElem?_eq_getElem (by omega)] at this ⊢
    simpa using this
  · rw [List.getElem?_eq_none (by omega), List.getElem?_eq_none (by omega)]
theorem ownA_append {α β : Type} (P : α → Bool) : ∀ (a : List α) (x : List β) (b : List α) (y : List β), a.length = x.length → ownA P (a ++ b) (x ++ y) = ownA P a x ++ ownA P b y := by
  intro a
  induction a with
  | nil =>
    intro x b y h
    cases x with
    | nil => simp [ownA]
    | cons => simp at h
  | cons c a ih =>
    intro x b y h
    cases x with
    | nil => simp at h
    | cons d x =>
      simp only [List.cons_append, ownA]
      rw [ih x b y (by simpa using h)]
      split <;> rfl
theorem seg_eq (t : Nat) (ht : t < 8) (X : List ActM) : ∀ (co : Co) (h8 : co.cells.length = 8) (h3 : ∀ a ∈ X, a.kind ≠ 3),
    ownA (ansB t) X (co.ans X) = (alRun co.s t (co.x t) (X.filter fun a => a.tenant == (t : Int))).1 ∧ (co.after X).x t = (alRun co.s t (co.x t) (X.filter fun a => a.tenant == (t : Int))).2 := by
  induction X with
  | nil => intro co _ _; exact ⟨rfl, rfl⟩
  | cons a X ih =>
    intro co h8 hX
    obtain ⟨b1, _, b3, _⟩ := do1_s co a
    have h3 := hX a (List.mem_cons_self ..)
    have hX' : ∀ a' ∈ X, a'.kind ≠ 3 := fun a' h => hX a' (List.mem_cons_of_mem _ h)
    show ownA (ansB t) (a :: X) ((co.do1 a).1 :: (co.do1 a).2.ans X) = _ ∧ ((co.do1 a).2.after X).x t = _
    have hi := ih (co.do1 a).2 (by rw [b3]; exact h8) hX'
    rw [b1] at hi
    by_cases ha : a.tenant = (t : Int)
    · by_cases h5 : a.kind = 5
      · have hs : (co.do1 a).2 = co := by unfold Co.do1; rw [if_neg (by omega), if_neg (by omega), if_pos h5]
        rw [List.filter_cons_of_pos (by simp [ha])]
        simp only [ownA, alRun, if_neg h3, if_pos h5]
        rw [if_neg (by simp [ansB, h5]), hs]
        rw [hs] at hi
        exact hi
      · obtain ⟨e1, e2⟩ := do1_own co h8 t ht a ha h3 h5
        rw [List.filter_cons_of_pos (by simp [ha])]
        simp only [ownA, alRun, if_neg h3, if_neg h5]
        rw [if_pos (by simp [ansB, ha, h3, h5]), ← e1, ← e2]
        exact ⟨by rw [hi.1], hi.2⟩
    · obtain ⟨e1, _⟩ := do1_other co h8 t a ha h3
      rw [List.filter_cons_of_neg (by simp [ha])]
      simp only [ownA]
      rw [if_neg (by simp [ansB, ha]), ← e1]
      exact hi
theorem seg_rest (X : List ActM) : ∀ (co : Co) (h3 : ∀ a ∈ X, a.kind ≠ 3), (co.after X).told = co.told ∧ (co.after X).pots = co.pots ∧ (co.after X).ticks = co.ticks := by
  induction X with
  | nil => exact fun co _ => ⟨rfl, rfl, rfl⟩
  | cons a X ih =>
    intro co hX
    obtain ⟨a1, a2, a3⟩ := ih (co.do1 a).2 fun a' h => hX a' (List.mem_cons_of_mem _ h)
    obtain ⟨b1, b2, b3⟩ := do1_rest co a (hX a (List.mem_cons_self ..))
    exact ⟨a1.trans b1, a2.trans b2, a3.trans b3⟩
/-- One tenant's acts of a segment behind the other's. -/
def tenB (t : Int) (a : ActR) : Bool := a.tenant == t
def sortT (S : List ActR) : List ActR := S.filter (tenB 3) ++ (S.filter (tenB 2) ++ (S.filter (tenB 1) ++ S.filter (tenB 0)))
theorem ten_ten (S : List ActR) (a b : Int) : (S.filter (tenB a)).filter (tenB b) = if a = b then S.filter (tenB b) else [] := by
  rw [List.filter_filter]
  split
  · rename_i e
    subst e
    congr 1
    funext x
    simp
  · rename_i e
    rw [List.filter_eq_nil_iff]
    intro x _
    simp only [tenB, Bool.and_eq_true, beq_iff_eq]
    omega
theorem sortT_ten (S : List ActR) (hS : ∀ a ∈ S, 0 ≤ a.tenant ∧ a.tenant ≤ 3) (t : Nat) : (sortT S).filter (tenB t) = S.filter (tenB t) := by
  unfold sortT
  simp only [List.filter_append, ten_ten]
  by_cases h0 : t = 0
  · subst h0; simp
  · by_cases h1 : t = 1
    · subst h1; simp
    · by_cases h2 : t = 2
      · subst h2; simp
      · by_cases h3 : t = 3
        · subst h3; simp
        · rw [if_neg (by omega), if_neg (by omega), if_neg (by omega), if_neg (by omega)]
          symm
          simp only [List.append_nil, List.filter_eq_nil_iff, tenB, beq_iff_eq]
          intro a ha
          have := hS a ha
          omega
theorem sortT_sub (S : List ActR) : ∀ a ∈ sortT S, a ∈ S := by
  intro a ha
  unfold sortT at ha
  rcases List.mem_append.1 ha with h | h
  · exact (List.mem_filter.1 h).1
  · rcases List.mem_append.1 h with h | h
    · exact (List.mem_filter.1 h).1
    · rcases List.mem_append.1 h with h | h
      · exact (List.mem_filter.1 h).1
      · exact (List.mem_filter.1 h).1
theorem sortT_len (S : List ActR) (hS : ∀ a ∈ S, 0 ≤ a.tenant ∧ a.tenant ≤ 3) : (sortT S).length = S.length := by
  induction S with
  | nil => rfl
  | cons a S ih =>
    have h1 := ih fun x hx => hS x (List.mem_cons_of_mem _ hx)
    have h2 := hS a (List.mem_cons_self ..)
    unfold sortT at h1 ⊢
    simp only [List.length_append, List.length_cons] at h1 ⊢
    obtain h | h | h | h : a.tenant = 0 ∨ a.tenant = 1 ∨ a.tenant = 2 ∨ a.tenant = 3 := by omega
    all_goals
      simp only [List.filter_cons, tenB, h]
      simp
      try simp only [tenB] at h1
      omega
theorem val_ten (t : Int) (l : List ActR) : (l.map ActR.val).filter (fun a => a.tenant == t) = (l.filter (tenB t)).map ActR.val := by
  rw [List.filter_map]
  rfl
theorem seg_sorted (co : Co) (h8 : co.cells.length = 8) (S : List ActR) (hS : ∀ a ∈ S, 0 ≤ a.tenant ∧ a.tenant ≤ 3) (h3 : ∀ a ∈ S, a.kind ≠ 3) :
    co.after ((sortT S).map ActR.val) = co.after (S.map ActR.val) ∧ ∀ t : Nat, t < 8 → ownA (ansB t) ((sortT S).map ActR.val) (co.ans ((sortT S).map ActR.val)) = ownA (ansB t) (S.map ActR.val) (co.ans (S.map ActR.val)) := by
  have g3 : ∀ a ∈ S.map ActR.val, a.kind ≠ 3 := by
    intro a ha
    obtain ⟨b, hb, rfl⟩ := List.mem_map.1 ha
    exact h3 b hb
  have g3' : ∀ a ∈ (sortT S).map ActR.val, a.kind ≠ 3 := by
    intro a ha
    obtain ⟨b, hb, rfl⟩ := List.mem_map.1 ha
    exact h3 b (sortT_sub S b hb)
  obtain ⟨a1, _, a3, _⟩ := after_s ((sortT S).map ActR.val) co
  obtain ⟨b1, _, b3, _⟩ := after_s (S.map ActR.val) co
  obtain ⟨c1, c2, c3⟩ := seg_rest _ co g3'
  obtain ⟨d1, d2, d3⟩ := seg_rest _ co g3
  refine ⟨Co.ext (a1.trans b1.symm) (cells_ext (a3.trans b3.symm) fun t => ?_) (c2.trans d2.symm) (c1.trans d1.symm) (c3.trans d3.symm), fun t ht => ?_⟩
  · by_cases ht : t < 8
    · rw [(seg_eq t ht _ co h8 g3').2, (seg_eq t ht _ co h8 g3).2, val_ten, val_ten, sortT_ten S hS]
    · rw [x_out _ (by rw [a3]; exact h8) t (by omega), x_out _ (by rw [b3]; exact h8) t (by omega)]
  · rw [(seg_eq t ht _ co h8 g3').1, (seg_eq t ht _ co h8 g3).1, val_ten, val_ten, sortT_ten S hS]
/-- The script with each segment sorted; seg: what came since the last tick. -/
def turnG : List ActR → List ActR → List ActR
  | [], seg => sortT seg
  | a :: l, seg => if a.kind = 3 then sortT seg ++ (a :: turnG l []) else turnG l (seg ++ [a])
theorem turnG_len (l : List ActR) : ∀ (seg : List ActR) (hS : ∀ a ∈ seg, 0 ≤ a.tenant ∧ a.tenant ≤ 3) (hl : ∀ a ∈ l, 0 ≤ a.tenant ∧ a.tenant ≤ 3), (turnG l seg).length = seg.length + l.length := by
  induction l with
  | nil => exact fun seg hS _ => sortT_len seg hS
  | cons a l ih =>
    intro seg hS hl
    unfold turnG
    split
    · rw [List.length_append, sortT_len seg hS, List.length_cons, ih [] (by simp) fun x hx => hl x (List.mem_cons_of_mem _ hx)]
      simp only [List.length_nil, List.length_cons]
      omega
    · rw [ih (seg ++ [a]) (by
        intro x hx
        rcases List.mem_append.1 hx with hx | hx
        · exact hS x hx
        · obtain rfl : x = a := by simpa using hx
          exact hl x (List.mem_cons_self ..)) fun x hx => hl x (List.mem_cons_of_mem _ hx)]
      simp only [List.length_append, List.length_cons, List.length_nil]
      omega
theorem turnG_same (l : List ActR) : ∀ (co : Co) (h8 : co.cells.length = 8) (seg : List ActR) (hS : ∀ a ∈ seg, 0 ≤ a.tenant ∧ a.tenant ≤ 3) (h3 : ∀ a ∈ seg, a.kind ≠ 3) (hl : ∀ a ∈ l, 0 ≤ a.tenant ∧ a.tenant ≤ 3),
    co.after ((turnG l seg).map ActR.val) = co.after ((seg ++ l).map ActR.val) ∧ ∀ t : Nat, t < 8 → ownA (ansB t) ((turnG l seg).map ActR.val) (co.ans ((turnG l seg).map ActR.val)) = ownA (ansB t) ((seg ++ l).map ActR.val) (co.ans ((seg ++ l).map ActR.val)) := by
  induction l with
  | nil =>
    intro co h8 seg hS h3 _
    rw [List.append_nil]
    exact seg_sorted co h8 seg hS h3
  | cons a l ih =>
    intro co h8 seg hS h3 hl
    unfold turnG
    split
    · rename_i hk
      obtain ⟨e1, e2⟩ := seg_sorted co h8 seg hS h3
      simp only [List.map_append, List.map_cons]
      rw [after_append, after_append, ans_append, ans_append, e1]
      obtain ⟨_, _, c8, _⟩ := after_s (seg.map ActR.val) co
      obtain ⟨_, _, d8, _⟩ := do1_s (co.after (seg.map ActR.val)) a.val
      generalize hc : co.after (seg.map ActR.val) = c1 at *
      obtain ⟨f1, f2⟩ := ih (c1.do1 a.val).2 (by rw [d8, c8]; exact h8) [] (by simp) (by simp) fun x hx => hl x (List.mem_cons_of_mem _ hx)
      rw [List.nil_append] at f1 f2
      refine ⟨f1, fun t ht => ?_⟩
      rw [ownA_append _ _ _ _ _ (by rw [ans_len]), ownA_append _ _ _ _ _ (by rw [ans_len]), e2 t ht]
      congr 1
      show ownA (ansB t) (a.val :: _) ((c1.do1 a.val).1 :: (c1.do1 a.val).2.ans _) = ownA (ansB t) (a.val :: _) ((c1.do1 a.val).1 :: (c1.do1 a.val).2.ans _)
      simp only [ownA]
      rw [f2 t ht]
    · rename_i hk
      have := ih co h8 (seg ++ [a]) (by
        intro x hx
        rcases List.mem_append.1 hx with hx | hx
        · exact hS x hx
        · obtain rfl : x = a := by simpa using hx
          exact hl x (List.mem_cons_self ..)) (by
        intro x hx
        rcases List.mem_append.1 hx with hx | hx
        · exact h3 x hx
        · obtain rfl : x = a := by simpa using hx
          exact hk) fun x hx => hl x (List.mem_cons_of_mem _ hx)
      rwa [List.append_assoc] at this
end Go.Proofs.YtdncpihaeobaeaaGreat
