/- A tenant without a feed: its answers hang on its own acts, and on ticks, alone. -/
import Derived.Test.YtdncpihaeobaeaaGreatActM
set_option linter.unusedVariables false
set_option linter.unusedSimpArgs false
namespace Go.Proofs.YtdncpihaeobaeaaGreat
open Go.RowKit
def mineB (t : Int) (kind tenant : Int) : Bool := (kind == 3) || (tenant == t)
def ansB (t : Int) (a : ActM) : Bool := (a.tenant == t) && !(a.kind == 3) && !(a.kind == 5)
/-- What a tenant was answered. -/
def ownA {α β : Type} (P : α → Bool) : List α → List β → List β
  | a :: us, x :: xs => if P a then x :: ownA P us xs else ownA P us xs
  | _, _ => []
def alRun (s : Su) (t : Nat) (x : Option Cl) : List ActM → List Ans × Option Cl
  | [] => ([], x)
  | a :: l => if a.kind = 3 then alRun s t (x.map fun c => c.serve (s.servN c)) l else if a.kind = 5 then alRun s t x l else ((own1 s t x a).1 :: (alRun s t (own1 s t x a).2 l).1, (alRun s t (own1 s t x a).2 l).2)
theorem own1_feed (s : Su) (t : Nat) (x : Option Cl) (a : ActM) (hx : ∀ c, x = some c → c.p.feed = -1) (ha : a.kind = 1 → a.p.feed = -1) : ∀ c, (own1 s t x a).2 = some c → c.p.feed = -1 := by
  intro c hc
  unfold own1 at hc
  split at hc
  · split at hc
    · exact hx c hc
    · split at hc
      · exact hx c hc
      · cases hc; exact ha (by assumption)
  · split at hc
    · exact hx c hc
    · split at hc
      · cases hc
      · rename_i d
        split at hc
        · cases hc
          show (d.offer _ _).2.p.feed = -1
          rw [(offer_keeps d _ _).1]
          exact hx d rfl
        · cases hc; exact hx _ rfl
theorem alRun_eq (t : Nat) (ht : t < 8) (X : List ActM) : ∀ (co : Co) (h8 : co.cells.length = 8) (hf : ∀ c, co.x t = some c → c.p.feed = -1) (hX : ∀ a ∈ X, a.kind = 1 → a.tenant = (t : Int) → a.p.feed = -1),
    ownA (ansB t) X (co.ans X) = (alRun co.s t (co.x t) (X.filter fun a => mineB t a.kind a.tenant)).1 ∧ (co.after X).x t = (alRun co.s t (co.x t) (X.filter fun a => mineB t a.kind a.tenant)).2 := by
  induction X with
  | nil => intro co _ _ _; exact ⟨rfl, rfl⟩
  | cons a X ih =>
    intro co h8 hf hX
    obtain ⟨b1, _, b3, _⟩ := do1_s co a
    have hX' : ∀ a' ∈ X, a'.kind = 1 → a'.tenant = (t : Int) → a'.p.feed = -1 := fun a' h => hX a' (List.mem_cons_of_mem _ h)
    show ownA (ansB t) (a :: X) ((co.do1 a).1 :: (co.do1 a).2.ans X) = _ ∧ ((co.do1 a).2.after X).x t = _
    by_cases h3 : a.kind = 3
    · have hs : (co.do1 a).2 = co.tick := by unfold Co.do1; rw [if_neg (by omega), if_pos h3]
      have hx := tick_alone co h8 t hf
      rw [List.filter_cons_of_pos (by simp [mineB, h3])]
      simp only [ownA, alRun, if_pos h3]
      rw [if_neg (by simp [ansB, h3]), hs, ← hx]
      have := ih co.tick (by rw [← hs, b3]; exact h8) (by
        intro c hc
        rw [hx] at hc
        obtain ⟨d, hd, rfl⟩ := Option.map_eq_some_iff.1 hc
        exact hf d hd) hX'
      rw [(tick_s co).1] at this
      exact this
    · by_cases ha : a.tenant = (t : Int)
      · by_cases h5 : a.kind = 5
        · have hs : (co.do1 a).2 = co := by unfold Co.do1; rw [if_neg (by omega), if_neg (by omega), if_pos h5]
          rw [List.filter_cons_of_pos (by simp [mineB, ha])]
          simp only [ownA, alRun, if_neg h3, if_pos h5]
          rw [if_neg (by simp [ansB, h5]), hs]
          exact ih co h8 hf hX'
        · obtain ⟨e1, e2⟩ := do1_own co h8 t ht a ha h3 h5
          rw [List.filter_cons_of_pos (by simp [mineB, ha])]
          simp only [ownA, alRun, if_neg h3, if_neg h5]
          rw [if_pos (by simp [ansB, ha, h3, h5]), ← e1, ← e2]
          have := ih (co.do1 a).2 (by rw [b3]; exact h8) (by
            intro c hc
            rw [e2] at hc
            exact own1_feed _ _ _ _ hf (fun h1 => hX a (List.mem_cons_self ..) h1 ha) c hc) hX'
          rw [b1] at this
          exact ⟨by rw [this.1], this.2⟩
      · obtain ⟨e1, _⟩ := do1_other co h8 t a ha h3
        rw [List.filter_cons_of_neg (by simp [mineB, h3, ha])]
        simp only [ownA]
        rw [if_neg (by simp [ansB, ha]), ← e1]
        have := ih (co.do1 a).2 (by rw [b3]; exact h8) (by rw [e1]; exact hf) hX'
        rw [b1] at this
        exact this
/-- Two scripts in which a tenant does the same. -/
def othB (t : Int) (a : ActR) : Bool := !(mineB t a.kind a.tenant)
def ActR.unfed (a : ActR) : ActR := ⟨a.kind, a.tenant, a.fr, a.n, a.oa, a.oc, ⟨a.p.ops, a.p.size, a.p.slide, a.p.agg, a.p.sink, -1⟩, a.i⟩
def wvA (alone : Bool) (a : ActR) : ActR := if alone && (a.kind == 1) then a.unfed else a
def wvStep (m : List ActR) (t : Int) (alone : Bool) (s : List ActR × List ActR × Nat) (a : ActR) : List ActR × List ActR × Nat :=
  if othB t a then (s.1 ++ [a], s.2.1, s.2.2)
  else (s.1 ++ [wvA alone a], s.2.1 ++ ((m.drop s.2.2).take (min m.length (2 * s.1.length + 2) - s.2.2)).filter (othB t) ++ [wvA alone a], max s.2.2 (min m.length (2 * s.1.length + 2)))
def wvK (l m : List ActR) (t : Int) (alone : Bool) : List ActR × List ActR × Nat := l.foldl (wvStep m t alone) ([], [], 0)
theorem wvA_mine (alone : Bool) (a : ActR) : (wvA alone a).kind = a.kind ∧ (wvA alone a).tenant = a.tenant := by
  unfold wvA
  split <;> exact ⟨rfl, rfl⟩
theorem wv_fold (m : List ActR) (t : Int) (alone : Bool) (l : List ActR) : ∀ s : List ActR × List ActR × Nat, s.1.filter (fun a => mineB t a.kind a.tenant) = s.2.1.filter (fun a => mineB t a.kind a.tenant) →
    (l.foldl (wvStep m t alone) s).1.filter (fun a => mineB t a.kind a.tenant) = (l.foldl (wvStep m t alone) s).2.1.filter (fun a => mineB t a.kind a.tenant) := by
  induction l with
  | nil => exact fun s h => h
  | cons a l ih =>
    intro s h
    refine ih _ ?_
    unfold wvStep
    split
    · rename_i ho
      rw [List.filter_append, h]
      simp only [othB, Bool.not_eq_true'] at ho
      simp [ho]
    · rename_i ho
      simp only [List.filter_append, h]
      have : (((m.drop s.2.2).take (min m.length (2 * s.1.length + 2) - s.2.2)).filter (othB t)).filter (fun a => mineB t a.kind a.tenant) = [] := by
        rw [List.filter_filter, List.filter_eq_nil_iff]
        intro x _
        simp [othB]
      rw [this, List.append_nil]
theorem wv_same (l m : List ActR) (t : Int) (alone : Bool) : (wvK l m t alone).1.filter (fun a => mineB t a.kind a.tenant) = (wvK l m t alone).2.1.filter (fun a => mineB t a.kind a.tenant) := wv_fold m t alone l _ rfl
theorem wv_unfed (m : List ActR) (t : Int) (l : List ActR) : ∀ s : List ActR × List ActR × Nat, (∀ a ∈ s.1, a.kind = 1 → a.tenant = t → a.p.feed = -1) → (∀ a ∈ s.2.1, a.kind = 1 → a.tenant = t → a.p.feed = -1) →
    (∀ a ∈ (l.foldl (wvStep m t true) s).1, a.kind = 1 → a.tenant = t → a.p.feed = -1) ∧ (∀ a ∈ (l.foldl (wvStep m t true) s).2.1, a.kind = 1 → a.tenant = t → a.p.feed = -1) := by
  induction l with
  | nil => exact fun s h1 h2 => ⟨h1, h2⟩
  | cons a l ih =>
    intro s h1 h2
    have ha : (wvA true a).kind = 1 → (wvA true a).p.feed = -1 := by
      intro hk
      rw [(wvA_mine true a).1] at hk
      unfold wvA
      rw [if_pos (by simp [hk])]
      rfl
    refine ih _ ?_ ?_
    · unfold wvStep
      split
      · rename_i ho
        intro x hx
        rcases List.mem_append.1 hx with hx | hx
        · exact h1 x hx
        · obtain rfl : x = a := by simpa using hx
          intro hk hte
          simp [othB, mineB, hte] at ho
      · intro x hx
        rcases List.mem_append.1 hx with hx | hx
        · exact h1 x hx
        · obtain rfl : x = wvA true a := by simpa using hx
          exact fun hk _ => ha hk
    · unfold wvStep
      split
      · exact h2
      · intro x hx
        rcases List.mem_append.1 hx with hx | hx
        · rcases List.mem_append.1 hx with hx | hx
          · exact h2 x hx
          · intro hk hte
            have := (List.mem_filter.1 hx).2
            simp [othB, mineB, hte] at this
        · obtain rfl : x = wvA true a := by simpa using hx
          exact fun hk _ => ha hk
theorem filter_val (t : Int) (l : List ActR) : (l.map ActR.val).filter (fun a => mineB t a.kind a.tenant) = (l.filter fun a => mineB t a.kind a.tenant).map ActR.val := by
  rw [List.filter_map]
  rfl
/-- THE LAW: such a tenant's answers are the same. -/
theorem alone_same (s : Su) (l m : List ActR) (t : Nat) (ht : t < 8) :
    ownA (ansB t) ((wvK l m t true).1.map ActR.val) ((newCo s).ans ((wvK l m t true).1.map ActR.val)) = ownA (ansB t) ((wvK l m t true).2.1.map ActR.val) ((newCo s).ans ((wvK l m t true).2.1.map ActR.val)) := by
  have u1 : ∀ a ∈ (wvK l m t true).1, a.kind = 1 → a.tenant = (t : Int) → a.p.feed = -1 := (wv_unfed m t l ([], [], 0) (by simp) (by simp)).1
  have u2 : ∀ a ∈ (wvK l m t true).2.1, a.kind = 1 → a.tenant = (t : Int) → a.p.feed = -1 := (wv_unfed m t l ([], [], 0) (by simp) (by simp)).2
  have h0 : (newCo s).x t = none := by
    show (List.replicate 8 none).getD t none = none
    rw [List.getD_eq_getElem?_getD, List.getElem?_replicate]
    split <;> rfl
  have g : ∀ X : List ActR, (∀ a ∈ X, a.kind = 1 → a.tenant = (t : Int) → a.p.feed = -1) → ∀ a ∈ X.map ActR.val, a.kind = 1 → a.tenant = (t : Int) → a.p.feed = -1 := by
    intro X hX a ha
    obtain ⟨b, hb, rfl⟩ := List.mem_map.1 ha
    exact hX b hb
  rw [(alRun_eq t ht _ (newCo s) rfl (by rw [h0]; simp) (g _ u1)).1, (alRun_eq t ht _ (newCo s) rfl (by rw [h0]; simp) (g _ u2)).1, filter_val, filter_val, wv_same]
end Go.Proofs.YtdncpihaeobaeaaGreat
