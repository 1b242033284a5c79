/- The plain law of BoundStill. -/
import Derived.Test.YtdncpihaeobaeaaGreatFullLaw
import Derived.Test.YtdncpihaeobaeaaGreatBoundAll
set_option linter.unusedVariables false
set_option linter.unusedSimpArgs false
namespace Go.Proofs.YtdncpihaeobaeaaGreat
open Go.RowKit
def upd (f : Nat → Option Nat) (t : Nat) (v : Option Nat) : Nat → Option Nat := fun u => if u = t then v else f u
def boxC (co : Co) (t : Nat) : Option Nat → Prop
  | none => co.x t = none
  | some w => ∃ c, co.x t = some c ∧ c.id = (t : Int) ∧ c.left = 50 - (w : Int) ∧ c.q.length = w
/-- A core of which some tenants are registered, and so many inputs of each wait. -/
structure boxAt (co : Co) (s : Su) (f : Nat → Option Nat) : Prop where
  good : co.good
  su : co.s = s
  cell : ∀ t, t < 8 → boxC co t (f t)
theorem box_new (s : Su) (hs : rightSu s = true) : boxAt (newCo s) s (fun _ => none) := by
  refine ⟨newCo_good s hs, rfl, fun t _ => ?_⟩
  show (List.replicate 8 none).getD t none = none
  rw [List.getD_eq_getElem?_getD, List.getElem?_replicate]
  split <;> rfl
theorem boxC_of {co co' : Co} {t : Nat} {o : Option Nat} (h : boxC co t o) (he : co'.x t = co.x t) : boxC co' t o := by
  cases o with
  | none => exact he.trans h
  | some w =>
    obtain ⟨c, h1, h2⟩ := h
    exact ⟨c, he.trans h1, h2⟩
theorem box_reg (co : Co) (s : Su) (f : Nat → Option Nat) (t : Nat) (ht : t < 8) (hf : f t = none) (hq : s.quota = 50) (h : boxAt co s f) :
    boxAt (co.do1 (regF t)).2 s (upd f t (some 0)) ∧ (co.do1 (regF t)).2.x t = some (newC 50 t pF) := by
  have hx : co.x t = none := by have := h.cell t ht; rw [hf] at this; exact this
  obtain ⟨_, a2⟩ := do1_own co h.good.cells t ht (regF t) rfl (by show (1 : Int) ≠ 3; decide) (by show (1 : Int) ≠ 5; decide)
  have e : (co.do1 (regF t)).2.x t = some (newC 50 t pF) := by
    rw [a2, hx, h.su]
    unfold own1
    rw [if_pos (by rfl)]
    have := mayF t ht s.sinks
    split
    · rename_i h1
      cases h1
    · split
      · rename_i h2
        have h3 : mayB (t : Int) pF s.sinks = false := h2
        rw [this] at h3
        cases h3
      · show some (newC s.quota t pF) = _
        rw [hq]
  refine ⟨⟨good_do1 co h.good _, (do1_s co _).1.trans h.su, fun u hu => ?_⟩, e⟩
  unfold upd
  by_cases hut : u = t
  · subst hut
    rw [if_pos rfl]
    exact ⟨_, e, rfl, rfl, rfl⟩
  · rw [if_neg hut]
    exact boxC_of (h.cell u hu) (do1_other co h.good.cells u (regF t) (by show (t : Int) ≠ u; omega) (by show (1 : Int) ≠ 3; decide)).1
theorem offer_at2 (c : Cl) (room : Int) (t : Int) (ht : t = 2 ∨ t = 6) (hid : c.id = t) (h0 : c.left ≠ 0) (h1 : (c.q.length : Int) < room) :
    (c.offer room Inp.zero).2.id = c.id ∧ (c.offer room Inp.zero).2.left = c.left - 1 ∧ (c.offer room Inp.zero).2.q.length = c.q.length + 1 := by
  have ho : ownB c.id Inp.zero = true := by rcases ht with rfl | rfl <;> (rw [hid]; decide +kernel)
  unfold Cl.offer
  rw [if_neg (by rw [ho]; decide), if_neg h0, if_neg (by omega)]
  refine ⟨rfl, rfl, ?_⟩
  simp
theorem box_off (co : Co) (s : Su) (f : Nat → Option Nat) (t w : Nat) (ht : t = 2 ∨ t = 6) (hf : f t = some w) (hw : (w : Int) < s.room) (h50 : w < 50) (h : boxAt co s f) :
    boxAt (co.do1 (offF t)).2 s (upd f t (some (w + 1))) := by
  have ht8 : t < 8 := by omega
  obtain ⟨c, hx, hid, hl, hq⟩ : ∃ c, co.x t = some c ∧ c.id = (t : Int) ∧ c.left = 50 - (w : Int) ∧ c.q.length = w := by have := h.cell t ht8; rw [hf] at this; exact this
  obtain ⟨_, a2⟩ := do1_own co h.good.cells t ht8 (offF t) rfl (by show (2 : Int) ≠ 3; decide) (by show (2 : Int) ≠ 5; decide)
  rw [hx, h.su] at a2
  have b : own1 s t (some c) (offF t) = (⟨(c.offer s.room Inp.zero).1, [], []⟩, some (c.offer s.room Inp.zero).2) := rfl
  rw [b] at a2
  obtain ⟨o1, o2, o3⟩ := offer_at2 c s.room t (by omega) hid (by omega) (by omega)
  refine ⟨good_do1 co h.good _, (do1_s co _).1.trans h.su, fun u hu => ?_⟩
  unfold upd
  by_cases hut : u = t
  · subst hut
    rw [if_pos rfl]
    exact ⟨_, a2, o1.trans hid, by rw [o2, hl]; omega, by rw [o3, hq]⟩
  · rw [if_neg hut]
    exact boxC_of (h.cell u hu) (do1_other co h.good.cells u (offF t) (by show (t : Int) ≠ u; omega) (by show (2 : Int) ≠ 3; decide)).1
def tkF (f : Nat → Option Nat) (b : Int) (t : Nat) : Int := match f t with | none => 0 | some w => ticksOf (w : Int) b
theorem box_all (co : Co) (s : Su) (f : Nat → Option Nat) (b : Int) (hb : 1 ≤ b) (h : boxAt co s f) (k : Nat) (hk : k ≤ 8) : allM co b k = (List.range k).foldl (fun (m : Int) (t : Nat) => max m (tkF f b t)) 0 := by
  induction k with
  | zero => rfl
  | succ k ih =>
    have hn : 0 ≤ allM co b k := by
      have g : ∀ j, 0 ≤ allM co b j := by
        intro j
        induction j with
        | zero => exact Int.le_refl 0
        | succ j ih =>
          rw [allM_succ]
          split
          · exact ih
          · exact Int.le_trans ih (Int.le_max_left _ _)
      exact g k
    rw [allM_succ, List.range_succ, List.foldl_append, ← ih (by omega), at_x co k (by omega)]
    have hc := h.cell k (by omega)
    show _ = max (allM co b k) (tkF f b k)
    unfold tkF
    cases hf : f k with
    | none =>
      rw [hf] at hc
      rw [show co.x k = none from hc]
      show allM co b k = max (allM co b k) 0
      omega
    | some w =>
      rw [hf] at hc
      obtain ⟨c, h1, _, _, h4⟩ := hc
      rw [h1]
      show max _ (ticksOf c.q.length b) = max _ (ticksOf w b)
      rw [h4]
def f2 (m : Nat) : Nat → Option Nat := upd (fun _ => none) 2 (some m)
def f26 (m o : Nat) : Nat → Option Nat := upd (f2 m) 6 (some o)
theorem tk_nonneg (w : Nat) (b : Int) (hb : 1 ≤ b) : 0 ≤ ticksOf (w : Int) b := by
  unfold ticksOf
  split
  · omega
  · rw [if_neg (by omega)]
    exact Int.ediv_nonneg (by omega) (by omega)
theorem all_f2 (co : Co) (s : Su) (b : Int) (hb : 1 ≤ b) (m : Nat) (h : boxAt co s (f2 m)) : allM co b 8 = ticksOf (m : Int) b := by
  have h0 := tk_nonneg m b hb
  rw [box_all co s _ b hb h 8 (by omega)]
  show max (max (max (max (max (max (max (max 0 0) 0) (ticksOf (m : Int) b)) 0) 0) 0) 0) 0 = _
  omega
theorem all_f26 (co : Co) (s : Su) (b : Int) (hb : 1 ≤ b) (m o : Nat) (h : boxAt co s (f26 m o)) : allM co b 8 = max (ticksOf (m : Int) b) (ticksOf (o : Int) b) := by
  have h0 := tk_nonneg m b hb
  have h1 := tk_nonneg o b hb
  rw [box_all co s _ b hb h 8 (by omega)]
  show max (max (max (max (max (max (max (max 0 0) 0) (ticksOf (m : Int) b)) 0) 0) 0) (ticksOf (o : Int) b)) 0 = _
  omega
theorem upd_upd (f : Nat → Option Nat) (t : Nat) (a b : Option Nat) : upd (upd f t a) t b = upd f t b := by
  funext u
  unfold upd
  split <;> rfl
theorem f2_off (m : Nat) : upd (f2 m) 2 (some (m + 1)) = f2 (m + 1) := upd_upd _ _ _ _
theorem f26_off (m o : Nat) : upd (f26 m o) 6 (some (o + 1)) = f26 m (o + 1) := upd_upd _ _ _ _
end Go.Proofs.YtdncpihaeobaeaaGreat
