/- The plain law of CoreFull. -/
import Derived.Test.YtdncpihaeobaeaaGreatActM
set_option linter.unusedVariables false
set_option linter.unusedSimpArgs false
namespace Go.Proofs.YtdncpihaeobaeaaGreat
open Go.RowKit
def pF : Pp := ⟨[], 5, 5, 1, -1, -1⟩
def regF (t : Int) : ActM := ⟨1, t, 0, 0, pF, Inp.zero⟩
def offF (t : Int) : ActM := ⟨2, t, 0, 0, Pp.zero, Inp.zero⟩
def tickF : ActM := ⟨3, 0, 0, 0, Pp.zero, Inp.zero⟩
structure fullAt (co : Co) (s : Su) (wait left : Int) : Prop where
  good : co.good
  su : co.s = s
  one : ∃ c, co.x 1 = some c ∧ c.p.feed = -1 ∧ c.id = 1 ∧ c.left = left ∧ (c.q.length : Int) = wait
  two : ∃ c, co.x 2 = some c ∧ c.p.feed = -1 ∧ c.id = 2 ∧ c.left = s.quota ∧ c.q = []
theorem mayF (t : Nat) (ht : t < 8) (l : List Sk) : mayB (t : Int) pF l = true := by
  unfold mayB inB pF
  have : rightPp (⟨[], 5, 5, 1, -1, -1⟩ : Pp) = true := by decide
  simp [this]
  omega
theorem full_start (s : Su) (hs : rightSu s = true) : fullAt ((newCo s).after [regF 1, regF 2]) s 0 s.quota := by
  have g0 := newCo_good s hs
  have h0 : ∀ t, (newCo s).x t = none := by
    intro t
    show (List.replicate 8 none).getD t none = none
    rw [List.getD_eq_getElem?_getD, List.getElem?_replicate]
    split <;> rfl
  have g1 := good_do1 _ g0 (regF 1)
  have s1 := (do1_s (newCo s) (regF 1)).1
  have e1 : ((newCo s).do1 (regF 1)).2.x 1 = some (newC s.quota 1 pF) := by
    rw [(do1_own (newCo s) g0.cells 1 (by omega) (regF 1) rfl (by decide) (by decide)).2, h0 1]
    unfold own1
    rw [if_pos (by rfl)]
    have := mayF 1 (by omega) s.sinks
    have e : (newCo s).s.sinks = s.sinks := rfl
    simp only [Option.isSome_none, Bool.false_eq_true, if_false, regF, e]
    rw [if_neg (by rw [this]; decide)]
    rfl
  have e2 : ((newCo s).do1 (regF 1)).2.x 2 = none := by
    rw [(do1_other (newCo s) g0.cells 2 (regF 1) (by decide) (by decide)).1, h0 2]
  have g2 := good_do1 _ g1 (regF 2)
  have s2 := (do1_s ((newCo s).do1 (regF 1)).2 (regF 2)).1
  show fullAt (((newCo s).do1 (regF 1)).2.do1 (regF 2)).2 s 0 s.quota
  refine ⟨g2, s2.trans s1, ?_, ?_⟩
  · rw [(do1_other _ g1.cells 1 (regF 2) (by decide) (by decide)).1]
    exact ⟨_, e1, rfl, rfl, rfl, rfl⟩
  · rw [(do1_own _ g1.cells 2 (by omega) (regF 2) rfl (by decide) (by decide)).2, e2]
    rw [s1]
    refine ⟨newC s.quota 2 pF, ?_, rfl, rfl, rfl, rfl⟩
    unfold own1
    rw [if_pos (by rfl)]
    have := mayF 2 (by omega) s.sinks
    have e : (newCo s).s = s := rfl
    simp only [Option.isSome_none, Bool.false_eq_true, if_false, regF, e]
    rw [if_neg (by rw [this]; decide)]
    rfl
def wantF (s : Su) (wait left : Int) : Int := if left = 0 then 4 else if s.room ≤ wait then 3 else 0
theorem offer_at (c : Cl) (room : Int) (t : Int) (ht : t = 1 ∨ t = 2) (hid : c.id = t) :
    (c.offer room Inp.zero).1 = (if c.left = 0 then 4 else if room ≤ c.q.length then 3 else 0) ∧ (c.offer room Inp.zero).2.p = c.p ∧ (c.offer room Inp.zero).2.id = c.id ∧
    (c.offer room Inp.zero).2.left = (if c.left = 0 then c.left else if room ≤ c.q.length then c.left else c.left - 1) ∧ (((c.offer room Inp.zero).2.q.length : Nat) : Int) = (if c.left = 0 then (c.q.length : Int) else if room ≤ c.q.length then (c.q.length : Int) else c.q.length + 1) := by
  have ho : ownB c.id Inp.zero = true := by rcases ht with rfl | rfl <;> (rw [hid]; decide +kernel)
  unfold Cl.offer
  rw [if_neg (by rw [ho]; decide)]
  by_cases h0 : c.left = 0
  · rw [if_pos h0, if_pos h0, if_pos h0, if_pos h0]
    exact ⟨rfl, rfl, rfl, rfl, rfl⟩
  · rw [if_neg h0, if_neg h0, if_neg h0, if_neg h0]
    by_cases h1 : room ≤ c.q.length
    · rw [if_pos (by omega), if_pos h1, if_pos h1, if_pos h1]
      exact ⟨rfl, rfl, rfl, rfl, rfl⟩
    · rw [if_neg (by omega), if_neg h1, if_neg h1, if_neg h1]
      refine ⟨rfl, rfl, rfl, rfl, ?_⟩
      simp
theorem full_one (co : Co) (s : Su) (wait left : Int) (h : fullAt co s wait left) :
    (co.do1 (offF 1)).1.err = wantF s wait left ∧ fullAt (co.do1 (offF 1)).2 s (if wantF s wait left = 0 then wait + 1 else wait) (if wantF s wait left = 0 then left - 1 else left) := by
  obtain ⟨c, hx, hf, hid, hl, hq⟩ := h.one
  obtain ⟨d, dx, df, did, dl, dq⟩ := h.two
  obtain ⟨a1, a2⟩ := do1_own co h.good.cells 1 (by omega) (offF 1) rfl (by decide) (by decide)
  obtain ⟨o1, o2, o3, o4, o5⟩ := offer_at c s.room 1 (.inl rfl) hid
  rw [hx, h.su] at a1 a2
  have b : own1 s 1 (some c) (offF 1) = (⟨(c.offer s.room Inp.zero).1, [], []⟩, some (c.offer s.room Inp.zero).2) := rfl
  rw [b] at a1 a2
  refine ⟨?_, good_do1 co h.good _, (do1_s co _).1.trans h.su, ⟨_, a2, by rw [o2]; exact hf, by rw [o3]; exact hid, ?_, ?_⟩, ?_⟩
  · rw [a1]
    show (c.offer s.room Inp.zero).1 = _
    rw [o1, hl, hq]
    rfl
  · rw [o4, hl, hq]
    unfold wantF
    by_cases h0 : left = 0
    · simp [h0]
    · by_cases h1 : s.room ≤ wait
      · simp [h0, h1]
      · simp [h0, h1]
  · rw [o5, hl, hq]
    unfold wantF
    by_cases h0 : left = 0
    · simp [h0]
    · by_cases h1 : s.room ≤ wait
      · simp [h0, h1]
      · simp [h0, h1]
  · rw [(do1_other co h.good.cells 2 (offF 1) (by decide) (by decide)).1]
    exact ⟨d, dx, df, did, dl, dq⟩
theorem full_tick (co : Co) (s : Su) (wait left : Int) (hb : 0 ≤ s.budget) (h : fullAt co s wait left) : fullAt (co.do1 tickF).2 s (max (wait - s.budget) 0) left := by
  obtain ⟨c, hx, hf, hid, hl, hq⟩ := h.one
  obtain ⟨d, dx, df, did, dl, dq⟩ := h.two
  have e : (co.do1 tickF).2 = co.tick := rfl
  rw [e]
  have h1 := tick_alone co h.good.cells 1 (fun c' hc' => by rw [hx] at hc'; cases hc'; exact hf)
  have h2 := tick_alone co h.good.cells 2 (fun c' hc' => by rw [dx] at hc'; cases hc'; exact df)
  rw [hx, h.su] at h1
  rw [dx, h.su] at h2
  refine ⟨good_tick co h.good, (tick_s co).1.trans h.su, ⟨_, h1, hf, hid, hl, ?_⟩, ⟨_, h2, df, did, dl, ?_⟩⟩
  · show (((c.q.drop (s.servN c)).length : Nat) : Int) = _
    rw [List.length_drop]
    unfold Su.servN
    omega
  · show d.q.drop _ = []
    rw [dq, List.drop_nil]
theorem full_two (co : Co) (s : Su) (wait left : Int) (h : fullAt co s wait left) (hq : s.quota ≠ 0) (hr : 1 ≤ s.room) : (co.do1 (offF 2)).1.err = 0 := by
  obtain ⟨d, dx, df, did, dl, dq⟩ := h.two
  obtain ⟨a1, a2⟩ := do1_own co h.good.cells 2 (by omega) (offF 2) rfl (by decide) (by decide)
  rw [dx, h.su] at a1
  have b : own1 s 2 (some d) (offF 2) = (⟨(d.offer s.room Inp.zero).1, [], []⟩, some (d.offer s.room Inp.zero).2) := rfl
  rw [b] at a1
  rw [a1]
  show (d.offer s.room Inp.zero).1 = 0
  rw [(offer_at d s.room 2 (.inr rfl) did).1, dl, dq, if_neg hq, if_neg (by simp; omega)]
end Go.Proofs.YtdncpihaeobaeaaGreat
