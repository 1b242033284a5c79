/- The plain law of BoundComplete. -/
import Derived.Test.YtdncpihaeobaeaaGreatFullLaw
import Derived.Test.YtdncpihaeobaeaaGreatPreLawK
set_option linter.unusedVariables false
set_option linter.unusedSimpArgs false
namespace Go.Proofs.YtdncpihaeobaeaaGreat
open Go.RowKit
def pK : Pp := ⟨[], 8, 4, 2, -1, -1⟩
def endK : Inp := ⟨true, ⟨5000, 0, 0, 0⟩⟩
theorem past_K {l : List Inp} (hl : ∀ i ∈ l, i.ev.wf ∧ i.ev.time ≤ 160) : (afterR (newR pK) (l ++ [endK])).L = [] := by
  rw [afterR_append]
  have h := afterR_low l (newR pK) List.Pairwise.nil (fun _ _ hx => by cases hx) (by show (0 : Int) ≤ 160; omega) (by intro o ho; cases ho) hl
  have hp := afterR_p (newR pK) l
  generalize afterR (newR pK) l = r at *
  have ha : advB r.c 5000 = true := by unfold advB; simp; omega
  show (takeR r endK).1.L = []
  unfold takeR endK
  simp only [if_true, ha]
  refine List.filter_eq_nil_iff.2 fun q hq => ?_
  have h1 := h.1 q.1 q.2 hq
  have h2 : r.p.size = 8 := by rw [hp]; rfl
  simp [endsB]
  omega
/-- A tenant's own cell, which is never fed. -/
structure unfed (c : Cl) (t : Nat) (room : Int) (n : Nat) : Prop where
  p : c.p = pK
  id : c.id = (t : Int)
  left : c.left = 200 - c.spent
  spent : c.spent = (c.q.length : Int) + c.taken.length
  few : c.spent ≤ n
  all : ∀ i, i ∈ c.q ∨ i ∈ c.taken → i.ev.wf ∧ i.ev.time ≤ 160
  room : (c.q.length : Int) ≤ room
theorem unfed.more {c : Cl} {t n m : Nat} {room : Int} (h : unfed c t room n) (hm : n ≤ m) : unfed c t room m := { h with few := Int.le_trans h.few (by omega) }
theorem unfed_serve {c : Cl} {t n : Nat} {room : Int} (h : unfed c t room n) (j : Nat) : unfed (c.serve j) t room n := by
  refine ⟨h.p, h.id, h.left, ?_, h.few, ?_, ?_⟩
  · show c.spent = ((c.q.drop j).length : Int) + (c.taken ++ c.q.take j).length
    rw [h.spent, List.length_drop, List.length_append, List.length_take]
    omega
  · intro i hi
    refine h.all i ?_
    rcases hi with hi | hi
    · exact .inl (List.mem_of_mem_drop hi)
    · rcases List.mem_append.1 hi with hi | hi
      · exact .inr hi
      · exact .inl (List.mem_of_mem_take hi)
  · show ((c.q.drop j).length : Int) ≤ room
    rw [List.length_drop]
    have := h.room
    omega
theorem unfed_offer {c : Cl} {t n : Nat} {room : Int} (h : unfed c t room n) (ht : t < 8) (hn : n ≤ 1000) (i : Inp) (hi : i.ev.wf ∧ i.ev.time ≤ 160) : unfed (c.offer room i).2 t room (n + 1) := by
  have hr : unfed c.refuse t room (n + 1) := ⟨h.p, h.id, h.left, h.spent, by have := h.few; show c.spent ≤ _; omega, h.all, h.room⟩
  unfold Cl.offer
  split
  · exact hr
  · split
    · exact hr
    · split
      · exact hr
      · rename_i h1 h2 h3
        have hs := h.spent
        have hf := h.few
        have hw : wrap64 (c.spent + 1) = c.spent + 1 := by unfold wrap64; omega
        refine ⟨h.p, h.id, ?_, ?_, ?_, ?_, ?_⟩
        · show c.left - 1 = 200 - wrap64 (c.spent + 1)
          rw [hw, h.left]; omega
        · show wrap64 (c.spent + 1) = ((c.q ++ [ownI c.id i]).length : Int) + c.taken.length
          rw [hw, List.length_append, hs]
          show _ = ((c.q.length + 1 : Nat) : Int) + _
          omega
        · show wrap64 (c.spent + 1) ≤ _
          rw [hw]; omega
        · intro x hx
          have hx : x ∈ c.q ++ [ownI c.id i] ∨ x ∈ c.taken := hx
          rcases hx with hx | hx
          · rcases List.mem_append.1 hx with hx | hx
            · exact h.all x (.inl hx)
            · obtain rfl : x = ownI c.id i := by simpa using hx
              refine ⟨ownI_wf (by rw [h.id]; omega) (by rw [h.id]; omega) hi.1, ?_⟩
              unfold ownI
              split <;> exact hi.2
          · exact h.all x (.inr hx)
        · show ((c.q ++ [ownI c.id i]).length : Int) ≤ room
          rw [List.length_append]
          show ((c.q.length + 1 : Nat) : Int) ≤ room
          omega
structure compAt (co : Co) (s : Su) (t n : Nat) (c : Cl) : Prop where
  good : co.good
  su : co.s = s
  x : co.x t = some c
  c : unfed c t s.room n
theorem comp_tick {co : Co} {s : Su} {t n : Nat} {c : Cl} (h : compAt co s t n c) : compAt co.tick s t n (c.serve (s.servN c)) := by
  refine ⟨good_tick co h.good, (tick_s co).1.trans h.su, ?_, unfed_serve h.c _⟩
  rw [tick_alone co h.good.cells t (fun d hd => by rw [h.x] at hd; cases hd; rw [h.c.p]; rfl), h.x, h.su]
  rfl
theorem comp_step {co : Co} {s : Su} {t n : Nat} {c : Cl} (ht : t < 8) (hn : n ≤ 1000) (h : compAt co s t n c) (a : ActM) (ha : a.i.ev.wf ∧ a.i.ev.time ≤ 160) : ∃ c', compAt (co.do1 a).2 s t (n + 1) c' := by
  have hg := good_do1 co h.good a
  have hs := (do1_s co a).1.trans h.su
  by_cases h3 : a.kind = 3
  · have e : (co.do1 a).2 = co.tick := by unfold Co.do1; rw [if_neg (by omega), if_pos h3]
    rw [e]
    have := comp_tick h
    exact ⟨_, this.good, this.su, this.x, this.c.more (by omega)⟩
  · by_cases hta : a.tenant = (t : Int)
    · by_cases h5 : a.kind = 5
      · have e : (co.do1 a).2 = co := by unfold Co.do1; rw [if_neg (by omega), if_neg (by omega), if_pos h5]
        rw [e]
        exact ⟨c, h.good, h.su, h.x, h.c.more (by omega)⟩
      · obtain ⟨_, e2⟩ := do1_own co h.good.cells t ht a hta h3 h5
        rw [h.x, h.su] at e2
        unfold own1 at e2
        by_cases h1 : a.kind = 1
        · rw [if_pos h1] at e2
          exact ⟨c, hg, hs, e2, h.c.more (by omega)⟩
        · rw [if_neg h1] at e2
          by_cases h2 : a.kind ≠ 2 ∧ a.kind ≠ 4
          · rw [if_pos h2] at e2
            exact ⟨c, hg, hs, e2, h.c.more (by omega)⟩
          · rw [if_neg h2] at e2
            dsimp only at e2
            by_cases h6 : a.kind = 2
            · rw [if_pos h6] at e2
              exact ⟨_, hg, hs, e2, unfed_offer h.c ht hn a.i ha⟩
            · rw [if_neg h6] at e2
              exact ⟨c, hg, hs, e2, h.c.more (by omega)⟩
    · obtain ⟨e1, _⟩ := do1_other co h.good.cells t a hta h3
      exact ⟨c, hg, hs, e1.trans h.x, h.c.more (by omega)⟩
theorem comp_acts {s : Su} {t : Nat} (ht : t < 8) (l : List ActM) : ∀ {co : Co} {n : Nat} {c : Cl}, n + l.length ≤ 1000 → compAt co s t n c → (∀ a ∈ l, a.i.ev.wf ∧ a.i.ev.time ≤ 160) → ∃ c', compAt (co.after l) s t (n + l.length) c' := by
  induction l with
  | nil => intro co n c _ h _; exact ⟨c, h⟩
  | cons a l ih =>
    intro co n c hn h hl
    rw [List.length_cons] at hn
    obtain ⟨c1, h1⟩ := comp_step ht (by omega) h a (hl a (by simp))
    obtain ⟨c2, h2⟩ := ih (n := n + 1) (by omega) h1 fun x hx => hl x (by simp [hx])
    refine ⟨c2, ?_⟩
    rw [List.length_cons, show n + (l.length + 1) = n + 1 + l.length by omega]
    exact h2
theorem acts_low (l : List ActQ) : ∀ a ∈ actsOf l, a.i.ev.wf ∧ a.i.ev.time ≤ 160 := by
  intro a ha
  obtain ⟨k, _, rfl⟩ := List.mem_map.1 ha
  refine ⟨(actOf_ok k).ev, ?_⟩
  simp only [actOf]
  split
  · unfold inpOf
    split
    · have := within_range k.i.time 0 160 (by omega)
      show within k.i.time 0 160 ≤ 160
      omega
    · have := within_range k.i.time 0 120 (by omega)
      show within k.i.time 0 120 ≤ 160
      omega
  · show (0 : Int) ≤ 160
    omega
def regK (t : Int) : ActM := ⟨1, t, 0, 0, pK, Inp.zero⟩
def endA (t : Int) : ActM := ⟨2, t, 0, 0, Pp.zero, endK⟩
theorem mayK (t : Nat) (ht : t < 8) (l : List Sk) : mayB (t : Int) pK l = true := by
  unfold mayB inB pK
  have : rightPp (⟨[], 8, 4, 2, -1, -1⟩ : Pp) = true := by decide
  simp [this]
  omega
theorem comp_start (s : Su) (hs : rightSu s = true) (hq : s.quota = 200) (hr : 0 ≤ s.room) (t : Nat) (ht : t < 8) : compAt ((newCo s).do1 (regK t)).2 s t 0 (newC 200 t pK) := by
  have g0 := newCo_good s hs
  have h0 : (newCo s).x t = none := by
    show (List.replicate 8 none).getD t none = none
    rw [List.getD_eq_getElem?_getD, List.getElem?_replicate]
    split <;> rfl
  have hm := mayK t ht s.sinks
  obtain ⟨_, a2⟩ := do1_own (newCo s) g0.cells t ht (regK t) rfl (by show (1 : Int) ≠ 3; decide) (by show (1 : Int) ≠ 5; decide)
  refine ⟨good_do1 _ g0 _, (do1_s _ _).1, ?_, ⟨rfl, rfl, rfl, rfl, by show (0 : Int) ≤ 0; omega, (fun i hi => by rcases hi with hi | hi <;> cases hi), by show (0 : Int) ≤ s.room; exact hr⟩⟩
  rw [a2, h0]
  unfold own1
  rw [if_pos (by rfl)]
  split
  · rename_i h1
    cases h1
  · split
    · rename_i h2
      have h3 : mayB (t : Int) pK s.sinks = false := h2
      rw [hm] at h3
      cases h3
    · show some (newC s.quota t pK) = _
      rw [hq]
theorem serve_len {c : Cl} {s : Su} (hb : 0 ≤ s.budget) : ((c.serve (s.servN c)).q.length : Int) = max 0 ((c.q.length : Int) - s.budget) := by
  show ((c.q.drop (s.servN c)).length : Int) = _
  rw [List.length_drop]
  unfold Su.servN
  omega
/-- Behind its last mark. -/
structure lastAt (co : Co) (s : Su) (t : Nat) (T : List Inp) (Q : List Inp) : Prop where
  good : co.good
  su : co.s = s
  x : ∃ c, co.x t = some c ∧ c.p = pK ∧ c.id = (t : Int) ∧ c.q = Q ∧ c.taken = T ∧ c.spent = (Q.length : Int) + T.length
theorem comp_end {co : Co} {s : Su} {t n : Nat} {c : Cl} (ht : t < 8) (hn : n ≤ 100) (hr : 1 ≤ s.room) (h : compAt co s t n c) (hq : c.q = []) : (co.do1 (endA t)).1.err = 0 ∧ lastAt (co.do1 (endA t)).2 s t c.taken [endK] := by
  obtain ⟨e1, e2⟩ := do1_own co h.good.cells t ht (endA t) rfl (by show (2 : Int) ≠ 3; decide) (by show (2 : Int) ≠ 5; decide)
  rw [h.x, h.su] at e1 e2
  have b : own1 s t (some c) (endA t) = (⟨(c.offer s.room endK).1, [], []⟩, some (c.offer s.room endK).2) := rfl
  rw [b] at e1 e2
  have hs := h.c.spent
  have hf := h.c.few
  have hl := h.c.left
  rw [hq] at hs
  have hw : wrap64 (c.spent + 1) = c.spent + 1 := by unfold wrap64; simp at hs; omega
  have ho : c.offer s.room endK = (0, ⟨c.left - 1, wrap64 (c.spent + 1), c.refused, c.id, c.p, c.q ++ [ownI c.id endK], c.taken⟩) := by
    unfold Cl.offer
    rw [if_neg (by unfold ownB endK; simp), if_neg (by omega), if_neg (by rw [hq]; show ¬ s.room < ((0 : Nat) : Int) + 1; omega)]
  rw [ho] at e1 e2
  refine ⟨by rw [e1], good_do1 co h.good _, (do1_s co _).1.trans h.su, _, e2, h.c.p, h.c.id, ?_, rfl, ?_⟩
  · show c.q ++ [ownI c.id endK] = [endK]
    rw [hq]
    rfl
  · show wrap64 (c.spent + 1) = ((1 : Nat) : Int) + c.taken.length
    rw [hw, hs]
    simp
    omega
theorem last_other {co : Co} {s : Su} {t : Nat} {T Q : List Inp} (h : lastAt co s t T Q) (a : ActM) (h3 : a.kind ≠ 3) (ha : a.tenant ≠ (t : Int)) : lastAt (co.do1 a).2 s t T Q := by
  obtain ⟨c, hx, hc⟩ := h.x
  exact ⟨good_do1 co h.good a, (do1_s co a).1.trans h.su, c, (do1_other co h.good.cells t a ha h3).1.trans hx, hc⟩
theorem last_tick {co : Co} {s : Su} {t : Nat} {T : List Inp} (hb : 1 ≤ s.budget) (h : lastAt co s t T [endK]) : lastAt co.tick s t (T ++ [endK]) [] := by
  obtain ⟨c, hx, hp, hid, hq, hT, hs⟩ := h.x
  refine ⟨good_tick co h.good, (tick_s co).1.trans h.su, c.serve (s.servN c), ?_, hp, hid, ?_, ?_, ?_⟩
  · rw [tick_alone co h.good.cells t (fun d hd => by rw [hx] at hd; cases hd; rw [hp]; rfl), hx, h.su]
    rfl
  · show c.q.drop (s.servN c) = []
    have : s.servN c = 1 := by unfold Su.servN; rw [hq]; simp; omega
    rw [this, hq]
    rfl
  · show c.taken ++ c.q.take (s.servN c) = _
    have : s.servN c = 1 := by unfold Su.servN; rw [hq]; simp; omega
    rw [this, hq, hT]
    rfl
  · show c.spent = _
    rw [hs, List.length_append]
    simp
    omega
end Go.Proofs.YtdncpihaeobaeaaGreat
