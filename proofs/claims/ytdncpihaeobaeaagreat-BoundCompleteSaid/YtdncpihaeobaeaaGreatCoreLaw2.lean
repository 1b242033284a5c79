/- Plain laws of the core: what is always so; one tenant by itself. -/
import Derived.Test.YtdncpihaeobaeaaGreatCoreLaw
set_option linter.unusedVariables false
set_option linter.unusedSimpArgs false
namespace Go.Proofs.YtdncpihaeobaeaaGreat
open Go.RowKit
theorem offer_keeps (c : Cl) (room : Int) (i : Inp) : (c.offer room i).2.p = c.p ∧ (c.offer room i).2.id = c.id ∧ (c.offer room i).2.taken = c.taken := by
  unfold Cl.offer
  split
  · exact ⟨rfl, rfl, rfl⟩
  · split
    · exact ⟨rfl, rfl, rfl⟩
    · split <;> exact ⟨rfl, rfl, rfl⟩
theorem feed_keeps (c : Cl) (e : Ev) : (c.feed e).p = c.p ∧ (c.feed e).id = c.id ∧ (c.feed e).taken = c.taken := by
  unfold Cl.feed
  split <;> exact ⟨rfl, rfl, rfl⟩
theorem feedCl_keeps (s : Sk) (r : Rel) (t : Nat) (c : Cl) : (feedCl s r t c).p = c.p ∧ (feedCl s r t c).id = c.id ∧ (feedCl s r t c).taken = c.taken := by
  unfold feedCl
  split
  · exact feed_keeps _ _
  · exact ⟨rfl, rfl, rfl⟩
/-- What is always so of a core. -/
structure Co.good (co : Co) : Prop where
  su : rightSu co.s = true
  cells : co.cells.length = 8
  told : co.told.length = 8
  pots : co.pots.length = co.s.sinks.length
  who : ∀ (t : Nat) c, co.x t = some c → c.id = t ∧ mayB (t : Int) c.p co.s.sinks = true
theorem newCo_good (s : Su) (h : rightSu s = true) : (newCo s).good := by
  refine ⟨h, rfl, rfl, by simp [newCo], fun t c hc => ?_⟩
  have h0 : (newCo s).x t = none := by
    show (List.replicate 8 none).getD t none = none
    rw [List.getD_eq_getElem?_getD, List.getElem?_replicate]
    split <;> rfl
  rw [h0] at hc
  cases hc
/-- Good, if the cells' tenants and pipes stay. -/
theorem good_of {co co' : Co} (h : co.good) (hs : co'.s = co.s) (h1 : co'.cells.length = co.cells.length) (h2 : co'.told.length = co.told.length) (h3 : co'.pots.length = co.pots.length)
    (hx : ∀ t c', co'.x t = some c' → (∃ c, co.x t = some c ∧ c'.id = c.id ∧ c'.p = c.p) ∨ (c'.id = t ∧ mayB (t : Int) c'.p co.s.sinks = true)) : co'.good := by
  refine ⟨by rw [hs]; exact h.su, h1.trans h.cells, h2.trans h.told, by rw [hs]; exact h3.trans h.pots, fun t c' hc' => ?_⟩
  rw [hs]
  rcases hx t c' hc' with ⟨c, hc, e1, e2⟩ | h'
  · rw [e1, e2]; exact h.who t c hc
  · exact h'
theorem good_serveK (co : Co) (h : co.good) (k : Nat) (hk : k ≤ 8) : (co.serveK k).good := by
  obtain ⟨b1, b2, b3, b4, b5⟩ := serve_s co k
  refine good_of h b1 b4 (by rw [b2]) b5 fun t c' hc' => .inl ?_
  obtain ⟨h1, h2⟩ := order_all co.ticks
  have e : List.range 8 = List.range k ++ (List.range (8 - k)).map (k + ·) := by rw [← List.range_add]; congr 1; omega
  rw [e, List.map_append] at h1
  rw [serveK_eq, turns_x _ (List.nodup_append.1 h1).1 co (by
    intro j hj
    obtain ⟨i, _, rfl⟩ := List.mem_map.1 hj
    rw [h.cells]
    exact Nat.mod_lt _ (by omega))] at hc'
  split at hc'
  · obtain ⟨c, hc, rfl⟩ := Option.map_eq_some_iff.1 hc'
    exact ⟨c, hc, rfl, rfl⟩
  · exact ⟨c', hc', rfl, rfl⟩
theorem good_feed (co : Co) (h : co.good) (r : Rel) : (co.feed r).good := by
  refine good_of h rfl (by simp [Co.feed]) rfl rfl fun t c' hc' => .inl ?_
  rw [feed_x] at hc'
  obtain ⟨c, hc, rfl⟩ := Option.map_eq_some_iff.1 hc'
  exact ⟨c, hc, (feedCl_keeps ..).2.1, (feedCl_keeps ..).1⟩
theorem good_pin (co : Co) (h : co.good) (i : Nat) (p : Pot) (dst : Int) (r : Rel) : Co.good { co with pots := co.pots.set i p, told := pinT dst r co.told } :=
  good_of h rfl rfl (pinT_len ..) (by simp) fun t c' hc' => .inl ⟨c', hc', rfl, rfl⟩
theorem good_sinkStep (co : Co) (h : co.good) (i : Nat) : (co.sinkStep i).good := by
  unfold Co.sinkStep
  dsimp only
  split
  · split
    · exact good_pin co h _ _ _ _
    · exact good_feed _ (good_pin co h _ _ _ _) _
  · exact h
theorem good_late (co : Co) (h : co.good) : co.late.good := ⟨h.su, h.cells, h.told, h.pots, h.who⟩
theorem good_steps (is : List Nat) : ∀ (co : Co), co.good → (is.foldl Co.sinkStep co).good := by
  induction is with
  | nil => exact fun co h => h
  | cons i is ih => exact fun co h => ih _ (good_sinkStep co h i)
theorem good_tick (co : Co) (h : co.good) : co.tick.good := good_steps _ _ (good_late _ (good_serveK co h 8 (by omega)))
theorem at_x (co : Co) (t : Nat) (ht : t < 8) : co.at (t : Int) = co.x t := by
  unfold Co.at
  rw [if_pos (by omega), Int.toNat_natCast]
  rfl
theorem at_out (co : Co) (t : Int) (ht : ¬ (0 ≤ t ∧ t ≤ 7)) : co.at t = none := by unfold Co.at; rw [if_neg ht]
theorem at_cases (t : Int) : (∃ u : Nat, u < 8 ∧ t = u) ∨ ¬ (0 ≤ t ∧ t ≤ 7) := by
  by_cases h : 0 ≤ t ∧ t ≤ 7
  · exact .inl ⟨t.toNat, by omega, by omega⟩
  · exact .inr h
theorem set_x (co : Co) (h8 : co.cells.length = 8) (u : Nat) (hu : u < 8) (c : Option Cl) (t : Nat) : Co.x { co with cells := co.cells.set u c } t = if u = t then c else co.x t := getD_set _ _ _ _ _ (by omega)
theorem good_reg (co : Co) (h : co.good) (t : Int) (p : Pp) : (co.reg t p).2.good := by
  obtain ⟨a1, a2, a3, a4, a5⟩ := reg_s co t p
  refine good_of h a1 a4 (by rw [a2]) (by rw [a5]) fun u c' hc' => ?_
  unfold Co.reg at hc'
  split at hc'
  · exact .inl ⟨c', hc', rfl, rfl⟩
  · split at hc'
    · exact .inl ⟨c', hc', rfl, rfl⟩
    · split at hc'
      · exact .inl ⟨c', hc', rfl, rfl⟩
      · rename_i h1 h2 h3
        dsimp only at hc'
        rw [set_x co h.cells t.toNat (by omega)] at hc'
        split at hc'
        · rename_i e
          cases hc'
          right
          subst e
          refine ⟨by show t = _; omega, ?_⟩
          rw [show ((t.toNat : Nat) : Int) = t by omega]
          show mayB t p co.s.sinks = true
          simpa using h3
        · exact .inl ⟨c', hc', rfl, rfl⟩
theorem good_do1 (co : Co) (h : co.good) (a : ActM) : (co.do1 a).2.good := by
  unfold Co.do1
  split
  · exact good_reg co h _ _
  · split
    · exact good_tick co h
    · split
      · exact h
      · split
        · exact h
        · split
          · exact h
          · rename_i c hc
            split
            · rcases at_cases a.tenant with ⟨u, hu, e⟩ | hn
              · rw [e] at hc ⊢
                rw [at_x co u hu] at hc
                dsimp only
                rw [Int.toNat_natCast]
                refine good_of h rfl (by simp) rfl rfl fun t c' hc' => .inl ?_
                rw [set_x co h.cells u hu] at hc'
                split at hc'
                · rename_i e2
                  subst e2
                  cases hc'
                  exact ⟨c, hc, (offer_keeps ..).2.1, (offer_keeps ..).1⟩
                · exact ⟨c', hc', rfl, rfl⟩
              · rw [at_out co _ hn] at hc; cases hc
            · exact h
theorem good_after (l : List ActM) : ∀ (co : Co), co.good → (co.after l).good := by
  induction l with
  | nil => exact fun co h => h
  | cons a l ih => exact fun co h => ih _ (good_do1 co h a)
/-- One tenant by itself: what an act of its own comes to. -/
def own1 (s : Su) (t : Nat) (x : Option Cl) (a : ActM) : Ans × Option Cl :=
  if a.kind = 1 then (if x.isSome then (⟨6, [], []⟩, x) else if mayB (t : Int) a.p s.sinks = false then (⟨1, [], []⟩, x) else (⟨0, [], []⟩, some (newC s.quota t a.p)))
  else if a.kind ≠ 2 ∧ a.kind ≠ 4 then (⟨1, [], []⟩, x)
  else match x with
    | none => (⟨2, [], []⟩, none)
    | some c => if a.kind = 2 then (⟨(c.offer s.room a.i).1, [], []⟩, some (c.offer s.room a.i).2) else (⟨(tellR c.rows a.fr a.n).2, (tellR c.rows a.fr a.n).1, []⟩, some c)
theorem do1_own (co : Co) (h8 : co.cells.length = 8) (t : Nat) (ht : t < 8) (a : ActM) (ha : a.tenant = t) (h3 : a.kind ≠ 3) (h5 : a.kind ≠ 5) : (co.do1 a).1 = (own1 co.s t (co.x t) a).1 ∧ (co.do1 a).2.x t = (own1 co.s t (co.x t) a).2 := by
  unfold Co.do1 own1
  rw [ha, at_x co t ht, if_neg h3, if_neg h5]
  by_cases h1 : a.kind = 1
  · rw [if_pos h1, if_pos h1]
    unfold Co.reg
    rw [if_neg (by omega), at_x co t ht]
    by_cases h2 : (co.x t).isSome
    · rw [if_pos h2, if_pos h2]; exact ⟨rfl, rfl⟩
    · rw [if_neg h2, if_neg h2]
      by_cases h4 : mayB (t : Int) a.p co.s.sinks = false
      · rw [if_pos h4, if_pos h4]; exact ⟨rfl, rfl⟩
      · rw [if_neg h4, if_neg h4]
        refine ⟨rfl, ?_⟩
        dsimp only
        rw [set_x co h8 _ (by omega), if_pos (by omega)]
  · rw [if_neg h1, if_neg h1]
    by_cases h2 : a.kind ≠ 2 ∧ a.kind ≠ 4
    · rw [if_pos h2, if_pos h2]; exact ⟨rfl, rfl⟩
    · rw [if_neg h2, if_neg h2]
      cases hx : co.x t with
      | none => exact ⟨rfl, hx⟩
      | some c =>
        dsimp only
        by_cases h6 : a.kind = 2
        · rw [if_pos h6, if_pos h6]
          refine ⟨rfl, ?_⟩
          dsimp only
          rw [set_x co h8 _ (by omega), if_pos (by omega)]
        · rw [if_neg h6, if_neg h6]; exact ⟨rfl, hx⟩
theorem do1_other (co : Co) (h8 : co.cells.length = 8) (t : Nat) (a : ActM) (ha : a.tenant ≠ t) (h3 : a.kind ≠ 3) : (co.do1 a).2.x t = co.x t ∧ (co.do1 a).2.told = co.told ∧ (co.do1 a).2.pots = co.pots ∧ (co.do1 a).2.ticks = co.ticks := by
  unfold Co.do1
  rw [if_neg h3]
  by_cases h1 : a.kind = 1
  · rw [if_pos h1]
    obtain ⟨a1, a2, a3, a4, a5⟩ := reg_s co a.tenant a.p
    refine ⟨?_, a2, a5, a3⟩
    unfold Co.reg
    split
    · rfl
    · split
      · rfl
      · split
        · rfl
        · dsimp only
          rw [set_x co h8 _ (by omega), if_neg (by omega)]
  · rw [if_neg h1]
    split
    · exact ⟨rfl, rfl, rfl, rfl⟩
    · split
      · exact ⟨rfl, rfl, rfl, rfl⟩
      · split
        · exact ⟨rfl, rfl, rfl, rfl⟩
        · rename_i c hc
          split
          · refine ⟨?_, rfl, rfl, rfl⟩
            rcases at_cases a.tenant with ⟨u, hu, e⟩ | hn
            · dsimp only
              rw [e, Int.toNat_natCast, set_x co h8 u hu, if_neg (by omega)]
            · rw [at_out co _ hn] at hc; cases hc
          · exact ⟨rfl, rfl, rfl, rfl⟩
theorem do1_rest (co : Co) (a : ActM) (h3 : a.kind ≠ 3) : (co.do1 a).2.told = co.told ∧ (co.do1 a).2.pots = co.pots ∧ (co.do1 a).2.ticks = co.ticks := by
  unfold Co.do1
  rw [if_neg h3]
  split
  · obtain ⟨a1, a2, a3, a4, a5⟩ := reg_s co a.tenant a.p
    exact ⟨a2, a5, a3⟩
  · split
    · exact ⟨rfl, rfl, rfl⟩
    · split
      · exact ⟨rfl, rfl, rfl⟩
      · split
        · exact ⟨rfl, rfl, rfl⟩
        · split <;> exact ⟨rfl, rfl, rfl⟩
/-- A tenant without a feed: what a tick does to it. -/
theorem steps_alone (t : Nat) (is : List Nat) : ∀ (co : Co) (c : Cl), co.x t = some c → c.p.feed = -1 → (is.foldl Co.sinkStep co).x t = some c := by
  induction is with
  | nil => exact fun co c hc _ => hc
  | cons i is ih =>
    intro co c hc hf
    refine ih _ c ?_ hf
    unfold Co.sinkStep
    dsimp only
    split
    · split
      · exact hc
      · rw [feed_x]
        show Option.map _ (co.x t) = _
        rw [hc]
        show some _ = some c
        unfold feedCl
        rw [if_neg]
        intro h
        simp only [Bool.and_eq_true, beq_iff_eq] at h
        have : (tellP (co.pots.getD i Pot.zero) (co.s.sinks.getD i Sk.zero) i ((co.ticks : Int) / (co.s.sinks.getD i Sk.zero).ticks - 1)).sink = (i : Int) := by unfold tellP; split <;> rfl
        have h2 := h.2
        rw [hf, this] at h2
        omega
    · exact hc
theorem steps_none (t : Nat) (is : List Nat) : ∀ (co : Co), co.x t = none → (is.foldl Co.sinkStep co).x t = none := by
  induction is with
  | nil => exact fun co hc => hc
  | cons i is ih =>
    intro co hc
    refine ih _ ?_
    unfold Co.sinkStep
    dsimp only
    split
    · split
      · exact hc
      · rw [feed_x]
        show Option.map _ (co.x t) = _
        rw [hc]
        rfl
    · exact hc
def Su.servN (s : Su) (c : Cl) : Nat := (max 0 (min s.budget c.q.length)).toNat
theorem tick_alone (co : Co) (h8 : co.cells.length = 8) (t : Nat) (hf : ∀ c, co.x t = some c → c.p.feed = -1) : co.tick.x t = (co.x t).map fun c => c.serve (co.s.servN c) := by
  have h1 := serve_x co h8 t
  have h0 : (fun c : Cl => c.serve (co.servN c)) = fun c => c.serve (co.s.servN c) := rfl
  rw [h0] at h1
  unfold Co.tick Co.sinksK
  generalize co.serveK 8 = c1 at *
  have h2 : c1.late.x t = c1.x t := rfl
  cases hx : co.x t with
  | none =>
    rw [hx] at h1
    exact steps_none t _ _ (h2.trans h1)
  | some c =>
    rw [hx] at h1
    exact steps_alone t _ _ _ (h2.trans h1) (hf c hx)
end Go.Proofs.YtdncpihaeobaeaaGreat
