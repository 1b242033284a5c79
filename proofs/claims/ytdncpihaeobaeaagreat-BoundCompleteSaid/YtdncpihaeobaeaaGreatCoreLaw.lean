/- Plain laws of the core: what a tick does to one tenant's cell; an act turns its own tenant alone. -/
import Derived.Test.YtdncpihaeobaeaaGreatCoreM
set_option linter.unusedVariables false
set_option linter.unusedSimpArgs false
namespace Go.Proofs.YtdncpihaeobaeaaGreat
open Go.RowKit
def Co.x (co : Co) (t : Nat) : Option Cl := co.cells.getD t none
theorem getD_set {α : Type} (l : List α) (i j : Nat) (x d : α) (hi : i < l.length) : (l.set i x).getD j d = if i = j then x else l.getD j d := by
  simp only [List.getD_eq_getElem?_getD, List.getElem?_set]
  split
  · rename_i e; subst e; simp [hi]
  · rfl
theorem getD_mapIdx {α : Type} (l : List (Option α)) (f : Nat → Option α → Option α) (hf : ∀ i, f i none = none) (j : Nat) : (l.mapIdx f).getD j none = f j (l.getD j none) := by
  simp only [List.getD_eq_getElem?_getD, List.getElem?_mapIdx]
  cases l[j]? with
  | none => simp [hf]
  | some x => rfl
theorem turn_s (co : Co) (j : Nat) : (co.turn j).s = co.s ∧ (co.turn j).told = co.told ∧ (co.turn j).ticks = co.ticks ∧ (co.turn j).cells.length = co.cells.length ∧ (co.turn j).pots.length = co.pots.length := by
  unfold Co.turn
  split
  · exact ⟨rfl, rfl, rfl, rfl, rfl⟩
  · refine ⟨rfl, rfl, rfl, by simp, ?_⟩
    dsimp only
    split <;> simp
theorem turn_x (co : Co) (j t : Nat) (hj : j < co.cells.length) : (co.turn j).x t = if j = t then (co.x t).map fun c => c.serve (co.servN c) else co.x t := by
  unfold Co.turn
  split
  · rename_i h
    split
    · rename_i e; subst e
      show co.cells.getD j none = Option.map _ (co.cells.getD j none)
      rw [h]; rfl
    · rfl
  · rename_i c h
    show (co.cells.set j _).getD t none = _
    rw [getD_set _ _ _ _ _ hj]
    split
    · rename_i e; subst e
      show _ = Option.map _ (co.cells.getD j none)
      rw [h]; rfl
    · rfl
theorem turns_s (js : List Nat) : ∀ co : Co, (js.foldl Co.turn co).s = co.s ∧ (js.foldl Co.turn co).told = co.told ∧ (js.foldl Co.turn co).ticks = co.ticks ∧ (js.foldl Co.turn co).cells.length = co.cells.length ∧ (js.foldl Co.turn co).pots.length = co.pots.length := by
  induction js with
  | nil => exact fun co => ⟨rfl, rfl, rfl, rfl, rfl⟩
  | cons j js ih =>
    intro co
    obtain ⟨a1, a2, a3, a4, a5⟩ := ih (co.turn j)
    obtain ⟨b1, b2, b3, b4, b5⟩ := turn_s co j
    exact ⟨a1.trans b1, a2.trans b2, a3.trans b3, a4.trans b4, a5.trans b5⟩
theorem turns_x (js : List Nat) (hd : js.Nodup) : ∀ (co : Co) (hl : ∀ j ∈ js, j < co.cells.length) (t : Nat), (js.foldl Co.turn co).x t = if t ∈ js then (co.x t).map fun c => c.serve (co.servN c) else co.x t := by
  induction js with
  | nil => intro co _ t; simp
  | cons j js ih =>
    intro co hl t
    obtain ⟨b1, _, _, b4, _⟩ := turn_s co j
    have h1 := ih (List.nodup_cons.1 hd).2 (co.turn j) (fun i hi => by rw [b4]; exact hl i (List.mem_cons_of_mem _ hi)) t
    rw [List.foldl_cons, h1, turn_x co j t (hl j (List.mem_cons_self ..))]
    have hsv : ∀ c, (co.turn j).servN c = co.servN c := fun c => by unfold Co.servN; rw [b1]
    by_cases e : j = t
    · subst e
      rw [if_neg (List.nodup_cons.1 hd).1, if_pos rfl, if_pos (List.mem_cons_self ..)]
    · rw [if_neg e]
      simp only [hsv, List.mem_cons]
      by_cases h : t ∈ js
      · rw [if_pos h, if_pos (.inr h)]
      · rw [if_neg h, if_neg (by rintro (h' | h'); exact e h'.symm; exact h h')]
theorem serveK_eq (co : Co) (k : Nat) : co.serveK k = ((List.range k).map fun i => (co.ticks + i) % 8).foldl Co.turn co := by
  unfold Co.serveK
  rw [List.foldl_map]
theorem order_all (T : Nat) : ((List.range 8).map fun i => (T + i) % 8).Nodup ∧ ∀ j, j < 8 → j ∈ ((List.range 8).map fun i => (T + i) % 8) := by
  have h : ((List.range 8).map fun i => (T + i) % 8) = (List.range 8).map fun i => (T % 8 + i) % 8 := List.map_congr_left fun i _ => by omega
  rw [h]
  have h8 : T % 8 < 8 := Nat.mod_lt _ (by omega)
  generalize T % 8 = r at *
  clear h
  revert r
  decide
theorem serve_s (co : Co) (k : Nat) : (co.serveK k).s = co.s ∧ (co.serveK k).told = co.told ∧ (co.serveK k).ticks = co.ticks ∧ (co.serveK k).cells.length = co.cells.length ∧ (co.serveK k).pots.length = co.pots.length := by
  rw [serveK_eq]
  exact turns_s _ _
theorem x_out (co : Co) (h8 : co.cells.length = 8) (t : Nat) (ht : 8 ≤ t) : co.x t = none := by
  unfold Co.x
  rw [List.getD_eq_getElem?_getD, List.getElem?_eq_none (by omega)]
  rfl
theorem serve_x (co : Co) (h8 : co.cells.length = 8) (t : Nat) : (co.serveK 8).x t = (co.x t).map fun c => c.serve (co.servN c) := by
  obtain ⟨h1, h2⟩ := order_all co.ticks
  rw [serveK_eq, turns_x _ h1 co (by
    intro j hj
    obtain ⟨i, _, rfl⟩ := List.mem_map.1 hj
    rw [h8]
    exact Nat.mod_lt _ (by omega)) t]
  by_cases ht : t < 8
  · rw [if_pos (h2 t ht)]
  · rw [x_out co h8 t (by omega)]
    split <;> rfl
theorem serveK_x (co : Co) (h8 : co.cells.length = 8) (k : Nat) (hk : k < 8) : (co.serveK k).x ((co.ticks + k) % 8) = co.x ((co.ticks + k) % 8) := by
  obtain ⟨h1, _⟩ := order_all co.ticks
  have e : List.range 8 = List.range k ++ (List.range (8 - k)).map (k + ·) := by rw [← List.range_add]; congr 1; omega
  rw [e, List.map_append] at h1
  have h3 := List.nodup_append.1 h1
  rw [serveK_eq, turns_x _ h3.1 co (by
    intro j hj
    obtain ⟨i, _, rfl⟩ := List.mem_map.1 hj
    rw [h8]
    exact Nat.mod_lt _ (by omega)), if_neg]
  intro hm
  refine h3.2.2 _ hm _ (List.mem_map.2 ⟨k, List.mem_map.2 ⟨0, List.mem_range.2 (by omega), rfl⟩, rfl⟩) rfl
theorem feed_x (co : Co) (r : Rel) (t : Nat) : (co.feed r).x t = (co.x t).map (feedCl (co.s.sinks.getD r.sink.toNat Sk.zero) r t) := by
  show (co.cells.mapIdx _).getD t none = _
  rw [getD_mapIdx]
  · rfl
  · intro i; rfl
theorem feed_s (co : Co) (r : Rel) : (co.feed r).s = co.s ∧ (co.feed r).told = co.told ∧ (co.feed r).ticks = co.ticks ∧ (co.feed r).cells.length = co.cells.length ∧ (co.feed r).pots = co.pots := ⟨rfl, rfl, rfl, by simp [Co.feed], rfl⟩
theorem pinT_len (dst : Int) (r : Rel) (T : List (List Rel)) : (pinT dst r T).length = T.length := by simp [pinT]
theorem sinkStep_s (co : Co) (i : Nat) : (co.sinkStep i).s = co.s ∧ (co.sinkStep i).told.length = co.told.length ∧ (co.sinkStep i).ticks = co.ticks ∧ (co.sinkStep i).cells.length = co.cells.length ∧ (co.sinkStep i).pots.length = co.pots.length := by
  unfold Co.sinkStep
  dsimp only
  split
  · split
    · exact ⟨rfl, pinT_len .., rfl, rfl, by simp⟩
    · refine ⟨rfl, pinT_len .., rfl, by simp [Co.feed], by simp [Co.feed]⟩
  · exact ⟨rfl, rfl, rfl, rfl, rfl⟩
theorem steps_s (is : List Nat) : ∀ co : Co, (is.foldl Co.sinkStep co).s = co.s ∧ (is.foldl Co.sinkStep co).told.length = co.told.length ∧ (is.foldl Co.sinkStep co).ticks = co.ticks ∧ (is.foldl Co.sinkStep co).cells.length = co.cells.length ∧ (is.foldl Co.sinkStep co).pots.length = co.pots.length := by
  induction is with
  | nil => exact fun co => ⟨rfl, rfl, rfl, rfl, rfl⟩
  | cons i is ih =>
    intro co
    obtain ⟨a1, a2, a3, a4, a5⟩ := ih (co.sinkStep i)
    obtain ⟨b1, b2, b3, b4, b5⟩ := sinkStep_s co i
    exact ⟨a1.trans b1, a2.trans b2, a3.trans b3, a4.trans b4, a5.trans b5⟩
theorem tick_s (co : Co) : co.tick.s = co.s ∧ co.tick.told.length = co.told.length ∧ co.tick.ticks = co.ticks + 1 ∧ co.tick.cells.length = co.cells.length ∧ co.tick.pots.length = co.pots.length := by
  obtain ⟨b1, b2, b3, b4, b5⟩ := serve_s co 8
  unfold Co.tick Co.sinksK
  generalize co.serveK 8 = c1 at *
  obtain ⟨a1, a2, a3, a4, a5⟩ := steps_s (List.range co.s.sinks.length) c1.late
  rw [a1, a2, a3, a4, a5]
  exact ⟨b1, congrArg List.length b2, congrArg (· + 1) b3, b4, b5⟩
theorem reg_s (co : Co) (t : Int) (p : Pp) : (co.reg t p).2.s = co.s ∧ (co.reg t p).2.told = co.told ∧ (co.reg t p).2.ticks = co.ticks ∧ (co.reg t p).2.cells.length = co.cells.length ∧ (co.reg t p).2.pots = co.pots := by
  unfold Co.reg
  split
  · exact ⟨rfl, rfl, rfl, rfl, rfl⟩
  · split
    · exact ⟨rfl, rfl, rfl, rfl, rfl⟩
    · split
      · exact ⟨rfl, rfl, rfl, rfl, rfl⟩
      · exact ⟨rfl, rfl, rfl, by simp, rfl⟩
theorem do1_s (co : Co) (a : ActM) : (co.do1 a).2.s = co.s ∧ (co.do1 a).2.told.length = co.told.length ∧ (co.do1 a).2.cells.length = co.cells.length ∧ (co.do1 a).2.pots.length = co.pots.length := by
  unfold Co.do1
  split
  · obtain ⟨a1, a2, a3, a4, a5⟩ := reg_s co a.tenant a.p
    exact ⟨a1, by rw [a2], a4, by rw [a5]⟩
  · split
    · obtain ⟨a1, a2, a3, a4, a5⟩ := tick_s co
      exact ⟨a1, a2, a4, a5⟩
    · split
      · exact ⟨rfl, rfl, rfl, rfl⟩
      · split
        · exact ⟨rfl, rfl, rfl, rfl⟩
        · split
          · exact ⟨rfl, rfl, rfl, rfl⟩
          · split
            · exact ⟨rfl, rfl, by simp, rfl⟩
            · exact ⟨rfl, rfl, rfl, rfl⟩
theorem doAll_append (l m : List ActM) : ∀ co : Co, co.doAll (l ++ m) = (co.ans l ++ (co.after l).ans m, (co.after l).after m) := by
  induction l with
  | nil => intro co; rfl
  | cons a l ih =>
    intro co
    show (_ :: ((co.do1 a).2.doAll (l ++ m)).1, ((co.do1 a).2.doAll (l ++ m)).2) = _
    rw [ih]
    rfl
theorem ans_append (co : Co) (l m : List ActM) : co.ans (l ++ m) = co.ans l ++ (co.after l).ans m := by unfold Co.ans; rw [doAll_append]; rfl
theorem after_append (co : Co) (l m : List ActM) : co.after (l ++ m) = (co.after l).after m := by unfold Co.after; rw [doAll_append]; rfl
theorem ans_len (l : List ActM) : ∀ co : Co, (co.ans l).length = l.length := by
  induction l with
  | nil => intro co; rfl
  | cons a l ih => intro co; show (_ :: (co.do1 a).2.ans l).length = _; rw [List.length_cons, ih, List.length_cons]
theorem after_s (l : List ActM) : ∀ co : Co, (co.after l).s = co.s ∧ (co.after l).told.length = co.told.length ∧ (co.after l).cells.length = co.cells.length ∧ (co.after l).pots.length = co.pots.length := by
  induction l with
  | nil => exact fun co => ⟨rfl, rfl, rfl, rfl⟩
  | cons a l ih =>
    intro co
    obtain ⟨a1, a2, a3, a4⟩ := ih (co.do1 a).2
    obtain ⟨b1, b2, b3, b4⟩ := do1_s co a
    exact ⟨a1.trans b1, a2.trans b2, a3.trans b3, a4.trans b4⟩
end Go.Proofs.YtdncpihaeobaeaaGreat
