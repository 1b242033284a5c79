/- The plain law of CoreStill. -/
import Derived.Test.YtpkpcomocimghaaGreatFullLaw
set_option linter.unusedVariables false
set_option linter.unusedSimpArgs false
namespace Go.Proofs.YtpkpcomocimghaaGreat
open Go.RowKit
def bit1 (dst : Int) (t : Nat) : Bool := hasB dst t
def wantS (l : List Sk) (t : Nat) (m : Nat) : Nat := (l.map fun k => if bit1 k.dst t then m / k.ticks.toNat else 0).sum
/-- A core of which nothing came but ticks. -/
structure stillAt (co : Co) (s : Su) (m : Nat) : Prop where
  good : co.good
  su : co.s = s
  cells : ∀ t, co.x t = none
  pots : co.pots = s.sinks.map newPot
  ticks : co.ticks = m
  told : ∀ t, t < 8 → (co.told.getD t []).length = wantS s.sinks t m ∧ ∀ r ∈ co.told.getD t [], r.hidden = true ∧ r.value = 0
theorem sum_zero (l : List Sk) (f : Sk → Nat) (h : ∀ k ∈ l, f k = 0) : (l.map f).sum = 0 := by
  induction l with
  | nil => rfl
  | cons k l ih =>
    rw [List.map_cons, List.sum_cons, h k (by simp), ih fun k hk => h k (by simp [hk])]
theorem still_start (s : Su) (hs : rightSu s = true) : stillAt (newCo s) s 0 := by
  refine ⟨newCo_good s hs, rfl, ?_, rfl, rfl, ?_⟩
  · intro t
    show (List.replicate 8 none).getD t none = none
    rw [List.getD_eq_getElem?_getD, List.getElem?_replicate]
    split <;> rfl
  · intro t ht
    have e : (newCo s).told.getD t [] = [] := by
      show (List.replicate 8 []).getD t [] = []
      rw [List.getD_eq_getElem?_getD, List.getElem?_replicate]
      split <;> rfl
    rw [e]
    refine ⟨?_, fun r hr => by simp at hr⟩
    unfold wantS
    rw [sum_zero _ _ fun k _ => by split <;> simp]
    rfl
theorem turn_none (co : Co) (j : Nat) (h : co.x j = none) : co.turn j = co := by
  unfold Co.turn
  rw [show co.cells.getD j none = none from h]
theorem turns_none (js : List Nat) : ∀ (co : Co), (∀ t, co.x t = none) → js.foldl Co.turn co = co := by
  induction js with
  | nil => exact fun _ _ => rfl
  | cons j js ih =>
    intro co h
    rw [List.foldl_cons, turn_none co j (h j)]
    exact ih co h
theorem map_set_same {α β : Type} (f : α → β) (l : List α) (i : Nat) (d : α) (hi : i < l.length) : (l.map f).set i (f (l.getD i d)) = l.map f := by
  apply List.ext_getElem
  · simp
  · intro n h1 h2
    rw [List.getElem_set]
    split
    · rename_i e
      subst e
      simp [List.getD_eq_getElem?_getD, hi]
    · rfl
/-- Between the sinks of one tick. -/
structure midAt (co : Co) (s : Su) (m : Nat) (k : Nat) : Prop where
  good : co.good
  su : co.s = s
  cells : ∀ t, co.x t = none
  pots : co.pots = s.sinks.map newPot
  ticks : co.ticks = m
  told : ∀ t, t < 8 → (co.told.getD t []).length = wantS (s.sinks.take k) t m + wantS (s.sinks.drop k) t (m - 1) ∧ ∀ r ∈ co.told.getD t [], r.hidden = true ∧ r.value = 0
theorem mid_step (co : Co) (s : Su) (m k : Nat) (hm : 1 ≤ m) (hk : k < s.sinks.length) (hr : ∀ x ∈ s.sinks, 1 ≤ x.ticks ∧ 2 ≤ x.least) (h : midAt co s m k) : midAt (co.sinkStep k) s m (k + 1) := by
  obtain ⟨x, hx⟩ : ∃ x, s.sinks[k] = x := ⟨_, rfl⟩
  have hgx : s.sinks.getD k Sk.zero = x := by rw [List.getD_eq_getElem?_getD, List.getElem?_eq_getElem hk, hx]; rfl
  obtain ⟨ht1, hl2⟩ := hr x (by rw [← hx]; exact List.getElem_mem hk)
  have hp : co.pots.getD k Pot.zero = newPot x := by
    rw [h.pots, List.getD_eq_getElem?_getD, List.getElem?_map, List.getElem?_eq_getElem hk, hx]; rfl
  have hte : tellP (newPot x) x (k : Int) ((m : Int) / x.ticks - 1) = ⟨k, (m : Int) / x.ticks - 1, 0, true⟩ := by
    unfold tellP
    rw [if_pos]
    have : popc (newPot x).who = 0 := by show popc 0 = 0; decide +kernel
    omega
  have htk : s.sinks.take (k + 1) = s.sinks.take k ++ [x] := by rw [List.take_add_one, List.getElem?_eq_getElem hk, hx]; rfl
  have hdk : s.sinks.drop k = x :: s.sinks.drop (k + 1) := by rw [List.drop_eq_getElem_cons hk, hx]
  have hw : ∀ t, wantS (s.sinks.take (k + 1)) t m = wantS (s.sinks.take k) t m + (if bit1 x.dst t then m / x.ticks.toNat else 0) := fun t => by
    rw [htk]; unfold wantS; simp
  have hd : ∀ t, wantS (s.sinks.drop k) t (m - 1) = (if bit1 x.dst t then (m - 1) / x.ticks.toNat else 0) + wantS (s.sinks.drop (k + 1)) t (m - 1) := fun t => by
    rw [hdk]; unfold wantS; simp
  obtain ⟨T, hT⟩ : ∃ T, x.ticks.toNat = T := ⟨_, rfl⟩
  have hT1 : 1 ≤ T := by omega
  have hTx : x.ticks = (T : Int) := by omega
  have hdiv : m / T = (m - 1) / T + if T ∣ m then 1 else 0 := by
    obtain ⟨n, rfl⟩ : ∃ n, m = n + 1 := ⟨m - 1, by omega⟩
    exact Nat.succ_div
  have hep : epochB x m = decide (T ∣ m) := by
    unfold epochB
    rw [hTx]
    have e1 : decide (1 ≤ (m : Int)) = true := by simp; omega
    have e2 : decide (1 ≤ (T : Int)) = true := by simp; omega
    rw [e1, e2]
    simp only [Bool.true_and]
    rw [Bool.eq_iff_iff]
    simp only [beq_iff_eq, decide_eq_true_eq]
    constructor
    · intro h
      have : ((T : Int) ∣ m) := Int.dvd_of_emod_eq_zero h
      exact Int.natCast_dvd_natCast.1 this
    · intro h
      exact Int.emod_eq_zero_of_dvd (Int.natCast_dvd_natCast.2 h)
  have hs8 := h.good.told
  rw [hT] at hw hd
  have g := good_sinkStep co h.good k
  unfold Co.sinkStep at g ⊢
  dsimp only at g ⊢
  rw [h.su, hgx, h.ticks, hep] at g ⊢
  by_cases hdv : T ∣ m
  · rw [if_pos (by simpa using hdv)] at g ⊢
    rw [if_pos hdv] at hdiv
    rw [hp, hte] at g ⊢
    dsimp only at g ⊢
    rw [if_pos rfl] at g ⊢
    refine ⟨g, rfl, h.cells, ?_, rfl, ?_⟩
    · dsimp only
      rw [h.pots, ← hgx]
      exact map_set_same newPot s.sinks k Sk.zero hk
    · intro t ht
      obtain ⟨i1, i2⟩ := h.told t ht
      have e : ((pinT x.dst ⟨k, (m : Int) / x.ticks - 1, 0, true⟩ co.told).getD t []) = if bit1 x.dst t then co.told.getD t [] ++ [⟨k, (m : Int) / x.ticks - 1, 0, true⟩] else co.told.getD t [] := by
        unfold pinT bit1
        rw [List.getD_eq_getElem?_getD, List.getElem?_mapIdx, List.getD_eq_getElem?_getD, List.getElem?_eq_getElem (by omega)]
        rfl
      dsimp only
      rw [hTx] at e
      rw [hTx, e, hw]
      rw [hd] at i1
      by_cases hb : bit1 x.dst t = true
      · rw [if_pos hb, if_pos hb]
        rw [if_pos hb] at i1
        refine ⟨by rw [List.length_append, i1]; simp; omega, ?_⟩
        intro r hr
        rcases List.mem_append.1 hr with hr | hr
        · exact i2 r hr
        · simp at hr
          subst hr
          exact ⟨rfl, rfl⟩
      · rw [if_neg hb, if_neg hb]
        rw [if_neg hb] at i1
        exact ⟨by rw [i1]; omega, i2⟩
  · rw [if_neg (by simpa using hdv)] at g ⊢
    rw [if_neg hdv] at hdiv
    refine ⟨g, h.su, h.cells, h.pots, h.ticks, ?_⟩
    intro t ht
    obtain ⟨i1, i2⟩ := h.told t ht
    rw [hw]
    rw [hd] at i1
    refine ⟨?_, i2⟩
    rw [i1]
    split <;> omega
theorem mid_steps (s : Su) (m : Nat) (hm : 1 ≤ m) (hr : ∀ x ∈ s.sinks, 1 ≤ x.ticks ∧ 2 ≤ x.least) (co : Co) (h : midAt co s m 0) : ∀ k, k ≤ s.sinks.length → midAt (co.sinksK k) s m k := by
  intro k
  induction k with
  | zero => exact fun _ => h
  | succ k ih =>
    intro hk
    have e : co.sinksK (k + 1) = (co.sinksK k).sinkStep k := by unfold Co.sinksK; rw [List.range_succ, List.foldl_append]; rfl
    rw [e]
    exact mid_step _ s m k hm (by omega) hr (ih (by omega))
theorem still_tick (co : Co) (s : Su) (m : Nat) (hr : ∀ x ∈ s.sinks, 1 ≤ x.ticks ∧ 2 ≤ x.least) (h : stillAt co s m) : stillAt (co.do1 tickF).2 s (m + 1) := by
  have e : (co.do1 tickF).2 = co.tick := rfl
  rw [e]
  have hg := good_tick co h.good
  have e1 : co.serveK 8 = co := by rw [serveK_eq]; exact turns_none _ co h.cells
  have e2 : co.tick = co.late.sinksK s.sinks.length := by unfold Co.tick; rw [e1, h.su]
  rw [e2]
  have h0 : midAt co.late s (m + 1) 0 := ⟨good_late co h.good, h.su, h.cells, h.pots, by show co.ticks + 1 = _; rw [h.ticks], fun t ht => by
    obtain ⟨i1, i2⟩ := h.told t ht
    refine ⟨?_, i2⟩
    rw [List.take_zero, List.drop_zero]
    show (co.told.getD t []).length = _
    rw [i1]
    simp [wantS]⟩
  obtain ⟨g1, g2, g3, g4, g5, g6⟩ := mid_steps s (m + 1) (by omega) hr co.late h0 s.sinks.length (Nat.le_refl _)
  refine ⟨g1, g2, g3, g4, g5, fun t ht => ?_⟩
  obtain ⟨i1, i2⟩ := g6 t ht
  refine ⟨?_, i2⟩
  rw [i1, List.take_length, List.drop_length]
  simp [wantS]
def toldF (t : Nat) (got : Int) : ActM := ⟨5, t, got, 99, Pp.zero, Inp.zero⟩
def pollF (t : Nat) : ActM := ⟨4, t, 0, 0, Pp.zero, Inp.zero⟩
theorem still_told (co : Co) (s : Su) (m t got : Nat) (ht : t < 8) (h : stillAt co s m) (hg : got ≤ wantS s.sinks t m) : (co.do1 (toldF t got)).2 = co ∧ (co.do1 (toldF t got)).1.told.length = min 32 (wantS s.sinks t m - got) ∧ ∀ r ∈ (co.do1 (toldF t got)).1.told, r.hidden = true ∧ r.value = 0 := by
  obtain ⟨i1, i2⟩ := h.told t ht
  have e : co.do1 (toldF t got) = (⟨(co.toldB t got 99).2, [], (co.toldB t got 99).1⟩, co) := rfl
  rw [e]
  have e1 : co.toldB t got 99 = (((co.told.getD t []).drop got).take (max 0 (min (min (99 : Int) 32) (((co.told.getD t []).length : Int) - got))).toNat, 0) := by
    unfold Co.toldB
    rw [if_pos (by omega), Int.toNat_natCast]
    unfold tellT
    rw [if_neg (by omega), Int.toNat_natCast]
  dsimp only
  rw [e1]
  refine ⟨rfl, ?_, ?_⟩
  · dsimp only
    rw [List.length_take, List.length_drop, i1]
    omega
  · intro r hr
    exact i2 r (List.mem_of_mem_drop (List.mem_of_mem_take hr))
theorem still_poll (co : Co) (s : Su) (m t : Nat) (ht : t < 8) (h : stillAt co s m) : (co.do1 (pollF t)).2 = co ∧ (co.do1 (pollF t)).1.err = 2 := by
  have e : co.do1 (pollF t) = match co.at (t : Int) with
    | none => (⟨2, [], []⟩, co)
    | some c => (⟨(tellR c.rows 0 0).2, (tellR c.rows 0 0).1, []⟩, co) := by
    unfold Co.do1 pollF
    dsimp only
    cases co.at (t : Int) <;> rfl
  rw [e, at_x co t ht, h.cells t]
  exact ⟨rfl, rfl⟩
theorem bit1_shift : ∀ dst : Fin 256, ∀ t : Fin 8, hasB (dst.val : Int) (t.val : Int) = (bits .and .u64 (IntKind.u64.wrap ((dst.val : Int) / 2 ^ t.val)) 1 == 1) := by decide +kernel
theorem wantS_le (s : Su) (t m : Nat) : wantS s.sinks t m ≤ s.sinks.length * m := by
  unfold wantS
  induction s.sinks with
  | nil => simp
  | cons k l ih =>
    rw [List.map_cons, List.sum_cons, List.length_cons, Nat.add_mul, Nat.one_mul]
    have : (if bit1 k.dst t then m / k.ticks.toNat else 0) ≤ m := by
      split
      · exact Nat.div_le_self _ _
      · omega
    omega
end Go.Proofs.YtpkpcomocimghaaGreat
