/- The plain law of PanesKeys. -/
import Derived.Test.YtapmfekeooeinaaPanesClose
set_option linter.unusedVariables false
namespace Go.Proofs.Ytapmfekeooeinaa
open Go.RowKit Go.Maps
/-- the windows of one key -/
def oneL (key : Int) (L : PL) : PL := L.filter fun q => decide (q.1.1.2 = key)
theorem oneL_cons (key : Int) (q : Pl × Pn) (L : PL) : oneL key (q :: L) = if q.1.1.2 = key then q :: oneL key L else oneL key L := by
  unfold oneL
  rw [List.filter_cons]
  simp
theorem oneL_sorted {key : Int} {L : PL} (h : SortedL L) : SortedL (oneL key L) := List.Pairwise.filter _ h
theorem lookL_cons (q : Pl × Pn) (L : PL) (p : Pl) : lookL (q :: L) p = if q.1 = p then some q.2 else lookL L p := by
  unfold lookL
  rw [List.find?_cons]
  by_cases h : q.1 = p <;> simp [h]
theorem lookL_one {key : Int} {p : Pl} (hp : p.1.2 = key) : ∀ L : PL, lookL (oneL key L) p = lookL L p
  | [] => rfl
  | q :: L => by
    rw [oneL_cons, lookL_cons]
    by_cases h : q.1.1.2 = key
    · rw [if_pos h, lookL_cons, lookL_one hp L]
    · have hn : ¬ q.1 = p := fun e => h (by rw [e]; exact hp)
      rw [if_neg h, if_neg hn, lookL_one hp L]
theorem insL_cons (q : Pl × Pn) (L : PL) (p : Pl) (x : Pn) : insL (q :: L) p x = if q.1 = p then (p, x) :: L else if ltP q.1 p then q :: insL L p x else (p, x) :: q :: L := rfl
theorem insL_one_ne {key : Int} {p : Pl} {x : Pn} (hp : p.1.2 ≠ key) : ∀ L : PL, oneL key (insL L p x) = oneL key L
  | [] => by simp [insL, oneL, hp]
  | q :: L => by
    rw [insL_cons]
    by_cases h1 : q.1 = p
    · rw [if_pos h1, oneL_cons, oneL_cons, if_neg hp, if_neg (h1 ▸ hp)]
    · rw [if_neg h1]
      by_cases h2 : ltP q.1 p
      · rw [if_pos h2, oneL_cons, oneL_cons, insL_one_ne hp L]
      · rw [if_neg h2, oneL_cons, if_neg hp]
theorem insL_low {p : Pl} {x : Pn} : ∀ {L : PL}, (∀ q ∈ L, ltP p q.1) → insL L p x = (p, x) :: L
  | [], _ => rfl
  | q :: L, h => by
    have h1 := h q (by simp)
    have hn : ¬ q.1 = p := fun e => ltP_irrefl p (by rw [e] at h1; exact h1)
    have hm : ¬ ltP q.1 p := fun h2 => ltP_irrefl p (ltP_trans h1 h2)
    rw [insL_cons, if_neg hn, if_neg hm]
theorem insL_one {key : Int} {p : Pl} {x : Pn} (hp : p.1.2 = key) : ∀ {L : PL}, SortedL L → oneL key (insL L p x) = insL (oneL key L) p x
  | [], _ => by simp [insL, oneL, hp]
  | q :: L, hs => by
    have hs' := List.pairwise_cons.1 hs
    rw [insL_cons]
    by_cases h1 : q.1 = p
    · rw [if_pos h1, oneL_cons, oneL_cons, if_pos hp, if_pos (h1 ▸ hp), insL_cons, if_pos h1]
    · rw [if_neg h1]
      by_cases h2 : ltP q.1 p
      · rw [if_pos h2, oneL_cons, oneL_cons, insL_one hp hs'.2]
        by_cases h3 : q.1.1.2 = key
        · rw [if_pos h3, if_pos h3, insL_cons, if_neg h1, if_pos h2]
        · rw [if_neg h3, if_neg h3]
      · rw [if_neg h2, oneL_cons, if_pos hp]
        refine (insL_low fun r hr => ?_).symm
        have hr' := (List.mem_filter.1 hr).1
        have hpq := ltP_total h1 h2
        rcases List.mem_cons.1 hr' with rfl | h
        · exact hpq
        · exact ltP_trans hpq (hs'.1 r h)
theorem putS_one {kd key : Int} {L : PL} (hs : SortedL L) (e : Ev) (he : e.wf) {s : Int} (hw : (Lit.int .i64 s).wf = true) : oneL key (putS kd L e s) = if e.key = key then putS kd (oneL key L) e s else oneL key L := by
  unfold putS
  have hp : (plOf s e.key).1 = (s, e.key) := plOf_1 hw he.2.1
  by_cases h : e.key = key
  · rw [if_pos h, insL_one (by rw [hp]; exact h) hs, lookL_one (by rw [hp]; exact h)]
  · rw [if_neg h, insL_one_ne (by rw [hp]; exact h)]
theorem puts_one {kd key : Int} (e : Ev) (he : e.wf) : ∀ (ss : List Int) (L : PL), (∀ s ∈ ss, (Lit.int .i64 s).wf = true) → SortedL L → oneL key (ss.foldl (fun L s => putS kd L e s) L) = if e.key = key then ss.foldl (fun L s => putS kd L e s) (oneL key L) else oneL key L
  | [], L, _, _ => by simp
  | s :: ss, L, hw, hs => by
    rw [List.foldl_cons, puts_one e he ss _ (fun t h => hw t (by simp [h])) (putS_sorted hs e s), putS_one hs e he (hw s (by simp))]
    by_cases h : e.key = key
    · simp [h]
    · simp [h]
theorem putE_one {kd sz sl key : Int} {L : PL} (hs : SortedL L) (e : Ev) (he : e.wf) : oneL key (putE kd sz sl L e) = if e.key = key then putE kd sz sl (oneL key L) e else oneL key L :=
  puts_one e he _ L (fun s h => starts_wf h) hs
theorem putE_sorted {kd sz sl : Int} {L : PL} (hs : SortedL L) (e : Ev) : SortedL (putE kd sz sl L e) := by
  unfold putE
  generalize startsOf e.time sz sl = ss
  induction ss generalizing L with
  | nil => exact hs
  | cons s ss ih => exact ih (putS_sorted hs e s)
/-- one key's windows are what they are without the others -/
theorem putL_one {kd sz sl key : Int} : ∀ (es : List Ev) (L : PL), (∀ e ∈ es, e.wf) → SortedL L → oneL key (putL kd sz sl L es) = putL kd sz sl (oneL key L) (es.filter fun e => decide (e.key = key))
  | [], L, _, _ => rfl
  | e :: es, L, hw, hs => by
    show oneL key (putL kd sz sl (putE kd sz sl L e) es) = _
    rw [putL_one es _ (fun e h => hw e (by simp [h])) (putE_sorted hs e), putE_one hs e (hw e (by simp)), List.filter_cons]
    by_cases h : e.key = key
    · simp [h, putL]
    · simp [h]
theorem rightW_small {n s : Int} (h1 : 1 ≤ s) (h2 : s ≤ 20) (h3 : s ≤ n) (h4 : n ≤ 6 * s) : rightW n s := by
  refine ⟨h1, h3, by omega, ?_⟩
  unfold mostOf
  have : (n + s - 1) / s < 9 := Int.ediv_lt_of_lt_mul (by omega) (by omega)
  omega
theorem winds_has {last time size slide : Int} (h1 : 0 ≤ last) (h2 : time - size < last) : ∀ n : Nat, 1 ≤ n → last ∈ winds last time size slide n
  | 0, h => absurd h (by omega)
  | 1, _ => by
    unfold winds
    rw [show ((0 : Nat) : Int) * slide = 0 by simp, Int.sub_zero, if_pos ⟨h1, h2⟩]
    simp
  | n + 2, _ => by
    unfold winds
    exact List.mem_append.2 (.inr (winds_has h1 h2 (n + 1) (by omega)))
theorem starts_has {t n s : Int} (hr : rightW n s) (h0 : 0 ≤ t) (h1 : t ≤ 1099511627776) : t - t % s ∈ startsOf t n s := by
  unfold startsOf
  rw [if_pos ⟨hr, h0, h1⟩]
  have h2 := Int.emod_nonneg t (show s ≠ 0 by have := hr.1; omega)
  have h3 := Int.emod_lt_of_pos t (show 0 < s by have := hr.1; omega)
  have h4 : t % s ≤ t := by
    have e := Int.mul_ediv_add_emod t s
    have := Int.mul_nonneg (show 0 ≤ s by have := hr.1; omega) (Int.ediv_nonneg h0 (show 0 ≤ s by have := hr.1; omega))
    omega
  have h5 := (mostOf_mul hr.1 hr.2.1).2.2
  exact winds_has (by omega) (by have := hr.2.1; omega) _ (by omega)
/-- a key is met in the windows -/
def hasKey (L : PL) (x : Int) : Bool := L.any fun q => q.1.1.2 == x
theorem hasKey_iff {L : PL} {x : Int} : hasKey L x = true ↔ ∃ q y, (q, y) ∈ L ∧ q.1.2 = x := by
  unfold hasKey
  rw [List.any_eq_true]
  constructor
  · rintro ⟨⟨q, y⟩, h1, h2⟩
    exact ⟨q, y, h1, by simpa using h2⟩
  · rintro ⟨q, y, h1, h2⟩
    exact ⟨(q, y), h1, by simpa using h2⟩
theorem hasKey_ins {L : PL} (hs : SortedL L) (p : Pl) (v : Pn) (x : Int) : hasKey (insL L p v) x = (hasKey L x || p.1.2 == x) := by
  rw [Bool.eq_iff_iff, Bool.or_eq_true, hasKey_iff, hasKey_iff]
  constructor
  · rintro ⟨q, y, h1, h2⟩
    rcases (mem_insL hs q y).1 h1 with ⟨rfl, rfl⟩ | ⟨_, h⟩
    · exact .inr (by simpa using h2)
    · exact .inl ⟨q, y, h, h2⟩
  · rintro (⟨q, y, h1, h2⟩ | h)
    · by_cases he : q = p
      · subst he
        exact ⟨q, v, (mem_insL hs q v).2 (.inl ⟨rfl, rfl⟩), h2⟩
      · exact ⟨q, y, (mem_insL hs q y).2 (.inr ⟨he, h1⟩), h2⟩
    · exact ⟨p, v, (mem_insL hs p v).2 (.inl ⟨rfl, rfl⟩), by simpa using h⟩
theorem hasKey_puts {kd : Int} (e : Ev) (he : e.wf) (x : Int) : ∀ (ss : List Int) (L : PL), (∀ s ∈ ss, (Lit.int .i64 s).wf = true) → SortedL L → ss ≠ [] → hasKey (ss.foldl (fun L s => putS kd L e s) L) x = (hasKey L x || e.key == x)
  | [], _, _, _, h => absurd rfl h
  | s :: ss, L, hw, hs, _ => by
    have h1 : hasKey (putS kd L e s) x = (hasKey L x || e.key == x) := by
      unfold putS
      rw [hasKey_ins hs, plOf_1 (hw s (by simp)) he.2.1]
    rw [List.foldl_cons]
    by_cases hn : ss = []
    · subst hn
      exact h1
    · rw [hasKey_puts e he x ss _ (fun t h => hw t (by simp [h])) (putS_sorted hs e s) hn, h1]
      cases hasKey L x <;> cases (e.key == x) <;> rfl
theorem hasKey_putL {kd n s : Int} (hr : rightW n s) (x : Int) : ∀ (es : List Ev) (L : PL), (∀ e ∈ es, e.wf ∧ 0 ≤ e.time ∧ e.time ≤ 1099511627776) → SortedL L → hasKey (putL kd n s L es) x = (hasKey L x || es.any fun e => e.key == x)
  | [], L, _, _ => by simp [putL]
  | e :: es, L, hw, hs => by
    have h1 := hw e (by simp)
    show hasKey (putL kd n s (putE kd n s L e) es) x = _
    rw [hasKey_putL hr x es _ (fun e h => hw e (by simp [h])) (putE_sorted hs e)]
    have h2 : hasKey (putE kd n s L e) x = (hasKey L x || e.key == x) :=
      hasKey_puts e h1.1 x _ L (fun t h => starts_wf h) hs (List.ne_nil_of_mem (starts_has hr h1.2.1 h1.2.2))
    rw [h2, List.any_cons, Bool.or_assoc]
theorem rows_one (key : Int) (L : PL) : (rowsL L).filter (fun r => decide (r.key = key)) = rowsL (oneL key L) := by
  unfold rowsL oneL
  rw [List.filter_map]
  rfl
theorem rows_any (x : Int) (L : PL) : (rowsL L).any (fun r => r.key == x) = hasKey L x := by
  unfold rowsL hasKey
  rw [List.any_map]
  rfl
end Go.Proofs.Ytapmfekeooeinaa
