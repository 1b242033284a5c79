/- The plain law of RunnerLate: how often events are counted. -/
import Derived.Test.YthegopajkljlmaaPreLaw
set_option linter.unusedVariables false
namespace Go.Proofs.Ythegopajkljlmaa
open Go.RowKit Go.Maps
def totalL (L : PL) : Int := (L.map fun q => q.2.c).sum
theorem totalL_ins {p : Pl} {x : Pn} : ∀ {L : PL}, SortedL L → totalL (insL L p x) + ((lookL L p).getD Pn.zero).c = totalL L + x.c
  | [], _ => by simp [insL, lookL, totalL, Pn.zero]
  | q :: L, hs => by
    have hs' := List.pairwise_cons.1 hs
    have ih := totalL_ins (p := p) (x := x) hs'.2
    rw [insL_head, lookL_head]
    by_cases h1 : q.1 = p
    · rw [if_pos h1, if_pos h1]
      simp [totalL]
      omega
    · rw [if_neg h1, if_neg h1]
      by_cases h2 : ltP q.1 p
      · rw [if_pos h2]
        simp [totalL] at *
        omega
      · rw [if_neg h2]
        have hn : lookL L p = none := by
          rw [lookL_none hs'.2]
          intro y hy
          exact ltP_irrefl p (ltP_trans (ltP_total h1 h2) (hs'.1 _ hy))
        rw [hn] at *
        simp [totalL, Pn.zero] at *
        omega
theorem totalL_puts {kd : Int} (e : Ev) : ∀ (ss : List Int) (L : PL), SortedL L → totalL (ss.foldl (fun L s => putS kd L e s) L) = totalL L + ss.length
  | [], L, _ => by simp
  | s :: ss, L, hs => by
    rw [List.foldl_cons, totalL_puts e ss _ (putS_sorted hs e s)]
    have h := totalL_ins (p := plOf s e.key) (x := stepPn ((lookL L (plOf s e.key)).getD ⟨0, kd, 0, 0⟩) e.value e.label) hs
    have h2 : ((lookL L (plOf s e.key)).getD ⟨0, kd, 0, 0⟩).c = ((lookL L (plOf s e.key)).getD Pn.zero).c := by cases lookL L (plOf s e.key) <;> rfl
    have h3 : (stepPn ((lookL L (plOf s e.key)).getD ⟨0, kd, 0, 0⟩) e.value e.label).c = ((lookL L (plOf s e.key)).getD ⟨0, kd, 0, 0⟩).c + 1 := rfl
    show totalL (putS kd L e s) + ((ss.length : Nat) : Int) = totalL L + ((ss.length + 1 : Nat) : Int)
    unfold putS
    omega
theorem rows_total (L : PL) : ((rowsL L).map fun r => r.count).sum = totalL L := by
  unfold rowsL totalL
  rw [List.map_map]
  rfl
theorem winds_has {last time size slide : Int} (h1 : 0 ≤ last) (h2 : time - size < last) : ∀ n : Nat, 1 ≤ n → last ∈ winds last time size slide n
  | 0, h => absurd h (by omega)
  | 1, _ => by
    unfold winds
    rw [show ((0 : Nat) : Int) * slide = 0 by simp, Int.sub_zero, if_pos ⟨h1, h2⟩]
    simp
  | n + 2, _ => by
    unfold winds
    exact List.mem_append.2 (.inr (winds_has h1 h2 (n + 1) (by omega)))
theorem starts_has {t n s : Int} (hr : rightW n s) (h0 : 0 ≤ t) (h1 : t ≤ 1099511627776) : t - t % s ∈ startsOf t n s := by
  unfold startsOf
  rw [if_pos ⟨hr, h0, h1⟩]
  have h2 := Int.emod_nonneg t (show s ≠ 0 by have := hr.1; omega)
  have h3 := Int.emod_lt_of_pos t (show 0 < s by have := hr.1; omega)
  have h4 : t % s ≤ t := by
    have e := Int.mul_ediv_add_emod t s
    have := Int.mul_nonneg (show 0 ≤ s by have := hr.1; omega) (Int.ediv_nonneg h0 (show 0 ≤ s by have := hr.1; omega))
    omega
  have h5 := (mostOf_mul hr.1 hr.2.1).2.2
  exact winds_has (by omega) (by have := hr.2.1; omega) _ (by omega)
def sumC (R : List Rw) : Int := (R.map fun r => r.count).sum
theorem sumC_app (a b : List Rw) : sumC (a ++ b) = sumC a + sumC b := by unfold sumC; rw [List.map_append, List.sum_append]
theorem sumC_rows (L : PL) : sumC (rowsL L) = totalL L := rows_total L
theorem total_part (sz t : Int) (L : PL) : totalL (doneL sz t L) + totalL (keepL sz t L) = totalL L := by
  unfold totalL doneL keepL
  induction L with
  | nil => rfl
  | cons q L ih =>
    rw [List.filter_cons, List.filter_cons]
    cases endsB sz t q <;> simp at * <;> omega
theorem putE_total {kd sz sl : Int} (e : Ev) (L : PL) (hs : SortedL L) (hr : rightW sz sl) (h0 : 0 ≤ e.time) (h1 : e.time ≤ 1099511627776) : totalL L + 1 ≤ totalL (putE kd sz sl L e) ∧ totalL (putE kd sz sl L e) ≤ totalL L + mostOf sz sl := by
  unfold putE
  rw [totalL_puts e _ L hs]
  have h2 := starts_has hr h0 h1
  have h3 : 1 ≤ (startsOf e.time sz sl).length := List.length_pos_of_mem h2
  have h4 : (startsOf e.time sz sl).length ≤ (mostOf sz sl).toNat := by
    unfold startsOf
    split
    · exact winds_len ..
    · simp
  have h5 := (mostOf_mul hr.1 hr.2.1).2.2
  omega
structure LateOK (r : Rn) (R : List Rw) (n : Nat) : Prop where
  srt : SortedL r.L
  right : rightW r.p.size r.p.slide
  low : r.c.late ≤ r.c.seen
  zero : 0 ≤ r.c.late
  up : r.c.seen ≤ n
  most : sumC R + totalL r.L ≤ (r.c.seen - r.c.late) * mostOf r.p.size r.p.slide
  least : r.p.ops = [] → r.c.seen - r.c.late ≤ sumC R + totalL r.L
  pos : 0 ≤ sumC R + totalL r.L
theorem LateOK.step {r : Rn} {R : List Rw} {n : Nat} (h : LateOK r R n) (i : Inp) (ho : ∀ o ∈ r.p.ops, o.wf) (hi : i.ev.wf) : LateOK (takeR r i).1 (R ++ (takeR r i).2) (n + 1) := by
  obtain ⟨im, e⟩ := i
  obtain ⟨h1, h2, h3, h4, h5, h6, h7, h8⟩ := h
  have hP := (mostOf_mul h2.1 h2.2.1).2.2
  cases im with
  | true =>
    cases hA : advB r.c e.time with
    | false =>
      rw [takeR_skip hA, List.append_nil]
      exact ⟨h1, h2, h3, h4, by show r.c.seen ≤ ((n + 1 : Nat) : Int); omega, h6, h7, h8⟩
    | true =>
      rw [takeR_mark hA]
      have hT := total_part r.p.size e.time r.L
      refine ⟨List.Pairwise.filter _ h1, h2, h3, h4, by show r.c.seen ≤ ((n + 1 : Nat) : Int); omega, ?_, fun hp => ?_, ?_⟩
      · rw [sumC_app, sumC_rows]
        show _ ≤ (r.c.seen - r.c.late) * mostOf r.p.size r.p.slide
        show sumC R + totalL (doneL r.p.size e.time r.L) + totalL (keepL r.p.size e.time r.L) ≤ _
        omega
      · rw [sumC_app, sumC_rows]
        have := h7 hp
        show r.c.seen - r.c.late ≤ sumC R + totalL (doneL r.p.size e.time r.L) + totalL (keepL r.p.size e.time r.L)
        omega
      · rw [sumC_app, sumC_rows]
        show 0 ≤ sumC R + totalL (doneL r.p.size e.time r.L) + totalL (keepL r.p.size e.time r.L)
        omega
  | false =>
    show LateOK (evR r e) (R ++ []) (n + 1)
    rw [List.append_nil]
    cases hB : onB r.c e.time with
    | false =>
      have hL : (evR r e).L = r.L := by unfold evR; simp [hB]
      have hc : (onC r.c e.time).seen - (onC r.c e.time).late = r.c.seen - r.c.late ∧ (onC r.c e.time).seen ≤ r.c.seen + 1 ∧ r.c.late ≤ (onC r.c e.time).late := by
        unfold onB at hB
        simp at hB
        unfold onC
        split
        · split
          · refine ⟨?_, ?_, ?_⟩ <;> dsimp only <;> omega
          · omega
        · omega
      refine ⟨by rw [hL]; exact h1, h2, ?_, ?_, ?_, ?_, fun hp => ?_, by rw [hL]; exact h8⟩
      · show (onC r.c e.time).late ≤ (onC r.c e.time).seen; omega
      · show 0 ≤ (onC r.c e.time).late; omega
      · show (onC r.c e.time).seen ≤ ((n + 1 : Nat) : Int); omega
      · rw [hL]
        show _ ≤ ((onC r.c e.time).seen - (onC r.c e.time).late) * mostOf r.p.size r.p.slide
        rw [hc.1]
        exact h6
      · rw [hL]
        show (onC r.c e.time).seen - (onC r.c e.time).late ≤ _
        rw [hc.1]
        exact h7 hp
    | true =>
      have hb : 0 ≤ e.time ∧ e.time ≤ 1099511627776 ∧ r.c.mark ≤ e.time := by unfold onB at hB; simpa using hB
      have hc : onC r.c e.time = ⟨r.c.mark, r.c.late, r.c.seen + 1⟩ := by
        unfold onC
        rw [if_pos ⟨hb.1, hb.2.1⟩, if_neg (by omega)]
      have hmul : (r.c.seen + 1 - r.c.late) * mostOf r.p.size r.p.slide = (r.c.seen - r.c.late) * mostOf r.p.size r.p.slide + mostOf r.p.size r.p.slide := by
        rw [show r.c.seen + 1 - r.c.late = (r.c.seen - r.c.late) + 1 by omega, Int.add_mul, Int.one_mul]
      cases hx : runO e r.p.ops with
      | none =>
        have hE : evR r e = ⟨⟨r.c.mark, r.c.late, r.c.seen + 1⟩, r.p, r.L⟩ := by unfold evR; simp [hB, hx, hc]
        rw [hE]
        refine ⟨h1, h2, by show r.c.late ≤ r.c.seen + 1; omega, h4, by show r.c.seen + 1 ≤ ((n + 1 : Nat) : Int); omega, ?_, fun hp => ?_, ?_⟩
        · show sumC R + totalL r.L ≤ (r.c.seen + 1 - r.c.late) * mostOf r.p.size r.p.slide
          omega
        · have hp' : r.p.ops = [] := hp
          rw [hp'] at hx
          cases hx
        · exact h8
      | some x =>
        have hE : evR r e = ⟨⟨r.c.mark, r.c.late, r.c.seen + 1⟩, r.p, putE r.p.agg r.p.size r.p.slide r.L x⟩ := by unfold evR; simp [hB, hx, hc]
        have hxt : x.time = e.time := (runO_at _ _ _ ho hi hx).1
        have hT := putE_total (kd := r.p.agg) x r.L h1 h2 (by omega) (by omega)
        rw [hE]
        refine ⟨putE_srt h1 x, h2, by show r.c.late ≤ r.c.seen + 1; omega, h4, by show r.c.seen + 1 ≤ ((n + 1 : Nat) : Int); omega, ?_, fun hp => ?_, ?_⟩
        · show sumC R + totalL (putE r.p.agg r.p.size r.p.slide r.L x) ≤ (r.c.seen + 1 - r.c.late) * mostOf r.p.size r.p.slide
          omega
        · have := h7 hp
          show r.c.seen + 1 - r.c.late ≤ sumC R + totalL (putE r.p.agg r.p.size r.p.slide r.L x)
          omega
        · show 0 ≤ sumC R + totalL (putE r.p.agg r.p.size r.p.slide r.L x)
          omega
theorem LateOK.all : ∀ (l : List Inp) (r : Rn) (R : List Rw) (n : Nat), LateOK r R n → (∀ o ∈ r.p.ops, o.wf) → (∀ i ∈ l, i.ev.wf) → LateOK (afterR r l) (R ++ rowsR r l) (n + l.length)
  | [], r, R, n, h, _, _ => by rw [rowsR, List.append_nil]; exact h
  | i :: l, r, R, n, h, ho, hi => by
    have h1 := h.step i ho (hi i (by simp))
    have h2 := LateOK.all l _ _ _ h1 (by rw [takeR_p]; exact ho) fun j hj => hi j (by simp [hj])
    rw [rowsR, ← List.append_assoc, List.length_cons, show n + (l.length + 1) = n + 1 + l.length by omega]
    exact h2
theorem late_law {p : Pp} (hr : rightW p.size p.slide) (ho : ∀ o ∈ p.ops, o.wf) {l : List Inp} (hi : ∀ i ∈ l, i.ev.wf) : LateOK (afterR (newR p) l) (rowsR (newR p) l) l.length := by
  have h0 : LateOK (newR p) [] 0 := { srt := List.Pairwise.nil, right := hr, low := Int.le_refl _, zero := Int.le_refl _, up := Int.le_refl _, most := (by show (0 : Int) ≤ _; simp [newR]), least := (fun _ => Int.le_refl _), pos := Int.le_refl _ }
  have := LateOK.all l (newR p) [] 0 h0 ho hi
  rw [Nat.zero_add] at this
  exact this
/-- What is below the mark turns nothing but the counts. -/
theorem late_three {r : Rn} {t m v : Int} (hm : r.c.mark = m) (h0 : 0 ≤ t) (h1 : t < m) (h2 : m ≤ 1099511627776) :
    rowsR r [⟨false, ⟨t, 0, v, 1⟩⟩, ⟨true, ⟨t, 0, 0, 0⟩⟩, ⟨true, ⟨m, 0, 0, 0⟩⟩] = [] ∧ afterR r [⟨false, ⟨t, 0, v, 1⟩⟩, ⟨true, ⟨t, 0, 0, 0⟩⟩, ⟨true, ⟨m, 0, 0, 0⟩⟩] = ⟨⟨m, r.c.late + 1, r.c.seen + 1⟩, r.p, r.L⟩ := by
  have hB : onB r.c t = false := by unfold onB; simp; omega
  have hE : (takeR r ⟨false, ⟨t, 0, v, 1⟩⟩).1 = ⟨⟨m, r.c.late + 1, r.c.seen + 1⟩, r.p, r.L⟩ := by
    show evR r _ = _
    unfold evR
    have hc : onC r.c t = ⟨m, r.c.late + 1, r.c.seen + 1⟩ := by unfold onC; rw [if_pos (by omega), if_pos (by omega), hm]
    simp [hB, hc]
  have hA : advB (⟨m, r.c.late + 1, r.c.seen + 1⟩ : Clk) t = false := by unfold advB; simp; omega
  have hA2 : advB (⟨m, r.c.late + 1, r.c.seen + 1⟩ : Clk) m = false := by unfold advB; simp
  have hS := takeR_skip (r := ⟨⟨m, r.c.late + 1, r.c.seen + 1⟩, r.p, r.L⟩) (e := ⟨t, 0, 0, 0⟩) hA
  have hS2 := takeR_skip (r := ⟨⟨m, r.c.late + 1, r.c.seen + 1⟩, r.p, r.L⟩) (e := ⟨m, 0, 0, 0⟩) hA2
  constructor
  · simp only [rowsR, hE, hS, hS2, List.append_nil]
    rfl
  · simp only [afterR, List.foldl_cons, List.foldl_nil, hE, hS, hS2]
end Go.Proofs.Ythegopajkljlmaa
