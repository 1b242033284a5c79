/- The plain law of WholeMarks: marks that no event is below change nothing but when rows come. -/
import Derived.Test.YtjkflblbcodnoaaWholeBare
set_option linter.unusedVariables false
namespace Go.Proofs.Ytjkflblbcodnoaa
open Go.RowKit Go.Maps
theorem insL_behind {p : Pl} {x : Pn} : ∀ {D : PL} (M : PL), (∀ q ∈ D, ltP q.1 p) → insL (D ++ M) p x = D ++ insL M p x
  | [], M, _ => rfl
  | q :: D, M, h => by
    have h1 := h q (by simp)
    have hn : ¬ q.1 = p := fun e => ltP_irrefl p (by rw [e] at h1; exact h1)
    rw [List.cons_append, insL_head, if_neg hn, if_pos h1, insL_behind M (fun r hr => h r (by simp [hr]))]
    rfl
theorem lookL_behind {p : Pl} : ∀ {D : PL} (M : PL), (∀ q ∈ D, ltP q.1 p) → lookL (D ++ M) p = lookL M p
  | [], M, _ => rfl
  | q :: D, M, h => by
    have h1 := h q (by simp)
    have hn : ¬ q.1 = p := fun e => ltP_irrefl p (by rw [e] at h1; exact h1)
    rw [List.cons_append, lookL_head, if_neg hn, lookL_behind M (fun r hr => h r (by simp [hr]))]
theorem puts_behind {kd : Int} (e : Ev) (he : e.wf) (b : Int) : ∀ (ss : List Int) (D M : PL), (∀ s ∈ ss, (Lit.int .i64 s).wf = true ∧ b < s) → (∀ q ∈ D, q.1.1.1 ≤ b) → ss.foldl (fun L s => putS kd L e s) (D ++ M) = D ++ ss.foldl (fun L s => putS kd L e s) M
  | [], D, M, _, _ => rfl
  | s :: ss, D, M, hs, hD => by
    have h1 := hs s (by simp)
    have hp : (plOf s e.key).1 = (s, e.key) := plOf_1 h1.1 he.2.1
    have hlt : ∀ q ∈ D, ltP q.1 (plOf s e.key) := fun q hq => by
      have := hD q hq
      unfold ltP
      rw [hp]
      left
      dsimp only
      omega
    rw [List.foldl_cons, List.foldl_cons]
    have e1 : putS kd (D ++ M) e s = D ++ putS kd M e s := by
      unfold putS
      rw [lookL_behind M hlt, insL_behind M hlt]
    rw [e1]
    exact puts_behind e he b ss D _ (fun t ht => hs t (by simp [ht])) hD
theorem putE_behind {kd sz sl : Int} (e : Ev) (he : e.wf) (D M : PL) (h : ∀ q ∈ D, q.1.1.1 + sz ≤ e.time) : putE kd sz sl (D ++ M) e = D ++ putE kd sz sl M e := by
  refine puts_behind e he (e.time - sz) _ D M (fun s hs => ⟨starts_wf hs, ?_⟩) (fun q hq => by have := h q hq; omega)
  have := starts_range hs
  omega
theorem done_all {sz t : Int} {D : PL} (h : ∀ q ∈ D, q.1.1.1 + sz ≤ t) : doneL sz t D = D := List.filter_eq_self.2 fun q hq => decide_eq_true (h q hq)
theorem done_app {sz t : Int} (D M : PL) : doneL sz t (D ++ M) = doneL sz t D ++ doneL sz t M := by unfold doneL; rw [List.filter_append]
theorem rows_app (a b : PL) : rowsL (a ++ b) = rowsL a ++ rowsL b := by unfold rowsL; rw [List.map_append]
theorem part_srt {sz mark : Int} : ∀ {L : PL}, SortedL L → doneL sz mark L ++ keepL sz mark L = L
  | [], _ => rfl
  | q :: L, hs => by
    have hs' := List.pairwise_cons.1 hs
    have ih := part_srt (sz := sz) (mark := mark) hs'.2
    unfold doneL keepL at *
    rw [List.filter_cons, List.filter_cons]
    cases hq : endsB sz mark q with
    | true =>
      simp only [if_true, Bool.not_true, Bool.false_eq_true, if_false, List.cons_append, ih]
    | false =>
      simp only [Bool.false_eq_true, if_false, Bool.not_false, if_true]
      have h0 : L.filter (fun q => endsB sz mark q) = [] := by
        refine List.filter_eq_nil_iff.2 fun r hr => ?_
        have h1 := hs'.1 r hr
        have h2 := of_decide_eq_false hq
        have h3 : ¬ r.1.1.1 + sz ≤ mark := by unfold ltP at h1; omega
        simp [endsB, h3]
      rw [h0, List.nil_append]
      rw [h0, List.nil_append] at ih
      rw [ih]
theorem applyO_time {o : Opr} {e x : Ev} (h : applyO o e = some x) : x.time = e.time := by
  unfold applyO at h
  split at h
  · cases h; rfl
  split at h
  · cases h; rfl
  split at h
  · cases h; rfl
  split at h
  · cases h; rfl
  · cases h
theorem runO_time {e x : Ev} : ∀ {l : List Opr}, runO e l = some x → x.time = e.time := by
  intro l
  induction l generalizing e with
  | nil => intro h; cases h; rfl
  | cons o l ih =>
    intro h
    unfold runO at h
    rw [List.foldl_cons, Option.bind_some] at h
    cases ho : applyO o e with
    | none => rw [ho, runO_none] at h; cases h
    | some y =>
      rw [ho] at h
      exact (ih h).trans (applyO_time ho)
/-- A runner with marks, and one without: what was closed lies ahead in the other's list. -/
structure Mk (a b : Rn) (R : List Rw) (last : Int) : Prop where
  pipe : b.p = a.p
  zero : b.c.mark = 0
  low : 0 ≤ a.c.mark
  high : a.c.mark ≤ last
  srt : SortedL b.L
  parts : ∃ D, b.L = D ++ a.L ∧ rowsL D = R ∧ ∀ q ∈ D, q.1.1.1 + a.p.size ≤ a.c.mark
theorem Mk.mark_in {a b : Rn} {R : List Rw} {last : Int} (h : Mk a b R last) (hl : last ≤ 1000) : Mk (takeR a ⟨true, ⟨last, 0, 0, 0⟩⟩).1 b (R ++ (takeR a ⟨true, ⟨last, 0, 0, 0⟩⟩).2) last := by
  obtain ⟨hp, h0, h1, h2, hs, D, hD, hR, hd⟩ := h
  cases hb : advB a.c last with
  | false =>
    rw [takeR_skip hb, List.append_nil]
    exact ⟨hp, h0, h1, h2, hs, D, hD, hR, hd⟩
  | true =>
    have hm : a.c.mark < last := by unfold advB at hb; simp at hb; exact hb.1
    rw [takeR_mark hb]
    have hsa : SortedL a.L := by rw [hD] at hs; exact (List.pairwise_append.1 hs).2.1
    refine ⟨hp, h0, by dsimp only; omega, Int.le_refl _, hs, D ++ doneL a.p.size last a.L, ?_, ?_, ?_⟩
    · rw [List.append_assoc, part_srt hsa]; exact hD
    · rw [rows_app, hR]
    · intro q hq
      rcases List.mem_append.1 hq with hq | hq
      · have := hd q hq; dsimp only; omega
      · exact of_decide_eq_true (List.mem_filter.1 hq).2
theorem Mk.event_in {a b : Rn} {R : List Rw} {last : Int} (h : Mk a b R last) (e : Ev) (he : e.wf) (ht : last ≤ e.time) (h120 : e.time ≤ 1000) (hops : ∀ o ∈ a.p.ops, o.wf) : Mk (takeR a ⟨false, e⟩).1 (takeR b ⟨false, e⟩).1 R e.time ∧ (takeR a ⟨false, e⟩).2 = [] ∧ (takeR b ⟨false, e⟩).2 = [] := by
  obtain ⟨hp, h0, h1, h2, hs, D, hD, hR, hd⟩ := h
  refine ⟨?_, rfl, rfl⟩
  have hs' := takeR_srt hs ⟨false, e⟩
  have hBa : onB a.c e.time = true := by unfold onB; simp; omega
  have hBb : onB b.c e.time = true := by unfold onB; simp; omega
  have ea : (takeR a ⟨false, e⟩).1 = evR a e := rfl
  have eb : (takeR b ⟨false, e⟩).1 = evR b e := rfl
  rw [eb] at hs'
  rw [ea, eb]
  unfold evR at hs' ⊢
  rw [hBa, hBb, hp]
  rw [hBb, hp] at hs'
  simp only [if_true] at hs' ⊢
  cases hr : runO e a.p.ops with
  | none =>
    rw [hr] at hs'
    exact ⟨rfl, by rw [onC_mark]; exact h0, by rw [onC_mark]; exact h1, by rw [onC_mark]; omega, hs', D, hD, hR, by rw [onC_mark]; exact hd⟩
  | some x =>
    rw [hr] at hs'
    have hx : x.time = e.time := runO_time hr
    refine ⟨rfl, by rw [onC_mark]; exact h0, by rw [onC_mark]; exact h1, by rw [onC_mark]; omega, hs', D, ?_, hR, by rw [onC_mark]; exact hd⟩
    dsimp only
    rw [hD]
    exact putE_behind x (runO_wf he hops hr) D _ fun q hq => by have := hd q hq; rw [hx]; omega
theorem Mk.end_ {a b : Rn} {R : List Rw} {last : Int} (h : Mk a b R last) (hl : last < 1000) : R ++ (takeR a endI).2 = (takeR b endI).2 := by
  obtain ⟨hp, h0, h1, h2, hs, D, hD, hR, hd⟩ := h
  have ba : advB a.c (⟨1000, 0, 0, 0⟩ : Ev).time = true := by unfold advB; simp; omega
  have bb : advB b.c (⟨1000, 0, 0, 0⟩ : Ev).time = true := by unfold advB; simp; omega
  unfold endI
  rw [takeR_mark ba, takeR_mark bb]
  dsimp only
  rw [hD, done_app, rows_app, hp, done_all (D := D) (fun q hq => by have := hd q hq; omega), hR]
/-- The two lists that WholeMarks makes: with marks at the last time, and without; and that time. -/
def mkStep (s : Int × List Inp × List Inp) (i : Inp) : Int × List Inp × List Inp :=
  if i.mark then (s.1, s.2.1 ++ [⟨true, ⟨s.1, 0, 0, 0⟩⟩], s.2.2) else (max s.1 i.ev.time, s.2.1 ++ [⟨false, { i.ev with time := max s.1 i.ev.time }⟩], s.2.2 ++ [⟨false, { i.ev with time := max s.1 i.ev.time }⟩])
def mkAll (l : List Inp) : Int × List Inp × List Inp := l.foldl mkStep (0, [], [])
theorem mk_all {p : Pp} (hops : ∀ o ∈ p.ops, o.wf) : ∀ (l : List Inp) (s : Int × List Inp × List Inp), (∀ i ∈ l, i.ev.wf ∧ i.ev.time ≤ 160) → s.1 ≤ 160 → (∀ i ∈ s.2.1, i.ev.wf) → (∀ i ∈ s.2.2, i.ev.wf) → 0 ≤ s.1 →
    Mk (afterR (newR p) s.2.1) (afterR (newR p) s.2.2) (rowsR (newR p) s.2.1) s.1 → rowsR (newR p) s.2.2 = [] →
    Mk (afterR (newR p) (l.foldl mkStep s).2.1) (afterR (newR p) (l.foldl mkStep s).2.2) (rowsR (newR p) (l.foldl mkStep s).2.1) (l.foldl mkStep s).1 ∧ rowsR (newR p) (l.foldl mkStep s).2.2 = [] ∧ (l.foldl mkStep s).1 ≤ 160 ∧ (∀ i ∈ (l.foldl mkStep s).2.1, i.ev.wf) ∧ (∀ i ∈ (l.foldl mkStep s).2.2, i.ev.wf) ∧ 0 ≤ (l.foldl mkStep s).1
  | [], s, _, h1, h2, h3, h6, h4, h5 => ⟨h4, h5, h1, h2, h3, h6⟩
  | i :: l, s, hi, h1, h2, h3, h6, h4, h5 => by
    obtain ⟨t, ml, pl⟩ := s
    dsimp only at h1 h2 h3 h4 h5 h6
    have hi0 := hi i (by simp)
    rw [List.foldl_cons]
    obtain ⟨im, ie⟩ := i
    dsimp only at hi0
    refine mk_all hops l _ (fun j hj => hi j (by simp [hj])) ?_ ?_ ?_ ?_ ?_ ?_
    · unfold mkStep; dsimp only; split
      · exact h1
      · dsimp only; omega
    · unfold mkStep; dsimp only; split
      · intro j hj
        rcases List.mem_append.1 hj with h | h
        · exact h2 j h
        · simp at h; subst h; exact ⟨WalkArith.wf_i64 (by dsimp only; omega), by dsimp only; decide, by dsimp only; decide, by dsimp only; decide⟩
      · intro j hj
        rcases List.mem_append.1 hj with h | h
        · exact h2 j h
        · simp at h; subst h; exact ⟨WalkArith.wf_i64 (by have := i64_range hi0.1.1; dsimp only; omega), hi0.1.2⟩
    · unfold mkStep; dsimp only; split
      · exact h3
      · intro j hj
        rcases List.mem_append.1 hj with h | h
        · exact h3 j h
        · simp at h; subst h; exact ⟨WalkArith.wf_i64 (by have := i64_range hi0.1.1; dsimp only; omega), hi0.1.2⟩
    · unfold mkStep; dsimp only; split
      · exact h6
      · dsimp only; omega
    · unfold mkStep; dsimp only; split
      · dsimp only
        rw [afterR_append, rowsR_append]
        have := h4.mark_in (by omega)
        simpa [afterR, rowsR] using this
      · dsimp only
        rw [afterR_append, afterR_append, rowsR_append]
        have h7 := h4.event_in { ie with time := max t ie.time } ⟨WalkArith.wf_i64 (by have := i64_range hi0.1.1; dsimp only; omega), hi0.1.2⟩ (by dsimp only; omega) (by dsimp only; omega) (by rw [afterR_p]; exact hops)
        have h8 : rowsR (afterR (newR p) ml) [⟨false, { ie with time := max t ie.time }⟩] = [] := by rw [rowsR, rowsR, h7.2.1]; rfl
        rw [h8, List.append_nil]
        exact h7.1
    · unfold mkStep; dsimp only; split
      · exact h5
      · dsimp only
        rw [rowsR_append, h5]
        rfl
theorem mk_law {p : Pp} (hops : ∀ o ∈ p.ops, o.wf) {l : List Inp} (hl : ∀ i ∈ l, i.ev.wf ∧ i.ev.time ≤ 160) : wholeRows p ((mkAll l).2.1 ++ [endI]) = wholeRows p ((mkAll l).2.2 ++ [endI]) := by
  have h := mk_all hops l (0, [], []) hl (by decide) (by simp) (by simp) (by decide) ⟨rfl, rfl, Int.le_refl _, Int.le_refl _, List.Pairwise.nil, [], rfl, rfl, by simp⟩ rfl
  obtain ⟨h1, h2, h3, _⟩ := h
  have e1 := h1.end_ (by have : (mkAll l).1 ≤ 160 := h3; show (mkAll l).1 < 1000; omega)
  unfold wholeRows
  rw [rowsR_append, rowsR_append]
  show rowsR (newR p) (mkAll l).2.1 ++ rowsR _ [endI] = rowsR (newR p) (mkAll l).2.2 ++ rowsR _ [endI]
  have h2' : rowsR (newR p) (mkAll l).2.2 = [] := h2
  rw [h2', List.nil_append, rowsR, rowsR, rowsR, rowsR, List.append_nil, List.append_nil]
  exact e1
end Go.Proofs.Ytjkflblbcodnoaa
