/- The plain law of keys: the windows, and the rows, of some keys are what they are without the others. -/
import Derived.Test.YthegopajkljlmaaTake
set_option linter.unusedVariables false
namespace Go.Proofs.Ythegopajkljlmaa
open Go.RowKit Go.Maps
/-- The windows of some keys. -/
def keysL (K : Int → Bool) (L : PL) : PL := L.filter fun q => K q.1.1.2
theorem keysL_cons (K : Int → Bool) (q : Pl × Pn) (L : PL) : keysL K (q :: L) = if K q.1.1.2 = true then q :: keysL K L else keysL K L := by
  unfold keysL
  rw [List.filter_cons]
theorem keysL_sorted {K : Int → Bool} {L : PL} (h : SortedL L) : SortedL (keysL K L) := List.Pairwise.filter _ h
theorem lookL_head (q : Pl × Pn) (L : PL) (p : Pl) : lookL (q :: L) p = if q.1 = p then some q.2 else lookL L p := by
  unfold lookL
  rw [List.find?_cons]
  by_cases h : q.1 = p <;> simp [h]
theorem lookL_keys {K : Int → Bool} {p : Pl} (hp : K p.1.2 = true) : ∀ L : PL, lookL (keysL K L) p = lookL L p
  | [] => rfl
  | q :: L => by
    rw [keysL_cons, lookL_head]
    by_cases h : K q.1.1.2 = true
    · rw [if_pos h, lookL_head, lookL_keys hp L]
    · have hn : ¬ q.1 = p := fun e => h (by rw [e]; exact hp)
      rw [if_neg h, if_neg hn, lookL_keys hp L]
theorem insL_head (q : Pl × Pn) (L : PL) (p : Pl) (x : Pn) : insL (q :: L) p x = if q.1 = p then (p, x) :: L else if ltP q.1 p then q :: insL L p x else (p, x) :: q :: L := rfl
theorem insL_keys_ne {K : Int → Bool} {p : Pl} {x : Pn} (hp : ¬ K p.1.2 = true) : ∀ L : PL, keysL K (insL L p x) = keysL K L
  | [] => by rw [insL, keysL_cons, if_neg hp]
  | q :: L => by
    rw [insL_head]
    by_cases h1 : q.1 = p
    · rw [if_pos h1, keysL_cons, keysL_cons, if_neg hp, if_neg (h1 ▸ hp)]
    · rw [if_neg h1]
      by_cases h2 : ltP q.1 p
      · rw [if_pos h2, keysL_cons, keysL_cons, insL_keys_ne hp L]
      · rw [if_neg h2, keysL_cons, if_neg hp]
theorem insL_first {p : Pl} {x : Pn} : ∀ {L : PL}, (∀ q ∈ L, ltP p q.1) → insL L p x = (p, x) :: L
  | [], _ => rfl
  | q :: L, h => by
    have h1 := h q (by simp)
    have hn : ¬ q.1 = p := fun e => ltP_irrefl p (by rw [e] at h1; exact h1)
    have hm : ¬ ltP q.1 p := fun h2 => ltP_irrefl p (ltP_trans h1 h2)
    rw [insL_head, if_neg hn, if_neg hm]
theorem insL_keys {K : Int → Bool} {p : Pl} {x : Pn} (hp : K p.1.2 = true) : ∀ {L : PL}, SortedL L → keysL K (insL L p x) = insL (keysL K L) p x
  | [], _ => by rw [insL, keysL_cons, if_pos hp]; rfl
  | q :: L, hs => by
    have hs' := List.pairwise_cons.1 hs
    rw [insL_head]
    by_cases h1 : q.1 = p
    · rw [if_pos h1, keysL_cons, keysL_cons, if_pos hp, if_pos (h1 ▸ hp), insL_head, if_pos h1]
    · rw [if_neg h1]
      by_cases h2 : ltP q.1 p
      · rw [if_pos h2, keysL_cons, keysL_cons, insL_keys hp hs'.2]
        by_cases h3 : K q.1.1.2 = true
        · rw [if_pos h3, if_pos h3, insL_head, if_neg h1, if_pos h2]
        · rw [if_neg h3, if_neg h3]
      · rw [if_neg h2, keysL_cons, if_pos hp]
        refine (insL_first fun r hr => ?_).symm
        have hr' := (List.mem_filter.1 hr).1
        have hpq := ltP_total h1 h2
        rcases List.mem_cons.1 hr' with rfl | h
        · exact hpq
        · exact ltP_trans hpq (hs'.1 r h)
theorem putS_keys {kd : Int} {K : Int → Bool} {L : PL} (hs : SortedL L) (e : Ev) (he : e.wf) {s : Int} (hw : (Lit.int .i64 s).wf = true) : keysL K (putS kd L e s) = if K e.key = true then putS kd (keysL K L) e s else keysL K L := by
  unfold putS
  have hp : (plOf s e.key).1 = (s, e.key) := plOf_1 hw he.2.1
  by_cases h : K e.key = true
  · rw [if_pos h, insL_keys (by rw [hp]; exact h) hs, lookL_keys (by rw [hp]; exact h)]
  · rw [if_neg h, insL_keys_ne (by rw [hp]; exact h)]
theorem puts_keys {kd : Int} {K : Int → Bool} (e : Ev) (he : e.wf) : ∀ (ss : List Int) (L : PL), (∀ s ∈ ss, (Lit.int .i64 s).wf = true) → SortedL L → keysL K (ss.foldl (fun L s => putS kd L e s) L) = if K e.key = true then ss.foldl (fun L s => putS kd L e s) (keysL K L) else keysL K L
  | [], L, _, _ => by simp
  | s :: ss, L, hw, hs => by
    rw [List.foldl_cons, puts_keys e he ss _ (fun t h => hw t (by simp [h])) (putS_sorted hs e s), putS_keys hs e he (hw s (by simp))]
    by_cases h : K e.key = true
    · simp [h]
    · simp [h]
theorem putE_keys {kd sz sl : Int} {K : Int → Bool} {L : PL} (hs : SortedL L) (e : Ev) (he : e.wf) : keysL K (putE kd sz sl L e) = if K e.key = true then putE kd sz sl (keysL K L) e else keysL K L :=
  puts_keys e he _ L (fun s h => starts_wf h) hs
theorem putE_srt {kd sz sl : Int} {L : PL} (hs : SortedL L) (e : Ev) : SortedL (putE kd sz sl L e) := by
  unfold putE
  generalize startsOf e.time sz sl = ss
  induction ss generalizing L with
  | nil => exact hs
  | cons s ss ih => exact ih (putS_sorted hs e s)
theorem keep_srt {sz t : Int} {L : PL} (hs : SortedL L) : SortedL (keepL sz t L) := List.Pairwise.filter _ hs
theorem keep_keys {sz t : Int} {K : Int → Bool} (L : PL) : keysL K (keepL sz t L) = keepL sz t (keysL K L) := by
  unfold keysL keepL
  rw [List.filter_filter, List.filter_filter]
  congr 1
  funext q
  rw [Bool.and_comm]
theorem done_keys {sz t : Int} {K : Int → Bool} (L : PL) : keysL K (doneL sz t L) = doneL sz t (keysL K L) := by
  unfold keysL doneL
  rw [List.filter_filter, List.filter_filter]
  congr 1
  funext q
  rw [Bool.and_comm]
theorem rows_keys (K : Int → Bool) (L : PL) : (rowsL L).filter (fun r => K r.key) = rowsL (keysL K L) := by
  unfold rowsL keysL
  rw [List.filter_map]
  rfl
theorem takeR_srt {r : Rn} (hs : SortedL r.L) (i : Inp) : SortedL (takeR r i).1.L := by
  unfold takeR
  split
  · split
    · exact keep_srt hs
    · exact hs
  · unfold evR
    dsimp only
    split
    · split
      · exact putE_srt hs _
      · exact hs
    · exact hs
theorem runO_nil (e : Ev) : runO e [] = some e := rfl
/-- Two runners of one pipe without operations: the one has just some keys of the other's. -/
structure Part (K : Int → Bool) (r q : Rn) : Prop where
  ops : r.p.ops = []
  pipe : q.p = r.p
  mark : q.c.mark = r.c.mark
  open_ : q.L = keysL K r.L
  sorted : SortedL r.L
  seen : q.c.seen ≤ r.c.seen
  late : q.c.late ≤ r.c.late
theorem Part.mk_in {K : Int → Bool} {r q : Rn} (h : Part K r q) (i : Inp) (hw : i.ev.wf) (hi : (i.mark || K i.ev.key) = true) : Part K (takeR r i).1 (takeR q i).1 ∧ (takeR q i).2 = (takeR r i).2.filter (fun x => K x.key) := by
  obtain ⟨hops, hp, hm, ho, hs, hsn, hlt⟩ := h
  have hs' := takeR_srt hs i
  obtain ⟨im, e⟩ := i
  obtain ⟨⟨m, lt, sn⟩, p, L⟩ := r
  obtain ⟨⟨m', lt', sn'⟩, p', L'⟩ := q
  dsimp only at *
  subst hp hm ho
  cases im with
  | true =>
    unfold takeR
    dsimp only [if_true]
    have ha : advB ⟨m', lt', sn'⟩ e.time = advB ⟨m', lt, sn⟩ e.time := rfl
    rw [ha]
    cases hb : advB ⟨m', lt, sn⟩ e.time with
    | true =>
      simp only [if_true]
      rw [advC_true (ha.trans hb), advC_true hb]
      refine ⟨⟨hops, rfl, rfl, (keep_keys L).symm, keep_srt hs, hsn, hlt⟩, ?_⟩
      rw [rows_keys, done_keys]
    | false =>
      simp only [Bool.false_eq_true, if_false]
      exact ⟨⟨hops, rfl, rfl, rfl, hs, hsn, hlt⟩, rfl⟩
  | false =>
    simp only [Bool.false_or] at hi
    unfold takeR evR
    simp only [Bool.false_eq_true, if_false, hops, runO_nil]
    have hB : onB ⟨m', lt', sn'⟩ e.time = onB ⟨m', lt, sn⟩ e.time := rfl
    rw [hB]
    have hC : (onC ⟨m', lt', sn'⟩ e.time).seen ≤ (onC ⟨m', lt, sn⟩ e.time).seen ∧ (onC ⟨m', lt', sn'⟩ e.time).late ≤ (onC ⟨m', lt, sn⟩ e.time).late := by
      unfold onC
      split
      · split
        · dsimp only; omega
        · dsimp only; omega
      · exact ⟨hsn, hlt⟩
    refine ⟨⟨hops, rfl, by rw [onC_mark, onC_mark], ?_, ?_, hC.1, hC.2⟩, rfl⟩
    · dsimp only
      split
      · rw [putE_keys hs e hw, if_pos hi]
      · rfl
    · dsimp only
      split
      · exact putE_srt hs e
      · exact hs
theorem Part.mk_out {K : Int → Bool} {r q : Rn} (h : Part K r q) (i : Inp) (hw : i.ev.wf) (hi : (i.mark || K i.ev.key) = false) : Part K (takeR r i).1 q ∧ (takeR r i).2.filter (fun x => K x.key) = [] := by
  obtain ⟨hops, hp, hm, ho, hs, hsn, hlt⟩ := h
  simp only [Bool.or_eq_false_iff] at hi
  obtain ⟨im, e⟩ := i
  obtain ⟨⟨m, lt, sn⟩, p, L⟩ := r
  dsimp only at *
  obtain ⟨rfl, hk⟩ := hi
  unfold takeR evR
  simp only [Bool.false_eq_true, if_false, hops, runO_nil]
  have hC : sn ≤ (onC ⟨m, lt, sn⟩ e.time).seen ∧ lt ≤ (onC ⟨m, lt, sn⟩ e.time).late := by
    unfold onC
    split
    · split
      · dsimp only; omega
      · dsimp only; omega
    · exact ⟨Int.le_refl _, Int.le_refl _⟩
  refine ⟨⟨hops, hp, by rw [onC_mark]; exact hm, ?_, ?_, by dsimp only; omega, by dsimp only; omega⟩, rfl⟩
  · dsimp only
    split
    · rw [putE_keys hs e hw, if_neg (by rw [hk]; decide)]
      exact ho
    · exact ho
  · dsimp only
    split
    · exact putE_srt hs e
    · exact hs
theorem Part.all {K : Int → Bool} : ∀ {l : List Inp} {r q : Rn}, Part K r q → (∀ i ∈ l, i.ev.wf) → Part K (afterR r l) (afterR q (l.filter fun i => i.mark || K i.ev.key)) ∧ rowsR q (l.filter fun i => i.mark || K i.ev.key) = (rowsR r l).filter (fun x => K x.key)
  | [], r, q, h, _ => ⟨h, rfl⟩
  | i :: l, r, q, h, hw => by
    rw [List.filter_cons]
    cases hi : (i.mark || K i.ev.key) with
    | true =>
      obtain ⟨h1, h2⟩ := h.mk_in i (hw i (by simp)) hi
      obtain ⟨h3, h4⟩ := Part.all (l := l) h1 (fun j hj => hw j (by simp [hj]))
      rw [if_pos rfl]
      refine ⟨h3, ?_⟩
      rw [rowsR, rowsR, h4, h2, List.filter_append]
    | false =>
      obtain ⟨h1, h2⟩ := h.mk_out i (hw i (by simp)) hi
      obtain ⟨h3, h4⟩ := Part.all (l := l) h1 (fun j hj => hw j (by simp [hj]))
      rw [if_neg (by decide)]
      refine ⟨h3, ?_⟩
      rw [rowsR, h4, List.filter_append, h2, List.nil_append]
theorem Part.new (K : Int → Bool) {p : Pp} (h : p.ops = []) : Part K ⟨⟨0, 0, 0⟩, p, []⟩ ⟨⟨0, 0, 0⟩, p, []⟩ := ⟨h, rfl, rfl, rfl, List.Pairwise.nil, Int.le_refl _, Int.le_refl _⟩
end Go.Proofs.Ythegopajkljlmaa
