/- The plain law of WholePrefix: beginnings. -/
import Derived.Test.YtdncpihaeobaeaaGreatK4
set_option linter.unusedVariables false
namespace Go.Proofs.YtdncpihaeobaeaaGreat
open Go.RowKit
theorem whole_pre (p : Pp) (l m : List Inp) : wholeRows p l <+: wholeRows p (l ++ m) := by
  unfold wholeRows
  rw [rowsR_append]
  exact List.prefix_append _ _
theorem whole_take (p : Pp) (l : List Inp) (c : Nat) : wholeRows p (l.take c) <+: wholeRows p l := by
  have h := whole_pre p (l.take c) (l.drop c)
  rwa [List.take_append_drop] at h
/-- A list changed at one place is no beginning of what it was. -/
theorem set_no_pre {l : List Rw} {i : Nat} (hi : i < l.length) {x : Rw} (hx : x ≠ l[i]) : ¬ l.set i x <+: l := by
  intro h
  have h1 : l.set i x = l := h.eq_of_length (by simp)
  have h2 : (l.set i x)[i]'(by simpa using hi) = l[i] := by simp only [h1]
  rw [List.getElem_set_self] at h2
  exact hx h2
theorem set_take_no_pre {l : List Rw} {i : Nat} (hi : i < l.length) {x : Rw} (hx : x ≠ l[i]) : ¬ (l.set i x).take (i + 1) <+: l := by
  intro h
  have h1 := List.prefix_iff_eq_take.1 h
  have hn : ((l.set i x).take (i + 1)).length = i + 1 := by rw [List.length_take, List.length_set]; omega
  rw [hn] at h1
  have h2 : ((l.set i x).take (i + 1))[i]? = (l.take (i + 1))[i]? := by rw [h1]
  rw [List.getElem?_take_of_lt (by omega), List.getElem?_take_of_lt (by omega), List.getElem?_set_self hi, List.getElem?_eq_getElem hi] at h2
  exact hx (by simpa using h2)
theorem set_take_pre {l : List Rw} {i : Nat} {x : Rw} : (l.set i x).take i <+: l := by
  rw [List.take_set_of_le (Nat.le_refl _)]
  exact List.take_prefix _ _
theorem long_no_pre {l : List Rw} (hl : 0 < l.length) : ¬ l <+: l.take (l.length - 1) := by
  intro h
  have := h.length_le
  simp at this
  omega
/-- All bits of x are in m. -/
def Under (m x : Int) : Prop := bits .or .u64 m x = m
theorem Under.more {m x : Int} (h : Under m x) (a : Int) : Under (bits .or .u64 m a) x := by
  unfold Under at *
  rw [or_swap64, h]
theorem Under.self (m a : Int) : Under (bits .or .u64 m a) a := by
  unfold Under
  rw [or_assoc64]
  simp only [bits_or64, bv_toNat]
  rw [BitVec.or_self]
theorem Under.join {m x y : Int} (h : Under m x) (h2 : Under m y) : Under m (bits .or .u64 x y) := by
  unfold Under at *
  rw [← or_assoc64, h, h2]
theorem applyO_label {o : Opr} {e x : Ev} (h : applyO o e = some x) : x.label = e.label := by
  unfold applyO at h
  split at h
  · cases h; rfl
  split at h
  · cases h; rfl
  split at h
  · cases h; rfl
  split at h
  · cases h; rfl
  · cases h
theorem runO_label : ∀ (l : List Opr) (e x : Ev), runO e l = some x → x.label = e.label
  | [], e, x, h => by cases h; rfl
  | o :: l, e, x, h => by
    have h' : l.foldl (fun r o => r.bind (applyO o)) (applyO o e) = some x := h
    cases ha : applyO o e with
    | none => rw [ha, runO_none] at h'; cases h'
    | some y =>
      rw [ha] at h'
      exact (runO_label l y x h').trans (applyO_label ha)
def AllU (m : Int) (L : PL) : Prop := ∀ p x, (p, x) ∈ L → Under m x.l
theorem AllU.more {m : Int} {L : PL} (h : AllU m L) (a : Int) : AllU (bits .or .u64 m a) L := fun p x hx => (h p x hx).more a
theorem putS_U {kd m : Int} {L : PL} {e : Ev} (hs : SortedL L) (h0 : Under m 0) (hL : AllU m L) (he : Under m e.label) (s : Int) : AllU m (putS kd L e s) := by
  intro p x hx
  rcases (mem_insL hs p x).1 hx with ⟨rfl, rfl⟩ | ⟨_, hx⟩
  · show Under m (bits .or .u64 ((lookL L (plOf s e.key)).getD ⟨0, kd, 0, 0⟩).l e.label)
    refine Under.join ?_ he
    cases hl : lookL L (plOf s e.key) with
    | none => exact h0
    | some y => exact hL _ y ((lookL_some hs).1 hl)
  · exact hL p x hx
theorem putE_U {kd sz sl m : Int} {L : PL} {e : Ev} (hs : SortedL L) (h0 : Under m 0) (hL : AllU m L) (he : Under m e.label) : AllU m (putE kd sz sl L e) ∧ SortedL (putE kd sz sl L e) := by
  unfold putE
  generalize startsOf e.time sz sl = ss
  induction ss generalizing L with
  | nil => exact ⟨hL, hs⟩
  | cons s ss ih => exact ih (putS_sorted hs e s) (putS_U hs h0 hL he s)
theorem takeR_U {m : Int} {r : Rn} (i : Inp) (hs : SortedL r.L) (h0 : Under m 0) (hL : AllU m r.L) (hi : i.mark = false → Under m i.ev.label) : AllU m (takeR r i).1.L ∧ SortedL (takeR r i).1.L ∧ ∀ x ∈ (takeR r i).2, Under m x.label := by
  unfold takeR
  split
  · split
    · refine ⟨fun p x hx => hL p x (List.mem_filter.1 hx).1, List.Pairwise.filter _ hs, fun x hx => ?_⟩
      obtain ⟨q, hq, rfl⟩ := List.mem_map.1 hx
      exact hL q.1 q.2 (List.mem_filter.1 hq).1
    · exact ⟨hL, hs, by simp⟩
  · rename_i hm
    unfold evR
    dsimp only
    split
    · split
      · rename_i x hx
        have hl := runO_label _ _ _ hx
        have := putE_U (kd := r.p.agg) (sz := r.p.size) (sl := r.p.slide) hs h0 hL (e := x) (by rw [hl]; exact hi (by simpa using hm))
        exact ⟨this.1, this.2, by simp⟩
      · exact ⟨hL, hs, by simp⟩
    · exact ⟨hL, hs, by simp⟩
theorem rows_U : ∀ (l : List Inp) (r : Rn) (m : Int), SortedL r.L → Under m 0 → AllU m r.L → (∀ i ∈ l, i.mark = false → Under m i.ev.label) → ∀ x ∈ rowsR r l, Under m x.label
  | [], r, m, _, _, _, _ => by simp [rowsR]
  | i :: l, r, m, hs, h0, hL, hi => by
    have h := takeR_U i hs h0 hL (hi i (by simp))
    intro x hx
    rw [rowsR] at hx
    rcases List.mem_append.1 hx with hx | hx
    · exact h.2.2 x hx
    · exact rows_U l _ m h.2.1 h0 h.1 (fun j hj => hi j (by simp [hj])) x hx
theorem labels_U : ∀ (l : List Inp) (m : Int), Under m 0 → Under (l.foldl (fun m i => if i.mark then m else bits .or .u64 m i.ev.label) m) 0 ∧ (∀ y, Under m y → Under (l.foldl (fun m i => if i.mark then m else bits .or .u64 m i.ev.label) m) y) ∧ ∀ i ∈ l, i.mark = false → Under (l.foldl (fun m i => if i.mark then m else bits .or .u64 m i.ev.label) m) i.ev.label
  | [], m, h0 => ⟨h0, fun _ h => h, by simp⟩
  | i :: l, m, h0 => by
    rw [List.foldl_cons]
    cases hi : i.mark with
    | true =>
      have h := labels_U l m h0
      simp only [if_true]
      refine ⟨h.1, h.2.1, fun j hj hm => ?_⟩
      rcases List.mem_cons.1 hj with rfl | hj
      · rw [hi] at hm; cases hm
      · exact h.2.2 j hj hm
    | false =>
      have h := labels_U l (bits .or .u64 m i.ev.label) (h0.more _)
      simp only [Bool.false_eq_true, if_false]
      refine ⟨h.1, fun y hy => h.2.1 y (hy.more _), fun j hj hm => ?_⟩
      rcases List.mem_cons.1 hj with rfl | hj
      · exact h.2.1 _ (Under.self _ _)
      · exact h.2.2 j hj hm
/-- Each row's label is within the labels of what has come. -/
theorem whole_labels (p : Pp) (l : List Inp) : ∀ x ∈ wholeRows p (l ++ [endI]), Under (labelsOf l) x.label := by
  have h := labels_U l 0 (by unfold Under; decide)
  refine rows_U _ (newR p) _ List.Pairwise.nil h.1 (fun _ _ hx => by cases hx) fun i hi hm => ?_
  rcases List.mem_append.1 hi with hi | hi
  · exact h.2.2 i hi hm
  · simp at hi
    subst hi
    cases hm
theorem bits_andNot64 (x y : Int) : bits .andNot .u64 x y = ((bv x &&& ~~~ (bv y)).toNat : Int) := by
  have h := (bv x &&& ~~~ (bv y)).isLt
  show IntKind.wrap .u64 ((bv x &&& ~~~ (bv y)).toNat : Int) = _
  generalize (bv x &&& ~~~ (bv y)).toNat = n at h
  simp [IntKind.wrap, IntKind.bits, IntKind.signed]
  omega
theorem Under.none {m x : Int} (h : Under m x) : bits .andNot .u64 x m = 0 := by
  have h1 : bv m ||| bv x = bv m := by
    have := congrArg bv h
    rwa [bits_or64, bv_toNat] at this
  rw [bits_andNot64]
  have h2 : bv x &&& ~~~ (bv m) = 0#64 := by
    rw [← h1]
    ext i hi
    simp
    cases (bv x)[i] <;> simp
  rw [h2]
  rfl
theorem applyO_at {o : Opr} {e x : Ev} (h : applyO o e = some x) : x.time = e.time := by
  unfold applyO at h
  split at h
  · cases h; rfl
  split at h
  · cases h; rfl
  split at h
  · cases h; rfl
  split at h
  · cases h; rfl
  · cases h
theorem runO_at : ∀ (l : List Opr) (e x : Ev), (∀ o ∈ l, o.wf) → e.wf → runO e l = some x → x.time = e.time ∧ x.wf
  | [], e, x, _, he, h => by cases h; exact ⟨rfl, he⟩
  | o :: l, e, x, hl, he, h => by
    have h' : l.foldl (fun r o => r.bind (applyO o)) (applyO o e) = some x := h
    cases ha : applyO o e with
    | none => rw [ha, runO_none] at h'; cases h'
    | some y =>
      rw [ha] at h'
      have := runO_at l y x (fun o ho => hl o (by simp [ho])) (applyO_wf he (hl o (by simp)) ha) h'
      exact ⟨this.1.trans (applyO_at ha), this.2⟩
def LowL (L : PL) : Prop := ∀ p x, (p, x) ∈ L → p.1.1 ≤ 160
theorem putE_low {kd sz sl : Int} {L : PL} {e : Ev} (hs : SortedL L) (hL : LowL L) (he : e.wf) (ht : e.time ≤ 160) : LowL (putE kd sz sl L e) ∧ SortedL (putE kd sz sl L e) := by
  unfold putE
  have hss : ∀ s ∈ startsOf e.time sz sl, s ≤ 160 ∧ (Lit.int .i64 s).wf = true := fun s h => ⟨by have := starts_range h; omega, starts_wf h⟩
  generalize startsOf e.time sz sl = ss at hss
  induction ss generalizing L with
  | nil => exact ⟨hL, hs⟩
  | cons s ss ih =>
    refine ih (putS_sorted hs e s) (fun p x hx => ?_) fun s hs => hss s (by simp [hs])
    rcases (mem_insL hs p x).1 hx with ⟨rfl, rfl⟩ | ⟨_, hx⟩
    · rw [plOf_1 (hss s (by simp)).2 he.2.1]
      exact (hss s (by simp)).1
    · exact hL p x hx
theorem takeR_low {r : Rn} (i : Inp) (hs : SortedL r.L) (hL : LowL r.L) (hm : r.c.mark ≤ 160) (ho : ∀ o ∈ r.p.ops, o.wf) (hi : i.ev.wf ∧ i.ev.time ≤ 160) : LowL (takeR r i).1.L ∧ SortedL (takeR r i).1.L ∧ (takeR r i).1.c.mark ≤ 160 := by
  unfold takeR
  split
  · split
    · refine ⟨fun p x hx => hL p x (List.mem_filter.1 hx).1, List.Pairwise.filter _ hs, ?_⟩
      show (advC r.c i.ev.time).mark ≤ 160
      unfold advC
      split
      · exact hi.2
      · exact hm
    · exact ⟨hL, hs, hm⟩
  · have hmk : (onC r.c i.ev.time).mark ≤ 160 := by
      unfold onC
      split
      · split <;> exact hm
      · exact hm
    unfold evR
    dsimp only
    split
    · split
      · rename_i x hx
        have h1 := runO_at _ _ _ ho hi.1 hx
        have := putE_low (kd := r.p.agg) (sz := r.p.size) (sl := r.p.slide) hs hL h1.2 (by omega)
        exact ⟨this.1, this.2, hmk⟩
      · exact ⟨hL, hs, hmk⟩
    · exact ⟨hL, hs, hmk⟩
theorem afterR_low : ∀ (l : List Inp) (r : Rn), SortedL r.L → LowL r.L → r.c.mark ≤ 160 → (∀ o ∈ r.p.ops, o.wf) → (∀ i ∈ l, i.ev.wf ∧ i.ev.time ≤ 160) → LowL (afterR r l).L ∧ (afterR r l).c.mark ≤ 160
  | [], r, _, hL, hm, _, _ => ⟨hL, hm⟩
  | i :: l, r, hs, hL, hm, ho, hi => by
    have h := takeR_low i hs hL hm ho (hi i (by simp))
    exact afterR_low l _ h.2.1 h.1 h.2.2 (by rw [takeR_p]; exact ho) fun j hj => hi j (by simp [hj])
/-- Behind a mark past all nothing is open. -/
theorem whole_past {p : Pp} (ho : ∀ o ∈ p.ops, o.wf) (hsz : p.size ≤ 48) {l : List Inp} (hl : ∀ i ∈ l, i.ev.wf ∧ i.ev.time ≤ 160) : (afterR (newR p) (l ++ [endI])).L = [] := by
  rw [afterR_append]
  have h := afterR_low l (newR p) List.Pairwise.nil (fun _ _ hx => by cases hx) (by show (0 : Int) ≤ 160; omega) ho hl
  have hp := afterR_p (newR p) l
  generalize afterR (newR p) l = r at *
  have ha : advB r.c 1000 = true := by unfold advB; simp; omega
  show (takeR r endI).1.L = []
  unfold takeR endI
  simp only [if_true, ha]
  refine List.filter_eq_nil_iff.2 fun q hq => ?_
  have h1 := h.1 q.1 q.2 hq
  have h2 : r.p.size ≤ 48 := by rw [hp]; exact hsz
  simp [endsB]
  omega
end Go.Proofs.YtdncpihaeobaeaaGreat
