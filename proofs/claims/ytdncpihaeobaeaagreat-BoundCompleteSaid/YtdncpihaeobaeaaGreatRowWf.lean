/- What rows hold are numbers. -/
import Derived.Test.YtdncpihaeobaeaaGreatCoreM
set_option linter.unusedVariables false
set_option linter.unusedSimpArgs false
namespace Go.Proofs.YtdncpihaeobaeaaGreat
def Rw.vwf (r : Rw) : Prop := (Lit.int .i64 r.value).wf = true ∧ (Lit.int .u64 r.label).wf = true
theorem take_good (r : Rn) (i : Inp) (N : Nat) (hG : GoodL r.p.agg r.p.size r.p.slide N r.L) (hs : SortedL r.L) (hk : (Lit.int .i64 r.p.agg).wf = true) (ho : ∀ o ∈ r.p.ops, o.wf) (hi : i.ev.wf) (hN : N + 8 < 2 ^ 41) :
    GoodL r.p.agg r.p.size r.p.slide (N + 8) (takeR r i).1.L ∧ SortedL (takeR r i).1.L ∧ (takeR r i).1.p = r.p ∧ ∀ x ∈ (takeR r i).2, x.vwf := by
  unfold takeR
  split
  · split
    · refine ⟨(hG.keep _).mono (by omega), List.Pairwise.filter _ hs, rfl, fun x hx => ?_⟩
      obtain ⟨q, hq, rfl⟩ := List.mem_map.1 hx
      have h := (hG.each q.1 q.2 (List.mem_filter.1 hq).1).2.2.2.2.2
      exact ⟨h.2.2.1, h.2.2.2⟩
    · exact ⟨hG.mono (by omega), hs, rfl, by simp⟩
  · refine ⟨?_, ?_, rfl, by simp⟩
    · unfold evR
      dsimp only
      split
      · split
        · rename_i x hx
          exact (hG.putE hs hk hN (runO_wf hi ho hx)).1
        · exact hG.mono (by omega)
      · exact hG.mono (by omega)
    · unfold evR
      dsimp only
      split
      · split
        · rename_i x hx
          exact (hG.putE hs hk hN (runO_wf hi ho hx)).2
        · exact hs
      · exact hs
theorem run_good (l : List Inp) : ∀ (r : Rn) (N : Nat), GoodL r.p.agg r.p.size r.p.slide N r.L → SortedL r.L → (Lit.int .i64 r.p.agg).wf = true → (∀ o ∈ r.p.ops, o.wf) → (∀ i ∈ l, i.ev.wf) → N + 8 * l.length < 2 ^ 41 →
    GoodL r.p.agg r.p.size r.p.slide (N + 8 * l.length) (afterR r l).L ∧ SortedL (afterR r l).L ∧ (afterR r l).p = r.p ∧ ∀ x ∈ rowsR r l, x.vwf := by
  induction l with
  | nil => exact fun r N hG hs _ _ _ _ => ⟨hG, hs, rfl, by simp [rowsR]⟩
  | cons i l ih =>
    intro r N hG hs hk ho hi hN
    simp only [List.length_cons] at hN ⊢
    obtain ⟨a1, a2, a3, a4⟩ := take_good r i N hG hs hk ho (hi i (List.mem_cons_self ..)) (by omega)
    obtain ⟨b1, b2, b3, b4⟩ := ih (takeR r i).1 (N + 8) (by rw [a3]; exact a1) a2 (by rw [a3]; exact hk) (by rw [a3]; exact ho) (fun j hj => hi j (List.mem_cons_of_mem _ hj)) (by omega)
    rw [a3] at b1 b3
    refine ⟨by rw [show N + 8 * (l.length + 1) = N + 8 + 8 * l.length from by omega]; exact b1, b2, b3, fun x hx => ?_⟩
    rcases List.mem_append.1 hx with hx | hx
    · exact a4 x hx
    · exact b4 x hx
theorem agg_wf {p : Pp} (h : rightPp p = true) : (Lit.int .i64 p.agg).wf = true := by
  unfold rightPp rightK at h
  simp only [Bool.and_eq_true, decide_eq_true_eq] at h
  exact WalkArith.wf_i64 (by omega)
/-- A cell's rows, and those that serving it gives. -/
theorem cl_rows_wf {c : Cl} {N : Nat} (hok : c.ok N) (hN : N < 2 ^ 28) (j : Nat) : ∀ x ∈ rowsR c.rn (c.q.take j), x.vwf := by
  have hall : ∀ x ∈ rowsR (newR c.p) (c.taken ++ c.q.take j), x.vwf := by
    refine (run_good _ (newR c.p) 0 (GoodL.empty ..) List.Pairwise.nil (agg_wf hok.right) hok.ops (fun i hi => ?_) ?_).2.2.2
    · rcases List.mem_append.1 hi with h | h
      · exact hok.wft i h
      · exact hok.wfq i (List.mem_of_mem_take h)
    · have := hok.len
      have : (c.q.take j).length ≤ c.q.length := by rw [List.length_take]; omega
      simp only [List.length_append]
      omega
  intro x hx
  exact hall x (by rw [rowsR_append]; exact List.mem_append_right _ hx)
theorem give1_wf (s : Sk) (t : Int) (p : Pot) (r : Rw) (hp : (Lit.int .i64 p.value).wf = true) (hr : r.vwf) : (Lit.int .i64 (give1 s t p r).value).wf = true := by
  unfold give1
  split
  · exact takeV_wf hp hr.1
  · exact hp
theorem giveP_wf (s : Sk) (t : Int) (l : List Rw) : ∀ p : Pot, (Lit.int .i64 p.value).wf = true → (∀ r ∈ l, r.vwf) → (Lit.int .i64 (giveP s t p l).value).wf = true := by
  induction l with
  | nil => exact fun p h _ => h
  | cons r l ih => exact fun p h hl => ih _ (give1_wf s t p r h (hl r (List.mem_cons_self ..))) fun x hx => hl x (List.mem_cons_of_mem _ hx)
end Go.Proofs.YtdncpihaeobaeaaGreat
