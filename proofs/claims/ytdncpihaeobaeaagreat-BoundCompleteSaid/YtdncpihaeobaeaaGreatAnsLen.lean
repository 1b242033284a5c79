/- An answer tells at most 32 rows, 32 releases; a pool's answers as the callees want them. -/
import Derived.Test.YtdncpihaeobaeaaGreatAnswers
set_option linter.unusedVariables false
set_option linter.unusedSimpArgs false
namespace Go.Proofs.YtdncpihaeobaeaaGreat
open Go.RowKit
theorem tellT_len (R : List Rel) (f n : Int) : (tellT R f n).1.length ≤ 32 := by
  unfold tellT
  split
  · simp
  · simp only [List.length_take]
    omega
theorem tellR_len (R : List Rw) (f n : Int) : (tellR R f n).1.length ≤ 32 := by
  unfold tellR
  split
  · simp
  · simp only [List.length_take]
    omega
theorem do1_few (co : Co) (a : ActM) : (co.do1 a).1.rows.length ≤ 32 ∧ (co.do1 a).1.told.length ≤ 32 := by
  unfold Co.do1
  split
  · exact ⟨by simp, by simp⟩
  · split
    · exact ⟨by simp, by simp⟩
    · split
      · refine ⟨by simp, ?_⟩
        dsimp only
        unfold Co.toldB
        split
        · exact tellT_len _ _ _
        · simp
      · split
        · exact ⟨by simp, by simp⟩
        · split
          · exact ⟨by simp, by simp⟩
          · split
            · exact ⟨by simp, by simp⟩
            · exact ⟨tellR_len _ _ _, by simp⟩
theorem ans_few (l : List ActM) : ∀ (co : Co), ∀ x ∈ co.ans l, x.rows.length ≤ 32 ∧ x.told.length ≤ 32 := by
  induction l with
  | nil => intro co x hx; simp [Co.ans, Co.doAll] at hx
  | cons a l ih =>
    intro co x hx
    have hx : x ∈ (co.do1 a).1 :: (co.do1 a).2.ans l := hx
    rcases List.mem_cons.1 hx with rfl | hx
    · exact do1_few co a
    · exact ih _ x hx
theorem St.ansAt {w0 w : World} {L : List HP} {us : List AnsR} (h : St w0 w L) (n : Nat) (hn : L[n]? = some (poolP ansP us)) (hf : ∀ x ∈ us.map AnsR.val, x.rows.length ≤ 32 ∧ x.told.length ≤ 32) : ∀ x ∈ us, AnsAt w x := by
  intro x hx
  obtain ⟨F, hF1, hF2⟩ := h.pool n hn x hx
  obtain ⟨a1, _, a3, _, _⟩ := seeP_at Rw.len hF1
  obtain ⟨b1, _, b3, _, _⟩ := seeP_at Rel.len hF2
  have := hf _ (List.mem_map_of_mem hx)
  have h1 : x.rows.length ≤ 32 := this.1
  have h2 : x.told.length ≤ 32 := this.2
  exact ⟨a1, b1, a3, b3, by omega, by omega⟩
end Go.Proofs.YtdncpihaeobaeaaGreat
