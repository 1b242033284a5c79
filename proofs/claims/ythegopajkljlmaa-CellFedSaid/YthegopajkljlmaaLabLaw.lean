/- The plain law of CellLabels: the label of offered events is the tenant's own. -/
import Derived.Test.YthegopajkljlmaaPreLaw
import Derived.Test.YthegopajkljlmaaOffers
set_option linter.unusedVariables false
namespace Go.Proofs.Ythegopajkljlmaa
open Go.RowKit Go.Maps
def OneL (lb : Int) (L : PL) : Prop := ∀ p x, (p, x) ∈ L → x.l = lb
theorem or_same {lb : Int} (h : (Lit.int .u64 lb).wf = true) : bits .or .u64 lb lb = lb := by
  rw [bits_or64, BitVec.or_self, bv_back h]
theorem putS_lab {kd lb : Int} {L : PL} {e : Ev} (hs : SortedL L) (hw : (Lit.int .u64 lb).wf = true) (hL : OneL lb L) (he : e.label = lb) (s : Int) : OneL lb (putS kd L e s) := by
  intro p x hx
  rcases (mem_insL hs p x).1 hx with ⟨rfl, rfl⟩ | ⟨_, hx⟩
  · show bits .or .u64 ((lookL L (plOf s e.key)).getD ⟨0, kd, 0, 0⟩).l e.label = lb
    rw [he]
    cases hl : lookL L (plOf s e.key) with
    | none => exact or_zero hw
    | some y =>
      have := hL _ y ((lookL_some hs).1 hl)
      show bits .or .u64 y.l lb = lb
      rw [this, or_same hw]
  · exact hL p x hx
theorem putE_lab {kd sz sl lb : Int} {L : PL} {e : Ev} (hs : SortedL L) (hw : (Lit.int .u64 lb).wf = true) (hL : OneL lb L) (he : e.label = lb) : OneL lb (putE kd sz sl L e) ∧ SortedL (putE kd sz sl L e) := by
  unfold putE
  generalize startsOf e.time sz sl = ss
  induction ss generalizing L with
  | nil => exact ⟨hL, hs⟩
  | cons s ss ih => exact ih (putS_sorted hs e s) (putS_lab hs hw hL he s)
theorem takeR_lab {lb : Int} {r : Rn} (i : Inp) (hw : (Lit.int .u64 lb).wf = true) (hs : SortedL r.L) (hL : OneL lb r.L) (hi : i.mark = false → i.ev.label = lb) : OneL lb (takeR r i).1.L ∧ SortedL (takeR r i).1.L ∧ ∀ x ∈ (takeR r i).2, x.label = lb := by
  unfold takeR
  split
  · split
    · refine ⟨fun p x hx => hL p x (List.mem_filter.1 hx).1, List.Pairwise.filter _ hs, fun x hx => ?_⟩
      obtain ⟨q, hq, rfl⟩ := List.mem_map.1 hx
      exact hL q.1 q.2 (List.mem_filter.1 hq).1
    · exact ⟨hL, hs, by simp⟩
  · rename_i hm
    unfold evR
    dsimp only
    split
    · split
      · rename_i x hx
        have h := putE_lab (kd := r.p.agg) (sz := r.p.size) (sl := r.p.slide) (e := x) hs hw hL (by rw [runO_label _ _ _ hx]; exact hi (by simpa using hm))
        exact ⟨h.1, h.2, by simp⟩
      · exact ⟨hL, hs, by simp⟩
    · exact ⟨hL, hs, by simp⟩
theorem rows_lab {lb : Int} (hw : (Lit.int .u64 lb).wf = true) : ∀ (l : List Inp) (r : Rn), SortedL r.L → OneL lb r.L → (∀ i ∈ l, i.mark = false → i.ev.label = lb) → ∀ x ∈ rowsR r l, x.label = lb
  | [], r, _, _, _, x, hx => by simp [rowsR] at hx
  | i :: l, r, hs, hL, hi, x, hx => by
    have h := takeR_lab i hw hs hL (hi i (by simp))
    rw [rowsR] at hx
    rcases List.mem_append.1 hx with hx | hx
    · exact h.2.2 x hx
    · exact rows_lab hw l _ h.2.1 h.1 (fun j hj => hi j (by simp [hj])) x hx
/-- All that waits bears the tenant's own label. -/
def OwnQ (id : Int) (q : List Inp) : Prop := ∀ i ∈ q, i.mark = false → i.ev.label = lab id
theorem offer_own {c : Cl} {room : Int} (i : Inp) (h : OwnQ c.id c.q) : OwnQ c.id (c.offer room i).2.q := by
  unfold Cl.offer
  split
  · exact h
  · split
    · exact h
    · split
      · exact h
      · intro j hj hm
        rcases List.mem_append.1 hj with hj | hj
        · exact h j hj hm
        · simp at hj
          subst hj
          unfold ownI at hm ⊢
          split
          · rename_i h2
            rw [if_pos h2] at hm
            cases hm
          · rfl
theorem offAll_own (room : Int) : ∀ (l : List Inp) (c : Cl), OwnQ c.id c.q → OwnQ c.id (offAll c room l).q := by
  intro l
  induction l with
  | nil => exact fun c h => h
  | cons i l ih =>
    intro c h
    have h1 := ih (c.offer room i).2 (by rw [(offer_p c room i).2.1]; exact offer_own i h)
    rw [(offer_p c room i).2.1] at h1
    exact h1
theorem offer_label (c : Cl) (room : Int) (im : Bool) (t k v l l' : Int) : c.offer room ⟨im, ⟨t, k, v, l⟩⟩ = c.offer room ⟨im, ⟨t, k, v, l'⟩⟩ := by
  unfold Cl.offer ownB ownI
  cases im <;> rfl
/-- What is served of them has rows with that label. -/
theorem served_lab {c : Cl} (j : Nat) (ht : c.taken = []) (h0 : 0 ≤ c.id) (h1 : c.id < 8) (h : OwnQ c.id c.q) : ∀ x ∈ rowsR c.rn (c.q.take j), x.label = lab c.id := by
  have hr : c.rn = newR c.p := by unfold Cl.rn; rw [ht]; rfl
  rw [hr]
  exact rows_lab (lab_wf c.id h0 h1) _ _ List.Pairwise.nil (fun _ _ h => by cases h) fun i hi => h i (List.mem_of_mem_take hi)
end Go.Proofs.Ythegopajkljlmaa
