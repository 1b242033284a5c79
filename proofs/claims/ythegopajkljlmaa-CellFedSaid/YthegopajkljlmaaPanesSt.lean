/- The contracts of package panes, among things that are kept. -/
import Derived.Test.YthegopajkljlmaaSepSl
import Derived.Test.YthegopajkljlmaaPut
import Derived.Test.YthegopajkljlmaaShut
import Derived.Test.YthegopajkljlmaaPaneKit
set_option linter.unusedVariables false
namespace Go.Proofs.Ythegopajkljlmaa
open Go.RowKit Go.Maps
def panesP (pb : Nat) (sz sl kd : Int) (N : Nat) (L : PL) : HP := fun h =>
  (GoodL kd sz sl N L ∧ (Lit.int .i64 kd).wf = true) ∧ ∃ (u : World) (mb : Nat), PanesAt u pb mb sz sl kd L ∧ h pb = u.heap[pb]? ∧ h mb = u.heap[mb]?
theorem panesP_good {pb N : Nat} {sz sl kd : Int} {M : PL} {w0 w : World} {L : List HP} (h : St w0 w L) (n : Nat) (hn : L[n]? = some (panesP pb sz sl kd N M)) : GoodL kd sz sl N M ∧ SortedL M ∧ (Lit.int .i64 kd).wf = true := by
  obtain ⟨F, hF⟩ := h.at n hn
  obtain ⟨⟨hG, hk⟩, u, mb, hP, _⟩ := hF
  exact ⟨hG, hP.2.sorted, hk⟩
/-- The windows that are open, at a world. -/
theorem panesP_at {pb N : Nat} {sz sl kd : Int} {M : PL} {w0 w : World} {L : List HP} (h : St w0 w L) (n : Nat) (hn : L[n]? = some (panesP pb sz sl kd N M)) : ∃ mb, w0.heap.size ≤ mb ∧ PanesAt w pb mb sz sl kd M ∧
    ∀ (w' : World) (N' : Nat) (M' : PL) (Y : HP) (G : Nat → Bool), w.grownBy w' (some mb) → PanesAt w' pb mb sz sl kd M' → GoodL kd sz sl N' M' → (∀ b, G b = true → w.heap.size ≤ b) → Y (part (fun b => w'.heap[b]?) G) → St w0 w' (L.set n (panesP pb sz sl kd N' M') ++ [Y]) := by
  obtain ⟨F, hF, ⟨⟨hG, hk⟩, u, mb, hP, h1, h2⟩, hcl⟩ := h.opened2 n hn
  obtain ⟨es, ck, hu⟩ := hP.2.block
  rw [hP.1] at h1
  rw [hu] at h2
  have h1' := part_some h1
  have h2' := part_some h2
  have hat : PanesAt w pb mb sz sl kd M := hP.same (by rw [hP.1]; exact h1'.2) (by rw [hu]; exact h2'.2)
  refine ⟨mb, hF mb h2'.1, hat, fun w' N' M' Y G hg hP' hG' hGf hY => ?_⟩
  refine hcl w' _ Y (fun b => F b && decide (b < w.heap.size)) G (fun b hb => .inl (by simp at hb; exact hb.1)) ⟨⟨hG', hk⟩, w', mb, hP', ?_, ?_⟩ (fun b hb => ⟨hGf b hb, by have := hGf b hb; simp; omega⟩) hY hg.os hg.tape hg.output hg.size fun b hb hFb => hg.block b hb fun e => ?_
  · unfold part; rw [if_pos (by simp [h1'.1, hat.lt])]
  · unfold part; rw [if_pos (by simp [h2'.1, hat.2.lt])]
  · cases e
    rw [h2'.1] at hFb
    cases hFb
theorem St.gainPanes {pb mb N : Nat} {sz sl kd : Int} {M : PL} {w0 w w' : World} {L : List HP} (h : St w0 w L) (hb : Below w.heap.size w w') (hP : PanesAt w' pb mb sz sl kd M) (h1 : w.heap.size ≤ pb) (h2 : w.heap.size ≤ mb) (hG : GoodL kd sz sl N M) (hk : (Lit.int .i64 kd).wf = true) :
    St w0 w' (L ++ [panesP pb sz sl kd N M]) := by
  refine h.gain hb _ (fun b => decide (b = pb ∨ b = mb)) (fun b hb => ?_) ⟨⟨hG, hk⟩, w', mb, hP, ?_, ?_⟩
  · rcases of_decide_eq_true hb with rfl | rfl
    · exact h1
    · exact h2
  · unfold part; rw [if_pos (by simp)]
  · unfold part; rw [if_pos (by simp)]
section
variable {pb N : Nat} {sz sl kd : Int} {M : PL} {w0 w : World} {L : List HP}
theorem panesNew_st (sz sl kd : Int) (hk : (Lit.int .i64 kd).wf = true) (h : St w0 w L) : Calls Try.prog 57 #[.int .i64 sz, .int .i64 sl, .int .i64 kd] w fun e w' => ∃ pb, e = .returned (.pointer (some ⟨pb, 0, none⟩)) ∧ St w0 w' (L ++ [panesP pb sz sl kd 0 []]) :=
  (panesNew_any sz sl kd w).mono (by
    rintro e w' ⟨pb, mb, rfl, h1, h2, hP, hb⟩
    exact ⟨pb, rfl, h.gainPanes hb hP h1 h2 (GoodL.empty _ _ _) hk⟩)
theorem panesPut_st (h : St w0 w L) (n : Nat) (hn : L[n]? = some (panesP pb sz sl kd N M)) (a : Option Addr) (cap : Nat) (es : List Ev) (hes : SlAt 4 (flat Ev.cells) w a es) (hwf : ∀ e ∈ es, e.wf) (hN : N + 8 * es.length < 2 ^ 40) :
    Calls Try.prog 74 #[.pointer (some ⟨pb, 0, none⟩), .slice a es.length cap] w fun e w' => e = .returned (.tuple #[]) ∧ St w0 w' (L.set n (panesP pb sz sl kd (N + 8 * es.length) (putL kd sz sl M es))) := by
  obtain ⟨hG, hs, hk⟩ := panesP_good h n hn
  obtain ⟨mb, hm, hP, hcl⟩ := panesP_at h n hn
  exact (put_any pb mb sz sl kd M N a cap es w hP hG hk hes hwf hN).mono (by
    rintro e w' ⟨rfl, h1, h2⟩
    exact ⟨rfl, (hcl w' _ _ emp (fun _ => false) h2 h1 (GoodL.putL hk es N M hwf hG hs (by omega)).1 (fun _ h => by cases h) trivial).cut⟩)
theorem panesPut1_st (h : St w0 w L) (n : Nat) (hn : L[n]? = some (panesP pb sz sl kd N M)) (m : Nat) {g : Nat} {x : Ev} (hm : L[m]? = some (pt g (.cells #[.int .i64 x.time, .int .i64 x.key, .int .i64 x.value, .int .u64 x.label] 31 (0, 0)))) (hx : x.wf) (hN : N + 8 < 2 ^ 40) :
    Calls Try.prog 74 #[.pointer (some ⟨pb, 0, none⟩), .slice (some ⟨g, 0, none⟩) 1 1] w fun e w' => e = .returned (.tuple #[]) ∧ St w0 w' (L.set n (panesP pb sz sl kd (N + 8) (putE kd sz sl M x))) :=
  (panesPut_st h n hn (some ⟨g, 0, none⟩) 1 [x] (SlAt.one Ev.len (h.blk m hm).1) (by simpa using hx) (by simpa using hN)).mono fun e w' h => h
theorem panesClose_st (h : St w0 w L) (n : Nat) (hn : L[n]? = some (panesP pb sz sl kd N M)) (mark : Int) (hN : N < 2 ^ 40) :
    Calls Try.prog 61 #[.pointer (some ⟨pb, 0, none⟩), .int .i64 mark] w fun e w' => ∃ v, e = .returned v ∧ St w0 w' (L.set n (panesP pb sz sl kd N (keepL sz mark M)) ++ [ownP 43 5 Rw.cells v (rowsL (doneL sz mark M))]) := by
  obtain ⟨hG, hs, hk⟩ := panesP_good h n hn
  obtain ⟨mb, hm, hP, hcl⟩ := panesP_at h n hn
  refine (close_any pb mb sz sl kd M N mark w hP hG hN).mono ?_
  rintro e w' ⟨v, rfl, h1, h2, h3⟩
  refine ⟨v, rfl, hcl w' N _ _ (fun b => decide (v.ownBlock = some b)) h3 h2 (hG.keep mark) (fun b hb => (h1.lt b (by simpa using hb)).1) (ownP_of h1 fun g hg => ?_)⟩
  unfold part
  rw [if_pos (by simp [hg])]
theorem panesOpen_st (h : St w0 w L) (n : Nat) (hn : L[n]? = some (panesP pb sz sl kd N M)) (hN : N < 2 ^ 40) :
    Calls Try.prog 30 #[.pointer (some ⟨pb, 0, none⟩)] w fun e w' => ∃ v, e = .returned v ∧ St w0 w' (L ++ [ownP 43 5 Rw.cells v (rowsL M)]) := by
  obtain ⟨hG, hs, hk⟩ := panesP_good h n hn
  obtain ⟨mb, hm, hP, hcl⟩ := panesP_at h n hn
  refine (open_any pb mb sz sl kd M w hP (by have := hG.len; omega)).mono ?_
  rintro e w' ⟨v, rfl, h1, h2⟩
  exact ⟨v, rfl, h.gainOwn h2 h1⟩
theorem panesLen_st (h : St w0 w L) (n : Nat) (hn : L[n]? = some (panesP pb sz sl kd N M)) :
    Calls Try.prog 31 #[.pointer (some ⟨pb, 0, none⟩)] w fun e w' => e = .returned (.int .i64 M.length) ∧ St w0 w' L := by
  obtain ⟨mb, hm, hP, hcl⟩ := panesP_at h n hn
  refine (len_any pb mb sz sl kd M w hP).mono ?_
  rintro e w' ⟨rfl, h2⟩
  exact ⟨rfl, h.kept h2⟩
theorem panesCopy_st (h : St w0 w L) (n : Nat) (hn : L[n]? = some (panesP pb sz sl kd N M)) :
    Calls Try.prog 69 #[.pointer (some ⟨pb, 0, none⟩)] w fun e w' => ∃ qb, e = .returned (.pointer (some ⟨qb, 0, none⟩)) ∧ St w0 w' (L ++ [panesP qb sz sl kd N M]) := by
  obtain ⟨hG, hs, hk⟩ := panesP_good h n hn
  obtain ⟨mb, hm, hP, hcl⟩ := panesP_at h n hn
  refine (copy_any pb mb sz sl kd M w hP).mono ?_
  rintro e w' ⟨qb, nb, rfl, h1, h2, h3, h4⟩
  exact ⟨qb, rfl, h.gainPanes h4 h3 h1 h2 hG hk⟩
end
end Go.Proofs.Ythegopajkljlmaa
