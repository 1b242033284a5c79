/- Cells that are laid open: what they hand out. -/
import Derived.Test.YtdncpihaeobaeaaGreatCoreTw
set_option linter.unusedVariables false
set_option linter.unusedSimpArgs false
namespace Go.Proofs.YtdncpihaeobaeaaGreat
open Go.RowKit
def clB (rb : Nat) (qa : Option Addr) (qc : Nat) (rv : Value) (ta : Option Addr) (tc : Nat) (c : Cl) : Obj := .cells (c.cells rb (.slice qa c.q.length qc) rv (.slice ta c.taken.length tc)) 83 (0, 0)
/-- A cell's own things, laid open behind the list. -/
theorem cl_flat2 {w0 w : World} {L : List HP} {cb N : Nat} {c : Cl} (h : St w0 w L) (n : Nat) (hn : L[n]? = some (clP cb c N)) : ∃ (rb : Nat) (qa : Option Addr) (qc : Nat) (rv : Value) (ta : Option Addr) (tc : Nat), c.ok N ∧
    St w0 w (L.set n emp ++ [pt cb (clB rb qa qc rv ta tc c), seeP 5 Inp.cells (.slice qa c.q.length qc) c.q, rnP rb c.rn c.taken.length, ownP 55 5 Rw.cells rv c.rows, ownP 65 5 Inp.cells (.slice ta c.taken.length tc) c.taken]) := by
  obtain ⟨rb, qv, rv, tv, hok, hst⟩ := cl_flat h n hn
  have hnl := (List.getElem?_eq_some_iff.1 hn).1
  have e1 : (L.set n emp ++ [pt cb (.cells (c.cells rb qv rv tv) 83 (0, 0)), seeP 5 Inp.cells qv c.q, rnP rb c.rn c.taken.length, ownP 55 5 Rw.cells rv c.rows, ownP 65 5 Inp.cells tv c.taken])[L.length + 1]? = some (seeP 5 Inp.cells qv c.q) := by
    rw [List.getElem?_append_right (by simp)]; simp
  have e4 : (L.set n emp ++ [pt cb (.cells (c.cells rb qv rv tv) 83 (0, 0)), seeP 5 Inp.cells qv c.q, rnP rb c.rn c.taken.length, ownP 55 5 Rw.cells rv c.rows, ownP 65 5 Inp.cells tv c.taken])[L.length + 4]? = some (ownP 65 5 Inp.cells tv c.taken) := by
    rw [List.getElem?_append_right (by simp)]; simp
  obtain ⟨qa, qc, hqv, _⟩ := hst.see Inp.len _ e1
  obtain ⟨ta, tc, htv, _⟩ := hst.sl Inp.len _ e4
  subst hqv htv
  exact ⟨rb, qa, qc, rv, ta, tc, hok, hst⟩
set_option maxHeartbeats 1000000 in
theorem takenO_st {w0 w : World} {L : List HP} {cb rb : Nat} {qa ta : Option Addr} {qc tc : Nat} {rv : Value} {c : Cl} (h : St w0 w L) (n m : Nat) (hn : L[n]? = some (pt cb (clB rb qa qc rv ta tc c))) (hm : L[m]? = some (ownP 65 5 Inp.cells (.slice ta c.taken.length tc) c.taken)) (hlen : c.taken.length ≤ 1099511627776) :
    Calls Tryz.prog 32 #[.pointer (some ⟨cb, 0, none⟩)] w fun x w' => ∃ v, x = .returned v ∧ St w0 w' (L ++ [ownP 65 5 Inp.cells v c.taken]) := by
  obtain ⟨_, _, hv, _, _, htn, _⟩ := h.sl Inp.len m hm
  cases hv
  obtain ⟨_, _, _, _, _, _, _, c7⟩ := cells8 (h.blk n hn).1 (Below.refl _ _)
  have HC := Lib.hid (cloneInp_st h ta tc c.taken (h.slOf Inp.len m hm) htn hlen)
  clear h hn hm htn
  go_enter Tryz.func32, Tryz.ntmps32
  go_wp2_with (go_at_call 60; (with_reducible refine HC.out.mono ?_); rintro e w1 ⟨v, rfl, h1⟩; have H1 := Lib.hid h1; clear h1 HC)
  go_ret
  exact ⟨v, rfl, H1.out⟩
end Go.Proofs.YtdncpihaeobaeaaGreat
