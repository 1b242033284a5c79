/- Walks of core.Ticks, core.Cell, core.Twin. -/
import Derived.Test.YtdncpihaeobaeaaGreatDoAll
set_option linter.unusedVariables false
set_option linter.unusedSimpArgs false
namespace Go.Proofs.YtdncpihaeobaeaaGreat
open Go.RowKit
theorem ticks_in {w0 w : World} {K : List HP} {cb sc N : Nat} {sa : Option Addr} {co : Co} (h : St w0 w (coP cb sa sc co N :: K)) : Calls Tryz.prog 26 #[.pointer (some ⟨cb, 0, none⟩)] w fun x w' => x = .returned (.int .i64 co.ticks) ∧ w' = w := by
  obtain ⟨ps, pv, bb, hp8, hok, hst⟩ := co_open h
  obtain ⟨_, _, _, _, _, _, z14, _⟩ := co_c (hst.blk 0 rfl).1 hp8
  clear h hst
  go_enter Tryz.func26, Tryz.ntmps26
  go_wp2
  go_ret
  exact ⟨rfl, rfl⟩
set_option maxHeartbeats 4000000 in
set_option maxRecDepth 20000 in
theorem coreCell_in {w0 w : World} {R : HP} {cb sc N : Nat} {sa : Option Addr} {co : Co} (h : St w0 w [coP cb sa sc co N, R]) (t : Int) (hN : N < 2 ^ 28) : Calls Tryz.prog 29 #[.pointer (some ⟨cb, 0, none⟩), .int .i64 t] w fun x w' => ∃ p : Option Nat, x = .returned (ptrV p) ∧ St w0 w' [coP cb sa sc co N, R, optP N p (co.at t)] := by
  have H0 := Lib.hid ((show St w0 w [coP cb sa sc co N, R, optP N none none] from h.pick [0, 1, 2] (by decide)))
  obtain ⟨ps, pv, bb, hp8, hok, hst⟩ := co_open h
  clear h
  have h8 := hok.good.cells
  rcases at_cases t with ⟨u, hu8, rfl⟩ | hn
  · rw [at_x co u hu8]
    obtain ⟨h5, i5⟩ := hst.cellIn 3 rfl hp8 h8 u hu8
    rw [x_get h8 u hu8] at i5
    have cu := (co_cells (hst.blk 0 rfl).1 hp8).2.2.2.2.1 u hu8
    cases hx : co.x u with
    | none =>
      rw [hx] at i5
      have hb := optP_none h5 _ i5
      rw [hb] at cu
      have HAT := Lib.hid (coreAt_in cb u (.pointer none) _ hu8 cu)
      clear h5 i5 hst cu hb hx hok
      go_enter Tryz.func29, Tryz.ntmps29
      go_wp2_with (go_at_call 58; (with_reducible refine HAT.out.mono ?_); rintro e wz ⟨rfl, hwz⟩; have hwz := hwz.symm; subst hwz)
      go_ret
      exact ⟨none, rfl, H0.out⟩
    | some c =>
      rw [hx] at i5
      obtain ⟨b, hb⟩ := optP_some h5 _ i5
      rw [hb] at i5 cu
      have HAT := Lib.hid (coreAt_in cb u (.pointer (some ⟨b, 0, none⟩)) _ hu8 cu)
      have HCT := Lib.hid (cellTwin_st h5 _ i5 hN)
      have hfin : ∀ w' X, St w0 w' (([pt cb (.cells (coCells co sa sc pv bb ps).toArray 119 (0, 0)), ownP 125 4 Pot.cells pv co.pots, boardP bb co.told N, sepL (clsL ps co.cells N), R].set 3 emp ++ clsL ps co.cells N) ++ [X]) → St w0 w' [coP cb sa sc co N, R, X] := fun w' X h' => by
        rw [List.append_assoc] at h'
        exact co_shut (K := [R, X]) hp8 hok (h'.unsplit (by simp))
      have HFIN := Lib.hid hfin
      clear h5 i5 hst cu hb hx hok hfin
      go_enter Tryz.func29, Tryz.ntmps29
      go_wp2_with (first
        | (go_at_call 58; (with_reducible refine HAT.out.mono ?_); rintro e wz ⟨rfl, hwz⟩; have hwz := hwz.symm; subst hwz)
        | (go_at_call 59; (with_reducible refine HCT.out.mono ?_); rintro e w2 ⟨g, rfl, h2⟩; have h3 := HFIN.out _ _ h2; have H3 := Lib.hid h3; clear h2 h3))
      go_ret
      exact ⟨some g, rfl, H3.out⟩
  · rw [at_out co t hn]
    have HAT := Lib.hid (coreAt_out cb t w hn)
    clear hst hok
    go_enter Tryz.func29, Tryz.ntmps29
    go_wp2_with (go_at_call 58; (with_reducible refine HAT.out.mono ?_); rintro e wz ⟨rfl, hwz⟩; have hwz := hwz.symm; subst hwz)
    go_ret
    exact ⟨none, rfl, H0.out⟩
def addK (f : Nat → HP) (k : Nat) : List HP := (List.range k).map f
theorem cls_take (xs : List (Option Nat)) (cs : List (Option Cl)) (N k : Nat) (hx : xs.length = 8) (hc : cs.length = 8) (hk : k < 8) (p : Option Nat) : clsL (xs.take k) (cs.take k) N ++ [optP N p (cs[k]'(by omega))] = clsL ((xs.set k p).take (k + 1)) (cs.take (k + 1)) N := by
  have e1 : (xs.set k p).take (k + 1) = xs.take k ++ [p] := by
    rw [List.take_add_one, List.take_set_of_le (Nat.le_refl k), List.getElem?_set_self (by omega)]
    rfl
  rw [e1, List.take_add_one, List.getElem?_eq_getElem (by omega)]
  unfold clsL
  rw [List.zipWith_append (by simp; omega)]
  rfl
end Go.Proofs.YtdncpihaeobaeaaGreat
