/- Walk of board.Twin. -/
import Derived.Test.YtpkpcomocimghaaGreatTold
set_option linter.unusedVariables false
set_option linter.unusedSimpArgs false
namespace Go.Proofs.YtpkpcomocimghaaGreat
open Go.RowKit
theorem ownP_part {α : Type} {e : TypeId} {c : Nat} {enc : α → List Value} {v : Value} {l : List α} {h : Nat → Option Obj} {f : Nat → Bool} (hh : ownP e c enc v l (part h f)) : ownP e c enc v l h := by
  rcases hh with h1 | ⟨g, cap, cur, h1, hg, h2⟩
  · exact .inl h1
  · exact .inr ⟨g, cap, cur, h1, (part_some hg).2, h2⟩
set_option maxRecDepth 20000 in
theorem idxRel (v0 v1 v2 v3 v4 v5 v6 v7 : Value) (k : Nat) (hk : k < 8) (w : World) : (Instr.index 148 (.agg #[v0, v1, v2, v3, v4, v5, v6, v7]) (.int .i64 k)).run Tryz.prog w = .ok ([v0, v1, v2, v3, v4, v5, v6, v7][k]'(by simpa using hk)) w := by
  match k, hk with
  | 0, _ | 1, _ | 2, _ | 3, _ | 4, _ | 5, _ | 6, _ | 7, _ => rfl
def twinK (T : List (List Rel)) (k : Nat) : List (List Rel) := T.take k ++ List.replicate (8 - k) []
theorem twinK_len (T : List (List Rel)) (k : Nat) (h : T.length = 8) (hk : k ≤ 8) : (twinK T k).length = 8 := by simp [twinK]; omega
theorem twinK_set (T : List (List Rel)) (k : Nat) (h : T.length = 8) (hk : k < 8) : (twinK T k).set k (T[k]'(by omega)) = twinK T (k + 1) := by
  unfold twinK
  have e : List.replicate (8 - k) ([] : List Rel) = [] :: List.replicate (8 - (k + 1)) [] := by rw [show 8 - k = (8 - (k + 1)) + 1 by omega, List.replicate_succ]
  have hl : (T.take k).length = k := by simp; omega
  rw [e, List.set_append_right _ _ (by omega), hl, Nat.sub_self, List.set_cons_zero, List.take_add_one, List.getElem?_eq_getElem (by omega), Option.toList_some, List.append_assoc, List.singleton_append]
theorem twinK_all (T : List (List Rel)) (h : T.length = 8) : twinK T 8 = T := by unfold twinK; simp [← h]
theorem twinK_at (T : List (List Rel)) (k : Nat) (h : T.length = 8) (hk : k < 8) : (twinK T k)[k]'(by rw [twinK_len T k h (by omega)]; exact hk) = [] := by
  unfold twinK
  have hl : (T.take k).length = k := by simp; omega
  rw [List.getElem_append_right (by omega)]
  simp
theorem twinK_bound {T : List (List Rel)} {N k : Nat} (h : ∀ l ∈ T, l.length ≤ N) : ∀ l ∈ twinK T k, l.length ≤ N := by
  intro l hl
  rcases List.mem_append.1 hl with hl | hl
  · exact h l (List.mem_of_mem_take hl)
  · rw [(List.mem_replicate.1 hl).2]; simp
set_option maxHeartbeats 4000000 in
set_option maxRecDepth 20000 in
theorem boardTwin_in {w0 w : World} {R : HP} {bb N : Nat} {T : List (List Rel)} (h : St w0 w [boardP bb T N, R]) (hN : N < 2 ^ 38) :
    Calls Tryz.prog 60 #[.pointer (some ⟨bb, 0, none⟩)] w fun x w' => ∃ nb, x = .returned (.pointer (some ⟨nb, 0, none⟩)) ∧ St w0 w' [boardP bb T N, R, boardP nb T N] := by
  obtain ⟨vs, h1, h2, h3, h4⟩ := board_open h
  obtain ⟨v0, v1, v2, v3, v4, v5, v6, v7, rfl⟩ := arr8 h1
  have HB := Lib.hid (boardNew_st h4)
  have HBD := Lib.hid h3
  have HT8 := Lib.hid h2
  have hY : ∀ w' nb, St w0 w' [pt bb (.cells #[v0, v1, v2, v3, v4, v5, v6, v7] 150 (0, 0)), sepL (relsL [v0, v1, v2, v3, v4, v5, v6, v7] T), R, boardP nb T N] → St w0 w' [boardP bb T N, R, boardP nb T N] := fun w' nb h' => board_shut (vs := [v0, v1, v2, v3, v4, v5, v6, v7]) h1 h2 h3 h'
  have HY := Lib.hid hY
  clear h h4 hY h3 h2
  go_enter Tryz.func60, Tryz.ntmps60
  go_upto_region 2 with (go_at_call 47; (with_reducible refine HB.out.mono ?_); rintro e w1 ⟨nb, rfl, hst1⟩; obtain ⟨c0, c1, c2, c3, c4, c5, c6, c7⟩ := cells8 (hst1.blk 0 rfl).1 (Below.refl _ _); have hbl := (hst1.blk 0 rfl).2.2; have HS1 := Lib.hid hst1; clear hst1 HB)
  go_wp2_with fail
  go_loopw [11] (fun iv wr => ∃ k : Nat, k ≤ 8 ∧ iv = .int .i64 k ∧ St w0 wr [pt bb (.cells #[v0, v1, v2, v3, v4, v5, v6, v7] 150 (0, 0)), sepL (relsL [v0, v1, v2, v3, v4, v5, v6, v7] T), R, boardP nb (twinK T k) N]) (fun iv _ => 8 - (intOf iv).toNat)
  case atStart => exact ⟨0, by omega, rfl, HS1.out.imp 3 rfl fun f hf => boardP_mono (Nat.zero_le N) hf⟩
  case round =>
    obtain ⟨k, hk, rfl, hst⟩ := hrel
    by_cases hlt : (k : Int) < 8
    · have hk8 : k < 8 := by omega
      have hT8 := HT8.out
      have hix := idxRel v0 v1 v2 v3 v4 v5 v6 v7 k hk8
      obtain ⟨hst5, hi5⟩ := hst.relIn 1 rfl h1 hT8 k hk8
      have hTb := HBD.out _ (List.getElem_mem (show k < T.length by omega))
      obtain ⟨x, hx⟩ : ∃ x, [v0, v1, v2, v3, v4, v5, v6, v7][k]'(by simpa using hk8) = x := ⟨_, rfl⟩
      obtain ⟨l, hl⟩ : ∃ l, T[k]'(by omega) = l := ⟨_, rfl⟩
      rw [hx] at hix
      rw [hx, hl] at hi5
      rw [hl] at hTb
      obtain ⟨xa, xc, rfl, _, _, hxn, hxs⟩ := hst5.sl Rel.len _ hi5
      have HC := Lib.hid (cloneRel_st hst5.drew xa xc l (hst5.drew.slOf Rel.len _ hi5) hxn (by omega))
      have hts := twinK_set T k hT8 hk8
      rw [hl] at hts
      have hfin : ∀ w' v, St w0 w' (([pt bb (.cells #[v0, v1, v2, v3, v4, v5, v6, v7] 150 (0, 0)), sepL (relsL [v0, v1, v2, v3, v4, v5, v6, v7] T), R, boardP nb (twinK T k) N].set 1 emp ++ relsL [v0, v1, v2, v3, v4, v5, v6, v7] T) ++ [ownP 43 4 Rel.cells v l]) → (∃ z, w'.cell? ⟨nb, k, none⟩ = some z) ∧ w'.frozen? ⟨nb, k, none⟩ = false ∧ St w0 (w'.setCell ⟨nb, k, none⟩ v) [pt bb (.cells #[v0, v1, v2, v3, v4, v5, v6, v7] 150 (0, 0)), sepL (relsL [v0, v1, v2, v3, v4, v5, v6, v7] T), R, boardP nb (twinK T (k + 1)) N] := fun w' v h' => by
        rw [List.append_assoc] at h'
        have g1 : St w0 w' [pt bb (.cells #[v0, v1, v2, v3, v4, v5, v6, v7] 150 (0, 0)), sepL (relsL [v0, v1, v2, v3, v4, v5, v6, v7] T), R, boardP nb (twinK T k) N, ownP 43 4 Rel.cells v l] := h'.unsplit (by simp)
        have g2 := g1.pick [3, 4, 0, 1, 2] (by decide)
        obtain ⟨us, a1, a2, a3, a4⟩ := board_open (K := [ownP 43 4 Rel.cells v l, pt bb (.cells #[v0, v1, v2, v3, v4, v5, v6, v7] 150 (0, 0)), sepL (relsL [v0, v1, v2, v3, v4, v5, v6, v7] T), R]) g2
        refine ⟨⟨us[k]'(by omega), ?_⟩, (blkCells (a4.blk 0 rfl).1).2 k, ?_⟩
        · rw [(blkCells (a4.blk 0 rfl).1).1 k]
          simp [a1, hk8]
        · have a5 : St w0 (w'.setCell ⟨nb, k, none⟩ v) [pt nb (.cells (us.set k v).toArray 150 (0, 0)), sepL (relsL us (twinK T k)), ownP 43 4 Rel.cells v l, pt bb (.cells #[v0, v1, v2, v3, v4, v5, v6, v7] 150 (0, 0)), sepL (relsL [v0, v1, v2, v3, v4, v5, v6, v7] T), R] := by simpa using a4.set 0 rfl k v
          obtain ⟨a6, a7⟩ := a5.relIn 1 rfl a1 a2 k hk8
          have a8 := a6.merge _ 2 (by simp; omega) a7 rfl (Z := ownP 43 4 Rel.cells v l) (fun h hh => by
            obtain ⟨own, ho⟩ := hh
            exact ownP_part (ho 1 _ rfl))
          have a9 : St w0 (w'.setCell ⟨nb, k, none⟩ v) (([pt nb (.cells (us.set k v).toArray 150 (0, 0)), sepL (relsL us (twinK T k)), emp, pt bb (.cells #[v0, v1, v2, v3, v4, v5, v6, v7] 150 (0, 0)), sepL (relsL [v0, v1, v2, v3, v4, v5, v6, v7] T), R].set 1 emp ++ relsL us (twinK T k)).set ([pt nb (.cells (us.set k v).toArray 150 (0, 0)), sepL (relsL us (twinK T k)), emp, pt bb (.cells #[v0, v1, v2, v3, v4, v5, v6, v7] 150 (0, 0)), sepL (relsL [v0, v1, v2, v3, v4, v5, v6, v7] T), R].length + k) (ownP 43 4 Rel.cells v l) ++ []) := by
            rw [List.append_nil]
            exact a8
          have b1 := St.relOut 1 (by simp) k v l a9
          rw [List.append_nil] at b1
          have b2 := b1.pick [0, 1, 3, 4, 5] (by decide)
          have b3 := board_shut (T := twinK T (k + 1)) (vs := us.set k v) (N := N) (K := [pt bb (.cells #[v0, v1, v2, v3, v4, v5, v6, v7] 150 (0, 0)), sepL (relsL [v0, v1, v2, v3, v4, v5, v6, v7] T), R]) (by simpa using a1) (twinK_len T (k + 1) hT8 (by omega)) (twinK_bound HBD.out) (by rw [← hts]; exact b2)
          exact b3.pick [1, 2, 3, 0] (by decide)
      have HFIN := Lib.hid hfin
      clear hst hst5 hi5 hfin hx hl hts hxs hT8
      go_wp2_with fail
      go_region_held3 (fun _ => True) (trivial) ((go_at_call 84; (with_reducible refine HC.out.mono ?_); rintro e w2 ⟨v, rfl, h2⟩; obtain ⟨va, vc, rfl, _⟩ := h2.sl Rel.len _ (last_get _ _); obtain ⟨⟨z, e0⟩, f0, h3⟩ := HFIN.out _ _ h2; have HS3 := Lib.hid h3; clear h2 h3 HC))
      go_wp2
      go_roundw
      case rel => exact ⟨k + 1, by omega, by go_num, HS3.out⟩
      case measure => simp [intOf]; omega
    · obtain rfl : k = 8 := by omega
      rw [twinK_all T HT8.out] at hst
      have HST := Lib.hid hst
      clear hst
      go_wp2
      go_ret
      exact ⟨nb, rfl, HY.out _ _ HST.out⟩
end Go.Proofs.YtpkpcomocimghaaGreat
