/- The walk of PanesRuns. -/
import Derived.Test.YtapmfekeooeinaaShut
import Derived.Test.YtapmfekeooeinaaSame
set_option linter.unusedVariables false
namespace Go.Proofs.Ytapmfekeooeinaa
open Go.RowKit Go.Maps
def runE : List Ev := [⟨7, 1, 3, 1⟩, ⟨12, 1, 4, 2⟩]
def runL : PL := putL 2 10 5 [] runE
theorem runK_len : (keepL 10 15 runL).length < 2 ^ 40 := by decide +kernel
theorem runL_len : runL.length = 3 := by decide +kernel
theorem runL_done : rowsL (doneL 10 15 runL) = [⟨0, 1, 3, 1, 1⟩, ⟨5, 1, 7, 2, 3⟩] := by decide +kernel
theorem runL_keep : rowsL (keepL 10 15 runL) = [⟨10, 1, 4, 1, 2⟩] := by decide +kernel
theorem run_wf : ∀ e ∈ runE, e.wf := by
  intro e he
  simp [runE] at he
  rcases he with rfl | rfl
  · exact ⟨by decide, by decide, by decide, by decide⟩
  · exact ⟨by decide, by decide, by decide, by decide⟩
theorem SlAt.ofRow {α : Type} {c : Nat} {enc : α → List Value} (hc : ∀ x, (enc x).length = c) {w : World} {g : Nat} {l : List α} {e : TypeId} {fr : Nat × Nat} (h : w.heap[g]? = some (.cells (l.flatMap enc).toArray e fr)) : SlAt c (flat enc) w (some ⟨g, 0, none⟩) l := by
  refine .inr ⟨g, 0, rfl, (Array.getElem?_eq_some_iff.1 h).1, fun i hi => ⟨enc l[i], hc _, fun j hj => ?_, rfl⟩⟩
  have hf := flatMap_at hc l i j hj
  rw [List.getElem?_eq_getElem hi] at hf
  simp only [World.cell?, h, Nat.zero_add]
  simpa using hf
theorem belowMap {B : Nat} {a b c : World} {mb : Nat} (h : Below B a b) (k : b.grownBy c (some mb)) (hs : B ≤ b.heap.size) (hm : B ≤ mb) : Below B a c := h.grown k hs (fun j hj => by cases hj; exact hm)
/-- A row of the call's own as a slice to be read. -/
theorem PanesAt.good_len {kd sz sl : Int} {N : Nat} {L : PL} (h : GoodL kd sz sl N L) (hN : N < 2 ^ 40) : L.length < 2 ^ 40 := by have := h.len; omega
theorem GoodL.keep {kd sz sl : Int} {N : Nat} {L : PL} (h : GoodL kd sz sl N L) (mark : Int) : GoodL kd sz sl N (keepL sz mark L) := by
  refine ⟨Nat.le_trans (List.length_filter_le _ _) h.len, fun p x hx => h.each p x (List.mem_filter.1 hx).1, fun hne => h.right fun e => hne ?_⟩
  rw [e]
  rfl
theorem put_one (pb mb : Nat) (sz sl kd : Int) (L : PL) (N : Nat) (g : Nat) (ev : Ev) (w : World) (hP : PanesAt w pb mb sz sl kd L) (hG : GoodL kd sz sl N L) (hkd : (Lit.int .i64 kd).wf = true)
    (hv : w.heap[g]? = some (.cells ev.cells.toArray 27 (0, 0))) (he : ev.wf) (hN : N + 8 < 2 ^ 40) :
    Calls Try.prog 10 #[.pointer (some ⟨pb, 0, none⟩), .slice (some ⟨g, 0, none⟩) 1 1] w fun e w' => e = .returned (.tuple #[]) ∧ PanesAt w' pb mb sz sl kd (putE kd sz sl L ev) ∧ GoodL kd sz sl (N + 8) (putE kd sz sl L ev) ∧ w.grownBy w' (some mb) :=
  (put_any pb mb sz sl kd L N (some ⟨g, 0, none⟩) 1 [ev] w hP hG hkd (SlAt.one Ev.len hv) (by simpa using he) (by simpa using hN)).mono (by
    rintro e w' ⟨rfl, h1, h2⟩
    exact ⟨rfl, h1, (hG.putE hP.2.sorted hkd (by omega) he).1, h2⟩)
theorem putL_step {kd sz sl : Int} (f : Ev → Ev) (l : List Ev) {k : Nat} (hk : k < l.length) : putL kd sz sl [] ((l.take (k + 1)).map f) = putE kd sz sl (putL kd sz sl [] ((l.take k).map f)) (f l[k]) := by
  rw [List.take_add_one, List.getElem?_eq_getElem hk, List.map_append]
  unfold putL
  rw [List.foldl_append]
  rfl
theorem runL_good : GoodL 2 10 5 16 runL ∧ SortedL runL := GoodL.putL (by decide) runE 0 [] run_wf (GoodL.empty 2 10 5) List.Pairwise.nil (by decide)
set_option maxHeartbeats 400000 in
set_option maxRecDepth 20000 in
theorem PanesRuns_any (w : World) : Calls Try.prog 3 #[] w fun e w' => e = .returned (.bool true) ∧ Below w.heap.size w w' := by
  have hkd : (Lit.int .i64 2).wf = true := by decide
  have HG := Lib.hid runL_good.1
  go_enter Try.func3, Try.ntmps3
  go_wp2_with (first
    | (go_at_call 9; refine (panesNew_any 10 5 2 _).mono ?_; rintro e w1 ⟨pb, mb, rfl, hpb, hmb, hP, hb⟩; have hs1 := hb.size; have HP1 := Lib.hid hP; have HB1 := Lib.hid hb; clear hP hb)
    | (go_at_call 10; refine (put_any pb mb 10 5 2 [] 0 (some ⟨w1.heap.size, 0, none⟩) 2 runE _ (HP1.out.below ((Below.refl _ _).alloc (Nat.le_refl _) _) HP1.out.lt HP1.out.2.lt) (GoodL.empty 2 10 5) hkd (SlAt.ofRow Ev.len (heap_new _ _)) run_wf (by decide)).mono ?_; rintro e w2 ⟨rfl, hP2, hg2⟩; change PanesAt w2 pb mb 10 5 2 runL at hP2; have hB2 := belowMap (HB1.out.alloc hs1 _) hg2 (by simp; omega) hmb; have hs2 := hB2.size; have HP2 := Lib.hid hP2; have HB2 := Lib.hid hB2; clear hP2 hg2 hB2)
    | (go_at_call 11; refine (len_any pb mb 10 5 2 runL _ HP2.out).mono ?_; rintro e w3 ⟨rfl, hb3⟩; rw [runL_len]; have HP3 := Lib.hid (HP2.out.below hb3 HP2.out.lt HP2.out.2.lt); have HB3 := Lib.hid (HB2.out.trans (hb3.mono hs2)); have hs3 := HB3.out.size; clear hb3)
    | (go_at_call 12; refine (close_any pb mb 10 5 2 runL 16 15 _ HP3.out HG.out (by decide)).mono ?_; rintro e w4 ⟨v, rfl, hown, hP4, hg4⟩; rw [runL_done] at hown; obtain ⟨g4, cap4, rfl, hc4, hm4⟩ := own_form hown (by decide); have HO4 := Lib.hid hown; have HP4 := Lib.hid hP4; have HB4 := Lib.hid (belowMap HB3.out hg4 hs3 hmb); have hs4 := HB4.out.size; clear hown hP4 hg4)
    | (go_at_call 13; refine (SameRw_ok [⟨10, 1, 4, 1, 2⟩] (some ⟨g6, 0, none⟩) (some ⟨w6.heap.size, 0, none⟩) cap6 1 _ ((slAt_own Rw.len HO6.out).1.kept ((Below.refl _ _).alloc (Nat.le_refl _) _)) (SlAt.ofRow Rw.len (heap_new _ _)) (by decide) hc6 (by decide)).mono ?_; rintro e w7 ⟨rfl, hb7⟩; have HB7 := Lib.hid (Below.trans HB6.out (Below.trans ((Below.refl _ w6).alloc (Nat.le_refl _) _) (hb7.mono (by simp)) |>.mono hs6)); clear hb7)
    | (go_at_call 13; refine (SameRw_ok [⟨0, 1, 3, 1, 1⟩, ⟨5, 1, 7, 2, 3⟩] (some ⟨g4, 0, none⟩) (some ⟨w4.heap.size, 0, none⟩) cap4 2 _ ((slAt_own Rw.len HO4.out).1.kept ((Below.refl _ _).alloc (Nat.le_refl _) _)) (SlAt.ofRow Rw.len (heap_new _ _)) (by decide) hc4 (by decide)).mono ?_; rintro e w5 ⟨rfl, hb5⟩; have hb5' := Below.trans ((Below.refl _ w4).alloc (Nat.le_refl _) _) (hb5.mono (by simp)); have HB5 := Lib.hid hb5'; clear hb5 hb5')
    | (go_at_call 14; refine (open_any pb mb 10 5 2 (keepL 10 15 runL) _ (HP4.out.below HB5.out HP4.out.lt HP4.out.2.lt) runK_len).mono ?_; rintro e w6 ⟨v, rfl, hown, hb6⟩; rw [runL_keep] at hown; obtain ⟨g6, cap6, rfl, hc6, hm6⟩ := own_form hown (by decide); have HO6 := Lib.hid hown; have HB6 := Lib.hid (Below.trans HB4.out ((HB5.out.trans (hb6.mono HB5.out.size)).mono hs4)); have hs6 := HB6.out.size; clear hown hb6))
  go_ret
  exact ⟨rfl, HB7.out⟩
end Go.Proofs.Ytapmfekeooeinaa
