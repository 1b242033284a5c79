/- Walks of package board. -/
import Derived.Test.YtdncpihaeobaeaaGreatSink
set_option linter.unusedVariables false
set_option linter.unusedSimpArgs false
namespace Go.Proofs.YtdncpihaeobaeaaGreat
open Go.RowKit
theorem zip_set {α β γ : Type} (f : α → β → γ) : ∀ (us : List α) (bs : List β) (k : Nat) (a : α) (b : β), (List.zipWith f us bs).set k (f a b) = List.zipWith f (us.set k a) (bs.set k b)
  | [], bs, k, a, b => by simp
  | a' :: us, [], k, a, b => by cases k <;> simp
  | a' :: us, b' :: bs, 0, a, b => by simp
  | a' :: us, b' :: bs, k + 1, a, b => by simp [zip_set f us bs k a b]
theorem zip_get {α β γ : Type} (f : α → β → γ) (us : List α) (bs : List β) (k : Nat) (ha : k < us.length) (hb : k < bs.length) : (List.zipWith f us bs)[k]? = some (f us[k] bs[k]) := by
  rw [List.getElem?_eq_getElem (by simp; omega), List.getElem_zipWith]
def relsL (vs : List Value) (T : List (List Rel)) : List HP := List.zipWith (fun v l => ownP 42 4 Rel.cells v l) vs T
def boardP (bb : Nat) (T : List (List Rel)) (N : Nat) : HP := exP fun vs : List Value => andP (vs.length = 8 ∧ T.length = 8 ∧ ∀ l ∈ T, l.length ≤ N) (sepL [pt bb (.cells vs.toArray 152 (0, 0)), sepL (relsL vs T)])
theorem board_open {w0 w : World} {K : List HP} {bb N : Nat} {T : List (List Rel)} (h : St w0 w (boardP bb T N :: K)) : ∃ vs : List Value, vs.length = 8 ∧ T.length = 8 ∧ (∀ l ∈ T, l.length ≤ N) ∧ St w0 w (pt bb (.cells vs.toArray 152 (0, 0)) :: sepL (relsL vs T) :: K) := by
  obtain ⟨vs, h2⟩ := h.ex 0 rfl
  obtain ⟨⟨h3, h4, h5⟩, h6⟩ := h2.pure 0 rfl
  exact ⟨vs, h3, h4, h5, h6.ungroup⟩
theorem board_shut {w0 w : World} {K : List HP} {bb N : Nat} {T : List (List Rel)} {vs : List Value} (h1 : vs.length = 8) (h2 : T.length = 8) (h3 : ∀ l ∈ T, l.length ≤ N)
    (h : St w0 w (pt bb (.cells vs.toArray 152 (0, 0)) :: sepL (relsL vs T) :: K)) : St w0 w (boardP bb T N :: K) :=
  (St.group (L := [_, _]) h).imp 0 rfl (X' := boardP bb T N) fun h hh => ⟨vs, ⟨h1, h2, h3⟩, hh⟩
theorem boardP_mono {bb N M : Nat} {T : List (List Rel)} (hM : N ≤ M) {h : Nat → Option Obj} (hh : boardP bb T N h) : boardP bb T M h := by
  obtain ⟨vs, ⟨h1, h2, h3⟩, hs⟩ := hh
  exact ⟨vs, ⟨h1, h2, fun l hl => Nat.le_trans (h3 l hl) hM⟩, hs⟩
theorem rels_len (vs : List Value) (T : List (List Rel)) (h1 : vs.length = 8) (h2 : T.length = 8) : (relsL vs T).length = 8 := by unfold relsL; simp; omega
theorem rels_get (vs : List Value) (T : List (List Rel)) (h1 : vs.length = 8) (h2 : T.length = 8) (k : Nat) (hk : k < 8) : (relsL vs T)[k]? = some (ownP 42 4 Rel.cells (vs[k]'(by omega)) (T[k]'(by omega))) := zip_get _ vs T k (by omega) (by omega)
theorem rels_set (vs : List Value) (T : List (List Rel)) (k : Nat) (v : Value) (l : List Rel) : (relsL vs T).set k (ownP 42 4 Rel.cells v l) = relsL (vs.set k v) (T.set k l) := zip_set _ vs T k v l
theorem St.relIn {w0 w : World} {L : List HP} {vs : List Value} {T : List (List Rel)} (h : St w0 w L) (m : Nat) (hm : L[m]? = some (sepL (relsL vs T))) (h1 : vs.length = 8) (h2 : T.length = 8) (k : Nat) (hk : k < 8) :
    St w0 w (L.set m _root_.Go.Proofs.YtdncpihaeobaeaaGreat.emp ++ relsL vs T) ∧ (L.set m _root_.Go.Proofs.YtdncpihaeobaeaaGreat.emp ++ relsL vs T)[L.length + k]? = some (ownP 42 4 Rel.cells (vs[k]'(by omega)) (T[k]'(by omega))) := by
  refine ⟨h.split m hm, ?_⟩
  rw [List.getElem?_append_right (by simp)]
  simp only [List.length_set, Nat.add_sub_cancel_left]
  exact rels_get vs T h1 h2 k hk
theorem St.relOut {w0 w : World} {L M : List HP} {vs : List Value} {T : List (List Rel)} (m : Nat) (hml : m < L.length) (k : Nat) (v : Value) (l : List Rel)
    (h : St w0 w ((L.set m _root_.Go.Proofs.YtdncpihaeobaeaaGreat.emp ++ relsL vs T).set (L.length + k) (ownP 42 4 Rel.cells v l) ++ M)) : St w0 w (L.set m (sepL (relsL (vs.set k v) (T.set k l))) ++ M) := by
  have e : (L.set m _root_.Go.Proofs.YtdncpihaeobaeaaGreat.emp ++ relsL vs T).set (L.length + k) (ownP 42 4 Rel.cells v l) = L.set m _root_.Go.Proofs.YtdncpihaeobaeaaGreat.emp ++ relsL (vs.set k v) (T.set k l) := by
    rw [List.set_append_right _ _ (by simp)]
    simp [rels_set]
  rw [e, List.append_assoc] at h
  exact h.unsplit hml
/-- What is pinned behind k tenants. -/
def pinK (dst : Int) (r : Rel) (T : List (List Rel)) (k : Nat) : List (List Rel) := T.mapIdx fun t l => if t < k then (if hasB dst t then l ++ [r] else l) else l
theorem pinK_len (dst : Int) (r : Rel) (T : List (List Rel)) (k : Nat) : (pinK dst r T k).length = T.length := by simp [pinK]
theorem pinK_zero (dst : Int) (r : Rel) (T : List (List Rel)) : pinK dst r T 0 = T := by
  apply List.ext_getElem (pinK_len ..)
  intro i h1 h2
  simp [pinK]
theorem pinK_all (dst : Int) (r : Rel) (T : List (List Rel)) (h8 : T.length = 8) : pinK dst r T 8 = pinT dst r T := by
  apply List.ext_getElem (by simp [pinK, pinT])
  intro i h1 h2
  have : i < 8 := by rw [pinK_len, h8] at h1; exact h1
  simp [pinK, pinT, this]
theorem pinK_get (dst : Int) (r : Rel) (T : List (List Rel)) (k : Nat) (hk : k < T.length) : (pinK dst r T k)[k]'(by rw [pinK_len]; exact hk) = T[k] := by simp [pinK]
theorem pinK_yes (dst : Int) (r : Rel) (T : List (List Rel)) (k : Nat) (hk : k < T.length) (hh : hasB dst k = true) : (pinK dst r T k).set k (T[k] ++ [r]) = pinK dst r T (k + 1) := by
  apply List.ext_getElem (by simp [pinK])
  intro i h1 h2
  rw [List.getElem_set]
  split
  · rename_i e; subst e; simp [pinK, hh]
  · rename_i e
    simp only [pinK, List.getElem_mapIdx, show i < k + 1 ↔ i < k by omega]
theorem pinK_no (dst : Int) (r : Rel) (T : List (List Rel)) (k : Nat) (hh : hasB dst k = false) : pinK dst r T k = pinK dst r T (k + 1) := by
  apply List.ext_getElem (by simp [pinK])
  intro i h1 h2
  by_cases e : i = k
  · subst e; simp [pinK, hh]
  · simp only [pinK, List.getElem_mapIdx, show i < k + 1 ↔ i < k by omega]
theorem pinK_bound {dst : Int} {r : Rel} {T : List (List Rel)} {k N : Nat} (h : ∀ l ∈ T, l.length ≤ N) : ∀ l ∈ pinK dst r T k, l.length ≤ N + 1 := by
  intro l hl
  obtain ⟨i, hi, rfl⟩ := List.getElem_of_mem hl
  simp only [pinK, List.getElem_mapIdx]
  have := h (T[i]'(by rw [pinK_len] at hi; exact hi)) (List.getElem_mem _)
  split
  · split
    · simp only [List.length_append, List.length_cons, List.length_nil]; omega
    · omega
  · omega
theorem last_get {α : Type} (L : List α) (X : α) : (L ++ [X])[L.length]? = some X := by simp
theorem rels_nil (h : Nat → Option Obj) : sepL (relsL (List.replicate 8 (.slice none 0 0)) (List.replicate 8 [])) h := by
  refine ⟨fun _ => 0, fun i P hi => ?_⟩
  have hi8 : i < 8 := by
    have := (List.getElem?_eq_some_iff.1 hi).1
    rwa [rels_len _ _ (by simp) (by simp)] at this
  rw [rels_get _ _ (by simp) (by simp) i hi8] at hi
  cases hi
  exact .inl ⟨List.getElem_replicate .., List.getElem_replicate ..⟩
theorem boardNew_st {w0 w : World} {L : List HP} (h : St w0 w L) : Calls Tryz.prog 49 #[] w fun e w' => ∃ bb, e = .returned (.pointer (some ⟨bb, 0, none⟩)) ∧ St w0 w' (L ++ [boardP bb (List.replicate 8 []) 0]) := by
  have hst := h.alloc (.cells (List.replicate 8 (.slice none 0 0)).toArray 152)
  have HS := Lib.hid hst
  clear h hst
  go_enter Tryz.func49, Tryz.ntmps49
  go_wp2
  go_ret
  refine ⟨w.heap.size, rfl, ?_⟩
  have h1 := HS.out.imp L.length (X' := boardP w.heap.size (List.replicate 8 []) 0) (last_get ..) (fun f hf => ⟨List.replicate 8 (.slice none 0 0), ⟨by simp, by simp, by simp⟩, ⟨fun b => if b = w.heap.size then 0 else 1, fun i P hi => by
    match i, hi with
    | 0, hi =>
      simp at hi
      subst hi
      show part f _ w.heap.size = _
      unfold part
      rw [if_pos (by simp)]
      exact hf
    | 1, hi =>
      simp at hi
      subst hi
      exact rels_nil _
    | i + 2, hi => simp at hi⟩⟩)
  simpa using h1
theorem arr8 {vs : List Value} (h : vs.length = 8) : ∃ v0 v1 v2 v3 v4 v5 v6 v7, vs = [v0, v1, v2, v3, v4, v5, v6, v7] := by
  match vs, h with
  | [v0, v1, v2, v3, v4, v5, v6, v7], _ => exact ⟨v0, v1, v2, v3, v4, v5, v6, v7, rfl⟩
/-- An append as an equation on its run. -/
theorem appRun_st {P : Program} {α : Type} {t e : TypeId} {c : Nat} {enc : α → List Value} (E : Elem P t e c enc) {w0 w : World} {L : List HP} (hst : St w0 w L) (n : Nat) {v : Value} {l0 : List α} (hn : L[n]? = some (ownP e c enc v l0)) (ty : TypeId)
    (b o : Nat) (cap : Nat) (l : List α) (q : Nat) (hq : l.length = q) (hsl : SlAt c (flat enc) w (some ⟨b, o, none⟩) l) (hlen : l0.length + l.length ≤ 1099511627776) :
    ∃ v' w', (Builtin.append_ #[t, t] ty #[v, .slice (some ⟨b, o, none⟩) q cap]).run P w = .ok v' w' ∧ St w0 w' (L.set n (ownP e c enc v' (l0 ++ l))) := by
  subst hq
  obtain ⟨i, z, hi, hz, hsize, hby, hzs⟩ := E.info
  have hown := hst.owns E.len n hn
  obtain ⟨v', w', hr, h2, h3, h4, h5⟩ := run_append_where (P := P) w w0.heap.size t ty e i z c i.bytes E.under hi hz hsize rfl hzs E.pos v _ _ hown ⟨b, o, none⟩ l.length cap (l.flatMap enc) (flatMap_len E.len l)
    (by
      intro j u hu
      rcases hsl with rfl | ⟨b', o', he, hlt, hh⟩
      · simp at hu
      · cases he
        have := SlAt.cells E.len E.pos (b := b) (o := o) (.inr ⟨b, o, rfl, hlt, hh⟩) j u hu
        rw [← this]
        congr 1
        simp [Addr.add])
    (by
      intro u hu
      simp at hu
      obtain ⟨x, _, hx⟩ := hu
      exact E.one x u hx)
    (by unfold maxLen; omega) (Nat.le_trans (Nat.mul_le_mul hlen hby) (by decide)) hst.size
  exact ⟨v', w', hr, hst.appended n hn (by rw [List.flatMap_append, List.length_append]; exact h2) h3 h5⟩
set_option maxHeartbeats 4000000 in
set_option maxRecDepth 20000 in
theorem pin_in {w0 w : World} {R : HP} {bb N : Nat} {T : List (List Rel)} (h : St w0 w [boardP bb T N, R]) (m : Int) (r : Rel) (rb ro rc : Nat) (hr : Seen w0 R 4 Rel.cells (some ⟨rb, ro, none⟩) [r]) (hN : N < 2 ^ 38) :
    Calls Tryz.prog 99 #[.pointer (some ⟨bb, 0, none⟩), .int .u64 m, .slice (some ⟨rb, ro, none⟩) 1 rc] w fun e w' => e = .returned (.tuple #[]) ∧ St w0 w' [boardP bb (pinT m r T) (N + 1), R] := by
  have hT8 : T.length = 8 := by
    obtain ⟨vs, h1, h2, h3, h4⟩ := board_open h
    exact h2
  have h0 := h.imp 0 (X' := boardP bb (pinK m r T 0) (N + 1)) rfl (fun f hf => by rw [pinK_zero]; exact boardP_mono (by omega) hf)
  have hbd : ∀ k, ∀ l ∈ pinK m r T k, l.length ≤ N + 1 := by
    obtain ⟨vs, _, _, h3, _⟩ := board_open h
    exact fun k => pinK_bound h3
  have HBD := Lib.hid hbd
  clear hbd
  have HS := Lib.hid h0
  have HR := Lib.hid hr
  clear h h0 hr
  go_enter Tryz.func99, Tryz.ntmps99
  go_wp2_with fail
  go_loopw [7] (fun iv wr => ∃ k : Nat, k ≤ 8 ∧ iv = .int .i64 k ∧ St w0 wr [boardP bb (pinK m r T k) (N + 1), R]) (fun iv _ => 8 - (intOf iv).toNat)
  case atStart => exact ⟨0, by omega, rfl, HS.out⟩
  case round =>
    obtain ⟨k, hk, rfl, hst⟩ := hrel
    by_cases hlt : (k : Int) < 8
    · have hk8 : k < 8 := by omega
      obtain ⟨vs, h1, h2, h3, h4⟩ := board_open hst
      cases hh : hasB m k with
      | false =>
        have hno := pinK_no m r T k hh
        have HH := Lib.hid hh
        have HST := Lib.hid hst
        have HNO := Lib.hid hno
        clear hh hst h4 h3 hno
        go_wp2_with (first
          | (go_at_call 124; (with_reducible refine (has_any _ _ _).mono ?_); rintro e w1 ⟨rfl, rfl⟩; rw [HH.out]))
        go_roundw
        case rel => exact ⟨k + 1, by omega, by go_num, by rw [← HNO.out]; exact HST.out⟩
        case measure => simp [intOf]; omega
      | true =>
        have HH := Lib.hid hh
        have hyes := pinK_yes m r T k (by omega) hh
        have hTk := pinK_get m r T k (by omega)
        have hvk : ∃ v, vs[k]'(by omega) = v := ⟨_, rfl⟩
        obtain ⟨v, hvk⟩ := hvk
        obtain ⟨hst5, hix⟩ := h4.relIn 1 rfl h1 h2 k hk8
        rw [hvk, hTk] at hix
        have hTb := h3 _ (List.getElem_mem (show k < (pinK m r T k).length by omega))
        rw [hTk] at hTb
        generalize hl0 : T[k]'(by omega) = l0 at *
        have hsl := HR.out _ _ 2 h4.drew rfl
        have e0 : wr.cell? ⟨bb, k, none⟩ = some v := by
          have := (blkCells (h4.blk 0 rfl).1).1 k
          rw [this, ← hvk]
          simp [h1, hk8]
        have hfin : ∀ v' w', St w0 w' (([pt bb (.cells vs.toArray 152 (0, 0)), sepL (relsL vs (pinK m r T k)), R].set 1 emp ++ relsL vs (pinK m r T k)).set ([pt bb (.cells vs.toArray 152 (0, 0)), sepL (relsL vs (pinK m r T k)), R].length + k) (ownP 42 4 Rel.cells v' (l0 ++ [r]))) → (∃ x y z, v' = .slice x y z) ∧ w'.frozen? ⟨bb, k, none⟩ = false ∧ w'.cell? ⟨bb, k, none⟩ = some v ∧ St w0 (w'.setCell ⟨bb, k, none⟩ v') [boardP bb (pinK m r T (k + 1)) (N + 1), R] := fun v' w' hst6 => by
          obtain ⟨x5, y5, hv5, _⟩ := hst6.sl Rel.len _ (set_get (List.getElem?_eq_some_iff.1 hix).1 _)
          have hst7 := St.relOut (L := [pt bb (.cells vs.toArray 152 (0, 0)), sepL (relsL vs (pinK m r T k)), R]) (M := []) 1 (by simp) k v' (l0 ++ [r]) (by simpa using hst6)
          rw [List.append_nil, hyes] at hst7
          refine ⟨⟨_, _, _, hv5⟩, (blkCells (hst7.blk 0 rfl).1).2 k, ?_, ?_⟩
          · have := (blkCells (hst7.blk 0 rfl).1).1 k
            rw [this, ← hvk]
            simp [h1, hk8]
          have hst8 := hst7.set 0 rfl k v'
          exact board_shut (T := pinK m r T (k + 1)) (vs := vs.set k v') (N := N + 1) (by simpa using h1) (by rw [pinK_len]; exact hT8) (fun l hl => HBD.out _ l hl) (by simpa using hst8)
        have HFIN := Lib.hid hfin
        have H5 := Lib.hid hst5.drew
        have HIX := Lib.hid hix
        have HSL := Lib.hid hsl
        have HLN := Lib.hid (show l0.length + [r].length ≤ 1099511627776 by simp; omega)
        have hbl : bb < wr.heap.size := (h4.blk 0 rfl).2.2
        clear hh hst hst5 h4 h3 hix hsl hyes hTk hvk hTb hl0 hfin
        go_wp2_with (first
          | (go_at_call 124; (with_reducible refine (has_any _ _ _).mono ?_); rintro e wz ⟨rfl, hwz⟩; have hwz := hwz.symm; subst hwz; rw [HH.out]))
        refine wp_region_held_drew (S := fun _ => True) (by kernel_rfl) trivial (fun _ => ?_)
        refine wpAnyH_take (i := 0) (v := ?_) rfl (by kernel_rfl) (by kernel_rfl) (by kernel_rfl) (fun _ _ _ h => h) (Or.inl ⟨by rfl, ?_⟩) trivial ?_
        rotate_left
        · (intro w _; go_simp; try with_reducible rfl)
        simp only [Act.put, List.setIfInBounds_toArray, List.set_cons_zero, List.set_cons_succ]
        refine wpAnyH_take (i := 1) (v := ?_) rfl (by kernel_rfl) (by kernel_rfl) (by kernel_rfl) (fun _ _ _ h => h) (Or.inl ⟨by rfl, ?_⟩) trivial ?_
        rotate_left
        · (intro w _; go_simp; try with_reducible rfl)
        simp only [Act.put, List.setIfInBounds_toArray, List.set_cons_zero, List.set_cons_succ]
        refine wpAnyH_take (i := 2) (v := ?_) rfl (by kernel_rfl) (by kernel_rfl) (by kernel_rfl) (fun _ _ _ h => h) (Or.inl ⟨by rfl, ?_⟩) trivial ?_
        rotate_left
        · (intro w _; go_simp; try with_reducible rfl)
        simp only [Act.put, List.setIfInBounds_toArray, List.set_cons_zero, List.set_cons_succ]
        refine wpAnyH_take (i := 3) (v := ?_) rfl (by kernel_rfl) (by kernel_rfl) (by kernel_rfl) (fun _ _ _ h => h) (Or.inl ⟨by rfl, ?_⟩) trivial ?_
        rotate_left
        · (intro w _; go_simp; try with_reducible rfl)
        simp only [Act.put, List.setIfInBounds_toArray, List.set_cons_zero, List.set_cons_succ]
        refine wpAnyH_take (i := 4) (v := ?_) rfl (by kernel_rfl) (by kernel_rfl) (by kernel_rfl) (fun _ _ _ h => h) (Or.inl ⟨by rfl, ?_⟩) trivial ?_
        rotate_left
        · (intro w _; go_simp; try with_reducible rfl)
        simp only [Act.put, List.setIfInBounds_toArray, List.set_cons_zero, List.set_cons_succ]
        refine wpAnyH_take (i := 5) (v := ?_) rfl (by kernel_rfl) (by kernel_rfl) (by kernel_rfl) (fun _ _ _ h => h) (Or.inl ⟨by rfl, ?_⟩) trivial ?_
        rotate_left
        · (intro w _; go_simp; try with_reducible rfl)
        simp only [Act.put, List.setIfInBounds_toArray, List.set_cons_zero, List.set_cons_succ]
        refine wpAnyH_take (i := 6) (v := ?_) rfl (by kernel_rfl) (by kernel_rfl) (by kernel_rfl) (fun _ _ _ h => h) (Or.inl ⟨by rfl, ?_⟩) trivial ?_
        rotate_left
        · (intro w _; go_simp; try with_reducible rfl)
        simp only [Act.put, List.setIfInBounds_toArray, List.set_cons_zero, List.set_cons_succ]
        refine wpAnyH_take (i := 8) (v := ?_) rfl (by kernel_rfl) (by kernel_rfl) (by kernel_rfl) (fun _ _ _ h => h) (Or.inl ⟨by rfl, ?_⟩) trivial ?_
        rotate_left
        · (intro w _; go_simp; try with_reducible rfl)
        simp only [Act.put, List.setIfInBounds_toArray, List.set_cons_zero, List.set_cons_succ]
        refine wpAnyH_take (i := 10) (v := ?_) rfl (by kernel_rfl) (by kernel_rfl) (by kernel_rfl) (fun _ _ _ h => h) (Or.inl ⟨by rfl, ?_⟩) trivial ?_
        rotate_left
        · (intro w _; go_simp; try with_reducible rfl)
        simp only [Act.put, List.setIfInBounds_toArray, List.set_cons_zero, List.set_cons_succ]
        refine wpAnyH_take (i := 11) (v := ?_) rfl (by kernel_rfl) (by kernel_rfl) (by kernel_rfl) (fun _ _ _ h => h) (Or.inl ⟨by rfl, ?_⟩) trivial ?_
        rotate_left
        · (intro w _; go_simp; try with_reducible rfl)
        simp only [Act.put, List.setIfInBounds_toArray, List.set_cons_zero, List.set_cons_succ]
        refine wpAnyH_ready (rs := [7]) (by kernel_rfl) (by simp) ?_
        refine AllReadyH.cons rfl (fun K hK => ?_) AllReadyH.nil
        go_simp
        refine hK.out _ _ trivial (fun _ => ?_)
        clear hK K
        try simp only [Act.put, List.setIfInBounds_toArray, List.set_cons_zero, List.set_cons_succ]
        refine wpAnyH_ready (rs := [9]) (by kernel_rfl) (by simp) ?_
        refine AllReadyH.cons rfl (fun K hK => ?_) AllReadyH.nil
        (refine step_append_st relElem rfl H5.out _ HIX.out _ _ rfl rfl (some ⟨rb, ro, none⟩) rc [r] rfl (by simp) HSL.out HLN.out ?_; intro v' w' hst6 _; obtain ⟨⟨x5, y5, z5, rfl⟩, f0, e1, hst9⟩ := HFIN.out v' w' hst6; have H9 := Lib.hid hst9; clear hst6 hst9)
        refine hK.out _ _ trivial (fun _ => ?_)
        clear hK K
        try simp only [Act.put, List.setIfInBounds_toArray, List.set_cons_zero, List.set_cons_succ]
        refine wpAnyH_take (i := 12) (v := ?_) rfl (by kernel_rfl) (by kernel_rfl) (by kernel_rfl) (fun _ _ _ h => h) (Or.inl ⟨by rfl, ?_⟩) trivial ?_
        rotate_left
        · (intro w _; go_simp; try with_reducible rfl)
        simp only [Act.put, List.setIfInBounds_toArray, List.set_cons_zero, List.set_cons_succ]
        refine wpAnyH_ready (rs := [13]) (by kernel_rfl) (by simp) ?_
        refine AllReadyH.cons rfl (fun K hK => ?_) AllReadyH.nil
        go_simp
        refine hK.out _ _ trivial (fun _ => ?_)
        clear hK K
        try simp only [Act.put, List.setIfInBounds_toArray, List.set_cons_zero, List.set_cons_succ]
        refine wpAnyH_done (by kernel_rfl) ?_ _
        go_wp2
        go_roundw
        case rel => exact ⟨k + 1, by omega, by go_num, H9.out⟩
        case measure => simp [intOf]; omega
    · obtain rfl : k = 8 := by omega
      rw [pinK_all m r T hT8] at hst
      have HST := Lib.hid hst
      clear hst
      go_wp2
      go_end0
      exact ⟨rfl, HST.out⟩
end Go.Proofs.YtdncpihaeobaeaaGreat
