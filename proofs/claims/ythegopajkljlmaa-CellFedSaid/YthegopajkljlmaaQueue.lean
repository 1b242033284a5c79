/- Walks of packages quota, event, queue: parts of a cell. -/
import Derived.Test.YthegopajkljlmaaClones
set_option linter.unusedVariables false
set_option linter.unusedSimpArgs false
namespace Go.Proofs.Ythegopajkljlmaa
open Go.RowKit
def evRight (t k l : Int) : Bool := decide (0 ≤ t ∧ t ≤ 1099511627776 ∧ 0 ≤ k ∧ k ≤ 255 ∧ l ≠ 0)
theorem evRight_any (t k v l : Int) (w : World) : Calls Try.prog 47 #[.agg #[.int .i64 t, .int .i64 k, .int .i64 v, .int .u64 l]] w fun e w' => e = .returned (.bool (evRight t k l)) ∧ w' = w.alloc (.cells #[.int .i64 t, .int .i64 k, .int .i64 v, .int .u64 l] 31) := by
  by_cases h1 : 0 ≤ t
  · by_cases h2 : t ≤ 1099511627776
    · by_cases h3 : 0 ≤ k
      · by_cases h4 : k ≤ 255
        · by_cases h5 : l = 0
          · have hr : evRight t k l = false := by simp [evRight, h5]
            rw [hr]
            subst h5
            clear hr
            go_enter Try.func47, Try.ntmps47
            go_wp2
            go_ret
            exact ⟨rfl, rfl⟩
          · have hr : evRight t k l = true := by simp [evRight, h1, h2, h3, h4, h5]
            rw [hr]
            have h6 : (l != 0) = true := by simp [h5]
            clear hr
            go_enter Try.func47, Try.ntmps47
            go_wp2
            go_ret
            exact ⟨rfl, rfl⟩
        · have hr : evRight t k l = false := by simp [evRight, h4]
          rw [hr]
          clear hr
          go_enter Try.func47, Try.ntmps47
          go_wp2
          go_ret
          exact ⟨rfl, rfl⟩
      · have hr : evRight t k l = false := by simp [evRight, h3]
        rw [hr]
        clear hr
        go_enter Try.func47, Try.ntmps47
        go_wp2
        go_ret
        exact ⟨rfl, rfl⟩
    · have hr : evRight t k l = false := by simp [evRight, h2]
      rw [hr]
      clear hr
      go_enter Try.func47, Try.ntmps47
      go_wp2
      go_ret
      exact ⟨rfl, rfl⟩
  · have hr : evRight t k l = false := by simp [evRight, h1]
    rw [hr]
    clear hr
    go_enter Try.func47, Try.ntmps47
    go_wp2
    go_ret
    exact ⟨rfl, rfl⟩
theorem Left_any (a b c : Int) (w : World) :
    Calls Try.prog 18 #[.agg #[.int .i64 a, .int .i64 b, .int .i64 c]] w fun e w' => e = .returned (.int .i64 a) ∧ w' = w.alloc (.cells #[.int .i64 a, .int .i64 b, .int .i64 c] 47) := by
  go_enter Try.func18, Try.ntmps18
  go_wp2
  go_ret
  exact ⟨rfl, rfl⟩
theorem Spent_any (a b c : Int) (w : World) :
    Calls Try.prog 28 #[.agg #[.int .i64 a, .int .i64 b, .int .i64 c]] w fun e w' => e = .returned (.int .i64 b) ∧ w' = w.alloc (.cells #[.int .i64 a, .int .i64 b, .int .i64 c] 47) := by
  go_enter Try.func28, Try.ntmps28
  go_wp2
  go_ret
  exact ⟨rfl, rfl⟩
theorem Refused_any (a b c : Int) (w : World) :
    Calls Try.prog 19 #[.agg #[.int .i64 a, .int .i64 b, .int .i64 c]] w fun e w' => e = .returned (.int .i64 c) ∧ w' = w.alloc (.cells #[.int .i64 a, .int .i64 b, .int .i64 c] 47) := by
  go_enter Try.func19, Try.ntmps19
  go_wp2
  go_ret
  exact ⟨rfl, rfl⟩
theorem refuse_st {w0 w : World} {L : List HP} {b n : Nat} {l s r : Int} {v3 v4 v5 v6 v7 : Value} {T : TypeId} (h : St w0 w L) (hn : L[n]? = some (pt b (.cells #[.int .i64 l, .int .i64 s, .int .i64 r, v3, v4, v5, v6, v7] T (0, 0)))) :
    Calls Try.prog 58 #[.pointer (some ⟨b, 0, none⟩)] w fun e w' => e = .returned (.tuple #[]) ∧ St w0 w' (L.set n (pt b (.cells #[.int .i64 l, .int .i64 s, .int .i64 (wrap64 (r + 1)), v3, v4, v5, v6, v7] T (0, 0)))) := by
  have HS := Lib.hid (h.set n hn 2 (.int .i64 (wrap64 (r + 1))))
  obtain ⟨c0, c1, c2, _⟩ := cells8 (h.blk n hn).1 (Below.refl _ _)
  have z := (blkCells (h.blk n hn).1).2 2
  clear h hn
  go_enter Try.func58, Try.ntmps58
  go_wp2
  go_end0
  exact ⟨rfl, HS.out⟩
theorem left_st {w0 w : World} {L : List HP} (x y z : Int) (h : St w0 w L) : Calls Try.prog 18 #[.agg #[.int .i64 x, .int .i64 y, .int .i64 z]] w fun e w' => e = .returned (.int .i64 x) ∧ St w0 w' L :=
  (Left_any x y z w).mono fun e w' h' => ⟨h'.1, by rw [h'.2]; exact (h.alloc _).cut⟩
theorem spent_st {w0 w : World} {L : List HP} (x y z : Int) (h : St w0 w L) : Calls Try.prog 28 #[.agg #[.int .i64 x, .int .i64 y, .int .i64 z]] w fun e w' => e = .returned (.int .i64 y) ∧ St w0 w' L :=
  (Spent_any x y z w).mono fun e w' h' => ⟨h'.1, by rw [h'.2]; exact (h.alloc _).cut⟩
theorem refused_st {w0 w : World} {L : List HP} (x y z : Int) (h : St w0 w L) : Calls Try.prog 19 #[.agg #[.int .i64 x, .int .i64 y, .int .i64 z]] w fun e w' => e = .returned (.int .i64 z) ∧ St w0 w' L :=
  (Refused_any x y z w).mono fun e w' h' => ⟨h'.1, by rw [h'.2]; exact (h.alloc _).cut⟩
theorem evRight_st {w0 w : World} {L : List HP} (t k v l : Int) (h : St w0 w L) : Calls Try.prog 47 #[.agg #[.int .i64 t, .int .i64 k, .int .i64 v, .int .u64 l]] w fun e w' => e = .returned (.bool (evRight t k l)) ∧ St w0 w' L :=
  (evRight_any t k v l w).mono fun e w' h' => ⟨h'.1, by rw [h'.2]; exact (h.alloc _).cut⟩
theorem Of_at (most : Int) (w : World) (hm : max most 0 = most) :
    Calls Try.prog 34 #[.int .i64 most] w fun e w' => e = .returned (.agg #[.int .i64 most, .int .i64 0, .int .i64 0]) ∧ w' = w.alloc (.cells #[.int .i64 most, .int .i64 0, .int .i64 0] 47) := by
  go_enter Try.func34, Try.ntmps34
  go_wp2
  exact bodyPost_ret (v := .agg #[.int .i64 most, .int .i64 0, .int .i64 0]) (by simp [results, go_sem, hm]) rfl ⟨rfl, rfl⟩
theorem quotaOf_st {w0 w : World} {L : List HP} (most : Int) (hm : 0 ≤ most) (h : St w0 w L) : Calls Try.prog 34 #[.int .i64 most] w fun e w' => e = .returned (.agg #[.int .i64 most, .int .i64 0, .int .i64 0]) ∧ St w0 w' L :=
  (Of_at most w (by omega)).mono fun e w' h' => ⟨h'.1, by rw [h'.2]; exact (h.alloc _).cut⟩
set_option maxHeartbeats 1000000 in
theorem spend_st {w0 w : World} {L : List HP} {b n : Nat} {l s r : Int} {v3 v4 v5 v6 v7 : Value} {T : TypeId} (h : St w0 w L) (hn : L[n]? = some (pt b (.cells #[.int .i64 l, .int .i64 s, .int .i64 r, v3, v4, v5, v6, v7] T (0, 0)))) (hl : 1 ≤ l) (hmx : l ≤ 9223372036854775807) {g : Nat} (m : Nat) (hg : L[m]? = some (pt g (.cells #[.int .i64 1] 3 (0, 0)))) :
    Calls Try.prog 39 #[.pointer (some ⟨b, 0, none⟩), .slice (some ⟨g, 0, none⟩) 1 1] w fun e w' => e = .returned (.bool true) ∧ St w0 w' (L.set n (pt b (.cells #[.int .i64 (l - 1), .int .i64 (wrap64 (s + 1)), .int .i64 r, v3, v4, v5, v6, v7] T (0, 0)))) := by
  have hnl := (List.getElem?_eq_some_iff.1 hn).1
  have h2 := (h.set n hn 1 (.int .i64 (wrap64 (s + 1)))).set n (by simp [hnl]; rfl) 0 (.int .i64 (l - 1))
  rw [List.set_set] at h2
  have HS := Lib.hid h2
  obtain ⟨c0, c1, c2, _⟩ := cells8 (h.blk n hn).1 (Below.refl _ _)
  have z0 := (blkCells (h.blk n hn).1).2 0
  have z1 := (blkCells (h.blk n hn).1).2 1
  have g0 := cells1 (h.blk m hg).1 (Below.refl _ _)
  have hw1 : wrap64 (l - 1) = l - 1 := by unfold wrap64; omega
  have hw2 : wrap64 (l - (l - 1)) = 1 := by unfold wrap64; omega
  clear h hn hg h2
  go_enter Try.func39, Try.ntmps39
  go_wp2
  go_rounds 2
  go_region
  all_goals go_wp2
  go_ret
  refine ⟨rfl, ?_⟩
  rw [show l - (l - 1) = 1 by omega]
  exact HS.out.drew
theorem waiting_st {w0 w : World} {L : List HP} (a : Option Addr) (k cap : Nat) (h : St w0 w L) : Calls Try.prog 25 #[.agg #[.slice a k cap]] w fun e w' => e = .returned (.int .i64 k) ∧ St w0 w' L := by
  have HS := Lib.hid (h.alloc (.cells #[.slice a k cap] 50)).cut
  clear h
  go_enter Try.func25, Try.ntmps25
  go_wp2
  go_ret
  exact ⟨rfl, HS.out⟩
theorem all_st {w0 w : World} {L : List HP} {a : Option Addr} {cap : Nat} {q : List Inp} (h : St w0 w L) (m : Nat) (hm : L[m]? = some (seeP 5 Inp.cells (.slice a q.length cap) q)) (hlen : q.length ≤ 1099511627776) :
    Calls Try.prog 68 #[.agg #[.slice a q.length cap]] w fun e w' => ∃ v, e = .returned v ∧ St w0 w' (L ++ [ownP 33 5 Inp.cells v q]) := by
  obtain ⟨_, _, hv, _, _, hnil, _⟩ := h.see Inp.len m hm
  cases hv
  have hml := (List.getElem?_eq_some_iff.1 hm).1
  have h1 := h.wrap.alloc (.cells #[.slice a q.length cap] 50)
  have hs : SlAt 5 (flat Inp.cells) (w.alloc (.cells #[.slice a q.length cap] 50)) a q := (h.alloc _).sees Inp.len m (by rw [List.getElem?_append_left hml]; exact hm)
  have HC := Lib.hid (cloneInp_st h1 a cap q hs hnil hlen)
  have hend : ∀ (w' : World) (v : Value), St w0 w' [sepL L, ownP 33 5 Inp.cells v q] → St w0 w' (L ++ [ownP 33 5 Inp.cells v q]) := fun w' v h => h.unwrap
  have HEND := Lib.hid hend
  clear h hm hnil hml h1 hs hend
  go_enter Try.func68, Try.ntmps68
  go_wp2_with (go_at_call 46; (with_reducible refine HC.out.mono ?_); rintro e w1 ⟨v, rfl, h1⟩; have H1 := Lib.hid h1; clear h1 HC)
  go_ret
  exact ⟨v, rfl, HEND.out _ _ (H1.out.pick [0, 2] (by decide))⟩
theorem St.moveLast {w0 w : World} {L : List HP} {Y : HP} (h : St w0 w (L ++ [Y])) (m : Nat) (hm : m < L.length) : St w0 w (L.set m Y) := by
  refine ⟨h.below, ?_⟩
  obtain ⟨own, ho⟩ := h.sep
  refine ⟨fun b => if own b = L.length then m else if own b = m then L.length + 1 else own b, fun i P hi => ?_⟩
  rw [List.getElem?_set] at hi
  by_cases him : m = i
  · rw [if_pos him, if_pos hm] at hi
    cases hi
    have h1 := ho L.length Y (by simp)
    refine cast (congrArg Y (part_own fun b => ?_)) h1
    simp only [beq_iff_eq]
    constructor
    · intro he; rw [if_pos he, him]
    · intro he
      split at he
      · assumption
      · split at he <;> omega
  · rw [if_neg him] at hi
    have hil := (List.getElem?_eq_some_iff.1 hi).1
    have h1 := ho i P (by rw [List.getElem?_append_left hil]; exact hi)
    refine cast (congrArg P (part_own fun b => ?_)) h1
    simp only [beq_iff_eq]
    constructor
    · intro he
      rw [if_neg (by omega), if_neg (by omega), he]
    · intro he
      split at he
      · omega
      · split at he <;> omega
set_option maxHeartbeats 1000000 in
theorem push_no {w0 w : World} {L : List HP} {b n : Nat} {v0 v1 v2 v4 v5 v6 v7 : Value} {T : TypeId} {a : Option Addr} {cap : Nat} {q : List Inp} (h : St w0 w L) (hn : L[n]? = some (pt b (.cells #[v0, v1, v2, .slice a q.length cap, v4, v5, v6, v7] T (0, 0)))) (m : Nat) (hm : L[m]? = some (seeP 5 Inp.cells (.slice a q.length cap) q)) (hd : n ≠ m) (hlen : q.length < 1099511627776) (room : Int) (hroom : room < q.length + 1) (ga : Option Addr) (gc : Nat) :
    Calls Try.prog 38 #[.pointer (some ⟨b, 3, none⟩), .int .i64 room, .slice ga 1 gc] w fun e w' => e = .returned (.bool false) ∧ St w0 w' L := by
  obtain ⟨_, _, _, c3, _⟩ := cells8 (h.blk n hn).1 (Below.refl _ _)
  have HS := Lib.hid h
  clear h hn hm
  go_enter Try.func38, Try.ntmps38
  go_wp2
  go_ret
  exact ⟨rfl, HS.out⟩
set_option maxHeartbeats 1000000 in
theorem push_yes {w0 w : World} {L : List HP} {b n : Nat} {v0 v1 v2 v4 v5 v6 v7 : Value} {T : TypeId} {a : Option Addr} {cap : Nat} {q : List Inp} (h : St w0 w L) (hn : L[n]? = some (pt b (.cells #[v0, v1, v2, .slice a q.length cap, v4, v5, v6, v7] T (0, 0)))) (m : Nat) (hm : L[m]? = some (seeP 5 Inp.cells (.slice a q.length cap) q)) (hd : n ≠ m) (hlen : q.length < 1099511627776) (room : Int) (hroom : (q.length : Int) + 1 ≤ room) {g : Nat} (i : Inp) (k : Nat) (hk : L[k]? = some (pt g (.cells #[.bool i.mark, .int .i64 i.ev.time, .int .i64 i.ev.key, .int .i64 i.ev.value, .int .u64 i.ev.label] 33 (0, 0)))) :
    Calls Try.prog 38 #[.pointer (some ⟨b, 3, none⟩), .int .i64 room, .slice (some ⟨g, 0, none⟩) 1 1] w fun e w' => ∃ v, e = .returned (.bool true) ∧ St w0 w' ((L.set n (pt b (.cells #[v0, v1, v2, v, v4, v5, v6, v7] T (0, 0)))).set m (ownP 33 5 Inp.cells v (q ++ [i]))) := by
  obtain ⟨_, _, _, c3, _⟩ := cells8 (h.blk n hn).1 (Below.refl _ _)
  obtain ⟨_, _, hv, _, _, hnil, _, hsl⟩ := h.see Inp.len m hm
  cases hv
  have hnl := (List.getElem?_eq_some_iff.1 hn).1
  have hml := (List.getElem?_eq_some_iff.1 hm).1
  have hkl := (List.getElem?_eq_some_iff.1 hk).1
  have HC := Lib.hid (cloneInp_st h a cap q hsl hnil (by omega))
  have hend : ∀ (w' : World) (v : Value), St w0 w' (L ++ [ownP 33 5 Inp.cells v (q ++ [i])]) → w'.frozen? ⟨b, 3, none⟩ = false ∧ St w0 (w'.setCell ⟨b, 3, none⟩ v) ((L.set n (pt b (.cells #[v0, v1, v2, v, v4, v5, v6, v7] T (0, 0)))).set m (ownP 33 5 Inp.cells v (q ++ [i]))) := fun w' v h' => by
    have hn' : (L ++ [ownP 33 5 Inp.cells v (q ++ [i])])[n]? = some (pt b (.cells #[v0, v1, v2, .slice a q.length cap, v4, v5, v6, v7] T (0, 0))) := by rw [List.getElem?_append_left hnl]; exact hn
    refine ⟨(blkCells (h'.blk n hn').1).2 3, ?_⟩
    have h2 := h'.set n hn' 3 v
    rw [List.set_append_left _ _ hnl] at h2
    exact h2.moveLast m (by simpa using hml)
  have hblk : ∀ (w' : World) (Y : HP), St w0 w' (L ++ [Y]) → (w'.heap[g]? = some (.cells #[.bool i.mark, .int .i64 i.ev.time, .int .i64 i.ev.key, .int .i64 i.ev.value, .int .u64 i.ev.label] 33 (0, 0))) ∧ w'.cell? ⟨b, 3, none⟩ = some (.slice a q.length cap) := fun w' Y h' => by
    refine ⟨(h'.blk k (by rw [List.getElem?_append_left hkl]; exact hk)).1, ?_⟩
    obtain ⟨_, _, _, c3, _⟩ := cells8 (h'.blk n (by rw [List.getElem?_append_left hnl]; exact hn)).1 (Below.refl _ _)
    exact c3
  have HEND := Lib.hid hend
  have HBLK := Lib.hid hblk
  have HS := Lib.hid h
  have HLN := Lib.hid hlen
  have hln : ∀ w' v, St w0 w' (L ++ [ownP 33 5 Inp.cells v q]) → (L ++ [ownP 33 5 Inp.cells v q])[L.length]? = some (ownP 33 5 Inp.cells v q) := fun _ _ _ => by simp
  have HLE := Lib.hid hln
  have hroom' : ¬ (room < (q.length : Int) + 1) := by omega
  clear h hn hm hk hnil hsl hend hblk hln hnl hml hkl
  go_enter Try.func38, Try.ntmps38
  go_wp2_with (first
    | (go_at_call 46; (with_reducible refine HC.out.mono ?_); rintro e w1 ⟨v, rfl, h1⟩; have HG := Lib.hid (HBLK.out _ _ h1).1; have HN1 := Lib.hid (HLE.out _ _ h1); have H1 := Lib.hid h1; clear h1 HC)
    | (at_builtin; go_loud (refine wpList_push_st inpElem rfl H1.out L.length HN1.out _ _ rfl rfl _ i rfl HG.out HLN.out ?_; intro v2 w2 h2 _; rw [List.set_append_right _ _ (Nat.le_refl _), Nat.sub_self, List.set_cons_zero] at h2; obtain ⟨a2, c2, rfl, _, _, _, _⟩ := h2.sl Inp.len L.length (by simp; rfl); have hk2 : (q ++ [i]).length = q.length + 1 := (by simp); rw [hk2] at h2 ⊢; clear hk2; obtain ⟨z3, h3⟩ := HEND.out _ _ h2; obtain ⟨_, d3⟩ := HBLK.out _ _ h2; have H3 := Lib.hid h3; clear h2 h3)))
  go_ret
  exact ⟨_, rfl, H3.out⟩
theorem cloneInp_len {w0 w : World} {L : List HP} (h : St w0 w L) (a : Option Addr) (k cap : Nat) (l : List Inp) (hk : l.length = k) (hl : SlAt 5 (flat Inp.cells) w a l) (hn : a = none → cap = 0) (hlen : l.length ≤ 1099511627776) :
    Calls Try.prog 46 #[.slice a k cap] w fun e w' => ∃ v, e = .returned v ∧ St w0 w' (L ++ [ownP 33 5 Inp.cells v l]) := by
  subst hk
  exact cloneInp_st h a cap l hl hn hlen
theorem pop_end {w0 w' : World} {L : List HP} {Y : HP} {b n m : Nat} {v0 v1 v2 v4 v5 v6 v7 : Value} {T : TypeId} {a : Option Addr} {cap j : Nat} {q : List Inp} (h' : St w0 w' (L ++ [Y])) (hnl : n < L.length) (hml : m < L.length) (hd : n ≠ m) (hn : L[n]? = some (pt b (.cells #[v0, v1, v2, .slice a q.length cap, v4, v5, v6, v7] T (0, 0)))) (hm : L[m]? = some (seeP 5 Inp.cells (.slice a q.length cap) q)) (v : Value)
    (hv : ∀ h, seeP 5 Inp.cells (.slice a q.length cap) q h → seeP 5 Inp.cells v (q.drop j) h) :
    w'.frozen? ⟨b, 3, none⟩ = false ∧ w'.cell? ⟨b, 3, none⟩ = some (.slice a q.length cap) ∧ St w0 (w'.setCell ⟨b, 3, none⟩ v) ((L.set n (pt b (.cells #[v0, v1, v2, v, v4, v5, v6, v7] T (0, 0)))).set m (seeP 5 Inp.cells v (q.drop j)) ++ [Y]) := by
  have hn' : (L ++ [Y])[n]? = some (pt b (.cells #[v0, v1, v2, .slice a q.length cap, v4, v5, v6, v7] T (0, 0))) := by rw [List.getElem?_append_left hnl]; exact hn
  have hb := (h'.blk n hn').1
  obtain ⟨_, _, _, c3, _⟩ := cells8 hb (Below.refl _ _)
  refine ⟨(blkCells hb).2 3, c3, ?_⟩
  have h2 := h'.set n hn' 3 v
  rw [List.set_append_left _ _ hnl] at h2
  have h3 := h2.imp m (X := seeP 5 Inp.cells (.slice a q.length cap) q) (by rw [List.getElem?_append_left (by simpa using hml), List.getElem?_set, if_neg hd]; exact hm) hv
  rw [List.set_append_left _ _ (by simpa using hml)] at h3
  exact h3
set_option maxHeartbeats 1000000 in
theorem pop_st {w0 w : World} {L : List HP} {b n : Nat} {v0 v1 v2 v4 v5 v6 v7 : Value} {T : TypeId} {a : Option Addr} {cap : Nat} {q : List Inp} (h : St w0 w L) (hn : L[n]? = some (pt b (.cells #[v0, v1, v2, .slice a q.length cap, v4, v5, v6, v7] T (0, 0)))) (m : Nat) (hm : L[m]? = some (seeP 5 Inp.cells (.slice a q.length cap) q)) (hd : n ≠ m) (hlen : q.length < 1099511627776) (c : Int) (j : Nat) (hj : max 0 (min c q.length) = (j : Int)) :
    Calls Try.prog 42 #[.pointer (some ⟨b, 3, none⟩), .int .i64 c] w fun e w' => ∃ u v, e = .returned u ∧ St w0 w' ((L.set n (pt b (.cells #[v0, v1, v2, v, v4, v5, v6, v7] T (0, 0)))).set m (seeP 5 Inp.cells v (q.drop j)) ++ [ownP 33 5 Inp.cells u (q.take j)]) := by
  obtain ⟨_, _, _, c3, _⟩ := cells8 (h.blk n hn).1 (Below.refl _ _)
  obtain ⟨_, _, hv, hqc, hcm, hnil, hab, hsl⟩ := h.see Inp.len m hm
  cases hv
  have hnl := (List.getElem?_eq_some_iff.1 hn).1
  have hml := (List.getElem?_eq_some_iff.1 hm).1
  have hjq : j ≤ q.length := by omega
  have hjn : (q.take j).length = j := by simp; omega
  have HC := Lib.hid (cloneInp_len h a j cap (q.take j) hjn (hsl.take j) hnil (by omega))
  have hI1 : (j : Int) ≤ q.length := by omega
  have hI2 : (j : Int) ≤ cap := by omega
  have hI3 : (0 : Int) ≤ j := by omega
  clear hjn hsl
  unfold maxLen at hcm
  rcases hab with rfl | ⟨ab, ao, rfl⟩
  · obtain rfl := hnil rfl
    obtain rfl : q = [] := List.eq_nil_of_length_eq_zero (by omega)
    obtain rfl : j = 0 := by simpa using hjq
    have hend : ∀ (w' : World) (u : Value), St w0 w' (L ++ [ownP 33 5 Inp.cells u ([] : List Inp)]) → w'.frozen? ⟨b, 3, none⟩ = false ∧ w'.cell? ⟨b, 3, none⟩ = some (.slice none 0 0) ∧ St w0 (w'.setCell ⟨b, 3, none⟩ (.slice none 0 0)) ((L.set n (pt b (.cells #[v0, v1, v2, .slice none 0 0, v4, v5, v6, v7] T (0, 0)))).set m (seeP 5 Inp.cells (.slice none 0 0) ([] : List Inp)) ++ [ownP 33 5 Inp.cells u ([] : List Inp)]) := fun w' u h' => pop_end (q := []) (j := 0) h' hnl hml hd hn hm (.slice none 0 0) (fun _ h => h)
    have HEND := Lib.hid hend
    simp only [List.take_nil] at HC
    clear hend h hn hm hI1 hI2 hqc hjq hnil
    simp only [List.length_nil] at c3
    replace hj : max 0 (min c 0) = (0 : Int) := by simp only [List.length_nil] at hj; omega
    go_enter Try.func42, Try.ntmps42
    go_wp2_with (go_at_call 46; (with_reducible refine HC.out.mono ?_); rintro e w1 ⟨u, rfl, h1⟩; obtain ⟨z3, d3, h3⟩ := HEND.out _ _ h1; have H3 := Lib.hid h3; clear h1 h3 HC)
    go_ret
    exact ⟨_, _, rfl, H3.out⟩
  · by_cases hcj : cap = j
    · have hv := fun f (hf : seeP 5 Inp.cells (.slice (some ⟨ab, ao, none⟩) q.length cap) q f) => seeP_drop hf hjq
      rw [if_pos hcj] at hv
      subst hcj
      rw [Nat.sub_self] at hv
      have hend := fun (w' : World) (u : Value) (h' : St w0 w' (L ++ [ownP 33 5 Inp.cells u (q.take cap)])) => pop_end h' hnl hml hd hn hm _ hv
      have HEND := Lib.hid hend
      clear hend h hn hm hqc hjq hnil hv
      go_enter Try.func42, Try.ntmps42
      go_wp2_with (go_at_call 46; (with_reducible refine HC.out.mono ?_); rintro e w1 ⟨u, rfl, h1⟩; obtain ⟨z3, d3, h3⟩ := HEND.out _ _ h1; have H3 := Lib.hid h3; clear h1 h3 HC)
      go_ret
      exact ⟨_, _, rfl, H3.out⟩
    · have hv := fun f (hf : seeP 5 Inp.cells (.slice (some ⟨ab, ao, none⟩) q.length cap) q f) => seeP_drop hf hjq
      rw [if_neg hcj] at hv
      have hend := fun (w' : World) (u : Value) (h' : St w0 w' (L ++ [ownP 33 5 Inp.cells u (q.take j)])) => pop_end h' hnl hml hd hn hm _ hv
      have HEND := Lib.hid hend
      clear hend h hn hm hqc hjq hnil hv
      go_enter Try.func42, Try.ntmps42
      go_wp2_with (go_at_call 46; (with_reducible refine HC.out.mono ?_); rintro e w1 ⟨u, rfl, h1⟩; obtain ⟨z3, d3, h3⟩ := HEND.out _ _ h1; have H3 := Lib.hid h3; clear h1 h3 HC)
      go_ret
      exact ⟨_, _, rfl, H3.out⟩
end Go.Proofs.Ythegopajkljlmaa
