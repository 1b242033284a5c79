/- Walks of package board: what is told, twins. -/
import Derived.Test.YtdncpihaeobaeaaGreatBoard
set_option linter.unusedVariables false
set_option linter.unusedSimpArgs false
namespace Go.Proofs.YtdncpihaeobaeaaGreat
open Go.RowKit
/-- slices.Clone at api.Release: a copy of its own. -/
theorem cloneRel_st {w0 w : World} {L : List HP} (h : St w0 w L) (a : Option Addr) (cap : Nat) (l : List Rel) (hl : SlAt 4 (flat Rel.cells) w a l) (hn : a = none → cap = 0) (hlen : l.length ≤ 1099511627776) :
    Calls Tryz.prog 102 #[.slice a l.length cap] w fun e w' => ∃ v, e = .returned v ∧ St w0 w' (L ++ [ownP 42 4 Rel.cells v l]) := by
  have HS := Lib.hid h
  have HL := Lib.hid hl
  have HN := Lib.hid hlen
  clear h hl hlen
  have q : ∀ (w : World) (a : Option Addr) (n c n' c' : Nat), (binOp .eql 43 (.slice a n c) (.slice none n' c')).run Tryz.prog w = .ok (.bool a.isNone) w := fun w a n c n' c' => Lib.run_eql_slice_nil w _ _ a n c n' c' Tryz.underlying43
  cases a with
  | none =>
    have hll : l = [] := by rcases HL.out with h | ⟨b, o, he, _⟩; exact h; cases he
    subst hll
    obtain rfl := hn rfl
    clear hn HN
    go_enter Tryz.func102, Tryz.ntmps102
    go_wp2
    go_ret
    exact ⟨_, rfl, HS.out.nil _ _ _⟩
  | some a =>
    go_enter Tryz.func102, Tryz.ntmps102
    go_wp2_with (at_builtin; refine wpList_copy_st relElem rfl (HS.out.alloc (.cells #[] 42)) L.length (by simp) _ _ rfl rfl (some a) cap l rfl (by simp) (HL.out.below ((Below.refl _ w).alloc (Nat.le_refl _) _) (fun _ _ h => h)) HN.out ?_; intro b c w1 h1)
    go_ret
    refine ⟨_, rfl, ?_⟩
    simpa using h1
/-- slices.Clone at api.Sink: a copy of its own. -/
theorem cloneSk_st {w0 w : World} {L : List HP} (h : St w0 w L) (a : Option Addr) (cap : Nat) (l : List Sk) (hl : SlAt 5 (flat Sk.cells) w a l) (hn : a = none → cap = 0) (hlen : l.length ≤ 1099511627776) :
    Calls Tryz.prog 48 #[.slice a l.length cap] w fun e w' => ∃ v, e = .returned v ∧ St w0 w' (L ++ [ownP 113 5 Sk.cells v l]) := by
  have HS := Lib.hid h
  have HL := Lib.hid hl
  have HN := Lib.hid hlen
  clear h hl hlen
  have q : ∀ (w : World) (a : Option Addr) (n c n' c' : Nat), (binOp .eql 26 (.slice a n c) (.slice none n' c')).run Tryz.prog w = .ok (.bool a.isNone) w := fun w a n c n' c' => Lib.run_eql_slice_nil w _ _ a n c n' c' Tryz.underlying26
  cases a with
  | none =>
    have hll : l = [] := by rcases HL.out with h | ⟨b, o, he, _⟩; exact h; cases he
    subst hll
    obtain rfl := hn rfl
    clear hn HN
    go_enter Tryz.func48, Tryz.ntmps48
    go_wp2
    go_ret
    exact ⟨_, rfl, HS.out.nil _ _ _⟩
  | some a =>
    go_enter Tryz.func48, Tryz.ntmps48
    go_wp2_with (at_builtin; refine wpList_copy_st skElem rfl (HS.out.alloc (.cells #[] 113)) L.length (by simp) _ _ rfl rfl (some a) cap l rfl (by simp) (HL.out.below ((Below.refl _ w).alloc (Nat.le_refl _) _) (fun _ _ h => h)) HN.out ?_; intro b c w1 h1)
    go_ret
    refine ⟨_, rfl, ?_⟩
    simpa using h1
theorem cloneRel_len {w0 w : World} {L : List HP} (h : St w0 w L) (a : Option Addr) (k cap : Nat) (l : List Rel) (hk : l.length = k) (hl : SlAt 4 (flat Rel.cells) w a l) (hn : a = none → cap = 0) (hlen : l.length ≤ 1099511627776) :
    Calls Tryz.prog 102 #[.slice a k cap] w fun e w' => ∃ v, e = .returned v ∧ St w0 w' (L ++ [ownP 42 4 Rel.cells v l]) := by
  subst hk
  exact cloneRel_st h a cap l hl hn hlen
theorem there_any (n : Int) (w : World) : Calls Tryz.prog 101 #[.int .i64 n] w fun e w' => e = .returned (.bool (decide (0 ≤ n) && decide (n < 8))) ∧ w' = w := by
  by_cases h1 : 0 ≤ n <;> by_cases h2 : n < 8
  all_goals
    go_enter Tryz.func101, Tryz.ntmps101
    go_wp2
    go_ret
    exact ⟨by simp [h1, h2], rfl⟩
def toldL (T : List (List Rel)) (t f n : Int) : List Rel × Int := if 0 ≤ t ∧ t < 8 then tellT (T.getD t.toNat []) f n else ([], 2)
set_option maxHeartbeats 4000000 in
set_option maxRecDepth 20000 in
theorem told_in {w0 w : World} {R : HP} {bb N : Nat} {T : List (List Rel)} (h : St w0 w [boardP bb T N, R]) (t f m : Int) (hN : N < 2 ^ 38) (hf : -4611686018427387904 ≤ f ∧ f ≤ 4611686018427387904) :
    Calls Tryz.prog 74 #[.pointer (some ⟨bb, 0, none⟩), .int .i64 t, .int .i64 f, .int .i64 m] w fun x w' => ∃ v, x = .returned (.tuple #[v, .int .i64 (toldL T t f m).2]) ∧ St w0 w' [boardP bb T N, R, ownP 42 4 Rel.cells v (toldL T t f m).1] := by
  have hth := there_any t w
  unfold toldL
  by_cases ht : 0 ≤ t ∧ t < 8
  · rw [if_pos ht]
    obtain ⟨u, rfl⟩ : ∃ u : Nat, t = u := ⟨t.toNat, by omega⟩
    have hu8 : u < 8 := by omega
    obtain ⟨vs, h1, h2, h3, h4⟩ := board_open h
    obtain ⟨hst5, hix⟩ := h4.relIn 1 rfl h1 h2 u hu8
    have hgd : T.getD (u : Int).toNat [] = T[u]'(by omega) := by
      rw [Int.toNat_natCast, List.getD_eq_getElem?_getD, List.getElem?_eq_getElem (by omega)]
      rfl
    have hTb := h3 _ (List.getElem_mem (show u < T.length by omega))
    have e0 : w.cell? ⟨bb, u, none⟩ = some (vs[u]'(by omega)) := by
      have := (blkCells (h4.blk 0 rfl).1).1 u
      rw [this]
      simp [h1, hu8]
    obtain ⟨v0, hv0⟩ : ∃ x, vs[u]'(by omega) = x := ⟨_, rfl⟩
    obtain ⟨R0, hR0⟩ : ∃ x, T[u]'(by omega) = x := ⟨_, rfl⟩
    rw [hv0, hR0] at hix
    rw [hR0] at hgd hTb
    rw [hv0] at e0
    rw [hgd]
    have hY : ∀ w' v X, St w0 w' (([pt bb (.cells vs.toArray 152 (0, 0)), sepL (relsL vs T), R].set 1 emp ++ relsL vs T) ++ [ownP 42 4 Rel.cells v X]) → St w0 w' [boardP bb T N, R, ownP 42 4 Rel.cells v X] := fun w' v X h' => by
      rw [List.append_assoc] at h'
      exact board_shut h1 h2 h3 (h'.unsplit (by simp))
    have HY := Lib.hid hY
    have HS := Lib.hid hst5
    have HIX := Lib.hid hix
    have hown := ownP_addr hst5 _ hix
    obtain ⟨x5, y5, hv5, _⟩ := hst5.sl Rel.len _ hix
    rw [show (decide ((0 : Int) ≤ u) && decide ((u : Int) < 8)) = true by simp; omega] at hth
    have HTH := Lib.hid hth
    have hbl : bb < w.heap.size := (h4.blk 0 rfl).2.2
    have hk81 : (u : Int) < 8 := by omega
    clear h h3 h4 hst5 hY hth hix hgd hv0 hR0 h1 h2
    unfold tellT
    by_cases hbad : f < 0 ∨ (R0.length : Int) < f
    · rw [if_pos hbad]
      have HN := Lib.hid (HS.out.nil 42 4 Rel.cells)
      subst hv5
      clear hown
      by_cases hf0 : f < 0
      · go_enter Tryz.func74, Tryz.ntmps74
        go_wp2_with (go_at_call 101; (with_reducible refine HTH.out.mono ?_); rintro e wz ⟨rfl, hwz⟩; have hwz := hwz.symm; subst hwz)
        exact bodyPost_ret (v := .tuple #[.slice none 0 0, .int .i64 5]) (by simp [results, go_sem]) rfl ⟨.slice none 0 0, rfl, HY.out _ (.slice none 0 0) [] HN.out⟩
      · have hf1 : (R0.length : Int) < f := by omega
        go_enter Tryz.func74, Tryz.ntmps74
        go_wp2_with (go_at_call 101; (with_reducible refine HTH.out.mono ?_); rintro e wz ⟨rfl, hwz⟩; have hwz := hwz.symm; subst hwz)
        exact bodyPost_ret (v := .tuple #[.slice none 0 0, .int .i64 5]) (by simp [results, go_sem]) rfl ⟨.slice none 0 0, rfl, HY.out _ (.slice none 0 0) [] HN.out⟩
    · rw [if_neg hbad]
      have hrl : R0.length ≤ N := hTb
      have hlen : N < 2 ^ 38 := hN
      clear hv5
      obtain ⟨g, rfl⟩ : ∃ g : Nat, f = g := ⟨f.toNat, by omega⟩
      obtain ⟨k, hk⟩ : ∃ k : Nat, max 0 (min (min m 32) ((R0.length : Int) - g)) = k := ⟨(max 0 (min (min m 32) ((R0.length : Int) - g))).toNat, by omega⟩
      rw [hk]
      dsimp only
      simp only [Int.toNat_natCast]
      have hgr : g ≤ R0.length := by omega
      have hkr : g + k ≤ R0.length := by omega
      have hI1 : ¬ ((g : Int) < 0) := by omega
      have hI2 : ¬ ((R0.length : Int) < g) := by omega
      have hI3 : (0 : Int) ≤ g := by omega
      have hI4 : (g : Int) ≤ (g : Int) + k := by omega
      have hw1 : wrap64 ((R0.length : Int) - g) = (R0.length : Int) - g := by unfold wrap64; omega
      have HW1 := Lib.hid hw1
      clear hw1
      have hw2 : wrap64 ((g : Int) + k) = (g : Int) + k := by unfold wrap64; omega
      have HW2 := Lib.hid hw2
      clear hw2 hbad hf
      rcases hown with ⟨rfl, hR⟩ | ⟨ab, rc, rfl, hrc, hrm⟩
      · subst hR
        simp only [List.length_nil] at hgr hkr hk hI2
        obtain rfl : g = 0 := by omega
        obtain rfl : k = 0 := by omega
        have HC := Lib.hid (cloneRel_len HS.out none 0 0 [] rfl (.inl rfl) (fun _ => rfl) (by simp))
        simp only [List.drop_nil, List.take_nil]
        clear hk hgr hkr hI2 hI4 hrl hlen
        by_cases hm0 : m ≤ 0
        · have hmx : max 0 m = 0 := by omega
          go_enter Tryz.func74, Tryz.ntmps74
          go_wp2_with (first | (go_at_call 101; (with_reducible refine HTH.out.mono ?_); rintro e wz ⟨rfl, hwz⟩; have hwz := hwz.symm; subst hwz) | (go_at_call 102; (with_reducible refine HC.out.mono ?_); rintro e w1 ⟨v, rfl, h1⟩; have H1 := Lib.hid h1; clear h1 HC))
          all_goals exact bodyPost_ret (v := .tuple #[v, .int .i64 0]) (by simp [results, go_sem]) rfl ⟨v, rfl, HY.out _ v _ H1.out⟩
        · have hmx : min (min m 32) 0 = 0 := by omega
          go_enter Tryz.func74, Tryz.ntmps74
          go_wp2_with (first | (go_at_call 101; (with_reducible refine HTH.out.mono ?_); rintro e wz ⟨rfl, hwz⟩; have hwz := hwz.symm; subst hwz) | (go_at_call 102; (with_reducible refine HC.out.mono ?_); rintro e w1 ⟨v, rfl, h1⟩; have H1 := Lib.hid h1; clear h1 HC))
          all_goals exact bodyPost_ret (v := .tuple #[v, .int .i64 0]) (by simp [results, go_sem]) rfl ⟨v, rfl, HY.out _ v _ H1.out⟩
      · have hI5 : (g : Int) + k ≤ rc := by omega
        have hI6 : (g : Int) ≤ rc := by omega
        unfold maxLen at hrm
        have hlk : ((R0.drop g).take k).length = k := by simp; omega
        by_cases hcg : rc = g
        · subst hcg
          have hk0 : k = 0 := by omega
          subst hk0
          have HC := Lib.hid (cloneRel_len HS.out (some ⟨ab, 0, none⟩) 0 0 ((R0.drop rc).take 0) (by simp) (.inl (by simp)) (by simp) (by simp))
          have hw1 := HW1.out
          have hz : (R0.length : Int) - rc = 0 := by omega
          have hw2 := HW2.out
          clear hk hkr hrl hlen hlk hgr hI4 hI5
          by_cases hm0 : m ≤ 0
          · have hmx : max 0 m = 0 := by omega
            have hm1 : ¬ (32 : Int) < m := by omega
            have hm2 : ¬ (0 : Int) < m := by omega
            go_enter Tryz.func74, Tryz.ntmps74
            go_wp2_with (first | (go_at_call 101; (with_reducible refine HTH.out.mono ?_); rintro e wz ⟨rfl, hwz⟩; have hwz := hwz.symm; subst hwz) | (go_at_call 102; (with_reducible refine HC.out.mono ?_); rintro e w1 ⟨v, rfl, h1⟩; have H1 := Lib.hid h1; clear h1 HC))
            all_goals exact bodyPost_ret (v := .tuple #[v, .int .i64 0]) (by simp [results, go_sem]) rfl ⟨v, rfl, HY.out _ v _ H1.out⟩
          · have hm2 : (0 : Int) < m := by omega
            go_enter Tryz.func74, Tryz.ntmps74
            go_wp2_with (first | (go_at_call 101; (with_reducible refine HTH.out.mono ?_); rintro e wz ⟨rfl, hwz⟩; have hwz := hwz.symm; subst hwz) | (go_at_call 102; (with_reducible refine HC.out.mono ?_); rintro e w1 ⟨v, rfl, h1⟩; have H1 := Lib.hid h1; clear h1 HC))
            all_goals exact bodyPost_ret (v := .tuple #[v, .int .i64 0]) (by simp [results, go_sem]) rfl ⟨v, rfl, HY.out _ v _ H1.out⟩
        · have hsl := ((HS.out.slOf Rel.len _ HIX.out).drop g).take k
          have HC := Lib.hid (cloneRel_len HS.out (some ⟨ab, 0 + g * 4, none⟩) k (rc - g) ((R0.drop g).take k) hlk hsl (by simp) (by rw [hlk]; omega))
          simp only [Nat.zero_add] at HC
          have hw1 := HW1.out
          have HK := Lib.hid (show max 0 (if (R0.length : Int) - g < (if 32 < m then 32 else m) then (R0.length : Int) - g else if 32 < m then 32 else m) = k by split <;> split <;> omega)
          have HI4 := Lib.hid hI4
          have HI5 := Lib.hid hI5
          clear hsl hk hkr hrl hlen hlk hgr hI4 hI5
          go_enter Tryz.func74, Tryz.ntmps74
          go_upto_region 7 with (go_at_call 101; (with_reducible refine HTH.out.mono ?_); rintro e wz ⟨rfl, hwz⟩; have hwz := hwz.symm; subst hwz)
          rw [HK.out]
          have hw2 := HW2.out
          have hI4 := HI4.out
          have hI5 := HI5.out
          clear hw1
          go_wp2_with (first | (go_at_call 101; (with_reducible refine HTH.out.mono ?_); rintro e wz ⟨rfl, hwz⟩; have hwz := hwz.symm; subst hwz) | (go_at_call 102; (with_reducible refine HC.out.mono ?_); rintro e w1 ⟨v, rfl, h1⟩; have H1 := Lib.hid h1; clear h1 HC))
          all_goals exact bodyPost_ret (v := .tuple #[v, .int .i64 0]) (by simp [results, go_sem]) rfl ⟨v, rfl, HY.out _ v _ H1.out⟩
  · rw [if_neg ht]
    have HN := Lib.hid (h.nil 42 4 Rel.cells)
    rw [show (decide (0 ≤ t) && decide (t < 8)) = false by simp; omega] at hth
    have HTH := Lib.hid hth
    clear h hth
    go_enter Tryz.func74, Tryz.ntmps74
    go_wp2_with (go_at_call 101; (with_reducible refine HTH.out.mono ?_); rintro e wz ⟨rfl, hwz⟩; have hwz := hwz.symm; subst hwz)
    exact bodyPost_ret (v := .tuple #[.slice none 0 0, .int .i64 2]) (by simp [results, go_sem]) rfl ⟨.slice none 0 0, rfl, HN.out⟩
end Go.Proofs.YtdncpihaeobaeaaGreat
