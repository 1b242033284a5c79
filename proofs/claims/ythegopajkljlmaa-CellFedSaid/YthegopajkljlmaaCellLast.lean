/- Walks of package cell: what is told, twins, a new one. -/
import Derived.Test.YthegopajkljlmaaCellMore
set_option linter.unusedVariables false
set_option linter.unusedSimpArgs false
namespace Go.Proofs.Ythegopajkljlmaa
open Go.RowKit
def tellR (R : List Rw) (f n : Int) : List Rw × Int := if f < 0 ∨ (R.length : Int) < f then ([], 5) else ((R.drop f.toNat).take (max 0 (min (min n 32) (R.length - f))).toNat, 0)
theorem cloneRw_len {w0 w : World} {L : List HP} (h : St w0 w L) (a : Option Addr) (k cap : Nat) (l : List Rw) (hk : l.length = k) (hl : SlAt 5 (flat Rw.cells) w a l) (hn : a = none → cap = 0) (hlen : l.length ≤ 1099511627776) :
    Calls Try.prog 44 #[.slice a k cap] w fun e w' => ∃ v, e = .returned v ∧ St w0 w' (L ++ [ownP 43 5 Rw.cells v l]) := by
  subst hk
  exact cloneRw_st h a cap l hl hn hlen
theorem ownP_addr {α : Type} {e : TypeId} {c : Nat} {enc : α → List Value} {w0 w : World} {L : List HP} (h : St w0 w L) (n : Nat) {v : Value} {l : List α} (hn : L[n]? = some (ownP e c enc v l)) : (v = .slice none 0 0 ∧ l = []) ∨ ∃ b cap, v = .slice (some ⟨b, 0, none⟩) l.length cap ∧ l.length ≤ cap ∧ cap ≤ maxLen := by
  obtain ⟨F, hF⟩ := h.at n hn
  rcases hF with hv | ⟨b, cap, _, hv, _, h1, h2, _⟩
  · exact .inl hv
  · exact .inr ⟨b, cap, hv, h1, h2⟩
theorem cl_see {w0 w : World} {L : List HP} {cb N : Nat} {c : Cl} (h : St w0 w L) (n : Nat) (hn : L[n]? = some (clP cb c N)) : ∃ (rb : Nat) (qa : Option Addr) (qc : Nat) (rv tv : Value), c.ok N ∧ w.heap[cb]? = some (.cells #[.int .i64 c.left, .int .i64 c.spent, .int .i64 c.refused, .slice qa c.q.length qc, .pointer (some ⟨rb, 0, none⟩), .int .i64 c.id, rv, tv] 53 (0, 0)) ∧ cb < w.heap.size := by
  obtain ⟨rb, qv, rv, tv, hok, hst⟩ := cl_open h n hn
  obtain ⟨qa, qc, hqv, _⟩ := hst.see Inp.len 1 rfl
  subst hqv
  exact ⟨rb, qa, qc, rv, tv, hok, (hst.blk 0 rfl).1, (hst.blk 0 rfl).2.2⟩
theorem clRows_len {c : Cl} {N : Nat} (hok : c.ok N) : c.rows.length + c.rn.L.length ≤ 8 * c.taken.length := by
  have h := rowsR_len (newR c.p) c.taken
  have h0 : (newR c.p).L.length = 0 := rfl
  show (rowsR (newR c.p) c.taken).length + (afterR (newR c.p) c.taken).L.length ≤ _
  omega
set_option maxHeartbeats 1000000 in
theorem count_st {w0 w : World} {L : List HP} {cb N : Nat} {c : Cl} (h : St w0 w L) (n : Nat) (hn : L[n]? = some (clP cb c N)) : Calls Try.prog 26 #[.pointer (some ⟨cb, 0, none⟩)] w fun x w' => x = .returned (.int .i64 c.rows.length) ∧ St w0 w' L := by
  obtain ⟨rb, qv, rv, tv, hok, hst⟩ := cl_open h n hn
  obtain ⟨ra, rc, hrv, _, _, _, _⟩ := hst.sl Rw.len 3 rfl
  subst hrv
  obtain ⟨_, _, _, _, _, _, c6, _⟩ := cells8 (hst.blk 0 rfl).1 (Below.refl _ _)
  have HS := Lib.hid h
  clear h hn hst
  go_enter Try.func26, Try.ntmps26
  go_wp2
  go_ret
  exact ⟨rfl, HS.out⟩
set_option maxHeartbeats 1000000 in
theorem taken_st {w0 w : World} {L : List HP} {cb N : Nat} {c : Cl} (h : St w0 w L) (n : Nat) (hn : L[n]? = some (clP cb c N)) (hN : N < 2 ^ 28) : Calls Try.prog 24 #[.pointer (some ⟨cb, 0, none⟩)] w fun x w' => ∃ v, x = .returned v ∧ St w0 w' (L ++ [ownP 33 5 Inp.cells v c.taken]) := by
  have hset := set_same hn
  have hnl := (List.getElem?_eq_some_iff.1 hn).1
  obtain ⟨rb, qv, rv, tv, hok, hst⟩ := cl_open h n hn
  have hend : ∀ (w' : World) (c' : Cl) (M : Nat) (K : List HP) (rb : Nat) (qv rv tv : Value), c'.ok M → St w0 w' (pt cb (.cells (c'.cells rb qv rv tv) 53 (0, 0)) :: seeP 5 Inp.cells qv c'.q :: rnP rb c'.rn c'.taken.length :: ownP 43 5 Rw.cells rv c'.rows :: ownP 33 5 Inp.cells tv c'.taken :: sepL (L.set n emp) :: K) → St w0 w' (L.set n (clP cb c' M) ++ K) := fun w' c' M K rb qv rv tv hok h' => cl_shut hok hnl h'
  obtain ⟨ta, tc, htv, _, _, htn, _⟩ := hst.sl Inp.len 4 rfl
  subst htv
  obtain ⟨_, _, _, _, _, _, _, c7⟩ := cells8 (hst.blk 0 rfl).1 (Below.refl _ _)
  have hlen := hok.len
  have HC := Lib.hid (cloneInp_st hst ta tc c.taken (hst.slOf Inp.len 4 rfl) htn (by omega))
  have hY : ∀ w' v, St w0 w' [pt cb (.cells (c.cells rb qv rv (.slice ta c.taken.length tc)) 53 (0, 0)), seeP 5 Inp.cells qv c.q, rnP rb c.rn c.taken.length, ownP 43 5 Rw.cells rv c.rows, ownP 33 5 Inp.cells (.slice ta c.taken.length tc) c.taken, sepL (L.set n emp), ownP 33 5 Inp.cells v c.taken] → St w0 w' (L ++ [ownP 33 5 Inp.cells v c.taken]) := fun w' v h' => by
    have := hend w' c N [_] rb qv rv _ hok h'
    rwa [hset] at this
  have HY := Lib.hid hY
  clear h hn hst hend hY hok htn hset hnl
  go_enter Try.func24, Try.ntmps24
  go_wp2_with (go_at_call 46; (with_reducible refine HC.out.mono ?_); rintro e w1 ⟨v, rfl, h1⟩; have H1 := Lib.hid h1; clear h1 HC)
  go_ret
  exact ⟨v, rfl, HY.out _ _ H1.out⟩
set_option maxHeartbeats 2000000 in
set_option maxRecDepth 20000 in
theorem tell_st {w0 w : World} {L : List HP} {cb N : Nat} {c : Cl} (h : St w0 w L) (n : Nat) (hn : L[n]? = some (clP cb c N)) (f m : Int) (hN : N < 2 ^ 28) (hf : -4611686018427387904 ≤ f ∧ f ≤ 4611686018427387904) : Calls Try.prog 16 #[.pointer (some ⟨cb, 0, none⟩), .int .i64 f, .int .i64 m] w fun x w' => ∃ v, x = .returned (.tuple #[v, .int .i64 (tellR c.rows f m).2]) ∧ St w0 w' (L ++ [ownP 43 5 Rw.cells v (tellR c.rows f m).1]) := by
  have hset := set_same hn
  have hnl := (List.getElem?_eq_some_iff.1 hn).1
  obtain ⟨rb, qv, rv, tv, hok, hst⟩ := cl_open h n hn
  have hend : ∀ (w' : World) (c' : Cl) (M : Nat) (K : List HP) (rb : Nat) (qv rv tv : Value), c'.ok M → St w0 w' (pt cb (.cells (c'.cells rb qv rv tv) 53 (0, 0)) :: seeP 5 Inp.cells qv c'.q :: rnP rb c'.rn c'.taken.length :: ownP 43 5 Rw.cells rv c'.rows :: ownP 33 5 Inp.cells tv c'.taken :: sepL (L.set n emp) :: K) → St w0 w' (L.set n (clP cb c' M) ++ K) := fun w' c' M K rb qv rv tv hok h' => cl_shut hok hnl h'
  obtain ⟨_, _, _, _, _, _, c6, _⟩ := cells8 (hst.blk 0 rfl).1 (Below.refl _ _)
  have hlc := (hst.blk 0 rfl).2.2
  have hlen := hok.len
  have hrl := clRows_len hok
  have hY : ∀ w' v R, St w0 w' [pt cb (.cells (c.cells rb qv rv tv) 53 (0, 0)), seeP 5 Inp.cells qv c.q, rnP rb c.rn c.taken.length, ownP 43 5 Rw.cells rv c.rows, ownP 33 5 Inp.cells tv c.taken, sepL (L.set n emp), ownP 43 5 Rw.cells v R] → St w0 w' (L ++ [ownP 43 5 Rw.cells v R]) := fun w' v R h' => by
    have := hend w' c N [_] rb qv rv tv hok h'
    rwa [hset] at this
  have HY := Lib.hid hY
  have HS := Lib.hid hst
  unfold tellR
  clear h hn hst hend hY hok hset hnl
  generalize c.rows = R at *
  have hown := ownP_addr HS.out 3 rfl
  by_cases hbad : f < 0 ∨ (R.length : Int) < f
  · rw [if_pos hbad]
    have HN := Lib.hid (HS.out.nil 43 5 Rw.cells)
    obtain ⟨ra, rc, hrv⟩ : ∃ ra rc, rv = .slice ra R.length rc := by
      obtain ⟨a, b, h, _⟩ := HS.out.sl Rw.len 3 rfl
      exact ⟨a, b, h⟩
    subst hrv
    clear hown
    by_cases hf0 : f < 0
    · go_enter Try.func16, Try.ntmps16
      go_wp2
      exact bodyPost_ret (v := .tuple #[.slice none 0 0, .int .i64 5]) (by simp [results, go_sem]) rfl ⟨.slice none 0 0, rfl, HY.out w (.slice none 0 0) [] HN.out⟩
    · have hf1 : (R.length : Int) < f := by omega
      go_enter Try.func16, Try.ntmps16
      go_wp2
      exact bodyPost_ret (v := .tuple #[.slice none 0 0, .int .i64 5]) (by simp [results, go_sem]) rfl ⟨.slice none 0 0, rfl, HY.out w (.slice none 0 0) [] HN.out⟩
  · rw [if_neg hbad]
    obtain ⟨g, rfl⟩ : ∃ g : Nat, f = g := ⟨f.toNat, by omega⟩
    obtain ⟨k, hk⟩ : ∃ k : Nat, max 0 (min (min m 32) ((R.length : Int) - g)) = k := ⟨(max 0 (min (min m 32) ((R.length : Int) - g))).toNat, by omega⟩
    rw [hk]
    dsimp only
    simp only [Int.toNat_natCast]
    have hgr : g ≤ R.length := by omega
    have hkr : g + k ≤ R.length := by omega
    have hI1 : ¬ ((g : Int) < 0) := by omega
    have hI2 : ¬ ((R.length : Int) < g) := by omega
    have hI3 : (0 : Int) ≤ g := by omega
    have hI4 : (g : Int) ≤ (g : Int) + k := by omega
    have hw1 : wrap64 ((R.length : Int) - g) = (R.length : Int) - g := by unfold wrap64; omega
    have HW1 := Lib.hid hw1
    clear hw1
    have hw2 : wrap64 ((g : Int) + k) = (g : Int) + k := by unfold wrap64; omega
    have HW2 := Lib.hid hw2
    clear hw2 hbad hf
    rcases hown with ⟨rfl, hR⟩ | ⟨ab, rc, rfl, hrc, hrm⟩
    · subst hR
      simp only [List.length_nil] at hgr hkr hk hI2
      obtain rfl : g = 0 := by omega
      obtain rfl : k = 0 := by omega
      have HC := Lib.hid (cloneRw_len HS.out none 0 0 [] rfl (.inl rfl) (fun _ => rfl) (by simp))
      simp only [List.drop_nil, List.take_nil]
      clear hk hgr hkr hI2 hI4 hrl hlen
      by_cases hm0 : m ≤ 0
      · have hmx : max 0 m = 0 := by omega
        go_enter Try.func16, Try.ntmps16
        go_wp2_with (go_at_call 44; (with_reducible refine HC.out.mono ?_); rintro e w1 ⟨v, rfl, h1⟩; have H1 := Lib.hid h1; clear h1 HC)
        all_goals exact bodyPost_ret (v := .tuple #[v, .int .i64 0]) (by simp [results, go_sem]) rfl ⟨v, rfl, HY.out _ v _ H1.out⟩
      · have hmx : min (min m 32) 0 = 0 := by omega
        go_enter Try.func16, Try.ntmps16
        go_wp2_with (go_at_call 44; (with_reducible refine HC.out.mono ?_); rintro e w1 ⟨v, rfl, h1⟩; have H1 := Lib.hid h1; clear h1 HC)
        all_goals exact bodyPost_ret (v := .tuple #[v, .int .i64 0]) (by simp [results, go_sem]) rfl ⟨v, rfl, HY.out _ v _ H1.out⟩
    · have hI5 : (g : Int) + k ≤ rc := by omega
      have hI6 : (g : Int) ≤ rc := by omega
      unfold maxLen at hrm
      have hlk : ((R.drop g).take k).length = k := by simp; omega
      by_cases hcg : rc = g
      · subst hcg
        have hk0 : k = 0 := by omega
        subst hk0
        have HC := Lib.hid (cloneRw_len HS.out (some ⟨ab, 0, none⟩) 0 0 ((R.drop rc).take 0) (by simp) (.inl (by simp)) (by simp) (by simp))
        have hw1 := HW1.out
        have hz : (R.length : Int) - rc = 0 := by omega
        have hw2 := HW2.out
        clear hk hkr hrl hlen hlk hgr hI4 hI5
        by_cases hm0 : m ≤ 0
        · have hmx : max 0 m = 0 := by omega
          have hm1 : ¬ (32 : Int) < m := by omega
          have hm2 : ¬ (0 : Int) < m := by omega
          go_enter Try.func16, Try.ntmps16
          go_wp2_with (go_at_call 44; (with_reducible refine HC.out.mono ?_); rintro e w1 ⟨v, rfl, h1⟩; have H1 := Lib.hid h1; clear h1 HC)
          all_goals exact bodyPost_ret (v := .tuple #[v, .int .i64 0]) (by simp [results, go_sem]) rfl ⟨v, rfl, HY.out _ v _ H1.out⟩
        · have hm2 : (0 : Int) < m := by omega
          go_enter Try.func16, Try.ntmps16
          go_wp2_with (go_at_call 44; (with_reducible refine HC.out.mono ?_); rintro e w1 ⟨v, rfl, h1⟩; have H1 := Lib.hid h1; clear h1 HC)
          all_goals exact bodyPost_ret (v := .tuple #[v, .int .i64 0]) (by simp [results, go_sem]) rfl ⟨v, rfl, HY.out _ v _ H1.out⟩
      · have hsl := ((HS.out.slOf Rw.len 3 rfl).drop g).take k
        have HC := Lib.hid (cloneRw_len HS.out (some ⟨ab, 0 + g * 5, none⟩) k (rc - g) ((R.drop g).take k) hlk hsl (by simp) (by rw [hlk]; omega))
        simp only [Nat.zero_add] at HC
        have hw1 := HW1.out
        have HK := Lib.hid (show max 0 (if (R.length : Int) - g < (if 32 < m then 32 else m) then (R.length : Int) - g else if 32 < m then 32 else m) = k by split <;> split <;> omega)
        have HI4 := Lib.hid hI4
        have HI5 := Lib.hid hI5
        clear hsl hk hkr hrl hlen hlk hgr hI4 hI5
        go_enter Try.func16, Try.ntmps16
        go_upto_region 4 with fail
        rw [HK.out]
        have hw2 := HW2.out
        have hI4 := HI4.out
        have hI5 := HI5.out
        clear hw1
        go_wp2_with (go_at_call 44; (with_reducible refine HC.out.mono ?_); rintro e w1 ⟨v, rfl, h1⟩; have H1 := Lib.hid h1; clear h1 HC)
        all_goals exact bodyPost_ret (v := .tuple #[v, .int .i64 0]) (by simp [results, go_sem]) rfl ⟨v, rfl, HY.out _ v _ H1.out⟩
end Go.Proofs.Ythegopajkljlmaa
