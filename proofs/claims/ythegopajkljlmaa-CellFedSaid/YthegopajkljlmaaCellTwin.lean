/- Walks of package cell: twins, a new one. -/
import Derived.Test.YthegopajkljlmaaCellLast
set_option linter.unusedVariables false
set_option linter.unusedSimpArgs false
namespace Go.Proofs.Ythegopajkljlmaa
open Go.RowKit
theorem split_st {w0 w : World} {L : List HP} {a : Option Addr} {cap : Nat} {q : List Inp} (h : St w0 w L) (m : Nat) (hm : L[m]? = some (seeP 5 Inp.cells (.slice a q.length cap) q)) (hlen : q.length ≤ 1099511627776) :
    Calls Try.prog 50 #[.agg #[.slice a q.length cap]] w fun e w' => ∃ x y, e = .returned (.agg #[.slice x q.length y]) ∧ St w0 w' (L ++ [ownP 33 5 Inp.cells (.slice x q.length y) q]) := by
  have hml := (List.getElem?_eq_some_iff.1 hm).1
  have h1 := ((h.alloc (.cells #[.slice a q.length cap] 50)).alloc (.cells #[.slice none 0 0] 50))
  rw [World.size_alloc] at h1
  have hm1 : ((L ++ [pt w.heap.size (.cells #[.slice a q.length cap] 50 (0, 0))]) ++ [pt (w.heap.size + 1) (.cells #[.slice none 0 0] 50 (0, 0))])[m]? = some (seeP 5 Inp.cells (.slice a q.length cap) q) := by
    rw [List.append_assoc, List.getElem?_append_left hml]; exact hm
  have HC := Lib.hid (all_st h1 m hm1 hlen)
  have hend : ∀ (w' : World) (X Y Z : HP), St w0 w' (((L ++ [X]) ++ [Y]) ++ [Z]) → St w0 w' (L ++ [Z]) := fun w' X Y Z h => by
    have h2 : St w0 w' (L ++ X :: ([Y] ++ [Z])) := by simpa using h
    have h3 := h2.skip
    have h4 : St w0 w' (L ++ Y :: [Z]) := h3
    exact h4.skip
  have hbk : ∀ (w' : World) (X Z : HP) (o : Obj), St w0 w' (((L ++ [X]) ++ [pt (w.heap.size + 1) o]) ++ [Z]) → w'.heap[w.heap.size + 1]? = some o ∧ w.heap.size + 1 < w'.heap.size := fun w' X Z o h => by
    have := h.blk (L.length + 1) (b := w.heap.size + 1) (o := o) (by simp)
    exact ⟨this.1, this.2.2⟩
  have hset : ∀ (w' : World) (X Z : HP) (v : Value), St w0 w' (((L ++ [X]) ++ [pt (w.heap.size + 1) (.cells #[.slice none 0 0] 50 (0, 0))]) ++ [Z]) → St w0 (w'.setCell ⟨w.heap.size + 1, 0, none⟩ v) (((L ++ [X]) ++ [pt (w.heap.size + 1) (.cells #[v] 50 (0, 0))]) ++ [Z]) := fun w' X Z v h => by
    have := h.set (L.length + 1) (b := w.heap.size + 1) (by simp; rfl) 0 v
    simpa using this
  have HEND := Lib.hid hend
  have HBK := Lib.hid hbk
  have HSET := Lib.hid hset
  clear h hm h1 hm1 hend hbk hset hml
  go_enter Try.func50, Try.ntmps50
  go_wp2_with (go_at_call 68; (with_reducible refine HC.out.mono ?_); rintro e w1 ⟨v, rfl, h1⟩; obtain ⟨x, y, rfl, _, _, _, _⟩ := h1.sl (e := 33) (v := v) (l := q) Inp.len (L.length + 2) (by simp); obtain ⟨hb, hl⟩ := HBK.out _ _ _ _ h1; obtain ⟨q1, z1⟩ := blkCells hb; have H2 := Lib.hid (HSET.out _ _ _ (.slice x q.length y) h1); clear h1 HC hb)
  have hb2 := (HBK.out _ _ _ _ H2.out).1
  have q2 := cells1 hb2 (Below.refl _ _)
  exact bodyPost_ret (v := .agg #[.slice x q.length y]) (by simp [results, go_sem, q1, q2]) rfl ⟨x, y, rfl, HEND.out _ _ _ _ H2.out⟩
set_option maxHeartbeats 2000000 in
set_option maxRecDepth 20000 in
theorem cellTwin_st {w0 w : World} {L : List HP} {cb N : Nat} {c : Cl} (h : St w0 w L) (n : Nat) (hn : L[n]? = some (clP cb c N)) (hN : N < 2 ^ 28) : Calls Try.prog 32 #[.pointer (some ⟨cb, 0, none⟩)] w fun x w' => ∃ g, x = .returned (.pointer (some ⟨g, 0, none⟩)) ∧ St w0 w' (L ++ [clP g c N]) := by
  have hset := set_same hn
  have hnl := (List.getElem?_eq_some_iff.1 hn).1
  obtain ⟨rb, qv, rv, tv, hok, hst⟩ := cl_open h n hn
  have hY : ∀ w' Y, St w0 w' [clP cb c N, sepL (L.set n emp), Y] → St w0 w' (L ++ [Y]) := fun w' Y h' => by
    have := St.back (X := clP cb c N) (n := n) (L := L) (K := [Y]) h' hnl
    rwa [hset] at this
  have hlen := hok.len
  have hrl := clRows_len hok
  obtain ⟨qa, qc, hqv, _, _, _, _, _⟩ := hst.see Inp.len 1 rfl
  subst hqv
  obtain ⟨ra, rc, hrv, _, _, hrn, _⟩ := hst.sl Rw.len 3 rfl
  subst hrv
  obtain ⟨ta, tc, htv, _, _, _, _⟩ := hst.sl Inp.len 4 rfl
  subst htv
  dsimp only [Cl.cells] at hst
  have HY := Lib.hid hY
  have HOK := Lib.hid hok
  have HRN := Lib.hid hrn
  clear h hn hY hset hnl hok hrn
  generalize sepL (L.set n emp) = RR at *
  obtain ⟨c0, c1, c2, c3, c4, c5, c6, c7⟩ := cells8 (hst.blk 0 rfl).1 (Below.refl _ _)
  have hlc := (hst.blk 0 rfl).2.2
  have hst1 := hst.alloc (.cells #[.int .i64 c.left, .int .i64 c.spent, .int .i64 c.refused, .slice qa c.q.length qc, .pointer (some ⟨rb, 0, none⟩), .int .i64 c.id, .slice ra c.rows.length rc, .slice ta c.taken.length tc] 53)
  have HC1 := Lib.hid (split_st hst1 1 rfl (by omega))
  have HLN := Lib.hid (show c.rows.length ≤ 1099511627776 by omega)
  have HNN := Lib.hid hN
  clear hst hst1 hrl hlen hN
  go_enter Try.func32, Try.ntmps32
  go_upto_region 3 with (go_at_call 50; (with_reducible refine HC1.out.mono ?_); rintro e w1 ⟨x, y, rfl, h1⟩; obtain ⟨q1, z1⟩ := blkCells (h1.blk 6 rfl).1; have hl1 := (h1.blk 6 rfl).2.2; have HS1 := Lib.hid (h1.set 6 rfl 3 (.slice x c.q.length y)); clear h1 HC1)
  refine wp_at HS1.out ?_
  intro w2 hst2
  generalize w.heap.size = g at *
  clear HS1 q1 z1 hl1 c0 c1 c2 c3 c4 c5 c6 c7 hlc
  obtain ⟨c0, c1, c2, c3, c4, c5, c6, c7⟩ := cells8 (hst2.blk 0 rfl).1 (Below.refl _ _)
  have hlc := (hst2.blk 0 rfl).2.2
  have HC2 := Lib.hid (rnTwin_st hst2 2 rfl)
  clear hst2
  go_upto_region 4 with (go_at_call 51; (with_reducible refine HC2.out.mono ?_); rintro e w3 ⟨tb, rfl, h3⟩; obtain ⟨q1, z1⟩ := blkCells (h3.blk 6 rfl).1; have hl1 := (h3.blk 6 rfl).2.2; have HS3 := Lib.hid (h3.set 6 rfl 4 (.pointer (some ⟨tb, 0, none⟩))); clear h3 HC2)
  refine wp_at HS3.out ?_
  intro w4 hst4
  clear HS3 q1 z1 hl1 c0 c1 c2 c3 c4 c5 c6 c7 hlc
  obtain ⟨c0, c1, c2, c3, c4, c5, c6, c7⟩ := cells8 (hst4.blk 0 rfl).1 (Below.refl _ _)
  have hlc := (hst4.blk 0 rfl).2.2
  have HC4 := Lib.hid (cloneRw_st hst4 ra rc c.rows (hst4.slOf Rw.len 3 rfl) HRN.out HLN.out)
  clear hst4
  go_wp2_with (first
    | (go_at_call 24; (with_reducible refine HC6.out.mono ?_); rintro e w6 ⟨v6, rfl, h6⟩; obtain ⟨x6, y6, rfl, _, _, _, _⟩ := h6.sl Inp.len 10 rfl; obtain ⟨q1, z1⟩ := blkCells (h6.blk 6 rfl).1; have hl1 := (h6.blk 6 rfl).2.2; have HS6 := Lib.hid ((h6.set 6 rfl 6 (.slice x5 c.rows.length y5)).set 6 rfl 7 (.slice x6 c.taken.length y6)); clear h6 HC6)
    | (go_at_call 44; (with_reducible refine HC4.out.mono ?_); rintro e w5 ⟨v5, rfl, h5⟩; obtain ⟨x5, y5, rfl, _, _, _, _⟩ := h5.sl Rw.len 9 rfl; have h5 := (h5.fold 0 [1, 2, 3, 4] (by decide) (by simp)).imp 0 rfl (X' := clP cb c N) (fun h hh => cl_pack (rb := rb) (qv := .slice qa c.q.length qc) (rv := .slice ra c.rows.length rc) (tv := .slice ta c.taken.length tc) HOK.out h hh); have h5 : St w0 w5 [clP cb c N, emp, emp, emp, emp, RR, pt g (.cells #[.int .i64 c.left, .int .i64 c.spent, .int .i64 c.refused, .slice x c.q.length y, .pointer (some ⟨tb, 0, none⟩), .int .i64 c.id, .slice ra c.rows.length rc, .slice ta c.taken.length tc] 53 (0, 0)), ownP 33 5 Inp.cells (.slice x c.q.length y) c.q, rnP tb c.rn c.taken.length, ownP 43 5 Rw.cells (.slice x5 c.rows.length y5) c.rows] := h5; have HC6 := Lib.hid (taken_st h5 0 rfl HNN.out); clear h5 HC4))
  go_ret
  have h7 := (HS6.out.imp 7 rfl (X' := seeP 5 Inp.cells (.slice x c.q.length y) c.q) fun h hh => seeP_own Inp.len hh)
  have h8 := (h7.fold 6 [7, 8, 9, 10] (by decide) (by simp)).imp 6 rfl (X' := clP g c N) (fun h hh => cl_pack (rb := tb) (qv := .slice x c.q.length y) (rv := .slice x5 c.rows.length y5) (tv := .slice x6 c.taken.length y6) HOK.out h hh)
  exact ⟨g, rfl, HY.out _ _ (h8.pick [0, 5, 6] (by decide))⟩
end Go.Proofs.Ythegopajkljlmaa
