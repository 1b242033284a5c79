/- Words for the statements of layer 10; RunnerRuns. -/
import Derived.Test.YtjkflblbcodnoaaKeepPipe
import Derived.Test.YtjkflblbcodnoaaSame
set_option linter.unusedVariables false
namespace Go.Proofs.Ytjkflblbcodnoaa
open Go.RowKit Go.Maps
theorem Seen.pt {α : Type} {w0 : World} {K : List HP} {c : Nat} {enc : α → List Value} (hc : ∀ x, (enc x).length = c) {e : TypeId} {g : Nat} {l : List α} (n : Nat) (h : K[n]? = some (Go.Proofs.Ytjkflblbcodnoaa.pt g (.cells (l.flatMap enc).toArray e (0, 0)))) : Seen w0 (sepL K) c enc (some ⟨g, 0, none⟩) l := by
  intro w' L' m hs hm
  have h1 := hs.split m hm
  refine SlAt.ofRow (e := e) (fr := (0, 0)) hc (h1.blk (L'.length + n) ?_).1
  rw [List.getElem?_append_right (by simp)]
  simpa using h
theorem at_any (t v : Int) (w : World) : Calls Try.prog 31 #[.int .i64 t, .int .i64 v] w fun e w' => e = .returned (.agg #[.bool false, .int .i64 t, .int .i64 0, .int .i64 v, .int .u64 1]) ∧ w' = w.alloc (.cells #[.bool false, .int .i64 t, .int .i64 0, .int .i64 v, .int .u64 1] 64) := by
  go_enter Try.func31, Try.ntmps31
  go_wp2
  exact bodyPost_ret (by simp [results, go_sem]) rfl ⟨rfl, rfl⟩
theorem mark10_any (t : Int) (w : World) : Calls Try.prog 32 #[.int .i64 t] w fun e w' => e = .returned (.agg #[.bool true, .int .i64 t, .int .i64 0, .int .i64 0, .int .u64 0]) ∧ w' = w.alloc (.cells #[.bool true, .int .i64 t, .int .i64 0, .int .i64 0, .int .u64 0] 64) := by
  go_enter Try.func32, Try.ntmps32
  go_wp2
  exact bodyPost_ret (by simp [results, go_sem]) rfl ⟨rfl, rfl⟩
theorem late_st {w0 w : World} {L : List HP} (m lt sn : Int) (h : St w0 w L) : Calls Try.prog 33 #[.agg #[.int .i64 m, .int .i64 lt, .int .i64 sn]] w fun e w' => e = .returned (.int .i64 lt) ∧ St w0 w' L :=
  (late_at m lt sn w).mono (by rintro e w' ⟨rfl, rfl⟩; exact ⟨rfl, (h.alloc _).cut⟩)
theorem seen_st {w0 w : World} {L : List HP} (m lt sn : Int) (h : St w0 w L) : Calls Try.prog 34 #[.agg #[.int .i64 m, .int .i64 lt, .int .i64 sn]] w fun e w' => e = .returned (.int .i64 sn) ∧ St w0 w' L :=
  (seen_at m lt sn w).mono (by rintro e w' ⟨rfl, rfl⟩; exact ⟨rfl, (h.alloc _).cut⟩)
theorem mark_st {w0 w : World} {L : List HP} (m lt sn : Int) (h : St w0 w L) : Calls Try.prog 35 #[.agg #[.int .i64 m, .int .i64 lt, .int .i64 sn]] w fun e w' => e = .returned (.int .i64 m) ∧ St w0 w' L :=
  (mark_at m lt sn w).mono (by rintro e w' ⟨rfl, rfl⟩; exact ⟨rfl, (h.alloc _).cut⟩)
theorem at_st {w0 w : World} {L : List HP} (t v : Int) (h : St w0 w L) : Calls Try.prog 31 #[.int .i64 t, .int .i64 v] w fun e w' => e = .returned (.agg #[.bool false, .int .i64 t, .int .i64 0, .int .i64 v, .int .u64 1]) ∧ St w0 w' L :=
  (at_any t v w).mono (by rintro e w' ⟨rfl, rfl⟩; exact ⟨rfl, (h.alloc _).cut⟩)
theorem mk_st {w0 w : World} {L : List HP} (t : Int) (h : St w0 w L) : Calls Try.prog 32 #[.int .i64 t] w fun e w' => e = .returned (.agg #[.bool true, .int .i64 t, .int .i64 0, .int .i64 0, .int .u64 0]) ∧ St w0 w' L :=
  (mark10_any t w).mono (by rintro e w' ⟨rfl, rfl⟩; exact ⟨rfl, (h.alloc _).cut⟩)
theorem sameRw_st {w0 w : World} {L : List HP} (l : List Rw) (a b : Option Addr) (ca cb : Nat) (h : St w0 w L) (ha : SlAt 5 (flat Rw.cells) w a l) (hb : SlAt 5 (flat Rw.cells) w b l) (hlen : l.length ≤ 1099511627776) (hca : l.length ≤ ca) (hcb : l.length ≤ cb) :
    Calls Try.prog 24 #[.slice a l.length ca, .slice b l.length cb] w fun e w' => e = .returned (.bool true) ∧ St w0 w' L :=
  (SameRw_ok l a b ca cb w ha hb hlen hca hcb).mono (by rintro e w' ⟨rfl, hb⟩; exact ⟨rfl, h.kept hb⟩)
def p10 : Pp := ⟨[⟨2, 2⟩], 10, 10, 2, -1, -1⟩
def i10 : List Inp := [⟨false, ⟨3, 0, 5, 1⟩⟩, ⟨false, ⟨12, 0, 1, 1⟩⟩, ⟨true, ⟨10, 0, 0, 0⟩⟩, ⟨false, ⟨4, 0, 9, 1⟩⟩, ⟨true, ⟨20, 0, 0, 0⟩⟩]
def r10 : Rn := ⟨⟨0, 0, 0⟩, p10, []⟩
theorem p10_right : rightPp p10 = true := by decide +kernel
theorem r10_rows : rowsR r10 i10 = [⟨0, 0, 10, 1, 1⟩, ⟨10, 0, 2, 1, 1⟩] := by decide +kernel
theorem r10_late : (afterR r10 i10).c.late = 1 := by decide +kernel
theorem r10_seen : (afterR r10 i10).c.seen = 3 := by decide +kernel
theorem r10_mark : (afterR r10 i10).c.mark = 20 := by decide +kernel
theorem r10_len : (afterR r10 i10).L = [] := by decide +kernel
theorem r10_c : (afterR r10 i10).c = ⟨20, 1, 3⟩ := by
  have h1 := r10_late
  have h2 := r10_seen
  have h3 := r10_mark
  generalize (afterR r10 i10).c = c at *
  obtain ⟨a, b, d⟩ := c
  dsimp only at h1 h2 h3
  subst h1 h2 h3
  rfl
theorem p10_ops : ∀ o ∈ p10.ops, o.wf := by
  intro o ho
  simp [p10] at ho
  subst ho
  exact ⟨by decide, by decide⟩
theorem i10_wf : ∀ i ∈ i10, i.ev.wf := by
  intro i hi
  simp [i10] at hi
  rcases hi with rfl | rfl | rfl | rfl | rfl <;> exact ⟨by decide, by decide, by decide, by decide⟩
set_option maxHeartbeats 1000000 in
set_option maxRecDepth 20000 in
theorem RunnerRuns_any (w : World) : Calls Try.prog 4 #[] w fun e w' => e = .returned (.bool true) ∧ Below w.heap.size w w' := by
  have h0 := (St.start w).alloc (.cells #[.int .i64 2, .int .i64 2] 54)
  have HC0 := Lib.hid (rnNew_st h0 p10 (some ⟨w.heap.size, 0, none⟩) 1 (SlAt.one (x := (⟨2, 2⟩ : Opr)) Opr.len (heap_new _ _)) (by simp) p10_ops (by decide) p10_right)
  clear h0
  dsimp only [p10, List.length_cons, List.length_nil, Nat.zero_add] at HC0
  go_enter Try.func4, Try.ntmps4
  go_wp2_with (first
    | (go_at_call 29; (with_reducible refine HC0.out.mono ?_); rintro e w1 ⟨rb, rfl, hst1⟩; obtain ⟨pb1, v1, _, ⟨hb1, _, hl1⟩, _⟩ := rn_see hst1 1 rfl (by decide); obtain ⟨q1, _⟩ := blkCells hb1; have e1 := q1 3; simp [Rn.cells] at e1; have HS := Lib.hid hst1; clear hst1 q1 hb1 HC0)
    | (go_at_call 31; refine (at_st _ _ HS.out).mono ?_; rintro e w2 ⟨rfl, hst2⟩; clear HS; have HS := Lib.hid hst2; clear hst2)
    | (go_at_call 32; refine (mk_st _ HS.out).mono ?_; rintro e w2 ⟨rfl, hst2⟩; clear HS; have HS := Lib.hid hst2; clear hst2)
    | (go_at_call 30; refine (rnTake_st (HS.out.alloc (.cells (i10.flatMap Inp.cells).toArray 64)) 1 rfl (some ⟨_, 0, none⟩) 5 i10 (Seen.pt Inp.len 2 rfl) i10_wf (by decide) (by decide)).mono ?_; rintro e w3 ⟨v3, rfl, hst3⟩; have hst3 : St w w3 [pt _ _, rnP rb (afterR r10 i10) 5, pt _ _, ownP 45 5 Rw.cells v3 (rowsR r10 i10)] := hst3; rw [r10_rows] at hst3; clear HS; obtain ⟨a3, c3, rfl, hcap3, hmx3, hnil3, hsl3⟩ := hst3.sl Rw.len 3 rfl; have HS := Lib.hid hst3; clear hst3 hsl3)
    | (go_at_call 24; refine (sameRw_st [⟨0, 0, 10, 1, 1⟩, ⟨10, 0, 2, 1, 1⟩] a3 (some ⟨_, 0, none⟩) c3 2 (HS.out.alloc _) (St.slOf Rw.len (HS.out.alloc _) 3 rfl) (SlAt.ofRow Rw.len (l := [⟨0, 0, 10, 1, 1⟩, ⟨10, 0, 2, 1, 1⟩]) (heap_new _ _)) (by decide) hcap3 (by decide)).mono ?_; rintro e w4 ⟨rfl, hst4⟩; clear HS; have HS := Lib.hid hst4; clear hst4; obtain ⟨pb, v, _, ⟨hb, _, hl⟩, _, _, hlen, _, hx⟩ := rn_see HS.out 1 rfl (by decide); obtain ⟨q, _⟩ := blkCells hb; have e0 := q 0; have e1 := q 1; have e2 := q 2; have e3 := q 3; simp [Rn.cells, r10_c] at e0 e1 e2 e3; have HLEN := Lib.hid (hlen _ hx); clear hb q hlen hx)
    | (go_at_call 33; refine (late_st _ _ _ HS.out).mono ?_; rintro e w4 ⟨rfl, hst4⟩; clear HS; have HS := Lib.hid hst4; clear hst4 HLEN; obtain ⟨pb, v, _, ⟨hb, _, hl⟩, _, _, hlen, _, hx⟩ := rn_see HS.out 1 rfl (by decide); obtain ⟨q, _⟩ := blkCells hb; have e0 := q 0; have e1 := q 1; have e2 := q 2; have e3 := q 3; simp [Rn.cells, r10_c] at e0 e1 e2 e3; have HLEN := Lib.hid (hlen _ hx); clear hb q hlen hx)
    | (go_at_call 34; refine (seen_st _ _ _ HS.out).mono ?_; rintro e w4 ⟨rfl, hst4⟩; clear HS; have HS := Lib.hid hst4; clear hst4 HLEN; obtain ⟨pb, v, _, ⟨hb, _, hl⟩, _, _, hlen, _, hx⟩ := rn_see HS.out 1 rfl (by decide); obtain ⟨q, _⟩ := blkCells hb; have e0 := q 0; have e1 := q 1; have e2 := q 2; have e3 := q 3; simp [Rn.cells, r10_c] at e0 e1 e2 e3; have HLEN := Lib.hid (hlen _ hx); clear hb q hlen hx)
    | (go_at_call 35; refine (mark_st _ _ _ HS.out).mono ?_; rintro e w4 ⟨rfl, hst4⟩; clear HS; have HS := Lib.hid hst4; clear hst4 HLEN; obtain ⟨pb, v, _, ⟨hb, _, hl⟩, _, _, hlen, _, hx⟩ := rn_see HS.out 1 rfl (by decide); obtain ⟨q, _⟩ := blkCells hb; have e0 := q 0; have e1 := q 1; have e2 := q 2; have e3 := q 3; simp [Rn.cells, r10_c] at e0 e1 e2 e3; have HLEN := Lib.hid (hlen _ hx); clear hb q hlen hx)
    | (go_at_call 26; refine HLEN.out.mono ?_; rintro e w4 ⟨rfl, hst4⟩; rw [r10_len]; clear HS HLEN; have HS := Lib.hid hst4; clear hst4))
  go_ret
  exact ⟨rfl, HS.out.below⟩
end Go.Proofs.Ytjkflblbcodnoaa
