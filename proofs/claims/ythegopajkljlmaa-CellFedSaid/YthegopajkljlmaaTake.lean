/- Walks of runner.Take, New, Twin. -/
import Derived.Test.YthegopajkljlmaaRunner
set_option linter.unusedVariables false
namespace Go.Proofs.Ythegopajkljlmaa
open Go.RowKit Go.Maps
theorem evR_ok {r : Rn} {N : Nat} (h : r.ok N) (e : Ev) : (evR r e).ok (N + 1) := ⟨Clk.ok_on h.1 _, h.2⟩
theorem takeR_ok {r : Rn} {N : Nat} (h : r.ok N) (i : Inp) : (takeR r i).1.ok (N + 1) := by
  unfold takeR
  split
  · split
    · exact ⟨Clk.ok_mono (Clk.ok_adv h.1 _) (by omega), h.2⟩
    · exact ⟨Clk.ok_mono h.1 (by omega), h.2⟩
  · exact evR_ok h _
theorem rnP_mono {rb N M : Nat} {r : Rn} (hN : N ≤ M) {h : Nat → Option Obj} (hh : rnP rb r N h) : rnP rb r M h := by
  obtain ⟨x, hok, own, hs⟩ := hh
  refine ⟨x, ⟨Clk.ok_mono hok.1 hN, hok.2⟩, own, fun i P hi => ?_⟩
  match i, hi with
  | 0, hi => exact hs 0 P hi
  | 1, hi =>
    cases hi
    exact panesP_mono (by omega) (hs 1 _ rfl)
  | 2, hi => exact hs 2 P hi
  | i + 3, hi => simp at hi
theorem mark_at (m lt sn : Int) (w : World) : Calls Try.prog 62 #[.agg #[.int .i64 m, .int .i64 lt, .int .i64 sn]] w fun e w' => e = .returned (.int .i64 m) ∧ w' = w.alloc (.cells #[.int .i64 m, .int .i64 lt, .int .i64 sn] 67) := mark_any ⟨m, lt, sn⟩ w
theorem advC_true {c : Clk} {t : Int} (h : advB c t = true) : advC c t = ⟨t, c.late, c.seen⟩ := by
  unfold advB at h
  unfold advC
  rw [if_pos (by simpa using h)]
theorem advC_false {c : Clk} {t : Int} (h : advB c t = false) : advC c t = c := by
  unfold advB at h
  unfold advC
  rw [if_neg (by simpa using h)]
theorem takeR_mark {r : Rn} {e : Ev} (h : advB r.c e.time = true) : takeR r ⟨true, e⟩ = (⟨⟨e.time, r.c.late, r.c.seen⟩, r.p, keepL r.p.size e.time r.L⟩, rowsL (doneL r.p.size e.time r.L)) := by
  unfold takeR
  simp [h, advC_true h]
theorem takeR_skip {r : Rn} {e : Ev} (h : advB r.c e.time = false) : takeR r ⟨true, e⟩ = (r, []) := by
  unfold takeR
  simp [h]
theorem event_at {w0 w : World} {L : List HP} {rb N : Nat} {r : Rn} (h : St w0 w L) (n : Nat) (hn : L[n]? = some (rnP rb r N)) (e : Ev) (he : e.wf) (hN : N < 2 ^ 30) :
    Calls Try.prog 59 #[.pointer (some ⟨rb, 0, none⟩), .agg #[.int .i64 e.time, .int .i64 e.key, .int .i64 e.value, .int .u64 e.label]] w fun x w' => x = .returned (.tuple #[]) ∧ St w0 w' (L.set n (rnP rb (evR r e) (N + 1))) := rnEvent_st h n hn e he hN
set_option maxHeartbeats 2000000 in
set_option maxRecDepth 20000 in
theorem rnTake_st {w0 w : World} {L : List HP} {rb N : Nat} {r : Rn} (h : St w0 w L) (n : Nat) (hn : L[n]? = some (rnP rb r N)) (a : Option Addr) (cap : Nat) (l : List Inp) (hl : Seen w0 (sepL (L.set n emp)) 5 Inp.cells a l) (hw : ∀ i ∈ l, i.ev.wf) (hN : N + l.length < 2 ^ 30) (hr : r.L.length ≤ 8 * N) :
    Calls Try.prog 43 #[.pointer (some ⟨rb, 0, none⟩), .slice a l.length cap] w fun x w' => ∃ v, x = .returned v ∧ St w0 w' (L.set n (rnP rb (afterR r l) (N + l.length)) ++ [ownP 43 5 Rw.cells v (rowsR r l)]) := by
  have hnl := (List.getElem?_eq_some_iff.1 hn).1
  have hst := (h.front n hn).nil 43 5 Rw.cells
  have hend : ∀ (w' : World) (v : Value), St w0 w' [rnP rb (afterR r l) (N + l.length), sepL (L.set n emp), ownP 43 5 Rw.cells v (rowsR r l)] → St w0 w' (L.set n (rnP rb (afterR r l) (N + l.length)) ++ [ownP 43 5 Rw.cells v (rowsR r l)]) := fun w' v h => h.back hnl
  clear h hn
  generalize sepL (L.set n emp) = R at *
  have HS := Lib.hid hst
  have HL := Lib.hid hl
  have HW := Lib.hid hw
  have HEND := Lib.hid hend
  have HN := Lib.hid hN
  have HR := Lib.hid hr
  have hl30 : l.length < 2 ^ 30 := by omega
  clear hst hl hw hend hN hr hnl
  go_enter Try.func43, Try.ntmps43
  go_wp2_with fail
  go_loopw [5, 10] (fun v iv wr => ∃ k : Nat, k ≤ l.length ∧ iv = .int .i64 k ∧ St w0 wr [rnP rb (afterR r (l.take k)) (N + k), R, ownP 43 5 Rw.cells v (rowsR r (l.take k))]) (fun _ iv _ => l.length - (intOf iv).toNat)
  case atStart => exact ⟨0, by omega, rfl, by simpa [afterR, rowsR] using HS.out⟩
  case round =>
    obtain ⟨k, hk, rfl, hst⟩ := hrel
    by_cases hlt : (k : Int) < l.length
    · have hkn : k < l.length := by omega
      obtain ⟨b, o, rfl, hbl, c0, c1, c2, c3, c4⟩ := (HL.out wr _ 1 hst rfl).inAt k hkn
      have hiw := HW.out _ (List.getElem_mem hkn)
      have htk : l.take (k + 1) = l.take k ++ [l[k]] := by rw [List.take_add_one, List.getElem?_eq_getElem hkn]; rfl
      have hA : afterR r (l.take (k + 1)) = (takeR (afterR r (l.take k)) l[k]).1 := by rw [htk, afterR_append]; rfl
      have hB : rowsR r (l.take (k + 1)) = rowsR r (l.take k) ++ (takeR (afterR r (l.take k)) l[k]).2 := by rw [htk, rowsR_append, rowsR, rowsR, List.append_nil]
      have hlen := rowsR_len r (l.take k)
      rw [List.length_take, Nat.min_eq_left (by omega)] at hlen
      rw [List.getElem?_eq_getElem hkn] at c0 c1 c2 c3 c4
      simp only [Option.getD_some] at c0 c1 c2 c3 c4
      generalize l[k] = i at *
      obtain ⟨im, ie⟩ := i
      generalize hq : afterR r (l.take k) = q at *
      generalize rowsR r (l.take k) = out at *
      have HA := Lib.hid hA
      have HB := Lib.hid hB
      have HIW := Lib.hid hiw
      have HLEN := Lib.hid hlen
      have HST := Lib.hid hst
      clear hA hB hiw hlen hst hq htk
      dsimp only at c0 c1 c2 c3 c4
      cases im with
      | false =>
        have HC := Lib.hid (event_at (HST.out.alloc (.cells #[.bool false, .int .i64 ie.time, .int .i64 ie.key, .int .i64 ie.value, .int .u64 ie.label] 33)) 0 rfl ie HIW.out (by have := HN.out; omega))
        go_wp2_with (go_at_call 59; (with_reducible refine HC.out.mono ?_); rintro y w1 ⟨rfl, hst1⟩; have HS1 := Lib.hid hst1; clear hst1)
        go_roundw
        case rel => exact ⟨k + 1, by omega, by go_num, by rw [HA.out, HB.out]; have := HS1.out.pick [0, 1, 2] (by decide); simpa [takeR, Nat.add_assoc] using this⟩
        case measure => simp [intOf]; omega
      | true =>
        obtain ⟨pb, v, hok, hst⟩ := rn_flat (HST.out.alloc (.cells #[.bool true, .int .i64 ie.time, .int .i64 ie.key, .int .i64 ie.value, .int .u64 ie.label] 33)) 0 rfl
        obtain ⟨av, opcap, hv, _, _, _, _⟩ := hst.sl Opr.len 6 rfl
        subst hv
        have HOK := Lib.hid hok
        have HC := Lib.hid (advance_st (c := q.c) (rest := [.pointer (some ⟨pb, 0, none⟩), .slice av q.p.ops.length opcap, .int .i64 q.p.size, .int .i64 q.p.slide, .int .i64 q.p.agg, .int .i64 q.p.sink, .int .i64 q.p.feed]) hst.drew (n := 4) rfl ie.time hok.1)
        clear hok hst
        cases hB : advB q.c ie.time with
        | false =>
          have HB0 := Lib.hid hB
          clear hB
          go_wp2_with fail
          refine region_tail 6 (by kernel_rfl) (by kernel_rfl) ?_
          simp only [List.take_succ_cons, List.take_zero, List.drop_succ_cons, List.drop_zero]
          repeat still_step
          refine wpStill_nil ?_
          go_wp2_with (go_at_call 60; (with_reducible refine HC.out.mono ?_); rintro y w1 ⟨rfl, hst1⟩; rw [HB0.out]; have HS1 := Lib.hid hst1; clear hst1)
          go_roundw
          case rel =>
            refine ⟨k + 1, by omega, by go_num, ?_⟩
            have h := (HS1.out.fold 4 [5, 6] (by decide) (by simp)).imp 4 rfl (X' := rnP rb q (N + k + 1)) fun h hh => rnP_mono (by omega) (rn_pack HOK.out h (by rw [advC_false HB0.out] at hh; exact hh))
            have : St w0 w1 [rnP rb q (N + k + 1), R, ownP 43 5 Rw.cells u5 out] := h.pick [4, 1, 2] (by decide)
            rw [HA.out, HB.out, takeR_skip HB0.out, List.append_nil]
            exact this
          case measure => simp [intOf]; omega
        | true =>
          have HB0 := Lib.hid hB
          clear hB
          go_wp2_with fail
          refine region_tail 6 (by kernel_rfl) (by kernel_rfl) ?_
          simp only [List.take_succ_cons, List.take_zero, List.drop_succ_cons, List.drop_zero]
          repeat still_step
          refine wpStill_nil ?_
          go_wp2_with (go_at_call 60; (with_reducible refine HC.out.mono ?_); rintro y w1 ⟨rfl, hst1⟩; rw [HB0.out]; rw [advC_true HB0.out] at hst1; have HS1 := Lib.hid hst1; clear hst1)
          obtain ⟨q1, _⟩ := blkCells (HS1.out.blk 4 rfl).1
          have hrl : rb < w1.heap.size := (HS1.out.blk 4 rfl).2.2
          have e0 := q1 0
          have e1 := q1 1
          have e2 := q1 2
          have e3 := q1 3
          simp [Clk.cells] at e0 e1 e2 e3
          have HM := Lib.hid (mark_at ie.time q.c.late q.c.seen w1.drew)
          have HC2 := Lib.hid (panesClose_st (HS1.out.alloc (.cells #[.int .i64 ie.time, .int .i64 q.c.late, .int .i64 q.c.seen] 67)).drew 5 rfl ie.time (by have := HN.out; omega))
          clear q1
          go_region_held3 (fun w' => w'.cell? ⟨rb, 0, none⟩ = some (.int .i64 ie.time) ∧ w'.cell? ⟨rb, 1, none⟩ = some (.int .i64 q.c.late) ∧ w'.cell? ⟨rb, 2, none⟩ = some (.int .i64 q.c.seen) ∧ w'.cell? ⟨rb, 3, none⟩ = some (.pointer (some ⟨pb, 0, none⟩)))
            (first | exact ⟨k0, k1, k2, k3⟩ | exact ⟨(Below.cell (B := w1.heap.size) (w := w1) (by go_grown) hrl).trans e0, (Below.cell (B := w1.heap.size) (w := w1) (by go_grown) hrl).trans e1, (Below.cell (B := w1.heap.size) (w := w1) (by go_grown) hrl).trans e2, (Below.cell (B := w1.heap.size) (w := w1) (by go_grown) hrl).trans e3⟩)
            (first
              | (go_at_call 62; (with_reducible refine HM.out.mono ?_); rintro y w2 ⟨rfl, rfl⟩)
              | (go_at_call 61; (with_reducible refine HC2.out.mono ?_); rintro y w3 ⟨v3, rfl, hst3⟩; obtain ⟨ad, cap3, rfl, hcap3, hmx3, hnil3, hsl3⟩ := hst3.sl Rw.len 8 rfl; have HS3 := Lib.hid hst3; have HSL3 := Lib.hid hsl3; have HNIL := Lib.hid hnil3; obtain ⟨q3, _⟩ := blkCells (hst3.blk 4 rfl).1; have k0 := q3 0; have k1 := q3 1; have k2 := q3 2; have k3 := q3 3; simp [Clk.cells] at k0 k1 k2 k3; clear hst3 hsl3 hnil3 q3)
              | (refine step_append_st rwElem rfl HS3.out 2 rfl _ _ rfl rfl ad cap3 _ rfl HNIL.out HSL3.out ?_ ?_; (have h1 := part_len q.p.size ie.time q.L; have h2 := HLEN.out; have h3 := HR.out; have h4 := HN.out; simp only [rowsL, List.length_map]; omega); intro v4 w4 hst4 _; have HS4 := Lib.hid hst4; obtain ⟨q4, _⟩ := blkCells (hst4.blk 4 rfl).1; have k0 := q4 0; have k1 := q4 1; have k2 := q4 2; have k3 := q4 3; simp [Clk.cells] at k0 k1 k2 k3; clear hst4 q4))
          go_wp2
          go_roundw
          case rel =>
            refine ⟨k + 1, by omega, by go_num, ?_⟩
            have hok2 : (⟨⟨ie.time, q.c.late, q.c.seen⟩, q.p, keepL q.p.size ie.time q.L⟩ : Rn).ok (N + k) := ⟨by have := Clk.ok_adv HOK.out.1 ie.time; rwa [advC_true HB0.out] at this, HOK.out.2⟩
            have h := (HS4.out.fold 4 [5, 6] (by decide) (by simp)).imp 4 rfl (X' := rnP rb ⟨⟨ie.time, q.c.late, q.c.seen⟩, q.p, keepL q.p.size ie.time q.L⟩ (N + k + 1)) fun h hh => rnP_mono (by omega) (rn_pack hok2 h hh)
            have := h.pick [4, 1, 2] (by decide)
            rw [HA.out, HB.out, takeR_mark HB0.out]
            exact this
          case measure => simp [intOf]; omega
    · obtain rfl : k = l.length := by omega
      rw [List.take_length] at hst
      have HST := Lib.hid hst
      clear hst
      go_wp2
      go_ret
      exact ⟨_, rfl, HEND.out _ _ HST.out⟩
theorem seen_at (m lt sn : Int) (w : World) : Calls Try.prog 29 #[.agg #[.int .i64 m, .int .i64 lt, .int .i64 sn]] w fun e w' => e = .returned (.int .i64 sn) ∧ w' = w.alloc (.cells #[.int .i64 m, .int .i64 lt, .int .i64 sn] 67) := by
  go_enter Try.func29, Try.ntmps29
  go_wp2
  go_ret
  exact ⟨rfl, rfl⟩
theorem set_same {L : List HP} {n : Nat} {X : HP} (hn : L[n]? = some X) : L.set n X = L := by
  refine List.ext_getElem? fun i => ?_
  rw [List.getElem?_set]
  split
  · rename_i e
    subst e
    rw [if_pos (List.getElem?_eq_some_iff.1 hn).1, hn]
  · rfl
theorem Clk.ok_zero : (⟨0, 0, 0⟩ : Clk).ok 0 := by unfold Clk.ok; decide
/-- A runner's block, and what its panes' calls answer. -/
theorem rn_see {w0 w : World} {L : List HP} {rb N : Nat} {r : Rn} (h : St w0 w L) (n : Nat) (hn : L[n]? = some (rnP rb r N)) (hN : N < 2 ^ 30) : ∃ (pb : Nat) (v : Value), r.ok N ∧ (w.heap[rb]? = some (.cells (r.cells pb v) 70 (0, 0)) ∧ w0.heap.size ≤ rb ∧ rb < w.heap.size) ∧ GoodL r.p.agg r.p.size r.p.slide (8 * N) r.L ∧ SortedL r.L ∧
    (∀ w', St w0 w' [pt rb (.cells (r.cells pb v) 70 (0, 0)), panesP pb r.p.size r.p.slide r.p.agg (8 * N) r.L, ownP 92 2 Opr.cells v r.p.ops, sepL (L.set n emp)] → Calls Try.prog 31 #[.pointer (some ⟨pb, 0, none⟩)] w' fun e w'' => e = .returned (.int .i64 r.L.length) ∧ St w0 w'' L) ∧
    (∀ w', St w0 w' [pt rb (.cells (r.cells pb v) 70 (0, 0)), panesP pb r.p.size r.p.slide r.p.agg (8 * N) r.L, ownP 92 2 Opr.cells v r.p.ops, sepL (L.set n emp)] → Calls Try.prog 30 #[.pointer (some ⟨pb, 0, none⟩)] w' fun e w'' => ∃ v', e = .returned v' ∧ St w0 w'' (L ++ [ownP 43 5 Rw.cells v' (rowsL r.L)])) ∧
    St w0 w [pt rb (.cells (r.cells pb v) 70 (0, 0)), panesP pb r.p.size r.p.slide r.p.agg (8 * N) r.L, ownP 92 2 Opr.cells v r.p.ops, sepL (L.set n emp)] := by
  have hnl := (List.getElem?_eq_some_iff.1 hn).1
  have hLs : L.set n (rnP rb r N) = L := set_same hn
  obtain ⟨pb, v, hok, hst⟩ := rn_open h n hn
  obtain ⟨hG, hS, _⟩ := panesP_good hst 1 rfl
  refine ⟨pb, v, hok, hst.blk 0 rfl, hG, hS, fun w' h' => ?_, fun w' h' => ?_, hst⟩
  · refine (panesLen_st h' 1 rfl).mono ?_
    rintro e w'' ⟨rfl, h2⟩
    have := rn_shut (K := []) hok hnl h2
    rw [List.append_nil, hLs] at this
    exact ⟨rfl, this⟩
  · refine (panesOpen_st h' 1 rfl (by omega)).mono ?_
    rintro e w'' ⟨v', rfl, h2⟩
    have := rn_shut (K := [ownP 43 5 Rw.cells v' (rowsL r.L)]) hok hnl h2
    rw [hLs] at this
    exact ⟨v', rfl, this⟩
theorem rightPp_at (p : Pp) (a : Option Addr) (cap : Nat) (w : World) (hl : SlAt 2 (flat Opr.cells) w a p.ops) (hmx : p.ops.length ≤ maxLen) (b : Bool) (hb : rightPp p = b) {w0 : World} {L : List HP} (h : St w0 w L) :
    Calls Try.prog 33 #[.agg #[.slice a p.ops.length cap, .int .i64 p.size, .int .i64 p.slide, .int .i64 p.agg, .int .i64 p.sink, .int .i64 p.feed]] w fun x w' => x = .returned (.bool b) ∧ St w0 w' L := by
  subst hb
  exact (rightPp_any p a cap w hl hmx).mono fun e w' h' => ⟨h'.1, h.kept h'.2⟩
theorem rnNew_nil {w0 w : World} {L : List HP} (h : St w0 w L) (p : Pp) (a : Option Addr) (cap : Nat) (hl : SlAt 2 (flat Opr.cells) w a p.ops) (hlen : p.ops.length ≤ maxLen) (hr : rightPp p = false) :
    Calls Try.prog 35 #[.agg #[.slice a p.ops.length cap, .int .i64 p.size, .int .i64 p.slide, .int .i64 p.agg, .int .i64 p.sink, .int .i64 p.feed]] w fun x w' => x = .returned (.pointer none) ∧ St w0 w' L := by
  have HS := Lib.hid h
  have HC := Lib.hid (rightPp_at p a cap _ (hl.below (((Below.refl _ w).alloc (Nat.le_refl _) (.cells #[.slice a p.ops.length cap, .int .i64 p.size, .int .i64 p.slide, .int .i64 p.agg, .int .i64 p.sink, .int .i64 p.feed] 26))) (fun _ _ h => h)) hlen false hr (h.alloc _))
  clear h hl hr hlen
  go_enter Try.func35, Try.ntmps35
  go_wp2_with (go_at_call 33; (with_reducible refine HC.out.mono ?_); rintro y w1 ⟨rfl, hst1⟩; have HS1 := Lib.hid hst1; clear hst1)
  go_ret
  exact ⟨rfl, HS1.out.cut⟩
set_option maxHeartbeats 1000000 in
set_option maxRecDepth 20000 in
theorem rnNew_st {w0 w : World} {L : List HP} (h : St w0 w L) (p : Pp) (a : Option Addr) (cap : Nat) (hl : SlAt 2 (flat Opr.cells) w a p.ops) (hnil : a = none → cap = 0) (hw : ∀ o ∈ p.ops, o.wf) (hlen : p.ops.length ≤ 6) (hr : rightPp p = true) :
    Calls Try.prog 35 #[.agg #[.slice a p.ops.length cap, .int .i64 p.size, .int .i64 p.slide, .int .i64 p.agg, .int .i64 p.sink, .int .i64 p.feed]] w fun x w' => ∃ rb, x = .returned (.pointer (some ⟨rb, 0, none⟩)) ∧ St w0 w' (L ++ [rnP rb ⟨⟨0, 0, 0⟩, p, []⟩ 0]) := by
  have hkd : (Lit.int .i64 p.agg).wf = true := by
    unfold rightPp at hr
    simp only [Bool.and_eq_true] at hr
    have := hr.1.1.2
    unfold rightK at this
    simp at this
    exact WalkArith.wf_i64 (by omega)
  have HS := Lib.hid h
  have HL := Lib.hid hl
  have HNIL := Lib.hid hnil
  have HW := Lib.hid hw
  have hmx : p.ops.length ≤ maxLen := by unfold maxLen; omega
  have hst0 := h.wrap.alloc (.cells #[.slice a p.ops.length cap, .int .i64 p.size, .int .i64 p.slide, .int .i64 p.agg, .int .i64 p.sink, .int .i64 p.feed] 26)
  have hl0 := hl.below (((Below.refl _ w).alloc (Nat.le_refl _) (.cells #[.slice a p.ops.length cap, .int .i64 p.size, .int .i64 p.slide, .int .i64 p.agg, .int .i64 p.sink, .int .i64 p.feed] 26))) (fun _ _ h => h)
  have HC := Lib.hid (rightPp_any p a cap _ hl0 hmx)
  have HST0 := Lib.hid hst0
  have HL0 := Lib.hid hl0
  have HRR := Lib.hid hr
  clear h hl hr hmx hnil hw hst0 hl0
  go_enter Try.func35, Try.ntmps35
  go_wp2_with (first
    | (go_at_call 33; (with_reducible refine HC.out.mono ?_); rintro y w1 ⟨rfl, hb1⟩; rw [HRR.out]; have HS1 := Lib.hid (HST0.out.kept hb1); have HL1 := Lib.hid (HL0.out.below hb1 (fun _ _ h => h)); have HC1 := Lib.hid (cloneOp_st HS1.out a cap p.ops HL1.out HNIL.out (by omega)); obtain ⟨q1, z1⟩ := blkCells (HS1.out.blk 1 rfl).1; have hg1 : w.heap.size < w1.heap.size := (HS1.out.blk 1 rfl).2.2; clear hb1)
    | (go_at_call 56; (with_reducible refine HC1.out.mono ?_); rintro y w2 ⟨v, rfl, hst2⟩; obtain ⟨q2, z2⟩ := blkCells (hst2.blk 1 rfl).1; have hg2 : w.heap.size < w2.heap.size := (hst2.blk 1 rfl).2.2; obtain ⟨av, cv, rfl, _, _, _, _⟩ := hst2.sl Opr.len 2 rfl; have HS2 := Lib.hid hst2; clear hst2))
  refine wp_at (HS2.out.set 1 rfl 0 _) ?_
  intro w3 hst3
  clear q1 z1 q2 z2 hg1 hg2 HS1 HS2 HC1 HL1
  obtain ⟨q3, _⟩ := blkCells (hst3.blk 1 rfl).1
  have hg3 : w.heap.size < w3.heap.size := (hst3.blk 1 rfl).2.2
  have e0 := q3 0
  have e1 := q3 1
  have e2 := q3 2
  have e3 := q3 3
  have e4 := q3 4
  have e5 := q3 5
  simp at e0 e1 e2 e3 e4 e5
  have HS3 := Lib.hid hst3
  have HC3 := Lib.hid (panesNew_st p.size p.slide p.agg hkd hst3.drew)
  clear hst3 q3
  go_region_held3 (fun w' => w'.cell? ⟨w.heap.size, 0, none⟩ = some (.slice av p.ops.length cv) ∧ w'.cell? ⟨w.heap.size, 1, none⟩ = some (.int .i64 p.size) ∧ w'.cell? ⟨w.heap.size, 2, none⟩ = some (.int .i64 p.slide) ∧ w'.cell? ⟨w.heap.size, 3, none⟩ = some (.int .i64 p.agg) ∧ w'.cell? ⟨w.heap.size, 4, none⟩ = some (.int .i64 p.sink) ∧ w'.cell? ⟨w.heap.size, 5, none⟩ = some (.int .i64 p.feed))
    (first | exact ⟨k0, k1, k2, k3, k4, k5⟩ | exact ⟨(Below.cell (B := w4.heap.size) (w := w4) (by go_grown) hg4).trans k0, (Below.cell (B := w4.heap.size) (w := w4) (by go_grown) hg4).trans k1, (Below.cell (B := w4.heap.size) (w := w4) (by go_grown) hg4).trans k2, (Below.cell (B := w4.heap.size) (w := w4) (by go_grown) hg4).trans k3, (Below.cell (B := w4.heap.size) (w := w4) (by go_grown) hg4).trans k4, (Below.cell (B := w4.heap.size) (w := w4) (by go_grown) hg4).trans k5⟩ | exact ⟨(Below.cell (B := w3.heap.size) (w := w3) (by go_grown) hg3).trans e0, (Below.cell (B := w3.heap.size) (w := w3) (by go_grown) hg3).trans e1, (Below.cell (B := w3.heap.size) (w := w3) (by go_grown) hg3).trans e2, (Below.cell (B := w3.heap.size) (w := w3) (by go_grown) hg3).trans e3, (Below.cell (B := w3.heap.size) (w := w3) (by go_grown) hg3).trans e4, (Below.cell (B := w3.heap.size) (w := w3) (by go_grown) hg3).trans e5⟩)
    (first
      | (go_at_call 57; (with_reducible refine HC3.out.mono ?_); rintro y w4 ⟨pb, rfl, hst4⟩; obtain ⟨q4, _⟩ := blkCells (hst4.blk 1 rfl).1; have hg4 : w.heap.size < w4.heap.size := (hst4.blk 1 rfl).2.2; have k0 := q4 0; have k1 := q4 1; have k2 := q4 2; have k3 := q4 3; have k4 := q4 4; have k5 := q4 5; simp at k0 k1 k2 k3 k4 k5; have HS4 := Lib.hid hst4; clear hst4 q4))
  go_wp2
  go_ret
  refine ⟨_, rfl, ?_⟩
  have h5 := ((HS4.out.alloc _).fold 4 [3, 2] (by decide) (by simp)).imp 4 rfl (X' := rnP w4.heap.size ⟨⟨0, 0, 0⟩, p, []⟩ 0) fun h hh => rn_pack (pb := pb) (v := .slice av p.ops.length cv) ⟨Clk.ok_zero, HW.out, hlen⟩ h hh
  exact (h5.pick [0, 4] (by decide)).unwrap
set_option maxHeartbeats 1000000 in
set_option maxRecDepth 20000 in
theorem rnTwin_st {w0 w : World} {L : List HP} {rb N : Nat} {r : Rn} (h : St w0 w L) (n : Nat) (hn : L[n]? = some (rnP rb r N)) :
    Calls Try.prog 51 #[.pointer (some ⟨rb, 0, none⟩)] w fun x w' => ∃ tb, x = .returned (.pointer (some ⟨tb, 0, none⟩)) ∧ St w0 w' (L ++ [rnP tb r N]) := by
  have hnl := (List.getElem?_eq_some_iff.1 hn).1
  obtain ⟨pb, v, hok, hst⟩ := rn_open h n hn
  have hend : ∀ (w' : World) (tb : Nat), St w0 w' [pt rb (.cells (r.cells pb v) 70 (0, 0)), panesP pb r.p.size r.p.slide r.p.agg (8 * N) r.L, ownP 92 2 Opr.cells v r.p.ops, sepL (L.set n emp), rnP tb r N] → St w0 w' (L ++ [rnP tb r N]) := fun w' tb h => by
    have := rn_shut (K := [rnP tb r N]) hok hnl h
    rwa [set_same hn] at this
  clear h hn
  generalize sepL (L.set n emp) = R at *
  obtain ⟨hb, _, hlt⟩ := hst.blk 0 rfl
  obtain ⟨av, cap, hv, hcap, hmax, hnil, hops⟩ := hst.sl Opr.len 2 rfl
  subst hv
  have hst1 := hst.alloc (.cells (r.cells pb (.slice av r.p.ops.length cap)) 70)
  have HS := Lib.hid hst1
  have HC := Lib.hid (panesCopy_st hst1 1 rfl)
  have HOK := Lib.hid hok
  have HEND := Lib.hid hend
  have HNIL := Lib.hid hnil
  unfold Rn.cells at hb
  obtain ⟨q, z⟩ := blkCells hb
  have e0 := q 0
  have e1 := q 1
  have e2 := q 2
  have e3 := q 3
  have e4 := q 4
  have e5 := q 5
  have e6 := q 6
  have e7 := q 7
  have e8 := q 8
  have e9 := q 9
  simp at e0 e1 e2 e3 e4 e5 e6 e7 e8 e9
  clear hst hok hend hnl hops hnil hb q z hst1
  dsimp only [Rn.cells] at HC
  go_enter Try.func51, Try.ntmps51
  go_wp2_with (first
    | (go_at_call 69; (with_reducible refine HC.out.mono ?_); rintro y w2 ⟨qb, rfl, hst2⟩; obtain ⟨q2, z2⟩ := blkCells (hst2.blk 4 rfl).1; obtain ⟨p2, _⟩ := blkCells (hst2.blk 0 rfl).1; have hg2 : w.heap.size < w2.heap.size := (hst2.blk 4 rfl).2.2; have hr2 : rb < w2.heap.size := (hst2.blk 0 rfl).2.2; have hne2 := hst2.ne 0 4 rfl rfl (by decide); have HS2 := Lib.hid (hst2.set 4 rfl 3 (.pointer (some ⟨qb, 0, none⟩))); have HC2 := Lib.hid (cloneOp_st HS2.out av cap r.p.ops (HS2.out.slOf Opr.len 2 rfl) HNIL.out (by have := HOK.out.2.2; omega)); have f4 := p2 4; simp at f4; clear hst2 p2)
    | (go_at_call 56; (with_reducible refine HC2.out.mono ?_); rintro y w3 ⟨v3, rfl, hst3⟩; obtain ⟨q3, z3⟩ := blkCells (hst3.blk 4 rfl).1; have hg3 : w.heap.size < w3.heap.size := (hst3.blk 4 rfl).2.2; obtain ⟨a3, c3, rfl, _, _, _, _⟩ := hst3.sl Opr.len 6 rfl; have HS3 := Lib.hid (hst3.set 4 rfl 4 (.slice a3 r.p.ops.length c3)); clear hst3))
  go_ret
  refine ⟨_, rfl, HEND.out _ w.heap.size ?_⟩
  have h5 := (HS3.out.fold 4 [5, 6] (by decide) (by simp)).imp 4 rfl (X' := rnP w.heap.size r N) fun h hh => rn_pack (pb := qb) (v := .slice a3 r.p.ops.length c3) HOK.out h hh
  exact h5.pick [0, 1, 2, 3, 4] (by decide)
end Go.Proofs.Ythegopajkljlmaa
