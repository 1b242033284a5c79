/- The walk of WholeMarks. -/
import Derived.Test.YtjkflblbcodnoaaMarksLaw
import Derived.Test.YtjkflblbcodnoaaWholeRuns
set_option linter.unusedVariables false
namespace Go.Proofs.Ytjkflblbcodnoaa
open Go.RowKit Go.Maps
theorem inputs_time (l : List InQ) : ∀ i ∈ inputsOf l, i.ev.wf ∧ i.ev.time ≤ 160 := by
  intro i hi
  refine ⟨inputs_wf l i hi, ?_⟩
  obtain ⟨q, _, rfl⟩ := List.mem_map.1 hi
  unfold inpOf
  split
  · have := within_range q.time 0 160 (by omega); dsimp only; omega
  · have := within_range q.time 0 120 (by omega); dsimp only; omega
theorem mk_snoc {l : List Inp} {j : Nat} (h : j < l.length) : mkAll (l.take (j + 1)) = mkStep (mkAll (l.take j)) l[j] := by
  unfold mkAll
  rw [List.take_add_one, List.getElem?_eq_getElem h, List.foldl_append]
  rfl
theorem mk_lens : ∀ (l : List Inp) (s : Int × List Inp × List Inp), (l.foldl mkStep s).2.1.length ≤ s.2.1.length + l.length ∧ (l.foldl mkStep s).2.2.length ≤ s.2.2.length + l.length
  | [], s => ⟨Nat.le_refl _, Nat.le_refl _⟩
  | i :: l, s => by
    have h := mk_lens l (mkStep s i)
    have h1 : (mkStep s i).2.1.length ≤ s.2.1.length + 1 ∧ (mkStep s i).2.2.length ≤ s.2.2.length + 1 := by
      unfold mkStep
      split <;> simp
    rw [List.foldl_cons, List.length_cons]
    omega
theorem mk_all_wf (l : List Inp) (hl : ∀ i ∈ l, i.ev.wf ∧ i.ev.time ≤ 160) : (∀ i ∈ (mkAll l).2.1, i.ev.wf) ∧ (∀ i ∈ (mkAll l).2.2, i.ev.wf) ∧ 0 ≤ (mkAll l).1 ∧ (mkAll l).1 ≤ 160 := by
  have h := mk_all (p := ⟨[], 1, 1, 1, 0, 0⟩) (by simp) l (0, [], []) hl (by decide) (by simp) (by simp) (by decide) ⟨rfl, rfl, Int.le_refl _, Int.le_refl _, List.Pairwise.nil, [], rfl, rfl, by simp⟩ rfl
  exact ⟨h.2.2.2.1, h.2.2.2.2.1, h.2.2.2.2.2, h.2.2.1⟩
set_option maxHeartbeats 4000000 in
set_option maxRecDepth 20000 in
theorem WholeMarks_any (w : World) (cs : Array Value) (k : PipeQ) (hk : isPq w cs.toList k) (al : Option Addr) (cap : Nat) (l : List InQ) (hle : l.length ≤ cap) (hmx : cap ≤ maxLen) (hnil : al = none → cap = 0) (hl : SlAt 4 isIq w al l) :
    Calls Try.prog 11 #[.agg cs, .slice al l.length cap] w fun e w' => e = .returned (.bool true) ∧ Below w.heap.size w w' := by
  obtain ⟨ao, co, an, cn, hcs, hso, hsn, hkw⟩ := hk
  obtain rfl : cs = #[.slice ao k.ops.length co, .slice an k.ns.length cn, .int .i64 k.size, .int .i64 k.slide, .int .i64 k.agg, .int .i64 k.sink, .int .i64 k.feed] := by
    obtain ⟨cl⟩ := cs
    dsimp only at hcs
    rw [hcs]
  clear hcs
  obtain ⟨hli, hlw⟩ := hl.iq
  have hlm : l.length ≤ maxLen := by omega
  obtain ⟨hpr, hpo, hpl, hps1, hps2, hps3, hps4⟩ := pipeOf_right k
  have HPR := Lib.hid hpr
  have HPO := Lib.hid hpo
  have HLI := Lib.hid hli
  have HLW := Lib.hid hlw
  have hst0 := (St.start w).alloc (.cells #[.slice ao k.ops.length co, .slice an k.ns.length cn, .int .i64 k.size, .int .i64 k.slide, .int .i64 k.agg, .int .i64 k.sink, .int .i64 k.feed] 69)
  have HC0 := Lib.hid (pipe_st hst0 k hkw ao an co cn (Seen.old hso) (Seen.old hsn))
  clear hst0 hli hlw hl hso hsn hkw hle hnil hpr hpo
  unfold maxLen at hmx
  generalize pipeOf k = p at *
  go_enter Try.func11, Try.ntmps11
  go_upto_block 0 with (first
    | (go_at_call 36; (with_reducible refine HC0.out.mono ?_); rintro e w1 ⟨pa, pc, rfl, hpn, hst1⟩; have HPN := Lib.hid hpn; have HS1 := Lib.hid (hst1.alloc (.cells #[.slice pa p.ops.length pc, .int .i64 p.size, .int .i64 p.slide, .int .i64 p.agg, .int .i64 p.sink, .int .i64 p.feed] 57)); have HCI := Lib.hid (inputs_st HS1.out al cap l (Seen.old HLI.out) HLW.out hlm); clear HC0 hst1 hpn)
    | (go_at_call 37; (with_reducible refine HCI.out.mono ?_); rintro e w5 ⟨vi, rfl, hst5⟩; obtain ⟨ia, ic, rfl, hic, him, hin, _⟩ := hst5.sl Inp.len 3 rfl; have HS5 := Lib.hid hst5; clear hst5 HCI))
  have hil := inputs_len l
  have HIT := Lib.hid (inputs_time l)
  generalize inputsOf l = ins at *
  generalize w1.heap.size = g at *
  have HS6 := Lib.hid ((HS5.out.nil 64 5 Inp.cells).nil 64 5 Inp.cells)
  have HIN := Lib.hid hin
  clear hin
  go_cut [6, 7, 8] from 19 to 47 (fun ul um up wx => ∃ (mv pv : Value), um = mv ∧ up = pv ∧ St w wx [pt w.heap.size (.cells #[.slice ao k.ops.length co, .slice an k.ns.length cn, .int .i64 k.size, .int .i64 k.slide, .int .i64 k.agg, .int .i64 k.sink, .int .i64 k.feed] 69 (0, 0)), ownP 54 2 Opr.cells (.slice pa p.ops.length pc) p.ops, pt g (.cells #[.slice pa p.ops.length pc, .int .i64 p.size, .int .i64 p.slide, .int .i64 p.agg, .int .i64 p.sink, .int .i64 p.feed] 57 (0, 0)), ownP 64 5 Inp.cells (.slice ia ins.length ic) ins, ownP 64 5 Inp.cells mv ((mkAll ins).2.1), ownP 64 5 Inp.cells pv ((mkAll ins).2.2)])
  case first =>
    go_wp2_with fail
    go_loopw [6, 7, 8, 19] (fun lv mv pv iv wr => ∃ j : Nat, j ≤ ins.length ∧ iv = .int .i64 j ∧ lv = .int .i64 (mkAll (ins.take j)).1 ∧ St w wr [pt w.heap.size (.cells #[.slice ao k.ops.length co, .slice an k.ns.length cn, .int .i64 k.size, .int .i64 k.slide, .int .i64 k.agg, .int .i64 k.sink, .int .i64 k.feed] 69 (0, 0)), ownP 54 2 Opr.cells (.slice pa p.ops.length pc) p.ops, pt g (.cells #[.slice pa p.ops.length pc, .int .i64 p.size, .int .i64 p.slide, .int .i64 p.agg, .int .i64 p.sink, .int .i64 p.feed] 57 (0, 0)), ownP 64 5 Inp.cells (.slice ia ins.length ic) ins, ownP 64 5 Inp.cells mv ((mkAll (ins.take j)).2.1), ownP 64 5 Inp.cells pv ((mkAll (ins.take j)).2.2)]) (fun _ _ _ iv _ => ins.length - (intOf iv).toNat)
    case atStart => exact ⟨0, by omega, rfl, rfl, HS6.out⟩
    case round =>
      obtain ⟨j, hj, rfl, rfl, hst⟩ := hrel
      by_cases hlt : (j : Int) < ins.length
      · have hjn : j < ins.length := by omega
        obtain ⟨b, o, rfl, hbl, c0, c1, c2, c3, c4⟩ := (hst.slOf Inp.len 3 rfl).inAt j hjn
        have hsn := mk_snoc hjn
        have hlen := mk_lens (ins.take j) (0, [], [])
        have hlen' : (mkAll (ins.take j)).2.1.length ≤ 25 ∧ (mkAll (ins.take j)).2.2.length ≤ 25 := by
          have := List.length_take_le j ins
          have h1 : (mkAll (ins.take j)).2.1.length ≤ 0 + (ins.take j).length := hlen.1
          have h2 : (mkAll (ins.take j)).2.2.length ≤ 0 + (ins.take j).length := hlen.2
          omega
        have hbt := (mk_all_wf (ins.take j) (fun i hi => HIT.out i (List.mem_of_mem_take hi))).2.2
        have hit := HIT.out _ (List.getElem_mem hjn)
        clear hlen
        rw [List.getElem?_eq_getElem hjn] at c0 c1 c2 c3 c4
        simp only [Option.getD_some] at c0 c1 c2 c3 c4
        generalize ins[j] = i at *
        generalize mkAll (ins.take j) = s at *
        obtain ⟨t, ml, pl⟩ := s
        obtain ⟨im, ie⟩ := i
        dsimp only at c0 c1 c2 c3 c4 hlen' hbt hit hst
        have hl1 : ml.length < 1099511627776 := by omega
        have hl2 : pl.length < 1099511627776 := by omega
        have hie := i64_range hit.1.1
        have HL1 := Lib.hid hl1
        have HL2 := Lib.hid hl2
        have HSN := Lib.hid hsn
        have HST := Lib.hid hst
        clear hl1 hl2 hsn hst hlen' hit
        cases im with
        | true =>
          have HP1 := Lib.hid ((HST.out.alloc (.cells #[.bool true, .int .i64 ie.time, .int .i64 ie.key, .int .i64 ie.value, .int .u64 ie.label] 64)).alloc (.cells #[.bool true, .int .i64 t, .int .i64 0, .int .i64 0, .int .u64 0] 64))
          go_wp2_with (at_builtin; refine wpList_push_st inpElem rfl HP1.out 4 rfl _ _ rfl rfl _ (⟨true, ⟨t, 0, 0, 0⟩⟩ : Inp) rfl (new_at _ _ _ (by simp)) HL1.out ?_; intro v7 w7 hst7 _; have HPA := Lib.hid hst7; clear hst7)
          go_roundw
          case rel => exact ⟨j + 1, by omega, by go_num, by rw [HSN.out]; rfl, by rw [HSN.out]; exact HPA.out.pick [0, 1, 2, 3, 4, 5] (by decide)⟩
          case measure => simp [intOf]; omega
        | false =>
          have hev : mkStep (t, ml, pl) ⟨false, ie⟩ = (max t ie.time, ml ++ [⟨false, ⟨max t ie.time, ie.key, ie.value, ie.label⟩⟩], pl ++ [⟨false, ⟨max t ie.time, ie.key, ie.value, ie.label⟩⟩]) := rfl
          have hsn := HSN.out
          rw [hev] at hsn
          go_wp2_with fail
          generalize max t ie.time = M at *
          have HSN2 := Lib.hid hsn
          clear hev hsn
          refine wp_at (HST.out.alloc (.cells #[.bool false, .int .i64 M, .int .i64 ie.key, .int .i64 ie.value, .int .u64 ie.label] 64)) ?_
          intro w6 hst6
          generalize wr.heap.size = gi at *
          obtain ⟨q6, _⟩ := blkCells (hst6.blk 6 rfl).1
          have hl6 : gi < w6.heap.size := (hst6.blk 6 rfl).2.2
          have e0 := q6 0
          have e1 := q6 1
          have e2 := q6 2
          have e3 := q6 3
          have e4 := q6 4
          simp at e0 e1 e2 e3 e4
          have h3 := ((hst6.alloc (.cells #[.bool false, .int .i64 M, .int .i64 ie.key, .int .i64 ie.value, .int .u64 ie.label] 64)).alloc (.cells #[.bool false, .int .i64 M, .int .i64 ie.key, .int .i64 ie.value, .int .u64 ie.label] 64)).drew
          rw [World.size_alloc] at h3
          have H3 := Lib.hid h3
          have HS1 := Lib.hid hst6
          clear hst6 q6 h3 HST
          go_region_held3 (fun w' => w'.cell? ⟨gi, 0, none⟩ = some (.bool false) ∧ w'.cell? ⟨gi, 1, none⟩ = some (.int .i64 M) ∧ w'.cell? ⟨gi, 2, none⟩ = some (.int .i64 ie.key) ∧ w'.cell? ⟨gi, 3, none⟩ = some (.int .i64 ie.value) ∧ w'.cell? ⟨gi, 4, none⟩ = some (.int .u64 ie.label))
            (first | exact ⟨k0, k1, k2, k3, k4⟩ | exact ⟨(Below.cell (B := w7.heap.size) (w := w7) (by go_grown) hl9).trans k0, (Below.cell (B := w7.heap.size) (w := w7) (by go_grown) hl9).trans k1, (Below.cell (B := w7.heap.size) (w := w7) (by go_grown) hl9).trans k2, (Below.cell (B := w7.heap.size) (w := w7) (by go_grown) hl9).trans k3, (Below.cell (B := w7.heap.size) (w := w7) (by go_grown) hl9).trans k4⟩ | exact ⟨(Below.cell (B := w6.heap.size) (w := w6) (by go_grown) hl6).trans e0, (Below.cell (B := w6.heap.size) (w := w6) (by go_grown) hl6).trans e1, (Below.cell (B := w6.heap.size) (w := w6) (by go_grown) hl6).trans e2, (Below.cell (B := w6.heap.size) (w := w6) (by go_grown) hl6).trans e3, (Below.cell (B := w6.heap.size) (w := w6) (by go_grown) hl6).trans e4⟩)
            (first
              | (refine step_append_st inpElem rfl (HA.out.alloc (.cells #[.bool false, .int .i64 M, .int .i64 ie.key, .int .i64 ie.value, .int .u64 ie.label] 64)) 5 rfl _ _ rfl rfl (some ⟨w7.heap.size, 0, none⟩) 1 [(⟨false, ⟨M, ie.key, ie.value, ie.label⟩⟩ : Inp)] rfl (by simp) (SlAt.one Inp.len (new_at _ _ _ rfl)) ?_ ?_; (have := HL2.out; show _ + 1 ≤ _; omega); intro v7 w7 hst7 _; obtain ⟨q9, _⟩ := blkCells (hst7.blk 6 rfl).1; have hl9 := (hst7.blk 6 rfl).2.2; have k0 := q9 0; have k1 := q9 1; have k2 := q9 2; have k3 := q9 3; have k4 := q9 4; simp at k0 k1 k2 k3 k4; clear q9; have HZ := Lib.hid hst7; clear hst7)
              | (refine step_append_st inpElem rfl HB.out 5 rfl _ _ rfl rfl (some ⟨w6.heap.size + 1, 0, none⟩) 1 [(⟨false, ⟨M, ie.key, ie.value, ie.label⟩⟩ : Inp)] rfl (by simp) (SlAt.one Inp.len (HB.out.blk 8 rfl).1) ?_ ?_; (have := HL2.out; show _ + 1 ≤ _; omega); intro v7 w7 hst7 _; obtain ⟨q9, _⟩ := blkCells (hst7.blk 6 rfl).1; have hl9 := (hst7.blk 6 rfl).2.2; have k0 := q9 0; have k1 := q9 1; have k2 := q9 2; have k3 := q9 3; have k4 := q9 4; simp at k0 k1 k2 k3 k4; clear q9; have HZ := Lib.hid hst7; clear hst7)
              | (refine step_append_st inpElem rfl HB.out 5 rfl _ _ rfl rfl (some ⟨w6.heap.size, 0, none⟩) 1 [(⟨false, ⟨M, ie.key, ie.value, ie.label⟩⟩ : Inp)] rfl (by simp) (SlAt.one Inp.len (HB.out.blk 7 rfl).1) ?_ ?_; (have := HL2.out; show _ + 1 ≤ _; omega); intro v7 w7 hst7 _; obtain ⟨q9, _⟩ := blkCells (hst7.blk 6 rfl).1; have hl9 := (hst7.blk 6 rfl).2.2; have k0 := q9 0; have k1 := q9 1; have k2 := q9 2; have k3 := q9 3; have k4 := q9 4; simp at k0 k1 k2 k3 k4; clear q9; have HZ := Lib.hid hst7; clear hst7)
              | (refine step_append_st inpElem rfl (HS1.out.alloc (.cells #[.bool false, .int .i64 M, .int .i64 ie.key, .int .i64 ie.value, .int .u64 ie.label] 64)).drew 4 rfl _ _ rfl rfl (some ⟨w6.heap.size, 0, none⟩) 1 [(⟨false, ⟨M, ie.key, ie.value, ie.label⟩⟩ : Inp)] rfl (by simp) (SlAt.one Inp.len (new_drew _ _ _ rfl)) ?_ ?_; (have := HL1.out; show _ + 1 ≤ _; omega); intro v7 w7 hst7 _; obtain ⟨q9, _⟩ := blkCells (hst7.blk 6 rfl).1; have hl9 := (hst7.blk 6 rfl).2.2; have k0 := q9 0; have k1 := q9 1; have k2 := q9 2; have k3 := q9 3; have k4 := q9 4; simp at k0 k1 k2 k3 k4; clear q9; have HA := Lib.hid hst7; clear hst7)
              | (refine step_append_st inpElem rfl H3.out 4 rfl _ _ rfl rfl (some ⟨w6.heap.size, 0, none⟩) 1 [(⟨false, ⟨M, ie.key, ie.value, ie.label⟩⟩ : Inp)] rfl (by simp) (SlAt.one Inp.len (H3.out.blk 7 rfl).1) ?_ ?_; (have := HL1.out; show _ + 1 ≤ _; omega); intro v7 w7 hst7 _; obtain ⟨q9, _⟩ := blkCells (hst7.blk 6 rfl).1; have hl9 := (hst7.blk 6 rfl).2.2; have k0 := q9 0; have k1 := q9 1; have k2 := q9 2; have k3 := q9 3; have k4 := q9 4; simp at k0 k1 k2 k3 k4; clear q9; have HB := Lib.hid hst7; clear hst7)
              | (refine step_append_st inpElem rfl H3.out 4 rfl _ _ rfl rfl (some ⟨w6.heap.size + 1, 0, none⟩) 1 [(⟨false, ⟨M, ie.key, ie.value, ie.label⟩⟩ : Inp)] rfl (by simp) (SlAt.one Inp.len (H3.out.blk 8 rfl).1) ?_ ?_; (have := HL1.out; show _ + 1 ≤ _; omega); intro v7 w7 hst7 _; obtain ⟨q9, _⟩ := blkCells (hst7.blk 6 rfl).1; have hl9 := (hst7.blk 6 rfl).2.2; have k0 := q9 0; have k1 := q9 1; have k2 := q9 2; have k3 := q9 3; have k4 := q9 4; simp at k0 k1 k2 k3 k4; clear q9; have HB := Lib.hid hst7; clear hst7))
          all_goals
            go_wp2
            go_roundw
            case rel => exact ⟨j + 1, by omega, by go_num, by rw [HSN2.out], by rw [HSN2.out]; exact HZ.out.pick [0, 1, 2, 3, 4, 5] (by decide)⟩
            case measure => simp [intOf]; omega
      · obtain rfl : j = ins.length := by omega
        rw [List.take_length] at hst ⊢
        have HST := Lib.hid hst
        clear hst
        go_wp2
        go_meet
        exact ⟨_, _, rfl, rfl, HST.out⟩
  case rest =>
    obtain ⟨mv, pv, rfl, rfl, hst8⟩ := hcut
    have hml := mk_law HPO.out HIT.out
    have hlen := mk_lens ins (0, [], [])
    have hlen1 : (mkAll ins).2.1.length ≤ 25 := by have h1 : (mkAll ins).2.1.length ≤ 0 + ins.length := hlen.1; omega
    have hlen2 : (mkAll ins).2.2.length ≤ 25 := by have h1 : (mkAll ins).2.2.length ≤ 0 + ins.length := hlen.2; omega
    have hwf := mk_all_wf ins HIT.out
    have hw1 : ∀ i ∈ (mkAll ins).2.1 ++ [endI], i.ev.wf := by
      intro i hi
      rcases List.mem_append.1 hi with h | h
      · exact hwf.1 i h
      · simp at h; subst h; exact mark1000_wf
    have hw2 : ∀ i ∈ (mkAll ins).2.2 ++ [endI], i.ev.wf := by
      intro i hi
      rcases List.mem_append.1 hi with h | h
      · exact hwf.2.1 i h
      · simp at h; subst h; exact mark1000_wf
    have HML := Lib.hid hml
    have HW1 := Lib.hid hw1
    have HW2 := Lib.hid hw2
    clear hml hlen hwf hw1 hw2
    generalize (mkAll ins).2.1 = ml at *
    generalize (mkAll ins).2.2 = pl at *
    have hmb : (ml ++ [endI]).length ≤ 26 := by simp; omega
    have hpb : (pl ++ [endI]).length ≤ 26 := by simp; omega
    have hel1 : (ml ++ [endI]).length < 2 ^ 29 := by simp; omega
    have hel2 : (pl ++ [endI]).length < 2 ^ 29 := by simp; omega
    have hrl : (wholeRows p (ml ++ [endI])).length ≤ 1000 := by
      have h1 := rowsR_len (newR p) (ml ++ [endI])
      have h0 : (newR p).L.length = 0 := rfl
      have h2 : (ml ++ [endI]).length ≤ 26 := by simp; omega
      show (rowsR (newR p) (ml ++ [endI])).length ≤ 1000
      omega
    obtain ⟨ML, hML⟩ : ∃ x, x = ml ++ [endI] := ⟨_, rfl⟩
    obtain ⟨PL2, hPL⟩ : ∃ x, x = pl ++ [endI] := ⟨_, rfl⟩
    rw [← hML] at HML HW1 hel1 hrl hmb
    rw [← hPL] at HML HW2 hel2 hpb
    have HMLE := Lib.hid hML
    have HPLE := Lib.hid hPL
    clear hML hPL
    go_wp2_with fail
    refine wp_at (hst8.alloc (.cells #[.bool true, .int .i64 1000, .int .i64 0, .int .i64 0, .int .u64 0] 64)) ?_
    intro w6 hst6
    generalize wc.heap.size = ge at *
    obtain ⟨qp, _⟩ := blkCells (hst6.blk 2 rfl).1; have hlp := (hst6.blk 2 rfl).2.2; obtain ⟨qe, _⟩ := blkCells (hst6.blk 6 rfl).1; have hle := (hst6.blk 6 rfl).2.2; have e0 := qp 0; have e1 := qp 1; have e2 := qp 2; have e3 := qp 3; have e4 := qp 4; have e5 := qp 5; have e6 := qe 0; have e7 := qe 1; have e8 := qe 2; have e9 := qe 3; have e10 := qe 4; simp at e0 e1 e2 e3 e4 e5 e6 e7 e8 e9 e10; clear qp qe
    have hlp6 := hlp
    have hle6 := hle
    have h3 := ((hst6.alloc (.cells #[.bool true, .int .i64 1000, .int .i64 0, .int .i64 0, .int .u64 0] 64)).alloc (.cells #[.bool true, .int .i64 1000, .int .i64 0, .int .i64 0, .int .u64 0] 64)).drew
    rw [World.size_alloc] at h3
    have H3 := Lib.hid h3
    have HS1 := Lib.hid hst6
    have HEL1 := Lib.hid hel1
    have HEL2 := Lib.hid hel2
    clear hst6 hst8 h3 HS6 HS5 hel1 hel2
    go_region_held3 (fun w' => w'.cell? ⟨g, 0, none⟩ = some (.slice pa p.ops.length pc) ∧ w'.cell? ⟨g, 1, none⟩ = some (.int .i64 p.size) ∧ w'.cell? ⟨g, 2, none⟩ = some (.int .i64 p.slide) ∧ w'.cell? ⟨g, 3, none⟩ = some (.int .i64 p.agg) ∧ w'.cell? ⟨g, 4, none⟩ = some (.int .i64 p.sink) ∧ w'.cell? ⟨g, 5, none⟩ = some (.int .i64 p.feed) ∧ w'.cell? ⟨ge, 0, none⟩ = some (.bool true) ∧ w'.cell? ⟨ge, 1, none⟩ = some (.int .i64 1000) ∧ w'.cell? ⟨ge, 2, none⟩ = some (.int .i64 0) ∧ w'.cell? ⟨ge, 3, none⟩ = some (.int .i64 0) ∧ w'.cell? ⟨ge, 4, none⟩ = some (.int .u64 0))
      (first | exact ⟨k0, k1, k2, k3, k4, k5, k6, k7, k8, k9, k10⟩ | exact ⟨(Below.cell (B := w8.heap.size) (w := w8) (by go_grown) hlp).trans k0, (Below.cell (B := w8.heap.size) (w := w8) (by go_grown) hlp).trans k1, (Below.cell (B := w8.heap.size) (w := w8) (by go_grown) hlp).trans k2, (Below.cell (B := w8.heap.size) (w := w8) (by go_grown) hlp).trans k3, (Below.cell (B := w8.heap.size) (w := w8) (by go_grown) hlp).trans k4, (Below.cell (B := w8.heap.size) (w := w8) (by go_grown) hlp).trans k5, (Below.cell (B := w8.heap.size) (w := w8) (by go_grown) hle).trans k6, (Below.cell (B := w8.heap.size) (w := w8) (by go_grown) hle).trans k7, (Below.cell (B := w8.heap.size) (w := w8) (by go_grown) hle).trans k8, (Below.cell (B := w8.heap.size) (w := w8) (by go_grown) hle).trans k9, (Below.cell (B := w8.heap.size) (w := w8) (by go_grown) hle).trans k10⟩ | exact ⟨(Below.cell (B := w7.heap.size) (w := w7) (by go_grown) hlp).trans k0, (Below.cell (B := w7.heap.size) (w := w7) (by go_grown) hlp).trans k1, (Below.cell (B := w7.heap.size) (w := w7) (by go_grown) hlp).trans k2, (Below.cell (B := w7.heap.size) (w := w7) (by go_grown) hlp).trans k3, (Below.cell (B := w7.heap.size) (w := w7) (by go_grown) hlp).trans k4, (Below.cell (B := w7.heap.size) (w := w7) (by go_grown) hlp).trans k5, (Below.cell (B := w7.heap.size) (w := w7) (by go_grown) hle).trans k6, (Below.cell (B := w7.heap.size) (w := w7) (by go_grown) hle).trans k7, (Below.cell (B := w7.heap.size) (w := w7) (by go_grown) hle).trans k8, (Below.cell (B := w7.heap.size) (w := w7) (by go_grown) hle).trans k9, (Below.cell (B := w7.heap.size) (w := w7) (by go_grown) hle).trans k10⟩ | exact ⟨(Below.cell (B := w6.heap.size) (w := w6) (by go_grown) hlp6).trans e0, (Below.cell (B := w6.heap.size) (w := w6) (by go_grown) hlp6).trans e1, (Below.cell (B := w6.heap.size) (w := w6) (by go_grown) hlp6).trans e2, (Below.cell (B := w6.heap.size) (w := w6) (by go_grown) hlp6).trans e3, (Below.cell (B := w6.heap.size) (w := w6) (by go_grown) hlp6).trans e4, (Below.cell (B := w6.heap.size) (w := w6) (by go_grown) hlp6).trans e5, (Below.cell (B := w6.heap.size) (w := w6) (by go_grown) hle6).trans e6, (Below.cell (B := w6.heap.size) (w := w6) (by go_grown) hle6).trans e7, (Below.cell (B := w6.heap.size) (w := w6) (by go_grown) hle6).trans e8, (Below.cell (B := w6.heap.size) (w := w6) (by go_grown) hle6).trans e9, (Below.cell (B := w6.heap.size) (w := w6) (by go_grown) hle6).trans e10⟩)
      (first
        | (refine step_append_st inpElem rfl (HRA.out.alloc (.cells #[.bool true, .int .i64 1000, .int .i64 0, .int .i64 0, .int .u64 0] 64)) 5 rfl _ _ rfl rfl (some ⟨w8.heap.size, 0, none⟩) 1 [endI] rfl (by simp) (SlAt.one Inp.len (new_at _ _ _ rfl)) ?_ ?_; (show _ + 1 ≤ _; omega); intro v7 w7 hst7 _; rw [← HPLE.out] at hst7; obtain ⟨qp, _⟩ := blkCells (hst7.blk 2 rfl).1; have hlp := (hst7.blk 2 rfl).2.2; obtain ⟨qe, _⟩ := blkCells (hst7.blk 6 rfl).1; have hle := (hst7.blk 6 rfl).2.2; have k0 := qp 0; have k1 := qp 1; have k2 := qp 2; have k3 := qp 3; have k4 := qp 4; have k5 := qp 5; have k6 := qe 0; have k7 := qe 1; have k8 := qe 2; have k9 := qe 3; have k10 := qe 4; simp at k0 k1 k2 k3 k4 k5 k6 k7 k8 k9 k10; clear qp qe; obtain ⟨ma, mc, rfl, _, _, hmn, _⟩ := hst7.sl Inp.len 5 rfl; have HC61 := Lib.hid (rows_st hst7 p pa pc (hst7.slOf Opr.len 1 rfl) HPN.out HPO.out (by omega) HPR.out ma mc PL2 (Seen.own Inp.len 5 rfl) HW2.out HEL2.out); have HP60 := Lib.hid hst7; clear hst7 hmn)
        | (refine step_append_st inpElem rfl HRB.out 5 rfl _ _ rfl rfl (some ⟨_, 0, none⟩) 1 [endI] rfl (by simp) (SlAt.one Inp.len (HRB.out.blk 8 rfl).1) ?_ ?_; (show _ + 1 ≤ _; omega); intro v7 w7 hst7 _; rw [← HPLE.out] at hst7; obtain ⟨qp, _⟩ := blkCells (hst7.blk 2 rfl).1; have hlp := (hst7.blk 2 rfl).2.2; obtain ⟨qe, _⟩ := blkCells (hst7.blk 6 rfl).1; have hle := (hst7.blk 6 rfl).2.2; have k0 := qp 0; have k1 := qp 1; have k2 := qp 2; have k3 := qp 3; have k4 := qp 4; have k5 := qp 5; have k6 := qe 0; have k7 := qe 1; have k8 := qe 2; have k9 := qe 3; have k10 := qe 4; simp at k0 k1 k2 k3 k4 k5 k6 k7 k8 k9 k10; clear qp qe; obtain ⟨ma, mc, rfl, _, _, hmn, _⟩ := hst7.sl Inp.len 5 rfl; have HC61 := Lib.hid (rows_st hst7 p pa pc (hst7.slOf Opr.len 1 rfl) HPN.out HPO.out (by omega) HPR.out ma mc PL2 (Seen.own Inp.len 5 rfl) HW2.out HEL2.out); have HP60 := Lib.hid hst7; clear hst7 hmn)
        | (refine step_append_st inpElem rfl (HS1.out.alloc (.cells #[.bool true, .int .i64 1000, .int .i64 0, .int .i64 0, .int .u64 0] 64)).drew 4 rfl _ _ rfl rfl (some ⟨w6.heap.size, 0, none⟩) 1 [endI] rfl (by simp) (SlAt.one Inp.len (new_drew _ _ _ rfl)) ?_ ?_; (show _ + 1 ≤ _; omega); intro v7 w7 hst7 _; rw [← HMLE.out] at hst7; obtain ⟨qp, _⟩ := blkCells (hst7.blk 2 rfl).1; have hlp := (hst7.blk 2 rfl).2.2; obtain ⟨qe, _⟩ := blkCells (hst7.blk 6 rfl).1; have hle := (hst7.blk 6 rfl).2.2; have k0 := qp 0; have k1 := qp 1; have k2 := qp 2; have k3 := qp 3; have k4 := qp 4; have k5 := qp 5; have k6 := qe 0; have k7 := qe 1; have k8 := qe 2; have k9 := qe 3; have k10 := qe 4; simp at k0 k1 k2 k3 k4 k5 k6 k7 k8 k9 k10; clear qp qe; obtain ⟨ma, mc, rfl, _, _, hmn, _⟩ := hst7.sl Inp.len 4 rfl; have HC55 := Lib.hid (rows_st hst7 p pa pc (hst7.slOf Opr.len 1 rfl) HPN.out HPO.out (by omega) HPR.out ma mc ML (Seen.own Inp.len 4 rfl) HW1.out HEL1.out); have HC55B := Lib.hid (rows_st (hst7.alloc (.cells #[.bool true, .int .i64 1000, .int .i64 0, .int .i64 0, .int .u64 0] 64)) p pa pc ((hst7.alloc (.cells #[.bool true, .int .i64 1000, .int .i64 0, .int .i64 0, .int .u64 0] 64)).slOf Opr.len 1 rfl) HPN.out HPO.out (by omega) HPR.out ma mc ML (Seen.own Inp.len 4 rfl) HW1.out HEL1.out); have HA := Lib.hid hst7; clear hst7 hmn)
        | (refine step_append_st inpElem rfl H3.out 4 rfl _ _ rfl rfl (some ⟨w6.heap.size, 0, none⟩) 1 [endI] rfl (by simp) (SlAt.one Inp.len (H3.out.blk 7 rfl).1) ?_ ?_; (show _ + 1 ≤ _; omega); intro v7 w7 hst7 _; rw [← HMLE.out] at hst7; obtain ⟨qp, _⟩ := blkCells (hst7.blk 2 rfl).1; have hlp := (hst7.blk 2 rfl).2.2; obtain ⟨qe, _⟩ := blkCells (hst7.blk 6 rfl).1; have hle := (hst7.blk 6 rfl).2.2; have k0 := qp 0; have k1 := qp 1; have k2 := qp 2; have k3 := qp 3; have k4 := qp 4; have k5 := qp 5; have k6 := qe 0; have k7 := qe 1; have k8 := qe 2; have k9 := qe 3; have k10 := qe 4; simp at k0 k1 k2 k3 k4 k5 k6 k7 k8 k9 k10; clear qp qe; obtain ⟨ma, mc, rfl, _, _, hmn, _⟩ := hst7.sl Inp.len 4 rfl; have HC55C := Lib.hid (rows_st hst7 p pa pc (hst7.slOf Opr.len 1 rfl) HPN.out HPO.out (by omega) HPR.out ma mc ML (Seen.own Inp.len 4 rfl) HW1.out HEL1.out); have HB := Lib.hid hst7; clear hst7 hmn)
        | (refine step_append_st inpElem rfl H3.out 4 rfl _ _ rfl rfl (some ⟨w6.heap.size + 1, 0, none⟩) 1 [endI] rfl (by simp) (SlAt.one Inp.len (H3.out.blk 8 rfl).1) ?_ ?_; (show _ + 1 ≤ _; omega); intro v7 w7 hst7 _; rw [← HMLE.out] at hst7; obtain ⟨qp, _⟩ := blkCells (hst7.blk 2 rfl).1; have hlp := (hst7.blk 2 rfl).2.2; obtain ⟨qe, _⟩ := blkCells (hst7.blk 6 rfl).1; have hle := (hst7.blk 6 rfl).2.2; have k0 := qp 0; have k1 := qp 1; have k2 := qp 2; have k3 := qp 3; have k4 := qp 4; have k5 := qp 5; have k6 := qe 0; have k7 := qe 1; have k8 := qe 2; have k9 := qe 3; have k10 := qe 4; simp at k0 k1 k2 k3 k4 k5 k6 k7 k8 k9 k10; clear qp qe; obtain ⟨ma, mc, rfl, _, _, hmn, _⟩ := hst7.sl Inp.len 4 rfl; have HC55D := Lib.hid (rows_st hst7 p pa pc (hst7.slOf Opr.len 1 rfl) HPN.out HPO.out (by omega) HPR.out ma mc ML (Seen.own Inp.len 4 rfl) HW1.out HEL1.out); have HB := Lib.hid hst7; clear hst7 hmn)
        | (go_at_call 39; (with_reducible refine HC61.out.mono ?_); rintro e w9 ⟨v9, rfl, hst9⟩; obtain ⟨qp, _⟩ := blkCells (hst9.blk 2 rfl).1; have hlp := (hst9.blk 2 rfl).2.2; obtain ⟨qe, _⟩ := blkCells (hst9.blk 6 rfl).1; have hle := (hst9.blk 6 rfl).2.2; have k0 := qp 0; have k1 := qp 1; have k2 := qp 2; have k3 := qp 3; have k4 := qp 4; have k5 := qp 5; have k6 := qe 0; have k7 := qe 1; have k8 := qe 2; have k9 := qe 3; have k10 := qe 4; simp at k0 k1 k2 k3 k4 k5 k6 k7 k8 k9 k10; clear qp qe; obtain ⟨rb, rbc, rfl, _, _, _, _⟩ := hst9.sl Rw.len 9 rfl; have HZ := Lib.hid (sameRw_any hst9 7 9 rfl rfl HML.out.symm (by omega)); clear HC61 hst9)
        | (go_at_call 39; (with_reducible refine HC55.out.mono ?_); rintro e w8 ⟨v8, rfl, hst9⟩; obtain ⟨qp, _⟩ := blkCells (hst9.blk 2 rfl).1; have hlp := (hst9.blk 2 rfl).2.2; obtain ⟨qe, _⟩ := blkCells (hst9.blk 6 rfl).1; have hle := (hst9.blk 6 rfl).2.2; have k0 := qp 0; have k1 := qp 1; have k2 := qp 2; have k3 := qp 3; have k4 := qp 4; have k5 := qp 5; have k6 := qe 0; have k7 := qe 1; have k8 := qe 2; have k9 := qe 3; have k10 := qe 4; simp at k0 k1 k2 k3 k4 k5 k6 k7 k8 k9 k10; clear qp qe; obtain ⟨ra, rc, rfl, _, _, _, _⟩ := hst9.sl Rw.len 8 rfl; have HRA := Lib.hid (hst9.pick [0, 1, 2, 3, 4, 5, 6, 8] (by decide)); clear HC55 hst9)
        | (go_at_call 39; (with_reducible refine HC55B.out.mono ?_); rintro e w8 ⟨v8, rfl, hst9⟩; obtain ⟨qp, _⟩ := blkCells (hst9.blk 2 rfl).1; have hlp := (hst9.blk 2 rfl).2.2; obtain ⟨qe, _⟩ := blkCells (hst9.blk 6 rfl).1; have hle := (hst9.blk 6 rfl).2.2; have k0 := qp 0; have k1 := qp 1; have k2 := qp 2; have k3 := qp 3; have k4 := qp 4; have k5 := qp 5; have k6 := qe 0; have k7 := qe 1; have k8 := qe 2; have k9 := qe 3; have k10 := qe 4; simp at k0 k1 k2 k3 k4 k5 k6 k7 k8 k9 k10; clear qp qe; obtain ⟨ra, rc, rfl, _, _, _, _⟩ := hst9.sl Rw.len 9 rfl; have HRB := Lib.hid (hst9.pick [0, 1, 2, 3, 4, 5, 6, 9, 8] (by decide)); clear HC55B hst9)
        | (go_at_call 39; (with_reducible refine HC55C.out.mono ?_); rintro e w8 ⟨v8, rfl, hst9⟩; obtain ⟨qp, _⟩ := blkCells (hst9.blk 2 rfl).1; have hlp := (hst9.blk 2 rfl).2.2; obtain ⟨qe, _⟩ := blkCells (hst9.blk 6 rfl).1; have hle := (hst9.blk 6 rfl).2.2; have k0 := qp 0; have k1 := qp 1; have k2 := qp 2; have k3 := qp 3; have k4 := qp 4; have k5 := qp 5; have k6 := qe 0; have k7 := qe 1; have k8 := qe 2; have k9 := qe 3; have k10 := qe 4; simp at k0 k1 k2 k3 k4 k5 k6 k7 k8 k9 k10; clear qp qe; obtain ⟨ra, rc, rfl, _, _, _, _⟩ := hst9.sl Rw.len 9 rfl; have HRB := Lib.hid (hst9.pick [0, 1, 2, 3, 4, 5, 6, 9, 8] (by decide)); clear HC55C hst9)
        | (go_at_call 39; (with_reducible refine HC55D.out.mono ?_); rintro e w8 ⟨v8, rfl, hst9⟩; obtain ⟨qp, _⟩ := blkCells (hst9.blk 2 rfl).1; have hlp := (hst9.blk 2 rfl).2.2; obtain ⟨qe, _⟩ := blkCells (hst9.blk 6 rfl).1; have hle := (hst9.blk 6 rfl).2.2; have k0 := qp 0; have k1 := qp 1; have k2 := qp 2; have k3 := qp 3; have k4 := qp 4; have k5 := qp 5; have k6 := qe 0; have k7 := qe 1; have k8 := qe 2; have k9 := qe 3; have k10 := qe 4; simp at k0 k1 k2 k3 k4 k5 k6 k7 k8 k9 k10; clear qp qe; obtain ⟨ra, rc, rfl, _, _, _, _⟩ := hst9.sl Rw.len 9 rfl; have HRB := Lib.hid (hst9.pick [0, 1, 2, 3, 4, 5, 6, 9, 7] (by decide)); clear HC55D hst9))
    all_goals
      go_wp2_with (first
        | (go_at_call 24; (with_reducible refine HZ.out.mono ?_); rintro e w14 ⟨rfl, hst14⟩; have HS17 := Lib.hid hst14; clear HZ hst14)
        | (go_at_call 8; refine (WholeRuns_any _).mono ?_; rintro e w18 ⟨rfl, hb18⟩; have HS18 := Lib.hid (HS17.out.kept hb18); clear hb18))
      go_ret
      exact ⟨rfl, HS18.out.below⟩
end Go.Proofs.Ytjkflblbcodnoaa
