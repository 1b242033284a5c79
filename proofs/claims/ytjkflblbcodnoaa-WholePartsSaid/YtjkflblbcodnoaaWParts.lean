/- The walk of WholeParts. -/
import Derived.Test.YtjkflblbcodnoaaWholeBare
import Derived.Test.YtjkflblbcodnoaaWholeRuns
set_option linter.unusedVariables false
namespace Go.Proofs.Ytjkflblbcodnoaa
open Go.RowKit Go.Maps
set_option maxHeartbeats 4000000 in
set_option maxRecDepth 20000 in
theorem WholeParts_any (w : World) (cs : Array Value) (k : PipeQ) (hk : isPq w cs.toList k) (al : Option Addr) (cap : Nat) (l : List InQ) (hle : l.length ≤ cap) (hmx : cap ≤ maxLen) (hnil : al = none → cap = 0) (hl : SlAt 4 isIq w al l) (key : Int) (hkey : (Lit.int .i64 key).wf = true) :
    Calls Try.prog 12 #[.agg cs, .slice al l.length cap, .int .i64 key] w fun e w' => e = .returned (.bool true) ∧ Below w.heap.size w w' := by
  obtain ⟨ao, co, an, cn, hcs, hso, hsn, hkw⟩ := hk
  obtain rfl : cs = #[.slice ao k.ops.length co, .slice an k.ns.length cn, .int .i64 k.size, .int .i64 k.slide, .int .i64 k.agg, .int .i64 k.sink, .int .i64 k.feed] := by
    obtain ⟨cl⟩ := cs
    dsimp only at hcs
    rw [hcs]
  clear hcs
  obtain ⟨hli, hlw⟩ := hl.iq
  have hrkey := i64_range hkey
  have hlm : l.length ≤ maxLen := by omega
  obtain ⟨hpr, hpo, hpl, hps1, hps2, hps3, hps4⟩ := pipeOf_right k
  have HPR := Lib.hid (bare_right hpr)
  have HPO := Lib.hid hpo
  have HLI := Lib.hid hli
  have HLW := Lib.hid hlw
  have hst0 := (St.start w).alloc (.cells #[.slice ao k.ops.length co, .slice an k.ns.length cn, .int .i64 k.size, .int .i64 k.slide, .int .i64 k.agg, .int .i64 k.sink, .int .i64 k.feed] 69)
  have HC0 := Lib.hid (pipe_st hst0 k hkw ao an co cn (Seen.old hso) (Seen.old hsn))
  clear hst0 hli hlw hl hkey hso hsn hkw hle hnil hpr hpo
  unfold maxLen at hmx
  generalize pipeOf k = p at *
  go_enter Try.func12, Try.ntmps12
  have hkr := within_range key 0 3 (by omega)
  obtain ⟨ins, hins⟩ : ∃ x, x = inputsOf l ++ [endI] := ⟨_, rfl⟩
  have HINS := Lib.hid hins
  clear hins
  go_upto_block 0 with (first
    | (go_at_call 36; (with_reducible refine HC0.out.mono ?_); rintro e w1 ⟨pa, pc, rfl, hpn, hst1⟩; have HPN := Lib.hid hpn; have HS1 := Lib.hid (hst1.alloc (.cells #[.slice none 0 0, .int .i64 p.size, .int .i64 p.slide, .int .i64 p.agg, .int .i64 p.sink, .int .i64 p.feed] 57)); have HCI := Lib.hid (inputs_st HS1.out al cap l (Seen.old HLI.out) HLW.out hlm); clear HC0 hst1 hpn)
    | (go_at_call 16; refine (Within_at _ _ _ _ (by omega) (by omega) (by omega) (by omega) (by omega)).mono ?_; rintro e wz ⟨rfl, rfl⟩)
    | (go_at_call 37; (with_reducible refine HCI.out.mono ?_); rintro e w5 ⟨vi, rfl, hst5⟩; obtain ⟨ja, jc, rfl, _, _, _, _⟩ := hst5.sl Inp.len 3 rfl; have HS5 := Lib.hid hst5; clear hst5 HCI)
    | (at_builtin; refine wpList_push_st inpElem rfl (HS5.out.alloc (.cells #[.bool true, .int .i64 1000, .int .i64 0, .int .i64 0, .int .u64 0] 64)) 3 rfl _ _ rfl rfl _ endI rfl (heap_new _ _) (by have := inputs_len l; omega) ?_; intro v6 w6 hst6 _; rw [← HINS.out] at hst6; obtain ⟨ia, ic, rfl, hic, him, hin, _⟩ := hst6.sl Inp.len 3 rfl; have HS6 := Lib.hid hst6; clear hst6))
  have hil : ins.length ≤ 26 := by rw [HINS.out]; have := inputs_len l; simp; omega
  have hiw : ∀ i ∈ ins, i.ev.wf := by
    rw [HINS.out]
    intro i hi
    rcases List.mem_append.1 hi with h | h
    · exact inputs_wf l i h
    · simp at h; subst h; exact mark1000_wf
  have HIW := Lib.hid hiw
  have HIN := Lib.hid hin
  clear hiw hin
  generalize within key 0 3 = one at *
  generalize w1.heap.size = g at *
  have HS7 := Lib.hid (((HS6.out.pick [0, 1, 2, 3] (by decide)).nil 64 5 Inp.cells).nil 64 5 Inp.cells)
  clear HS5
  go_cut [10, 11] from 31 to 61 (fun uo ua wx => ∃ (av bv : Value), uo = av ∧ ua = bv ∧ St w wx [pt w.heap.size (.cells #[.slice ao k.ops.length co, .slice an k.ns.length cn, .int .i64 k.size, .int .i64 k.slide, .int .i64 k.agg, .int .i64 k.sink, .int .i64 k.feed] 69 (0, 0)), ownP 54 2 Opr.cells (.slice pa p.ops.length pc) p.ops, pt g (.cells #[.slice none 0 0, .int .i64 p.size, .int .i64 p.slide, .int .i64 p.agg, .int .i64 p.sink, .int .i64 p.feed] 57 (0, 0)), ownP 64 5 Inp.cells (.slice ia ins.length ic) ins, ownP 64 5 Inp.cells av (ins.filter (fun i : Inp => i.mark || (i.ev.key == one))), ownP 64 5 Inp.cells bv (ins.filter (fun i : Inp => i.mark || !(i.ev.key == one)))])
  case first =>
    go_wp2_with fail
    go_loopw [10, 11, 31] (fun av bv iv wr => ∃ j : Nat, j ≤ ins.length ∧ iv = .int .i64 j ∧ St w wr [pt w.heap.size (.cells #[.slice ao k.ops.length co, .slice an k.ns.length cn, .int .i64 k.size, .int .i64 k.slide, .int .i64 k.agg, .int .i64 k.sink, .int .i64 k.feed] 69 (0, 0)), ownP 54 2 Opr.cells (.slice pa p.ops.length pc) p.ops, pt g (.cells #[.slice none 0 0, .int .i64 p.size, .int .i64 p.slide, .int .i64 p.agg, .int .i64 p.sink, .int .i64 p.feed] 57 (0, 0)), ownP 64 5 Inp.cells (.slice ia ins.length ic) ins, ownP 64 5 Inp.cells av ((ins.take j).filter (fun i : Inp => i.mark || (i.ev.key == one))), ownP 64 5 Inp.cells bv ((ins.take j).filter (fun i : Inp => i.mark || !(i.ev.key == one)))]) (fun _ _ iv _ => ins.length - (intOf iv).toNat)
    case atStart => exact ⟨0, by omega, rfl, HS7.out⟩
    case round =>
      obtain ⟨j, hj, rfl, hst⟩ := hrel
      by_cases hlt : (j : Int) < ins.length
      · have hjn : j < ins.length := by omega
        obtain ⟨b, o, rfl, hbl, c0, c1, c2, c3, c4⟩ := (hst.slOf Inp.len 3 rfl).inAt j hjn
        have hga := filter_take (fun i : Inp => i.mark || (i.ev.key == one)) hjn
        have hgb := filter_take (fun i : Inp => i.mark || !(i.ev.key == one)) hjn
        have hla : ((ins.take j).filter (fun i : Inp => i.mark || (i.ev.key == one))).length < 1099511627776 := by have := List.length_filter_le (fun i : Inp => i.mark || (i.ev.key == one)) (ins.take j); have := List.length_take_le j ins; omega
        have hlb : ((ins.take j).filter (fun i : Inp => i.mark || !(i.ev.key == one))).length < 1099511627776 := by have := List.length_filter_le (fun i : Inp => i.mark || !(i.ev.key == one)) (ins.take j); have := List.length_take_le j ins; omega
        rw [List.getElem?_eq_getElem hjn] at c0 c1 c2 c3 c4
        simp only [Option.getD_some] at c0 c1 c2 c3 c4
        generalize ins[j] = i at *
        obtain ⟨im, ie⟩ := i
        dsimp only at c0 c1 c2 c3 c4
        have HGA := Lib.hid hga
        have HGB := Lib.hid hgb
        have HLA := Lib.hid hla
        have HLB := Lib.hid hlb
        have HST := Lib.hid hst
        clear hga hgb hla hlb hst
        cases im with
        | true =>
          have fa : (fun i : Inp => i.mark || (i.ev.key == one)) (⟨true, ie⟩ : Inp) = true := by rfl
          have fb : (fun i : Inp => i.mark || !(i.ev.key == one)) (⟨true, ie⟩ : Inp) = true := by rfl
          have ga := HGA.out
          have gb := HGB.out
          rw [if_pos fa] at ga
          rw [if_pos fb] at gb
          have HA2 := Lib.hid ga
          have HB2 := Lib.hid gb
          clear fa fb ga gb
          have HP1 := Lib.hid ((HST.out.alloc (.cells #[.bool true, .int .i64 ie.time, .int .i64 ie.key, .int .i64 ie.value, .int .u64 ie.label] 64)).alloc (.cells #[.bool true, .int .i64 ie.time, .int .i64 ie.key, .int .i64 ie.value, .int .u64 ie.label] 64))
          go_wp2_with (first
            | (at_builtin; refine wpList_push_st inpElem rfl (HPA.out.alloc (.cells #[.bool true, .int .i64 ie.time, .int .i64 ie.key, .int .i64 ie.value, .int .u64 ie.label] 64)) 5 rfl _ _ rfl rfl _ (⟨true, ie⟩ : Inp) rfl (heap_new _ _) HLB.out ?_; intro v8 w8 hst8 _; have HPB := Lib.hid hst8; clear hst8)
            | (at_builtin; refine wpList_push_st inpElem rfl HP1.out 4 rfl _ _ rfl rfl _ (⟨true, ie⟩ : Inp) rfl (new_at _ _ _ (by simp)) HLA.out ?_; intro v7 w7 hst7 _; obtain ⟨q7, _⟩ := blkCells (hst7.blk 6 rfl).1; have hl7 : wr.heap.size < w7.heap.size := (hst7.blk 6 rfl).2.2; have HPA := Lib.hid hst7; clear hst7))
          go_roundw
          case rel => exact ⟨j + 1, by omega, by go_num, by rw [HA2.out, HB2.out]; exact HPB.out.pick [0, 1, 2, 3, 4, 5] (by decide)⟩
          case measure => simp [intOf]; omega
        | false =>
          cases hkk : (ie.key == one) with
          | true =>
            have HKK := Lib.hid hkk
            have fa : (fun i : Inp => i.mark || (i.ev.key == one)) (⟨false, ie⟩ : Inp) = true := by show (ie.key == one) = _; exact HKK.out
            have fb : (fun i : Inp => i.mark || !(i.ev.key == one)) (⟨false, ie⟩ : Inp) = false := by show (!(ie.key == one)) = _; rw [HKK.out]; rfl
            have ga := HGA.out
            have gb := HGB.out
            rw [if_pos fa] at ga
            rw [if_neg (show ¬ (fun i : Inp => i.mark || !(i.ev.key == one)) (⟨false, ie⟩ : Inp) = true by rw [fb]; decide)] at gb
            have HA2 := Lib.hid ga
            have HB2 := Lib.hid gb
            clear fa fb ga gb
            have HP1 := Lib.hid ((HST.out.alloc (.cells #[.bool false, .int .i64 ie.time, .int .i64 ie.key, .int .i64 ie.value, .int .u64 ie.label] 64)).alloc (.cells #[.bool false, .int .i64 ie.time, .int .i64 ie.key, .int .i64 ie.value, .int .u64 ie.label] 64))
            go_wp2_with (first
              | (at_builtin; refine wpList_push_st inpElem rfl HP1.out 4 rfl _ _ rfl rfl _ (⟨false, ie⟩ : Inp) rfl (new_at _ _ _ (by simp)) HLA.out ?_; intro v7 w7 hst7 _; obtain ⟨q7, _⟩ := blkCells (hst7.blk 6 rfl).1; have hl7 : wr.heap.size < w7.heap.size := (hst7.blk 6 rfl).2.2; have HPA := Lib.hid hst7; clear hst7))
            go_roundw
            case rel => exact ⟨j + 1, by omega, by go_num, by rw [HA2.out, HB2.out]; exact HPA.out.pick [0, 1, 2, 3, 4, 5] (by decide)⟩
            case measure => simp [intOf]; omega
          | false =>
            have HKK := Lib.hid hkk
            have fa : (fun i : Inp => i.mark || (i.ev.key == one)) (⟨false, ie⟩ : Inp) = false := by show (ie.key == one) = _; exact HKK.out
            have fb : (fun i : Inp => i.mark || !(i.ev.key == one)) (⟨false, ie⟩ : Inp) = true := by show (!(ie.key == one)) = _; rw [HKK.out]; rfl
            have ga := HGA.out
            have gb := HGB.out
            rw [if_neg (show ¬ (fun i : Inp => i.mark || (i.ev.key == one)) (⟨false, ie⟩ : Inp) = true by rw [fa]; decide)] at ga
            rw [if_pos fb] at gb
            have HA2 := Lib.hid ga
            have HB2 := Lib.hid gb
            clear fa fb ga gb
            have HP1 := Lib.hid ((HST.out.alloc (.cells #[.bool false, .int .i64 ie.time, .int .i64 ie.key, .int .i64 ie.value, .int .u64 ie.label] 64)).alloc (.cells #[.bool false, .int .i64 ie.time, .int .i64 ie.key, .int .i64 ie.value, .int .u64 ie.label] 64))
            go_wp2_with (first
              | (at_builtin; refine wpList_push_st inpElem rfl HP1.out 5 rfl _ _ rfl rfl _ (⟨false, ie⟩ : Inp) rfl (new_at _ _ _ (by simp)) HLB.out ?_; intro v7 w7 hst7 _; have HPA := Lib.hid hst7; clear hst7))
            go_roundw
            case rel => exact ⟨j + 1, by omega, by go_num, by rw [HA2.out, HB2.out]; exact HPA.out.pick [0, 1, 2, 3, 4, 5] (by decide)⟩
            case measure => simp [intOf]; omega
      · obtain rfl : j = ins.length := by omega
        rw [List.take_length] at hst
        have HST := Lib.hid hst
        clear hst
        go_wp2
        go_meet
        exact ⟨_, _, rfl, rfl, HST.out⟩
  case rest =>
    obtain ⟨av, bv, rfl, rfl, hst8⟩ := hcut
    obtain ⟨aa, ac, rfl, hac, ham, han, _⟩ := hst8.sl Inp.len 4 rfl
    obtain ⟨ba, bc, rfl, hbc, hbm, hbn, _⟩ := hst8.sl Inp.len 5 rfl
    obtain ⟨q8, _⟩ := blkCells (hst8.blk 2 rfl).1
    have hl8 : g < wc.heap.size := (hst8.blk 2 rfl).2.2
    have HR1 := Lib.hid (bareRows_st hst8 p HPR.out ia ic ins (Seen.own Inp.len 3 rfl) HIW.out (by omega))
    have HS8 := Lib.hid hst8
    clear hst8 han hbn
    go_upto_block 2 with (go_at_call 39; (with_reducible refine HR1.out.mono ?_); rintro e w9 ⟨v9, rfl, hst9⟩; obtain ⟨ra, rc', rfl, hrc, hrm, hrn, _⟩ := hst9.sl Rw.len 6 rfl; have HS9 := Lib.hid hst9; clear hst9 HR1)
    have hpA := Part.all (l := ins) (Part.new (fun x => x == one) (p := p.bare) rfl) HIW.out
    have hpB := Part.all (l := ins) (Part.new (fun x => !(x == one)) (p := p.bare) rfl) HIW.out
    have hrA : wholeRows p.bare (ins.filter (fun i : Inp => i.mark || (i.ev.key == one))) = (wholeRows p.bare ins).filter (fun x : Rw => x.key == one) := hpA.2
    have hrB : wholeRows p.bare (ins.filter (fun i : Inp => i.mark || !(i.ev.key == one))) = (wholeRows p.bare ins).filter (fun x : Rw => !(x.key == one)) := hpB.2
    have hlb := labels_two (fun i => i.ev.key == one) ins
    have hbd := rowsR_len (newR p.bare) ins
    have hbd' : (wholeRows p.bare ins).length ≤ 1000 := by
      have h0 : (newR p.bare).L.length = 0 := rfl
      show (rowsR (newR p.bare) ins).length ≤ 1000
      omega
    have hlA := List.length_filter_le (fun i : Inp => i.mark || (i.ev.key == one)) ins
    have hlB := List.length_filter_le (fun i : Inp => i.mark || !(i.ev.key == one)) ins
    have hwA : ∀ i ∈ ins.filter (fun i : Inp => i.mark || (i.ev.key == one)), i.ev.wf := fun i hi => HIW.out i (List.mem_filter.1 hi).1
    have hwB : ∀ i ∈ ins.filter (fun i : Inp => i.mark || !(i.ev.key == one)), i.ev.wf := fun i hi => HIW.out i (List.mem_filter.1 hi).1
    have HRA := Lib.hid hrA
    have HRB := Lib.hid hrB
    have HLB0 := Lib.hid hlb
    have HWA := Lib.hid hwA
    have HWB := Lib.hid hwB
    clear hpA hpB hrA hrB hlb hbd hwA hwB q8
    generalize wholeRows p.bare ins = rows at *
    have HS10 := Lib.hid (((HS9.out.nil 45 5 Rw.cells).nil 45 5 Rw.cells).pick [0, 1, 2, 3, 4, 5, 7, 8, 6] (by decide))
    clear HS8 HS7 HS6
    go_cut [14, 15] from 66 to 82 (fun uo ua wx => ∃ (xv yv : Value), uo = xv ∧ ua = yv ∧ St w wx [pt w.heap.size (.cells #[.slice ao k.ops.length co, .slice an k.ns.length cn, .int .i64 k.size, .int .i64 k.slide, .int .i64 k.agg, .int .i64 k.sink, .int .i64 k.feed] 69 (0, 0)), ownP 54 2 Opr.cells (.slice pa p.ops.length pc) p.ops, pt g (.cells #[.slice none 0 0, .int .i64 p.size, .int .i64 p.slide, .int .i64 p.agg, .int .i64 p.sink, .int .i64 p.feed] 57 (0, 0)), ownP 64 5 Inp.cells (.slice ia ins.length ic) ins, ownP 64 5 Inp.cells (.slice aa (ins.filter (fun i : Inp => i.mark || (i.ev.key == one))).length ac) (ins.filter (fun i : Inp => i.mark || (i.ev.key == one))), ownP 64 5 Inp.cells (.slice ba (ins.filter (fun i : Inp => i.mark || !(i.ev.key == one))).length bc) (ins.filter (fun i : Inp => i.mark || !(i.ev.key == one))), ownP 45 5 Rw.cells xv (rows.filter (fun x : Rw => x.key == one)), ownP 45 5 Rw.cells yv (rows.filter (fun x : Rw => !(x.key == one)))])
    case first =>
      go_wp2_with fail
      go_loopw [14, 15, 66] (fun xv yv iv wr => ∃ m : Nat, m ≤ rows.length ∧ iv = .int .i64 m ∧ St w wr [pt w.heap.size (.cells #[.slice ao k.ops.length co, .slice an k.ns.length cn, .int .i64 k.size, .int .i64 k.slide, .int .i64 k.agg, .int .i64 k.sink, .int .i64 k.feed] 69 (0, 0)), ownP 54 2 Opr.cells (.slice pa p.ops.length pc) p.ops, pt g (.cells #[.slice none 0 0, .int .i64 p.size, .int .i64 p.slide, .int .i64 p.agg, .int .i64 p.sink, .int .i64 p.feed] 57 (0, 0)), ownP 64 5 Inp.cells (.slice ia ins.length ic) ins, ownP 64 5 Inp.cells (.slice aa (ins.filter (fun i : Inp => i.mark || (i.ev.key == one))).length ac) (ins.filter (fun i : Inp => i.mark || (i.ev.key == one))), ownP 64 5 Inp.cells (.slice ba (ins.filter (fun i : Inp => i.mark || !(i.ev.key == one))).length bc) (ins.filter (fun i : Inp => i.mark || !(i.ev.key == one))), ownP 45 5 Rw.cells xv ((rows.take m).filter (fun x : Rw => x.key == one)), ownP 45 5 Rw.cells yv ((rows.take m).filter (fun x : Rw => !(x.key == one))), ownP 45 5 Rw.cells (.slice ra rows.length rc') rows]) (fun _ _ iv _ => rows.length - (intOf iv).toNat)
      case atStart => exact ⟨0, by omega, rfl, HS10.out⟩
      case round =>
        obtain ⟨m, hm, rfl, hst⟩ := hrel
        by_cases hlt : (m : Int) < rows.length
        · have hmn : m < rows.length := by omega
          obtain ⟨xb, xo, rfl, hxl, d0, d1, d2, d3, d4⟩ := (hst.slOf Rw.len 8 rfl).rwAt m hmn
          have hg1 := filter_take (fun x : Rw => x.key == one) hmn
          have hg2 := filter_take (fun x : Rw => !(x.key == one)) hmn
          have hla : ((rows.take m).filter (fun x : Rw => x.key == one)).length < 1099511627776 := by have := List.length_filter_le (fun x : Rw => x.key == one) (rows.take m); have := List.length_take_le m rows; omega
          have hlb : ((rows.take m).filter (fun x : Rw => !(x.key == one))).length < 1099511627776 := by have := List.length_filter_le (fun x : Rw => !(x.key == one)) (rows.take m); have := List.length_take_le m rows; omega
          rw [List.getElem?_eq_getElem hmn] at d0 d1 d2 d3 d4
          simp only [Option.getD_some] at d0 d1 d2 d3 d4
          generalize rows[m] = row at *
          obtain ⟨rs, rk, rv, rc, rl⟩ := row
          dsimp only at d0 d1 d2 d3 d4
          have HG1 := Lib.hid hg1
          have HG2 := Lib.hid hg2
          have HLA := Lib.hid hla
          have HLB := Lib.hid hlb
          have HST := Lib.hid hst
          clear hg1 hg2 hla hlb hst
          cases hkk : (rk == one) with
          | true =>
            have HKK := Lib.hid hkk
            have g1 := HG1.out
            have g2 := HG2.out
            rw [if_pos (show (rk == one) = true from HKK.out)] at g1
            rw [if_neg (show ¬ (!(rk == one)) = true by rw [HKK.out]; decide)] at g2
            have HA2 := Lib.hid g1
            have HB2 := Lib.hid g2
            clear g1 g2
            have HP1 := Lib.hid ((HST.out.alloc (.cells #[.int .i64 rs, .int .i64 rk, .int .i64 rv, .int .i64 rc, .int .u64 rl] 45)).alloc (.cells #[.int .i64 rs, .int .i64 rk, .int .i64 rv, .int .i64 rc, .int .u64 rl] 45))
            go_wp2_with (at_builtin; refine wpList_push_st rwElem rfl HP1.out 6 rfl _ _ rfl rfl _ (⟨rs, rk, rv, rc, rl⟩ : Rw) rfl (new_at _ _ _ (by simp)) HLA.out ?_; intro v7 w7 hst7 _; have HPA := Lib.hid hst7; clear hst7)
            go_roundw
            case rel => exact ⟨m + 1, by omega, by go_num, by rw [HA2.out, HB2.out]; exact HPA.out.pick [0, 1, 2, 3, 4, 5, 6, 7, 8] (by decide)⟩
            case measure => simp [intOf]; omega
          | false =>
            have HKK := Lib.hid hkk
            have g1 := HG1.out
            have g2 := HG2.out
            rw [if_neg (show ¬ (rk == one) = true by rw [HKK.out]; decide)] at g1
            rw [if_pos (show (!(rk == one)) = true by rw [HKK.out]; rfl)] at g2
            have HA2 := Lib.hid g1
            have HB2 := Lib.hid g2
            clear g1 g2
            have HP1 := Lib.hid ((HST.out.alloc (.cells #[.int .i64 rs, .int .i64 rk, .int .i64 rv, .int .i64 rc, .int .u64 rl] 45)).alloc (.cells #[.int .i64 rs, .int .i64 rk, .int .i64 rv, .int .i64 rc, .int .u64 rl] 45))
            go_wp2_with (at_builtin; refine wpList_push_st rwElem rfl HP1.out 7 rfl _ _ rfl rfl _ (⟨rs, rk, rv, rc, rl⟩ : Rw) rfl (new_at _ _ _ (by simp)) HLB.out ?_; intro v7 w7 hst7 _; have HPA := Lib.hid hst7; clear hst7)
            go_roundw
            case rel => exact ⟨m + 1, by omega, by go_num, by rw [HA2.out, HB2.out]; exact HPA.out.pick [0, 1, 2, 3, 4, 5, 6, 7, 8] (by decide)⟩
            case measure => simp [intOf]; omega
        · obtain rfl : m = rows.length := by omega
          rw [List.take_length] at hst
          have HST := Lib.hid hst
          clear hst
          go_wp2
          go_meet
          exact ⟨_, _, rfl, rfl, HST.out.cut (K := [_])⟩
    case rest =>
      obtain ⟨xv, yv, rfl, rfl, hst11⟩ := hcut
      obtain ⟨xa, xc, rfl, _, _, _, _⟩ := hst11.sl Rw.len 6 rfl
      obtain ⟨ya, yc, rfl, _, _, _, _⟩ := hst11.sl Rw.len 7 rfl
      have hfA := List.length_filter_le (fun x : Rw => x.key == one) rows
      have hfB := List.length_filter_le (fun x : Rw => !(x.key == one)) rows
      have HC1 := Lib.hid (bareRows_st hst11 p HPR.out aa ac (ins.filter (fun i : Inp => i.mark || (i.ev.key == one))) (Seen.own Inp.len 4 rfl) HWA.out (by omega))
      obtain ⟨qk, _⟩ := blkCells (hst11.blk 2 rfl).1; have hlk := (hst11.blk 2 rfl).2.2; have k0 := qk 0; have k1 := qk 1; have k2 := qk 2; have k3 := qk 3; have k4 := qk 4; have k5 := qk 5; simp at k0 k1 k2 k3 k4 k5; clear qk
      clear hst11 HS10 HS9
      go_wp2_with (first
        | (go_at_call 39; (with_reducible refine HC3.out.mono ?_); rintro e w13 ⟨v13, rfl, hst13⟩; obtain ⟨ta, tc, rfl, _, _, _, _⟩ := hst13.sl Rw.len 9 rfl; have HC4 := Lib.hid (sameRw_any hst13 7 9 rfl rfl HRB.out (by omega)); clear HC3 hst13)
        | (go_at_call 39; (with_reducible refine HC1.out.mono ?_); rintro e w11 ⟨v11, rfl, hst11⟩; obtain ⟨sa, sc, rfl, _, _, _, _⟩ := hst11.sl Rw.len 8 rfl; have HC2 := Lib.hid (sameRw_any hst11 6 8 rfl rfl HRA.out (by omega)); clear HC1 hst11)
        | (go_at_call 24; (with_reducible refine HC4.out.mono ?_); rintro e w14 ⟨rfl, hst14⟩; have HC5 := Lib.hid (labels_st hst14 ia ic ins (Seen.own Inp.len 3 rfl) (by omega)); clear HC4 hst14)
        | (go_at_call 24; (with_reducible refine HC2.out.mono ?_); rintro e w12 ⟨rfl, hst12⟩; clear k0 k1 k2 k3 k4 k5 hlk; obtain ⟨qk, _⟩ := blkCells (hst12.blk 2 rfl).1; have hlk := (hst12.blk 2 rfl).2.2; have k0 := qk 0; have k1 := qk 1; have k2 := qk 2; have k3 := qk 3; have k4 := qk 4; have k5 := qk 5; simp at k0 k1 k2 k3 k4 k5; clear qk; have HC3 := Lib.hid (bareRows_st hst12 p HPR.out ba bc (ins.filter (fun i : Inp => i.mark || !(i.ev.key == one))) (Seen.own Inp.len 5 rfl) HWB.out (by omega)); clear HC2 hst12)
        | (go_at_call 41; (with_reducible refine HC7.out.mono ?_); rintro e w17 ⟨rfl, hst17⟩; have HS17 := Lib.hid hst17; have hlb := HLB0.out; clear HC7 hst17)
        | (go_at_call 41; (with_reducible refine HC6.out.mono ?_); rintro e w16 ⟨rfl, hst16⟩; have HC7 := Lib.hid (labels_st hst16 ba bc (ins.filter (fun i : Inp => i.mark || !(i.ev.key == one))) (Seen.own Inp.len 5 rfl) (by omega)); clear HC6 hst16)
        | (go_at_call 41; (with_reducible refine HC5.out.mono ?_); rintro e w15 ⟨rfl, hst15⟩; have HC6 := Lib.hid (labels_st hst15 aa ac (ins.filter (fun i : Inp => i.mark || (i.ev.key == one))) (Seen.own Inp.len 4 rfl) (by omega)); clear HC5 hst15)
        | (go_at_call 8; refine (WholeRuns_any _).mono ?_; rintro e w18 ⟨rfl, hb18⟩; have HS18 := Lib.hid (HS17.out.kept hb18); clear hb18))
      go_ret
      exact ⟨rfl, HS18.out.below⟩
end Go.Proofs.Ytjkflblbcodnoaa
