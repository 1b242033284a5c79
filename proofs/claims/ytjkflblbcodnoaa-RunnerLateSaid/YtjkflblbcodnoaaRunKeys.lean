/- The walk of RunnerKeys. -/
import Derived.Test.YtjkflblbcodnoaaReaders
import Derived.Test.YtjkflblbcodnoaaPartLaw
import Derived.Test.YtjkflblbcodnoaaWhole
import Derived.Deep.CutBlock
set_option linter.unusedVariables false
namespace Go.Proofs.Ytjkflblbcodnoaa
open Go.RowKit Go.Maps
theorem labelOf_wf (n : Int) : (Lit.int .u64 (labelOf n)).wf = true := by
  unfold labelOf
  have h := within_range n 0 7 (by omega)
  have : within n 0 7 = 0 ∨ within n 0 7 = 1 ∨ within n 0 7 = 2 ∨ within n 0 7 = 3 ∨ within n 0 7 = 4 ∨ within n 0 7 = 5 ∨ within n 0 7 = 6 ∨ within n 0 7 = 7 := by omega
  rcases this with h | h | h | h | h | h | h | h <;> rw [h] <;> decide
theorem inpOf_wf (q : InQ) : (inpOf q).ev.wf := by
  unfold inpOf
  split
  · have h := within_range q.time 0 160 (by omega)
    exact ⟨WalkArith.wf_i64 (by dsimp only; omega), by dsimp only; decide, by dsimp only; decide, by dsimp only; decide⟩
  · have h1 := within_range q.time 0 120 (by omega)
    have h2 := within_range q.key 0 3 (by omega)
    have h3 := within_range q.value (-50) 50 (by omega)
    exact ⟨WalkArith.wf_i64 (by dsimp only; omega), WalkArith.wf_i64 (by dsimp only; omega), WalkArith.wf_i64 (by dsimp only; omega), labelOf_wf _⟩
theorem inputs_wf (l : List InQ) : ∀ i ∈ inputsOf l, i.ev.wf := by
  intro i hi
  obtain ⟨q, _, rfl⟩ := List.mem_map.1 hi
  exact inpOf_wf q
theorem inputs_len (l : List InQ) : (inputsOf l).length ≤ 25 := by simp [inputsOf]; omega
/-- A pipe without its operations. -/
def Pp.bare (p : Pp) : Pp := ⟨[], p.size, p.slide, p.agg, p.sink, p.feed⟩
theorem bare_right {p : Pp} (h : rightPp p = true) : rightPp p.bare = true := by
  unfold rightPp at *
  simp only [Bool.and_eq_true] at *
  exact ⟨⟨⟨⟨rfl, h.1.1.1.2⟩, h.1.1.2⟩, h.1.2⟩, h.2⟩
theorem filter_take {α : Type} {l : List α} (f : α → Bool) {m : Nat} (hm : m < l.length) : (l.take (m + 1)).filter f = if f l[m] then (l.take m).filter f ++ [l[m]] else (l.take m).filter f := by
  rw [List.take_add_one, List.getElem?_eq_getElem hm, List.filter_append]
  cases h : f l[m] <;> simp [h]
set_option maxRecDepth 20000 in
theorem bareNew_st {w0 w : World} {L : List HP} (h : St w0 w L) (p : Pp) (hr : rightPp p.bare = true) : Calls Try.prog 29 #[.agg #[.slice none 0 0, .int .i64 p.size, .int .i64 p.slide, .int .i64 p.agg, .int .i64 p.sink, .int .i64 p.feed]] w fun e w' => ∃ rb, e = .returned (.pointer (some ⟨rb, 0, none⟩)) ∧ St w0 w' (L ++ [rnP rb (newR p.bare) 0]) :=
  rnNew_st h p.bare none 0 (.inl rfl) (fun _ => rfl) (by simp [Pp.bare]) (by simp [Pp.bare]) hr
/-- One input handed to a runner. -/
theorem take1_st {w0 w : World} {L : List HP} {rb N : Nat} {r : Rn} (h : St w0 w L) (n : Nat) (hn : L[n]? = some (rnP rb r N)) (m : Nat) {g : Nat} {i : Inp} (hm : (L.set n emp)[m]? = some (pt g (.cells #[.bool i.mark, .int .i64 i.ev.time, .int .i64 i.ev.key, .int .i64 i.ev.value, .int .u64 i.ev.label] 64 (0, 0)))) (hw : i.ev.wf) (hN : N + 1 < 2 ^ 30) :
    Calls Try.prog 30 #[.pointer (some ⟨rb, 0, none⟩), .slice (some ⟨g, 0, none⟩) 1 1] w fun x w' => ∃ v, x = .returned v ∧ St w0 w' (L.set n (rnP rb (takeR r i).1 (N + 1)) ++ [ownP 45 5 Rw.cells v (takeR r i).2]) := by
  obtain ⟨pb, v, _, _, hG, _⟩ := rn_see h n hn (by omega)
  refine (rnTake_st h n hn (some ⟨g, 0, none⟩) 1 [i] (Seen.pt (l := [i]) Inp.len m hm) (by simpa using hw) hN hG.len).mono ?_
  rintro e w' ⟨v, rfl, hst⟩
  refine ⟨v, rfl, ?_⟩
  have e : rowsR r [i] = (takeR r i).2 := List.append_nil _
  rw [e] at hst
  exact hst
set_option maxHeartbeats 2000000 in
set_option maxRecDepth 20000 in
theorem RunnerKeys_any (w : World) (cs : Array Value) (k : PipeQ) (hk : isPq w cs.toList k) (al : Option Addr) (cap : Nat) (l : List InQ) (hle : l.length ≤ cap) (hmx : cap ≤ maxLen) (hnil : al = none → cap = 0) (hl : SlAt 4 isIq w al l) (key : Int) (hkey : (Lit.int .i64 key).wf = true) :
    Calls Try.prog 5 #[.agg cs, .slice al l.length cap, .int .i64 key] w fun e w' => e = .returned (.bool true) ∧ Below w.heap.size w w' := by
  obtain ⟨ao, co, an, cn, hcs, hso, hsn, hkw⟩ := hk
  obtain rfl : cs = #[.slice ao k.ops.length co, .slice an k.ns.length cn, .int .i64 k.size, .int .i64 k.slide, .int .i64 k.agg, .int .i64 k.sink, .int .i64 k.feed] := by
    obtain ⟨cl⟩ := cs
    dsimp only at hcs
    rw [hcs]
  clear hcs
  obtain ⟨hli, hlw⟩ := hl.iq
  have hr1 := i64_range hkey
  have hlm : l.length ≤ maxLen := by omega
  obtain ⟨hpr, hpo, hpl, hps1, hps2, hps3, hps4⟩ := pipeOf_right k
  have HPR := Lib.hid (bare_right hpr)
  have HLI := Lib.hid hli
  have HLW := Lib.hid hlw
  have hkr := within_range key 0 3 (by omega)
  have hst0 := (St.start w).alloc (.cells #[.slice ao k.ops.length co, .slice an k.ns.length cn, .int .i64 k.size, .int .i64 k.slide, .int .i64 k.agg, .int .i64 k.sink, .int .i64 k.feed] 69)
  have HC0 := Lib.hid (pipe_st hst0 k hkw ao an co cn (Seen.old hso) (Seen.old hsn))
  clear hst0 hli hlw hl hkey hso hsn hkw hle hnil hpr hpo
  unfold maxLen at hmx
  generalize pipeOf k = p at *
  go_enter Try.func5, Try.ntmps5
  go_wp2_with (first
    | (go_at_call 36; (with_reducible refine HC0.out.mono ?_); rintro e w1 ⟨pa, pc, rfl, hpn, hst1⟩; have HS1 := Lib.hid (hst1.alloc (.cells #[.slice none 0 0, .int .i64 p.size, .int .i64 p.slide, .int .i64 p.agg, .int .i64 p.sink, .int .i64 p.feed] 57)); clear HC0 hst1)
    | (go_at_call 16; refine (Within_at _ _ _ _ (by omega) (by omega) (by omega) (by omega) (by omega)).mono ?_; rintro e wz ⟨rfl, rfl⟩))
  refine wp_at HS1.out ?_
  intro w2 hst2
  clear HS1
  generalize w1.heap.size = g at *
  obtain ⟨q2, _⟩ := blkCells (hst2.blk 2 rfl).1
  have hg2 : g < w2.heap.size := (hst2.blk 2 rfl).2.2
  have k0 := q2 0
  have k1 := q2 1
  have k2 := q2 2
  have k3 := q2 3
  have k4 := q2 4
  have k5 := q2 5
  simp at k0 k1 k2 k3 k4 k5
  have HSA := Lib.hid hst2.drew
  clear hst2 q2
  go_region_held3 (fun w' => w'.cell? ⟨g, 0, none⟩ = some (.slice none 0 0) ∧ w'.cell? ⟨g, 1, none⟩ = some (.int .i64 p.size) ∧ w'.cell? ⟨g, 2, none⟩ = some (.int .i64 p.slide) ∧ w'.cell? ⟨g, 3, none⟩ = some (.int .i64 p.agg) ∧ w'.cell? ⟨g, 4, none⟩ = some (.int .i64 p.sink) ∧ w'.cell? ⟨g, 5, none⟩ = some (.int .i64 p.feed))
    (exact ⟨k0, k1, k2, k3, k4, k5⟩)
    (first
      | (go_at_call 29; (with_reducible refine (bareNew_st HSB.out p HPR.out).mono ?_); rintro e w4 ⟨rb, rfl, hst4⟩; clear k0 k1 k2 k3 k4 k5; obtain ⟨q4, _⟩ := blkCells (hst4.blk 2 rfl).1; have k0 := q4 0; have k1 := q4 1; have k2 := q4 2; have k3 := q4 3; have k4 := q4 4; have k5 := q4 5; simp at k0 k1 k2 k3 k4 k5; obtain ⟨pba, vva, _, ⟨hba, _, hla⟩, _⟩ := rn_see hst4 3 rfl (by decide); obtain ⟨qqa, _⟩ := blkCells hba; have a0 := qqa 0; have a1 := qqa 1; have a2 := qqa 2; have a3 := qqa 3; simp [Rn.cells] at a0 a1 a2 a3; clear hba qqa; obtain ⟨pbb, vvb, _, ⟨hbb, _, hlb⟩, _⟩ := rn_see hst4 4 rfl (by decide); obtain ⟨qqb, _⟩ := blkCells hbb; have b0 := qqb 0; have b1 := qqb 1; have b2 := qqb 2; have b3 := qqb 3; simp [Rn.cells] at b0 b1 b2 b3; clear hbb qqb; have HSC := Lib.hid hst4; clear hst4 q4)
      | (go_at_call 29; (with_reducible refine (bareNew_st HSA.out p HPR.out).mono ?_); rintro e w3 ⟨ra, rfl, hst3⟩; clear k0 k1 k2 k3 k4 k5; obtain ⟨q3, _⟩ := blkCells (hst3.blk 2 rfl).1; have k0 := q3 0; have k1 := q3 1; have k2 := q3 2; have k3 := q3 3; have k4 := q3 4; have k5 := q3 5; simp at k0 k1 k2 k3 k4 k5; have HSB := Lib.hid hst3; clear hst3 q3))
  have HCI := Lib.hid (inputs_st HSC.out al cap l (Seen.old HLI.out) HLW.out hlm)
  go_upto_block 0 with (go_at_call 37; (with_reducible refine HCI.out.mono ?_); rintro e w5 ⟨vi, rfl, hst5⟩; obtain ⟨ia, ic, rfl, hic, him, hin, _⟩ := hst5.sl Inp.len 5 rfl; have HS5 := Lib.hid hst5; clear hst5 HCI)
  have hil := inputs_len l
  have hiw := inputs_wf l
  have HIW := Lib.hid hiw
  clear hiw
  generalize inputsOf l = ins at *
  generalize within key 0 3 = one at *
  obtain ⟨K, hKd⟩ : ∃ K : Int → Bool, K = fun x => x == one := ⟨_, rfl⟩
  obtain ⟨F, hFd⟩ : ∃ F : Inp → Bool, F = fun i => i.mark || K i.ev.key := ⟨_, rfl⟩
  have HK := Lib.hid hKd
  have HF := Lib.hid hFd
  clear hKd hFd k0 k1 k2 k3 k4 k5 a0 a1 a2 a3 b0 b1 b2 b3
  have HS6 := Lib.hid ((HS5.out.nil 45 5 Rw.cells).nil 45 5 Rw.cells)
  go_cut [11, 12] from 49 to 86 (fun uo ua wx => ∃ (ov av : Value), uo = ov ∧ ua = av ∧ St w wx [pt w.heap.size (.cells #[.slice ao k.ops.length co, .slice an k.ns.length cn, .int .i64 k.size, .int .i64 k.slide, .int .i64 k.agg, .int .i64 k.sink, .int .i64 k.feed] 69 (0, 0)), ownP 54 2 Opr.cells (.slice pa p.ops.length pc) p.ops, pt g (.cells #[.slice none 0 0, .int .i64 p.size, .int .i64 p.slide, .int .i64 p.agg, .int .i64 p.sink, .int .i64 p.feed] 57 (0, 0)), rnP ra (afterR (newR p.bare) ins) ins.length, rnP rb (afterR (newR p.bare) (ins.filter F)) ins.length, ownP 64 5 Inp.cells (.slice ia ins.length ic) ins, ownP 45 5 Rw.cells ov ((rowsR (newR p.bare) ins).filter fun x => K x.key), ownP 45 5 Rw.cells av (rowsR (newR p.bare) (ins.filter F))])
  case first =>
    go_wp2_with fail
    go_loopw [11, 12, 49] (fun ov av iv wr => ∃ j : Nat, j ≤ ins.length ∧ iv = .int .i64 j ∧ St w wr [pt w.heap.size (.cells #[.slice ao k.ops.length co, .slice an k.ns.length cn, .int .i64 k.size, .int .i64 k.slide, .int .i64 k.agg, .int .i64 k.sink, .int .i64 k.feed] 69 (0, 0)), ownP 54 2 Opr.cells (.slice pa p.ops.length pc) p.ops, pt g (.cells #[.slice none 0 0, .int .i64 p.size, .int .i64 p.slide, .int .i64 p.agg, .int .i64 p.sink, .int .i64 p.feed] 57 (0, 0)), rnP ra (afterR (newR p.bare) (ins.take j)) j, rnP rb (afterR (newR p.bare) ((ins.take j).filter F)) j, ownP 64 5 Inp.cells (.slice ia ins.length ic) ins, ownP 45 5 Rw.cells ov ((rowsR (newR p.bare) (ins.take j)).filter fun x => K x.key), ownP 45 5 Rw.cells av (rowsR (newR p.bare) ((ins.take j).filter F))]) (fun _ _ iv _ => ins.length - (intOf iv).toNat)
    case atStart => exact ⟨0, by omega, rfl, HS6.out⟩
    case round =>
      obtain ⟨j, hj, rfl, hst⟩ := hrel
      by_cases hlt : (j : Int) < ins.length
      · have hjn : j < ins.length := by omega
        obtain ⟨b, o, rfl, hbl, c0, c1, c2, c3, c4⟩ := (hst.slOf Inp.len 5 rfl).inAt j hjn
        have hiw := HIW.out _ (List.getElem_mem hjn)
        have htk : ins.take (j + 1) = ins.take j ++ [ins[j]] := by rw [List.take_add_one, List.getElem?_eq_getElem hjn]; rfl
        have hA : afterR (newR p.bare) (ins.take (j + 1)) = (takeR (afterR (newR p.bare) (ins.take j)) ins[j]).1 := by rw [htk, afterR_append]; rfl
        have hB : rowsR (newR p.bare) (ins.take (j + 1)) = rowsR (newR p.bare) (ins.take j) ++ (takeR (afterR (newR p.bare) (ins.take j)) ins[j]).2 := by rw [htk, rowsR_append, rowsR, rowsR, List.append_nil]
        have hC : (ins.take (j + 1)).filter F = if F ins[j] then (ins.take j).filter F ++ [ins[j]] else (ins.take j).filter F := filter_take F hjn
        have hbd := rowsR_len (newR p.bare) (ins.take j)
        have hbd2 := rowsR_len (newR p.bare) ((ins.take j).filter F)
        have hfl := List.length_filter_le F (ins.take j)
        have hfl2 := List.length_filter_le (fun x : Rw => K x.key) (rowsR (newR p.bare) (ins.take j))
        have hn0 : (newR p.bare).L.length = 0 := rfl
        have htl := List.length_take_le j ins
        rw [List.getElem?_eq_getElem hjn] at c0 c1 c2 c3 c4
        simp only [Option.getD_some] at c0 c1 c2 c3 c4
        generalize ins[j] = i at *
        obtain ⟨im, ie⟩ := i
        generalize hq : afterR (newR p.bare) (ins.take j) = q at *
        generalize hqb : afterR (newR p.bare) ((ins.take j).filter F) = qb at *
        generalize hro : rowsR (newR p.bare) (ins.take j) = ro at *
        generalize hrb : rowsR (newR p.bare) ((ins.take j).filter F) = rob at *
        have hD : afterR (newR p.bare) ((ins.take j).filter F ++ [⟨im, ie⟩]) = (takeR qb ⟨im, ie⟩).1 := by rw [afterR_append, hqb]; rfl
        have hE : rowsR (newR p.bare) ((ins.take j).filter F ++ [⟨im, ie⟩]) = rob ++ (takeR qb ⟨im, ie⟩).2 := by rw [rowsR_append, hqb, hrb, rowsR, rowsR, List.append_nil]
        have HA := Lib.hid hA
        have HB := Lib.hid hB
        have HC := Lib.hid hC
        have HD := Lib.hid hD
        have HE := Lib.hid hE
        have HIW1 := Lib.hid hiw
        have HQB := Lib.hid hqb
        have HRB := Lib.hid hrb
        dsimp only at c0 c1 c2 c3 c4
        have HCT := Lib.hid (take1_st (i := ⟨im, ie⟩) ((hst.alloc (.cells #[.bool im, .int .i64 ie.time, .int .i64 ie.key, .int .i64 ie.value, .int .u64 ie.label] 64)).alloc (.cells #[.bool im, .int .i64 ie.time, .int .i64 ie.key, .int .i64 ie.value, .int .u64 ie.label] 64)) 3 rfl 9 rfl hiw (by omega))
        rw [World.size_alloc] at HCT
        have HST := Lib.hid hst
        clear hA hB hC hD hE hiw hst hq hqb hro hrb htk
        have htq := takeR_len q ⟨im, ie⟩
        go_upto_block 2 with (go_at_call 30; (with_reducible refine HCT.out.mono ?_); rintro e w7 ⟨v7, rfl, hst7⟩; obtain ⟨xa, xc, rfl, hxc, hxm, hxn, _⟩ := hst7.sl Rw.len 10 rfl; have HS7 := Lib.hid hst7; clear hst7 HCT)
        generalize (takeR q ⟨im, ie⟩).2 = rows at *
        go_cut [11] from 58 to 70 (fun uo wx => ∃ ov', uo = ov' ∧ St w wx [pt w.heap.size (.cells #[.slice ao k.ops.length co, .slice an k.ns.length cn, .int .i64 k.size, .int .i64 k.slide, .int .i64 k.agg, .int .i64 k.sink, .int .i64 k.feed] 69 (0, 0)), ownP 54 2 Opr.cells (.slice pa p.ops.length pc) p.ops, pt g (.cells #[.slice none 0 0, .int .i64 p.size, .int .i64 p.slide, .int .i64 p.agg, .int .i64 p.sink, .int .i64 p.feed] 57 (0, 0)), rnP ra (takeR q ⟨im, ie⟩).1 (j + 1), rnP rb qb j, ownP 64 5 Inp.cells (.slice (some ⟨b, o, none⟩) ins.length ic) ins, ownP 45 5 Rw.cells ov' ((ro.filter fun x => K x.key) ++ rows.filter fun x => K x.key), ownP 45 5 Rw.cells u12 rob, pt wr.heap.size (.cells #[.bool im, .int .i64 ie.time, .int .i64 ie.key, .int .i64 ie.value, .int .u64 ie.label] 64 (0, 0))])
        case first =>
          go_wp2_with fail
          go_loopw [11, 58] (fun ov' mv wx => ∃ m : Nat, m ≤ rows.length ∧ mv = .int .i64 m ∧ St w wx [pt w.heap.size (.cells #[.slice ao k.ops.length co, .slice an k.ns.length cn, .int .i64 k.size, .int .i64 k.slide, .int .i64 k.agg, .int .i64 k.sink, .int .i64 k.feed] 69 (0, 0)), ownP 54 2 Opr.cells (.slice pa p.ops.length pc) p.ops, pt g (.cells #[.slice none 0 0, .int .i64 p.size, .int .i64 p.slide, .int .i64 p.agg, .int .i64 p.sink, .int .i64 p.feed] 57 (0, 0)), rnP ra (takeR q ⟨im, ie⟩).1 (j + 1), rnP rb qb j, ownP 64 5 Inp.cells (.slice (some ⟨b, o, none⟩) ins.length ic) ins, ownP 45 5 Rw.cells ov' ((ro.filter fun x => K x.key) ++ (rows.take m).filter fun x => K x.key), ownP 45 5 Rw.cells u12 rob, pt wr.heap.size (.cells #[.bool im, .int .i64 ie.time, .int .i64 ie.key, .int .i64 ie.value, .int .u64 ie.label] 64 (0, 0)), ownP 45 5 Rw.cells (.slice xa rows.length xc) rows]) (fun _ mv _ => rows.length - (intOf mv).toNat)
          case atStart => exact ⟨0, by omega, rfl, by simpa using HS7.out.pick [0, 1, 2, 3, 4, 5, 6, 7, 8, 10] (by decide)⟩
          case round =>
            obtain ⟨m, hm, rfl, hst9⟩ := hrel
            by_cases hmt : (m : Int) < rows.length
            · have hmn : m < rows.length := by omega
              obtain ⟨xb, xo, rfl, hxl, d0, d1, d2, d3, d4⟩ := (hst9.slOf Rw.len 9 rfl).rwAt m hmn
              have hft : (rows.take (m + 1)).filter (fun x => K x.key) = if K rows[m].key then (rows.take m).filter (fun x => K x.key) ++ [rows[m]] else (rows.take m).filter (fun x => K x.key) := filter_take (fun x : Rw => K x.key) hmn
              have hfl3 := List.length_filter_le (fun x : Rw => K x.key) (rows.take m)
              have htm := List.length_take_le m rows
              rw [List.getElem?_eq_getElem hmn] at d0 d1 d2 d3 d4
              simp only [Option.getD_some] at d0 d1 d2 d3 d4
              generalize rows[m] = row at *
              obtain ⟨rs, rk, rv, rc, rl⟩ := row
              dsimp only at d0 d1 d2 d3 d4
              rw [HK.out] at hft
              dsimp only at hft
              have hln : ((ro.filter fun x => K x.key) ++ (rows.take m).filter fun x => K x.key).length < 1099511627776 := by rw [List.length_append]; omega
              rw [HK.out] at hln hst9
              dsimp only at hln hst9
              have HLN2 := Lib.hid hln
              have HST9 := Lib.hid hst9
              have HFT := Lib.hid hft
              clear hln hst9 hft hfl3
              cases hkk : (rk == one) with
              | true =>
                have h3 := HFT.out
                rw [if_pos hkk] at h3
                have HFT3 := Lib.hid h3
                clear h3
                have HB2 := Lib.hid ((HST9.out.alloc (.cells #[.int .i64 rs, .int .i64 rk, .int .i64 rv, .int .i64 rc, .int .u64 rl] 45)).alloc (.cells #[.int .i64 rs, .int .i64 rk, .int .i64 rv, .int .i64 rc, .int .u64 rl] 45))
                go_wp2_with (at_builtin; refine wpList_push_st rwElem rfl HB2.out 6 rfl _ _ rfl rfl _ (⟨rs, rk, rv, rc, rl⟩ : Rw) rfl (new_at _ _ _ (by simp)) HLN2.out ?_; intro v9 w9 hst10 _; have HS10 := Lib.hid hst10; clear hst10)
                go_roundw
                case rel => exact ⟨m + 1, by omega, by go_num, by rw [HK.out]; dsimp only; rw [HFT3.out, ← List.append_assoc]; exact HS10.out.pick [0, 1, 2, 3, 4, 5, 6, 7, 8, 9] (by decide)⟩
                case measure => simp [intOf]; omega
              | false =>
                have h3 := HFT.out
                rw [if_neg (by rw [hkk]; decide)] at h3
                have HFT3 := Lib.hid h3
                clear h3
                go_wp2_with fail
                go_roundw
                case rel => exact ⟨m + 1, by omega, by go_num, by rw [HK.out]; dsimp only; rw [HFT3.out]; exact (HST9.out.alloc _).pick [0, 1, 2, 3, 4, 5, 6, 7, 8, 9] (by decide)⟩
                case measure => simp [intOf]; omega
            · obtain rfl : m = rows.length := by omega
              rw [List.take_length] at hst9
              have HST9 := Lib.hid hst9
              clear hst9
              go_wp2
              go_meet
              exact ⟨_, rfl, HST9.out.cut (K := [_])⟩
        case rest =>
          obtain ⟨ov', rfl, hst8⟩ := hcut
          rw [← List.filter_append] at hst8
          have HB' := HB.out
          rw [← HB', ← HA.out] at hst8
          clear HB'
          obtain ⟨q8, _⟩ := blkCells (hst8.blk 8 rfl).1
          have hl8 : wr.heap.size < wc.heap.size := (hst8.blk 8 rfl).2.2
          have f0 := q8 0
          have f1 := q8 1
          have f2 := q8 2
          have f3 := q8 3
          have f4 := q8 4
          simp at f0 f1 f2 f3 f4
          have HST8 := Lib.hid hst8
          clear hst8 q8
          have htb := takeR_len qb ⟨im, ie⟩
          have hF0 : F ⟨im, ie⟩ = (im || (ie.key == one)) := by rw [HF.out, HK.out]
          have HF0 := Lib.hid hF0
          clear hF0
          cases im with
          | true =>
            have HFT : F ⟨true, ie⟩ = true := by rw [HF0.out]; rfl
            have hC := HC.out
            rw [HFT, if_pos rfl] at hC
            have HC2 := Lib.hid hC
            clear hC HFT
            have HT2 := Lib.hid (take1_st (i := ⟨true, ie⟩) (HST8.out.alloc (.cells #[.bool true, .int .i64 ie.time, .int .i64 ie.key, .int .i64 ie.value, .int .u64 ie.label] 64)) 4 rfl 9 rfl HIW1.out (by omega))
            go_wp2_with (first
              | (go_at_call 30; (with_reducible refine HT2.out.mono ?_); rintro e w9 ⟨v9, rfl, hst9⟩; obtain ⟨ya, yc, rfl, hyc, hym, hyn, hysl⟩ := hst9.sl Rw.len 10 rfl; have HS9 := Lib.hid hst9; have HYN := Lib.hid hyn; have HYS := Lib.hid hysl; clear hst9 hyn hysl)
              | (at_builtin; refine wpList_append_st rwElem rfl HS9.out 7 rfl _ _ rfl rfl ya yc _ rfl HYN.out HYS.out (by omega) ?_; intro v10 w10 hst10 _; have HS10 := Lib.hid hst10; clear hst10))
            go_roundw
            case rel => exact ⟨j + 1, by omega, by go_num, by rw [HC2.out, HD.out, HE.out]; exact HS10.out.pick [0, 1, 2, 3, 4, 5, 6, 7] (by decide)⟩
            case measure => simp [intOf]; omega
          | false =>
            cases hkk : (ie.key == one) with
            | true =>
              have HFT : F ⟨false, ie⟩ = true := by rw [HF0.out]; rw [hkk]; rfl
              have hC := HC.out
              rw [HFT, if_pos rfl] at hC
              have HC2 := Lib.hid hC
              clear hC HFT
              have HT2 := Lib.hid (take1_st (i := ⟨false, ie⟩) (HST8.out.alloc (.cells #[.bool false, .int .i64 ie.time, .int .i64 ie.key, .int .i64 ie.value, .int .u64 ie.label] 64)) 4 rfl 9 rfl HIW1.out (by omega))
              go_wp2_with (first
                | (go_at_call 30; (with_reducible refine HT2.out.mono ?_); rintro e w9 ⟨v9, rfl, hst9⟩; obtain ⟨ya, yc, rfl, hyc, hym, hyn, hysl⟩ := hst9.sl Rw.len 10 rfl; have HS9 := Lib.hid hst9; have HYN := Lib.hid hyn; have HYS := Lib.hid hysl; clear hst9 hyn hysl)
                | (at_builtin; refine wpList_append_st rwElem rfl HS9.out 7 rfl _ _ rfl rfl ya yc _ rfl HYN.out HYS.out (by omega) ?_; intro v10 w10 hst10 _; have HS10 := Lib.hid hst10; clear hst10))
              go_roundw
              case rel => exact ⟨j + 1, by omega, by go_num, by rw [HC2.out, HD.out, HE.out]; exact HS10.out.pick [0, 1, 2, 3, 4, 5, 6, 7] (by decide)⟩
              case measure => simp [intOf]; omega
            | false =>
              have HFT : F ⟨false, ie⟩ = false := by rw [HF0.out, hkk]; rfl
              have hC := HC.out
              rw [HFT, if_neg (by decide)] at hC
              have HC2 := Lib.hid hC
              clear hC HFT
              go_wp2_with fail
              go_roundw
              case rel => exact ⟨j + 1, by omega, by go_num, by rw [HC2.out, HQB.out, HRB.out]; exact (HST8.out.imp 4 rfl (X' := rnP rb qb (j + 1)) fun h hh => rnP_mono (by omega) hh).pick [0, 1, 2, 3, 4, 5, 6, 7] (by decide)⟩
              case measure => simp [intOf]; omega
      · obtain rfl : j = ins.length := by omega
        rw [List.take_length] at hst
        have HST := Lib.hid hst
        clear hst
        go_wp2
        go_meet
        exact ⟨_, _, rfl, rfl, HST.out⟩
  case rest =>
    obtain ⟨ov, av, rfl, rfl, hst7⟩ := hcut
    have hpt := Part.all (l := ins) (Part.new K (p := p.bare) rfl) HIW.out
    rw [← HF.out] at hpt
    obtain ⟨hpart, hrows⟩ := hpt
    have hm := hpart.mark
    have hsn := hpart.seen
    have hlt := hpart.late
    have hbd := rowsR_len (newR p.bare) ins
    have hn0 : (newR p.bare).L.length = 0 := rfl
    have hfl2 := List.length_filter_le (fun x : Rw => K x.key) (rowsR (newR p.bare) ins)
    have hrows' : rowsR (newR p.bare) (ins.filter F) = (rowsR (newR p.bare) ins).filter fun x => K x.key := hrows
    rw [hrows'] at hst7
    have hm' : (afterR (newR p.bare) (ins.filter F)).c.mark = (afterR (newR p.bare) ins).c.mark := hm
    have hsn' : (afterR (newR p.bare) (ins.filter F)).c.seen ≤ (afterR (newR p.bare) ins).c.seen := hsn
    have hlt' : (afterR (newR p.bare) (ins.filter F)).c.late ≤ (afterR (newR p.bare) ins).c.late := hlt
    clear hpart hrows hrows' hm hsn hlt
    generalize (rowsR (newR p.bare) ins).filter (fun x => K x.key) = out at *
    generalize afterR (newR p.bare) ins = qa at *
    generalize afterR (newR p.bare) (ins.filter F) = qb at *
    obtain ⟨⟨ma, la, sa⟩, qap, qaL⟩ := qa
    obtain ⟨⟨mb, lb, sb⟩, qbp, qbL⟩ := qb
    dsimp only at hm' hsn' hlt'
    subst hm'
    obtain ⟨xa, xc, rfl, hxc, hxm, hxn, hxs⟩ := hst7.sl Rw.len 6 rfl
    obtain ⟨ya, yc, rfl, hyc, hym, hyn, hys⟩ := hst7.sl Rw.len 7 rfl
    have hol : out.length ≤ 1099511627776 := by omega
    obtain ⟨pba, vva, _, ⟨hba, _, hla⟩, _⟩ := rn_see hst7.drew 3 rfl (by omega); obtain ⟨qqa, _⟩ := blkCells hba; have a0 := qqa 0; have a1 := qqa 1; have a2 := qqa 2; simp [Rn.cells] at a0 a1 a2; clear hba qqa; obtain ⟨pbb, vvb, _, ⟨hbb, _, hlb⟩, _⟩ := rn_see hst7.drew 4 rfl (by omega); obtain ⟨qqb, _⟩ := blkCells hbb; have b0 := qqb 0; have b1 := qqb 1; have b2 := qqb 2; simp [Rn.cells] at b0 b1 b2; clear hbb qqb
    have HSE := Lib.hid hst7.drew
    have HXS := Lib.hid hxs
    have HYS := Lib.hid hys
    have HOL := Lib.hid hol
    go_wp2_with fail
    clear hst7 hxs hys hxn hyn hol hfl2 hbd
    go_region_held3 (fun w' => w'.cell? ⟨ra, 0, none⟩ = some (.int .i64 mb) ∧ w'.cell? ⟨ra, 1, none⟩ = some (.int .i64 la) ∧ w'.cell? ⟨ra, 2, none⟩ = some (.int .i64 sa) ∧ w'.cell? ⟨rb, 0, none⟩ = some (.int .i64 mb) ∧ w'.cell? ⟨rb, 1, none⟩ = some (.int .i64 lb) ∧ w'.cell? ⟨rb, 2, none⟩ = some (.int .i64 sb))
      (exact ⟨a0, a1, a2, b0, b1, b2⟩)
      (first
        | (go_at_call 24; refine (sameRw_st out xa ya xc yc HSE.out HXS.out HYS.out HOL.out hxc hyc).mono ?_; rintro e w9 ⟨rfl, hst9⟩; clear HSE a0 a1 a2 b0 b1 b2; obtain ⟨pba, vva, _, ⟨hba, _, hla⟩, _⟩ := rn_see hst9 3 rfl (by omega); obtain ⟨qqa, _⟩ := blkCells hba; have a0 := qqa 0; have a1 := qqa 1; have a2 := qqa 2; simp [Rn.cells] at a0 a1 a2; clear hba qqa; obtain ⟨pbb, vvb, _, ⟨hbb, _, hlb⟩, _⟩ := rn_see hst9 4 rfl (by omega); obtain ⟨qqb, _⟩ := blkCells hbb; have b0 := qqb 0; have b1 := qqb 1; have b2 := qqb 2; simp [Rn.cells] at b0 b1 b2; clear hbb qqb; have HSE := Lib.hid hst9; clear hst9)
        | (go_at_call 35; refine (mark_st _ _ _ HSE.out).mono ?_; rintro e w9 ⟨rfl, hst9⟩; clear HSE a0 a1 a2 b0 b1 b2; obtain ⟨pba, vva, _, ⟨hba, _, hla⟩, _⟩ := rn_see hst9 3 rfl (by omega); obtain ⟨qqa, _⟩ := blkCells hba; have a0 := qqa 0; have a1 := qqa 1; have a2 := qqa 2; simp [Rn.cells] at a0 a1 a2; clear hba qqa; obtain ⟨pbb, vvb, _, ⟨hbb, _, hlb⟩, _⟩ := rn_see hst9 4 rfl (by omega); obtain ⟨qqb, _⟩ := blkCells hbb; have b0 := qqb 0; have b1 := qqb 1; have b2 := qqb 2; simp [Rn.cells] at b0 b1 b2; clear hbb qqb; have HSE := Lib.hid hst9; clear hst9)
        | (go_at_call 34; refine (seen_st _ _ _ HSE.out).mono ?_; rintro e w9 ⟨rfl, hst9⟩; clear HSE a0 a1 a2 b0 b1 b2; obtain ⟨pba, vva, _, ⟨hba, _, hla⟩, _⟩ := rn_see hst9 3 rfl (by omega); obtain ⟨qqa, _⟩ := blkCells hba; have a0 := qqa 0; have a1 := qqa 1; have a2 := qqa 2; simp [Rn.cells] at a0 a1 a2; clear hba qqa; obtain ⟨pbb, vvb, _, ⟨hbb, _, hlb⟩, _⟩ := rn_see hst9 4 rfl (by omega); obtain ⟨qqb, _⟩ := blkCells hbb; have b0 := qqb 0; have b1 := qqb 1; have b2 := qqb 2; simp [Rn.cells] at b0 b1 b2; clear hbb qqb; have HSE := Lib.hid hst9; clear hst9)
        | (go_at_call 33; refine (late_st _ _ _ HSE.out).mono ?_; rintro e w9 ⟨rfl, hst9⟩; clear HSE a0 a1 a2 b0 b1 b2; obtain ⟨pba, vva, _, ⟨hba, _, hla⟩, _⟩ := rn_see hst9 3 rfl (by omega); obtain ⟨qqa, _⟩ := blkCells hba; have a0 := qqa 0; have a1 := qqa 1; have a2 := qqa 2; simp [Rn.cells] at a0 a1 a2; clear hba qqa; obtain ⟨pbb, vvb, _, ⟨hbb, _, hlb⟩, _⟩ := rn_see hst9 4 rfl (by omega); obtain ⟨qqb, _⟩ := blkCells hbb; have b0 := qqb 0; have b1 := qqb 1; have b2 := qqb 2; simp [Rn.cells] at b0 b1 b2; clear hbb qqb; have HSE := Lib.hid hst9; clear hst9)
        | (go_at_call 4; refine (RunnerRuns_any _).mono ?_; rintro e w9 ⟨rfl, hb9⟩; have hst9 := HSE.out.kept hb9; clear HSE a0 a1 a2 b0 b1 b2 hb9; obtain ⟨pba, vva, _, ⟨hba, _, hla⟩, _⟩ := rn_see hst9 3 rfl (by omega); obtain ⟨qqa, _⟩ := blkCells hba; have a0 := qqa 0; have a1 := qqa 1; have a2 := qqa 2; simp [Rn.cells] at a0 a1 a2; clear hba qqa; obtain ⟨pbb, vvb, _, ⟨hbb, _, hlb⟩, _⟩ := rn_see hst9 4 rfl (by omega); obtain ⟨qqb, _⟩ := blkCells hbb; have b0 := qqb 0; have b1 := qqb 1; have b2 := qqb 2; simp [Rn.cells] at b0 b1 b2; clear hbb qqb; have HSE := Lib.hid hst9; clear hst9))
    go_wp2
    go_ret
    exact ⟨rfl, HSE.out.below⟩
end Go.Proofs.Ytjkflblbcodnoaa
