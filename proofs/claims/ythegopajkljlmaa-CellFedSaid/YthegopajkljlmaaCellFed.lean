/- The walk of CellFed. -/
import Derived.Test.YthegopajkljlmaaFedLaw
set_option linter.unusedVariables false
set_option linter.unusedSimpArgs false
namespace Go.Proofs.Ythegopajkljlmaa
open Go.RowKit Go.Maps
theorem or_ne1 (x : Int) : bits .or .u64 x 1 ≠ 0 := by
  intro e
  rw [bits_or64] at e
  have h1 : bv x ||| bv 1 = 0#64 := by
    apply BitVec.eq_of_toNat_eq
    simp only [BitVec.toNat_ofNat]
    omega
  have h2 := congrArg (fun b : BitVec 64 => b[0]) h1
  simp [bv] at h2
theorem inputs_rng (l : List InQ) : ∀ i ∈ inputsOf l, i.ev.wf ∧ 0 ≤ i.ev.time ∧ i.ev.time ≤ 160 ∧ 0 ≤ i.ev.key ∧ i.ev.key ≤ 3 := by
  intro i hi
  refine ⟨inputs_wf l i hi, ?_⟩
  obtain ⟨q, _, rfl⟩ := List.mem_map.1 hi
  unfold inpOf
  split
  · have := within_range q.time 0 160 (by omega); dsimp only; omega
  · have := within_range q.time 0 120 (by omega); have := within_range q.key 0 3 (by omega); dsimp only; omega
def fedOf (lb : Int) (l : List Inp) : List Inp := (l.filter fun i => !i.mark).map fun i => ⟨false, ⟨i.ev.time, i.ev.key, i.ev.value, lb⟩⟩
def cF (x : Int) (p : Pp) (E : List Inp) : Cl := ⟨0, 0, E.length, x, p, E, []⟩
theorem fed_take (lb : Int) {l : List Inp} {j : Nat} (hj : j < l.length) : fedOf lb (l.take (j + 1)) = if l[j].mark then fedOf lb (l.take j) else fedOf lb (l.take j) ++ [⟨false, ⟨l[j].ev.time, l[j].ev.key, l[j].ev.value, lb⟩⟩] := by
  unfold fedOf
  rw [List.take_add_one, List.getElem?_eq_getElem hj, List.filter_append, List.map_append]
  cases h : l[j].mark <;> simp [h]
theorem fed_len (lb : Int) (l : List Inp) : (fedOf lb l).length ≤ l.length := by
  unfold fedOf
  rw [List.length_map]
  exact List.length_filter_le _ _
theorem fed_step (x : Int) (p : Pp) (E : List Inp) (e : Ev) (he : evRight e.time e.key e.label = true) : (cF x p E).feed e = ⟨0, 0, E.length, x, p, E ++ [⟨false, e⟩], []⟩ := by
  unfold Cl.feed cF
  rw [if_pos he]
theorem fed_offer (x : Int) (p : Pp) (E : List Inp) (i : Inp) (room : Int) (h0 : 0 ≤ x) (h1 : x < 8) (hE : E.length < 1000) (e : Ev) (hi : ownB x i = true) : (⟨0, 0, E.length, x, p, E ++ [⟨false, e⟩], []⟩ : Cl).offer room i = (4, cF x p (E ++ [⟨false, e⟩])) := by
  unfold Cl.offer
  dsimp only
  rw [hi, if_neg (by decide), if_pos rfl]
  unfold Cl.refuse cF
  dsimp only
  rw [List.length_append]
  have : wrap64 ((E.length : Int) + 1) = (E.length : Int) + 1 := by unfold wrap64; omega
  rw [this]
  rfl
theorem lab_ne (id : Int) (h0 : 0 ≤ id) (h1 : id < 8) : lab id ≠ 0 := by
  unfold lab
  obtain rfl | rfl | rfl | rfl | rfl | rfl | rfl | rfl : id = 0 ∨ id = 1 ∨ id = 2 ∨ id = 3 ∨ id = 4 ∨ id = 5 ∨ id = 6 ∨ id = 7 := by omega
  all_goals decide
set_option maxHeartbeats 4000000 in
set_option maxRecDepth 100000 in
theorem CellFed_any (w : World) (cs : Array Value) (k : PipeQ) (hk : isPq w cs.toList k) (al : Option Addr) (cap : Nat) (l : List InQ) (hle : l.length ≤ cap) (hmx : cap ≤ maxLen) (hnil : al = none → cap = 0) (hl : SlAt 4 isIq w al l) (idn : Int) (hidn : (Lit.int .i64 idn).wf = true) (fr : Int) (hfr : (Lit.int .u64 fr).wf = true) :
    Calls Try.prog 7 #[.agg cs, .slice al l.length cap, .int .i64 idn, .int .u64 fr] w fun e w' => e = .returned (.bool true) ∧ Below w.heap.size w w' := by
  obtain ⟨ao, co, an, cn, hcs, hso, hsn, hkw⟩ := hk
  obtain rfl : cs = #[.slice ao k.ops.length co, .slice an k.ns.length cn, .int .i64 k.size, .int .i64 k.slide, .int .i64 k.agg, .int .i64 k.sink, .int .i64 k.feed] := by
    obtain ⟨cl⟩ := cs
    dsimp only at hcs
    rw [hcs]
  clear hcs
  obtain ⟨hli, hlw⟩ := hl.iq
  have hridn := i64_range hidn
  have hlm : l.length ≤ maxLen := by omega
  obtain ⟨hpr, hpo, hpl, hps1, hps2, hps3, hps4⟩ := pipeOf_right k
  have HPR := Lib.hid (bare_right hpr)
  have HPO := Lib.hid hpo
  have HLI := Lib.hid hli
  have HLW := Lib.hid hlw
  have hst0 := (St.start w).alloc (.cells #[.slice ao k.ops.length co, .slice an k.ns.length cn, .int .i64 k.size, .int .i64 k.slide, .int .i64 k.agg, .int .i64 k.sink, .int .i64 k.feed] 56)
  have HC0 := Lib.hid (pipe_st hst0 k hkw ao an co cn (Seen.old hso) (Seen.old hsn))
  clear hst0 hli hlw hl hidn hso hsn hkw hle hnil hpr hpo
  unfold maxLen at hmx
  generalize pipeOf k = p at *
  go_enter Try.func7, Try.ntmps7
  have hil := inputs_len l
  have hrg := inputs_rng l
  obtain ⟨ins, hins⟩ : ∃ x, x = inputsOf l := ⟨_, rfl⟩
  rw [← hins] at hil hrg
  have HINS := Lib.hid hins
  have HRG := Lib.hid hrg
  clear hins hrg
  obtain ⟨x, hx⟩ : ∃ x : Nat, within idn 0 7 = x := ⟨(within idn 0 7).toNat, by have := within_range idn 0 7 (by omega); omega⟩
  have hx8 : x < 8 := by have := within_range idn 0 7 (by omega); omega
  have hwi : ∀ w', Calls Try.prog 21 #[.int .i64 idn, .int .i64 0, .int .i64 7] w' fun e w'' => e = .returned (.int .i64 x) ∧ w'' = w' := fun w' => by have h := Within_at idn 0 7 w' hridn.1 hridn.2 (by decide) (by decide) (by decide); rw [hx] at h; exact h.mono fun e w'' hh => ⟨hh.1, hh.2.symm⟩
  have HWI := Lib.hid hwi
  obtain ⟨lb, hlb⟩ : ∃ b, b = bits .or .u64 fr 1 := ⟨_, rfl⟩
  have hlw : (Lit.int .u64 lb).wf = true := by rw [hlb]; exact or_wf _ _
  have hln : lb ≠ 0 := by rw [hlb]; exact or_ne1 fr
  have HLB := Lib.hid hlb
  have HLW2 := Lib.hid hlw
  have HLN := Lib.hid hln
  have HOP0 := Lib.hid (rfl : p.bare.ops = [])
  have HRW := Lib.hid (show rightW p.bare.size p.bare.slide from by have h := HPR.out; unfold rightPp at h; simp at h; exact h.1.1.1.2)
  clear hwi hx hridn hlb hlw hln hfr
  go_upto_block 0 with (first
    | (go_at_call 20; (with_reducible refine HC0.out.mono ?_); rintro e w1 ⟨pa, pc, rfl, hpn, hst1⟩; have hs1 := hst1.alloc (.cells #[.slice none 0 0, .int .i64 p.size, .int .i64 p.slide, .int .i64 p.agg, .int .i64 p.sink, .int .i64 p.feed] 26); have hcn := cellNew_st hs1 x 0 (by omega) (by omega) (by decide) (by decide) p.bare none 0 (Seen.old (.inl rfl)) (fun _ => rfl) (fun _ h => by cases h) (Nat.zero_le _) HPR.out; have hcn : Calls Try.prog 10 #[.int .i64 x, .int .i64 0, .agg #[.slice none 0 0, .int .i64 p.size, .int .i64 p.slide, .int .i64 p.agg, .int .i64 p.sink, .int .i64 p.feed]] _ _ := hcn; have HCN := Lib.hid hcn; clear HC0 hst1 hpn hs1 hcn)
    | (go_at_call 21; (with_reducible refine (HWI.out _).mono ?_); rintro e wz ⟨rfl, hwz⟩; have hwz := hwz.symm; subst hwz)
    | (go_at_call 10; (with_reducible refine HCN.out.mono ?_); rintro e w2 ⟨cb, rfl, hst2⟩; have HCI := Lib.hid (inputs_st hst2 al cap l (Seen.old HLI.out) HLW.out hlm); clear HCN hst2)
    | (go_at_call 22; (with_reducible refine HCI.out.mono ?_); rintro e w5 ⟨vi, rfl, hst5⟩; rw [← HINS.out] at hst5; obtain ⟨ia, ic, rfl, hic, him, hin, _⟩ := hst5.sl Inp.len 4 rfl; have HS5 := Lib.hid hst5; clear hst5 HCI))
  generalize w1.heap.size = g at *
  have hs5 := HS5.out
  rw [show newC 0 (x : Int) p.bare = cF x p.bare [] from rfl] at hs5
  have HS6 := Lib.hid hs5
  clear HS5 hs5
  try rw [← HLB.out]
  go_cut [12, 15] from 33 to 61 (fun u _ wx => u = .int .i64 (fedOf lb ins).length ∧ St w wx [pt w.heap.size (.cells #[.slice ao k.ops.length co, .slice an k.ns.length cn, .int .i64 k.size, .int .i64 k.slide, .int .i64 k.agg, .int .i64 k.sink, .int .i64 k.feed] 56 (0, 0)), ownP 92 2 Opr.cells (.slice pa p.ops.length pc) p.ops, pt g (.cells #[.slice none 0 0, .int .i64 p.size, .int .i64 p.slide, .int .i64 p.agg, .int .i64 p.sink, .int .i64 p.feed] 26 (0, 0)), clP cb (cF x p.bare (fedOf lb ins)) (2 * ins.length), ownP 33 5 Inp.cells (.slice ia ins.length ic) ins])
  case first =>
    go_wp2_with fail
    go_loopw [12, 33] (fun nv iv wr => ∃ j : Nat, j ≤ ins.length ∧ iv = .int .i64 j ∧ nv = .int .i64 (fedOf lb (ins.take j)).length ∧ St w wr [pt w.heap.size (.cells #[.slice ao k.ops.length co, .slice an k.ns.length cn, .int .i64 k.size, .int .i64 k.slide, .int .i64 k.agg, .int .i64 k.sink, .int .i64 k.feed] 56 (0, 0)), ownP 92 2 Opr.cells (.slice pa p.ops.length pc) p.ops, pt g (.cells #[.slice none 0 0, .int .i64 p.size, .int .i64 p.slide, .int .i64 p.agg, .int .i64 p.sink, .int .i64 p.feed] 26 (0, 0)), clP cb (cF x p.bare (fedOf lb (ins.take j))) (2 * j), ownP 33 5 Inp.cells (.slice ia ins.length ic) ins]) (fun _ iv _ => ins.length - (intOf iv).toNat)
    case atStart => exact ⟨0, by omega, rfl, rfl, HS6.out⟩
    case round =>
      obtain ⟨j, hj, rfl, rfl, hst⟩ := hrel
      by_cases hlt : (j : Int) < ins.length
      · have hjn : j < ins.length := by omega
        obtain ⟨b, o, rfl, hbl, d0, d1, d2, d3, d4⟩ := (hst.slOf Inp.len 4 rfl).inAt j hjn
        have hrg := HRG.out _ (List.getElem_mem hjn)
        have hft := fed_take lb hjn
        have hfl := fed_len lb (ins.take j)
        have htl := List.length_take_le j ins
        rw [List.getElem?_eq_getElem hjn] at d0 d1 d2 d3 d4
        simp only [Option.getD_some] at d0 d1 d2 d3 d4
        generalize ins[j] = i at *
        obtain ⟨im, ⟨ti, ki, vi2, li⟩⟩ := i
        dsimp only at d0 d1 d2 d3 d4 hft hrg
        generalize fedOf lb (ins.take j) = E at *
        have hEl : E.length ≤ 25 := by omega
        cases im with
        | true =>
          rw [if_pos rfl] at hft
          have HFT := Lib.hid hft
          have HST := Lib.hid hst
          clear hft hst hrg
          go_wp2_with fail
          go_roundw
          case rel => exact ⟨j + 1, by omega, by go_num, by rw [HFT.out], by rw [HFT.out]; exact ((HST.out.alloc _).imp 3 rfl fun h hh => clP_mono (by omega) hh).pick [0, 1, 2, 3, 4] (by decide)⟩
          case measure => simp [intOf]; omega
        | false =>
          rw [if_neg (by decide)] at hft
          have hev : evRight ti ki lb = true := by unfold evRight; simp [HLN.out]; omega
          have how : ownB x ⟨false, ⟨ti, ki, vi2, lb⟩⟩ = true := by
            show evRight ti ki (lab x) = true
            unfold evRight
            simp [lab_ne (x : Int) (by omega) (by omega)]
            omega
          have hwf : (⟨ti, ki, vi2, lb⟩ : Ev).wf := ⟨hrg.1.1, hrg.1.2.1, hrg.1.2.2.1, HLW2.out⟩
          have hsb := (hst.alloc (.cells #[.bool false, .int .i64 ti, .int .i64 ki, .int .i64 vi2, .int .u64 lb] 33))
          have hfd := feed_st hsb 3 rfl ⟨ti, ki, vi2, lb⟩ hwf (by omega)
          have HFD := Lib.hid hfd
          have HFS := Lib.hid (fed_step x p.bare E ⟨ti, ki, vi2, lb⟩ hev)
          have HFO := Lib.hid (fed_offer x p.bare E ⟨false, ⟨ti, ki, vi2, lb⟩⟩ 99 (by omega) (by omega) (by omega) ⟨ti, ki, vi2, lb⟩ how)
          have HFT := Lib.hid hft
          have HWF := Lib.hid hwf
          have hwe : wrap64 ((E.length : Int) + 1) = (E.length : Int) + 1 := by unfold wrap64; omega
          have HNJ := Lib.hid (show 2 * j + 1 < 2 ^ 28 by omega)
          have hel : (E ++ [(⟨false, ⟨ti, ki, vi2, lb⟩⟩ : Inp)]).length = E.length + 1 := by simp
          have HEL := Lib.hid hel
          clear hft hst hrg hev how hwf hsb hfd hel
          go_wp2_with (first
            | (go_at_call 27; (with_reducible refine HFD.out.mono ?_); rintro e w7 ⟨rfl, h7⟩; rw [HFS.out] at h7; obtain ⟨k0, k1, k2, k5, ⟨qa, qc, k3⟩, hlc⟩ := cl_cells h7 3 rfl; dsimp only at k3; rw [HEL.out] at k3; obtain ⟨e0, e1, e2, e3, e4⟩ := cells5 (h7.blk 5 rfl).1 (Below.refl _ _); have HW := Lib.hid (waiting_st qa (E.length + 1) qc h7); clear h7 HFD k0 k1 k2 k5)
            | (go_at_call 25; (with_reducible refine HW.out.mono ?_); rintro e w8 ⟨rfl, h8⟩; obtain ⟨e0, e1, e2, e3, e4⟩ := cells5 (h8.blk 5 rfl).1 (Below.refl _ _); have hof := offer_st h8 3 rfl 99 ⟨false, ⟨ti, ki, vi2, lb⟩⟩ HWF.out HNJ.out; have HOC := Lib.hid hof; clear h8 HW hof)
            | (go_at_call 11; (with_reducible refine HOC.out.mono ?_); rintro e w9 ⟨rfl, h9⟩; rw [HFO.out] at h9 ⊢; have HS9 := Lib.hid (h9.pick [0, 1, 2, 3, 4] (by decide)); clear h9 HOC))
          go_roundw
          case rel => exact ⟨j + 1, by omega, by go_num, by rw [HFT.out, HEL.out]; go_num, by rw [HFT.out]; exact HS9.out⟩
          case measure => simp [intOf]; omega
      · obtain rfl : j = ins.length := by omega
        rw [List.take_length] at hst ⊢
        have HST := Lib.hid hst
        clear hst
        go_wp2
        go_meet
        exact ⟨rfl, HST.out⟩
  case rest =>
    obtain ⟨rfl, h⟩ := hcut
    have hfl := fed_len lb ins
    have hEi : ∀ i ∈ fedOf lb ins, i.mark = false ∧ 0 ≤ i.ev.time ∧ i.ev.time ≤ 1099511627776 ∧ i.ev.label = lb := by
      intro i hi
      obtain ⟨q, hq, rfl⟩ := List.mem_map.1 hi
      have := HRG.out q (List.mem_filter.1 hq).1
      exact ⟨rfl, this.2.1, by show q.ev.time ≤ _; omega, rfl⟩
    generalize fedOf lb ins = E at *
    have hE25 : E.length ≤ 25 := by omega
    obtain ⟨hfed, hrows⟩ := FedOK.all HLW2.out E (newR p.bare) 0 (FedOK.new lb p.bare) rfl HRW.out hEi
    rw [Nat.zero_add] at hfed
    obtain ⟨c2, hc2⟩ : ∃ c, c = (cF x p.bare E).serve E.length := ⟨_, rfl⟩
    have htk : c2.taken = E := by
      rw [hc2]
      show [] ++ E.take E.length = E
      rw [List.nil_append, List.take_length]
    have hrn : c2.rn = afterR (newR p.bare) E := by
      unfold Cl.rn
      rw [htk, hc2]
      rfl
    have hrw0 : c2.rows = [] := by
      unfold Cl.rows
      rw [htk, hc2]
      exact hrows
    have hq2 : c2.q.length = 0 := by
      rw [hc2]
      show (E.drop E.length).length = 0
      simp
    rw [← hrn] at hfed
    have hfa := feed_st h 3 rfl ⟨-1, 0, 0, 1⟩ ⟨by decide, by decide, by decide, by decide⟩ (by omega)
    rw [show (cF x p.bare E).feed ⟨-1, 0, 0, 1⟩ = cF x p.bare E from rfl] at hfa
    have hfa : Calls Try.prog 27 #[.pointer (some ⟨cb, 0, none⟩), .agg #[.int .i64 (-1), .int .i64 0, .int .i64 0, .int .u64 1]] _ _ := hfa
    have HFA := Lib.hid hfa
    have HNN := Lib.hid (show 2 * ins.length + 2 < 2 ^ 28 by omega)
    have hj2 : max 0 (min (99 : Int) (cF x p.bare E).q.length) = (E.length : Int) := by show max 0 (min (99 : Int) E.length) = _; omega
    have HJ2 := Lib.hid hj2
    have HC2 := Lib.hid hc2
    have HFD := Lib.hid hfed
    have HTK := Lib.hid htk
    have HRW0 := Lib.hid (show c2.rows.length = 0 by rw [hrw0]; rfl)
    have HQ2 := Lib.hid hq2
    have HSEEN := Lib.hid hfed.seen
    have HTL := Lib.hid (show c2.taken.length = E.length by rw [htk])
    clear h hEi hfed hrows hc2 htk hrn hrw0 hq2 hfa hj2 HS6
    obtain ⟨EL, hEL⟩ : ∃ n, n = E.length := ⟨_, rfl⟩
    go_upto_block 2 with (first
      | (go_at_call 27; (with_reducible refine HFB.out.mono ?_); rintro e w7 ⟨rfl, h7⟩; obtain ⟨k0, k1, k2, k5, ⟨qa, qc, k3⟩, hlc⟩ := cl_cells h7 3 rfl; replace k3 : w7.cell? ⟨cb, 3, none⟩ = some (.slice qa E.length qc) := k3; have HW := Lib.hid (waiting_st qa E.length qc h7); clear h7 HFB k0 k1 k2 k5)
      | (go_at_call 27; (with_reducible refine HFA.out.mono ?_); rintro e w6 ⟨rfl, h6⟩; have h6 : St w w6 [pt w.heap.size (.cells #[.slice ao k.ops.length co, .slice an k.ns.length cn, .int .i64 k.size, .int .i64 k.slide, .int .i64 k.agg, .int .i64 k.sink, .int .i64 k.feed] 56 (0, 0)), ownP 92 2 Opr.cells (.slice pa p.ops.length pc) p.ops, pt g (.cells #[.slice none 0 0, .int .i64 p.size, .int .i64 p.slide, .int .i64 p.agg, .int .i64 p.sink, .int .i64 p.feed] 26 (0, 0)), clP cb (cF x p.bare E) (2 * ins.length + 1), ownP 33 5 Inp.cells (.slice ia ins.length ic) ins] := h6; have hfb := feed_st h6 3 rfl ⟨1, 0, 0, 0⟩ ⟨by decide, by decide, by decide, by decide⟩ (by have := HNN.out; omega); rw [show (cF x p.bare E).feed ⟨1, 0, 0, 0⟩ = cF x p.bare E from rfl] at hfb; have hfb : Calls Try.prog 27 #[.pointer (some ⟨cb, 0, none⟩), .agg #[.int .i64 1, .int .i64 0, .int .i64 0, .int .u64 0]] _ _ := hfb; have HFB := Lib.hid hfb; clear h6 HFA hfb)
      | (go_at_call 25; (with_reducible refine HW.out.mono ?_); rintro e w8 ⟨rfl, h8⟩; obtain ⟨k0, k1, k2, k5, _, hlc⟩ := cl_cells h8 3 rfl; replace k0 : w8.cell? ⟨cb, 0, none⟩ = some (.int .i64 0) := k0; replace k1 : w8.cell? ⟨cb, 1, none⟩ = some (.int .i64 0) := k1; replace k2 : w8.cell? ⟨cb, 2, none⟩ = some (.int .i64 E.length) := k2; have HSP := Lib.hid (spent_st 0 0 (E.length : Int) h8); clear h8 HW)
      | (go_at_call 28; (with_reducible refine HSP.out.mono ?_); rintro e w9 ⟨rfl, h9⟩; obtain ⟨k0, k1, k2, k5, _, hlc⟩ := cl_cells h9 3 rfl; replace k0 : w9.cell? ⟨cb, 0, none⟩ = some (.int .i64 0) := k0; replace k1 : w9.cell? ⟨cb, 1, none⟩ = some (.int .i64 0) := k1; replace k2 : w9.cell? ⟨cb, 2, none⟩ = some (.int .i64 E.length) := k2; have HRF := Lib.hid (refused_st 0 0 (E.length : Int) h9); clear h9 HSP)
      | (go_at_call 19; (with_reducible refine HRF.out.mono ?_); rintro e wa ⟨rfl, ha⟩; have HSV := Lib.hid (serve_st ha 3 rfl 99 E.length HJ2.out HNN.out); clear ha HRF)
      | (go_at_call 15; (with_reducible refine HSV.out.mono ?_); rintro e wb ⟨vb, rfl, hb⟩; rw [← HC2.out] at hb; obtain ⟨rb, pb, c4, hlr, r0, r1, r2, r3, _, _⟩ := cl_run hb 3 rfl HNN.out; rw [HSEEN.out] at r2; have HSN := Lib.hid (seen_st c2.rn.c.mark c2.rn.c.late (E.length : Int) hb); clear hb HSV)
      | (go_at_call 29; (with_reducible refine HSN.out.mono ?_); rintro e wd ⟨rfl, hd⟩; obtain ⟨rb, pb, c4, hlr, r0, r1, r2, r3, hop, _⟩ := cl_run hd 3 rfl HNN.out; have HOP := Lib.hid hop; clear hd HSN hop)
      | (go_at_call 30; (with_reducible refine HOP.out.mono ?_); rintro e wf ⟨vf, rfl, hf⟩; obtain ⟨oa, oc, rfl, _, _, _, _⟩ := hf.sl Rw.len 6 rfl; have HS12 := Lib.hid hf; clear hf HOP))
    have h := HS12.out
    obtain ⟨VR, hVR⟩ : ∃ zz, zz = rowsR (cF x p.bare E).rn ((cF x p.bare E).q.take E.length) := ⟨_, rfl⟩
    obtain ⟨O, hO⟩ : ∃ zz, zz = rowsL c2.rn.L := ⟨_, rfl⟩
    obtain ⟨_, _, _, _, _, hok, _⟩ := cl_see h 3 rfl
    have hb1 := clRows_len hok
    rw [HTK.out] at hb1
    have hol : O.length ≤ 200 := by rw [hO]; simp only [rowsL, List.length_map]; omega
    have hlab : ∀ r ∈ O, r.label = lb := fun r hr => by
      rw [hO] at hr
      obtain ⟨q, hq, rfl⟩ := List.mem_map.1 hr
      exact HFD.out.lab q.1 q.2 hq
    have hpos : 0 < E.length → 0 < c2.rn.L.length := fun h => total_ne (by have := HFD.out.tot; omega)
    have h : St w wf [pt w.heap.size (.cells #[.slice ao k.ops.length co, .slice an k.ns.length cn, .int .i64 k.size, .int .i64 k.slide, .int .i64 k.agg, .int .i64 k.sink, .int .i64 k.feed] 56 (0, 0)), ownP 92 2 Opr.cells (.slice pa p.ops.length pc) p.ops, pt g (.cells #[.slice none 0 0, .int .i64 p.size, .int .i64 p.slide, .int .i64 p.agg, .int .i64 p.sink, .int .i64 p.feed] 26 (0, 0)), clP cb (c2) (2 * ins.length + 2), ownP 33 5 Inp.cells (.slice ia ins.length ic) ins, ownP 43 5 Rw.cells vb VR, ownP 43 5 Rw.cells (.slice oa O.length oc) O] := by rw [hO, hVR]; exact h
    rw [← hO]
    have HS13 := Lib.hid h
    have HLAB := Lib.hid hlab
    have HPOS := Lib.hid hpos
    clear h hVR hO hok hb1 hlab hpos HS12
    go_cut [17] from 130 to 138 (fun _ wx => St w wx [pt w.heap.size (.cells #[.slice ao k.ops.length co, .slice an k.ns.length cn, .int .i64 k.size, .int .i64 k.slide, .int .i64 k.agg, .int .i64 k.sink, .int .i64 k.feed] 56 (0, 0)), ownP 92 2 Opr.cells (.slice pa p.ops.length pc) p.ops, pt g (.cells #[.slice none 0 0, .int .i64 p.size, .int .i64 p.slide, .int .i64 p.agg, .int .i64 p.sink, .int .i64 p.feed] 26 (0, 0)), clP cb (c2) (2 * ins.length + 2), ownP 33 5 Inp.cells (.slice ia ins.length ic) ins, ownP 43 5 Rw.cells vb VR, ownP 43 5 Rw.cells (.slice oa O.length oc) O])
    case first =>
      go_wp2_with fail
      go_loopw [130] (fun iv wr => ∃ j : Nat, j ≤ O.length ∧ iv = .int .i64 j ∧ St w wr [pt w.heap.size (.cells #[.slice ao k.ops.length co, .slice an k.ns.length cn, .int .i64 k.size, .int .i64 k.slide, .int .i64 k.agg, .int .i64 k.sink, .int .i64 k.feed] 56 (0, 0)), ownP 92 2 Opr.cells (.slice pa p.ops.length pc) p.ops, pt g (.cells #[.slice none 0 0, .int .i64 p.size, .int .i64 p.slide, .int .i64 p.agg, .int .i64 p.sink, .int .i64 p.feed] 26 (0, 0)), clP cb (c2) (2 * ins.length + 2), ownP 33 5 Inp.cells (.slice ia ins.length ic) ins, ownP 43 5 Rw.cells vb VR, ownP 43 5 Rw.cells (.slice oa O.length oc) O]) (fun iv _ => O.length - (intOf iv).toNat)
      case atStart => exact ⟨0, by omega, rfl, HS13.out⟩
      case round =>
        obtain ⟨j, hj, rfl, hst⟩ := hrel
        by_cases hlt : (j : Int) < O.length
        · have hjn : j < O.length := by omega
          obtain ⟨b, o, rfl, hbl, d0, d1, d2, d3, d4⟩ := (hst.slOf Rw.len 6 rfl).rwAt j hjn
          have hll := HLAB.out O[j] (List.getElem_mem hjn)
          rw [List.getElem?_eq_getElem hjn] at d0 d1 d2 d3 d4
          simp only [Option.getD_some] at d0 d1 d2 d3 d4
          generalize O[j] = row at *
          obtain ⟨rs, rk, rv, rc, rl⟩ := row
          dsimp only at d0 d1 d2 d3 d4 hll
          rw [hll] at d4
          have HST := Lib.hid hst
          clear hst hll
          go_wp2_with fail
          go_roundw
          case rel => exact ⟨j + 1, by omega, by go_num, (HST.out.alloc _).pick [0, 1, 2, 3, 4, 5, 6] (by decide)⟩
          case measure => simp [intOf]; omega
        · obtain rfl : j = O.length := by omega
          have HST := Lib.hid hst
          clear hst
          go_wp2
          go_meet
          exact HST.out
    case rest =>
      have h := hcut
      obtain ⟨k0, k1, k2, k5, ⟨qa, qc, k3⟩, hlc⟩ := cl_cells h 3 rfl
      rw [HQ2.out] at k3
      have HW := Lib.hid (waiting_st qa 0 qc h)
      clear hcut h HS13 k0 k1 k2 k5 hEL
      by_cases hE0 : 0 < E.length
      · obtain ⟨ln, hln⟩ : ∃ n, c2.rn.L.length = n := ⟨_, rfl⟩
        have hlp := HPOS.out hE0
        rw [hln] at hlp
        have HLNN := Lib.hid hln
        have hlp2 : (0 : Int) < ln := by omega
        have hE1 : ((E.length : Int) == 0) = false := by simp; intro hh; rw [hh] at hE0; simp at hE0
        clear hln
        obtain ⟨eln, heln⟩ : ∃ n, E.length = n := ⟨_, rfl⟩
        rw [heln] at HTL hE1 hE0 ⊢
        have hE2 : ¬ (eln : Int) = 0 := by omega
        have hE3 : ¬ eln = 0 := by omega
        clear heln
        go_wp2_with (first
        | (go_at_call 25; (with_reducible refine HW.out.mono ?_); rintro e wj ⟨rfl, hj⟩; have HTA := Lib.hid (taken_st hj 3 rfl HNN.out); clear hj HW)
        | (go_at_call 24; (with_reducible refine HTA.out.mono ?_); rintro e wk ⟨vk, rfl, hk⟩; obtain ⟨ka, kc, rfl, _, _, _, _⟩ := hk.sl Inp.len 7 rfl; rw [HTL.out] at hk ⊢; have HCN := Lib.hid (count_st hk 3 rfl); clear hk HTA)
        | (go_at_call 26; (with_reducible refine HCN.out.mono ?_); rintro e wl ⟨rfl, hl⟩; rw [HRW0.out]; obtain ⟨rb, pb, c4, hlr, r0, r1, r2, r3, _, hlen⟩ := cl_run hl 3 rfl HNN.out; rw [HLNN.out] at hlen; have HLEN := Lib.hid hlen; clear hl HCN hlen)
        | (go_at_call 31; (with_reducible refine HLEN.out.mono ?_); rintro e wm ⟨rfl, hm⟩; have HZ := Lib.hid hm; clear hm HLEN)
        | (go_at_call 4; (with_reducible refine (CellRuns_any _).mono ?_); rintro e w18 ⟨rfl, hb18⟩; have HY := Lib.hid (HZ.out.kept hb18); clear hb18))
        go_ret
        exact ⟨rfl, HY.out.below⟩
      · obtain hE1 : E.length = 0 := by omega
        rw [hE1] at HTL ⊢
        go_wp2_with (first
        | (go_at_call 25; (with_reducible refine HW.out.mono ?_); rintro e wj ⟨rfl, hj⟩; have HTA := Lib.hid (taken_st hj 3 rfl HNN.out); clear hj HW)
        | (go_at_call 24; (with_reducible refine HTA.out.mono ?_); rintro e wk ⟨vk, rfl, hk⟩; obtain ⟨ka, kc, rfl, _, _, _, _⟩ := hk.sl Inp.len 7 rfl; rw [HTL.out] at hk ⊢; have HCN := Lib.hid (count_st hk 3 rfl); clear hk HTA)
        | (go_at_call 26; (with_reducible refine HCN.out.mono ?_); rintro e wl ⟨rfl, hl⟩; rw [HRW0.out]; have HZ := Lib.hid hl; clear hl HCN)
        | (go_at_call 4; (with_reducible refine (CellRuns_any _).mono ?_); rintro e w18 ⟨rfl, hb18⟩; have HY := Lib.hid (HZ.out.kept hb18); clear hb18))
        go_ret
        exact ⟨rfl, HY.out.below⟩
end Go.Proofs.Ythegopajkljlmaa
