/- The walk of CellLabels. -/
import Derived.Test.YthegopajkljlmaaCellRuns
import Derived.Test.YthegopajkljlmaaLabLaw
set_option linter.unusedVariables false
set_option linter.unusedSimpArgs false
namespace Go.Proofs.Ythegopajkljlmaa
open Go.RowKit Go.Maps
set_option maxHeartbeats 4000000 in
set_option maxRecDepth 100000 in
theorem CellLabels_any (w : World) (cs : Array Value) (k : PipeQ) (hk : isPq w cs.toList k) (al : Option Addr) (cap : Nat) (l : List InQ) (hle : l.length ≤ cap) (hmx : cap ≤ maxLen) (hnil : al = none → cap = 0) (hl : SlAt 4 isIq w al l) (idn : Int) (hid : (Lit.int .i64 idn).wf = true) (bl : Option Addr) (cap2 : Nat) (l2 : List Int) (hle2 : l2.length ≤ cap2) (hmx2 : cap2 ≤ maxLen) (hnil2 : bl = none → cap2 = 0) (hl2 : SlAt 1 (isInt .u64) w bl l2) :
    Calls Try.prog 5 #[.agg cs, .slice al l.length cap, .int .i64 idn, .slice bl l2.length cap2] w fun e w' => e = .returned (.bool true) ∧ Below w.heap.size w w' := by
  obtain ⟨ao, co, an, cn, hcs, hso, hsn, hkw⟩ := hk
  obtain rfl : cs = #[.slice ao k.ops.length co, .slice an k.ns.length cn, .int .i64 k.size, .int .i64 k.slide, .int .i64 k.agg, .int .i64 k.sink, .int .i64 k.feed] := by
    obtain ⟨cl⟩ := cs
    dsimp only at hcs
    rw [hcs]
  clear hcs
  obtain ⟨hli, hlw⟩ := hl.iq
  obtain ⟨hli2, hlw2⟩ := hl2.ints
  have hrid := i64_range hid
  have hlm : l.length ≤ maxLen := by omega
  obtain ⟨hpr, hpo, hpl, hps1, hps2, hps3, hps4⟩ := pipeOf_right k
  have HPR := Lib.hid hpr
  have HPO := Lib.hid hpo
  have HLI := Lib.hid hli
  have HLW := Lib.hid hlw
  have HLI2 := Lib.hid hli2
  have HLW2 := Lib.hid hlw2
  have hst0 := (St.start w).alloc (.cells #[.slice ao k.ops.length co, .slice an k.ns.length cn, .int .i64 k.size, .int .i64 k.slide, .int .i64 k.agg, .int .i64 k.sink, .int .i64 k.feed] 56)
  have HC0 := Lib.hid (pipe_st hst0 k hkw ao an co cn (Seen.old hso) (Seen.old hsn))
  clear hst0 hli hlw hl hid hso hsn hkw hle hnil hpr hpo hli2 hlw2 hl2 hnil2
  unfold maxLen at hmx hmx2
  have hL0 : (0 : Int) ≤ l2.length := by omega
  have hL2 : (l2.length : Int) ≤ 9223372036854775807 := by omega
  clear hmx2
  generalize pipeOf k = p at *
  have hil := inputs_len l
  have hiw := inputs_wf l
  obtain ⟨ins, hins⟩ : ∃ x, x = inputsOf l := ⟨_, rfl⟩
  rw [← hins] at hil hiw
  have HINS := Lib.hid hins
  have HIW := Lib.hid hiw
  clear hins hiw
  obtain ⟨x, hx⟩ : ∃ x : Nat, within idn 0 7 = x := ⟨(within idn 0 7).toNat, by have := within_range idn 0 7 (by omega); omega⟩
  have hx8 : x < 8 := by have := within_range idn 0 7 (by omega); omega
  have hwi : ∀ w', Calls Try.prog 21 #[.int .i64 idn, .int .i64 0, .int .i64 7] w' fun e w'' => e = .returned (.int .i64 x) ∧ w'' = w' := fun w' => by have h := Within_at idn 0 7 w' hrid.1 hrid.2 (by decide) (by decide) (by decide); rw [hx] at h; exact h.mono fun e w'' hh => ⟨hh.1, hh.2.symm⟩
  have HWI := Lib.hid hwi
  clear hwi hx hrid
  go_enter Try.func5, Try.ntmps5
  go_upto_region 3 with (first
    | (go_at_call 20; (with_reducible refine HC0.out.mono ?_); rintro e w1 ⟨pa, pc, rfl, hpn, hst1⟩; have HPN := Lib.hid hpn; have HS1 := Lib.hid (hst1.alloc (.cells #[.slice pa p.ops.length pc, .int .i64 p.size, .int .i64 p.slide, .int .i64 p.agg, .int .i64 p.sink, .int .i64 p.feed] 26)); clear HC0 hst1 hpn)
    | (go_at_call 21; (with_reducible refine (HWI.out _).mono ?_); rintro e wz ⟨rfl, hwz⟩; have hwz := hwz.symm; subst hwz))
  generalize w1.heap.size = g at *
  refine wp_at HS1.out ?_
  intro w2 hst2
  clear HS1
  have HP6 := Lib.hid (cells6 (hst2.drew.blk 2 rfl).1 (Below.refl _ _))
  have HCA := Lib.hid (cellNew_st hst2.drew x 99 (by omega) (by omega) (by decide) (by decide) p pa pc (Seen.own Opr.len 1 rfl) HPN.out HPO.out (by omega) HPR.out)
  clear hst2
  go_cut [11, 12] from 24 to 29 (fun u v wx => ∃ ca da, u = .pointer (some ⟨ca, 0, none⟩) ∧ v = .pointer (some ⟨da, 0, none⟩) ∧ St w wx [pt w.heap.size (.cells #[.slice ao k.ops.length co, .slice an k.ns.length cn, .int .i64 k.size, .int .i64 k.slide, .int .i64 k.agg, .int .i64 k.sink, .int .i64 k.feed] 56 (0, 0)), ownP 92 2 Opr.cells (.slice pa p.ops.length pc) p.ops, pt g (.cells #[.slice pa p.ops.length pc, .int .i64 p.size, .int .i64 p.slide, .int .i64 p.agg, .int .i64 p.sink, .int .i64 p.feed] 26 (0, 0)), clP ca (newC 99 x p) 0, clP da (newC 99 x p) 0])
  case first =>
    go_region_held3 (fun w' => w'.cell? ⟨g, 0, none⟩ = some (.slice pa p.ops.length pc) ∧ w'.cell? ⟨g, 1, none⟩ = some (.int .i64 p.size) ∧ w'.cell? ⟨g, 2, none⟩ = some (.int .i64 p.slide) ∧ w'.cell? ⟨g, 3, none⟩ = some (.int .i64 p.agg) ∧ w'.cell? ⟨g, 4, none⟩ = some (.int .i64 p.sink) ∧ w'.cell? ⟨g, 5, none⟩ = some (.int .i64 p.feed)) (first | (with_reducible exact ⟨k0, k1, k2, k3, k4, k5⟩) | exact HP6.out)
      (first
        | (go_at_call 10; (with_reducible refine HCB.out.mono ?_); rintro e w4 ⟨da, rfl, h4⟩; obtain ⟨k0, k1, k2, k3, k4, k5⟩ := cells6 (h4.blk 2 rfl).1 (Below.refl _ _); have HS4 := Lib.hid h4; clear h4 HCB)
        | (go_at_call 10; (with_reducible refine HCA.out.mono ?_); rintro e w3 ⟨ca, rfl, h3⟩; obtain ⟨k0, k1, k2, k3, k4, k5⟩ := cells6 (h3.blk 2 rfl).1 (Below.refl _ _); have HCB := Lib.hid (cellNew_st h3 x 99 (by omega) (by omega) (by decide) (by decide) p pa pc (Seen.own Opr.len 1 rfl) HPN.out HPO.out (by omega) HPR.out); clear h3 HCA))
    all_goals
      go_wp2
      go_meet
      exact ⟨ca, da, rfl, rfl, HS4.out⟩
  case rest =>
    obtain ⟨ca, da, rfl, rfl, h⟩ := hcut
    have HCI := Lib.hid (inputs_st h al cap l (Seen.old HLI.out) HLW.out hlm)
    obtain ⟨c0, hc0⟩ : ∃ c, c = newC 99 x p := ⟨_, rfl⟩
    have ht0 : c0.taken = [] := by rw [hc0]; rfl
    have hi0 : c0.id = x := by rw [hc0]; rfl
    have ho0 : OwnQ c0.id c0.q := by rw [hc0]; exact fun _ h => by cases h
    have HC0 := Lib.hid hc0
    clear h hc0
    go_upto_block 0 with (go_at_call 22; (with_reducible refine HCI.out.mono ?_); rintro e w5 ⟨vi, rfl, hst5⟩; rw [← HINS.out, ← HC0.out] at hst5; obtain ⟨ia, ic, rfl, hic, him, hin, _⟩ := hst5.sl Inp.len 5 rfl; have HS5 := Lib.hid hst5; clear hst5 HCI)
    go_cut [13] from 39 to 64 (fun _ wx => St w wx [pt w.heap.size (.cells #[.slice ao k.ops.length co, .slice an k.ns.length cn, .int .i64 k.size, .int .i64 k.slide, .int .i64 k.agg, .int .i64 k.sink, .int .i64 k.feed] 56 (0, 0)), ownP 92 2 Opr.cells (.slice pa p.ops.length pc) p.ops, pt g (.cells #[.slice pa p.ops.length pc, .int .i64 p.size, .int .i64 p.slide, .int .i64 p.agg, .int .i64 p.sink, .int .i64 p.feed] 26 (0, 0)), clP ca (offAll c0 99 ins) (ins.length), clP da (offAll c0 99 ins) (ins.length), ownP 33 5 Inp.cells (.slice ia ins.length ic) ins])
    case first =>
      go_wp2_with fail
      go_loopw [39] (fun iv wr => ∃ j : Nat, j ≤ ins.length ∧ iv = .int .i64 j ∧ St w wr [pt w.heap.size (.cells #[.slice ao k.ops.length co, .slice an k.ns.length cn, .int .i64 k.size, .int .i64 k.slide, .int .i64 k.agg, .int .i64 k.sink, .int .i64 k.feed] 56 (0, 0)), ownP 92 2 Opr.cells (.slice pa p.ops.length pc) p.ops, pt g (.cells #[.slice pa p.ops.length pc, .int .i64 p.size, .int .i64 p.slide, .int .i64 p.agg, .int .i64 p.sink, .int .i64 p.feed] 26 (0, 0)), clP ca (offAll c0 99 (ins.take j)) (j), clP da (offAll c0 99 (ins.take j)) (j), ownP 33 5 Inp.cells (.slice ia ins.length ic) ins]) (fun iv _ => ins.length - (intOf iv).toNat)
      case atStart => exact ⟨0, by omega, rfl, HS5.out⟩
      case round =>
        obtain ⟨j, hj, rfl, hst⟩ := hrel
        by_cases hlt : (j : Int) < ins.length
        · have hjn : j < ins.length := by omega
          obtain ⟨b, o, rfl, hbl, d0, d1, d2, d3, d4⟩ := (hst.slOf Inp.len 5 rfl).inAt j hjn
          have hiw := HIW.out _ (List.getElem_mem hjn)
          have hof := offAll_take c0 99 hjn
          rw [List.getElem?_eq_getElem hjn] at d0 d1 d2 d3 d4
          simp only [Option.getD_some] at d0 d1 d2 d3 d4
          generalize ins[j] = i at *
          obtain ⟨im, ie⟩ := i
          dsimp only at d0 d1 d2 d3 d4 hiw
          generalize offAll c0 99 (ins.take j) = cj at *
          have hNj : j < 2 ^ 28 := by omega
          have HIW1 := Lib.hid hiw
          have HOF := Lib.hid hof
          have HST := Lib.hid hst
          by_cases hjl : (j : Int) < l2.length
          · have hjl2 : j < l2.length := by omega
            have hj63 : (j : Int) < cap2 := by omega
            obtain ⟨b2, o2, hbl2, hb2, f0⟩ := (HLI2.out.below hst.below (fun _ _ h => h)).intAt j hjl2
            subst hbl2
            have hlw := HLW2.out _ (List.getElem_mem hjl2)
            rw [List.getElem?_eq_getElem hjl2] at f0
            simp only [Option.getD_some] at f0
            generalize l2[j] = lb at *
            have HIW2 := Lib.hid (show (⟨ie.time, ie.key, ie.value, lb⟩ : Ev).wf from ⟨hiw.1, hiw.2.1, hiw.2.2.1, hlw⟩)
            have HLX := Lib.hid (offer_label cj 99 im ie.time ie.key ie.value lb ie.label)
            clear hst hiw hof hlw
            have hst2 : St w ((wr.alloc (.cells #[.bool im, .int .i64 ie.time, .int .i64 ie.key, .int .i64 ie.value, .int .u64 ie.label] 33)).alloc (.cells #[.bool im, .int .i64 ie.time, .int .i64 ie.key, .int .i64 ie.value, .int .u64 lb] 33)) ([pt w.heap.size (.cells #[.slice ao k.ops.length co, .slice an k.ns.length cn, .int .i64 k.size, .int .i64 k.slide, .int .i64 k.agg, .int .i64 k.sink, .int .i64 k.feed] 56 (0, 0)), ownP 92 2 Opr.cells (.slice pa p.ops.length pc) p.ops, pt g (.cells #[.slice pa p.ops.length pc, .int .i64 p.size, .int .i64 p.slide, .int .i64 p.agg, .int .i64 p.sink, .int .i64 p.feed] 26 (0, 0)), clP ca (cj) (j), clP da (cj) (j), ownP 33 5 Inp.cells (.slice (some ⟨b, o, none⟩) ins.length ic) ins] ++ [pt wr.heap.size (.cells #[.bool im, .int .i64 ie.time, .int .i64 ie.key, .int .i64 ie.value, .int .u64 ie.label] 33 (0, 0))] ++ [pt (wr.heap.size + 1) (.cells #[.bool im, .int .i64 ie.time, .int .i64 ie.key, .int .i64 ie.value, .int .u64 lb] 33 (0, 0))]) := by
              have := (HST.out.alloc (.cells #[.bool im, .int .i64 ie.time, .int .i64 ie.key, .int .i64 ie.value, .int .u64 ie.label] 33)).alloc (.cells #[.bool im, .int .i64 ie.time, .int .i64 ie.key, .int .i64 ie.value, .int .u64 lb] 33)
              rwa [World.size_alloc] at this
            have hoc := offer_st hst2.drew 3 rfl 99 ⟨im, ie⟩ HIW1.out hNj
            have a5 := cells5 (hst2.drew.blk 6 rfl).1 (Below.refl _ _)
            have b5 := cells5 (hst2.drew.blk 7 rfl).1 (Below.refl _ _)
            have HA10 := Lib.hid (And.intro a5.1 (And.intro a5.2.1 (And.intro a5.2.2.1 (And.intro a5.2.2.2.1 (And.intro a5.2.2.2.2 b5)))))
            have HOC := Lib.hid hoc
            clear hoc a5 b5 hst2
            go_wp2_with fail
            go_region_held3 (fun w' => w'.cell? ⟨wr.heap.size, 0, none⟩ = some (.bool im) ∧ w'.cell? ⟨wr.heap.size, 1, none⟩ = some (.int .i64 ie.time) ∧ w'.cell? ⟨wr.heap.size, 2, none⟩ = some (.int .i64 ie.key) ∧ w'.cell? ⟨wr.heap.size, 3, none⟩ = some (.int .i64 ie.value) ∧ w'.cell? ⟨wr.heap.size, 4, none⟩ = some (.int .u64 ie.label) ∧ w'.cell? ⟨wr.heap.size + 1, 0, none⟩ = some (.bool im) ∧ w'.cell? ⟨wr.heap.size + 1, 1, none⟩ = some (.int .i64 ie.time) ∧ w'.cell? ⟨wr.heap.size + 1, 2, none⟩ = some (.int .i64 ie.key) ∧ w'.cell? ⟨wr.heap.size + 1, 3, none⟩ = some (.int .i64 ie.value) ∧ w'.cell? ⟨wr.heap.size + 1, 4, none⟩ = some (.int .u64 lb)) (first | (with_reducible exact ⟨k0, k1, k2, k3, k4, e0, e1, e2, e3, e4⟩) | exact HA10.out)
              (first
                | (go_at_call 11; (with_reducible refine HOD.out.mono ?_); rintro e w3 ⟨rfl, h3⟩; rw [HLX.out] at h3 ⊢; obtain ⟨k0, k1, k2, k3, k4⟩ := cells5 (h3.blk 6 rfl).1 (Below.refl _ _); obtain ⟨e0, e1, e2, e3, e4⟩ := cells5 (h3.blk 7 rfl).1 (Below.refl _ _); have HS3 := Lib.hid (h3.pick [0, 1, 2, 3, 4, 5] (by decide)); clear h3 HOD)
                | (go_at_call 11; (with_reducible refine HOC.out.mono ?_); rintro e w2 ⟨rfl, h2⟩; obtain ⟨k0, k1, k2, k3, k4⟩ := cells5 (h2.blk 6 rfl).1 (Below.refl _ _); obtain ⟨e0, e1, e2, e3, e4⟩ := cells5 (h2.blk 7 rfl).1 (Below.refl _ _); have HOD := Lib.hid (offer_st h2 4 rfl 99 ⟨im, ⟨ie.time, ie.key, ie.value, lb⟩⟩ HIW2.out hNj); clear h2 HOC))
            all_goals
              go_wp2
              go_roundw
              case rel => exact ⟨j + 1, by omega, by go_num, by rw [HOF.out]; exact HS3.out⟩
              case measure => simp [intOf]; omega
          · obtain ⟨lb, hlb⟩ : ∃ lb : Int, lb = 0 := ⟨_, rfl⟩
            have HIW2 := Lib.hid (show (⟨ie.time, ie.key, ie.value, lb⟩ : Ev).wf from ⟨hiw.1, hiw.2.1, hiw.2.2.1, by rw [hlb]; exact mark1000_wf.2.2.2⟩)
            have HLX := Lib.hid (offer_label cj 99 im ie.time ie.key ie.value lb ie.label)
            subst hlb
            clear hst hiw hof
            have hst2 : St w ((wr.alloc (.cells #[.bool im, .int .i64 ie.time, .int .i64 ie.key, .int .i64 ie.value, .int .u64 ie.label] 33)).alloc (.cells #[.bool im, .int .i64 ie.time, .int .i64 ie.key, .int .i64 ie.value, .int .u64 0] 33)) ([pt w.heap.size (.cells #[.slice ao k.ops.length co, .slice an k.ns.length cn, .int .i64 k.size, .int .i64 k.slide, .int .i64 k.agg, .int .i64 k.sink, .int .i64 k.feed] 56 (0, 0)), ownP 92 2 Opr.cells (.slice pa p.ops.length pc) p.ops, pt g (.cells #[.slice pa p.ops.length pc, .int .i64 p.size, .int .i64 p.slide, .int .i64 p.agg, .int .i64 p.sink, .int .i64 p.feed] 26 (0, 0)), clP ca (cj) (j), clP da (cj) (j), ownP 33 5 Inp.cells (.slice (some ⟨b, o, none⟩) ins.length ic) ins] ++ [pt wr.heap.size (.cells #[.bool im, .int .i64 ie.time, .int .i64 ie.key, .int .i64 ie.value, .int .u64 ie.label] 33 (0, 0))] ++ [pt (wr.heap.size + 1) (.cells #[.bool im, .int .i64 ie.time, .int .i64 ie.key, .int .i64 ie.value, .int .u64 0] 33 (0, 0))]) := by
              have := (HST.out.alloc (.cells #[.bool im, .int .i64 ie.time, .int .i64 ie.key, .int .i64 ie.value, .int .u64 ie.label] 33)).alloc (.cells #[.bool im, .int .i64 ie.time, .int .i64 ie.key, .int .i64 ie.value, .int .u64 0] 33)
              rwa [World.size_alloc] at this
            have hoc := offer_st hst2.drew 3 rfl 99 ⟨im, ie⟩ HIW1.out hNj
            have a5 := cells5 (hst2.drew.blk 6 rfl).1 (Below.refl _ _)
            have b5 := cells5 (hst2.drew.blk 7 rfl).1 (Below.refl _ _)
            have HA10 := Lib.hid (And.intro a5.1 (And.intro a5.2.1 (And.intro a5.2.2.1 (And.intro a5.2.2.2.1 (And.intro a5.2.2.2.2 b5)))))
            have HOC := Lib.hid hoc
            clear hoc a5 b5 hst2
            go_wp2_with fail
            go_region_held3 (fun w' => w'.cell? ⟨wr.heap.size, 0, none⟩ = some (.bool im) ∧ w'.cell? ⟨wr.heap.size, 1, none⟩ = some (.int .i64 ie.time) ∧ w'.cell? ⟨wr.heap.size, 2, none⟩ = some (.int .i64 ie.key) ∧ w'.cell? ⟨wr.heap.size, 3, none⟩ = some (.int .i64 ie.value) ∧ w'.cell? ⟨wr.heap.size, 4, none⟩ = some (.int .u64 ie.label) ∧ w'.cell? ⟨wr.heap.size + 1, 0, none⟩ = some (.bool im) ∧ w'.cell? ⟨wr.heap.size + 1, 1, none⟩ = some (.int .i64 ie.time) ∧ w'.cell? ⟨wr.heap.size + 1, 2, none⟩ = some (.int .i64 ie.key) ∧ w'.cell? ⟨wr.heap.size + 1, 3, none⟩ = some (.int .i64 ie.value) ∧ w'.cell? ⟨wr.heap.size + 1, 4, none⟩ = some (.int .u64 0)) (first | (with_reducible exact ⟨k0, k1, k2, k3, k4, e0, e1, e2, e3, e4⟩) | exact HA10.out)
              (first
                | (go_at_call 11; (with_reducible refine HOD.out.mono ?_); rintro e w3 ⟨rfl, h3⟩; rw [HLX.out] at h3 ⊢; obtain ⟨k0, k1, k2, k3, k4⟩ := cells5 (h3.blk 6 rfl).1 (Below.refl _ _); obtain ⟨e0, e1, e2, e3, e4⟩ := cells5 (h3.blk 7 rfl).1 (Below.refl _ _); have HS3 := Lib.hid (h3.pick [0, 1, 2, 3, 4, 5] (by decide)); clear h3 HOD)
                | (go_at_call 11; (with_reducible refine HOC.out.mono ?_); rintro e w2 ⟨rfl, h2⟩; obtain ⟨k0, k1, k2, k3, k4⟩ := cells5 (h2.blk 6 rfl).1 (Below.refl _ _); obtain ⟨e0, e1, e2, e3, e4⟩ := cells5 (h2.blk 7 rfl).1 (Below.refl _ _); have HOD := Lib.hid (offer_st h2 4 rfl 99 ⟨im, ⟨ie.time, ie.key, ie.value, 0⟩⟩ HIW2.out hNj); clear h2 HOC))
            all_goals
              go_wp2
              go_roundw
              case rel => exact ⟨j + 1, by omega, by go_num, by rw [HOF.out]; exact HS3.out⟩
              case measure => simp [intOf]; omega
        · obtain rfl : j = ins.length := by omega
          rw [List.take_length] at hst
          have HST := Lib.hid hst
          clear hst
          go_wp2
          go_meet
          exact HST.out
    case rest =>
      have h := hcut
      have hp := offAll_p 99 ins c0
      have how := offAll_own 99 ins c0 ho0
      rw [hi0] at hp how
      rw [ht0] at hp
      clear hcut HS5
      obtain ⟨c1, hc1⟩ : ∃ c, c = offAll c0 99 ins := ⟨_, rfl⟩
      rw [← hc1] at h hp how
      have how' : OwnQ c1.id c1.q := by rw [hp.2.1]; exact how
      have hN1 : ins.length < 2 ^ 28 := by omega
      obtain ⟨j2, hj2⟩ : ∃ j : Nat, max 0 (min (99 : Int) c1.q.length) = j := ⟨(max 0 (min (99 : Int) c1.q.length)).toNat, by omega⟩
      have hlab := served_lab j2 hp.2.2 (by rw [hp.2.1]; omega) (by rw [hp.2.1]; omega) how'
      rw [hp.2.1] at hlab
      have HSV := Lib.hid (serve_st h 3 rfl 99 j2 hj2 hN1)
      obtain ⟨_, _, _, _, _, hok, _⟩ := cl_see h 3 rfl
      have hb1 := clRows_len hok
      have hb2 := rowsR_len c1.rn (c1.q.take j2)
      have hb3 := hok.len
      have hb4 := List.length_take_le j2 c1.q
      obtain ⟨R, hR⟩ : ∃ x, x = rowsR c1.rn (c1.q.take j2) := ⟨_, rfl⟩
      rw [← hR] at hb2 hlab
      have hrl : R.length ≤ 1099511627776 := by omega
      obtain ⟨c2, hc2⟩ : ∃ c, c = c1.serve j2 := ⟨_, rfl⟩
      have htk : c2.taken.length ≤ 1099511627776 := by
        rw [hc2]
        show (c1.taken ++ c1.q.take j2).length ≤ _
        rw [List.length_append]
        omega
      have HR := Lib.hid hR
      have HC2 := Lib.hid hc2
      have HJ2 := Lib.hid hj2
      have HLAB := Lib.hid hlab
      have HRL := Lib.hid hrl
      have HTK := Lib.hid htk
      have HN1 := Lib.hid hN1
      clear h hp how how' hc1 hj2 hlab hok hb1 hb2 hb3 hb4 hR hrl hc2 htk hi0 ht0 ho0
      go_upto_block 2 with (first
        | (go_at_call 15; (with_reducible refine HSW.out.mono ?_); rintro e w5 ⟨v5, rfl, h5⟩; have h5 : St w w5 [pt w.heap.size (.cells #[.slice ao k.ops.length co, .slice an k.ns.length cn, .int .i64 k.size, .int .i64 k.slide, .int .i64 k.agg, .int .i64 k.sink, .int .i64 k.feed] 56 (0, 0)), ownP 92 2 Opr.cells (.slice pa p.ops.length pc) p.ops, pt g (.cells #[.slice pa p.ops.length pc, .int .i64 p.size, .int .i64 p.slide, .int .i64 p.agg, .int .i64 p.sink, .int .i64 p.feed] 26 (0, 0)), clP ca (c1.serve j2) (ins.length), clP da (c1.serve j2) (ins.length), ownP 33 5 Inp.cells (.slice ia ins.length ic) ins, ownP 43 5 Rw.cells v4 (rowsR c1.rn (c1.q.take j2)), ownP 43 5 Rw.cells v5 (rowsR c1.rn (c1.q.take j2))] := h5; rw [← HR.out, ← HC2.out] at h5; obtain ⟨ua, uc, rfl, _, _, _, _⟩ := h5.sl Rw.len 6 rfl; obtain ⟨va, vc, rfl, _, _, _, _⟩ := h5.sl Rw.len 7 rfl; have HS9 := Lib.hid h5; clear h5 HSW)
        | (go_at_call 15; (with_reducible refine HSV.out.mono ?_); rintro e w4 ⟨v4, rfl, h4⟩; have HSW := Lib.hid (serve_st h4 4 rfl 99 j2 HJ2.out HN1.out); clear h4 HSV))
      clear HR HC2 HJ2
      go_cut [19] from 71 to 80 (fun _ wx => St w wx [pt w.heap.size (.cells #[.slice ao k.ops.length co, .slice an k.ns.length cn, .int .i64 k.size, .int .i64 k.slide, .int .i64 k.agg, .int .i64 k.sink, .int .i64 k.feed] 56 (0, 0)), ownP 92 2 Opr.cells (.slice pa p.ops.length pc) p.ops, pt g (.cells #[.slice pa p.ops.length pc, .int .i64 p.size, .int .i64 p.slide, .int .i64 p.agg, .int .i64 p.sink, .int .i64 p.feed] 26 (0, 0)), clP ca (c2) (ins.length), clP da (c2) (ins.length), ownP 33 5 Inp.cells (.slice ia ins.length ic) ins, ownP 43 5 Rw.cells (.slice ua R.length uc) R, ownP 43 5 Rw.cells (.slice va R.length vc) R])
      case first =>
        go_wp2_with fail
        go_loopw [71] (fun iv wr => ∃ j : Nat, j ≤ R.length ∧ iv = .int .i64 j ∧ St w wr [pt w.heap.size (.cells #[.slice ao k.ops.length co, .slice an k.ns.length cn, .int .i64 k.size, .int .i64 k.slide, .int .i64 k.agg, .int .i64 k.sink, .int .i64 k.feed] 56 (0, 0)), ownP 92 2 Opr.cells (.slice pa p.ops.length pc) p.ops, pt g (.cells #[.slice pa p.ops.length pc, .int .i64 p.size, .int .i64 p.slide, .int .i64 p.agg, .int .i64 p.sink, .int .i64 p.feed] 26 (0, 0)), clP ca (c2) (ins.length), clP da (c2) (ins.length), ownP 33 5 Inp.cells (.slice ia ins.length ic) ins, ownP 43 5 Rw.cells (.slice ua R.length uc) R, ownP 43 5 Rw.cells (.slice va R.length vc) R]) (fun iv _ => R.length - (intOf iv).toNat)
        case atStart => exact ⟨0, by omega, rfl, HS9.out⟩
        case round =>
          obtain ⟨j, hj, rfl, hst⟩ := hrel
          by_cases hlt : (j : Int) < R.length
          · have hjn : j < R.length := by omega
            obtain ⟨b, o, rfl, hbl, d0, d1, d2, d3, d4⟩ := (hst.slOf Rw.len 6 rfl).rwAt j hjn
            have hll := HLAB.out R[j] (List.getElem_mem hjn)
            have HJ1 := Lib.hid (show j + 1 ≤ R.length by omega)
            have hRb := HRL.out
            rw [List.getElem?_eq_getElem hjn] at d0 d1 d2 d3 d4
            simp only [Option.getD_some] at d0 d1 d2 d3 d4
            generalize R[j] = row at *
            obtain ⟨rs, rk, rv, rc, rl⟩ := row
            dsimp only at d0 d1 d2 d3 d4 hll
            have hll2 : rl = IntKind.u64.wrap (2 ^ x) := by rw [hll]; unfold lab; rw [Int.toNat_natCast]
            clear hll
            obtain ⟨sh, hsh⟩ : ∃ s, s = IntKind.u64.wrap (2 ^ x) := ⟨_, rfl⟩
            rw [← hsh] at hll2
            subst hll2
            have hsh2 := hsh.symm
            have hx0 : ¬ (x : Int) < 0 := by omega
            have a4 := (cells5 ((hst.alloc (.cells #[.int .i64 rs, .int .i64 rk, .int .i64 rv, .int .i64 rc, .int .u64 rl] 43)).drew.blk 8 rfl).1 (Below.refl _ _)).2.2.2.2
            have HST := Lib.hid hst
            clear hst hsh
            go_wp2_with fail
            go_region_held3 (fun w' => w'.cell? ⟨wr.heap.size, 4, none⟩ = some (.int .u64 rl)) (first | (with_reducible exact a4))
              (first | fail)
            all_goals
              go_wp2
              go_roundw
              case rel => (have := HJ1.out; have := HRL.out); exact ⟨j + 1, HJ1.out, by go_num, (HST.out.alloc (.cells #[.int .i64 rs, .int .i64 rk, .int .i64 rv, .int .i64 rc, .int .u64 rl] 43)).drew.pick [0, 1, 2, 3, 4, 5, 6, 7] (by decide)⟩
              case measure => (have := HJ1.out; have := HRL.out); simp [intOf]; omega
          · obtain rfl : j = R.length := by omega
            have HST := Lib.hid hst
            clear hst
            go_wp2
            go_meet
            exact HST.out
      case rest =>
        have h := hcut
        clear hcut HS9
        have HSM := Lib.hid (sameRw_any h 6 7 rfl rfl rfl HRL.out)
        clear h
        go_wp2_with (first
          | (go_at_call 17; (with_reducible refine HSM.out.mono ?_); rintro e w6 ⟨rfl, h6⟩; have HTA := Lib.hid (taken_st h6 3 rfl HN1.out); clear h6 HSM)
          | (go_at_call 24; (with_reducible refine HTA.out.mono ?_); rintro e w7 ⟨v7, rfl, h7⟩; obtain ⟨xa, xc, rfl, _, _, _, _⟩ := h7.sl Inp.len 8 rfl; have HTB := Lib.hid (taken_st h7 4 rfl HN1.out); clear h7 HTA)
          | (go_at_call 24; (with_reducible refine HTB.out.mono ?_); rintro e w8 ⟨v8, rfl, h8⟩; obtain ⟨ya, yc, rfl, _, _, _, _⟩ := h8.sl Inp.len 9 rfl; have HSI := Lib.hid (sameIn_any h8 8 9 rfl rfl rfl HTK.out); clear h8 HTB)
          | (go_at_call 23; (with_reducible refine HSI.out.mono ?_); rintro e w9 ⟨rfl, h9⟩; have HZ := Lib.hid h9; clear h9 HSI)
          | (go_at_call 4; (with_reducible refine (CellRuns_any _).mono ?_); rintro e w18 ⟨rfl, hb18⟩; have HY := Lib.hid (HZ.out.kept hb18); clear hb18))
        go_ret
        exact ⟨rfl, HY.out.below⟩
end Go.Proofs.Ythegopajkljlmaa
