/- The walk of CellRuns. -/
import Derived.Test.YthegopajkljlmaaCellNew
set_option linter.unusedVariables false
set_option linter.unusedSimpArgs false
namespace Go.Proofs.Ythegopajkljlmaa
open Go.RowKit
def p15 : Pp := ⟨[], 10, 10, 2, -1, -1⟩
def e15 : Inp := ⟨false, ⟨3, 0, 5, 0⟩⟩
def m15 : Inp := ⟨true, ⟨10, 0, 0, 0⟩⟩
def c15a : Cl := newC 9 2 p15
def c15b : Cl := (c15a.offer 2 e15).2
def c15c : Cl := (c15b.offer 2 m15).2
def c15d : Cl := (c15c.offer 2 e15).2
def c15e : Cl := c15d.serve 2
def r15 : List Rw := [⟨0, 0, 5, 1, 4⟩]
theorem e15_wf : e15.ev.wf := ⟨by decide, by decide, by decide, by decide⟩
theorem m15_wf : m15.ev.wf := ⟨by decide, by decide, by decide, by decide⟩
theorem p15_right : rightPp p15 = true := by decide +kernel
theorem o15a : (c15a.offer 2 e15).1 = 0 := by decide +kernel
theorem o15b : (c15b.offer 2 m15).1 = 0 := by decide +kernel
theorem o15c : (c15c.offer 2 e15).1 = 3 := by decide +kernel
theorem s15 : rowsR c15d.rn (c15d.q.take 2) = r15 := by decide +kernel
theorem q15 : max 0 (min 2 (c15d.q.length : Int)) = ((2 : Nat) : Int) := by decide +kernel
theorem t15a : (tellR c15e.rows 0 5) = (r15, 0) := by decide +kernel
theorem t15b : (tellR c15e.rows 2 1) = ([], 5) := by decide +kernel
theorem l15 : c15e.left = 7 := by decide +kernel
theorem f15 : c15e.refused = 1 := by decide +kernel
theorem cl_cells {w0 w : World} {L : List HP} {cb N : Nat} {c : Cl} (h : St w0 w L) (n : Nat) (hn : L[n]? = some (clP cb c N)) : w.cell? ⟨cb, 0, none⟩ = some (.int .i64 c.left) ∧ w.cell? ⟨cb, 1, none⟩ = some (.int .i64 c.spent) ∧ w.cell? ⟨cb, 2, none⟩ = some (.int .i64 c.refused) ∧ w.cell? ⟨cb, 5, none⟩ = some (.int .i64 c.id) ∧ (∃ qa qc, w.cell? ⟨cb, 3, none⟩ = some (.slice qa c.q.length qc)) ∧ cb < w.heap.size := by
  obtain ⟨rb, qa, qc, rv, tv, _, hb, hl⟩ := cl_see h n hn
  obtain ⟨h0, h1, h2, h3, _, h5, _⟩ := cells8 hb (Below.refl _ _)
  exact ⟨h0, h1, h2, h5, ⟨qa, qc, h3⟩, hl⟩
set_option maxHeartbeats 4000000 in
set_option maxRecDepth 20000 in
theorem CellRuns_any (w : World) : Calls Try.prog 4 #[] w fun e w' => e = .returned (.bool true) ∧ Below w.heap.size w w' := by
  have hc := cellNew_st (St.start w) 2 9 (by decide) (by decide) (by decide) (by decide) p15 none 0 (Seen.old (.inl rfl)) (fun _ => rfl) (fun _ h => by cases h) (by decide) p15_right
  have hc : Calls Try.prog 10 #[.int .i64 2, .int .i64 9, .agg #[.slice none 0 0, .int .i64 10, .int .i64 10, .int .i64 2, .int .i64 (-1), .int .i64 (-1)]] w _ := hc
  have HC := Lib.hid hc
  clear hc
  go_enter Try.func4, Try.ntmps4
  go_upto_region 5 with (go_at_call 10; (with_reducible refine HC.out.mono ?_); rintro e w1 ⟨cb, rfl, h1⟩; have h1 : St w w1 [clP cb c15a 0] := h1; have HS1 := Lib.hid (h1.alloc (.cells #[.bool false, .int .i64 3, .int .i64 0, .int .i64 5, .int .u64 0] 33)); clear h1 HC)
  have hs1 := HS1.out.drew
  have hoc := offer_st hs1 0 rfl 2 e15 e15_wf (by decide)
  have hoc : Calls Try.prog 11 #[.pointer (some ⟨cb, 0, none⟩), .int .i64 2, .agg #[.bool false, .int .i64 3, .int .i64 0, .int .i64 5, .int .u64 0]] _ _ := hoc
  have HO1 := Lib.hid hoc
  clear hs1 hoc
  go_region_held3 (fun w' => w'.cell? ⟨w1.heap.size, 0, none⟩ = some (.bool false) ∧ w'.cell? ⟨w1.heap.size, 1, none⟩ = some (.int .i64 3) ∧ w'.cell? ⟨w1.heap.size, 2, none⟩ = some (.int .i64 0) ∧ w'.cell? ⟨w1.heap.size, 3, none⟩ = some (.int .i64 5) ∧ w'.cell? ⟨w1.heap.size, 4, none⟩ = some (.int .u64 0)) (first | (with_reducible exact ⟨k0, k1, k2, k3, k4⟩) | exact cells5 (HS1.out.blk 1 rfl).1 (by go_grown))
    (first
      | (go_at_call 11; (with_reducible refine HO3.out.mono ?_); rintro e w4 ⟨rfl, h4⟩; rw [o15c]; have h4 : St w w4 [clP cb c15d 3, pt w1.heap.size (.cells #[.bool false, .int .i64 3, .int .i64 0, .int .i64 5, .int .u64 0] 33 (0, 0))] := h4; obtain ⟨k0, k1, k2, k3, k4⟩ := cells5 (h4.blk 1 rfl).1 (Below.refl _ _); have HS4 := Lib.hid h4; clear h4)
      | (go_at_call 11; (with_reducible refine HO2.out.mono ?_); rintro e w3 ⟨rfl, h3⟩; rw [o15b]; have h3 : St w w3 [clP cb c15c 2, pt w1.heap.size (.cells #[.bool false, .int .i64 3, .int .i64 0, .int .i64 5, .int .u64 0] 33 (0, 0))] := h3; obtain ⟨k0, k1, k2, k3, k4⟩ := cells5 (h3.blk 1 rfl).1 (Below.refl _ _); have hoc := offer_st h3 0 rfl 2 e15 e15_wf (by decide); have hoc : Calls Try.prog 11 #[.pointer (some ⟨cb, 0, none⟩), .int .i64 2, .agg #[.bool false, .int .i64 3, .int .i64 0, .int .i64 5, .int .u64 0]] _ _ := hoc; have HO3 := Lib.hid hoc; clear h3 hoc)
      | (go_at_call 11; (with_reducible refine HO1.out.mono ?_); rintro e w2 ⟨rfl, h2⟩; rw [o15a]; have h2 : St w w2 [clP cb c15b 1, pt w1.heap.size (.cells #[.bool false, .int .i64 3, .int .i64 0, .int .i64 5, .int .u64 0] 33 (0, 0))] := h2; obtain ⟨k0, k1, k2, k3, k4⟩ := cells5 (h2.blk 1 rfl).1 (Below.refl _ _); have hoc := offer_st h2 0 rfl 2 m15 m15_wf (by decide); have hoc : Calls Try.prog 11 #[.pointer (some ⟨cb, 0, none⟩), .int .i64 2, .agg #[.bool true, .int .i64 10, .int .i64 0, .int .i64 0, .int .u64 0]] _ _ := hoc; have HO2 := Lib.hid hoc; clear h2 hoc))
  all_goals
    have HSV := Lib.hid (serve_st HS4.out 0 rfl 2 2 q15 (by decide))
    go_upto_region 9 with (first
      | (go_at_call 16; (with_reducible refine HT2.out.mono ?_); rintro e w7 ⟨v7, rfl, h7⟩; rw [t15b] at h7 ⊢; obtain ⟨k0, _, k2, _, _, hlc⟩ := cl_cells h7 0 rfl; rw [l15] at k0; rw [f15] at k2; obtain ⟨b7, o7, rfl, hb7, d0, d1, d2, d3, d4⟩ := (h7.slOf Rw.len 2 rfl).rwAt 0 (by decide); have d4 : w7.cell? ⟨b7, o7 + 0 * 5 + 4, none⟩ = some (.int .u64 4) := d4; simp only [Nat.zero_mul, Nat.add_zero] at d4; have HSM := Lib.hid (sameRw_any h7 3 2 rfl rfl rfl (by decide)); clear h7 HT2)
      | (go_at_call 16; (with_reducible refine HT1.out.mono ?_); rintro e w6 ⟨v6, rfl, h6⟩; rw [t15a] at h6 ⊢; obtain ⟨x6, y6, rfl, hx6, _, _, _⟩ := h6.sl Rw.len 3 rfl; dsimp only at h6 ⊢; rw [show r15.length = 1 from rfl] at h6 ⊢; have HT2 := Lib.hid (tell_st h6 0 rfl 2 1 (by decide) (by decide)); clear h6 HT1)
      | (go_at_call 15; (with_reducible refine HSV.out.mono ?_); rintro e w5 ⟨v5, rfl, h5⟩; rw [s15] at h5; have h5 : St w w5 [clP cb c15e 3, pt w1.heap.size (.cells #[.bool false, .int .i64 3, .int .i64 0, .int .i64 5, .int .u64 0] 33 (0, 0)), ownP 43 5 Rw.cells v5 r15] := h5; obtain ⟨x5, y5, rfl, hx5, _, _, _⟩ := h5.sl Rw.len 2 rfl; rw [show r15.length = 1 from rfl] at h5 ⊢; have HT1 := Lib.hid (tell_st h5 0 rfl 0 5 (by decide) (by decide)); clear h5 HSV))
    go_wp2_with (first
      | (go_at_call 19; (with_reducible refine HRF.out.mono ?_); rintro e wa ⟨rfl, ha⟩; have HZ := Lib.hid ha; clear ha HRF)
      | (go_at_call 18; (with_reducible refine HLF.out.mono ?_); rintro e w9 ⟨rfl, h9⟩; obtain ⟨k0, k1, k2, _, _, hlc⟩ := cl_cells h9 0 rfl; rw [l15] at k0; rw [f15] at k2; have HRF := Lib.hid (refused_st 7 c15e.spent 1 h9); clear h9 HLF)
      | (go_at_call 17; (with_reducible refine HSM.out.mono ?_); rintro e w8 ⟨rfl, h8⟩; obtain ⟨k0, k1, k2, _, _, hlc⟩ := cl_cells h8 0 rfl; rw [l15] at k0; rw [f15] at k2; have HLF := Lib.hid (left_st 7 c15e.spent 1 h8); clear h8 HSM))
    go_ret
    exact ⟨rfl, HZ.out.below⟩
end Go.Proofs.Ythegopajkljlmaa
