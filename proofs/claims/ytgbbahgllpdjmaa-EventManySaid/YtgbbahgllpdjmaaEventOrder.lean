/- Walk of the law EventOrder. -/
import Derived.Test.YtgbbahgllpdjmaaEventRuns
import Derived.Test.YtgbbahgllpdjmaaRead
import Derived.Deep.CutRange
set_option linter.unusedVariables false
namespace Go.Proofs.Ytgbbahgllpdjmaa
open Go.ChangeShapes Go.WideShapes Go.ChangeAt Go.RowKit Go.BigFrame
/-- Four cells that read as an event. -/
def isEv (w : World) (cs : List Value) (e : Ev) : Prop := cs = [.int .i64 e.time, .int .i64 e.key, .int .i64 e.value, .int .u64 e.label] ∧ (Lit.int .i64 e.time).wf = true ∧ (Lit.int .i64 e.key).wf = true ∧ (Lit.int .i64 e.value).wf = true ∧ (Lit.int .u64 e.label).wf = true
theorem Rdr_ev {H : Type} {enc : TypeId × Value → H} : Rdr enc Try.prog 49 isEv := by
  intro w fuel cs x h
  obtain ⟨y0, y1, y2, y3, n, hx, hl, h0, h1, h2, h3⟩ := Go.Joins.trod_struct4 Try.underlying49 h
  rw [show Try.prog.cellsOf 49 = 4 by kernel_rfl] at hl
  match cs, hl with
  | [c0, c1, c2, c3], _ =>
    rw [show Try.prog.cellsOf 3 = 1 by kernel_rfl] at h0 h1 h2
    rw [show Try.prog.cellsOf 47 = 1 by kernel_rfl] at h3
    obtain ⟨n0, e0, _, w0⟩ := DataW.trod_int Try.underlying3 h0
    obtain ⟨n1, e1, _, w1⟩ := DataW.trod_int Try.underlying3 h1
    obtain ⟨n2, e2, _, w2⟩ := DataW.trod_int Try.underlying3 h2
    obtain ⟨n3, e3, _, w3⟩ := DataW.trod_int Try.underlying47 h3
    simp at e0 e1 e2 e3
    subst e0 e1 e2 e3
    exact ⟨⟨n0, n1, n2, n3⟩, rfl, w0, w1, w2, w3⟩

theorem cmpE_range (a1 a2 a3 a4 b1 b2 b3 b4 : Int) : cmpE a1 a2 a3 a4 b1 b2 b3 b4 = -1 ∨ cmpE a1 a2 a3 a4 b1 b2 b3 b4 = 0 ∨ cmpE a1 a2 a3 a4 b1 b2 b3 b4 = 1 := by
  unfold cmpE firstOf cmpI
  split <;> (try split) <;> (try split) <;> omega
theorem cmpE_swap (a1 a2 a3 a4 b1 b2 b3 b4 : Int) : cmpE b1 b2 b3 b4 a1 a2 a3 a4 = - cmpE a1 a2 a3 a4 b1 b2 b3 b4 := by
  unfold cmpE firstOf cmpI
  omega
theorem cmpE_zero (a1 a2 a3 a4 b1 b2 b3 b4 : Int) : cmpE a1 a2 a3 a4 b1 b2 b3 b4 = 0 ↔ (a1 = b1 ∧ a2 = b2 ∧ a3 = b3 ∧ a4 = b4) := by
  unfold cmpE firstOf cmpI
  omega
theorem cmpE_trans (a1 a2 a3 a4 b1 b2 b3 b4 c1 c2 c3 c4 : Int) (p : cmpE a1 a2 a3 a4 b1 b2 b3 b4 ≤ 0) (q : cmpE b1 b2 b3 b4 c1 c2 c3 c4 ≤ 0) : cmpE a1 a2 a3 a4 c1 c2 c3 c4 ≤ 0 := by
  unfold cmpE firstOf cmpI at *
  omega
theorem cmpE_time (a1 a2 a3 a4 b1 b2 b3 b4 : Int) : (a1 < b1 → cmpE a1 a2 a3 a4 b1 b2 b3 b4 = -1) ∧ (a1 = b1 → a2 < b2 → cmpE a1 a2 a3 a4 b1 b2 b3 b4 = -1) := by
  unfold cmpE firstOf cmpI
  omega
def ordW (w : World) (a1 a2 a3 a4 b1 b2 b3 b4 c1 c2 c3 c4 : Int) : World := ((w.alloc (.cells #[.int .i64 a1, .int .i64 a2, .int .i64 a3, .int .u64 a4] 49)).alloc (.cells #[.int .i64 b1, .int .i64 b2, .int .i64 b3, .int .u64 b4] 49)).alloc (.cells #[.int .i64 c1, .int .i64 c2, .int .i64 c3, .int .u64 c4] 49)
theorem ordW_cells {w : World} {a1 a2 a3 a4 b1 b2 b3 b4 c1 c2 c3 c4 : Int} (w' : World) (h : Below (w.heap.size + 3) (ordW w a1 a2 a3 a4 b1 b2 b3 b4 c1 c2 c3 c4) w') :
    (w'.cell? ⟨w.heap.size, 0, none⟩ = some (.int .i64 a1) ∧ w'.cell? ⟨w.heap.size, 1, none⟩ = some (.int .i64 a2) ∧ w'.cell? ⟨w.heap.size, 2, none⟩ = some (.int .i64 a3) ∧ w'.cell? ⟨w.heap.size, 3, none⟩ = some (.int .u64 a4)) ∧ (w'.cell? ⟨w.heap.size + 1, 0, none⟩ = some (.int .i64 b1) ∧ w'.cell? ⟨w.heap.size + 1, 1, none⟩ = some (.int .i64 b2) ∧ w'.cell? ⟨w.heap.size + 1, 2, none⟩ = some (.int .i64 b3) ∧ w'.cell? ⟨w.heap.size + 1, 3, none⟩ = some (.int .u64 b4)) ∧ (w'.cell? ⟨w.heap.size + 1 + 1, 0, none⟩ = some (.int .i64 c1) ∧ w'.cell? ⟨w.heap.size + 1 + 1, 1, none⟩ = some (.int .i64 c2) ∧ w'.cell? ⟨w.heap.size + 1 + 1, 2, none⟩ = some (.int .i64 c3) ∧ w'.cell? ⟨w.heap.size + 1 + 1, 3, none⟩ = some (.int .u64 c4)) := by
  refine ⟨⟨?_, ?_, ?_, ?_⟩, ⟨?_, ?_, ?_, ?_⟩, ?_, ?_, ?_, ?_⟩
  all_goals
    refine (h.cell (by simp <;> omega)).trans ?_
    simp [ordW, go_sem]
set_option maxHeartbeats 2000000 in
theorem EventOrder_walk (a1 a2 a3 a4 b1 b2 b3 b4 c1 c2 c3 c4 : Int) (w : World) :
    Calls Try.prog 11 #[.agg #[.int .i64 a1, .int .i64 a2, .int .i64 a3, .int .u64 a4], .agg #[.int .i64 b1, .int .i64 b2, .int .i64 b3, .int .u64 b4], .agg #[.int .i64 c1, .int .i64 c2, .int .i64 c3, .int .u64 c4]] w fun e w' => e = .returned (.bool true) ∧ Below w.heap.size w w' := by
  go_enter Try.func11, Try.ntmps11
  go_wp2
  refine wp_region_quiet (C := fun w' => Below (w.heap.size + 3) (ordW w a1 a2 a3 a4 b1 b2 b3 b4 c1 c2 c3 c4) w') (by kernel_rfl) (by kernel_rfl) ?_ ?_
  · show Below (w.heap.size + 3) (ordW w a1 a2 a3 a4 b1 b2 b3 b4 c1 c2 c3 c4) (ordW w a1 a2 a3 a4 b1 b2 b3 b4 c1 c2 c3 c4).drew
    exact below_drewN (Below.refl _ _) 1
  refine wpQuiet_step (fun K hK => ?_)
  rw [if_pos (by kernel_rfl)]
  refine ⟨.agg #[.int .i64 a1, .int .i64 a2, .int .i64 a3, .int .u64 a4], fun w' hw' => ?_, ?_⟩
  · obtain ⟨⟨a0, a1, a2, a3⟩, ⟨b0, b1, b2, b3⟩, c0, c1, c2, c3⟩ := ordW_cells w' hw'
    clear hw'
    unfold Oper.quietAt Oper.quietUpon
    go_simp
  go_simp
  refine hK _ ?_
  clear hK K
  refine wpQuiet_step (fun K hK => ?_)
  rw [if_pos (by kernel_rfl)]
  refine ⟨.agg #[.int .i64 b1, .int .i64 b2, .int .i64 b3, .int .u64 b4], fun w' hw' => ?_, ?_⟩
  · obtain ⟨⟨a0, a1, a2, a3⟩, ⟨b0, b1, b2, b3⟩, c0, c1, c2, c3⟩ := ordW_cells w' hw'
    clear hw'
    unfold Oper.quietAt Oper.quietUpon
    go_simp
  go_simp
  refine hK _ ?_
  clear hK K
  refine wpQuiet_step (fun K hK => ?_)
  rw [if_pos (by kernel_rfl)]
  refine ⟨.int .i64 (cmpE a1 a2 a3 a4 b1 b2 b3 b4), fun w' hw' => ?_, ?_⟩
  · have hs := hw'.size
    unfold Oper.quietAt Oper.quietUpon
    go_simp
    refine (evCompare a1 a2 a3 a4 b1 b2 b3 b4 w').mono ?_
    rintro e w2 ⟨rfl, hb⟩
    exact ⟨rfl, hw'.trans (hb.mono (by simp [ordW] at hs; omega))⟩
  go_simp
  refine hK _ ?_
  clear hK K
  refine wpQuiet_step (fun K hK => ?_)
  rw [if_pos (by kernel_rfl)]
  refine ⟨.agg #[.int .i64 b1, .int .i64 b2, .int .i64 b3, .int .u64 b4], fun w' hw' => ?_, ?_⟩
  · obtain ⟨⟨a0, a1, a2, a3⟩, ⟨b0, b1, b2, b3⟩, c0, c1, c2, c3⟩ := ordW_cells w' hw'
    clear hw'
    unfold Oper.quietAt Oper.quietUpon
    go_simp
  go_simp
  refine hK _ ?_
  clear hK K
  refine wpQuiet_step (fun K hK => ?_)
  rw [if_pos (by kernel_rfl)]
  refine ⟨.agg #[.int .i64 c1, .int .i64 c2, .int .i64 c3, .int .u64 c4], fun w' hw' => ?_, ?_⟩
  · obtain ⟨⟨a0, a1, a2, a3⟩, ⟨b0, b1, b2, b3⟩, c0, c1, c2, c3⟩ := ordW_cells w' hw'
    clear hw'
    unfold Oper.quietAt Oper.quietUpon
    go_simp
  go_simp
  refine hK _ ?_
  clear hK K
  refine wpQuiet_step (fun K hK => ?_)
  rw [if_pos (by kernel_rfl)]
  refine ⟨.int .i64 (cmpE b1 b2 b3 b4 c1 c2 c3 c4), fun w' hw' => ?_, ?_⟩
  · have hs := hw'.size
    unfold Oper.quietAt Oper.quietUpon
    go_simp
    refine (evCompare b1 b2 b3 b4 c1 c2 c3 c4 w').mono ?_
    rintro e w2 ⟨rfl, hb⟩
    exact ⟨rfl, hw'.trans (hb.mono (by simp [ordW] at hs; omega))⟩
  go_simp
  refine hK _ ?_
  clear hK K
  refine wpQuiet_step (fun K hK => ?_)
  rw [if_pos (by kernel_rfl)]
  refine ⟨.agg #[.int .i64 a1, .int .i64 a2, .int .i64 a3, .int .u64 a4], fun w' hw' => ?_, ?_⟩
  · obtain ⟨⟨a0, a1, a2, a3⟩, ⟨b0, b1, b2, b3⟩, c0, c1, c2, c3⟩ := ordW_cells w' hw'
    clear hw'
    unfold Oper.quietAt Oper.quietUpon
    go_simp
  go_simp
  refine hK _ ?_
  clear hK K
  refine wpQuiet_step (fun K hK => ?_)
  rw [if_pos (by kernel_rfl)]
  refine ⟨.agg #[.int .i64 c1, .int .i64 c2, .int .i64 c3, .int .u64 c4], fun w' hw' => ?_, ?_⟩
  · obtain ⟨⟨a0, a1, a2, a3⟩, ⟨b0, b1, b2, b3⟩, c0, c1, c2, c3⟩ := ordW_cells w' hw'
    clear hw'
    unfold Oper.quietAt Oper.quietUpon
    go_simp
  go_simp
  refine hK _ ?_
  clear hK K
  refine wpQuiet_step (fun K hK => ?_)
  rw [if_pos (by kernel_rfl)]
  refine ⟨.int .i64 (cmpE a1 a2 a3 a4 c1 c2 c3 c4), fun w' hw' => ?_, ?_⟩
  · have hs := hw'.size
    unfold Oper.quietAt Oper.quietUpon
    go_simp
    refine (evCompare a1 a2 a3 a4 c1 c2 c3 c4 w').mono ?_
    rintro e w2 ⟨rfl, hb⟩
    exact ⟨rfl, hw'.trans (hb.mono (by simp [ordW] at hs; omega))⟩
  go_simp
  refine hK _ ?_
  clear hK K
  refine wpQuiet_step (fun K hK => ?_)
  rw [if_pos (by kernel_rfl)]
  refine quiet_assign _ rfl ?_
  go_simp
  refine hK _ ?_
  clear hK K
  refine wpQuiet_step (fun K hK => ?_)
  rw [if_pos (by kernel_rfl)]
  refine quiet_assign _ rfl ?_
  go_simp
  refine hK _ ?_
  clear hK K
  refine wpQuiet_step (fun K hK => ?_)
  rw [if_pos (by kernel_rfl)]
  refine quiet_assign _ rfl ?_
  go_simp
  refine hK _ ?_
  clear hK K
  refine wpQuiet_nil ?_
  intro w1 hw1
  obtain ⟨⟨A0, A1, A2, A3⟩, ⟨B0, B1, B2, B3⟩, C0, C1, C2, C3⟩ := ordW_cells w1 hw1
  have R1 := cmpE_range a1 a2 a3 a4 b1 b2 b3 b4
  have S1 := cmpE_swap a1 a2 a3 a4 b1 b2 b3 b4
  have Z1 := cmpE_zero a1 a2 a3 a4 b1 b2 b3 b4
  have T1 := cmpE_trans a1 a2 a3 a4 b1 b2 b3 b4 c1 c2 c3 c4
  have M1 := cmpE_time a1 a2 a3 a4 b1 b2 b3 b4
  generalize hp : cmpE a1 a2 a3 a4 b1 b2 b3 b4 = p at *
  generalize cmpE b1 b2 b3 b4 c1 c2 c3 c4 = q at *
  generalize cmpE a1 a2 a3 a4 c1 c2 c3 c4 = r at *
  clear hp
  have hs1 := hw1.size
  simp [ordW] at hs1
  have hB : Below w.heap.size w w1 := (Below.trans (show Below w.heap.size w (ordW w a1 a2 a3 a4 b1 b2 b3 b4 c1 c2 c3 c4) by unfold ordW; go_grown) (hw1.mono (by omega)))
  have HB := Lib.hid hB
  clear hB hw1
  go_upto_region 2 with fail
  go_cut [0, 10, 16, 52] from 19 to 52 (fun u v z x wx => x = .bool false ∧ Below w.heap.size w wx ∧ wx.cell? ⟨w.heap.size, 0, none⟩ = some (.int .i64 a1) ∧ wx.cell? ⟨w.heap.size, 1, none⟩ = some (.int .i64 a2) ∧ wx.cell? ⟨w.heap.size + 1, 0, none⟩ = some (.int .i64 b1) ∧ wx.cell? ⟨w.heap.size + 1, 1, none⟩ = some (.int .i64 b2))
  case first =>
    have HZ := Lib.hid Z1
    have HT := Lib.hid T1
    clear Z1 T1 M1
    go_wp2_with fail
    refine (evCompare b1 b2 b3 b4 a1 a2 a3 a4 _).mono ?_
    rw [S1]
    rintro e w2 ⟨rfl, hb2⟩
    have hs2 := hb2.size
    have hB2 := HB.out.trans (hb2.mono (by omega))
    have A0 := (hb2.cell (p := ⟨w.heap.size, 0, none⟩) (by simp; omega)).trans A0
    have A1 := (hb2.cell (p := ⟨w.heap.size, 1, none⟩) (by simp; omega)).trans A1
    have A2 := (hb2.cell (p := ⟨w.heap.size, 2, none⟩) (by simp; omega)).trans A2
    have A3 := (hb2.cell (p := ⟨w.heap.size, 3, none⟩) (by simp; omega)).trans A3
    have B0 := (hb2.cell (p := ⟨w.heap.size + 1, 0, none⟩) (by simp; omega)).trans B0
    have B1 := (hb2.cell (p := ⟨w.heap.size + 1, 1, none⟩) (by simp; omega)).trans B1
    have B2 := (hb2.cell (p := ⟨w.heap.size + 1, 2, none⟩) (by simp; omega)).trans B2
    have B3 := (hb2.cell (p := ⟨w.heap.size + 1, 3, none⟩) (by simp; omega)).trans B3
    have HB2 := Lib.hid hB2
    clear hb2 hB2 S1 HB
    rcases R1 with rfl | rfl | rfl
    · simp only [show (-(-1) : Int) = 1 from by decide]
      go_wp2
      all_goals first
        | (exfalso; have h1 := HZ.out; have h2 := HT.out; omega)
        | (go_meet; exact ⟨by first | rfl | (simp; omega), HB2.out, A0, A1, B0, B1⟩)
    · obtain ⟨rfl, rfl, rfl, rfl⟩ := HZ.out.1 rfl
      simp only [show (-0 : Int) = 0 from by decide]
      go_wp2
      all_goals first
        | (exfalso; have h2 := HT.out; omega)
        | (go_meet; exact ⟨by first | rfl | (simp; omega), HB2.out, A0, A1, B0, B1⟩)
    · go_wp2
      all_goals first
        | (exfalso; have h1 := HZ.out; have h2 := HT.out; omega)
        | (go_meet; exact ⟨by first | rfl | (simp; omega), HB2.out, A0, A1, B0, B1⟩)
  case rest =>
    obtain ⟨rfl, hB, A0, A1, B0, B1⟩ := hcut
    have hM : p = -1 ∨ (b1 ≤ a1 ∧ (a1 = b1 → b2 ≤ a2)) := by omega
    have HB := Lib.hid hB
    clear hB Z1 T1 M1 S1 R1
    rcases hM with rfl | ⟨hM1, hM2⟩
    · go_wp2_with (go_at_call 10; refine (EventRuns_any _).mono ?_; rintro e w3 ⟨rfl, hb3⟩)
      all_goals
        go_ret
        exact ⟨rfl, HB.out.trans (hb3.mono HB.out.size)⟩
    · by_cases h1 : a1 = b1
      · have h2 := hM2 h1
        clear hM2
        go_wp2_with (go_at_call 10; refine (EventRuns_any _).mono ?_; rintro e w3 ⟨rfl, hb3⟩)
        all_goals
          go_ret
          exact ⟨rfl, HB.out.trans (hb3.mono HB.out.size)⟩
      · clear hM2
        go_wp2_with (go_at_call 10; refine (EventRuns_any _).mono ?_; rintro e w3 ⟨rfl, hb3⟩)
        all_goals
          go_ret
          exact ⟨rfl, HB.out.trans (hb3.mono HB.out.size)⟩
theorem isEv.agg {w : World} {c : Array Value} {e : Ev} (h : isEv w c.toList e) : c = #[.int .i64 e.time, .int .i64 e.key, .int .i64 e.value, .int .u64 e.label] := by
  obtain ⟨h, _⟩ := h
  obtain ⟨l⟩ := c
  simp at h
  rw [h]
theorem EventOrder_row (w : World) (c0 : Array Value) (x0 : Ev) (h0 : isEv w c0.toList x0) (c1 : Array Value) (x1 : Ev) (h1 : isEv w c1.toList x1) (c2 : Array Value) (x2 : Ev) (h2 : isEv w c2.toList x2) :
    Calls Try.prog 11 #[.agg c0, .agg c1, .agg c2] w fun e w' => e = .returned (.bool true) ∧ Below w.heap.size w w' := by
  rw [h0.agg, h1.agg, h2.agg]
  exact EventOrder_walk _ _ _ _ _ _ _ _ _ _ _ _ w
end Go.Proofs.Ytgbbahgllpdjmaa
