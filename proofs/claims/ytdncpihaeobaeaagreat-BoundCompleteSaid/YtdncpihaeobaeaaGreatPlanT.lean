/- Walk of slot.Plan. -/
import Derived.Test.YtdncpihaeobaeaaGreatOrderT
set_option linter.unusedVariables false
namespace Go.Proofs.YtdncpihaeobaeaaGreat
open Go.RowKit
/-- what is served of one that waits -/
def serve (b : Int) (ws : List Int) (j : Int) : Int := if j.toNat < ws.length then max 0 (min b (ws[j.toNat]?.getD 0)) else 0
/-- the cells of a plan whose first k are reckoned -/
def planCells (b t : Int) (ws : List Int) (k : Nat) : Array Value :=
  #[.int .i64 (t % 8), .int .i64 (if 0 < k then serve b ws (t % 8) else 0), .int .i64 ((t + 1) % 8), .int .i64 (if 1 < k then serve b ws ((t + 1) % 8) else 0),
    .int .i64 ((t + 2) % 8), .int .i64 (if 2 < k then serve b ws ((t + 2) % 8) else 0), .int .i64 ((t + 3) % 8), .int .i64 (if 3 < k then serve b ws ((t + 3) % 8) else 0),
    .int .i64 ((t + 4) % 8), .int .i64 (if 4 < k then serve b ws ((t + 4) % 8) else 0), .int .i64 ((t + 5) % 8), .int .i64 (if 5 < k then serve b ws ((t + 5) % 8) else 0),
    .int .i64 ((t + 6) % 8), .int .i64 (if 6 < k then serve b ws ((t + 6) % 8) else 0), .int .i64 ((t + 7) % 8), .int .i64 (if 7 < k then serve b ws ((t + 7) % 8) else 0)]
theorem planCells_tenant (b t : Int) (ws : List Int) (k i : Nat) (h : i < 8) : (planCells b t ws k)[i * 2]? = some (.int .i64 ((t + i) % 8)) := by
  match i, h with
  | 0, _ => simp [planCells]
  | 1, _ | 2, _ | 3, _ | 4, _ | 5, _ | 6, _ | 7, _ => rfl
theorem planCells_at (b t : Int) (ws : List Int) (k i : Nat) (h : i < 8) : (planCells b t ws k)[i * 2 + 1]? = some (.int .i64 (if i < k then serve b ws ((t + i) % 8) else 0)) := by
  match i, h with
  | 0, _ => simp [planCells]
  | 1, _ | 2, _ | 3, _ | 4, _ | 5, _ | 6, _ | 7, _ => rfl
theorem planCells_set (b t : Int) (ws : List Int) (k : Nat) (h : k < 8) : (planCells b t ws k).setIfInBounds (k * 2 + 1) (.int .i64 (serve b ws ((t + k) % 8))) = planCells b t ws (k + 1) := by
  match k, h with
  | 0, _ | 1, _ | 2, _ | 3, _ | 4, _ | 5, _ | 6, _ | 7, _ => simp [planCells]
theorem planCells_none (b t : Int) (ws : List Int) (k : Nat) (h : k < 8) (hs : serve b ws ((t + k) % 8) = 0) : planCells b t ws k = planCells b t ws (k + 1) := by
  rw [← planCells_set b t ws k h, hs]
  have := planCells_at b t ws k k h
  rw [if_neg (by omega)] at this
  obtain ⟨hb, he⟩ := Array.getElem?_eq_some_iff.1 this
  rw [Array.setIfInBounds, dif_pos hb]
  apply Array.ext
  · simp
  · intro i h1 h2
    by_cases hi : i = k * 2 + 1
    · subst hi; rw [Array.getElem_set_self]; exact he
    · rw [Array.getElem_set_ne _ _ (by omega)]
theorem Plan_neg (b t : Int) (a : Option Addr) (n c : Nat) (w : World) (h : t < 0) :
    Calls Tryz.prog 120 #[.int .i64 b, .int .i64 t, .slice a n c] w fun e w' => e = .returned (.slice none 0 0) ∧ w' = w := by
  go_enter Tryz.func120, Tryz.ntmps120
  go_wp2_with (go_at_call 137; refine (Order_neg _ _ h).mono ?_; rintro e w' ⟨rfl, rfl⟩)
  go_rounds 1
  go_ret
  exact ⟨rfl, rfl⟩
set_option maxHeartbeats 400000 in
theorem Plan_any (b t : Int) (ws : List Int) (a : Option Addr) (n c : Nat) (w : World) (h : 0 ≤ t) (h1 : t ≤ 9223372036854775807) (hn : n = ws.length) (hw : SlAt 1 (flat (intC .i64)) w a ws) (hlen : ws.length ≤ 9223372036854775807) :
    Calls Tryz.prog 120 #[.int .i64 b, .int .i64 t, .slice a n c] w fun e w' => e = .returned (.slice (some ⟨w.heap.size, 0, none⟩) 8 8) ∧ w'.heap[w.heap.size]? = some (.cells (planCells b t ws 8) 205 (0, 0)) ∧ Below w.heap.size w w' := by
  subst hn
  have HW := Lib.hid hw
  clear hw
  go_enter Tryz.func120, Tryz.ntmps120
  go_wp2_with (go_at_call 137; refine (Order_any _ _ h (by omega)).mono ?_; rintro e w' ⟨rfl, rfl⟩)
  go_loopw [14] (fun i wr => ∃ k : Nat, k ≤ 8 ∧ i = .int .i64 k ∧ wr.heap[w.heap.size]? = some (.cells (planCells b t ws k) 205 (0, 0)) ∧ Below w.heap.size w wr ∧ w.heap.size < wr.heap.size) (fun i _ => 8 - (intOf i).toNat)
  case atStart => exact ⟨0, by omega, rfl, by rw [heap_new]; simp [planCells], (Below.refl _ _).alloc (Nat.le_refl _) _, by simp⟩
  case round =>
    obtain ⟨k, hk, rfl, hrow, hbel, hsz⟩ := hrel
    by_cases hlt8 : k < 8
    · have k0 := cell_of_row wr w.heap.size (k * 2) _ _ _ hrow
      have k1 := cell_of_row wr w.heap.size (k * 2 + 1) _ _ _ hrow
      rw [planCells_tenant _ _ _ _ _ hlt8] at k0
      rw [planCells_at _ _ _ _ _ hlt8, if_neg (Nat.lt_irrefl k)] at k1
      have kf : wr.frozen? ⟨w.heap.size, k * 2 + 1, none⟩ = false := by simp [World.frozen?, hrow]
      have hj0 : 0 ≤ (t + k) % 8 := by omega
      have hj1 : (t + k) % 8 < 8 := by omega
      generalize hj : (t + k) % 8 = j at *
      have HJ := Lib.hid hj
      have HR := Lib.hid hrow
      clear hj hrow
      by_cases hin : j < ws.length
      · obtain ⟨ab, ao, ha, hlt, hc0⟩ := HW.out.intAt j.toNat (by omega)
        have hc := (hbel.cell (p := ⟨ab, ao + j.toNat, none⟩) hlt).trans hc0
        clear hc0
        have hs : serve b ws j = max 0 (min b (ws[j.toNat]?.getD 0)) := by unfold serve; rw [if_pos (by omega)]
        have HS := Lib.hid hs
        generalize ws[j.toNat]?.getD 0 = x at hc HS
        clear hs
        have hab : ab < wr.heap.size := by omega
        subst ha
        go_wp2
        have HE : Hid ((if 0 < (if x < b then x else b) then (if x < b then x else b) else 0) = serve b ws j) := by
          show _ = _
          rw [HS.out]
          omega
        go_roundw
        case rel =>
          refine ⟨k + 1, by omega, by go_num, ?_, ?_, by simp; omega⟩
          · first | rw [HE.out] | rw [← HS.out]
            rw [Below.heap_alloc _ _ _ (by simp; omega), heap_setCell_row HR.out, ← planCells_set _ _ _ _ hlt8, HJ.out]
          · go_grown
        case measure => simp [intOf]; omega
      · have hs : serve b ws j = 0 := by unfold serve; rw [if_neg (by omega)]
        have HS := Lib.hid hs
        clear hs
        go_wp2
        go_roundw
        case rel => exact ⟨k + 1, by omega, by go_num, by rw [Below.heap_alloc _ _ _ hsz, HR.out, planCells_none _ _ _ _ hlt8 (by rw [HJ.out]; exact HS.out)], hbel.alloc (by omega) _, by simp; omega⟩
        case measure => simp [intOf]; omega
    · go_wp2
      go_ret
      obtain rfl : k = 8 := by omega
      exact ⟨rfl, hrow, hbel⟩
end Go.Proofs.YtdncpihaeobaeaaGreat
