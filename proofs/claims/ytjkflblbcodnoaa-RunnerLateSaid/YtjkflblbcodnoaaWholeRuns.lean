/- The walk of WholeRuns. -/
import Derived.Test.YtjkflblbcodnoaaWhole
set_option linter.unusedVariables false
namespace Go.Proofs.Ytjkflblbcodnoaa
open Go.RowKit Go.Maps
def p11 : Pp := ⟨[], 10, 10, 2, -1, -1⟩
def i11 : List Inp := [⟨false, ⟨3, 0, 5, 1⟩⟩, ⟨false, ⟨12, 0, 1, 4⟩⟩, ⟨true, ⟨10, 0, 0, 8⟩⟩, ⟨true, ⟨20, 0, 0, 0⟩⟩]
theorem i11_wf : ∀ i ∈ i11, i.ev.wf := by
  intro i hi
  simp [i11] at hi
  rcases hi with rfl | rfl | rfl | rfl <;> exact ⟨by decide, by decide, by decide, by decide⟩
theorem w11_1 : (wholeRows p11 i11).length = 2 := by decide +kernel
theorem w11_2 : (wholeRows p11 (i11.take 3)).length = 1 := by decide +kernel
theorem w11_3 : ((afterR (newR p11) i11).L.length : Int) == 0 := by decide +kernel
theorem w11_4 : (((afterR (newR p11) (i11.take 3)).L.length : Int) == 0) = false := by decide +kernel
theorem w11_5 : labelsOf i11 = 5 := by decide +kernel
def L11 (g : Nat) : List HP := [pt g (.cells #[.slice none 0 0, .int .i64 10, .int .i64 10, .int .i64 2, .int .i64 (-1), .int .i64 (-1)] 57 (0, 0)), pt (g + 1) (.cells (i11.flatMap Inp.cells).toArray 64 (0, 0))]
section
variable {w0 w : World} {g : Nat}
theorem r11 (h : St w0 w (L11 g)) : Calls Try.prog 39 #[.agg #[.slice none 0 0, .int .i64 10, .int .i64 10, .int .i64 2, .int .i64 (-1), .int .i64 (-1)], .slice (some ⟨g + 1, 0, none⟩) 4 4] w fun e w' => ∃ a c, e = .returned (.slice a 2 c) ∧ St w0 w' (L11 g) :=
  (rows_st h p11 none 0 (.inl rfl) (fun _ => rfl) (by simp [p11]) (by decide) (by decide +kernel) (some ⟨g + 1, 0, none⟩) 4 i11 (Seen.pt Inp.len 1 rfl) i11_wf (by decide)).mono (by
    rintro e w' ⟨v, rfl, hst⟩
    obtain ⟨a, c, rfl, _⟩ := hst.sl Rw.len 2 rfl
    exact ⟨a, c, by rw [w11_1], hst.cut⟩)
theorem r11b (h : St w0 w (L11 g)) : Calls Try.prog 39 #[.agg #[.slice none 0 0, .int .i64 10, .int .i64 10, .int .i64 2, .int .i64 (-1), .int .i64 (-1)], .slice (some ⟨g + 1, 0, none⟩) 3 4] w fun e w' => ∃ a c, e = .returned (.slice a 1 c) ∧ St w0 w' (L11 g) :=
  (rows_st h p11 none 0 (.inl rfl) (fun _ => rfl) (by simp [p11]) (by decide) (by decide +kernel) (some ⟨g + 1, 0, none⟩) 4 (i11.take 3) ((Seen.pt Inp.len 1 rfl : Seen w0 (sepL (L11 g)) 5 Inp.cells (some ⟨g + 1, 0, none⟩) i11).take 3) (fun i hi => i11_wf i (List.mem_of_mem_take hi)) (by decide)).mono (by
    rintro e w' ⟨v, rfl, hst⟩
    obtain ⟨a, c, rfl, _⟩ := hst.sl Rw.len 2 rfl
    exact ⟨a, c, by rw [w11_2], hst.cut⟩)
theorem q11 (h : St w0 w (L11 g)) : Calls Try.prog 40 #[.agg #[.slice none 0 0, .int .i64 10, .int .i64 10, .int .i64 2, .int .i64 (-1), .int .i64 (-1)], .slice (some ⟨g + 1, 0, none⟩) 4 4] w fun e w' => e = .returned (.bool true) ∧ St w0 w' (L11 g) :=
  (past_st h p11 none 0 (.inl rfl) (fun _ => rfl) (by simp [p11]) (by decide) (by decide +kernel) (some ⟨g + 1, 0, none⟩) 4 i11 (Seen.pt Inp.len 1 rfl) i11_wf (by decide)).mono (by
    rintro e w' ⟨rfl, hst⟩
    exact ⟨by rw [w11_3], hst⟩)
theorem q11b (h : St w0 w (L11 g)) : Calls Try.prog 40 #[.agg #[.slice none 0 0, .int .i64 10, .int .i64 10, .int .i64 2, .int .i64 (-1), .int .i64 (-1)], .slice (some ⟨g + 1, 0, none⟩) 3 4] w fun e w' => e = .returned (.bool false) ∧ St w0 w' (L11 g) :=
  (past_st h p11 none 0 (.inl rfl) (fun _ => rfl) (by simp [p11]) (by decide) (by decide +kernel) (some ⟨g + 1, 0, none⟩) 4 (i11.take 3) ((Seen.pt Inp.len 1 rfl : Seen w0 (sepL (L11 g)) 5 Inp.cells (some ⟨g + 1, 0, none⟩) i11).take 3) (fun i hi => i11_wf i (List.mem_of_mem_take hi)) (by decide)).mono (by
    rintro e w' ⟨rfl, hst⟩
    exact ⟨by rw [w11_4], hst⟩)
theorem l11 (h : St w0 w (L11 g)) : Calls Try.prog 41 #[.slice (some ⟨g + 1, 0, none⟩) 4 4] w fun e w' => e = .returned (.int .u64 5) ∧ St w0 w' (L11 g) :=
  (labels_st h (some ⟨g + 1, 0, none⟩) 4 i11 (Seen.pt Inp.len 1 rfl) (by decide)).mono (by
    rintro e w' ⟨rfl, hst⟩
    exact ⟨by rw [w11_5], hst⟩)
end
set_option maxHeartbeats 1000000 in
set_option maxRecDepth 20000 in
theorem WholeRuns_any (w : World) : Calls Try.prog 8 #[] w fun e w' => e = .returned (.bool true) ∧ Below w.heap.size w w' := by
  have h0 : St w ((w.alloc (.cells #[.slice none 0 0, .int .i64 10, .int .i64 10, .int .i64 2, .int .i64 (-1), .int .i64 (-1)] 57)).alloc (.cells (i11.flatMap Inp.cells).toArray 64)) (L11 w.heap.size) := by
    have := ((St.start w).alloc (.cells #[.slice none 0 0, .int .i64 10, .int .i64 10, .int .i64 2, .int .i64 (-1), .int .i64 (-1)] 57)).alloc (.cells (i11.flatMap Inp.cells).toArray 64)
    rwa [World.size_alloc] at this
  have H0 := Lib.hid h0
  clear h0
  go_enter Try.func8, Try.ntmps8
  go_wp2_with fail
  refine wp_at H0.out ?_
  intro w1 hst1
  clear H0
  generalize hg : w.heap.size = g at *
  obtain ⟨q1, _⟩ := blkCells (hst1.blk 0 rfl).1
  have hl1 : g < w1.heap.size := (hst1.blk 0 rfl).2.2
  have k0 := q1 0
  have k1 := q1 1
  have k2 := q1 2
  have k3 := q1 3
  have k4 := q1 4
  have k5 := q1 5
  simp at k0 k1 k2 k3 k4 k5
  have HS := Lib.hid hst1.drew
  have HG := Lib.hid hg
  clear hst1 q1 hg
  go_region_held3 (fun w' => w'.cell? ⟨g, 0, none⟩ = some (.slice none 0 0) ∧ w'.cell? ⟨g, 1, none⟩ = some (.int .i64 10) ∧ w'.cell? ⟨g, 2, none⟩ = some (.int .i64 10) ∧ w'.cell? ⟨g, 3, none⟩ = some (.int .i64 2) ∧ w'.cell? ⟨g, 4, none⟩ = some (.int .i64 (-1)) ∧ w'.cell? ⟨g, 5, none⟩ = some (.int .i64 (-1)))
    (exact ⟨k0, k1, k2, k3, k4, k5⟩)
    (first
      | (go_at_call 39; (with_reducible refine (r11 HS.out).mono ?_); rintro e w2 ⟨a2, c2, rfl, hst2⟩; clear HS k0 k1 k2 k3 k4 k5; obtain ⟨q2, _⟩ := blkCells (hst2.blk 0 rfl).1; have k0 := q2 0; have k1 := q2 1; have k2 := q2 2; have k3 := q2 3; have k4 := q2 4; have k5 := q2 5; simp at k0 k1 k2 k3 k4 k5; have HS := Lib.hid hst2; clear hst2 q2)
      | (go_at_call 39; (with_reducible refine (r11b HS.out).mono ?_); rintro e w2 ⟨a2, c2, rfl, hst2⟩; clear HS k0 k1 k2 k3 k4 k5; obtain ⟨q2, _⟩ := blkCells (hst2.blk 0 rfl).1; have k0 := q2 0; have k1 := q2 1; have k2 := q2 2; have k3 := q2 3; have k4 := q2 4; have k5 := q2 5; simp at k0 k1 k2 k3 k4 k5; have HS := Lib.hid hst2; clear hst2 q2)
      | (go_at_call 40; (with_reducible refine (q11 HS.out).mono ?_); rintro e w2 ⟨rfl, hst2⟩; clear HS k0 k1 k2 k3 k4 k5; obtain ⟨q2, _⟩ := blkCells (hst2.blk 0 rfl).1; have k0 := q2 0; have k1 := q2 1; have k2 := q2 2; have k3 := q2 3; have k4 := q2 4; have k5 := q2 5; simp at k0 k1 k2 k3 k4 k5; have HS := Lib.hid hst2; clear hst2 q2)
      | (go_at_call 40; (with_reducible refine (q11b HS.out).mono ?_); rintro e w2 ⟨rfl, hst2⟩; clear HS k0 k1 k2 k3 k4 k5; obtain ⟨q2, _⟩ := blkCells (hst2.blk 0 rfl).1; have k0 := q2 0; have k1 := q2 1; have k2 := q2 2; have k3 := q2 3; have k4 := q2 4; have k5 := q2 5; simp at k0 k1 k2 k3 k4 k5; have HS := Lib.hid hst2; clear hst2 q2)
      | (go_at_call 41; (with_reducible refine (l11 HS.out).mono ?_); rintro e w2 ⟨rfl, hst2⟩; clear HS k0 k1 k2 k3 k4 k5; obtain ⟨q2, _⟩ := blkCells (hst2.blk 0 rfl).1; have k0 := q2 0; have k1 := q2 1; have k2 := q2 2; have k3 := q2 3; have k4 := q2 4; have k5 := q2 5; simp at k0 k1 k2 k3 k4 k5; have HS := Lib.hid hst2; clear hst2 q2))
  go_wp2
  go_ret
  exact ⟨rfl, by rw [HG.out]; exact HG.out ▸ HS.out.below⟩
end Go.Proofs.Ytjkflblbcodnoaa
