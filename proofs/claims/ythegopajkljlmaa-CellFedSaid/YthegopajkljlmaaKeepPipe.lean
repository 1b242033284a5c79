/- Walks of cordonkeep.pick, cordonkeep.Pipe. -/
import Derived.Test.YthegopajkljlmaaKeep
set_option linter.unusedVariables false
namespace Go.Proofs.Ythegopajkljlmaa
open Go.RowKit Go.Maps
def pickI (l : List Int) (i : Nat) : Int := if l = [] then 0 else l[i % l.length]?.getD 0
theorem pickI_range {l : List Int} (h : ∀ x ∈ l, (Lit.int .i64 x).wf = true) (i : Nat) : -9223372036854775808 ≤ pickI l i ∧ pickI l i ≤ 9223372036854775807 := by
  unfold pickI
  split
  · omega
  · rename_i hne
    have hpos : 0 < l.length := List.length_pos_iff.2 hne
    rw [List.getElem?_eq_getElem (Nat.mod_lt _ hpos)]
    exact i64_range (h _ (List.getElem_mem _))
set_option maxRecDepth 20000 in
theorem pick_at (a : Option Addr) (cap : Nat) (l : List Int) (i : Nat) (w : World) (hl : SlAt 1 (flat (intC .i64)) w a l) (hmx : l.length ≤ maxLen) (hi : i < 2 ^ 60) :
    Calls Try.prog 45 #[.slice a l.length cap, .int .i64 i] w fun e w' => e = .returned (.int .i64 (pickI l i)) ∧ w = w' := by
  unfold maxLen at hmx
  cases l with
  | nil =>
    go_enter Try.func45, Try.ntmps45
    go_wp2
    go_ret
    exact ⟨rfl, rfl⟩
  | cons x l =>
    have hpos : 0 < (x :: l).length := by simp
    have hmod := Nat.mod_lt i hpos
    obtain ⟨b, o, rfl, hbl, c0⟩ := hl.intAt (i % (x :: l).length) hmod
    have hp : pickI (x :: l) i = (x :: l)[i % (x :: l).length]?.getD 0 := by unfold pickI; rw [if_neg (by simp)]
    rw [← hp] at c0
    generalize pickI (x :: l) i = y at *
    clear hp hl
    generalize (x :: l).length = n at *
    have hne : ((n : Int) == 0) = false := by simp; omega
    have hmo : ((i : Int).tmod n) = ((i % n : Nat) : Int) := by rw [Int.tmod_eq_emod_of_nonneg (by omega)]; rfl
    have hmo2 : ((i : Int) % n) = ((i % n : Nat) : Int) := rfl
    generalize i % n = j at *
    go_enter Try.func45, Try.ntmps45
    go_wp2
    go_ret
    exact ⟨rfl, rfl⟩
def opAt (ops ns : List Int) (i : Nat) : Opr :=
  ⟨within (ops[i]?.getD 0) 1 6, if within (ops[i]?.getD 0) 1 6 = 3 then within (within (pickI ns i) (-5) 9) 1 4 else if within (ops[i]?.getD 0) 1 6 = 6 then within (within (pickI ns i) (-5) 9) 0 2 else within (pickI ns i) (-5) 9⟩
/-- Numbers of which a pipe is made. -/
structure PipeQ where
  ops : List Int
  ns : List Int
  size : Int
  slide : Int
  agg : Int
  sink : Int
  feed : Int
def PipeQ.wf (k : PipeQ) : Prop := (∀ x ∈ k.ops, (Lit.int .i64 x).wf = true) ∧ (∀ x ∈ k.ns, (Lit.int .i64 x).wf = true) ∧ (Lit.int .i64 k.size).wf = true ∧ (Lit.int .i64 k.slide).wf = true ∧ (Lit.int .i64 k.agg).wf = true ∧ (Lit.int .i64 k.sink).wf = true ∧ (Lit.int .i64 k.feed).wf = true ∧ k.ops.length ≤ maxLen ∧ k.ns.length ≤ maxLen
def pipeOf (k : PipeQ) : Pp := ⟨(List.range (min k.ops.length 4)).map (opAt k.ops k.ns), within k.size (within k.slide 1 12) (4 * within k.slide 1 12), within k.slide 1 12, within k.agg 1 4, within k.sink (-1) 1, within k.feed (-1) 1⟩
theorem opAt_right (ops ns : List Int) (i : Nat) : rightO (opAt ops ns i) = true ∧ (opAt ops ns i).wf := by
  have h1 := within_range (ops[i]?.getD 0) 1 6 (by omega)
  have h2 := within_range (pickI ns i) (-5) 9 (by omega)
  have h3 := within_range (within (pickI ns i) (-5) 9) 1 4 (by omega)
  have h4 := within_range (within (pickI ns i) (-5) 9) 0 2 (by omega)
  unfold opAt
  generalize within (ops[i]?.getD 0) 1 6 = k at *
  generalize within (within (pickI ns i) (-5) 9) 1 4 = x at *
  generalize within (within (pickI ns i) (-5) 9) 0 2 = y at *
  generalize within (pickI ns i) (-5) 9 = z at *
  by_cases k3 : k = 3
  · subst k3
    exact ⟨by simp [rightO]; omega, show (Lit.int .i64 3).wf = true by decide, WalkArith.wf_i64 (by simp; omega)⟩
  · by_cases k6 : k = 6
    · subst k6
      exact ⟨by simp [rightO]; omega, show (Lit.int .i64 6).wf = true by decide, WalkArith.wf_i64 (by simp; omega)⟩
    · have : k = 1 ∨ k = 2 ∨ k = 4 ∨ k = 5 := by omega
      exact ⟨by simp [rightO, this], WalkArith.wf_i64 (by simp; omega), WalkArith.wf_i64 (by simp [k3, k6]; omega)⟩
theorem pipeOf_right (k : PipeQ) : rightPp (pipeOf k) = true ∧ (∀ o ∈ (pipeOf k).ops, o.wf) ∧ (pipeOf k).ops.length ≤ 4 ∧ 1 ≤ (pipeOf k).slide ∧ (pipeOf k).slide ≤ 12 ∧ (pipeOf k).slide ≤ (pipeOf k).size ∧ (pipeOf k).size ≤ 4 * (pipeOf k).slide := by
  have h1 := within_range k.slide 1 12 (by omega)
  have h2 := within_range k.size (within k.slide 1 12) (4 * within k.slide 1 12) (by omega)
  have h3 := within_range k.agg 1 4 (by omega)
  have h4 := within_range k.sink (-1) 1 (by omega)
  have h5 := within_range k.feed (-1) 1 (by omega)
  have hl : (pipeOf k).ops.length ≤ 4 := by simp [pipeOf]; omega
  refine ⟨?_, ?_, hl, h1.1, h1.2, h2.1, h2.2⟩
  · unfold rightPp
    have e1 : rightOps (pipeOf k).ops = true := by
      unfold rightOps
      rw [Bool.and_eq_true]
      refine ⟨by simp; omega, List.all_eq_true.2 fun o ho => ?_⟩
      obtain ⟨i, _, rfl⟩ := List.mem_map.1 ho
      exact (opAt_right _ _ _).1
    have e2 : decide (rightW (pipeOf k).size (pipeOf k).slide) = true := by
      refine decide_eq_true ⟨h1.1, h2.1, by show within k.size _ _ ≤ _; omega, ?_⟩
      show (within k.size (within k.slide 1 12) (4 * within k.slide 1 12) + within k.slide 1 12 - 1) / within k.slide 1 12 ≤ 8
      exact Int.ediv_le_of_le_mul (by omega) (by omega)
    have e3 : rightK (pipeOf k).agg = true := by
      show rightK (within k.agg 1 4) = true
      unfold rightK
      simp only [Bool.and_eq_true, decide_eq_true_eq]
      exact h3
    have e4 : placeOk (pipeOf k).sink = true := by
      show placeOk (within k.sink (-1) 1) = true
      generalize within k.sink (-1) 1 = x at *
      have : x = -1 ∨ x = 0 ∨ x = 1 := by omega
      rcases this with rfl | rfl | rfl <;> rfl
    have e5 : placeOk (pipeOf k).feed = true := by
      show placeOk (within k.feed (-1) 1) = true
      generalize within k.feed (-1) 1 = x at *
      have : x = -1 ∨ x = 0 ∨ x = 1 := by omega
      rcases this with rfl | rfl | rfl <;> rfl
    rw [e1, e2, e3, e4, e5]
    rfl
  · intro o ho
    obtain ⟨i, _, rfl⟩ := List.mem_map.1 ho
    exact (opAt_right _ _ _).2
set_option maxHeartbeats 4000000 in
set_option maxRecDepth 20000 in
theorem pipe_st {w0 w : World} {L : List HP} (h : St w0 w L) (k : PipeQ) (hk : k.wf) (ao an : Option Addr) (co cn : Nat) (hlo : Seen w0 (sepL L) 1 (intC .i64) ao k.ops) (hln : Seen w0 (sepL L) 1 (intC .i64) an k.ns) :
    Calls Try.prog 20 #[.agg #[.slice ao k.ops.length co, .slice an k.ns.length cn, .int .i64 k.size, .int .i64 k.slide, .int .i64 k.agg, .int .i64 k.sink, .int .i64 k.feed]] w fun e w' =>
      ∃ a cap, e = .returned (.agg #[.slice a (pipeOf k).ops.length cap, .int .i64 (pipeOf k).size, .int .i64 (pipeOf k).slide, .int .i64 (pipeOf k).agg, .int .i64 (pipeOf k).sink, .int .i64 (pipeOf k).feed]) ∧ (a = none → cap = 0) ∧ St w0 w' (L ++ [ownP 92 2 Opr.cells (.slice a (pipeOf k).ops.length cap) (pipeOf k).ops]) := by
  obtain ⟨hwo, hwn, hsz, hsl, hag, hsk, hfd, hmo, hmn⟩ := hk
  have HWO := Lib.hid hwo
  have HWN := Lib.hid hwn
  have HLO := Lib.hid hlo
  have HLN := Lib.hid hln
  have hr1 := i64_range hsz
  have hr2 := i64_range hsl
  have hr3 := i64_range hag
  have hr4 := i64_range hsk
  have hr5 := i64_range hfd
  obtain ⟨ops, ns, size, slide, ag, sink, feed⟩ := k
  dsimp only at hr1 hr2 hr3 hr4 hr5 hmo hmn HWO HWN HLO HLN ⊢
  have hs := within_range slide 1 12 (by omega)
  have HMO := Lib.hid hmo
  have HMN := Lib.hid hmn
  unfold maxLen at hmo hmn
  have hst := (h.wrap.alloc (.cells #[.slice ao ops.length co, .slice an ns.length cn, .int .i64 size, .int .i64 slide, .int .i64 ag, .int .i64 sink, .int .i64 feed] 56)).alloc (.cells #[.slice none 0 0, .int .i64 0, .int .i64 0, .int .i64 0, .int .i64 0, .int .i64 0] 26)
  have HS := Lib.hid hst
  clear hst h hwo hwn hlo hln hsz hsl hag hsk hfd
  go_enter Try.func20, Try.ntmps20
  go_wp2_with fail
  refine wp_at HS.out ?_
  intro w1 hst1
  generalize hg : w.heap.size = g at *
  have hge : (w.alloc (.cells #[.slice ao ops.length co, .slice an ns.length cn, .int .i64 size, .int .i64 slide, .int .i64 ag, .int .i64 sink, .int .i64 feed] 56)).heap.size = g + 1 := by simp [hg]
  rw [hge] at hst1
  clear hge HS hg
  obtain ⟨q1, _⟩ := blkCells (hst1.blk 1 rfl).1
  have hg1 : g < w1.heap.size := (hst1.blk 1 rfl).2.2
  have hg2 : g + 1 < w1.heap.size := (hst1.blk 2 rfl).2.2
  have e3 := q1 3
  have e4 := q1 4
  have e5 := q1 5
  have e6 := q1 6
  simp at e3 e4 e5 e6
  have HS1 := Lib.hid hst1
  clear hst1 q1
  go_cut [3] from 6 to 18 (fun u wx => ∃ gp, u = .pointer (some ⟨gp, 0, none⟩) ∧ St w0 wx [sepL L, pt g (.cells #[.slice ao ops.length co, .slice an ns.length cn, .int .i64 size, .int .i64 slide, .int .i64 ag, .int .i64 sink, .int .i64 feed] 56 (0, 0)), pt (g + 1) (.cells #[.slice none 0 0, .int .i64 0, .int .i64 0, .int .i64 0, .int .i64 0, .int .i64 0] 26 (0, 0)), pt gp (.cells #[.slice none 0 0, .int .i64 0, .int .i64 (within slide 1 12), .int .i64 (within ag 1 4), .int .i64 (within sink (-1) 1), .int .i64 (within feed (-1) 1)] 26 (0, 0))])
  case first =>
    go_region_held3 (fun w' => w'.cell? ⟨g, 3, none⟩ = some (.int .i64 slide) ∧ w'.cell? ⟨g, 4, none⟩ = some (.int .i64 ag) ∧ w'.cell? ⟨g, 5, none⟩ = some (.int .i64 sink) ∧ w'.cell? ⟨g, 6, none⟩ = some (.int .i64 feed))
      (exact ⟨(Below.cell (B := w1.heap.size) (w := w1) (by go_grown) hg1).trans e3, (Below.cell (B := w1.heap.size) (w := w1) (by go_grown) hg1).trans e4, (Below.cell (B := w1.heap.size) (w := w1) (by go_grown) hg1).trans e5, (Below.cell (B := w1.heap.size) (w := w1) (by go_grown) hg1).trans e6⟩)
      (first | (go_at_call 21; refine (Within_at _ _ _ _ (by omega) (by omega) (by omega) (by omega) (by omega)).mono ?_; rintro e wz ⟨rfl, rfl⟩))
    all_goals
      go_wp2
      go_meet
      exact ⟨_, rfl, (HS1.out.alloc _).drew⟩
  case rest =>
    obtain ⟨gp, rfl, hst2⟩ := hcut
    have hz := within_range size (within slide 1 12) (4 * within slide 1 12) (by omega)
    obtain ⟨q2, z2⟩ := blkCells (hst2.blk 3 rfl).1
    obtain ⟨p2, _⟩ := blkCells (hst2.blk 1 rfl).1
    have hp2 : gp < wc.heap.size := (hst2.blk 3 rfl).2.2
    have hg3 : g < wc.heap.size := (hst2.blk 1 rfl).2.2
    have hst3 := (hst2.set 3 rfl 1 (.int .i64 (within size (within slide 1 12) (4 * within slide 1 12)))).nil 92 2 Opr.cells
    have HS3 := Lib.hid hst3
    clear hst2 hst3 HS1 e3 e4 e5 e6 hg1 hg2
    have hpo : pipeOf ⟨ops, ns, size, slide, ag, sink, feed⟩ = ⟨(List.range (min ops.length 4)).map (opAt ops ns), within size (within slide 1 12) (4 * within slide 1 12), within slide 1 12, within ag 1 4, within sink (-1) 1, within feed (-1) 1⟩ := rfl
    generalize hq2 : within slide 1 12 = S2 at *
    generalize hq1 : within size S2 (4 * S2) = S1 at *
    have HQ1 := Lib.hid hq1
    clear hq1 hq2
    generalize within ag 1 4 = S3 at *
    generalize within sink (-1) 1 = S4 at *
    generalize within feed (-1) 1 = S5 at *
    have HPO := Lib.hid hpo
    clear hpo
    go_wp2_with (go_at_call 21; refine (Within_at _ _ _ _ (by omega) (by omega) (by omega) (by omega) (by omega)).mono ?_; rintro e wz ⟨rfl, rfl⟩; rw [HQ1.out])
    refine wp_at HS3.out ?_
    intro w3 hst3
    clear q2 z2 p2 hp2 hg3 HS3
    have HS3 := Lib.hid hst3
    clear hst3
    have hOP : ∀ j, j < ops.length → j < 4 → (List.range (j + 1)).map (opAt ops ns) = (List.range j).map (opAt ops ns) ++ [opAt ops ns j] := fun j _ _ => by rw [List.range_succ, List.map_append]; rfl
    have HOP := Lib.hid hOP
    clear hOP
    go_loopw [4] (fun iv wr => ∃ (j : Nat) (av : Option Addr) (cap : Nat), j ≤ ops.length ∧ j ≤ 4 ∧ iv = .int .i64 j ∧ (av = none → cap = 0) ∧ St w0 wr [sepL L, pt g (.cells #[.slice ao ops.length co, .slice an ns.length cn, .int .i64 size, .int .i64 slide, .int .i64 ag, .int .i64 sink, .int .i64 feed] 56 (0, 0)), pt (g + 1) (.cells #[.slice none 0 0, .int .i64 0, .int .i64 0, .int .i64 0, .int .i64 0, .int .i64 0] 26 (0, 0)), pt gp (.cells #[.slice av j cap, .int .i64 S1, .int .i64 S2, .int .i64 S3, .int .i64 S4, .int .i64 S5] 26 (0, 0)), ownP 92 2 Opr.cells (.slice av j cap) ((List.range j).map (opAt ops ns))]) (fun iv _ => 4 - (intOf iv).toNat)
    case atStart => exact ⟨0, none, 0, by omega, by omega, rfl, fun _ => rfl, HS3.out⟩
    case round =>
      obtain ⟨j, av, cap, hj, hj4, rfl, hnil, hst⟩ := hrel
      obtain ⟨q1, _⟩ := blkCells (hst.blk 1 rfl).1
      have hg1 : g < wr.heap.size := (hst.blk 1 rfl).2.2
      have e0 := q1 0
      have e1 := q1 1
      simp at e0 e1
      have HNIL := Lib.hid hnil
      clear q1 hnil
      by_cases hlt : (j : Int) < ops.length
      · by_cases h4 : (j : Int) < 4
        · have hjn : j < ops.length := by omega
          have HLNr := Lib.hid (HLN.out wr _ 0 hst rfl)
          obtain ⟨b, o, rfl, hbl, c0⟩ := (HLO.out wr _ 0 hst rfl).intAt j hjn
          have hor : -9223372036854775808 ≤ ops[j]?.getD 0 ∧ ops[j]?.getD 0 ≤ 9223372036854775807 := by rw [List.getElem?_eq_getElem hjn]; exact i64_range (HWO.out _ (List.getElem_mem hjn))
          have hnr := pickI_range HWN.out j
          have hop : opAt ops ns j = ⟨within (ops[j]?.getD 0) 1 6, if within (ops[j]?.getD 0) 1 6 = 3 then within (within (pickI ns j) (-5) 9) 1 4 else if within (ops[j]?.getD 0) 1 6 = 6 then within (within (pickI ns j) (-5) 9) 0 2 else within (pickI ns j) (-5) 9⟩ := rfl
          have hzz := within_range (pickI ns j) (-5) 9 (by omega)
          have HPK := Lib.hid (fun (w' : World) (hb : Below wr.heap.size wr w') => pick_at an cn ns j w' (HLNr.out.below hb (fun _ _ h => h)) HMN.out (by omega))
          generalize ops[j]?.getD 0 = x at *
          generalize pickI ns j = y at *
          have HO2 := Lib.hid hop
          have HST := Lib.hid hst
          clear hop hst HLNr
          go_wp2_with fail
          go_cut [5] from 39 to 50 (fun u wx => ∃ gq, u = .pointer (some ⟨gq, 0, none⟩) ∧ St w0 wx [sepL L, pt g (.cells #[.slice (some ⟨b, o, none⟩) ops.length co, .slice an ns.length cn, .int .i64 size, .int .i64 slide, .int .i64 ag, .int .i64 sink, .int .i64 feed] 56 (0, 0)), pt (g + 1) (.cells #[.slice none 0 0, .int .i64 0, .int .i64 0, .int .i64 0, .int .i64 0, .int .i64 0] 26 (0, 0)), pt gp (.cells #[.slice av j cap, .int .i64 S1, .int .i64 S2, .int .i64 S3, .int .i64 S4, .int .i64 S5] 26 (0, 0)), ownP 92 2 Opr.cells (.slice av j cap) ((List.range j).map (opAt ops ns)), pt gq (.cells #[.int .i64 (within x 1 6), .int .i64 (within y (-5) 9)] 92 (0, 0))])
          case first =>
            go_region_held3 (fun w' => w'.cell? ⟨g, 0, none⟩ = some (.slice (some ⟨b, o, none⟩) ops.length co) ∧ w'.cell? ⟨g, 1, none⟩ = some (.slice an ns.length cn) ∧ w'.cell? ⟨b, o + j, none⟩ = some (.int .i64 x))
              (exact ⟨(Below.cell (B := wr.heap.size) (w := wr) (by go_grown) hg1).trans e0, (Below.cell (B := wr.heap.size) (w := wr) (by go_grown) hg1).trans e1, (Below.cell (B := wr.heap.size) (w := wr) (by go_grown) hbl).trans c0⟩)
              (first
                | (go_at_call 21; refine (Within_at _ _ _ _ (by omega) (by omega) (by omega) (by omega) (by omega)).mono ?_; rintro e wz ⟨rfl, rfl⟩)
                | (go_at_call 45; refine (HPK.out _ ?_).mono ?_; go_grown; rintro e wz ⟨rfl, rfl⟩))
            all_goals
              go_wp2
              go_meet
              exact ⟨_, rfl, (HST.out.alloc _).drew⟩
          case rest =>
            obtain ⟨gq, rfl, hst4⟩ := hcut
            obtain ⟨q4, z4⟩ := blkCells (hst4.blk 5 rfl).1
            obtain ⟨p4, y4⟩ := blkCells (hst4.blk 3 rfl).1
            have hq4 : gq < wc.heap.size := (hst4.blk 5 rfl).2.2
            have hp4 : gp < wc.heap.size := (hst4.blk 3 rfl).2.2
            have hne4 := hst4.ne 3 5 rfl rfl (by decide)
            have hoj := HOP.out j hjn (by omega)
            rw [HO2.out] at hoj
            have HOJ := Lib.hid hoj
            have hol : ((List.range j).map (opAt ops ns)).length < 1099511627776 := by simp; omega
            have HOL := Lib.hid hol
            have hout : ((List.range j).map (opAt ops ns)).length = j := by simp
            have HOUT := Lib.hid hout
            clear hout
            have hz1 := within_range (within y (-5) 9) 1 4 (by omega)
            have hz2 := within_range (within y (-5) 9) 0 2 (by omega)
            clear hoj hol HO2 HST c0 e0 e1
            generalize (List.range j).map (opAt ops ns) = out at *
            generalize within x 1 6 = kd at *
            generalize within y (-5) 9 = n0 at *
            by_cases k3 : kd = 3
            · subst k3
              simp only [if_true] at HOJ
              have HS4 := Lib.hid (hst4.set 5 rfl 1 (.int .i64 (within n0 1 4)))
              clear hst4
              have HS4b := Lib.hid (HS4.out.alloc (.cells #[.int .i64 3, .int .i64 (within n0 1 4)] 92))
              go_wp2_with (first
                | (go_at_call 21; refine (Within_at _ _ _ _ (by omega) (by omega) (by omega) (by omega) (by omega)).mono ?_; rintro e wz ⟨rfl, rfl⟩)
                | (at_builtin; refine wpList_push_st opElem rfl HS4b.out 4 rfl _ _ rfl rfl _ (⟨3, within n0 1 4⟩ : Opr) rfl (new_at _ _ _ (by simp)) HOL.out ?_; intro v5 w5 hst5 hv5; clear hv5; obtain ⟨a5, c5, rfl, _, _, hn5, _⟩ := hst5.sl Opr.len 4 rfl; have hl5 : (out ++ [(⟨3, within n0 1 4⟩ : Opr)]).length = j + 1 := (by simp [HOUT.out]); rw [hl5] at hst5 ⊢; obtain ⟨q5, z5⟩ := blkCells (hst5.blk 3 rfl).1; have hp5 : gp < w5.heap.size := (hst5.blk 3 rfl).2.2; have HS5 := Lib.hid hst5; have HN5 := Lib.hid hn5; clear hst5 hl5 hn5))
              go_roundw
              case rel =>
                refine ⟨j + 1, a5, c5, by omega, by omega, by go_num, HN5.out, ?_⟩
                rw [HOJ.out]
                exact (HS5.out.set 3 rfl 0 (.slice a5 (j + 1) c5)).pick [0, 1, 2, 3, 4] (by decide)
              case measure => simp [intOf]; omega
            · by_cases k6 : kd = 6
              · subst k6
                simp only [show ¬ ((6 : Int) = 3) by decide, if_false, if_true] at HOJ
                have HS4 := Lib.hid (hst4.set 5 rfl 1 (.int .i64 (within n0 0 2)))
                clear hst4
                have HS4b := Lib.hid (HS4.out.alloc (.cells #[.int .i64 6, .int .i64 (within n0 0 2)] 92))
                go_wp2_with (first
                  | (go_at_call 21; refine (Within_at _ _ _ _ (by omega) (by omega) (by omega) (by omega) (by omega)).mono ?_; rintro e wz ⟨rfl, rfl⟩)
                  | (at_builtin; refine wpList_push_st opElem rfl HS4b.out 4 rfl _ _ rfl rfl _ (⟨6, within n0 0 2⟩ : Opr) rfl (new_at _ _ _ (by simp)) HOL.out ?_; intro v5 w5 hst5 hv5; clear hv5; obtain ⟨a5, c5, rfl, _, _, hn5, _⟩ := hst5.sl Opr.len 4 rfl; have hl5 : (out ++ [(⟨6, within n0 0 2⟩ : Opr)]).length = j + 1 := (by simp [HOUT.out]); rw [hl5] at hst5 ⊢; obtain ⟨q5, z5⟩ := blkCells (hst5.blk 3 rfl).1; have hp5 : gp < w5.heap.size := (hst5.blk 3 rfl).2.2; have HS5 := Lib.hid hst5; have HN5 := Lib.hid hn5; clear hst5 hl5 hn5))
                go_roundw
                case rel =>
                  refine ⟨j + 1, a5, c5, by omega, by omega, by go_num, HN5.out, ?_⟩
                  rw [HOJ.out]
                  exact (HS5.out.set 3 rfl 0 (.slice a5 (j + 1) c5)).pick [0, 1, 2, 3, 4] (by decide)
                case measure => simp [intOf]; omega
              · simp only [k3, k6, if_false] at HOJ
                have HS4 := Lib.hid hst4
                clear hst4
                have HS4b := Lib.hid (HS4.out.alloc (.cells #[.int .i64 kd, .int .i64 n0] 92))
                go_wp2_with (first
                  | (go_at_call 21; refine (Within_at _ _ _ _ (by omega) (by omega) (by omega) (by omega) (by omega)).mono ?_; rintro e wz ⟨rfl, rfl⟩)
                  | (at_builtin; refine wpList_push_st opElem rfl HS4b.out 4 rfl _ _ rfl rfl _ (⟨kd, n0⟩ : Opr) rfl (new_at _ _ _ (by simp)) HOL.out ?_; intro v5 w5 hst5 hv5; clear hv5; obtain ⟨a5, c5, rfl, _, _, hn5, _⟩ := hst5.sl Opr.len 4 rfl; have hl5 : (out ++ [(⟨kd, n0⟩ : Opr)]).length = j + 1 := (by simp [HOUT.out]); rw [hl5] at hst5 ⊢; obtain ⟨q5, z5⟩ := blkCells (hst5.blk 3 rfl).1; have hp5 : gp < w5.heap.size := (hst5.blk 3 rfl).2.2; have HS5 := Lib.hid hst5; have HN5 := Lib.hid hn5; clear hst5 hl5 hn5))
                go_roundw
                case rel =>
                  refine ⟨j + 1, a5, c5, by omega, by omega, by go_num, HN5.out, ?_⟩
                  rw [HOJ.out]
                  exact (HS5.out.set 3 rfl 0 (.slice a5 (j + 1) c5)).pick [0, 1, 2, 3, 4] (by decide)
                case measure => simp [intOf]; omega
        · obtain ⟨p4, y4⟩ := blkCells (hst.blk 3 rfl).1
          obtain ⟨q4, z4⟩ := blkCells (hst.blk 2 rfl).1
          have hp4 : gp < wr.heap.size := (hst.blk 3 rfl).2.2
          have hg2 : g + 1 < wr.heap.size := (hst.blk 2 rfl).2.2
          have HST := Lib.hid hst
          clear hst
          obtain rfl : j = 4 := by omega
          go_wp2
          have hp := HPO.out
          rw [Nat.min_eq_right (by omega)] at hp
          refine bodyPost_ret (v := .agg #[.slice av 4 cap, .int .i64 S1, .int .i64 S2, .int .i64 S3, .int .i64 S4, .int .i64 S5]) (by simp [results, go_sem, q4]) rfl ?_
          rw [hp]
          refine ⟨av, cap, by simp, HNIL.out, ?_⟩
          have h := (((((((HST.out.set 2 rfl 0 (.slice av 4 cap)).set 2 rfl 1 (.int .i64 S1)).set 2 rfl 2 (.int .i64 S2)).set 2 rfl 3 (.int .i64 S3)).set 2 rfl 4 (.int .i64 S4)).set 2 rfl 5 (.int .i64 S5)).pick [0, 4] (by decide)).unwrap
          simpa using h
      · obtain ⟨p4, y4⟩ := blkCells (hst.blk 3 rfl).1
        obtain ⟨q4, z4⟩ := blkCells (hst.blk 2 rfl).1
        have hp4 : gp < wr.heap.size := (hst.blk 3 rfl).2.2
        have hg2 : g + 1 < wr.heap.size := (hst.blk 2 rfl).2.2
        have HST := Lib.hid hst
        clear hst
        obtain rfl : j = ops.length := by omega
        go_wp2
        have hp := HPO.out
        rw [Nat.min_eq_left hj4] at hp
        refine bodyPost_ret (v := .agg #[.slice av ops.length cap, .int .i64 S1, .int .i64 S2, .int .i64 S3, .int .i64 S4, .int .i64 S5]) (by simp [results, go_sem, q4]) rfl ?_
        rw [hp]
        refine ⟨av, cap, by simp, HNIL.out, ?_⟩
        have h := (((((((HST.out.set 2 rfl 0 (.slice av ops.length cap)).set 2 rfl 1 (.int .i64 S1)).set 2 rfl 2 (.int .i64 S2)).set 2 rfl 3 (.int .i64 S3)).set 2 rfl 4 (.int .i64 S4)).set 2 rfl 5 (.int .i64 S5)).pick [0, 4] (by decide)).unwrap
        simpa using h
end Go.Proofs.Ythegopajkljlmaa
