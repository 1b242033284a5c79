/- Walks of cordonbook.Roomy, Intact, Same at numbers. -/
import Derived.Test.YtgbbahgllpdjmaaOwn
import Derived.Laws.CopyOwn
import Derived.Laws.OwnMore
set_option linter.unusedVariables false
namespace Go.Proofs.Ytgbbahgllpdjmaa
open Go.RowKit
theorem intInfoR : ∃ i, Try.prog.info? 3 = some i ∧ i.zero = some (.int .i64 0) ∧ i.size = 1 ∧ i.bytes = 8 := info_parts (by kernel_rfl)
/-- Two rows that are the same. -/
theorem SameInt_yes (l : List Int) (a b : Option Addr) (ca cb : Nat) (w : World) (ha : SlAt 1 (flat (intC .i64)) w a l) (hb : SlAt 1 (flat (intC .i64)) w b l) (hlen : l.length ≤ 1000000) :
    Calls Try.prog 31 #[.slice a l.length ca, .slice b l.length cb] w fun e w' => e = .returned (.bool true) ∧ ∃ n, w' = w.drewN n := by
  have HA := Lib.hid ha
  have HB := Lib.hid hb
  clear ha hb
  go_enter Try.func31, Try.ntmps31
  go_wp2
  go_loopw [5] (fun i wr => ∃ (k n : Nat), k ≤ l.length ∧ i = .int .i64 k ∧ wr = w.drewN n) (fun i _ => l.length - (intOf i).toNat)
  case atStart => exact ⟨0, 0, by omega, rfl, rfl⟩
  case round =>
    obtain ⟨k, n, hk, rfl, rfl⟩ := hrel
    by_cases hlt : k < l.length
    · obtain ⟨b1, o1, rfl, h1, x1⟩ := HA.out.intAt k hlt
      obtain ⟨b2, o2, rfl, h2, x2⟩ := HB.out.intAt k hlt
      generalize l[k]?.getD 0 = x at *
      go_wp2_with fail
      go_region
      all_goals
        go_wp2
        go_roundw
        case rel => exact ⟨k + 1, n + 1, by omega, by go_num, rfl⟩
        case measure => simp [intOf]; omega
    · go_wp2
      go_ret
      exact ⟨rfl, n, rfl⟩
/-- own room: what it was, then 80 marks -/
def roomy (l : List Int) (m : Int) : List Int := l ++ List.replicate 80 m
theorem roomy_len (l : List Int) (m : Int) : (roomy l m).length = l.length + 80 := by simp [roomy]
theorem roomy_step (l : List Int) (m : Int) (j : Nat) (hj : j < 80) :
    (l ++ List.replicate j m ++ List.replicate (80 - j) 0).set (l.length + j) m = l ++ List.replicate (j + 1) m ++ List.replicate (80 - (j + 1)) 0 := by
  rw [List.append_assoc, List.set_append_right _ _ (by omega), show l.length + j - l.length = j from by omega, List.set_append_right _ _ (by simp), List.length_replicate, Nat.sub_self,
    show 80 - j = (80 - (j + 1)) + 1 from by omega, List.replicate_succ, List.set_cons_zero, List.append_assoc, show List.replicate (j + 1) m = List.replicate j m ++ [m] from by rw [List.replicate_succ']]
  simp
theorem flat_replicate (n : Nat) (x : Int) : (List.replicate n x).flatMap (intC .i64) = List.replicate n (.int .i64 x) := by
  induction n with
  | zero => rfl
  | succ n ih => rw [List.replicate_succ, List.flatMap_cons, ih]; rfl
theorem splice_zero (l : List Int) (m : Int) (h : (l.flatMap (intC .i64)).length = l.length) :
    splice (List.replicate (l.length + 80) (Value.int .i64 0)) 0 (l.flatMap (intC .i64)) = (l ++ List.replicate 0 m ++ List.replicate (80 - 0) 0).flatMap (intC .i64) := by
  rw [List.replicate_zero, List.append_nil, List.flatMap_append, flat_replicate]
  unfold splice
  rw [List.take_zero, List.nil_append, Nat.zero_add, h, List.drop_replicate, show l.length + 80 - l.length = 80 - 0 from by omega]
theorem RoomyInt_any (l : List Int) (a : Option Addr) (ca : Nat) (m : Int) (w : World) (hn : a = none → ca = 0) (ha : SlAt 1 (flat (intC .i64)) w a l) (hlen : l.length ≤ 1000000) :
    Calls Try.prog 23 #[.slice a l.length ca, .int .i64 m] w fun e w' => e = .returned (.slice (some ⟨w.heap.size, 0, none⟩) (l.length + 80) (l.length + 80)) ∧
      w'.ownsRow w.heap.size 3 1 (.slice (some ⟨w.heap.size, 0, none⟩) (l.length + 80) (l.length + 80)) (l.length + 80) ((roomy l m).flatMap (intC .i64)) ∧ Below w.heap.size w w' := by
  obtain ⟨i0, hi, hz0, hz1, hz2⟩ := intInfoR
  have hsz1 : (Try.prog.info? 3).map (·.size) = some 1 := by rw [hi]; simp [hz1]
  have HA := Lib.hid ha
  clear ha
  go_enter Try.func23, Try.ntmps23
  go_wp2_with (at_make; refine wpList_make_full _ rfl _ _ 30 rfl w.heap.size 3 i0 _ 1 Try.underlying30 hi hz0 hz1 .i64 .i64 _ _ (l.length + 80) rfl rfl (by push_cast; rfl) (by push_cast; rfl) (by rw [hz2]; omega) (by unfold maxLen; omega) (Nat.le_refl _) ?_)
  intro w1 hown hg1
  rw [toList_madeCells_one] at hown
  have hb1 : Below w.heap.size w w1 := (Below.refl _ w).grown hg1 (Nat.le_refl _) (by simp)
  obtain ⟨cur, hrow, hcur⟩ : ∃ cur : Array Value, w1.heap[w.heap.size]? = some (.cells cur 3 (0, 0)) ∧ cur.toList = List.replicate (l.length + 80) (.int .i64 0) := by
    rcases hown.2 with ⟨h, _⟩ | ⟨g, cap, cur, hv, hB, hg, hle, hmax, hsz, htake⟩
    · cases h
    · simp at hv
      obtain ⟨rfl, rfl⟩ := hv
      refine ⟨cur, hg, ?_⟩
      rw [← htake, List.take_of_length_le (by simp; omega)]
  have hrow2 : w1.heap[w.heap.size]? = some (.cells (List.replicate (l.length + 80) (Value.int .i64 0)).toArray 3 (0, 0)) := by rw [hrow, ← hcur]
  have HROW := Lib.hid hrow2
  have HB1 := Lib.hid hb1
  have hcl : (l.flatMap (intC .i64)).length = l.length := by rw [flatMap_len (intC_len _)]; omega
  have HCL := Lib.hid hcl
  clear hown hg1 hrow hcur hrow2 hb1 hcl
  go_wp2_with (refine wpList_copy_splice rfl _ _ 30 30 rfl 3 Try.underlying30 hsz1 (some ⟨w.heap.size, 0, none⟩) a _ _ _ _ rfl rfl w.heap.size 0 (List.replicate (l.length + 80) (Value.int .i64 0)) 3 HROW.out (l.flatMap (intC .i64)) (by rw [HCL.out]; exact (Nat.min_eq_left (by omega)).symm) ?hpos (by rw [HCL.out]; simp) ?hone w.heap.size w HB1.out (Nat.le_refl _) ?hk)
  case hpos =>
    intro h0
    try refine ⟨rfl, ?_⟩
    rcases HA.out with rfl | ⟨b, o, rfl, hlt, hh⟩
    · simp at h0
    · refine ⟨_, rfl, ?_⟩
      intro j v hv
      have := SlAt.cells (intC_len _) (by decide) (b := b) (o := o) (.inr ⟨b, o, rfl, hlt, hh⟩ : SlAt 1 (flat (intC .i64)) w (some ⟨b, o, none⟩) l) j v hv
      rw [show (⟨b, o, none⟩ : Addr).add j = ⟨b, o + j, none⟩ from by simp [Addr.add]]
      exact (HB1.out.cell (p := ⟨b, o + j, none⟩) hlt).trans this
  case hone =>
    intro v hv
    simp at hv
    obtain ⟨x, _, hx⟩ := hv
    exact intC_one _ x v hx
  intro w2 hrow2 hb2
  have HR2 : Hid (w2.heap[w.heap.size]? = some (.cells ((l ++ List.replicate 0 m ++ List.replicate (80 - 0) 0).flatMap (intC .i64)).toArray 3 (0, 0))) := by
    have := hrow2.out
    rw [show splice (List.replicate (l.length + 80) (Value.int .i64 0)) 0 (l.flatMap (intC .i64)) = (l ++ List.replicate 0 m ++ List.replicate (80 - 0) 0).flatMap (intC .i64) from splice_zero l m HCL.out] at this
    exact this
  have HB2 := Lib.hid hb2
  clear hrow2 HROW HB1 hb2
  go_wp2_with fail
  go_loopw [6] (fun i wr => ∃ j : Nat, j ≤ 80 ∧ i = .int .i64 ((l.length + j : Nat) : Int) ∧ wr.heap[w.heap.size]? = some (.cells ((l ++ List.replicate j m ++ List.replicate (80 - j) 0).flatMap (intC .i64)).toArray 3 (0, 0)) ∧ Below w.heap.size w wr) (fun i _ => l.length + 80 - (intOf i).toNat)
  case atStart => exact ⟨0, by omega, rfl, HR2.out, HB2.out⟩
  case round =>
    obtain ⟨j, hj, rfl, hrow, hbel⟩ := hrel
    have hR := Lib.hid hrow
    have hB := Lib.hid hbel
    have hlt0 := (Array.getElem?_eq_some_iff.1 hrow).1
    by_cases hj80 : j < 80
    · have hcl : ((l ++ List.replicate j m ++ List.replicate (80 - j) 0)).length = l.length + 80 := by simp; omega
      have hc := cell_of_row wr w.heap.size (l.length + j) _ _ _ hrow
      rw [List.getElem?_toArray, ints_at _ _ _ (by rw [hcl]; omega)] at hc
      have hf : wr.frozen? ⟨w.heap.size, l.length + j, none⟩ = false := by simp [World.frozen?, hrow]
      have HST : Hid (((l ++ List.replicate j m ++ List.replicate (80 - j) 0).flatMap (intC .i64)).toArray.setIfInBounds (l.length + j) (.int .i64 m) = ((l ++ List.replicate (j + 1) m ++ List.replicate (80 - (j + 1)) 0).flatMap (intC .i64)).toArray) := by
        show _ = _
        rw [List.setIfInBounds_toArray, ints_set, roomy_step l m j hj80]
      generalize (l ++ List.replicate j m ++ List.replicate (80 - j) 0)[l.length + j]?.getD 0 = x at *
      clear hrow hbel hcl
      go_wp2
      go_roundw
      case rel => exact ⟨j + 1, by omega, by go_num, by rw [← HST.out]; exact heap_setCell_row hR.out _ _, hB.out.setCell (Nat.le_refl _) _⟩
      case measure => simp [intOf]; omega
    · obtain rfl : j = 80 := by omega
      clear hrow hbel
      go_wp2
      go_ret
      refine ⟨rfl, ⟨by rw [flatMap_len (intC_len _), roomy_len], .inr ⟨w.heap.size, _, _, rfl, Nat.le_refl _, hR.out, Nat.le_refl _, by unfold maxLen; omega, ?_, ?_⟩⟩, hB.out⟩
      · rw [List.size_toArray, flatMap_len (intC_len _)]; simp
      · rw [show (80 : Nat) - 80 = 0 from rfl, List.replicate_zero, List.append_nil]
        rw [List.take_of_length_le (by rw [flatMap_len (intC_len _)]; simp)]
        rfl
theorem roomy_at (l : List Int) (m : Int) (i : Nat) (h0 : l.length ≤ i) (h1 : i < l.length + 80) : (roomy l m)[i]?.getD 0 = m := by
  unfold roomy
  rw [List.getElem?_append_right h0, List.getElem?_replicate, if_pos (by omega)]
  rfl
theorem IntactInt_yes (l : List Int) (g : Nat) (b : Option Addr) (cb : Nat) (m : Int) (w : World) (hf : SlAt 1 (flat (intC .i64)) w (some ⟨g, 0, none⟩) (roomy l m)) (hb : SlAt 1 (flat (intC .i64)) w b l) (hlen : l.length ≤ 1000000) :
    Calls Try.prog 24 #[.slice (some ⟨g, 0, none⟩) (l.length + 80) (l.length + 80), .slice b l.length cb, .int .i64 m] w fun e w' => e = .returned (.bool true) ∧ ∃ n, w' = w.drewN n := by
  have HF := Lib.hid hf
  have HB := Lib.hid hb
  have HT : Hid (SlAt 1 (flat (intC .i64)) w (some ⟨g, 0, none⟩) l) := by
    have := hf.take l.length
    unfold roomy at this
    rwa [List.take_left] at this
  clear hf hb
  go_enter Try.func24, Try.ntmps24
  go_wp2_with fail
  refine (SameInt_yes l (some ⟨g, 0, none⟩) b (l.length + 80) cb w HT.out HB.out hlen).mono ?_
  rintro e w2 ⟨rfl, n, rfl⟩
  go_wp2_with fail
  go_loop [7] (fun i => ∃ k : Nat, k ≤ 80 ∧ i = .int .i64 ((l.length + k : Nat) : Int)) (fun i => l.length + 80 - (intOf i).toNat)
  case atStart => exact ⟨0, by omega, rfl⟩
  case round =>
    obtain ⟨k, hk, rfl⟩ := hrel
    by_cases hlt : k < 80
    · obtain ⟨b1, o1, he, h1, x1⟩ := HF.out.intAt (l.length + k) (by rw [roomy_len]; omega)
      rw [roomy_at l m _ (by omega) (by omega)] at x1
      simp at he
      obtain ⟨rfl, rfl⟩ := he
      simp only [Nat.zero_add] at x1
      go_wp2
      go_round
      case rel => exact ⟨k + 1, by omega, by go_num⟩
      case measure => simp [intOf]; omega
    · obtain rfl : k = 80 := by omega
      go_wp2
      go_ret
      exact ⟨rfl, n, rfl⟩
end Go.Proofs.Ytgbbahgllpdjmaa
