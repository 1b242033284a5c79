/- The walk of CoreRuns. -/
import Derived.Test.YtdncpihaeobaeaaGreatElemB
import Derived.Test.YtdncpihaeobaeaaGreatRunM19
set_option linter.unusedVariables false
set_option linter.unusedSimpArgs false
namespace Go.Proofs.YtdncpihaeobaeaaGreat
open Go.RowKit
set_option maxHeartbeats 2000000 in
set_option maxRecDepth 20000 in
theorem duo_st {w0 w : World} {L : List HP} (h : St w0 w L) : Calls Tryz.prog 55 #[] w fun e w' => ∃ na nc, e = .returned (.agg #[.int .i64 4, .int .i64 8, .int .i64 50, .slice na 1 nc]) ∧ (na = none → nc = 0) ∧ St w0 w' (L ++ [ownP 113 5 Sk.cells (.slice na 1 nc) duoM.sinks]) := by
  have h1 := (h.wrap.alloc (.cells #[.int .i64 4, .int .i64 8, .int .i64 50, .slice (some ⟨w.heap.size + 1, 0, none⟩) 1 1] 28)).alloc (.cells #[.int .u64 3, .int .u64 3, .int .i64 2, .int .i64 2, .int .i64 4] 113)
  rw [World.size_alloc] at h1
  have h1 : St w0 ((w.alloc (.cells #[.int .i64 4, .int .i64 8, .int .i64 50, .slice (some ⟨w.heap.size + 1, 0, none⟩) 1 1] 28)).alloc (.cells #[.int .u64 3, .int .u64 3, .int .i64 2, .int .i64 2, .int .i64 4] 113)) [sepL L, pt w.heap.size (.cells #[.int .i64 4, .int .i64 8, .int .i64 50, .slice (some ⟨w.heap.size + 1, 0, none⟩) 1 1] 28 (0, 0)), pt (w.heap.size + 1) (.cells #[.int .u64 3, .int .u64 3, .int .i64 2, .int .i64 2, .int .i64 4] 113 (0, 0))] := h1
  obtain ⟨q, z⟩ := blkCells (h1.blk 1 rfl).1
  have y0 := (q 0).trans rfl
  have y1 := (q 1).trans rfl
  have y2 := (q 2).trans rfl
  have y3 := (q 3).trans rfl
  have h3 := ((h1.pick [0, 2] (by decide)).imp 1 rfl (X' := ownP 113 5 Sk.cells (.slice (some ⟨w.heap.size + 1, 0, none⟩) 1 1) duoM.sinks) (fun f hp => ownP_lit (l := duoM.sinks) Sk.len (by decide) hp)).ungroup
  have H3 := Lib.hid h3
  clear h h1 h3 q
  go_enter Tryz.func55, Tryz.ntmps55
  go_wp2
  exact bodyPost_ret (v := .agg #[.int .i64 4, .int .i64 8, .int .i64 50, .slice (some ⟨w.heap.size + 1, 0, none⟩) 1 1]) (by simp [results, go_sem, z, y0, y1, y2, y3]) rfl ⟨_, _, rfl, by simp, H3.out⟩
theorem actInfo : ∃ i, Tryz.prog.info? 67 = some i ∧ i.zero = some (.agg #[.int .i64 0, .int .i64 0, .int .i64 0, .int .i64 0, .slice none 0 0, .int .i64 0, .int .i64 0, .int .i64 0, .int .i64 0, .int .i64 0, .bool false, .int .i64 0, .int .i64 0, .int .i64 0, .int .u64 0]) ∧ i.size = 15 ∧ i.bytes = 136 := info_parts (by kernel_rfl)
theorem actElem : ElemB Tryz.prog 31 67 15 ActR.cells :=
  ⟨ActR.len, by decide, ActR.one, Tryz.underlying31, by
    obtain ⟨i, h1, h2, h3, h4⟩ := actInfo
    exact ⟨i, _, h1, h2, h3, by omega, rfl⟩⟩
/-- Reading an answer. -/
theorem ansRead {w0 w : World} {L : List HP} {ua : Option Addr} {k uc : Nat} {us : List AnsR} (h : St w0 w L) (n m : Nat) (hn : L[n]? = some (ownP 51 3 AnsR.cells (.slice ua k uc) us)) (hm : L[m]? = some (poolP ansP us)) (hf : ∀ x ∈ us.map AnsR.val, x.rows.length ≤ 32 ∧ x.told.length ≤ 32) (i : Nat) (hi : i < us.length) (x : AnsR) (hx : us[i] = x) :
    AnsAt w x ∧ ∃ b o, ua = some ⟨b, o, none⟩ ∧ b < w.heap.size ∧ w.cell? ⟨b, o + i * 3, none⟩ = some (.int .i64 x.err) ∧ w.cell? ⟨b, o + i * 3 + 1, none⟩ = some (.slice x.ra x.rows.length x.rc) ∧ w.cell? ⟨b, o + i * 3 + 2, none⟩ = some (.slice x.ta x.told.length x.tc) :=
  ⟨h.ansAt m hm hf x (by rw [← hx]; exact List.getElem_mem hi), (h.slOf AnsR.len n hn).ansAt i hi x hx⟩
def regR (t : Int) : ActR := ⟨1, t, 0, 0, none, 0, ⟨[], 10, 10, 2, 0, -1⟩, ⟨false, ⟨0, 0, 0, 0⟩⟩⟩
def offR (t tm v : Int) (m : Bool) : ActR := ⟨2, t, 0, 0, none, 0, ⟨[], 0, 0, 0, 0, 0⟩, ⟨m, ⟨tm, 0, v, 0⟩⟩⟩
def plainR (k t n : Int) : ActR := ⟨k, t, 0, n, none, 0, ⟨[], 0, 0, 0, 0, 0⟩, ⟨false, ⟨0, 0, 0, 0⟩⟩⟩
def actsA (j : Nat) : List ActR := (List.range j).flatMap fun t : Nat => [regR (t : Int), offR (t : Int) 1 (5 + 2 * (t : Int)) false, offR (t : Int) 10 0 true]
def tickR : ActR := plainR 3 0 0
theorem actsA_succ (j : Nat) : actsA (j + 1) = actsA j ++ [regR j, offR j 1 (5 + 2 * j) false, offR j 10 0 true] := by
  unfold actsA
  rw [List.range_succ, List.flatMap_append]
  rfl
theorem actsA_len (j : Nat) : (actsA j).length = 3 * j := by
  induction j with
  | zero => rfl
  | succ j ih => rw [actsA_succ, List.length_append, ih]; simp; omega
def actsE : List ActR := (actsA 2 ++ List.replicate 4 tickR) ++ [plainR 5 1 9, plainR 4 0 9]
theorem actsE_val : actsE.map ActR.val = acts19 := rfl
theorem actsE_ok {w0 : World} {R : HP} : ∀ a ∈ actsE, Seen w0 R 2 Opr.cells a.oa a.p.ops ∧ (a.oa = none → a.oc = 0) ∧ a.val.ok := by
  intro a ha
  have h : a.oa = none ∧ a.oc = 0 ∧ a.p.ops = [] ∧ a.i.ev.wf ∧ a.fr = 0 := by
    simp only [actsE, actsA, List.range, List.range.loop, List.flatMap_cons, List.flatMap_nil, List.cons_append, List.nil_append, List.append_nil, List.replicate, List.mem_cons, List.not_mem_nil, or_false] at ha
    rcases ha with rfl | rfl | rfl | rfl | rfl | rfl | rfl | rfl | rfl | rfl | rfl | rfl <;> exact ⟨rfl, rfl, rfl, ⟨by decide, by decide, by decide, by decide⟩, rfl⟩
  obtain ⟨h1, h2, h3, h4, h5⟩ := h
  refine ⟨?_, fun _ => h2, ?_⟩
  · rw [h1, h3]
    exact Seen.old (.inl rfl)
  · exact ⟨fun o ho => (by rw [show a.val.p.ops = [] from h3] at ho; cases ho), h4, (by show _ ≤ a.fr; omega), (by show a.fr ≤ _; omega), (by show a.p.ops.length ≤ _; rw [h3]; decide)⟩
theorem idx_map {us : List AnsR} {l : List Ans} (h : us.map AnsR.val = l) (i : Nat) (hi : i < us.length) : us[i].val = l.getD i ⟨0, [], []⟩ := by
  subst h
  rw [List.getD_eq_getElem?_getD, List.getElem?_map, List.getElem?_eq_getElem hi]
  rfl
set_option maxHeartbeats 8000000 in
set_option maxRecDepth 20000 in
theorem CoreRuns_any (w : World) : Calls Tryz.prog 27 #[] w fun e w' => e = .returned (.bool true) ∧ Below w.heap.size w w' := by
  have HD := Lib.hid (duo_st (St.start w))
  go_enter Tryz.func27, Tryz.ntmps27
  go_wp2_with (first
    | (go_at_call 14; (with_reducible refine HNE.out.mono ?_); rintro e w2 ⟨b, ma, mc, rfl, h2⟩; have h3 : St w (w2.alloc (.cells #[.slice none 0 0, .int .i64 10, .int .i64 10, .int .i64 2, .int .i64 0, .int .i64 (-1)] 61)) [ownP 113 5 Sk.cells (.slice na 1 nc) duoM.sinks, coP b ma mc (newCo duoM) 0, ownP 113 5 Sk.cells (.slice ma 1 mc) duoM.sinks, pt w2.heap.size (.cells #[.slice none 0 0, .int .i64 10, .int .i64 10, .int .i64 2, .int .i64 0, .int .i64 (-1)] 61 (0, 0)), ownP 67 15 ActR.cells (.slice none 0 0) (actsA 0)] := (h2.alloc (.cells #[.slice none 0 0, .int .i64 10, .int .i64 10, .int .i64 2, .int .i64 0, .int .i64 (-1)] 61)).nil 67 15 ActR.cells; have HS3 := Lib.hid h3; clear h2 h3 HNE)
    | (go_at_call 55; (with_reducible refine HD.out.mono ?_); rintro e w1 ⟨na, nc, rfl, hz, h1⟩; have hn := coreNew_st h1 duoM na nc (h1.slOf Sk.len 0 rfl) hz (by decide +kernel) (by intro x hx; simp [duoM] at hx; subst hx; decide); have hn : Calls Tryz.prog 14 #[.agg #[.int .i64 4, .int .i64 8, .int .i64 50, .slice na 1 nc]] w1 _ := hn; have HNE := Lib.hid hn; clear hn hz h1 HD))
  go_loopw [3, 11] (fun av iv wr => ∃ j : Nat, j ≤ 2 ∧ iv = .int .i64 j ∧ St w wr [ownP 113 5 Sk.cells (.slice na 1 nc) duoM.sinks, coP b ma mc (newCo duoM) 0, ownP 113 5 Sk.cells (.slice ma 1 mc) duoM.sinks, pt w2.heap.size (.cells #[.slice none 0 0, .int .i64 10, .int .i64 10, .int .i64 2, .int .i64 0, .int .i64 (-1)] 61 (0, 0)), ownP 67 15 ActR.cells av (actsA j)]) (fun _ iv _ => 2 - (intOf iv).toNat)
  case atStart => exact ⟨0, by omega, rfl, HS3.out⟩
  case round =>
    clear HS3
    obtain ⟨j, hj, rfl, hst⟩ := hrel
    obtain ⟨aa, ac, hov, _⟩ := hst.sl ActR.len 4 rfl
    subst hov
    by_cases hlt : (j : Int) < 2
    · have hw1 : wrap64 (2 * (j : Int)) = 2 * j := wrap64_id (by omega) (by omega)
      have hw2 : wrap64 (5 + 2 * (j : Int)) = 5 + 2 * j := wrap64_id (by omega) (by omega)
      have h4 : St w (wr.alloc (.cells #[.int .i64 1, .int .i64 j, .int .i64 0, .int .i64 0, .slice none 0 0, .int .i64 10, .int .i64 10, .int .i64 2, .int .i64 0, .int .i64 (-1), .bool false, .int .i64 0, .int .i64 0, .int .i64 0, .int .u64 0, .int .i64 2, .int .i64 j, .int .i64 0, .int .i64 0, .slice none 0 0, .int .i64 0, .int .i64 0, .int .i64 0, .int .i64 0, .int .i64 0, .bool false, .int .i64 1, .int .i64 0, .int .i64 (5 + 2 * j), .int .u64 0, .int .i64 2, .int .i64 j, .int .i64 0, .int .i64 0, .slice none 0 0, .int .i64 0, .int .i64 0, .int .i64 0, .int .i64 0, .int .i64 0, .bool true, .int .i64 10, .int .i64 0, .int .i64 0, .int .u64 0] 67)) ([ownP 113 5 Sk.cells (.slice na 1 nc) duoM.sinks, coP b ma mc (newCo duoM) 0, ownP 113 5 Sk.cells (.slice ma 1 mc) duoM.sinks, pt w2.heap.size (.cells #[.slice none 0 0, .int .i64 10, .int .i64 10, .int .i64 2, .int .i64 0, .int .i64 (-1)] 61 (0, 0)), ownP 67 15 ActR.cells (.slice aa (actsA j).length ac) (actsA j)] ++ [pt wr.heap.size (.cells #[.int .i64 1, .int .i64 j, .int .i64 0, .int .i64 0, .slice none 0 0, .int .i64 10, .int .i64 10, .int .i64 2, .int .i64 0, .int .i64 (-1), .bool false, .int .i64 0, .int .i64 0, .int .i64 0, .int .u64 0, .int .i64 2, .int .i64 j, .int .i64 0, .int .i64 0, .slice none 0 0, .int .i64 0, .int .i64 0, .int .i64 0, .int .i64 0, .int .i64 0, .bool false, .int .i64 1, .int .i64 0, .int .i64 (5 + 2 * j), .int .u64 0, .int .i64 2, .int .i64 j, .int .i64 0, .int .i64 0, .slice none 0 0, .int .i64 0, .int .i64 0, .int .i64 0, .int .i64 0, .int .i64 0, .bool true, .int .i64 10, .int .i64 0, .int .i64 0, .int .u64 0] 67 (0, 0))]) := hst.alloc (.cells #[.int .i64 1, .int .i64 j, .int .i64 0, .int .i64 0, .slice none 0 0, .int .i64 10, .int .i64 10, .int .i64 2, .int .i64 0, .int .i64 (-1), .bool false, .int .i64 0, .int .i64 0, .int .i64 0, .int .u64 0, .int .i64 2, .int .i64 j, .int .i64 0, .int .i64 0, .slice none 0 0, .int .i64 0, .int .i64 0, .int .i64 0, .int .i64 0, .int .i64 0, .bool false, .int .i64 1, .int .i64 0, .int .i64 (5 + 2 * j), .int .u64 0, .int .i64 2, .int .i64 j, .int .i64 0, .int .i64 0, .slice none 0 0, .int .i64 0, .int .i64 0, .int .i64 0, .int .i64 0, .int .i64 0, .bool true, .int .i64 10, .int .i64 0, .int .i64 0, .int .u64 0] 67)
      obtain ⟨k0, k1, k2, k3, k4, k5⟩ := cells6 (hst.blk 3 rfl).1 (Below.refl _ _)
      have H4 := Lib.hid h4
      have HSU := Lib.hid (actsA_succ j)
      have HLE := Lib.hid (actsA_len j)
      clear h4 hst
      go_wp2_with (at_builtin; refine wpList_append_stB actElem rfl H4.out 4 rfl _ _ rfl rfl (some ⟨wr.heap.size, 0, none⟩) 3 [regR j, offR j 1 (5 + 2 * j) false, offR j 10 0 true] rfl (by simp) (SlAt.ofRow ActR.len (l := [regR j, offR j 1 (5 + 2 * j) false, offR j 10 0 true]) (H4.out.blk 5 rfl).1) (by have := HLE.out; rw [this]; show 3 * j + 3 ≤ _; omega) ?_; intro v6 w6 hst6 _; have H6 := Lib.hid (hst6.pick [0, 1, 2, 3, 4] (by decide)); clear hst6 H4)
      go_roundw
      case rel => exact ⟨j + 1, by omega, by go_num, by rw [HSU.out]; exact H6.out⟩
      case measure => simp [intOf]; omega
    · obtain rfl : j = 2 := by omega
      have HS4 := Lib.hid hst
      clear hst
      go_wp2_with fail
      go_loopw [3, 32] (fun av iv wr => ∃ j : Nat, j ≤ 4 ∧ iv = .int .i64 j ∧ St w wr [ownP 113 5 Sk.cells (.slice na 1 nc) duoM.sinks, coP b ma mc (newCo duoM) 0, ownP 113 5 Sk.cells (.slice ma 1 mc) duoM.sinks, pt w2.heap.size (.cells #[.slice none 0 0, .int .i64 10, .int .i64 10, .int .i64 2, .int .i64 0, .int .i64 (-1)] 61 (0, 0)), ownP 67 15 ActR.cells av (actsA 2 ++ List.replicate j tickR)]) (fun _ iv _ => 4 - (intOf iv).toNat)
      case atStart => exact ⟨0, by omega, rfl, by rw [List.replicate_zero, List.append_nil]; exact HS4.out⟩
      case round =>
        clear HS4
        obtain ⟨j, hj, rfl, hst⟩ := hrel
        obtain ⟨aa, ac, hov, _⟩ := hst.sl ActR.len 4 rfl
        subst hov
        by_cases hlt : (j : Int) < 4
        · have h4 : St w (wr.alloc (.cells #[.int .i64 3, .int .i64 0, .int .i64 0, .int .i64 0, .slice none 0 0, .int .i64 0, .int .i64 0, .int .i64 0, .int .i64 0, .int .i64 0, .bool false, .int .i64 0, .int .i64 0, .int .i64 0, .int .u64 0] 67)) ([ownP 113 5 Sk.cells (.slice na 1 nc) duoM.sinks, coP b ma mc (newCo duoM) 0, ownP 113 5 Sk.cells (.slice ma 1 mc) duoM.sinks, pt w2.heap.size (.cells #[.slice none 0 0, .int .i64 10, .int .i64 10, .int .i64 2, .int .i64 0, .int .i64 (-1)] 61 (0, 0)), ownP 67 15 ActR.cells (.slice aa (actsA 2 ++ List.replicate j tickR).length ac) (actsA 2 ++ List.replicate j tickR)] ++ [pt wr.heap.size (.cells #[.int .i64 3, .int .i64 0, .int .i64 0, .int .i64 0, .slice none 0 0, .int .i64 0, .int .i64 0, .int .i64 0, .int .i64 0, .int .i64 0, .bool false, .int .i64 0, .int .i64 0, .int .i64 0, .int .u64 0] 67 (0, 0))]) := hst.alloc (.cells #[.int .i64 3, .int .i64 0, .int .i64 0, .int .i64 0, .slice none 0 0, .int .i64 0, .int .i64 0, .int .i64 0, .int .i64 0, .int .i64 0, .bool false, .int .i64 0, .int .i64 0, .int .i64 0, .int .u64 0] 67)
          have H4 := Lib.hid h4
          have HLE := Lib.hid (show (actsA 2 ++ List.replicate j tickR).length < 1000000 by rw [List.length_append, actsA_len, List.length_replicate]; omega)
          clear h4 hst
          generalize hn : (actsA 2 ++ List.replicate j tickR).length = ln at *
          have HLN := Lib.hid hn
          clear hn
          go_wp2_with (at_builtin; refine wpList_push_stB actElem rfl H4.out 4 rfl _ _ rfl rfl _ tickR rfl (heap_new _ _) (by rw [HLN.out]; exact HLE.out) ?_; intro v6 w6 hst6 _; have H6 := Lib.hid (hst6.pick [0, 1, 2, 3, 4] (by decide)); clear hst6 H4)
          go_roundw
          case rel => exact ⟨j + 1, by omega, by go_num, by rw [List.replicate_succ', ← List.append_assoc]; exact H6.out⟩
          case measure => simp [intOf]; omega
        · obtain rfl : j = 4 := by omega
          have h4 : St w (wr.alloc (.cells #[.int .i64 5, .int .i64 1, .int .i64 0, .int .i64 9, .slice none 0 0, .int .i64 0, .int .i64 0, .int .i64 0, .int .i64 0, .int .i64 0, .bool false, .int .i64 0, .int .i64 0, .int .i64 0, .int .u64 0, .int .i64 4, .int .i64 0, .int .i64 0, .int .i64 9, .slice none 0 0, .int .i64 0, .int .i64 0, .int .i64 0, .int .i64 0, .int .i64 0, .bool false, .int .i64 0, .int .i64 0, .int .i64 0, .int .u64 0] 67)) ([ownP 113 5 Sk.cells (.slice na 1 nc) duoM.sinks, coP b ma mc (newCo duoM) 0, ownP 113 5 Sk.cells (.slice ma 1 mc) duoM.sinks, pt w2.heap.size (.cells #[.slice none 0 0, .int .i64 10, .int .i64 10, .int .i64 2, .int .i64 0, .int .i64 (-1)] 61 (0, 0)), ownP 67 15 ActR.cells (.slice aa (actsA 2 ++ List.replicate 4 tickR).length ac) (actsA 2 ++ List.replicate 4 tickR)] ++ [pt wr.heap.size (.cells #[.int .i64 5, .int .i64 1, .int .i64 0, .int .i64 9, .slice none 0 0, .int .i64 0, .int .i64 0, .int .i64 0, .int .i64 0, .int .i64 0, .bool false, .int .i64 0, .int .i64 0, .int .i64 0, .int .u64 0, .int .i64 4, .int .i64 0, .int .i64 0, .int .i64 9, .slice none 0 0, .int .i64 0, .int .i64 0, .int .i64 0, .int .i64 0, .int .i64 0, .bool false, .int .i64 0, .int .i64 0, .int .i64 0, .int .u64 0] 67 (0, 0))]) := hst.alloc (.cells #[.int .i64 5, .int .i64 1, .int .i64 0, .int .i64 9, .slice none 0 0, .int .i64 0, .int .i64 0, .int .i64 0, .int .i64 0, .int .i64 0, .bool false, .int .i64 0, .int .i64 0, .int .i64 0, .int .u64 0, .int .i64 4, .int .i64 0, .int .i64 0, .int .i64 9, .slice none 0 0, .int .i64 0, .int .i64 0, .int .i64 0, .int .i64 0, .int .i64 0, .bool false, .int .i64 0, .int .i64 0, .int .i64 0, .int .u64 0] 67)
          have hln : (actsA 2 ++ List.replicate 4 tickR).length = 10 := rfl
          rw [hln] at h4 ⊢
          have H4 := Lib.hid h4
          clear h4 hst hln
          go_wp2_with (first
            | (go_at_call 26; (with_reducible refine HTI.out.mono ?_); rintro e w9 ⟨rfl, rfl⟩; clear HTI)
            | (go_at_call 22; (with_reducible refine HRW.out.mono ?_); rintro e w8 ⟨rfl, n8, hb8⟩; have hbx : Below (w7.alloc (.cells #[.int .i64 0, .int .i64 0, .int .i64 5, .int .i64 1, .int .u64 1] 55)).heap.size (w7.alloc (.cells #[.int .i64 0, .int .i64 0, .int .i64 5, .int .i64 1, .int .u64 1] 55)) w8 := by { rw [hb8]; exact below_of_drewN _ _ }; have h9 := H8.out.kept hbx; clear hbx; have hti := ticks_in h9; rw [show ((newCo duoM).after (actsE.map ActR.val)).ticks = 4 from run19_ticks] at hti; have HTI := Lib.hid hti; have H9 := Lib.hid h9; clear hti h9 hb8 HRW H8)
            | (go_at_call 17; (with_reducible refine HRE.out.mono ?_); rintro e w7 ⟨rfl, n7, hb7⟩; have hbx : Below (w6.alloc (.cells #[.int .i64 0, .int .i64 0, .int .i64 12, .bool false] 42)).heap.size (w6.alloc (.cells #[.int .i64 0, .int .i64 0, .int .i64 12, .bool false] 42)) w7 := by { rw [hb7]; exact below_of_drewN _ _ }; have h8 := H7.out.kept hbx; clear hbx; obtain ⟨an, b8, o8, e8, hl8, c0, c1, c2⟩ := ansRead h8 2 3 rfl rfl HF.out 11 hi11 _ HX11.out; cases e8; simp only [Nat.reduceMul] at c0 c1 c2; have h9 := h8.alloc (.cells #[.int .i64 0, .int .i64 0, .int .i64 5, .int .i64 1, .int .u64 1] 55); have hrw := SameRw_yes [⟨0, 0, 5, 1, 1⟩] xa (some ⟨w7.heap.size, 0, none⟩) xc 1 (w7.alloc (.cells #[.int .i64 0, .int .i64 0, .int .i64 5, .int .i64 1, .int .u64 1] 55)) ((an.1).below ((Below.refl _ w7).alloc (Nat.le_refl _) _) (fun _ _ h => h)) (SlAt.one Rw.len (x := ⟨0, 0, 5, 1, 1⟩) (heap_new _ _)) (by decide) an.2.2.1 (by decide); have hrw : Calls Tryz.prog 22 #[.slice xa 1 xc, .slice (some ⟨w7.heap.size, 0, none⟩) 1 1] (w7.alloc (.cells #[.int .i64 0, .int .i64 0, .int .i64 5, .int .i64 1, .int .u64 1] 55)) _ := hrw; have HRW := Lib.hid hrw; have H8 := Lib.hid h9; clear hrw h9 h8 hb7 HRE H7 an)
            | (go_at_call 16; (with_reducible refine HDO.out.mono ?_); rintro e w6 ⟨v6, us, rfl, hus, h6⟩; obtain ⟨ua, uc, rfl, hu6, _, _, _⟩ := h6.sl AnsR.len 2 rfl; have hul : us.length = 12 := by { have := congrArg List.length hus; rw [List.length_map, ans_len] at this; exact this }; rw [hul] at h6 hu6 ⊢; have hfew : ∀ x ∈ us.map AnsR.val, x.rows.length ≤ 32 ∧ x.told.length ≤ 32 := by { rw [hus]; exact ans_few _ _ }; have HF := Lib.hid hfew; have HUL := Lib.hid hul; have hi10 : 10 < us.length := by { rw [hul]; decide }; have hi11 : 11 < us.length := by { rw [hul]; decide }; obtain ⟨⟨e10, ra, rc, rows10, ta, tc, told10⟩, hx10⟩ : ∃ x, us[10]'hi10 = x := ⟨_, rfl⟩; obtain ⟨⟨e11, xa, xc, rows11, ya, yc, told11⟩, hx11⟩ : ∃ x, us[11]'hi11 = x := ⟨_, rfl⟩; have t10 := idx_map hus 10 hi10; have t11 := idx_map hus 11 hi11; rw [hx10] at t10; rw [hx11] at t11; have t10 : told10 = [⟨0, 0, 12, false⟩] := (congrArg Ans.told t10).trans run19_told; have t11 : rows11 = [⟨0, 0, 5, 1, 1⟩] := (congrArg Ans.rows t11).trans run19_rows; subst t10 t11; have HX11 := Lib.hid hx11; obtain ⟨an, b6, o6, e6, hl6, c0, c1, c2⟩ := ansRead h6 2 3 rfl rfl HF.out 10 hi10 _ hx10; cases e6; simp only [Nat.reduceMul] at c0 c1 c2; have h7 := h6.alloc (.cells #[.int .i64 0, .int .i64 0, .int .i64 12, .bool false] 42); have hre := SameRe_yes [⟨0, 0, 12, false⟩] ta (some ⟨w6.heap.size, 0, none⟩) tc 1 (w6.alloc (.cells #[.int .i64 0, .int .i64 0, .int .i64 12, .bool false] 42)) ((an.2.1).below ((Below.refl _ w6).alloc (Nat.le_refl _) _) (fun _ _ h => h)) (SlAt.one Rel.len (x := ⟨0, 0, 12, false⟩) (heap_new _ _)) (by decide) an.2.2.2.1 (by decide); have hre : Calls Tryz.prog 17 #[.slice ta 1 tc, .slice (some ⟨w6.heap.size, 0, none⟩) 1 1] (w6.alloc (.cells #[.int .i64 0, .int .i64 0, .int .i64 12, .bool false] 42)) _ := hre; have HRE := Lib.hid hre; have H7 := Lib.hid h7; clear hre h7 h6 hus hfew hul hx10 hx11 t10 t11 HDO an)
            | (at_builtin; refine wpList_append_stB actElem rfl H4.out 4 rfl _ _ rfl rfl (some ⟨wr.heap.size, 0, none⟩) 2 [plainR 5 1 9, plainR 4 0 9] rfl (by simp) (SlAt.ofRow ActR.len (l := [plainR 5 1 9, plainR 4 0 9]) (H4.out.blk 5 rfl).1) (by decide) ?_; intro v5 w5 hst5 _; have h5 : St w w5 [ownP 113 5 Sk.cells (.slice na 1 nc) duoM.sinks, coP b ma mc (newCo duoM) 0, ownP 113 5 Sk.cells (.slice ma 1 mc) duoM.sinks, pt w2.heap.size (.cells #[.slice none 0 0, .int .i64 10, .int .i64 10, .int .i64 2, .int .i64 0, .int .i64 (-1)] 61 (0, 0)), ownP 67 15 ActR.cells v5 (actsE)] := hst5.pick [0, 1, 2, 3, 4] (by decide); obtain ⟨va, vc, rfl, _⟩ := h5.sl ActR.len 4 rfl; rw [show actsE.length = 12 from rfl] at h5 ⊢; have hdo := doAll_in (h5.front 1 rfl) (Seen.own Sk.len 2 rfl) (by rintro rfl; exact (h5.sl Sk.len 2 rfl).elim fun _ h => h.elim fun _ h => by { obtain ⟨e, _, _, h4, _⟩ := h; cases e; exact h4 rfl }) actsE va vc (Seen.own ActR.len 4 rfl) actsE_ok (by decide); have hdo : Calls Tryz.prog 16 #[.pointer (some ⟨b, 0, none⟩), .slice va 12 vc] w5 _ := hdo; have HDO := Lib.hid hdo; clear hdo h5 hst5 H4))
          go_ret
          exact ⟨rfl, H9.out.below⟩
end Go.Proofs.YtdncpihaeobaeaaGreat
