/- Walks of core.Right and core.New. -/
import Derived.Test.YtdncpihaeobaeaaGreatCoreTw
set_option linter.unusedVariables false
set_option linter.unusedSimpArgs false
namespace Go.Proofs.YtdncpihaeobaeaaGreat
open Go.RowKit
theorem rightSu_four (s : Su) : rightSu s = ((decide (1 ≤ s.budget) && decide (s.budget ≤ 8)) && (decide (1 ≤ s.room) && decide (s.room ≤ 16)) && (decide (0 ≤ s.quota) && decide (s.quota ≤ 4000)) && rightSks s.sinks) := by
  unfold rightSu
  simp only [Bool.and_assoc]
set_option maxHeartbeats 2000000 in
set_option maxRecDepth 20000 in
theorem coreRight_any (s : Su) (sa : Option Addr) (sc : Nat) (w : World) (hl : SlAt 5 (flat Sk.cells) w sa s.sinks) (hlen : s.sinks.length ≤ 1099511627776) :
    Calls Tryz.prog 47 #[.agg #[.int .i64 s.budget, .int .i64 s.room, .int .i64 s.quota, .slice sa s.sinks.length sc]] w fun x w' => x = .returned (.bool (rightSu s)) ∧ Below w.heap.size w w' := by
  rw [rightSu_four]
  obtain ⟨bu, ro, qu, sinks⟩ := s
  dsimp only at hl hlen ⊢
  have hbe : Below w.heap.size w (w.alloc (.cells #[.int .i64 bu, .int .i64 ro, .int .i64 qu, .slice sa sinks.length sc] 28)) := (Below.refl _ w).alloc (Nat.le_refl _) _
  have hsz : w.heap.size ≤ (w.alloc (.cells #[.int .i64 bu, .int .i64 ro, .int .i64 qu, .slice sa sinks.length sc] 28)).heap.size := by simp
  have HRS := Lib.hid (rightSks_any sinks sa sc (w.alloc (.cells #[.int .i64 bu, .int .i64 ro, .int .i64 qu, .slice sa sinks.length sc] 28)) (hl.below hbe (fun _ _ h => h)) hlen)
  have HBE := Lib.hid hbe
  have HSZ := Lib.hid hsz
  clear hl hbe hsz hlen
  cases hb1 : (decide (1 ≤ bu) && decide (bu ≤ 8)) with
  | false =>
    have HB1 := Lib.hid hb1
    clear hb1
    go_enter Tryz.func47, Tryz.ntmps47
    go_wp2_with (go_at_call 68; (with_reducible refine (within_any _ _ _ _).mono ?_); rintro e wz ⟨rfl, hwz⟩; have hwz := hwz.symm; subst hwz; rw [HB1.out])
    go_ret
    exact ⟨rfl, HBE.out⟩
  | true =>
    have HB1 := Lib.hid hb1
    clear hb1
    cases hb2 : (decide (1 ≤ ro) && decide (ro ≤ 16)) with
    | false =>
      have HB2 := Lib.hid hb2
      clear hb2
      go_enter Tryz.func47, Tryz.ntmps47
      go_wp2_with (go_at_call 68; (with_reducible refine (within_any _ _ _ _).mono ?_); rintro e wz ⟨rfl, hwz⟩; have hwz := hwz.symm; subst hwz; first | rw [HB1.out] | rw [HB2.out])
      go_ret
      exact ⟨rfl, HBE.out⟩
    | true =>
      have HB2 := Lib.hid hb2
      clear hb2
      cases hb3 : (decide (0 ≤ qu) && decide (qu ≤ 4000)) with
      | false =>
        have HB3 := Lib.hid hb3
        clear hb3
        go_enter Tryz.func47, Tryz.ntmps47
        go_wp2_with (go_at_call 68; (with_reducible refine (within_any _ _ _ _).mono ?_); rintro e wz ⟨rfl, hwz⟩; have hwz := hwz.symm; subst hwz; first | rw [HB1.out] | rw [HB2.out] | rw [HB3.out])
        go_ret
        exact ⟨rfl, HBE.out⟩
      | true =>
        have HB3 := Lib.hid hb3
        clear hb3
        go_enter Tryz.func47, Tryz.ntmps47
        go_wp2_with (first
          | (go_at_call 68; (with_reducible refine (within_any _ _ _ _).mono ?_); rintro e wz ⟨rfl, hwz⟩; have hwz := hwz.symm; subst hwz; first | rw [HB1.out] | rw [HB2.out] | rw [HB3.out])
          | (go_at_call 69; (with_reducible refine HRS.out.mono ?_); rintro e w2 ⟨rfl, hb2⟩; have HB2' := Lib.hid (HBE.out.trans (hb2.mono HSZ.out)); clear hb2))
        go_ret
        exact ⟨rfl, HB2'.out⟩
theorem emps8 {s : Su} (f : Nat → Option Obj) : sepL (clsL (List.replicate 8 none) (newCo s).cells 0) f := by
  refine ⟨fun _ => 0, fun i P hi => ?_⟩
  match i, hi with
  | 0, hi | 1, hi | 2, hi | 3, hi | 4, hi | 5, hi | 6, hi | 7, hi => cases hi; trivial
  | i + 8, hi => simp [clsL, newCo] at hi
set_option maxHeartbeats 8000000 in
set_option maxRecDepth 20000 in
theorem coreNew_no {w0 w : World} {L : List HP} (h : St w0 w L) (s : Su) (sa : Option Addr) (sc : Nat) (hl : SlAt 5 (flat Sk.cells) w sa s.sinks) (hlen : s.sinks.length ≤ 1099511627776) (hs : rightSu s = false) :
    Calls Tryz.prog 14 #[.agg #[.int .i64 s.budget, .int .i64 s.room, .int .i64 s.quota, .slice sa s.sinks.length sc]] w fun x w' => x = .returned (.pointer none) ∧ St w0 w' L := by
  have h1 := h.alloc (.cells #[.int .i64 s.budget, .int .i64 s.room, .int .i64 s.quota, .slice sa s.sinks.length sc] 28)
  have hri := coreRight_any s sa sc (w.alloc (.cells #[.int .i64 s.budget, .int .i64 s.room, .int .i64 s.quota, .slice sa s.sinks.length sc] 28)) (hl.below ((Below.refl _ w).alloc (Nat.le_refl _) _) (fun _ _ h => h)) hlen
  rw [hs] at hri
  have HRI := Lib.hid hri
  have H1 := Lib.hid h1
  clear h hl hri h1
  go_enter Tryz.func14, Tryz.ntmps14
  go_wp2_with (go_at_call 47; (with_reducible refine HRI.out.mono ?_); rintro e w2 ⟨rfl, hb2⟩; have H2 := Lib.hid (St.cut (L := L) (H1.out.kept hb2)); clear hb2)
  go_ret
  exact ⟨rfl, H2.out⟩
set_option maxHeartbeats 8000000 in
set_option maxRecDepth 20000 in
theorem coreNew_st {w0 w : World} {L : List HP} (h : St w0 w L) (s : Su) (sa : Option Addr) (sc : Nat) (hl : SlAt 5 (flat Sk.cells) w sa s.sinks) (hnil : sa = none → sc = 0) (hs : rightSu s = true) (hwf : ∀ x ∈ s.sinks, (Lit.int .u64 x.fr).wf = true) :
    Calls Tryz.prog 14 #[.agg #[.int .i64 s.budget, .int .i64 s.room, .int .i64 s.quota, .slice sa s.sinks.length sc]] w fun x w' => ∃ b na nc, x = .returned (.pointer (some ⟨b, 0, none⟩)) ∧ St w0 w' (L ++ [coP b na nc (newCo s) 0, ownP 113 5 Sk.cells (.slice na s.sinks.length nc) s.sinks]) := by
  have hlen : s.sinks.length ≤ 1099511627776 := by
    have := hs
    unfold rightSu rightSks at this
    simp only [Bool.and_eq_true, decide_eq_true_eq] at this
    omega
  have hbe : Below w.heap.size w (w.alloc (.cells #[.int .i64 s.budget, .int .i64 s.room, .int .i64 s.quota, .slice sa s.sinks.length sc] 28)) := (Below.refl _ w).alloc (Nat.le_refl _) _
  have hl1 := hl.below hbe (fun _ _ h => h)
  have hri := coreRight_any s sa sc (w.alloc (.cells #[.int .i64 s.budget, .int .i64 s.room, .int .i64 s.quota, .slice sa s.sinks.length sc] 28)) hl1 hlen
  rw [hs] at hri
  have h1 := (St.group (L := L) (K := []) (by rw [List.append_nil]; exact h)).alloc (.cells #[.int .i64 s.budget, .int .i64 s.room, .int .i64 s.quota, .slice sa s.sinks.length sc] 28)
  have h1 : St w0 (w.alloc (.cells #[.int .i64 s.budget, .int .i64 s.room, .int .i64 s.quota, .slice sa s.sinks.length sc] 28)) [sepL L, pt w.heap.size (.cells #[.int .i64 s.budget, .int .i64 s.room, .int .i64 s.quota, .slice sa s.sinks.length sc] 28 (0, 0))] := h1
  have bx : ∀ w' L' g a c, St w0 w' L' → L'[1]? = some (pt g (.cells #[.int .i64 s.budget, .int .i64 s.room, .int .i64 s.quota, .slice a s.sinks.length c] 28 (0, 0))) → (w'.cell? ⟨g, 0, none⟩ = some (.int .i64 s.budget) ∧ w'.cell? ⟨g, 1, none⟩ = some (.int .i64 s.room) ∧ w'.cell? ⟨g, 2, none⟩ = some (.int .i64 s.quota) ∧ w'.cell? ⟨g, 3, none⟩ = some (.slice a s.sinks.length c)) := fun w' L' g a c hs hl => by
    obtain ⟨q, _⟩ := blkCells (hs.blk 1 hl).1
    exact ⟨(q 0).trans rfl, (q 1).trans rfl, (q 2).trans rfl, (q 3).trans rfl⟩
  have HRI := Lib.hid hri
  have H1 := Lib.hid h1
  have HBX := Lib.hid bx
  have HL1 := Lib.hid hl1
  clear h hl hbe hl1 hri h1 bx
  go_enter Tryz.func14, Tryz.ntmps14
  go_upto_region 3 with (go_at_call 47; (with_reducible refine HRI.out.mono ?_); rintro e w2 ⟨rfl, hb2⟩; have H2 := Lib.hid (H1.out.kept hb2); have HL2 := Lib.hid (HL1.out.below hb2 (fun _ _ h => h)); obtain ⟨a0, a1, a2, a3⟩ := HBX.out _ _ _ _ _ H2.out rfl; clear hb2)
  have HCL := Lib.hid (cloneSk_st H2.out sa sc s.sinks HL2.out hnil hlen)
  go_upto_region 4 with (go_at_call 48; (with_reducible refine HCL.out.mono ?_); rintro e w3 ⟨v3, rfl, h3⟩; obtain ⟨na, nc, rfl, _⟩ := h3.sl Sk.len 2 rfl; obtain ⟨_, _, _, b3⟩ := HBX.out _ _ _ _ _ h3 rfl; have f3 := (blkCells (h3.blk 1 rfl).1).2 3; have H3 := Lib.hid h3; clear h3 HCL)
  have h4 := H3.out.set 1 rfl 3 (.slice na s.sinks.length nc)
  have h4 : St w0 (w3.setCell ⟨w.heap.size, 3, none⟩ (.slice na s.sinks.length nc)) [sepL L, pt w.heap.size (.cells #[.int .i64 s.budget, .int .i64 s.room, .int .i64 s.quota, .slice na s.sinks.length nc] 28 (0, 0)), ownP 113 5 Sk.cells (.slice na s.sinks.length nc) s.sinks] := h4
  clear H3 b3 f3 a0 a1 a2 a3 H2 H1 HRI HL2 HL1
  generalize w.heap.size = g at *
  refine wp_at h4 ?_
  intro w5 h5
  clear h4
  have S0 := HBX.out _ _ _ _ _ h5 rfl
  have S1 := HBX.out _ _ _ _ _ h5.drew rfl
  have HBN := Lib.hid (boardNew_st h5.drew)
  clear h5
  go_region_held3 (fun w' => w'.cell? ⟨g, 0, none⟩ = some (.int .i64 s.budget) ∧ w'.cell? ⟨g, 1, none⟩ = some (.int .i64 s.room) ∧ w'.cell? ⟨g, 2, none⟩ = some (.int .i64 s.quota) ∧ w'.cell? ⟨g, 3, none⟩ = some (.slice na s.sinks.length nc)) (first | (with_reducible exact S1) | (with_reducible exact S0) | (with_reducible exact S6) | (with_reducible exact S7))
    (first | (go_at_call 49; (with_reducible refine HBN.out.mono ?_); rintro e w6 ⟨bb, rfl, h6⟩; have S6 := HBX.out _ _ _ _ _ h6 rfl; have h7 := h6.alloc (.cells #[.int .i64 s.budget, .int .i64 s.room, .int .i64 s.quota, .slice na s.sinks.length nc, .pointer none, .pointer none, .pointer none, .pointer none, .pointer none, .pointer none, .pointer none, .pointer none, .slice none 0 0, .pointer (some ⟨bb, 0, none⟩), .int .i64 0] 119); have S7 := HBX.out _ _ _ _ _ h7 rfl; have H7 := Lib.hid h7; clear h6 h7 HBN))
  obtain ⟨_, _, _, b3⟩ := S7
  clear S0 S1 S6
  go_wp2_with fail
  have h7 := H7.out
  clear H7 b3
  generalize w6.heap.size = cb at *
  refine wp_at h7 ?_
  intro w7 h7
  have h8 : St w0 w7 [sepL L, pt g (.cells #[.int .i64 s.budget, .int .i64 s.room, .int .i64 s.quota, .slice na s.sinks.length nc] 28 (0, 0)), ownP 113 5 Sk.cells (.slice na s.sinks.length nc) s.sinks, pt cb (.cells (coCells (newCo s) na nc (.slice none 0 0) bb (List.replicate 8 none)).toArray 119 (0, 0)), ownP 125 4 Pot.cells (.slice none 0 0) ((s.sinks.take 0).map newPot), boardP bb (List.replicate 8 []) 0] := (h7.nil 125 4 Pot.cells).pick [0, 1, 2, 4, 5, 3] (by decide)
  have H8 := Lib.hid h8
  have hs4 : s.sinks.length ≤ 4 := by
    have := hs
    unfold rightSu rightSks at this
    simp only [Bool.and_eq_true, decide_eq_true_eq] at this
    exact this.2.2
  clear h7 h8
  go_loopw [20] (fun iv wr => ∃ k : Nat, k ≤ s.sinks.length ∧ iv = .int .i64 k ∧ ∃ pv, St w0 wr [sepL L, pt g (.cells #[.int .i64 s.budget, .int .i64 s.room, .int .i64 s.quota, .slice na s.sinks.length nc] 28 (0, 0)), ownP 113 5 Sk.cells (.slice na s.sinks.length nc) s.sinks, pt cb (.cells (coCells (newCo s) na nc (pv) bb (List.replicate 8 none)).toArray 119 (0, 0)), ownP 125 4 Pot.cells (pv) ((s.sinks.take k).map newPot), boardP bb (List.replicate 8 []) 0]) (fun iv _ => s.sinks.length - (intOf iv).toNat)
  case atStart => exact ⟨0, by omega, rfl, _, H8.out⟩
  case round =>
    clear H8
    obtain ⟨j, hj, rfl, pv, hst⟩ := hrel
    by_cases hlt : (j : Int) < s.sinks.length
    · have hjn : j < s.sinks.length := by omega
      obtain ⟨b, o, hna, hbl, y0, y1, y2, y3, y4⟩ := (hst.slOf Sk.len 2 rfl).skAt j hjn
      subst hna
      have hpt : (s.sinks.take (j + 1)).map newPot = (s.sinks.take j).map newPot ++ [newPot (s.sinks.getD j Sk.zero)] := by
        rw [List.take_add_one, List.getElem?_eq_getElem hjn, Option.toList_some, List.map_append]
        simp [List.getD_eq_getElem?_getD, List.getElem?_eq_getElem hjn]
      obtain ⟨k, hk⟩ : ∃ k, s.sinks.getD j Sk.zero = k := ⟨_, rfl⟩
      rw [hk] at y0 y1 y2 y3 y4 hpt
      obtain ⟨l0, hl0⟩ : ∃ l0, (s.sinks.take j).map newPot = l0 := ⟨_, rfl⟩
      have hll : l0.length = j := by rw [← hl0]; simp; omega
      rw [hl0] at hst hpt
      obtain ⟨pa, pc, rfl, _, _, hpn, _⟩ := hst.sl Pot.len 4 rfl
      have h3 := hst.alloc (.cells #[.int .u64 k.fr, .int .u64 k.dst, .int .i64 k.least, .int .i64 k.agg, .int .i64 k.ticks] 113)
      have HPT := Lib.hid hpt
      have HLN := Lib.hid (show l0.length < 1099511627776 by omega)
      have HLL := Lib.hid hll
      clear hst hpt hl0 hll hk
      go_wp2_with fail
      generalize wr.heap.size = g2 at *
      refine wp_at h3 ?_
      intro w8 h9
      clear h3 y0 y1 y2 y3 y4 hbl
      obtain ⟨l1, hl1⟩ : ∃ l1, l0 ++ [newPot k] = l1 := ⟨_, rfl⟩
      have HL1 := Lib.hid hl1
      clear hl1
      have hpk : ∀ w' L' pv, St w0 w' L' → L'[3]? = some (pt cb (.cells (coCells (newCo s) (some ⟨b, o, none⟩) nc (pv) bb (List.replicate 8 none)).toArray 119 (0, 0))) → L'[6]? = some (pt g2 (.cells #[.int .u64 k.fr, .int .u64 k.dst, .int .i64 k.least, .int .i64 k.agg, .int .i64 k.ticks] 113 (0, 0))) → w'.cell? ⟨cb, 12, none⟩ = some pv ∧ w'.frozen? ⟨cb, 12, none⟩ = false ∧ ((w').cell? ⟨g2, 0, none⟩ = some (.int .u64 k.fr) ∧ (w').cell? ⟨g2, 1, none⟩ = some (.int .u64 k.dst) ∧ (w').cell? ⟨g2, 2, none⟩ = some (.int .i64 k.least) ∧ (w').cell? ⟨g2, 3, none⟩ = some (.int .i64 k.agg) ∧ (w').cell? ⟨g2, 4, none⟩ = some (.int .i64 k.ticks)) := fun w' L' pv hs h3 h6 => by
        obtain ⟨q, z⟩ := blkCells (hs.blk 3 h3).1
        exact ⟨(q 12).trans rfl, z 12, cells5 (hs.blk 6 h6).1 (Below.refl _ _)⟩
      have hfin : ∀ (w9s : Nat) w' xa xc, St w0 w' ([sepL L, pt g (.cells #[.int .i64 s.budget, .int .i64 s.room, .int .i64 s.quota, .slice (some ⟨b, o, none⟩) s.sinks.length nc] 28 (0, 0)), ownP 113 5 Sk.cells (.slice (some ⟨b, o, none⟩) s.sinks.length nc) s.sinks, pt cb (.cells (coCells (newCo s) (some ⟨b, o, none⟩) nc (.slice pa l0.length pc) bb (List.replicate 8 none)).toArray 119 (0, 0)), ownP 125 4 Pot.cells (.slice pa l0.length pc) (l0), boardP bb (List.replicate 8 []) 0, pt g2 (.cells #[.int .u64 k.fr, .int .u64 k.dst, .int .i64 k.least, .int .i64 k.agg, .int .i64 k.ticks] 113 (0, 0)), pt w9s (.cells #[.int .i64 0, .int .i64 k.agg, .int .i64 0, .int .u64 0] 125 (0, 0))].set 4 (ownP 125 4 Pot.cells (.slice xa l1.length xc) l1)) → w'.cell? ⟨cb, 12, none⟩ = some (.slice pa l0.length pc) ∧ w'.frozen? ⟨cb, 12, none⟩ = false ∧ ((w').cell? ⟨g2, 0, none⟩ = some (.int .u64 k.fr) ∧ (w').cell? ⟨g2, 1, none⟩ = some (.int .u64 k.dst) ∧ (w').cell? ⟨g2, 2, none⟩ = some (.int .i64 k.least) ∧ (w').cell? ⟨g2, 3, none⟩ = some (.int .i64 k.agg) ∧ (w').cell? ⟨g2, 4, none⟩ = some (.int .i64 k.ticks)) ∧ ((w'.setCell ⟨cb, 12, none⟩ (.slice xa l1.length xc)).cell? ⟨g2, 0, none⟩ = some (.int .u64 k.fr) ∧ (w'.setCell ⟨cb, 12, none⟩ (.slice xa l1.length xc)).cell? ⟨g2, 1, none⟩ = some (.int .u64 k.dst) ∧ (w'.setCell ⟨cb, 12, none⟩ (.slice xa l1.length xc)).cell? ⟨g2, 2, none⟩ = some (.int .i64 k.least) ∧ (w'.setCell ⟨cb, 12, none⟩ (.slice xa l1.length xc)).cell? ⟨g2, 3, none⟩ = some (.int .i64 k.agg) ∧ (w'.setCell ⟨cb, 12, none⟩ (.slice xa l1.length xc)).cell? ⟨g2, 4, none⟩ = some (.int .i64 k.ticks)) ∧ St w0 (w'.setCell ⟨cb, 12, none⟩ (.slice xa l1.length xc)) [sepL L, pt g (.cells #[.int .i64 s.budget, .int .i64 s.room, .int .i64 s.quota, .slice (some ⟨b, o, none⟩) s.sinks.length nc] 28 (0, 0)), ownP 113 5 Sk.cells (.slice (some ⟨b, o, none⟩) s.sinks.length nc) s.sinks, pt cb (.cells (coCells (newCo s) (some ⟨b, o, none⟩) nc (.slice xa l1.length xc) bb (List.replicate 8 none)).toArray 119 (0, 0)), ownP 125 4 Pot.cells (.slice xa l1.length xc) l1, boardP bb (List.replicate 8 []) 0] := fun w9s w' xa xc h' => by
        have h1 := h'.set 3 rfl 12 (.slice xa l1.length xc)
        obtain ⟨z, f, S1⟩ := hpk _ _ _ h' rfl rfl
        obtain ⟨_, _, S2⟩ := hpk _ _ (.slice xa l1.length xc) h1 rfl rfl
        exact ⟨z, f, S1, S2, h1.pick [0, 1, 2, 3, 4, 5] (by decide)⟩
      obtain ⟨z8, f8, S8⟩ := hpk _ _ _ h9.drew rfl rfl
      have H9 := Lib.hid h9.drew
      have HPK := Lib.hid hpk
      have HFIN := Lib.hid hfin
      have HLN2 := Lib.hid (show l0.length + [newPot k].length ≤ 1099511627776 by have := HLN.out; simp; omega)
      clear h9 hpk hfin
      refine wp_region_held_drew (S := fun w' => ((w').cell? ⟨g2, 0, none⟩ = some (.int .u64 k.fr) ∧ (w').cell? ⟨g2, 1, none⟩ = some (.int .u64 k.dst) ∧ (w').cell? ⟨g2, 2, none⟩ = some (.int .i64 k.least) ∧ (w').cell? ⟨g2, 3, none⟩ = some (.int .i64 k.agg) ∧ (w').cell? ⟨g2, 4, none⟩ = some (.int .i64 k.ticks))) (by kernel_rfl) S8 (fun _ => ?_)
      refine wpAnyH_take (i := 0) (v := ?_) rfl (by kernel_rfl) (by kernel_rfl) (by kernel_rfl) (fun _ _ _ h => h) (Or.inl ⟨by rfl, ?_⟩) S8 ?_
      rotate_left
      · (intro w hw; obtain ⟨u0, u1, u2, u3, u4⟩ := hw; go_simp; try with_reducible rfl)
      simp only [Act.put, List.setIfInBounds_toArray, List.set_cons_zero, List.set_cons_succ]
      refine wpAnyH_take (i := 1) (v := ?_) rfl (by kernel_rfl) (by kernel_rfl) (by kernel_rfl) (fun _ _ _ h => h) (Or.inl ⟨by rfl, ?_⟩) S8 ?_
      rotate_left
      · (intro w hw; obtain ⟨u0, u1, u2, u3, u4⟩ := hw; go_simp; try with_reducible rfl)
      simp only [Act.put, List.setIfInBounds_toArray, List.set_cons_zero, List.set_cons_succ]
      refine wpAnyH_take (i := 2) (v := ?_) rfl (by kernel_rfl) (by kernel_rfl) (by kernel_rfl) (fun _ _ _ h => h) (Or.inl ⟨by rfl, ?_⟩) S8 ?_
      rotate_left
      · (intro w hw; obtain ⟨u0, u1, u2, u3, u4⟩ := hw; go_simp; try with_reducible rfl)
      simp only [Act.put, List.setIfInBounds_toArray, List.set_cons_zero, List.set_cons_succ]
      refine wpAnyH_take (i := 3) (v := ?_) rfl (by kernel_rfl) (by kernel_rfl) (by kernel_rfl) (fun _ _ _ h => h) (Or.inl ⟨by rfl, ?_⟩) S8 ?_
      rotate_left
      · (intro w hw; obtain ⟨u0, u1, u2, u3, u4⟩ := hw; go_simp; try with_reducible rfl)
      simp only [Act.put, List.setIfInBounds_toArray, List.set_cons_zero, List.set_cons_succ]
      refine wpAnyH_take (i := 5) (v := ?_) rfl (by kernel_rfl) (by kernel_rfl) (by kernel_rfl) (fun _ _ _ h => h) (Or.inl ⟨by rfl, ?_⟩) S8 ?_
      rotate_left
      · (intro w hw; obtain ⟨u0, u1, u2, u3, u4⟩ := hw; go_simp; try with_reducible rfl)
      simp only [Act.put, List.setIfInBounds_toArray, List.set_cons_zero, List.set_cons_succ]
      refine wpAnyH_ready (rs := [4, 6]) (by kernel_rfl) (by simp) ?_
      refine AllReadyH.cons rfl (fun K hK => ?_) (AllReadyH.cons rfl (fun K hK => ?_) AllReadyH.nil)
      · go_simp
        refine hK.out _ _ S8 (fun _ => ?_)
        clear hK K
        try simp only [Act.put, List.setIfInBounds_toArray, List.set_cons_zero, List.set_cons_succ]
        refine wpAnyH_ready (rs := [6]) (by kernel_rfl) (by simp) ?_
        refine AllReadyH.cons rfl (fun K hK => ?_) AllReadyH.nil
        go_simp
        go_wp2_with (go_at_call 50; (with_reducible refine (sinkNew_any k _).mono ?_); rintro e w9 ⟨rfl, hb9⟩; have h10 := H9.out.kept hb9; have h11 := h10.alloc (.cells #[.int .i64 0, .int .i64 k.agg, .int .i64 0, .int .u64 0] 125); obtain ⟨z10, _, S10⟩ := HPK.out _ _ _ h10 rfl rfl; obtain ⟨z11, _, S11⟩ := HPK.out _ _ _ h11 rfl rfl; have H11 := Lib.hid h11; clear h10 h11)
        refine hK.out _ _ S10 (fun _ => ?_)
        clear hK K
        try simp only [Act.put, List.setIfInBounds_toArray, List.set_cons_zero, List.set_cons_succ]
        refine wpAnyH_ready (rs := [7]) (by kernel_rfl) (by simp) ?_
        refine AllReadyH.cons rfl (fun K hK => ?_) AllReadyH.nil
        go_simp
        refine hK.out _ _ S11 (fun _ => ?_)
        clear hK K
        try simp only [Act.put, List.setIfInBounds_toArray, List.set_cons_zero, List.set_cons_succ]
        refine wpAnyH_ready (rs := [8]) (by kernel_rfl) (by simp) ?_
        refine AllReadyH.cons rfl (fun K hK => ?_) AllReadyH.nil
        (refine step_append_st potElem rfl H11.out 4 rfl _ _ rfl rfl (some ⟨w9.heap.size, 0, none⟩) 1 [newPot k] rfl (by simp) (SlAt.one Pot.len (H11.out.blk 7 rfl).1) HLN2.out ?_; intro v' w' h12 _; rw [HL1.out] at h12; obtain ⟨xa, xc, rfl, _⟩ := h12.sl Pot.len 4 rfl; obtain ⟨z12, f12, S12, S13, h13⟩ := HFIN.out _ _ _ _ h12; have H13 := Lib.hid h13; clear h12 h13)
        refine hK.out _ _ S12 (fun _ => ?_)
        clear hK K
        try simp only [Act.put, List.setIfInBounds_toArray, List.set_cons_zero, List.set_cons_succ]
        refine wpAnyH_take (i := 9) (v := ?_) rfl (by kernel_rfl) (by kernel_rfl) (by kernel_rfl) (fun _ _ _ h => h) (Or.inl ⟨by rfl, ?_⟩) S12 ?_
        rotate_left
        · (intro w hw; obtain ⟨u0, u1, u2, u3, u4⟩ := hw; go_simp; try with_reducible rfl)
        simp only [Act.put, List.setIfInBounds_toArray, List.set_cons_zero, List.set_cons_succ]
        refine wpAnyH_take (i := 10) (v := ?_) rfl (by kernel_rfl) (by kernel_rfl) (by kernel_rfl) (fun _ _ _ h => h) (Or.inl ⟨by rfl, ?_⟩) S12 ?_
        rotate_left
        · (intro w hw; obtain ⟨u0, u1, u2, u3, u4⟩ := hw; go_simp; try with_reducible rfl)
        simp only [Act.put, List.setIfInBounds_toArray, List.set_cons_zero, List.set_cons_succ]
        refine wpAnyH_ready (rs := [11]) (by kernel_rfl) (by simp) ?_
        refine AllReadyH.cons rfl (fun K hK => ?_) AllReadyH.nil
        go_simp
        refine hK.out _ _ S13 (fun _ => ?_)
        clear hK K
        try simp only [Act.put, List.setIfInBounds_toArray, List.set_cons_zero, List.set_cons_succ]
        refine wpAnyH_done (by kernel_rfl) ?_ _
        go_wp2
        go_roundw
        case rel => exact ⟨j + 1, by omega, by go_num, _, by rw [HPT.out, HL1.out]; exact H13.out⟩
        case measure => simp [intOf]; omega
      · go_simp
        go_wp2_with (go_at_call 50; (with_reducible refine (sinkNew_any k _).mono ?_); rintro e w9 ⟨rfl, hb9⟩; have h10 := H9.out.kept hb9; have h11 := h10.alloc (.cells #[.int .i64 0, .int .i64 k.agg, .int .i64 0, .int .u64 0] 125); obtain ⟨z10, _, S10⟩ := HPK.out _ _ _ h10 rfl rfl; obtain ⟨z11, _, S11⟩ := HPK.out _ _ _ h11 rfl rfl; have H11 := Lib.hid h11; clear h10 h11)
        refine hK.out _ _ S10 (fun _ => ?_)
        clear hK K
        try simp only [Act.put, List.setIfInBounds_toArray, List.set_cons_zero, List.set_cons_succ]
        refine wpAnyH_ready (rs := [4, 7]) (by kernel_rfl) (by simp) ?_
        refine AllReadyH.cons rfl (fun K hK => ?_) (AllReadyH.cons rfl (fun K hK => ?_) AllReadyH.nil)
        · go_simp
          refine hK.out _ _ S10 (fun _ => ?_)
          clear hK K
          try simp only [Act.put, List.setIfInBounds_toArray, List.set_cons_zero, List.set_cons_succ]
          refine wpAnyH_ready (rs := [7]) (by kernel_rfl) (by simp) ?_
          refine AllReadyH.cons rfl (fun K hK => ?_) AllReadyH.nil
          go_simp
          refine hK.out _ _ S11 (fun _ => ?_)
          clear hK K
          try simp only [Act.put, List.setIfInBounds_toArray, List.set_cons_zero, List.set_cons_succ]
          refine wpAnyH_ready (rs := [8]) (by kernel_rfl) (by simp) ?_
          refine AllReadyH.cons rfl (fun K hK => ?_) AllReadyH.nil
          (refine step_append_st potElem rfl H11.out 4 rfl _ _ rfl rfl (some ⟨w9.heap.size, 0, none⟩) 1 [newPot k] rfl (by simp) (SlAt.one Pot.len (H11.out.blk 7 rfl).1) HLN2.out ?_; intro v' w' h12 _; rw [HL1.out] at h12; obtain ⟨xa, xc, rfl, _⟩ := h12.sl Pot.len 4 rfl; obtain ⟨z12, f12, S12, S13, h13⟩ := HFIN.out _ _ _ _ h12; have H13 := Lib.hid h13; clear h12 h13)
          refine hK.out _ _ S12 (fun _ => ?_)
          clear hK K
          try simp only [Act.put, List.setIfInBounds_toArray, List.set_cons_zero, List.set_cons_succ]
          refine wpAnyH_take (i := 9) (v := ?_) rfl (by kernel_rfl) (by kernel_rfl) (by kernel_rfl) (fun _ _ _ h => h) (Or.inl ⟨by rfl, ?_⟩) S12 ?_
          rotate_left
          · (intro w hw; obtain ⟨u0, u1, u2, u3, u4⟩ := hw; go_simp; try with_reducible rfl)
          simp only [Act.put, List.setIfInBounds_toArray, List.set_cons_zero, List.set_cons_succ]
          refine wpAnyH_take (i := 10) (v := ?_) rfl (by kernel_rfl) (by kernel_rfl) (by kernel_rfl) (fun _ _ _ h => h) (Or.inl ⟨by rfl, ?_⟩) S12 ?_
          rotate_left
          · (intro w hw; obtain ⟨u0, u1, u2, u3, u4⟩ := hw; go_simp; try with_reducible rfl)
          simp only [Act.put, List.setIfInBounds_toArray, List.set_cons_zero, List.set_cons_succ]
          refine wpAnyH_ready (rs := [11]) (by kernel_rfl) (by simp) ?_
          refine AllReadyH.cons rfl (fun K hK => ?_) AllReadyH.nil
          go_simp
          refine hK.out _ _ S13 (fun _ => ?_)
          clear hK K
          try simp only [Act.put, List.setIfInBounds_toArray, List.set_cons_zero, List.set_cons_succ]
          refine wpAnyH_done (by kernel_rfl) ?_ _
          go_wp2
          go_roundw
          case rel => exact ⟨j + 1, by omega, by go_num, _, by rw [HPT.out, HL1.out]; exact H13.out⟩
          case measure => simp [intOf]; omega
        · go_simp
          refine hK.out _ _ S11 (fun _ => ?_)
          clear hK K
          try simp only [Act.put, List.setIfInBounds_toArray, List.set_cons_zero, List.set_cons_succ]
          refine wpAnyH_ready (rs := [4]) (by kernel_rfl) (by simp) ?_
          refine AllReadyH.cons rfl (fun K hK => ?_) AllReadyH.nil
          go_simp
          refine hK.out _ _ S11 (fun _ => ?_)
          clear hK K
          try simp only [Act.put, List.setIfInBounds_toArray, List.set_cons_zero, List.set_cons_succ]
          refine wpAnyH_ready (rs := [8]) (by kernel_rfl) (by simp) ?_
          refine AllReadyH.cons rfl (fun K hK => ?_) AllReadyH.nil
          (refine step_append_st potElem rfl H11.out 4 rfl _ _ rfl rfl (some ⟨w9.heap.size, 0, none⟩) 1 [newPot k] rfl (by simp) (SlAt.one Pot.len (H11.out.blk 7 rfl).1) HLN2.out ?_; intro v' w' h12 _; rw [HL1.out] at h12; obtain ⟨xa, xc, rfl, _⟩ := h12.sl Pot.len 4 rfl; obtain ⟨z12, f12, S12, S13, h13⟩ := HFIN.out _ _ _ _ h12; have H13 := Lib.hid h13; clear h12 h13)
          refine hK.out _ _ S12 (fun _ => ?_)
          clear hK K
          try simp only [Act.put, List.setIfInBounds_toArray, List.set_cons_zero, List.set_cons_succ]
          refine wpAnyH_take (i := 9) (v := ?_) rfl (by kernel_rfl) (by kernel_rfl) (by kernel_rfl) (fun _ _ _ h => h) (Or.inl ⟨by rfl, ?_⟩) S12 ?_
          rotate_left
          · (intro w hw; obtain ⟨u0, u1, u2, u3, u4⟩ := hw; go_simp; try with_reducible rfl)
          simp only [Act.put, List.setIfInBounds_toArray, List.set_cons_zero, List.set_cons_succ]
          refine wpAnyH_take (i := 10) (v := ?_) rfl (by kernel_rfl) (by kernel_rfl) (by kernel_rfl) (fun _ _ _ h => h) (Or.inl ⟨by rfl, ?_⟩) S12 ?_
          rotate_left
          · (intro w hw; obtain ⟨u0, u1, u2, u3, u4⟩ := hw; go_simp; try with_reducible rfl)
          simp only [Act.put, List.setIfInBounds_toArray, List.set_cons_zero, List.set_cons_succ]
          refine wpAnyH_ready (rs := [11]) (by kernel_rfl) (by simp) ?_
          refine AllReadyH.cons rfl (fun K hK => ?_) AllReadyH.nil
          go_simp
          refine hK.out _ _ S13 (fun _ => ?_)
          clear hK K
          try simp only [Act.put, List.setIfInBounds_toArray, List.set_cons_zero, List.set_cons_succ]
          refine wpAnyH_done (by kernel_rfl) ?_ _
          go_wp2
          go_roundw
          case rel => exact ⟨j + 1, by omega, by go_num, _, by rw [HPT.out, HL1.out]; exact H13.out⟩
          case measure => simp [intOf]; omega
    · obtain rfl : j = s.sinks.length := by omega
      rw [List.take_length] at hst
      have h1 := hst.pick [3, 4, 5, 9, 0, 2] (by decide)
      have h2 := h1.imp 3 rfl (X' := sepL (clsL (List.replicate 8 none) (newCo s).cells 0)) (fun f _ => emps8 f)
      have h3 := co_shut (co := newCo s) (N := 0) (ps := List.replicate 8 none) (K := [sepL L, ownP 113 5 Sk.cells (.slice na s.sinks.length nc) s.sinks]) rfl ⟨newCo_good s hs, Nat.le_refl 0, fun p hp => by obtain ⟨x, _, rfl⟩ := List.mem_map.1 hp; rfl, hwf⟩ h2
      have H4 := Lib.hid ((h3.pick [1, 0, 2] (by decide)).ungroup)
      clear h1 h2 h3 hst
      go_wp2
      go_ret
      exact ⟨cb, rfl, na, nc, H4.out⟩
end Go.Proofs.YtdncpihaeobaeaaGreat
