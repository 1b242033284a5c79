/- Walk of core.register. -/
import Derived.Test.YtdncpihaeobaeaaGreatReg
import Derived.Test.YtdncpihaeobaeaaGreatActM
set_option linter.unusedVariables false
set_option linter.unusedSimpArgs false
namespace Go.Proofs.YtdncpihaeobaeaaGreat
open Go.RowKit
theorem sepL_up {L : List HP} {h : Nat → Option Obj} {f : Nat → Bool} (s : sepL L (part h f)) : sepL L h := by
  obtain ⟨own, ho⟩ := s
  refine ⟨fun b => if f b then own b else L.length, fun i P hi => ?_⟩
  have hil := (List.getElem?_eq_some_iff.1 hi).1
  have := ho i P hi
  rw [part_part] at this
  refine cast (congrArg P (part_own fun b => ?_)) this
  simp only [beq_iff_eq, Bool.and_eq_true]
  constructor
  · rintro ⟨h1, h2⟩
    rw [if_pos h1, h2]
  · intro he
    split at he
    · exact ⟨by assumption, he⟩
    · omega
theorem coCells_set {co co' : Co} (hs : co'.s = co.s) (ht : co'.ticks = co.ticks) {sa : Option Addr} {sc bb : Nat} {pv : Value} {ps : List (Option Nat)} (h8 : ps.length = 8) (u : Nat) (hu : u < 8) (p : Option Nat) : (coCells co sa sc pv bb ps).toArray.setIfInBounds (4 + u) (ptrV p) = (coCells co' sa sc pv bb (ps.set u p)).toArray := by
  have e : coCells co' sa sc pv bb (ps.set u p) = coCells co sa sc pv bb (ps.set u p) := by unfold coCells; rw [hs, ht]
  rw [e]
  match ps, h8 with
  | [p0, p1, p2, p3, p4, p5, p6, p7], _ =>
    match u, hu with
    | 0, _ | 1, _ | 2, _ | 3, _ | 4, _ | 5, _ | 6, _ | 7, _ => rfl
theorem St.cellPut {w0 w : World} {L : List HP} {N M : Nat} {ps : List (Option Nat)} {cs : List (Option Cl)} (h : St w0 w L) (m j : Nat) (hm : L[m]? = some (sepL (clsL ps cs N))) (h1 : ps.length = 8) (h2 : cs.length = 8) (k : Nat) (hk : k < 8) (b : Nat) (c : Cl) (hj : L[j]? = some (clP b c M)) (hmj : m ≠ j) (hM : M ≤ N) :
    St w0 w ((L.set j _root_.Go.Proofs.YtdncpihaeobaeaaGreat.emp).set m (sepL (clsL (ps.set k (some b)) (cs.set k (some c)) N))) := by
  have hml := (List.getElem?_eq_some_iff.1 hm).1
  have hjl := (List.getElem?_eq_some_iff.1 hj).1
  obtain ⟨h3, i3⟩ := h.cellIn m hm h1 h2 k hk
  have ij : (L.set m _root_.Go.Proofs.YtdncpihaeobaeaaGreat.emp ++ clsL ps cs N)[j]? = some (clP b c M) := by
    rw [List.getElem?_append_left (by simpa using hjl), List.getElem?_set, if_neg hmj]
    exact hj
  have h4 := h3.merge (L.length + k) j (by omega) i3 ij (Z := optP N (some b) (some c)) (fun f hf => by
    obtain ⟨own, ho⟩ := hf
    obtain ⟨x, hok, hs⟩ := ho 1 _ rfl
    exact ⟨x, hok.mono hM, sepL_up hs⟩)
  have e : (L.set m _root_.Go.Proofs.YtdncpihaeobaeaaGreat.emp ++ clsL ps cs N).set j _root_.Go.Proofs.YtdncpihaeobaeaaGreat.emp = (L.set j _root_.Go.Proofs.YtdncpihaeobaeaaGreat.emp).set m _root_.Go.Proofs.YtdncpihaeobaeaaGreat.emp ++ clsL ps cs N := by
    rw [List.set_append_left _ _ (by simpa using hjl), List.set_comm _ _ hmj]
  rw [e] at h4
  have h5 := St.cellOut (L := L.set j _root_.Go.Proofs.YtdncpihaeobaeaaGreat.emp) (M := []) m (by simpa using hml) h1 h2 k hk (some b) (some c) (Nat.le_refl N) (by rw [List.append_nil, List.length_set]; exact h4)
  rwa [List.append_nil] at h5
theorem boxCells {w : World} {g : Nat} {a : ActR} {T : TypeId} (h : w.heap[g]? = some (.cells a.cells.toArray T (0, 0))) : w.cell? ⟨g, 0, none⟩ = some (.int .i64 a.kind) ∧ w.cell? ⟨g, 1, none⟩ = some (.int .i64 a.tenant) ∧ w.cell? ⟨g, 2, none⟩ = some (.int .i64 a.fr) ∧ w.cell? ⟨g, 3, none⟩ = some (.int .i64 a.n) ∧ w.cell? ⟨g, 4, none⟩ = some (.slice a.oa a.p.ops.length a.oc) ∧ w.cell? ⟨g, 5, none⟩ = some (.int .i64 a.p.size) ∧ w.cell? ⟨g, 6, none⟩ = some (.int .i64 a.p.slide) ∧ w.cell? ⟨g, 7, none⟩ = some (.int .i64 a.p.agg) ∧ w.cell? ⟨g, 8, none⟩ = some (.int .i64 a.p.sink) ∧ w.cell? ⟨g, 9, none⟩ = some (.int .i64 a.p.feed) ∧ w.cell? ⟨g, 10, none⟩ = some (.bool a.i.mark) ∧ w.cell? ⟨g, 11, none⟩ = some (.int .i64 a.i.ev.time) ∧ w.cell? ⟨g, 12, none⟩ = some (.int .i64 a.i.ev.key) ∧ w.cell? ⟨g, 13, none⟩ = some (.int .i64 a.i.ev.value) ∧ w.cell? ⟨g, 14, none⟩ = some (.int .u64 a.i.ev.label) ∧ g < w.heap.size := by
  obtain ⟨q, _⟩ := blkCells h
  exact ⟨(q 0).trans rfl, (q 1).trans rfl, (q 2).trans rfl, (q 3).trans rfl, (q 4).trans rfl, (q 5).trans rfl, (q 6).trans rfl, (q 7).trans rfl, (q 8).trans rfl, (q 9).trans rfl, (q 10).trans rfl, (q 11).trans rfl, (q 12).trans rfl, (q 13).trans rfl, (q 14).trans rfl, (Array.getElem?_eq_some_iff.1 h).1⟩
theorem ops_few {p : Pp} (h : rightPp p = true) : p.ops.length ≤ 6 := by
  unfold rightPp rightOps at h
  simp only [Bool.and_eq_true, decide_eq_true_eq] at h
  exact h.1.1.1.1.1
set_option maxHeartbeats 4000000 in
set_option maxRecDepth 20000 in
theorem reg_in {w0 w : World} {R : HP} {cb sc N : Nat} {sa : Option Addr} {co : Co} (h : St w0 w [coP cb sa sc co N, R]) (hS : Seen w0 R 5 Sk.cells sa co.s.sinks) (a : ActR) (ho : Seen w0 R 2 Opr.cells a.oa a.p.ops) (hnil : a.oa = none → a.oc = 0) (hw : ∀ o ∈ a.p.ops, o.wf) (hm : a.p.ops.length ≤ maxLen) :
    Calls Tryz.prog 72 #[.pointer (some ⟨cb, 0, none⟩), .agg #[.int .i64 a.kind, .int .i64 a.tenant, .int .i64 a.fr, .int .i64 a.n, .slice a.oa a.p.ops.length a.oc, .int .i64 a.p.size, .int .i64 a.p.slide, .int .i64 a.p.agg, .int .i64 a.p.sink, .int .i64 a.p.feed, .bool a.i.mark, .int .i64 a.i.ev.time, .int .i64 a.i.ev.key, .int .i64 a.i.ev.value, .int .u64 a.i.ev.label]] w fun x w' => x = .returned (.int .i64 (co.reg a.tenant a.p).1) ∧ St w0 w' [coP cb sa sc (co.reg a.tenant a.p).2 N, R] := by
  obtain ⟨ps, pv, bb, hp8, hok, hst⟩ := co_open h
  have h8 := hok.good.cells
  have hlen4 : co.s.sinks.length ≤ 4 := by
    have := hok.good.su
    unfold rightSu rightSks at this
    simp only [Bool.and_eq_true, decide_eq_true_eq] at this
    exact this.2.2
  have hq : 0 ≤ co.s.quota ∧ co.s.quota ≤ 4000 := by
    have := hok.good.su
    unfold rightSu at this
    simp only [Bool.and_eq_true, decide_eq_true_eq] at this
    exact ⟨this.1.1.2, this.1.2⟩
  obtain ⟨kd, tn, fr, nn, oa, oc, ⟨ops, sz, sl, ag, sk, fd⟩, ⟨im, ⟨et, ek, ev, el⟩⟩⟩ := a
  dsimp only at ho hnil hw hm ⊢
  have HSAME := Lib.hid (fun (w' : World) (M : List HP) (hs : St w0 w' ([pt cb (.cells (coCells co sa sc pv bb ps).toArray 119 (0, 0)), ownP 125 4 Pot.cells pv co.pots, boardP bb co.told N, sepL (clsL ps co.cells N), R] ++ M)) => (by
    have := hs.cut
    exact co_shut hp8 hok this : St w0 w' [coP cb sa sc co N, R]))
  unfold Co.reg
  by_cases ht : 0 ≤ tn ∧ tn ≤ 7
  · rw [if_neg (by omega)]
    obtain ⟨u, rfl⟩ : ∃ u : Nat, tn = u := ⟨tn.toNat, by omega⟩
    have hu8 : u < 8 := by omega
    rw [at_x co u hu8, Int.toNat_natCast]
    have h1 : St w0 (w.alloc (.cells #[.int .i64 kd, .int .i64 u, .int .i64 fr, .int .i64 nn, .slice oa ops.length oc, .int .i64 sz, .int .i64 sl, .int .i64 ag, .int .i64 sk, .int .i64 fd, .bool im, .int .i64 et, .int .i64 ek, .int .i64 ev, .int .u64 el] 67)) [pt cb (.cells (coCells co sa sc pv bb ps).toArray 119 (0, 0)), ownP 125 4 Pot.cells pv co.pots, boardP bb co.told N, sepL (clsL ps co.cells N), R, pt w.heap.size (.cells #[.int .i64 kd, .int .i64 u, .int .i64 fr, .int .i64 nn, .slice oa ops.length oc, .int .i64 sz, .int .i64 sl, .int .i64 ag, .int .i64 sk, .int .i64 fd, .bool im, .int .i64 et, .int .i64 ek, .int .i64 ev, .int .u64 el] 67 (0, 0))] := hst.alloc (.cells #[.int .i64 kd, .int .i64 u, .int .i64 fr, .int .i64 nn, .slice oa ops.length oc, .int .i64 sz, .int .i64 sl, .int .i64 ag, .int .i64 sk, .int .i64 fd, .bool im, .int .i64 et, .int .i64 ek, .int .i64 ev, .int .u64 el] 67)
    obtain ⟨_, x1, _, _, x4, x5, x6, x7, x8, x9, _, _, _, _, _, hbl⟩ := boxCells (a := (⟨kd, u, fr, nn, oa, oc, ⟨ops, sz, sl, ag, sk, fd⟩, ⟨im, ⟨et, ek, ev, el⟩⟩⟩ : ActR)) (h1.blk 5 rfl).1
    have hbl : w.heap.size < w.heap.size + 1 := by omega
    have hcc := co_cells (h1.blk 0 rfl).1 hp8
    have cu := hcc.2.2.2.2.1 u hu8
    obtain ⟨_, _, z2, z3, _, _, _, hcl0⟩ := co_c (h1.blk 0 rfl).1 hp8
    have hcl : cb < w.heap.size + 1 := by simpa using hcl0
    obtain ⟨h5, i5⟩ := h1.cellIn 3 rfl hp8 h8 u hu8
    rw [x_get h8 u hu8] at i5
    have HWI := Lib.hid (within_any (u : Int) 0 7)
    have hwt : (decide (0 ≤ (u : Int)) && decide ((u : Int) ≤ 7)) = true := by simp; omega
    have HWT := Lib.hid hwt
    clear hcc hwt
    cases hx : co.x u with
    | some c =>
      rw [hx] at i5
      obtain ⟨b, hb⟩ := optP_some h5 _ i5
      rw [hb] at cu
      have HAT := Lib.hid (coreAt_in cb u (.pointer (some ⟨b, 0, none⟩)) _ hu8 cu)
      have H1 := Lib.hid h1
      simp only [Option.isSome_some, if_true]
      clear h hst h1 h5 i5 hx hS ho hb z2 z3 x4 x5 x6 x7 x8 x9 cu
      go_enter Tryz.func72, Tryz.ntmps72
      go_wp2_with (first | (go_at_call 68; (with_reducible refine (HWI.out _).mono ?_); rintro e wz ⟨rfl, hwz⟩; have hwz := hwz.symm; subst hwz; rw [HWT.out]) | (go_at_call 58; (with_reducible refine HAT.out.mono ?_); rintro e wz ⟨rfl, hwz⟩; have hwz := hwz.symm; subst hwz))
      go_ret
      exact ⟨rfl, HSAME.out _ _ H1.out⟩
    | none =>
      rw [hx] at i5
      have hb := optP_none h5 _ i5
      rw [hb] at cu
      have HAT := Lib.hid (coreAt_in cb u (.pointer none) _ hu8 cu)
      simp only [Option.isSome_none, Bool.false_eq_true, if_false]
      have HMY := Lib.hid (may_any (u : Int) (⟨ops, sz, sl, ag, sk, fd⟩ : Pp) oa oc co.s.sinks sa sc _ (ho _ _ 4 h1.drew rfl) hm (hS _ _ 4 h1.drew rfl) (by omega))
      have hk5 : ∀ w', Below (w.heap.size + 1) (w.alloc (.cells #[.int .i64 kd, .int .i64 u, .int .i64 fr, .int .i64 nn, .slice oa ops.length oc, .int .i64 sz, .int .i64 sl, .int .i64 ag, .int .i64 sk, .int .i64 fd, .bool im, .int .i64 et, .int .i64 ek, .int .i64 ev, .int .u64 el] 67)) w' → (w'.cell? ⟨w.heap.size, 1, none⟩ = some (.int .i64 u) ∧ w'.cell? ⟨w.heap.size, 4, none⟩ = some (.slice oa ops.length oc) ∧ w'.cell? ⟨w.heap.size, 5, none⟩ = some (.int .i64 sz) ∧ w'.cell? ⟨w.heap.size, 6, none⟩ = some (.int .i64 sl) ∧ w'.cell? ⟨w.heap.size, 7, none⟩ = some (.int .i64 ag) ∧ w'.cell? ⟨w.heap.size, 8, none⟩ = some (.int .i64 sk) ∧ w'.cell? ⟨w.heap.size, 9, none⟩ = some (.int .i64 fd) ∧ w'.cell? ⟨cb, 3, none⟩ = some (.slice sa co.s.sinks.length sc)) := fun w' hb => ⟨(hb.cell hbl).trans x1, (hb.cell hbl).trans x4, (hb.cell hbl).trans x5, (hb.cell hbl).trans x6, (hb.cell hbl).trans x7, (hb.cell hbl).trans x8, (hb.cell hbl).trans x9, (hb.cell hcl).trans z3⟩
      have HK5 := Lib.hid hk5
      have H1 := Lib.hid h1
      have HX := Lib.hid hx
      have HO := Lib.hid ho
      have HOW := Lib.hid hw
      have HB := Lib.hid hb
      have HNI := Lib.hid hnil
      clear h hst h5 i5 hS z2 z3 x4 x5 x6 x7 x8 x9 hk5 hb hx ho hw h1 hnil
      cases hmy : mayB (u : Int) (⟨ops, sz, sl, ag, sk, fd⟩ : Pp) co.s.sinks with
      | false =>
        have HM := Lib.hid hmy
        clear hmy
        rw [if_pos rfl]
        go_enter Tryz.func72, Tryz.ntmps72
        go_wp2_with (first | (go_at_call 68; (with_reducible refine (HWI.out _).mono ?_); rintro e wz ⟨rfl, hwz⟩; have hwz := hwz.symm; subst hwz; rw [HWT.out]) | (go_at_call 58; (with_reducible refine HAT.out.mono ?_); rintro e wz ⟨rfl, hwz⟩; have hwz := hwz.symm; subst hwz))
        go_region_held3 (fun w' => w'.cell? ⟨w.heap.size, 1, none⟩ = some (.int .i64 u) ∧ w'.cell? ⟨w.heap.size, 4, none⟩ = some (.slice oa ops.length oc) ∧ w'.cell? ⟨w.heap.size, 5, none⟩ = some (.int .i64 sz) ∧ w'.cell? ⟨w.heap.size, 6, none⟩ = some (.int .i64 sl) ∧ w'.cell? ⟨w.heap.size, 7, none⟩ = some (.int .i64 ag) ∧ w'.cell? ⟨w.heap.size, 8, none⟩ = some (.int .i64 sk) ∧ w'.cell? ⟨w.heap.size, 9, none⟩ = some (.int .i64 fd) ∧ w'.cell? ⟨cb, 3, none⟩ = some (.slice sa co.s.sinks.length sc)) (first | exact HK5.out _ HB3.out | exact HK5.out _ (by go_grown))
          (first | (go_at_call 95; (with_reducible refine HMY.out.mono ?_); rintro e w2 ⟨rfl, hb2⟩; rw [HM.out]; have hsz2 := hb2.size; have hb3 := ((Below.refl (w.heap.size + 1) (w.alloc (.cells #[.int .i64 kd, .int .i64 u, .int .i64 fr, .int .i64 nn, .slice oa ops.length oc, .int .i64 sz, .int .i64 sl, .int .i64 ag, .int .i64 sk, .int .i64 fd, .bool im, .int .i64 et, .int .i64 ek, .int .i64 ev, .int .u64 el] 67))).drew).trans (hb2.mono (show w.heap.size + 1 ≤ _ by simp)); have HB3 := Lib.hid hb3; clear hb3; have h2 := H1.out.drew.kept hb2; have H2 := Lib.hid h2; clear h2))
        go_wp2
        go_ret
        exact ⟨rfl, HSAME.out _ _ H2.out⟩
      | true =>
        have HM := Lib.hid hmy
        clear hmy
        rw [if_neg (by decide)]
        go_enter Tryz.func72, Tryz.ntmps72
        go_wp2_with (first | (go_at_call 68; (with_reducible refine (HWI.out _).mono ?_); rintro e wz ⟨rfl, hwz⟩; have hwz := hwz.symm; subst hwz; rw [HWT.out]) | (go_at_call 58; (with_reducible refine HAT.out.mono ?_); rintro e wz ⟨rfl, hwz⟩; have hwz := hwz.symm; subst hwz))
        go_region_held3 (fun w' => w'.cell? ⟨w.heap.size, 1, none⟩ = some (.int .i64 u) ∧ w'.cell? ⟨w.heap.size, 4, none⟩ = some (.slice oa ops.length oc) ∧ w'.cell? ⟨w.heap.size, 5, none⟩ = some (.int .i64 sz) ∧ w'.cell? ⟨w.heap.size, 6, none⟩ = some (.int .i64 sl) ∧ w'.cell? ⟨w.heap.size, 7, none⟩ = some (.int .i64 ag) ∧ w'.cell? ⟨w.heap.size, 8, none⟩ = some (.int .i64 sk) ∧ w'.cell? ⟨w.heap.size, 9, none⟩ = some (.int .i64 fd) ∧ w'.cell? ⟨cb, 3, none⟩ = some (.slice sa co.s.sinks.length sc)) (first | exact HK5.out _ HB3.out | exact HK5.out _ (by go_grown))
          (first | (go_at_call 95; (with_reducible refine HMY.out.mono ?_); rintro e w2 ⟨rfl, hb2⟩; rw [HM.out]; have hsz2 := hb2.size; have hb3 := ((Below.refl (w.heap.size + 1) (w.alloc (.cells #[.int .i64 kd, .int .i64 u, .int .i64 fr, .int .i64 nn, .slice oa ops.length oc, .int .i64 sz, .int .i64 sl, .int .i64 ag, .int .i64 sk, .int .i64 fd, .bool im, .int .i64 et, .int .i64 ek, .int .i64 ev, .int .u64 el] 67))).drew).trans (hb2.mono (show w.heap.size + 1 ≤ _ by simp)); have HB3 := Lib.hid hb3; clear hb3; have h2 := H1.out.drew.kept hb2; have H2 := Lib.hid h2; clear h2))
        go_wp2_with fail
        refine wp_at H2.out ?_
        intro w3 h3
        clear H1 H2 HK5 HMY
        have hrp : rightPp (⟨ops, sz, sl, ag, sk, fd⟩ : Pp) = true := by
          have := HM.out
          unfold mayB at this
          simp only [Bool.and_eq_true] at this
          exact this.1.1.2
        have HNW := Lib.hid (cellNew_st h3.drew (u : Int) co.s.quota (by omega) (by omega) hq.1 (by omega) (⟨ops, sz, sl, ag, sk, fd⟩ : Pp) oa oc (HO.out.lift 4 rfl) HNI.out HOW.out (ops_few hrp) hrp)
        obtain ⟨_, x1, _, _, x4, x5, x6, x7, x8, x9, _, _, _, _, _, _⟩ := boxCells (a := (⟨kd, u, fr, nn, oa, oc, ⟨ops, sz, sl, ag, sk, fd⟩, ⟨im, ⟨et, ek, ev, el⟩⟩⟩ : ActR)) (h3.drew.blk 5 rfl).1
        obtain ⟨_, _, z2, _, _, _, _, _⟩ := co_c (h3.drew.blk 0 rfl).1 hp8
        have hfin : ∀ w4 b, St w0 w4 ([pt cb (.cells (coCells co sa sc pv bb ps).toArray 119 (0, 0)), ownP 125 4 Pot.cells pv co.pots, boardP bb co.told N, sepL (clsL ps co.cells N), R, pt w.heap.size (.cells #[.int .i64 kd, .int .i64 u, .int .i64 fr, .int .i64 nn, .slice oa ops.length oc, .int .i64 sz, .int .i64 sl, .int .i64 ag, .int .i64 sk, .int .i64 fd, .bool im, .int .i64 et, .int .i64 ek, .int .i64 ev, .int .u64 el] 67 (0, 0))] ++ [clP b (newC co.s.quota u (⟨ops, sz, sl, ag, sk, fd⟩ : Pp)) 0]) → (w4.cell? ⟨w.heap.size, 1, none⟩ = some (.int .i64 u) ∧ w4.cell? ⟨w.heap.size, 4, none⟩ = some (.slice oa ops.length oc) ∧ w4.cell? ⟨w.heap.size, 5, none⟩ = some (.int .i64 sz) ∧ w4.cell? ⟨w.heap.size, 6, none⟩ = some (.int .i64 sl) ∧ w4.cell? ⟨w.heap.size, 7, none⟩ = some (.int .i64 ag) ∧ w4.cell? ⟨w.heap.size, 8, none⟩ = some (.int .i64 sk) ∧ w4.cell? ⟨w.heap.size, 9, none⟩ = some (.int .i64 fd) ∧ w4.cell? ⟨cb, 2, none⟩ = some (.int .i64 co.s.quota)) ∧ (∃ z, w4.cell? ⟨cb, 4 + u, none⟩ = some z) ∧ w4.frozen? ⟨cb, 4 + u, none⟩ = false ∧ ((w4.setCell ⟨cb, 4 + u, none⟩ (.pointer (some ⟨b, 0, none⟩))).cell? ⟨w.heap.size, 1, none⟩ = some (.int .i64 u) ∧ (w4.setCell ⟨cb, 4 + u, none⟩ (.pointer (some ⟨b, 0, none⟩))).cell? ⟨w.heap.size, 4, none⟩ = some (.slice oa ops.length oc) ∧ (w4.setCell ⟨cb, 4 + u, none⟩ (.pointer (some ⟨b, 0, none⟩))).cell? ⟨w.heap.size, 5, none⟩ = some (.int .i64 sz) ∧ (w4.setCell ⟨cb, 4 + u, none⟩ (.pointer (some ⟨b, 0, none⟩))).cell? ⟨w.heap.size, 6, none⟩ = some (.int .i64 sl) ∧ (w4.setCell ⟨cb, 4 + u, none⟩ (.pointer (some ⟨b, 0, none⟩))).cell? ⟨w.heap.size, 7, none⟩ = some (.int .i64 ag) ∧ (w4.setCell ⟨cb, 4 + u, none⟩ (.pointer (some ⟨b, 0, none⟩))).cell? ⟨w.heap.size, 8, none⟩ = some (.int .i64 sk) ∧ (w4.setCell ⟨cb, 4 + u, none⟩ (.pointer (some ⟨b, 0, none⟩))).cell? ⟨w.heap.size, 9, none⟩ = some (.int .i64 fd) ∧ (w4.setCell ⟨cb, 4 + u, none⟩ (.pointer (some ⟨b, 0, none⟩))).cell? ⟨cb, 2, none⟩ = some (.int .i64 co.s.quota)) ∧ St w0 (w4.setCell ⟨cb, 4 + u, none⟩ (.pointer (some ⟨b, 0, none⟩))) [coP cb sa sc { co with cells := co.cells.set u (some (newC co.s.quota u (⟨ops, sz, sl, ag, sk, fd⟩ : Pp))) } N, R] := fun w4 b h4 => by
          have bx : ∀ w' L', St w0 w' L' → L'[5]? = some (pt w.heap.size (.cells #[.int .i64 kd, .int .i64 u, .int .i64 fr, .int .i64 nn, .slice oa ops.length oc, .int .i64 sz, .int .i64 sl, .int .i64 ag, .int .i64 sk, .int .i64 fd, .bool im, .int .i64 et, .int .i64 ek, .int .i64 ev, .int .u64 el] 67 (0, 0))) → (w'.cell? ⟨w.heap.size, 1, none⟩ = some (.int .i64 u) ∧ w'.cell? ⟨w.heap.size, 4, none⟩ = some (.slice oa ops.length oc) ∧ w'.cell? ⟨w.heap.size, 5, none⟩ = some (.int .i64 sz) ∧ w'.cell? ⟨w.heap.size, 6, none⟩ = some (.int .i64 sl) ∧ w'.cell? ⟨w.heap.size, 7, none⟩ = some (.int .i64 ag) ∧ w'.cell? ⟨w.heap.size, 8, none⟩ = some (.int .i64 sk) ∧ w'.cell? ⟨w.heap.size, 9, none⟩ = some (.int .i64 fd)) := fun w' L' hs hl => by
            obtain ⟨_, y1, _, _, y4, y5, y6, y7, y8, y9, _, _, _, _, _, _⟩ := boxCells (a := (⟨kd, u, fr, nn, oa, oc, ⟨ops, sz, sl, ag, sk, fd⟩, ⟨im, ⟨et, ek, ev, el⟩⟩⟩ : ActR)) (hs.blk 5 hl).1
            exact ⟨y1, y4, y5, y6, y7, y8, y9⟩
          have hcc := co_cells (h4.blk 0 rfl).1 hp8
          have h5 := h4.set 0 rfl (4 + u) (.pointer (some ⟨b, 0, none⟩))
          have e := coCells_set (co := co) (co' := co) rfl rfl (sa := sa) (sc := sc) (bb := bb) (pv := pv) hp8 u hu8 (some b)
          rw [show (Value.pointer (some ⟨b, 0, none⟩)) = ptrV (some b) from rfl] at h5 ⊢
          rw [e] at h5
          have h6 : St w0 (w4.setCell ⟨cb, 4 + u, none⟩ (ptrV (some b))) [pt cb (.cells (coCells co sa sc pv bb (ps.set u (some b))).toArray 119 (0, 0)), ownP 125 4 Pot.cells pv co.pots, boardP bb co.told N, sepL (clsL ps co.cells N), R, pt w.heap.size (.cells #[.int .i64 kd, .int .i64 u, .int .i64 fr, .int .i64 nn, .slice oa ops.length oc, .int .i64 sz, .int .i64 sl, .int .i64 ag, .int .i64 sk, .int .i64 fd, .bool im, .int .i64 et, .int .i64 ek, .int .i64 ev, .int .u64 el] 67 (0, 0)), clP b (newC co.s.quota u (⟨ops, sz, sl, ag, sk, fd⟩ : Pp)) 0] := h5
          have hc6 := co_cells (h6.blk 0 rfl).1 (show (ps.set u (some b)).length = 8 by simpa using hp8)
          have b4 := bx _ _ h4 rfl
          have b6 := bx _ _ h6 rfl
          refine ⟨⟨b4.1, b4.2.1, b4.2.2.1, b4.2.2.2.1, b4.2.2.2.2.1, b4.2.2.2.2.2.1, b4.2.2.2.2.2.2, hcc.2.2.1⟩, ⟨_, hcc.2.2.2.2.1 u hu8⟩, (blkCells (h4.blk 0 rfl).1).2 _, ⟨b6.1, b6.2.1, b6.2.2.1, b6.2.2.2.1, b6.2.2.2.2.1, b6.2.2.2.2.2.1, b6.2.2.2.2.2.2, hc6.2.2.1⟩, ?_⟩
          have h7 := h6.cellPut 3 6 rfl hp8 h8 u hu8 b (newC co.s.quota u (⟨ops, sz, sl, ag, sk, fd⟩ : Pp)) rfl (by decide) (Nat.zero_le N)
          have hgr : co.reg (u : Int) (⟨ops, sz, sl, ag, sk, fd⟩ : Pp) = (0, { co with cells := co.cells.set u (some (newC co.s.quota u (⟨ops, sz, sl, ag, sk, fd⟩ : Pp))) }) := by
            unfold Co.reg
            rw [if_neg (by omega), at_x co u hu8, HX.out, HM.out, Int.toNat_natCast]
            rfl
          have hg := good_reg co hok.good (u : Int) (⟨ops, sz, sl, ag, sk, fd⟩ : Pp)
          rw [hgr] at hg
          exact (co_shut (co := { co with cells := co.cells.set u (some (newC co.s.quota u (⟨ops, sz, sl, ag, sk, fd⟩ : Pp))) }) (by simpa using hp8) ⟨hg, hok.ticks, hok.pots, hok.sinks⟩ h7).cut (K := [_, _])
        have HFIN := Lib.hid hfin
        have hui8 : (u : Int) < 8 := by omega
        have hui0 : (0 : Int) ≤ u := by omega
        clear hfin h3
        go_region_held3 (fun w' => w'.cell? ⟨w.heap.size, 1, none⟩ = some (.int .i64 u) ∧ w'.cell? ⟨w.heap.size, 4, none⟩ = some (.slice oa ops.length oc) ∧ w'.cell? ⟨w.heap.size, 5, none⟩ = some (.int .i64 sz) ∧ w'.cell? ⟨w.heap.size, 6, none⟩ = some (.int .i64 sl) ∧ w'.cell? ⟨w.heap.size, 7, none⟩ = some (.int .i64 ag) ∧ w'.cell? ⟨w.heap.size, 8, none⟩ = some (.int .i64 sk) ∧ w'.cell? ⟨w.heap.size, 9, none⟩ = some (.int .i64 fd) ∧ w'.cell? ⟨cb, 2, none⟩ = some (.int .i64 co.s.quota)) (first | (with_reducible exact ⟨x1, x4, x5, x6, x7, x8, x9, z2⟩) | (with_reducible exact S4) | (with_reducible exact S5))
          (first | (go_at_call 63; (with_reducible refine HNW.out.mono ?_); rintro e w4 ⟨b, rfl, h4⟩; obtain ⟨S4, ⟨z, e4⟩, f4, S5, h5⟩ := HFIN.out _ _ h4; have H5 := Lib.hid h5; clear h4 h5))
        go_wp2
        go_ret
        exact ⟨rfl, H5.out⟩
  · rw [if_pos ht]
    have h1 : St w0 (w.alloc (.cells #[.int .i64 kd, .int .i64 tn, .int .i64 fr, .int .i64 nn, .slice oa ops.length oc, .int .i64 sz, .int .i64 sl, .int .i64 ag, .int .i64 sk, .int .i64 fd, .bool im, .int .i64 et, .int .i64 ek, .int .i64 ev, .int .u64 el] 67)) [pt cb (.cells (coCells co sa sc pv bb ps).toArray 119 (0, 0)), ownP 125 4 Pot.cells pv co.pots, boardP bb co.told N, sepL (clsL ps co.cells N), R, pt w.heap.size (.cells #[.int .i64 kd, .int .i64 tn, .int .i64 fr, .int .i64 nn, .slice oa ops.length oc, .int .i64 sz, .int .i64 sl, .int .i64 ag, .int .i64 sk, .int .i64 fd, .bool im, .int .i64 et, .int .i64 ek, .int .i64 ev, .int .u64 el] 67 (0, 0))] := hst.alloc (.cells #[.int .i64 kd, .int .i64 tn, .int .i64 fr, .int .i64 nn, .slice oa ops.length oc, .int .i64 sz, .int .i64 sl, .int .i64 ag, .int .i64 sk, .int .i64 fd, .bool im, .int .i64 et, .int .i64 ek, .int .i64 ev, .int .u64 el] 67)
    have HWI := Lib.hid (within_any tn 0 7)
    have hwt : (decide (0 ≤ tn) && decide (tn ≤ 7)) = false := by simp; omega
    have HWT := Lib.hid hwt
    have H1 := Lib.hid h1
    clear h hst h1 hwt ht hS ho
    go_enter Tryz.func72, Tryz.ntmps72
    go_wp2_with (go_at_call 68; (with_reducible refine (HWI.out _).mono ?_); rintro e wz ⟨rfl, hwz⟩; have hwz := hwz.symm; subst hwz; rw [HWT.out])
    go_ret
    exact ⟨rfl, HSAME.out _ _ H1.out⟩
end Go.Proofs.YtdncpihaeobaeaaGreat
