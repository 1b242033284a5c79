/- Walk of core.tick. -/
import Derived.Test.YtdncpihaeobaeaaGreatFeed
set_option linter.unusedVariables false
set_option linter.unusedSimpArgs false
namespace Go.Proofs.YtdncpihaeobaeaaGreat
open Go.RowKit
theorem Seen.lift {α : Type} {w0 : World} {R : HP} {K : List HP} {c : Nat} {enc : α → List Value} {a : Option Addr} {l : List α} (h : Seen w0 R c enc a l) (m : Nat) (hm : K[m]? = some R) : Seen w0 (sepL K) c enc a l := by
  intro w' L' n hs hn
  have h1 := hs.split n hn
  exact h w' _ (L'.length + m) h1 (set_app_get m hm)
theorem right_ticks {s : Su} (h : rightSu s = true) (k : Nat) (hk : k < s.sinks.length) : 1 ≤ (s.sinks.getD k Sk.zero).ticks := by
  unfold rightSu rightSks at h
  simp only [Bool.and_eq_true, decide_eq_true_eq, List.all_eq_true] at h
  have h1 := h.2.1 (s.sinks[k]) (List.getElem_mem hk)
  unfold rightSk at h1
  simp only [Bool.and_eq_true, decide_eq_true_eq] at h1
  rw [List.getD_eq_getElem?_getD, List.getElem?_eq_getElem hk]
  exact h1.1.2
theorem co_c {w : World} {cb sc bb : Nat} {sa : Option Addr} {co : Co} {pv : Value} {ps : List (Option Nat)} {T : TypeId} (h : w.heap[cb]? = some (.cells (coCells co sa sc pv bb ps).toArray T (0, 0))) (h8 : ps.length = 8) :
    w.cell? ⟨cb, 0, none⟩ = some (.int .i64 co.s.budget) ∧ w.cell? ⟨cb, 1, none⟩ = some (.int .i64 co.s.room) ∧ w.cell? ⟨cb, 2, none⟩ = some (.int .i64 co.s.quota) ∧ w.cell? ⟨cb, 3, none⟩ = some (.slice sa co.s.sinks.length sc) ∧ w.cell? ⟨cb, 12, none⟩ = some pv ∧ w.cell? ⟨cb, 13, none⟩ = some (.pointer (some ⟨bb, 0, none⟩)) ∧ w.cell? ⟨cb, 14, none⟩ = some (.int .i64 co.ticks) ∧ cb < w.heap.size := by
  obtain ⟨a0, a1, a2, a3, _, a5, a6, a7, a8⟩ := co_cells h h8
  exact ⟨a0, a1, a2, a3, a5, a6, a7, a8⟩
theorem tell_sink (p : Pot) (s : Sk) (id ep : Int) : (tellP p s id ep).sink = id := by unfold tellP; split <;> rfl
theorem tell_wf (p : Pot) (s : Sk) (id ep : Int) (h : (Lit.int .i64 p.value).wf = true) : (Lit.int .i64 (tellP p s id ep).value).wf = true := by
  unfold tellP
  split
  · show (Lit.int .i64 0).wf = true
    decide
  · exact h
theorem late_cells {co : Co} {sa : Option Addr} {sc bb : Nat} {pv : Value} {ps : List (Option Nat)} (h8 : ps.length = 8) : (coCells co sa sc pv bb ps).toArray.setIfInBounds 14 (.int .i64 ((co.ticks : Int) + 1)) = (coCells co.late sa sc pv bb ps).toArray := by
  match ps, h8 with
  | [p0, p1, p2, p3, p4, p5, p6, p7], _ => rfl
theorem sinksK_succ (co : Co) (k : Nat) : co.sinksK (k + 1) = (co.sinksK k).sinkStep k := by
  unfold Co.sinksK
  rw [List.range_succ, List.foldl_append]
  rfl
theorem sinksK_s (co : Co) (k : Nat) : (co.sinksK k).s = co.s ∧ (co.sinksK k).told.length = co.told.length ∧ (co.sinksK k).ticks = co.ticks ∧ (co.sinksK k).cells.length = co.cells.length ∧ (co.sinksK k).pots.length = co.pots.length := steps_s _ _
theorem okLate {co : Co} {N : Nat} (h : co.ok N) : co.late.ok (N + 1) := ⟨good_late co h.good, Nat.succ_le_succ h.ticks, h.pots, h.sinks⟩
theorem coP_mono {cb sc N M : Nat} {sa : Option Addr} {co : Co} (hM : N ≤ M) {h : Nat → Option Obj} (hh : coP cb sa sc co N h) : coP cb sa sc co M h := by
  obtain ⟨x, ⟨h1, h2⟩, own, ho⟩ := hh
  refine ⟨x, ⟨h1, h2.mono hM⟩, own, fun i P hi => ?_⟩
  match i, hi with
  | 0, hi => exact ho 0 P hi
  | 1, hi => exact ho 1 P hi
  | 2, hi =>
    cases hi
    exact boardP_mono hM (ho 2 _ rfl)
  | 3, hi =>
    cases hi
    exact cls_mono hM _ _ (ho 3 _ rfl)
  | i + 4, hi => simp at hi
theorem late_st {w0 w : World} {K : List HP} {cb sc N : Nat} {sa : Option Addr} {co : Co} {ps : List (Option Nat)} {pv : Value} {bb : Nat} (h8 : ps.length = 8) (hok : co.ok N) (h : St w0 w (pt cb (.cells (coCells co sa sc pv bb ps).toArray 119 (0, 0)) :: ownP 125 4 Pot.cells pv co.pots :: boardP bb co.told N :: sepL (clsL ps co.cells N) :: K)) : St w0 (w.setCell ⟨cb, 14, none⟩ (.int .i64 ((co.ticks : Int) + 1))) (coP cb sa sc co.late (N + 1) :: K) := by
  have h1 := h.set 0 rfl 14 (.int .i64 ((co.ticks : Int) + 1))
  rw [late_cells h8] at h1
  have h2 := h1.imp 2 rfl (X' := boardP bb co.told (N + 1)) (fun f hf => boardP_mono (Nat.le_succ N) hf)
  have h3 := h2.imp 3 rfl (X' := sepL (clsL ps co.cells (N + 1))) (fun f hf => cls_mono (Nat.le_succ N) _ _ hf)
  exact co_shut h8 (okLate hok) h3
set_option maxHeartbeats 8000000 in
set_option maxRecDepth 20000 in
theorem tick_in {w0 w : World} {R : HP} {cb sc N : Nat} {sa : Option Addr} {co : Co} (h : St w0 w [coP cb sa sc co N, R]) (hS : Seen w0 R 5 Sk.cells sa co.s.sinks) (hnil : sa = none → sc = 0) (hN : N < 2 ^ 26) :
    Calls Tryz.prog 73 #[.pointer (some ⟨cb, 0, none⟩)] w fun e w' => e = .returned (.tuple #[]) ∧ St w0 w' [coP cb sa sc co.tick (N + 9), R] := by
  have HSV := Lib.hid (serve_in h hS (by omega))
  have hss := (serve_s co 8).1
  have hco : co.tick = (co.serveK 8).late.sinksK (co.serveK 8).s.sinks.length := by rw [hss]; rfl
  rw [hco]
  rw [← hss] at hS
  clear h hss hco
  generalize co.serveK 8 = c0 at *
  have HSK := Lib.hid hS
  clear hS
  go_enter Tryz.func73, Tryz.ntmps73
  go_upto_region 1 with (go_at_call 96; (with_reducible refine HSV.out.mono ?_); rintro e w1 ⟨rfl, h1⟩; have HS1 := Lib.hid h1; clear h1 HSV)
  obtain ⟨ps, pv, bb, hp8, hok, h2⟩ := co_open HS1.out
  obtain ⟨_, _, _, _, _, _, z14, hcl⟩ := co_c (h2.blk 0 rfl).1 hp8
  have f14 := (blkCells (h2.blk 0 rfl).1).2 14
  have hw14 : wrap64 ((c0.ticks : Int) + 1) = (c0.ticks : Int) + 1 := by have := hok.ticks; unfold wrap64; omega
  have h3 := late_st hp8 hok h2
  have hlen4 : c0.s.sinks.length ≤ 4 := by
    have := hok.good.su
    unfold rightSu rightSks at this
    simp only [Bool.and_eq_true, decide_eq_true_eq] at this
    exact this.2.2
  obtain ⟨ps', pv', bb', hp8', hok', h3'⟩ := co_open h3
  have hz := (co_cells (h3'.blk 0 rfl).1 hp8').2.2.2.1
  have hz3 : (w1.setCell ⟨cb, 14, none⟩ (.int .i64 ((c0.ticks : Int) + 1))).cell? ⟨cb, 3, none⟩ = some (.slice sa c0.s.sinks.length sc) := hz
  have HS3 := Lib.hid h3
  clear h2 h3 h3' hz HS1
  go_wp2_with fail
  go_loopw [22] (fun iv wr => ∃ k : Nat, k ≤ c0.s.sinks.length ∧ iv = .int .i64 k ∧ St w0 wr [coP cb sa sc (c0.late.sinksK k) (N + 1 + 2 * k), R]) (fun iv _ => c0.s.sinks.length - (intOf iv).toNat)
  case atStart => exact ⟨0, by omega, rfl, HS3.out⟩
  case round =>
    clear HS3 z14 f14 hz3 hw14
    obtain ⟨k, hk, rfl, hst⟩ := hrel
    by_cases hlt : (k : Int) < c0.s.sinks.length
    · have hkn : k < c0.s.sinks.length := by omega
      obtain ⟨cK, hcK⟩ : ∃ x, c0.late.sinksK k = x := ⟨_, rfl⟩
      have hsK := sinksK_s c0.late k
      have hsn := sinksK_succ c0.late k
      rw [hcK] at hst hsK hsn
      obtain ⟨q1, _, q3, _, _⟩ := hsK
      have hs1 : cK.s = c0.s := q1
      have hs3 : cK.ticks = c0.ticks + 1 := q3
      clear q1 q3
      obtain ⟨ps, pv, bb, hp8, hokK, h2⟩ := co_open hst
      obtain ⟨sb, so, hsa, hsbl, y0, y1, y2, y3, y4⟩ := (HSK.out.now h2 4 rfl).skAt k hkn
      subst hsa
      obtain ⟨s, hs⟩ : ∃ s, c0.s.sinks.getD k Sk.zero = s := ⟨_, rfl⟩
      rw [hs] at y0 y1 y2 y3 y4
      have hpl : cK.pots.length = c0.s.sinks.length := by rw [hokK.good.pots, hs1]
      have hkp : k < cK.pots.length := by omega
      have hst1 : 1 ≤ s.ticks := by
        rw [← hs, ← hs1]
        exact right_ticks hokK.good.su k (by rw [hs1]; exact hkn)
      rcases ownP_addr h2 1 rfl with ⟨_, hz⟩ | ⟨pb, pc, hpv, _, _⟩
      · exfalso
        rw [hz] at hkp
        exact absurd hkp (by simp)
      subst hpv
      obtain ⟨M, hM⟩ : ∃ M, cK.pots.length = M := ⟨_, rfl⟩
      rw [hM] at h2
      have h3 := h2.alloc (.cells #[.int .u64 s.fr, .int .u64 s.dst, .int .i64 s.least, .int .i64 s.agg, .int .i64 s.ticks] 113)
      have hsks : cK.s.sinks.getD k Sk.zero = s := by rw [hs1]; exact hs
      have hT0 : 1 ≤ (cK.ticks : Int) := by omega
      have hT1 : (cK.ticks : Int) ≤ 4611686018427387904 := by have := hokK.ticks; omega
      have HQ1 := Lib.hid hs1
      have HSN := Lib.hid hsn
      have HSS := Lib.hid hsks
      have HOKK := Lib.hid hokK
      have HM := Lib.hid hM
      have HCK := Lib.hid hcK
      clear hst h2 hcK hsn hs hsks hokK hs1 hs3 hM hok hpl
      go_wp2_with fail
      generalize wr.heap.size = g at *
      refine wp_at h3 ?_
      intro w1 h1
      clear h3 y0 y1 y2 y3 y4 hsbl
      obtain ⟨_, _, _, _, _, _, z14, _⟩ := co_c (h1.blk 0 rfl).1 hp8
      obtain ⟨b0, b1, b2, b3, b4⟩ := cells5 (h1.blk 5 rfl).1 (Below.refl _ _)
      have H1 := Lib.hid h1
      have HE := Lib.hid (epoch_any s (cK.ticks : Int) w1.drew hT0 hT1 hst1)
      have z14 : w1.drew.cell? ⟨cb, 14, none⟩ = some (.int .i64 cK.ticks) := z14
      have b0 : w1.drew.cell? ⟨g, 0, none⟩ = some (.int .u64 s.fr) := b0
      have b1 : w1.drew.cell? ⟨g, 1, none⟩ = some (.int .u64 s.dst) := b1
      have b2 : w1.drew.cell? ⟨g, 2, none⟩ = some (.int .i64 s.least) := b2
      have b3 : w1.drew.cell? ⟨g, 3, none⟩ = some (.int .i64 s.agg) := b3
      have b4 : w1.drew.cell? ⟨g, 4, none⟩ = some (.int .i64 s.ticks) := b4
      clear h1
      cases heb : epochB s (cK.ticks : Int) with
      | false =>
        have HEB := Lib.hid heb
        have hstep : cK.sinkStep k = cK := by
          unfold Co.sinkStep
          dsimp only
          rw [HSS.out, heb]
          rfl
        have HST := Lib.hid hstep
        clear heb hstep
        go_region_held3 (fun w' => w'.cell? ⟨cb, 14, none⟩ = some (.int .i64 cK.ticks) ∧ w'.cell? ⟨g, 0, none⟩ = some (.int .u64 s.fr) ∧ w'.cell? ⟨g, 1, none⟩ = some (.int .u64 s.dst) ∧ w'.cell? ⟨g, 2, none⟩ = some (.int .i64 s.least) ∧ w'.cell? ⟨g, 3, none⟩ = some (.int .i64 s.agg) ∧ w'.cell? ⟨g, 4, none⟩ = some (.int .i64 s.ticks)) (first | (with_reducible exact ⟨z14, b0, b1, b2, b3, b4⟩) | (with_reducible exact ⟨e14, d0, d1, d2, d3, d4⟩))
          (first | (go_at_call 97; (with_reducible refine HE.out.mono ?_); rintro e w2 ⟨rfl, hb2⟩; rw [HEB.out]; have h2 := H1.out.drew.kept hb2; obtain ⟨_, _, _, _, _, _, e14, _⟩ := co_c (h2.blk 0 rfl).1 hp8; obtain ⟨d0, d1, d2, d3, d4⟩ := cells5 (h2.blk 5 rfl).1 (Below.refl _ _); have HS2 := Lib.hid h2; clear h2 hb2 HE))
        go_wp2
        go_roundw
        case rel =>
          refine ⟨k + 1, by omega, by go_num, ?_⟩
          rw [HSN.out, HST.out]
          have h9 := HS2.out.pick [0, 1, 2, 3, 4] (by decide)
          rw [← HM.out] at h9
          exact (co_shut hp8 HOKK.out h9).imp 0 rfl (fun f hf => coP_mono (by omega) hf)
        case measure => simp [intOf]; omega
      | true =>
        have HEB := Lib.hid heb
        clear heb
        go_region_held3 (fun w' => w'.cell? ⟨cb, 14, none⟩ = some (.int .i64 cK.ticks) ∧ w'.cell? ⟨g, 0, none⟩ = some (.int .u64 s.fr) ∧ w'.cell? ⟨g, 1, none⟩ = some (.int .u64 s.dst) ∧ w'.cell? ⟨g, 2, none⟩ = some (.int .i64 s.least) ∧ w'.cell? ⟨g, 3, none⟩ = some (.int .i64 s.agg) ∧ w'.cell? ⟨g, 4, none⟩ = some (.int .i64 s.ticks)) (first | (with_reducible exact ⟨z14, b0, b1, b2, b3, b4⟩) | (with_reducible exact ⟨e14, d0, d1, d2, d3, d4⟩))
          (first | (go_at_call 97; (with_reducible refine HE.out.mono ?_); rintro e w2 ⟨rfl, hb2⟩; rw [HEB.out]; have h2 := H1.out.drew.kept hb2; obtain ⟨_, _, _, _, _, _, e14, _⟩ := co_c (h2.blk 0 rfl).1 hp8; obtain ⟨d0, d1, d2, d3, d4⟩ := cells5 (h2.blk 5 rfl).1 (Below.refl _ _); have HS2 := Lib.hid h2; clear h2 hb2 HE))
        go_wp2_with fail
        clear z14 b0 b1 b2 b3 b4 e14 d0 d1 d2 d3 d4
        refine wp_at HS2.out ?_
        intro w3 h3
        obtain ⟨p, hp⟩ : ∃ p, cK.pots[k]'hkp = p := ⟨_, rfl⟩
        have hpot : ∀ w' L', St w0 w' L' → L'[1]? = some (ownP 125 4 Pot.cells (.slice (some ⟨pb, 0, none⟩) M pc) cK.pots) → w'.cell? ⟨pb, k * 4, none⟩ = some (.int .i64 p.count) ∧ w'.cell? ⟨pb, k * 4 + 1, none⟩ = some (.int .i64 p.kind) ∧ w'.cell? ⟨pb, k * 4 + 2, none⟩ = some (.int .i64 p.value) ∧ w'.cell? ⟨pb, k * 4 + 3, none⟩ = some (.int .u64 p.who) := fun w' L' hs hl => by
          have e0 := ownCells Pot.len hs 1 hl k hkp 0 (by decide)
          have e1 := ownCells Pot.len hs 1 hl k hkp 1 (by decide)
          have e2 := ownCells Pot.len hs 1 hl k hkp 2 (by decide)
          have e3 := ownCells Pot.len hs 1 hl k hkp 3 (by decide)
          rw [hp] at e0 e1 e2 e3
          exact ⟨e0, e1, e2, e3⟩
        have HPOT := Lib.hid hpot
        have HP := Lib.hid hp
        obtain ⟨_, _, _, _, z12, _, _, hcb3⟩ := co_c (h3.blk 0 rfl).1 hp8
        obtain ⟨b0, b1, b2, b3, b4⟩ := cells5 (h3.blk 5 rfl).1 (Below.refl _ _)
        obtain ⟨p0, p1, p2, p3⟩ := hpot _ _ h3 rfl
        obtain ⟨ep, hep⟩ : ∃ x, (cK.ticks : Int) / s.ticks - 1 = x := ⟨_, rfl⟩
        have HEP := Lib.hid hep
        obtain ⟨⟨rs, re, rv, rh⟩, hr⟩ : ∃ r, tellP p s (k : Int) ep = r := ⟨_, rfl⟩
        obtain rfl : rs = (k : Int) := by
          have := tell_sink p s (k : Int) ep
          rw [hr] at this
          exact this
        have hrv : (Lit.int .i64 rv).wf = true := by
          have := tell_wf p s (k : Int) ep (by rw [← hp]; exact HOKK.out.pots _ (List.getElem_mem hkp))
          rw [hr] at this
          exact this
        have HRV := Lib.hid hrv
        clear hrv
        have htl : ∀ w', Calls Tryz.prog 98 #[.agg #[.int .i64 p.count, .int .i64 p.kind, .int .i64 p.value, .int .u64 p.who], .agg #[.int .u64 s.fr, .int .u64 s.dst, .int .i64 s.least, .int .i64 s.agg, .int .i64 s.ticks], .int .i64 k, .int .i64 ep] w' fun x w'' => x = .returned (.agg #[.int .i64 k, .int .i64 re, .int .i64 rv, .bool rh]) ∧ Below w'.heap.size w' w'' := fun w' => by
          have h' := tell_any p s (k : Int) ep w'
          rw [hr] at h'
          exact h'
        have HTL := Lib.hid htl
        have HR := Lib.hid hr
        have HS3 := Lib.hid h3
        have hkM : (k : Int) < M := by have := HM.out; omega
        have hk7 : ∀ w', Below w3.heap.size w3 w' → (w'.cell? ⟨cb, 12, none⟩ = some (.slice (some ⟨pb, 0, none⟩) M pc) ∧ w'.cell? ⟨pb, k * 4, none⟩ = some (.int .i64 p.count) ∧ w'.cell? ⟨pb, k * 4 + 1, none⟩ = some (.int .i64 p.kind) ∧ w'.cell? ⟨pb, k * 4 + 2, none⟩ = some (.int .i64 p.value) ∧ w'.cell? ⟨pb, k * 4 + 3, none⟩ = some (.int .u64 p.who) ∧ w'.cell? ⟨g, 0, none⟩ = some (.int .u64 s.fr) ∧ w'.cell? ⟨g, 1, none⟩ = some (.int .u64 s.dst) ∧ w'.cell? ⟨g, 2, none⟩ = some (.int .i64 s.least) ∧ w'.cell? ⟨g, 3, none⟩ = some (.int .i64 s.agg) ∧ w'.cell? ⟨g, 4, none⟩ = some (.int .i64 s.ticks)) := fun w' hb => ⟨(hb.cell hcb3).trans z12, (hb.cell (lt_of_cell p0)).trans p0, (hb.cell (lt_of_cell p1)).trans p1, (hb.cell (lt_of_cell p2)).trans p2, (hb.cell (lt_of_cell p3)).trans p3, (hb.cell (lt_of_cell b0)).trans b0, (hb.cell (lt_of_cell b1)).trans b1, (hb.cell (lt_of_cell b2)).trans b2, (hb.cell (lt_of_cell b3)).trans b3, (hb.cell (lt_of_cell b4)).trans b4⟩
        have HK7 := Lib.hid hk7
        rw [hep]
        clear hpot hp hep hr htl h3 HS2 H1 hk7 z12 b0 b1 b2 b3 b4 p0 p1 p2 p3 hcb3
        go_cut [6] from 38 to 48 (fun u6 wx => ∃ g2, u6 = .pointer (some ⟨g2, 0, none⟩) ∧ St w0 wx [pt cb (.cells (coCells cK (some ⟨sb, so, none⟩) sc (.slice (some ⟨pb, 0, none⟩) M pc) bb ps).toArray 119 (0, 0)), ownP 125 4 Pot.cells (.slice (some ⟨pb, 0, none⟩) M pc) cK.pots, boardP bb cK.told (N + 1 + 2 * k), sepL (clsL ps cK.cells (N + 1 + 2 * k)), R, pt g (.cells #[.int .u64 s.fr, .int .u64 s.dst, .int .i64 s.least, .int .i64 s.agg, .int .i64 s.ticks] 113 (0, 0)), pt g2 (.cells #[.int .i64 k, .int .i64 re, .int .i64 rv, .bool rh] 42 (0, 0))])
        case first =>
          go_region_held3 (fun w' => w'.cell? ⟨cb, 12, none⟩ = some (.slice (some ⟨pb, 0, none⟩) M pc) ∧ w'.cell? ⟨pb, k * 4, none⟩ = some (.int .i64 p.count) ∧ w'.cell? ⟨pb, k * 4 + 1, none⟩ = some (.int .i64 p.kind) ∧ w'.cell? ⟨pb, k * 4 + 2, none⟩ = some (.int .i64 p.value) ∧ w'.cell? ⟨pb, k * 4 + 3, none⟩ = some (.int .u64 p.who) ∧ w'.cell? ⟨g, 0, none⟩ = some (.int .u64 s.fr) ∧ w'.cell? ⟨g, 1, none⟩ = some (.int .u64 s.dst) ∧ w'.cell? ⟨g, 2, none⟩ = some (.int .i64 s.least) ∧ w'.cell? ⟨g, 3, none⟩ = some (.int .i64 s.agg) ∧ w'.cell? ⟨g, 4, none⟩ = some (.int .i64 s.ticks)) (exact HK7.out _ (by go_grown))
            (first
              | (go_at_call 98; (with_reducible refine (HTL.out _).mono ?_); rintro e w4 ⟨rfl, hb4⟩; first | (have h4 := HS3.out.drew.kept hb4; have hsz4 : w3.heap.size ≤ w4.heap.size := hb4.size; have hb34 := Below.trans (B := w3.heap.size) (a := w3) (by go_grown) (hb4.mono (Nat.le_refl _)); have HS4 := Lib.hid h4; clear h4) | (have h4 := (HS3.out.alloc (.cells #[.int .i64 0, .int .i64 0, .int .i64 0, .bool false] 42)).drew.kept hb4; have hsz4 : w3.heap.size ≤ w4.heap.size := Nat.le_trans (Nat.le_succ _) (by simpa using hb4.size); have hb34 := Below.trans (B := w3.heap.size) (a := w3) (by go_grown) (hb4.mono (by simp)); obtain ⟨i0, i1, i2, i3⟩ := cells4 (h4.blk 6 rfl).1 (Below.refl _ _); obtain ⟨_, z4⟩ := blkCells (h4.blk 6 rfl).1; have hg4 := (h4.blk 6 rfl).2.2; have HS4 := Lib.hid h4; clear h4)))
          all_goals
            go_wp2
            go_meet
            first | exact ⟨_, rfl, HS4.out.alloc _⟩ | exact ⟨_, rfl, (((HS4.out.set 6 rfl 0 _).set 6 rfl 1 _).set 6 rfl 2 _).set 6 rfl 3 _⟩
        case rest =>
          obtain ⟨g2, rfl, hc⟩ := hcut
          obtain ⟨_, _, _, _, z12, _, _, _⟩ := co_c (hc.drew.blk 0 rfl).1 hp8
          obtain ⟨b0, b1, b2, b3, b4⟩ := cells5 (hc.drew.blk 5 rfl).1 (Below.refl _ _)
          have HN := Lib.hid (sinkNew_any s wc.drew)
          have HC := Lib.hid hc
          clear hc HS3 HK7 HTL
          have hst8 : ∀ w' L', St w0 w' L' → L' = [pt cb (.cells (coCells cK (some ⟨sb, so, none⟩) sc (.slice (some ⟨pb, 0, none⟩) M pc) bb ps).toArray 119 (0, 0)), ownP 125 4 Pot.cells (.slice (some ⟨pb, 0, none⟩) M pc) (cK.pots), boardP bb cK.told (N + 1 + 2 * k), sepL (clsL ps cK.cells (N + 1 + 2 * k)), R, pt g (.cells #[.int .u64 s.fr, .int .u64 s.dst, .int .i64 s.least, .int .i64 s.agg, .int .i64 s.ticks] 113 (0, 0)), pt g2 (.cells #[.int .i64 k, .int .i64 re, .int .i64 rv, .bool rh] 42 (0, 0))] → w'.cell? ⟨cb, 12, none⟩ = some (.slice (some ⟨pb, 0, none⟩) M pc) ∧ w'.cell? ⟨pb, k * 4, none⟩ = some (.int .i64 p.count) ∧ w'.cell? ⟨pb, k * 4 + 1, none⟩ = some (.int .i64 p.kind) ∧ w'.cell? ⟨pb, k * 4 + 2, none⟩ = some (.int .i64 p.value) ∧ w'.cell? ⟨pb, k * 4 + 3, none⟩ = some (.int .u64 p.who) ∧ w'.frozen? ⟨pb, k * 4, none⟩ = false ∧ w'.frozen? ⟨pb, k * 4 + 1, none⟩ = false ∧ w'.frozen? ⟨pb, k * 4 + 2, none⟩ = false ∧ w'.frozen? ⟨pb, k * 4 + 3, none⟩ = false := fun w' L' hs hl => by
            subst hl
            obtain ⟨_, _, _, _, y12, _⟩ := co_c (hs.blk 0 rfl).1 hp8
            obtain ⟨e0, e1, e2, e3⟩ := HPOT.out _ _ hs rfl
            exact ⟨y12, e0, e1, e2, e3, hs.ownFree 1 rfl _, hs.ownFree 1 rfl _, hs.ownFree 1 rfl _, hs.ownFree 1 rfl _⟩
          have HST8 := Lib.hid hst8
          have hset : ∀ w', St w0 w' [pt cb (.cells (coCells cK (some ⟨sb, so, none⟩) sc (.slice (some ⟨pb, 0, none⟩) M pc) bb ps).toArray 119 (0, 0)), ownP 125 4 Pot.cells (.slice (some ⟨pb, 0, none⟩) M pc) (cK.pots), boardP bb cK.told (N + 1 + 2 * k), sepL (clsL ps cK.cells (N + 1 + 2 * k)), R, pt g (.cells #[.int .u64 s.fr, .int .u64 s.dst, .int .i64 s.least, .int .i64 s.agg, .int .i64 s.ticks] 113 (0, 0)), pt g2 (.cells #[.int .i64 k, .int .i64 re, .int .i64 rv, .bool rh] 42 (0, 0))] → St w0 ((((w'.setCell ⟨pb, k * 4, none⟩ (.int .i64 0)).setCell ⟨pb, k * 4 + 1, none⟩ (.int .i64 s.agg)).setCell ⟨pb, k * 4 + 2, none⟩ (.int .i64 0)).setCell ⟨pb, k * 4 + 3, none⟩ (.int .u64 0)) [pt cb (.cells (coCells cK (some ⟨sb, so, none⟩) sc (.slice (some ⟨pb, 0, none⟩) M pc) bb ps).toArray 119 (0, 0)), ownP 125 4 Pot.cells (.slice (some ⟨pb, 0, none⟩) M pc) (cK.pots.set k (newPot s)), boardP bb cK.told (N + 1 + 2 * k), sepL (clsL ps cK.cells (N + 1 + 2 * k)), R, pt g (.cells #[.int .u64 s.fr, .int .u64 s.dst, .int .i64 s.least, .int .i64 s.agg, .int .i64 s.ticks] 113 (0, 0)), pt g2 (.cells #[.int .i64 k, .int .i64 re, .int .i64 rv, .bool rh] 42 (0, 0))] := fun w' hs => by
            have a0 := hs.ownSet Pot.len 1 rfl k 0 hkp (by decide) ⟨0, p.kind, p.value, p.who⟩ (.int .i64 0) (by rw [HP.out]; rfl)
            have a1 := a0.ownSet Pot.len 1 rfl k 1 (by simpa using hkp) (by decide) ⟨0, s.agg, p.value, p.who⟩ (.int .i64 s.agg) (by rw [set_getE hkp]; rfl)
            have a2 := a1.ownSet Pot.len 1 rfl k 2 (by simpa using hkp) (by decide) ⟨0, s.agg, 0, p.who⟩ (.int .i64 0) (by rw [List.getElem_set_self]; rfl)
            have a3 := a2.ownSet Pot.len 1 rfl k 3 (by simpa using hkp) (by decide) ⟨0, s.agg, 0, 0⟩ (.int .u64 0) (by rw [List.getElem_set_self]; rfl)
            simp only [List.set_set] at a3
            exact a3
          have HSET := Lib.hid hset
          clear hst8 hset
          go_wp2_with fail
          go_cut [49] from 49 to 56 (fun _ wx => St w0 wx [pt cb (.cells (coCells cK (some ⟨sb, so, none⟩) sc (.slice (some ⟨pb, 0, none⟩) M pc) bb ps).toArray 119 (0, 0)), ownP 125 4 Pot.cells (.slice (some ⟨pb, 0, none⟩) M pc) (cK.pots.set k (newPot s)), boardP bb cK.told (N + 1 + 2 * k), sepL (clsL ps cK.cells (N + 1 + 2 * k)), R, pt g (.cells #[.int .u64 s.fr, .int .u64 s.dst, .int .i64 s.least, .int .i64 s.agg, .int .i64 s.ticks] 113 (0, 0)), pt g2 (.cells #[.int .i64 k, .int .i64 re, .int .i64 rv, .bool rh] 42 (0, 0))])
          case first =>
            go_region_with
              (first
                | (go_at_call 50; (with_reducible refine HN.out.mono ?_); rintro e w5 ⟨rfl, hb5⟩; have h5 := HC.out.drew.kept hb5; obtain ⟨x12, x0, x1, x2, x3, f0, f1, f2, f3⟩ := HST8.out _ _ h5 rfl; have HS5 := Lib.hid h5; clear h5 hb5))
            all_goals
              go_wp2
              go_meet
              exact HSET.out _ HS5.out
          case rest =>
            have h6 := hcut
            clear hcut HC HN HPOT HST8 HSET z12 b0 b1 b2 b3 b4
            go_wp2_with fail
            refine wp_at h6 ?_
            clear h6
            intro w6 h6
            obtain ⟨_, _, _, _, _, z13, _, hcb6⟩ := co_c (h6.blk 0 rfl).1 hp8
            obtain ⟨_, b1, _, _, _⟩ := cells5 (h6.blk 5 rfl).1 (Below.refl _ _)
            obtain ⟨r0, r1, r2, r3⟩ := cells4 (h6.blk 6 rfl).1 (Below.refl _ _)
            have hk9 : ∀ w', Below w6.heap.size w6 w' → (w'.cell? ⟨cb, 13, none⟩ = some (.pointer (some ⟨bb, 0, none⟩)) ∧ w'.cell? ⟨g, 1, none⟩ = some (.int .u64 s.dst) ∧ w'.cell? ⟨g2, 0, none⟩ = some (.int .i64 k) ∧ w'.cell? ⟨g2, 1, none⟩ = some (.int .i64 re) ∧ w'.cell? ⟨g2, 2, none⟩ = some (.int .i64 rv) ∧ w'.cell? ⟨g2, 3, none⟩ = some (.bool rh)) := fun w' hb => ⟨(hb.cell hcb6).trans z13, (hb.cell (lt_of_cell b1)).trans b1, (hb.cell (lt_of_cell r0)).trans r0, (hb.cell (lt_of_cell r1)).trans r1, (hb.cell (lt_of_cell r2)).trans r2, (hb.cell (lt_of_cell r3)).trans r3⟩
            have HK9 := Lib.hid hk9
            have h7 : St w0 _ [pt cb (.cells (coCells cK (some ⟨sb, so, none⟩) sc (.slice (some ⟨pb, 0, none⟩) M pc) bb ps).toArray 119 (0, 0)), ownP 125 4 Pot.cells (.slice (some ⟨pb, 0, none⟩) M pc) (cK.pots.set k (newPot s)), boardP bb cK.told (N + 1 + 2 * k), sepL (clsL ps cK.cells (N + 1 + 2 * k)), R, pt g (.cells #[.int .u64 s.fr, .int .u64 s.dst, .int .i64 s.least, .int .i64 s.agg, .int .i64 s.ticks] 113 (0, 0)), pt g2 (.cells #[.int .i64 k, .int .i64 re, .int .i64 rv, .bool rh] 42 (0, 0)), pt w6.heap.size (.cells #[.int .i64 k, .int .i64 re, .int .i64 rv, .bool rh] 42 (0, 0))] := (h6.alloc (.cells #[.int .i64 k, .int .i64 re, .int .i64 rv, .bool rh] 42)).drew
            have hpn := pin_in (h7.front 2 rfl) s.dst (⟨(k : Int), re, rv, rh⟩ : Rel) w6.heap.size 0 1 (Seen.pt (l := [(⟨(k : Int), re, rv, rh⟩ : Rel)]) Rel.len 7 rfl) (by omega)
            have HPN := Lib.hid hpn
            clear h6 h7 hk9 hpn z13 b1 r0 r1 r2 r3
            go_region_held3 (fun w' => w'.cell? ⟨cb, 13, none⟩ = some (.pointer (some ⟨bb, 0, none⟩)) ∧ w'.cell? ⟨g, 1, none⟩ = some (.int .u64 s.dst) ∧ w'.cell? ⟨g2, 0, none⟩ = some (.int .i64 k) ∧ w'.cell? ⟨g2, 1, none⟩ = some (.int .i64 re) ∧ w'.cell? ⟨g2, 2, none⟩ = some (.int .i64 rv) ∧ w'.cell? ⟨g2, 3, none⟩ = some (.bool rh)) (first | (with_reducible exact ⟨y13, y1, q0, q1, q2, q3⟩) | exact HK9.out _ (by go_grown))
              (first
                | (go_at_call 99; (with_reducible refine HPN.out.mono ?_); rintro e w7 ⟨rfl, h8⟩; have h9 : St w0 w7 [pt cb (.cells (coCells cK (some ⟨sb, so, none⟩) sc (.slice (some ⟨pb, 0, none⟩) M pc) bb ps).toArray 119 (0, 0)), ownP 125 4 Pot.cells (.slice (some ⟨pb, 0, none⟩) M pc) (cK.pots.set k (newPot s)), boardP bb (pinT s.dst (⟨(k : Int), re, rv, rh⟩ : Rel) cK.told) (N + 1 + 2 * k + 1), sepL (clsL ps cK.cells (N + 1 + 2 * k)), R, pt g (.cells #[.int .u64 s.fr, .int .u64 s.dst, .int .i64 s.least, .int .i64 s.agg, .int .i64 s.ticks] 113 (0, 0)), pt g2 (.cells #[.int .i64 k, .int .i64 re, .int .i64 rv, .bool rh] 42 (0, 0)), pt w6.heap.size (.cells #[.int .i64 k, .int .i64 re, .int .i64 rv, .bool rh] 42 (0, 0))] := h8.back (L := [pt cb (.cells (coCells cK (some ⟨sb, so, none⟩) sc (.slice (some ⟨pb, 0, none⟩) M pc) bb ps).toArray 119 (0, 0)), ownP 125 4 Pot.cells (.slice (some ⟨pb, 0, none⟩) M pc) (cK.pots.set k (newPot s)), boardP bb cK.told (N + 1 + 2 * k), sepL (clsL ps cK.cells (N + 1 + 2 * k)), R, pt g (.cells #[.int .u64 s.fr, .int .u64 s.dst, .int .i64 s.least, .int .i64 s.agg, .int .i64 s.ticks] 113 (0, 0)), pt g2 (.cells #[.int .i64 k, .int .i64 re, .int .i64 rv, .bool rh] 42 (0, 0)), pt w6.heap.size (.cells #[.int .i64 k, .int .i64 re, .int .i64 rv, .bool rh] 42 (0, 0))]) (n := 2) (by simp); obtain ⟨_, _, _, _, _, y13, _, _⟩ := co_c (h9.blk 0 rfl).1 hp8; obtain ⟨_, y1, _, _, _⟩ := cells5 (h9.blk 5 rfl).1 (Below.refl _ _); obtain ⟨q0, q1, q2, q3⟩ := cells4 (h9.blk 6 rfl).1 (Below.refl _ _); have hg7 := (h9.blk 6 rfl).2.2; have HS9 := Lib.hid h9; clear h8 h9 HPN))
            have hok1 : Co.ok (⟨cK.s, cK.cells, cK.pots.set k (newPot s), pinT s.dst (⟨(k : Int), re, rv, rh⟩ : Rel) cK.told, cK.ticks⟩ : Co) (N + 1 + 2 * k + 1) := ⟨good_pin cK HOKK.out.good k (newPot s) s.dst (⟨(k : Int), re, rv, rh⟩ : Rel), Nat.le_succ_of_le HOKK.out.ticks, (fun p hp => by
              rcases List.mem_or_eq_of_mem_set hp with hp | rfl
              · exact HOKK.out.pots p hp
              · show (Lit.int .i64 0).wf = true
                decide), HOKK.out.sinks⟩
            have h10 := (HS9.out.imp 3 rfl (X' := sepL (clsL ps cK.cells (N + 1 + 2 * k + 1))) (fun f hf => cls_mono (by omega) _ _ hf))
            have h11 : St w0 w7 [coP cb (some ⟨sb, so, none⟩) sc (⟨cK.s, cK.cells, cK.pots.set k (newPot s), pinT s.dst (⟨(k : Int), re, rv, rh⟩ : Rel) cK.told, cK.ticks⟩ : Co) (N + 1 + 2 * k + 1), R, pt g (.cells #[.int .u64 s.fr, .int .u64 s.dst, .int .i64 s.least, .int .i64 s.agg, .int .i64 s.ticks] 113 (0, 0)), pt g2 (.cells #[.int .i64 k, .int .i64 re, .int .i64 rv, .bool rh] 42 (0, 0)), pt w6.heap.size (.cells #[.int .i64 k, .int .i64 re, .int .i64 rv, .bool rh] 42 (0, 0))] := co_shut (co := (⟨cK.s, cK.cells, cK.pots.set k (newPot s), pinT s.dst (⟨(k : Int), re, rv, rh⟩ : Rel) cK.told, cK.ticks⟩ : Co)) hp8 hok1 h10
            have H11 := Lib.hid h11
            clear h10 h11 hok1
            have hgd : cK.pots.getD k Pot.zero = p := by
              rw [List.getD_eq_getElem?_getD, List.getElem?_eq_getElem hkp]
              exact HP.out
            have HGD := Lib.hid hgd
            have hskf : Seen w0 (sepL ([coP cb (some ⟨sb, so, none⟩) sc (⟨cK.s, cK.cells, cK.pots.set k (newPot s), pinT s.dst (⟨(k : Int), re, rv, rh⟩ : Rel) cK.told, cK.ticks⟩ : Co) (N + 1 + 2 * k + 1), R, pt g (.cells #[.int .u64 s.fr, .int .u64 s.dst, .int .i64 s.least, .int .i64 s.agg, .int .i64 s.ticks] 113 (0, 0)), pt g2 (.cells #[.int .i64 k, .int .i64 re, .int .i64 rv, .bool rh] 42 (0, 0)), pt w6.heap.size (.cells #[.int .i64 k, .int .i64 re, .int .i64 rv, .bool rh] 42 (0, 0))].set 0 emp)) 5 Sk.cells (some ⟨sb, so, none⟩) cK.s.sinks := by
              rw [HQ1.out]
              exact HSK.out.lift 1 rfl
            have HFD := Lib.hid (feed_in (co := (⟨cK.s, cK.cells, cK.pots.set k (newPot s), pinT s.dst (⟨(k : Int), re, rv, rh⟩ : Rel) cK.told, cK.ticks⟩ : Co)) (H11.out.front 0 rfl) hskf (by omega) k re rv rh (by rw [HQ1.out]; exact hkn) HRV.out)
            clear hgd hskf
            cases rh with
            | true =>
              go_wp2
              go_roundw
              case rel =>
                refine ⟨k + 1, by omega, by go_num, ?_⟩
                have hstep : cK.sinkStep k = (⟨cK.s, cK.cells, cK.pots.set k (newPot s), pinT s.dst (⟨(k : Int), re, rv, true⟩ : Rel) cK.told, cK.ticks⟩ : Co) := by
                  unfold Co.sinkStep
                  dsimp only
                  rw [HSS.out, HEB.out, HGD.out, HEP.out, HR.out]
                  rfl
                rw [HSN.out, hstep]
                exact (H11.out.pick [0, 1] (by decide)).imp 0 rfl (fun f hf => coP_mono (by omega) hf)
              case measure => simp [intOf]; omega
            | false =>
              go_wp2_with (go_at_call 100; (with_reducible refine HFD.out.mono ?_); rintro e w8 ⟨rfl, h12⟩; have h13 := h12.back (L := [coP cb (some ⟨sb, so, none⟩) sc (⟨cK.s, cK.cells, cK.pots.set k (newPot s), pinT s.dst (⟨(k : Int), re, rv, false⟩ : Rel) cK.told, cK.ticks⟩ : Co) (N + 1 + 2 * k + 1), R, pt g (.cells #[.int .u64 s.fr, .int .u64 s.dst, .int .i64 s.least, .int .i64 s.agg, .int .i64 s.ticks] 113 (0, 0)), pt g2 (.cells #[.int .i64 k, .int .i64 re, .int .i64 rv, .bool false] 42 (0, 0)), pt w6.heap.size (.cells #[.int .i64 k, .int .i64 re, .int .i64 rv, .bool false] 42 (0, 0))]) (n := 0) (by simp); have H13 := Lib.hid h13; clear h12 h13 HFD)
              go_roundw
              case rel =>
                refine ⟨k + 1, by omega, by go_num, ?_⟩
                have hstep : cK.sinkStep k = (⟨cK.s, cK.cells, cK.pots.set k (newPot s), pinT s.dst (⟨(k : Int), re, rv, false⟩ : Rel) cK.told, cK.ticks⟩ : Co).feed (⟨(k : Int), re, rv, false⟩ : Rel) := by
                  unfold Co.sinkStep
                  dsimp only
                  rw [HSS.out, HEB.out, HGD.out, HEP.out, HR.out]
                  rfl
                rw [HSN.out, hstep]
                exact (H13.out.pick [0, 1] (by decide)).imp 0 rfl (fun f hf => coP_mono (by omega) hf)
              case measure => simp [intOf]; omega
    · obtain rfl : k = c0.s.sinks.length := by omega
      have h9 := hst.imp 0 rfl (X' := coP cb sa sc (c0.late.sinksK c0.s.sinks.length) (N + 9)) (fun f hf => coP_mono (by omega) hf)
      have HST := Lib.hid h9
      clear hst h9
      go_wp2
      go_end0
      exact ⟨rfl, HST.out⟩
end Go.Proofs.YtdncpihaeobaeaaGreat
