/- Walks of cordonkeep.Sinks. -/
import Derived.Test.YtdncpihaeobaeaaGreatCoreNew
set_option linter.unusedVariables false
set_option linter.unusedSimpArgs false
namespace Go.Proofs.YtdncpihaeobaeaaGreat
open Go.RowKit
theorem SlAt.sqAt {w : World} {sa : Option Addr} {l : List SinkQ} (h : SlAt 5 (flat SinkQ.cells) w sa l) (i : Nat) (hi : i < l.length) (q : SinkQ) (hq : l[i] = q) : ∃ b o, sa = some ⟨b, o, none⟩ ∧ b < w.heap.size ∧ w.cell? ⟨b, o + i * 5, none⟩ = some (.int .i64 q.fr) ∧ w.cell? ⟨b, o + i * 5 + 1, none⟩ = some (.int .i64 q.dst) ∧ w.cell? ⟨b, o + i * 5 + 2, none⟩ = some (.int .i64 q.least) ∧ w.cell? ⟨b, o + i * 5 + 3, none⟩ = some (.int .i64 q.agg) ∧ w.cell? ⟨b, o + i * 5 + 4, none⟩ = some (.int .i64 q.ticks) := by
  rcases h with rfl | ⟨b, o, rfl, hlt, h⟩
  · simp at hi
  · obtain ⟨cs, h1, h2, rfl⟩ := h i hi
    rw [hq] at h2
    exact ⟨b, o, rfl, hlt, h2 0 (by show 0 < 5; omega), h2 1 (by show 1 < 5; omega), h2 2 (by show 2 < 5; omega), h2 3 (by show 3 < 5; omega), h2 4 (by show 4 < 5; omega)⟩
theorem u64_small (n : Int) (h0 : 0 ≤ n) (h1 : n ≤ 255) : IntKind.u64.wrap n = n := by
  unfold IntKind.wrap
  simp only [IntKind.signed, IntKind.bits]
  simp
  omega
set_option maxHeartbeats 8000000 in
set_option maxRecDepth 20000 in
theorem sinks_st {w0 w : World} {L : List HP} (h : St w0 w L) (a : Option Addr) (cap : Nat) (l : List SinkQ) (hl : Seen w0 (sepL L) 5 SinkQ.cells a l) (hw : ∀ q ∈ l, q.wf) (hmx : l.length ≤ maxLen) :
    Calls Tryz.prog 44 #[.slice a l.length cap] w fun e w' => ∃ v, e = .returned v ∧ St w0 w' (L ++ [ownP 113 5 Sk.cells v ((l.take 2).map sinkOf)]) := by
  unfold maxLen at hmx
  have hst := h.wrap.nil 113 5 Sk.cells
  have HS := Lib.hid hst
  have HL := Lib.hid hl
  have HW := Lib.hid hw
  clear h hl hw hst
  go_enter Tryz.func44, Tryz.ntmps44
  go_wp2_with fail
  go_loopw [3, 4] (fun v iv wr => ∃ k : Nat, k ≤ l.length ∧ k ≤ 2 ∧ iv = .int .i64 k ∧ St w0 wr [sepL L, ownP 113 5 Sk.cells v ((l.take k).map sinkOf)]) (fun _ iv _ => 2 - (intOf iv).toNat)
  case atStart => exact ⟨0, by omega, by omega, rfl, HS.out⟩
  case round =>
    obtain ⟨k, hk, hk2, rfl, hst⟩ := hrel
    by_cases hlt : (k : Int) < l.length
    · by_cases h2 : (k : Int) < 2
      · have hkn : k < l.length := by omega
        obtain ⟨q, hq⟩ : ∃ q, l[k] = q := ⟨_, rfl⟩
        obtain ⟨b, o, rfl, hbl, c0, c1, c2, c3, c4⟩ := (HL.out wr _ 0 hst rfl).sqAt k hkn q hq
        have hqw : q.wf := by rw [← hq]; exact HW.out _ (List.getElem_mem hkn)
        have hmp : (l.take (k + 1)).map sinkOf = (l.take k).map sinkOf ++ [sinkOf q] := by rw [List.take_add_one, List.getElem?_eq_getElem hkn, List.map_append, hq]; rfl
        have hlen : ((l.take k).map sinkOf).length < 1099511627776 := by simp; omega
        obtain ⟨qf, qd, ql, qa, qt⟩ := q
        dsimp only at c0 c1 c2 c3 c4
        generalize (l.take k).map sinkOf = out at *
        have HMP := Lib.hid hmp
        have hr1 := i64_range hqw.1
        have hr2 := i64_range hqw.2.1
        have hr3 := i64_range hqw.2.2.1
        have hr4 := i64_range hqw.2.2.2.1
        have hr5 := i64_range hqw.2.2.2.2
        dsimp only at hr1 hr2 hr3 hr4 hr5
        have hu1 := u64_small (within qf 1 255) (by have := within_range qf 1 255 (by omega); omega) (by have := within_range qf 1 255 (by omega); omega)
        have hu2 := u64_small (within qd 0 255) (by have := within_range qd 0 255 (by omega); omega) (by have := within_range qd 0 255 (by omega); omega)
        have HLEN := Lib.hid hlen
        have h3 := hst.alloc (.cells #[.int .i64 qf, .int .i64 qd, .int .i64 ql, .int .i64 qa, .int .i64 qt] 144)
        clear hmp hqw hlen hst hq
        go_wp2_with fail
        refine wp_at h3 ?_
        intro w1 hst1
        generalize wr.heap.size = g at *
        clear h3 c0 c1 c2 c3 c4
        obtain ⟨e0, e1, e2, e3, e4⟩ := cells5 (hst1.drew.blk 2 rfl).1 (Below.refl _ _)
        have hst2 := hst1.drew.alloc (.cells #[.int .u64 (within qf 1 255), .int .u64 (within qd 0 255), .int .i64 (within ql 2 4), .int .i64 (within qa 1 4), .int .i64 (within qt 1 6)] 113)
        obtain ⟨d0, d1, d2, d3, d4⟩ := cells5 (hst2.blk 2 rfl).1 (Below.refl _ _)
        have HS2 := Lib.hid hst2
        have hb : ∀ w', Below w1.heap.size w1 w' → (w'.cell? ⟨g, 0, none⟩ = some (.int .i64 qf) ∧ w'.cell? ⟨g, 1, none⟩ = some (.int .i64 qd) ∧ w'.cell? ⟨g, 2, none⟩ = some (.int .i64 ql) ∧ w'.cell? ⟨g, 3, none⟩ = some (.int .i64 qa) ∧ w'.cell? ⟨g, 4, none⟩ = some (.int .i64 qt)) := fun w' hb => by
          have hg1 : g < w1.heap.size := (hst1.blk 2 rfl).2.2
          obtain ⟨r0, r1, r2, r3, r4⟩ := cells5 (hst1.blk 2 rfl).1 (Below.refl _ _)
          exact ⟨(hb.cell hg1).trans r0, (hb.cell hg1).trans r1, (hb.cell hg1).trans r2, (hb.cell hg1).trans r3, (hb.cell hg1).trans r4⟩
        have HB := Lib.hid hb
        clear hst1 hst2 hb
        go_region_held3 (fun w' => w'.cell? ⟨g, 0, none⟩ = some (.int .i64 qf) ∧ w'.cell? ⟨g, 1, none⟩ = some (.int .i64 qd) ∧ w'.cell? ⟨g, 2, none⟩ = some (.int .i64 ql) ∧ w'.cell? ⟨g, 3, none⟩ = some (.int .i64 qa) ∧ w'.cell? ⟨g, 4, none⟩ = some (.int .i64 qt))
          (first | (with_reducible exact ⟨e0, e1, e2, e3, e4⟩) | (with_reducible exact ⟨d0, d1, d2, d3, d4⟩) | (with_reducible exact ⟨f0, f1, f2, f3, f4⟩) | exact HB.out _ (by go_grown))
          (first
            | (go_at_call 11; refine (Within_at _ _ _ _ (by omega) (by omega) (by omega) (by omega) (by omega)).mono ?_; rintro e wz ⟨rfl, rfl⟩)
            | (refine step_append_st skElem rfl HS2.out 1 rfl _ _ rfl rfl (some ⟨w1.heap.size, 0, none⟩) 1 [(⟨within qf 1 255, within qd 0 255, within ql 2 4, within qa 1 4, within qt 1 6⟩ : Sk)] rfl (by simp) (SlAt.one Sk.len (HS2.out.blk 3 rfl).1) ?_ ?_; (have := HLEN.out; simp; omega); intro v2 w2 hst2 _; obtain ⟨f0, f1, f2, f3, f4⟩ := cells5 (hst2.blk 2 rfl).1 (Below.refl _ _); have HS3 := Lib.hid hst2; clear hst2))
        go_wp2
        go_roundw
        case rel => exact ⟨k + 1, by omega, by omega, by go_num, by rw [HMP.out]; exact HS3.out.pick [0, 1] (by decide)⟩
        case measure => simp [intOf]; omega
      · have HST := Lib.hid hst
        clear hst
        go_wp2
        go_ret
        refine ⟨_, rfl, ?_⟩
        obtain rfl : k = 2 := by omega
        have h5 := HST.out.unwrap
        rw [List.map_take] at h5
        exact h5
    · have HST := Lib.hid hst
      clear hst
      go_wp2
      go_ret
      refine ⟨_, rfl, ?_⟩
      obtain rfl : k = l.length := by omega
      have e : (l.map sinkOf).take 2 = (l.take l.length).map sinkOf := by rw [List.take_length, List.take_of_length_le (by simpa using hk2)]
      rw [e]
      exact HST.out.unwrap
set_option maxHeartbeats 8000000 in
set_option maxRecDepth 20000 in
theorem setup_st {w0 w : World} {L : List HP} (h : St w0 w L) (q : SetQ) (a : Option Addr) (cap : Nat) (hl : Seen w0 (sepL L) 5 SinkQ.cells a q.sinks) (hw : q.wf) (hmx : q.sinks.length ≤ maxLen) (T : List Sk) (hT : (q.sinks.take 2).map sinkOf = T) :
    Calls Tryz.prog 10 #[.agg #[.int .i64 q.budget, .int .i64 q.room, .int .i64 q.quota, .slice a q.sinks.length cap]] w fun e w' => ∃ na nc, e = .returned (.agg #[.int .i64 (within q.budget 1 4), .int .i64 (within q.room 1 8), .int .i64 (within q.quota 0 30), .slice na T.length nc]) ∧ St w0 w' (L ++ [ownP 113 5 Sk.cells (.slice na T.length nc) T]) := by
  obtain ⟨qb, qr, qq, sinks⟩ := q
  obtain ⟨hw1, hw2, hw3, hw4⟩ := hw
  dsimp only at hl hmx hT hw1 hw2 hw3 hw4 ⊢
  have hr1 := i64_range hw1
  have hr2 := i64_range hw2
  have hr3 := i64_range hw3
  have h1 := (h.wrap.alloc (.cells #[.int .i64 qb, .int .i64 qr, .int .i64 qq, .slice a sinks.length cap] 24)).alloc (.cells #[.int .i64 0, .int .i64 0, .int .i64 0, .slice none 0 0] 28)
  rw [World.size_alloc] at h1
  have h1 : St w0 ((w.alloc (.cells #[.int .i64 qb, .int .i64 qr, .int .i64 qq, .slice a sinks.length cap] 24)).alloc (.cells #[.int .i64 0, .int .i64 0, .int .i64 0, .slice none 0 0] 28)) [sepL L, pt w.heap.size (.cells #[.int .i64 qb, .int .i64 qr, .int .i64 qq, .slice a sinks.length cap] 24 (0, 0)), pt (w.heap.size + 1) (.cells #[.int .i64 0, .int .i64 0, .int .i64 0, .slice none 0 0] 28 (0, 0))] := h1
  have hsi := sinks_st h1.drew a cap sinks (hl.lift 0 rfl) hw4 hmx
  rw [hT] at hsi
  have bx : ∀ w' L', St w0 w' L' → L'[1]? = some (pt w.heap.size (.cells #[.int .i64 qb, .int .i64 qr, .int .i64 qq, .slice a sinks.length cap] 24 (0, 0))) → ((w').cell? ⟨w.heap.size, 0, none⟩ = some (.int .i64 qb) ∧ (w').cell? ⟨w.heap.size, 1, none⟩ = some (.int .i64 qr) ∧ (w').cell? ⟨w.heap.size, 2, none⟩ = some (.int .i64 qq) ∧ (w').cell? ⟨w.heap.size, 3, none⟩ = some (.slice a sinks.length cap)) := fun w' L' hs hl => by
    obtain ⟨q, _⟩ := blkCells (hs.blk 1 hl).1
    exact ⟨(q 0).trans rfl, (q 1).trans rfl, (q 2).trans rfl, (q 3).trans rfl⟩
  have hfin : ∀ w' na nc, St w0 w' ([sepL L, pt w.heap.size (.cells #[.int .i64 qb, .int .i64 qr, .int .i64 qq, .slice a sinks.length cap] 24 (0, 0)), pt (w.heap.size + 1) (.cells #[.int .i64 0, .int .i64 0, .int .i64 0, .slice none 0 0] 28 (0, 0))] ++ [ownP 113 5 Sk.cells (.slice na T.length nc) T]) → ((w').cell? ⟨w.heap.size, 0, none⟩ = some (.int .i64 qb) ∧ (w').cell? ⟨w.heap.size, 1, none⟩ = some (.int .i64 qr) ∧ (w').cell? ⟨w.heap.size, 2, none⟩ = some (.int .i64 qq) ∧ (w').cell? ⟨w.heap.size, 3, none⟩ = some (.slice a sinks.length cap)) ∧ (∀ i, w'.frozen? ⟨w.heap.size + 1, i, none⟩ = false) ∧ (w'.cell? ⟨w.heap.size + 1, 0, none⟩ = some (.int .i64 0) ∧ w'.cell? ⟨w.heap.size + 1, 1, none⟩ = some (.int .i64 0) ∧ w'.cell? ⟨w.heap.size + 1, 2, none⟩ = some (.int .i64 0) ∧ w'.cell? ⟨w.heap.size + 1, 3, none⟩ = some (.slice none 0 0)) ∧ w.heap.size + 1 < w'.heap.size ∧ ((((((w'.setCell ⟨w.heap.size + 1, 0, none⟩ (.int .i64 (within qb 1 4))).setCell ⟨w.heap.size + 1, 1, none⟩ (.int .i64 (within qr 1 8))).setCell ⟨w.heap.size + 1, 2, none⟩ (.int .i64 (within qq 0 30))).setCell ⟨w.heap.size + 1, 3, none⟩ (.slice na T.length nc))).cell? ⟨w.heap.size, 0, none⟩ = some (.int .i64 qb) ∧ (((((w'.setCell ⟨w.heap.size + 1, 0, none⟩ (.int .i64 (within qb 1 4))).setCell ⟨w.heap.size + 1, 1, none⟩ (.int .i64 (within qr 1 8))).setCell ⟨w.heap.size + 1, 2, none⟩ (.int .i64 (within qq 0 30))).setCell ⟨w.heap.size + 1, 3, none⟩ (.slice na T.length nc))).cell? ⟨w.heap.size, 1, none⟩ = some (.int .i64 qr) ∧ (((((w'.setCell ⟨w.heap.size + 1, 0, none⟩ (.int .i64 (within qb 1 4))).setCell ⟨w.heap.size + 1, 1, none⟩ (.int .i64 (within qr 1 8))).setCell ⟨w.heap.size + 1, 2, none⟩ (.int .i64 (within qq 0 30))).setCell ⟨w.heap.size + 1, 3, none⟩ (.slice na T.length nc))).cell? ⟨w.heap.size, 2, none⟩ = some (.int .i64 qq) ∧ (((((w'.setCell ⟨w.heap.size + 1, 0, none⟩ (.int .i64 (within qb 1 4))).setCell ⟨w.heap.size + 1, 1, none⟩ (.int .i64 (within qr 1 8))).setCell ⟨w.heap.size + 1, 2, none⟩ (.int .i64 (within qq 0 30))).setCell ⟨w.heap.size + 1, 3, none⟩ (.slice na T.length nc))).cell? ⟨w.heap.size, 3, none⟩ = some (.slice a sinks.length cap)) ∧ St w0 ((((w'.setCell ⟨w.heap.size + 1, 0, none⟩ (.int .i64 (within qb 1 4))).setCell ⟨w.heap.size + 1, 1, none⟩ (.int .i64 (within qr 1 8))).setCell ⟨w.heap.size + 1, 2, none⟩ (.int .i64 (within qq 0 30))).setCell ⟨w.heap.size + 1, 3, none⟩ (.slice na T.length nc)) (L ++ [ownP 113 5 Sk.cells (.slice na T.length nc) T]) := fun w' na nc h' => by
    have h2 := (((h'.set 2 rfl 0 (.int .i64 (within qb 1 4))).set 2 rfl 1 (.int .i64 (within qr 1 8))).set 2 rfl 2 (.int .i64 (within qq 0 30))).set 2 rfl 3 (.slice na T.length nc)
    obtain ⟨q, z⟩ := blkCells (h'.blk 2 rfl).1
    exact ⟨bx _ _ h' rfl, z, ⟨(q 0).trans rfl, (q 1).trans rfl, (q 2).trans rfl, (q 3).trans rfl⟩, (h'.blk 2 rfl).2.2, bx _ _ h2 rfl, (h2.pick [0, 3] (by decide)).ungroup⟩
  have S0 := bx _ _ h1 rfl
  have S1 := bx _ _ h1.drew rfl
  have HSI := Lib.hid hsi
  have HFIN := Lib.hid hfin
  clear h h1 hsi hl hw1 hw2 hw3 hw4 bx hfin
  go_enter Tryz.func10, Tryz.ntmps10
  go_wp2_with fail
  go_region_held3 (fun w' => ((w').cell? ⟨w.heap.size, 0, none⟩ = some (.int .i64 qb) ∧ (w').cell? ⟨w.heap.size, 1, none⟩ = some (.int .i64 qr) ∧ (w').cell? ⟨w.heap.size, 2, none⟩ = some (.int .i64 qq) ∧ (w').cell? ⟨w.heap.size, 3, none⟩ = some (.slice a sinks.length cap))) (first | (with_reducible exact S1) | (with_reducible exact S0) | (with_reducible exact S4) | (with_reducible exact S5))
    (first
      | (go_at_call 11; refine (Within_at _ _ _ _ (by omega) (by omega) (by omega) (by omega) (by omega)).mono ?_; rintro e wz ⟨rfl, rfl⟩)
      | (go_at_call 44; (with_reducible refine HSI.out.mono ?_); rintro e w4 ⟨v4, rfl, h4⟩; obtain ⟨na, nc, rfl, _⟩ := h4.sl Sk.len 3 rfl; obtain ⟨S4, f4, ⟨y0, y1, y2, y3⟩, hz4, S5, h5⟩ := HFIN.out _ _ _ h4; have H5 := Lib.hid h5; clear h4 h5 HSI))
  go_wp2
  exact bodyPost_ret (v := .agg #[.int .i64 (within qb 1 4), .int .i64 (within qr 1 8), .int .i64 (within qq 0 30), .slice na T.length nc]) (by simp [results, go_sem, f4, y0, y1, y2, y3]) rfl ⟨na, nc, rfl, H5.out⟩
end Go.Proofs.YtdncpihaeobaeaaGreat
