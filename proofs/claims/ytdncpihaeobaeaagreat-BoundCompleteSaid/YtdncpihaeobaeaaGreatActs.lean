/- Walk of cordonkeep.Acts. -/
import Derived.Test.YtdncpihaeobaeaaGreatPoolS
import Derived.Test.YtdncpihaeobaeaaGreatCoreRuns
set_option linter.unusedVariables false
set_option linter.unusedSimpArgs false
namespace Go.Proofs.YtdncpihaeobaeaaGreat
open Go.RowKit
theorem SlAt.aqAt {w : World} {sa : Option Addr} {l : List ActQR} (h : SlAt 15 (flat ActQR.cells) w sa l) (i : Nat) (hi : i < l.length) (x : ActQR) (hx : l[i] = x) : ∃ b o, sa = some ⟨b, o, none⟩ ∧ b < w.heap.size ∧ w.cell? ⟨b, o + i * 15, none⟩ = some (.int .i64 x.kind) ∧ w.cell? ⟨b, o + i * 15 + 1, none⟩ = some (.int .i64 x.tenant) ∧ w.cell? ⟨b, o + i * 15 + 2, none⟩ = some (.int .i64 x.fr) ∧ w.cell? ⟨b, o + i * 15 + 3, none⟩ = some (.int .i64 x.n) ∧ w.cell? ⟨b, o + i * 15 + 4, none⟩ = some (.slice x.oa x.p.ops.length x.oc) ∧ w.cell? ⟨b, o + i * 15 + 5, none⟩ = some (.slice x.na x.p.ns.length x.nc) ∧ w.cell? ⟨b, o + i * 15 + 6, none⟩ = some (.int .i64 x.p.size) ∧ w.cell? ⟨b, o + i * 15 + 7, none⟩ = some (.int .i64 x.p.slide) ∧ w.cell? ⟨b, o + i * 15 + 8, none⟩ = some (.int .i64 x.p.agg) ∧ w.cell? ⟨b, o + i * 15 + 9, none⟩ = some (.int .i64 x.p.sink) ∧ w.cell? ⟨b, o + i * 15 + 10, none⟩ = some (.int .i64 x.p.feed) ∧ w.cell? ⟨b, o + i * 15 + 11, none⟩ = some (.int .i64 x.i.time) ∧ w.cell? ⟨b, o + i * 15 + 12, none⟩ = some (.int .i64 x.i.key) ∧ w.cell? ⟨b, o + i * 15 + 13, none⟩ = some (.int .i64 x.i.value) ∧ w.cell? ⟨b, o + i * 15 + 14, none⟩ = some (.int .i64 x.i.mark) := by
  rcases h with rfl | ⟨b, o, rfl, hlt, h⟩
  · simp at hi
  · obtain ⟨cs, h1, h2, rfl⟩ := h i hi
    rw [hx] at h2
    exact ⟨b, o, rfl, hlt, h2 0 (by show 0 < 15; omega), h2 1 (by show 1 < 15; omega), h2 2 (by show 2 < 15; omega), h2 3 (by show 3 < 15; omega), h2 4 (by show 4 < 15; omega), h2 5 (by show 5 < 15; omega), h2 6 (by show 6 < 15; omega), h2 7 (by show 7 < 15; omega), h2 8 (by show 8 < 15; omega), h2 9 (by show 9 < 15; omega), h2 10 (by show 10 < 15; omega), h2 11 (by show 11 < 15; omega), h2 12 (by show 12 < 15; omega), h2 13 (by show 13 < 15; omega), h2 14 (by show 14 < 15; omega)⟩
theorem acts_fin1 {w0 w : World} {A V X1 X2 : HP} {K : List HP} {us : List ActR} (R : ActR) (h : St w0 w (A :: V :: poolP actP us :: X1 :: X2 :: ownP 147 2 Opr.cells (.slice R.oa R.p.ops.length R.oc) R.p.ops :: K)) : St w0 w [A, V, poolP actP (us ++ [R]), X2] := by
  have h1 := h.imp 5 rfl (X' := poolP actP [R]) (fun f hf => poolP_one R (seeP_own Opr.len hf))
  have h2 := h1.merge 2 5 (by decide) rfl rfl (Z := poolP actP (us ++ [R])) fun f s => poolP_two s
  exact h2.pick [0, 1, 2, 4] (by simp)
theorem acts_fin0 {w0 w : World} {A V X1 X2 : HP} {K : List HP} {us : List ActR} (R : ActR) (h : St w0 w (A :: V :: poolP actP us :: X1 :: X2 :: K)) (h1 : R.oa = none) (h2 : R.oc = 0) (h3 : R.p.ops = []) : St w0 w [A, V, poolP actP (us ++ [R]), X2] := by
  have h4 := h.imp 2 rfl (X' := poolP actP (us ++ [R])) (fun f hf x hx => by
    rcases List.mem_append.1 hx with hx | hx
    · exact hf x hx
    · obtain rfl : x = R := by simpa using hx
      refine ⟨fun _ => true, .inl ⟨?_, h3⟩⟩
      rw [h1, h2, h3]
      rfl)
  exact h4.pick [0, 1, 2, 4] (by simp)
theorem kindOf_of {n c : Int} (h : within n 0 9 = c) : kindOf n = if c = 0 then 1 else if c ≤ 5 then 2 else if c ≤ 7 then 3 else if c = 8 then 4 else 5 := by
  unfold kindOf
  rw [h]
theorem actOf_plain {kd tn fr nn c : Int} {p : PipeQ} {i : InQ} (h : kindOf kd = c) (h1 : c ≠ 1) (h2 : c ≠ 2) : actOf ⟨kd, tn, fr, nn, p, i⟩ = ⟨c, within tn 0 3, within fr (-1) 6, within nn (-1) 9, Pp.zero, Inp.zero⟩ := by
  unfold actOf
  dsimp only
  rw [h, if_neg h1, if_neg h2]
theorem actOf_reg {kd tn fr nn : Int} {p : PipeQ} {i : InQ} (h : kindOf kd = 1) : actOf ⟨kd, tn, fr, nn, p, i⟩ = ⟨1, within tn 0 3, within fr (-1) 6, within nn (-1) 9, pipeOf p, Inp.zero⟩ := by
  unfold actOf
  dsimp only
  rw [h, if_pos rfl, if_neg (by decide)]
theorem actOf_off {kd tn fr nn : Int} {p : PipeQ} {i : InQ} (h : kindOf kd = 2) : actOf ⟨kd, tn, fr, nn, p, i⟩ = ⟨2, within tn 0 3, within fr (-1) 6, within nn (-1) 9, Pp.zero, inpOf i⟩ := by
  unfold actOf
  dsimp only
  rw [h, if_neg (by decide), if_pos rfl]
theorem by_rest {A B : Prop} (f : A → B) (a : A) : B := f a
theorem ten_cases {c : Int} (h0 : 0 ≤ c) (h1 : c ≤ 9) : c = 0 ∨ c = 1 ∨ c = 2 ∨ c = 3 ∨ c = 4 ∨ c = 5 ∨ c = 6 ∨ c = 7 ∨ c = 8 ∨ c = 9 := by omega
set_option maxHeartbeats 16000000 in
set_option maxRecDepth 20000 in
theorem acts_st {w0 w : World} {L : List HP} (h : St w0 w L) (a : Option Addr) (cap : Nat) (l : List ActQR) (hl : Seen w0 (sepL L) 15 ActQR.cells a l) (hat : ∀ x ∈ l, Seen w0 (sepL L) 1 (intC .i64) x.oa x.p.ops ∧ Seen w0 (sepL L) 1 (intC .i64) x.na x.p.ns ∧ x.q.wf) (hmx : l.length ≤ maxLen) :
    Calls Tryz.prog 13 #[.slice a l.length cap] w fun e w' => ∃ v us, e = .returned v ∧ us.map ActR.val = actsOf (l.map ActQR.q) ∧ St w0 w' (L ++ [ownP 67 15 ActR.cells v us, poolP actP us]) := by
  unfold maxLen at hmx
  have hst : St w0 w [sepL L, ownP 67 15 ActR.cells (.slice none 0 0) ([] : List ActR), poolP actP []] := (h.wrap.nil 67 15 ActR.cells).emp (poolP actP []) (fun f => poolP_nil _ _)
  have HS := Lib.hid hst
  have HL := Lib.hid hl
  have HA := Lib.hid hat
  clear h hl hat hst
  have hfin : ∀ (k : Nat) (us : List ActR), (l.take k).map (fun x => actOf x.q) = us.map ActR.val → min l.length 40 = k → us.map ActR.val = actsOf (l.map ActQR.q) := by
    intro k us h1 h2
    rw [← h1]
    unfold actsOf
    rw [← List.map_take, List.map_map]
    congr 1
    rw [List.take_eq_take_iff]
    omega
  have HFIN := Lib.hid hfin
  clear hfin
  go_enter Tryz.func13, Tryz.ntmps13
  go_wp2_with fail
  go_loopw [3, 4] (fun v iv wr => ∃ k : Nat, k ≤ l.length ∧ k ≤ 40 ∧ iv = .int .i64 k ∧ ∃ us : List ActR, (l.take k).map (fun x => actOf x.q) = us.map ActR.val ∧ St w0 wr [sepL L, ownP 67 15 ActR.cells v us, poolP actP us]) (fun _ iv _ => 40 - (intOf iv).toNat)
  case atStart => exact ⟨0, by omega, by omega, rfl, [], rfl, HS.out⟩
  case round =>
    clear HS
    obtain ⟨k, hk, hk2, rfl, us, hus, hst⟩ := hrel
    obtain ⟨va, vc, hov, _⟩ := hst.sl ActR.len 1 rfl
    subst hov
    by_cases hlt : (k : Int) < l.length
    · by_cases h2 : (k : Int) < 40
      · have hkn : k < l.length := by omega
        obtain ⟨x, hx⟩ : ∃ x, l[k] = x := ⟨_, rfl⟩
        obtain ⟨b, o, rfl, hbl, c0, c1, c2, c3, c4, c5, c6, c7, c8, c9, c10, c11, c12, c13, c14⟩ := (HL.out wr _ 0 hst rfl).aqAt k hkn x hx
        obtain ⟨hso, hsn, hxw⟩ := HA.out x (by rw [← hx]; exact List.getElem_mem hkn)
        have hmp : (l.take (k + 1)).map (fun x => actOf x.q) = us.map ActR.val ++ [actOf x.q] := by rw [List.take_add_one, List.getElem?_eq_getElem hkn, List.map_append, hus, hx]; rfl
        have hul : us.length < 1000000 := by
          have := congrArg List.length hus
          rw [List.length_map, List.length_map, List.length_take] at this
          omega
        obtain ⟨kd, tn, fr, nn, oa, oc, na, nc, ⟨ops, ns, sz, sl, ag, sk, fd⟩, ⟨qt, qk, qv, qm⟩⟩ := x
        obtain ⟨w1, w2, w3, w4, wp, wi⟩ := hxw
        dsimp only [ActQR.q] at w1 w2 w3 w4 wp wi
        dsimp only at c0 c1 c2 c3 c4 c5 c6 c7 c8 c9 c10 c11 c12 c13 c14 hso hsn
        have hr1 := i64_range w1
        have hr2 := i64_range w2
        have hr3 := i64_range w3
        have hr4 := i64_range w4
        have HMP := Lib.hid hmp
        have HUL := Lib.hid hul
        have HSO := Lib.hid hso
        have HSN := Lib.hid hsn
        have HWP := Lib.hid wp
        have HWI := Lib.hid wi
        have h3 : St w0 (wr.alloc (.cells #[.int .i64 kd, .int .i64 tn, .int .i64 fr, .int .i64 nn, .slice oa ops.length oc, .slice na ns.length nc, .int .i64 sz, .int .i64 sl, .int .i64 ag, .int .i64 sk, .int .i64 fd, .int .i64 qt, .int .i64 qk, .int .i64 qv, .int .i64 qm] 106)) [sepL L, ownP 67 15 ActR.cells (.slice va us.length vc) us, poolP actP us, pt wr.heap.size (.cells #[.int .i64 kd, .int .i64 tn, .int .i64 fr, .int .i64 nn, .slice oa ops.length oc, .slice na ns.length nc, .int .i64 sz, .int .i64 sl, .int .i64 ag, .int .i64 sk, .int .i64 fd, .int .i64 qt, .int .i64 qk, .int .i64 qv, .int .i64 qm] 106 (0, 0))] := hst.alloc (.cells #[.int .i64 kd, .int .i64 tn, .int .i64 fr, .int .i64 nn, .slice oa ops.length oc, .slice na ns.length nc, .int .i64 sz, .int .i64 sl, .int .i64 ag, .int .i64 sk, .int .i64 fd, .int .i64 qt, .int .i64 qk, .int .i64 qv, .int .i64 qm] 106)
        clear hmp hul hso hsn wp wi w1 w2 w3 w4 hus hx
        go_wp2_with fail
        refine wp_at h3 ?_
        intro w1 hst1
        generalize wr.heap.size = g at *
        clear h3 hst c0 c1 c2 c3 c4 c5 c6 c7 c8 c9 c10 c11 c12 c13 c14
        have hb : ∀ w', Below w1.heap.size w1 w' → ((w').cell? ⟨g, 1, none⟩ = some (.int .i64 tn) ∧ (w').cell? ⟨g, 2, none⟩ = some (.int .i64 fr) ∧ (w').cell? ⟨g, 3, none⟩ = some (.int .i64 nn)) := fun w' hb => by
          have hg1 : g < w1.heap.size := (hst1.blk 3 rfl).2.2
          obtain ⟨q, _⟩ := blkCells (hst1.blk 3 rfl).1
          exact ⟨(hb.cell hg1).trans ((q 1).trans rfl), (hb.cell hg1).trans ((q 2).trans rfl), (hb.cell hg1).trans ((q 3).trans rfl)⟩
        have HB := Lib.hid hb
        have h4 : St w0 (w1.drew.alloc (.cells #[.int .i64 0, .int .i64 (within tn 0 3), .int .i64 (within fr (-1) 6), .int .i64 (within nn (-1) 9), .slice none 0 0, .int .i64 0, .int .i64 0, .int .i64 0, .int .i64 0, .int .i64 0, .bool false, .int .i64 0, .int .i64 0, .int .i64 0, .int .u64 0] 67)) [sepL L, ownP 67 15 ActR.cells (.slice va us.length vc) us, poolP actP us, pt g (.cells #[.int .i64 kd, .int .i64 tn, .int .i64 fr, .int .i64 nn, .slice oa ops.length oc, .slice na ns.length nc, .int .i64 sz, .int .i64 sl, .int .i64 ag, .int .i64 sk, .int .i64 fd, .int .i64 qt, .int .i64 qk, .int .i64 qv, .int .i64 qm] 106 (0, 0)), pt w1.heap.size (.cells #[.int .i64 0, .int .i64 (within tn 0 3), .int .i64 (within fr (-1) 6), .int .i64 (within nn (-1) 9), .slice none 0 0, .int .i64 0, .int .i64 0, .int .i64 0, .int .i64 0, .int .i64 0, .bool false, .int .i64 0, .int .i64 0, .int .i64 0, .int .u64 0] 67 (0, 0))] := hst1.drew.alloc (.cells #[.int .i64 0, .int .i64 (within tn 0 3), .int .i64 (within fr (-1) 6), .int .i64 (within nn (-1) 9), .slice none 0 0, .int .i64 0, .int .i64 0, .int .i64 0, .int .i64 0, .int .i64 0, .bool false, .int .i64 0, .int .i64 0, .int .i64 0, .int .u64 0] 67)
        have H4 := Lib.hid h4
        have h4b : St w0 ((w1.alloc (.cells #[.int .i64 0, .int .i64 (within tn 0 3), .int .i64 (within fr (-1) 6), .int .i64 (within nn (-1) 9), .slice none 0 0, .int .i64 0, .int .i64 0, .int .i64 0, .int .i64 0, .int .i64 0, .bool false, .int .i64 0, .int .i64 0, .int .i64 0, .int .u64 0] 67)).drew) [sepL L, ownP 67 15 ActR.cells (.slice va us.length vc) us, poolP actP us, pt g (.cells #[.int .i64 kd, .int .i64 tn, .int .i64 fr, .int .i64 nn, .slice oa ops.length oc, .slice na ns.length nc, .int .i64 sz, .int .i64 sl, .int .i64 ag, .int .i64 sk, .int .i64 fd, .int .i64 qt, .int .i64 qk, .int .i64 qv, .int .i64 qm] 106 (0, 0)), pt w1.heap.size (.cells #[.int .i64 0, .int .i64 (within tn 0 3), .int .i64 (within fr (-1) 6), .int .i64 (within nn (-1) 9), .slice none 0 0, .int .i64 0, .int .i64 0, .int .i64 0, .int .i64 0, .int .i64 0, .bool false, .int .i64 0, .int .i64 0, .int .i64 0, .int .u64 0] 67 (0, 0))] := (hst1.alloc (.cells #[.int .i64 0, .int .i64 (within tn 0 3), .int .i64 (within fr (-1) 6), .int .i64 (within nn (-1) 9), .slice none 0 0, .int .i64 0, .int .i64 0, .int .i64 0, .int .i64 0, .int .i64 0, .bool false, .int .i64 0, .int .i64 0, .int .i64 0, .int .u64 0] 67)).drew
        have H4b := Lib.hid h4b
        clear hst1 hb h4 h4b
        go_cut [6] from 21 to 30 (fun v wx => ∃ g2, v = .pointer (some ⟨g2, 0, none⟩) ∧ St w0 wx [sepL L, ownP 67 15 ActR.cells (.slice va us.length vc) us, poolP actP us, pt g (.cells #[.int .i64 kd, .int .i64 tn, .int .i64 fr, .int .i64 nn, .slice oa ops.length oc, .slice na ns.length nc, .int .i64 sz, .int .i64 sl, .int .i64 ag, .int .i64 sk, .int .i64 fd, .int .i64 qt, .int .i64 qk, .int .i64 qv, .int .i64 qm] 106 (0, 0)), pt g2 (.cells #[.int .i64 0, .int .i64 (within tn 0 3), .int .i64 (within fr (-1) 6), .int .i64 (within nn (-1) 9), .slice none 0 0, .int .i64 0, .int .i64 0, .int .i64 0, .int .i64 0, .int .i64 0, .bool false, .int .i64 0, .int .i64 0, .int .i64 0, .int .u64 0] 67 (0, 0))])
        case first =>
          go_region_held3 (fun w' => (w').cell? ⟨g, 1, none⟩ = some (.int .i64 tn) ∧ (w').cell? ⟨g, 2, none⟩ = some (.int .i64 fr) ∧ (w').cell? ⟨g, 3, none⟩ = some (.int .i64 nn)) (exact HB.out _ (by go_grown))
            (first
              | (go_at_call 11; refine (Within_at _ _ _ _ (by omega) (by omega) (by omega) (by omega) (by omega)).mono ?_; rintro e wz ⟨rfl, rfl⟩))
          all_goals
            go_wp2
            go_meet
            first | exact ⟨_, rfl, H4.out⟩ | exact ⟨_, rfl, H4b.out⟩
        clear H4 H4b HB
        obtain ⟨g2, rfl, hst2⟩ := hcut
        generalize wc = w2 at *
        obtain ⟨qq, _⟩ := blkCells (hst2.blk 3 rfl).1
        obtain ⟨zz, fz⟩ := blkCells (hst2.blk 4 rfl).1
        have hlg := (hst2.blk 3 rfl).2.2
        have hlg2 := (hst2.blk 4 rfl).2.2
        have hnz := hst2.ne 3 4 rfl rfl (by decide)
        have u0 : w2.cell? ⟨g, 0, none⟩ = some (.int .i64 kd) := (qq 0).trans rfl
        have u1 : w2.cell? ⟨g, 1, none⟩ = some (.int .i64 tn) := (qq 1).trans rfl
        have u2 : w2.cell? ⟨g, 2, none⟩ = some (.int .i64 fr) := (qq 2).trans rfl
        have u3 : w2.cell? ⟨g, 3, none⟩ = some (.int .i64 nn) := (qq 3).trans rfl
        have u4 : w2.cell? ⟨g, 4, none⟩ = some (.slice oa ops.length oc) := (qq 4).trans rfl
        have u5 : w2.cell? ⟨g, 5, none⟩ = some (.slice na ns.length nc) := (qq 5).trans rfl
        have u6 : w2.cell? ⟨g, 6, none⟩ = some (.int .i64 sz) := (qq 6).trans rfl
        have u7 : w2.cell? ⟨g, 7, none⟩ = some (.int .i64 sl) := (qq 7).trans rfl
        have u8 : w2.cell? ⟨g, 8, none⟩ = some (.int .i64 ag) := (qq 8).trans rfl
        have u9 : w2.cell? ⟨g, 9, none⟩ = some (.int .i64 sk) := (qq 9).trans rfl
        have u10 : w2.cell? ⟨g, 10, none⟩ = some (.int .i64 fd) := (qq 10).trans rfl
        have u11 : w2.cell? ⟨g, 11, none⟩ = some (.int .i64 qt) := (qq 11).trans rfl
        have u12 : w2.cell? ⟨g, 12, none⟩ = some (.int .i64 qk) := (qq 12).trans rfl
        have u13 : w2.cell? ⟨g, 13, none⟩ = some (.int .i64 qv) := (qq 13).trans rfl
        have u14 : w2.cell? ⟨g, 14, none⟩ = some (.int .i64 qm) := (qq 14).trans rfl
        have z0 : w2.cell? ⟨g2, 0, none⟩ = some (.int .i64 0) := (zz 0).trans rfl
        clear qq zz
        have H2 := Lib.hid hst2
        clear hst2
        have hc9 := within_range kd 0 9 (by omega)
        have hko := kindOf_of (n := kd) rfl
        have hwi := Within_at kd 0 9 w2 hr1.1 hr1.2 (by omega) (by omega) (by omega)
        generalize within kd 0 9 = c at *
        have HWC := Lib.hid hwi
        have HKO := Lib.hid hko
        clear hwi hko
        go_upto_block 2 with (go_at_call 11; (with_reducible refine HWC.out.mono ?_); rintro e wz ⟨rfl, rfl⟩)
        go_cut [33] from 34 to 62 (fun _ wx => ∃ R : ActR, R.val = actOf (⟨kd, tn, fr, nn, ⟨ops, ns, sz, sl, ag, sk, fd⟩, ⟨qt, qk, qv, qm⟩⟩ : ActQ) ∧ St w0 wx [sepL L, ownP 67 15 ActR.cells (.slice va us.length vc) us, poolP actP (us ++ [R]), pt g2 (.cells R.cells.toArray 67 (0, 0))])
        case first =>
          rcases ten_cases hc9.1 hc9.2 with hc | hc | hc | hc | hc | hc | hc | hc | hc | hc
          · subst hc
            have hk1 : kindOf kd = 1 := by rw [HKO.out]; decide
            have HK1 := Lib.hid hk1
            clear hk1 HWC HKO
            obtain ⟨pp, hpp⟩ : ∃ pp, pipeOf (⟨ops, ns, sz, sl, ag, sk, fd⟩ : PipeQ) = pp := ⟨_, rfl⟩
            have hpi := pipe_st H2.out (⟨ops, ns, sz, sl, ag, sk, fd⟩ : PipeQ) HWP.out oa na oc nc (HSO.out.lift 0 rfl) (HSN.out.lift 0 rfl)
            rw [hpp] at hpi
            have hpi : Calls Tryz.prog 45 #[.agg #[.slice oa ops.length oc, .slice na ns.length nc, .int .i64 sz, .int .i64 sl, .int .i64 ag, .int .i64 sk, .int .i64 fd]] w2 _ := hpi
            have HPI := Lib.hid hpi
            have HPP := Lib.hid hpp
            clear hpi hpp
            go_wp2_with (first
              | (go_at_call 45; (with_reducible refine HPI.out.mono ?_); rintro e w3 ⟨pa, pc, rfl, hz3, h5⟩; have h5 : St w0 w3 [sepL L, ownP 67 15 ActR.cells (.slice va us.length vc) us, poolP actP us, pt g (.cells #[.int .i64 kd, .int .i64 tn, .int .i64 fr, .int .i64 nn, .slice oa ops.length oc, .slice na ns.length nc, .int .i64 sz, .int .i64 sl, .int .i64 ag, .int .i64 sk, .int .i64 fd, .int .i64 qt, .int .i64 qk, .int .i64 qv, .int .i64 qm] 106 (0, 0)), pt g2 (.cells #[.int .i64 0, .int .i64 (within tn 0 3), .int .i64 (within fr (-1) 6), .int .i64 (within nn (-1) 9), .slice none 0 0, .int .i64 0, .int .i64 0, .int .i64 0, .int .i64 0, .int .i64 0, .bool false, .int .i64 0, .int .i64 0, .int .i64 0, .int .u64 0] 67 (0, 0)), ownP 147 2 Opr.cells (.slice pa pp.ops.length pc) pp.ops] := h5; obtain ⟨zz, fz⟩ := blkCells (h5.blk 4 rfl).1; have hlg2 := (h5.blk 4 rfl).2.2; clear z0; have z0 : w3.cell? ⟨g2, 0, none⟩ = some (.int .i64 0) := (zz 0).trans rfl; have z4 : w3.cell? ⟨g2, 4, none⟩ = some (.slice none 0 0) := (zz 4).trans rfl; have z5 : w3.cell? ⟨g2, 5, none⟩ = some (.int .i64 0) := (zz 5).trans rfl; have z6 : w3.cell? ⟨g2, 6, none⟩ = some (.int .i64 0) := (zz 6).trans rfl; have z7 : w3.cell? ⟨g2, 7, none⟩ = some (.int .i64 0) := (zz 7).trans rfl; have z8 : w3.cell? ⟨g2, 8, none⟩ = some (.int .i64 0) := (zz 8).trans rfl; have z9 : w3.cell? ⟨g2, 9, none⟩ = some (.int .i64 0) := (zz 9).trans rfl; have h6 := ((((((h5.set 4 rfl 0 (.int .i64 1)).set 4 rfl 4 (.slice pa pp.ops.length pc)).set 4 rfl 5 (.int .i64 pp.size)).set 4 rfl 6 (.int .i64 pp.slide)).set 4 rfl 7 (.int .i64 pp.agg)).set 4 rfl 8 (.int .i64 pp.sink)).set 4 rfl 9 (.int .i64 pp.feed); have H6 := Lib.hid h6; clear h6 h5 zz HPI))
            go_meet
            exact ⟨(⟨1, within tn 0 3, within fr (-1) 6, within nn (-1) 9, pa, pc, pp, Inp.zero⟩ : ActR), ((actOf_reg HK1.out).trans (by rw [HPP.out]; rfl)).symm, acts_fin1 (⟨1, within tn 0 3, within fr (-1) 6, within nn (-1) 9, pa, pc, pp, Inp.zero⟩ : ActR) (H6.out.pick [0, 1, 2, 3, 4, 5] (by decide))⟩
          · subst hc
            have hk1 : kindOf kd = 2 := by rw [HKO.out]; decide
            have HK1 := Lib.hid hk1
            clear hk1 HWC HKO
            obtain ⟨ii, hii⟩ : ∃ ii, inpOf (⟨qt, qk, qv, qm⟩ : InQ) = ii := ⟨_, rfl⟩
            go_upto_region 16 with fail
            have h3 : St w0 (w2.drew.alloc (.cells #[.int .i64 qt, .int .i64 qk, .int .i64 qv, .int .i64 qm] 104)) [sepL L, ownP 67 15 ActR.cells (.slice va us.length vc) us, poolP actP us, pt g (.cells #[.int .i64 kd, .int .i64 tn, .int .i64 fr, .int .i64 nn, .slice oa ops.length oc, .slice na ns.length nc, .int .i64 sz, .int .i64 sl, .int .i64 ag, .int .i64 sk, .int .i64 fd, .int .i64 qt, .int .i64 qk, .int .i64 qv, .int .i64 qm] 106 (0, 0)), pt g2 (.cells #[.int .i64 0, .int .i64 (within tn 0 3), .int .i64 (within fr (-1) 6), .int .i64 (within nn (-1) 9), .slice none 0 0, .int .i64 0, .int .i64 0, .int .i64 0, .int .i64 0, .int .i64 0, .bool false, .int .i64 0, .int .i64 0, .int .i64 0, .int .u64 0] 67 (0, 0)), pt w2.heap.size (.cells #[.int .i64 qt, .int .i64 qk, .int .i64 qv, .int .i64 qm] 104 (0, 0))] := H2.out.drew.alloc (.cells #[.int .i64 qt, .int .i64 qk, .int .i64 qv, .int .i64 qm] 104)
            have hina := inputs_st h3 (some ⟨w2.heap.size, 0, none⟩) 1 [(⟨qt, qk, qv, qm⟩ : InQ)] (Seen.pt InQ.len 5 rfl) (by intro q hq; obtain rfl : q = (⟨qt, qk, qv, qm⟩ : InQ) := (by simpa using hq); exact HWI.out) (show (1 : Nat) ≤ maxLen by decide)
            have hina : Calls Tryz.prog 46 #[.slice (some ⟨w2.heap.size, 0, none⟩) 1 1] (w2.drew.alloc (.cells #[.int .i64 qt, .int .i64 qk, .int .i64 qv, .int .i64 qm] 104)) _ := hina
            have h3b : St w0 ((w2.alloc (.cells #[.int .i64 qt, .int .i64 qk, .int .i64 qv, .int .i64 qm] 104)).drew) [sepL L, ownP 67 15 ActR.cells (.slice va us.length vc) us, poolP actP us, pt g (.cells #[.int .i64 kd, .int .i64 tn, .int .i64 fr, .int .i64 nn, .slice oa ops.length oc, .slice na ns.length nc, .int .i64 sz, .int .i64 sl, .int .i64 ag, .int .i64 sk, .int .i64 fd, .int .i64 qt, .int .i64 qk, .int .i64 qv, .int .i64 qm] 106 (0, 0)), pt g2 (.cells #[.int .i64 0, .int .i64 (within tn 0 3), .int .i64 (within fr (-1) 6), .int .i64 (within nn (-1) 9), .slice none 0 0, .int .i64 0, .int .i64 0, .int .i64 0, .int .i64 0, .int .i64 0, .bool false, .int .i64 0, .int .i64 0, .int .i64 0, .int .u64 0] 67 (0, 0)), pt w2.heap.size (.cells #[.int .i64 qt, .int .i64 qk, .int .i64 qv, .int .i64 qm] 104 (0, 0))] := (H2.out.alloc (.cells #[.int .i64 qt, .int .i64 qk, .int .i64 qv, .int .i64 qm] 104)).drew
            have hinb := inputs_st h3b (some ⟨w2.heap.size, 0, none⟩) 1 [(⟨qt, qk, qv, qm⟩ : InQ)] (Seen.pt InQ.len 5 rfl) (by intro q hq; obtain rfl : q = (⟨qt, qk, qv, qm⟩ : InQ) := (by simpa using hq); exact HWI.out) (show (1 : Nat) ≤ maxLen by decide)
            have hinb : Calls Tryz.prog 46 #[.slice (some ⟨w2.heap.size, 0, none⟩) 1 1] ((w2.alloc (.cells #[.int .i64 qt, .int .i64 qk, .int .i64 qv, .int .i64 qm] 104)).drew) _ := hinb
            have hb : ∀ w', Below w2.heap.size w2 w' → ((w').cell? ⟨g, 11, none⟩ = some (.int .i64 qt) ∧ (w').cell? ⟨g, 12, none⟩ = some (.int .i64 qk) ∧ (w').cell? ⟨g, 13, none⟩ = some (.int .i64 qv) ∧ (w').cell? ⟨g, 14, none⟩ = some (.int .i64 qm)) := fun w' hb => ⟨(hb.cell hlg).trans u11, (hb.cell hlg).trans u12, (hb.cell hlg).trans u13, (hb.cell hlg).trans u14⟩
            have HB := Lib.hid hb
            have HINa := Lib.hid hina
            have HINb := Lib.hid hinb
            have HII := Lib.hid hii
            clear hina hinb hii h3 h3b hb
            refine wp_region_held_drew (S := fun _ => True) (by kernel_rfl) trivial (fun _ => ?_)
            refine wpAnyH_take (i := 0) (v := ?_) rfl (by kernel_rfl) (by kernel_rfl) (by kernel_rfl) (fun _ _ _ h => h) (Or.inl ⟨by rfl, ?_⟩) trivial ?_
            rotate_left
            · (intro w _; go_simp; try with_reducible rfl)
            simp only [Act.put, List.setIfInBounds_toArray, List.set_cons_zero, List.set_cons_succ]
            refine wpAnyH_take (i := 6) (v := ?_) rfl (by kernel_rfl) (by kernel_rfl) (by kernel_rfl) (fun _ _ _ h => h) (Or.inl ⟨by rfl, ?_⟩) trivial ?_
            rotate_left
            · (intro w _; go_simp; try with_reducible rfl)
            simp only [Act.put, List.setIfInBounds_toArray, List.set_cons_zero, List.set_cons_succ]
            refine wpAnyH_ready (rs := [1]) (by kernel_rfl) (by simp) ?_
            refine AllReadyH.cons rfl (fun K hK => ?_) AllReadyH.nil
            go_simp
            refine hK.out _ _ trivial (fun _ => ?_)
            clear hK K
            try simp only [Act.put, List.setIfInBounds_toArray, List.set_cons_zero, List.set_cons_succ]
            refine wpAnyH_ready (rs := [2]) (by kernel_rfl) (by simp) ?_
            refine AllReadyH.cons rfl (fun K hK => ?_) AllReadyH.nil
            go_simp
            refine hK.out _ _ trivial (fun _ => ?_)
            clear hK K
            try simp only [Act.put, List.setIfInBounds_toArray, List.set_cons_zero, List.set_cons_succ]
            refine wpAnyH_ready (rs := [3]) (by kernel_rfl) (by simp) ?_
            refine AllReadyH.cons rfl (fun K hK => ?_) AllReadyH.nil
            go_simp
            go_wp2_with (first
                | (go_at_call 46; (with_reducible refine HINa.out.mono ?_); rintro e w3 ⟨vi, rfl, h5⟩; have h5 : St w0 w3 [sepL L, ownP 67 15 ActR.cells (.slice va us.length vc) us, poolP actP us, pt g (.cells #[.int .i64 kd, .int .i64 tn, .int .i64 fr, .int .i64 nn, .slice oa ops.length oc, .slice na ns.length nc, .int .i64 sz, .int .i64 sl, .int .i64 ag, .int .i64 sk, .int .i64 fd, .int .i64 qt, .int .i64 qk, .int .i64 qv, .int .i64 qm] 106 (0, 0)), pt g2 (.cells #[.int .i64 0, .int .i64 (within tn 0 3), .int .i64 (within fr (-1) 6), .int .i64 (within nn (-1) 9), .slice none 0 0, .int .i64 0, .int .i64 0, .int .i64 0, .int .i64 0, .int .i64 0, .bool false, .int .i64 0, .int .i64 0, .int .i64 0, .int .u64 0] 67 (0, 0)), pt w2.heap.size (.cells #[.int .i64 qt, .int .i64 qk, .int .i64 qv, .int .i64 qm] 104 (0, 0)), ownP 65 5 Inp.cells vi [inpOf (⟨qt, qk, qv, qm⟩ : InQ)]] := h5; rw [HII.out] at h5; obtain ⟨xa, xc, rfl, _⟩ := h5.sl Inp.len 6 rfl; obtain ⟨b8, o8, rfl, hb8, d0, d1, d2, d3, d4⟩ := (h5.slOf Inp.len 6 rfl).inAt 0 (by show 0 < 1; omega); simp only [List.length_cons, List.length_nil, List.getElem?_cons_zero, Option.getD_some, Nat.zero_mul, Nat.add_zero, Nat.zero_add] at d0 d1 d2 d3 d4 h5 ⊢; obtain ⟨zz, fz⟩ := blkCells (h5.blk 4 rfl).1; have hlg2 := (h5.blk 4 rfl).2.2; clear z0; have z0 : w3.cell? ⟨g2, 0, none⟩ = some (.int .i64 0) := (zz 0).trans rfl; have z10 : w3.cell? ⟨g2, 10, none⟩ = some (.bool false) := (zz 10).trans rfl; have z11 : w3.cell? ⟨g2, 11, none⟩ = some (.int .i64 0) := (zz 11).trans rfl; have z12 : w3.cell? ⟨g2, 12, none⟩ = some (.int .i64 0) := (zz 12).trans rfl; have z13 : w3.cell? ⟨g2, 13, none⟩ = some (.int .i64 0) := (zz 13).trans rfl; have z14 : w3.cell? ⟨g2, 14, none⟩ = some (.int .u64 0) := (zz 14).trans rfl; have h6 := h5.set 4 rfl 0 (.int .i64 2); have h7 := (((((h6).set 4 rfl 10 (.bool ii.mark)).set 4 rfl 11 (.int .i64 ii.ev.time)).set 4 rfl 12 (.int .i64 ii.ev.key)).set 4 rfl 13 (.int .i64 ii.ev.value)).set 4 rfl 14 (.int .u64 ii.ev.label); obtain ⟨b9, o9, e9, hb9, f0, f1, f2, f3, f4⟩ := (h6.slOf Inp.len 6 rfl).inAt 0 (by show 0 < 1; omega); cases e9; simp only [List.length_cons, List.length_nil, List.getElem?_cons_zero, Option.getD_some, Nat.zero_mul, Nat.add_zero, Nat.zero_add] at f0 f1 f2 f3 f4; have H7 := Lib.hid h7; clear zz h5 h6 h7 HINa HINb)
                | (go_at_call 46; (with_reducible refine HINb.out.mono ?_); rintro e w3 ⟨vi, rfl, h5⟩; have h5 : St w0 w3 [sepL L, ownP 67 15 ActR.cells (.slice va us.length vc) us, poolP actP us, pt g (.cells #[.int .i64 kd, .int .i64 tn, .int .i64 fr, .int .i64 nn, .slice oa ops.length oc, .slice na ns.length nc, .int .i64 sz, .int .i64 sl, .int .i64 ag, .int .i64 sk, .int .i64 fd, .int .i64 qt, .int .i64 qk, .int .i64 qv, .int .i64 qm] 106 (0, 0)), pt g2 (.cells #[.int .i64 0, .int .i64 (within tn 0 3), .int .i64 (within fr (-1) 6), .int .i64 (within nn (-1) 9), .slice none 0 0, .int .i64 0, .int .i64 0, .int .i64 0, .int .i64 0, .int .i64 0, .bool false, .int .i64 0, .int .i64 0, .int .i64 0, .int .u64 0] 67 (0, 0)), pt w2.heap.size (.cells #[.int .i64 qt, .int .i64 qk, .int .i64 qv, .int .i64 qm] 104 (0, 0)), ownP 65 5 Inp.cells vi [inpOf (⟨qt, qk, qv, qm⟩ : InQ)]] := h5; rw [HII.out] at h5; obtain ⟨xa, xc, rfl, _⟩ := h5.sl Inp.len 6 rfl; obtain ⟨b8, o8, rfl, hb8, d0, d1, d2, d3, d4⟩ := (h5.slOf Inp.len 6 rfl).inAt 0 (by show 0 < 1; omega); simp only [List.length_cons, List.length_nil, List.getElem?_cons_zero, Option.getD_some, Nat.zero_mul, Nat.add_zero, Nat.zero_add] at d0 d1 d2 d3 d4 h5 ⊢; obtain ⟨zz, fz⟩ := blkCells (h5.blk 4 rfl).1; have hlg2 := (h5.blk 4 rfl).2.2; clear z0; have z0 : w3.cell? ⟨g2, 0, none⟩ = some (.int .i64 0) := (zz 0).trans rfl; have z10 : w3.cell? ⟨g2, 10, none⟩ = some (.bool false) := (zz 10).trans rfl; have z11 : w3.cell? ⟨g2, 11, none⟩ = some (.int .i64 0) := (zz 11).trans rfl; have z12 : w3.cell? ⟨g2, 12, none⟩ = some (.int .i64 0) := (zz 12).trans rfl; have z13 : w3.cell? ⟨g2, 13, none⟩ = some (.int .i64 0) := (zz 13).trans rfl; have z14 : w3.cell? ⟨g2, 14, none⟩ = some (.int .u64 0) := (zz 14).trans rfl; have h6 := h5.set 4 rfl 0 (.int .i64 2); have h7 := (((((h6).set 4 rfl 10 (.bool ii.mark)).set 4 rfl 11 (.int .i64 ii.ev.time)).set 4 rfl 12 (.int .i64 ii.ev.key)).set 4 rfl 13 (.int .i64 ii.ev.value)).set 4 rfl 14 (.int .u64 ii.ev.label); obtain ⟨b9, o9, e9, hb9, f0, f1, f2, f3, f4⟩ := (h6.slOf Inp.len 6 rfl).inAt 0 (by show 0 < 1; omega); cases e9; simp only [List.length_cons, List.length_nil, List.getElem?_cons_zero, Option.getD_some, Nat.zero_mul, Nat.add_zero, Nat.zero_add] at f0 f1 f2 f3 f4; have H7 := Lib.hid h7; clear zz h5 h6 h7 HINa HINb))
            refine hK.out _ _ trivial (fun _ => ?_)
            clear hK K
            try simp only [Act.put, List.setIfInBounds_toArray, List.set_cons_zero, List.set_cons_succ]
            refine wpAnyH_ready (rs := [4, 7]) (by kernel_rfl) (by simp) ?_
            refine AllReadyH.cons rfl (fun K hK => ?_) (AllReadyH.cons rfl (fun K hK => ?_) AllReadyH.nil)
            · skip
              go_simp
              refine hK.out _ _ trivial (fun _ => ?_)
              clear hK K
              try simp only [Act.put, List.setIfInBounds_toArray, List.set_cons_zero, List.set_cons_succ]
              refine wpAnyH_ready (rs := [5, 7]) (by kernel_rfl) (by simp) ?_
              refine AllReadyH.cons rfl (fun K hK => ?_) (AllReadyH.cons rfl (fun K hK => ?_) AllReadyH.nil)
              · skip
                go_simp
                refine hK.out _ _ trivial (fun _ => ?_)
                clear hK K
                try simp only [Act.put, List.setIfInBounds_toArray, List.set_cons_zero, List.set_cons_succ]
                refine wpAnyH_ready (rs := [7]) (by kernel_rfl) (by simp) ?_
                refine AllReadyH.cons rfl (fun K hK => ?_) AllReadyH.nil
                go_simp
                refine hK.out _ _ trivial (fun _ => ?_)
                clear hK K
                try simp only [Act.put, List.setIfInBounds_toArray, List.set_cons_zero, List.set_cons_succ]
                refine wpAnyH_take (i := 8) (v := ?_) rfl (by kernel_rfl) (by kernel_rfl) (by kernel_rfl) (fun _ _ _ h => h) (Or.inl ⟨by rfl, ?_⟩) trivial ?_
                rotate_left
                · (intro w _; go_simp; try with_reducible rfl)
                simp only [Act.put, List.setIfInBounds_toArray, List.set_cons_zero, List.set_cons_succ]
                refine wpAnyH_ready (rs := [9]) (by kernel_rfl) (by simp) ?_
                refine AllReadyH.cons rfl (fun K hK => ?_) AllReadyH.nil
                go_simp
                refine hK.out _ _ trivial (fun _ => ?_)
                clear hK K
                try simp only [Act.put, List.setIfInBounds_toArray, List.set_cons_zero, List.set_cons_succ]
                refine wpAnyH_done (by kernel_rfl) ?_ _
                go_wp2
                go_meet
                exact ⟨(⟨2, within tn 0 3, within fr (-1) 6, within nn (-1) 9, none, 0, Pp.zero, ii⟩ : ActR), ((actOf_off HK1.out).trans (by rw [HII.out]; rfl)).symm, acts_fin0 (⟨2, within tn 0 3, within fr (-1) 6, within nn (-1) 9, none, 0, Pp.zero, ii⟩ : ActR) (H7.out.pick [0, 1, 2, 3, 4] (by decide)) rfl rfl rfl⟩
              · skip
                go_simp
                refine hK.out _ _ trivial (fun _ => ?_)
                clear hK K
                try simp only [Act.put, List.setIfInBounds_toArray, List.set_cons_zero, List.set_cons_succ]
                refine wpAnyH_ready (rs := [5]) (by kernel_rfl) (by simp) ?_
                refine AllReadyH.cons rfl (fun K hK => ?_) AllReadyH.nil
                go_simp
                refine hK.out _ _ trivial (fun _ => ?_)
                clear hK K
                try simp only [Act.put, List.setIfInBounds_toArray, List.set_cons_zero, List.set_cons_succ]
                refine wpAnyH_take (i := 8) (v := ?_) rfl (by kernel_rfl) (by kernel_rfl) (by kernel_rfl) (fun _ _ _ h => h) (Or.inl ⟨by rfl, ?_⟩) trivial ?_
                rotate_left
                · (intro w _; go_simp; try with_reducible rfl)
                simp only [Act.put, List.setIfInBounds_toArray, List.set_cons_zero, List.set_cons_succ]
                refine wpAnyH_ready (rs := [9]) (by kernel_rfl) (by simp) ?_
                refine AllReadyH.cons rfl (fun K hK => ?_) AllReadyH.nil
                go_simp
                refine hK.out _ _ trivial (fun _ => ?_)
                clear hK K
                try simp only [Act.put, List.setIfInBounds_toArray, List.set_cons_zero, List.set_cons_succ]
                refine wpAnyH_done (by kernel_rfl) ?_ _
                go_wp2
                go_meet
                exact ⟨(⟨2, within tn 0 3, within fr (-1) 6, within nn (-1) 9, none, 0, Pp.zero, ii⟩ : ActR), ((actOf_off HK1.out).trans (by rw [HII.out]; rfl)).symm, acts_fin0 (⟨2, within tn 0 3, within fr (-1) 6, within nn (-1) 9, none, 0, Pp.zero, ii⟩ : ActR) (H7.out.pick [0, 1, 2, 3, 4] (by decide)) rfl rfl rfl⟩
            · skip
              go_simp
              refine hK.out _ _ trivial (fun _ => ?_)
              clear hK K
              try simp only [Act.put, List.setIfInBounds_toArray, List.set_cons_zero, List.set_cons_succ]
              refine wpAnyH_ready (rs := [4]) (by kernel_rfl) (by simp) ?_
              refine AllReadyH.cons rfl (fun K hK => ?_) AllReadyH.nil
              go_simp
              refine hK.out _ _ trivial (fun _ => ?_)
              clear hK K
              try simp only [Act.put, List.setIfInBounds_toArray, List.set_cons_zero, List.set_cons_succ]
              refine wpAnyH_ready (rs := [5]) (by kernel_rfl) (by simp) ?_
              refine AllReadyH.cons rfl (fun K hK => ?_) AllReadyH.nil
              go_simp
              refine hK.out _ _ trivial (fun _ => ?_)
              clear hK K
              try simp only [Act.put, List.setIfInBounds_toArray, List.set_cons_zero, List.set_cons_succ]
              refine wpAnyH_take (i := 8) (v := ?_) rfl (by kernel_rfl) (by kernel_rfl) (by kernel_rfl) (fun _ _ _ h => h) (Or.inl ⟨by rfl, ?_⟩) trivial ?_
              rotate_left
              · (intro w _; go_simp; try with_reducible rfl)
              simp only [Act.put, List.setIfInBounds_toArray, List.set_cons_zero, List.set_cons_succ]
              refine wpAnyH_ready (rs := [9]) (by kernel_rfl) (by simp) ?_
              refine AllReadyH.cons rfl (fun K hK => ?_) AllReadyH.nil
              go_simp
              refine hK.out _ _ trivial (fun _ => ?_)
              clear hK K
              try simp only [Act.put, List.setIfInBounds_toArray, List.set_cons_zero, List.set_cons_succ]
              refine wpAnyH_done (by kernel_rfl) ?_ _
              go_wp2
              go_meet
              exact ⟨(⟨2, within tn 0 3, within fr (-1) 6, within nn (-1) 9, none, 0, Pp.zero, ii⟩ : ActR), ((actOf_off HK1.out).trans (by rw [HII.out]; rfl)).symm, acts_fin0 (⟨2, within tn 0 3, within fr (-1) 6, within nn (-1) 9, none, 0, Pp.zero, ii⟩ : ActR) (H7.out.pick [0, 1, 2, 3, 4] (by decide)) rfl rfl rfl⟩
          · subst hc
            have hk1 : kindOf kd = 2 := by rw [HKO.out]; decide
            have HK1 := Lib.hid hk1
            clear hk1 HWC HKO
            obtain ⟨ii, hii⟩ : ∃ ii, inpOf (⟨qt, qk, qv, qm⟩ : InQ) = ii := ⟨_, rfl⟩
            go_upto_region 16 with fail
            have h3 : St w0 (w2.drew.alloc (.cells #[.int .i64 qt, .int .i64 qk, .int .i64 qv, .int .i64 qm] 104)) [sepL L, ownP 67 15 ActR.cells (.slice va us.length vc) us, poolP actP us, pt g (.cells #[.int .i64 kd, .int .i64 tn, .int .i64 fr, .int .i64 nn, .slice oa ops.length oc, .slice na ns.length nc, .int .i64 sz, .int .i64 sl, .int .i64 ag, .int .i64 sk, .int .i64 fd, .int .i64 qt, .int .i64 qk, .int .i64 qv, .int .i64 qm] 106 (0, 0)), pt g2 (.cells #[.int .i64 0, .int .i64 (within tn 0 3), .int .i64 (within fr (-1) 6), .int .i64 (within nn (-1) 9), .slice none 0 0, .int .i64 0, .int .i64 0, .int .i64 0, .int .i64 0, .int .i64 0, .bool false, .int .i64 0, .int .i64 0, .int .i64 0, .int .u64 0] 67 (0, 0)), pt w2.heap.size (.cells #[.int .i64 qt, .int .i64 qk, .int .i64 qv, .int .i64 qm] 104 (0, 0))] := H2.out.drew.alloc (.cells #[.int .i64 qt, .int .i64 qk, .int .i64 qv, .int .i64 qm] 104)
            have hina := inputs_st h3 (some ⟨w2.heap.size, 0, none⟩) 1 [(⟨qt, qk, qv, qm⟩ : InQ)] (Seen.pt InQ.len 5 rfl) (by intro q hq; obtain rfl : q = (⟨qt, qk, qv, qm⟩ : InQ) := (by simpa using hq); exact HWI.out) (show (1 : Nat) ≤ maxLen by decide)
            have hina : Calls Tryz.prog 46 #[.slice (some ⟨w2.heap.size, 0, none⟩) 1 1] (w2.drew.alloc (.cells #[.int .i64 qt, .int .i64 qk, .int .i64 qv, .int .i64 qm] 104)) _ := hina
            have h3b : St w0 ((w2.alloc (.cells #[.int .i64 qt, .int .i64 qk, .int .i64 qv, .int .i64 qm] 104)).drew) [sepL L, ownP 67 15 ActR.cells (.slice va us.length vc) us, poolP actP us, pt g (.cells #[.int .i64 kd, .int .i64 tn, .int .i64 fr, .int .i64 nn, .slice oa ops.length oc, .slice na ns.length nc, .int .i64 sz, .int .i64 sl, .int .i64 ag, .int .i64 sk, .int .i64 fd, .int .i64 qt, .int .i64 qk, .int .i64 qv, .int .i64 qm] 106 (0, 0)), pt g2 (.cells #[.int .i64 0, .int .i64 (within tn 0 3), .int .i64 (within fr (-1) 6), .int .i64 (within nn (-1) 9), .slice none 0 0, .int .i64 0, .int .i64 0, .int .i64 0, .int .i64 0, .int .i64 0, .bool false, .int .i64 0, .int .i64 0, .int .i64 0, .int .u64 0] 67 (0, 0)), pt w2.heap.size (.cells #[.int .i64 qt, .int .i64 qk, .int .i64 qv, .int .i64 qm] 104 (0, 0))] := (H2.out.alloc (.cells #[.int .i64 qt, .int .i64 qk, .int .i64 qv, .int .i64 qm] 104)).drew
            have hinb := inputs_st h3b (some ⟨w2.heap.size, 0, none⟩) 1 [(⟨qt, qk, qv, qm⟩ : InQ)] (Seen.pt InQ.len 5 rfl) (by intro q hq; obtain rfl : q = (⟨qt, qk, qv, qm⟩ : InQ) := (by simpa using hq); exact HWI.out) (show (1 : Nat) ≤ maxLen by decide)
            have hinb : Calls Tryz.prog 46 #[.slice (some ⟨w2.heap.size, 0, none⟩) 1 1] ((w2.alloc (.cells #[.int .i64 qt, .int .i64 qk, .int .i64 qv, .int .i64 qm] 104)).drew) _ := hinb
            have hb : ∀ w', Below w2.heap.size w2 w' → ((w').cell? ⟨g, 11, none⟩ = some (.int .i64 qt) ∧ (w').cell? ⟨g, 12, none⟩ = some (.int .i64 qk) ∧ (w').cell? ⟨g, 13, none⟩ = some (.int .i64 qv) ∧ (w').cell? ⟨g, 14, none⟩ = some (.int .i64 qm)) := fun w' hb => ⟨(hb.cell hlg).trans u11, (hb.cell hlg).trans u12, (hb.cell hlg).trans u13, (hb.cell hlg).trans u14⟩
            have HB := Lib.hid hb
            have HINa := Lib.hid hina
            have HINb := Lib.hid hinb
            have HII := Lib.hid hii
            clear hina hinb hii h3 h3b hb
            refine wp_region_held_drew (S := fun _ => True) (by kernel_rfl) trivial (fun _ => ?_)
            refine wpAnyH_take (i := 0) (v := ?_) rfl (by kernel_rfl) (by kernel_rfl) (by kernel_rfl) (fun _ _ _ h => h) (Or.inl ⟨by rfl, ?_⟩) trivial ?_
            rotate_left
            · (intro w _; go_simp; try with_reducible rfl)
            simp only [Act.put, List.setIfInBounds_toArray, List.set_cons_zero, List.set_cons_succ]
            refine wpAnyH_take (i := 6) (v := ?_) rfl (by kernel_rfl) (by kernel_rfl) (by kernel_rfl) (fun _ _ _ h => h) (Or.inl ⟨by rfl, ?_⟩) trivial ?_
            rotate_left
            · (intro w _; go_simp; try with_reducible rfl)
            simp only [Act.put, List.setIfInBounds_toArray, List.set_cons_zero, List.set_cons_succ]
            refine wpAnyH_ready (rs := [1]) (by kernel_rfl) (by simp) ?_
            refine AllReadyH.cons rfl (fun K hK => ?_) AllReadyH.nil
            go_simp
            refine hK.out _ _ trivial (fun _ => ?_)
            clear hK K
            try simp only [Act.put, List.setIfInBounds_toArray, List.set_cons_zero, List.set_cons_succ]
            refine wpAnyH_ready (rs := [2]) (by kernel_rfl) (by simp) ?_
            refine AllReadyH.cons rfl (fun K hK => ?_) AllReadyH.nil
            go_simp
            refine hK.out _ _ trivial (fun _ => ?_)
            clear hK K
            try simp only [Act.put, List.setIfInBounds_toArray, List.set_cons_zero, List.set_cons_succ]
            refine wpAnyH_ready (rs := [3]) (by kernel_rfl) (by simp) ?_
            refine AllReadyH.cons rfl (fun K hK => ?_) AllReadyH.nil
            go_simp
            go_wp2_with (first
                | (go_at_call 46; (with_reducible refine HINa.out.mono ?_); rintro e w3 ⟨vi, rfl, h5⟩; have h5 : St w0 w3 [sepL L, ownP 67 15 ActR.cells (.slice va us.length vc) us, poolP actP us, pt g (.cells #[.int .i64 kd, .int .i64 tn, .int .i64 fr, .int .i64 nn, .slice oa ops.length oc, .slice na ns.length nc, .int .i64 sz, .int .i64 sl, .int .i64 ag, .int .i64 sk, .int .i64 fd, .int .i64 qt, .int .i64 qk, .int .i64 qv, .int .i64 qm] 106 (0, 0)), pt g2 (.cells #[.int .i64 0, .int .i64 (within tn 0 3), .int .i64 (within fr (-1) 6), .int .i64 (within nn (-1) 9), .slice none 0 0, .int .i64 0, .int .i64 0, .int .i64 0, .int .i64 0, .int .i64 0, .bool false, .int .i64 0, .int .i64 0, .int .i64 0, .int .u64 0] 67 (0, 0)), pt w2.heap.size (.cells #[.int .i64 qt, .int .i64 qk, .int .i64 qv, .int .i64 qm] 104 (0, 0)), ownP 65 5 Inp.cells vi [inpOf (⟨qt, qk, qv, qm⟩ : InQ)]] := h5; rw [HII.out] at h5; obtain ⟨xa, xc, rfl, _⟩ := h5.sl Inp.len 6 rfl; obtain ⟨b8, o8, rfl, hb8, d0, d1, d2, d3, d4⟩ := (h5.slOf Inp.len 6 rfl).inAt 0 (by show 0 < 1; omega); simp only [List.length_cons, List.length_nil, List.getElem?_cons_zero, Option.getD_some, Nat.zero_mul, Nat.add_zero, Nat.zero_add] at d0 d1 d2 d3 d4 h5 ⊢; obtain ⟨zz, fz⟩ := blkCells (h5.blk 4 rfl).1; have hlg2 := (h5.blk 4 rfl).2.2; clear z0; have z0 : w3.cell? ⟨g2, 0, none⟩ = some (.int .i64 0) := (zz 0).trans rfl; have z10 : w3.cell? ⟨g2, 10, none⟩ = some (.bool false) := (zz 10).trans rfl; have z11 : w3.cell? ⟨g2, 11, none⟩ = some (.int .i64 0) := (zz 11).trans rfl; have z12 : w3.cell? ⟨g2, 12, none⟩ = some (.int .i64 0) := (zz 12).trans rfl; have z13 : w3.cell? ⟨g2, 13, none⟩ = some (.int .i64 0) := (zz 13).trans rfl; have z14 : w3.cell? ⟨g2, 14, none⟩ = some (.int .u64 0) := (zz 14).trans rfl; have h6 := h5.set 4 rfl 0 (.int .i64 2); have h7 := (((((h6).set 4 rfl 10 (.bool ii.mark)).set 4 rfl 11 (.int .i64 ii.ev.time)).set 4 rfl 12 (.int .i64 ii.ev.key)).set 4 rfl 13 (.int .i64 ii.ev.value)).set 4 rfl 14 (.int .u64 ii.ev.label); obtain ⟨b9, o9, e9, hb9, f0, f1, f2, f3, f4⟩ := (h6.slOf Inp.len 6 rfl).inAt 0 (by show 0 < 1; omega); cases e9; simp only [List.length_cons, List.length_nil, List.getElem?_cons_zero, Option.getD_some, Nat.zero_mul, Nat.add_zero, Nat.zero_add] at f0 f1 f2 f3 f4; have H7 := Lib.hid h7; clear zz h5 h6 h7 HINa HINb)
                | (go_at_call 46; (with_reducible refine HINb.out.mono ?_); rintro e w3 ⟨vi, rfl, h5⟩; have h5 : St w0 w3 [sepL L, ownP 67 15 ActR.cells (.slice va us.length vc) us, poolP actP us, pt g (.cells #[.int .i64 kd, .int .i64 tn, .int .i64 fr, .int .i64 nn, .slice oa ops.length oc, .slice na ns.length nc, .int .i64 sz, .int .i64 sl, .int .i64 ag, .int .i64 sk, .int .i64 fd, .int .i64 qt, .int .i64 qk, .int .i64 qv, .int .i64 qm] 106 (0, 0)), pt g2 (.cells #[.int .i64 0, .int .i64 (within tn 0 3), .int .i64 (within fr (-1) 6), .int .i64 (within nn (-1) 9), .slice none 0 0, .int .i64 0, .int .i64 0, .int .i64 0, .int .i64 0, .int .i64 0, .bool false, .int .i64 0, .int .i64 0, .int .i64 0, .int .u64 0] 67 (0, 0)), pt w2.heap.size (.cells #[.int .i64 qt, .int .i64 qk, .int .i64 qv, .int .i64 qm] 104 (0, 0)), ownP 65 5 Inp.cells vi [inpOf (⟨qt, qk, qv, qm⟩ : InQ)]] := h5; rw [HII.out] at h5; obtain ⟨xa, xc, rfl, _⟩ := h5.sl Inp.len 6 rfl; obtain ⟨b8, o8, rfl, hb8, d0, d1, d2, d3, d4⟩ := (h5.slOf Inp.len 6 rfl).inAt 0 (by show 0 < 1; omega); simp only [List.length_cons, List.length_nil, List.getElem?_cons_zero, Option.getD_some, Nat.zero_mul, Nat.add_zero, Nat.zero_add] at d0 d1 d2 d3 d4 h5 ⊢; obtain ⟨zz, fz⟩ := blkCells (h5.blk 4 rfl).1; have hlg2 := (h5.blk 4 rfl).2.2; clear z0; have z0 : w3.cell? ⟨g2, 0, none⟩ = some (.int .i64 0) := (zz 0).trans rfl; have z10 : w3.cell? ⟨g2, 10, none⟩ = some (.bool false) := (zz 10).trans rfl; have z11 : w3.cell? ⟨g2, 11, none⟩ = some (.int .i64 0) := (zz 11).trans rfl; have z12 : w3.cell? ⟨g2, 12, none⟩ = some (.int .i64 0) := (zz 12).trans rfl; have z13 : w3.cell? ⟨g2, 13, none⟩ = some (.int .i64 0) := (zz 13).trans rfl; have z14 : w3.cell? ⟨g2, 14, none⟩ = some (.int .u64 0) := (zz 14).trans rfl; have h6 := h5.set 4 rfl 0 (.int .i64 2); have h7 := (((((h6).set 4 rfl 10 (.bool ii.mark)).set 4 rfl 11 (.int .i64 ii.ev.time)).set 4 rfl 12 (.int .i64 ii.ev.key)).set 4 rfl 13 (.int .i64 ii.ev.value)).set 4 rfl 14 (.int .u64 ii.ev.label); obtain ⟨b9, o9, e9, hb9, f0, f1, f2, f3, f4⟩ := (h6.slOf Inp.len 6 rfl).inAt 0 (by show 0 < 1; omega); cases e9; simp only [List.length_cons, List.length_nil, List.getElem?_cons_zero, Option.getD_some, Nat.zero_mul, Nat.add_zero, Nat.zero_add] at f0 f1 f2 f3 f4; have H7 := Lib.hid h7; clear zz h5 h6 h7 HINa HINb))
            refine hK.out _ _ trivial (fun _ => ?_)
            clear hK K
            try simp only [Act.put, List.setIfInBounds_toArray, List.set_cons_zero, List.set_cons_succ]
            refine wpAnyH_ready (rs := [4, 7]) (by kernel_rfl) (by simp) ?_
            refine AllReadyH.cons rfl (fun K hK => ?_) (AllReadyH.cons rfl (fun K hK => ?_) AllReadyH.nil)
            · skip
              go_simp
              refine hK.out _ _ trivial (fun _ => ?_)
              clear hK K
              try simp only [Act.put, List.setIfInBounds_toArray, List.set_cons_zero, List.set_cons_succ]
              refine wpAnyH_ready (rs := [5, 7]) (by kernel_rfl) (by simp) ?_
              refine AllReadyH.cons rfl (fun K hK => ?_) (AllReadyH.cons rfl (fun K hK => ?_) AllReadyH.nil)
              · skip
                go_simp
                refine hK.out _ _ trivial (fun _ => ?_)
                clear hK K
                try simp only [Act.put, List.setIfInBounds_toArray, List.set_cons_zero, List.set_cons_succ]
                refine wpAnyH_ready (rs := [7]) (by kernel_rfl) (by simp) ?_
                refine AllReadyH.cons rfl (fun K hK => ?_) AllReadyH.nil
                go_simp
                refine hK.out _ _ trivial (fun _ => ?_)
                clear hK K
                try simp only [Act.put, List.setIfInBounds_toArray, List.set_cons_zero, List.set_cons_succ]
                refine wpAnyH_take (i := 8) (v := ?_) rfl (by kernel_rfl) (by kernel_rfl) (by kernel_rfl) (fun _ _ _ h => h) (Or.inl ⟨by rfl, ?_⟩) trivial ?_
                rotate_left
                · (intro w _; go_simp; try with_reducible rfl)
                simp only [Act.put, List.setIfInBounds_toArray, List.set_cons_zero, List.set_cons_succ]
                refine wpAnyH_ready (rs := [9]) (by kernel_rfl) (by simp) ?_
                refine AllReadyH.cons rfl (fun K hK => ?_) AllReadyH.nil
                go_simp
                refine hK.out _ _ trivial (fun _ => ?_)
                clear hK K
                try simp only [Act.put, List.setIfInBounds_toArray, List.set_cons_zero, List.set_cons_succ]
                refine wpAnyH_done (by kernel_rfl) ?_ _
                go_wp2
                go_meet
                exact ⟨(⟨2, within tn 0 3, within fr (-1) 6, within nn (-1) 9, none, 0, Pp.zero, ii⟩ : ActR), ((actOf_off HK1.out).trans (by rw [HII.out]; rfl)).symm, acts_fin0 (⟨2, within tn 0 3, within fr (-1) 6, within nn (-1) 9, none, 0, Pp.zero, ii⟩ : ActR) (H7.out.pick [0, 1, 2, 3, 4] (by decide)) rfl rfl rfl⟩
              · skip
                go_simp
                refine hK.out _ _ trivial (fun _ => ?_)
                clear hK K
                try simp only [Act.put, List.setIfInBounds_toArray, List.set_cons_zero, List.set_cons_succ]
                refine wpAnyH_ready (rs := [5]) (by kernel_rfl) (by simp) ?_
                refine AllReadyH.cons rfl (fun K hK => ?_) AllReadyH.nil
                go_simp
                refine hK.out _ _ trivial (fun _ => ?_)
                clear hK K
                try simp only [Act.put, List.setIfInBounds_toArray, List.set_cons_zero, List.set_cons_succ]
                refine wpAnyH_take (i := 8) (v := ?_) rfl (by kernel_rfl) (by kernel_rfl) (by kernel_rfl) (fun _ _ _ h => h) (Or.inl ⟨by rfl, ?_⟩) trivial ?_
                rotate_left
                · (intro w _; go_simp; try with_reducible rfl)
                simp only [Act.put, List.setIfInBounds_toArray, List.set_cons_zero, List.set_cons_succ]
                refine wpAnyH_ready (rs := [9]) (by kernel_rfl) (by simp) ?_
                refine AllReadyH.cons rfl (fun K hK => ?_) AllReadyH.nil
                go_simp
                refine hK.out _ _ trivial (fun _ => ?_)
                clear hK K
                try simp only [Act.put, List.setIfInBounds_toArray, List.set_cons_zero, List.set_cons_succ]
                refine wpAnyH_done (by kernel_rfl) ?_ _
                go_wp2
                go_meet
                exact ⟨(⟨2, within tn 0 3, within fr (-1) 6, within nn (-1) 9, none, 0, Pp.zero, ii⟩ : ActR), ((actOf_off HK1.out).trans (by rw [HII.out]; rfl)).symm, acts_fin0 (⟨2, within tn 0 3, within fr (-1) 6, within nn (-1) 9, none, 0, Pp.zero, ii⟩ : ActR) (H7.out.pick [0, 1, 2, 3, 4] (by decide)) rfl rfl rfl⟩
            · skip
              go_simp
              refine hK.out _ _ trivial (fun _ => ?_)
              clear hK K
              try simp only [Act.put, List.setIfInBounds_toArray, List.set_cons_zero, List.set_cons_succ]
              refine wpAnyH_ready (rs := [4]) (by kernel_rfl) (by simp) ?_
              refine AllReadyH.cons rfl (fun K hK => ?_) AllReadyH.nil
              go_simp
              refine hK.out _ _ trivial (fun _ => ?_)
              clear hK K
              try simp only [Act.put, List.setIfInBounds_toArray, List.set_cons_zero, List.set_cons_succ]
              refine wpAnyH_ready (rs := [5]) (by kernel_rfl) (by simp) ?_
              refine AllReadyH.cons rfl (fun K hK => ?_) AllReadyH.nil
              go_simp
              refine hK.out _ _ trivial (fun _ => ?_)
              clear hK K
              try simp only [Act.put, List.setIfInBounds_toArray, List.set_cons_zero, List.set_cons_succ]
              refine wpAnyH_take (i := 8) (v := ?_) rfl (by kernel_rfl) (by kernel_rfl) (by kernel_rfl) (fun _ _ _ h => h) (Or.inl ⟨by rfl, ?_⟩) trivial ?_
              rotate_left
              · (intro w _; go_simp; try with_reducible rfl)
              simp only [Act.put, List.setIfInBounds_toArray, List.set_cons_zero, List.set_cons_succ]
              refine wpAnyH_ready (rs := [9]) (by kernel_rfl) (by simp) ?_
              refine AllReadyH.cons rfl (fun K hK => ?_) AllReadyH.nil
              go_simp
              refine hK.out _ _ trivial (fun _ => ?_)
              clear hK K
              try simp only [Act.put, List.setIfInBounds_toArray, List.set_cons_zero, List.set_cons_succ]
              refine wpAnyH_done (by kernel_rfl) ?_ _
              go_wp2
              go_meet
              exact ⟨(⟨2, within tn 0 3, within fr (-1) 6, within nn (-1) 9, none, 0, Pp.zero, ii⟩ : ActR), ((actOf_off HK1.out).trans (by rw [HII.out]; rfl)).symm, acts_fin0 (⟨2, within tn 0 3, within fr (-1) 6, within nn (-1) 9, none, 0, Pp.zero, ii⟩ : ActR) (H7.out.pick [0, 1, 2, 3, 4] (by decide)) rfl rfl rfl⟩
          · subst hc
            have hk1 : kindOf kd = 2 := by rw [HKO.out]; decide
            have HK1 := Lib.hid hk1
            clear hk1 HWC HKO
            obtain ⟨ii, hii⟩ : ∃ ii, inpOf (⟨qt, qk, qv, qm⟩ : InQ) = ii := ⟨_, rfl⟩
            go_upto_region 16 with fail
            have h3 : St w0 (w2.drew.alloc (.cells #[.int .i64 qt, .int .i64 qk, .int .i64 qv, .int .i64 qm] 104)) [sepL L, ownP 67 15 ActR.cells (.slice va us.length vc) us, poolP actP us, pt g (.cells #[.int .i64 kd, .int .i64 tn, .int .i64 fr, .int .i64 nn, .slice oa ops.length oc, .slice na ns.length nc, .int .i64 sz, .int .i64 sl, .int .i64 ag, .int .i64 sk, .int .i64 fd, .int .i64 qt, .int .i64 qk, .int .i64 qv, .int .i64 qm] 106 (0, 0)), pt g2 (.cells #[.int .i64 0, .int .i64 (within tn 0 3), .int .i64 (within fr (-1) 6), .int .i64 (within nn (-1) 9), .slice none 0 0, .int .i64 0, .int .i64 0, .int .i64 0, .int .i64 0, .int .i64 0, .bool false, .int .i64 0, .int .i64 0, .int .i64 0, .int .u64 0] 67 (0, 0)), pt w2.heap.size (.cells #[.int .i64 qt, .int .i64 qk, .int .i64 qv, .int .i64 qm] 104 (0, 0))] := H2.out.drew.alloc (.cells #[.int .i64 qt, .int .i64 qk, .int .i64 qv, .int .i64 qm] 104)
            have hina := inputs_st h3 (some ⟨w2.heap.size, 0, none⟩) 1 [(⟨qt, qk, qv, qm⟩ : InQ)] (Seen.pt InQ.len 5 rfl) (by intro q hq; obtain rfl : q = (⟨qt, qk, qv, qm⟩ : InQ) := (by simpa using hq); exact HWI.out) (show (1 : Nat) ≤ maxLen by decide)
            have hina : Calls Tryz.prog 46 #[.slice (some ⟨w2.heap.size, 0, none⟩) 1 1] (w2.drew.alloc (.cells #[.int .i64 qt, .int .i64 qk, .int .i64 qv, .int .i64 qm] 104)) _ := hina
            have h3b : St w0 ((w2.alloc (.cells #[.int .i64 qt, .int .i64 qk, .int .i64 qv, .int .i64 qm] 104)).drew) [sepL L, ownP 67 15 ActR.cells (.slice va us.length vc) us, poolP actP us, pt g (.cells #[.int .i64 kd, .int .i64 tn, .int .i64 fr, .int .i64 nn, .slice oa ops.length oc, .slice na ns.length nc, .int .i64 sz, .int .i64 sl, .int .i64 ag, .int .i64 sk, .int .i64 fd, .int .i64 qt, .int .i64 qk, .int .i64 qv, .int .i64 qm] 106 (0, 0)), pt g2 (.cells #[.int .i64 0, .int .i64 (within tn 0 3), .int .i64 (within fr (-1) 6), .int .i64 (within nn (-1) 9), .slice none 0 0, .int .i64 0, .int .i64 0, .int .i64 0, .int .i64 0, .int .i64 0, .bool false, .int .i64 0, .int .i64 0, .int .i64 0, .int .u64 0] 67 (0, 0)), pt w2.heap.size (.cells #[.int .i64 qt, .int .i64 qk, .int .i64 qv, .int .i64 qm] 104 (0, 0))] := (H2.out.alloc (.cells #[.int .i64 qt, .int .i64 qk, .int .i64 qv, .int .i64 qm] 104)).drew
            have hinb := inputs_st h3b (some ⟨w2.heap.size, 0, none⟩) 1 [(⟨qt, qk, qv, qm⟩ : InQ)] (Seen.pt InQ.len 5 rfl) (by intro q hq; obtain rfl : q = (⟨qt, qk, qv, qm⟩ : InQ) := (by simpa using hq); exact HWI.out) (show (1 : Nat) ≤ maxLen by decide)
            have hinb : Calls Tryz.prog 46 #[.slice (some ⟨w2.heap.size, 0, none⟩) 1 1] ((w2.alloc (.cells #[.int .i64 qt, .int .i64 qk, .int .i64 qv, .int .i64 qm] 104)).drew) _ := hinb
            have hb : ∀ w', Below w2.heap.size w2 w' → ((w').cell? ⟨g, 11, none⟩ = some (.int .i64 qt) ∧ (w').cell? ⟨g, 12, none⟩ = some (.int .i64 qk) ∧ (w').cell? ⟨g, 13, none⟩ = some (.int .i64 qv) ∧ (w').cell? ⟨g, 14, none⟩ = some (.int .i64 qm)) := fun w' hb => ⟨(hb.cell hlg).trans u11, (hb.cell hlg).trans u12, (hb.cell hlg).trans u13, (hb.cell hlg).trans u14⟩
            have HB := Lib.hid hb
            have HINa := Lib.hid hina
            have HINb := Lib.hid hinb
            have HII := Lib.hid hii
            clear hina hinb hii h3 h3b hb
            refine wp_region_held_drew (S := fun _ => True) (by kernel_rfl) trivial (fun _ => ?_)
            refine wpAnyH_take (i := 0) (v := ?_) rfl (by kernel_rfl) (by kernel_rfl) (by kernel_rfl) (fun _ _ _ h => h) (Or.inl ⟨by rfl, ?_⟩) trivial ?_
            rotate_left
            · (intro w _; go_simp; try with_reducible rfl)
            simp only [Act.put, List.setIfInBounds_toArray, List.set_cons_zero, List.set_cons_succ]
            refine wpAnyH_take (i := 6) (v := ?_) rfl (by kernel_rfl) (by kernel_rfl) (by kernel_rfl) (fun _ _ _ h => h) (Or.inl ⟨by rfl, ?_⟩) trivial ?_
            rotate_left
            · (intro w _; go_simp; try with_reducible rfl)
            simp only [Act.put, List.setIfInBounds_toArray, List.set_cons_zero, List.set_cons_succ]
            refine wpAnyH_ready (rs := [1]) (by kernel_rfl) (by simp) ?_
            refine AllReadyH.cons rfl (fun K hK => ?_) AllReadyH.nil
            go_simp
            refine hK.out _ _ trivial (fun _ => ?_)
            clear hK K
            try simp only [Act.put, List.setIfInBounds_toArray, List.set_cons_zero, List.set_cons_succ]
            refine wpAnyH_ready (rs := [2]) (by kernel_rfl) (by simp) ?_
            refine AllReadyH.cons rfl (fun K hK => ?_) AllReadyH.nil
            go_simp
            refine hK.out _ _ trivial (fun _ => ?_)
            clear hK K
            try simp only [Act.put, List.setIfInBounds_toArray, List.set_cons_zero, List.set_cons_succ]
            refine wpAnyH_ready (rs := [3]) (by kernel_rfl) (by simp) ?_
            refine AllReadyH.cons rfl (fun K hK => ?_) AllReadyH.nil
            go_simp
            go_wp2_with (first
                | (go_at_call 46; (with_reducible refine HINa.out.mono ?_); rintro e w3 ⟨vi, rfl, h5⟩; have h5 : St w0 w3 [sepL L, ownP 67 15 ActR.cells (.slice va us.length vc) us, poolP actP us, pt g (.cells #[.int .i64 kd, .int .i64 tn, .int .i64 fr, .int .i64 nn, .slice oa ops.length oc, .slice na ns.length nc, .int .i64 sz, .int .i64 sl, .int .i64 ag, .int .i64 sk, .int .i64 fd, .int .i64 qt, .int .i64 qk, .int .i64 qv, .int .i64 qm] 106 (0, 0)), pt g2 (.cells #[.int .i64 0, .int .i64 (within tn 0 3), .int .i64 (within fr (-1) 6), .int .i64 (within nn (-1) 9), .slice none 0 0, .int .i64 0, .int .i64 0, .int .i64 0, .int .i64 0, .int .i64 0, .bool false, .int .i64 0, .int .i64 0, .int .i64 0, .int .u64 0] 67 (0, 0)), pt w2.heap.size (.cells #[.int .i64 qt, .int .i64 qk, .int .i64 qv, .int .i64 qm] 104 (0, 0)), ownP 65 5 Inp.cells vi [inpOf (⟨qt, qk, qv, qm⟩ : InQ)]] := h5; rw [HII.out] at h5; obtain ⟨xa, xc, rfl, _⟩ := h5.sl Inp.len 6 rfl; obtain ⟨b8, o8, rfl, hb8, d0, d1, d2, d3, d4⟩ := (h5.slOf Inp.len 6 rfl).inAt 0 (by show 0 < 1; omega); simp only [List.length_cons, List.length_nil, List.getElem?_cons_zero, Option.getD_some, Nat.zero_mul, Nat.add_zero, Nat.zero_add] at d0 d1 d2 d3 d4 h5 ⊢; obtain ⟨zz, fz⟩ := blkCells (h5.blk 4 rfl).1; have hlg2 := (h5.blk 4 rfl).2.2; clear z0; have z0 : w3.cell? ⟨g2, 0, none⟩ = some (.int .i64 0) := (zz 0).trans rfl; have z10 : w3.cell? ⟨g2, 10, none⟩ = some (.bool false) := (zz 10).trans rfl; have z11 : w3.cell? ⟨g2, 11, none⟩ = some (.int .i64 0) := (zz 11).trans rfl; have z12 : w3.cell? ⟨g2, 12, none⟩ = some (.int .i64 0) := (zz 12).trans rfl; have z13 : w3.cell? ⟨g2, 13, none⟩ = some (.int .i64 0) := (zz 13).trans rfl; have z14 : w3.cell? ⟨g2, 14, none⟩ = some (.int .u64 0) := (zz 14).trans rfl; have h6 := h5.set 4 rfl 0 (.int .i64 2); have h7 := (((((h6).set 4 rfl 10 (.bool ii.mark)).set 4 rfl 11 (.int .i64 ii.ev.time)).set 4 rfl 12 (.int .i64 ii.ev.key)).set 4 rfl 13 (.int .i64 ii.ev.value)).set 4 rfl 14 (.int .u64 ii.ev.label); obtain ⟨b9, o9, e9, hb9, f0, f1, f2, f3, f4⟩ := (h6.slOf Inp.len 6 rfl).inAt 0 (by show 0 < 1; omega); cases e9; simp only [List.length_cons, List.length_nil, List.getElem?_cons_zero, Option.getD_some, Nat.zero_mul, Nat.add_zero, Nat.zero_add] at f0 f1 f2 f3 f4; have H7 := Lib.hid h7; clear zz h5 h6 h7 HINa HINb)
                | (go_at_call 46; (with_reducible refine HINb.out.mono ?_); rintro e w3 ⟨vi, rfl, h5⟩; have h5 : St w0 w3 [sepL L, ownP 67 15 ActR.cells (.slice va us.length vc) us, poolP actP us, pt g (.cells #[.int .i64 kd, .int .i64 tn, .int .i64 fr, .int .i64 nn, .slice oa ops.length oc, .slice na ns.length nc, .int .i64 sz, .int .i64 sl, .int .i64 ag, .int .i64 sk, .int .i64 fd, .int .i64 qt, .int .i64 qk, .int .i64 qv, .int .i64 qm] 106 (0, 0)), pt g2 (.cells #[.int .i64 0, .int .i64 (within tn 0 3), .int .i64 (within fr (-1) 6), .int .i64 (within nn (-1) 9), .slice none 0 0, .int .i64 0, .int .i64 0, .int .i64 0, .int .i64 0, .int .i64 0, .bool false, .int .i64 0, .int .i64 0, .int .i64 0, .int .u64 0] 67 (0, 0)), pt w2.heap.size (.cells #[.int .i64 qt, .int .i64 qk, .int .i64 qv, .int .i64 qm] 104 (0, 0)), ownP 65 5 Inp.cells vi [inpOf (⟨qt, qk, qv, qm⟩ : InQ)]] := h5; rw [HII.out] at h5; obtain ⟨xa, xc, rfl, _⟩ := h5.sl Inp.len 6 rfl; obtain ⟨b8, o8, rfl, hb8, d0, d1, d2, d3, d4⟩ := (h5.slOf Inp.len 6 rfl).inAt 0 (by show 0 < 1; omega); simp only [List.length_cons, List.length_nil, List.getElem?_cons_zero, Option.getD_some, Nat.zero_mul, Nat.add_zero, Nat.zero_add] at d0 d1 d2 d3 d4 h5 ⊢; obtain ⟨zz, fz⟩ := blkCells (h5.blk 4 rfl).1; have hlg2 := (h5.blk 4 rfl).2.2; clear z0; have z0 : w3.cell? ⟨g2, 0, none⟩ = some (.int .i64 0) := (zz 0).trans rfl; have z10 : w3.cell? ⟨g2, 10, none⟩ = some (.bool false) := (zz 10).trans rfl; have z11 : w3.cell? ⟨g2, 11, none⟩ = some (.int .i64 0) := (zz 11).trans rfl; have z12 : w3.cell? ⟨g2, 12, none⟩ = some (.int .i64 0) := (zz 12).trans rfl; have z13 : w3.cell? ⟨g2, 13, none⟩ = some (.int .i64 0) := (zz 13).trans rfl; have z14 : w3.cell? ⟨g2, 14, none⟩ = some (.int .u64 0) := (zz 14).trans rfl; have h6 := h5.set 4 rfl 0 (.int .i64 2); have h7 := (((((h6).set 4 rfl 10 (.bool ii.mark)).set 4 rfl 11 (.int .i64 ii.ev.time)).set 4 rfl 12 (.int .i64 ii.ev.key)).set 4 rfl 13 (.int .i64 ii.ev.value)).set 4 rfl 14 (.int .u64 ii.ev.label); obtain ⟨b9, o9, e9, hb9, f0, f1, f2, f3, f4⟩ := (h6.slOf Inp.len 6 rfl).inAt 0 (by show 0 < 1; omega); cases e9; simp only [List.length_cons, List.length_nil, List.getElem?_cons_zero, Option.getD_some, Nat.zero_mul, Nat.add_zero, Nat.zero_add] at f0 f1 f2 f3 f4; have H7 := Lib.hid h7; clear zz h5 h6 h7 HINa HINb))
            refine hK.out _ _ trivial (fun _ => ?_)
            clear hK K
            try simp only [Act.put, List.setIfInBounds_toArray, List.set_cons_zero, List.set_cons_succ]
            refine wpAnyH_ready (rs := [4, 7]) (by kernel_rfl) (by simp) ?_
            refine AllReadyH.cons rfl (fun K hK => ?_) (AllReadyH.cons rfl (fun K hK => ?_) AllReadyH.nil)
            · skip
              go_simp
              refine hK.out _ _ trivial (fun _ => ?_)
              clear hK K
              try simp only [Act.put, List.setIfInBounds_toArray, List.set_cons_zero, List.set_cons_succ]
              refine wpAnyH_ready (rs := [5, 7]) (by kernel_rfl) (by simp) ?_
              refine AllReadyH.cons rfl (fun K hK => ?_) (AllReadyH.cons rfl (fun K hK => ?_) AllReadyH.nil)
              · skip
                go_simp
                refine hK.out _ _ trivial (fun _ => ?_)
                clear hK K
                try simp only [Act.put, List.setIfInBounds_toArray, List.set_cons_zero, List.set_cons_succ]
                refine wpAnyH_ready (rs := [7]) (by kernel_rfl) (by simp) ?_
                refine AllReadyH.cons rfl (fun K hK => ?_) AllReadyH.nil
                go_simp
                refine hK.out _ _ trivial (fun _ => ?_)
                clear hK K
                try simp only [Act.put, List.setIfInBounds_toArray, List.set_cons_zero, List.set_cons_succ]
                refine wpAnyH_take (i := 8) (v := ?_) rfl (by kernel_rfl) (by kernel_rfl) (by kernel_rfl) (fun _ _ _ h => h) (Or.inl ⟨by rfl, ?_⟩) trivial ?_
                rotate_left
                · (intro w _; go_simp; try with_reducible rfl)
                simp only [Act.put, List.setIfInBounds_toArray, List.set_cons_zero, List.set_cons_succ]
                refine wpAnyH_ready (rs := [9]) (by kernel_rfl) (by simp) ?_
                refine AllReadyH.cons rfl (fun K hK => ?_) AllReadyH.nil
                go_simp
                refine hK.out _ _ trivial (fun _ => ?_)
                clear hK K
                try simp only [Act.put, List.setIfInBounds_toArray, List.set_cons_zero, List.set_cons_succ]
                refine wpAnyH_done (by kernel_rfl) ?_ _
                go_wp2
                go_meet
                exact ⟨(⟨2, within tn 0 3, within fr (-1) 6, within nn (-1) 9, none, 0, Pp.zero, ii⟩ : ActR), ((actOf_off HK1.out).trans (by rw [HII.out]; rfl)).symm, acts_fin0 (⟨2, within tn 0 3, within fr (-1) 6, within nn (-1) 9, none, 0, Pp.zero, ii⟩ : ActR) (H7.out.pick [0, 1, 2, 3, 4] (by decide)) rfl rfl rfl⟩
              · skip
                go_simp
                refine hK.out _ _ trivial (fun _ => ?_)
                clear hK K
                try simp only [Act.put, List.setIfInBounds_toArray, List.set_cons_zero, List.set_cons_succ]
                refine wpAnyH_ready (rs := [5]) (by kernel_rfl) (by simp) ?_
                refine AllReadyH.cons rfl (fun K hK => ?_) AllReadyH.nil
                go_simp
                refine hK.out _ _ trivial (fun _ => ?_)
                clear hK K
                try simp only [Act.put, List.setIfInBounds_toArray, List.set_cons_zero, List.set_cons_succ]
                refine wpAnyH_take (i := 8) (v := ?_) rfl (by kernel_rfl) (by kernel_rfl) (by kernel_rfl) (fun _ _ _ h => h) (Or.inl ⟨by rfl, ?_⟩) trivial ?_
                rotate_left
                · (intro w _; go_simp; try with_reducible rfl)
                simp only [Act.put, List.setIfInBounds_toArray, List.set_cons_zero, List.set_cons_succ]
                refine wpAnyH_ready (rs := [9]) (by kernel_rfl) (by simp) ?_
                refine AllReadyH.cons rfl (fun K hK => ?_) AllReadyH.nil
                go_simp
                refine hK.out _ _ trivial (fun _ => ?_)
                clear hK K
                try simp only [Act.put, List.setIfInBounds_toArray, List.set_cons_zero, List.set_cons_succ]
                refine wpAnyH_done (by kernel_rfl) ?_ _
                go_wp2
                go_meet
                exact ⟨(⟨2, within tn 0 3, within fr (-1) 6, within nn (-1) 9, none, 0, Pp.zero, ii⟩ : ActR), ((actOf_off HK1.out).trans (by rw [HII.out]; rfl)).symm, acts_fin0 (⟨2, within tn 0 3, within fr (-1) 6, within nn (-1) 9, none, 0, Pp.zero, ii⟩ : ActR) (H7.out.pick [0, 1, 2, 3, 4] (by decide)) rfl rfl rfl⟩
            · skip
              go_simp
              refine hK.out _ _ trivial (fun _ => ?_)
              clear hK K
              try simp only [Act.put, List.setIfInBounds_toArray, List.set_cons_zero, List.set_cons_succ]
              refine wpAnyH_ready (rs := [4]) (by kernel_rfl) (by simp) ?_
              refine AllReadyH.cons rfl (fun K hK => ?_) AllReadyH.nil
              go_simp
              refine hK.out _ _ trivial (fun _ => ?_)
              clear hK K
              try simp only [Act.put, List.setIfInBounds_toArray, List.set_cons_zero, List.set_cons_succ]
              refine wpAnyH_ready (rs := [5]) (by kernel_rfl) (by simp) ?_
              refine AllReadyH.cons rfl (fun K hK => ?_) AllReadyH.nil
              go_simp
              refine hK.out _ _ trivial (fun _ => ?_)
              clear hK K
              try simp only [Act.put, List.setIfInBounds_toArray, List.set_cons_zero, List.set_cons_succ]
              refine wpAnyH_take (i := 8) (v := ?_) rfl (by kernel_rfl) (by kernel_rfl) (by kernel_rfl) (fun _ _ _ h => h) (Or.inl ⟨by rfl, ?_⟩) trivial ?_
              rotate_left
              · (intro w _; go_simp; try with_reducible rfl)
              simp only [Act.put, List.setIfInBounds_toArray, List.set_cons_zero, List.set_cons_succ]
              refine wpAnyH_ready (rs := [9]) (by kernel_rfl) (by simp) ?_
              refine AllReadyH.cons rfl (fun K hK => ?_) AllReadyH.nil
              go_simp
              refine hK.out _ _ trivial (fun _ => ?_)
              clear hK K
              try simp only [Act.put, List.setIfInBounds_toArray, List.set_cons_zero, List.set_cons_succ]
              refine wpAnyH_done (by kernel_rfl) ?_ _
              go_wp2
              go_meet
              exact ⟨(⟨2, within tn 0 3, within fr (-1) 6, within nn (-1) 9, none, 0, Pp.zero, ii⟩ : ActR), ((actOf_off HK1.out).trans (by rw [HII.out]; rfl)).symm, acts_fin0 (⟨2, within tn 0 3, within fr (-1) 6, within nn (-1) 9, none, 0, Pp.zero, ii⟩ : ActR) (H7.out.pick [0, 1, 2, 3, 4] (by decide)) rfl rfl rfl⟩
          · subst hc
            have hk1 : kindOf kd = 2 := by rw [HKO.out]; decide
            have HK1 := Lib.hid hk1
            clear hk1 HWC HKO
            obtain ⟨ii, hii⟩ : ∃ ii, inpOf (⟨qt, qk, qv, qm⟩ : InQ) = ii := ⟨_, rfl⟩
            go_upto_region 16 with fail
            have h3 : St w0 (w2.drew.alloc (.cells #[.int .i64 qt, .int .i64 qk, .int .i64 qv, .int .i64 qm] 104)) [sepL L, ownP 67 15 ActR.cells (.slice va us.length vc) us, poolP actP us, pt g (.cells #[.int .i64 kd, .int .i64 tn, .int .i64 fr, .int .i64 nn, .slice oa ops.length oc, .slice na ns.length nc, .int .i64 sz, .int .i64 sl, .int .i64 ag, .int .i64 sk, .int .i64 fd, .int .i64 qt, .int .i64 qk, .int .i64 qv, .int .i64 qm] 106 (0, 0)), pt g2 (.cells #[.int .i64 0, .int .i64 (within tn 0 3), .int .i64 (within fr (-1) 6), .int .i64 (within nn (-1) 9), .slice none 0 0, .int .i64 0, .int .i64 0, .int .i64 0, .int .i64 0, .int .i64 0, .bool false, .int .i64 0, .int .i64 0, .int .i64 0, .int .u64 0] 67 (0, 0)), pt w2.heap.size (.cells #[.int .i64 qt, .int .i64 qk, .int .i64 qv, .int .i64 qm] 104 (0, 0))] := H2.out.drew.alloc (.cells #[.int .i64 qt, .int .i64 qk, .int .i64 qv, .int .i64 qm] 104)
            have hina := inputs_st h3 (some ⟨w2.heap.size, 0, none⟩) 1 [(⟨qt, qk, qv, qm⟩ : InQ)] (Seen.pt InQ.len 5 rfl) (by intro q hq; obtain rfl : q = (⟨qt, qk, qv, qm⟩ : InQ) := (by simpa using hq); exact HWI.out) (show (1 : Nat) ≤ maxLen by decide)
            have hina : Calls Tryz.prog 46 #[.slice (some ⟨w2.heap.size, 0, none⟩) 1 1] (w2.drew.alloc (.cells #[.int .i64 qt, .int .i64 qk, .int .i64 qv, .int .i64 qm] 104)) _ := hina
            have h3b : St w0 ((w2.alloc (.cells #[.int .i64 qt, .int .i64 qk, .int .i64 qv, .int .i64 qm] 104)).drew) [sepL L, ownP 67 15 ActR.cells (.slice va us.length vc) us, poolP actP us, pt g (.cells #[.int .i64 kd, .int .i64 tn, .int .i64 fr, .int .i64 nn, .slice oa ops.length oc, .slice na ns.length nc, .int .i64 sz, .int .i64 sl, .int .i64 ag, .int .i64 sk, .int .i64 fd, .int .i64 qt, .int .i64 qk, .int .i64 qv, .int .i64 qm] 106 (0, 0)), pt g2 (.cells #[.int .i64 0, .int .i64 (within tn 0 3), .int .i64 (within fr (-1) 6), .int .i64 (within nn (-1) 9), .slice none 0 0, .int .i64 0, .int .i64 0, .int .i64 0, .int .i64 0, .int .i64 0, .bool false, .int .i64 0, .int .i64 0, .int .i64 0, .int .u64 0] 67 (0, 0)), pt w2.heap.size (.cells #[.int .i64 qt, .int .i64 qk, .int .i64 qv, .int .i64 qm] 104 (0, 0))] := (H2.out.alloc (.cells #[.int .i64 qt, .int .i64 qk, .int .i64 qv, .int .i64 qm] 104)).drew
            have hinb := inputs_st h3b (some ⟨w2.heap.size, 0, none⟩) 1 [(⟨qt, qk, qv, qm⟩ : InQ)] (Seen.pt InQ.len 5 rfl) (by intro q hq; obtain rfl : q = (⟨qt, qk, qv, qm⟩ : InQ) := (by simpa using hq); exact HWI.out) (show (1 : Nat) ≤ maxLen by decide)
            have hinb : Calls Tryz.prog 46 #[.slice (some ⟨w2.heap.size, 0, none⟩) 1 1] ((w2.alloc (.cells #[.int .i64 qt, .int .i64 qk, .int .i64 qv, .int .i64 qm] 104)).drew) _ := hinb
            have hb : ∀ w', Below w2.heap.size w2 w' → ((w').cell? ⟨g, 11, none⟩ = some (.int .i64 qt) ∧ (w').cell? ⟨g, 12, none⟩ = some (.int .i64 qk) ∧ (w').cell? ⟨g, 13, none⟩ = some (.int .i64 qv) ∧ (w').cell? ⟨g, 14, none⟩ = some (.int .i64 qm)) := fun w' hb => ⟨(hb.cell hlg).trans u11, (hb.cell hlg).trans u12, (hb.cell hlg).trans u13, (hb.cell hlg).trans u14⟩
            have HB := Lib.hid hb
            have HINa := Lib.hid hina
            have HINb := Lib.hid hinb
            have HII := Lib.hid hii
            clear hina hinb hii h3 h3b hb
            refine wp_region_held_drew (S := fun _ => True) (by kernel_rfl) trivial (fun _ => ?_)
            refine wpAnyH_take (i := 0) (v := ?_) rfl (by kernel_rfl) (by kernel_rfl) (by kernel_rfl) (fun _ _ _ h => h) (Or.inl ⟨by rfl, ?_⟩) trivial ?_
            rotate_left
            · (intro w _; go_simp; try with_reducible rfl)
            simp only [Act.put, List.setIfInBounds_toArray, List.set_cons_zero, List.set_cons_succ]
            refine wpAnyH_take (i := 6) (v := ?_) rfl (by kernel_rfl) (by kernel_rfl) (by kernel_rfl) (fun _ _ _ h => h) (Or.inl ⟨by rfl, ?_⟩) trivial ?_
            rotate_left
            · (intro w _; go_simp; try with_reducible rfl)
            simp only [Act.put, List.setIfInBounds_toArray, List.set_cons_zero, List.set_cons_succ]
            refine wpAnyH_ready (rs := [1]) (by kernel_rfl) (by simp) ?_
            refine AllReadyH.cons rfl (fun K hK => ?_) AllReadyH.nil
            go_simp
            refine hK.out _ _ trivial (fun _ => ?_)
            clear hK K
            try simp only [Act.put, List.setIfInBounds_toArray, List.set_cons_zero, List.set_cons_succ]
            refine wpAnyH_ready (rs := [2]) (by kernel_rfl) (by simp) ?_
            refine AllReadyH.cons rfl (fun K hK => ?_) AllReadyH.nil
            go_simp
            refine hK.out _ _ trivial (fun _ => ?_)
            clear hK K
            try simp only [Act.put, List.setIfInBounds_toArray, List.set_cons_zero, List.set_cons_succ]
            refine wpAnyH_ready (rs := [3]) (by kernel_rfl) (by simp) ?_
            refine AllReadyH.cons rfl (fun K hK => ?_) AllReadyH.nil
            go_simp
            go_wp2_with (first
                | (go_at_call 46; (with_reducible refine HINa.out.mono ?_); rintro e w3 ⟨vi, rfl, h5⟩; have h5 : St w0 w3 [sepL L, ownP 67 15 ActR.cells (.slice va us.length vc) us, poolP actP us, pt g (.cells #[.int .i64 kd, .int .i64 tn, .int .i64 fr, .int .i64 nn, .slice oa ops.length oc, .slice na ns.length nc, .int .i64 sz, .int .i64 sl, .int .i64 ag, .int .i64 sk, .int .i64 fd, .int .i64 qt, .int .i64 qk, .int .i64 qv, .int .i64 qm] 106 (0, 0)), pt g2 (.cells #[.int .i64 0, .int .i64 (within tn 0 3), .int .i64 (within fr (-1) 6), .int .i64 (within nn (-1) 9), .slice none 0 0, .int .i64 0, .int .i64 0, .int .i64 0, .int .i64 0, .int .i64 0, .bool false, .int .i64 0, .int .i64 0, .int .i64 0, .int .u64 0] 67 (0, 0)), pt w2.heap.size (.cells #[.int .i64 qt, .int .i64 qk, .int .i64 qv, .int .i64 qm] 104 (0, 0)), ownP 65 5 Inp.cells vi [inpOf (⟨qt, qk, qv, qm⟩ : InQ)]] := h5; rw [HII.out] at h5; obtain ⟨xa, xc, rfl, _⟩ := h5.sl Inp.len 6 rfl; obtain ⟨b8, o8, rfl, hb8, d0, d1, d2, d3, d4⟩ := (h5.slOf Inp.len 6 rfl).inAt 0 (by show 0 < 1; omega); simp only [List.length_cons, List.length_nil, List.getElem?_cons_zero, Option.getD_some, Nat.zero_mul, Nat.add_zero, Nat.zero_add] at d0 d1 d2 d3 d4 h5 ⊢; obtain ⟨zz, fz⟩ := blkCells (h5.blk 4 rfl).1; have hlg2 := (h5.blk 4 rfl).2.2; clear z0; have z0 : w3.cell? ⟨g2, 0, none⟩ = some (.int .i64 0) := (zz 0).trans rfl; have z10 : w3.cell? ⟨g2, 10, none⟩ = some (.bool false) := (zz 10).trans rfl; have z11 : w3.cell? ⟨g2, 11, none⟩ = some (.int .i64 0) := (zz 11).trans rfl; have z12 : w3.cell? ⟨g2, 12, none⟩ = some (.int .i64 0) := (zz 12).trans rfl; have z13 : w3.cell? ⟨g2, 13, none⟩ = some (.int .i64 0) := (zz 13).trans rfl; have z14 : w3.cell? ⟨g2, 14, none⟩ = some (.int .u64 0) := (zz 14).trans rfl; have h6 := h5.set 4 rfl 0 (.int .i64 2); have h7 := (((((h6).set 4 rfl 10 (.bool ii.mark)).set 4 rfl 11 (.int .i64 ii.ev.time)).set 4 rfl 12 (.int .i64 ii.ev.key)).set 4 rfl 13 (.int .i64 ii.ev.value)).set 4 rfl 14 (.int .u64 ii.ev.label); obtain ⟨b9, o9, e9, hb9, f0, f1, f2, f3, f4⟩ := (h6.slOf Inp.len 6 rfl).inAt 0 (by show 0 < 1; omega); cases e9; simp only [List.length_cons, List.length_nil, List.getElem?_cons_zero, Option.getD_some, Nat.zero_mul, Nat.add_zero, Nat.zero_add] at f0 f1 f2 f3 f4; have H7 := Lib.hid h7; clear zz h5 h6 h7 HINa HINb)
                | (go_at_call 46; (with_reducible refine HINb.out.mono ?_); rintro e w3 ⟨vi, rfl, h5⟩; have h5 : St w0 w3 [sepL L, ownP 67 15 ActR.cells (.slice va us.length vc) us, poolP actP us, pt g (.cells #[.int .i64 kd, .int .i64 tn, .int .i64 fr, .int .i64 nn, .slice oa ops.length oc, .slice na ns.length nc, .int .i64 sz, .int .i64 sl, .int .i64 ag, .int .i64 sk, .int .i64 fd, .int .i64 qt, .int .i64 qk, .int .i64 qv, .int .i64 qm] 106 (0, 0)), pt g2 (.cells #[.int .i64 0, .int .i64 (within tn 0 3), .int .i64 (within fr (-1) 6), .int .i64 (within nn (-1) 9), .slice none 0 0, .int .i64 0, .int .i64 0, .int .i64 0, .int .i64 0, .int .i64 0, .bool false, .int .i64 0, .int .i64 0, .int .i64 0, .int .u64 0] 67 (0, 0)), pt w2.heap.size (.cells #[.int .i64 qt, .int .i64 qk, .int .i64 qv, .int .i64 qm] 104 (0, 0)), ownP 65 5 Inp.cells vi [inpOf (⟨qt, qk, qv, qm⟩ : InQ)]] := h5; rw [HII.out] at h5; obtain ⟨xa, xc, rfl, _⟩ := h5.sl Inp.len 6 rfl; obtain ⟨b8, o8, rfl, hb8, d0, d1, d2, d3, d4⟩ := (h5.slOf Inp.len 6 rfl).inAt 0 (by show 0 < 1; omega); simp only [List.length_cons, List.length_nil, List.getElem?_cons_zero, Option.getD_some, Nat.zero_mul, Nat.add_zero, Nat.zero_add] at d0 d1 d2 d3 d4 h5 ⊢; obtain ⟨zz, fz⟩ := blkCells (h5.blk 4 rfl).1; have hlg2 := (h5.blk 4 rfl).2.2; clear z0; have z0 : w3.cell? ⟨g2, 0, none⟩ = some (.int .i64 0) := (zz 0).trans rfl; have z10 : w3.cell? ⟨g2, 10, none⟩ = some (.bool false) := (zz 10).trans rfl; have z11 : w3.cell? ⟨g2, 11, none⟩ = some (.int .i64 0) := (zz 11).trans rfl; have z12 : w3.cell? ⟨g2, 12, none⟩ = some (.int .i64 0) := (zz 12).trans rfl; have z13 : w3.cell? ⟨g2, 13, none⟩ = some (.int .i64 0) := (zz 13).trans rfl; have z14 : w3.cell? ⟨g2, 14, none⟩ = some (.int .u64 0) := (zz 14).trans rfl; have h6 := h5.set 4 rfl 0 (.int .i64 2); have h7 := (((((h6).set 4 rfl 10 (.bool ii.mark)).set 4 rfl 11 (.int .i64 ii.ev.time)).set 4 rfl 12 (.int .i64 ii.ev.key)).set 4 rfl 13 (.int .i64 ii.ev.value)).set 4 rfl 14 (.int .u64 ii.ev.label); obtain ⟨b9, o9, e9, hb9, f0, f1, f2, f3, f4⟩ := (h6.slOf Inp.len 6 rfl).inAt 0 (by show 0 < 1; omega); cases e9; simp only [List.length_cons, List.length_nil, List.getElem?_cons_zero, Option.getD_some, Nat.zero_mul, Nat.add_zero, Nat.zero_add] at f0 f1 f2 f3 f4; have H7 := Lib.hid h7; clear zz h5 h6 h7 HINa HINb))
            refine hK.out _ _ trivial (fun _ => ?_)
            clear hK K
            try simp only [Act.put, List.setIfInBounds_toArray, List.set_cons_zero, List.set_cons_succ]
            refine wpAnyH_ready (rs := [4, 7]) (by kernel_rfl) (by simp) ?_
            refine AllReadyH.cons rfl (fun K hK => ?_) (AllReadyH.cons rfl (fun K hK => ?_) AllReadyH.nil)
            · skip
              go_simp
              refine hK.out _ _ trivial (fun _ => ?_)
              clear hK K
              try simp only [Act.put, List.setIfInBounds_toArray, List.set_cons_zero, List.set_cons_succ]
              refine wpAnyH_ready (rs := [5, 7]) (by kernel_rfl) (by simp) ?_
              refine AllReadyH.cons rfl (fun K hK => ?_) (AllReadyH.cons rfl (fun K hK => ?_) AllReadyH.nil)
              · skip
                go_simp
                refine hK.out _ _ trivial (fun _ => ?_)
                clear hK K
                try simp only [Act.put, List.setIfInBounds_toArray, List.set_cons_zero, List.set_cons_succ]
                refine wpAnyH_ready (rs := [7]) (by kernel_rfl) (by simp) ?_
                refine AllReadyH.cons rfl (fun K hK => ?_) AllReadyH.nil
                go_simp
                refine hK.out _ _ trivial (fun _ => ?_)
                clear hK K
                try simp only [Act.put, List.setIfInBounds_toArray, List.set_cons_zero, List.set_cons_succ]
                refine wpAnyH_take (i := 8) (v := ?_) rfl (by kernel_rfl) (by kernel_rfl) (by kernel_rfl) (fun _ _ _ h => h) (Or.inl ⟨by rfl, ?_⟩) trivial ?_
                rotate_left
                · (intro w _; go_simp; try with_reducible rfl)
                simp only [Act.put, List.setIfInBounds_toArray, List.set_cons_zero, List.set_cons_succ]
                refine wpAnyH_ready (rs := [9]) (by kernel_rfl) (by simp) ?_
                refine AllReadyH.cons rfl (fun K hK => ?_) AllReadyH.nil
                go_simp
                refine hK.out _ _ trivial (fun _ => ?_)
                clear hK K
                try simp only [Act.put, List.setIfInBounds_toArray, List.set_cons_zero, List.set_cons_succ]
                refine wpAnyH_done (by kernel_rfl) ?_ _
                go_wp2
                go_meet
                exact ⟨(⟨2, within tn 0 3, within fr (-1) 6, within nn (-1) 9, none, 0, Pp.zero, ii⟩ : ActR), ((actOf_off HK1.out).trans (by rw [HII.out]; rfl)).symm, acts_fin0 (⟨2, within tn 0 3, within fr (-1) 6, within nn (-1) 9, none, 0, Pp.zero, ii⟩ : ActR) (H7.out.pick [0, 1, 2, 3, 4] (by decide)) rfl rfl rfl⟩
              · skip
                go_simp
                refine hK.out _ _ trivial (fun _ => ?_)
                clear hK K
                try simp only [Act.put, List.setIfInBounds_toArray, List.set_cons_zero, List.set_cons_succ]
                refine wpAnyH_ready (rs := [5]) (by kernel_rfl) (by simp) ?_
                refine AllReadyH.cons rfl (fun K hK => ?_) AllReadyH.nil
                go_simp
                refine hK.out _ _ trivial (fun _ => ?_)
                clear hK K
                try simp only [Act.put, List.setIfInBounds_toArray, List.set_cons_zero, List.set_cons_succ]
                refine wpAnyH_take (i := 8) (v := ?_) rfl (by kernel_rfl) (by kernel_rfl) (by kernel_rfl) (fun _ _ _ h => h) (Or.inl ⟨by rfl, ?_⟩) trivial ?_
                rotate_left
                · (intro w _; go_simp; try with_reducible rfl)
                simp only [Act.put, List.setIfInBounds_toArray, List.set_cons_zero, List.set_cons_succ]
                refine wpAnyH_ready (rs := [9]) (by kernel_rfl) (by simp) ?_
                refine AllReadyH.cons rfl (fun K hK => ?_) AllReadyH.nil
                go_simp
                refine hK.out _ _ trivial (fun _ => ?_)
                clear hK K
                try simp only [Act.put, List.setIfInBounds_toArray, List.set_cons_zero, List.set_cons_succ]
                refine wpAnyH_done (by kernel_rfl) ?_ _
                go_wp2
                go_meet
                exact ⟨(⟨2, within tn 0 3, within fr (-1) 6, within nn (-1) 9, none, 0, Pp.zero, ii⟩ : ActR), ((actOf_off HK1.out).trans (by rw [HII.out]; rfl)).symm, acts_fin0 (⟨2, within tn 0 3, within fr (-1) 6, within nn (-1) 9, none, 0, Pp.zero, ii⟩ : ActR) (H7.out.pick [0, 1, 2, 3, 4] (by decide)) rfl rfl rfl⟩
            · skip
              go_simp
              refine hK.out _ _ trivial (fun _ => ?_)
              clear hK K
              try simp only [Act.put, List.setIfInBounds_toArray, List.set_cons_zero, List.set_cons_succ]
              refine wpAnyH_ready (rs := [4]) (by kernel_rfl) (by simp) ?_
              refine AllReadyH.cons rfl (fun K hK => ?_) AllReadyH.nil
              go_simp
              refine hK.out _ _ trivial (fun _ => ?_)
              clear hK K
              try simp only [Act.put, List.setIfInBounds_toArray, List.set_cons_zero, List.set_cons_succ]
              refine wpAnyH_ready (rs := [5]) (by kernel_rfl) (by simp) ?_
              refine AllReadyH.cons rfl (fun K hK => ?_) AllReadyH.nil
              go_simp
              refine hK.out _ _ trivial (fun _ => ?_)
              clear hK K
              try simp only [Act.put, List.setIfInBounds_toArray, List.set_cons_zero, List.set_cons_succ]
              refine wpAnyH_take (i := 8) (v := ?_) rfl (by kernel_rfl) (by kernel_rfl) (by kernel_rfl) (fun _ _ _ h => h) (Or.inl ⟨by rfl, ?_⟩) trivial ?_
              rotate_left
              · (intro w _; go_simp; try with_reducible rfl)
              simp only [Act.put, List.setIfInBounds_toArray, List.set_cons_zero, List.set_cons_succ]
              refine wpAnyH_ready (rs := [9]) (by kernel_rfl) (by simp) ?_
              refine AllReadyH.cons rfl (fun K hK => ?_) AllReadyH.nil
              go_simp
              refine hK.out _ _ trivial (fun _ => ?_)
              clear hK K
              try simp only [Act.put, List.setIfInBounds_toArray, List.set_cons_zero, List.set_cons_succ]
              refine wpAnyH_done (by kernel_rfl) ?_ _
              go_wp2
              go_meet
              exact ⟨(⟨2, within tn 0 3, within fr (-1) 6, within nn (-1) 9, none, 0, Pp.zero, ii⟩ : ActR), ((actOf_off HK1.out).trans (by rw [HII.out]; rfl)).symm, acts_fin0 (⟨2, within tn 0 3, within fr (-1) 6, within nn (-1) 9, none, 0, Pp.zero, ii⟩ : ActR) (H7.out.pick [0, 1, 2, 3, 4] (by decide)) rfl rfl rfl⟩
          · subst hc
            have hk1 : kindOf kd = 2 := by rw [HKO.out]; decide
            have HK1 := Lib.hid hk1
            clear hk1 HWC HKO
            obtain ⟨ii, hii⟩ : ∃ ii, inpOf (⟨qt, qk, qv, qm⟩ : InQ) = ii := ⟨_, rfl⟩
            go_upto_region 16 with fail
            have h3 : St w0 (w2.drew.alloc (.cells #[.int .i64 qt, .int .i64 qk, .int .i64 qv, .int .i64 qm] 104)) [sepL L, ownP 67 15 ActR.cells (.slice va us.length vc) us, poolP actP us, pt g (.cells #[.int .i64 kd, .int .i64 tn, .int .i64 fr, .int .i64 nn, .slice oa ops.length oc, .slice na ns.length nc, .int .i64 sz, .int .i64 sl, .int .i64 ag, .int .i64 sk, .int .i64 fd, .int .i64 qt, .int .i64 qk, .int .i64 qv, .int .i64 qm] 106 (0, 0)), pt g2 (.cells #[.int .i64 0, .int .i64 (within tn 0 3), .int .i64 (within fr (-1) 6), .int .i64 (within nn (-1) 9), .slice none 0 0, .int .i64 0, .int .i64 0, .int .i64 0, .int .i64 0, .int .i64 0, .bool false, .int .i64 0, .int .i64 0, .int .i64 0, .int .u64 0] 67 (0, 0)), pt w2.heap.size (.cells #[.int .i64 qt, .int .i64 qk, .int .i64 qv, .int .i64 qm] 104 (0, 0))] := H2.out.drew.alloc (.cells #[.int .i64 qt, .int .i64 qk, .int .i64 qv, .int .i64 qm] 104)
            have hina := inputs_st h3 (some ⟨w2.heap.size, 0, none⟩) 1 [(⟨qt, qk, qv, qm⟩ : InQ)] (Seen.pt InQ.len 5 rfl) (by intro q hq; obtain rfl : q = (⟨qt, qk, qv, qm⟩ : InQ) := (by simpa using hq); exact HWI.out) (show (1 : Nat) ≤ maxLen by decide)
            have hina : Calls Tryz.prog 46 #[.slice (some ⟨w2.heap.size, 0, none⟩) 1 1] (w2.drew.alloc (.cells #[.int .i64 qt, .int .i64 qk, .int .i64 qv, .int .i64 qm] 104)) _ := hina
            have h3b : St w0 ((w2.alloc (.cells #[.int .i64 qt, .int .i64 qk, .int .i64 qv, .int .i64 qm] 104)).drew) [sepL L, ownP 67 15 ActR.cells (.slice va us.length vc) us, poolP actP us, pt g (.cells #[.int .i64 kd, .int .i64 tn, .int .i64 fr, .int .i64 nn, .slice oa ops.length oc, .slice na ns.length nc, .int .i64 sz, .int .i64 sl, .int .i64 ag, .int .i64 sk, .int .i64 fd, .int .i64 qt, .int .i64 qk, .int .i64 qv, .int .i64 qm] 106 (0, 0)), pt g2 (.cells #[.int .i64 0, .int .i64 (within tn 0 3), .int .i64 (within fr (-1) 6), .int .i64 (within nn (-1) 9), .slice none 0 0, .int .i64 0, .int .i64 0, .int .i64 0, .int .i64 0, .int .i64 0, .bool false, .int .i64 0, .int .i64 0, .int .i64 0, .int .u64 0] 67 (0, 0)), pt w2.heap.size (.cells #[.int .i64 qt, .int .i64 qk, .int .i64 qv, .int .i64 qm] 104 (0, 0))] := (H2.out.alloc (.cells #[.int .i64 qt, .int .i64 qk, .int .i64 qv, .int .i64 qm] 104)).drew
            have hinb := inputs_st h3b (some ⟨w2.heap.size, 0, none⟩) 1 [(⟨qt, qk, qv, qm⟩ : InQ)] (Seen.pt InQ.len 5 rfl) (by intro q hq; obtain rfl : q = (⟨qt, qk, qv, qm⟩ : InQ) := (by simpa using hq); exact HWI.out) (show (1 : Nat) ≤ maxLen by decide)
            have hinb : Calls Tryz.prog 46 #[.slice (some ⟨w2.heap.size, 0, none⟩) 1 1] ((w2.alloc (.cells #[.int .i64 qt, .int .i64 qk, .int .i64 qv, .int .i64 qm] 104)).drew) _ := hinb
            have hb : ∀ w', Below w2.heap.size w2 w' → ((w').cell? ⟨g, 11, none⟩ = some (.int .i64 qt) ∧ (w').cell? ⟨g, 12, none⟩ = some (.int .i64 qk) ∧ (w').cell? ⟨g, 13, none⟩ = some (.int .i64 qv) ∧ (w').cell? ⟨g, 14, none⟩ = some (.int .i64 qm)) := fun w' hb => ⟨(hb.cell hlg).trans u11, (hb.cell hlg).trans u12, (hb.cell hlg).trans u13, (hb.cell hlg).trans u14⟩
            have HB := Lib.hid hb
            have HINa := Lib.hid hina
            have HINb := Lib.hid hinb
            have HII := Lib.hid hii
            clear hina hinb hii h3 h3b hb
            refine wp_region_held_drew (S := fun _ => True) (by kernel_rfl) trivial (fun _ => ?_)
            refine wpAnyH_take (i := 0) (v := ?_) rfl (by kernel_rfl) (by kernel_rfl) (by kernel_rfl) (fun _ _ _ h => h) (Or.inl ⟨by rfl, ?_⟩) trivial ?_
            rotate_left
            · (intro w _; go_simp; try with_reducible rfl)
            simp only [Act.put, List.setIfInBounds_toArray, List.set_cons_zero, List.set_cons_succ]
            refine wpAnyH_take (i := 6) (v := ?_) rfl (by kernel_rfl) (by kernel_rfl) (by kernel_rfl) (fun _ _ _ h => h) (Or.inl ⟨by rfl, ?_⟩) trivial ?_
            rotate_left
            · (intro w _; go_simp; try with_reducible rfl)
            simp only [Act.put, List.setIfInBounds_toArray, List.set_cons_zero, List.set_cons_succ]
            refine wpAnyH_ready (rs := [1]) (by kernel_rfl) (by simp) ?_
            refine AllReadyH.cons rfl (fun K hK => ?_) AllReadyH.nil
            go_simp
            refine hK.out _ _ trivial (fun _ => ?_)
            clear hK K
            try simp only [Act.put, List.setIfInBounds_toArray, List.set_cons_zero, List.set_cons_succ]
            refine wpAnyH_ready (rs := [2]) (by kernel_rfl) (by simp) ?_
            refine AllReadyH.cons rfl (fun K hK => ?_) AllReadyH.nil
            go_simp
            refine hK.out _ _ trivial (fun _ => ?_)
            clear hK K
            try simp only [Act.put, List.setIfInBounds_toArray, List.set_cons_zero, List.set_cons_succ]
            refine wpAnyH_ready (rs := [3]) (by kernel_rfl) (by simp) ?_
            refine AllReadyH.cons rfl (fun K hK => ?_) AllReadyH.nil
            go_simp
            go_wp2_with (first
                | (go_at_call 46; (with_reducible refine HINa.out.mono ?_); rintro e w3 ⟨vi, rfl, h5⟩; have h5 : St w0 w3 [sepL L, ownP 67 15 ActR.cells (.slice va us.length vc) us, poolP actP us, pt g (.cells #[.int .i64 kd, .int .i64 tn, .int .i64 fr, .int .i64 nn, .slice oa ops.length oc, .slice na ns.length nc, .int .i64 sz, .int .i64 sl, .int .i64 ag, .int .i64 sk, .int .i64 fd, .int .i64 qt, .int .i64 qk, .int .i64 qv, .int .i64 qm] 106 (0, 0)), pt g2 (.cells #[.int .i64 0, .int .i64 (within tn 0 3), .int .i64 (within fr (-1) 6), .int .i64 (within nn (-1) 9), .slice none 0 0, .int .i64 0, .int .i64 0, .int .i64 0, .int .i64 0, .int .i64 0, .bool false, .int .i64 0, .int .i64 0, .int .i64 0, .int .u64 0] 67 (0, 0)), pt w2.heap.size (.cells #[.int .i64 qt, .int .i64 qk, .int .i64 qv, .int .i64 qm] 104 (0, 0)), ownP 65 5 Inp.cells vi [inpOf (⟨qt, qk, qv, qm⟩ : InQ)]] := h5; rw [HII.out] at h5; obtain ⟨xa, xc, rfl, _⟩ := h5.sl Inp.len 6 rfl; obtain ⟨b8, o8, rfl, hb8, d0, d1, d2, d3, d4⟩ := (h5.slOf Inp.len 6 rfl).inAt 0 (by show 0 < 1; omega); simp only [List.length_cons, List.length_nil, List.getElem?_cons_zero, Option.getD_some, Nat.zero_mul, Nat.add_zero, Nat.zero_add] at d0 d1 d2 d3 d4 h5 ⊢; obtain ⟨zz, fz⟩ := blkCells (h5.blk 4 rfl).1; have hlg2 := (h5.blk 4 rfl).2.2; clear z0; have z0 : w3.cell? ⟨g2, 0, none⟩ = some (.int .i64 0) := (zz 0).trans rfl; have z10 : w3.cell? ⟨g2, 10, none⟩ = some (.bool false) := (zz 10).trans rfl; have z11 : w3.cell? ⟨g2, 11, none⟩ = some (.int .i64 0) := (zz 11).trans rfl; have z12 : w3.cell? ⟨g2, 12, none⟩ = some (.int .i64 0) := (zz 12).trans rfl; have z13 : w3.cell? ⟨g2, 13, none⟩ = some (.int .i64 0) := (zz 13).trans rfl; have z14 : w3.cell? ⟨g2, 14, none⟩ = some (.int .u64 0) := (zz 14).trans rfl; have h6 := h5.set 4 rfl 0 (.int .i64 2); have h7 := (((((h6).set 4 rfl 10 (.bool ii.mark)).set 4 rfl 11 (.int .i64 ii.ev.time)).set 4 rfl 12 (.int .i64 ii.ev.key)).set 4 rfl 13 (.int .i64 ii.ev.value)).set 4 rfl 14 (.int .u64 ii.ev.label); obtain ⟨b9, o9, e9, hb9, f0, f1, f2, f3, f4⟩ := (h6.slOf Inp.len 6 rfl).inAt 0 (by show 0 < 1; omega); cases e9; simp only [List.length_cons, List.length_nil, List.getElem?_cons_zero, Option.getD_some, Nat.zero_mul, Nat.add_zero, Nat.zero_add] at f0 f1 f2 f3 f4; have H7 := Lib.hid h7; clear zz h5 h6 h7 HINa HINb)
                | (go_at_call 46; (with_reducible refine HINb.out.mono ?_); rintro e w3 ⟨vi, rfl, h5⟩; have h5 : St w0 w3 [sepL L, ownP 67 15 ActR.cells (.slice va us.length vc) us, poolP actP us, pt g (.cells #[.int .i64 kd, .int .i64 tn, .int .i64 fr, .int .i64 nn, .slice oa ops.length oc, .slice na ns.length nc, .int .i64 sz, .int .i64 sl, .int .i64 ag, .int .i64 sk, .int .i64 fd, .int .i64 qt, .int .i64 qk, .int .i64 qv, .int .i64 qm] 106 (0, 0)), pt g2 (.cells #[.int .i64 0, .int .i64 (within tn 0 3), .int .i64 (within fr (-1) 6), .int .i64 (within nn (-1) 9), .slice none 0 0, .int .i64 0, .int .i64 0, .int .i64 0, .int .i64 0, .int .i64 0, .bool false, .int .i64 0, .int .i64 0, .int .i64 0, .int .u64 0] 67 (0, 0)), pt w2.heap.size (.cells #[.int .i64 qt, .int .i64 qk, .int .i64 qv, .int .i64 qm] 104 (0, 0)), ownP 65 5 Inp.cells vi [inpOf (⟨qt, qk, qv, qm⟩ : InQ)]] := h5; rw [HII.out] at h5; obtain ⟨xa, xc, rfl, _⟩ := h5.sl Inp.len 6 rfl; obtain ⟨b8, o8, rfl, hb8, d0, d1, d2, d3, d4⟩ := (h5.slOf Inp.len 6 rfl).inAt 0 (by show 0 < 1; omega); simp only [List.length_cons, List.length_nil, List.getElem?_cons_zero, Option.getD_some, Nat.zero_mul, Nat.add_zero, Nat.zero_add] at d0 d1 d2 d3 d4 h5 ⊢; obtain ⟨zz, fz⟩ := blkCells (h5.blk 4 rfl).1; have hlg2 := (h5.blk 4 rfl).2.2; clear z0; have z0 : w3.cell? ⟨g2, 0, none⟩ = some (.int .i64 0) := (zz 0).trans rfl; have z10 : w3.cell? ⟨g2, 10, none⟩ = some (.bool false) := (zz 10).trans rfl; have z11 : w3.cell? ⟨g2, 11, none⟩ = some (.int .i64 0) := (zz 11).trans rfl; have z12 : w3.cell? ⟨g2, 12, none⟩ = some (.int .i64 0) := (zz 12).trans rfl; have z13 : w3.cell? ⟨g2, 13, none⟩ = some (.int .i64 0) := (zz 13).trans rfl; have z14 : w3.cell? ⟨g2, 14, none⟩ = some (.int .u64 0) := (zz 14).trans rfl; have h6 := h5.set 4 rfl 0 (.int .i64 2); have h7 := (((((h6).set 4 rfl 10 (.bool ii.mark)).set 4 rfl 11 (.int .i64 ii.ev.time)).set 4 rfl 12 (.int .i64 ii.ev.key)).set 4 rfl 13 (.int .i64 ii.ev.value)).set 4 rfl 14 (.int .u64 ii.ev.label); obtain ⟨b9, o9, e9, hb9, f0, f1, f2, f3, f4⟩ := (h6.slOf Inp.len 6 rfl).inAt 0 (by show 0 < 1; omega); cases e9; simp only [List.length_cons, List.length_nil, List.getElem?_cons_zero, Option.getD_some, Nat.zero_mul, Nat.add_zero, Nat.zero_add] at f0 f1 f2 f3 f4; have H7 := Lib.hid h7; clear zz h5 h6 h7 HINa HINb))
            refine hK.out _ _ trivial (fun _ => ?_)
            clear hK K
            try simp only [Act.put, List.setIfInBounds_toArray, List.set_cons_zero, List.set_cons_succ]
            refine wpAnyH_ready (rs := [4, 7]) (by kernel_rfl) (by simp) ?_
            refine AllReadyH.cons rfl (fun K hK => ?_) (AllReadyH.cons rfl (fun K hK => ?_) AllReadyH.nil)
            · skip
              go_simp
              refine hK.out _ _ trivial (fun _ => ?_)
              clear hK K
              try simp only [Act.put, List.setIfInBounds_toArray, List.set_cons_zero, List.set_cons_succ]
              refine wpAnyH_ready (rs := [5, 7]) (by kernel_rfl) (by simp) ?_
              refine AllReadyH.cons rfl (fun K hK => ?_) (AllReadyH.cons rfl (fun K hK => ?_) AllReadyH.nil)
              · skip
                go_simp
                refine hK.out _ _ trivial (fun _ => ?_)
                clear hK K
                try simp only [Act.put, List.setIfInBounds_toArray, List.set_cons_zero, List.set_cons_succ]
                refine wpAnyH_ready (rs := [7]) (by kernel_rfl) (by simp) ?_
                refine AllReadyH.cons rfl (fun K hK => ?_) AllReadyH.nil
                go_simp
                refine hK.out _ _ trivial (fun _ => ?_)
                clear hK K
                try simp only [Act.put, List.setIfInBounds_toArray, List.set_cons_zero, List.set_cons_succ]
                refine wpAnyH_take (i := 8) (v := ?_) rfl (by kernel_rfl) (by kernel_rfl) (by kernel_rfl) (fun _ _ _ h => h) (Or.inl ⟨by rfl, ?_⟩) trivial ?_
                rotate_left
                · (intro w _; go_simp; try with_reducible rfl)
                simp only [Act.put, List.setIfInBounds_toArray, List.set_cons_zero, List.set_cons_succ]
                refine wpAnyH_ready (rs := [9]) (by kernel_rfl) (by simp) ?_
                refine AllReadyH.cons rfl (fun K hK => ?_) AllReadyH.nil
                go_simp
                refine hK.out _ _ trivial (fun _ => ?_)
                clear hK K
                try simp only [Act.put, List.setIfInBounds_toArray, List.set_cons_zero, List.set_cons_succ]
                refine wpAnyH_done (by kernel_rfl) ?_ _
                go_wp2
                go_meet
                exact ⟨(⟨2, within tn 0 3, within fr (-1) 6, within nn (-1) 9, none, 0, Pp.zero, ii⟩ : ActR), ((actOf_off HK1.out).trans (by rw [HII.out]; rfl)).symm, acts_fin0 (⟨2, within tn 0 3, within fr (-1) 6, within nn (-1) 9, none, 0, Pp.zero, ii⟩ : ActR) (H7.out.pick [0, 1, 2, 3, 4] (by decide)) rfl rfl rfl⟩
              · skip
                go_simp
                refine hK.out _ _ trivial (fun _ => ?_)
                clear hK K
                try simp only [Act.put, List.setIfInBounds_toArray, List.set_cons_zero, List.set_cons_succ]
                refine wpAnyH_ready (rs := [5]) (by kernel_rfl) (by simp) ?_
                refine AllReadyH.cons rfl (fun K hK => ?_) AllReadyH.nil
                go_simp
                refine hK.out _ _ trivial (fun _ => ?_)
                clear hK K
                try simp only [Act.put, List.setIfInBounds_toArray, List.set_cons_zero, List.set_cons_succ]
                refine wpAnyH_take (i := 8) (v := ?_) rfl (by kernel_rfl) (by kernel_rfl) (by kernel_rfl) (fun _ _ _ h => h) (Or.inl ⟨by rfl, ?_⟩) trivial ?_
                rotate_left
                · (intro w _; go_simp; try with_reducible rfl)
                simp only [Act.put, List.setIfInBounds_toArray, List.set_cons_zero, List.set_cons_succ]
                refine wpAnyH_ready (rs := [9]) (by kernel_rfl) (by simp) ?_
                refine AllReadyH.cons rfl (fun K hK => ?_) AllReadyH.nil
                go_simp
                refine hK.out _ _ trivial (fun _ => ?_)
                clear hK K
                try simp only [Act.put, List.setIfInBounds_toArray, List.set_cons_zero, List.set_cons_succ]
                refine wpAnyH_done (by kernel_rfl) ?_ _
                go_wp2
                go_meet
                exact ⟨(⟨2, within tn 0 3, within fr (-1) 6, within nn (-1) 9, none, 0, Pp.zero, ii⟩ : ActR), ((actOf_off HK1.out).trans (by rw [HII.out]; rfl)).symm, acts_fin0 (⟨2, within tn 0 3, within fr (-1) 6, within nn (-1) 9, none, 0, Pp.zero, ii⟩ : ActR) (H7.out.pick [0, 1, 2, 3, 4] (by decide)) rfl rfl rfl⟩
            · skip
              go_simp
              refine hK.out _ _ trivial (fun _ => ?_)
              clear hK K
              try simp only [Act.put, List.setIfInBounds_toArray, List.set_cons_zero, List.set_cons_succ]
              refine wpAnyH_ready (rs := [4]) (by kernel_rfl) (by simp) ?_
              refine AllReadyH.cons rfl (fun K hK => ?_) AllReadyH.nil
              go_simp
              refine hK.out _ _ trivial (fun _ => ?_)
              clear hK K
              try simp only [Act.put, List.setIfInBounds_toArray, List.set_cons_zero, List.set_cons_succ]
              refine wpAnyH_ready (rs := [5]) (by kernel_rfl) (by simp) ?_
              refine AllReadyH.cons rfl (fun K hK => ?_) AllReadyH.nil
              go_simp
              refine hK.out _ _ trivial (fun _ => ?_)
              clear hK K
              try simp only [Act.put, List.setIfInBounds_toArray, List.set_cons_zero, List.set_cons_succ]
              refine wpAnyH_take (i := 8) (v := ?_) rfl (by kernel_rfl) (by kernel_rfl) (by kernel_rfl) (fun _ _ _ h => h) (Or.inl ⟨by rfl, ?_⟩) trivial ?_
              rotate_left
              · (intro w _; go_simp; try with_reducible rfl)
              simp only [Act.put, List.setIfInBounds_toArray, List.set_cons_zero, List.set_cons_succ]
              refine wpAnyH_ready (rs := [9]) (by kernel_rfl) (by simp) ?_
              refine AllReadyH.cons rfl (fun K hK => ?_) AllReadyH.nil
              go_simp
              refine hK.out _ _ trivial (fun _ => ?_)
              clear hK K
              try simp only [Act.put, List.setIfInBounds_toArray, List.set_cons_zero, List.set_cons_succ]
              refine wpAnyH_done (by kernel_rfl) ?_ _
              go_wp2
              go_meet
              exact ⟨(⟨2, within tn 0 3, within fr (-1) 6, within nn (-1) 9, none, 0, Pp.zero, ii⟩ : ActR), ((actOf_off HK1.out).trans (by rw [HII.out]; rfl)).symm, acts_fin0 (⟨2, within tn 0 3, within fr (-1) 6, within nn (-1) 9, none, 0, Pp.zero, ii⟩ : ActR) (H7.out.pick [0, 1, 2, 3, 4] (by decide)) rfl rfl rfl⟩
          · subst hc
            have hk1 : kindOf kd = 3 := by rw [HKO.out]; decide
            have HK1 := Lib.hid hk1
            clear hk1 HWC HKO
            have h6 := H2.out.set 4 rfl 0 (.int .i64 3)
            have H6 := Lib.hid h6
            clear h6
            go_wp2_with fail
            go_meet
            exact ⟨(⟨3, within tn 0 3, within fr (-1) 6, within nn (-1) 9, none, 0, Pp.zero, Inp.zero⟩ : ActR), (actOf_plain (c := 3) HK1.out (by decide) (by decide)).symm, acts_fin0 (⟨3, within tn 0 3, within fr (-1) 6, within nn (-1) 9, none, 0, Pp.zero, Inp.zero⟩ : ActR) (H6.out.pick [0, 1, 2, 3, 4] (by decide)) rfl rfl rfl⟩
          · subst hc
            have hk1 : kindOf kd = 3 := by rw [HKO.out]; decide
            have HK1 := Lib.hid hk1
            clear hk1 HWC HKO
            have h6 := H2.out.set 4 rfl 0 (.int .i64 3)
            have H6 := Lib.hid h6
            clear h6
            go_wp2_with fail
            go_meet
            exact ⟨(⟨3, within tn 0 3, within fr (-1) 6, within nn (-1) 9, none, 0, Pp.zero, Inp.zero⟩ : ActR), (actOf_plain (c := 3) HK1.out (by decide) (by decide)).symm, acts_fin0 (⟨3, within tn 0 3, within fr (-1) 6, within nn (-1) 9, none, 0, Pp.zero, Inp.zero⟩ : ActR) (H6.out.pick [0, 1, 2, 3, 4] (by decide)) rfl rfl rfl⟩
          · subst hc
            have hk1 : kindOf kd = 4 := by rw [HKO.out]; decide
            have HK1 := Lib.hid hk1
            clear hk1 HWC HKO
            have h6 := H2.out.set 4 rfl 0 (.int .i64 4)
            have H6 := Lib.hid h6
            clear h6
            go_wp2_with fail
            go_meet
            exact ⟨(⟨4, within tn 0 3, within fr (-1) 6, within nn (-1) 9, none, 0, Pp.zero, Inp.zero⟩ : ActR), (actOf_plain (c := 4) HK1.out (by decide) (by decide)).symm, acts_fin0 (⟨4, within tn 0 3, within fr (-1) 6, within nn (-1) 9, none, 0, Pp.zero, Inp.zero⟩ : ActR) (H6.out.pick [0, 1, 2, 3, 4] (by decide)) rfl rfl rfl⟩
          · subst hc
            have hk1 : kindOf kd = 5 := by rw [HKO.out]; decide
            have HK1 := Lib.hid hk1
            clear hk1 HWC HKO
            have h6 := H2.out.set 4 rfl 0 (.int .i64 5)
            have H6 := Lib.hid h6
            clear h6
            go_wp2_with fail
            go_meet
            exact ⟨(⟨5, within tn 0 3, within fr (-1) 6, within nn (-1) 9, none, 0, Pp.zero, Inp.zero⟩ : ActR), (actOf_plain (c := 5) HK1.out (by decide) (by decide)).symm, acts_fin0 (⟨5, within tn 0 3, within fr (-1) 6, within nn (-1) 9, none, 0, Pp.zero, Inp.zero⟩ : ActR) (H6.out.pick [0, 1, 2, 3, 4] (by decide)) rfl rfl rfl⟩
        case rest =>
          clear H2 HSO HSN HWP HWI HWC HKO
          obtain ⟨R, hR, h5⟩ := hcut
          generalize wc = w5 at *
          obtain ⟨rk, rt, rf, rn, ra, rc, ⟨rops, rs1, rs2, rs3, rs4, rs5⟩, ⟨rm, ⟨r1, r2, r3, r4⟩⟩⟩ := R
          obtain ⟨zz, fz⟩ := blkCells (h5.blk 3 rfl).1
          have y0 : w5.cell? ⟨g2, 0, none⟩ = some (.int .i64 rk) := (zz 0).trans rfl
          have y1 : w5.cell? ⟨g2, 1, none⟩ = some (.int .i64 rt) := (zz 1).trans rfl
          have y2 : w5.cell? ⟨g2, 2, none⟩ = some (.int .i64 rf) := (zz 2).trans rfl
          have y3 : w5.cell? ⟨g2, 3, none⟩ = some (.int .i64 rn) := (zz 3).trans rfl
          have y4 : w5.cell? ⟨g2, 4, none⟩ = some (.slice ra rops.length rc) := (zz 4).trans rfl
          have y5 : w5.cell? ⟨g2, 5, none⟩ = some (.int .i64 rs1) := (zz 5).trans rfl
          have y6 : w5.cell? ⟨g2, 6, none⟩ = some (.int .i64 rs2) := (zz 6).trans rfl
          have y7 : w5.cell? ⟨g2, 7, none⟩ = some (.int .i64 rs3) := (zz 7).trans rfl
          have y8 : w5.cell? ⟨g2, 8, none⟩ = some (.int .i64 rs4) := (zz 8).trans rfl
          have y9 : w5.cell? ⟨g2, 9, none⟩ = some (.int .i64 rs5) := (zz 9).trans rfl
          have y10 : w5.cell? ⟨g2, 10, none⟩ = some (.bool rm) := (zz 10).trans rfl
          have y11 : w5.cell? ⟨g2, 11, none⟩ = some (.int .i64 r1) := (zz 11).trans rfl
          have y12 : w5.cell? ⟨g2, 12, none⟩ = some (.int .i64 r2) := (zz 12).trans rfl
          have y13 : w5.cell? ⟨g2, 13, none⟩ = some (.int .i64 r3) := (zz 13).trans rfl
          have y14 : w5.cell? ⟨g2, 14, none⟩ = some (.int .u64 r4) := (zz 14).trans rfl
          have h6 := h5.alloc (.cells #[.int .i64 rk, .int .i64 rt, .int .i64 rf, .int .i64 rn, .slice ra rops.length rc, .int .i64 rs1, .int .i64 rs2, .int .i64 rs3, .int .i64 rs4, .int .i64 rs5, .bool rm, .int .i64 r1, .int .i64 r2, .int .i64 r3, .int .u64 r4] 67)
          have H6 := Lib.hid h6
          have HR := Lib.hid hR
          clear h5 h6 zz fz hR
          go_wp2_with (at_builtin; refine wpList_push_stB actElem rfl H6.out 1 rfl _ _ rfl rfl _ (⟨rk, rt, rf, rn, ra, rc, ⟨rops, rs1, rs2, rs3, rs4, rs5⟩, ⟨rm, ⟨r1, r2, r3, r4⟩⟩⟩ : ActR) rfl (heap_new _ _) HUL.out ?_; intro v7 w7 hst7 _; have H7 := Lib.hid (hst7.pick [0, 1, 2] (by decide)); clear hst7 H6)
          go_roundw
          case rel => exact ⟨k + 1, by omega, by omega, by go_num, us ++ [(⟨rk, rt, rf, rn, ra, rc, ⟨rops, rs1, rs2, rs3, rs4, rs5⟩, ⟨rm, ⟨r1, r2, r3, r4⟩⟩⟩ : ActR)], by rw [HMP.out, List.map_append]; exact congrArg (fun z => us.map ActR.val ++ [z]) HR.out.symm, H7.out⟩
          case measure => simp [intOf]; omega
      · have HST := Lib.hid hst
        have HUS := Lib.hid hus
        clear hst hus
        go_wp2
        go_ret
        exact ⟨_, rfl, us, HFIN.out k us HUS.out (by omega), HST.out.unwrap⟩
    · have HST := Lib.hid hst
      have HUS := Lib.hid hus
      clear hst hus
      go_wp2
      go_ret
      exact ⟨_, rfl, us, HFIN.out k us HUS.out (by omega), HST.out.unwrap⟩
end Go.Proofs.YtdncpihaeobaeaaGreat
