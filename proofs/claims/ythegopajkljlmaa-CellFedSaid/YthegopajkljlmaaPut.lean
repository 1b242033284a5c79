/- The walk of panes.Put. -/
import Derived.Test.YthegopajkljlmaaPanes
import Derived.Deep.RegionHeld3
import Derived.Deep.CutRange
set_option linter.unusedVariables false
namespace Go.Proofs.Ythegopajkljlmaa
open Go.RowKit Go.Maps
set_option maxHeartbeats 2000000 in
set_option maxRecDepth 20000 in
theorem put_any (pb mb : Nat) (sz sl kd : Int) (L : PL) (N : Nat) (a : Option Addr) (cap : Nat) (es : List Ev) (w : World) (hP : PanesAt w pb mb sz sl kd L) (hG : GoodL kd sz sl N L) (hkd : (Lit.int .i64 kd).wf = true)
    (hes : SlAt 4 (flat Ev.cells) w a es) (hwf : ∀ e ∈ es, e.wf) (hN : N + 8 * es.length < 2 ^ 40) :
    Calls Try.prog 74 #[.pointer (some ⟨pb, 0, none⟩), .slice a es.length cap] w fun e w' => e = .returned (.tuple #[]) ∧ PanesAt w' pb mb sz sl kd (putL kd sz sl L es) ∧ w.grownBy w' (some mb) := by
  have hne := hP.ne
  have hlt := hP.lt
  have hml := hP.2.lt
  have HP := Lib.hid hP
  have HE := Lib.hid hes
  have HW := Lib.hid hwf
  have HG := Lib.hid hG
  have hlen : es.length < 2 ^ 37 := by omega
  clear hP hes hwf hG
  go_enter Try.func74, Try.ntmps74
  go_wp2
  go_loopw [13] (fun iv wr => ∃ k : Nat, k ≤ es.length ∧ iv = .int .i64 k ∧ PanesAt wr pb mb sz sl kd (putL kd sz sl L (es.take k)) ∧ w.grownBy wr (some mb)) (fun iv _ => es.length - (numOf iv).toNat)
  case atStart => exact ⟨0, by omega, rfl, by simpa [putL] using HP.out, grownBy_refl _ _⟩
  case round =>
    obtain ⟨k, hk, rfl, hP, hgr⟩ := hrel
    have hpr := hP.lt
    have hmr := hP.2.lt
    have hp0 : wr.cell? ⟨pb, 0, none⟩ = some (.int .i64 sz) := by simp [World.cell?, hP.1]
    have hp1 : wr.cell? ⟨pb, 1, none⟩ = some (.int .i64 sl) := by simp [World.cell?, hP.1]
    have hsz := hgr.size
    have HPr := Lib.hid hP
    have HGR := Lib.hid hgr
    clear hP hgr
    by_cases hlt : (k : Int) < es.length
    · have hkl : k < es.length := by omega
      obtain ⟨b, o, rfl, hbl, c0, c1, c2, c3⟩ := (HE.out.mapped Ev.len (by omega) HP.out.2.block HGR.out).evAt k hkl
      have hew := HW.out _ (List.getElem_mem hkl)
      have hev : es.take (k + 1) = es.take k ++ [es[k]?.getD Ev.zero] := by rw [List.take_add_one, List.getElem?_eq_getElem hkl]; rfl
      rw [List.getElem?_eq_getElem hkl] at c0 c1 c2 c3 hev
      simp only [Option.getD_some] at c0 c1 c2 c3 hev
      generalize es[k] = ev at *
      have HEW := Lib.hid hew
      have HEV := Lib.hid hev
      clear hew hev
      go_wp2
      obtain ⟨w1, hw1⟩ : ∃ x, x = wr.alloc (.cells #[.int .i64 ev.time, .int .i64 ev.key, .int .i64 ev.value, .int .u64 ev.label] 31) := ⟨_, rfl⟩
      rw [← hw1]
      have hb1 : Below wr.heap.size wr w1 := by rw [hw1]; exact (Below.refl _ wr).alloc (Nat.le_refl _) _
      have hs1 : w1.heap.size = wr.heap.size + 1 := by rw [hw1]; simp
      have hv1 : w1.heap[wr.heap.size]? = some (.cells #[.int .i64 ev.time, .int .i64 ev.key, .int .i64 ev.value, .int .u64 ev.label] 31 (0, 0)) := by rw [hw1]; exact new_at _ _ _ rfl
      have hP1 := HPr.out.below hb1 hpr hmr
      have hgr1 := grownBy_trans HGR.out (below_grownBy hb1)
      clear hw1 c0 c1 c2 c3 hp0 hp1 HPr HGR
      generalize wr.heap.size = g at *
      have q0 : w1.cell? ⟨pb, 0, none⟩ = some (.int .i64 sz) := by simp [World.cell?, hP1.1]
      have q1 : w1.cell? ⟨pb, 1, none⟩ = some (.int .i64 sl) := by simp [World.cell?, hP1.1]
      have v0 : w1.cell? ⟨g, 0, none⟩ = some (.int .i64 ev.time) := by simp [World.cell?, hv1]
      have HV1 := Lib.hid hv1
      have HP1 := Lib.hid hP1
      have HGR1 := Lib.hid hgr1
      clear hv1 hP1 hgr1 hb1
      go_region_held3 (fun w' => w'.cell? ⟨pb, 0, none⟩ = some (.int .i64 sz) ∧ w'.cell? ⟨pb, 1, none⟩ = some (.int .i64 sl) ∧ w'.cell? ⟨g, 0, none⟩ = some (.int .i64 ev.time)) (first | exact ⟨q0, q1, v0⟩ | exact ⟨(hb2.cell (p := ⟨pb, 0, none⟩) (by simp only [World.size_drew, hs1]; omega)).trans q0, (hb2.cell (p := ⟨pb, 1, none⟩) (by simp only [World.size_drew, hs1]; omega)).trans q1, (hb2.cell (p := ⟨g, 0, none⟩) (by simp only [World.size_drew, hs1]; omega)).trans v0⟩) (first | (go_at_call 81; refine (starts_any _ _ _ _).mono ?_; rintro e w2 ⟨v, rfl, hown, hb2⟩; obtain ⟨a2, cap2, rfl, hle, hmx, hnil, hblk, hss⟩ := slAt_of_own (intC_len _) hown))
      have hs2 := hb2.size
      simp only [World.size_drew] at hs2 hblk hown hb2
      have hP2 := HP1.out.below (w' := w2) (B := g + 1) (Below.trans (by go_grown) (hs1 ▸ hb2)) (by omega) (by omega)
      have hg2 := grownBy_trans HGR1.out (below_grownBy (b := w2) (Below.trans (by go_grown) hb2))
      have hv2 : w2.heap[g]? = some (.cells #[.int .i64 ev.time, .int .i64 ev.key, .int .i64 ev.value, .int .u64 ev.label] 31 (0, 0)) := (hb2.block g (by omega)).trans HV1.out
      have hE : putL kd sz sl L (es.take (k + 1)) = (startsOf ev.time sz sl).foldl (fun L s => putS kd L ev s) (putL kd sz sl L (es.take k)) := by
        rw [HEV.out]; simp [putL, putE]
      have hMid := put_mid hkd HW.out HG.out HP.out.2.sorted (by omega) k hkl ev HEW.out
      have hSw : ∀ s ∈ startsOf ev.time sz sl, (Lit.int .i64 s).wf = true := fun s h => starts_wf h
      have hS8 := starts_len ev.time sz sl
      have HSS := Lib.hid hss
      rename_i hHeld
      clear hHeld hss hown
      generalize startsOf ev.time sz sl = S at *
      have HE' := Lib.hid hE
      have HMid := Lib.hid hMid
      have HSW := Lib.hid hSw
      have HG2 := Lib.hid hg2
      have HV2 := Lib.hid hv2
      have HP2 := Lib.hid hP2
      clear hE hMid hSw hg2 hv2 hP2 q0 q1 v0 HV1 HP1 HGR1 hb2
      go_wp2
      go_loopw [29] (fun jv wx => ∃ j : Nat, j ≤ S.length ∧ jv = .int .i64 j ∧ PanesAt wx pb mb sz sl kd ((S.take j).foldl (fun L s => putS kd L ev s) (putL kd sz sl L (es.take k))) ∧ w2.grownBy wx (some mb)) (fun jv _ => S.length - (numOf jv).toNat)
      case atStart => exact ⟨0, by omega, rfl, HP2.out, grownBy_refl _ _⟩
      case round =>
        obtain ⟨j, hj, rfl, hPx, hgx⟩ := hrel
        have hMj := HMid.out j
        have hMs : (S.take (j + 1)).foldl (fun L s => putS kd L ev s) (putL kd sz sl L (es.take k)) = putS kd ((S.take j).foldl (fun L s => putS kd L ev s) (putL kd sz sl L (es.take k))) ev (S[j]?.getD 0) ∨ S.length ≤ j := by
          by_cases h : j < S.length
          · left
            rw [List.take_add_one, List.getElem?_eq_getElem h, Option.toList_some, List.foldl_append]
            rfl
          · right; omega
        have hMe : S.length ≤ j → (S.take j).foldl (fun L s => putS kd L ev s) (putL kd sz sl L (es.take k)) = S.foldl (fun L s => putS kd L ev s) (putL kd sz sl L (es.take k)) := fun h => by rw [List.take_of_length_le h]
        generalize hM : (S.take j).foldl (fun L s => putS kd L ev s) (putL kd sz sl L (es.take k)) = M at *
        have hgs := hgx.size
        have HPX := Lib.hid hPx
        have HGX := Lib.hid hgx
        have HMJ := Lib.hid hMj
        have HMS := Lib.hid hMs
        have HME := Lib.hid hMe
        clear hPx hgx hMj hMs hMe hM
        by_cases hjl : (j : Int) < S.length
        · have hjn : j < S.length := by omega
          obtain ⟨sb, so, rfl, hsb, d0⟩ := (HSS.out.mapped (intC_len _) (by omega) HP2.out.2.block HGX.out).intAt j hjn
          have hsw := HSW.out S[j] (List.getElem_mem hjn)
          have hms := HMS.out.resolve_right (by omega)
          rw [List.getElem?_eq_getElem hjn] at d0 hms
          simp only [Option.getD_some] at d0 hms
          generalize S[j] = s at *
          have hvx : wr.heap[g]? = some (.cells #[.int .i64 ev.time, .int .i64 ev.key, .int .i64 ev.value, .int .u64 ev.label] 31 (0, 0)) := (HGX.out.block g (by omega) (by simp; omega)).trans HV2.out
          have e1 : wr.cell? ⟨g, 1, none⟩ = some (.int .i64 ev.key) := by simp [World.cell?, hvx]
          have HSW1 := Lib.hid hsw
          have HMS1 := Lib.hid hms
          have HVX := Lib.hid hvx
          clear hsw hms hvx
          have hgw : g < wr.heap.size := by omega
          go_wp2
          obtain ⟨w3, hw3⟩ : ∃ x, x = wr.alloc (.cells #[.int .i64 s, .int .i64 ev.key] 100) := ⟨_, rfl⟩
          rw [← hw3]
          have hb3 : Below wr.heap.size wr w3 := by rw [hw3]; exact (Below.refl _ wr).alloc (Nat.le_refl _) _
          have hs3 : w3.heap.size = wr.heap.size + 1 := by rw [hw3]; simp
          have hp3 : w3.heap[wr.heap.size]? = some (.cells #[.int .i64 s, .int .i64 ev.key] 100 (0, 0)) := by rw [hw3]; exact new_at _ _ _ rfl
          have hP3 := HPX.out.below hb3 (by omega) (by omega)
          have hg3 := grownBy_trans HGX.out (below_grownBy hb3)
          have hv3 := (hb3.block g hgw).trans HVX.out
          clear hw3 d0 e1 HPX HGX HVX hb3
          generalize wr.heap.size = gp at *
          have m0 : w3.cell? ⟨pb, 3, none⟩ = some (.map (some mb)) := by simp [World.cell?, hP3.1]
          have m1 : w3.cell? ⟨gp, 0, none⟩ = some (.int .i64 s) := by simp [World.cell?, hp3]
          have m2 : w3.cell? ⟨gp, 1, none⟩ = some (.int .i64 ev.key) := by simp [World.cell?, hp3]
          have HM3 := Lib.hid hP3.2
          have HP3 := Lib.hid hP3
          have HG3 := Lib.hid hg3
          have HV3 := Lib.hid hv3
          have HPL := Lib.hid hp3
          clear hP3 hg3 hv3 hp3
          have hlk := look_run (w := w3.drew) (HM3.out.same rfl) ⟨(s, ev.key), HSW1.out, HEW.out.2.1⟩
          have hlk2 := look_run (w := (w3.alloc (.cells #[.int .i64 0, .int .i64 0, .int .i64 0, .int .u64 0] 123)).drew) (HM3.out.same (((Below.refl _ w3).alloc (Nat.le_refl _) _).block mb (by omega))) ⟨(s, ev.key), HSW1.out, HEW.out.2.1⟩
          simp only [encP] at hlk hlk2
          have hpl : plOf s ev.key = ⟨(s, ev.key), HSW1.out, HEW.out.2.1⟩ := plOf_val HSW1.out HEW.out.2.1
          rw [← hpl] at hlk hlk2
          have hgd := getD_each HMJ.out.1 HMJ.out.2 hkd (plOf s ev.key)
          obtain ⟨x, hx⟩ : ∃ x, x = (lookL M (plOf s ev.key)).getD ⟨0, kd, 0, 0⟩ := ⟨_, rfl⟩
          obtain ⟨y, hy⟩ : ∃ y, y = (lookL M (plOf s ev.key)).getD Pn.zero := ⟨_, rfl⟩
          obtain ⟨ok, hok⟩ : ∃ ok, ok = (lookL M (plOf s ev.key)).isSome := ⟨_, rfl⟩
          have hcase : (ok = true ∧ y = x) ∨ (ok = false ∧ y = ⟨0, 0, 0, 0⟩ ∧ x = ⟨0, kd, 0, 0⟩) := by
            rw [hok, hy, hx]
            cases lookL M (plOf s ev.key)
            · exact .inr ⟨rfl, rfl, rfl⟩
            · exact .inl ⟨rfl, rfl⟩
          rw [← hy, ← hok] at hlk hlk2
          rw [← hx] at hgd
          have HX := Lib.hid hx
          have HGD := Lib.hid hgd
          have HCASE := Lib.hid hcase
          have HPLO := Lib.hid hpl
          clear hx hy hok hgd hcase hpl
          obtain ⟨yc, yk, yv, yl⟩ := y
          simp only [encPn] at hlk hlk2
          go_cut [9, 10] from 37 to 45 (fun u v wx => u = .pointer (some ⟨gp + 1, 0, none⟩) ∧ v = .bool ok ∧ wx.heap[gp + 1]? = some (.cells #[.int .i64 yc, .int .i64 yk, .int .i64 yv, .int .u64 yl] 123 (0, 0)) ∧ Below w3.heap.size w3 wx)
          case first =>
            go_region_held3 (fun w' => w'.heap[mb]? = w3.heap[mb]? ∧ w'.cell? ⟨pb, 3, none⟩ = some (.map (some mb)) ∧ w'.cell? ⟨gp, 0, none⟩ = some (.int .i64 s) ∧ w'.cell? ⟨gp, 1, none⟩ = some (.int .i64 ev.key)) (first | exact ⟨rfl, m0, m1, m2⟩ | assumption | exact ⟨Below.block (B := w3.heap.size) (w := w3) (by go_grown) mb (by omega), (Below.cell (B := w3.heap.size) (w := w3) (p := ⟨pb, 3, none⟩) (by go_grown) (by simp only []; omega)).trans m0, (Below.cell (B := w3.heap.size) (w := w3) (p := ⟨gp, 0, none⟩) (by go_grown) (by simp only []; omega)).trans m1, (Below.cell (B := w3.heap.size) (w := w3) (p := ⟨gp, 1, none⟩) (by go_grown) (by simp only []; omega)).trans m2⟩) (fail)
            all_goals
              go_wp2
              go_meet
              exact ⟨rfl, rfl, new_at _ _ _ hs3.symm, by go_grown⟩
          case rest =>
            obtain ⟨rfl, rfl, hy4, hb4⟩ := hcut
            have hs4 := (Array.getElem?_eq_some_iff.1 hy4).1
            have HY4 := Lib.hid hy4
            have HB4 := Lib.hid hb4
            clear hy4 hb4 hlk hlk2 m0 m1 m2
            generalize wc = w4 at *
            have hP4 := HP3.out.below HB4.out (by omega) (by omega)
            have k4 : w4.cell? ⟨pb, 2, none⟩ = some (.int .i64 kd) := by simp [World.cell?, hP4.1]
            have hgv4 := (HB4.out.block g (by omega)).trans HV3.out
            have hpl4 := (HB4.out.block gp (by omega)).trans HPL.out
            have HP4 := Lib.hid hP4
            have HV4 := Lib.hid hgv4
            have HPL4 := Lib.hid hpl4
            have HG4 := Lib.hid (grownBy_trans HG3.out (below_grownBy HB4.out))
            have hne4 : pb ≠ gp + 1 := by omega
            have hmn4 : mb ≠ gp + 1 := by omega
            clear hP4 hgv4 hpl4 HP3 HV3 HPL HG3 HM3
            go_upto_if 47 with fail
            go_cut [] from 46 to 53 (fun wx => wx.heap[gp + 1]? = some (.cells #[.int .i64 x.c, .int .i64 x.k, .int .i64 x.v, .int .u64 x.l] 123 (0, 0)) ∧ Below (gp + 1) w4 wx)
            case first =>
              rcases HCASE.out with ⟨rfl, hyx⟩ | ⟨rfl, hyx, hxx⟩
              · go_wp2
                go_meet
                have := HY4.out
                subst hyx
                exact ⟨this, Below.refl _ _⟩
              · subst hxx
                simp at hyx
                obtain ⟨rfl, rfl, rfl, rfl⟩ := hyx
                have hy4 := HY4.out
                have y0 : w4.cell? ⟨gp + 1, 0, none⟩ = some (.int .i64 0) := by simp [World.cell?, hy4]
                have y1 : w4.cell? ⟨gp + 1, 1, none⟩ = some (.int .i64 0) := by simp [World.cell?, hy4]
                have y2 : w4.cell? ⟨gp + 1, 2, none⟩ = some (.int .i64 0) := by simp [World.cell?, hy4]
                have z0 : w4.frozen? ⟨gp + 1, 0, none⟩ = false := by simp [World.frozen?, hy4]
                have z1 : w4.frozen? ⟨gp + 1, 1, none⟩ = false := by simp [World.frozen?, hy4]
                have z2 : w4.frozen? ⟨gp + 1, 2, none⟩ = false := by simp [World.frozen?, hy4]
                go_wp2_with (go_at_call 82; refine (aggNew_any _ _).mono ?_; rintro e w' ⟨rfl, rfl⟩)
                go_meet
                refine ⟨Eq.trans (((Below.refl _ _).alloc (Nat.le_refl _) _).block (gp + 1) (by simp; omega)) (heap_setCell_row (heap_setCell_row (heap_setCell_row hy4 0 _) 1 _) 2 _), by go_grown⟩
            case rest =>
              obtain ⟨hx5, hb5⟩ := hcut
              have hP5 := HP4.out.below hb5 (by omega) (by omega)
              have hs5 := (Array.getElem?_eq_some_iff.1 hx5).1
              have p3 : wc.cell? ⟨pb, 3, none⟩ = some (.map (some mb)) := by simp [World.cell?, hP5.1]
              have hg5 := (hb5.block g (by omega)).trans HV4.out
              have hp5 := (hb5.block gp (by omega)).trans HPL4.out
              have x0 : wc.cell? ⟨gp + 1, 0, none⟩ = some (.int .i64 x.c) := by simp [World.cell?, hx5]
              have x1 : wc.cell? ⟨gp + 1, 1, none⟩ = some (.int .i64 x.k) := by simp [World.cell?, hx5]
              have x2 : wc.cell? ⟨gp + 1, 2, none⟩ = some (.int .i64 x.v) := by simp [World.cell?, hx5]
              have x3 : wc.cell? ⟨gp + 1, 3, none⟩ = some (.int .u64 x.l) := by simp [World.cell?, hx5]
              have z0 : wc.frozen? ⟨gp + 1, 0, none⟩ = false := by simp [World.frozen?, hx5]
              have z2 : wc.frozen? ⟨gp + 1, 2, none⟩ = false := by simp [World.frozen?, hx5]
              have z3 : wc.frozen? ⟨gp + 1, 3, none⟩ = false := by simp [World.frozen?, hx5]
              have v2 : wc.cell? ⟨g, 2, none⟩ = some (.int .i64 ev.value) := by simp [World.cell?, hg5]
              have v3 : wc.cell? ⟨g, 3, none⟩ = some (.int .u64 ev.label) := by simp [World.cell?, hg5]
              have l0 : wc.cell? ⟨gp, 0, none⟩ = some (.int .i64 s) := by simp [World.cell?, hp5]
              have l1 : wc.cell? ⟨gp, 1, none⟩ = some (.int .i64 ev.key) := by simp [World.cell?, hp5]
              have hgp : gp < wc.heap.size := by omega
              have hgg : g < wc.heap.size := by omega
              have hgb : pb < wc.heap.size := by omega
              have HP5 := Lib.hid hP5
              have HB5 := Lib.hid hb5
              have xc0 := HGD.out.1
              have xc1 : x.c < 2 ^ 60 := by have := HGD.out.2.1; omega
              have HX5 := Lib.hid hx5
              clear hP5 hb5 hx5 hg5 hp5
              go_upto_region 12 with (first | (go_at_call 83; refine (add_one (gp + 1) 0 x.k x.c x.v ev.value wc.heap.size _ xc0 xc1 (by simp [go_sem, hs5, x0]) (by simp [go_sem, hs5, x1]) (by simp [go_sem, hs5, x2]) (by simp [go_sem, hs5, z0]) (by simp [go_sem, hs5, z2]) (by simp [go_sem])).mono ?_; rintro e w' ⟨rfl, rfl⟩) | (go_at_call 84; refine (join_two x.l ev.label _ _ (by simp [go_sem]) (by simp [go_sem])).mono ?_; rintro e w' ⟨rfl, rfl⟩))
              obtain ⟨w5, hw5⟩ : ∃ y, y = ((((wc.setCell ⟨gp + 1, 2, none⟩ (.int .i64 (takeV x.k x.c x.v ev.value 1))).setCell ⟨gp + 1, 0, none⟩ (.int .i64 (x.c + 1))).setCell ⟨gp + 1, 3, none⟩ (.int .u64 (bits .or .u64 (bits .or .u64 0 x.l) ev.label))).alloc (.cells #[.int .i64 ev.value] 3)).alloc (.cells #[.int .u64 x.l, .int .u64 ev.label] 29) := ⟨_, rfl⟩
              rw [← hw5]
              have hb6 : Below (gp + 1) wc w5 := by rw [hw5]; go_grown
              have hx6 : w5.heap[gp + 1]? = some (.cells #[.int .i64 (x.c + 1), .int .i64 x.k, .int .i64 (takeV x.k x.c x.v ev.value 1), .int .u64 (bits .or .u64 (bits .or .u64 0 x.l) ev.label)] 123 (0, 0)) := by
                rw [hw5]
                exact Eq.trans ((((Below.refl _ _).alloc (Nat.le_refl _) _).alloc (by simp) _).block (gp + 1) (by simp; omega)) (heap_setCell_row (heap_setCell_row (heap_setCell_row HX5.out 2 _) 0 _) 3 _)
              have t0 : w5.cell? ⟨gp + 1, 0, none⟩ = some (.int .i64 (x.c + 1)) := by simp [World.cell?, hx6]
              have t1 : w5.cell? ⟨gp + 1, 1, none⟩ = some (.int .i64 x.k) := by simp [World.cell?, hx6]
              have t2 : w5.cell? ⟨gp + 1, 2, none⟩ = some (.int .i64 (takeV x.k x.c x.v ev.value 1)) := by simp [World.cell?, hx6]
              have t3 : w5.cell? ⟨gp + 1, 3, none⟩ = some (.int .u64 (bits .or .u64 (bits .or .u64 0 x.l) ev.label)) := by simp [World.cell?, hx6]
              rw [or_zero HGD.out.2.2.2.2.2.2] at t3
              clear hw5 hx6 x0 x1 x2 x3 z0 z2 z3 v2 v3
              have r0 := (hb6.cell (p := ⟨gp, 0, none⟩) (by show gp < _; omega)).trans l0
              have r1 := (hb6.cell (p := ⟨gp, 1, none⟩) (by show gp < _; omega)).trans l1
              have r2 := (hb6.cell (p := ⟨pb, 3, none⟩) (by show pb < _; omega)).trans p3
              have hP6 := HP5.out.below hb6 (by omega) (by omega)
              have HP6 := Lib.hid hP6
              have HB6 := Lib.hid hb6
              clear hP6 hb6 l0 l1 p3
              refine region_tail 6 (by kernel_rfl) (by kernel_rfl) ?_
              simp only [List.take_succ_cons, List.take_zero, List.drop_succ_cons, List.drop_zero]
              repeat still_step
              refine wpStill_nil ?_
              refine wpList_update (w := w5.drew) (HP6.out.2.same rfl) (by have := HMJ.out.1.len; omega) ⟨(s, ev.key), HSW1.out, HEW.out.2.1⟩ (stepPn x ev.value ev.label) (stepPn_wf HGD.out.2.2.2 HEW.out.2.2.1 xc0 (by have := HGD.out.2.1; omega)) rfl _ _ _ rfl rfl rfl rfl ?_
              intro w7 hm7 hg7
              have hg7' : w5.grownBy w7 (some mb) := ⟨hg7.os, hg7.tape, hg7.output, hg7.size, hg7.block⟩
              have HG58 := Lib.hid (grownBy_trans (grownBy_below (grownBy_below HG4.out HB5.out (by omega)) HB6.out (by omega)) hg7')
              have hP7 : PanesAt w7 pb mb sz sl kd (putS kd M ev s) := by
                refine ⟨(hg7.block pb (by have := HB6.out.size; show pb < w5.heap.size; omega) (by simp; omega)).trans HP6.out.1, ?_⟩
                unfold putS
                rw [HPLO.out, ← HPLO.out, ← HX.out, HPLO.out]
                exact hm7
              have hg8 : w2.grownBy w7 (some mb) := HG58.out
              go_wp2
              exact ⟨⟨j + 1, by omega, by simp, by rw [HMS1.out]; exact hP7, hg8⟩, by simp [numOf]; omega⟩
        · go_wp2
          have hP' := HPX.out
          rw [HME.out (by omega), ← HE'.out] at hP'
          exact ⟨⟨k + 1, by omega, by simp, hP', grownBy_trans HG2.out HGX.out⟩, by simp [numOf]; omega⟩
    · go_wp2
      go_end0
      have hke : k = es.length := by omega
      subst hke
      have hP := HPr.out
      rw [List.take_length] at hP
      exact ⟨rfl, hP, HGR.out⟩
end Go.Proofs.Ythegopajkljlmaa
