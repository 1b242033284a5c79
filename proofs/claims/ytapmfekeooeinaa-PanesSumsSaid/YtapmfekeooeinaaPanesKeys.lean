/- The walk of PanesKeys. -/
import Derived.Test.YtapmfekeooeinaaKeyLaw
import Derived.Test.YtapmfekeooeinaaBools
set_option linter.unusedVariables false
namespace Go.Proofs.Ytapmfekeooeinaa
open Go.RowKit Go.Maps
theorem BoolAt.congr {w : World} {b N : Nat} {f g : Int → Bool} (h : BoolAt w b N f) (e : ∀ x, f x = g x) : BoolAt w b N g := (funext e : f = g) ▸ h
theorem any_step (l : List Ev) (f : Ev → Ev) {k : Nat} (hk : k < l.length) (y : Int) : (((l.take (k + 1)).map f).any fun e => e.key == y) = ((((l.take k).map f).any fun e => e.key == y) || y == (f l[k]).key) := by
  rw [List.take_add_one, List.getElem?_eq_getElem hk, List.map_append, List.any_append, Option.toList_some, List.map_singleton, List.any_cons, List.any_nil, Bool.or_false, show ((f l[k]).key == y) = (y == (f l[k]).key) from by rw [Bool.eq_iff_iff, beq_iff_eq, beq_iff_eq, eq_comm]]
theorem filter_step (l : List Ev) (f : Ev → Ev) (g : Ev → Bool) {k : Nat} (hk : k < l.length) : ((l.take (k + 1)).map f).filter g = ((l.take k).map f).filter g ++ (if g (f l[k]) then [f l[k]] else []) := by
  rw [List.take_add_one, List.getElem?_eq_getElem hk, List.map_append, List.filter_append, Option.toList_some, List.map_singleton, List.filter_cons, List.filter_nil]
theorem putL_snoc (kd sz sl : Int) (es : List Ev) (e : Ev) : putL kd sz sl [] (es ++ [e]) = putE kd sz sl (putL kd sz sl [] es) e := by
  unfold putL
  rw [List.foldl_append]
  rfl
theorem BoolAt.mono {w : World} {b N M : Nat} {f : Int → Bool} (h : BoolAt w b N f) (hM : N ≤ M) : BoolAt w b M f := by
  obtain ⟨D, n, h1, h2, h3⟩ := h
  exact ⟨D, n, h1, Nat.le_trans h2 hM, h3⟩
theorem evC_all {l : List Ev} (hw : ∀ e ∈ l, e.wf) (k : Nat) : ∀ e ∈ (l.take k).map evC, e.wf ∧ 0 ≤ e.time ∧ e.time ≤ 1099511627776 := by
  intro e he
  obtain ⟨e0, h0, rfl⟩ := List.mem_map.1 he
  have h1 := within_range e0.time 0 200 (by omega)
  exact ⟨evC_wf (hw e0 (List.mem_of_mem_take h0)), h1.1, by show within e0.time 0 200 ≤ _; omega⟩
theorem rany_step (l : List Rw) {k : Nat} (hk : k < l.length) (y : Int) : ((l.take (k + 1)).any fun e => e.key == y) = (((l.take k).any fun e => e.key == y) || y == l[k].key) := by
  rw [List.take_add_one, List.getElem?_eq_getElem hk, List.any_append, Option.toList_some, List.any_cons, List.any_nil, Bool.or_false, show (l[k].key == y) = (y == l[k].key) from by rw [Bool.eq_iff_iff, beq_iff_eq, beq_iff_eq, eq_comm]]
theorem rfilter_step (l : List Rw) (g : Rw → Bool) {k : Nat} (hk : k < l.length) : (l.take (k + 1)).filter g = (l.take k).filter g ++ (if g l[k] then [l[k]] else []) := by
  rw [List.take_add_one, List.getElem?_eq_getElem hk, List.filter_append, Option.toList_some, List.filter_cons, List.filter_nil]
set_option maxHeartbeats 2000000 in
set_option maxRecDepth 20000 in
theorem PanesKeys_any (w : World) (size : Int) (hsz : (Lit.int .i64 size).wf = true) (slide : Int) (hsl : (Lit.int .i64 slide).wf = true) (kind : Int) (hknd : (Lit.int .i64 kind).wf = true) (key : Int) (hkey : (Lit.int .i64 key).wf = true) (al : Option Addr) (cap : Nat) (l : List Ev) (hle : l.length ≤ cap) (hmx : cap ≤ maxLen) (hnil : al = none → cap = 0) (hl : SlAt 4 isEv w al l) :
    Calls Try.prog 6 #[.int .i64 size, .int .i64 slide, .int .i64 kind, .int .i64 key, .slice al l.length cap] w fun e w' => e = .returned (.bool true) ∧ Below w.heap.size w w' := by
  obtain ⟨hl1, hlw⟩ := hl.both
  have hmk := @run_makeMap Try.prog
  have hs := within_range slide 1 20 (by omega)
  obtain ⟨s, hsd⟩ : ∃ s, s = within slide 1 20 := ⟨_, rfl⟩
  rw [← hsd] at hs
  have hn := within_range size s (6 * s) (by omega)
  obtain ⟨n, hnd⟩ : ∃ n, n = within size s (6 * s) := ⟨_, rfl⟩
  rw [← hnd] at hn
  have hd := within_range kind 1 4 (by omega)
  obtain ⟨kd, hdd⟩ : ∃ n, n = within kind 1 4 := ⟨_, rfl⟩
  rw [← hdd] at hd
  have ho := within_range key 0 3 (by omega)
  obtain ⟨one, hod⟩ : ∃ n, n = within key 0 3 := ⟨_, rfl⟩
  rw [← hod] at ho
  have hr1 := i64_range hsz
  have hr2 := i64_range hsl
  have hr3 := i64_range hknd
  have hr4 := i64_range hkey
  have HS := Lib.hid hsd
  have HN := Lib.hid hnd
  have HD := Lib.hid hdd
  have HO := Lib.hid hod
  have HL := Lib.hid hl1
  have HLW := Lib.hid hlw
  have hkd : (Lit.int .i64 kd).wf = true := WalkArith.wf_i64 (by omega)
  clear hsd hnd hdd hod hl1 hlw hl hsz hsl hknd hkey
  go_enter Try.func6, Try.ntmps6
  go_upto_block 0 with (first
    | (go_at_call 15; refine (Within_any _ _ _ _ (by omega) (by omega) (by omega) (by omega) (by omega)).mono ?_; rintro e wz ⟨rfl, hwz⟩; have hwz := hwz.symm; subst hwz; first | rw [← HS.out] | rw [← HN.out] | rw [← HD.out] | rw [← HO.out])
    | (go_at_call 9; refine (panesNew_any n s kd _).mono ?_; rintro e w2 ⟨qb, nb, rfl, hqb, hnb, hP, hb⟩; have HQ2 := Lib.hid hP; have HP2 := Lib.hid (HP1.out.below hb HP1.out.lt HP1.out.2.lt); have HB2 := Lib.hid (HB1.out.trans (hb.mono HB1.out.size)); have hs2 := HB2.out.size; have hp1 := HP1.out.lt; have hm1 := HP1.out.2.lt; clear hP hb)
    | (go_at_call 9; refine (panesNew_any n s kd _).mono ?_; rintro e w1 ⟨pb, mb, rfl, hpb, hmb, hP, hb⟩; have HP1 := Lib.hid hP; have HB1 := Lib.hid hb; have hs1 := hb.size; clear hP hb))
  have hne1 : qb ≠ mb := by omega
  have hne2 : nb ≠ mb := by omega
  have hne3 : pb ≠ nb := by omega
  have hne4 : mb ≠ nb := by omega
  have hq2 := HQ2.out.lt
  have hn2 := HQ2.out.2.lt
  have hp2 := HP2.out.lt
  have hm2 := HP2.out.2.lt
  obtain ⟨ib, hibd⟩ : ∃ ib, ib = w2.heap.size := ⟨_, rfl⟩
  rw [← hibd]
  obtain ⟨w3, hw3⟩ : ∃ y, y = w2.alloc (.map #[] 0) := ⟨_, rfl⟩
  rw [← hw3]
  have HI3 := Lib.hid (show BoolAt w3 ib 0 (fun _ => false) by rw [hw3, hibd]; exact BoolAt.made w2)
  have hb3 : Below w2.heap.size w2 w3 := by rw [hw3]; go_grown
  have HP3 := Lib.hid (HP2.out.below hb3 hp2 hm2)
  have HQ3 := Lib.hid (HQ2.out.below hb3 hq2 hn2)
  have HB3 := Lib.hid (HB2.out.trans (hb3.mono hs2))
  have hi1 : ib ≠ pb := by omega
  have hi2 : ib ≠ mb := by omega
  have hi3 : ib ≠ qb := by omega
  have hi4 : ib ≠ nb := by omega
  have hib : w.heap.size ≤ ib := by omega
  clear hp1 hm1 hq2 hn2 hp2 hm2 hw3 hb3 hibd
  go_cut [] from 51 to 93 (fun wx => ∃ es : List Ev, es.length ≤ 15 ∧ (∀ e ∈ es, e.wf ∧ 0 ≤ e.time ∧ e.time ≤ 1099511627776) ∧ PanesAt wx pb mb n s kd (putL kd n s [] es) ∧ PanesAt wx qb nb n s kd (putL kd n s [] (es.filter fun e => decide (e.key = one))) ∧ GoodL kd n s 120 (putL kd n s [] es) ∧ GoodL kd n s 120 (putL kd n s [] (es.filter fun e => decide (e.key = one))) ∧ BoolAt wx ib 15 (fun y => es.any fun e => e.key == y) ∧ Below w.heap.size w wx)
  case first =>
    go_wp2_with fail
    go_loopw [18] (fun iv wr => ∃ k : Nat, k ≤ l.length ∧ k ≤ 15 ∧ iv = .int .i64 k ∧ PanesAt wr pb mb n s kd (putL kd n s [] ((l.take k).map evC)) ∧ PanesAt wr qb nb n s kd (putL kd n s [] (((l.take k).map evC).filter fun e => decide (e.key = one))) ∧ GoodL kd n s (8 * k) (putL kd n s [] ((l.take k).map evC)) ∧ GoodL kd n s (8 * k) (putL kd n s [] (((l.take k).map evC).filter fun e => decide (e.key = one))) ∧ BoolAt wr ib k (fun y => ((l.take k).map evC).any fun e => e.key == y) ∧ Below w.heap.size w wr) (fun iv _ => 15 - (numOf iv).toNat)
    case atStart => exact ⟨0, by omega, by omega, rfl, HP3.out, HQ3.out, GoodL.empty _ _ _, GoodL.empty _ _ _, HI3.out, HB3.out⟩
    case round =>
      obtain ⟨k, hk, hk15, rfl, hP, hQ, hG, hGQ, hI, hB⟩ := hrel
      have hwr := hB.size
      have hpr := hP.lt
      have hmr := hP.2.lt
      have hqr := hQ.lt
      have hnr := hQ.2.lt
      have hir := hI.lt
      have HP := Lib.hid hP
      have HQ := Lib.hid hQ
      have HG := Lib.hid hG
      have HGQ := Lib.hid hGQ
      have HI := Lib.hid hI
      have HB := Lib.hid hB
      clear hP hQ hG hGQ hI hB
      by_cases hkl : (k : Int) < l.length
      · by_cases hk1 : (k : Int) < 15
        · have hkn : k < l.length := by omega
          obtain ⟨bl, o, rfl, hbl, c0, c1, c2, c3⟩ := (HL.out.below HB.out (fun _ _ h => h)).evAt k hkn
          have hew := HLW.out _ (List.getElem_mem hkn)
          have hev := putL_step (kd := kd) (sz := n) (sl := s) evC l hkn
          have han := fun y => any_step l evC hkn y
          have hfi := filter_step l evC (fun e => decide (e.key = one)) hkn
          rw [List.getElem?_eq_getElem hkn] at c0 c1 c2
          simp only [Option.getD_some] at c0 c1 c2
          generalize l[k] = ev at *
          have hcw := evC_wf hew
          have ht := i64_range hew.1
          have hy := i64_range hew.2.1
          have HEV := Lib.hid hev
          have HAN := Lib.hid han
          have HFI := Lib.hid hfi
          have HCW := Lib.hid hcw
          clear hew hev hcw c3 han hfi
          go_wp2_with fail
          go_cut [19] from 61 to 78 (fun u wx => u = .pointer (some ⟨wr.heap.size, 0, none⟩) ∧ wx.heap[wr.heap.size]? = some (.cells (evC ev).cells.toArray 27 (0, 0)) ∧ Below wr.heap.size wr wx)
          case first =>
            go_region_held3 (fun w' => w'.cell? ⟨bl, o + k * 4, none⟩ = some (.int .i64 ev.time) ∧ w'.cell? ⟨bl, o + k * 4 + 1, none⟩ = some (.int .i64 ev.key) ∧ w'.cell? ⟨bl, o + k * 4 + 2, none⟩ = some (.int .i64 ev.value)) (exact ⟨(Below.cell (B := wr.heap.size) (w := wr) (by go_grown) hbl).trans c0, (Below.cell (B := wr.heap.size) (w := wr) (by go_grown) hbl).trans c1, (Below.cell (B := wr.heap.size) (w := wr) (by go_grown) hbl).trans c2⟩) (first | (go_at_call 15; refine (Within_any _ _ _ _ (by omega) (by omega) (by omega) (by omega) (by omega)).mono ?_; rintro e wz ⟨rfl, hwz⟩; have hwz := hwz.symm; subst hwz))
            all_goals
              go_wp2
              go_meet
              exact ⟨rfl, new_at _ _ _ rfl, by go_grown⟩
          case rest =>
            obtain ⟨rfl, hv, hbx⟩ := hcut
            have hvl := (Array.getElem?_eq_some_iff.1 hv).1
            have v0 : wc.cell? ⟨wr.heap.size, 0, none⟩ = some (.int .i64 (evC ev).time) := by simp [World.cell?, hv, Ev.cells]
            have v1 : wc.cell? ⟨wr.heap.size, 1, none⟩ = some (.int .i64 (evC ev).key) := by simp [World.cell?, hv, Ev.cells]
            have v2 : wc.cell? ⟨wr.heap.size, 2, none⟩ = some (.int .i64 (evC ev).value) := by simp [World.cell?, hv, Ev.cells]
            have v3 : wc.cell? ⟨wr.heap.size, 3, none⟩ = some (.int .u64 (evC ev).label) := by simp [World.cell?, hv, Ev.cells]
            have HPX := Lib.hid (HP.out.below hbx hpr hmr)
            have HQX := Lib.hid (HQ.out.below hbx hqr hnr)
            have HIX := Lib.hid (HI.out.same (hbx.block ib hir))
            have HBX := Lib.hid (HB.out.trans (hbx.mono (by omega)))
            have HV := Lib.hid hv
            have hgm : wr.heap.size ≠ mb := by omega
            have hgn : wr.heap.size ≠ nb := by omega
            have hgi : wr.heap.size ≠ ib := by omega
            have hsx := hbx.size
            clear hv hbx c0 c1 c2 HP HQ HB HI
            generalize wr.heap.size = g at *
            obtain ⟨ec, hec⟩ : ∃ x, x = evC ev := ⟨_, rfl⟩
            rw [← hec] at v0 v1 v2 v3
            have HEC := Lib.hid hec
            clear hec
            by_cases hone : ec.key = one
            · subst hone
              go_wp2_with (first
                | (go_at_call 10; refine (put_one qb nb n s kd _ (8 * k) w6.heap.size (evC ev) _ (HQ6.out.below ((Below.refl _ _).alloc (Nat.le_refl _) _) HQ6.out.lt HQ6.out.2.lt) HGQ.out hkd (by rw [← HEC.out]; exact heap_new _ _) HCW.out (by omega)).mono ?_; rintro e w7 ⟨rfl, h1, h2, h3⟩; have HB7 := Lib.hid (belowMap (HB6.out.alloc HB6.out.size _) h3 (by have := HB6.out.size; simp; omega) (by omega)); have HQ7 := Lib.hid h1; have HGQ7 := Lib.hid h2; have HP7 := Lib.hid ((HP6.out.below ((Below.refl _ _).alloc (Nat.le_refl _) _) HP6.out.lt HP6.out.2.lt).same (h3.block pb (by have := HP6.out.lt; simp; omega) (by simp; omega)) (h3.block mb (by have := HP6.out.2.lt; simp; omega) (by simp; omega))); have HI7 := Lib.hid ((HI6.out.same (((Below.refl w6.heap.size w6).alloc (Nat.le_refl _) _).block ib HI6.out.lt)).same (h3.block ib (by have := HI6.out.lt; simp; omega) (by simp; omega))); clear h1 h2 h3)
                | (at_mapUpdate; refine wpList_boolput HI5.out ec.key (by rw [HEC.out]; exact HCW.out.2.1) (by omega) rfl _ _ _ rfl rfl rfl rfl ?_; intro w6 h1 h2; have hv6 := (h2.block g hg5 (by simp; omega)).trans HV5.out; have v60 : w6.cell? ⟨g, 0, none⟩ = some (.int .i64 ec.time) := (by simp [World.cell?, hv6, Ev.cells]); have v61 : w6.cell? ⟨g, 1, none⟩ = some (.int .i64 ec.key) := (by simp [World.cell?, hv6, Ev.cells]); have v62 : w6.cell? ⟨g, 2, none⟩ = some (.int .i64 ec.value) := (by simp [World.cell?, hv6, Ev.cells]); have v63 : w6.cell? ⟨g, 3, none⟩ = some (.int .u64 ec.label) := (by simp [World.cell?, hv6, Ev.cells]); have HI6 := Lib.hid h1; have HP6 := Lib.hid (HP5.out.same (h2.block pb HP5.out.lt (by simp; omega)) (h2.block mb HP5.out.2.lt (by simp; omega))); have HQ6 := Lib.hid (HQ5.out.same (h2.block qb HQ5.out.lt (by simp; omega)) (h2.block nb HQ5.out.2.lt (by simp; omega))); have HB6 := Lib.hid (belowMap HB5.out h2 HB5.out.size hib); clear h1 h2 hv6)
                | (go_at_call 10; refine (put_one pb mb n s kd _ (8 * k) wc.heap.size (evC ev) _ (HPX.out.below ((Below.refl _ _).alloc (Nat.le_refl _) _) HPX.out.lt HPX.out.2.lt) HG.out hkd (by rw [← HEC.out]; exact heap_new _ _) HCW.out (by omega)).mono ?_; rintro e w5 ⟨rfl, h1, h2, h3⟩; have hv5 := (h3.block g (by simp; omega) (by simp; omega)).trans ((((Below.refl wc.heap.size wc).alloc (Nat.le_refl _) _).block g hvl).trans HV.out); rw [← HEC.out] at hv5; have v50 : w5.cell? ⟨g, 0, none⟩ = some (.int .i64 ec.time) := (by simp [World.cell?, hv5, Ev.cells]); have v51 : w5.cell? ⟨g, 1, none⟩ = some (.int .i64 ec.key) := (by simp [World.cell?, hv5, Ev.cells]); have v52 : w5.cell? ⟨g, 2, none⟩ = some (.int .i64 ec.value) := (by simp [World.cell?, hv5, Ev.cells]); have v53 : w5.cell? ⟨g, 3, none⟩ = some (.int .u64 ec.label) := (by simp [World.cell?, hv5, Ev.cells]); have HV5 := Lib.hid hv5; have HB5 := Lib.hid (belowMap (HBX.out.alloc HBX.out.size _) h3 (by have := HBX.out.size; simp; omega) hmb); have HP5 := Lib.hid h1; have HG5 := Lib.hid h2; have HQ5 := Lib.hid ((HQX.out.below ((Below.refl _ _).alloc (Nat.le_refl _) _) HQX.out.lt HQX.out.2.lt).same (h3.block qb (by have := HQX.out.lt; simp; omega) (by simp; omega)) (h3.block nb (by have := HQX.out.2.lt; simp; omega) (by simp; omega))); have HI5 := Lib.hid ((HIX.out.same (((Below.refl wc.heap.size wc).alloc (Nat.le_refl _) _).block ib HIX.out.lt)).same (h3.block ib (by have := HIX.out.lt; simp; omega) (by simp; omega))); have hg5 : g < w5.heap.size := (by have := h3.size; simp at this; omega); clear h1 h2 h3 hv5))
              have hfk : ((List.take (k + 1) l).map evC).filter (fun e => decide (e.key = ec.key)) = ((List.take k l).map evC).filter (fun e => decide (e.key = ec.key)) ++ [evC ev] := by
                rw [HFI.out, if_pos (decide_eq_true (by rw [← HEC.out]))]
              exact ⟨⟨k + 1, by omega, by omega, by simp, by rw [HEV.out]; exact HP7.out, by rw [hfk, putL_snoc]; exact HQ7.out, by rw [HEV.out]; exact HG5.out.mono (by omega), by rw [hfk, putL_snoc]; exact HGQ7.out.mono (by omega), HI7.out.congr (fun y => by rw [HAN.out y, HEC.out]), HB7.out⟩, by simp [numOf]; omega⟩
            · go_wp2_with (first
                | (at_mapUpdate; refine wpList_boolput HI5.out ec.key (by rw [HEC.out]; exact HCW.out.2.1) (by omega) rfl _ _ _ rfl rfl rfl rfl ?_; intro w6 h1 h2; have hv6 := (h2.block g hg5 (by simp; omega)).trans HV5.out; have v60 : w6.cell? ⟨g, 0, none⟩ = some (.int .i64 ec.time) := (by simp [World.cell?, hv6, Ev.cells]); have v61 : w6.cell? ⟨g, 1, none⟩ = some (.int .i64 ec.key) := (by simp [World.cell?, hv6, Ev.cells]); have v62 : w6.cell? ⟨g, 2, none⟩ = some (.int .i64 ec.value) := (by simp [World.cell?, hv6, Ev.cells]); have v63 : w6.cell? ⟨g, 3, none⟩ = some (.int .u64 ec.label) := (by simp [World.cell?, hv6, Ev.cells]); have HI6 := Lib.hid h1; have HP6 := Lib.hid (HP5.out.same (h2.block pb HP5.out.lt (by simp; omega)) (h2.block mb HP5.out.2.lt (by simp; omega))); have HQ6 := Lib.hid (HQ5.out.same (h2.block qb HQ5.out.lt (by simp; omega)) (h2.block nb HQ5.out.2.lt (by simp; omega))); have HB6 := Lib.hid (belowMap HB5.out h2 HB5.out.size hib); clear h1 h2 hv6)
                | (go_at_call 10; refine (put_one pb mb n s kd _ (8 * k) wc.heap.size (evC ev) _ (HPX.out.below ((Below.refl _ _).alloc (Nat.le_refl _) _) HPX.out.lt HPX.out.2.lt) HG.out hkd (by rw [← HEC.out]; exact heap_new _ _) HCW.out (by omega)).mono ?_; rintro e w5 ⟨rfl, h1, h2, h3⟩; have hv5 := (h3.block g (by simp; omega) (by simp; omega)).trans ((((Below.refl wc.heap.size wc).alloc (Nat.le_refl _) _).block g hvl).trans HV.out); rw [← HEC.out] at hv5; have v50 : w5.cell? ⟨g, 0, none⟩ = some (.int .i64 ec.time) := (by simp [World.cell?, hv5, Ev.cells]); have v51 : w5.cell? ⟨g, 1, none⟩ = some (.int .i64 ec.key) := (by simp [World.cell?, hv5, Ev.cells]); have v52 : w5.cell? ⟨g, 2, none⟩ = some (.int .i64 ec.value) := (by simp [World.cell?, hv5, Ev.cells]); have v53 : w5.cell? ⟨g, 3, none⟩ = some (.int .u64 ec.label) := (by simp [World.cell?, hv5, Ev.cells]); have HV5 := Lib.hid hv5; have HB5 := Lib.hid (belowMap (HBX.out.alloc HBX.out.size _) h3 (by have := HBX.out.size; simp; omega) hmb); have HP5 := Lib.hid h1; have HG5 := Lib.hid h2; have HQ5 := Lib.hid ((HQX.out.below ((Below.refl _ _).alloc (Nat.le_refl _) _) HQX.out.lt HQX.out.2.lt).same (h3.block qb (by have := HQX.out.lt; simp; omega) (by simp; omega)) (h3.block nb (by have := HQX.out.2.lt; simp; omega) (by simp; omega))); have HI5 := Lib.hid ((HIX.out.same (((Below.refl wc.heap.size wc).alloc (Nat.le_refl _) _).block ib HIX.out.lt)).same (h3.block ib (by have := HIX.out.lt; simp; omega) (by simp; omega))); have hg5 : g < w5.heap.size := (by have := h3.size; simp at this; omega); clear h1 h2 h3 hv5))
              have hfk : ((List.take (k + 1) l).map evC).filter (fun e => decide (e.key = one)) = ((List.take k l).map evC).filter (fun e => decide (e.key = one)) := by
                rw [HFI.out, if_neg (fun h => hone (by rw [HEC.out]; exact of_decide_eq_true h)), List.append_nil]
              exact ⟨⟨k + 1, by omega, by omega, by simp, by rw [HEV.out]; exact HP6.out, by rw [hfk]; exact HQ6.out, by rw [HEV.out]; exact HG5.out.mono (by omega), by rw [hfk]; exact HGQ.out.mono (by omega), HI6.out.congr (fun y => by rw [HAN.out y, HEC.out]), HB6.out⟩, by simp [numOf]; omega⟩
        · go_wp2
          go_meet
          exact ⟨(l.take k).map evC, by simp; omega, evC_all HLW.out k, HP.out, HQ.out, HG.out.mono (by omega), HGQ.out.mono (by omega), HI.out.mono (by omega), HB.out⟩
      · go_wp2
        go_meet
        exact ⟨(l.take k).map evC, by simp; omega, evC_all HLW.out k, HP.out, HQ.out, HG.out.mono (by omega), HGQ.out.mono (by omega), HI.out.mono (by omega), HB.out⟩
  case rest =>
    obtain ⟨es, hel, hes, hP, hQ, hG, hGQ, hI, hB⟩ := hcut
    have hrw := rightW_small hs.1 hs.2 hn.1 hn.2
    have hkeys : ∀ x, (rowsL (putL kd n s [] es)).any (fun r => r.key == x) = es.any (fun e => e.key == x) := fun x => by
      rw [rows_any, hasKey_putL hrw x es [] hes List.Pairwise.nil]; simp [hasKey]
    have hones : (rowsL (putL kd n s [] es)).filter (fun r => decide (r.key = one)) = rowsL (putL kd n s [] (es.filter fun e => decide (e.key = one))) := by
      rw [rows_one, putL_one es [] (fun e h => (hes e h).1) List.Pairwise.nil]; rfl
    have hwk : ∀ r ∈ rowsL (putL kd n s [] es), (Lit.int .i64 r.key).wf = true := fun r hr => by
      obtain ⟨q, _, rfl⟩ := List.mem_map.1 hr
      exact q.1.2.2
    have hpl := hP.lt
    have hml := hP.2.lt
    have hql := hQ.lt
    have hnl := hQ.2.lt
    have hil := hI.lt
    have hlR : (rowsL (putL kd n s [] es)).length ≤ 120 := by simp [rowsL]; exact hG.len
    have hlQ : (rowsL (putL kd n s [] (es.filter fun e => decide (e.key = one)))).length ≤ 120 := by simp [rowsL]; exact hGQ.len
    have hgl := hG.len
    have hgq := hGQ.len
    have HP := Lib.hid hP
    have HQ := Lib.hid hQ
    have HI := Lib.hid hI
    have HB := Lib.hid hB
    have HKEYS := Lib.hid hkeys
    have HONES := Lib.hid hones
    have HWK := Lib.hid hwk
    have hbs := hB.size
    clear hP hQ hG hGQ hI hB hkeys hones hwk hes hrw HI3 HP3 HQ3 HB3 HP2 HQ2 HB2 HP1 HB1
    obtain ⟨i0, hi, hz0, hz1, hz2⟩ := rwInfo
    generalize wc = w4 at *
    obtain ⟨w5, hw5⟩ : ∃ y, y = w4.alloc (.map #[] 0) := ⟨_, rfl⟩
    have HJ5 := Lib.hid (show BoolAt w5 w4.heap.size 0 (fun _ => false) by rw [hw5]; exact BoolAt.made w4)
    have hb5 : Below w4.heap.size w4 w5 := by rw [hw5]; go_grown
    have HP5 := Lib.hid (HP.out.below hb5 hpl hml)
    have HQ5 := Lib.hid (HQ.out.below hb5 hql hnl)
    have HI5 := Lib.hid (HI.out.same (hb5.block ib hil))
    have HB5 := Lib.hid (HB.out.trans (hb5.mono hbs))
    clear hb5
    generalize hR : rowsL (putL kd n s [] es) = R at *
    have HRR := Lib.hid hR
    clear hR
    go_upto_block 2 with (first
      | (go_at_call 14; rw [← hw5]; refine (open_any pb mb n s kd _ _ HP5.out (by omega)).mono ?_; rintro e w6 ⟨v, rfl, hown, h2⟩; rw [HRR.out] at hown; obtain ⟨a6, cap6, rfl, hle6, hmx6, hnil6, hblk6, hsl6⟩ := slAt_of_own Rw.len hown; have HQ6 := Lib.hid (HQ5.out.below h2 HQ5.out.lt HQ5.out.2.lt); have HB6 := Lib.hid (HB5.out.trans (h2.mono HB5.out.size)); have HI6 := Lib.hid (HI5.out.same (h2.block ib HI5.out.lt)); have HJ6 := Lib.hid (HJ5.out.same (h2.block w4.heap.size HJ5.out.lt)); have HA6 := Lib.hid hsl6; clear hown h2 hsl6 hblk6))
    obtain ⟨jb, hjb⟩ : ∃ jb, jb = w4.heap.size := ⟨_, rfl⟩
    rw [← hjb]
    have HJJ := Lib.hid (show BoolAt w6 jb 0 (fun _ => false) by rw [hjb]; exact HJ6.out)
    have hj3 : jb ≠ qb := by omega
    have hj4 : jb ≠ nb := by omega
    have hj5 : jb ≠ ib := by omega
    have hj6 : w.heap.size ≤ jb := by omega
    clear hjb hw5
    go_cut [20] from 98 to 113 (fun v wx => wx.ownsRow w6.heap.size 33 5 v (R.filter fun r => decide (r.key = one)).length ((R.filter fun r => decide (r.key = one)).flatMap Rw.cells) ∧ BoolAt wx jb 120 (fun y => R.any fun r => r.key == y) ∧ w6.grownBy wx (some jb))
    case first =>
      go_wp2_with fail
      go_loopw [20, 98] (fun v iv wr => ∃ k : Nat, k ≤ R.length ∧ iv = .int .i64 k ∧ wr.ownsRow w6.heap.size 33 5 v ((R.take k).filter fun r => decide (r.key = one)).length (((R.take k).filter fun r => decide (r.key = one)).flatMap Rw.cells) ∧ BoolAt wr jb k (fun y => (R.take k).any fun r => r.key == y) ∧ w6.grownBy wr (some jb)) (fun _ iv _ => 120 - (numOf iv).toNat)
      case atStart => exact ⟨0, by omega, rfl, World.ownsRow_nil _ _ _ _, HJJ.out, grownBy_refl _ _⟩
      case round =>
        obtain ⟨k, hk, rfl, hown, hJ, hgr⟩ := hrel
        have hjl := hJ.lt
        have hgs := hgr.size
        by_cases hkl : (k : Int) < R.length
        · have hkn : k < R.length := by omega
          obtain ⟨bl, o, rfl, hbl, c0, c1, c2, c3, c4⟩ := (HA6.out.mapped Rw.len (by decide) HJJ.out.block hgr).rwAt k hkn
          have hwr := HWK.out _ (List.getElem_mem hkn)
          have hra := fun y => rany_step R hkn y
          have hrf := rfilter_step R (fun r => decide (r.key = one)) hkn
          have hle : ((R.take k).filter fun r => decide (r.key = one)).length ≤ 120 := Nat.le_trans (List.length_filter_le _ _) (by rw [List.length_take]; omega)
          rw [List.getElem?_eq_getElem hkn] at c0 c1 c2 c3 c4
          simp only [Option.getD_some] at c0 c1 c2 c3 c4
          generalize R[k] = r at *
          have HWR := Lib.hid hwr
          have HRA := Lib.hid hra
          have HRF := Lib.hid hrf
          have HOWN := Lib.hid hown
          have HJ := Lib.hid hJ
          have HGR := Lib.hid hgr
          clear hwr hra hrf hown hJ hgr
          have hjb6 := HJJ.out.lt
          by_cases hone : r.key = one
          · subst hone
            go_wp2_with (first
              | (at_mapUpdate; refine wpList_boolput (HJ.out.same (((Below.refl wr.heap.size wr).alloc (Nat.le_refl _) _).block jb hjl)) r.key HWR.out (by omega) rfl _ _ _ rfl rfl rfl rfl ?_; intro w7 h1 h2; have hv7 := (h2.block wr.heap.size (by simp) (by simp; omega)).trans (heap_new wr _); have r0 : w7.cell? ⟨wr.heap.size, 0, none⟩ = some (.int .i64 r.start) := (by simp [World.cell?, hv7]); have r1 : w7.cell? ⟨wr.heap.size, 1, none⟩ = some (.int .i64 r.key) := (by simp [World.cell?, hv7]); have r2 : w7.cell? ⟨wr.heap.size, 2, none⟩ = some (.int .i64 r.value) := (by simp [World.cell?, hv7]); have r3 : w7.cell? ⟨wr.heap.size, 3, none⟩ = some (.int .i64 r.count) := (by simp [World.cell?, hv7]); have r4 : w7.cell? ⟨wr.heap.size, 4, none⟩ = some (.int .u64 r.label) := (by simp [World.cell?, hv7]); have HJ7 := Lib.hid h1; have HO7 := Lib.hid (own_grown (own_keep HOWN.out ((Below.refl _ _).alloc (Nat.le_refl _) _)) h2 hjb6); have HG7 := Lib.hid (grownBy_trans (grownBy_trans HGR.out (below_grownBy ((Below.refl _ wr).alloc (Nat.le_refl _) (.cells #[.int .i64 r.start, .int .i64 r.key, .int .i64 r.value, .int .i64 r.count, .int .u64 r.label] 33)))) h2); have hs7 : wr.heap.size < w7.heap.size := (by have := h2.size; simp at this; omega); clear h1 h2 hv7)
              | (at_builtin; refine wpList_append_sl Rw.len (by decide) Rw.one rfl _ _ 29 rfl w6.heap.size 33 i0 _ 40 Try.underlying29 hi hz0 hz1 hz2 rfl _ ((R.take k).filter fun x => decide (x.key = r.key)) rfl (own_keep HO7.out ((Below.refl _ _).alloc (Nat.le_refl _) _)) (some ⟨w7.heap.size, 0, none⟩) 1 [r] rfl (by simp) (SlAt.one Rw.len (heap_new _ _)) (by simp; omega) (by simp [maxLen]; omega) (by simp; omega) ?_; intro v8 w8 h4 h5 h6; have HO8 := Lib.hid h4; have HG8 := Lib.hid (grownBy_own (grownBy_trans HG7.out (below_grownBy ((Below.refl _ w7).alloc (Nat.le_refl _) (.cells #[.int .i64 r.start, .int .i64 r.key, .int .i64 r.value, .int .i64 r.count, .int .u64 r.label] 33)))) h5 (fun i hi => (HO7.out.lt i hi).1)); have HJ8 := Lib.hid ((HJ7.out.same (((Below.refl w7.heap.size w7).alloc (Nat.le_refl _) _).block jb HJ7.out.lt)).same (h5.block jb (by have := HJ7.out.lt; simp; omega) (fun e => by have := (HO7.out.lt jb e.symm).1; omega))); clear h4 h5 h6))
            go_roundw
            case rel =>
              have hfk : (R.take (k + 1)).filter (fun x => decide (x.key = r.key)) = (R.take k).filter (fun x => decide (x.key = r.key)) ++ [r] := by rw [HRF.out, if_pos (decide_eq_true rfl)]
              exact ⟨k + 1, by omega, by go_num, by rw [hfk]; simpa using HO8.out, HJ8.out.congr (fun y => (HRA.out y).symm), HG8.out⟩
            case measure => simp [numOf]; omega
          · go_wp2_with (first
              | (at_mapUpdate; refine wpList_boolput (HJ.out.same (((Below.refl wr.heap.size wr).alloc (Nat.le_refl _) _).block jb hjl)) r.key HWR.out (by omega) rfl _ _ _ rfl rfl rfl rfl ?_; intro w7 h1 h2; have hv7 := (h2.block wr.heap.size (by simp) (by simp; omega)).trans (heap_new wr _); have r0 : w7.cell? ⟨wr.heap.size, 0, none⟩ = some (.int .i64 r.start) := (by simp [World.cell?, hv7]); have r1 : w7.cell? ⟨wr.heap.size, 1, none⟩ = some (.int .i64 r.key) := (by simp [World.cell?, hv7]); have r2 : w7.cell? ⟨wr.heap.size, 2, none⟩ = some (.int .i64 r.value) := (by simp [World.cell?, hv7]); have r3 : w7.cell? ⟨wr.heap.size, 3, none⟩ = some (.int .i64 r.count) := (by simp [World.cell?, hv7]); have r4 : w7.cell? ⟨wr.heap.size, 4, none⟩ = some (.int .u64 r.label) := (by simp [World.cell?, hv7]); have HJ7 := Lib.hid h1; have HO7 := Lib.hid (own_grown (own_keep HOWN.out ((Below.refl _ _).alloc (Nat.le_refl _) _)) h2 hjb6); have HG7 := Lib.hid (grownBy_trans (grownBy_trans HGR.out (below_grownBy ((Below.refl _ wr).alloc (Nat.le_refl _) (.cells #[.int .i64 r.start, .int .i64 r.key, .int .i64 r.value, .int .i64 r.count, .int .u64 r.label] 33)))) h2); have hs7 : wr.heap.size < w7.heap.size := (by have := h2.size; simp at this; omega); clear h1 h2 hv7))
            go_roundw
            case rel =>
              have hfk : (R.take (k + 1)).filter (fun x => decide (x.key = one)) = (R.take k).filter (fun x => decide (x.key = one)) := by rw [HRF.out, if_neg (fun h => hone (of_decide_eq_true h)), List.append_nil]
              exact ⟨k + 1, by omega, by go_num, by rw [hfk]; exact HO7.out, HJ7.out.congr (fun y => (HRA.out y).symm), HG7.out⟩
            case measure => simp [numOf]; omega
        · go_wp2
          go_meet
          have hke : k = R.length := by omega
          subst hke
          rw [List.take_length] at hown hJ
          exact ⟨hown, hJ.mono (by omega), hgr⟩
    case rest =>
      obtain ⟨hown, hJ, hgr⟩ := hcut
      rw [HONES.out] at hown
      obtain ⟨a7, cap7, rfl, hle7, hmx7, hnil7, hblk7, hsl7⟩ := slAt_of_own Rw.len hown
      have HA7 := Lib.hid hsl7
      have HJ7 := Lib.hid (hJ.congr HKEYS.out)
      have HI7 := Lib.hid (HI6.out.same (hgr.block ib HI6.out.lt (by simp; omega)))
      have HQ7 := Lib.hid (HQ6.out.same (hgr.block qb HQ6.out.lt (by simp; omega)) (hgr.block nb HQ6.out.2.lt (by simp; omega)))
      have HB7 := Lib.hid (belowMap HB6.out hgr HB6.out.size hj6)
      clear hown hJ hgr hsl7 hblk7
      generalize wc = w7 at *
      go_upto_block 4 with fail
      go_cut [] from 114 to 124 (fun wx => Below w7.heap.size w7 wx)
      case first =>
        go_wp2_with fail
        go_loopw [114] (fun iv wr => ∃ k : Nat, k ≤ 4 ∧ iv = .int .i64 k ∧ Below w7.heap.size w7 wr) (fun iv _ => 4 - (numOf iv).toNat)
        case atStart => exact ⟨0, by omega, rfl, Below.refl _ _⟩
        case round =>
          obtain ⟨k, hk, rfl, hbe⟩ := hrel
          have hwk : (Lit.int .i64 (k : Int)).wf = true := WalkArith.wf_i64 (by omega)
          have l1 := (HJ7.out.same (hbe.block jb HJ7.out.lt)).look (k : Int) hwk
          have l2 := (HI7.out.same (hbe.block ib HI7.out.lt)).look (k : Int) hwk
          have l3 := ((HJ7.out.same (hbe.block jb HJ7.out.lt)).same (w' := wr.drew) rfl).look (k : Int) hwk
          have l4 := ((HI7.out.same (hbe.block ib HI7.out.lt)).same (w' := wr.drew) rfl).look (k : Int) hwk
          generalize (es.any fun e => e.key == (k : Int)) = bk at *
          by_cases hkl : (k : Int) < 4
          · have hsw := hbe.size
            go_wp2_with fail
            exact ⟨⟨k + 1, by omega, by simp, hbe⟩, by simp [numOf]; omega⟩
          · go_wp2
            go_meet
            exact hbe
      case rest =>
        have HA8 := Lib.hid (HA7.out.kept hcut)
        have HQ8 := Lib.hid (HQ7.out.below hcut HQ7.out.lt HQ7.out.2.lt)
        have HB8 := Lib.hid (HB7.out.trans (hcut.mono HB7.out.size))
        clear hcut
        generalize wc = w8 at *
        go_wp2_with (first
          | (go_at_call 3; refine (PanesRuns_any _).mono ?_; rintro e w11 ⟨rfl, h9⟩; have HB11 := Lib.hid (HB10.out.trans (h9.mono HB10.out.size)); clear h9)
          | (go_at_call 13; refine (SameRw_ok _ a7 a9 cap7 cap9 _ HA9.out HZ9.out (by omega) hle7 hle9).mono ?_; rintro e w10 ⟨rfl, h1⟩; have HB10 := Lib.hid (HB9.out.trans (h1.mono HB9.out.size)); clear h1)
          | (go_at_call 14; refine (open_any qb nb n s kd _ _ HQ8.out (by omega)).mono ?_; rintro e w9 ⟨v, rfl, hown, h2⟩; obtain ⟨a9, cap9, rfl, hle9, hmx9, hnil9, hblk9, hsl9⟩ := slAt_of_own Rw.len hown; have HB9 := Lib.hid (HB8.out.trans (h2.mono HB8.out.size)); have HA9 := Lib.hid (HA8.out.kept h2); have HZ9 := Lib.hid hsl9; clear hown h2 hsl9 hblk9))
        go_ret
        exact ⟨rfl, HB11.out⟩
end Go.Proofs.Ytapmfekeooeinaa
