/- The walk of PanesClose. -/
import Derived.Test.YtapmfekeooeinaaPanesRuns
import Derived.Test.YtapmfekeooeinaaWithin
import Derived.Test.YtapmfekeooeinaaGuard
import Derived.Deep.CutBlock
set_option linter.unusedVariables false
namespace Go.Proofs.Ytapmfekeooeinaa
open Go.RowKit Go.Maps
/-- an event brought into its bounds -/
def evC (e : Ev) : Ev := ⟨within e.time 0 200, within e.key 0 3, e.value, 1⟩
theorem evC_wf {e : Ev} (h : e.wf) : (evC e).wf := by
  have h1 := within_range e.time 0 200 (by omega)
  have h2 := within_range e.key 0 3 (by omega)
  exact ⟨WalkArith.wf_i64 (by show _ ≤ within e.time 0 200 ∧ within e.time 0 200 ≤ _; omega), WalkArith.wf_i64 (by show _ ≤ within e.key 0 3 ∧ within e.key 0 3 ≤ _; omega), h.2.2.1, show (Lit.int .u64 1).wf = true by decide⟩
theorem i64_range {n : Int} (h : (Lit.int .i64 n).wf = true) : -9223372036854775808 ≤ n ∧ n ≤ 9223372036854775807 := by
  exact wf_i64 h
theorem rows_done {kd sz sl : Int} {N : Nat} {L : PL} (hG : GoodL kd sz sl N L) {mark : Int} {r : Rw} (h : r ∈ rowsL (doneL sz mark L)) : 0 ≤ r.start ∧ r.start ≤ 1099511627776 ∧ r.start + sz ≤ mark := by
  unfold rowsL at h
  obtain ⟨q, hq, rfl⟩ := List.mem_map.1 h
  have h1 := List.mem_filter.1 hq
  have h2 := hG.each q.1 q.2 h1.1
  have h3 := of_decide_eq_true h1.2
  exact ⟨h2.1, h2.2.1, h3⟩
theorem rows_kept {sz x y : Int} {L : PL} {r : Rw} (h : r ∈ rowsL (doneL sz y (keepL sz x L))) : x < r.start + sz := by
  unfold rowsL at h
  obtain ⟨q, hq, rfl⟩ := List.mem_map.1 h
  have h1 := List.mem_filter.1 (List.mem_filter.1 hq).1
  have h3 : endsB sz x q = false := by simpa using h1.2
  have h4 := of_decide_eq_false h3
  show x < q.1.1.1 + sz
  omega
/-- A sorted list, parted at a mark. -/
theorem part_sorted {sz mark : Int} : ∀ {L : PL}, SortedL L → doneL sz mark L ++ keepL sz mark L = L
  | [], _ => rfl
  | q :: L, hs => by
    have hs' := List.pairwise_cons.1 hs
    have ih := part_sorted (sz := sz) (mark := mark) hs'.2
    unfold doneL keepL at *
    rw [List.filter_cons, List.filter_cons]
    cases hq : endsB sz mark q with
    | true =>
      simp only [if_true, Bool.not_true, Bool.false_eq_true, if_false, List.cons_append, ih]
    | false =>
      simp only [Bool.false_eq_true, if_false, Bool.not_false, if_true]
      have h0 : L.filter (fun q => endsB sz mark q) = [] := by
        refine List.filter_eq_nil_iff.2 fun r hr => ?_
        have h1 := hs'.1 r hr
        have h2 := of_decide_eq_false hq
        have h3 : ¬ r.1.1.1 + sz ≤ mark := by unfold ltP at h1; omega
        simp [endsB, h3]
      rw [h0, List.nil_append]
      rw [h0, List.nil_append] at ih
      rw [ih]
theorem rowsL_append (a b : PL) : rowsL (a ++ b) = rowsL a ++ rowsL b := by simp [rowsL]
theorem keep_keep {sz x y : Int} (h : x ≤ y) (L : PL) : keepL sz y (keepL sz x L) = keepL sz y L := by
  unfold keepL
  rw [List.filter_filter]
  congr 1
  funext q
  by_cases h1 : q.1.1.1 + sz ≤ y
  · simp [endsB, h1]
  · have : ¬ q.1.1.1 + sz ≤ x := by omega
    simp [endsB, h1, this]
theorem done_done {sz x y : Int} (h : x ≤ y) (L : PL) : doneL sz x (doneL sz y L) = doneL sz x L := by
  unfold doneL
  rw [List.filter_filter]
  congr 1
  funext q
  by_cases h1 : q.1.1.1 + sz ≤ x
  · have : q.1.1.1 + sz ≤ y := by omega
    simp [endsB, h1, this]
  · simp [endsB, h1]
theorem done_keep {sz x y : Int} (L : PL) : doneL sz y (keepL sz x L) = keepL sz x (doneL sz y L) := by
  unfold doneL keepL
  rw [List.filter_filter, List.filter_filter]
  congr 1
  funext q
  rw [Bool.and_comm]
theorem done_sorted {sz x : Int} {L : PL} (h : SortedL L) : SortedL (doneL sz x L) := List.Pairwise.filter _ h
theorem close_two {sz x y : Int} {L : PL} (hs : SortedL L) (h : x ≤ y) : rowsL (doneL sz x L) ++ rowsL (doneL sz y (keepL sz x L)) = rowsL (doneL sz y L) := by
  rw [← rowsL_append, done_keep, ← done_done h, part_sorted (done_sorted hs)]
theorem close_all {sz x y : Int} {L : PL} (hs : SortedL L) (h : x ≤ y) : rowsL (doneL sz y L) ++ rowsL (keepL sz y (keepL sz x L)) = rowsL L := by
  rw [keep_keep h, ← rowsL_append, part_sorted hs]
theorem close_none {sz mark : Int} {L : PL} : rowsL (doneL sz mark (keepL sz mark L)) = [] := by
  have : doneL sz mark (keepL sz mark L) = [] := by
    unfold doneL keepL
    rw [List.filter_filter]
    refine List.filter_eq_nil_iff.2 fun q _ => ?_
    cases endsB sz mark q <;> simp
  rw [this]
  rfl
theorem close_low {kd sz sl : Int} {N : Nat} {L : PL} {mark : Int} (hG : GoodL kd sz sl N L) (h : mark < sz) : rowsL (doneL sz mark L) = [] := by
  have : doneL sz mark L = [] := by
    refine List.filter_eq_nil_iff.2 fun q hq => ?_
    have h1 := (hG.each q.1 q.2 hq).1
    have h3 : ¬ q.1.1.1 + sz ≤ mark := by omega
    simp [endsB, h3]
  rw [this]
  rfl
set_option maxHeartbeats 2000000 in
set_option maxRecDepth 20000 in
theorem PanesClose_any (w : World) (size : Int) (hsz : (Lit.int .i64 size).wf = true) (slide : Int) (hsl : (Lit.int .i64 slide).wf = true) (al : Option Addr) (cap : Nat) (l : List Ev) (hle : l.length ≤ cap) (hmx : cap ≤ maxLen) (hnil : al = none → cap = 0) (hl : SlAt 4 isEv w al l) (a : Int) (ha : (Lit.int .i64 a).wf = true) (b : Int) (hb : (Lit.int .i64 b).wf = true) :
    Calls Try.prog 5 #[.int .i64 size, .int .i64 slide, .slice al l.length cap, .int .i64 a, .int .i64 b] w fun e w' => e = .returned (.bool true) ∧ Below w.heap.size w w' := by
  obtain ⟨hl1, hlw⟩ := hl.both
  have hs := within_range slide 1 20 (by omega)
  obtain ⟨s, hsd⟩ : ∃ s, s = within slide 1 20 := ⟨_, rfl⟩
  rw [← hsd] at hs
  have hn := within_range size s (6 * s) (by omega)
  obtain ⟨n, hnd⟩ : ∃ n, n = within size s (6 * s) := ⟨_, rfl⟩
  rw [← hnd] at hn
  have hr1 := i64_range hsz
  have hr2 := i64_range hsl
  have hr3 := i64_range ha
  have hr4 := i64_range hb
  have HS := Lib.hid hsd
  have HN := Lib.hid hnd
  have HL := Lib.hid hl1
  have HLW := Lib.hid hlw
  have hkd : (Lit.int .i64 2).wf = true := by decide
  clear hsd hnd hl1 hlw hl hsz hsl ha hb
  go_enter Try.func5, Try.ntmps5
  go_upto_block 0 with (first
    | (go_at_call 15; refine (Within_any _ _ _ _ (by omega) (by omega) (by omega) (by omega) (by omega)).mono ?_; rintro e wz ⟨rfl, hwz⟩; have hwz := hwz.symm; subst hwz; first | rw [← HS.out] | rw [← HN.out])
    | (go_at_call 9; refine (panesNew_any n s 2 _).mono ?_; rintro e w2 ⟨qb, nb, rfl, hqb, hnb, hP, hb⟩; have HQ2 := Lib.hid hP; have HP2 := Lib.hid (HP1.out.below hb HP1.out.lt HP1.out.2.lt); have HB2 := Lib.hid (HB1.out.trans (hb.mono HB1.out.size)); have hs2 := HB2.out.size; have hp1 := HP1.out.lt; have hm1 := HP1.out.2.lt; clear hP hb)
    | (go_at_call 9; refine (panesNew_any n s 2 _).mono ?_; rintro e w1 ⟨pb, mb, rfl, hpb, hmb, hP, hb⟩; have HP1 := Lib.hid hP; have HB1 := Lib.hid hb; have hs1 := hb.size; clear hP hb))
  have hne1 : qb ≠ mb := by omega
  have hne2 : nb ≠ mb := by omega
  have hne3 : pb ≠ nb := by omega
  have hne4 : mb ≠ nb := by omega
  clear hp1 hm1
  go_cut [] from 46 to 81 (fun wx => ∃ M : PL, PanesAt wx pb mb n s 2 M ∧ PanesAt wx qb nb n s 2 M ∧ GoodL 2 n s 120 M ∧ Below w.heap.size w wx)
  case first =>
    go_wp2_with fail
    go_loopw [15] (fun iv wr => ∃ k : Nat, k ≤ l.length ∧ k ≤ 15 ∧ iv = .int .i64 k ∧ PanesAt wr pb mb n s 2 (putL 2 n s [] ((l.take k).map evC)) ∧ PanesAt wr qb nb n s 2 (putL 2 n s [] ((l.take k).map evC)) ∧ GoodL 2 n s (8 * k) (putL 2 n s [] ((l.take k).map evC)) ∧ Below w.heap.size w wr) (fun iv _ => 15 - (numOf iv).toNat)
    case atStart => exact ⟨0, by omega, by omega, rfl, HP2.out, HQ2.out, GoodL.empty _ _ _, HB2.out⟩
    case round =>
      obtain ⟨k, hk, hk15, rfl, hP, hQ, hG, hB⟩ := hrel
      have hwr := hB.size
      have hpr := hP.lt
      have hmr := hP.2.lt
      have hqr := hQ.lt
      have hnr := hQ.2.lt
      have HP := Lib.hid hP
      have HQ := Lib.hid hQ
      have HG := Lib.hid hG
      have HB := Lib.hid hB
      clear hP hQ hG hB
      by_cases hkl : (k : Int) < l.length
      · by_cases hk1 : (k : Int) < 15
        · have hkn : k < l.length := by omega
          obtain ⟨bl, o, rfl, hbl, c0, c1, c2, c3⟩ := (HL.out.below HB.out (fun _ _ h => h)).evAt k hkn
          have hew := HLW.out _ (List.getElem_mem hkn)
          have hev := putL_step (kd := 2) (sz := n) (sl := s) evC l hkn
          rw [List.getElem?_eq_getElem hkn] at c0 c1 c2
          simp only [Option.getD_some] at c0 c1 c2
          generalize l[k] = ev at *
          have hcw := evC_wf hew
          have ht := i64_range hew.1
          have hy := i64_range hew.2.1
          have HEV := Lib.hid hev
          have HCW := Lib.hid hcw
          clear hew hev hcw c3
          go_wp2_with fail
          go_cut [16] from 56 to 73 (fun u wx => u = .pointer (some ⟨wr.heap.size, 0, none⟩) ∧ wx.heap[wr.heap.size]? = some (.cells (evC ev).cells.toArray 27 (0, 0)) ∧ Below wr.heap.size wr wx)
          case first =>
            go_region_held3 (fun w' => w'.cell? ⟨bl, o + k * 4, none⟩ = some (.int .i64 ev.time) ∧ w'.cell? ⟨bl, o + k * 4 + 1, none⟩ = some (.int .i64 ev.key) ∧ w'.cell? ⟨bl, o + k * 4 + 2, none⟩ = some (.int .i64 ev.value)) (exact ⟨(Below.cell (B := wr.heap.size) (w := wr) (by go_grown) hbl).trans c0, (Below.cell (B := wr.heap.size) (w := wr) (by go_grown) hbl).trans c1, (Below.cell (B := wr.heap.size) (w := wr) (by go_grown) hbl).trans c2⟩) (first | (go_at_call 15; refine (Within_any _ _ _ _ (by omega) (by omega) (by omega) (by omega) (by omega)).mono ?_; rintro e wz ⟨rfl, hwz⟩; have hwz := hwz.symm; subst hwz))
            all_goals
              go_wp2
              go_meet
              exact ⟨rfl, new_at _ _ _ rfl, by go_grown⟩
          case rest =>
            obtain ⟨rfl, hv, hbx⟩ := hcut
            have hvl := (Array.getElem?_eq_some_iff.1 hv).1
            have v0 : wc.cell? ⟨wr.heap.size, 0, none⟩ = some (.int .i64 (evC ev).time) := by simp [World.cell?, hv, Ev.cells]
            have v1 : wc.cell? ⟨wr.heap.size, 1, none⟩ = some (.int .i64 (evC ev).key) := by simp [World.cell?, hv, Ev.cells]
            have v2 : wc.cell? ⟨wr.heap.size, 2, none⟩ = some (.int .i64 (evC ev).value) := by simp [World.cell?, hv, Ev.cells]
            have v3 : wc.cell? ⟨wr.heap.size, 3, none⟩ = some (.int .u64 (evC ev).label) := by simp [World.cell?, hv, Ev.cells]
            have HPX := Lib.hid (HP.out.below hbx hpr hmr)
            have HQX := Lib.hid (HQ.out.below hbx hqr hnr)
            have HBX := Lib.hid (HB.out.trans (hbx.mono (by omega)))
            have HV := Lib.hid hv
            have hgm : wr.heap.size ≠ mb := by omega
            have hgn : wr.heap.size ≠ nb := by omega
            have hsx := hbx.size
            clear hv hbx c0 c1 c2 HP HQ HB
            generalize wr.heap.size = g at *
            obtain ⟨ec, hec⟩ : ∃ x, x = evC ev := ⟨_, rfl⟩
            rw [← hec] at v0 v1 v2 v3
            have HEC := Lib.hid hec
            clear hec
            go_wp2_with (first
              | (go_at_call 10; refine (put_one qb nb n s 2 _ (8 * k) w5.heap.size (evC ev) _ (HQ5.out.below ((Below.refl _ _).alloc (Nat.le_refl _) _) HQ5.out.lt HQ5.out.2.lt) HG.out hkd (by rw [← HEC.out]; exact heap_new _ _) HCW.out (by omega)).mono ?_; rintro e w6 ⟨rfl, h1, h2, h3⟩; have HB6 := Lib.hid (belowMap (HB5.out.alloc HB5.out.size _) h3 (by have := HB5.out.size; simp; omega) (by omega)); have HQ6 := Lib.hid h1; have HP6 := Lib.hid ((HP5.out.below ((Below.refl _ _).alloc (Nat.le_refl _) _) HP5.out.lt HP5.out.2.lt).same (h3.block pb (by have := HP5.out.lt; simp; omega) (by simp; omega)) (h3.block mb (by have := HP5.out.2.lt; simp; omega) (by simp; omega))); clear h1 h2 h3)
              | (go_at_call 10; refine (put_one pb mb n s 2 _ (8 * k) wc.heap.size (evC ev) _ (HPX.out.below ((Below.refl _ _).alloc (Nat.le_refl _) _) HPX.out.lt HPX.out.2.lt) HG.out hkd (by rw [← HEC.out]; exact heap_new _ _) HCW.out (by omega)).mono ?_; rintro e w5 ⟨rfl, h1, h2, h3⟩; have hv5 := (h3.block g (by simp; omega) (by simp; omega)).trans ((((Below.refl wc.heap.size wc).alloc (Nat.le_refl _) _).block g hvl).trans HV.out); rw [← HEC.out] at hv5; have v50 : w5.cell? ⟨g, 0, none⟩ = some (.int .i64 ec.time) := (by simp [World.cell?, hv5, Ev.cells]); have v51 : w5.cell? ⟨g, 1, none⟩ = some (.int .i64 ec.key) := (by simp [World.cell?, hv5, Ev.cells]); have v52 : w5.cell? ⟨g, 2, none⟩ = some (.int .i64 ec.value) := (by simp [World.cell?, hv5, Ev.cells]); have v53 : w5.cell? ⟨g, 3, none⟩ = some (.int .u64 ec.label) := (by simp [World.cell?, hv5, Ev.cells]); have HB5 := Lib.hid (belowMap (HBX.out.alloc HBX.out.size _) h3 (by have := HBX.out.size; simp; omega) hmb); have HP5 := Lib.hid h1; have HG5 := Lib.hid h2; have HQ5 := Lib.hid ((HQX.out.below ((Below.refl _ _).alloc (Nat.le_refl _) _) HQX.out.lt HQX.out.2.lt).same (h3.block qb (by have := HQX.out.lt; simp; omega) (by simp; omega)) (h3.block nb (by have := HQX.out.2.lt; simp; omega) (by simp; omega))); clear h1 h2 h3 hv5))
            exact ⟨⟨k + 1, by omega, by omega, by simp, by rw [HEV.out]; exact HP6.out, by rw [HEV.out]; exact HQ6.out, by rw [HEV.out]; exact HG5.out.mono (by omega), HB6.out⟩, by simp [numOf]; omega⟩
        · go_wp2
          go_meet
          exact ⟨_, HP.out, HQ.out, HG.out.mono (by omega), HB.out⟩
      · go_wp2
        go_meet
        exact ⟨_, HP.out, HQ.out, HG.out.mono (by omega), HB.out⟩
  case rest =>
    obtain ⟨M, hP, hQ, hG, hB⟩ := hcut
    have HP := Lib.hid hP
    have HQ := Lib.hid hQ
    have HG := Lib.hid hG
    have HB := Lib.hid hB
    clear hP hQ hG hB HP1 HB1 HQ2 HP2 HB2
    have hx := within_range a 0 300 (by omega)
    obtain ⟨x, hxd⟩ : ∃ x, x = within a 0 300 := ⟨_, rfl⟩
    rw [← hxd] at hx
    have hy := within_range b x 400 (by omega)
    obtain ⟨y, hyd⟩ : ∃ y, y = within b x 400 := ⟨_, rfl⟩
    rw [← hyd] at hy
    have HX := Lib.hid hxd
    have HY := Lib.hid hyd
    clear hxd hyd
    go_upto_block 2 with (first
      | (go_at_call 15; refine (Within_any _ _ _ _ (by omega) (by omega) (by omega) (by omega) (by omega)).mono ?_; rintro e wz ⟨rfl, hwz⟩; have hwz := hwz.symm; subst hwz; first | rw [← HX.out] | rw [← HY.out])
      | (go_at_call 12; refine (close_any qb nb n s 2 M 120 y _ HQ5.out HG.out (by decide)).mono ?_; rintro e w6 ⟨v, rfl, hown, h1, h2⟩; obtain ⟨a3, cap3, rfl, hle3, hmx3, hnil3, hblk3, hsl3⟩ := slAt_of_own Rw.len hown; have HQ6 := Lib.hid h1; have HP6 := Lib.hid (HP5.out.same (h2.block pb HP5.out.lt (by simp; omega)) (h2.block mb HP5.out.2.lt (by simp; omega))); have HB6 := Lib.hid (belowMap HB5.out h2 HB5.out.size (by omega)); have HA6 := Lib.hid (HA5.out.mapped Rw.len (by decide) HQ5.out.2.block h2); have HF6 := Lib.hid (HF5.out.mapped Rw.len (by decide) HQ5.out.2.block h2); have HS6 := Lib.hid (HS5.out.mapped Rw.len (by decide) HQ5.out.2.block h2); have HT6 := Lib.hid hsl3; clear hown h1 h2 hsl3 hblk3)
      | (go_at_call 12; refine (close_any pb mb n s 2 (keepL n x M) 120 y _ HP4.out (HG.out.keep x) (by decide)).mono ?_; rintro e w5 ⟨v, rfl, hown, h1, h2⟩; obtain ⟨a2, cap2, rfl, hle2, hmx2, hnil2, hblk2, hsl2⟩ := slAt_of_own Rw.len hown; have HP5 := Lib.hid h1; have HQ5 := Lib.hid (HQ4.out.same (h2.block qb HQ4.out.lt (by simp; omega)) (h2.block nb HQ4.out.2.lt (by simp; omega))); have HB5 := Lib.hid (belowMap HB4.out h2 HB4.out.size (by omega)); have HA5 := Lib.hid (HA4.out.mapped Rw.len (by decide) HP4.out.2.block h2); have HF5 := Lib.hid (HF4.out.mapped Rw.len (by decide) HP4.out.2.block h2); have HS5 := Lib.hid hsl2; clear hown h1 h2 hsl2 hblk2)
      | (go_at_call 12; refine (close_any pb mb n s 2 M 120 x _ HP3.out HG.out (by decide)).mono ?_; rintro e w4 ⟨v, rfl, hown, h1, h2⟩; obtain ⟨a1, cap1, rfl, hle1, hmx1, hnil1, hblk1, hsl1⟩ := slAt_of_own Rw.len hown; have HP4 := Lib.hid h1; have HQ4 := Lib.hid (HQ3.out.same (h2.block qb HQ3.out.lt (by simp; omega)) (h2.block nb HQ3.out.2.lt (by simp; omega))); have HB4 := Lib.hid (belowMap HB3.out h2 HB3.out.size (by omega)); have HA4 := Lib.hid (HA3.out.mapped Rw.len (by decide) HP3.out.2.block h2); have HF4 := Lib.hid hsl1; clear hown h1 h2 hsl1 hblk1)
      | (go_at_call 14; refine (open_any pb mb n s 2 M _ HP.out (by have := HG.out.len; omega)).mono ?_; rintro e w3 ⟨v, rfl, hown, h2⟩; obtain ⟨a0, cap0, rfl, hle0, hmx0, hnil0, hblk0, hsl0⟩ := slAt_of_own Rw.len hown; have HP3 := Lib.hid (HP.out.below h2 HP.out.lt HP.out.2.lt); have HQ3 := Lib.hid (HQ.out.below h2 HQ.out.lt HQ.out.2.lt); have HB3 := Lib.hid (HB.out.trans (h2.mono HB.out.size)); have HA3 := Lib.hid hsl0; clear hown h2 hsl0 hblk0))
    have hF1 := fun r (h : r ∈ rowsL (doneL n x M)) => rows_done HG.out h
    have hF2 := fun r (h : r ∈ rowsL (doneL n y (keepL n x M))) => rows_done ((HG.out.keep x)) h
    have hF3 := fun r (h : r ∈ rowsL (doneL n y (keepL n x M))) => rows_kept h
    have HF1 := Lib.hid hF1
    have HF2 := Lib.hid hF2
    have HF3 := Lib.hid hF3
    have hlF : (rowsL (doneL n x M)).length ≤ 120 := by simp [rowsL]; exact Nat.le_trans (List.length_filter_le _ _) HG.out.len
    have hlS : (rowsL (doneL n y (keepL n x M))).length ≤ 120 := by simp [rowsL]; exact Nat.le_trans (List.length_filter_le _ _) (HG.out.keep x).len
    clear hF1 hF2 hF3
    go_cut [] from 99 to 110 (fun wx => Below w6.heap.size w6 wx)
    case first =>
      go_wp2_with fail
      go_loopw [100] (fun iv wr => ∃ k : Nat, k ≤ (rowsL (doneL n x M)).length ∧ iv = .int .i64 k ∧ Below w6.heap.size w6 wr) (fun iv _ => 120 - (numOf iv).toNat)
      case atStart => exact ⟨0, by omega, rfl, Below.refl _ _⟩
      case round =>
        obtain ⟨k, hk, rfl, hbe⟩ := hrel
        by_cases hkl : (k : Int) < (rowsL (doneL n x M)).length
        · have hkn : k < (rowsL (doneL n x M)).length := by omega
          obtain ⟨bl, o, rfl, hbl, c0, c1, c2, c3, c4⟩ := (HF6.out.kept hbe).rwAt k hkn
          have hr := HF1.out _ (List.getElem_mem hkn)
          rw [List.getElem?_eq_getElem hkn] at c0 c1 c2 c3 c4
          simp only [Option.getD_some] at c0 c1 c2 c3 c4
          generalize (rowsL (doneL n x M))[k] = r at *
          have hr1 := hr.1
          have hr2 := hr.2.1
          have hr3 := hr.2.2
          clear hr
          go_wp2_with fail
          go_roundw
          case rel => exact ⟨k + 1, by omega, by go_num, by have := hbe.size; go_grown⟩
          case measure => simp [numOf]; omega
        · go_wp2
          go_meet
          exact hbe
    case rest =>
      have HB7 := Lib.hid (HB6.out.trans (hcut.mono HB6.out.size))
      have HP7 := Lib.hid (HP6.out.below hcut HP6.out.lt HP6.out.2.lt)
      have HA7 := Lib.hid (HA6.out.kept hcut)
      have HF7 := Lib.hid (HF6.out.kept hcut)
      have HS7 := Lib.hid (HS6.out.kept hcut)
      have HT7 := Lib.hid (HT6.out.kept hcut)
      clear hcut
      generalize wc = w7 at *
      go_upto_block 4 with fail
      go_cut [] from 112 to 131 (fun wx => Below w7.heap.size w7 wx)
      case first =>
        go_wp2_with fail
        go_loopw [113] (fun iv wr => ∃ k : Nat, k ≤ (rowsL (doneL n y (keepL n x M))).length ∧ iv = .int .i64 k ∧ Below w7.heap.size w7 wr) (fun iv _ => 120 - (numOf iv).toNat)
        case atStart => exact ⟨0, by omega, rfl, Below.refl _ _⟩
        case round =>
          obtain ⟨k, hk, rfl, hbe⟩ := hrel
          by_cases hkl : (k : Int) < (rowsL (doneL n y (keepL n x M))).length
          · have hkn : k < (rowsL (doneL n y (keepL n x M))).length := by omega
            obtain ⟨bl, o, rfl, hbl, c0, c1, c2, c3, c4⟩ := (HS7.out.kept hbe).rwAt k hkn
            have hr := HF2.out _ (List.getElem_mem hkn)
            have hr4 := HF3.out _ (List.getElem_mem hkn)
            rw [List.getElem?_eq_getElem hkn] at c0 c1 c2 c3 c4
            simp only [Option.getD_some] at c0 c1 c2 c3 c4
            generalize (rowsL (doneL n y (keepL n x M)))[k] = r at *
            have hr1 := hr.1
            have hr2 := hr.2.1
            have hr3 := hr.2.2
            clear hr
            go_wp2_with fail
            go_roundw
            case rel => exact ⟨k + 1, by omega, by go_num, by have := hbe.size; go_grown⟩
            case measure => simp [numOf]; omega
          · go_wp2
            go_meet
            exact hbe
      case rest =>
        have HB8 := Lib.hid (HB7.out.trans (hcut.mono HB7.out.size))
        have HP8 := Lib.hid (HP7.out.below hcut HP7.out.lt HP7.out.2.lt)
        have HA8 := Lib.hid (HA7.out.kept hcut)
        have HF8 := Lib.hid (HF7.out.kept hcut)
        have HS8 := Lib.hid (HS7.out.kept hcut)
        have HT8 := Lib.hid (HT7.out.kept hcut)
        clear hcut
        generalize wc = w8 at *
        obtain ⟨i0, hi, hz0, hz1, hz2⟩ := rwInfo
        have he1 := close_two HP.out.2.sorted (sz := n) hy.1
        have he2 := close_all HP.out.2.sorted (sz := n) hy.1
        have he3 := close_none (sz := n) (mark := y) (L := keepL n x M)
        have he4 := close_low (mark := -1) (((HG.out.keep x).keep y).keep y) (by omega)
        have hlT : (rowsL (doneL n y M)).length ≤ 120 := by simp [rowsL]; exact Nat.le_trans (List.length_filter_le _ _) HG.out.len
        have hlM : (rowsL M).length ≤ 120 := by simp [rowsL]; exact HG.out.len
        have hlK : (keepL n y (keepL n x M)).length ≤ 120 := ((HG.out.keep x).keep y).len
        have hlR : (rowsL (keepL n y (keepL n x M))).length ≤ 120 := by simp [rowsL]; exact hlK
        have HG2 := Lib.hid ((HG.out.keep x).keep y)
        have HG3 := Lib.hid (((HG.out.keep x).keep y).keep y)
        generalize rowsL (doneL n x M) = F at *
        generalize hR : rowsL (keepL n y (keepL n x M)) = R at *
        generalize rowsL (doneL n y (keepL n x M)) = S2 at *
        generalize rowsL (doneL n y M) = T at *
        generalize rowsL M = A at *
        have HE1 := Lib.hid he1
        have HE2 := Lib.hid he2
        have HE3 := Lib.hid he3
        have HE4 := Lib.hid he4
        have HRR := Lib.hid hR
        clear he1 he2 he3 he4 hR
        go_wp2_with (first
          | (go_at_call 3; refine (PanesRuns_any _).mono ?_; rintro e w18 ⟨rfl, h9⟩; have HB18 := Lib.hid (HB17.out.trans (h9.mono HB17.out.size)); clear h9)
          | (go_at_call 12; refine (close_any pb mb n s 2 _ 120 (-1) _ HP16.out HG3.out (by decide)).mono ?_; rintro e w17 ⟨v, rfl, hown, h1, h2⟩; rw [HE4.out] at hown; obtain ⟨a9, cap9, rfl, hle9, hmx9, hnil9, hblk9, hsl9⟩ := slAt_of_own Rw.len hown; have HB17 := Lib.hid (belowMap HB16.out h2 HB16.out.size (by omega)); clear hown h1 h2 hsl9 hblk9)
          | (go_at_call 12; refine (close_any pb mb n s 2 _ 120 y _ HP15.out HG2.out (by decide)).mono ?_; rintro e w16 ⟨v, rfl, hown, h1, h2⟩; rw [HE3.out] at hown; obtain ⟨a8, cap8, rfl, hle8, hmx8, hnil8, hblk8, hsl8⟩ := slAt_of_own Rw.len hown; have HP16 := Lib.hid h1; have HB16 := Lib.hid (belowMap HB15.out h2 HB15.out.size (by omega)); clear hown h1 h2 hsl8 hblk8)
          | (go_at_call 13; refine (SameRw_ok A a7 a0 cap7 cap0 _ HA14'.out HA14.out (by omega) hle7 hle0).mono ?_; rintro e w15 ⟨rfl, h1⟩; have HB15 := Lib.hid (HB14.out.trans (h1.mono HB14.out.size)); have HP15 := Lib.hid (HP14.out.below h1 HP14.out.lt HP14.out.2.lt); clear h1)
          | (at_builtin; refine wpList_append_sl_g Rw.len (by decide) Rw.one rfl _ _ 29 rfl w11.heap.size 33 i0 _ 40 Try.underlying29 hi hz0 hz1 hz2 rfl _ T rfl HO13.out a5 cap5 R rfl hnil5 HR13.out (by omega) (by unfold maxLen; omega) (by omega) ?_; intro v6 w14 h4 h5 h6; rw [HE2.out] at h4; obtain ⟨a7, cap7, rfl, hle7, hmx7, hnil7, hblk7, hsl7⟩ := slAt_of_own Rw.len h4; have h7 := (Below.refl w11.heap.size w11).trans (B1113.out.grown h5 hs13 (by intro j hj; cases hj; exact hb4.1)); have HB14 := Lib.hid (HB11.out.trans (h7.mono HB11.out.size)); have HP14 := Lib.hid (HP11.out.below h7 HP11.out.lt HP11.out.2.lt); have HA14 := Lib.hid (HA11.out.kept h7); have HA14' := Lib.hid hsl7; clear h4 h5 h6 h7 hsl7 hblk7)
          | (go_at_call 14; refine (open_any pb mb n s 2 (keepL n y (keepL n x M)) _ (HP11.out.below B1112.out HP11.out.lt HP11.out.2.lt) (by omega)).mono ?_; rintro e w13 ⟨v, rfl, hown, h2⟩; rw [HRR.out] at hown; obtain ⟨a5, cap5, rfl, hle5, hmx5, hnil5, hblk5, hsl5⟩ := slAt_of_own Rw.len hown; have HO13 := Lib.hid (own_keep HO12.out h2); have HR13 := Lib.hid hsl5; have hs13 : w11.heap.size ≤ w13.heap.size := (by have := h2.size; have := B1112.out.size; omega); have B1113 := Lib.hid (B1112.out.trans (h2.mono B1112.out.size)); clear hown h2 hsl5 hblk5)
          | (at_builtin; refine wpList_copy_sl_g Rw.len (by decide) Rw.one rfl _ _ 29 rfl w11.heap.size 33 i0 _ 40 Try.underlying29 hi hz0 hz1 hz2 rfl w11.heap.size rfl (heap_new _ _) (Nat.le_refl _) a3 cap3 T rfl hnil3 (HT11.out.kept ((Below.refl _ _).alloc (Nat.le_refl _) _)) (by omega) (by unfold maxLen; omega) ?_; intro b4 c4 w12 h1 h2 h3; have HO12 := Lib.hid h1; have hb4 := own_lt h1; have B1112 := Lib.hid (Below.trans ((Below.refl _ w11).alloc (Nat.le_refl _) _) h2); clear h1 h2 h3)
          | (go_at_call 13; refine (SameRw_ok T a6 a3 cap6 cap3 _ HT10'.out HT10.out (by omega) hle6 hle3).mono ?_; rintro e w11 ⟨rfl, h1⟩; have HB11 := Lib.hid (HB10.out.trans (h1.mono HB10.out.size)); have HP11 := Lib.hid (HP10.out.below h1 HP10.out.lt HP10.out.2.lt); have HA11 := Lib.hid (HA10.out.kept h1); have HT11 := Lib.hid (HT10.out.kept h1); clear h1)
          | (at_builtin; refine wpList_append_sl Rw.len (by decide) Rw.one rfl _ _ 29 rfl w8.heap.size 33 i0 _ 40 Try.underlying29 hi hz0 hz1 hz2 rfl _ F rfl HO9.out a2 cap2 S2 rfl hnil2 (HS8.out.kept B89.out) (by omega) (by unfold maxLen; omega) hs89 ?_; intro v2 w10 h4 h5 h6; rw [HE1.out] at h4; obtain ⟨a6, cap6, rfl, hle6, hmx6, hnil6, hblk6, hsl6⟩ := slAt_of_own Rw.len h4; have h7 := (Below.refl w8.heap.size w8).trans (B89.out.grown h5 hs89 (by intro j hj; cases hj; exact hb1.1)); have HB10 := Lib.hid (HB8.out.trans (h7.mono HB8.out.size)); have HP10 := Lib.hid (HP8.out.below h7 HP8.out.lt HP8.out.2.lt); have HA10 := Lib.hid (HA8.out.kept h7); have HT10 := Lib.hid (HT8.out.kept h7); have HT10' := Lib.hid hsl6; clear h4 h5 h6 h7 hsl6 hblk6)
          | (at_builtin; refine wpList_copy_sl Rw.len (by decide) Rw.one rfl _ _ 29 rfl w8.heap.size 33 i0 _ 40 Try.underlying29 hi hz0 hz1 hz2 rfl w8.heap.size rfl (heap_new _ _) (Nat.le_refl _) a1 cap1 F rfl hnil1 (HF8.out.kept ((Below.refl _ _).alloc (Nat.le_refl _) _)) (by omega) (by unfold maxLen; omega) ?_; intro b1 c1 w9 h1 h2 h3; have HO9 := Lib.hid h1; have hb1 := own_lt h1; have B89 := Lib.hid (Below.trans ((Below.refl _ w8).alloc (Nat.le_refl _) _) h2); have hs89 := B89.out.size; clear h1 h2 h3))
        go_ret
        exact ⟨rfl, HB18.out⟩
end Go.Proofs.Ytapmfekeooeinaa
