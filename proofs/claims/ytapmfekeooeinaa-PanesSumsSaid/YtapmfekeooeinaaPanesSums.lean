/- The walk of PanesSums. -/
import Derived.Test.YtapmfekeooeinaaSumsLaw
import Derived.Test.YtapmfekeooeinaaPanesOrder
set_option linter.unusedVariables false
namespace Go.Proofs.Ytapmfekeooeinaa
open Go.RowKit Go.Maps
def ptrC (b : Nat × Nat) : List Value := [.pointer (some ⟨b.1, 0, none⟩)]
theorem ptrC_len (b : Nat × Nat) : (ptrC b).length = 1 := rfl
theorem ptrC_one (b : Nat × Nat) : ∀ u ∈ ptrC b, u.oneCell' = true := by intro u hu; simp [ptrC] at hu; subst hu; rfl
theorem ptrInfo : ∃ i, Try.prog.info? 22 = some i ∧ i.zero = some (.pointer none) ∧ i.size = 1 ∧ i.bytes = 8 := info_parts (by kernel_rfl)
theorem SlAt.ptrAt {w : World} {a : Option Addr} {l : List (Nat × Nat)} (h : SlAt 1 (flat ptrC) w a l) (k : Nat) (hk : k < l.length) :
    ∃ b o, a = some ⟨b, o, none⟩ ∧ b < w.heap.size ∧ w.cell? ⟨b, o + k, none⟩ = some (.pointer (some ⟨l[k].1, 0, none⟩)) := by
  rcases h with rfl | ⟨b, o, rfl, hlt, h⟩
  · simp at hk
  · obtain ⟨cs, h1, h2, h3⟩ := h k hk
    unfold flat at h3
    subst h3
    have := h2 0 (by omega)
    rw [Nat.mul_one] at this
    exact ⟨b, o, rfl, hlt, this⟩
/-- Panes of kind 1, 2, .., each by itself. -/
structure Quad (w : World) (n s : Int) (B : Nat) (P : List (Nat × Nat)) (f : Nat → PL) : Prop where
  here : ∀ i (h : i < P.length), PanesAt w P[i].1 P[i].2 n s ((i : Int) + 1) (f i)
  apart : ∀ i j (hi : i < P.length) (hj : j < P.length), i ≠ j → P[i].1 ≠ P[j].2 ∧ P[i].2 ≠ P[j].2
  low : ∀ i (h : i < P.length), B ≤ P[i].1 ∧ B ≤ P[i].2
theorem Quad.kept {w w' : World} {n s : Int} {B : Nat} {P : List (Nat × Nat)} {f : Nat → PL} (h : Quad w n s B P f) (hb : Below w.heap.size w w') : Quad w' n s B P f :=
  ⟨fun i hi => (h.here i hi).below hb (h.here i hi).lt (h.here i hi).2.lt, h.apart, h.low⟩
theorem Quad.put {w w' : World} {n s : Int} {B : Nat} {P : List (Nat × Nat)} {f : Nat → PL} (h : Quad w n s B P f) {j : Nat} (hj : j < P.length) {L : PL} (hP : PanesAt w' P[j].1 P[j].2 n s ((j : Int) + 1) L) (hg : w.grownBy w' (some P[j].2)) {g : Nat → PL} (hg1 : g j = L) (hg2 : ∀ i, i ≠ j → g i = f i) : Quad w' n s B P g := by
  refine ⟨fun i hi => ?_, h.apart, h.low⟩
  by_cases he : i = j
  · subst he
    rw [hg1]
    exact hP
  · have ha := h.apart i j hi hj he
    rw [hg2 i he]
    exact (h.here i hi).same (hg.block _ (h.here i hi).lt (by simpa using ha.1)) (hg.block _ (h.here i hi).2.lt (by simpa using ha.2))
theorem Quad.snoc {w w' : World} {n s : Int} {B : Nat} {P : List (Nat × Nat)} {f : Nat → PL} (h : Quad w n s B P f) {pb mb : Nat} (h1 : w.heap.size ≤ pb) (h2 : w.heap.size ≤ mb) (hB : B ≤ w.heap.size) (hP : PanesAt w' pb mb n s ((P.length : Int) + 1) (f P.length)) (hb : Below w.heap.size w w') : Quad w' n s B (P ++ [(pb, mb)]) f := by
  have hne := hP.ne
  refine ⟨fun i hi => ?_, fun i j hi hj hij => ?_, fun i hi => ?_⟩
  · by_cases he : i < P.length
    · rw [List.getElem_append_left he]
      exact (h.here i he).below hb (h.here i he).lt (h.here i he).2.lt
    · have : i = P.length := by simp at hi; omega
      subst this
      simpa using hP
  · by_cases hi' : i < P.length
    · rw [List.getElem_append_left hi']
      have l1 := (h.here i hi').lt
      have l2 := (h.here i hi').2.lt
      by_cases hj' : j < P.length
      · rw [List.getElem_append_left hj']
        exact h.apart i j hi' hj' hij
      · have : j = P.length := by simp at hj; omega
        subst this
        simp
        omega
    · have : i = P.length := by simp at hi; omega
      subst this
      by_cases hj' : j < P.length
      · rw [List.getElem_append_left hj']
        have l2 := (h.here j hj').2.lt
        simp
        omega
      · exfalso
        simp at hj
        omega
  · by_cases hi' : i < P.length
    · rw [List.getElem_append_left hi']
      exact h.low i hi'
    · have : i = P.length := by simp at hi; omega
      subst this
      simp
      omega
theorem Quad.nil (w : World) (n s : Int) (B : Nat) (f : Nat → PL) : Quad w n s B [] f := ⟨fun i h => by simp at h, fun i j h => by simp at h, fun i h => by simp at h⟩
/-- Appending to a row of pointers leaves the panes. -/
theorem quad_own {w w' : World} {n s : Int} {B m : Nat} {v : Value} {xs : List Value} {P : List (Nat × Nat)} {f : Nat → PL} (h : Quad w n s B P f) (ho : w.ownsRow B 22 1 v m xs) (hg : w.grownBy w' v.ownBlock) : Quad w' n s B P f := by
  have hd : ∀ i (h : i < P.length), some P[i].1 ≠ v.ownBlock ∧ some P[i].2 ≠ v.ownBlock := by
    intro i hi
    have h1 := (h.here i hi).1
    obtain ⟨es, clock, h2⟩ := (h.here i hi).2.block
    rcases ho.2 with ⟨rfl, _⟩ | ⟨g, cap, cur, rfl, hB, hg, _⟩
    · exact ⟨by simp [Value.ownBlock], by simp [Value.ownBlock]⟩
    · refine ⟨fun e => ?_, fun e => ?_⟩
      · simp [Value.ownBlock] at e
        rw [e, hg] at h1
        cases h1
      · simp [Value.ownBlock] at e
        rw [e, hg] at h2
        cases h2
  exact ⟨fun i hi => (h.here i hi).same (hg.block _ (h.here i hi).lt (hd i hi).1) (hg.block _ (h.here i hi).2.lt (hd i hi).2), h.apart, h.low⟩
def evS (e : Ev) : Ev := ⟨within e.time 0 200, within e.key 0 3, within e.value (-1000) 1000, 1⟩
def okS (e : Ev) : Prop := e.wf ∧ 0 ≤ e.time ∧ e.time ≤ 200 ∧ -1000 ≤ e.value ∧ e.value ≤ 1000
theorem evS_ok (e : Ev) : okS (evS e) := by
  have h1 := within_range e.time 0 200 (by omega)
  have h2 := within_range e.key 0 3 (by omega)
  have h3 := within_range e.value (-1000) 1000 (by omega)
  exact ⟨⟨WalkArith.wf_i64 (by show _ ≤ within e.time 0 200 ∧ within e.time 0 200 ≤ _; omega), WalkArith.wf_i64 (by show _ ≤ within e.key 0 3 ∧ within e.key 0 3 ≤ _; omega), WalkArith.wf_i64 (by show _ ≤ within e.value (-1000) 1000 ∧ within e.value (-1000) 1000 ≤ _; omega), show (Lit.int .u64 1).wf = true by decide⟩, h1.1, h1.2, h3.1, h3.2⟩
theorem evS_all (l : List Ev) (k : Nat) : ∀ e ∈ (l.map evS).take k, okS e := by
  intro e he
  obtain ⟨e0, h0, rfl⟩ := List.mem_map.1 (List.mem_of_mem_take he)
  exact evS_ok e0
theorem lexFrom_succ {md : Region.Mode} {ops : Array Oper} {fuel k : Nat} {listed : Array Bool} (h1 : ((Region.ready md ops listed).contains k && Region.free md ops listed k) = true) (h2 : Region.lexFrom md ops fuel (k + 1) (listed.setIfInBounds k true) = true) : Region.lexFrom md ops (fuel + 1) k listed = true := by
  show ((Region.ready md ops listed).contains k && Region.free md ops listed k && Region.lexFrom md ops fuel (k + 1) (listed.setIfInBounds k true)) = true
  rw [h1, h2]
  rfl
theorem lexB_of {md : Region.Mode} {ops : Array Oper} {n : Nat} (hn : ops.size = n) (h1 : Region.noSelect ops = true) (h2 : Region.lexFrom md ops n 0 (Array.replicate n false) = true) : Region.lexB md ops = true := by
  subst hn
  unfold Region.lexB
  rw [h1, h2]
  rfl
def putK (n s : Int) (es : List Ev) (i : Nat) : PL := putL ((i : Int) + 1) n s [] es
def putJ (n s : Int) (es fs : List Ev) (j i : Nat) : PL := if i < j then putK n s fs i else putK n s es i
theorem putJ_zero (n s : Int) (es fs : List Ev) : putJ n s es fs 0 = putK n s es := by
  funext i
  simp [putJ]
theorem putJ_step (n s : Int) (es fs : List Ev) {i j : Nat} (h : i ≠ j) : putJ n s es fs (j + 1) i = putJ n s es fs j i := by
  unfold putJ
  by_cases h' : i < j
  · rw [if_pos h', if_pos (by omega)]
  · rw [if_neg h', if_neg (by omega)]
theorem Quad.congr {w : World} {n s : Int} {B : Nat} {P : List (Nat × Nat)} {f g : Nat → PL} (h : Quad w n s B P f) (e : ∀ i, i < P.length → f i = g i) : Quad w n s B P g :=
  ⟨fun i hi => e i hi ▸ h.here i hi, h.apart, h.low⟩
set_option maxHeartbeats 2000000 in
set_option maxRecDepth 20000 in
theorem PanesSums_any (w : World) (size : Int) (hsz : (Lit.int .i64 size).wf = true) (slide : Int) (hsl : (Lit.int .i64 slide).wf = true) (al : Option Addr) (cap : Nat) (l : List Ev) (hle : l.length ≤ cap) (hmx : cap ≤ maxLen) (hnil : al = none → cap = 0) (hl : SlAt 4 isEv w al l) :
    Calls Try.prog 7 #[.int .i64 size, .int .i64 slide, .slice al l.length cap] w fun e w' => e = .returned (.bool true) ∧ Below w.heap.size w w' := by
  obtain ⟨hl1, hlw⟩ := hl.both
  obtain ⟨i0, hi, hz0, hz1, hz2⟩ := ptrInfo
  have hs := within_range slide 1 20 (by omega)
  obtain ⟨s, hsd⟩ : ∃ s, s = within slide 1 20 := ⟨_, rfl⟩
  rw [← hsd] at hs
  have hn := within_range size s (6 * s) (by omega)
  obtain ⟨n, hnd⟩ : ∃ n, n = within size s (6 * s) := ⟨_, rfl⟩
  rw [← hnd] at hn
  have hr1 := i64_range hsz
  have hr2 := i64_range hsl
  have HS := Lib.hid hsd
  have HN := Lib.hid hnd
  have HL := Lib.hid hl1
  have HLW := Lib.hid hlw
  clear hsd hnd hl1 hlw hl hsz hsl
  go_enter Try.func7, Try.ntmps7
  go_upto_block 0 with (first
    | (go_at_call 15; refine (Within_any _ _ _ _ (by omega) (by omega) (by omega) (by omega) (by omega)).mono ?_; rintro e wz ⟨rfl, hwz⟩; have hwz := hwz.symm; subst hwz; first | rw [← HS.out] | rw [← HN.out]))
  go_cut [9] from 29 to 42 (fun v wx => ∃ P : List (Nat × Nat), P.length = 4 ∧ wx.ownsRow w.heap.size 22 1 v P.length (P.flatMap ptrC) ∧ Quad wx n s w.heap.size P (fun _ => []) ∧ Below w.heap.size w wx)
  case first =>
    go_wp2_with fail
    go_loopw [9, 10] (fun v kv wr => ∃ P : List (Nat × Nat), P.length ≤ 4 ∧ kv = .int .i64 ((P.length : Int) + 1) ∧ wr.ownsRow w.heap.size 22 1 v P.length (P.flatMap ptrC) ∧ Quad wr n s w.heap.size P (fun _ => []) ∧ Below w.heap.size w wr) (fun _ kv _ => 5 - (numOf kv).toNat)
    case atStart => exact ⟨[], by simp, by simp, World.ownsRow_nil _ _ _ _, Quad.nil _ _ _ _ _, Below.refl _ _⟩
    case round =>
      obtain ⟨P, hP4, rfl, hown, hQ, hB⟩ := hrel
      have hbs := hB.size
      have HOWN := Lib.hid hown
      have HQ := Lib.hid hQ
      have HB := Lib.hid hB
      clear hown hQ hB
      by_cases hk : (P.length : Int) + 1 ≤ 4
      · go_wp2_with (first
          | (go_at_call 9; refine (panesNew_any n s ((P.length : Int) + 1) _).mono ?_; rintro e w2 ⟨pb, mb, rfl, hpb, hmb, hN, hb⟩; have HQ2 := Lib.hid (HQ.out.snoc hpb hmb hbs hN hb); have HB2 := Lib.hid (HB.out.trans (hb.mono hbs)); have HO2 := Lib.hid (own_keep HOWN.out hb); have hs2 := HB2.out.size; clear hN hb)
          | (at_builtin; refine wpList_append_sl ptrC_len (by decide) ptrC_one rfl _ _ 44 rfl w.heap.size 22 i0 _ 8 Try.underlying44 hi hz0 hz1 hz2 rfl _ P rfl (own_keep HO2.out ((Below.refl _ _).alloc (Nat.le_refl _) _)) (some ⟨w2.heap.size, 0, none⟩) 1 [(pb, mb)] rfl (by simp) (SlAt.one ptrC_len (heap_new _ _)) (by simp; omega) (by simp [maxLen]; omega) (by simp; omega) ?_; intro v3 w3 h4 h5 h6; have HO3 := Lib.hid h4; have HQ3 := Lib.hid (quad_own (HQ2.out.kept ((Below.refl w2.heap.size w2).alloc (Nat.le_refl _) (.cells #[.pointer (some ⟨pb, 0, none⟩)] 22))) (own_keep HO2.out ((Below.refl _ _).alloc (Nat.le_refl _) _)) h5); have HB3 := Lib.hid ((HB2.out.alloc hs2 (.cells #[.pointer (some ⟨pb, 0, none⟩)] 22)).grown h5 (by simp; omega) (fun i hi => (HO2.out.lt i hi).1)); clear h4 h5 h6))
        exact ⟨⟨P ++ [(pb, mb)], by simp; omega, by simp, by simpa using HO3.out, HQ3.out, HB3.out⟩, by simp [numOf]; omega⟩
      · go_wp2
        go_meet
        exact ⟨P, by omega, HOWN.out, HQ.out, HB.out⟩
  case rest =>
    obtain ⟨P, hP4, hown, hQ, hB⟩ := hcut
    obtain ⟨a1, cap1, rfl, hle1, hmx1, hnil1, hblk1, hsl1⟩ := slAt_of_own ptrC_len hown
    have hbs := hB.size
    have HQ := Lib.hid hQ
    have HB := Lib.hid hB
    have HPS := Lib.hid hsl1
    clear hown hQ hB hsl1 hblk1
    generalize wc = w1 at *
    have hPa : P.length ≤ 4 := by omega
    have hPb : 4 ≤ P.length := by omega
    have HP4 := Lib.hid hP4
    clear hP4
    go_upto_block 2 with fail
    go_cut [] from 43 to 82 (fun wx => ∃ es : List Ev, es.length ≤ 15 ∧ (∀ e ∈ es, okS e) ∧ Quad wx n s w.heap.size P (putK n s es) ∧ SlAt 1 (flat ptrC) wx a1 P ∧ Below w.heap.size w wx)
    case first =>
      go_wp2_with fail
      go_loopw [12] (fun iv wr => ∃ k : Nat, k ≤ l.length ∧ k ≤ 15 ∧ iv = .int .i64 k ∧ Quad wr n s w.heap.size P (putK n s ((l.map evS).take k)) ∧ SlAt 1 (flat ptrC) wr a1 P ∧ Below w.heap.size w wr) (fun iv _ => 15 - (numOf iv).toNat)
      case atStart => exact ⟨0, by omega, by omega, rfl, HQ.out, HPS.out, HB.out⟩
      case round =>
        obtain ⟨k, hk, hk15, rfl, hQ, hS, hB⟩ := hrel
        have hwr := hB.size
        have HQ := Lib.hid hQ
        have HPS := Lib.hid hS
        have HB := Lib.hid hB
        have hEk : ((l.map evS).take k).length = k := by simp; omega
        have HEK := Lib.hid hEk
        clear hQ hS hB hEk
        by_cases hkl : (k : Int) < l.length
        · by_cases hk1 : (k : Int) < 15
          · have hkn : k < l.length := by omega
            obtain ⟨bl, o, rfl, hbl, c0, c1, c2, c3⟩ := (HL.out.below HB.out (fun _ _ h => h)).evAt k hkn
            have hew := HLW.out _ (List.getElem_mem hkn)
            have hev := map_take_snoc l evS hkn
            rw [List.getElem?_eq_getElem hkn] at c0 c1 c2
            simp only [Option.getD_some] at c0 c1 c2
            generalize l[k] = ev at *
            have hok := evS_ok ev
            have ht := i64_range hew.1
            have hy := i64_range hew.2.1
            have hz := i64_range hew.2.2.1
            have HEV := Lib.hid hev
            have HOK := Lib.hid hok
            clear hew hev hok c3
            go_wp2_with fail
            go_cut [13] from 53 to 71 (fun u wx => u = .pointer (some ⟨wr.heap.size, 0, none⟩) ∧ wx.heap[wr.heap.size]? = some (.cells (evS ev).cells.toArray 27 (0, 0)) ∧ Below wr.heap.size wr wx)
            case first =>
              go_region_held3 (fun w' => w'.cell? ⟨bl, o + k * 4, none⟩ = some (.int .i64 ev.time) ∧ w'.cell? ⟨bl, o + k * 4 + 1, none⟩ = some (.int .i64 ev.key) ∧ w'.cell? ⟨bl, o + k * 4 + 2, none⟩ = some (.int .i64 ev.value)) (exact ⟨(Below.cell (B := wr.heap.size) (w := wr) (by go_grown) hbl).trans c0, (Below.cell (B := wr.heap.size) (w := wr) (by go_grown) hbl).trans c1, (Below.cell (B := wr.heap.size) (w := wr) (by go_grown) hbl).trans c2⟩) (first | (go_at_call 15; refine (Within_any _ _ _ _ (by omega) (by omega) (by omega) (by omega) (by omega)).mono ?_; rintro e wz ⟨rfl, hwz⟩; have hwz := hwz.symm; subst hwz))
              all_goals
                go_wp2
                go_meet
                exact ⟨rfl, new_at _ _ _ rfl, by go_grown⟩
            case rest =>
              obtain ⟨rfl, hv, hbx⟩ := hcut
              have HQX := Lib.hid (HQ.out.kept hbx)
              have HSX := Lib.hid (HPS.out.kept hbx)
              have HBX := Lib.hid (HB.out.trans (hbx.mono (by omega)))
              have hgl : wr.heap.size < wc.heap.size := (Array.getElem?_eq_some_iff.1 hv).1
              obtain ⟨ec, hec⟩ : ∃ x, x = evS ev := ⟨_, rfl⟩
              rw [← hec] at hv
              have HV := Lib.hid hv
              have HEC := Lib.hid hec
              clear hv hec hbx c0 c1 c2 HQ HPS HB
              generalize wr.heap.size = g at *
              generalize wc = w2 at *
              go_wp2_with fail
              go_loopw [74] (fun jv wr => ∃ j : Nat, j ≤ 4 ∧ jv = .int .i64 j ∧ Quad wr n s w.heap.size P (putJ n s ((l.map evS).take k) ((l.map evS).take (k + 1)) j) ∧ SlAt 1 (flat ptrC) wr a1 P ∧ wr.heap[g]? = some (.cells ec.cells.toArray 27 (0, 0)) ∧ Below w.heap.size w wr ∧ g < wr.heap.size) (fun jv _ => 4 - (numOf jv).toNat)
              case atStart => exact ⟨0, by omega, rfl, by rw [putJ_zero]; exact HQX.out, HSX.out, HV.out, HBX.out, hgl⟩
              case round =>
                obtain ⟨j, hj, rfl, hQ, hS, hv, hB, hgw⟩ := hrel
                have hwr2 := hB.size
                have d0 : wr.cell? ⟨g, 0, none⟩ = some (.int .i64 ec.time) := (by simp [World.cell?, hv, Ev.cells])
                have d1 : wr.cell? ⟨g, 1, none⟩ = some (.int .i64 ec.key) := (by simp [World.cell?, hv, Ev.cells])
                have d2 : wr.cell? ⟨g, 2, none⟩ = some (.int .i64 ec.value) := (by simp [World.cell?, hv, Ev.cells])
                have d3 : wr.cell? ⟨g, 3, none⟩ = some (.int .u64 ec.label) := (by simp [World.cell?, hv, Ev.cells])
                have HQ := Lib.hid hQ
                have HPS := Lib.hid hS
                have HV2 := Lib.hid hv
                have HB := Lib.hid hB
                clear hQ hS hv hB
                by_cases hjl : (j : Int) < P.length
                · have hjn : j < P.length := by omega
                  obtain ⟨b3, o3, rfl, hb3, q0⟩ := HPS.out.ptrAt j hjn
                  have hpj := HQ.out.here j hjn
                  have hfj : putJ n s ((l.map evS).take k) ((l.map evS).take (k + 1)) j j = putL ((j : Int) + 1) n s [] ((l.map evS).take k) := by simp [putJ, putK]
                  rw [hfj] at hpj
                  have hgj := (GoodL.putL (kd := (j : Int) + 1) (sz := n) (sl := s) (WalkArith.wf_i64 (by omega)) ((l.map evS).take k) 0 [] (fun e he => (evS_all l k e he).1) (GoodL.empty _ n s) List.Pairwise.nil (by have := HEK.out; omega)).1.mono (show 0 + 8 * ((l.map evS).take k).length ≤ 120 by have := HEK.out; omega)
                  have hgm : g ≠ P[j].2 := by
                    intro e
                    obtain ⟨es', cl, h⟩ := hpj.2.block
                    rw [← e, HV2.out] at h
                    cases h
                  have hlow := (HQ.out.low j hjn).2
                  obtain ⟨pj, hpjd⟩ : ∃ x, x = P[j].1 := ⟨_, rfl⟩
                  obtain ⟨mj, hmjd⟩ : ∃ x, x = P[j].2 := ⟨_, rfl⟩
                  rw [← hpjd] at q0 hpj
                  rw [← hmjd] at hpj hlow hgm
                  have HPJ := Lib.hid hpj
                  have HGJ := Lib.hid hgj
                  have HPD := Lib.hid hpjd
                  have HMD := Lib.hid hmjd
                  clear hpj hgj hpjd hmjd hfj
                  go_wp2_with (first
                    | (go_at_call 10; refine (put_one pj mj n s ((j : Int) + 1) _ 120 wr.heap.size ec _ (HPJ.out.below ((Below.refl _ _).alloc (Nat.le_refl _) _) HPJ.out.lt HPJ.out.2.lt) HGJ.out (WalkArith.wf_i64 (by omega)) (heap_new _ _) (by rw [HEC.out]; exact HOK.out.1) (by omega)).mono ?_; rintro e w5 ⟨rfl, h1, h2, h3⟩; have HP5 := Lib.hid h1; have HG5 := Lib.hid h3; clear h1 h2 h3))
                  have hal : Below wr.heap.size wr (wr.alloc (.cells #[.int .i64 ec.time, .int .i64 ec.key, .int .i64 ec.value, .int .u64 ec.label] 27)) := (Below.refl _ wr).alloc (Nat.le_refl _) _
                  have hL : putE ((j : Int) + 1) n s (putL ((j : Int) + 1) n s [] ((l.map evS).take k)) ec = putK n s ((l.map evS).take (k + 1)) j := by
                    unfold putK
                    rw [HEV.out, putL_snoc, HEC.out]
                  have hP5 := HP5.out
                  rw [hL, HPD.out, HMD.out] at hP5
                  have hG5 := HG5.out
                  have hq5 : Quad w5 n s w.heap.size P (putJ n s ((l.map evS).take k) ((l.map evS).take (k + 1)) (j + 1)) :=
                    (HQ.out.kept hal).put hjn hP5 (by rw [← HMD.out]; exact hG5) (by simp [putJ]) (fun i hi => putJ_step _ _ _ _ hi)
                  exact ⟨⟨j + 1, by omega, by simp, hq5, (HPS.out.kept hal).mapped ptrC_len (by decide) (HPJ.out.below hal HPJ.out.lt HPJ.out.2.lt).2.block hG5, (hG5.block g (by simp; omega) (by simp; omega)).trans ((hal.block g hgw).trans HV2.out), belowMap (HB.out.alloc hwr2 _) hG5 (by simp; omega) hlow, by have := hG5.size; simp at this; omega⟩, by simp [numOf]; omega⟩
                · go_wp2
                  exact ⟨⟨k + 1, by omega, by omega, by simp, HQ.out.congr (fun i hi => by unfold putJ; rw [if_pos (by omega)]), HPS.out, HB.out⟩, by simp [numOf]; omega⟩
          · go_wp2
            go_meet
            exact ⟨(l.map evS).take k, by have := HEK.out; omega, evS_all l k, HQ.out, HPS.out, HB.out⟩
        · go_wp2
          go_meet
          exact ⟨(l.map evS).take k, by have := HEK.out; omega, evS_all l k, HQ.out, HPS.out, HB.out⟩
    case rest =>
      obtain ⟨es, hel, hes, hQ, hS, hB⟩ := hcut
      have hbs2 := hB.size
      have HQ2 := Lib.hid hQ
      have HPS2 := Lib.hid hS
      have HB2 := Lib.hid hB
      have HES := Lib.hid hes
      clear hQ hS hB hes HQ HB HPS
      generalize wc = w2 at *
      obtain ⟨b1, o1, rfl, hb1, q0⟩ := HPS2.out.ptrAt 0 (by omega)
      obtain ⟨b1', o1', he1, _, q1⟩ := HPS2.out.ptrAt 1 (by omega)
      obtain ⟨rfl, rfl⟩ : b1' = b1 ∧ o1' = o1 := by simpa [eq_comm] using he1
      obtain ⟨b2', o2', he2, _, q2⟩ := HPS2.out.ptrAt 2 (by omega)
      obtain ⟨rfl, rfl⟩ : b2' = b1' ∧ o2' = o1' := by simpa [eq_comm] using he2
      obtain ⟨b3', o3', he3, _, q3⟩ := HPS2.out.ptrAt 3 (by omega)
      obtain ⟨rfl, rfl⟩ : b3' = b2' ∧ o3' = o2' := by simpa [eq_comm] using he3
      clear he1 he2 he3
      have H1 := Lib.hid (HQ2.out.here 0 (by omega))
      have H2 := Lib.hid (HQ2.out.here 1 (by omega))
      have H3 := Lib.hid (HQ2.out.here 2 (by omega))
      have H4 := Lib.hid (HQ2.out.here 3 (by omega))
      rw [Nat.add_zero] at q0
      have hfr := four_rows (n := n) (s := s) (es := es) (fun e he => (HES.out e he).1) hel (fun e he => (HES.out e he).2.2.2)
      have hgl := fun (k : Int) (hk : (Lit.int .i64 k).wf = true) => (GoodL.putL (kd := k) (sz := n) (sl := s) hk es 0 [] (fun e he => (HES.out e he).1) (GoodL.empty _ n s) List.Pairwise.nil (by omega)).1.len
      have hl1 : (putK n s es 0).length < 2 ^ 40 := by have := hgl 1 (by decide); show (putL 1 n s [] es).length < _; omega
      have hl2 : (putK n s es 1).length < 2 ^ 40 := by have := hgl 2 (by decide); show (putL 2 n s [] es).length < _; omega
      have hl3 : (putK n s es 2).length < 2 ^ 40 := by have := hgl 3 (by decide); show (putL 3 n s [] es).length < _; omega
      have hl4 : (putK n s es 3).length < 2 ^ 40 := by have := hgl 4 (by decide); show (putL 4 n s [] es).length < _; omega
      have hR120 : (rowsL (putL 1 n s [] es)).length ≤ 120 := by have := hgl 1 (by decide); simp [rowsL]; omega
      have HFR := Lib.hid hfr
      generalize hp1 : P[0].1 = p1 at *
      generalize hm1 : P[0].2 = m1 at *
      generalize hp2 : P[1].1 = p2 at *
      generalize hm2 : P[1].2 = m2 at *
      generalize hp3 : P[2].1 = p3 at *
      generalize hm3 : P[2].2 = m3 at *
      generalize hp4 : P[3].1 = p4 at *
      generalize hm4 : P[3].2 = m4 at *
      have KF : Hid (∀ w', Below w2.heap.size w2 w' → w'.cell? ⟨b3', o3', none⟩ = some (.pointer (some ⟨p1, 0, none⟩)) ∧ w'.cell? ⟨b3', o3' + 1, none⟩ = some (.pointer (some ⟨p2, 0, none⟩)) ∧ w'.cell? ⟨b3', o3' + 2, none⟩ = some (.pointer (some ⟨p3, 0, none⟩)) ∧ w'.cell? ⟨b3', o3' + 3, none⟩ = some (.pointer (some ⟨p4, 0, none⟩))) := fun w' hb => ⟨(hb.cell hb1).trans q0, (hb.cell hb1).trans q1, (hb.cell hb1).trans q2, (hb.cell hb1).trans q3⟩
      clear hfr hgl hp1 hm1 hp2 hm2 hp3 hm3 hp4 hm4
      generalize P.length = pl at *
      have hi0 : (0 : Int) < (pl : Int) := by omega
      have hi0n : 0 < pl := by omega
      have hi1 : (1 : Int) < (pl : Int) := by omega
      have hi2 : (2 : Int) < (pl : Int) := by omega
      have hi3 : (3 : Int) < (pl : Int) := by omega
      go_wp2_with fail
      go_cut [16, 17, 18, 19] from 83 to 98 (fun u1 u2 u3 u4 wx => ∃ a1 a2 a3 a4 cap1 cap2 cap3 cap4, u1 = .slice a1 (rowsL (putL 1 n s [] es)).length cap1 ∧ u2 = .slice a2 (rowsL (putL 1 n s [] es)).length cap2 ∧ u3 = .slice a3 (rowsL (putL 1 n s [] es)).length cap3 ∧ u4 = .slice a4 (rowsL (putL 1 n s [] es)).length cap4 ∧ (rowsL (putL 1 n s [] es)).length ≤ cap1 ∧ (rowsL (putL 1 n s [] es)).length ≤ cap2 ∧ (rowsL (putL 1 n s [] es)).length ≤ cap3 ∧ (rowsL (putL 1 n s [] es)).length ≤ cap4 ∧ SlAt 5 (flat Rw.cells) wx a1 (rowsL (putL 1 n s [] es)) ∧ SlAt 5 (flat Rw.cells) wx a2 (rowsL (putL 2 n s [] es)) ∧ SlAt 5 (flat Rw.cells) wx a3 (rowsL (putL 3 n s [] es)) ∧ SlAt 5 (flat Rw.cells) wx a4 (rowsL (putL 4 n s [] es)) ∧ Below w2.heap.size w2 wx)
      case first =>
        go_region_held3 (fun w' => w'.cell? ⟨b3', o3', none⟩ = some (.pointer (some ⟨p1, 0, none⟩)) ∧ w'.cell? ⟨b3', o3' + 1, none⟩ = some (.pointer (some ⟨p2, 0, none⟩)) ∧ w'.cell? ⟨b3', o3' + 2, none⟩ = some (.pointer (some ⟨p3, 0, none⟩)) ∧ w'.cell? ⟨b3', o3' + 3, none⟩ = some (.pointer (some ⟨p4, 0, none⟩))) (first | exact ⟨q0, q1, q2, q3⟩ | exact KF.out _ B4.out | exact KF.out _ B3.out | exact KF.out _ B2.out | exact KF.out _ B1.out) (first
          | (go_at_call 14; refine (open_any p4 m4 n s (3 + 1) _ _ (H4.out.below (B3.out) H4.out.lt H4.out.2.lt) hl4).mono ?_; rintro e x4 ⟨v, rfl, hown, h2⟩; obtain ⟨a4, cap4, rfl, hcl4, hcm4, hcn4, hcb4, hcs4⟩ := slAt_of_own Rw.len hown; have B4 := Lib.hid (B3.out.trans (h2.mono B3.out.size)); have HA14 := Lib.hid (HA13.out.kept h2); have HA24 := Lib.hid (HA23.out.kept h2); have HA34 := Lib.hid (HA33.out.kept h2); have HA44 := Lib.hid hcs4; clear hown h2 hcs4 hcb4)
          | (go_at_call 14; refine (open_any p3 m3 n s (2 + 1) _ _ (H3.out.below (B2.out) H3.out.lt H3.out.2.lt) hl3).mono ?_; rintro e x3 ⟨v, rfl, hown, h2⟩; obtain ⟨a3, cap3, rfl, hcl3, hcm3, hcn3, hcb3, hcs3⟩ := slAt_of_own Rw.len hown; have B3 := Lib.hid (B2.out.trans (h2.mono B2.out.size)); have HA13 := Lib.hid (HA12.out.kept h2); have HA23 := Lib.hid (HA22.out.kept h2); have HA33 := Lib.hid hcs3; clear hown h2 hcs3 hcb3)
          | (go_at_call 14; refine (open_any p2 m2 n s (1 + 1) _ _ (H2.out.below (B1.out) H2.out.lt H2.out.2.lt) hl2).mono ?_; rintro e x2 ⟨v, rfl, hown, h2⟩; obtain ⟨a2, cap2, rfl, hcl2, hcm2, hcn2, hcb2, hcs2⟩ := slAt_of_own Rw.len hown; have B2 := Lib.hid (B1.out.trans (h2.mono B1.out.size)); have HA12 := Lib.hid (HA11.out.kept h2); have HA22 := Lib.hid hcs2; clear hown h2 hcs2 hcb2)
          | (go_at_call 14; refine (open_any p1 m1 n s (0 + 1) _ _ (by exact H1.out.same rfl rfl) hl1).mono ?_; rintro e x1 ⟨v, rfl, hown, h2⟩; obtain ⟨a1, cap1, rfl, hcl1, hcm1, hcn1, hcb1, hcs1⟩ := slAt_of_own Rw.len hown; have B1 := Lib.hid (show Below w2.heap.size w2 x1 from ⟨h2.os, h2.tape, h2.output, h2.size, h2.block⟩); have HA11 := Lib.hid hcs1; clear hown h2 hcs1 hcb1))
        all_goals
          go_wp2
          go_meet
          exact ⟨a1, a2, a3, a4, cap1, cap2, cap3, cap4, rfl, by rw [← HFR.out.1]; rfl, by rw [← HFR.out.2.1]; rfl, by rw [← HFR.out.2.2.1]; rfl, hcl1, by rw [← HFR.out.1]; exact hcl2, by rw [← HFR.out.2.1]; exact hcl3, by rw [← HFR.out.2.2.1]; exact hcl4, HA14.out, HA24.out, HA34.out, HA44.out, B4.out⟩
      case rest =>
        obtain ⟨a1, a2, a3, a4, cap1, cap2, cap3, cap4, rfl, rfl, rfl, rfl, hc1, hc2, hc3, hc4, hs1, hs2, hs3, hs4, hb⟩ := hcut
        have HB3 := Lib.hid (HB2.out.trans (hb.mono hbs2))
        have HA1 := Lib.hid hs1
        have HA2 := Lib.hid hs2
        have HA3 := Lib.hid hs3
        have HA4 := Lib.hid hs4
        clear hs1 hs2 hs3 hs4 hb KF q0 q1 q2 q3 H1 H2 H3 H4 HPS2 HQ2
        have hq2 := HFR.out.1
        have hq3 := HFR.out.2.1
        have hq4 := HFR.out.2.2.1
        have hrow := HFR.out.2.2.2
        generalize rowsL (putL 1 n s [] es) = R1 at *
        generalize rowsL (putL 2 n s [] es) = R2 at *
        generalize rowsL (putL 3 n s [] es) = R3 at *
        generalize rowsL (putL 4 n s [] es) = R4 at *
        have HQ2' := Lib.hid hq2
        have HQ3' := Lib.hid hq3
        have HQ4' := Lib.hid hq4
        have HROW := Lib.hid hrow
        clear hq2 hq3 hq4 hrow HFR
        generalize wc = w3 at *
        go_upto_block 6 with fail
        go_cut [] from 120 to 217 (fun wx => Below w3.heap.size w3 wx)
        case first =>
          go_wp2_with fail
          go_loopw [120] (fun iv wr => ∃ k : Nat, k ≤ R1.length ∧ iv = .int .i64 k ∧ Below w3.heap.size w3 wr) (fun iv _ => 120 - (numOf iv).toNat)
          case atStart => exact ⟨0, by omega, rfl, Below.refl _ _⟩
          case round =>
            obtain ⟨k, hk, rfl, hbe⟩ := hrel
            by_cases hkl : (k : Int) < R1.length
            · have hkn : k < R1.length := by omega
              have hk2 : k < R2.length := by rw [HQ2'.out]; exact hkn
              have hk3 : k < R3.length := by rw [HQ3'.out]; exact hkn
              have hk4 : k < R4.length := by rw [HQ4'.out]; exact hkn
              obtain ⟨e1, f1, rfl, hg1, x0, x1, x2, x3, x4⟩ := (HA1.out.kept hbe).rwAt k hkn
              obtain ⟨e2, f2, rfl, hg2, y0, y1, y2, y3, y4⟩ := (HA2.out.kept hbe).rwAt k hk2
              obtain ⟨e3, f3, rfl, hg3, z0, z1, z2, z3, z4⟩ := (HA3.out.kept hbe).rwAt k hk3
              obtain ⟨e4, f4, rfl, hg4, t0, t1, t2, t3, t4⟩ := (HA4.out.kept hbe).rwAt k hk4
              have hr := HROW.out k hkn hk2 hk3 hk4
              rw [List.getElem?_eq_getElem hkn] at x0 x1 x2 x3 x4
              rw [List.getElem?_eq_getElem hk2] at y0 y1 y2 y3 y4
              rw [List.getElem?_eq_getElem hk3] at z0 z1 z2 z3 z4
              rw [List.getElem?_eq_getElem hk4] at t0 t1 t2 t3 t4
              simp only [Option.getD_some] at x0 x1 x2 x3 x4 y0 y1 y2 y3 y4 z0 z1 z2 z3 z4 t0 t1 t2 t3 t4
              try dsimp only at hr
              generalize R1[k] = ra at *
              generalize R2[k] = rb at *
              generalize R3[k] = rc at *
              generalize R4[k] = rd at *
              obtain ⟨r1, r2, r3, r4, ⟨r5, r6, r7⟩, r8, r9, r10, r11⟩ := hr
              rw [r1] at x2
              rw [r2] at y3
              rw [r10] at t0
              rw [r11] at z1
              have hpa := Int.mul_le_mul_of_nonneg_left (show rc.value ≤ 1000 by omega) (show 0 ≤ ra.count by omega)
              have hpb := Int.mul_le_mul_of_nonneg_left (show -1000 ≤ rc.value by omega) (show 0 ≤ ra.count by omega)
              have hpc := Int.mul_le_mul_of_nonneg_left (show rd.value ≤ 1000 by omega) (show 0 ≤ ra.count by omega)
              have hpd := Int.mul_le_mul_of_nonneg_left (show -1000 ≤ rd.value by omega) (show 0 ≤ ra.count by omega)
              have m0 : -15000 ≤ ra.count * rc.value ∧ ra.count * rc.value ≤ 15000 := by omega
              have m1 : -15000 ≤ ra.count * rd.value ∧ ra.count * rd.value ≤ 15000 := by omega
              have d1 : decide (ra.count < 1) = false := decide_eq_false (by omega)
              have d2 : decide (rd.value < rc.value) = false := decide_eq_false (by omega)
              have d3 : decide (rb.value < ra.count * rc.value) = false := decide_eq_false (by omega)
              have d4 : decide (ra.count * rd.value < rb.value) = false := decide_eq_false (by omega)
              have n1 : ¬ ra.count < 1 := by omega
              have n2 : ¬ rd.value < rc.value := by omega
              have n3 : ¬ rb.value < ra.count * rc.value := by omega
              have n4 : ¬ ra.count * rd.value < rb.value := by omega
              have hxs := hbe.size
              have HBE := Lib.hid hbe
              clear r1 r2 r10 r11 hpa hpb hpc hpd hbe
              have w1' : IntKind.i64.wrap (ra.count * rc.value) = ra.count * rc.value := IntWalk.i64_in _ (by omega)
              have w2' : IntKind.i64.wrap (ra.count * rd.value) = ra.count * rd.value := IntWalk.i64_in _ (by omega)
              go_wp2_with fail
              refine wp_region_quiet_lit (by kernel_rfl) ?lex ?_
              case lex =>
                refine lexB_of (n := 89) (by kernel_rfl) (by kernel_rfl) ?_
                iterate 89 refine lexFrom_succ (by as_aux_lemma => kernel_rfl) ?_
                as_aux_lemma => kernel_rfl
              repeat (go_big_quiet_step (fail))
              refine wpQuiet_nil ?_
              intro _ hw'
              obtain ⟨nq, hw''⟩ := hw'
              subst hw''
              clear w1' w2'
              go_wp2_with fail
              go_roundw
              case rel => exact ⟨k + 1, by omega, by go_num, HBE.out.trans ((below_drewN _ _).mono hxs)⟩
              case measure => first | (simp [numOf]; done) | (simp [numOf]; omega)
            · go_wp2
              go_meet
              exact hbe
        case rest =>
          have HB4 := Lib.hid (HB3.out.trans (hcut.mono HB3.out.size))
          clear hcut
          go_wp2_with (first
            | (go_at_call 3; refine (PanesRuns_any _).mono ?_; rintro e w5 ⟨rfl, h9⟩; have HB5 := Lib.hid (HB4.out.trans (h9.mono HB4.out.size)); clear h9))
          go_ret
          exact ⟨rfl, HB5.out⟩
end Go.Proofs.Ytapmfekeooeinaa
