/- The walk of PanesOrder. -/
import Derived.Test.YtapmfekeooeinaaOrderLaw
import Derived.Test.YtapmfekeooeinaaPanesKeys
import Derived.IntWalk
set_option linter.unusedVariables false
namespace Go.Proofs.Ytapmfekeooeinaa
open Go.RowKit Go.Maps
/-- A slice from an index on reads at what is left. -/
theorem SlAt.low {α : Type} {c : Nat} {R : World → List Value → α → Prop} {w : World} {a : Option Addr} {l : List α} {cap : Nat} (h : SlAt c R w a l) (n : Nat) (hn : n ≤ l.length) (hc : l.length ≤ cap) :
    SlAt c R w (if cap = n then a else a.map (·.add (n * c))) (l.drop n) := by
  by_cases he : cap = n
  · rw [if_pos he]
    exact .inl (List.drop_eq_nil_of_le (by omega))
  · rw [if_neg he]
    rcases h with rfl | ⟨b, o, rfl, hlt, hh⟩
    · exact .inl (by simp)
    · have := SlAt.drop (b := b) (o := o) (.inr ⟨b, o, rfl, hlt, hh⟩) n
      have e : Option.map (fun x : Addr => x.add (n * c)) (some ⟨b, o, none⟩) = some ⟨b, o + n * c, none⟩ := by
        simp [Addr.add]
      rw [e]
      exact this
theorem still_want {P : Program} {ops : Array Oper} {w : World} {Q : Act → Prop} {a : Act} {o : Oper} {rest : List Oper} (hw : Region.wanted o (yielded ops a.tmps) = true) (h : ∀ K : Act → Prop, (∀ a, wpStill P ops w Q rest a → K a) → o.still P a w K) : wpStill P ops w Q (o :: rest) a :=
  wpStill_step fun K hK => by rw [if_pos hw]; exact h K hK
theorem still_skip {P : Program} {ops : Array Oper} {w : World} {Q : Act → Prop} {a : Act} {o : Oper} {rest : List Oper} (hw : Region.wanted o (yielded ops a.tmps) = false) (h : wpStill P ops w Q rest (a.put o.dst undef)) : wpStill P ops w Q (o :: rest) a :=
  wpStill_step fun K hK => by rw [if_neg (by simp [hw])]; exact hK _ h
macro "still_pos" : tactic => `(tactic|
  (refine still_want (by kernel_rfl) (fun K hK => ?_)
   go_simp
   refine hK _ ?_
   clear hK K))
macro "still_neg" : tactic => `(tactic|
  (refine still_skip (by kernel_rfl) ?_
   simp only [Act.put, List.setIfInBounds_toArray, List.set_cons_zero, List.set_cons_succ]))
def evO (e : Ev) : Ev := ⟨within e.time 0 200, within e.key 0 3, e.value, bits .or .u64 e.label 1⟩
theorem evO_wf {e : Ev} (h : e.wf) : (evO e).wf ∧ 0 ≤ (evO e).time ∧ (evO e).time ≤ 200 := by
  have h1 := within_range e.time 0 200 (by omega)
  have h2 := within_range e.key 0 3 (by omega)
  exact ⟨⟨WalkArith.wf_i64 (by show _ ≤ within e.time 0 200 ∧ within e.time 0 200 ≤ _; omega), WalkArith.wf_i64 (by show _ ≤ within e.key 0 3 ∧ within e.key 0 3 ≤ _; omega), h.2.2.1, or_wf _ _⟩, h1.1, h1.2⟩
def sumS (n s : Int) (es : List Ev) : Int := (es.map fun e => ((startsOf e.time n s).length : Int)).sum
theorem sumS_snoc (n s : Int) (es : List Ev) (e : Ev) : sumS n s (es ++ [e]) = sumS n s es + (startsOf e.time n s).length := by simp [sumS]
theorem sumS_range (n s : Int) : ∀ es : List Ev, 0 ≤ sumS n s es ∧ sumS n s es ≤ 8 * es.length
  | [] => by simp [sumS]
  | e :: es => by
    have h1 := sumS_range n s es
    have h2 := starts_len e.time n s
    have : sumS n s (e :: es) = (startsOf e.time n s).length + sumS n s es := by simp [sumS]
    simp only [List.length_cons]
    omega
theorem map_take_snoc {α β : Type} (l : List α) (f : α → β) {k : Nat} (hk : k < l.length) : (l.map f).take (k + 1) = (l.map f).take k ++ [f l[k]] := by
  rw [List.take_add_one, List.getElem?_map, List.getElem?_eq_getElem hk]
  rfl
theorem take_ev (l : List Ev) {k : Nat} (hk : k < l.length) : l.take (k + 1) = l.take k ++ [l[k]] := by
  rw [List.take_add_one, List.getElem?_eq_getElem hk]
  rfl
theorem rows_range {kd sz sl : Int} {N : Nat} {L : PL} (hG : GoodL kd sz sl N L) {r : Rw} (h : r ∈ rowsL L) : 0 ≤ r.start ∧ r.start ≤ 1099511627776 ∧ 0 ≤ r.count ∧ r.count ≤ N := by
  unfold rowsL at h
  obtain ⟨q, hq, rfl⟩ := List.mem_map.1 h
  have h2 := hG.each q.1 q.2 hq
  exact ⟨h2.1, h2.2.1, h2.2.2.1, h2.2.2.2.1⟩
theorem rows_sorted {L : PL} (hs : SortedL L) : (rowsL L).Pairwise fun a b => a.start < b.start ∨ a.start = b.start ∧ a.key < b.key :=
  List.pairwise_map.2 hs
theorem evO_all {l : List Ev} (hw : ∀ e ∈ l, e.wf) (k : Nat) : ∀ e ∈ (l.map evO).take k, e.wf ∧ 0 ≤ e.time ∧ e.time ≤ 200 := by
  intro e he
  obtain ⟨e0, h0, rfl⟩ := List.mem_map.1 (List.mem_of_mem_take he)
  exact evO_wf (hw e0 h0)
def labF (n : Int) (r : Rw) (es : List Ev) : Int := (es.filter (inRow n r)).foldl (fun l e => bits .or .u64 l e.label) 0
def cntF (n : Int) (r : Rw) (es : List Ev) : Int := (es.filter (inRow n r)).length
theorem labF_snoc (n : Int) (r : Rw) (es : List Ev) (e : Ev) : labF n r (es ++ [e]) = if inRow n r e then bits .or .u64 (labF n r es) e.label else labF n r es := by
  unfold labF
  rw [List.filter_append, List.filter_cons, List.filter_nil]
  split <;> simp
theorem cntF_snoc (n : Int) (r : Rw) (es : List Ev) (e : Ev) : cntF n r (es ++ [e]) = if inRow n r e then cntF n r es + 1 else cntF n r es := by
  unfold cntF
  rw [List.filter_append, List.filter_cons, List.filter_nil]
  split <;> simp
theorem cntF_range (n : Int) (r : Rw) (es : List Ev) : 0 ≤ cntF n r es ∧ cntF n r es ≤ es.length := by
  unfold cntF
  have := List.length_filter_le (inRow n r) es
  omega
def csum (R : List Rw) (k : Nat) : Int := ((R.take k).map fun r => r.count).sum
theorem psum_step (R : List Rw) {k : Nat} (hk : k < R.length) : csum R (k + 1) = csum R k + R[k].count := by
  unfold csum
  rw [List.take_add_one, List.getElem?_eq_getElem hk, List.map_append, List.sum_append]
  simp
theorem csum_all (R : List Rw) : csum R R.length = (R.map fun r => r.count).sum := by
  unfold csum
  rw [List.take_length]
theorem csum_range {R : List Rw} (h0 : ∀ r ∈ R, 0 ≤ r.count ∧ r.count ≤ 120) : ∀ k : Nat, k ≤ R.length → 0 ≤ csum R k ∧ csum R k ≤ 120 * k
  | 0, _ => by simp [csum]
  | k + 1, hk => by
    obtain ⟨h2, h3⟩ := csum_range h0 k (by omega)
    rw [psum_step R (by omega)]
    have h4 := h0 R[k] (List.getElem_mem _)
    omega
set_option maxHeartbeats 2000000 in
set_option maxRecDepth 20000 in
theorem PanesOrder_any (w : World) (size : Int) (hsz : (Lit.int .i64 size).wf = true) (slide : Int) (hsl : (Lit.int .i64 slide).wf = true) (kind : Int) (hknd : (Lit.int .i64 kind).wf = true) (al : Option Addr) (cap : Nat) (l : List Ev) (hle : l.length ≤ cap) (hmx : cap ≤ maxLen) (hnil : al = none → cap = 0) (hl : SlAt 4 isEv w al l) (cut : Int) (hcutw : (Lit.int .i64 cut).wf = true) :
    Calls Try.prog 4 #[.int .i64 size, .int .i64 slide, .int .i64 kind, .slice al l.length cap, .int .i64 cut] w fun e w' => e = .returned (.bool true) ∧ Below w.heap.size w w' := by
  obtain ⟨hl1, hlw⟩ := hl.both
  obtain ⟨i0, hi, hz0, hz1, hz2⟩ := evInfo
  have hs := within_range slide 1 20 (by omega)
  obtain ⟨s, hsd⟩ : ∃ s, s = within slide 1 20 := ⟨_, rfl⟩
  rw [← hsd] at hs
  have hn := within_range size s (6 * s) (by omega)
  obtain ⟨n, hnd⟩ : ∃ n, n = within size s (6 * s) := ⟨_, rfl⟩
  rw [← hnd] at hn
  have hd := within_range kind 1 4 (by omega)
  obtain ⟨kd, hdd⟩ : ∃ n, n = within kind 1 4 := ⟨_, rfl⟩
  rw [← hdd] at hd
  have hr1 := i64_range hsz
  have hr2 := i64_range hsl
  have hr3 := i64_range hknd
  have hr4 := i64_range hcutw
  have HS := Lib.hid hsd
  have HN := Lib.hid hnd
  have HD := Lib.hid hdd
  have HL := Lib.hid hl1
  have HLW := Lib.hid hlw
  have hkd : (Lit.int .i64 kd).wf = true := WalkArith.wf_i64 (by omega)
  have hrw := rightW_small hs.1 hs.2 hn.1 hn.2
  have HRW := Lib.hid hrw
  clear hsd hnd hdd hl1 hlw hl hsz hsl hknd hcutw hrw
  go_enter Try.func4, Try.ntmps4
  go_upto_block 0 with (first
    | (go_at_call 15; refine (Within_any _ _ _ _ (by omega) (by omega) (by omega) (by omega) (by omega)).mono ?_; rintro e wz ⟨rfl, hwz⟩; have hwz := hwz.symm; subst hwz; first | rw [← HS.out] | rw [← HN.out] | rw [← HD.out]))
  go_cut [14, 15] from 40 to 85 (fun v u wx => ∃ es : List Ev, es.length ≤ 15 ∧ (∀ e ∈ es, e.wf ∧ 0 ≤ e.time ∧ e.time ≤ 200) ∧ wx.ownsRow w.heap.size 27 4 v es.length (es.flatMap Ev.cells) ∧ u = .int .i64 (sumS n s es) ∧ Below w.heap.size w wx)
  case first =>
    go_wp2_with fail
    go_loopw [14, 15, 16] (fun v u iv wr => ∃ k : Nat, k ≤ l.length ∧ k ≤ 15 ∧ iv = .int .i64 k ∧ wr.ownsRow w.heap.size 27 4 v ((l.map evO).take k).length (((l.map evO).take k).flatMap Ev.cells) ∧ u = .int .i64 (sumS n s ((l.map evO).take k)) ∧ Below w.heap.size w wr) (fun _ _ iv _ => 15 - (numOf iv).toNat)
    case atStart => exact ⟨0, by omega, by omega, rfl, World.ownsRow_nil _ _ _ _, by simp [sumS], Below.refl _ _⟩
    case round =>
      obtain ⟨k, hk, hk15, rfl, hown, rfl, hB⟩ := hrel
      have hwr := hB.size
      have HOWN := Lib.hid hown
      have HB := Lib.hid hB
      clear hown hB
      have hEk : ((l.map evO).take k).length = k := by simp; omega
      have hsr := sumS_range n s ((l.map evO).take k)
      have HEK := Lib.hid hEk
      clear hEk
      by_cases hkl : (k : Int) < l.length
      · by_cases hk1 : (k : Int) < 15
        · have hkn : k < l.length := by omega
          have hsr0 := hsr.1
          have hsr1 : sumS n s ((l.map evO).take k) ≤ 120 := by have := hsr.2; have := HEK.out; omega
          obtain ⟨bl, o, rfl, hbl, c0, c1, c2, c3⟩ := (HL.out.below HB.out (fun _ _ h => h)).evAt k hkn
          have hew := HLW.out _ (List.getElem_mem hkn)
          have hev := map_take_snoc l evO hkn
          rw [List.getElem?_eq_getElem hkn] at c0 c1 c2 c3
          simp only [Option.getD_some] at c0 c1 c2 c3
          generalize l[k] = ev at *
          have hcw := evO_wf hew
          have ht := i64_range hew.1
          have hy := i64_range hew.2.1
          have HEV := Lib.hid hev
          have HCW := Lib.hid hcw
          clear hew hev hcw hsr
          go_wp2_with fail
          go_cut [17] from 50 to 73 (fun u wx => u = .pointer (some ⟨wr.heap.size, 0, none⟩) ∧ wx.heap[wr.heap.size]? = some (.cells (evO ev).cells.toArray 27 (0, 0)) ∧ Below wr.heap.size wr wx)
          case first =>
            go_region_held3 (fun w' => w'.cell? ⟨bl, o + k * 4, none⟩ = some (.int .i64 ev.time) ∧ w'.cell? ⟨bl, o + k * 4 + 1, none⟩ = some (.int .i64 ev.key) ∧ w'.cell? ⟨bl, o + k * 4 + 2, none⟩ = some (.int .i64 ev.value) ∧ w'.cell? ⟨bl, o + k * 4 + 3, none⟩ = some (.int .u64 ev.label)) (exact ⟨(Below.cell (B := wr.heap.size) (w := wr) (by go_grown) hbl).trans c0, (Below.cell (B := wr.heap.size) (w := wr) (by go_grown) hbl).trans c1, (Below.cell (B := wr.heap.size) (w := wr) (by go_grown) hbl).trans c2, (Below.cell (B := wr.heap.size) (w := wr) (by go_grown) hbl).trans c3⟩) (first | (go_at_call 15; refine (Within_any _ _ _ _ (by omega) (by omega) (by omega) (by omega) (by omega)).mono ?_; rintro e wz ⟨rfl, hwz⟩; have hwz := hwz.symm; subst hwz))
            all_goals
              go_wp2
              go_meet
              exact ⟨rfl, new_at _ _ _ rfl, by go_grown⟩
          case rest =>
            obtain ⟨rfl, hv, hbx⟩ := hcut
            have hvl := (Array.getElem?_eq_some_iff.1 hv).1
            have v0 : wc.cell? ⟨wr.heap.size, 0, none⟩ = some (.int .i64 (evO ev).time) := (by simp [World.cell?, hv, Ev.cells])
            have v1 : wc.cell? ⟨wr.heap.size, 1, none⟩ = some (.int .i64 (evO ev).key) := (by simp [World.cell?, hv, Ev.cells])
            have v2 : wc.cell? ⟨wr.heap.size, 2, none⟩ = some (.int .i64 (evO ev).value) := (by simp [World.cell?, hv, Ev.cells])
            have v3 : wc.cell? ⟨wr.heap.size, 3, none⟩ = some (.int .u64 (evO ev).label) := (by simp [World.cell?, hv, Ev.cells])
            have HOX := Lib.hid (own_keep HOWN.out hbx)
            have HBX := Lib.hid (HB.out.trans (hbx.mono (by omega)))
            have HV := Lib.hid hv
            have hsx := hbx.size
            have HOL : Hid (∀ i, u14.ownBlock = some i → w.heap.size ≤ i ∧ i < wr.heap.size) := Lib.hid (fun i hi => HOWN.out.lt i hi)
            clear hv hbx c0 c1 c2 c3 HOWN HB
            generalize wr.heap.size = g at *
            obtain ⟨ec, hec⟩ : ∃ x, x = evO ev := ⟨_, rfl⟩
            rw [← hec] at v0 v1 v2 v3
            have hl8 := starts_len ec.time n s
            have HEC := Lib.hid hec
            clear hec
            go_wp2_with (first
              | (at_builtin; refine wpList_append_sl Ev.len (by decide) Ev.one rfl _ _ 36 rfl w.heap.size 27 i0 _ 32 Try.underlying36 hi hz0 hz1 hz2 rfl _ ((l.map evO).take k) rfl (own_keep HOX.out ((Below.refl _ _).alloc (Nat.le_refl _) _)) (some ⟨wc.heap.size, 0, none⟩) 1 [ec] rfl (by simp) (SlAt.one Ev.len (heap_new _ _)) (by have := HEK.out; simp; omega) (by have := HEK.out; simp [maxLen]; omega) (by simp; omega) ?_; intro v8 w8 h4 h5 h6; have HO8 := Lib.hid h4; have HB8 := Lib.hid ((HBX.out.alloc HBX.out.size (.cells #[.int .i64 ec.time, .int .i64 ec.key, .int .i64 ec.value, .int .u64 ec.label] 27)).grown h5 (by simp; omega) (fun i hi => (HOL.out i hi).1)); have hv8 := (h5.block g (by simp; omega) (fun e => by have := (HOL.out g e.symm).2; omega)).trans ((((Below.refl wc.heap.size wc).alloc (Nat.le_refl _) _).block g hvl).trans HV.out); rw [← HEC.out] at hv8; have v80 : w8.cell? ⟨g, 0, none⟩ = some (.int .i64 ec.time) := (by simp [World.cell?, hv8, Ev.cells]); clear h4 h5 h6 hv8)
              | (go_at_call 16; refine (starts_any _ _ _ _).mono ?_; rintro e w9 ⟨v, rfl, h1, h2⟩; obtain ⟨a9, cap9, rfl, hle9, hmx9, hnil9, hblk9, hsl9⟩ := slAt_of_own (intC_len _) h1; have HO9 := Lib.hid (own_keep HO8.out h2); have HB9 := Lib.hid (HB8.out.trans (h2.mono HB8.out.size)); clear h1 h2 hblk9 hsl9))
            refine ⟨⟨k + 1, by omega, by omega, by simp, ?_, ?_, HB9.out⟩, by simp [numOf]; omega⟩
            · rw [HEV.out, ← HEC.out]; simpa using HO9.out
            · rw [HEV.out, ← HEC.out, sumS_snoc]
        · go_wp2
          go_meet
          exact ⟨(l.map evO).take k, by have := HEK.out; omega, evO_all HLW.out k, HOWN.out, rfl, HB.out⟩
      · go_wp2
        go_meet
        exact ⟨(l.map evO).take k, by have := HEK.out; omega, evO_all HLW.out k, HOWN.out, rfl, HB.out⟩
  case rest =>
    obtain ⟨es, hel, hes, hown, rfl, hB⟩ := hcut
    have hsr := sumS_range n s es
    have hbs := hB.size
    have hw1 : ∀ e ∈ es, e.wf := fun e he => (hes e he).1
    obtain ⟨a1, cap1, rfl, hle1, hmx1, hnil1, hblk1, hsl1⟩ := slAt_of_own Ev.len hown
    have hc0 := within_range cut 0 es.length (by omega)
    obtain ⟨c, hcd⟩ : ∃ c : Nat, (c : Int) = within cut 0 es.length := ⟨(within cut 0 es.length).toNat, by omega⟩
    rw [← hcd] at hc0
    have hcl : c ≤ es.length := by omega
    have HC := Lib.hid hcd
    have HES := Lib.hid hes
    have HW1 := Lib.hid hw1
    have HB := Lib.hid hB
    have HE := Lib.hid hsl1
    have HNIL := Lib.hid hnil1
    have hGp := GoodL.putL hkd es 0 [] hw1 (GoodL.empty kd n s) List.Pairwise.nil (by omega)
    have HGP := Lib.hid hGp
    clear hcd hes hB hown hsl1 hblk1 hnil1 hw1 hGp
    generalize wc = w1 at *
    go_upto_region 17 with (first
      | (go_at_call 15; refine (Within_any _ _ _ _ (by omega) (by omega) (by omega) (by omega) (by omega)).mono ?_; rintro e wz ⟨rfl, hwz⟩; have hwz := hwz.symm; subst hwz; rw [← HC.out])
      | (go_at_call 10; refine (put_any pb mb n s kd [] 0 a1 cap1 es _ HP3.out (GoodL.empty _ _ _) hkd HE3.out HW1.out (by omega)).mono ?_; rintro e w4 ⟨rfl, h1, h2⟩; have HP4 := Lib.hid h1; have HQ4 := Lib.hid (HQ3.out.same (h2.block qb HQ3.out.lt (by simp; omega)) (h2.block nb HQ3.out.2.lt (by simp; omega))); have HB4 := Lib.hid (belowMap HB3.out h2 HB3.out.size (by omega)); have HE4 := Lib.hid (HE3.out.mapped Ev.len (by decide) HP3.out.2.block h2); clear h1 h2)
      | (go_at_call 9; refine (panesNew_any n s kd _).mono ?_; rintro e w3 ⟨qb, nb, rfl, hqb, hnb, hP, hb⟩; have HQ3 := Lib.hid hP; have HP3 := Lib.hid (HP2.out.below hb HP2.out.lt HP2.out.2.lt); have HB3 := Lib.hid (HB2.out.trans (hb.mono HB2.out.size)); have HE3 := Lib.hid (HE2.out.kept hb); have hs3 := HB3.out.size; have hp1 := HP2.out.lt; have hm1 := HP2.out.2.lt; have hne1 : qb ≠ mb := (by omega); have hne2 : nb ≠ mb := (by omega); have hne3 : pb ≠ nb := (by omega); have hne4 : mb ≠ nb := (by omega); clear hP hb hp1 hm1)
      | (go_at_call 9; refine (panesNew_any n s kd _).mono ?_; rintro e w2 ⟨pb, mb, rfl, hpb, hmb, hP, hb⟩; have HP2 := Lib.hid hP; have HB2 := Lib.hid (HB.out.trans (hb.mono hbs)); have HE2 := Lib.hid (HE.out.kept hb); have hs2 := HB2.out.size; clear hP hb))
    obtain ⟨ad, had⟩ : ∃ ad, ad = (if cap1 = c then a1 else a1.map (·.add (c * 4))) := ⟨_, rfl⟩
    have hcc : c ≤ cap1 := by omega
    obtain ⟨ea, hea⟩ : ∃ ea, ea = es.take c := ⟨_, rfl⟩
    obtain ⟨eb, heb⟩ : ∃ eb, eb = es.drop c := ⟨_, rfl⟩
    have hperm : (eb ++ ea).Perm es := by
      rw [hea, heb]
      exact List.perm_append_comm.trans (by rw [List.take_append_drop])
    have hlea : ea.length ≤ 15 := by rw [hea, List.length_take]; omega
    have hleb : eb.length ≤ 15 := by rw [heb, List.length_drop]; omega
    have hlen : eb.length + ea.length = es.length := by rw [hea, heb, List.length_take, List.length_drop]; omega
    have hsa : ∀ w, (Instr.sliceAt 36 (.slice a1 es.length cap1) none (some (.int .i64 c)) none).run Try.prog w = .ok (.slice a1 ea.length cap1) w := by
      intro w
      have : ea.length = c := by rw [hea, List.length_take]; omega
      rw [this]
      go_simp
    have hsb : ∀ w, (Instr.sliceAt 36 (.slice a1 es.length cap1) (some (.int .i64 c)) none none).run Try.prog w = .ok (.slice ad eb.length (cap1 - c)) w := by
      intro w
      have : eb.length = es.length - c := by rw [heb, List.length_drop]
      rw [this]
      go_simp
    have HEA : Hid (SlAt 4 (flat Ev.cells) w4 a1 ea) := by rw [hea]; exact HE4.out.take c
    have HEB : Hid (SlAt 4 (flat Ev.cells) w4 ad eb) := by rw [had, heb]; exact HE4.out.low c hcl hle1
    have HND : Hid (ad = none → cap1 - c = 0) := by
      intro h
      rw [had] at h
      split at h
      · omega
      · have := HNIL.out (by simpa using h)
        omega
    have HPERM := Lib.hid hperm
    have HLEN := Lib.hid hlen
    clear had hea heb hperm hlen
    go_cut [115, 116, 117] from 107 to 117 (fun v u x wx => ∃ a6 cap6, v = .slice a6 (eb ++ ea).length cap6 ∧ u = .int .i64 (eb ++ ea).length ∧ x = .int .i64 0 ∧ (eb ++ ea).length ≤ cap6 ∧ SlAt 4 (flat Ev.cells) wx a6 (eb ++ ea) ∧ Below w4.heap.size w4 wx)
    case first =>
      go_region_held3 (fun w' => Below w4.heap.size w4 w') (first | (go_grown; done) | assumption) (first
        | (refine step_append_sl Ev.len (by decide) Ev.one (by rfl) _ _ 36 (by rfl) w4.heap.size 27 i0 _ 32 Try.underlying36 hi hz0 hz1 hz2 rfl _ eb (by rfl) HO5.out a1 cap1 ea (by rfl) HNIL.out (HEA.out.kept B5.out) (by omega) (by unfold maxLen; omega) B5.out.size ?_; intro v6 w6 h1 h2 h3; obtain ⟨a6, cap6, rfl, hle6, hmx6, hnil6, hblk6, hsl6⟩ := slAt_of_own Ev.len h1; have HS6 := Lib.hid hsl6; clear hsl6 hblk6; have B6 := Lib.hid (B5.out.grown h2 B5.out.size (fun i hi => (HO5.out.lt i hi).1)); clear h1 h2 h3; have B6' := B6.out)
        | (refine step_copy_sl Ev.len (by decide) Ev.one (by rfl) _ _ 36 (by rfl) w4.heap.size 27 i0 _ 32 Try.underlying36 hi hz0 hz1 hz2 rfl w4.heap.size (by rfl) (by first | exact new_at _ _ _ (by simp) | exact new_drew _ _ _ (by simp)) (by omega) ad (cap1 - c) eb (by rfl) HND.out (HEB.out.kept (by go_grown)) (by omega) (by unfold maxLen; omega) ?_; intro b5 c5 w5 h1 h2 h3; have HO5 := Lib.hid h1; have B5 := Lib.hid (Below.trans (by go_grown) h2 : Below w4.heap.size w4 w5); clear h1 h2 h3; have B5' := B5.out))
      go_wp2
      go_meet
      exact ⟨a6, cap6, rfl, by simp, rfl, hle6, HS6.out, B6.out⟩
    case rest =>
      obtain ⟨a6, cap6, rfl, rfl, rfl, hle6, hsl6, hb6⟩ := hcut
      have hP6 := HP4.out.below hb6 HP4.out.lt HP4.out.2.lt
      have HP6 := Lib.hid hP6
      have HQ6 := Lib.hid (HQ4.out.below hb6 HQ4.out.lt HQ4.out.2.lt)
      have HB6 := Lib.hid (HB4.out.trans (hb6.mono HB4.out.size))
      have HE6 := Lib.hid (HE4.out.kept hb6)
      have HR6 := Lib.hid hsl6
      have hw6 : ∀ e ∈ eb ++ ea, e.wf := fun e he => HW1.out e (HPERM.out.subset he)
      have HW6 := Lib.hid hw6
      have hlr : (eb ++ ea).length = es.length := by rw [List.length_append]; exact HLEN.out
      have hlr15 : (eb ++ ea).length ≤ 15 := by omega
      have HQ60 := HQ6
      have hst : putL kd n s [] (eb ++ ea) = putL kd n s [] es := putL_perm HPERM.out hw6
      have HST := Lib.hid hst
      clear hP6 hb6 hsl6 hw6 hlr hst hsa hsb
      generalize wc = w6 at *
      generalize eb ++ ea = er at *
      go_upto_block 2 with fail
      go_cut [] from 117 to 125 (fun wx => PanesAt wx qb nb n s kd (putL kd n s [] er) ∧ w6.grownBy wx (some nb))
      case first =>
        go_wp2_with fail
        go_loopw [117] (fun iv wr => ∃ k : Nat, k ≤ er.length ∧ iv = .int .i64 k ∧ PanesAt wr qb nb n s kd (putL kd n s [] (er.take k)) ∧ w6.grownBy wr (some nb)) (fun iv _ => 15 - (numOf iv).toNat)
        case atStart => exact ⟨0, by omega, rfl, HQ60.out, grownBy_refl _ _⟩
        case round =>
          obtain ⟨k, hk, rfl, hQ, hgr⟩ := hrel
          have hgs := hgr.size
          have HQR := Lib.hid hQ
          have HGR := Lib.hid hgr
          clear hQ hgr
          by_cases hkl : (k : Int) < er.length
          · have hkn : k < er.length := by omega
            obtain ⟨bl, o, rfl, hbl, c0, c1, c2, c3⟩ := (HR6.out.mapped Ev.len (by decide) HQ6.out.2.block HGR.out).evAt k hkn
            have hgk := GoodL.putL hkd (er.take k) 0 [] (fun e he => HW6.out e (List.mem_of_mem_take he)) (GoodL.empty kd n s) List.Pairwise.nil (by rw [List.length_take]; omega)
            have hew := HW6.out _ (List.getElem_mem hkn)
            have hst := take_ev er hkn
            rw [List.getElem?_eq_getElem hkn] at c0 c1 c2 c3
            simp only [Option.getD_some] at c0 c1 c2 c3
            generalize er[k] = ev at *
            have HGK := Lib.hid (hgk.1.mono (show 0 + 8 * (er.take k).length ≤ 120 by rw [List.length_take]; omega))
            have HEW := Lib.hid hew
            have HST2 := Lib.hid hst
            clear hgk hew hst
            go_wp2_with (first
              | (go_at_call 10; refine (put_one qb nb n s kd _ 120 (wr.heap.size + 1) ev _ (HQR.out.below (by go_grown) HQR.out.lt HQR.out.2.lt) HGK.out hkd (new_at _ _ _ (by simp)) HEW.out (by omega)).mono ?_; rintro e w7 ⟨rfl, h1, h2, h3⟩; have HQ7 := Lib.hid h1; have HG7 := Lib.hid (grownBy_trans (grownBy_below HGR.out (show Below wr.heap.size wr ((wr.alloc (.cells #[.int .i64 ev.time, .int .i64 ev.key, .int .i64 ev.value, .int .u64 ev.label] 27)).alloc (.cells #[.int .i64 ev.time, .int .i64 ev.key, .int .i64 ev.value, .int .u64 ev.label] 27)) by go_grown) (by omega)) h3); clear h1 h2 h3))
            go_roundw
            case rel => exact ⟨k + 1, by omega, by go_num, by rw [HST2.out, putL_snoc]; exact HQ7.out, HG7.out⟩
            case measure => first | (simp [numOf]; done) | (simp [numOf]; omega)
          · go_wp2
            go_meet
            have hke : k = er.length := by omega
            subst hke
            have := HQR.out
            rw [List.take_length] at this
            exact ⟨this, HGR.out⟩
      case rest =>
        obtain ⟨hQ, hgr⟩ := hcut
        rw [HST.out] at hQ
        have HQ7 := Lib.hid hQ
        have HP7 := Lib.hid (HP6.out.same (hgr.block pb HP6.out.lt (by simp; omega)) (hgr.block mb HP6.out.2.lt (by simp; omega)))
        have HE7 := Lib.hid (HE6.out.mapped Ev.len (by decide) HQ6.out.2.block hgr)
        have HB7 := Lib.hid (belowMap HB6.out hgr HB6.out.size (by omega))
        clear hQ hgr
        generalize wc = w7 at *
        have hlR : (rowsL (putL kd n s [] es)).length ≤ 120 := by simp [rowsL]; have := HGP.out.1.len; omega
        have hlL : (putL kd n s [] es).length ≤ 120 := by have := HGP.out.1.len; omega
        have hrows := fun r (h : r ∈ rowsL (putL kd n s [] es)) => row_holds (kd := kd) (n := n) (s := s) HW1.out HRW.out (fun e he => ⟨(HES.out e he).2.1, by have := (HES.out e he).2.2; omega⟩) h
        have hrng := fun r (h : r ∈ rowsL (putL kd n s [] es)) => rows_range (HGP.out.1.mono (show 0 + 8 * es.length ≤ 120 by omega)) h
        have hsrt := rows_sorted HGP.out.2
        have htot : ((rowsL (putL kd n s [] es)).map fun r => r.count).sum = sumS n s es := by rw [rows_total, totalL_putL es [] List.Pairwise.nil]; simp [totalL, sumS]
        have HROWS := Lib.hid hrows
        have HRNG := Lib.hid hrng
        have HSRT := Lib.hid hsrt
        have HTOT := Lib.hid htot
        clear hrows hrng hsrt htot
        generalize hR : rowsL (putL kd n s [] es) = R at *
        have HRR := Lib.hid hR
        clear hR
        go_upto_block 4 with (first
          | (go_at_call 14; refine (open_any pb mb n s kd _ _ HP7.out (by omega)).mono ?_; rintro e w8 ⟨v, rfl, hown, h2⟩; rw [HRR.out] at hown; obtain ⟨a8, cap8, rfl, hle8, hmx8, hnil8, hblk8, hsl8⟩ := slAt_of_own Rw.len hown; have HP8 := Lib.hid (HP7.out.below h2 HP7.out.lt HP7.out.2.lt); have HQ8 := Lib.hid (HQ7.out.below h2 HQ7.out.lt HQ7.out.2.lt); have HB8 := Lib.hid (HB7.out.trans (h2.mono HB7.out.size)); have HE8 := Lib.hid (HE7.out.kept h2); have HA8 := Lib.hid hsl8; clear hown h2 hsl8 hblk8))
        go_cut [24] from 130 to 224 (fun v wx => v = .int .i64 (sumS n s es) ∧ Below w8.heap.size w8 wx)
        case first =>
          go_wp2_with fail
          go_loopw [24, 130] (fun v iv wr => ∃ k : Nat, k ≤ R.length ∧ iv = .int .i64 k ∧ v = .int .i64 (csum R k) ∧ Below w8.heap.size w8 wr) (fun _ iv _ => 120 - (numOf iv).toNat)
          case atStart => exact ⟨0, by omega, rfl, by simp [csum], Below.refl _ _⟩
          case round =>
            obtain ⟨k, hk, rfl, rfl, hbe⟩ := hrel
            have hps := csum_range (fun r hr => (HRNG.out r hr).2.2) k hk
            by_cases hkl : (k : Int) < R.length
            · have hkn : k < R.length := by omega
              obtain ⟨bl, o, rfl, hbl, c0, c1, c2, c3, c4⟩ := (HA8.out.kept hbe).rwAt k hkn
              have hrm := List.getElem_mem hkn
              have hr := HROWS.out _ hrm
              have hg := HRNG.out _ hrm
              have hps2 := psum_step R hkn
              have hprev : k = 0 ∨ ∃ q, 0 < k ∧ (R[k - 1]?.getD Rw.zero) = q ∧ (q.start < R[k].start ∨ q.start = R[k].start ∧ q.key < R[k].key) := by
                by_cases h0 : k = 0
                · exact .inl h0
                · refine .inr ⟨R[k - 1], by omega, by rw [List.getElem?_eq_getElem (by omega)]; rfl, ?_⟩
                  exact List.pairwise_iff_getElem.1 HSRT.out (k - 1) k (by omega) hkn (by omega)
              rw [List.getElem?_eq_getElem hkn] at c0 c1 c2 c3 c4
              simp only [Option.getD_some] at c0 c1 c2 c3 c4
              generalize hrk : R[k] = r at *
              have hr1' : 1 ≤ r.count := by have := hr.1; have := hr.2.2; omega
              have hr1'' : decide (r.count < 1) = false := decide_eq_false (by omega)
              have hg1 := hg.1
              have hg2 := hg.2.1
              have hg3 := hg.2.2.2
              have hps0 := hps.1
              have hps1 : csum R k ≤ 14400 := by have := hps.2; omega
              have hlab : labF n r es = r.label := hr.2.1.symm
              have hcnt : cntF n r es = r.count := hr.1.symm
              have HLAB := Lib.hid hlab
              have HCNT := Lib.hid hcnt
              have HPS := Lib.hid hps2
              have HPREV := Lib.hid hprev
              have HBE := Lib.hid hbe
              have hws := hbe.size
              clear hr hg hps hps2 hlab hcnt hprev hbe hrk hrm
              go_upto_block 6 with fail
              obtain ⟨w9, hw9⟩ : ∃ y, y = wr.alloc (.cells #[.int .i64 r.start, .int .i64 r.key, .int .i64 r.value, .int .i64 r.count, .int .u64 r.label] 33) := ⟨_, rfl⟩
              rw [← hw9]
              have hv9 : w9.heap[wr.heap.size]? = some (.cells #[.int .i64 r.start, .int .i64 r.key, .int .i64 r.value, .int .i64 r.count, .int .u64 r.label] 33 (0, 0)) := by rw [hw9]; exact new_at _ _ _ rfl
              have hb9 : Below w8.heap.size w8 w9 := HBE.out.trans (by rw [hw9]; exact (Below.refl _ _).alloc hws _)
              have HB9 := Lib.hid hb9
              have HE9 := Lib.hid (HE8.out.kept hb9)
              have hs9 : w9.heap.size = wr.heap.size + 1 := by rw [hw9]; simp
              clear hw9 hb9 c0 c1 c2 c3 c4 HBE
              generalize wr.heap.size = g at *
              have hgl : g < w9.heap.size := by omega
              have HV9 := Lib.hid hv9
              have p0 : w9.cell? ⟨g, 0, none⟩ = some (.int .i64 r.start) := by simp [World.cell?, hv9]
              have p1 : w9.cell? ⟨g, 1, none⟩ = some (.int .i64 r.key) := by simp [World.cell?, hv9]
              have p2 : w9.cell? ⟨g, 2, none⟩ = some (.int .i64 r.value) := by simp [World.cell?, hv9]
              have p3 : w9.cell? ⟨g, 3, none⟩ = some (.int .i64 r.count) := by simp [World.cell?, hv9]
              have p4 : w9.cell? ⟨g, 4, none⟩ = some (.int .u64 r.label) := by simp [World.cell?, hv9]
              clear hv9
              go_cut [27, 28] from 141 to 172 (fun lv ov wx => lv = .int .u64 r.label ∧ ov = .int .i64 r.count ∧ Below w9.heap.size w9 wx)
              case first =>
                go_wp2_with fail
                go_loopw [27, 28, 141] (fun lv ov iv wi => ∃ j : Nat, j ≤ es.length ∧ iv = .int .i64 j ∧ lv = .int .u64 (labF n r (es.take j)) ∧ ov = .int .i64 (cntF n r (es.take j)) ∧ Below w9.heap.size w9 wi) (fun _ _ iv _ => 15 - (numOf iv).toNat)
                case atStart => exact ⟨0, by omega, rfl, by simp [labF], by simp [cntF], Below.refl _ _⟩
                case round =>
                  obtain ⟨j, hj, rfl, rfl, rfl, hbi⟩ := hrel
                  have hbs9 := hbi.size
                  by_cases hjl : (j : Int) < es.length
                  · have hjn : j < es.length := by omega
                    obtain ⟨b2, o2, rfl, hb2, d0, d1, d2, d3⟩ := (HE9.out.kept hbi).evAt j hjn
                    have hti := HES.out _ (List.getElem_mem hjn)
                    have hlf := labF_snoc n r (es.take j) es[j]
                    have hcf := cntF_snoc n r (es.take j) es[j]
                    have htk := take_ev es hjn
                    have hcr := cntF_range n r (es.take j)
                    have hcr0 := hcr.1
                    have hcr1 : cntF n r (es.take j) ≤ 15 := by have := hcr.2; rw [List.length_take] at this; omega
                    rw [List.getElem?_eq_getElem hjn] at d0 d1 d2 d3
                    simp only [Option.getD_some] at d0 d1 d2 d3
                    rw [← htk] at hlf hcf
                    generalize es[j] = ev at *
                    have ht0 := hti.2.1
                    have ht1 := hti.2.2
                    have q0 := (hbi.cell (p := ⟨g, 0, none⟩) hgl).trans p0
                    have q1 := (hbi.cell (p := ⟨g, 1, none⟩) hgl).trans p1
                    have hgi : g < wr.heap.size := by omega
                    have HLF := Lib.hid hlf
                    have HCF := Lib.hid hcf
                    have HBI := Lib.hid hbi
                    clear hti hlf hcf htk hcr hbi p0 p1 p2 p3 p4
                    by_cases h1 : ev.key = r.key
                    · by_cases h2 : r.start ≤ ev.time
                      · by_cases h3 : ev.time < r.start + n
                        · have hin : inRow n r ev = true := decide_eq_true ⟨h1, h2, h3⟩
                          have HIN := Lib.hid hin
                          clear hin
                          go_wp2_with fail
                          exact ⟨⟨j + 1, by omega, by simp, by rw [HLF.out, HIN.out]; rfl, by rw [HCF.out, HIN.out]; rfl, by have := HBI.out; go_grown⟩, by simp [numOf]; omega⟩
                        · have hin : inRow n r ev = false := decide_eq_false (fun h => h3 h.2.2)
                          have HIN := Lib.hid hin
                          clear hin
                          go_wp2_with fail
                          go_roundw
                          case rel => exact ⟨j + 1, by omega, by go_num, by rw [HLF.out, HIN.out]; rfl, by rw [HCF.out, HIN.out]; rfl, by have := HBI.out; go_grown⟩
                          case measure => first | (simp [numOf]; done) | (simp [numOf]; omega)
                      · have hin : inRow n r ev = false := decide_eq_false (fun h => h2 h.2.1)
                        have HIN := Lib.hid hin
                        clear hin
                        go_wp2_with fail
                        go_roundw
                        case rel => exact ⟨j + 1, by omega, by go_num, by rw [HLF.out, HIN.out]; rfl, by rw [HCF.out, HIN.out]; rfl, by have := HBI.out; go_grown⟩
                        case measure => first | (simp [numOf]; done) | (simp [numOf]; omega)
                    · have hin : inRow n r ev = false := decide_eq_false (fun h => h1 h.1)
                      have HIN := Lib.hid hin
                      clear hin
                      go_wp2_with fail
                      go_roundw
                      case rel => exact ⟨j + 1, by omega, by go_num, by rw [HLF.out, HIN.out]; rfl, by rw [HCF.out, HIN.out]; rfl, by have := HBI.out; go_grown⟩
                      case measure => first | (simp [numOf]; done) | (simp [numOf]; omega)
                  · go_wp2
                    go_meet
                    have hje : j = es.length := by omega
                    subst hje
                    exact ⟨by rw [List.take_length, HLAB.out], by rw [List.take_length, HCNT.out], hbi⟩
              case rest =>
                obtain ⟨rfl, rfl, hbx⟩ := hcut
                have hvx := (hbx.block g hgl).trans HV9.out
                clear p0 p1 p2 p3 p4
                have p0 : wc.cell? ⟨g, 0, none⟩ = some (.int .i64 r.start) := by simp [World.cell?, hvx]
                have p1 : wc.cell? ⟨g, 1, none⟩ = some (.int .i64 r.key) := by simp [World.cell?, hvx]
                have p2 : wc.cell? ⟨g, 2, none⟩ = some (.int .i64 r.value) := by simp [World.cell?, hvx]
                have p3 : wc.cell? ⟨g, 3, none⟩ = some (.int .i64 r.count) := by simp [World.cell?, hvx]
                have p4 : wc.cell? ⟨g, 4, none⟩ = some (.int .u64 r.label) := by simp [World.cell?, hvx]
                have hbx8 := HB9.out.trans (hbx.mono HB9.out.size)
                have HBX := Lib.hid hbx8
                have hgx : g < wc.heap.size := by have := hbx.size; omega
                have hxs := hbx8.size
                clear hvx hbx hbx8
                generalize wc = wc at *
                rcases HPREV.out with h0 | ⟨q, hk0, hq, hlt⟩
                · subst h0
                  go_wp2_with fail
                  clear HS HN HD HL HLW HRW HC HES HW1 HNIL HGP HB HE HP2 HB2 HE2 HQ3 HP3 HB3 HE3 HP4 HQ4 HB4 HE4 HEA HEB HND HLEN HP6 HQ6 HB6 HE6 HQ60 HPERM HW6 HST HR6 HQ7 HP7 HE7 HB7 HROWS HRNG HSRT HTOT HRR HP8 HQ8 HB8 HE8 HE9 HV9 HLAB HCNT HPREV
                  go_quiet (fail)
                  go_wp2_with fail
                  go_roundw
                  case rel => exact ⟨0 + 1, by omega, by go_num, by rw [HPS.out], HBX.out.trans ((below_drewN _ _).mono hxs)⟩
                  case measure => first | (simp [numOf]; done) | (simp [numOf]; omega)
                · obtain ⟨m, rfl⟩ : ∃ m, k = m + 1 := ⟨k - 1, by omega⟩
                  have hma := (HA8.out.kept HBX.out).rwAt m (by omega)
                  rw [show R[m]?.getD Rw.zero = q from hq] at hma
                  obtain ⟨b3, o3, he3, hb3, d0, d1, d2, d3, d4⟩ := hma
                  obtain ⟨rfl, rfl⟩ : b3 = bl ∧ o3 = o := by simpa [eq_comm] using he3
                  clear he3 d2 d3 d4
                  have hm0 : (0 : Int) ≤ (m : Int) := by omega
                  have hm1 : (m : Int) < (R.length : Int) := by omega
                  rcases hlt with hlt | ⟨hlt, hlk⟩
                  · have hn1 : decide (r.start < q.start) = false := decide_eq_false (by omega)
                    have hn2 : decide (q.start = r.start) = false := decide_eq_false (by omega)
                    have hn4 : (q.start == r.start) = false := beq_eq_false_iff_ne.2 (by omega)
                    go_wp2_with fail
                    clear HS HN HD HL HLW HRW HC HES HW1 HNIL HGP HB HE HP2 HB2 HE2 HQ3 HP3 HB3 HE3 HP4 HQ4 HB4 HE4 HEA HEB HND HLEN HP6 HQ6 HB6 HE6 HQ60 HPERM HW6 HST HR6 HQ7 HP7 HE7 HB7 HROWS HRNG HSRT HTOT HRR HP8 HQ8 HB8 HE8 HE9 HV9 HLAB HCNT HPREV
                    have hwm : IntKind.i64.wrap (m : Int) = m := IntWalk.i64_in _ (by omega)
                    go_quiet (fail)
                    clear hwm
                    go_wp2_with fail
                    go_roundw
                    case rel => exact ⟨m + 1 + 1, by omega, by go_num, by rw [HPS.out], HBX.out.trans ((below_drewN _ _).mono hxs)⟩
                    case measure => first | (simp [numOf]; done) | (simp [numOf]; omega)
                  · have hn1 : decide (r.key ≤ q.key) = false := decide_eq_false (by omega)
                    have hn2 : decide (r.start < q.start) = false := decide_eq_false (by omega)
                    have hn3 : decide (q.start = r.start) = true := decide_eq_true hlt
                    have hn4 : (q.start == r.start) = true := beq_iff_eq.2 hlt
                    clear hlt
                    go_wp2_with fail
                    clear HS HN HD HL HLW HRW HC HES HW1 HNIL HGP HB HE HP2 HB2 HE2 HQ3 HP3 HB3 HE3 HP4 HQ4 HB4 HE4 HEA HEB HND HLEN HP6 HQ6 HB6 HE6 HQ60 HPERM HW6 HST HR6 HQ7 HP7 HE7 HB7 HROWS HRNG HSRT HTOT HRR HP8 HQ8 HB8 HE8 HE9 HV9 HLAB HCNT HPREV
                    have hwm : IntKind.i64.wrap (m : Int) = m := IntWalk.i64_in _ (by omega)
                    go_quiet (fail)
                    clear hwm
                    go_wp2_with fail
                    go_roundw
                    case rel => exact ⟨m + 1 + 1, by omega, by go_num, by rw [HPS.out], HBX.out.trans ((below_drewN _ _).mono hxs)⟩
                    case measure => first | (simp [numOf]; done) | (simp [numOf]; omega)
            · go_wp2
              go_meet
              have hke : k = R.length := by omega
              subst hke
              exact ⟨by rw [csum_all, HTOT.out], hbe⟩
        case rest =>
          obtain ⟨rfl, hbx⟩ := hcut
          have HP9 := Lib.hid (HP8.out.below hbx HP8.out.lt HP8.out.2.lt)
          have HQ9 := Lib.hid (HQ8.out.below hbx HQ8.out.lt HQ8.out.2.lt)
          have HB9 := Lib.hid (HB8.out.trans (hbx.mono HB8.out.size))
          have HA9 := Lib.hid (HA8.out.kept hbx)
          have hRl : (putL kd n s [] es).length = R.length := by rw [← HRR.out]; simp [rowsL]
          have HRL := Lib.hid hRl
          clear hbx hRl
          generalize wc = w9 at *
          go_wp2_with (first
            | (go_at_call 3; refine (PanesRuns_any _).mono ?_; rintro e w13 ⟨rfl, h9⟩; have HB13 := Lib.hid (HB12.out.trans (h9.mono HB12.out.size)); clear h9)
            | (go_at_call 11; refine (len_any pb mb n s kd _ _ HP11.out).mono ?_; rintro e w12 ⟨rfl, h9⟩; rw [HRL.out]; have HB12 := Lib.hid (HB11.out.trans (h9.mono HB11.out.size)); clear h9)
            | (go_at_call 13; refine (SameRw_ok R a10 a8 cap10 cap8 _ HA10'.out HA10.out (by omega) hle10 hle8).mono ?_; rintro e w11 ⟨rfl, h1⟩; have HB11 := Lib.hid (HB10.out.trans (h1.mono HB10.out.size)); have HP11 := Lib.hid (HP10.out.below h1 HP10.out.lt HP10.out.2.lt); clear h1)
            | (go_at_call 14; refine (open_any qb nb n s kd _ _ HQ9.out (by omega)).mono ?_; rintro e w10 ⟨v, rfl, hown, h2⟩; rw [HRR.out] at hown; obtain ⟨a10, cap10, rfl, hle10, hmx10, hnil10, hblk10, hsl10⟩ := slAt_of_own Rw.len hown; have HP10 := Lib.hid (HP9.out.below h2 HP9.out.lt HP9.out.2.lt); have HB10 := Lib.hid (HB9.out.trans (h2.mono HB9.out.size)); have HA10 := Lib.hid (HA9.out.kept h2); have HA10' := Lib.hid hsl10; clear hown h2 hsl10 hblk10))
          go_ret
          exact ⟨rfl, HB13.out⟩
end Go.Proofs.Ytapmfekeooeinaa
