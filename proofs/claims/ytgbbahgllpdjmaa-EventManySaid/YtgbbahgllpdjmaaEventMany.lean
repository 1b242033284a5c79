/- Walk of the law EventMany. -/
import Derived.Test.YtgbbahgllpdjmaaEventLaw
set_option linter.unusedVariables false
namespace Go.Proofs.Ytgbbahgllpdjmaa
open Go.ChangeShapes Go.WideShapes Go.ChangeAt Go.RowKit
/-- A slice from an index on reads at what is left. -/
theorem SlAt.low {α : Type} {c : Nat} {R : World → List Value → α → Prop} {w : World} {a : Option Addr} {l : List α} {cap : Nat} (h : SlAt c R w a l) (n : Nat) (hn : n ≤ l.length) (hc : l.length ≤ cap) :
    SlAt c R w (if cap = n then a else a.map (·.add (n * c))) (l.drop n) := by
  by_cases he : cap = n
  · rw [if_pos he]
    exact .inl (List.drop_eq_nil_of_le (by omega))
  · rw [if_neg he]
    rcases h with rfl | ⟨b, o, rfl, hlt, hh⟩
    · exact .inl (by simp)
    · have := SlAt.drop (b := b) (o := o) (.inr ⟨b, o, rfl, hlt, hh⟩) n
      have e : Option.map (fun x : Addr => x.add (n * c)) (some ⟨b, o, none⟩) = some ⟨b, o + n * c, none⟩ := by
        simp [Addr.add]
      rw [e]
      exact this
set_option maxHeartbeats 1000000 in
theorem EventMany_walk (a : Option Addr) (cap : Nat) (l : List Ev) (cut what : Int) (w : World) (hle : l.length ≤ cap) (hmax : cap ≤ maxLen) (hnil : a = none → cap = 0) (hsl : SlAt 4 (flat Ev.cells) w a l) :
    Calls Try.prog 13 #[.slice a l.length cap, .int .i64 cut, .int .i64 what] w fun e w' => e = .returned (.bool true) ∧ Below w.heap.size w w' := by
  obtain ⟨i0, hi, hz0, hz1, hz2⟩ := evInfo
  have HS := Lib.hid hsl
  have HN := Lib.hid hnil
  clear hsl hnil
  obtain ⟨own, hwn⟩ : ∃ own, own = l.take 12 := ⟨_, rfl⟩
  have HLN : Hid (own.length = min 12 l.length) := by rw [hwn]; exact List.length_take
  have HW : Hid (SlAt 4 (flat Ev.cells) w a own) := by rw [hwn]; exact HS.out.take 12
  clear hwn HS
  go_enter Try.func13, Try.ntmps13
  go_upto_region 1 with fail
  go_cut [7] from 17 to 23 (fun v wx => wx.ownsRow w.heap.size 49 4 v own.length (own.flatMap Ev.cells) ∧ Below w.heap.size w wx)
  case first =>
    by_cases h20 : l.length ≤ 12
    · have HX : Hid (own.length = l.length) := by have := HLN.out; show _ = _; omega
      go_wp2_with (at_builtin; refine wpList_copy_sl Ev.len (by decide) Ev.one rfl _ _ 54 rfl w.heap.size 49 i0 _ 32 Try.underlying54 hi hz0 hz1 hz2 rfl _ rfl (by first | exact new_at _ _ _ (by simp) | exact new_drew _ _ _ (by simp)) (by omega) a cap own (by rw [HX.out]; rfl) HN.out ?hsl (by have := HLN.out; omega) (by have := HLN.out; unfold maxLen; omega) ?hh)
      case hsl => exact HW.out.below (by go_grown) (fun _ _ h => h)
      intro v' w' h1 h2 h3
      go_wp2
      go_meet
      exact ⟨h1, Below.trans (by go_grown) (h2.mono (by omega))⟩
    · have h21 : 12 < l.length := by omega
      have HX : Hid (own.length = 12) := by have := HLN.out; show _ = _; omega
      clear h20
      go_wp2_with (at_builtin; refine wpList_copy_sl Ev.len (by decide) Ev.one rfl _ _ 54 rfl w.heap.size 49 i0 _ 32 Try.underlying54 hi hz0 hz1 hz2 rfl _ rfl (by first | exact new_at _ _ _ (by simp) | exact new_drew _ _ _ (by simp)) (by omega) a cap own (by rw [HX.out]; rfl) HN.out ?hsl2 (by have := HLN.out; omega) (by have := HLN.out; unfold maxLen; omega) ?hh2)
      case hsl2 => exact HW.out.below (by go_grown) (fun _ _ h => h)
      intro v' w' h1 h2 h3
      go_wp2
      go_meet
      exact ⟨h1, Below.trans (by go_grown) (h2.mono (by omega))⟩
  case rest =>
    obtain ⟨hown, hbel⟩ := hcut
    have hlen : own.length ≤ 12 := by have := HLN.out; omega
    obtain ⟨a', cap', rfl, hcap, hcmax, hn', hblk, hsl'⟩ := slAt_of_own Ev.len hown
    simp only [maxLen] at hcmax
    clear HW HN hown hle hmax
    have HN := Lib.hid hn'
    have HL := Lib.hid hsl'
    have HB := Lib.hid hbel
    have hsz := hbel.size
    clear hsl' hn' hblk hbel
    obtain ⟨n, hn⟩ : ∃ n : Nat, (n : Int) = min (max cut 0) own.length := ⟨(min (max cut 0) own.length).toNat, by omega⟩
    have hn12 : n ≤ own.length := by omega
    have HNN := Lib.hid hn
    clear hn
    go_upto_region 2 with fail
    go_cut [8] from 24 to 28 (fun v wx => v = .int .i64 n ∧ wx = wc)
    case first =>
      by_cases hc0 : cut < 0
      · obtain rfl : n = 0 := by have := HNN.out; omega
        go_wp2
        go_meet
        exact ⟨rfl, rfl⟩
      · by_cases hc1 : cut ≤ own.length
        · obtain rfl : cut = n := by have := HNN.out; omega
          go_wp2
          go_meet
          exact ⟨rfl, rfl⟩
        · obtain rfl : n = own.length := by have := HNN.out; omega
          go_wp2
          go_meet
          exact ⟨rfl, rfl⟩
    case rest =>
      obtain ⟨rfl, rfl⟩ := hcut
      obtain ⟨ad, had⟩ : ∃ ad, ad = (if cap' = n then a' else a'.map (·.add (n * 4))) := ⟨_, rfl⟩
      have hnc : n ≤ cap' := by omega
      obtain ⟨al, hal⟩ : ∃ al, al = own.take n := ⟨_, rfl⟩
      obtain ⟨bl, hbl⟩ : ∃ bl, bl = own.drop n := ⟨_, rfl⟩
      have HAL := Lib.hid hal
      have HBL := Lib.hid hbl
      have hsa : ∀ w, (Instr.sliceAt 54 (.slice a' own.length cap') none (some (.int .i64 n)) none).run Try.prog w = .ok (.slice a' al.length cap') w := by
        intro w
        have : al.length = n := by rw [hal, List.length_take]; omega
        rw [this]
        go_simp
      have hsb : ∀ w, (Instr.sliceAt 54 (.slice a' own.length cap') (some (.int .i64 n)) none none).run Try.prog w = .ok (.slice ad bl.length (cap' - n)) w := by
        intro w
        have : bl.length = own.length - n := by rw [hbl, List.length_drop]
        rw [this]
        go_simp
      have hla : al.length ≤ 12 := by rw [hal, List.length_take]; omega
      have hlb : bl.length ≤ 12 := by rw [hbl, List.length_drop]; omega
      have HA : Hid (SlAt 4 (flat Ev.cells) wc a' al) := by rw [hal]; exact HL.out.take n
      have HD : Hid (SlAt 4 (flat Ev.cells) wc ad bl) := by rw [had, hbl]; exact HL.out.low n hn12 hcap
      have HND : Hid (ad = none → cap' - n = 0) := by
        intro h
        rw [had] at h
        split at h
        · omega
        · have := HN.out (by simpa using h)
          omega
      clear had hal hbl
      go_upto_region 3 with fail
      go_region
      clear hsa hsb
      go_wp2_with (at_builtin; refine wpList_copy_sl Ev.len (by decide) Ev.one rfl _ _ 54 rfl wc.heap.size 49 i0 _ 32 Try.underlying54 hi hz0 hz1 hz2 rfl _ rfl (by first | exact new_at _ _ _ (by simp) | exact new_drew _ _ _ (by simp)) (by omega) ad (cap' - n) bl rfl HND.out ?ksl (by omega) (by unfold maxLen; omega) ?kh)
      case ksl => exact HD.out.below (by go_grown) (fun _ _ h => h)
      intro v1 w1 hown1 hb1 hs1
      have hB1 : Below wc.heap.size wc w1 := Below.trans (by go_grown) hb1
      have HB1 := Lib.hid hB1
      have HO1 := Lib.hid hown1
      clear hB1 hb1 hown1
      go_wp2_with (at_builtin; refine wpList_append_sl Ev.len (by decide) Ev.one rfl _ _ 54 rfl wc.heap.size 49 i0 _ 32 Try.underlying54 hi hz0 hz1 hz2 rfl _ bl rfl HO1.out a' cap' al rfl HN.out ?msl (by omega) (by unfold maxLen; omega) (by omega) ?mh)
      case msl => exact HA.out.below HB1.out (fun _ _ h => h)
      intro v2 w2 hown2 hg2
      have hB2 : Below wc.heap.size wc w2 := HB1.out.grown hg2 (by omega) (fun k hk => (HO1.out.lt k hk).1)
      have hs2 := hB2.size
      have hown2 : w2.ownsRow wc.heap.size 49 4 v2 (bl ++ al).length ((bl ++ al).flatMap Ev.cells) := by simpa using hown2
      obtain ⟨a2, cap2, rfl, hcap2, hcmax2, hn2, hblk2, hsl2⟩ := slAt_of_own Ev.len hown2
      have HS2 := Lib.hid hsl2
      have HB2 := Lib.hid hB2
      obtain ⟨tl, htl⟩ : ∃ tl, tl = bl ++ al := ⟨_, rfl⟩
      rw [← htl] at HS2
      have hll : bl.length + al.length = tl.length := by rw [htl, List.length_append]
      try rw [hll]
      try rw [← htl]
      clear hll
      have hlt : tl.length ≤ 24 := by rw [htl, List.length_append]; omega
      have hE1 : labelsFrom 0 tl = bits .or .u64 (labelsFrom 0 al) (labelsFrom 0 bl) := by rw [htl]; exact labels_turned _ _
      have hE2 : latestOf tl = latestOf own := by rw [htl, HAL.out, HBL.out]; exact latest_turned _ _
      have HE1 := Lib.hid hE1
      have HE2 := Lib.hid hE2
      have HA2 := Lib.hid (HA.out.below HB2.out (fun _ _ h => h))
      have HD2 := Lib.hid (HD.out.below HB2.out (fun _ _ h => h))
      have HL2 := Lib.hid (HL.out.below HB2.out (fun _ _ h => h))
      clear hE1 hE2 htl hsl2 hB2 hg2 hown2 hblk2 hn2 HA HD HL HND HN HO1 HAL HBL HLN HNN hi hz0 hz1 hz2
      have HBw := Lib.hid (HB.out.trans (HB2.out.mono hsz))
      clear HB HB1 HB2
      go_wp2_with fail
      refine (Labels_sl tl a2 cap2 _ HS2.out (by omega)).mono ?_
      rintro e w3 ⟨rfl, hb3⟩
      rw [HE1.out]
      have HS3 := Lib.hid (HS2.out.below hb3 (fun _ _ h => h))
      have HA3 := Lib.hid (HA2.out.below hb3 (fun _ _ h => h))
      have HD3 := Lib.hid (HD2.out.below hb3 (fun _ _ h => h))
      have HL3 := Lib.hid (HL2.out.below hb3 (fun _ _ h => h))
      have HBw3 := Lib.hid (HBw.out.trans (hb3.mono (by omega)))
      have hs3 := hb3.size
      clear hb3 HS2 HA2 HD2 HL2 HBw
      go_wp2_with fail
      refine (Labels_sl al a' cap' _ HA3.out (by omega)).mono ?_
      rintro e w4 ⟨rfl, hb4⟩
      have HS4 := Lib.hid (HS3.out.below hb4 (fun _ _ h => h))
      have HD4 := Lib.hid (HD3.out.below hb4 (fun _ _ h => h))
      have HL4 := Lib.hid (HL3.out.below hb4 (fun _ _ h => h))
      have HBw4 := Lib.hid (HBw3.out.trans (hb4.mono (by omega)))
      have hs4 := hb4.size
      clear hb4 HS3 HA3 HD3 HL3 HBw3
      go_wp2_with fail
      refine (Labels_sl bl ad (cap' - n) _ HD4.out (by omega)).mono ?_
      rintro e w5 ⟨rfl, hb5⟩
      have HS5 := Lib.hid (HS4.out.below hb5 (fun _ _ h => h))
      have HL5 := Lib.hid (HL4.out.below hb5 (fun _ _ h => h))
      have HBw5 := Lib.hid (HBw4.out.trans (hb5.mono (by omega)))
      have hs5 := hb5.size
      clear hb5 HS4 HD4 HL4 HBw4
      go_wp2_with fail
      refine (Latest_sl tl a2 cap2 _ HS5.out (by omega)).mono ?_
      rintro e w6 ⟨rfl, hb6⟩
      rw [HE2.out]
      have HL6 := Lib.hid (HL5.out.below hb6 (fun _ _ h => h))
      have HBw6 := Lib.hid (HBw5.out.trans (hb6.mono (by omega)))
      have hs6 := hb6.size
      clear hb6 HS5 HL5 HBw5
      go_wp2_with fail
      refine (Latest_sl own a' cap' _ HL6.out (by omega)).mono ?_
      rintro e w7 ⟨rfl, hb7⟩
      have HB := Lib.hid (HBw6.out.trans (hb7.mono (by omega)))
      have hs7 := hb7.size
      clear hb7 HL6 HBw6
      go_wp2_with fail
      have r0 : evRight 1099511627777 255 9223372036854775808 = false := by decide
      have r1 : evRight 1099511627776 256 9223372036854775808 = false := by decide
      have r2 : evRight 1099511627776 255 0 = false := by decide
      have r3 : evRight (-1) 0 1 = false := by decide
      have r4 : evRight 0 (-1) 1 = false := by decide
      have r5 : evRight 1099511627776 255 9223372036854775808 = true := by decide
      have r6 : evRight 0 0 1 = true := by decide
      refine wp_loop_rounds 6 ?_
      repeat any_goals (rw [rounds_succ]; go_wp2_with (first
        | (go_at_call 30; refine (evRight_any _ _ _ _ _).mono ?_; rintro e w' ⟨rfl, rfl⟩; simp only [r0, r1, r2, r3, r4, r5, r6])
        | (go_at_call 10; refine (EventRuns_any _).mono ?_; rintro e w9 ⟨rfl, hb9⟩)))
      go_ret
      refine ⟨rfl, ?_⟩
      refine Below.trans (Below.trans HB.out ?_) (hb9.mono (by simp; omega))
      go_grown
theorem EventMany_row (w : World) (a0 : Option Addr) (cap0 : Nat) (l0 : List Ev) (le0 : l0.length ≤ cap0) (mx0 : cap0 ≤ maxLen) (nil0 : a0 = none → cap0 = 0) (h0 : SlAt 4 isEv w a0 l0)
    (a1 : Int) (w1 : (Lit.int .i64 a1).wf = true) (a2 : Int) (w2 : (Lit.int .i64 a2).wf = true) :
    Calls Try.prog 13 #[.slice a0 l0.length cap0, .int .i64 a1, .int .i64 a2] w fun e w' => e = .returned (.bool true) ∧ Below w.heap.size w w' :=
  EventMany_walk a0 cap0 l0 a1 a2 w le0 mx0 nil0 (h0.imp fun cs x h => h.1)
end Go.Proofs.Ytgbbahgllpdjmaa
