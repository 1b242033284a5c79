/- Walk of the law QuotaPlays. -/
import Derived.Test.YtgbbahgllpdjmaaQuotaRuns
import Derived.Deep.RegionHeld3
import Derived.Deep.CutRange
set_option linter.unusedVariables false
namespace Go.Proofs.Ytgbbahgllpdjmaa
open Go.ChangeShapes Go.WideShapes Go.ChangeAt Go.RowKit
theorem intInfo : ∃ i, Try.prog.info? 3 = some i ∧ i.zero = some (.int .i64 0) ∧ i.size = 1 ∧ i.bytes = 8 := info_parts (by kernel_rfl)
/-- One round of the law: the quota's three numbers. -/
structure Q3 where
  left : Int
  spent : Int
  refused : Int
theorem spendTo_range : ∀ (ns : List Int) (l r : Int), 0 ≤ l → spendTo l ns = some r → 0 ≤ r ∧ r ≤ l
  | [], l, r, h, e => by simp [spendTo] at e; omega
  | n :: ns, l, r, h, e => by
    unfold spendTo at e
    split at e
    · cases e
    · have := spendTo_range ns (l - n) r (by omega) e
      omega
set_option maxRecDepth 4000 in
set_option maxHeartbeats 4000000 in
theorem QuotaPlays_walk (w : World) (most : Int) (hm0 : -9223372036854775808 ≤ most) (hm : most ≤ 9223372036854775807) (a1 : Option Addr) (cap1 : Nat) (l : List (List Int)) (hle1 : l.length ≤ cap1) (hmx1 : cap1 ≤ maxLen) (hs1 : SlAt 1 (isSl 1 (isInt .i64)) w a1 l)
    (a2 : Option Addr) (cap2 : Nat) (rf : List Bool) (hle2 : rf.length ≤ cap2) (hmx2 : cap2 ≤ maxLen) (hs2 : SlAt 1 isBool w a2 rf) :
    Calls Try.prog 4 #[.int .i64 most, .slice a1 l.length cap1, .slice a2 rf.length cap2] w fun e w' => e = .returned (.bool true) ∧ Below w.heap.size w w' := by
  obtain ⟨i0, hi, hz0, hz1, hz2⟩ := intInfo
  simp only [maxLen] at hmx1 hmx2
  have H1 := Lib.hid hs1
  have H2 := Lib.hid hs2
  clear hs1 hs2
  obtain ⟨m, hmm⟩ : ∃ m, m = max most 0 := ⟨_, rfl⟩
  have HM := Lib.hid hmm
  have hm1 : 0 ≤ m := by omega
  have hm2 : m ≤ 9223372036854775807 := by omega
  clear hmm
  go_enter Try.func4, Try.ntmps4
  go_wp2_with fail
  refine (Of_any most _).mono ?_
  rw [← HM.out]
  rintro e w' ⟨rfl, rfl⟩
  go_upto_region 2 with fail
  go_cut [8, 9, 10] from 20 to 21 (fun v u t wx => v = .int .i64 m ∧ u = .int .i64 0 ∧ t = .int .i64 0 ∧ wx = (w.alloc (.cells #[.int .i64 m, .int .i64 0, .int .i64 0] 23)).alloc (.cells #[.int .i64 m, .int .i64 0, .int .i64 0] 23))
  case first =>
    by_cases h0 : 0 ≤ most
    · obtain rfl : m = most := by have := HM.out; omega
      go_wp2
      go_meet
      exact ⟨rfl, rfl, rfl, rfl⟩
    · obtain rfl : m = 0 := by have := HM.out; omega
      go_wp2
      go_meet
      exact ⟨rfl, rfl, rfl, rfl⟩
  case rest =>
    obtain ⟨rfl, rfl, rfl, rfl⟩ := hcut
    go_wp2_with fail
    go_loopw [8, 9, 10, 11] (fun lv sv rv iv wr => ∃ (k : Nat) (left spent refused : Int), k ≤ l.length ∧ k ≤ 30 ∧ iv = .int .i64 k ∧ lv = .int .i64 left ∧ sv = .int .i64 spent ∧ rv = .int .i64 refused ∧ left + spent = m ∧ 0 ≤ left ∧ 0 ≤ spent ∧ 0 ≤ refused ∧ refused ≤ 2 * k ∧
      wr.heap[w.heap.size + 1]? = some (.cells #[.int .i64 left, .int .i64 spent, .int .i64 refused] 23 (0, 0)) ∧ Below w.heap.size w wr) (fun _ _ _ iv _ => l.length - (intOf iv).toNat)
    case atStart => exact ⟨0, m, 0, 0, by omega, by omega, rfl, rfl, rfl, rfl, by omega, by omega, by omega, by omega, by omega, new_at _ _ _ (by simp), by go_grown⟩
    case round =>
      obtain ⟨k, left, spent, refused, hk1, hk2, rfl, rfl, rfl, rfl, hsum, hl0, hs0, hr0, hr1, hQ, hbel⟩ := hrel
      have hsz := hbel.size
      have hQlt := (Array.getElem?_eq_some_iff.1 hQ).1
      have HB := Lib.hid hbel
      have HQ := Lib.hid hQ
      clear hbel hQ
      by_cases hlt : k < l.length ∧ k < 30
      · obtain ⟨hlt1, hlt2⟩ := hlt
        have hlt2i : (k : Int) < 30 := by omega
        obtain ⟨b, o, a', cap', rfl, hbw, hcell, hle', hmx', hnil', hsl'⟩ := H1.out.sl k hlt1
        have hcell := (HB.out.cell (p := ⟨b, o + k, none⟩) hbw).trans hcell
        generalize l[k]?.getD [] = ns at *
        obtain ⟨own, hwn⟩ : ∃ own, own = ns.take 5 := ⟨_, rfl⟩
        have HLN : Hid (own.length = min 5 ns.length) := by rw [hwn]; exact List.length_take
        have HW : Hid (SlAt 1 (flat (intC .i64)) wr a' own) := by rw [hwn]; exact ((hsl'.take 5).imp (fun cs x h => h.1)).below HB.out (fun _ _ h => h)
        have HN := Lib.hid hnil'
        have hbr : b < wr.heap.size := by omega
        simp only [maxLen] at hmx'
        clear hwn hsl' hnil'
        go_upto_region 6 with fail
        go_cut [12] from 32 to 44 (fun v wx => ∃ b1 cap1, v = .slice (some ⟨b1, 0, none⟩) own.length cap1 ∧ SlAt 1 (flat (intC .i64)) wx (some ⟨b1, 0, none⟩) own ∧ Below wr.heap.size wr wx)
        case first =>
          by_cases h5 : ns.length ≤ 5
          · have hle2 : (ns.length : Int) ≤ (cap' : Int) := by omega
            have h5i : (ns.length : Int) ≤ 5 := by omega
            have h5j : ¬ (5 : Int) < (ns.length : Int) := by omega
            have HX : Hid (own.length = ns.length) := by have := HLN.out; show _ = _; omega
            go_region_held3 (fun w' => w'.cell? ⟨b, o + k, none⟩ = some (.slice a' ns.length cap')) (first | assumption | (refine (Below.cell (B := wr.heap.size) (w := wr) ?_ hbr).trans hcell; go_grown; done) | (refine (h2.cell (p := ⟨b, o + k, none⟩) hbr).trans ?_; refine (Below.cell (B := wr.heap.size) (w := wr) ?_ hbr).trans hcell; go_grown; done)) ((refine step_copy_sl (intC_len _) (by decide) (intC_one _) (by rfl) _ _ 30 (by rfl) wr.heap.size 3 i0 _ 8 Try.underlying30 hi hz0 hz1 hz2 rfl _ (by rfl) (by first | exact new_at _ _ _ (by simp) | exact new_drew _ _ _ (by simp)) (by omega) a' cap' own (by rw [HX.out]; rfl) HN.out (HW.out.below (by go_grown) (fun _ _ h => h)) (by have := HLN.out; omega) (by have := HLN.out; unfold maxLen; omega) ?_; intro b1 c1 w1 h1 h2 h3))
            all_goals
              go_wp2
              go_meet
              exact ⟨b1, c1, rfl, (slAt_own (intC_len _) h1).1, Below.trans (by go_grown) h2⟩
          · have h6 : 5 < ns.length := by omega
            have hle2 : (5 : Int) ≤ (cap' : Int) := by omega
            have h6i : (5 : Int) < (ns.length : Int) := by omega
            have h6j : ¬ (ns.length : Int) < 5 := by omega
            have HX : Hid (own.length = 5) := by have := HLN.out; show _ = _; omega
            clear h5
            go_region_held3 (fun w' => w'.cell? ⟨b, o + k, none⟩ = some (.slice a' ns.length cap')) (first | assumption | (refine (Below.cell (B := wr.heap.size) (w := wr) ?_ hbr).trans hcell; go_grown; done) | (refine (h2.cell (p := ⟨b, o + k, none⟩) hbr).trans ?_; refine (Below.cell (B := wr.heap.size) (w := wr) ?_ hbr).trans hcell; go_grown; done)) ((refine step_copy_sl (intC_len _) (by decide) (intC_one _) (by rfl) _ _ 30 (by rfl) wr.heap.size 3 i0 _ 8 Try.underlying30 hi hz0 hz1 hz2 rfl _ (by rfl) (by first | exact new_at _ _ _ (by simp) | exact new_drew _ _ _ (by simp)) (by omega) a' cap' own (by rw [HX.out]; rfl) HN.out (HW.out.below (by go_grown) (fun _ _ h => h)) (by have := HLN.out; omega) (by have := HLN.out; unfold maxLen; omega) ?_; intro b1 c1 w1 h1 h2 h3))
            all_goals
              go_wp2
              go_meet
              exact ⟨b1, c1, rfl, (slAt_own (intC_len _) h1).1, Below.trans (by go_grown) h2⟩
        case rest =>
          obtain ⟨b1, cap1', rfl, hso, hbx⟩ := hcut
          have hlen5 : own.length ≤ 5 := by have := HLN.out; omega
          have HS := Lib.hid hso
          have hsx := hbx.size
          have HQx := Lib.hid ((hbx.block _ hQlt).trans HQ.out)
          have HBx := Lib.hid (HB.out.trans (hbx.mono hsz))
          clear hso hbx HB HQ HN HW HLN hcell hle' hmx'
          go_wp2_with fail
          go_loop [13, 14, 48] (fun mv yv jv => ∃ (j : Nat) (y : Int) (mb : Bool), j ≤ own.length ∧ jv = .int .i64 j ∧ yv = .int .i64 y ∧ mv = .bool mb ∧ 0 ≤ y ∧ y ≤ left ∧ (mb = true → spendTo y (own.drop j) = spendTo left own) ∧ (mb = false → spendTo left own = none)) (fun _ _ jv => own.length - (intOf jv).toNat)
          case atStart => exact ⟨0, left, true, by omega, rfl, rfl, rfl, hl0, by omega, fun _ => by simp, fun h => by cases h⟩
          case round =>
            obtain ⟨j, y, mb, hj, rfl, rfl, rfl, hy0, hy1, ht, hf⟩ := hrel
            have HT := Lib.hid ht
            have HF := Lib.hid hf
            clear ht hf
            by_cases hjl : j < own.length
            · obtain ⟨b2, o2, he, _, hx⟩ := HS.out.intAt j hjl
              simp at he
              obtain ⟨rfl, rfl⟩ := he
              simp only [Nat.zero_add] at hx
              have HP := Lib.hid (spend_step y own j hjl)
              generalize own[j]?.getD 0 = x at hx HP
              cases mb with
              | false =>
                go_wp2
                go_round
                case rel => exact ⟨j + 1, y, false, by omega, by go_num, rfl, rfl, hy0, hy1, (fun h => by cases h), HF.out⟩
                case measure => simp [intOf]; omega
              | true =>
                by_cases hx0 : 0 ≤ x
                · by_cases hx1 : x ≤ y
                  · go_wp2
                    go_round
                    case rel => exact ⟨j + 1, y - x, true, by omega, by go_num, by go_num, rfl, by omega, by omega, fun _ => by have h := HP.out; rw [if_neg (by omega), HT.out rfl] at h; exact h.symm, fun h => by cases h⟩
                    case measure => simp [intOf]; omega
                  · go_wp2
                    go_round
                    case rel => exact ⟨j + 1, y, false, by omega, by go_num, rfl, rfl, hy0, hy1, (fun h => by cases h), fun _ => by have h := HP.out; rw [if_pos (by omega), HT.out rfl] at h; exact h⟩
                    case measure => simp [intOf]; omega
                · go_wp2
                  go_round
                  case rel => exact ⟨j + 1, y, false, by omega, by go_num, rfl, rfl, hy0, hy1, (fun h => by cases h), fun _ => by have h := HP.out; rw [if_pos (by omega), HT.out rfl] at h; exact h⟩
                  case measure => simp [intOf]; omega
            · obtain rfl : j = own.length := by omega
              have hsp : spendTo left own = if mb = true then some y else none := by
                cases mb with
                | true => have := HT.out rfl; rw [List.drop_length] at this; rw [← this]; rfl
                | false => rw [HF.out rfl]; rfl
              have HSP := Lib.hid hsp
              clear HT HF hsp
              go_upto_region 15 with fail
              go_cut [70] from 67 to 70 (fun v wx => ∃ l2 s2 r2 : Int, v = .bool false ∧ wx.heap[w.heap.size + 1]? = some (.cells #[.int .i64 l2, .int .i64 s2, .int .i64 r2] 23 (0, 0)) ∧ Below w.heap.size w wx ∧ ((mb = true ∧ l2 = y ∧ s2 = spent + left - y ∧ r2 = refused) ∨ (mb = false ∧ l2 = left ∧ s2 = spent ∧ r2 = refused + 1)))
              case first =>
                cases mb with
                | true =>
                  go_wp2_with fail
                  refine (Spend_yes (w.heap.size + 1) 0 left spent own cap1' (some ⟨b1, 0, none⟩) _ y (by simp [World.cell?, HQx.out]) (by simp [World.cell?, HQx.out]) (by simp [World.frozen?, HQx.out]) (by simp [World.frozen?, HQx.out]) HS.out (by omega) hl0 (by omega) hs0 (by omega) (by simpa using HSP.out)).mono ?_
                  rintro e w2 ⟨rfl, n, rfl⟩
                  go_wp2
                  go_meet
                  refine ⟨y, spent + (left - y), refused, rfl, ?_, ?_, .inl ⟨by trivial, rfl, by omega, rfl⟩⟩
                  · exact (heap_setCell_row (heap_setCell_row HQx.out 1 _) 0 _)
                  · exact below_drewN ((HBx.out.setCell (by simp) _).setCell (by simp) _) _
                | false =>
                  go_wp2_with fail
                  refine (Spend_no (w.heap.size + 1) 0 left refused own cap1' (some ⟨b1, 0, none⟩) _ (by simp [World.cell?, HQx.out]) (by simp [World.cell?, HQx.out]) (by simp [World.frozen?, HQx.out]) HS.out (by omega) hl0 (by omega) hr0 (by omega) (by simpa using HSP.out)).mono ?_
                  rintro e w2 ⟨rfl, rfl⟩
                  go_wp2
                  go_meet
                  refine ⟨left, spent, refused + 1, rfl, ?_, ?_, .inr ⟨by trivial, rfl, rfl, rfl⟩⟩
                  · exact heap_setCell_row HQx.out 2 _
                  · exact HBx.out.setCell (by simp) _
              case rest =>
                obtain ⟨l2, s2, r2, rfl, hQ2, hB2, hd⟩ := hcut
                have HQ2 := Lib.hid hQ2
                have HB2 := Lib.hid hB2
                have hQ2lt := (Array.getElem?_eq_some_iff.1 hQ2).1
                clear hQ2 hB2 HSP HS HQx HBx hsx
                go_upto_if 71 with fail
                go_cut [8, 9, 10] from 71 to 79 (fun u v z wx => u = .int .i64 l2 ∧ v = .int .i64 s2 ∧ z = .int .i64 r2 ∧ wx = wc)
                case first =>
                  rcases hd with ⟨rfl, rfl, h1, rfl⟩ | ⟨rfl, rfl, rfl, h1⟩
                  · go_wp2
                    go_meet
                    exact ⟨rfl, by rw [h1], rfl, rfl⟩
                  · go_wp2
                    go_meet
                    exact ⟨rfl, rfl, by rw [h1], rfl⟩
                case rest =>
                  obtain ⟨rfl, rfl, rfl, rfl⟩ := hcut
                  have hl2 : 0 ≤ l2 := by omega
                  have hs2 : 0 ≤ s2 := by omega
                  have hr2 : 0 ≤ r2 ∧ r2 ≤ 2 * k + 1 := by omega
                  obtain ⟨hr2a, hr2b⟩ := hr2
                  have hsum2 : l2 + s2 = m := by omega
                  clear hd
                  obtain ⟨cb, hcb⟩ : ∃ cb : Bool, cb = (decide (k < rf.length) && rf[k]?.getD false) := ⟨_, rfl⟩
                  have HC0 := Lib.hid hcb
                  clear hcb
                  go_upto_region 20 with fail
                  go_cut [89] from 80 to 89 (fun u wx => u = .bool cb ∧ wx = wc)
                  case first =>
                    by_cases hkr : k < rf.length
                    · obtain ⟨b3, o3, rfl, hb3, hc3⟩ := (H2.out.imp (fun cs x h => h) : SlAt 1 (flat boolC) w a2 rf).boolAt k hkr
                      have hc3 := (HB2.out.cell (p := ⟨b3, o3 + k, none⟩) hb3).trans hc3
                      have hcb : cb = rf[k]?.getD false := by rw [HC0.out, decide_eq_true hkr, Bool.true_and]
                      rw [← hcb] at hc3
                      have hkri : (k : Int) < (rf.length : Int) := by omega
                      clear hcb
                      go_wp2
                      go_meet
                      exact ⟨rfl, rfl⟩
                    · have hcb : cb = false := by rw [HC0.out, decide_eq_false hkr, Bool.false_and]
                      subst hcb
                      have hkri : ¬ (k : Int) < (rf.length : Int) := by omega
                      go_wp2
                      go_meet
                      exact ⟨rfl, rfl⟩
                  case rest =>
                    obtain ⟨rfl, rfl⟩ := hcut
                    have hk0 := cell_of_row wc _ 0 _ _ _ HQ2.out
                    have hk1 := cell_of_row wc _ 1 _ _ _ HQ2.out
                    have hk2 := cell_of_row wc _ 2 _ _ _ HQ2.out
                    simp at hk0 hk1 hk2
                    go_upto_if 89 with fail
                    go_cut [10, 17] from 90 to 98 (fun z cp wx => ∃ r3 : Int, z = .int .i64 r3 ∧ wx.heap[w.heap.size + 1]? = some (.cells #[.int .i64 l2, .int .i64 s2, .int .i64 r3] 23 (0, 0)) ∧ Below w.heap.size w wx ∧ 0 ≤ r3 ∧ r3 ≤ 2 * k + 2)
                    case first =>
                      clear HC0
                      cases cb with
                      | false =>
                        go_wp2
                        go_meet
                        exact ⟨r2, rfl, HQ2.out, HB2.out, hr2a, by omega⟩
                      | true =>
                        go_wp2_with fail
                        refine (Refuse_any (w.heap.size + 1) 0 r2 _ hr2a (by omega) (by simpa using hk2) (by simp [World.frozen?, HQ2.out])).mono ?_
                        rintro e w2 ⟨rfl, hw2⟩
                        have hQ3 : w2.heap[w.heap.size + 1]? = some (.cells #[.int .i64 l2, .int .i64 s2, .int .i64 (r2 + 1)] 23 (0, 0)) := by rw [hw2]; exact heap_setCell_row HQ2.out 2 _
                        have HB3 := Lib.hid (show Below w.heap.size w w2 by rw [hw2]; exact HB2.out.setCell (by simp) _)
                        have hlt3 := (Array.getElem?_eq_some_iff.1 hQ3).1
                        have kk0 := cell_of_row w2 _ 0 _ _ _ hQ3
                        have kk1 := cell_of_row w2 _ 1 _ _ _ hQ3
                        have kk2 := cell_of_row w2 _ 2 _ _ _ hQ3
                        simp at kk0 kk1 kk2
                        have HQ3 := Lib.hid hQ3
                        clear hw2 hQ3 hk0 hk1 hk2
                        go_wp2_with fail
                        refine (Spend_yes w2.heap.size 0 l2 s2 [0] 1 (some ⟨w2.heap.size + 1, 0, none⟩) _ l2 (by simp [go_sem]) (by simp [go_sem]) (by simp [go_sem]) (by simp [go_sem]) (SlAt.ofInts (by simp) ?i0) (by decide) hl2 (by omega) hs2 (by omega) (by simp [spendTo]; omega)).mono ?_
                        case i0 =>
                          intro i hi
                          match i, hi with
                          | 0, _ => simp [go_sem]
                        rintro e w3 ⟨rfl, n3, rfl⟩
                        go_wp2_with fail
                        refine (Spend_no w2.heap.size 0 l2 (r2 + 1) [-1] 1 (some ⟨w2.heap.size + 1 + 1, 0, none⟩) _ (by simp [go_sem]) (by simp [go_sem]) (by simp [go_sem]) (SlAt.ofInts (by simp) ?i1) (by decide) hl2 (by omega) (by omega) (by omega) (by simp [spendTo])).mono ?_
                        case i1 =>
                          intro i hi
                          match i, hi with
                          | 0, _ => simp [go_sem]
                        rintro e w4 ⟨rfl, rfl⟩
                        go_wp2_with fail
                        refine (Refuse_any w2.heap.size 0 (r2 + 1 + 1) _ (by omega) (by omega) (by simp [go_sem]) (by simp [go_sem])).mono ?_
                        rintro e w5 ⟨rfl, hw5⟩
                        have hB5 : Below w2.heap.size w2 w5 := by
                          rw [hw5]
                          repeat (first | exact Below.refl _ _ | refine Below.alloc ?_ (by simp <;> omega) _ | refine Below.setCell ?_ (by simp <;> omega) _ | refine below_drewN ?_ _ | refine Below.drew ?_)
                        clear hw5
                        go_wp2
                        go_meet
                        refine ⟨r2 + 1, rfl, (hB5.block _ hlt3).trans HQ3.out, HB3.out.trans (hB5.mono (by omega)), by omega, by omega⟩
                    case rest =>
                      obtain ⟨r3, rfl, hQ3, hB3, hr3a, hr3b⟩ := hcut
                      clear hk0 hk1 hk2
                      have hk0 := cell_of_row wc _ 0 _ _ _ hQ3
                      have hk1 := cell_of_row wc _ 1 _ _ _ hQ3
                      have hk2 := cell_of_row wc _ 2 _ _ _ hQ3
                      simp at hk0 hk1 hk2
                      have hlt3 := (Array.getElem?_eq_some_iff.1 hQ3).1
                      have hlt4 : w.heap.size < wc.heap.size := by omega
                      have hlt5 : w.heap.size < wc.heap.size + 1 := by omega
                      have hlt6 : w.heap.size < wc.heap.size + 1 + 1 := by omega
                      have hlt7 : w.heap.size < wc.heap.size + 1 + 1 + 1 := by omega
                      have HQ3 := Lib.hid hQ3
                      have HB3 := Lib.hid hB3
                      clear hQ3 hB3 HQ2 HB2 HC0
                      have hmc : (0 ≤ most ∧ l2 + s2 = most) ∨ (most < 0 ∧ l2 + s2 = 0) := by have := HM.out; omega
                      rcases hmc with ⟨hmc0, hmc1⟩ | ⟨hmc0, hmc1⟩
                      · go_wp2_with (first | (go_at_call 16; refine (Left_any _ _ _ _).mono ?_; rintro e w' ⟨rfl, rfl⟩) | (go_at_call 17; refine (Spent_any _ _ _ _).mono ?_; rintro e w' ⟨rfl, rfl⟩) | (go_at_call 18; refine (Refused_any _ _ _ _).mono ?_; rintro e w' ⟨rfl, rfl⟩))
                        go_roundw
                        case rel =>
                          refine ⟨k + 1, l2, s2, r3, by omega, by omega, by go_num, rfl, rfl, rfl, by omega, hl2, hs2, hr3a, by omega, ?_, ?_⟩
                          · refine (Below.block (B := w.heap.size + 2) (w := wc) ?_ _ (by omega)).trans HQ3.out
                            go_grown
                          · exact Below.trans HB3.out (by go_grown)
                        case measure => simp [intOf]; omega
                      · go_wp2_with (first | (go_at_call 16; refine (Left_any _ _ _ _).mono ?_; rintro e w' ⟨rfl, rfl⟩) | (go_at_call 17; refine (Spent_any _ _ _ _).mono ?_; rintro e w' ⟨rfl, rfl⟩) | (go_at_call 18; refine (Refused_any _ _ _ _).mono ?_; rintro e w' ⟨rfl, rfl⟩))
                        go_roundw
                        case rel =>
                          refine ⟨k + 1, l2, s2, r3, by omega, by omega, by go_num, rfl, rfl, rfl, by omega, hl2, hs2, hr3a, by omega, ?_, ?_⟩
                          · refine (Below.block (B := w.heap.size + 2) (w := wc) ?_ _ (by omega)).trans HQ3.out
                            go_grown
                          · exact Below.trans HB3.out (by go_grown)
                        case measure => simp [intOf]; omega
      · go_wp2_with (go_at_call 3; refine (QuotaRuns_any _).mono ?_; rintro e w9 ⟨rfl, hb9⟩)
        all_goals
          go_ret
          exact ⟨rfl, HB.out.trans (hb9.mono hsz)⟩
theorem QuotaPlays_row (w : World) (a0 : Int) (w0 : (Lit.int .i64 a0).wf = true) (a1 : Option Addr) (cap1 : Nat) (l1 : List (List Int)) (le1 : l1.length ≤ cap1) (mx1 : cap1 ≤ maxLen) (nil1 : a1 = none → cap1 = 0) (h1 : SlAt 1 (isSl 1 (isInt .i64)) w a1 l1)
    (a2 : Option Addr) (cap2 : Nat) (l2 : List Bool) (le2 : l2.length ≤ cap2) (mx2 : cap2 ≤ maxLen) (nil2 : a2 = none → cap2 = 0) (h2 : SlAt 1 isBool w a2 l2) :
    Calls Try.prog 4 #[.int .i64 a0, .slice a1 l1.length cap1, .slice a2 l2.length cap2] w fun e w' => e = .returned (.bool true) ∧ Below w.heap.size w w' := by
  have hb := w0
  simp [Lit.wf, IntKind.min, IntKind.max, IntKind.signed, IntKind.bits] at hb
  exact QuotaPlays_walk w a0 (by omega) (by omega) a1 cap1 l1 le1 mx1 h1 a2 cap2 l2 le2 mx2 h2
end Go.Proofs.Ytgbbahgllpdjmaa
