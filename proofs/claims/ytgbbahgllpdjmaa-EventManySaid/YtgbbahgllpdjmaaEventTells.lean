/- Walk of the law EventTells. -/
import Derived.Test.YtgbbahgllpdjmaaEventOrder
import Derived.Test.YtgbbahgllpdjmaaOwn
import Derived.Deep.CutRange
set_option linter.unusedVariables false
namespace Go.Proofs.Ytgbbahgllpdjmaa
open Go.ChangeShapes Go.WideShapes Go.ChangeAt Go.RowKit
theorem Ev.len (e : Ev) : e.cells.length = 4 := rfl
theorem Ev.one (e : Ev) : ∀ u ∈ e.cells, u.oneCell' = true := by intro u hu; simp [Ev.cells] at hu; rcases hu with rfl | rfl | rfl | rfl <;> rfl
theorem evInfo : ∃ i, Try.prog.info? 49 = some i ∧ i.zero = some (.agg #[.int .i64 0, .int .i64 0, .int .i64 0, .int .u64 0]) ∧ i.size = 4 ∧ i.bytes = 32 := info_parts (by kernel_rfl)
theorem evsAt_of {w : World} {b o : Nat} {l : List Ev} (h : SlAt 4 (flat Ev.cells) w (some ⟨b, o, none⟩) l) : evsAt w b o l := by
  intro i hi
  have hf := fun j hj => flatMap_at Ev.len l i j hj
  have hc := fun j => SlAt.cells Ev.len (by decide) h (i * 4 + j)
  simp only [List.getElem?_eq_getElem hi, Option.bind_some] at hf
  rw [List.getElem?_eq_getElem hi]
  refine ⟨?_, ?_, ?_, ?_⟩
  · exact hc 0 _ (by rw [hf 0 (by decide)]; rfl)
  · exact hc 1 _ (by rw [hf 1 (by decide)]; rfl)
  · exact hc 2 _ (by rw [hf 2 (by decide)]; rfl)
  · exact hc 3 _ (by rw [hf 3 (by decide)]; rfl)
theorem Latest_sl (es : List Ev) (a : Option Addr) (cap : Nat) (w : World) (h : SlAt 4 (flat Ev.cells) w a es) (hlen : es.length ≤ 1000000) :
    Calls Try.prog 28 #[.slice a es.length cap] w fun e w' => e = .returned (.int .i64 (latestOf es)) ∧ Below w.heap.size w w' := by
  rcases h with rfl | ⟨b, o, rfl, hlt, hh⟩
  · exact (Latest_nil a cap w).mono fun e w' ⟨h1, h2⟩ => ⟨h1, h2 ▸ Below.refl _ _⟩
  · exact Latest_any es b o cap _ w (.inr rfl) hlt (evsAt_of (.inr ⟨b, o, rfl, hlt, hh⟩)) hlen
theorem Labels_sl (es : List Ev) (a : Option Addr) (cap : Nat) (w : World) (h : SlAt 4 (flat Ev.cells) w a es) (hlen : es.length ≤ 1000000) :
    Calls Try.prog 29 #[.slice a es.length cap] w fun e w' => e = .returned (.int .u64 (labelsFrom 0 es)) ∧ Below w.heap.size w w' := by
  rcases h with rfl | ⟨b, o, rfl, hlt, hh⟩
  · exact (Labels_nil a cap w).mono fun e w' ⟨h1, h2⟩ => ⟨h1, h2 ▸ Below.refl _ _⟩
  · exact Labels_any es b o cap _ w (.inr rfl) hlt (evsAt_of (.inr ⟨b, o, rfl, hlt, hh⟩)) hlen
theorem latestFrom_of (es : List Ev) (k : Nat) (h : k < es.length) : latestOf (es.take (k + 1)) = latestFrom (es[0]?.getD Ev.zero).time (es.take (k + 1)) := by
  cases es with
  | nil => simp at h
  | cons e es => rfl
theorem latestOf_take (es : List Ev) (k : Nat) (h : k < es.length) : latestOf (es.take (k + 1)) = if k = 0 then (es[k]?.getD Ev.zero).time else max (latestOf (es.take k)) (es[k]?.getD Ev.zero).time := by
  rw [latestFrom_of es k h, latest_take _ es k h]
  cases k with
  | zero =>
    cases es with
    | nil => simp at h
    | cons e es => simp [latestFrom]
  | succ k => rw [if_neg (by omega), latestFrom_of es k (by omega)]
theorem EventTells_walk (e1 e2 e3 e4 : Int) (a : Option Addr) (cap : Nat) (l : List Ev) (w : World) (hle : l.length ≤ cap) (hmax : cap ≤ maxLen) (hnil : a = none → cap = 0) (hsl : SlAt 4 (flat Ev.cells) w a l) :
    Calls Try.prog 12 #[.agg #[.int .i64 e1, .int .i64 e2, .int .i64 e3, .int .u64 e4], .slice a l.length cap] w fun e w' => e = .returned (.bool true) ∧ Below w.heap.size w w' := by
  obtain ⟨i0, hi, hz0, hz1, hz2⟩ := evInfo
  have HS := Lib.hid hsl
  have HN := Lib.hid hnil
  clear hsl hnil
  obtain ⟨own, hwn⟩ : ∃ own, own = l.take 20 := ⟨_, rfl⟩
  have HLN : Hid (own.length = min 20 l.length) := by rw [hwn]; exact List.length_take
  have HW : Hid (SlAt 4 (flat Ev.cells) w a own) := by rw [hwn]; exact HS.out.take 20
  clear hwn HS
  go_enter Try.func12, Try.ntmps12
  go_upto_region 1 with fail
  go_cut [5] from 11 to 17 (fun v wx => wx.ownsRow w.heap.size 49 4 v own.length (own.flatMap Ev.cells) ∧ Below w.heap.size w wx ∧ w.heap.size < wx.heap.size ∧ wx.cell? ⟨w.heap.size, 0, none⟩ = some (.int .i64 e1) ∧ wx.cell? ⟨w.heap.size, 1, none⟩ = some (.int .i64 e2) ∧ wx.cell? ⟨w.heap.size, 2, none⟩ = some (.int .i64 e3) ∧ wx.cell? ⟨w.heap.size, 3, none⟩ = some (.int .u64 e4))
  case first =>
    by_cases h20 : l.length ≤ 20
    · have HX : Hid (own.length = l.length) := by have := HLN.out; show _ = _; omega
      go_wp2_with (at_builtin; refine wpList_copy_sl Ev.len (by decide) Ev.one rfl _ _ 54 rfl w.heap.size 49 i0 _ 32 Try.underlying54 hi hz0 hz1 hz2 rfl _ rfl (by first | exact new_at _ _ _ (by simp) | exact new_drew _ _ _ (by simp)) (by omega) a cap own (by rw [HX.out]; rfl) HN.out ?hsl (by have := HLN.out; omega) (by have := HLN.out; unfold maxLen; omega) ?hh)
      case hsl => exact HW.out.below (by go_grown) (fun _ _ h => h)
      intro v' w' h1 h2 h3
      go_wp2
      go_meet
      refine ⟨h1, Below.trans (by go_grown) (h2.mono (by omega)), by first | omega | (simp at h3; omega), ?_, ?_, ?_, ?_⟩
      all_goals
        refine (h2.cell (by simp)).trans ?_
        simp [go_sem]
    · have h21 : 20 < l.length := by omega
      have HX : Hid (own.length = 20) := by have := HLN.out; show _ = _; omega
      clear h20
      go_wp2_with (at_builtin; refine wpList_copy_sl Ev.len (by decide) Ev.one rfl _ _ 54 rfl w.heap.size 49 i0 _ 32 Try.underlying54 hi hz0 hz1 hz2 rfl _ rfl (by first | exact new_at _ _ _ (by simp) | exact new_drew _ _ _ (by simp)) (by omega) a cap own (by rw [HX.out]; rfl) HN.out ?hsl2 (by have := HLN.out; omega) (by have := HLN.out; unfold maxLen; omega) ?hh2)
      case hsl2 => exact HW.out.below (by go_grown) (fun _ _ h => h)
      intro v' w' h1 h2 h3
      go_wp2
      go_meet
      refine ⟨h1, Below.trans (by go_grown) (h2.mono (by omega)), by first | omega | (simp at h3; omega), ?_, ?_, ?_, ?_⟩
      all_goals
        refine (h2.cell (by simp)).trans ?_
        simp [go_sem]
  case rest =>
    obtain ⟨hown, hbel, hszc, c0, c1, c2, c3⟩ := hcut
    have hlen : own.length ≤ 20 := by have := HLN.out; omega
    obtain ⟨a', cap', rfl, hcap, hcmax, hn', hblk, hsl'⟩ := slAt_of_own Ev.len hown
    clear HW HN hi hz0 hz1 hz2 hown hle hmax
    have HL := Lib.hid hsl'
    have HBl := Lib.hid hblk
    have HB := Lib.hid hbel
    have hsz := hbel.size
    clear hsl' hn' hblk hbel
    go_upto_region 2 with fail
    go_cut [6] from 18 to 40 (fun v wx => v = .bool (evRight e1 e2 e4) ∧ wx = wc)
    case first =>
      by_cases h5 : e4 = 0
      · subst h5
        go_wp2
        all_goals
          go_meet
          exact ⟨by simp [evRight], rfl⟩
      · have h6 : (e4 != 0) = true := by simp [h5]
        go_wp2
        all_goals
          go_meet
          exact ⟨by simp [evRight, h5]; omega, rfl⟩
    case rest =>
      obtain ⟨rfl, rfl⟩ := hcut
      go_wp2_with fail
      go_loopw [7, 8, 43] (fun t m i wr => ∃ k : Nat, k ≤ own.length ∧ i = .int .i64 k ∧ t = .int .i64 (latestOf (own.take k)) ∧ m = .int .u64 (labelsFrom 0 (own.take k)) ∧ Below wc.heap.size wc wr) (fun _ _ i _ => own.length - (intOf i).toNat)
      case atStart => exact ⟨0, by omega, rfl, rfl, rfl, Below.refl _ _⟩
      case round =>
        obtain ⟨k, hk, rfl, rfl, rfl, hb⟩ := hrel
        have hsr := hb.size
        by_cases hlt : k < own.length
        · obtain ⟨b, o, ha⟩ : ∃ b o, a' = some ⟨b, o, none⟩ := by
            rcases HL.out with rfl | ⟨b, o, h, _⟩
            · simp at hlt
            · exact ⟨b, o, h⟩
          subst ha
          obtain ⟨d0, d1, d2, d3⟩ := (evsAt_of HL.out).below hb (HBl.out b o rfl).2 k hlt
          have HT := Lib.hid (latestOf_take own k hlt)
          have HM := Lib.hid (labels_take 0 own k hlt)
          have hbb := (HBl.out b o rfl).2
          generalize own[k]?.getD Ev.zero = x at *
          obtain ⟨xt, xk, xv, xl⟩ := x
          dsimp only at d0 d1 d2 d3
          generalize latestOf (own.take k) = t at *
          generalize labelsFrom 0 (own.take k) = m at *
          go_wp2
          all_goals
            go_roundw
            case rel => exact ⟨k + 1, by omega, by go_num, by rw [HT.out]; dsimp only; congr 1; first | (split <;> omega) | (rename_i h; simp at h; split <;> omega), by rw [HM.out], by go_grown⟩
            case measure => simp [intOf]; omega
        · obtain rfl : k = own.length := by omega
          rw [List.take_length] at *
          have c0 := (hb.cell (p := ⟨w.heap.size, 0, none⟩) (by simp; omega)).trans c0
          have c1 := (hb.cell (p := ⟨w.heap.size, 1, none⟩) (by simp; omega)).trans c1
          have c2 := (hb.cell (p := ⟨w.heap.size, 2, none⟩) (by simp; omega)).trans c2
          have c3 := (hb.cell (p := ⟨w.heap.size, 3, none⟩) (by simp; omega)).trans c3
          have hbr := HB.out.trans (hb.mono (by omega))
          have HBr := Lib.hid hbr
          have HLr := Lib.hid (HL.out.flatBelow hb (fun b o h _ => (HBl.out b o h).2))
          clear hbr HL HBl HB hb
          go_wp2_with fail
          refine (evRight_any e1 e2 e3 e4 _).mono ?_
          rintro e w2 ⟨rfl, rfl⟩
          go_wp2_with fail
          have HL2 := Lib.hid (HLr.out.below (w' := wr.alloc (.cells #[.int .i64 e1, .int .i64 e2, .int .i64 e3, .int .u64 e4] 49)) (by go_grown) (fun _ _ h => h))
          refine (Latest_sl own a' cap' _ HL2.out (by omega)).mono ?_
          rintro e w3 ⟨rfl, hb3⟩
          have hs3 := hb3.size
          simp at hs3
          have hB3 : Below w.heap.size w w3 := (HBr.out.alloc HBr.out.size _).trans (hb3.mono (by simp; omega))
          have HL3 := Lib.hid (HL2.out.below hb3 (fun _ _ h => h))
          have HB3 := Lib.hid hB3
          clear hB3 hb3 HLr HL2
          go_wp2_with fail
          refine (Labels_sl own a' cap' _ (HL3.out) (by omega)).mono ?_
          rintro e w4 ⟨rfl, hb4⟩
          have hB4 : Below w.heap.size w w4 := HB3.out.trans (hb4.mono (by omega))
          have HB4 := Lib.hid hB4
          clear hB4 hb4
          go_wp2_with fail
          refine (EventRuns_any _).mono ?_
          rintro e w5 ⟨rfl, hb5⟩
          go_wp2
          go_ret
          exact ⟨rfl, HB4.out.trans (hb5.mono HB4.out.size)⟩
theorem EventTells_row (w : World) (c0 : Array Value) (x0 : Ev) (h0 : isEv w c0.toList x0) (a1 : Option Addr) (cap1 : Nat) (l1 : List Ev) (le1 : l1.length ≤ cap1) (mx1 : cap1 ≤ maxLen) (nil1 : a1 = none → cap1 = 0) (h1 : SlAt 4 isEv w a1 l1) :
    Calls Try.prog 12 #[.agg c0, .slice a1 l1.length cap1] w fun e w' => e = .returned (.bool true) ∧ Below w.heap.size w w' := by
  rw [h0.agg]
  exact EventTells_walk _ _ _ _ a1 cap1 l1 w le1 mx1 nil1 (h1.imp fun cs x h => h.1)
end Go.Proofs.Ytgbbahgllpdjmaa
