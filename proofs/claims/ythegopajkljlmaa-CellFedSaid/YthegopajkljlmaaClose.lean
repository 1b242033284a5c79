/- Walks of package panes: places, row, Close, Open, Len, Copy. -/
import Derived.Test.YthegopajkljlmaaPanes
import Derived.Test.YthegopajkljlmaaSorted
import Derived.Deep.RegionHeld3
import Derived.Deep.CutRange
set_option linter.unusedVariables false
namespace Go.Proofs.Ythegopajkljlmaa
open Go.RowKit Go.Maps
set_option maxRecDepth 20000 in
theorem places_any (pb mb : Nat) (sz sl kd : Int) (L : PL) (w : World) (hP : PanesAt w pb mb sz sl kd L) (hN : L.length ≤ 2 ^ 40) :
    Calls Try.prog 48 #[.pointer (some ⟨pb, 0, none⟩)] w fun e w' => ∃ (a : Option Addr) (cap : Nat), e = .returned (.slice a L.length cap) ∧ L.length ≤ cap ∧ cap ≤ maxLen ∧ (a = none → cap = 0) ∧ SlAt 2 (flat cellsP) w' a (L.map (·.1)) ∧ (∀ b o, a = some ⟨b, o, none⟩ → w.heap.size ≤ b) ∧ Below w.heap.size w w' := by
  obtain ⟨D, n, hown, hD⟩ := hP.2
  have hlt := hP.lt
  have hml := hP.2.lt
  have m0 : w.cell? ⟨pb, 3, none⟩ = some (.map (some mb)) := by simp [World.cell?, hP.1]
  have hsz : Maps.size D ≤ 2 ^ 40 := by rw [hD.2.2.2]; exact hN
  have hC : ∀ ss, PlacesOf D ss → ss.length ≤ 2 ^ 40 := fun ss h => by rw [hD.places_len h]; exact hN
  have HO := Lib.hid hown
  have HD := Lib.hid hD
  have HC := Lib.hid hC
  clear hown hD hP hC
  go_enter Try.func48, Try.ntmps48
  go_wp2_with (first
    | (go_at_call 64; refine (keys_any _ _).mono ?_; rintro e w1 ⟨rfl, rfl⟩)
    | (go_at_call 63; refine (sorted_places w.heap.size mb n D _ (by simp) (by simp [go_sem]) (HO.out.alloc _) hsz HC.out).mono ?_; rintro e w2 ⟨a, cap, ss, rfl, hp, hs, hcap, hmax, hnil, hss, hblk, hb⟩))
  go_ret
  have e : ss = L.map (·.1) := HD.out.places hp hs
  subst e
  rw [List.length_map] at hcap ⊢
  exact ⟨a, cap, rfl, hcap, hmax, hnil, hss, fun b o h => by have := hblk b o h; simp at this; omega, Below.trans (by go_grown) (hb.mono (by simp))⟩
def rowOf (p : Pl) (x : Pn) : Rw := ⟨p.1.1, p.1.2, x.v, x.c, x.l⟩
theorem look1_run {w : World} {mb : Nat} {L : PL} (h : MapAt w mb L) (p : Pl) : (Instr.lookup 102 (.map (some mb)) (encP p) false).run Try.prog w = .ok (encPn ((lookL L p).getD Pn.zero)) w := by
  obtain ⟨D, n, h1, h2⟩ := h
  obtain ⟨v, ps, hr, hv⟩ := h1.lookup placeKeyed Try.underlying102 (pane_zero_run w) elemPn_zero (keyOf_place p)
  obtain ⟨x, rfl, hx, hz⟩ := elemPn_inv hv
  have hd := congrArg Prod.fst hz
  rw [h2.at_look p Pn.zero] at hd
  rw [hr, dPn_inj hd]
theorem row_any (pb mb : Nat) (sz sl kd : Int) (L : PL) (p : Pl) (w : World) (hP : PanesAt w pb mb sz sl kd L) :
    Calls Try.prog 49 #[.pointer (some ⟨pb, 0, none⟩), encP p] w fun e w' => e = .returned (.agg (rowOf p ((lookL L p).getD Pn.zero)).cells.toArray) ∧ Below w.heap.size w w' := by
  have hlt := hP.lt
  have hml := hP.2.lt
  have m0 : w.cell? ⟨pb, 3, none⟩ = some (.map (some mb)) := by simp [World.cell?, hP.1]
  have HP := Lib.hid hP
  clear hP
  obtain ⟨⟨a, b⟩, ha, hb⟩ := p
  simp only [encP]
  go_enter Try.func49, Try.ntmps49
  go_wp2
  obtain ⟨w1, hw1⟩ : ∃ y, y = ((w.alloc (.cells #[.int .i64 a, .int .i64 b] 100)).alloc (.cells #[.int .i64 0, .int .i64 0, .int .i64 0, .int .i64 0, .int .u64 0] 43)) := ⟨_, rfl⟩
  rw [← hw1]
  have hb1 : Below w.heap.size w w1 := by rw [hw1]; go_grown
  have hs1 : w1.heap.size = w.heap.size + 2 := by rw [hw1]; simp
  have m1 : w1.cell? ⟨pb, 3, none⟩ = some (.map (some mb)) := (hb1.cell (p := ⟨pb, 3, none⟩) hlt).trans m0
  have hp1 : w1.heap[w.heap.size]? = some (.cells #[.int .i64 a, .int .i64 b] 100 (0, 0)) := by
    rw [hw1]; exact ((((Below.refl _ _).alloc (Nat.le_refl _) _).block w.heap.size (by simp))).trans (new_at _ _ _ rfl)
  have hr1 : w1.heap[w.heap.size + 1]? = some (.cells #[.int .i64 0, .int .i64 0, .int .i64 0, .int .i64 0, .int .u64 0] 43 (0, 0)) := by
    rw [hw1]; exact new_at _ _ _ (by simp)
  have q0 : w1.cell? ⟨w.heap.size, 0, none⟩ = some (.int .i64 a) := by simp [World.cell?, hp1]
  have q1 : w1.cell? ⟨w.heap.size, 1, none⟩ = some (.int .i64 b) := by simp [World.cell?, hp1]
  have HP1 := Lib.hid (HP.out.below hb1 hlt hml)
  have hlk := look1_run (w := w1.drew) (HP1.out.2.same rfl) ⟨(a, b), ha, hb⟩
  have hlk2 := look1_run (w := (w1.alloc (.cells #[.int .i64 0, .int .i64 0, .int .i64 0, .int .u64 0] 123)).drew) (HP1.out.2.same (((Below.refl _ w1).alloc (Nat.le_refl _) _).block mb (by omega))) ⟨(a, b), ha, hb⟩
  obtain ⟨y, hy⟩ : ∃ y, y = (lookL L ⟨(a, b), ha, hb⟩).getD Pn.zero := ⟨_, rfl⟩
  rw [← hy] at hlk hlk2
  have HYY := Lib.hid hy
  clear hy
  obtain ⟨yc, yk, yv, yl⟩ := y
  simp only [encPn, encP] at hlk hlk2
  have HB1 := Lib.hid hb1
  have HR1 := Lib.hid hr1
  have HQ1 := Lib.hid hp1
  clear hw1 hb1 hp1 hr1 m0
  generalize hg : w.heap.size = g at *
  have HGG := Lib.hid hg
  clear hg
  go_cut [5] from 5 to 11 (fun u wx => u = .pointer (some ⟨g + 2, 0, none⟩) ∧ wx.heap[g + 2]? = some (.cells #[.int .i64 yc, .int .i64 yk, .int .i64 yv, .int .u64 yl] 123 (0, 0)) ∧ Below w1.heap.size w1 wx)
  case first =>
    go_region_held3 (fun w' => w'.heap[mb]? = w1.heap[mb]? ∧ w'.cell? ⟨pb, 3, none⟩ = some (.map (some mb)) ∧ w'.cell? ⟨g, 0, none⟩ = some (.int .i64 a) ∧ w'.cell? ⟨g, 1, none⟩ = some (.int .i64 b)) (first | exact ⟨rfl, m1, q0, q1⟩ | assumption | exact ⟨Below.block (B := w1.heap.size) (w := w1) (by go_grown) mb (by omega), (Below.cell (B := w1.heap.size) (w := w1) (p := ⟨pb, 3, none⟩) (by go_grown) (by show pb < _; omega)).trans m1, (Below.cell (B := w1.heap.size) (w := w1) (p := ⟨g, 0, none⟩) (by go_grown) (by show g < _; omega)).trans q0, (Below.cell (B := w1.heap.size) (w := w1) (p := ⟨g, 1, none⟩) (by go_grown) (by show g < _; omega)).trans q1⟩) (fail)
    all_goals
      go_wp2
      go_meet
      exact ⟨rfl, new_at _ _ _ hs1.symm, by go_grown⟩
  case rest =>
    obtain ⟨rfl, hx, hb2⟩ := hcut
    have hs2 := (Array.getElem?_eq_some_iff.1 hx).1
    have hr2 := (hb2.block (g + 1) (by omega)).trans HR1.out
    have hq2 := (hb2.block g (by omega)).trans HQ1.out
    have x0 : wc.cell? ⟨g + 2, 0, none⟩ = some (.int .i64 yc) := by simp [World.cell?, hx]
    have x2 : wc.cell? ⟨g + 2, 2, none⟩ = some (.int .i64 yv) := by simp [World.cell?, hx]
    have x3 : wc.cell? ⟨g + 2, 3, none⟩ = some (.int .u64 yl) := by simp [World.cell?, hx]
    have c0 : wc.cell? ⟨g + 1, 0, none⟩ = some (.int .i64 0) := by simp [World.cell?, hr2]
    have f0 : wc.frozen? ⟨g + 1, 0, none⟩ = false := by simp [World.frozen?, hr2]
    have c1 : wc.cell? ⟨g + 1, 1, none⟩ = some (.int .i64 0) := by simp [World.cell?, hr2]
    have f1 : wc.frozen? ⟨g + 1, 1, none⟩ = false := by simp [World.frozen?, hr2]
    have c2 : wc.cell? ⟨g + 1, 2, none⟩ = some (.int .i64 0) := by simp [World.cell?, hr2]
    have f2 : wc.frozen? ⟨g + 1, 2, none⟩ = false := by simp [World.frozen?, hr2]
    have c3 : wc.cell? ⟨g + 1, 3, none⟩ = some (.int .i64 0) := by simp [World.cell?, hr2]
    have f3 : wc.frozen? ⟨g + 1, 3, none⟩ = false := by simp [World.frozen?, hr2]
    have c4 : wc.cell? ⟨g + 1, 4, none⟩ = some (.int .u64 0) := by simp [World.cell?, hr2]
    have f4 : wc.frozen? ⟨g + 1, 4, none⟩ = false := by simp [World.frozen?, hr2]
    have hs3 : g + 1 < wc.heap.size := by omega
    have z0 : wc.cell? ⟨g, 0, none⟩ = some (.int .i64 a) := by simp [World.cell?, hq2]
    have z1 : wc.cell? ⟨g, 1, none⟩ = some (.int .i64 b) := by simp [World.cell?, hq2]
    have hb3 := HB1.out.trans (hb2.mono (by omega))
    have HB3 := Lib.hid hb3
    clear hb3 hb2 hx hq2 hlk hlk2
    have HR2 := Lib.hid hr2
    clear hr2
    go_wp2
    obtain ⟨w3, hw3⟩ : ∃ y, y = (((((wc.setCell ⟨g + 1, 0, none⟩ (.int .i64 a)).setCell ⟨g + 1, 1, none⟩ (.int .i64 b)).setCell ⟨g + 1, 2, none⟩ (.int .i64 yv)).setCell ⟨g + 1, 3, none⟩ (.int .i64 yc)).setCell ⟨g + 1, 4, none⟩ (.int .u64 yl)) := ⟨_, rfl⟩
    rw [← hw3]
    have hr3 : w3.heap[g + 1]? = some (.cells #[.int .i64 a, .int .i64 b, .int .i64 yv, .int .i64 yc, .int .u64 yl] 43 (0, 0)) := by
      rw [hw3]
      exact heap_setCell_row (heap_setCell_row (heap_setCell_row (heap_setCell_row (heap_setCell_row HR2.out 0 _) 1 _) 2 _) 3 _) 4 _
    have hb4 : Below g w w3 := by
      have := HB3.out
      rw [hw3]
      go_grown
    have c0 : w3.cell? ⟨g + 1, 0, none⟩ = some (.int .i64 a) := by simp [World.cell?, hr3]
    have c1 : w3.cell? ⟨g + 1, 1, none⟩ = some (.int .i64 b) := by simp [World.cell?, hr3]
    have c2 : w3.cell? ⟨g + 1, 2, none⟩ = some (.int .i64 yv) := by simp [World.cell?, hr3]
    have c3 : w3.cell? ⟨g + 1, 3, none⟩ = some (.int .i64 yc) := by simp [World.cell?, hr3]
    have c4 : w3.cell? ⟨g + 1, 4, none⟩ = some (.int .u64 yl) := by simp [World.cell?, hr3]
    refine bodyPost_ret (v := .agg #[.int .i64 a, .int .i64 b, .int .i64 yv, .int .i64 yc, .int .u64 yl]) ?_ rfl ⟨?_, HGG.out.symm ▸ hb4⟩
    · simp [results, go_sem, c0, c1, c2, c3, c4]
    · rw [← HYY.out]; rfl
end Go.Proofs.Ythegopajkljlmaa
