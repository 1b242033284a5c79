/- Walks of package pipe's Right and what it calls. -/
import Derived.Test.YthegopajkljlmaaOper
import Derived.Test.YthegopajkljlmaaWindow
set_option linter.unusedVariables false
namespace Go.Proofs.Ythegopajkljlmaa
open Go.RowKit Go.Maps
def rightO (o : Opr) : Bool := if o.kind = 1 ∨ o.kind = 2 ∨ o.kind = 4 ∨ o.kind = 5 then true else if o.kind = 3 then decide (1 ≤ o.n) && decide (o.n ≤ 256) else if o.kind = 6 then decide (0 ≤ o.n) && decide (o.n ≤ 255) else false
theorem rightO_any (o : Opr) (w : World) : Calls Try.prog 70 #[.agg o.cells.toArray] w fun x w' => x = .returned (.bool (rightO o)) ∧ w' = w.alloc (.cells o.cells.toArray 92) := by
  obtain ⟨k, n⟩ := o
  simp only [Opr.cells]
  by_cases h : k = 1 ∨ k = 2 ∨ k = 4 ∨ k = 5
  · have he : rightO ⟨k, n⟩ = true := by simp [rightO, h]
    rw [he]
    clear he
    rcases h with rfl | rfl | rfl | rfl
    all_goals
      go_enter Try.func70, Try.ntmps70
      go_wp2
      go_ret
      exact ⟨rfl, rfl⟩
  · by_cases k3 : k = 3
    · subst k3
      have he : rightO ⟨3, n⟩ = (decide (1 ≤ n) && decide (n ≤ 256)) := by simp [rightO]
      rw [he]
      clear he h
      cases h1 : decide (1 ≤ n) <;> cases h2 : decide (n ≤ 256)
      all_goals
        go_enter Try.func70, Try.ntmps70
        go_wp2
        go_ret
        exact ⟨by simp, rfl⟩
    · by_cases k6 : k = 6
      · subst k6
        have he : rightO ⟨6, n⟩ = (decide (0 ≤ n) && decide (n ≤ 255)) := by simp [rightO]
        rw [he]
        clear he h
        cases h1 : decide (0 ≤ n) <;> cases h2 : decide (n ≤ 255)
        all_goals
          go_enter Try.func70, Try.ntmps70
          go_wp2
          go_ret
          exact ⟨by simp, rfl⟩
      · have he : rightO ⟨k, n⟩ = false := by simp [rightO, h, k3, k6]
        rw [he]
        clear he
        simp only [not_or] at h
        obtain ⟨k1, k2, k4, k5⟩ := h
        go_enter Try.func70, Try.ntmps70
        go_wp2
        go_ret
        exact ⟨rfl, rfl⟩
def rightOps (l : List Opr) : Bool := decide (l.length ≤ 6) && l.all rightO
theorem all_take {l : List Opr} {k : Nat} (hk : k < l.length) : (l.take (k + 1)).all rightO = ((l.take k).all rightO && rightO l[k]) := by
  rw [List.take_add_one, List.getElem?_eq_getElem hk, Option.toList_some, List.all_append]
  simp
set_option maxHeartbeats 1000000 in
theorem rightOps_any (a : Option Addr) (cap : Nat) (l : List Opr) (w : World) (hl : SlAt 2 (flat Opr.cells) w a l) (hmx : l.length ≤ maxLen) :
    Calls Try.prog 52 #[.slice a l.length cap] w fun x w' => x = .returned (.bool (rightOps l)) ∧ Below w.heap.size w w' := by
  unfold maxLen at hmx
  by_cases h6 : (l.length : Int) ≤ 6
  · have HL := Lib.hid hl
    clear hl
    go_enter Try.func52, Try.ntmps52
    go_wp2_with fail
    go_loopw [10] (fun iv wr => ∃ (k : Nat), k ≤ l.length ∧ iv = .int .i64 k ∧ (l.take k).all rightO = true ∧ Below w.heap.size w wr) (fun iv _ => l.length - (intOf iv).toNat)
    case atStart => exact ⟨0, by omega, rfl, rfl, Below.refl _ _⟩
    case round =>
      obtain ⟨k, hk, rfl, hall, hbel⟩ := hrel
      have HA := Lib.hid hall
      have HBEL := Lib.hid hbel
      have hsz := hbel.size
      clear hall hbel
      by_cases hlt : (k : Int) < l.length
      · have hkn : k < l.length := by omega
        obtain ⟨b, o, rfl, hbl, c0, c1⟩ := (HL.out.below (w' := wr) HBEL.out (fun _ _ h => h)).opAt k hkn
        have hsn := all_take hkn
        have hme := List.getElem_mem hkn
        rw [HA.out, Bool.true_and] at hsn
        rw [List.getElem?_eq_getElem hkn] at c0 c1
        simp only [Option.getD_some] at c0 c1
        have hfa : rightO l[k] = false → rightOps l = false := fun h => by
          unfold rightOps
          have : l.all rightO = false := List.all_eq_false.2 ⟨_, hme, by simp [h]⟩
          rw [this, Bool.and_false]
        generalize l[k] = op at *
        have HSN := Lib.hid hsn
        have HFA := Lib.hid hfa
        clear hsn hme hfa
        cases happ : rightO op with
        | false =>
          have HR := Lib.hid happ
          clear happ
          go_wp2_with (go_at_call 70; refine (rightO_any op _).mono ?_; rintro y w1 ⟨rfl, rfl⟩; rw [HR.out]; dsimp only [Opr.cells])
          go_ret
          exact ⟨by rw [HFA.out HR.out]; rfl, HBEL.out.trans (by go_grown)⟩
        | true =>
          have HR := Lib.hid happ
          clear happ
          go_wp2_with (go_at_call 70; refine (rightO_any op _).mono ?_; rintro y w1 ⟨rfl, rfl⟩; rw [HR.out]; dsimp only [Opr.cells])
          go_roundw
          case rel => exact ⟨k + 1, by omega, by go_num, HSN.out.trans HR.out, HBEL.out.trans (by go_grown)⟩
          case measure => simp [intOf]; omega
      · obtain rfl : k = l.length := by omega
        have hr := HA.out
        rw [List.take_length] at hr
        have hro : rightOps l = true := by unfold rightOps; simp [hr]; omega
        have HR := Lib.hid hro
        clear hr hro
        go_wp2
        go_ret
        exact ⟨by rw [HR.out]; rfl, HBEL.out⟩
  · have hro : rightOps l = false := by unfold rightOps; simp; omega
    rw [hro]
    clear hro hl
    go_enter Try.func52, Try.ntmps52
    go_wp2
    go_ret
    exact ⟨rfl, Below.refl _ _⟩
def rightK (k : Int) : Bool := decide (1 ≤ k) && decide (k ≤ 4)
theorem rightK_any (k : Int) (w : World) : Calls Try.prog 54 #[.int .i64 k] w fun x w' => x = .returned (.bool (rightK k)) ∧ w' = w := by
  unfold rightK
  by_cases h1 : 1 ≤ k <;> by_cases h2 : k ≤ 4
  all_goals
    go_enter Try.func54, Try.ntmps54
    go_wp2
    go_ret
    exact ⟨by simp [h1, h2], rfl⟩
def placeOk (n : Int) : Bool := (n == -1) || (decide (0 ≤ n) && decide (n < 4))
theorem place_any (n : Int) (w : World) : Calls Try.prog 55 #[.int .i64 n] w fun x w' => x = .returned (.bool (placeOk n)) ∧ w' = w := by
  unfold placeOk
  by_cases h0 : n = -1
  · subst h0
    go_enter Try.func55, Try.ntmps55
    go_wp2
    go_ret
    exact ⟨rfl, rfl⟩
  · have hb : (n == -1) = false := by simp [h0]
    by_cases h1 : 0 ≤ n <;> by_cases h2 : n < 4
    all_goals
      go_enter Try.func55, Try.ntmps55
      go_wp2
      go_ret
      exact ⟨by simp [h1, h2], rfl⟩
/-- A pipe. -/
structure Pp where
  ops : List Opr
  size : Int
  slide : Int
  agg : Int
  sink : Int
  feed : Int
deriving DecidableEq
def Pp.tail (p : Pp) : List Value := [.int .i64 p.size, .int .i64 p.slide, .int .i64 p.agg, .int .i64 p.sink, .int .i64 p.feed]
def rightPp (p : Pp) : Bool := rightOps p.ops && decide (rightW p.size p.slide) && rightK p.agg && placeOk p.sink && placeOk p.feed
set_option maxHeartbeats 400000 in
set_option maxRecDepth 20000 in
theorem rightPp_any (p : Pp) (a : Option Addr) (cap : Nat) (w : World) (hl : SlAt 2 (flat Opr.cells) w a p.ops) (hmx : p.ops.length ≤ maxLen) :
    Calls Try.prog 33 #[.agg #[.slice a p.ops.length cap, .int .i64 p.size, .int .i64 p.slide, .int .i64 p.agg, .int .i64 p.sink, .int .i64 p.feed]] w fun x w' => x = .returned (.bool (rightPp p)) ∧ Below w.heap.size w w' := by
  obtain ⟨ops, size, slide, ag, sink, feed⟩ := p
  dsimp only at hl hmx ⊢
  unfold rightPp
  dsimp only
  have HL := Lib.hid hl
  clear hl
  cases h1 : rightOps ops <;> cases h2 : decide (rightW size slide) <;> cases h3 : rightK ag <;> cases h4 : placeOk sink
  all_goals
    have H1 := Lib.hid h1
    have H2 := Lib.hid h2
    have H3 := Lib.hid h3
    have H4 := Lib.hid h4
    clear h1 h2 h3 h4
    go_enter Try.func33, Try.ntmps33
    go_wp2_with (first
      | (go_at_call 52; refine (rightOps_any a cap ops _ (HL.out.below ((Below.refl _ w).alloc (Nat.le_refl _) _) (fun _ _ h => h)) hmx).mono ?_; rintro x w1 ⟨rfl, hb⟩; rw [H1.out]; obtain ⟨q1, z1⟩ := blkCells ((hb.block w.heap.size (by simp)).trans (heap_new _ _)); have hs1 := hb.size; simp only [World.size_alloc] at hs1; have hs2 : w.heap.size < w1.heap.size := (by omega); have HB := Lib.hid hb; clear hb)
      | (go_at_call 53; refine (right_any size slide _).mono ?_; rintro x w2 ⟨rfl, rfl⟩; rw [H2.out])
      | (go_at_call 54; refine (rightK_any ag _).mono ?_; rintro x w2 ⟨rfl, rfl⟩; rw [H3.out])
      | (go_at_call 55; refine (place_any _ _).mono ?_; rintro x w2 ⟨rfl, rfl⟩; try rw [H4.out]))
    go_ret
    exact ⟨by simp, ((Below.refl _ w).alloc (Nat.le_refl _) _).trans (HB.out.mono (by simp))⟩
end Go.Proofs.Ythegopajkljlmaa
