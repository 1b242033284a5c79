/- Walks of reach.in, reach.May. -/
import Derived.Test.YtdncpihaeobaeaaGreatTick
set_option linter.unusedVariables false
set_option linter.unusedSimpArgs false
namespace Go.Proofs.YtdncpihaeobaeaaGreat
open Go.RowKit
set_option maxHeartbeats 2000000 in
theorem in_fr (id pl : Int) (l : List Sk) (a : Option Addr) (cap : Nat) (w : World) (hl : SlAt 5 (flat Sk.cells) w a l) (hlen : l.length ≤ 1099511627776)  : Calls Tryz.prog 119 #[.int .i64 id, .int .i64 pl, .slice a l.length cap, .func (.func 117) #[] #[]] w fun x w' => x = .returned (.bool (inB id pl l Sk.fr)) ∧ Below w.heap.size w w' := by
  unfold inB
  by_cases h1 : pl = -1
  · subst h1
    rw [if_pos rfl]
    clear hl
    go_enter Tryz.func119, Tryz.ntmps119
    go_wp2
    go_ret
    exact ⟨rfl, Below.refl _ _⟩
  · rw [if_neg h1]
    by_cases h2 : 0 ≤ pl
    · obtain ⟨u, rfl⟩ : ∃ u : Nat, pl = u := ⟨pl.toNat, by omega⟩
      by_cases h3 : u < l.length
      · obtain ⟨b, o, rfl, hbl, c0, c1, c2, c3, c4⟩ := hl.skAt u h3
        rw [Int.toNat_natCast]
        generalize l.getD u Sk.zero = s at *
        have h4 : (u : Int) < l.length := by omega
        have HF := Lib.hid fun w' => fr_any s w'
        have e : (decide (0 ≤ (u : Int)) && decide ((u : Int) < l.length)) = true := by simp; omega
        rw [e, Bool.true_and]
        clear hl e
        go_enter Tryz.func119, Tryz.ntmps119
        go_wp2_with (first
          | (go_at_call 117; (with_reducible refine (HF.out _).mono ?_); rintro e w1 ⟨rfl, hb⟩; have HB := Lib.hid hb; clear hb)
          | (go_at_call 124; (with_reducible refine (has_any _ _ _).mono ?_); rintro e w1 ⟨rfl, rfl⟩))
        go_ret
        exact ⟨rfl, HB.out⟩
      · have h4 : ¬ ((u : Int) < l.length) := by omega
        have e : (decide (0 ≤ (u : Int)) && decide ((u : Int) < l.length)) = false := by simp; omega
        rw [e, Bool.false_and]
        clear hl e
        go_enter Tryz.func119, Tryz.ntmps119
        go_wp2
        go_ret
        exact ⟨rfl, Below.refl _ _⟩
    · have e : decide (0 ≤ pl) = false := by simp; omega
      rw [e, Bool.false_and, Bool.false_and]
      clear hl e
      go_enter Tryz.func119, Tryz.ntmps119
      go_wp2
      go_ret
      exact ⟨rfl, Below.refl _ _⟩
set_option maxHeartbeats 2000000 in
theorem in_to (id pl : Int) (l : List Sk) (a : Option Addr) (cap : Nat) (w : World) (hl : SlAt 5 (flat Sk.cells) w a l) (hlen : l.length ≤ 1099511627776)  : Calls Tryz.prog 119 #[.int .i64 id, .int .i64 pl, .slice a l.length cap, .func (.func 118) #[] #[]] w fun x w' => x = .returned (.bool (inB id pl l Sk.dst)) ∧ Below w.heap.size w w' := by
  unfold inB
  by_cases h1 : pl = -1
  · subst h1
    rw [if_pos rfl]
    clear hl
    go_enter Tryz.func119, Tryz.ntmps119
    go_wp2
    go_ret
    exact ⟨rfl, Below.refl _ _⟩
  · rw [if_neg h1]
    by_cases h2 : 0 ≤ pl
    · obtain ⟨u, rfl⟩ : ∃ u : Nat, pl = u := ⟨pl.toNat, by omega⟩
      by_cases h3 : u < l.length
      · obtain ⟨b, o, rfl, hbl, c0, c1, c2, c3, c4⟩ := hl.skAt u h3
        rw [Int.toNat_natCast]
        generalize l.getD u Sk.zero = s at *
        have h4 : (u : Int) < l.length := by omega
        have HF := Lib.hid fun w' => to_any s w'
        have e : (decide (0 ≤ (u : Int)) && decide ((u : Int) < l.length)) = true := by simp; omega
        rw [e, Bool.true_and]
        clear hl e
        go_enter Tryz.func119, Tryz.ntmps119
        go_wp2_with (first
          | (go_at_call 118; (with_reducible refine (HF.out _).mono ?_); rintro e w1 ⟨rfl, hb⟩; have HB := Lib.hid hb; clear hb)
          | (go_at_call 124; (with_reducible refine (has_any _ _ _).mono ?_); rintro e w1 ⟨rfl, rfl⟩))
        go_ret
        exact ⟨rfl, HB.out⟩
      · have h4 : ¬ ((u : Int) < l.length) := by omega
        have e : (decide (0 ≤ (u : Int)) && decide ((u : Int) < l.length)) = false := by simp; omega
        rw [e, Bool.false_and]
        clear hl e
        go_enter Tryz.func119, Tryz.ntmps119
        go_wp2
        go_ret
        exact ⟨rfl, Below.refl _ _⟩
    · have e : decide (0 ≤ pl) = false := by simp; omega
      rw [e, Bool.false_and, Bool.false_and]
      clear hl e
      go_enter Tryz.func119, Tryz.ntmps119
      go_wp2
      go_ret
      exact ⟨rfl, Below.refl _ _⟩
set_option maxHeartbeats 2000000 in
theorem may_any (id : Int) (p : Pp) (oa : Option Addr) (oc : Nat) (l : List Sk) (a : Option Addr) (cap : Nat) (w : World) (ho : SlAt 2 (flat Opr.cells) w oa p.ops) (hom : p.ops.length ≤ maxLen) (hl : SlAt 5 (flat Sk.cells) w a l) (hlen : l.length ≤ 1099511627776) :
    Calls Tryz.prog 95 #[.int .i64 id, .agg #[.slice oa p.ops.length oc, .int .i64 p.size, .int .i64 p.slide, .int .i64 p.agg, .int .i64 p.sink, .int .i64 p.feed], .slice a l.length cap] w fun x w' => x = .returned (.bool (mayB id p l)) ∧ Below w.heap.size w w' := by
  unfold mayB
  have hal := (Below.refl w.heap.size w).alloc (Nat.le_refl _) (.cells #[.slice oa p.ops.length oc, .int .i64 p.size, .int .i64 p.slide, .int .i64 p.agg, .int .i64 p.sink, .int .i64 p.feed] 61)
  have HAL := Lib.hid hal
  have HRP := Lib.hid (rightPp_any p oa oc _ (ho.below hal (fun _ _ h => h)) hom)
  have HL := Lib.hid hl
  have HIF := Lib.hid fun (w' : World) (hb : Below w.heap.size w w') => in_fr id p.sink l a cap w' (HL.out.below hb (fun _ _ h => h)) hlen
  have HIT := Lib.hid fun (w' : World) (hb : Below w.heap.size w w') => in_to id p.feed l a cap w' (HL.out.below hb (fun _ _ h => h)) hlen
  have h0 : (w.alloc (.cells #[.slice oa p.ops.length oc, .int .i64 p.size, .int .i64 p.slide, .int .i64 p.agg, .int .i64 p.sink, .int .i64 p.feed] 61)).heap[w.heap.size]? = some (.cells #[.slice oa p.ops.length oc, .int .i64 p.size, .int .i64 p.slide, .int .i64 p.agg, .int .i64 p.sink, .int .i64 p.feed] 61 (0, 0)) := heap_new _ _
  have HNW := Lib.hid h0
  clear ho hom hl hlen hal h0
  by_cases h1 : id < 0
  · have e : decide (0 ≤ id) = false := by simp; omega
    rw [e]
    simp only [Bool.false_and]
    clear e
    go_enter Tryz.func95, Tryz.ntmps95
    go_wp2
    go_ret
    exact ⟨rfl, HAL.out⟩
  · by_cases h2 : 8 ≤ id
    · have e : decide (id < 8) = false := by simp; omega
      rw [e]
      simp only [Bool.false_and, Bool.and_false]
      clear e
      go_enter Tryz.func95, Tryz.ntmps95
      go_wp2
      go_ret
      exact ⟨rfl, HAL.out⟩
    · have e : (decide (0 ≤ id) && decide (id < 8)) = true := by simp; omega
      rw [e, Bool.true_and]
      clear e
      cases h3 : rightPp p with
      | false =>
        have H3 := Lib.hid h3
        clear h3
        simp only [Bool.false_and]
        go_enter Tryz.func95, Tryz.ntmps95
        go_wp2_with (go_at_call 80; (with_reducible refine HRP.out.mono ?_); rintro y w1 ⟨rfl, hb⟩; rw [H3.out]; have HB := Lib.hid hb; clear hb)
        go_ret
        exact ⟨rfl, HAL.out.trans (HB.out.mono (by simp))⟩
      | true =>
        have H3 := Lib.hid h3
        clear h3
        rw [Bool.true_and]
        cases h4 : inB id p.sink l Sk.fr with
        | false =>
          have H4 := Lib.hid h4
          clear h4
          simp only [Bool.false_and]
          go_enter Tryz.func95, Tryz.ntmps95
          go_wp2_with (first
            | (go_at_call 80; (with_reducible refine HRP.out.mono ?_); rintro y w1 ⟨rfl, hb⟩; rw [H3.out]; have hb1 := HAL.out.trans (hb.mono (by simp)); obtain ⟨m0, m1, m2, m3, m4, m5⟩ := cells6 HNW.out hb; have hsz := hb.size; simp only [World.size_alloc] at hsz; have HB := Lib.hid hb1; clear hb hb1)
            | (go_at_call 119; (with_reducible refine (HIF.out _ HB.out).mono ?_); rintro y w2 ⟨rfl, hb⟩; rw [H4.out]; have HB2 := Lib.hid hb; clear hb))
          go_ret
          exact ⟨rfl, HB.out.trans (HB2.out.mono (by omega))⟩
        | true =>
          have H4 := Lib.hid h4
          clear h4
          rw [Bool.true_and]
          go_enter Tryz.func95, Tryz.ntmps95
          go_wp2_with (first
            | (go_at_call 80; (with_reducible refine HRP.out.mono ?_); rintro y w1 ⟨rfl, hb⟩; rw [H3.out]; have hb1 := HAL.out.trans (hb.mono (by simp)); obtain ⟨m0, m1, m2, m3, m4, m5⟩ := cells6 HNW.out hb; have hsz := hb.size; simp only [World.size_alloc] at hsz; have HB := Lib.hid hb1; have HBW := Lib.hid hb; clear hb hb1)
            | (go_at_call 119; (with_reducible refine (HIF.out _ HB.out).mono ?_); rintro y w2 ⟨rfl, hb⟩; rw [H4.out]; have hb2 := HB.out.trans (hb.mono (by omega)); have hn5 := (cells6 HNW.out (HBW.out.trans (hb.mono HBW.out.size))).2.2.2.2.2; have hsz2 := hb.size; have HB2 := Lib.hid hb2; clear hb hb2 HB)
            | (go_at_call 119; (with_reducible refine (HIT.out _ HB2.out).mono ?_); rintro y w3 ⟨rfl, hb⟩; have HB3 := Lib.hid hb; clear hb))
          go_ret
          exact ⟨rfl, HB2.out.trans (HB3.out.mono (by omega))⟩
end Go.Proofs.YtdncpihaeobaeaaGreat
