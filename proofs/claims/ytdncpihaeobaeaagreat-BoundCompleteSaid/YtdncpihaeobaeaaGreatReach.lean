/- Walks of package reach. -/
import Derived.Test.YtdncpihaeobaeaaGreatAggW
set_option linter.unusedVariables false
set_option linter.unusedSimpArgs false
namespace Go.Proofs.YtdncpihaeobaeaaGreat
open Go.RowKit
theorem decEq0 (x : Int) : (x == 0) = decide (x = 0) := by
  cases h : decide (x = 0) <;> simp_all
set_option maxHeartbeats 2000000 in
set_option maxRecDepth 20000 in
theorem rightSk_any (s : Sk) (w : World) : Calls Tryz.prog 93 #[.agg #[.int .u64 s.fr, .int .u64 s.dst, .int .i64 s.least, .int .i64 s.agg, .int .i64 s.ticks]] w fun x w' => x = .returned (.bool (rightSk s)) ∧ Below w.heap.size w w' := by
  obtain ⟨f, t, l, k, n⟩ := s
  dsimp only
  unfold rightSk
  dsimp only
  by_cases h0 : f = 0
  · subst h0
    go_enter Tryz.func93, Tryz.ntmps93
    go_wp2
    go_ret
    exact ⟨rfl, (Below.refl _ w).alloc (Nat.le_refl _) _⟩
  · have hf0 : (f == 0) = false := by simp [h0]
    rw [hf0]
    cases h1 : belowB (bits .or .u64 (bits .or .u64 0 f) t) 255 with
    | false =>
      have H1 := Lib.hid h1
      clear h1
      go_enter Tryz.func93, Tryz.ntmps93
      go_wp2_with (first
        | (go_at_call 116; (with_reducible refine (join_two f t _ _ (by simp [go_sem]) (by simp [go_sem])).mono ?_); rintro e w1 ⟨rfl, rfl⟩)
        | (go_at_call 115; (with_reducible refine (below_any _ _ _).mono ?_); rintro e w1 ⟨rfl, rfl⟩; rw [H1.out]))
      go_ret
      exact ⟨rfl, ((Below.refl _ w).alloc (Nat.le_refl _) _).alloc (by simp) _⟩
    | true =>
      have H1 := Lib.hid h1
      clear h1
      cases h2 : decide (2 ≤ l) <;> cases h3 : decide (l ≤ 8) <;> cases h4 : rightK k <;> cases h5 : decide (1 ≤ n) <;> cases h6 : decide (n ≤ 100)
      all_goals
        have H4 := Lib.hid h4
        clear h4
        go_enter Tryz.func93, Tryz.ntmps93
        go_wp2_with (first
          | (go_at_call 116; (with_reducible refine (join_two f t _ _ (by simp [go_sem]) (by simp [go_sem])).mono ?_); rintro e w1 ⟨rfl, rfl⟩)
          | (go_at_call 115; (with_reducible refine (below_any _ _ _).mono ?_); rintro e w1 ⟨rfl, rfl⟩; rw [H1.out])
          | (go_at_call 106; (with_reducible refine (rightK_any k _).mono ?_); rintro x w2 ⟨rfl, rfl⟩; rw [H4.out]))
        go_ret
        exact ⟨rfl, ((Below.refl _ w).alloc (Nat.le_refl _) _).alloc (by simp) _⟩
theorem fr_any (s : Sk) (w : World) : Calls Tryz.prog 117 #[.agg #[.int .u64 s.fr, .int .u64 s.dst, .int .i64 s.least, .int .i64 s.agg, .int .i64 s.ticks]] w fun x w' => x = .returned (.int .u64 s.fr) ∧ Below w.heap.size w w' := by
  go_enter Tryz.func117, Tryz.ntmps117
  go_wp2
  go_ret
  exact ⟨rfl, (Below.refl _ w).alloc (Nat.le_refl _) _⟩
theorem to_any (s : Sk) (w : World) : Calls Tryz.prog 118 #[.agg #[.int .u64 s.fr, .int .u64 s.dst, .int .i64 s.least, .int .i64 s.agg, .int .i64 s.ticks]] w fun x w' => x = .returned (.int .u64 s.dst) ∧ Below w.heap.size w w' := by
  go_enter Tryz.func118, Tryz.ntmps118
  go_wp2
  go_ret
  exact ⟨rfl, (Below.refl _ w).alloc (Nat.le_refl _) _⟩
theorem gives_any (r : Rw) (s : Sk) (w : World) : Calls Tryz.prog 139 #[.agg #[.int .i64 r.start, .int .i64 r.key, .int .i64 r.value, .int .i64 r.count, .int .u64 r.label], .agg #[.int .u64 s.fr, .int .u64 s.dst, .int .i64 s.least, .int .i64 s.agg, .int .i64 s.ticks]] w fun x w' => x = .returned (.bool (belowB r.label s.fr)) ∧ Below w.heap.size w w' := by
  go_enter Tryz.func139, Tryz.ntmps139
  go_wp2_with (go_at_call 115; (with_reducible refine (below_any _ _ _).mono ?_); rintro e w1 ⟨rfl, rfl⟩)
  go_ret
  exact ⟨rfl, ((Below.refl _ w).alloc (Nat.le_refl _) _).alloc (by simp) _⟩
theorem SlAt.skAt {w : World} {a : Option Addr} {l : List Sk} (h : SlAt 5 (flat Sk.cells) w a l) (i : Nat) (hi : i < l.length) : ∃ b o, a = some ⟨b, o, none⟩ ∧ b < w.heap.size ∧
    w.cell? ⟨b, o + i * 5, none⟩ = some (.int .u64 (l.getD i Sk.zero).fr) ∧ w.cell? ⟨b, o + i * 5 + 1, none⟩ = some (.int .u64 (l.getD i Sk.zero).dst) ∧ w.cell? ⟨b, o + i * 5 + 2, none⟩ = some (.int .i64 (l.getD i Sk.zero).least) ∧ w.cell? ⟨b, o + i * 5 + 3, none⟩ = some (.int .i64 (l.getD i Sk.zero).agg) ∧ w.cell? ⟨b, o + i * 5 + 4, none⟩ = some (.int .i64 (l.getD i Sk.zero).ticks) := by
  rcases h with rfl | ⟨b, o, rfl, hlt, h⟩
  · simp at hi
  · obtain ⟨cs, h1, h2, rfl⟩ := h i hi
    have e : l.getD i Sk.zero = l[i] := by simp [List.getD_eq_getElem?_getD, List.getElem?_eq_getElem hi]
    rw [e]
    exact ⟨b, o, rfl, hlt, h2 0 (by omega), h2 1 (by omega), h2 2 (by omega), h2 3 (by omega), h2 4 (by omega)⟩
theorem allSk_take {l : List Sk} {i : Nat} (h : i < l.length) : (l.take (i + 1)).all rightSk = ((l.take i).all rightSk && rightSk l[i]) := by
  rw [List.take_add_one, List.getElem?_eq_getElem h, Option.toList_some, List.all_append]
  simp
set_option maxHeartbeats 2000000 in
set_option maxRecDepth 20000 in
theorem rightSks_any (l : List Sk) (a : Option Addr) (cap : Nat) (w : World) (hl : SlAt 5 (flat Sk.cells) w a l) (hlen : l.length ≤ 1099511627776) : Calls Tryz.prog 69 #[.slice a l.length cap] w fun x w' => x = .returned (.bool (rightSks l)) ∧ Below w.heap.size w w' := by
  have HL := Lib.hid hl
  clear hl
  go_enter Tryz.func69, Tryz.ntmps69
  go_wp2_with fail
  go_loopw [7] (fun iv wr => ∃ k : Nat, k ≤ l.length ∧ iv = .int .i64 k ∧ (l.take k).all rightSk = true ∧ Below w.heap.size w wr) (fun iv _ => l.length - (intOf iv).toNat)
  case atStart => exact ⟨0, by omega, rfl, rfl, Below.refl _ _⟩
  case round =>
    obtain ⟨k, hk, rfl, hall, hbel⟩ := hrel
    have HA := Lib.hid hall
    have HBEL := Lib.hid hbel
    have hsz := hbel.size
    clear hall hbel
    by_cases hlt : (k : Int) < l.length
    · have hkn : k < l.length := by omega
      obtain ⟨b, o, rfl, hbl, c0, c1, c2, c3, c4⟩ := (HL.out.below (w' := wr) HBEL.out (fun _ _ h => h)).skAt k hkn
      have hsn := allSk_take hkn
      have e : l.getD k Sk.zero = l[k] := by simp [List.getD_eq_getElem?_getD, List.getElem?_eq_getElem hkn]
      rw [e] at c0 c1 c2 c3 c4
      rw [HA.out, Bool.true_and] at hsn
      have hfa : rightSk l[k] = false → rightSks l = false := fun h => by
        unfold rightSks
        have : l.all rightSk = false := List.all_eq_false.2 ⟨_, List.getElem_mem hkn, by simp [h]⟩
        rw [this, Bool.false_and]
      generalize l[k] = s at *
      have HSN := Lib.hid hsn
      have HFA := Lib.hid hfa
      clear hsn hfa e
      have HC := Lib.hid fun w' => rightSk_any s w'
      cases happ : rightSk s with
      | false =>
        have HR := Lib.hid happ
        clear happ
        go_wp2_with (go_at_call 93; (with_reducible refine (HC.out _).mono ?_); rintro y w1 ⟨rfl, hb⟩; rw [HR.out]; have HB := Lib.hid hb; clear hb)
        go_ret
        exact ⟨by rw [HFA.out HR.out]; rfl, HBEL.out.trans ((((Below.refl _ wr).alloc (Nat.le_refl _) _).trans (HB.out.mono (by simp))).mono hsz)⟩
      | true =>
        have HR := Lib.hid happ
        clear happ
        go_wp2_with (go_at_call 93; (with_reducible refine (HC.out _).mono ?_); rintro y w1 ⟨rfl, hb⟩; rw [HR.out]; have HB := Lib.hid hb; clear hb)
        go_roundw
        case rel => exact ⟨k + 1, by omega, by go_num, HSN.out.trans HR.out, HBEL.out.trans ((((Below.refl _ wr).alloc (Nat.le_refl _) _).trans (HB.out.mono (by simp))).mono hsz)⟩
        case measure => simp [intOf]; omega
    · obtain rfl : k = l.length := by omega
      have hr := HA.out
      rw [List.take_length] at hr
      have hro : rightSks l = decide (l.length ≤ 4) := by unfold rightSks; rw [hr]; rfl
      have HR := Lib.hid hro
      clear hr hro
      go_wp2
      go_ret
      refine ⟨?_, HBEL.out⟩
      rw [HR.out]
      simp
      omega
end Go.Proofs.YtdncpihaeobaeaaGreat
