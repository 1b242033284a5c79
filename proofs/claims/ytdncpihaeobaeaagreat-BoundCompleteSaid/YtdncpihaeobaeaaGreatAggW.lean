/- Walks of package agg, counts of any size. -/
import Derived.Test.YtdncpihaeobaeaaGreatMask
set_option linter.unusedVariables false
set_option linter.unusedSimpArgs false
namespace Go.Proofs.YtdncpihaeobaeaaGreat
open Go.RowKit
theorem tick_w (b o : Nat) (c n : Int) (w : World) (c0 : w.cell? ⟨b, o, none⟩ = some (.int .i64 c)) (f0 : w.frozen? ⟨b, o, none⟩ = false) :
    Calls Tryz.prog 150 #[.pointer (some ⟨b, o, none⟩), .int .i64 n] w fun e w' => e = .returned (.tuple #[]) ∧ w' = w.setCell ⟨b, o, none⟩ (.int .i64 (wrap64 (c + n))) := by
  go_enter Tryz.func150, Tryz.ntmps150
  go_wp2
  go_end0
  exact ⟨rfl, rfl⟩
set_option maxHeartbeats 2000000 in
theorem take_w (b o : Nat) (k c v x n : Int) (w : World) (c0 : w.cell? ⟨b, o, none⟩ = some (.int .i64 c)) (c1 : w.cell? ⟨b, o + 1, none⟩ = some (.int .i64 k)) (c2 : w.cell? ⟨b, o + 2, none⟩ = some (.int .i64 v)) (f0 : w.frozen? ⟨b, o, none⟩ = false) (f2 : w.frozen? ⟨b, o + 2, none⟩ = false) :
    Calls Tryz.prog 145 #[.pointer (some ⟨b, o, none⟩), .int .i64 x, .int .i64 n] w fun e w' => e = .returned (.tuple #[]) ∧ w' = (w.setCell ⟨b, o + 2, none⟩ (.int .i64 (takeV k c v x n))).setCell ⟨b, o, none⟩ (.int .i64 (wrap64 (c + n))) := by
  have f0' : ∀ u, (w.setCell ⟨b, o + 2, none⟩ u).frozen? ⟨b, o, none⟩ = false := fun u => (frozen_set _ _ _ _ _).trans f0
  have es : w.setCell ⟨b, o + 2, none⟩ (.int .i64 v) = w := setCell_self c2
  have ET := Lib.hid es
  clear es
  by_cases k1 : k = 1
  · subst k1
    have ev : takeV 1 c v x n = wrap64 (v + n) := by simp [takeV]
    rw [ev]
    clear ET ev
    by_cases hc : c = 0
    all_goals
      go_enter Tryz.func145, Tryz.ntmps145
      go_wp2_with (go_at_call 150; refine (tick_w b o c n _ (by simp [go_sem]; assumption) (f0' _)).mono ?_; rintro e w' ⟨rfl, rfl⟩)
      go_end0
      first | exact ⟨rfl, rfl⟩ | exact ⟨rfl, by simp [hc]⟩ | exact ⟨rfl, by simp [hc0]⟩
  · by_cases k2 : k = 2
    · subst k2
      have ev : takeV 2 c v x n = wrap64 (v + x) := by simp [takeV]
      rw [ev]
      clear ET ev
      by_cases hc : c = 0
      all_goals
        go_enter Tryz.func145, Tryz.ntmps145
        go_wp2_with (go_at_call 150; refine (tick_w b o c n _ (by simp [go_sem]; assumption) (f0' _)).mono ?_; rintro e w' ⟨rfl, rfl⟩)
        go_end0
        first | exact ⟨rfl, rfl⟩ | exact ⟨rfl, by simp [hc]⟩ | exact ⟨rfl, by simp [hc0]⟩
    · by_cases hh : k = 3 ∧ (c = 0 ∨ x < v) ∨ k = 4 ∧ (c = 0 ∨ v < x)
      · have ev : takeV k c v x n = x := by simp [takeV, k1, k2, hh]
        rw [ev]
        clear ET ev
        rcases hh with ⟨rfl, hc | hc⟩ | ⟨rfl, hc | hc⟩
        · go_enter Tryz.func145, Tryz.ntmps145
          go_wp2_with (go_at_call 150; refine (tick_w b o c n _ (by simp [go_sem]; assumption) (f0' _)).mono ?_; rintro e w' ⟨rfl, rfl⟩)
          go_end0
          first | exact ⟨rfl, rfl⟩ | exact ⟨rfl, by simp [hc]⟩ | exact ⟨rfl, by simp [hc0]⟩
        · by_cases hc0 : c = 0
          all_goals
            go_enter Tryz.func145, Tryz.ntmps145
            go_wp2_with (go_at_call 150; refine (tick_w b o c n _ (by simp [go_sem]; assumption) (f0' _)).mono ?_; rintro e w' ⟨rfl, rfl⟩)
            go_end0
            first | exact ⟨rfl, rfl⟩ | exact ⟨rfl, by simp [hc]⟩ | exact ⟨rfl, by simp [hc0]⟩
        · go_enter Tryz.func145, Tryz.ntmps145
          go_wp2_with (go_at_call 150; refine (tick_w b o c n _ (by simp [go_sem]; assumption) (f0' _)).mono ?_; rintro e w' ⟨rfl, rfl⟩)
          go_end0
          first | exact ⟨rfl, rfl⟩ | exact ⟨rfl, by simp [hc]⟩ | exact ⟨rfl, by simp [hc0]⟩
        · by_cases hc0 : c = 0
          all_goals
            go_enter Tryz.func145, Tryz.ntmps145
            go_wp2_with (go_at_call 150; refine (tick_w b o c n _ (by simp [go_sem]; assumption) (f0' _)).mono ?_; rintro e w' ⟨rfl, rfl⟩)
            go_end0
            first | exact ⟨rfl, rfl⟩ | exact ⟨rfl, by simp [hc]⟩ | exact ⟨rfl, by simp [hc0]⟩
      · have ev : takeV k c v x n = v := by simp [takeV, k1, k2, hh]
        rw [ev, ET.out]
        clear ET ev
        by_cases k3 : k = 3
        · subst k3
          have hc0 : ¬ c = 0 := fun e => hh (.inl ⟨rfl, .inl e⟩)
          have hxv : ¬ x < v := fun e => hh (.inl ⟨rfl, .inr e⟩)
          clear hh
          go_enter Tryz.func145, Tryz.ntmps145
          go_wp2_with (go_at_call 150; refine (tick_w b o c n _ (by assumption) (by assumption)).mono ?_; rintro e w' ⟨rfl, rfl⟩)
          go_end0
          first | exact ⟨rfl, rfl⟩ | exact ⟨rfl, by simp [hc]⟩ | exact ⟨rfl, by simp [hc0]⟩
        · by_cases k4 : k = 4
          · subst k4
            have hc0 : ¬ c = 0 := fun e => hh (.inr ⟨rfl, .inl e⟩)
            have hxv : ¬ v < x := fun e => hh (.inr ⟨rfl, .inr e⟩)
            clear hh
            go_enter Tryz.func145, Tryz.ntmps145
            go_wp2_with (go_at_call 150; refine (tick_w b o c n _ (by assumption) (by assumption)).mono ?_; rintro e w' ⟨rfl, rfl⟩)
            go_end0
            first | exact ⟨rfl, rfl⟩ | exact ⟨rfl, by simp [hc]⟩ | exact ⟨rfl, by simp [hc0]⟩
          · clear hh
            by_cases hc0 : c = 0
            all_goals
              go_enter Tryz.func145, Tryz.ntmps145
              go_wp2_with (go_at_call 150; refine (tick_w b o c n _ (by assumption) (by assumption)).mono ?_; rintro e w' ⟨rfl, rfl⟩)
              go_end0
              first | exact ⟨rfl, rfl⟩ | exact ⟨rfl, by simp [hc]⟩ | exact ⟨rfl, by simp [hc0]⟩
/-- Add of one value. -/
theorem add_one_w (b o : Nat) (k c v x : Int) (ab : Nat) (w : World) (c0 : w.cell? ⟨b, o, none⟩ = some (.int .i64 c)) (c1 : w.cell? ⟨b, o + 1, none⟩ = some (.int .i64 k)) (c2 : w.cell? ⟨b, o + 2, none⟩ = some (.int .i64 v)) (f0 : w.frozen? ⟨b, o, none⟩ = false) (f2 : w.frozen? ⟨b, o + 2, none⟩ = false) (cx : w.cell? ⟨ab, 0, none⟩ = some (.int .i64 x)) :
    Calls Tryz.prog 131 #[.pointer (some ⟨b, o, none⟩), .slice (some ⟨ab, 0, none⟩) 1 1] w fun e w' => e = .returned (.tuple #[]) ∧ w' = (w.setCell ⟨b, o + 2, none⟩ (.int .i64 (takeV k c v x 1))).setCell ⟨b, o, none⟩ (.int .i64 (wrap64 (c + 1))) := by
  have HT := Lib.hid (take_w b o k c v x 1 w c0 c1 c2 f0 f2)
  go_enter Tryz.func131, Tryz.ntmps131
  go_wp2
  refine wp_loop_rounds 2 ?_
  rw [rounds_succ]
  go_wp2_with (go_at_call 145; refine HT.out.mono ?_; rintro e w' ⟨rfl, rfl⟩)
  rw [rounds_succ]
  go_wp2_with fail
  go_end0
  exact ⟨rfl, rfl⟩
end Go.Proofs.YtdncpihaeobaeaaGreat
