/- Walks of packages agg and mask. -/
import Derived.Test.YthegopajkljlmaaOwn
set_option linter.unusedVariables false
namespace Go.Proofs.Ythegopajkljlmaa
open Go.RowKit
/-- a value behind one more -/
def takeV (k c v x n : Int) : Int := if k = 1 then wrap64 (v + n) else if k = 2 then wrap64 (v + x) else if k = 3 ∧ (c = 0 ∨ x < v) ∨ k = 4 ∧ (c = 0 ∨ v < x) then x else v
theorem setCell_self {w : World} {b o : Nat} {v : Value} (h : w.cell? ⟨b, o, none⟩ = some v) : w.setCell ⟨b, o, none⟩ v = w := by
  unfold World.cell? at h
  split at h
  · rename_i cs t fr he
    have h : cs[o]? = some v := h
    have e : (w.setCell ⟨b, o, none⟩ v).heap = w.heap := by
      apply Array.ext_getElem?
      intro i
      simp only [World.setCell]
      rw [Array.getElem?_modify]
      split
      · rename_i hi
        subst hi
        rw [he]
        simp only [Option.map_some, Option.isSome_none, Bool.false_eq_true, if_false]
        congr 2
        apply Array.ext_getElem?
        intro j
        rw [Array.getElem?_setIfInBounds]
        split
        · rename_i hj
          subst hj
          rw [h]
          rw [if_pos (Array.getElem?_eq_some_iff.1 h).1]
        · rfl
      · rfl
    show { w with heap := (w.setCell ⟨b, o, none⟩ v).heap } = w
    rw [e]
  · cases h
theorem tick_any (b o : Nat) (c n : Int) (w : World) (h0 : 0 ≤ c) (h1 : c < 2 ^ 60) (h2 : 0 ≤ n) (h3 : n < 2 ^ 60) (c0 : w.cell? ⟨b, o, none⟩ = some (.int .i64 c)) (f0 : w.frozen? ⟨b, o, none⟩ = false) :
    Calls Try.prog 101 #[.pointer (some ⟨b, o, none⟩), .int .i64 n] w fun e w' => e = .returned (.tuple #[]) ∧ w' = w.setCell ⟨b, o, none⟩ (.int .i64 (c + n)) := by
  go_enter Try.func101, Try.ntmps101
  go_wp2
  go_end0
  exact ⟨rfl, rfl⟩
theorem aggNew_any (k : Int) (w : World) : Calls Try.prog 82 #[.int .i64 k] w fun e w' => e = .returned (.agg #[.int .i64 0, .int .i64 k, .int .i64 0]) ∧ w' = w.alloc (.cells #[.int .i64 0, .int .i64 k, .int .i64 0] 121) := by
  go_enter Try.func82, Try.ntmps82
  go_wp2
  exact bodyPost_ret (v := .agg #[.int .i64 0, .int .i64 k, .int .i64 0]) (by simp [results, go_sem]) rfl ⟨rfl, rfl⟩
theorem frozen_set (w : World) (b o : Nat) (u : Value) (a : Addr) : (w.setCell ⟨b, o, none⟩ u).frozen? a = w.frozen? a := by
  simp only [World.frozen?, World.setCell, Array.getElem?_modify]
  by_cases h : b = a.block
  · subst h
    rw [if_pos rfl]
    cases w.heap[a.block]? with
    | none => rfl
    | some x => cases x <;> rfl
  · rw [if_neg h]
set_option maxHeartbeats 2000000 in
theorem take_any (b o : Nat) (k c v x n : Int) (w : World) (h0 : 0 ≤ c) (h1 : c < 2 ^ 60) (h2 : 0 ≤ n) (h3 : n < 2 ^ 60) (c0 : w.cell? ⟨b, o, none⟩ = some (.int .i64 c)) (c1 : w.cell? ⟨b, o + 1, none⟩ = some (.int .i64 k)) (c2 : w.cell? ⟨b, o + 2, none⟩ = some (.int .i64 v)) (f0 : w.frozen? ⟨b, o, none⟩ = false) (f2 : w.frozen? ⟨b, o + 2, none⟩ = false) :
    Calls Try.prog 90 #[.pointer (some ⟨b, o, none⟩), .int .i64 x, .int .i64 n] w fun e w' => e = .returned (.tuple #[]) ∧ w' = (w.setCell ⟨b, o + 2, none⟩ (.int .i64 (takeV k c v x n))).setCell ⟨b, o, none⟩ (.int .i64 (c + n)) := by
  have f0' : ∀ u, (w.setCell ⟨b, o + 2, none⟩ u).frozen? ⟨b, o, none⟩ = false := fun u => (frozen_set _ _ _ _ _).trans f0
  have es : w.setCell ⟨b, o + 2, none⟩ (.int .i64 v) = w := setCell_self c2
  have ET := Lib.hid es
  clear es
  by_cases k1 : k = 1
  · subst k1
    have ev : takeV 1 c v x n = wrap64 (v + n) := by simp [takeV]
    rw [ev]
    clear ET ev
    by_cases hc : c = 0
    all_goals
      go_enter Try.func90, Try.ntmps90
      go_wp2_with (go_at_call 101; refine (tick_any b o c n _ h0 h1 h2 h3 (by simp [go_sem]; assumption) (f0' _)).mono ?_; rintro e w' ⟨rfl, rfl⟩)
      go_end0
      first | exact ⟨rfl, rfl⟩ | exact ⟨rfl, by simp [hc]⟩ | exact ⟨rfl, by simp [hc0]⟩
  · by_cases k2 : k = 2
    · subst k2
      have ev : takeV 2 c v x n = wrap64 (v + x) := by simp [takeV]
      rw [ev]
      clear ET ev
      by_cases hc : c = 0
      all_goals
        go_enter Try.func90, Try.ntmps90
        go_wp2_with (go_at_call 101; refine (tick_any b o c n _ h0 h1 h2 h3 (by simp [go_sem]; assumption) (f0' _)).mono ?_; rintro e w' ⟨rfl, rfl⟩)
        go_end0
        first | exact ⟨rfl, rfl⟩ | exact ⟨rfl, by simp [hc]⟩ | exact ⟨rfl, by simp [hc0]⟩
    · by_cases hh : k = 3 ∧ (c = 0 ∨ x < v) ∨ k = 4 ∧ (c = 0 ∨ v < x)
      · have ev : takeV k c v x n = x := by simp [takeV, k1, k2, hh]
        rw [ev]
        clear ET ev
        rcases hh with ⟨rfl, hc | hc⟩ | ⟨rfl, hc | hc⟩
        · go_enter Try.func90, Try.ntmps90
          go_wp2_with (go_at_call 101; refine (tick_any b o c n _ h0 h1 h2 h3 (by simp [go_sem]; assumption) (f0' _)).mono ?_; rintro e w' ⟨rfl, rfl⟩)
          go_end0
          first | exact ⟨rfl, rfl⟩ | exact ⟨rfl, by simp [hc]⟩ | exact ⟨rfl, by simp [hc0]⟩
        · by_cases hc0 : c = 0
          all_goals
            go_enter Try.func90, Try.ntmps90
            go_wp2_with (go_at_call 101; refine (tick_any b o c n _ h0 h1 h2 h3 (by simp [go_sem]; assumption) (f0' _)).mono ?_; rintro e w' ⟨rfl, rfl⟩)
            go_end0
            first | exact ⟨rfl, rfl⟩ | exact ⟨rfl, by simp [hc]⟩ | exact ⟨rfl, by simp [hc0]⟩
        · go_enter Try.func90, Try.ntmps90
          go_wp2_with (go_at_call 101; refine (tick_any b o c n _ h0 h1 h2 h3 (by simp [go_sem]; assumption) (f0' _)).mono ?_; rintro e w' ⟨rfl, rfl⟩)
          go_end0
          first | exact ⟨rfl, rfl⟩ | exact ⟨rfl, by simp [hc]⟩ | exact ⟨rfl, by simp [hc0]⟩
        · by_cases hc0 : c = 0
          all_goals
            go_enter Try.func90, Try.ntmps90
            go_wp2_with (go_at_call 101; refine (tick_any b o c n _ h0 h1 h2 h3 (by simp [go_sem]; assumption) (f0' _)).mono ?_; rintro e w' ⟨rfl, rfl⟩)
            go_end0
            first | exact ⟨rfl, rfl⟩ | exact ⟨rfl, by simp [hc]⟩ | exact ⟨rfl, by simp [hc0]⟩
      · have ev : takeV k c v x n = v := by simp [takeV, k1, k2, hh]
        rw [ev, ET.out]
        clear ET ev
        by_cases k3 : k = 3
        · subst k3
          have hc0 : ¬ c = 0 := fun e => hh (.inl ⟨rfl, .inl e⟩)
          have hxv : ¬ x < v := fun e => hh (.inl ⟨rfl, .inr e⟩)
          clear hh
          go_enter Try.func90, Try.ntmps90
          go_wp2_with (go_at_call 101; refine (tick_any b o c n _ h0 h1 h2 h3 (by assumption) (by assumption)).mono ?_; rintro e w' ⟨rfl, rfl⟩)
          go_end0
          first | exact ⟨rfl, rfl⟩ | exact ⟨rfl, by simp [hc]⟩ | exact ⟨rfl, by simp [hc0]⟩
        · by_cases k4 : k = 4
          · subst k4
            have hc0 : ¬ c = 0 := fun e => hh (.inr ⟨rfl, .inl e⟩)
            have hxv : ¬ v < x := fun e => hh (.inr ⟨rfl, .inr e⟩)
            clear hh
            go_enter Try.func90, Try.ntmps90
            go_wp2_with (go_at_call 101; refine (tick_any b o c n _ h0 h1 h2 h3 (by assumption) (by assumption)).mono ?_; rintro e w' ⟨rfl, rfl⟩)
            go_end0
            first | exact ⟨rfl, rfl⟩ | exact ⟨rfl, by simp [hc]⟩ | exact ⟨rfl, by simp [hc0]⟩
          · clear hh
            by_cases hc0 : c = 0
            all_goals
              go_enter Try.func90, Try.ntmps90
              go_wp2_with (go_at_call 101; refine (tick_any b o c n _ h0 h1 h2 h3 (by assumption) (by assumption)).mono ?_; rintro e w' ⟨rfl, rfl⟩)
              go_end0
              first | exact ⟨rfl, rfl⟩ | exact ⟨rfl, by simp [hc]⟩ | exact ⟨rfl, by simp [hc0]⟩
/-- Add of one value. -/
theorem add_one (b o : Nat) (k c v x : Int) (ab : Nat) (w : World) (h0 : 0 ≤ c) (h1 : c < 2 ^ 60) (c0 : w.cell? ⟨b, o, none⟩ = some (.int .i64 c)) (c1 : w.cell? ⟨b, o + 1, none⟩ = some (.int .i64 k)) (c2 : w.cell? ⟨b, o + 2, none⟩ = some (.int .i64 v)) (f0 : w.frozen? ⟨b, o, none⟩ = false) (f2 : w.frozen? ⟨b, o + 2, none⟩ = false) (cx : w.cell? ⟨ab, 0, none⟩ = some (.int .i64 x)) :
    Calls Try.prog 83 #[.pointer (some ⟨b, o, none⟩), .slice (some ⟨ab, 0, none⟩) 1 1] w fun e w' => e = .returned (.tuple #[]) ∧ w' = (w.setCell ⟨b, o + 2, none⟩ (.int .i64 (takeV k c v x 1))).setCell ⟨b, o, none⟩ (.int .i64 (c + 1)) := by
  have HT := Lib.hid (take_any b o k c v x 1 w h0 h1 (by omega) (by omega) c0 c1 c2 f0 f2)
  go_enter Try.func83, Try.ntmps83
  go_wp2
  refine wp_loop_rounds 2 ?_
  rw [rounds_succ]
  go_wp2_with (go_at_call 90; refine HT.out.mono ?_; rintro e w' ⟨rfl, rfl⟩)
  rw [rounds_succ]
  go_wp2_with fail
  go_end0
  exact ⟨rfl, rfl⟩
theorem join_two (x y : Int) (ab : Nat) (w : World) (c0 : w.cell? ⟨ab, 0, none⟩ = some (.int .u64 x)) (c1 : w.cell? ⟨ab, 1, none⟩ = some (.int .u64 y)) :
    Calls Try.prog 84 #[.slice (some ⟨ab, 0, none⟩) 2 2] w fun e w' => e = .returned (.int .u64 (bits .or .u64 (bits .or .u64 0 x) y)) ∧ w' = w := by
  go_enter Try.func84, Try.ntmps84
  go_wp2
  go_rounds 3
  go_ret
  exact ⟨rfl, rfl⟩
def bv (x : Int) : BitVec 64 := BitVec.ofInt 64 x
theorem bits_or64 (x y : Int) : bits .or .u64 x y = ((bv x ||| bv y).toNat : Int) := by
  have h := (bv x ||| bv y).isLt
  show IntKind.wrap .u64 ((bv x ||| bv y).toNat : Int) = _
  generalize (bv x ||| bv y).toNat = n at h
  simp [IntKind.wrap, IntKind.bits, IntKind.signed]
  omega
theorem bv_toNat (b : BitVec 64) : bv (b.toNat : Int) = b := by
  unfold bv
  rw [BitVec.ofInt_natCast, BitVec.ofNat_toNat]
  simp
theorem wf_u64 {x : Int} (h : (Lit.int .u64 x).wf = true) : 0 ≤ x ∧ x < 18446744073709551616 := by
  simp [Lit.wf, IntKind.min, IntKind.max, IntKind.signed, IntKind.bits] at h
  omega
theorem wf_u64_mk {x : Int} (h0 : 0 ≤ x) (h1 : x < 18446744073709551616) : (Lit.int .u64 x).wf = true := by
  simp [Lit.wf, IntKind.min, IntKind.max, IntKind.signed, IntKind.bits]
  omega
theorem bv_back {x : Int} (h : (Lit.int .u64 x).wf = true) : ((bv x).toNat : Int) = x := by
  obtain ⟨h0, h1⟩ := wf_u64 h
  unfold bv
  rw [BitVec.toNat_ofInt]
  simp
  omega
theorem or_zero {x : Int} (h : (Lit.int .u64 x).wf = true) : bits .or .u64 0 x = x := by
  rw [bits_or64, show bv 0 = 0#64 from rfl, BitVec.zero_or, bv_back h]
theorem or_wf (x y : Int) : (Lit.int .u64 (bits .or .u64 x y)).wf = true := by
  rw [bits_or64]
  have h := (bv x ||| bv y).isLt
  exact wf_u64_mk (by omega) (by omega)
theorem wf_i64 {x : Int} (h : (Lit.int .i64 x).wf = true) : -9223372036854775808 ≤ x ∧ x ≤ 9223372036854775807 := by
  simp [Lit.wf, IntKind.min, IntKind.max, IntKind.signed, IntKind.bits] at h
  omega
theorem wf_wrap (x : Int) : (Lit.int .i64 (wrap64 x)).wf = true := by
  apply WalkArith.wf_i64
  unfold wrap64
  omega
theorem takeV_wf {k c v x n : Int} (hv : (Lit.int .i64 v).wf = true) (hx : (Lit.int .i64 x).wf = true) : (Lit.int .i64 (takeV k c v x n)).wf = true := by
  unfold takeV
  split
  · exact wf_wrap _
  · split
    · exact wf_wrap _
    · split
      · exact hx
      · exact hv
end Go.Proofs.Ythegopajkljlmaa
