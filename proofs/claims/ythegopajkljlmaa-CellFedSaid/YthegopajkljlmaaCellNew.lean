/- Walks of package cell: a new one; cordonbook.Same at inputs. -/
import Derived.Test.YthegopajkljlmaaCellTwin
import Derived.Deep.RegionHeld3
set_option linter.unusedVariables false
set_option linter.unusedSimpArgs false
namespace Go.Proofs.Ythegopajkljlmaa
open Go.RowKit
theorem SameIn_yes (l : List Inp) (a b : Option Addr) (ca cb : Nat) (w : World) (ha : SlAt 5 (flat Inp.cells) w a l) (hb : SlAt 5 (flat Inp.cells) w b l) (hlen : l.length ≤ 1099511627776) (hca : l.length ≤ ca) (hcb : l.length ≤ cb) :
    Calls Try.prog 23 #[.slice a l.length ca, .slice b l.length cb] w fun e w' => e = .returned (.bool true) ∧ ∃ n, w' = w.drewN n := by
  have HA := Lib.hid ha
  have HB := Lib.hid hb
  clear ha hb
  go_enter Try.func23, Try.ntmps23
  go_wp2
  go_loopw [5] (fun i wr => ∃ (k n : Nat), k ≤ l.length ∧ i = .int .i64 k ∧ wr = w.drewN n) (fun i _ => l.length - (RowKit.intOf i).toNat)
  case atStart => exact ⟨0, 0, by omega, rfl, rfl⟩
  case round =>
    obtain ⟨k, n, hk, rfl, rfl⟩ := hrel
    by_cases hlt : k < l.length
    · obtain ⟨b1, o1, rfl, h1, x0, x1, x2, x3, x4⟩ := HA.out.inAt k hlt
      obtain ⟨b2, o2, rfl, h2, y0, y1, y2, y3, y4⟩ := HB.out.inAt k hlt
      generalize l[k]?.getD Inp.zero = x at *
      go_wp2_with fail
      have hk1 : (k : Int) < l.length := by omega
      have hk2 : (k : Int) < ca := by omega
      go_quiet (fail)
      go_wp2
      go_roundw
      case rel => exact ⟨k + 1, _, by omega, by go_num, rfl⟩
      case measure => simp [RowKit.intOf]; omega
    · go_wp2
      go_ret
      exact ⟨rfl, n, rfl⟩
theorem SameIn_ok (l : List Inp) (a b : Option Addr) (ca cb : Nat) (w : World) (ha : SlAt 5 (flat Inp.cells) w a l) (hb : SlAt 5 (flat Inp.cells) w b l) (hlen : l.length ≤ 1099511627776) (hca : l.length ≤ ca) (hcb : l.length ≤ cb) :
    Calls Try.prog 23 #[.slice a l.length ca, .slice b l.length cb] w fun e w' => e = .returned (.bool true) ∧ Below w.heap.size w w' :=
  (SameIn_yes l a b ca cb w ha hb hlen hca hcb).mono (by rintro e w' ⟨rfl, n, rfl⟩; exact ⟨rfl, rfl, rfl, rfl, Nat.le_refl _, fun _ _ => rfl⟩)
theorem sameIn_st {w0 w : World} {L : List HP} (l : List Inp) (a b : Option Addr) (ca cb : Nat) (h : St w0 w L) (ha : SlAt 5 (flat Inp.cells) w a l) (hb : SlAt 5 (flat Inp.cells) w b l) (hlen : l.length ≤ 1099511627776) (hca : l.length ≤ ca) (hcb : l.length ≤ cb) :
    Calls Try.prog 23 #[.slice a l.length ca, .slice b l.length cb] w fun e w' => e = .returned (.bool true) ∧ St w0 w' L :=
  (SameIn_ok l a b ca cb w ha hb hlen hca hcb).mono (by rintro e w' ⟨rfl, hb⟩; exact ⟨rfl, h.kept hb⟩)
theorem sameIn_any {w0 w : World} {L : List HP} (h : St w0 w L) (n m : Nat) {a b : Option Addr} {j i ca cb : Nat} {l l' : List Inp} (hn : L[n]? = some (ownP 33 5 Inp.cells (.slice a j ca) l)) (hm : L[m]? = some (ownP 33 5 Inp.cells (.slice b i cb) l')) (he : l' = l) (hlen : l.length ≤ 1099511627776) :
    Calls Try.prog 23 #[.slice a j ca, .slice b i cb] w fun e w' => e = .returned (.bool true) ∧ St w0 w' L := by
  subst he
  obtain ⟨a1, c1, e1, h1, _, _, s1⟩ := h.sl Inp.len n hn
  obtain ⟨a2, c2, e2, h2, _, _, s2⟩ := h.sl Inp.len m hm
  cases e1
  cases e2
  exact sameIn_st l' a b ca cb h s1 s2 hlen h1 h2
def newC (most id : Int) (p : Pp) : Cl := ⟨most, 0, 0, id, p, [], []⟩
set_option maxHeartbeats 2000000 in
set_option maxRecDepth 20000 in
theorem cellNew_st {w0 w : World} {L : List HP} (h : St w0 w L) (id most : Int) (h0 : 0 ≤ id) (h1 : id < 8) (hm0 : 0 ≤ most) (hm1 : most ≤ 9223372036854775807) (p : Pp) (a : Option Addr) (cap : Nat) (hl : Seen w0 (sepL L) 2 Opr.cells a p.ops) (hnil : a = none → cap = 0) (hw : ∀ o ∈ p.ops, o.wf) (hlen : p.ops.length ≤ 6) (hr : rightPp p = true) :
    Calls Try.prog 10 #[.int .i64 id, .int .i64 most, .agg #[.slice a p.ops.length cap, .int .i64 p.size, .int .i64 p.slide, .int .i64 p.agg, .int .i64 p.sink, .int .i64 p.feed]] w fun x w' => ∃ cb, x = .returned (.pointer (some ⟨cb, 0, none⟩)) ∧ St w0 w' (L ++ [clP cb (newC most id p) 0]) := by
  have hst := h.wrap.alloc (.cells #[.slice a p.ops.length cap, .int .i64 p.size, .int .i64 p.slide, .int .i64 p.agg, .int .i64 p.sink, .int .i64 p.feed] 26)
  have HL := Lib.hid hl
  have HW := Lib.hid hw
  have HR := Lib.hid hr
  have HNI := Lib.hid hnil
  have HC := Lib.hid (rightPp_at p a cap _ (hl _ _ 0 hst rfl) (by unfold maxLen; omega) true hr hst)
  have hend : ∀ (w' : World) (X : HP), St w0 w' [sepL L, X] → St w0 w' (L ++ [X]) := fun w' X h => h.unwrap
  have HEND := Lib.hid hend
  have d1 : ¬ (id < 0) := by omega
  have d2 : ¬ (8 ≤ id) := by omega
  have d3 : decide (id < 0) = false := decide_eq_false d1
  have d4 : decide (8 ≤ id) = false := decide_eq_false d2
  clear h hl hw hr hnil hst hend
  go_enter Try.func10, Try.ntmps10
  go_upto_region 3 with (go_at_call 33; (with_reducible refine HC.out.mono ?_); rintro e w1 ⟨rfl, h1⟩; have HS1 := Lib.hid h1; clear h1 HC)
  have HCO := Lib.hid (quotaOf_st most hm0 HS1.out.drew)
  go_region_held3 (fun w' => w'.cell? ⟨w.heap.size, 0, none⟩ = some (.slice a p.ops.length cap) ∧ w'.cell? ⟨w.heap.size, 1, none⟩ = some (.int .i64 p.size) ∧ w'.cell? ⟨w.heap.size, 2, none⟩ = some (.int .i64 p.slide) ∧ w'.cell? ⟨w.heap.size, 3, none⟩ = some (.int .i64 p.agg) ∧ w'.cell? ⟨w.heap.size, 4, none⟩ = some (.int .i64 p.sink) ∧ w'.cell? ⟨w.heap.size, 5, none⟩ = some (.int .i64 p.feed)) (first | exact cells6 (HS3.out.blk 1 rfl).1 (by go_grown) | (with_reducible exact ⟨k0, k1, k2, k3, k4, k5⟩) | exact cells6 (HS1.out.blk 1 rfl).1 (by go_grown))
    (first
      | (go_at_call 35; (with_reducible refine HCN.out.mono ?_); rintro e w3 ⟨rb, rfl, h3⟩; obtain ⟨k0, k1, k2, k3, k4, k5⟩ := cells6 (h3.blk 1 rfl).1 (Below.refl _ _); have HS3 := Lib.hid h3; clear h3)
      | (go_at_call 34; (with_reducible refine HCO.out.mono ?_); rintro e w2 ⟨rfl, h2⟩; obtain ⟨k0, k1, k2, k3, k4, k5⟩ := cells6 (h2.blk 1 rfl).1 (Below.refl _ _); have HCN := Lib.hid (rnNew_st h2 p a cap (HL.out _ _ 0 h2 rfl) HNI.out HW.out hlen HR.out); clear h2))
  all_goals
    go_wp2
    go_ret
    refine ⟨_, rfl, HEND.out _ _ ?_⟩
    have h4 := (((HS3.out.alloc (.cells #[.int .i64 most, .int .i64 0, .int .i64 0, .slice none 0 0, .pointer (some ⟨rb, 0, none⟩), .int .i64 id, .slice none 0 0, .slice none 0 0] 53)).emp (seeP 5 Inp.cells (.slice none 0 0) ([] : List Inp)) (fun h => .inl ⟨rfl, rfl⟩)).nil 43 5 Rw.cells).nil 33 5 Inp.cells
    have hok : (newC most id p).ok 0 := ⟨hm0, hm1, h0, h1, fun _ h => (by cases h), fun _ h => (by cases h), Nat.le_refl _, HR.out, HW.out, hlen⟩
    have h5 := (h4.fold 3 [4, 2, 5, 6] (by decide) (by simp)).imp 3 rfl (X' := clP _ (newC most id p) 0) (fun h hh => cl_pack (rb := rb) (qv := .slice none 0 0) (rv := .slice none 0 0) (tv := .slice none 0 0) hok h hh)
    exact h5.pick [0, 3] (by decide)
end Go.Proofs.Ythegopajkljlmaa
