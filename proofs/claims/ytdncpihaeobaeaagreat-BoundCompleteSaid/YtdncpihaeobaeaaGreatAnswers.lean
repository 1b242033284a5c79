/- Walk of cordonlaw19.answers: the same answers. -/
import Derived.Test.YtdncpihaeobaeaaGreatSame19
set_option linter.unusedVariables false
set_option linter.unusedSimpArgs false
namespace Go.Proofs.YtdncpihaeobaeaaGreat
open Go.RowKit
def AnsAt (w : World) (x : AnsR) : Prop := SlAt 5 (flat Rw.cells) w x.ra x.rows ∧ SlAt 4 (flat Rel.cells) w x.ta x.told ∧ x.rows.length ≤ x.rc ∧ x.told.length ≤ x.tc ∧ x.rows.length ≤ 1099511627776 ∧ x.told.length ≤ 1099511627776
theorem AnsAt.below {w w' : World} {x : AnsR} (h : AnsAt w x) (hb : Below w.heap.size w w') : AnsAt w' x := ⟨h.1.below hb (fun _ _ h => h), h.2.1.below hb (fun _ _ h => h), h.2.2⟩
theorem SlAt.ansAt {w : World} {sa : Option Addr} {l : List AnsR} (h : SlAt 3 (flat AnsR.cells) w sa l) (i : Nat) (hi : i < l.length) (x : AnsR) (hx : l[i] = x) : ∃ b o, sa = some ⟨b, o, none⟩ ∧ b < w.heap.size ∧ w.cell? ⟨b, o + i * 3, none⟩ = some (.int .i64 x.err) ∧ w.cell? ⟨b, o + i * 3 + 1, none⟩ = some (.slice x.ra x.rows.length x.rc) ∧ w.cell? ⟨b, o + i * 3 + 2, none⟩ = some (.slice x.ta x.told.length x.tc) := by
  rcases h with rfl | ⟨b, o, rfl, hlt, h⟩
  · simp at hi
  · obtain ⟨cs, h1, h2, rfl⟩ := h i hi
    rw [hx] at h2
    exact ⟨b, o, rfl, hlt, h2 0 (by show 0 < 3; omega), h2 1 (by show 1 < 3; omega), h2 2 (by show 2 < 3; omega)⟩
set_option maxHeartbeats 4000000 in
set_option maxRecDepth 20000 in
theorem answers_yes (xs ys : List AnsR) (n : Nat) (a b : Option Addr) (ca cb : Nat) (w : World) (hv : xs.map AnsR.val = ys.map AnsR.val) (hn : xs.length = n) (hm : ys.length = n) (hx : SlAt 3 (flat AnsR.cells) w a xs) (hy : SlAt 3 (flat AnsR.cells) w b ys) (px : ∀ x ∈ xs, AnsAt w x) (py : ∀ y ∈ ys, AnsAt w y) (hlen : n ≤ 1099511627776) (h1 : n ≤ ca) (h2 : n ≤ cb) :
    Calls Tryz.prog 25 #[.slice a n ca, .slice b n cb] w fun x w' => x = .returned (.bool true) ∧ Below w.heap.size w w' := by
  have HV := Lib.hid hv
  have HN := Lib.hid hn
  have HM := Lib.hid hm
  have HX := Lib.hid hx
  have HY := Lib.hid hy
  have PX := Lib.hid px
  have PY := Lib.hid py
  clear hv hn hm hx hy px py
  have hnn : ((n : Int) != n) = false := by simp
  go_enter Tryz.func25, Tryz.ntmps25
  go_wp2_with fail
  go_loopw [13] (fun iv wr => ∃ k : Nat, k ≤ n ∧ iv = .int .i64 k ∧ Below w.heap.size w wr) (fun iv _ => n - (intOf iv).toNat)
  case atStart => exact ⟨0, by omega, rfl, Below.refl _ _⟩
  case round =>
    obtain ⟨k, hk, rfl, hbe⟩ := hrel
    by_cases hlt : (k : Int) < n
    · have hkn : k < n := by omega
      have hkx : k < xs.length := by rw [HN.out]; exact hkn
      have hky : k < ys.length := by rw [HM.out]; exact hkn
      obtain ⟨x, hx⟩ : ∃ x, xs[k] = x := ⟨_, rfl⟩
      obtain ⟨y, hy⟩ : ∃ y, ys[k] = y := ⟨_, rfl⟩
      have hxy : x.val = y.val := by
        have := congrArg (fun l => l[k]?) HV.out
        simp only [List.getElem?_map, List.getElem?_eq_getElem hkx, List.getElem?_eq_getElem hky, Option.map_some, Option.some.injEq] at this
        rw [← hx, ← hy]; exact this
      have ax := (PX.out x (by rw [← hx]; exact List.getElem_mem hkx)).below hbe
      have ay := (PY.out y (by rw [← hy]; exact List.getElem_mem hky)).below hbe
      obtain ⟨b1, o1, rfl, hb1, c0, c1, c2⟩ := (HX.out.below hbe (fun _ _ h => h)).ansAt k hkx x hx
      obtain ⟨b2, o2, rfl, hb2, d0, d1, d2⟩ := (HY.out.below hbe (fun _ _ h => h)).ansAt k hky y hy
      obtain ⟨er, ra, rc, R, ta, tc, T⟩ := x
      obtain ⟨ey, rb, rd, R', tb, td, T'⟩ := y
      cases hxy
      dsimp only at c0 c1 c2 d0 d1 d2
      obtain ⟨a1, a2, a3, a4, a5, a6⟩ := ax
      obtain ⟨e1, e2, e3, e4, _, _⟩ := ay
      dsimp only at a1 a2 a3 a4 a5 a6 e1 e2 e3 e4
      have HAN := Lib.hid (Answers_yes er R T ra rb ta tb rc rd tc td wr.drew a1 e1 a2 e2 a5 a6 a3 e3 a4 e4)
      have hkeep : ∀ w', Below wr.heap.size wr w' → ((w').cell? ⟨b1, o1 + k * 3, none⟩ = some (.int .i64 er) ∧ (w').cell? ⟨b1, o1 + k * 3 + 1, none⟩ = some (.slice ra R.length rc) ∧ (w').cell? ⟨b1, o1 + k * 3 + 2, none⟩ = some (.slice ta T.length tc) ∧ (w').cell? ⟨b2, o2 + k * 3, none⟩ = some (.int .i64 er) ∧ (w').cell? ⟨b2, o2 + k * 3 + 1, none⟩ = some (.slice rb R.length rd) ∧ (w').cell? ⟨b2, o2 + k * 3 + 2, none⟩ = some (.slice tb T.length td)) := fun w' hb => ⟨(hb.cell hb1).trans c0, (hb.cell hb1).trans c1, (hb.cell hb1).trans c2, (hb.cell hb2).trans d0, (hb.cell hb2).trans d1, (hb.cell hb2).trans d2⟩
      have HK := Lib.hid hkeep
      have hdr : Below wr.heap.size wr wr.drew := (Below.refl _ wr).drew
      have S0 := hkeep _ hdr
      have hk1 : (k : Int) < ca := by omega
      have hk2 : (k : Int) < cb := by omega
      have HBE := Lib.hid hbe
      have HDR := Lib.hid hdr
      clear a1 a2 a3 a4 a5 a6 e1 e2 e3 e4 hkeep c0 c1 c2 d0 d1 d2 hx hy hdr hbe hkx hky
      go_wp2_with fail
      go_region_held3 (fun w' => (w').cell? ⟨b1, o1 + k * 3, none⟩ = some (.int .i64 er) ∧ (w').cell? ⟨b1, o1 + k * 3 + 1, none⟩ = some (.slice ra R.length rc) ∧ (w').cell? ⟨b1, o1 + k * 3 + 2, none⟩ = some (.slice ta T.length tc) ∧ (w').cell? ⟨b2, o2 + k * 3, none⟩ = some (.int .i64 er) ∧ (w').cell? ⟨b2, o2 + k * 3 + 1, none⟩ = some (.slice rb R.length rd) ∧ (w').cell? ⟨b2, o2 + k * 3 + 2, none⟩ = some (.slice tb T.length td)) (first | (with_reducible exact S0) | (with_reducible exact S3))
        (first | (go_at_call 21; (with_reducible refine HAN.out.mono ?_); rintro e w3 ⟨rfl, hb3⟩; have hb4 := HDR.out.trans hb3; have S3 := HK.out _ hb4; have HB5 := Lib.hid (HBE.out.trans (hb4.mono HBE.out.size)); clear hb3 hb4))
      go_wp2
      go_roundw
      case rel => exact ⟨k + 1, by omega, by go_num, HB5.out⟩
      case measure => simp [intOf]; omega
    · go_wp2
      go_ret
      exact ⟨rfl, hbe⟩
end Go.Proofs.YtdncpihaeobaeaaGreat
