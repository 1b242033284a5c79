/- Walks of bound.Clear and bound.All: of any cells, of any core. -/
import Derived.Test.YtdncpihaeobaeaaGreatCoreTw
set_option linter.unusedVariables false
set_option linter.unusedSimpArgs false
namespace Go.Proofs.YtdncpihaeobaeaaGreat
open Go.RowKit
def clearO : Option Cl → Bool
  | none => true
  | some c => (c.q.length == 0) && (c.rn.L.length == 0)
def ptrC (p : Option Nat) : List Value := [ptrV p]
theorem ptrC_len (p : Option Nat) : (ptrC p).length = 1 := rfl
theorem SlAt.ptrAt {w : World} {sa : Option Addr} {l : List (Option Nat)} (h : SlAt 1 (flat ptrC) w sa l) (i : Nat) (hi : i < l.length) (x : Option Nat) (hx : l[i] = x) : ∃ b o, sa = some ⟨b, o, none⟩ ∧ b < w.heap.size ∧ w.cell? ⟨b, o + i, none⟩ = some (ptrV x) := by
  rcases h with rfl | ⟨b, o, rfl, hlt, h⟩
  · simp at hi
  · obtain ⟨cs, h1, h2, rfl⟩ := h i hi
    rw [hx] at h2
    exact ⟨b, o, rfl, hlt, (congrArg (fun z => w.cell? ⟨b, z, none⟩) (show o + i = o + i * 1 + 0 by omega)).trans (h2 0 (by show 0 < 1; omega))⟩
theorem waiting_any (a : Option Addr) (k cap : Nat) (w : World) : Calls Tryz.prog 33 #[.agg #[.slice a k cap]] w fun e w' => e = .returned (.int .i64 k) ∧ Below w.heap.size w w' :=
  (waiting_st a k cap (St.start w)).mono (by rintro e w' ⟨rfl, h⟩; exact ⟨rfl, h.below⟩)
/-- What of a cell is looked at. -/
def lookC (w : World) (b : Nat) (c : Cl) : Prop := ∃ (rb pb : Nat) (qa : Option Addr) (qc : Nat), (b < w.heap.size ∧ rb < w.heap.size) ∧ (w.cell? ⟨b, 3, none⟩ = some (.slice qa c.q.length qc) ∧ w.cell? ⟨b, 4, none⟩ = some (.pointer (some ⟨rb, 0, none⟩)) ∧ w.cell? ⟨rb, 3, none⟩ = some (.pointer (some ⟨pb, 0, none⟩))) ∧ c.q.length ≤ 1099511627776 ∧
  ∀ w', Below w.heap.size w w' → Calls Tryz.prog 34 #[.pointer (some ⟨pb, 0, none⟩)] w' fun e w'' => e = .returned (.int .i64 c.rn.L.length) ∧ Below w'.heap.size w' w''
def lookP (w : World) (p : Option Nat) (c : Option Cl) : Prop := match p, c with
  | some b, some c => lookC w b c
  | none, none => True
  | _, _ => False
theorem lookC.below {w w' : World} {b : Nat} {c : Cl} (h : lookC w b c) (hb : Below w.heap.size w w') : lookC w' b c := by
  obtain ⟨rb, pb, qa, qc, ⟨h1, h2⟩, ⟨c1, c2, c3⟩, hq, hl⟩ := h
  have := hb.size
  exact ⟨rb, pb, qa, qc, ⟨by omega, by omega⟩, ⟨(hb.cell h1).trans c1, (hb.cell h1).trans c2, (hb.cell h2).trans c3⟩, hq, fun w'' hb' => hl w'' (hb.trans (hb'.mono this))⟩
theorem lookP.below {w w' : World} {p : Option Nat} {c : Option Cl} (h : lookP w p c) (hb : Below w.heap.size w w') : lookP w' p c := by
  cases p <;> cases c
  · trivial
  · exact h
  · exact h
  · exact lookC.below h hb
theorem lookC_of {w0 w : World} {L : List HP} {b N : Nat} {c : Cl} (h : St w0 w L) (n : Nat) (hn : L[n]? = some (clP b c N)) (hN : N < 2 ^ 28) : lookC w b c := by
  obtain ⟨rb, qv, rv, tv, hok, h1⟩ := cl_flat (h.front n hn) 0 rfl
  have hlen := hok.len
  obtain ⟨qa, qc, rfl, _⟩ := h1.see Inp.len 3 rfl
  obtain ⟨pb, v, hrk, h2⟩ := rn_flat h1 4 rfl
  obtain ⟨_, _, _, c3, c4, _⟩ := cells8 (h2.blk 2 rfl).1 (Below.refl _ _)
  obtain ⟨_, _, _, r3, _⟩ := cells10 (h2.blk 7 rfl).1 (Below.refl _ _)
  refine ⟨rb, pb, qa, qc, ⟨(h2.blk 2 rfl).2.2, (h2.blk 7 rfl).2.2⟩, ⟨c3, c4, r3⟩, by omega, fun w' hb => ?_⟩
  obtain ⟨mb, _, hP, _⟩ := panesP_at (h2.kept hb) 8 rfl
  exact len_any pb mb _ _ _ _ w' hP
theorem lookP_of {w0 w : World} {L : List HP} {N : Nat} {p : Option Nat} {c : Option Cl} (h : St w0 w L) (n : Nat) (hn : L[n]? = some (optP N p c)) (hN : N < 2 ^ 28) : lookP w p c := by
  cases p <;> cases c
  · trivial
  · obtain ⟨F, hF⟩ := h.at n hn
    exact hF.elim
  · obtain ⟨F, hF⟩ := h.at n hn
    exact hF.elim
  · exact lookC_of h n hn hN
theorem all_at {α : Type} (f : α → Bool) (l : List α) (k : Nat) (hk : k < l.length) (h : f l[k] = false) : l.all f = false := by
  rw [Bool.eq_false_iff]
  intro h2
  rw [List.all_eq_true] at h2
  rw [h2 _ (List.getElem_mem hk)] at h
  cases h
theorem all_take1 {α : Type} (f : α → Bool) (l : List α) (k : Nat) (hk : k < l.length) (h : (l.take k).all f = true) (h2 : f l[k] = true) : (l.take (k + 1)).all f = true := by
  rw [List.take_add_one, List.getElem?_eq_getElem hk, List.all_append, h]
  simp [h2]
set_option maxHeartbeats 4000000 in
set_option maxRecDepth 20000 in
theorem clear_any (w : World) (ps : List (Option Nat)) (cs : List (Option Cl)) (n : Nat) (hn : ps.length = n) (hl : cs.length = n) (hlk : ∀ k (h1 : k < ps.length) (h2 : k < cs.length), lookP w ps[k] cs[k]) (a : Option Addr) (cap : Nat) (hs : SlAt 1 (flat ptrC) w a ps) (hmx : n ≤ 1000) :
    Calls Tryz.prog 36 #[.slice a n cap] w fun e w' => e = .returned (.bool (cs.all clearO)) ∧ Below w.heap.size w w' := by
  have HLK := Lib.hid hlk
  have HS := Lib.hid hs
  have HL := Lib.hid hl
  have HN := Lib.hid hn
  clear hlk hs hl hn
  go_enter Tryz.func36, Tryz.ntmps36
  go_wp2_with fail
  go_loopw [7] (fun iv wr => ∃ k : Nat, k ≤ n ∧ iv = .int .i64 k ∧ Below w.heap.size w wr ∧ (cs.take k).all clearO = true) (fun iv _ => n - (RowKit.intOf iv).toNat)
  case atStart => exact ⟨0, by omega, rfl, Below.refl _ _, rfl⟩
  case round =>
    obtain ⟨k, hk, rfl, hb, hal⟩ := hrel
    by_cases hlt : (k : Int) < n
    · have hk1 : k < ps.length := by have := HN.out; omega
      have hk2 : k < cs.length := by have := HL.out; omega
      obtain ⟨p, hp⟩ : ∃ p, ps[k] = p := ⟨_, rfl⟩
      obtain ⟨c, hc⟩ : ∃ c, cs[k] = c := ⟨_, rfl⟩
      have hlk := (HLK.out k hk1 hk2).below hb
      rw [hp, hc] at hlk
      obtain ⟨b, o, rfl, hbl, c0⟩ := (HS.out.below hb fun _ _ h => h).ptrAt k hk1 p hp
      have hnext : clearO c = true → (cs.take (k + 1)).all clearO = true := fun h => all_take1 clearO cs k hk2 hal (by rw [hc]; exact h)
      have hstop : clearO c = false → cs.all clearO = false := fun h => all_at clearO cs k hk2 (by rw [hc]; exact h)
      have HNX := Lib.hid hnext
      have HST := Lib.hid hstop
      have HB := Lib.hid hb
      clear hnext hstop hal hb hp hc
      rcases p with _ | d
      · rcases c with _ | c
        · rw [show ptrV none = .pointer none from rfl] at c0
          clear hlk
          go_wp2_with fail
          go_roundw
          case rel => exact ⟨k + 1, by omega, by go_num, HB.out, HNX.out rfl⟩
          case measure => simp [RowKit.intOf]; omega
        · exact hlk.elim
      · rcases c with _ | c
        · exact hlk.elim
        · rw [show ptrV (some d) = .pointer (some ⟨d, 0, none⟩) from rfl] at c0
          obtain ⟨rb, pb, qa, qc, ⟨h1, h2⟩, ⟨c1, c2, c3⟩, hq, hll⟩ := hlk
          have HLL := Lib.hid hll
          have HW := Lib.hid (waiting_any qa c.q.length qc wr)
          clear hll
          have hcl : clearO (some c) = ((c.q.length == 0) && (c.rn.L.length == 0)) := rfl
          rw [hcl] at HNX HST
          clear hcl
          by_cases hq0 : c.q.length = 0
          · rw [hq0] at c1 HW HNX HST
            have HC := Lib.hid (show ∀ w', Below wr.heap.size wr w' → (w'.cell? ⟨d, 4, none⟩ = some (.pointer (some ⟨rb, 0, none⟩)) ∧ w'.cell? ⟨rb, 3, none⟩ = some (.pointer (some ⟨pb, 0, none⟩))) from fun w' hb => ⟨(hb.cell h1).trans c2, (hb.cell h2).trans c3⟩)
            clear hq0 hq
            by_cases hl0 : c.rn.L.length = 0
            · rw [hl0] at HLL HNX HST
              clear hl0 c2 c3
              go_wp2_with (first
                | (go_at_call 33; (with_reducible refine HW.out.mono ?_); rintro e w2 ⟨rfl, hb2⟩; obtain ⟨d2, d3⟩ := HC.out _ hb2; have HL2 := Lib.hid (HLL.out _ hb2); have HB2 := Lib.hid hb2; clear hb2 HW)
                | (go_at_call 34; (with_reducible refine HL2.out.mono ?_); rintro e w3 ⟨rfl, hb3⟩; have HB3 := Lib.hid hb3; clear hb3 HL2))
              go_roundw
              case rel => exact ⟨k + 1, by omega, by go_num, HB.out.trans ((HB2.out.trans (HB3.out.mono HB2.out.size)).mono HB.out.size), HNX.out rfl⟩
              case measure => simp [RowKit.intOf]; omega
            · have hl1 : (0 : Int) < c.rn.L.length := by omega
              have hst := HST.out (by simp [hl0])
              have HST2 := Lib.hid hst
              generalize c.rn.L.length = ll at *
              clear c2 c3 hst HST HNX hl0
              go_wp2_with (first
                | (go_at_call 33; (with_reducible refine HW.out.mono ?_); rintro e w2 ⟨rfl, hb2⟩; obtain ⟨d2, d3⟩ := HC.out _ hb2; have HL2 := Lib.hid (HLL.out _ hb2); have HB2 := Lib.hid hb2; clear hb2 HW)
                | (go_at_call 34; (with_reducible refine HL2.out.mono ?_); rintro e w3 ⟨rfl, hb3⟩; have HB3 := Lib.hid hb3; clear hb3 HL2))
              go_ret
              exact ⟨(by rw [HST2.out]; rfl), HB.out.trans ((HB2.out.trans (HB3.out.mono HB2.out.size)).mono HB.out.size)⟩
          · have hq1 : (0 : Int) < c.q.length := by omega
            have hst := HST.out (by simp [hq0])
            have HST2 := Lib.hid hst
            generalize c.q.length = ql at *
            clear hst HST HNX hq0 c2 c3
            go_wp2_with (go_at_call 33; (with_reducible refine HW.out.mono ?_); rintro e w2 ⟨rfl, hb2⟩; have HB2 := Lib.hid hb2; clear hb2 HW)
            go_ret
            exact ⟨(by rw [HST2.out]; rfl), HB.out.trans (HB2.out.mono HB.out.size)⟩
    · obtain rfl : k = n := by omega
      rw [List.take_of_length_le (by have := HL.out; omega)] at hal
      have HAL := Lib.hid hal
      have HB := Lib.hid hb
      clear hal hb
      go_wp2_with fail
      go_ret
      exact ⟨(by rw [HAL.out]; rfl), HB.out⟩
/-- The most ticks of the first k tenants. -/
def allM (co : Co) (b : Int) (k : Nat) : Int := (List.range k).foldl (fun (m : Int) (t : Nat) => match co.at (t : Int) with | none => m | some c => max m (ticksOf c.q.length b)) 0
theorem allM_succ (co : Co) (b : Int) (k : Nat) : allM co b (k + 1) = match co.at (k : Int) with | none => allM co b k | some c => max (allM co b k) (ticksOf c.q.length b) := by
  unfold allM
  rw [List.range_succ, List.foldl_append]
  rfl
theorem ticksOf_nonneg (q : Nat) (b : Int) (hb : 1 ≤ b) : 0 ≤ ticksOf q b ∧ ticksOf q b ≤ q := by
  unfold ticksOf
  split
  · omega
  · rw [if_neg (by omega)]
    refine ⟨Int.ediv_nonneg (by omega) (by omega), ?_⟩
    have : ((q : Int) + b - 1) / b < (q : Int) + 1 := by
      apply Int.ediv_lt_of_lt_mul (by omega)
      have : ((q : Int) + 1) * b = q * b + b := by rw [Int.add_mul]; omega
      have h2 : (q : Int) * 1 ≤ q * b := Int.mul_le_mul_of_nonneg_left hb (by omega)
      omega
    omega
theorem boundAll_nil (b : Int) (w : World) : Calls Tryz.prog 37 #[.pointer none, .int .i64 b] w fun e w' => e = .returned (.int .i64 0) ∧ w' = w := by
  go_enter Tryz.func37, Tryz.ntmps37
  go_wp2
  go_ret
  exact ⟨rfl, rfl⟩
set_option maxHeartbeats 4000000 in
set_option maxRecDepth 20000 in
theorem boundAll_in {w0 w : World} {R : HP} {cb sc N : Nat} {sa : Option Addr} {co : Co} (h : St w0 w [coP cb sa sc co N, R]) (b : Int) (hb : 1 ≤ b) (hN : N < 2 ^ 28) : Calls Tryz.prog 37 #[.pointer (some ⟨cb, 0, none⟩), .int .i64 b] w fun e w' => e = .returned (.int .i64 (allM co b 8)) ∧ St w0 w' [coP cb sa sc co N, R] := by
  have H0 := Lib.hid h
  clear h
  go_enter Tryz.func37, Tryz.ntmps37
  go_wp2_with fail
  go_loopw [5, 6, 12] (fun ov av iv wr => ∃ (t : Nat) (m : Int) (an : Bool), t ≤ 8 ∧ m = allM co b t ∧ 0 ≤ m ∧ (an = false → m = 0) ∧ ov = .int .i64 m ∧ av = .bool an ∧ iv = .int .i64 t ∧ St w0 wr [coP cb sa sc co N, R]) (fun _ _ iv _ => 8 - (RowKit.intOf iv).toNat)
  case atStart => exact ⟨0, 0, false, by omega, rfl, by omega, fun _ => rfl, rfl, rfl, rfl, H0.out⟩
  case round =>
    clear H0
    obtain ⟨t, m, an, ht, hm, hm0, han, rfl, rfl, rfl, hst⟩ := hrel
    have hsu := allM_succ co b t
    rw [← hm] at hsu
    by_cases hlt : (t : Int) < 8
    · have HC := Lib.hid (coreCell_in hst (t : Int) hN)
      have HSU := Lib.hid hsu
      have HM := Lib.hid hm
      clear hst hsu hm
      go_upto_region 8 with (go_at_call 29; (with_reducible refine HC.out.mono ?_); rintro e w2 ⟨p, rfl, h2⟩; have H2 := Lib.hid h2; clear h2 HC)
      rcases hc : co.at (t : Int) with _ | c
      · have h2 := H2.out
        rw [hc] at h2 HSU
        have hp := optP_none h2 2 rfl
        subst hp
        rw [show ptrV none = .pointer none from rfl]
        have H3 := Lib.hid (h2.pick [0, 1] (by decide))
        clear h2 H2 hc
        go_wp2_with fail
        go_roundw
        case rel => exact ⟨t + 1, m, an, by omega, HSU.out.symm, hm0, han, rfl, rfl, by go_num, H3.out⟩
        case measure => simp [RowKit.intOf]; omega
      · have h2 := H2.out
        rw [hc] at h2 HSU
        obtain ⟨d, hp⟩ := optP_some h2 2 rfl
        subst hp
        rw [show ptrV (some d) = .pointer (some ⟨d, 0, none⟩) from rfl]
        have h2 : St w0 w2 [coP cb sa sc co N, R, clP d c N] := h2
        have HBT := Lib.hid (boundTicks_st h2 2 rfl b hN)
        obtain ⟨t0, t1⟩ := ticksOf_nonneg c.q.length b hb
        have HSU2 : RowKit.Hid (allM co b (t + 1) = max m (ticksOf c.q.length b)) := HSU
        clear h2 H2 hc HSU
        generalize ticksOf c.q.length b = tk at *
        cases an with
        | false =>
          have h0 := han rfl
          subst h0
          go_wp2_with (go_at_call 35; (with_reducible refine HBT.out.mono ?_); rintro e w3 ⟨rfl, h3⟩; have H3 := Lib.hid (h3.pick [0, 1] (by decide)); clear h3 HBT)
          go_roundw
          case rel => exact ⟨t + 1, tk, true, by omega, by rw [HSU2.out]; omega, t0, (fun h => by cases h), rfl, rfl, by go_num, H3.out⟩
          case measure => simp [RowKit.intOf]; omega
        | true =>
          by_cases hgt : m < tk
          · go_wp2_with (go_at_call 35; (with_reducible refine HBT.out.mono ?_); rintro e w3 ⟨rfl, h3⟩; have H3 := Lib.hid (h3.pick [0, 1] (by decide)); clear h3 HBT)
            go_roundw
            case rel => exact ⟨t + 1, tk, true, by omega, by rw [HSU2.out]; omega, t0, (fun h => by cases h), rfl, rfl, by go_num, H3.out⟩
            case measure => simp [RowKit.intOf]; omega
          · go_wp2_with (go_at_call 35; (with_reducible refine HBT.out.mono ?_); rintro e w3 ⟨rfl, h3⟩; have H3 := Lib.hid (h3.pick [0, 1] (by decide)); clear h3 HBT)
            go_roundw
            case rel => exact ⟨t + 1, m, true, by omega, by rw [HSU2.out]; omega, hm0, (fun h => by cases h), rfl, rfl, by go_num, H3.out⟩
            case measure => simp [RowKit.intOf]; omega
    · obtain rfl : t = 8 := by omega
      have HST := Lib.hid hst
      clear hst hsu
      go_wp2_with fail
      go_ret
      exact ⟨rfl, HST.out⟩
end Go.Proofs.YtdncpihaeobaeaaGreat
