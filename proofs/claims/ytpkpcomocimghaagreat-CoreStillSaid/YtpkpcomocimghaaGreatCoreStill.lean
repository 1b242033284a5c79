/- The walk of CoreStill. -/
import Derived.Test.YtpkpcomocimghaaGreatSetLaw
import Derived.Test.YtpkpcomocimghaaGreatStillLaw
import Derived.Test.YtpkpcomocimghaaGreatDoLit
set_option linter.unusedVariables false
set_option linter.unusedSimpArgs false
namespace Go.Proofs.YtpkpcomocimghaaGreat
open Go.RowKit
theorem plain_ok {a : ActM} (h3 : a.p.ops = []) (h5 : -4611686018427387904 ≤ a.fr) (h6 : a.fr ≤ 4611686018427387904) (h4 : a.i = Inp.zero) : a.ok :=
  ⟨fun o ho => (by rw [h3] at ho; cases ho), (by rw [h4]; exact ⟨by decide, by decide, by decide, by decide⟩), h5, h6, (by rw [h3]; decide)⟩
theorem bit_val : ∀ dst : Fin 256, ∀ t : Fin 8, bits .and .u64 ((dst.val : Int) / 2 ^ t.val) 1 = if hasB (dst.val : Int) (t.val : Int) then 1 else 0 := by decide +kernel
theorem bit_of (q : SinkQ) (t : Nat) (ht : t < 8) : bits .and .u64 ((sinkOf q).dst / 2 ^ t) 1 = if bit1 (sinkOf q).dst t then 1 else 0 := by
  obtain ⟨_, _, h3, h4, _⟩ := sinkOf_range q
  have := bit_val ⟨(sinkOf q).dst.toNat, by omega⟩ ⟨t, ht⟩
  simp only at this
  rw [Int.toNat_of_nonneg h3] at this
  exact this
theorem cellNone_in {w0 w : World} {R : HP} {cb sc N : Nat} {sa : Option Addr} {co : Co} (h : St w0 w [coP cb sa sc co N, R]) (t : Int) (hN : N < 2 ^ 28) (hn : co.at t = none) : Calls Tryz.prog 28 #[.pointer (some ⟨cb, 0, none⟩), .int .i64 t] w fun x w' => x = .returned (.pointer none) ∧ St w0 w' [coP cb sa sc co N, R] := by
  refine (coreCell_in h t hN).mono ?_
  rintro x w' ⟨p, rfl, hst⟩
  rw [hn] at hst
  cases p with
  | none => exact ⟨rfl, hst.pick [0, 1] (by decide)⟩
  | some b =>
    obtain ⟨F, hF⟩ := hst.at 2 rfl
    exact hF.elim
theorem wantS_take (l : List Sk) (t m i : Nat) (hi : i < l.length) (x : Sk) (hx : l[i] = x) : wantS (l.take (i + 1)) t m = wantS (l.take i) t m + if bit1 x.dst t then m / x.ticks.toNat else 0 := by
  rw [List.take_add_one, List.getElem?_eq_getElem hi, hx]
  unfold wantS
  simp
theorem page_min {i W got p : Nat} (h2 : min (32 * i) W = got) (h1 : p = min 32 (W - got)) : min (32 * (i + 1)) W = got + p := by omega
theorem page_end {W got : Nat} (h : min (32 * 20) W = got) (hW : W ≤ 60) : got = W := by omega
theorem page_le {W got tl : Nat} (h : tl = min 32 (W - got)) : tl ≤ 32 := by omega
theorem page_got {i W got : Nat} (h : min (32 * i) W = got) : got ≤ W := by omega
def tickR0 : ActR := ⟨3, 0, 0, 0, none, 0, Pp.zero, Inp.zero⟩
def toldR (t : Nat) (got : Int) : ActR := ⟨5, t, got, 99, none, 0, Pp.zero, Inp.zero⟩
def pollR (t : Nat) : ActR := ⟨4, t, 0, 0, none, 0, Pp.zero, Inp.zero⟩
set_option maxHeartbeats 16000000 in
set_option maxRecDepth 20000 in
theorem CoreStill_any (w : World) (cs : Array Value) (k : SetQ) (hk : isStq w cs.toList k) (n : Int) (hn : (Lit.int .i64 n).wf = true) :
    Calls Tryz.prog 8 #[.agg cs, .int .i64 n] w fun e w' => e = .returned (.bool true) ∧ Below w.heap.size w w' := by
  obtain ⟨ka, kc, hcs, hks, hkw, hkl⟩ := hk
  obtain rfl : cs = #[.int .i64 k.budget, .int .i64 k.room, .int .i64 k.quota, .slice ka k.sinks.length kc] := by
    obtain ⟨cl⟩ := cs
    dsimp only at hcs
    rw [hcs]
  clear hcs
  have hrn := i64_range hn
  have h0 : St w (w.alloc (.cells #[.int .i64 k.budget, .int .i64 k.room, .int .i64 k.quota, .slice ka k.sinks.length kc] 56)) [pt w.heap.size (.cells #[.int .i64 k.budget, .int .i64 k.room, .int .i64 k.quota, .slice ka k.sinks.length kc] 56 (0, 0))] := (St.start w).alloc (.cells #[.int .i64 k.budget, .int .i64 k.room, .int .i64 k.quota, .slice ka k.sinks.length kc] 56)
  have hse := setup_st h0 k ka kc (Seen.old hks) hkw hkl (sksOf k) rfl
  have k0 := (blkCells (h0.blk 0 rfl).1).1
  have k1 := (k0 0).trans rfl
  have k2 := (k0 1).trans rfl
  have k3 := (k0 2).trans rfl
  have k4 := (k0 3).trans rfl
  have HSE := Lib.hid hse
  have hsl := sksOf_len k
  have HSW := Lib.hid (sksOf_wf k)
  have HRK := Lib.hid (show ∀ x ∈ (suOf k).sinks, 1 ≤ x.ticks ∧ 2 ≤ x.least by
    intro x hx
    obtain ⟨q, rfl⟩ := sksOf_of k x hx
    obtain ⟨_, _, _, _, h5, _, _, _, h9, _⟩ := sinkOf_range q
    exact ⟨h9, h5⟩)
  clear h0 hse k0 hks hkw hkl hn
  go_enter Tryz.func8, Tryz.ntmps8
  go_upto_region 2 with (go_at_call 20; (with_reducible refine HSE.out.mono ?_); rintro e w1 ⟨na, nc, rfl, h1⟩; have H1 := Lib.hid (h1.alloc (.cells #[.int .i64 (within k.budget 1 4), .int .i64 (within k.room 1 8), .int .i64 (within k.quota 0 30), .slice na (sksOf k).length nc] 26)); clear h1 HSE)
  refine wp_at H1.out ?_
  intro w3 h3
  generalize w1.heap.size = g at *
  have h3 : St w w3 [pt w.heap.size (.cells #[.int .i64 k.budget, .int .i64 k.room, .int .i64 k.quota, .slice ka k.sinks.length kc] 56 (0, 0)), ownP 69 5 Sk.cells (.slice na (sksOf k).length nc) (sksOf k), pt g (.cells #[.int .i64 (within k.budget 1 4), .int .i64 (within k.room 1 8), .int .i64 (within k.quota 0 30), .slice na (sksOf k).length nc] 26 (0, 0))] := h3
  clear H1
  obtain ⟨zz, _⟩ := blkCells (h3.blk 2 rfl).1
  have z0 := (zz 0).trans rfl
  have z1 := (zz 1).trans rfl
  have z2 := (zz 2).trans rfl
  have z3 := (zz 3).trans rfl
  clear zz
  have hne := coreNew_st h3 (suOf k) na nc (h3.slOf Sk.len 1 rfl) (sk_nil h3 1 rfl) (suOf_right k) HSW.out
  have hne : Calls Tryz.prog 14 #[.agg #[.int .i64 (within k.budget 1 4), .int .i64 (within k.room 1 8), .int .i64 (within k.quota 0 30), .slice na (sksOf k).length nc]] w3 _ := hne
  have HNE := Lib.hid hne
  obtain ⟨m, hm, hm2⟩ : ∃ m : Nat, within n 0 30 = m ∧ m ≤ 30 := ⟨(within n 0 30).toNat, by have := within_range n 0 30 (by omega); omega, by have := within_range n 0 30 (by omega); omega⟩
  have hwi := fun w' => Within_at n 0 30 w' hrn.1 hrn.2 (by omega) (by omega) (by omega)
  rw [hm] at hwi
  have HWI := Lib.hid hwi
  clear hne h3 hwi hm
  go_wp2_with (first
    | (go_at_call 14; (with_reducible refine HNE.out.mono ?_); rintro e w4 ⟨cb, ma, mc, rfl, h4⟩; clear z0 z1 z2 z3; have h4 : St w w4 [pt w.heap.size (.cells #[.int .i64 k.budget, .int .i64 k.room, .int .i64 k.quota, .slice ka k.sinks.length kc] 56 (0, 0)), ownP 69 5 Sk.cells (.slice na (sksOf k).length nc) (sksOf k), pt g (.cells #[.int .i64 (within k.budget 1 4), .int .i64 (within k.room 1 8), .int .i64 (within k.quota 0 30), .slice na (sksOf k).length nc] 26 (0, 0)), coP cb ma mc (newCo (suOf k)) 0, ownP 69 5 Sk.cells (.slice ma (sksOf k).length mc) (sksOf k)] := h4; have H4 := Lib.hid h4; clear h4 HNE)
    | (go_at_call 22; (with_reducible refine (HWI.out _).mono ?_); rintro e wz ⟨rfl, hwz⟩; subst hwz))
  go_loopw [26] (fun iv wr => ∃ j : Nat, j ≤ m ∧ iv = .int .i64 j ∧ ∃ co, stillAt co (suOf k) j ∧ St w wr [pt w.heap.size (.cells #[.int .i64 k.budget, .int .i64 k.room, .int .i64 k.quota, .slice ka k.sinks.length kc] 56 (0, 0)), ownP 69 5 Sk.cells (.slice na (sksOf k).length nc) (sksOf k), pt g (.cells #[.int .i64 (within k.budget 1 4), .int .i64 (within k.room 1 8), .int .i64 (within k.quota 0 30), .slice na (sksOf k).length nc] 26 (0, 0)), coP cb ma mc co (9 * j), ownP 69 5 Sk.cells (.slice ma (sksOf k).length mc) (sksOf k)]) (fun iv _ => m - (intOf iv).toNat)
  case atStart => exact ⟨0, by omega, rfl, _, still_start _ (suOf_right k), H4.out⟩
  case round =>
    clear H4
    obtain ⟨j, hj, rfl, co, hco, hst⟩ := hrel
    by_cases hlt : (j : Int) < m
    · have h5 : St w (wr.alloc (.cells #[.int .i64 3, .int .i64 0, .int .i64 0, .int .i64 0, .slice none 0 0, .int .i64 0, .int .i64 0, .int .i64 0, .int .i64 0, .int .i64 0, .bool false, .int .i64 0, .int .i64 0, .int .i64 0, .int .u64 0] 38)) [pt w.heap.size (.cells #[.int .i64 k.budget, .int .i64 k.room, .int .i64 k.quota, .slice ka k.sinks.length kc] 56 (0, 0)), ownP 69 5 Sk.cells (.slice na (sksOf k).length nc) (sksOf k), pt g (.cells #[.int .i64 (within k.budget 1 4), .int .i64 (within k.room 1 8), .int .i64 (within k.quota 0 30), .slice na (sksOf k).length nc] 26 (0, 0)), coP cb ma mc co (9 * j), ownP 69 5 Sk.cells (.slice ma (sksOf k).length mc) (sksOf k), pt wr.heap.size (.cells #[.int .i64 3, .int .i64 0, .int .i64 0, .int .i64 0, .slice none 0 0, .int .i64 0, .int .i64 0, .int .i64 0, .int .i64 0, .int .i64 0, .bool false, .int .i64 0, .int .i64 0, .int .i64 0, .int .u64 0] 38 (0, 0))] := hst.alloc (.cells #[.int .i64 3, .int .i64 0, .int .i64 0, .int .i64 0, .slice none 0 0, .int .i64 0, .int .i64 0, .int .i64 0, .int .i64 0, .int .i64 0, .bool false, .int .i64 0, .int .i64 0, .int .i64 0, .int .u64 0] 38)
      have hdo := doLit_st h5 3 4 5 rfl rfl (by rw [hco.su]; rfl) tickR0 rfl rfl (by decide) (by decide) rfl rfl rfl (plain_ok rfl (by decide) (by decide) rfl) (by omega) _ rfl
      have HDO := Lib.hid hdo
      have HCO := Lib.hid (still_tick co (suOf k) j HRK.out hco)
      clear h5 hdo hst hco
      go_wp2_with (go_at_call 16; (with_reducible refine HDO.out.mono ?_); rintro e w5 ⟨ua, uc, u, rfl, hu1, huv, h6⟩; have H6 := Lib.hid (h6.pick [0, 1, 2, 3, 4] (by decide)); clear h6 HDO huv)
      go_roundw
      case rel => exact ⟨j + 1, by omega, by go_num, _, HCO.out, H6.out⟩
      case measure => simp [intOf]; omega
    · obtain rfl : j = m := by omega
      have H5 := Lib.hid hst
      have HCO := Lib.hid hco
      have HTK := Lib.hid hco.ticks
      have HSU := Lib.hid hco.su
      clear hst hco
      go_wp2_with fail
      go_loopw [33] (fun iv wr => ∃ t N : Nat, t ≤ 8 ∧ iv = .int .i64 t ∧ N ≤ 270 + 200 * t ∧ St w wr [pt w.heap.size (.cells #[.int .i64 k.budget, .int .i64 k.room, .int .i64 k.quota, .slice ka k.sinks.length kc] 56 (0, 0)), ownP 69 5 Sk.cells (.slice na (sksOf k).length nc) (sksOf k), pt g (.cells #[.int .i64 (within k.budget 1 4), .int .i64 (within k.room 1 8), .int .i64 (within k.quota 0 30), .slice na (sksOf k).length nc] 26 (0, 0)), coP cb ma mc co N, ownP 69 5 Sk.cells (.slice ma (sksOf k).length mc) (sksOf k)]) (fun iv _ => 8 - (intOf iv).toNat)
      case atStart => exact ⟨0, 9 * j, by omega, rfl, by omega, H5.out⟩
      case round =>
        clear H5
        obtain ⟨t, N, ht, rfl, hN, hst⟩ := hrel
        by_cases hlt8 : (t : Int) < 8
        · have ht8 : t < 8 := by omega
          obtain ⟨Wt, hWt⟩ : ∃ Wt, wantS (sksOf k) t j = Wt := ⟨_, rfl⟩
          have hWle : Wt ≤ 60 := by
            have := wantS_le (suOf k) t j
            rw [show (suOf k).sinks = sksOf k from rfl, hWt] at this
            have : (sksOf k).length * j ≤ 2 * 30 := Nat.mul_le_mul hsl hm2
            omega
          have HWT := Lib.hid hWt
          have HST := Lib.hid hst
          obtain ⟨zz, _⟩ := blkCells (hst.blk 2 rfl).1
          have z3 : wr.cell? ⟨g, 3, none⟩ = some (.slice na (sksOf k).length nc) := (zz 3).trans rfl
          obtain ⟨na', nc', e1, hnl, _⟩ := hst.sl Sk.len 1 rfl
          cases e1
          clear zz hst hWt
          go_wp2_with fail
          go_loopw [9, 39] (fun wv iv wr => ∃ i : Nat, i ≤ (sksOf k).length ∧ iv = .int .i64 i ∧ wv = .int .i64 (wantS ((sksOf k).take i) t j : Nat) ∧ St w wr [pt w.heap.size (.cells #[.int .i64 k.budget, .int .i64 k.room, .int .i64 k.quota, .slice ka k.sinks.length kc] 56 (0, 0)), ownP 69 5 Sk.cells (.slice na (sksOf k).length nc) (sksOf k), pt g (.cells #[.int .i64 (within k.budget 1 4), .int .i64 (within k.room 1 8), .int .i64 (within k.quota 0 30), .slice na (sksOf k).length nc] 26 (0, 0)), coP cb ma mc co N, ownP 69 5 Sk.cells (.slice ma (sksOf k).length mc) (sksOf k)]) (fun _ iv _ => (sksOf k).length - (intOf iv).toNat)
          case atStart => exact ⟨0, by omega, rfl, rfl, HST.out⟩
          case round =>
            clear HST
            obtain ⟨i, hi, rfl, rfl, hst⟩ := hrel
            by_cases hli : (i : Int) < (sksOf k).length
            · have hin : i < (sksOf k).length := by omega
              obtain ⟨b, o, rfl, hbl, c0, c1, c2, c3, c4⟩ := (hst.slOf Sk.len 1 rfl).skAt i hin
              obtain ⟨q, hq⟩ := sksOf_of k _ (List.getElem_mem hin)
              have hbit := bit_of q t ht8
              obtain ⟨_, _, _, _, _, _, _, _, ht1, ht6⟩ := sinkOf_range q
              have htk := wantS_take (sksOf k) t j i hin _ hq
              have hle := wantS_le (suOf k) t j
              have hgd : (sksOf k).getD i Sk.zero = sinkOf q := by rw [List.getD_eq_getElem?_getD, List.getElem?_eq_getElem hin, Option.getD_some, hq]
              rw [hgd] at c0 c1 c2 c3 c4
              clear hgd
              generalize sinkOf q = x at *
              obtain ⟨xf, xd, xl, xa, xt⟩ := x
              dsimp only at c0 c1 c2 c3 c4 hbit ht1 ht6 htk
              obtain ⟨T, rfl⟩ : ∃ T : Nat, xt = T := ⟨xt.toNat, by omega⟩
              rw [Int.toNat_natCast] at htk
              obtain ⟨W0, hW0⟩ : ∃ W0, wantS ((sksOf k).take i) t j = W0 := ⟨_, rfl⟩
              have hW0le : W0 ≤ 60 := by
                rw [← hW0]
                refine Nat.le_trans (wantS_le ⟨0, 0, 0, (sksOf k).take i⟩ t j) ?_
                have : ((sksOf k).take i).length * j ≤ 2 * 30 := Nat.mul_le_mul (by rw [List.length_take]; omega) hm2
                exact this
              rw [hW0] at htk ⊢
              have hdj : j / T ≤ 30 := Nat.le_trans (Nat.div_le_self _ _) hm2
              have hq1 : (j : Int).tdiv (T : Int) = ((j / T : Nat) : Int) := rfl
              have hq2 : (j : Int) / (T : Int) = ((j / T : Nat) : Int) := rfl
              obtain ⟨D, hD⟩ : ∃ D, j / T = D := ⟨_, rfl⟩
              rw [hD] at hdj hq1 hq2 htk
              have hT0 : (T : Int) ≠ 0 := by omega
              have hi1 : i + 1 ≤ (sksOf k).length := hin
              have hs1 : wrap64 ((W0 : Int) + (D : Int)) = (W0 : Int) + (D : Int) := wrap64_id (by omega) (by omega)
              have hs2 : wrap64 (D : Int) = (D : Int) := wrap64_id (by omega) (by omega)
              clear hD
              have HS1 := Lib.hid hs1
              have HST := Lib.hid hst
              have h5 := hst.alloc (.cells #[.int .u64 xf, .int .u64 xd, .int .i64 xl, .int .i64 xa, .int .i64 (T : Int)] 69)
              have H5 := Lib.hid h5
              have HTK := Lib.hid htk
              clear h5 hst htk hle hq hW0
              by_cases hb : bit1 xd t = true
              · rw [if_pos hb] at hbit HTK
                go_wp2_with fail
                clear hs1 hs2 hq1 hq2 hbit
                go_roundw
                case rel => exact ⟨i + 1, hi1, by go_num, congrArg (Value.int IntKind.i64) (by rw [HTK.out, HS1.out, Int.natCast_add]), H5.out.pick [0, 1, 2, 3, 4] (by decide)⟩
                case measure => simp [intOf]; omega
              · rw [if_neg hb] at hbit HTK
                go_wp2_with fail
                clear hs1 hs2 hq1 hq2 hbit
                go_roundw
                case rel => exact ⟨i + 1, hi1, by go_num, by rw [HTK.out]; try rfl, H5.out.pick [0, 1, 2, 3, 4] (by decide)⟩
                case measure => simp [intOf]; omega
            · obtain rfl : i = (sksOf k).length := by omega
              rw [List.take_length, HWT.out]
              have HST := Lib.hid hst
              clear hst
              go_wp2_with fail
              go_loopw [12, 56] (fun gv iv wr => ∃ i N2 : Nat, i ≤ 20 ∧ iv = .int .i64 i ∧ gv = .int .i64 (min (32 * i) Wt : Nat) ∧ N2 ≤ N + 9 * i ∧ St w wr [pt w.heap.size (.cells #[.int .i64 k.budget, .int .i64 k.room, .int .i64 k.quota, .slice ka k.sinks.length kc] 56 (0, 0)), ownP 69 5 Sk.cells (.slice na (sksOf k).length nc) (sksOf k), pt g (.cells #[.int .i64 (within k.budget 1 4), .int .i64 (within k.room 1 8), .int .i64 (within k.quota 0 30), .slice na (sksOf k).length nc] 26 (0, 0)), coP cb ma mc co N2, ownP 69 5 Sk.cells (.slice ma (sksOf k).length mc) (sksOf k)]) (fun _ iv _ => 20 - (intOf iv).toNat)
              case atStart => exact ⟨0, N, by omega, rfl, by simp, by omega, HST.out⟩
              case round =>
                clear HST
                obtain ⟨i, N2, hi, rfl, rfl, hN2, hst⟩ := hrel
                obtain ⟨got, hgot⟩ : ∃ got, min (32 * i) Wt = got := ⟨_, rfl⟩
                rw [hgot]
                have hgw : got ≤ Wt := page_got hgot
                have HGX := Lib.hid hgot
                clear hgot
                by_cases hli : (i : Int) < 20
                · obtain ⟨f1, f2, f3⟩ := still_told co (suOf k) j t got ht8 HCO.out (by rw [show (suOf k).sinks = sksOf k from rfl, HWT.out]; exact hgw)
                  rw [show (suOf k).sinks = sksOf k from rfl, HWT.out] at f2
                  have h5 := hst.alloc (.cells #[.int .i64 5, .int .i64 t, .int .i64 got, .int .i64 99, .slice none 0 0, .int .i64 0, .int .i64 0, .int .i64 0, .int .i64 0, .int .i64 0, .bool false, .int .i64 0, .int .i64 0, .int .i64 0, .int .u64 0] 38)
                  have hdo := doLit_st h5 3 4 5 rfl rfl (by rw [HSU.out]; rfl) (toldR t got) rfl rfl (by decide) (by decide) rfl rfl rfl (plain_ok rfl (by show _ ≤ (got : Int); omega) (by show (got : Int) ≤ _; omega) rfl) (by omega) _ rfl
                  have e1 : (co.do1 (toldR t got).val).2 = co := f1
                  rw [e1] at hdo
                  have HDO := Lib.hid hdo
                  have HF2 := Lib.hid f2
                  have HF3 := Lib.hid f3
                  have HG := HGX
                  clear h5 hdo hst f1 f2 f3 e1 HGX
                  go_wp2_with (go_at_call 16; (with_reducible refine HDO.out.mono ?_); rintro e w5 ⟨ua, uc, u, rfl, hu1, huv, h6⟩; obtain ⟨b6, o6, rfl, hb6, c0, c1, c2⟩ := (h6.slOf AnsR.len 6 rfl).ansAt 0 (by show 0 < 1; omega) u rfl; simp only [Nat.zero_mul, Nat.add_zero] at c0 c1 c2; have htl : u.told.length = min 32 (Wt - got) := (congrArg (fun a : Ans => a.told.length) huv).trans HF2.out; have hto : ∀ r ∈ u.told, r.hidden = true ∧ r.value = 0 := by { intro r hr; exact HF3.out r ((congrArg Ans.told huv) ▸ hr) }; have hfw : ∀ x ∈ ([u].map AnsR.val), x.rows.length ≤ 32 ∧ x.told.length ≤ 32 := by { intro x hx; have hx : x = AnsR.val u := (by simpa using hx); rw [hx, huv]; exact do1_few _ _ }; obtain ⟨an, _⟩ := ansRead h6 6 7 rfl rfl hfw 0 (by show 0 < 1; omega) u rfl; obtain ⟨ue, ura, urc, ur, uta, utc, ut⟩ := u; dsimp only at c2 htl hto hfw; obtain ⟨tl, htn⟩ : ∃ tl, ut.length = tl := ⟨_, rfl⟩; rw [htn] at c2 htl; have htl1 : tl ≤ 32 := page_le htl; have hup : tl ≤ utc := (by rw [← htn]; exact an.2.2.2.1); have HTL := Lib.hid htl; have HTN := Lib.hid htn; have HTO := Lib.hid hto; have HFW := Lib.hid hfw; have H6 := Lib.hid h6; clear h6 huv htl htn hto hfw an HDO)
                  go_loopw [80] (fun iv wq => ∃ p : Nat, p ≤ tl ∧ iv = .int .i64 p ∧ St w wq [pt w.heap.size (.cells #[.int .i64 k.budget, .int .i64 k.room, .int .i64 k.quota, .slice ka k.sinks.length kc] 56 (0, 0)), ownP 69 5 Sk.cells (.slice na (sksOf k).length nc) (sksOf k), pt g (.cells #[.int .i64 (within k.budget 1 4), .int .i64 (within k.room 1 8), .int .i64 (within k.quota 0 30), .slice na (sksOf k).length nc] 26 (0, 0)), coP cb ma mc co (N2 + 9), ownP 69 5 Sk.cells (.slice ma (sksOf k).length mc) (sksOf k), pt wr.heap.size (.cells #[.int .i64 5, .int .i64 t, .int .i64 got, .int .i64 99, .slice none 0 0, .int .i64 0, .int .i64 0, .int .i64 0, .int .i64 0, .int .i64 0, .bool false, .int .i64 0, .int .i64 0, .int .i64 0, .int .u64 0] 38 (0, 0)), ownP 48 3 AnsR.cells (.slice (some ⟨b6, o6, none⟩) 1 uc) [(⟨ue, ura, urc, ur, uta, utc, ut⟩ : AnsR)], poolP ansP [(⟨ue, ura, urc, ur, uta, utc, ut⟩ : AnsR)]]) (fun iv _ => tl - (intOf iv).toNat)
                  case atStart => exact ⟨0, by omega, rfl, H6.out⟩
                  case round =>
                    clear H6
                    obtain ⟨p, hp, rfl, hst⟩ := hrel
                    by_cases hlp : (p : Int) < tl
                    · have hpn : p < ut.length := by have := HTN.out; omega
                      obtain ⟨r, hr⟩ : ∃ r, ut[p] = r := ⟨_, rfl⟩
                      obtain ⟨hh1, hh2⟩ := HTO.out r (by rw [← hr]; exact List.getElem_mem hpn)
                      obtain ⟨an, _⟩ := ansRead hst 6 7 rfl rfl HFW.out 0 (by show 0 < 1; omega) _ rfl
                      obtain ⟨b7, o7, e7, hb7, d0, d1, d2, d3⟩ := an.2.1.atRe p hpn r hr
                      have e7 : uta = some ⟨b7, o7, none⟩ := e7
                      subst e7
                      obtain ⟨rs, re, rv, rh⟩ := r
                      dsimp only at hh1 hh2 d0 d1 d2 d3
                      subst hh1 hh2
                      have H5 := Lib.hid (hst.alloc (.cells #[.int .i64 rs, .int .i64 re, .int .i64 0, .bool true] 43))
                      clear hst hr an
                      go_wp2_with fail
                      go_roundw
                      case rel => exact ⟨p + 1, by omega, by go_num, H5.out.pick [0, 1, 2, 3, 4, 5, 6, 7] (by decide)⟩
                      case measure => simp [intOf]; omega
                    · obtain rfl : p = tl := by omega
                      have HST := Lib.hid (hst.pick [0, 1, 2, 3, 4] (by decide))
                      obtain ⟨b9, o9, e9, hb9, d0, d1, d2⟩ := (hst.slOf AnsR.len 6 rfl).ansAt 0 (by show 0 < 1; omega) _ rfl
                      cases e9
                      simp only [Nat.zero_mul, Nat.add_zero] at d0 d1 d2
                      have d2 : wr.cell? ⟨b6, o6 + 2, none⟩ = some (.slice uta ut.length utc) := d2
                      rw [HTN.out] at d2
                      have hi1 : i + 1 ≤ 20 := by omega
                      have hN3 : N2 + 9 ≤ N + 9 * (i + 1) := by omega
                      have hsum : wrap64 ((got : Int) + (p : Int)) = (got : Int) + (p : Int) := wrap64_id (by omega) (by omega)
                      have HSUM := Lib.hid hsum
                      clear hst
                      go_wp2_with fail
                      clear hsum
                      go_roundw
                      case rel => exact ⟨i + 1, N2 + 9, hi1, by go_num, congrArg (Value.int IntKind.i64) (by rw [page_min HG.out HTL.out, HTN.out, HSUM.out, Int.natCast_add]), hN3, HST.out⟩
                      case measure => simp [intOf]; omega
                · obtain rfl : i = 20 := by omega
                  obtain rfl : got = Wt := page_end HGX.out hWle
                  have h5 := hst.alloc (.cells #[.int .i64 4, .int .i64 t, .int .i64 0, .int .i64 0, .slice none 0 0, .int .i64 0, .int .i64 0, .int .i64 0, .int .i64 0, .int .i64 0, .bool false, .int .i64 0, .int .i64 0, .int .i64 0, .int .u64 0] 38)
                  obtain ⟨f1, f2⟩ := still_poll co (suOf k) j t ht8 HCO.out
                  have hdo := doLit_st h5 3 4 5 rfl rfl (by rw [HSU.out]; rfl) (pollR t) rfl rfl (by decide) (by decide) rfl rfl rfl (plain_ok rfl (show -4611686018427387904 ≤ (0 : Int) by decide) (show (0 : Int) ≤ 4611686018427387904 by decide) rfl) (by omega) _ rfl
                  have e1 : (co.do1 (pollR t).val).2 = co := f1
                  rw [e1] at hdo
                  have HDO := Lib.hid hdo
                  have HER := Lib.hid f2
                  have HCX := Lib.hid (show co.at (t : Int) = none by rw [at_x co t ht8]; exact HCO.out.cells t)
                  clear h5 hdo hst f1 f2 e1 HGX
                  go_wp2_with (first
                    | (go_at_call 28; (with_reducible refine HCE.out.mono ?_); rintro e w7 ⟨rfl, h8⟩; have H8 := Lib.hid (h8.back (n := 3) (by simp)); clear h8 HCE)
                    | (go_at_call 16; (with_reducible refine HDO.out.mono ?_); rintro e w5 ⟨ua, uc, u, rfl, hu1, huv, h6⟩; obtain ⟨b6, o6, rfl, hb6, c0, _, _⟩ := (h6.slOf AnsR.len 6 rfl).ansAt 0 (by show 0 < 1; omega) u rfl; simp only [Nat.zero_mul, Nat.add_zero] at c0; rw [show u.err = 2 from (congrArg Ans.err huv).trans HER.out] at c0; have HCE := Lib.hid (cellNone_in (h6.front 3 rfl) (t : Int) (by omega) HCX.out); clear h6 huv HDO))
                  go_roundw
                  case rel => exact ⟨t + 1, N2 + 9, by omega, by go_num, by omega, H8.out.pick [0, 1, 2, 3, 4] (by simp)⟩
                  case measure => simp [intOf]; omega
        · have HTI := Lib.hid (ticks_in (hst.front 3 rfl))
          have HST := Lib.hid hst
          have HCR := Lib.hid (CoreRuns_any wr)
          rw [HTK.out] at HTI
          clear hst
          go_wp2_with (first
            | (go_at_call 19; (with_reducible refine HTI.out.mono ?_); rintro e wz ⟨rfl, hwz⟩; subst hwz)
            | (go_at_call 3; (with_reducible refine HCR.out.mono ?_); rintro e w8 ⟨rfl, hb8⟩; have H8 := Lib.hid (HST.out.kept hb8); clear hb8 HCR))
          go_ret
          exact ⟨rfl, H8.out.below⟩
end Go.Proofs.YtpkpcomocimghaaGreat
