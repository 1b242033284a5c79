/- The walk of WholePrefix. -/
import Derived.Test.YtjkflblbcodnoaaPreLaw
import Derived.Test.YtjkflblbcodnoaaPrefix
import Derived.Test.YtjkflblbcodnoaaWholeRuns
import Derived.Test.YtjkflblbcodnoaaStore
set_option linter.unusedVariables false
set_option linter.unusedSimpArgs false
namespace Go.Proofs.Ytjkflblbcodnoaa
open Go.RowKit Go.Maps
theorem rows_len {w0 w : World} {L : List HP} (h : St w0 w L) (p : Pp) (a : Option Addr) (cap : Nat) (hl : SlAt 2 (flat Opr.cells) w a p.ops) (hnil : a = none → cap = 0) (hw : ∀ o ∈ p.ops, o.wf) (hlen : p.ops.length ≤ 6) (hr : rightPp p = true)
    (ia : Option Addr) (k ic : Nat) (l : List Inp) (hk : l.length = k) (hi : Seen w0 (sepL L) 5 Inp.cells ia l) (hiw : ∀ i ∈ l, i.ev.wf) (hil : l.length < 2 ^ 29) :
    Calls Try.prog 39 #[.agg #[.slice a p.ops.length cap, .int .i64 p.size, .int .i64 p.slide, .int .i64 p.agg, .int .i64 p.sink, .int .i64 p.feed], .slice ia k ic] w fun e w' => ∃ v, e = .returned v ∧ St w0 w' (L ++ [ownP 45 5 Rw.cells v (wholeRows p l)]) := by
  subst hk
  exact rows_st h p a cap hl hnil hw hlen hr ia ic l hi hiw hil
theorem prefix_at {w0 w : World} {L : List HP} (h : St w0 w L) {l l' : List Rw} {b : Bool} (hb : b = true ↔ l <+: l') (x y : Option Addr) (k k' cx cy : Nat) (hk : l.length = k) (hk' : l'.length = k') (hx : SlAt 5 (flat Rw.cells) w x l) (hy : SlAt 5 (flat Rw.cells) w y l') (hlen : k ≤ 1099511627776) (hlen' : k' ≤ 1099511627776) (hcx : k ≤ cx) (hcy : k' ≤ cy) :
    Calls Try.prog 51 #[.slice x k cx, .slice y k' cy] w fun e w' => e = .returned (.bool b) ∧ St w0 w' L := by
  subst hk
  subst hk'
  cases b with
  | true => exact (Prefix_yes l l' (hb.1 rfl) x y cx cy w hx hy hlen hlen' hcx hcy).mono fun e w' h' => ⟨h'.1, h.kept h'.2⟩
  | false => exact (Prefix_no l l' (fun hp => by cases hb.2 hp) x y cx cy w hx hy hlen hlen' hcx hcy).mono fun e w' h' => ⟨h'.1, h.kept h'.2⟩
theorem inputs_low (l : List InQ) : ∀ i ∈ inputsOf l, i.ev.wf ∧ i.ev.time ≤ 160 := by
  intro i hi
  refine ⟨inputs_wf l i hi, ?_⟩
  obtain ⟨q, _, rfl⟩ := List.mem_map.1 hi
  unfold inpOf
  split
  · have := within_range q.time 0 160 (by omega); dsimp only; omega
  · have := within_range q.time 0 120 (by omega); dsimp only; omega
set_option maxHeartbeats 4000000 in
set_option maxRecDepth 20000 in
theorem WholePrefix_any (w : World) (cs : Array Value) (k : PipeQ) (hk : isPq w cs.toList k) (al : Option Addr) (cap : Nat) (l : List InQ) (hle : l.length ≤ cap) (hmx : cap ≤ maxLen) (hnil : al = none → cap = 0) (hl : SlAt 4 isIq w al l) (cut : Int) (hcut : (Lit.int .i64 cut).wf = true) (other : Int) (hother : (Lit.int .i64 other).wf = true) :
    Calls Try.prog 15 #[.agg cs, .slice al l.length cap, .int .i64 cut, .int .i64 other] w fun e w' => e = .returned (.bool true) ∧ Below w.heap.size w w' := by
  obtain ⟨ao, co, an, cn, hcs, hso, hsn, hkw⟩ := hk
  obtain rfl : cs = #[.slice ao k.ops.length co, .slice an k.ns.length cn, .int .i64 k.size, .int .i64 k.slide, .int .i64 k.agg, .int .i64 k.sink, .int .i64 k.feed] := by
    obtain ⟨cl⟩ := cs
    dsimp only at hcs
    rw [hcs]
  clear hcs
  obtain ⟨hli, hlw⟩ := hl.iq
  have hrcut := i64_range hcut
  have hrother := i64_range hother
  have hlm : l.length ≤ maxLen := by omega
  obtain ⟨hpr, hpo, hpl, hps1, hps2, hps3, hps4⟩ := pipeOf_right k
  have HPR := Lib.hid hpr
  have HPO := Lib.hid hpo
  have HLI := Lib.hid hli
  have HLW := Lib.hid hlw
  have hst0 := (St.start w).alloc (.cells #[.slice ao k.ops.length co, .slice an k.ns.length cn, .int .i64 k.size, .int .i64 k.slide, .int .i64 k.agg, .int .i64 k.sink, .int .i64 k.feed] 69)
  have HC0 := Lib.hid (pipe_st hst0 k hkw ao an co cn (Seen.old hso) (Seen.old hsn))
  clear hst0 hli hlw hl hcut hother hso hsn hkw hle hnil hpr hpo
  unfold maxLen at hmx
  generalize pipeOf k = p at *
  go_enter Try.func15, Try.ntmps15
  have hil := inputs_len l
  have HIT := Lib.hid (inputs_low l)
  have hcr := within_range cut 0 (inputsOf l).length (by omega)
  obtain ⟨c, hc⟩ : ∃ c : Nat, within cut 0 (inputsOf l).length = c := ⟨(within cut 0 (inputsOf l).length).toNat, by omega⟩
  have hce : c ≤ (inputsOf l).length := by omega
  have HCC := Lib.hid hc
  clear hc hcr
  go_wp2_with (first
    | (go_at_call 36; (with_reducible refine HC0.out.mono ?_); rintro e w1 ⟨pa, pc, rfl, hpn, hst1⟩; have HPN := Lib.hid hpn; have HS1 := Lib.hid (hst1.alloc (.cells #[.slice pa p.ops.length pc, .int .i64 p.size, .int .i64 p.slide, .int .i64 p.agg, .int .i64 p.sink, .int .i64 p.feed] 57)); have HCI := Lib.hid (inputs_st HS1.out al cap l (Seen.old HLI.out) HLW.out hlm); clear HC0 hst1 hpn)
    | (go_at_call 37; (with_reducible refine HCI.out.mono ?_); rintro e w5 ⟨vi, rfl, hst5⟩; obtain ⟨ia, ic, rfl, hic, him, hin, _⟩ := hst5.sl Inp.len 3 rfl; have HS5 := Lib.hid hst5; clear hst5 HCI)
    | (go_at_call 16; refine (Within_at _ _ _ _ (by omega) (by omega) (by omega) (by omega) (by omega)).mono ?_; rintro e wz ⟨rfl, rfl⟩; rw [HCC.out]))
  generalize inputsOf l = ins at *
  generalize w1.heap.size = g at *
  have HIN := Lib.hid hin
  clear hin
  have HS6 := Lib.hid HS5.out
  clear HS5
  have hI1 : (c : Int) ≤ ins.length := by omega
  have hI2 : (c : Int) ≤ ic := by omega
  have hI3 : (0 : Int) ≤ c := by omega
  refine wp_at HS6.out ?_
  clear HS6
  intro w6 hst6
  obtain ⟨qk, _⟩ := blkCells (hst6.blk 2 rfl).1; have hle := (hst6.blk 2 rfl).2.2; have e0 := qk 0; have e1 := qk 1; have e2 := qk 2; have e3 := qk 3; have e4 := qk 4; have e5 := qk 5; simp at e0 e1 e2 e3 e4 e5; clear qk
  have HS6 := Lib.hid hst6
  clear hst6
  have HCA := Lib.hid (rows_len HS6.out.drew p pa pc (HS6.out.drew.slOf Opr.len 1 rfl) HPN.out HPO.out (by omega) HPR.out ia c ic (ins.take c) (by simp; omega) ((Seen.own Inp.len 3 rfl).take c) (fun i hi => (HIT.out i (List.mem_of_mem_take hi)).1) (by simp; omega))
  have HCB := Lib.hid (rows_st HS6.out.drew p pa pc (HS6.out.drew.slOf Opr.len 1 rfl) HPN.out HPO.out (by omega) HPR.out ia ic ins (Seen.own Inp.len 3 rfl) (fun i hi => (HIT.out i hi).1) (by omega))
  go_cut [12, 13] from 28 to 35 (fun ux uy wx => ∃ ra rc sa sc, ux = .slice ra (wholeRows p (ins.take c)).length rc ∧ uy = .slice sa (wholeRows p ins).length sc ∧ St w wx [pt w.heap.size (.cells #[.slice ao k.ops.length co, .slice an k.ns.length cn, .int .i64 k.size, .int .i64 k.slide, .int .i64 k.agg, .int .i64 k.sink, .int .i64 k.feed] 69 (0, 0)), ownP 54 2 Opr.cells (.slice pa p.ops.length pc) p.ops, pt g (.cells #[.slice pa p.ops.length pc, .int .i64 p.size, .int .i64 p.slide, .int .i64 p.agg, .int .i64 p.sink, .int .i64 p.feed] 57 (0, 0)), ownP 64 5 Inp.cells (.slice ia ins.length ic) ins, ownP 45 5 Rw.cells (.slice ra (wholeRows p (ins.take c)).length rc) (wholeRows p (ins.take c)), ownP 45 5 Rw.cells (.slice sa (wholeRows p ins).length sc) (wholeRows p ins)])
  case first =>
    go_region_held3 (fun w' => w'.cell? ⟨g, 0, none⟩ = some (.slice pa p.ops.length pc) ∧ w'.cell? ⟨g, 1, none⟩ = some (.int .i64 p.size) ∧ w'.cell? ⟨g, 2, none⟩ = some (.int .i64 p.slide) ∧ w'.cell? ⟨g, 3, none⟩ = some (.int .i64 p.agg) ∧ w'.cell? ⟨g, 4, none⟩ = some (.int .i64 p.sink) ∧ w'.cell? ⟨g, 5, none⟩ = some (.int .i64 p.feed))
      (first | exact ⟨k0, k1, k2, k3, k4, k5⟩ | exact ⟨e0, e1, e2, e3, e4, e5⟩)
      (first
        | (go_at_call 39; (with_reducible refine HCB2.out.mono ?_); rintro e w8 ⟨v8, rfl, hst8⟩; obtain ⟨sa, sc, rfl, _, _, _, _⟩ := hst8.sl Rw.len 5 rfl; obtain ⟨qk, _⟩ := blkCells (hst8.blk 2 rfl).1; have hlk := (hst8.blk 2 rfl).2.2; have k0 := qk 0; have k1 := qk 1; have k2 := qk 2; have k3 := qk 3; have k4 := qk 4; have k5 := qk 5; simp at k0 k1 k2 k3 k4 k5; clear qk; have HZ := Lib.hid hst8; clear hst8)
        | (go_at_call 39; (with_reducible refine HCA2.out.mono ?_); rintro e w8 ⟨v8, rfl, hst8⟩; obtain ⟨ra, rc, rfl, _, _, _, _⟩ := hst8.sl Rw.len 5 rfl; obtain ⟨qk, _⟩ := blkCells (hst8.blk 2 rfl).1; have hlk := (hst8.blk 2 rfl).2.2; have k0 := qk 0; have k1 := qk 1; have k2 := qk 2; have k3 := qk 3; have k4 := qk 4; have k5 := qk 5; simp at k0 k1 k2 k3 k4 k5; clear qk; have HZ := Lib.hid (hst8.pick [0, 1, 2, 3, 5, 4] (by decide)); clear hst8)
        | (go_at_call 39; (with_reducible refine HCA.out.mono ?_); rintro e w7 ⟨v7, rfl, hst7⟩; obtain ⟨ra, rc, rfl, _, _, _, _⟩ := hst7.sl Rw.len 4 rfl; obtain ⟨qk, _⟩ := blkCells (hst7.blk 2 rfl).1; have hlk := (hst7.blk 2 rfl).2.2; have k0 := qk 0; have k1 := qk 1; have k2 := qk 2; have k3 := qk 3; have k4 := qk 4; have k5 := qk 5; simp at k0 k1 k2 k3 k4 k5; clear qk; have HA := Lib.hid hst7; have HCB2 := Lib.hid (rows_st HA.out p pa pc (HA.out.slOf Opr.len 1 rfl) HPN.out HPO.out (by omega) HPR.out ia ic ins (Seen.own Inp.len 3 rfl) (fun i hi => (HIT.out i hi).1) (by omega)); clear hst7)
        | (go_at_call 39; (with_reducible refine HCB.out.mono ?_); rintro e w7 ⟨v7, rfl, hst7⟩; obtain ⟨sa, sc, rfl, _, _, _, _⟩ := hst7.sl Rw.len 4 rfl; obtain ⟨qk, _⟩ := blkCells (hst7.blk 2 rfl).1; have hlk := (hst7.blk 2 rfl).2.2; have k0 := qk 0; have k1 := qk 1; have k2 := qk 2; have k3 := qk 3; have k4 := qk 4; have k5 := qk 5; simp at k0 k1 k2 k3 k4 k5; clear qk; have HB := Lib.hid hst7; have HCA2 := Lib.hid (rows_len HB.out p pa pc (HB.out.slOf Opr.len 1 rfl) HPN.out HPO.out (by omega) HPR.out ia c ic (ins.take c) (by simp; omega) ((Seen.own Inp.len 3 rfl).take c) (fun i hi => (HIT.out i (List.mem_of_mem_take hi)).1) (by simp; omega)); clear hst7))
    all_goals
      go_wp2
      go_meet
      exact ⟨ra, rc, sa, sc, rfl, rfl, HZ.out⟩
  case rest =>
    obtain ⟨ra, rc, sa, sc, rfl, rfl, hst9⟩ := hcut
    have hAB : wholeRows p (ins.take c) <+: wholeRows p ins := whole_take p ins c
    have hBC : wholeRows p ins <+: wholeRows p (ins ++ [endI]) := whole_pre p ins [endI]
    have hlab := whole_labels p ins
    have hpast := whole_past (p := p) HPO.out (by omega) HIT.out
    have hbd := rowsR_len (newR p) (ins ++ [endI])
    obtain ⟨EN, hEN⟩ : ∃ x, x = ins ++ [endI] := ⟨_, rfl⟩
    have henl : EN.length ≤ 26 := by rw [hEN]; simp; omega
    have henw : ∀ i ∈ EN, i.ev.wf := by
      rw [hEN]
      intro i hi
      rcases List.mem_append.1 hi with h | h
      · exact (HIT.out i h).1
      · simp at h; subst h; exact mark1000_wf
    rw [← hEN] at hBC hlab hpast hbd
    have hbd' : (wholeRows p EN).length ≤ 1000 := by
      have h0 : (newR p).L.length = 0 := rfl
      show (rowsR (newR p) EN).length ≤ 1000
      omega
    have HENE := Lib.hid hEN
    have HENW := Lib.hid henw
    have HPAST := Lib.hid hpast
    clear hEN henw hpast hbd
    have hla := hAB.length_le
    have hlb := hBC.length_le
    obtain ⟨RA, hRA⟩ : ∃ x, x = wholeRows p (ins.take c) := ⟨_, rfl⟩
    obtain ⟨RB, hRB⟩ : ∃ x, x = wholeRows p ins := ⟨_, rfl⟩
    rw [← hRA] at hAB hla hst9 ⊢
    rw [← hRB] at hAB hBC hla hlb hst9 ⊢
    have HAB := Lib.hid hAB
    have HBC := Lib.hid hBC
    have HLAB := Lib.hid hlab
    clear hRA hRB hAB hBC hlab
    have hrac : RA.length ≤ rc := by obtain ⟨_, _, hv, h, _⟩ := hst9.sl Rw.len 4 rfl; cases hv; exact h
    have hsbc : RB.length ≤ sc := by obtain ⟨_, _, hv, h, _⟩ := hst9.sl Rw.len 5 rfl; cases hv; exact h
    have HS9 := Lib.hid (hst9.alloc (.cells #[] 64))
    clear hst9 HCA HCB HS6 e0 e1 e2 e3 e4 e5 hle
    go_upto_region 7 with (first
      | (go_at_call 39; (with_reducible refine HCZ.out.mono ?_); rintro e w9 ⟨v9, rfl, hst9⟩; obtain ⟨ta, tc, rfl, _, _, _, _⟩ := hst9.sl Rw.len 8 rfl; have HZ := Lib.hid (hst9.pick [0, 1, 2, 3, 4, 5, 6, 8] (by decide)); clear hst9)
      | (at_builtin; refine wpList_push_st inpElem rfl (HSE.out.alloc (.cells #[.bool true, .int .i64 1000, .int .i64 0, .int .i64 0, .int .u64 0] 64)) 6 rfl _ _ rfl rfl _ endI rfl (heap_new _ _) (by omega) ?_; intro v8 w8 hst8 _; rw [← HENE.out] at hst8; obtain ⟨na, nc, rfl, _, _, _, _⟩ := hst8.sl Inp.len 6 rfl; obtain ⟨k0, k1, k2, k3, k4, k5⟩ := cells6 (hst8.blk 2 rfl).1 (Below.refl _ _); have hlk := (hst8.blk 2 rfl).2.2; have HSF := Lib.hid hst8; have HCZ := Lib.hid (rows_st hst8 p pa pc (hst8.slOf Opr.len 1 rfl) HPN.out HPO.out (by omega) HPR.out na nc EN (Seen.own Inp.len 6 rfl) HENW.out (by omega)); clear hst8)
      | (at_builtin; refine wpList_copy_st inpElem rfl HS9.out 6 rfl _ _ rfl rfl ia ic ins rfl HIN.out (HS9.out.slOf Inp.len 3 rfl) (by omega) ?_; intro bn bc w7 hst7; have HSE := Lib.hid hst7; clear hst7))
    clear HCZ HSF HSE HS9 k0 k1 k2 k3 k4 k5 hlk
    have hall := hbd'
    obtain ⟨RC, hRC⟩ : ∃ x, x = wholeRows p EN := ⟨_, rfl⟩
    have hbc2 := HBC.out
    have hlab2 := HLAB.out
    rw [← hRC] at hbc2 hlab2 hall hlb
    have HZ2 := HZ.out
    rw [← hRC] at HZ2 ⊢
    have HBC2 := Lib.hid hbc2
    have HLAB2 := Lib.hid hlab2
    have HZ3 := Lib.hid HZ2
    clear hbd' HBC HLAB HZ HZ2 hRC hbc2 hlab2
    obtain ⟨k0, k1, k2, k3, k4, k5⟩ := cells6 (HZ3.out.blk 2 rfl).1 (Below.refl _ _)
    have hsn : sa = none → sc = 0 := by obtain ⟨_, _, hv, _, _, h, _⟩ := HZ3.out.sl Rw.len 5 rfl; cases hv; exact h
    have HSN := Lib.hid hsn
    clear hsn
    have htc : RC.length ≤ tc := by obtain ⟨_, _, hv, h, _⟩ := HZ3.out.sl Rw.len 7 rfl; cases hv; exact h
    have HP1 := Lib.hid (prefix_at HZ3.out (b := true) (by simpa using HAB.out) ra sa RA.length RB.length rc sc rfl rfl (HZ3.out.slOf Rw.len 4 rfl) (HZ3.out.slOf Rw.len 5 rfl) (by omega) (by omega) (by omega) (by omega))
    go_upto_block 0 with (first
      | (go_at_call 51; (with_reducible refine HP5.out.mono ?_); rintro e w6 ⟨rfl, h6⟩; have HE := Lib.hid h6; clear HP5 h6)
      | (go_at_call 51; (with_reducible refine HP4.out.mono ?_); rintro e w5 ⟨rfl, h5⟩; have HP5 := Lib.hid (prefix_at h5 (b := true) (l := RA) (l' := RA) (by simp) ra ra RA.length RA.length rc rc rfl rfl (h5.slOf Rw.len 4 rfl) (h5.slOf Rw.len 4 rfl) (by omega) (by omega) (by omega) (by omega)); clear HP4 h5)
      | (go_at_call 40; (with_reducible refine HP3.out.mono ?_); rintro e w4 ⟨rfl, h4⟩; rw [HPAST.out]; have HP4 := Lib.hid (prefix_at h4 (b := true) (l := []) (l' := RA) (by simp) none ra 0 RA.length 0 rc rfl rfl (.inl rfl) (h4.slOf Rw.len 4 rfl) (by omega) (by omega) (by omega) (by omega)); clear HP3 h4)
      | (go_at_call 51; (with_reducible refine HP2.out.mono ?_); rintro e w3 ⟨rfl, h3⟩; obtain ⟨k0, k1, k2, k3, k4, k5⟩ := cells6 (h3.blk 2 rfl).1 (Below.refl _ _); have HP3 := Lib.hid (past_st h3 p pa pc (h3.slOf Opr.len 1 rfl) HPN.out HPO.out (by omega) HPR.out na nc EN (Seen.own Inp.len 6 rfl) HENW.out (by omega)); clear HP2 h3)
      | (go_at_call 51; (with_reducible refine HP1.out.mono ?_); rintro e w2 ⟨rfl, h2⟩; have HP2 := Lib.hid (prefix_at h2 (b := true) (by simpa using HBC2.out) sa ta RB.length RC.length sc tc rfl rfl (h2.slOf Rw.len 5 rfl) (h2.slOf Rw.len 7 rfl) (by omega) (by omega) (by omega) htc); clear HP1 h2))
    clear HZ3 k0 k1 k2 k3 k4 k5
    go_cut [17] from 75 to 85 (fun _ wx => St w wx [pt w.heap.size (.cells #[.slice ao k.ops.length co, .slice an k.ns.length cn, .int .i64 k.size, .int .i64 k.slide, .int .i64 k.agg, .int .i64 k.sink, .int .i64 k.feed] 69 (0, 0)), ownP 54 2 Opr.cells (.slice pa p.ops.length pc) p.ops, pt g (.cells #[.slice pa p.ops.length pc, .int .i64 p.size, .int .i64 p.slide, .int .i64 p.agg, .int .i64 p.sink, .int .i64 p.feed] 57 (0, 0)), ownP 64 5 Inp.cells (.slice ia ins.length ic) ins, ownP 45 5 Rw.cells (.slice ra RA.length rc) RA, ownP 45 5 Rw.cells (.slice sa RB.length sc) RB, ownP 64 5 Inp.cells (.slice na EN.length nc) EN, ownP 45 5 Rw.cells (.slice ta RC.length tc) RC])
    case first =>
      go_wp2_with fail
      go_loopw [75] (fun iv wr => ∃ j : Nat, j ≤ RC.length ∧ iv = .int .i64 j ∧ St w wr [pt w.heap.size (.cells #[.slice ao k.ops.length co, .slice an k.ns.length cn, .int .i64 k.size, .int .i64 k.slide, .int .i64 k.agg, .int .i64 k.sink, .int .i64 k.feed] 69 (0, 0)), ownP 54 2 Opr.cells (.slice pa p.ops.length pc) p.ops, pt g (.cells #[.slice pa p.ops.length pc, .int .i64 p.size, .int .i64 p.slide, .int .i64 p.agg, .int .i64 p.sink, .int .i64 p.feed] 57 (0, 0)), ownP 64 5 Inp.cells (.slice ia ins.length ic) ins, ownP 45 5 Rw.cells (.slice ra RA.length rc) RA, ownP 45 5 Rw.cells (.slice sa RB.length sc) RB, ownP 64 5 Inp.cells (.slice na EN.length nc) EN, ownP 45 5 Rw.cells (.slice ta RC.length tc) RC]) (fun iv _ => RC.length - (intOf iv).toNat)
      case atStart => exact ⟨0, by omega, rfl, HE.out⟩
      case round =>
        obtain ⟨j, hj, rfl, hst⟩ := hrel
        by_cases hlt : (j : Int) < RC.length
        · have hjn : j < RC.length := by omega
          obtain ⟨b, o, rfl, hbl, d0, d1, d2, d3, d4⟩ := (hst.slOf Rw.len 7 rfl).rwAt j hjn
          have hun := (HLAB2.out RC[j] (List.getElem_mem hjn)).none
          rw [List.getElem?_eq_getElem hjn] at d0 d1 d2 d3 d4
          simp only [Option.getD_some] at d0 d1 d2 d3 d4
          generalize RC[j] = row at *
          obtain ⟨rs, rk, rv, rn, rl⟩ := row
          dsimp only at d0 d1 d2 d3 d4 hun
          have HST := Lib.hid hst
          have HUN := Lib.hid hun
          clear hst hun
          have HLB := Lib.hid (labels_st (HST.out.alloc (.cells #[.int .i64 rs, .int .i64 rk, .int .i64 rv, .int .i64 rn, .int .u64 rl] 45)).drew ia ic ins (Seen.own Inp.len 3 rfl) (by omega))
          have e4 := (cells5 ((HST.out.alloc (.cells #[.int .i64 rs, .int .i64 rk, .int .i64 rv, .int .i64 rn, .int .u64 rl] 45)).drew.blk 8 rfl).1 (Below.refl _ _)).2.2.2.2
          go_wp2_with fail
          have hun := HUN.out
          go_region_held3 (fun w' => w'.cell? ⟨wr.heap.size, 4, none⟩ = some (.int .u64 rl)) (first | exact k4 | exact e4)
            (first
              | (go_at_call 41; (with_reducible refine HLB.out.mono ?_); rintro e w2 ⟨rfl, h2⟩; have k4 := (cells5 (h2.blk 8 rfl).1 (Below.refl _ _)).2.2.2.2; have HL2 := Lib.hid h2; clear h2))
          go_wp2
          go_roundw
          case rel => exact ⟨j + 1, by omega, by go_num, HL2.out.pick [0, 1, 2, 3, 4, 5, 6, 7] (by decide)⟩
          case measure => simp [intOf]; omega
        · obtain rfl : j = RC.length := by omega
          have HST := Lib.hid hst
          clear hst
          go_wp2
          go_meet
          exact HST.out
    case rest =>
      clear HE
      have HE := Lib.hid hcut
      clear hcut
      by_cases hb0 : (0 : Int) < RB.length
      · go_upto_region 16 with fail
        have HCP := Lib.hid (HE.out.alloc (.cells #[] 45))
        go_upto_region 17 with (at_builtin; refine wpList_copy_st rwElem rfl HCP.out 8 rfl _ _ rfl rfl sa sc RB rfl HSN.out (HCP.out.slOf Rw.len 5 rfl) (by omega) ?_; intro tb tbc w7 hst7; have HT := Lib.hid hst7; clear hst7)
        have hir := within_range other 0 ((RB.length : Int) - 1) (by omega)
        obtain ⟨i, hi⟩ : ∃ i : Nat, within other 0 ((RB.length : Int) - 1) = i := ⟨(within other 0 ((RB.length : Int) - 1)).toNat, by omega⟩
        have hin : i < RB.length := by omega
        have HWI := Lib.hid hi
        clear hi hir
        go_upto_region 18 with (go_at_call 16; refine (Within_at _ _ _ _ (by omega) (by omega) (by omega) (by omega) (by omega)).mono ?_; rintro e wz ⟨rfl, rfl⟩; rw [HWI.out])
        obtain ⟨b', o', hbo, hbl, d0, d1, d2, d3, d4⟩ := (HT.out.slOf Rw.len 8 rfl).rwAt i hin
        cases hbo
        have zf := HT.out.ownFree 8 rfl (i * 5 + 3)
        have hII : (i : Int) < RB.length := by omega
        have htb : RB.length ≤ tbc := by obtain ⟨_, _, hv, h, _⟩ := HT.out.sl Rw.len 8 rfl; cases hv; exact h
        have hij : (i : Int) < tbc := by omega
        rw [List.getElem?_eq_getElem hin] at d3
        simp only [Option.getD_some, Nat.zero_add] at d3
        obtain ⟨X, hX⟩ : ∃ X : Rw, X = (⟨RB[i].start, RB[i].key, RB[i].value, wrap64 (RB[i].count + 1), RB[i].label⟩ : Rw) := ⟨_, rfl⟩
        have hne : X ≠ RB[i] := by
          intro e
          have h1 := congrArg Rw.count (hX.symm.trans e)
          have h2 : wrap64 (RB[i].count + 1) = RB[i].count := h1
          unfold wrap64 at h2
          omega
        have HU := Lib.hid (HT.out.ownSet Rw.len 8 rfl i 3 hin (by decide) X (.int .i64 (wrap64 (RB[i].count + 1))) (by rw [hX]; rfl))
        have htl : (RB.set i X).length = RB.length := List.length_set
        have hn1 := set_no_pre hin hne
        have hn2 := set_take_no_pre hin hne
        have hn3 := set_take_pre (l := RB) (i := i) (x := X)
        have HQ1 := Lib.hid (prefix_at HU.out (b := false) (l := RB.set i X) (l' := RB) (by simpa using hn1) (some ⟨tb, 0, none⟩) sa RB.length RB.length tbc sc htl rfl (HU.out.slOf Rw.len 8 rfl) (HU.out.slOf Rw.len 5 rfl) (by omega) (by omega) (by omega) (by omega))
        have HN1 := Lib.hid hn1
        have HN2 := Lib.hid hn2
        have HN3 := Lib.hid hn3
        generalize RB[i].count = cnt at *
        clear hX hne hn1 hn2 hn3 hbl d0 d1 d2 d4
        have HN0 := Lib.hid (long_no_pre (l := RB) (by omega))
        go_upto_region 21 with (first
          | (go_at_call 51; (with_reducible refine HQ4.out.mono ?_); rintro e w5 ⟨rfl, h5⟩; have HQ5 := Lib.hid h5; clear HQ4 h5)
          | (go_at_call 51; (with_reducible refine HQ3.out.mono ?_); rintro e w4 ⟨rfl, h4⟩; have HQ4 := Lib.hid (prefix_at h4 (b := true) (l := (RB.set i X).take i) (l' := RB) (by simpa using HN3.out) (some ⟨tb, 0, none⟩) sa i RB.length tbc sc (by simp; omega) rfl ((h4.slOf Rw.len 8 rfl).take i) (h4.slOf Rw.len 5 rfl) (by omega) (by omega) (by omega) (by omega)); clear HQ3 h4)
          | (go_at_call 51; (with_reducible refine HQ2.out.mono ?_); rintro e w3 ⟨rfl, h3⟩; have HQ3 := Lib.hid (prefix_at h3 (b := false) (l := (RB.set i X).take (i + 1)) (l' := RB) (by simpa using HN2.out) (some ⟨tb, 0, none⟩) sa (i + 1) RB.length tbc sc (by simp; omega) rfl ((h3.slOf Rw.len 8 rfl).take (i + 1)) (h3.slOf Rw.len 5 rfl) (by omega) (by omega) (by omega) (by omega)); clear HQ2 h3)
          | (go_at_call 51; (with_reducible refine HQ1.out.mono ?_); rintro e w2 ⟨rfl, h2⟩; have HQ2 := Lib.hid (prefix_at h2 (b := false) (l := RB) (l' := RB.take (RB.length - 1)) (by simpa using HN0.out) sa sa RB.length (RB.length - 1) sc sc rfl (by simp) (h2.slOf Rw.len 5 rfl) ((h2.slOf Rw.len 5 rfl).take (RB.length - 1)) (by omega) (by omega) (by omega) (by omega)); clear HQ1 h2))
        go_wp2_with (go_at_call 8; refine (WholeRuns_any _).mono ?_; rintro e w18 ⟨rfl, hb18⟩; have HS18 := Lib.hid (HQ5.out.kept hb18); clear hb18)
        go_ret
        exact ⟨rfl, HS18.out.below⟩
      · go_wp2_with (go_at_call 8; refine (WholeRuns_any _).mono ?_; rintro e w18 ⟨rfl, hb18⟩; have HS18 := Lib.hid (HE.out.kept hb18); clear hb18)
        go_ret
        exact ⟨rfl, HS18.out.below⟩
end Go.Proofs.Ytjkflblbcodnoaa
