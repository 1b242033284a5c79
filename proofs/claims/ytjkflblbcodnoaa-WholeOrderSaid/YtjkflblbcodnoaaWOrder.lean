/- The walk of WholeOrder. -/
import Derived.Test.YtjkflblbcodnoaaPermLaw
import Derived.Test.YtjkflblbcodnoaaWholeRuns
set_option linter.unusedVariables false
set_option linter.unusedSimpArgs false
namespace Go.Proofs.Ytjkflblbcodnoaa
open Go.RowKit Go.Maps
theorem step_append_len {P : Program} {α : Type} {enc : α → List Value} {c : Nat} {w0 w : World} {L : List HP} {t e : TypeId} (E : Elem P t e c enc) {ops : Array Oper} {o : Oper} {a : Act} {K : Act → World → Prop} {Q : Exit → Act → World → Prop} {F : Prop} (hgd : o.guard = none) (hst : St w0 w L) (n : Nat) {v : Value} {l0 : List α} (hn : L[n]? = some (ownP e c enc v l0))
    (s x : Operand) (ho : o.op = .call { callee := .builtin .append, args := #[s, x], argTypes := #[t, t] }) (hs : a.eval s = v)
    (ad : Option Addr) (k cap : Nat) (l : List α) (hk : l.length = k) (hx : a.eval x = .slice ad k cap) (hnil : ad = none → cap = 0) (hsl : SlAt c (flat enc) w ad l) (hlen : l0.length + l.length ≤ 1099511627776)
    (h : ∀ v' w', St w0 w' (L.set n (ownP e c enc v' (l0 ++ l))) → (v ≠ .slice none 0 0 → v' ≠ .slice none 0 0) → K (a.put o.dst v') w') : if Region.wanted o (yielded ops a.tmps) = true then Oper.wp P o a w K Q else F := by
  subst hk
  exact step_append_st E hgd hst n hn s x ho hs ad cap l hx hnil hsl hlen h
theorem tail_at {α : Type} {f : World → List Value → α → Prop} {s : Nat} {w : World} {b o ec c : Nat} {l : List α} (h : SlAt s f w (some ⟨b, o, none⟩) l) (hec : l.length ≤ ec) : SlAt s f w (if ec = c then some ⟨b, o, none⟩ else some ⟨b, o + c * s, none⟩) (l.drop c) := by
  split
  · exact .inl (List.drop_of_length_le (by omega))
  · exact h.drop c
theorem own_addr {α : Type} {e : TypeId} {c : Nat} {enc : α → List Value} {w0 w : World} {L : List HP} (h : St w0 w L) (n : Nat) {a : Addr} {k cap : Nat} {l : List α} (hn : L[n]? = some (ownP e c enc (.slice (some a) k cap) l)) : ∃ b, a = ⟨b, 0, none⟩ := by
  obtain ⟨F, hF⟩ := h.at n hn
  rcases hF with ⟨hv, _⟩ | ⟨b, _, _, hv, _⟩
  · cases hv
  · cases hv
    exact ⟨_, rfl⟩
theorem inputs_rng (l : List InQ) : ∀ i ∈ inputsOf l, i.ev.wf ∧ 0 ≤ i.ev.time ∧ i.ev.time ≤ 160 ∧ 0 ≤ i.ev.key ∧ i.ev.key ≤ 3 := by
  intro i hi
  refine ⟨inputs_wf l i hi, ?_⟩
  obtain ⟨q, _, rfl⟩ := List.mem_map.1 hi
  unfold inpOf
  split
  · have := within_range q.time 0 160 (by omega); dsimp only; omega
  · have := within_range q.time 0 120 (by omega); have := within_range q.key 0 3 (by omega); dsimp only; omega
set_option maxHeartbeats 4000000 in
set_option maxRecDepth 20000 in
theorem WholeOrder_any (w : World) (cs : Array Value) (k : PipeQ) (hk : isPq w cs.toList k) (al : Option Addr) (cap : Nat) (l : List InQ) (hle : l.length ≤ cap) (hmx : cap ≤ maxLen) (hnil : al = none → cap = 0) (hl : SlAt 4 isIq w al l) (cut : Int) (hcut : (Lit.int .i64 cut).wf = true) (key : Int) (hkey : (Lit.int .i64 key).wf = true) :
    Calls Try.prog 10 #[.agg cs, .slice al l.length cap, .int .i64 cut, .int .i64 key] w fun e w' => e = .returned (.bool true) ∧ Below w.heap.size w w' := by
  obtain ⟨ao, co, an, cn, hcs, hso, hsn, hkw⟩ := hk
  obtain rfl : cs = #[.slice ao k.ops.length co, .slice an k.ns.length cn, .int .i64 k.size, .int .i64 k.slide, .int .i64 k.agg, .int .i64 k.sink, .int .i64 k.feed] := by
    obtain ⟨cl⟩ := cs
    dsimp only at hcs
    rw [hcs]
  clear hcs
  obtain ⟨hli, hlw⟩ := hl.iq
  have hrcut := i64_range hcut
  have hrkey := i64_range hkey
  have hlm : l.length ≤ maxLen := by omega
  obtain ⟨hpr, hpo, hpl, hps1, hps2, hps3, hps4⟩ := pipeOf_right k
  have HPR := Lib.hid (bare_right hpr)
  have HPO := Lib.hid hpo
  have HLI := Lib.hid hli
  have HLW := Lib.hid hlw
  have hst0 := (St.start w).alloc (.cells #[.slice ao k.ops.length co, .slice an k.ns.length cn, .int .i64 k.size, .int .i64 k.slide, .int .i64 k.agg, .int .i64 k.sink, .int .i64 k.feed] 69)
  have HC0 := Lib.hid (pipe_st hst0 k hkw ao an co cn (Seen.old hso) (Seen.old hsn))
  clear hst0 hli hlw hl hcut hkey hso hsn hkw hle hnil hpr hpo
  unfold maxLen at hmx
  generalize pipeOf k = p at *
  go_enter Try.func10, Try.ntmps10
  have hkr := within_range key 4 200 (by omega)
  go_upto_block 0 with (first
    | (go_at_call 36; (with_reducible refine HC0.out.mono ?_); rintro e w1 ⟨pa, pc, rfl, hpn, hst1⟩; have HPN := Lib.hid hpn; have HS1 := Lib.hid (hst1.alloc (.cells #[.slice none 0 0, .int .i64 p.size, .int .i64 p.slide, .int .i64 p.agg, .int .i64 p.sink, .int .i64 p.feed] 57)); have HCI := Lib.hid (inputs_st HS1.out al cap l (Seen.old HLI.out) HLW.out hlm); clear HC0 hst1 hpn)
    | (go_at_call 37; (with_reducible refine HCI.out.mono ?_); rintro e w5 ⟨vi, rfl, hst5⟩; obtain ⟨ia, ic, rfl, hic, him, hin, _⟩ := hst5.sl Inp.len 3 rfl; have HS5 := Lib.hid hst5; clear hst5 HCI))
  have hil := inputs_len l
  have HIT := Lib.hid (inputs_rng l)
  generalize inputsOf l = ins at *
  generalize w1.heap.size = g at *
  have HS6 := Lib.hid (HS5.out.nil 64 5 Inp.cells)
  clear hin
  go_cut [10] from 28 to 39 (fun ue wx => ∃ (ev : Value), ue = ev ∧ St w wx [pt w.heap.size (.cells #[.slice ao k.ops.length co, .slice an k.ns.length cn, .int .i64 k.size, .int .i64 k.slide, .int .i64 k.agg, .int .i64 k.sink, .int .i64 k.feed] 69 (0, 0)), ownP 54 2 Opr.cells (.slice pa p.ops.length pc) p.ops, pt g (.cells #[.slice none 0 0, .int .i64 p.size, .int .i64 p.slide, .int .i64 p.agg, .int .i64 p.sink, .int .i64 p.feed] 57 (0, 0)), ownP 64 5 Inp.cells (.slice ia ins.length ic) ins, ownP 64 5 Inp.cells ev (ins.filter (fun i : Inp => !i.mark))])
  case first =>
    go_wp2_with fail
    go_loopw [10, 28] (fun ev iv wr => ∃ j : Nat, j ≤ ins.length ∧ iv = .int .i64 j ∧ St w wr [pt w.heap.size (.cells #[.slice ao k.ops.length co, .slice an k.ns.length cn, .int .i64 k.size, .int .i64 k.slide, .int .i64 k.agg, .int .i64 k.sink, .int .i64 k.feed] 69 (0, 0)), ownP 54 2 Opr.cells (.slice pa p.ops.length pc) p.ops, pt g (.cells #[.slice none 0 0, .int .i64 p.size, .int .i64 p.slide, .int .i64 p.agg, .int .i64 p.sink, .int .i64 p.feed] 57 (0, 0)), ownP 64 5 Inp.cells (.slice ia ins.length ic) ins, ownP 64 5 Inp.cells ev ((ins.take j).filter (fun i : Inp => !i.mark))]) (fun _ iv _ => ins.length - (intOf iv).toNat)
    case atStart => exact ⟨0, by omega, rfl, HS6.out⟩
    case round =>
      obtain ⟨j, hj, rfl, hst⟩ := hrel
      by_cases hlt : (j : Int) < ins.length
      · have hjn : j < ins.length := by omega
        obtain ⟨b, o, rfl, hbl, c0, c1, c2, c3, c4⟩ := (hst.slOf Inp.len 3 rfl).inAt j hjn
        have hga := filter_take (fun i : Inp => !i.mark) hjn
        have hla : ((ins.take j).filter (fun i : Inp => !i.mark)).length < 1099511627776 := by have := List.length_filter_le (fun i : Inp => !i.mark) (ins.take j); have := List.length_take_le j ins; omega
        rw [List.getElem?_eq_getElem hjn] at c0 c1 c2 c3 c4
        simp only [Option.getD_some] at c0 c1 c2 c3 c4
        generalize ins[j] = i at *
        obtain ⟨im, ie⟩ := i
        dsimp only at c0 c1 c2 c3 c4
        have HLA := Lib.hid hla
        have HST := Lib.hid hst
        clear hla hst
        cases im with
        | true =>
          simp only [Bool.not_true, Bool.false_eq_true, if_false] at hga
          have HGA := Lib.hid hga
          clear hga
          go_wp2_with fail
          go_roundw
          case rel => exact ⟨j + 1, by omega, by go_num, by rw [HGA.out]; exact (HST.out.alloc _).pick [0, 1, 2, 3, 4] (by decide)⟩
          case measure => simp [intOf]; omega
        | false =>
          simp only [Bool.not_false, if_true] at hga
          have HGA := Lib.hid hga
          clear hga
          have HP1 := Lib.hid ((HST.out.alloc (.cells #[.bool false, .int .i64 ie.time, .int .i64 ie.key, .int .i64 ie.value, .int .u64 ie.label] 64)).alloc (.cells #[.bool false, .int .i64 ie.time, .int .i64 ie.key, .int .i64 ie.value, .int .u64 ie.label] 64))
          go_wp2_with (at_builtin; refine wpList_push_st inpElem rfl HP1.out 4 rfl _ _ rfl rfl _ (⟨false, ie⟩ : Inp) rfl (new_at _ _ _ (by simp)) HLA.out ?_; intro v7 w7 hst7 _; have HPA := Lib.hid hst7; clear hst7)
          go_roundw
          case rel => exact ⟨j + 1, by omega, by go_num, by rw [HGA.out]; exact HPA.out.pick [0, 1, 2, 3, 4] (by decide)⟩
          case measure => simp [intOf]; omega
      · obtain rfl : j = ins.length := by omega
        rw [List.take_length] at hst
        have HST := Lib.hid hst
        clear hst
        go_wp2
        go_meet
        exact ⟨_, rfl, HST.out⟩
  case rest =>
    obtain ⟨ev, rfl, hst8⟩ := hcut
    obtain ⟨ea, ec, rfl, hec, hem, hen, _⟩ := hst8.sl Inp.len 4 rfl
    have hfl := List.length_filter_le (fun i : Inp => !i.mark) ins
    have hes : ∀ i ∈ ins.filter (fun i : Inp => !i.mark), i.ev.wf ∧ (i.mark = false ∧ 0 ≤ i.ev.time ∧ i.ev.time ≤ 160) ∧ i.ev.key ≤ 3 := fun i hi => by
      have h1 := List.mem_filter.1 hi
      have h2 := HIT.out i h1.1
      exact ⟨h2.1, ⟨by simpa using h1.2, h2.2.1, h2.2.2.1⟩, h2.2.2.2.2⟩
    have HES := Lib.hid hes
    have HEN := Lib.hid hen
    clear hes hen
    generalize hE : ins.filter (fun i : Inp => !i.mark) = es at *
    clear hE
    have hcr := within_range cut 0 es.length (by omega)
    obtain ⟨c, hc⟩ : ∃ c : Nat, within cut 0 es.length = c := ⟨(within cut 0 es.length).toNat, by omega⟩
    have hce : c ≤ es.length := by omega
    have HCC := Lib.hid hc
    clear hc
    go_wp2_with (go_at_call 16; refine (Within_at _ _ _ _ (by omega) (by omega) (by omega) (by omega) (by omega)).mono ?_; rintro e wz ⟨rfl, rfl⟩; rw [HCC.out])
    have hx1 := whole_perm (p := p.bare) rfl (List.Perm.refl es) (fun i hi => (HES.out i hi).1) (fun i hi => (HES.out i hi).2.1)
    clear hx1
    obtain ⟨EN, hEN⟩ : ∃ x, x = es ++ [endI] := ⟨_, rfl⟩
    have henl : EN.length ≤ 26 := by rw [hEN]; simp; omega
    have henw : ∀ i ∈ EN, i.ev.wf := by
      rw [hEN]
      intro i hi
      rcases List.mem_append.1 hi with h | h
      · exact (HES.out i h).1
      · simp at h; subst h; exact mark1000_wf
    have HENE := Lib.hid hEN
    have HENW := Lib.hid henw
    clear hEN henw
    have HS8 := Lib.hid (hst8.alloc (.cells #[.bool true, .int .i64 1000, .int .i64 0, .int .i64 0, .int .u64 0] 64))
    have hge : ∃ ge, ge = wc.heap.size := ⟨_, rfl⟩
    refine wp_at HS8.out ?_
    intro w6 hst6
    generalize wc.heap.size = ge at *
    clear HS8 hge hst8
    obtain ⟨qp, _⟩ := blkCells (hst6.blk 2 rfl).1; have hlp := (hst6.blk 2 rfl).2.2; obtain ⟨qe, _⟩ := blkCells (hst6.blk 5 rfl).1; have hle := (hst6.blk 5 rfl).2.2; have e0 := qp 0; have e1 := qp 1; have e2 := qp 2; have e3 := qp 3; have e4 := qp 4; have e5 := qp 5; have e6 := qe 0; have e7 := qe 1; have e8 := qe 2; have e9 := qe 3; have e10 := qe 4; simp at e0 e1 e2 e3 e4 e5 e6 e7 e8 e9 e10; clear qp qe
    have hlp6 := hlp
    have hle6 := hle
    have hB := ((hst6.alloc (.cells #[] 64)).alloc (.cells #[.bool true, .int .i64 1000, .int .i64 0, .int .i64 0, .int .u64 0] 64)).drew
    have hC := ((hst6.alloc (.cells #[.bool true, .int .i64 1000, .int .i64 0, .int .i64 0, .int .u64 0] 64)).alloc (.cells #[] 64)).drew
    rw [World.size_alloc] at hB hC
    have HB0 := Lib.hid (hB.imp 6 rfl (X' := ownP 64 5 Inp.cells (.slice (some ⟨_, 0, none⟩) 0 0) ([] : List Inp)) fun h hp => ownP_empty hp)
    have HC0 := Lib.hid (hC.imp 7 rfl (X' := ownP 64 5 Inp.cells (.slice (some ⟨_, 0, none⟩) 0 0) ([] : List Inp)) fun h hp => ownP_empty hp)
    have HA0 := Lib.hid ((hst6.alloc (.cells #[] 64)).drew.imp 6 rfl (X' := ownP 64 5 Inp.cells (.slice (some ⟨_, 0, none⟩) 0 0) ([] : List Inp)) fun h hp => ownP_empty hp)
    have HS6 := Lib.hid hst6
    clear hB hC hst6
    go_cut [15] from 46 to 53 (fun u wx => ∃ ra rc, u = .slice ra (wholeRows p.bare EN).length rc ∧ St w wx [pt w.heap.size (.cells #[.slice ao k.ops.length co, .slice an k.ns.length cn, .int .i64 k.size, .int .i64 k.slide, .int .i64 k.agg, .int .i64 k.sink, .int .i64 k.feed] 69 (0, 0)), ownP 54 2 Opr.cells (.slice pa p.ops.length pc) p.ops, pt g (.cells #[.slice none 0 0, .int .i64 p.size, .int .i64 p.slide, .int .i64 p.agg, .int .i64 p.sink, .int .i64 p.feed] 57 (0, 0)), ownP 64 5 Inp.cells (.slice ia ins.length ic) ins, ownP 64 5 Inp.cells (.slice ea es.length ec) es, pt ge (.cells #[.bool true, .int .i64 1000, .int .i64 0, .int .i64 0, .int .u64 0] 64 (0, 0)), ownP 45 5 Rw.cells (.slice ra (wholeRows p.bare EN).length rc) (wholeRows p.bare EN)])
    case first =>
      go_region_held3 (fun w' => w'.cell? ⟨g, 0, none⟩ = some (.slice none 0 0) ∧ w'.cell? ⟨g, 1, none⟩ = some (.int .i64 p.size) ∧ w'.cell? ⟨g, 2, none⟩ = some (.int .i64 p.slide) ∧ w'.cell? ⟨g, 3, none⟩ = some (.int .i64 p.agg) ∧ w'.cell? ⟨g, 4, none⟩ = some (.int .i64 p.sink) ∧ w'.cell? ⟨g, 5, none⟩ = some (.int .i64 p.feed) ∧ w'.cell? ⟨ge, 0, none⟩ = some (.bool true) ∧ w'.cell? ⟨ge, 1, none⟩ = some (.int .i64 1000) ∧ w'.cell? ⟨ge, 2, none⟩ = some (.int .i64 0) ∧ w'.cell? ⟨ge, 3, none⟩ = some (.int .i64 0) ∧ w'.cell? ⟨ge, 4, none⟩ = some (.int .u64 0))
        (first | exact ⟨k0, k1, k2, k3, k4, k5, k6, k7, k8, k9, k10⟩ | exact ⟨(Below.cell (B := w7.heap.size) (w := w7) (by go_grown) hlp).trans k0, (Below.cell (B := w7.heap.size) (w := w7) (by go_grown) hlp).trans k1, (Below.cell (B := w7.heap.size) (w := w7) (by go_grown) hlp).trans k2, (Below.cell (B := w7.heap.size) (w := w7) (by go_grown) hlp).trans k3, (Below.cell (B := w7.heap.size) (w := w7) (by go_grown) hlp).trans k4, (Below.cell (B := w7.heap.size) (w := w7) (by go_grown) hlp).trans k5, (Below.cell (B := w7.heap.size) (w := w7) (by go_grown) hle).trans k6, (Below.cell (B := w7.heap.size) (w := w7) (by go_grown) hle).trans k7, (Below.cell (B := w7.heap.size) (w := w7) (by go_grown) hle).trans k8, (Below.cell (B := w7.heap.size) (w := w7) (by go_grown) hle).trans k9, (Below.cell (B := w7.heap.size) (w := w7) (by go_grown) hle).trans k10⟩ | exact ⟨(Below.cell (B := w6.heap.size) (w := w6) (by go_grown) hlp6).trans e0, (Below.cell (B := w6.heap.size) (w := w6) (by go_grown) hlp6).trans e1, (Below.cell (B := w6.heap.size) (w := w6) (by go_grown) hlp6).trans e2, (Below.cell (B := w6.heap.size) (w := w6) (by go_grown) hlp6).trans e3, (Below.cell (B := w6.heap.size) (w := w6) (by go_grown) hlp6).trans e4, (Below.cell (B := w6.heap.size) (w := w6) (by go_grown) hlp6).trans e5, (Below.cell (B := w6.heap.size) (w := w6) (by go_grown) hle6).trans e6, (Below.cell (B := w6.heap.size) (w := w6) (by go_grown) hle6).trans e7, (Below.cell (B := w6.heap.size) (w := w6) (by go_grown) hle6).trans e8, (Below.cell (B := w6.heap.size) (w := w6) (by go_grown) hle6).trans e9, (Below.cell (B := w6.heap.size) (w := w6) (by go_grown) hle6).trans e10⟩)
        (first
          | (refine step_append_st inpElem rfl (HA.out.alloc (.cells #[.bool true, .int .i64 1000, .int .i64 0, .int .i64 0, .int .u64 0] 64)) 6 rfl _ _ rfl rfl (some ⟨w7.heap.size, 0, none⟩) 1 ([endI]) rfl (by simp) (SlAt.one Inp.len (new_at _ _ _ rfl)) ?_ ?_; (simp only [List.length_nil, List.length_append, List.length_cons, List.nil_append]; omega); intro v7 w7 hst7 _; rw [List.nil_append, ← HENE.out] at hst7; obtain ⟨ma, mc, rfl, _, _, hmn, _⟩ := hst7.sl Inp.len 6 rfl; obtain ⟨qp, _⟩ := blkCells (hst7.blk 2 rfl).1; have hlp := (hst7.blk 2 rfl).2.2; obtain ⟨qe, _⟩ := blkCells (hst7.blk 5 rfl).1; have hle := (hst7.blk 5 rfl).2.2; have k0 := qp 0; have k1 := qp 1; have k2 := qp 2; have k3 := qp 3; have k4 := qp 4; have k5 := qp 5; have k6 := qe 0; have k7 := qe 1; have k8 := qe 2; have k9 := qe 3; have k10 := qe 4; simp at k0 k1 k2 k3 k4 k5 k6 k7 k8 k9 k10; clear qp qe; have HP52 := Lib.hid hst7; clear hst7)
          | (refine step_append_st inpElem rfl HB.out 6 rfl _ _ rfl rfl (some ⟨_, 0, none⟩) 1 ([endI]) rfl (by simp) (SlAt.one Inp.len (HB.out.blk 7 rfl).1) ?_ ?_; (simp only [List.length_nil, List.length_append, List.length_cons, List.nil_append]; omega); intro v7 w7 hst7 _; rw [List.nil_append, ← HENE.out] at hst7; obtain ⟨ma, mc, rfl, _, _, hmn, _⟩ := hst7.sl Inp.len 6 rfl; obtain ⟨qp, _⟩ := blkCells (hst7.blk 2 rfl).1; have hlp := (hst7.blk 2 rfl).2.2; obtain ⟨qe, _⟩ := blkCells (hst7.blk 5 rfl).1; have hle := (hst7.blk 5 rfl).2.2; have k0 := qp 0; have k1 := qp 1; have k2 := qp 2; have k3 := qp 3; have k4 := qp 4; have k5 := qp 5; have k6 := qe 0; have k7 := qe 1; have k8 := qe 2; have k9 := qe 3; have k10 := qe 4; simp at k0 k1 k2 k3 k4 k5 k6 k7 k8 k9 k10; clear qp qe; have HP52 := Lib.hid hst7; clear hst7)
          | (refine step_append_st inpElem rfl HA0.out 6 rfl _ _ rfl rfl ea ec (es) rfl HEN.out (HA0.out.slOf Inp.len 4 rfl) ?_ ?_; (simp only [List.length_nil, List.length_append, List.length_cons, List.nil_append]; omega); intro v7 w7 hst7 _; obtain ⟨qp, _⟩ := blkCells (hst7.blk 2 rfl).1; have hlp := (hst7.blk 2 rfl).2.2; obtain ⟨qe, _⟩ := blkCells (hst7.blk 5 rfl).1; have hle := (hst7.blk 5 rfl).2.2; have k0 := qp 0; have k1 := qp 1; have k2 := qp 2; have k3 := qp 3; have k4 := qp 4; have k5 := qp 5; have k6 := qe 0; have k7 := qe 1; have k8 := qe 2; have k9 := qe 3; have k10 := qe 4; simp at k0 k1 k2 k3 k4 k5 k6 k7 k8 k9 k10; clear qp qe; have HA := Lib.hid hst7; clear hst7)
          | (refine step_append_st inpElem rfl HB0.out 6 rfl _ _ rfl rfl ea ec (es) rfl HEN.out (HB0.out.slOf Inp.len 4 rfl) ?_ ?_; (simp only [List.length_nil, List.length_append, List.length_cons, List.nil_append]; omega); intro v7 w7 hst7 _; obtain ⟨qp, _⟩ := blkCells (hst7.blk 2 rfl).1; have hlp := (hst7.blk 2 rfl).2.2; obtain ⟨qe, _⟩ := blkCells (hst7.blk 5 rfl).1; have hle := (hst7.blk 5 rfl).2.2; have k0 := qp 0; have k1 := qp 1; have k2 := qp 2; have k3 := qp 3; have k4 := qp 4; have k5 := qp 5; have k6 := qe 0; have k7 := qe 1; have k8 := qe 2; have k9 := qe 3; have k10 := qe 4; simp at k0 k1 k2 k3 k4 k5 k6 k7 k8 k9 k10; clear qp qe; have HB := Lib.hid hst7; clear hst7)
          | (refine step_append_st inpElem rfl HC0.out 7 rfl _ _ rfl rfl ea ec (es) rfl HEN.out (HC0.out.slOf Inp.len 4 rfl) ?_ ?_; (simp only [List.length_nil, List.length_append, List.length_cons, List.nil_append]; omega); intro v7 w7 hst7 _; replace hst7 := hst7.pick [0, 1, 2, 3, 4, 5, 7, 6] (by decide); obtain ⟨qp, _⟩ := blkCells (hst7.blk 2 rfl).1; have hlp := (hst7.blk 2 rfl).2.2; obtain ⟨qe, _⟩ := blkCells (hst7.blk 5 rfl).1; have hle := (hst7.blk 5 rfl).2.2; have k0 := qp 0; have k1 := qp 1; have k2 := qp 2; have k3 := qp 3; have k4 := qp 4; have k5 := qp 5; have k6 := qe 0; have k7 := qe 1; have k8 := qe 2; have k9 := qe 3; have k10 := qe 4; simp at k0 k1 k2 k3 k4 k5 k6 k7 k8 k9 k10; clear qp qe; have HB := Lib.hid hst7; clear hst7)
          | (go_at_call 39; refine (bareRows_st HP52.out p HPR.out ma mc EN (Seen.own Inp.len 6 rfl) HENW.out (by omega)).mono ?_; rintro e w9 ⟨v9, rfl, hst9⟩; obtain ⟨qp, _⟩ := blkCells (hst9.blk 2 rfl).1; have hlp := (hst9.blk 2 rfl).2.2; obtain ⟨qe, _⟩ := blkCells (hst9.blk 5 rfl).1; have hle := (hst9.blk 5 rfl).2.2; have k0 := qp 0; have k1 := qp 1; have k2 := qp 2; have k3 := qp 3; have k4 := qp 4; have k5 := qp 5; have k6 := qe 0; have k7 := qe 1; have k8 := qe 2; have k9 := qe 3; have k10 := qe 4; simp at k0 k1 k2 k3 k4 k5 k6 k7 k8 k9 k10; clear qp qe; obtain ⟨ra, rc, rfl, _, _, _, _⟩ := hst9.sl Rw.len 8 rfl; have HZ := Lib.hid (hst9.pick [0, 1, 2, 3, 4, 5, 8] (by decide)); clear hst9))
      all_goals
        go_wp2
        go_meet
        exact ⟨ra, rc, rfl, HZ.out⟩
    case rest =>
      obtain ⟨ra, rc, rfl, hst9⟩ := hcut
      have hpm : wholeRows p.bare EN = wholeRows p.bare (es.drop c ++ es.take c ++ [endI]) := by
        rw [HENE.out]
        exact whole_perm (p := p.bare) rfl (by
          have h1 : es.Perm (es.take c ++ es.drop c) := by rw [List.take_append_drop]
          exact h1.trans List.perm_append_comm) (fun i hi => (HES.out i hi).1) (fun i hi => (HES.out i hi).2.1)
      obtain ⟨FN, hFN⟩ : ∃ x, x = es.drop c ++ es.take c ++ [endI] := ⟨_, rfl⟩
      rw [← hFN] at hpm
      have hfnl : FN.length ≤ 26 := by rw [hFN]; simp; omega
      have hfnw : ∀ i ∈ FN, i.ev.wf := by
        rw [hFN]
        intro i hi
        rcases List.mem_append.1 hi with h | h
        · rcases List.mem_append.1 h with h | h
          · exact (HES.out i (List.mem_of_mem_drop h)).1
          · exact (HES.out i (List.mem_of_mem_take h)).1
        · simp at h; subst h; exact mark1000_wf
      have HPM := Lib.hid hpm
      have HFNE := Lib.hid hFN
      have HFNW := Lib.hid hfnw
      clear hpm hFN hfnw HA0 HB0 HC0 HS6
      have HRE := Lib.hid (show wholeRows p.bare EN = wholeRows p.bare (es ++ [endI]) by rw [HENE.out])
      generalize wholeRows p.bare EN = rowsE at *
      have HS9 := Lib.hid hst9
      clear hlp6 hle6 e0 e1 e2 e3 e4 e5 e6 e7 e8 e9 e10
      go_wp2_with fail
      refine wp_at HS9.out ?_
      clear HS9 hst9
      intro w6 hst6
      obtain ⟨qp, _⟩ := blkCells (hst6.blk 2 rfl).1; have hlp := (hst6.blk 2 rfl).2.2; obtain ⟨qe, _⟩ := blkCells (hst6.blk 5 rfl).1; have hle := (hst6.blk 5 rfl).2.2; have e0 := qp 0; have e1 := qp 1; have e2 := qp 2; have e3 := qp 3; have e4 := qp 4; have e5 := qp 5; have e6 := qe 0; have e7 := qe 1; have e8 := qe 2; have e9 := qe 3; have e10 := qe 4; simp at e0 e1 e2 e3 e4 e5 e6 e7 e8 e9 e10; clear qp qe
      have hlp6 := hlp
      have hle6 := hle
      have hB := ((hst6.alloc (.cells #[] 64)).alloc (.cells #[.bool true, .int .i64 1000, .int .i64 0, .int .i64 0, .int .u64 0] 64)).drew
      have hC := ((hst6.alloc (.cells #[.bool true, .int .i64 1000, .int .i64 0, .int .i64 0, .int .u64 0] 64)).alloc (.cells #[] 64)).drew
      rw [World.size_alloc] at hB hC
      have HB0 := Lib.hid (hB.imp 7 rfl (X' := ownP 64 5 Inp.cells (.slice (some ⟨_, 0, none⟩) 0 0) ([] : List Inp)) fun h hp => ownP_empty hp)
      have HC0 := Lib.hid (hC.imp 8 rfl (X' := ownP 64 5 Inp.cells (.slice (some ⟨_, 0, none⟩) 0 0) ([] : List Inp)) fun h hp => ownP_empty hp)
      have HA0 := Lib.hid ((hst6.alloc (.cells #[] 64)).drew.imp 7 rfl (X' := ownP 64 5 Inp.cells (.slice (some ⟨_, 0, none⟩) 0 0) ([] : List Inp)) fun h hp => ownP_empty hp)
      have HS6 := Lib.hid hst6
      clear hB hC hst6
      go_cut [16] from 54 to 67 (fun u wx => ∃ sa sc, u = .slice sa (wholeRows p.bare FN).length sc ∧ St w wx [pt w.heap.size (.cells #[.slice ao k.ops.length co, .slice an k.ns.length cn, .int .i64 k.size, .int .i64 k.slide, .int .i64 k.agg, .int .i64 k.sink, .int .i64 k.feed] 69 (0, 0)), ownP 54 2 Opr.cells (.slice pa p.ops.length pc) p.ops, pt g (.cells #[.slice none 0 0, .int .i64 p.size, .int .i64 p.slide, .int .i64 p.agg, .int .i64 p.sink, .int .i64 p.feed] 57 (0, 0)), ownP 64 5 Inp.cells (.slice ia ins.length ic) ins, ownP 64 5 Inp.cells (.slice ea es.length ec) es, pt ge (.cells #[.bool true, .int .i64 1000, .int .i64 0, .int .i64 0, .int .u64 0] 64 (0, 0)), ownP 45 5 Rw.cells (.slice ra rowsE.length rc) rowsE, ownP 45 5 Rw.cells (.slice sa (wholeRows p.bare FN).length sc) (wholeRows p.bare FN)])
      case first =>
        cases ea with
        | none =>
          have hec0 := HEN.out rfl
          have hnilt : es.take c = [] := by
            rw [List.eq_nil_of_length_eq_zero (l := es) (by omega)]; simp
          have HEC0 := Lib.hid hec0
          have HNT := Lib.hid hnilt
          clear hec0 hnilt
          have hI1 : (c : Int) ≤ es.length := by omega
          have hI2 : (c : Int) ≤ ec := by omega
          have hI3 : (es.length : Int) ≤ ec := by omega
          have hI4 : (0 : Int) ≤ c := by omega
          go_region_held3 (fun w' => w'.cell? ⟨g, 0, none⟩ = some (.slice none 0 0) ∧ w'.cell? ⟨g, 1, none⟩ = some (.int .i64 p.size) ∧ w'.cell? ⟨g, 2, none⟩ = some (.int .i64 p.slide) ∧ w'.cell? ⟨g, 3, none⟩ = some (.int .i64 p.agg) ∧ w'.cell? ⟨g, 4, none⟩ = some (.int .i64 p.sink) ∧ w'.cell? ⟨g, 5, none⟩ = some (.int .i64 p.feed) ∧ w'.cell? ⟨ge, 0, none⟩ = some (.bool true) ∧ w'.cell? ⟨ge, 1, none⟩ = some (.int .i64 1000) ∧ w'.cell? ⟨ge, 2, none⟩ = some (.int .i64 0) ∧ w'.cell? ⟨ge, 3, none⟩ = some (.int .i64 0) ∧ w'.cell? ⟨ge, 4, none⟩ = some (.int .u64 0))
            (first | exact ⟨k0, k1, k2, k3, k4, k5, k6, k7, k8, k9, k10⟩ | exact ⟨(Below.cell (B := w7.heap.size) (w := w7) (by go_grown) hlp).trans k0, (Below.cell (B := w7.heap.size) (w := w7) (by go_grown) hlp).trans k1, (Below.cell (B := w7.heap.size) (w := w7) (by go_grown) hlp).trans k2, (Below.cell (B := w7.heap.size) (w := w7) (by go_grown) hlp).trans k3, (Below.cell (B := w7.heap.size) (w := w7) (by go_grown) hlp).trans k4, (Below.cell (B := w7.heap.size) (w := w7) (by go_grown) hlp).trans k5, (Below.cell (B := w7.heap.size) (w := w7) (by go_grown) hle).trans k6, (Below.cell (B := w7.heap.size) (w := w7) (by go_grown) hle).trans k7, (Below.cell (B := w7.heap.size) (w := w7) (by go_grown) hle).trans k8, (Below.cell (B := w7.heap.size) (w := w7) (by go_grown) hle).trans k9, (Below.cell (B := w7.heap.size) (w := w7) (by go_grown) hle).trans k10⟩ | exact ⟨(Below.cell (B := w6.heap.size) (w := w6) (by go_grown) hlp6).trans e0, (Below.cell (B := w6.heap.size) (w := w6) (by go_grown) hlp6).trans e1, (Below.cell (B := w6.heap.size) (w := w6) (by go_grown) hlp6).trans e2, (Below.cell (B := w6.heap.size) (w := w6) (by go_grown) hlp6).trans e3, (Below.cell (B := w6.heap.size) (w := w6) (by go_grown) hlp6).trans e4, (Below.cell (B := w6.heap.size) (w := w6) (by go_grown) hlp6).trans e5, (Below.cell (B := w6.heap.size) (w := w6) (by go_grown) hle6).trans e6, (Below.cell (B := w6.heap.size) (w := w6) (by go_grown) hle6).trans e7, (Below.cell (B := w6.heap.size) (w := w6) (by go_grown) hle6).trans e8, (Below.cell (B := w6.heap.size) (w := w6) (by go_grown) hle6).trans e9, (Below.cell (B := w6.heap.size) (w := w6) (by go_grown) hle6).trans e10⟩)
            (first
              | (refine step_append_st inpElem rfl (HH.out.alloc (.cells #[.bool true, .int .i64 1000, .int .i64 0, .int .i64 0, .int .u64 0] 64)) 7 rfl _ _ rfl rfl (some ⟨w7.heap.size, 0, none⟩) 1 ([endI]) rfl (by simp) (SlAt.one Inp.len (new_at _ _ _ rfl)) ?_ ?_; (simp only [List.length_nil, List.length_append, List.length_cons, List.nil_append, List.length_drop, List.length_take]; omega); intro v7 w7 hst7 _; rw [List.nil_append, ← HFNE.out] at hst7; obtain ⟨ma, mc, rfl, _, _, hmn, _⟩ := hst7.sl Inp.len 7 rfl; obtain ⟨qp, _⟩ := blkCells (hst7.blk 2 rfl).1; have hlp := (hst7.blk 2 rfl).2.2; obtain ⟨qe, _⟩ := blkCells (hst7.blk 5 rfl).1; have hle := (hst7.blk 5 rfl).2.2; have k0 := qp 0; have k1 := qp 1; have k2 := qp 2; have k3 := qp 3; have k4 := qp 4; have k5 := qp 5; have k6 := qe 0; have k7 := qe 1; have k8 := qe 2; have k9 := qe 3; have k10 := qe 4; simp at k0 k1 k2 k3 k4 k5 k6 k7 k8 k9 k10; clear qp qe; have HP52 := Lib.hid hst7; clear hst7)
              | (refine step_append_st inpElem rfl HHX.out 7 rfl _ _ rfl rfl (some ⟨_, 0, none⟩) 1 ([endI]) rfl (by simp) (SlAt.one Inp.len (HHX.out.blk 8 rfl).1) ?_ ?_; (simp only [List.length_nil, List.length_append, List.length_cons, List.nil_append, List.length_drop, List.length_take]; omega); intro v7 w7 hst7 _; rw [List.nil_append, ← HFNE.out] at hst7; obtain ⟨ma, mc, rfl, _, _, hmn, _⟩ := hst7.sl Inp.len 7 rfl; obtain ⟨qp, _⟩ := blkCells (hst7.blk 2 rfl).1; have hlp := (hst7.blk 2 rfl).2.2; obtain ⟨qe, _⟩ := blkCells (hst7.blk 5 rfl).1; have hle := (hst7.blk 5 rfl).2.2; have k0 := qp 0; have k1 := qp 1; have k2 := qp 2; have k3 := qp 3; have k4 := qp 4; have k5 := qp 5; have k6 := qe 0; have k7 := qe 1; have k8 := qe 2; have k9 := qe 3; have k10 := qe 4; simp at k0 k1 k2 k3 k4 k5 k6 k7 k8 k9 k10; clear qp qe; have HP52 := Lib.hid hst7; clear hst7)
              | (refine step_append_len inpElem rfl HT.out 7 rfl _ _ rfl rfl none c ec (es.take c) (by simp; omega) rfl (by have := HEC0.out; omega) (.inl HNT.out) ?_ ?_; (simp only [List.length_nil, List.length_append, List.length_cons, List.nil_append, List.length_drop, List.length_take]; omega); intro v7 w7 hst7 _; obtain ⟨qp, _⟩ := blkCells (hst7.blk 2 rfl).1; have hlp := (hst7.blk 2 rfl).2.2; obtain ⟨qe, _⟩ := blkCells (hst7.blk 5 rfl).1; have hle := (hst7.blk 5 rfl).2.2; have k0 := qp 0; have k1 := qp 1; have k2 := qp 2; have k3 := qp 3; have k4 := qp 4; have k5 := qp 5; have k6 := qe 0; have k7 := qe 1; have k8 := qe 2; have k9 := qe 3; have k10 := qe 4; simp at k0 k1 k2 k3 k4 k5 k6 k7 k8 k9 k10; clear qp qe; have HH := Lib.hid hst7; clear hst7)
              | (refine step_append_len inpElem rfl (HT.out.alloc (.cells #[.bool true, .int .i64 1000, .int .i64 0, .int .i64 0, .int .u64 0] 64)) 7 rfl _ _ rfl rfl none c ec (es.take c) (by simp; omega) rfl (by have := HEC0.out; omega) (.inl HNT.out) ?_ ?_; (simp only [List.length_nil, List.length_append, List.length_cons, List.nil_append, List.length_drop, List.length_take]; omega); intro v7 w7 hst7 _; obtain ⟨qp, _⟩ := blkCells (hst7.blk 2 rfl).1; have hlp := (hst7.blk 2 rfl).2.2; obtain ⟨qe, _⟩ := blkCells (hst7.blk 5 rfl).1; have hle := (hst7.blk 5 rfl).2.2; have k0 := qp 0; have k1 := qp 1; have k2 := qp 2; have k3 := qp 3; have k4 := qp 4; have k5 := qp 5; have k6 := qe 0; have k7 := qe 1; have k8 := qe 2; have k9 := qe 3; have k10 := qe 4; simp at k0 k1 k2 k3 k4 k5 k6 k7 k8 k9 k10; clear qp qe; have HHX := Lib.hid hst7; clear hst7)
              | (refine step_append_len inpElem rfl HTX.out 7 rfl _ _ rfl rfl none c ec (es.take c) (by simp; omega) rfl (by have := HEC0.out; omega) (.inl HNT.out) ?_ ?_; (simp only [List.length_nil, List.length_append, List.length_cons, List.nil_append, List.length_drop, List.length_take]; omega); intro v7 w7 hst7 _; obtain ⟨qp, _⟩ := blkCells (hst7.blk 2 rfl).1; have hlp := (hst7.blk 2 rfl).2.2; obtain ⟨qe, _⟩ := blkCells (hst7.blk 5 rfl).1; have hle := (hst7.blk 5 rfl).2.2; have k0 := qp 0; have k1 := qp 1; have k2 := qp 2; have k3 := qp 3; have k4 := qp 4; have k5 := qp 5; have k6 := qe 0; have k7 := qe 1; have k8 := qe 2; have k9 := qe 3; have k10 := qe 4; simp at k0 k1 k2 k3 k4 k5 k6 k7 k8 k9 k10; clear qp qe; have HHX := Lib.hid hst7; clear hst7)
              | (refine step_append_len inpElem rfl HA0.out 7 rfl _ _ rfl rfl none (es.length - c) (ec - c) (es.drop c) (by simp) rfl (by have := HEC0.out; omega) (.inl (List.drop_of_length_le (by have := HEC0.out; omega))) ?_ ?_; (simp only [List.length_nil, List.length_append, List.length_cons, List.nil_append, List.length_drop, List.length_take]; omega); intro v7 w7 hst7 _; obtain ⟨qp, _⟩ := blkCells (hst7.blk 2 rfl).1; have hlp := (hst7.blk 2 rfl).2.2; obtain ⟨qe, _⟩ := blkCells (hst7.blk 5 rfl).1; have hle := (hst7.blk 5 rfl).2.2; have k0 := qp 0; have k1 := qp 1; have k2 := qp 2; have k3 := qp 3; have k4 := qp 4; have k5 := qp 5; have k6 := qe 0; have k7 := qe 1; have k8 := qe 2; have k9 := qe 3; have k10 := qe 4; simp at k0 k1 k2 k3 k4 k5 k6 k7 k8 k9 k10; clear qp qe; have HT := Lib.hid hst7; clear hst7)
              | (refine step_append_len inpElem rfl HB0.out 7 rfl _ _ rfl rfl none (es.length - c) (ec - c) (es.drop c) (by simp) rfl (by have := HEC0.out; omega) (.inl (List.drop_of_length_le (by have := HEC0.out; omega))) ?_ ?_; (simp only [List.length_nil, List.length_append, List.length_cons, List.nil_append, List.length_drop, List.length_take]; omega); intro v7 w7 hst7 _; obtain ⟨qp, _⟩ := blkCells (hst7.blk 2 rfl).1; have hlp := (hst7.blk 2 rfl).2.2; obtain ⟨qe, _⟩ := blkCells (hst7.blk 5 rfl).1; have hle := (hst7.blk 5 rfl).2.2; have k0 := qp 0; have k1 := qp 1; have k2 := qp 2; have k3 := qp 3; have k4 := qp 4; have k5 := qp 5; have k6 := qe 0; have k7 := qe 1; have k8 := qe 2; have k9 := qe 3; have k10 := qe 4; simp at k0 k1 k2 k3 k4 k5 k6 k7 k8 k9 k10; clear qp qe; have HTX := Lib.hid hst7; clear hst7)
              | (refine step_append_len inpElem rfl HC0.out 8 rfl _ _ rfl rfl none (es.length - c) (ec - c) (es.drop c) (by simp) rfl (by have := HEC0.out; omega) (.inl (List.drop_of_length_le (by have := HEC0.out; omega))) ?_ ?_; (simp only [List.length_nil, List.length_append, List.length_cons, List.nil_append, List.length_drop, List.length_take]; omega); intro v7 w7 hst7 _; replace hst7 := hst7.pick [0, 1, 2, 3, 4, 5, 6, 8, 7] (by decide); obtain ⟨qp, _⟩ := blkCells (hst7.blk 2 rfl).1; have hlp := (hst7.blk 2 rfl).2.2; obtain ⟨qe, _⟩ := blkCells (hst7.blk 5 rfl).1; have hle := (hst7.blk 5 rfl).2.2; have k0 := qp 0; have k1 := qp 1; have k2 := qp 2; have k3 := qp 3; have k4 := qp 4; have k5 := qp 5; have k6 := qe 0; have k7 := qe 1; have k8 := qe 2; have k9 := qe 3; have k10 := qe 4; simp at k0 k1 k2 k3 k4 k5 k6 k7 k8 k9 k10; clear qp qe; have HTX := Lib.hid hst7; clear hst7)
              | (go_at_call 39; refine (bareRows_st HP52.out p HPR.out ma mc FN (Seen.own Inp.len 7 rfl) HFNW.out (by omega)).mono ?_; rintro e w9 ⟨v9, rfl, hst9⟩; obtain ⟨qp, _⟩ := blkCells (hst9.blk 2 rfl).1; have hlp := (hst9.blk 2 rfl).2.2; obtain ⟨qe, _⟩ := blkCells (hst9.blk 5 rfl).1; have hle := (hst9.blk 5 rfl).2.2; have k0 := qp 0; have k1 := qp 1; have k2 := qp 2; have k3 := qp 3; have k4 := qp 4; have k5 := qp 5; have k6 := qe 0; have k7 := qe 1; have k8 := qe 2; have k9 := qe 3; have k10 := qe 4; simp at k0 k1 k2 k3 k4 k5 k6 k7 k8 k9 k10; clear qp qe; obtain ⟨sa, sc, rfl, _, _, _, _⟩ := hst9.sl Rw.len 9 rfl; have HZ := Lib.hid (hst9.pick [0, 1, 2, 3, 4, 5, 6, 9] (by decide)); clear hst9))
          all_goals
            go_wp2
            go_meet
            exact ⟨sa, sc, rfl, HZ.out⟩
        | some ad =>
          obtain ⟨b, o, hado⟩ : ∃ b o, ad = ⟨b, o, none⟩ := (own_addr HS6.out 4 rfl).elim fun b h => ⟨b, 0, h⟩
          subst hado
          by_cases hcc : ec = c
          · obtain rfl : c = ec := hcc.symm
            have hI1 : (c : Int) ≤ es.length := by omega
            have hI2 : (c : Int) ≤ c := by omega
            have hI3 : (es.length : Int) ≤ c := by omega
            have hI4 : (0 : Int) ≤ c := by omega
            go_region_held3 (fun w' => w'.cell? ⟨g, 0, none⟩ = some (.slice none 0 0) ∧ w'.cell? ⟨g, 1, none⟩ = some (.int .i64 p.size) ∧ w'.cell? ⟨g, 2, none⟩ = some (.int .i64 p.slide) ∧ w'.cell? ⟨g, 3, none⟩ = some (.int .i64 p.agg) ∧ w'.cell? ⟨g, 4, none⟩ = some (.int .i64 p.sink) ∧ w'.cell? ⟨g, 5, none⟩ = some (.int .i64 p.feed) ∧ w'.cell? ⟨ge, 0, none⟩ = some (.bool true) ∧ w'.cell? ⟨ge, 1, none⟩ = some (.int .i64 1000) ∧ w'.cell? ⟨ge, 2, none⟩ = some (.int .i64 0) ∧ w'.cell? ⟨ge, 3, none⟩ = some (.int .i64 0) ∧ w'.cell? ⟨ge, 4, none⟩ = some (.int .u64 0))
              (first | exact ⟨k0, k1, k2, k3, k4, k5, k6, k7, k8, k9, k10⟩ | exact ⟨(Below.cell (B := w7.heap.size) (w := w7) (by go_grown) hlp).trans k0, (Below.cell (B := w7.heap.size) (w := w7) (by go_grown) hlp).trans k1, (Below.cell (B := w7.heap.size) (w := w7) (by go_grown) hlp).trans k2, (Below.cell (B := w7.heap.size) (w := w7) (by go_grown) hlp).trans k3, (Below.cell (B := w7.heap.size) (w := w7) (by go_grown) hlp).trans k4, (Below.cell (B := w7.heap.size) (w := w7) (by go_grown) hlp).trans k5, (Below.cell (B := w7.heap.size) (w := w7) (by go_grown) hle).trans k6, (Below.cell (B := w7.heap.size) (w := w7) (by go_grown) hle).trans k7, (Below.cell (B := w7.heap.size) (w := w7) (by go_grown) hle).trans k8, (Below.cell (B := w7.heap.size) (w := w7) (by go_grown) hle).trans k9, (Below.cell (B := w7.heap.size) (w := w7) (by go_grown) hle).trans k10⟩ | exact ⟨(Below.cell (B := w6.heap.size) (w := w6) (by go_grown) hlp6).trans e0, (Below.cell (B := w6.heap.size) (w := w6) (by go_grown) hlp6).trans e1, (Below.cell (B := w6.heap.size) (w := w6) (by go_grown) hlp6).trans e2, (Below.cell (B := w6.heap.size) (w := w6) (by go_grown) hlp6).trans e3, (Below.cell (B := w6.heap.size) (w := w6) (by go_grown) hlp6).trans e4, (Below.cell (B := w6.heap.size) (w := w6) (by go_grown) hlp6).trans e5, (Below.cell (B := w6.heap.size) (w := w6) (by go_grown) hle6).trans e6, (Below.cell (B := w6.heap.size) (w := w6) (by go_grown) hle6).trans e7, (Below.cell (B := w6.heap.size) (w := w6) (by go_grown) hle6).trans e8, (Below.cell (B := w6.heap.size) (w := w6) (by go_grown) hle6).trans e9, (Below.cell (B := w6.heap.size) (w := w6) (by go_grown) hle6).trans e10⟩)
              (first
                | (refine step_append_st inpElem rfl (HH.out.alloc (.cells #[.bool true, .int .i64 1000, .int .i64 0, .int .i64 0, .int .u64 0] 64)) 7 rfl _ _ rfl rfl (some ⟨w7.heap.size, 0, none⟩) 1 ([endI]) rfl (by simp) (SlAt.one Inp.len (new_at _ _ _ rfl)) ?_ ?_; (simp only [List.length_nil, List.length_append, List.length_cons, List.nil_append, List.length_drop, List.length_take]; omega); intro v7 w7 hst7 _; rw [List.nil_append, ← HFNE.out] at hst7; obtain ⟨ma, mc, rfl, _, _, hmn, _⟩ := hst7.sl Inp.len 7 rfl; obtain ⟨qp, _⟩ := blkCells (hst7.blk 2 rfl).1; have hlp := (hst7.blk 2 rfl).2.2; obtain ⟨qe, _⟩ := blkCells (hst7.blk 5 rfl).1; have hle := (hst7.blk 5 rfl).2.2; have k0 := qp 0; have k1 := qp 1; have k2 := qp 2; have k3 := qp 3; have k4 := qp 4; have k5 := qp 5; have k6 := qe 0; have k7 := qe 1; have k8 := qe 2; have k9 := qe 3; have k10 := qe 4; simp at k0 k1 k2 k3 k4 k5 k6 k7 k8 k9 k10; clear qp qe; have HP52 := Lib.hid hst7; clear hst7)
                | (refine step_append_st inpElem rfl HHX.out 7 rfl _ _ rfl rfl (some ⟨_, 0, none⟩) 1 ([endI]) rfl (by simp) (SlAt.one Inp.len (HHX.out.blk 8 rfl).1) ?_ ?_; (simp only [List.length_nil, List.length_append, List.length_cons, List.nil_append, List.length_drop, List.length_take]; omega); intro v7 w7 hst7 _; rw [List.nil_append, ← HFNE.out] at hst7; obtain ⟨ma, mc, rfl, _, _, hmn, _⟩ := hst7.sl Inp.len 7 rfl; obtain ⟨qp, _⟩ := blkCells (hst7.blk 2 rfl).1; have hlp := (hst7.blk 2 rfl).2.2; obtain ⟨qe, _⟩ := blkCells (hst7.blk 5 rfl).1; have hle := (hst7.blk 5 rfl).2.2; have k0 := qp 0; have k1 := qp 1; have k2 := qp 2; have k3 := qp 3; have k4 := qp 4; have k5 := qp 5; have k6 := qe 0; have k7 := qe 1; have k8 := qe 2; have k9 := qe 3; have k10 := qe 4; simp at k0 k1 k2 k3 k4 k5 k6 k7 k8 k9 k10; clear qp qe; have HP52 := Lib.hid hst7; clear hst7)
                | (refine step_append_len inpElem rfl HT.out 7 rfl _ _ rfl rfl (some ⟨b, o, none⟩) c c (es.take c) (by simp; omega) rfl (by simp) ((HT.out.slOf Inp.len 4 rfl).take c) ?_ ?_; (simp only [List.length_nil, List.length_append, List.length_cons, List.nil_append, List.length_drop, List.length_take]; omega); intro v7 w7 hst7 _; obtain ⟨qp, _⟩ := blkCells (hst7.blk 2 rfl).1; have hlp := (hst7.blk 2 rfl).2.2; obtain ⟨qe, _⟩ := blkCells (hst7.blk 5 rfl).1; have hle := (hst7.blk 5 rfl).2.2; have k0 := qp 0; have k1 := qp 1; have k2 := qp 2; have k3 := qp 3; have k4 := qp 4; have k5 := qp 5; have k6 := qe 0; have k7 := qe 1; have k8 := qe 2; have k9 := qe 3; have k10 := qe 4; simp at k0 k1 k2 k3 k4 k5 k6 k7 k8 k9 k10; clear qp qe; have HH := Lib.hid hst7; clear hst7)
                | (refine step_append_len inpElem rfl (HT.out.alloc (.cells #[.bool true, .int .i64 1000, .int .i64 0, .int .i64 0, .int .u64 0] 64)) 7 rfl _ _ rfl rfl (some ⟨b, o, none⟩) c c (es.take c) (by simp; omega) rfl (by simp) (((HT.out.alloc (.cells #[.bool true, .int .i64 1000, .int .i64 0, .int .i64 0, .int .u64 0] 64)).slOf Inp.len 4 rfl).take c) ?_ ?_; (simp only [List.length_nil, List.length_append, List.length_cons, List.nil_append, List.length_drop, List.length_take]; omega); intro v7 w7 hst7 _; obtain ⟨qp, _⟩ := blkCells (hst7.blk 2 rfl).1; have hlp := (hst7.blk 2 rfl).2.2; obtain ⟨qe, _⟩ := blkCells (hst7.blk 5 rfl).1; have hle := (hst7.blk 5 rfl).2.2; have k0 := qp 0; have k1 := qp 1; have k2 := qp 2; have k3 := qp 3; have k4 := qp 4; have k5 := qp 5; have k6 := qe 0; have k7 := qe 1; have k8 := qe 2; have k9 := qe 3; have k10 := qe 4; simp at k0 k1 k2 k3 k4 k5 k6 k7 k8 k9 k10; clear qp qe; have HHX := Lib.hid hst7; clear hst7)
                | (refine step_append_len inpElem rfl HTX.out 7 rfl _ _ rfl rfl (some ⟨b, o, none⟩) c c (es.take c) (by simp; omega) rfl (by simp) ((HTX.out.slOf Inp.len 4 rfl).take c) ?_ ?_; (simp only [List.length_nil, List.length_append, List.length_cons, List.nil_append, List.length_drop, List.length_take]; omega); intro v7 w7 hst7 _; obtain ⟨qp, _⟩ := blkCells (hst7.blk 2 rfl).1; have hlp := (hst7.blk 2 rfl).2.2; obtain ⟨qe, _⟩ := blkCells (hst7.blk 5 rfl).1; have hle := (hst7.blk 5 rfl).2.2; have k0 := qp 0; have k1 := qp 1; have k2 := qp 2; have k3 := qp 3; have k4 := qp 4; have k5 := qp 5; have k6 := qe 0; have k7 := qe 1; have k8 := qe 2; have k9 := qe 3; have k10 := qe 4; simp at k0 k1 k2 k3 k4 k5 k6 k7 k8 k9 k10; clear qp qe; have HHX := Lib.hid hst7; clear hst7)
                | (refine step_append_len inpElem rfl HA0.out 7 rfl _ _ rfl rfl (some ⟨b, o, none⟩) 0 0 (es.drop c) (by simp; omega) rfl (by simp) (.inl (List.drop_of_length_le (by omega))) ?_ ?_; (simp only [List.length_nil, List.length_append, List.length_cons, List.nil_append, List.length_drop, List.length_take]; omega); intro v7 w7 hst7 _; obtain ⟨qp, _⟩ := blkCells (hst7.blk 2 rfl).1; have hlp := (hst7.blk 2 rfl).2.2; obtain ⟨qe, _⟩ := blkCells (hst7.blk 5 rfl).1; have hle := (hst7.blk 5 rfl).2.2; have k0 := qp 0; have k1 := qp 1; have k2 := qp 2; have k3 := qp 3; have k4 := qp 4; have k5 := qp 5; have k6 := qe 0; have k7 := qe 1; have k8 := qe 2; have k9 := qe 3; have k10 := qe 4; simp at k0 k1 k2 k3 k4 k5 k6 k7 k8 k9 k10; clear qp qe; have HT := Lib.hid hst7; clear hst7)
                | (refine step_append_len inpElem rfl HB0.out 7 rfl _ _ rfl rfl (some ⟨b, o, none⟩) 0 0 (es.drop c) (by simp; omega) rfl (by simp) (.inl (List.drop_of_length_le (by omega))) ?_ ?_; (simp only [List.length_nil, List.length_append, List.length_cons, List.nil_append, List.length_drop, List.length_take]; omega); intro v7 w7 hst7 _; obtain ⟨qp, _⟩ := blkCells (hst7.blk 2 rfl).1; have hlp := (hst7.blk 2 rfl).2.2; obtain ⟨qe, _⟩ := blkCells (hst7.blk 5 rfl).1; have hle := (hst7.blk 5 rfl).2.2; have k0 := qp 0; have k1 := qp 1; have k2 := qp 2; have k3 := qp 3; have k4 := qp 4; have k5 := qp 5; have k6 := qe 0; have k7 := qe 1; have k8 := qe 2; have k9 := qe 3; have k10 := qe 4; simp at k0 k1 k2 k3 k4 k5 k6 k7 k8 k9 k10; clear qp qe; have HTX := Lib.hid hst7; clear hst7)
                | (refine step_append_len inpElem rfl HC0.out 8 rfl _ _ rfl rfl (some ⟨b, o, none⟩) 0 0 (es.drop c) (by simp; omega) rfl (by simp) (.inl (List.drop_of_length_le (by omega))) ?_ ?_; (simp only [List.length_nil, List.length_append, List.length_cons, List.nil_append, List.length_drop, List.length_take]; omega); intro v7 w7 hst7 _; replace hst7 := hst7.pick [0, 1, 2, 3, 4, 5, 6, 8, 7] (by decide); obtain ⟨qp, _⟩ := blkCells (hst7.blk 2 rfl).1; have hlp := (hst7.blk 2 rfl).2.2; obtain ⟨qe, _⟩ := blkCells (hst7.blk 5 rfl).1; have hle := (hst7.blk 5 rfl).2.2; have k0 := qp 0; have k1 := qp 1; have k2 := qp 2; have k3 := qp 3; have k4 := qp 4; have k5 := qp 5; have k6 := qe 0; have k7 := qe 1; have k8 := qe 2; have k9 := qe 3; have k10 := qe 4; simp at k0 k1 k2 k3 k4 k5 k6 k7 k8 k9 k10; clear qp qe; have HTX := Lib.hid hst7; clear hst7)
                | (go_at_call 39; refine (bareRows_st HP52.out p HPR.out ma mc FN (Seen.own Inp.len 7 rfl) HFNW.out (by omega)).mono ?_; rintro e w9 ⟨v9, rfl, hst9⟩; obtain ⟨qp, _⟩ := blkCells (hst9.blk 2 rfl).1; have hlp := (hst9.blk 2 rfl).2.2; obtain ⟨qe, _⟩ := blkCells (hst9.blk 5 rfl).1; have hle := (hst9.blk 5 rfl).2.2; have k0 := qp 0; have k1 := qp 1; have k2 := qp 2; have k3 := qp 3; have k4 := qp 4; have k5 := qp 5; have k6 := qe 0; have k7 := qe 1; have k8 := qe 2; have k9 := qe 3; have k10 := qe 4; simp at k0 k1 k2 k3 k4 k5 k6 k7 k8 k9 k10; clear qp qe; obtain ⟨sa, sc, rfl, _, _, _, _⟩ := hst9.sl Rw.len 9 rfl; have HZ := Lib.hid (hst9.pick [0, 1, 2, 3, 4, 5, 6, 9] (by decide)); clear hst9))
            all_goals
              go_wp2
              go_meet
              exact ⟨sa, sc, rfl, HZ.out⟩
          · have hne : (ec = c) = False := eq_false hcc
            have hI1 : (c : Int) ≤ es.length := by omega
            have hI2 : (c : Int) ≤ ec := by omega
            have hI3 : (es.length : Int) ≤ ec := by omega
            have hI4 : (0 : Int) ≤ c := by omega
            go_region_held3 (fun w' => w'.cell? ⟨g, 0, none⟩ = some (.slice none 0 0) ∧ w'.cell? ⟨g, 1, none⟩ = some (.int .i64 p.size) ∧ w'.cell? ⟨g, 2, none⟩ = some (.int .i64 p.slide) ∧ w'.cell? ⟨g, 3, none⟩ = some (.int .i64 p.agg) ∧ w'.cell? ⟨g, 4, none⟩ = some (.int .i64 p.sink) ∧ w'.cell? ⟨g, 5, none⟩ = some (.int .i64 p.feed) ∧ w'.cell? ⟨ge, 0, none⟩ = some (.bool true) ∧ w'.cell? ⟨ge, 1, none⟩ = some (.int .i64 1000) ∧ w'.cell? ⟨ge, 2, none⟩ = some (.int .i64 0) ∧ w'.cell? ⟨ge, 3, none⟩ = some (.int .i64 0) ∧ w'.cell? ⟨ge, 4, none⟩ = some (.int .u64 0))
              (first | exact ⟨k0, k1, k2, k3, k4, k5, k6, k7, k8, k9, k10⟩ | exact ⟨(Below.cell (B := w7.heap.size) (w := w7) (by go_grown) hlp).trans k0, (Below.cell (B := w7.heap.size) (w := w7) (by go_grown) hlp).trans k1, (Below.cell (B := w7.heap.size) (w := w7) (by go_grown) hlp).trans k2, (Below.cell (B := w7.heap.size) (w := w7) (by go_grown) hlp).trans k3, (Below.cell (B := w7.heap.size) (w := w7) (by go_grown) hlp).trans k4, (Below.cell (B := w7.heap.size) (w := w7) (by go_grown) hlp).trans k5, (Below.cell (B := w7.heap.size) (w := w7) (by go_grown) hle).trans k6, (Below.cell (B := w7.heap.size) (w := w7) (by go_grown) hle).trans k7, (Below.cell (B := w7.heap.size) (w := w7) (by go_grown) hle).trans k8, (Below.cell (B := w7.heap.size) (w := w7) (by go_grown) hle).trans k9, (Below.cell (B := w7.heap.size) (w := w7) (by go_grown) hle).trans k10⟩ | exact ⟨(Below.cell (B := w6.heap.size) (w := w6) (by go_grown) hlp6).trans e0, (Below.cell (B := w6.heap.size) (w := w6) (by go_grown) hlp6).trans e1, (Below.cell (B := w6.heap.size) (w := w6) (by go_grown) hlp6).trans e2, (Below.cell (B := w6.heap.size) (w := w6) (by go_grown) hlp6).trans e3, (Below.cell (B := w6.heap.size) (w := w6) (by go_grown) hlp6).trans e4, (Below.cell (B := w6.heap.size) (w := w6) (by go_grown) hlp6).trans e5, (Below.cell (B := w6.heap.size) (w := w6) (by go_grown) hle6).trans e6, (Below.cell (B := w6.heap.size) (w := w6) (by go_grown) hle6).trans e7, (Below.cell (B := w6.heap.size) (w := w6) (by go_grown) hle6).trans e8, (Below.cell (B := w6.heap.size) (w := w6) (by go_grown) hle6).trans e9, (Below.cell (B := w6.heap.size) (w := w6) (by go_grown) hle6).trans e10⟩)
              (first
                | (refine step_append_st inpElem rfl (HH.out.alloc (.cells #[.bool true, .int .i64 1000, .int .i64 0, .int .i64 0, .int .u64 0] 64)) 7 rfl _ _ rfl rfl (some ⟨w7.heap.size, 0, none⟩) 1 ([endI]) rfl (by simp) (SlAt.one Inp.len (new_at _ _ _ rfl)) ?_ ?_; (simp only [List.length_nil, List.length_append, List.length_cons, List.nil_append, List.length_drop, List.length_take]; omega); intro v7 w7 hst7 _; rw [List.nil_append, ← HFNE.out] at hst7; obtain ⟨ma, mc, rfl, _, _, hmn, _⟩ := hst7.sl Inp.len 7 rfl; obtain ⟨qp, _⟩ := blkCells (hst7.blk 2 rfl).1; have hlp := (hst7.blk 2 rfl).2.2; obtain ⟨qe, _⟩ := blkCells (hst7.blk 5 rfl).1; have hle := (hst7.blk 5 rfl).2.2; have k0 := qp 0; have k1 := qp 1; have k2 := qp 2; have k3 := qp 3; have k4 := qp 4; have k5 := qp 5; have k6 := qe 0; have k7 := qe 1; have k8 := qe 2; have k9 := qe 3; have k10 := qe 4; simp at k0 k1 k2 k3 k4 k5 k6 k7 k8 k9 k10; clear qp qe; have HP52 := Lib.hid hst7; clear hst7)
                | (refine step_append_st inpElem rfl HHX.out 7 rfl _ _ rfl rfl (some ⟨_, 0, none⟩) 1 ([endI]) rfl (by simp) (SlAt.one Inp.len (HHX.out.blk 8 rfl).1) ?_ ?_; (simp only [List.length_nil, List.length_append, List.length_cons, List.nil_append, List.length_drop, List.length_take]; omega); intro v7 w7 hst7 _; rw [List.nil_append, ← HFNE.out] at hst7; obtain ⟨ma, mc, rfl, _, _, hmn, _⟩ := hst7.sl Inp.len 7 rfl; obtain ⟨qp, _⟩ := blkCells (hst7.blk 2 rfl).1; have hlp := (hst7.blk 2 rfl).2.2; obtain ⟨qe, _⟩ := blkCells (hst7.blk 5 rfl).1; have hle := (hst7.blk 5 rfl).2.2; have k0 := qp 0; have k1 := qp 1; have k2 := qp 2; have k3 := qp 3; have k4 := qp 4; have k5 := qp 5; have k6 := qe 0; have k7 := qe 1; have k8 := qe 2; have k9 := qe 3; have k10 := qe 4; simp at k0 k1 k2 k3 k4 k5 k6 k7 k8 k9 k10; clear qp qe; have HP52 := Lib.hid hst7; clear hst7)
                | (refine step_append_len inpElem rfl HT.out 7 rfl _ _ rfl rfl (some ⟨b, o, none⟩) c ec (es.take c) (by simp; omega) rfl (by simp) ((HT.out.slOf Inp.len 4 rfl).take c) ?_ ?_; (simp only [List.length_nil, List.length_append, List.length_cons, List.nil_append, List.length_drop, List.length_take]; omega); intro v7 w7 hst7 _; obtain ⟨qp, _⟩ := blkCells (hst7.blk 2 rfl).1; have hlp := (hst7.blk 2 rfl).2.2; obtain ⟨qe, _⟩ := blkCells (hst7.blk 5 rfl).1; have hle := (hst7.blk 5 rfl).2.2; have k0 := qp 0; have k1 := qp 1; have k2 := qp 2; have k3 := qp 3; have k4 := qp 4; have k5 := qp 5; have k6 := qe 0; have k7 := qe 1; have k8 := qe 2; have k9 := qe 3; have k10 := qe 4; simp at k0 k1 k2 k3 k4 k5 k6 k7 k8 k9 k10; clear qp qe; have HH := Lib.hid hst7; clear hst7)
                | (refine step_append_len inpElem rfl (HT.out.alloc (.cells #[.bool true, .int .i64 1000, .int .i64 0, .int .i64 0, .int .u64 0] 64)) 7 rfl _ _ rfl rfl (some ⟨b, o, none⟩) c ec (es.take c) (by simp; omega) rfl (by simp) (((HT.out.alloc (.cells #[.bool true, .int .i64 1000, .int .i64 0, .int .i64 0, .int .u64 0] 64)).slOf Inp.len 4 rfl).take c) ?_ ?_; (simp only [List.length_nil, List.length_append, List.length_cons, List.nil_append, List.length_drop, List.length_take]; omega); intro v7 w7 hst7 _; obtain ⟨qp, _⟩ := blkCells (hst7.blk 2 rfl).1; have hlp := (hst7.blk 2 rfl).2.2; obtain ⟨qe, _⟩ := blkCells (hst7.blk 5 rfl).1; have hle := (hst7.blk 5 rfl).2.2; have k0 := qp 0; have k1 := qp 1; have k2 := qp 2; have k3 := qp 3; have k4 := qp 4; have k5 := qp 5; have k6 := qe 0; have k7 := qe 1; have k8 := qe 2; have k9 := qe 3; have k10 := qe 4; simp at k0 k1 k2 k3 k4 k5 k6 k7 k8 k9 k10; clear qp qe; have HHX := Lib.hid hst7; clear hst7)
                | (refine step_append_len inpElem rfl HTX.out 7 rfl _ _ rfl rfl (some ⟨b, o, none⟩) c ec (es.take c) (by simp; omega) rfl (by simp) ((HTX.out.slOf Inp.len 4 rfl).take c) ?_ ?_; (simp only [List.length_nil, List.length_append, List.length_cons, List.nil_append, List.length_drop, List.length_take]; omega); intro v7 w7 hst7 _; obtain ⟨qp, _⟩ := blkCells (hst7.blk 2 rfl).1; have hlp := (hst7.blk 2 rfl).2.2; obtain ⟨qe, _⟩ := blkCells (hst7.blk 5 rfl).1; have hle := (hst7.blk 5 rfl).2.2; have k0 := qp 0; have k1 := qp 1; have k2 := qp 2; have k3 := qp 3; have k4 := qp 4; have k5 := qp 5; have k6 := qe 0; have k7 := qe 1; have k8 := qe 2; have k9 := qe 3; have k10 := qe 4; simp at k0 k1 k2 k3 k4 k5 k6 k7 k8 k9 k10; clear qp qe; have HHX := Lib.hid hst7; clear hst7)
                | (refine step_append_len inpElem rfl HA0.out 7 rfl _ _ rfl rfl (some ⟨b, o + c * 5, none⟩) (es.length - c) (ec - c) (es.drop c) (by simp) rfl (by simp) ((HA0.out.slOf Inp.len 4 rfl).drop c) ?_ ?_; (simp only [List.length_nil, List.length_append, List.length_cons, List.nil_append, List.length_drop, List.length_take]; omega); intro v7 w7 hst7 _; obtain ⟨qp, _⟩ := blkCells (hst7.blk 2 rfl).1; have hlp := (hst7.blk 2 rfl).2.2; obtain ⟨qe, _⟩ := blkCells (hst7.blk 5 rfl).1; have hle := (hst7.blk 5 rfl).2.2; have k0 := qp 0; have k1 := qp 1; have k2 := qp 2; have k3 := qp 3; have k4 := qp 4; have k5 := qp 5; have k6 := qe 0; have k7 := qe 1; have k8 := qe 2; have k9 := qe 3; have k10 := qe 4; simp at k0 k1 k2 k3 k4 k5 k6 k7 k8 k9 k10; clear qp qe; have HT := Lib.hid hst7; clear hst7)
                | (refine step_append_len inpElem rfl HB0.out 7 rfl _ _ rfl rfl (some ⟨b, o + c * 5, none⟩) (es.length - c) (ec - c) (es.drop c) (by simp) rfl (by simp) ((HB0.out.slOf Inp.len 4 rfl).drop c) ?_ ?_; (simp only [List.length_nil, List.length_append, List.length_cons, List.nil_append, List.length_drop, List.length_take]; omega); intro v7 w7 hst7 _; obtain ⟨qp, _⟩ := blkCells (hst7.blk 2 rfl).1; have hlp := (hst7.blk 2 rfl).2.2; obtain ⟨qe, _⟩ := blkCells (hst7.blk 5 rfl).1; have hle := (hst7.blk 5 rfl).2.2; have k0 := qp 0; have k1 := qp 1; have k2 := qp 2; have k3 := qp 3; have k4 := qp 4; have k5 := qp 5; have k6 := qe 0; have k7 := qe 1; have k8 := qe 2; have k9 := qe 3; have k10 := qe 4; simp at k0 k1 k2 k3 k4 k5 k6 k7 k8 k9 k10; clear qp qe; have HTX := Lib.hid hst7; clear hst7)
                | (refine step_append_len inpElem rfl HC0.out 8 rfl _ _ rfl rfl (some ⟨b, o + c * 5, none⟩) (es.length - c) (ec - c) (es.drop c) (by simp) rfl (by simp) ((HC0.out.slOf Inp.len 4 rfl).drop c) ?_ ?_; (simp only [List.length_nil, List.length_append, List.length_cons, List.nil_append, List.length_drop, List.length_take]; omega); intro v7 w7 hst7 _; replace hst7 := hst7.pick [0, 1, 2, 3, 4, 5, 6, 8, 7] (by decide); obtain ⟨qp, _⟩ := blkCells (hst7.blk 2 rfl).1; have hlp := (hst7.blk 2 rfl).2.2; obtain ⟨qe, _⟩ := blkCells (hst7.blk 5 rfl).1; have hle := (hst7.blk 5 rfl).2.2; have k0 := qp 0; have k1 := qp 1; have k2 := qp 2; have k3 := qp 3; have k4 := qp 4; have k5 := qp 5; have k6 := qe 0; have k7 := qe 1; have k8 := qe 2; have k9 := qe 3; have k10 := qe 4; simp at k0 k1 k2 k3 k4 k5 k6 k7 k8 k9 k10; clear qp qe; have HTX := Lib.hid hst7; clear hst7)
                | (go_at_call 39; refine (bareRows_st HP52.out p HPR.out ma mc FN (Seen.own Inp.len 7 rfl) HFNW.out (by omega)).mono ?_; rintro e w9 ⟨v9, rfl, hst9⟩; obtain ⟨qp, _⟩ := blkCells (hst9.blk 2 rfl).1; have hlp := (hst9.blk 2 rfl).2.2; obtain ⟨qe, _⟩ := blkCells (hst9.blk 5 rfl).1; have hle := (hst9.blk 5 rfl).2.2; have k0 := qp 0; have k1 := qp 1; have k2 := qp 2; have k3 := qp 3; have k4 := qp 4; have k5 := qp 5; have k6 := qe 0; have k7 := qe 1; have k8 := qe 2; have k9 := qe 3; have k10 := qe 4; simp at k0 k1 k2 k3 k4 k5 k6 k7 k8 k9 k10; clear qp qe; obtain ⟨sa, sc, rfl, _, _, _, _⟩ := hst9.sl Rw.len 9 rfl; have HZ := Lib.hid (hst9.pick [0, 1, 2, 3, 4, 5, 6, 9] (by decide)); clear hst9))
            all_goals
              go_wp2
              go_meet
              exact ⟨sa, sc, rfl, HZ.out⟩
      case rest =>
        obtain ⟨sa, sc, rfl, hst10⟩ := hcut
        have hx := HPM.out
        clear HPM HS6
        generalize wholeRows p.bare FN = rowsF at *
        subst hx
        clear hlp6 hle6 e0 e1 e2 e3 e4 e5 e6 e7 e8 e9 e10 HA0 HB0 HC0
        have HS10 := Lib.hid hst10
        clear hst10
        go_wp2_with (go_at_call 16; refine (Within_at _ _ _ _ (by omega) (by omega) (by omega) (by omega) (by omega)).mono ?_; rintro e wz ⟨rfl, rfl⟩)
        generalize within key 4 200 = one at *
        refine wp_at HS10.out ?_
        clear HS10
        intro w6 hst6
        obtain ⟨qp, _⟩ := blkCells (hst6.blk 2 rfl).1; have hlp := (hst6.blk 2 rfl).2.2; obtain ⟨qe, _⟩ := blkCells (hst6.blk 5 rfl).1; have hle := (hst6.blk 5 rfl).2.2; have e0 := qp 0; have e1 := qp 1; have e2 := qp 2; have e3 := qp 3; have e4 := qp 4; have e5 := qp 5; have e6 := qe 0; have e7 := qe 1; have e8 := qe 2; have e9 := qe 3; have e10 := qe 4; simp at e0 e1 e2 e3 e4 e5 e6 e7 e8 e9 e10; clear qp qe
        have hlp6 := hlp
        have hle6 := hle
        have hB := ((hst6.alloc (.cells #[] 64)).alloc (.cells #[.bool false, .int .i64 5, .int .i64 one, .int .i64 1, .int .u64 1, .bool true, .int .i64 1000, .int .i64 0, .int .i64 0, .int .u64 0] 64)).drew
        have hC := ((hst6.alloc (.cells #[.bool false, .int .i64 5, .int .i64 one, .int .i64 1, .int .u64 1, .bool true, .int .i64 1000, .int .i64 0, .int .i64 0, .int .u64 0] 64)).alloc (.cells #[] 64)).drew
        rw [World.size_alloc] at hB hC
        have HB0 := Lib.hid (hB.imp 8 rfl (X' := ownP 64 5 Inp.cells (.slice (some ⟨_, 0, none⟩) 0 0) ([] : List Inp)) fun h hp => ownP_empty hp)
        have HC0 := Lib.hid (hC.imp 9 rfl (X' := ownP 64 5 Inp.cells (.slice (some ⟨_, 0, none⟩) 0 0) ([] : List Inp)) fun h hp => ownP_empty hp)
        have HA0 := Lib.hid ((hst6.alloc (.cells #[] 64)).drew.imp 8 rfl (X' := ownP 64 5 Inp.cells (.slice (some ⟨_, 0, none⟩) 0 0) ([] : List Inp)) fun h hp => ownP_empty hp)
        clear hB hC hst6
        have hlo : (Lit.int .i64 one).wf = true := WalkArith.wf_i64 (by omega)
        obtain ⟨GN, hGN⟩ : ∃ x, x = es ++ [⟨false, ⟨5, one, 1, 1⟩⟩, endI] := ⟨_, rfl⟩
        have hgl : GN.length ≤ 27 := by rw [hGN]; simp; omega
        have hgw : ∀ i ∈ GN, i.ev.wf := by
          rw [hGN]
          intro i hi
          rcases List.mem_append.1 hi with h | h
          · exact (HES.out i h).1
          · simp at h
            rcases h with rfl | rfl
            · exact ⟨show (Lit.int .i64 5).wf = true by decide, hlo, show (Lit.int .i64 1).wf = true by decide, show (Lit.int .u64 1).wf = true by decide⟩
            · exact mark1000_wf
        have hmore : (wholeRows p.bare GN).filter (fun x : Rw => !(x.key == one)) = rowsE := by
          rw [HRE.out, hGN]
          exact whole_more (p := p.bare) rfl (fun i hi => (HES.out i hi).1) (fun i hi => by have := (HES.out i hi).2.2; omega) hlo
        have HGNE := Lib.hid hGN
        have HGNW := Lib.hid hgw
        have HMORE := Lib.hid hmore
        clear hGN hgw hmore
        go_cut [18] from 70 to 78 (fun u wx => ∃ va vc, u = .slice va GN.length vc ∧ St w wx [pt w.heap.size (.cells #[.slice ao k.ops.length co, .slice an k.ns.length cn, .int .i64 k.size, .int .i64 k.slide, .int .i64 k.agg, .int .i64 k.sink, .int .i64 k.feed] 69 (0, 0)), ownP 54 2 Opr.cells (.slice pa p.ops.length pc) p.ops, pt g (.cells #[.slice none 0 0, .int .i64 p.size, .int .i64 p.slide, .int .i64 p.agg, .int .i64 p.sink, .int .i64 p.feed] 57 (0, 0)), ownP 64 5 Inp.cells (.slice ia ins.length ic) ins, ownP 64 5 Inp.cells (.slice ea es.length ec) es, pt ge (.cells #[.bool true, .int .i64 1000, .int .i64 0, .int .i64 0, .int .u64 0] 64 (0, 0)), ownP 45 5 Rw.cells (.slice ra rowsE.length rc) rowsE, ownP 45 5 Rw.cells (.slice sa rowsE.length sc) rowsE, ownP 64 5 Inp.cells (.slice va GN.length vc) GN])
        case first =>
          go_region_held3 (fun w' => w'.cell? ⟨g, 0, none⟩ = some (.slice none 0 0) ∧ w'.cell? ⟨g, 1, none⟩ = some (.int .i64 p.size) ∧ w'.cell? ⟨g, 2, none⟩ = some (.int .i64 p.slide) ∧ w'.cell? ⟨g, 3, none⟩ = some (.int .i64 p.agg) ∧ w'.cell? ⟨g, 4, none⟩ = some (.int .i64 p.sink) ∧ w'.cell? ⟨g, 5, none⟩ = some (.int .i64 p.feed) ∧ w'.cell? ⟨ge, 0, none⟩ = some (.bool true) ∧ w'.cell? ⟨ge, 1, none⟩ = some (.int .i64 1000) ∧ w'.cell? ⟨ge, 2, none⟩ = some (.int .i64 0) ∧ w'.cell? ⟨ge, 3, none⟩ = some (.int .i64 0) ∧ w'.cell? ⟨ge, 4, none⟩ = some (.int .u64 0))
            (first | exact ⟨k0, k1, k2, k3, k4, k5, k6, k7, k8, k9, k10⟩ | exact ⟨(Below.cell (B := w7.heap.size) (w := w7) (by go_grown) hlp).trans k0, (Below.cell (B := w7.heap.size) (w := w7) (by go_grown) hlp).trans k1, (Below.cell (B := w7.heap.size) (w := w7) (by go_grown) hlp).trans k2, (Below.cell (B := w7.heap.size) (w := w7) (by go_grown) hlp).trans k3, (Below.cell (B := w7.heap.size) (w := w7) (by go_grown) hlp).trans k4, (Below.cell (B := w7.heap.size) (w := w7) (by go_grown) hlp).trans k5, (Below.cell (B := w7.heap.size) (w := w7) (by go_grown) hle).trans k6, (Below.cell (B := w7.heap.size) (w := w7) (by go_grown) hle).trans k7, (Below.cell (B := w7.heap.size) (w := w7) (by go_grown) hle).trans k8, (Below.cell (B := w7.heap.size) (w := w7) (by go_grown) hle).trans k9, (Below.cell (B := w7.heap.size) (w := w7) (by go_grown) hle).trans k10⟩ | exact ⟨(Below.cell (B := w6.heap.size) (w := w6) (by go_grown) hlp6).trans e0, (Below.cell (B := w6.heap.size) (w := w6) (by go_grown) hlp6).trans e1, (Below.cell (B := w6.heap.size) (w := w6) (by go_grown) hlp6).trans e2, (Below.cell (B := w6.heap.size) (w := w6) (by go_grown) hlp6).trans e3, (Below.cell (B := w6.heap.size) (w := w6) (by go_grown) hlp6).trans e4, (Below.cell (B := w6.heap.size) (w := w6) (by go_grown) hlp6).trans e5, (Below.cell (B := w6.heap.size) (w := w6) (by go_grown) hle6).trans e6, (Below.cell (B := w6.heap.size) (w := w6) (by go_grown) hle6).trans e7, (Below.cell (B := w6.heap.size) (w := w6) (by go_grown) hle6).trans e8, (Below.cell (B := w6.heap.size) (w := w6) (by go_grown) hle6).trans e9, (Below.cell (B := w6.heap.size) (w := w6) (by go_grown) hle6).trans e10⟩)
            (first
              | (refine step_append_st inpElem rfl (HA.out.alloc (.cells #[.bool false, .int .i64 5, .int .i64 one, .int .i64 1, .int .u64 1, .bool true, .int .i64 1000, .int .i64 0, .int .i64 0, .int .u64 0] 64)) 8 rfl _ _ rfl rfl (some ⟨w7.heap.size, 0, none⟩) 2 ([⟨false, ⟨5, one, 1, 1⟩⟩, endI]) rfl (by simp) (SlAt.ofRow Inp.len (l := [⟨false, ⟨5, one, 1, 1⟩⟩, endI]) (new_at _ _ _ rfl)) ?_ ?_; (simp only [List.length_nil, List.length_append, List.length_cons, List.nil_append]; omega); intro v7 w7 hst7 _; rw [List.nil_append, ← HGNE.out] at hst7; obtain ⟨ma, mc, rfl, _, _, hmn, _⟩ := hst7.sl Inp.len 8 rfl; obtain ⟨qp, _⟩ := blkCells (hst7.blk 2 rfl).1; have hlp := (hst7.blk 2 rfl).2.2; obtain ⟨qe, _⟩ := blkCells (hst7.blk 5 rfl).1; have hle := (hst7.blk 5 rfl).2.2; have k0 := qp 0; have k1 := qp 1; have k2 := qp 2; have k3 := qp 3; have k4 := qp 4; have k5 := qp 5; have k6 := qe 0; have k7 := qe 1; have k8 := qe 2; have k9 := qe 3; have k10 := qe 4; simp at k0 k1 k2 k3 k4 k5 k6 k7 k8 k9 k10; clear qp qe; have HP52 := Lib.hid hst7; clear hst7)
              | (refine step_append_st inpElem rfl HB.out 8 rfl _ _ rfl rfl (some ⟨_, 0, none⟩) 2 ([⟨false, ⟨5, one, 1, 1⟩⟩, endI]) rfl (by simp) (SlAt.ofRow Inp.len (l := [⟨false, ⟨5, one, 1, 1⟩⟩, endI]) (HB.out.blk 9 rfl).1) ?_ ?_; (simp only [List.length_nil, List.length_append, List.length_cons, List.nil_append]; omega); intro v7 w7 hst7 _; rw [List.nil_append, ← HGNE.out] at hst7; obtain ⟨ma, mc, rfl, _, _, hmn, _⟩ := hst7.sl Inp.len 8 rfl; obtain ⟨qp, _⟩ := blkCells (hst7.blk 2 rfl).1; have hlp := (hst7.blk 2 rfl).2.2; obtain ⟨qe, _⟩ := blkCells (hst7.blk 5 rfl).1; have hle := (hst7.blk 5 rfl).2.2; have k0 := qp 0; have k1 := qp 1; have k2 := qp 2; have k3 := qp 3; have k4 := qp 4; have k5 := qp 5; have k6 := qe 0; have k7 := qe 1; have k8 := qe 2; have k9 := qe 3; have k10 := qe 4; simp at k0 k1 k2 k3 k4 k5 k6 k7 k8 k9 k10; clear qp qe; have HP52 := Lib.hid hst7; clear hst7)
              | (refine step_append_st inpElem rfl HA0.out 8 rfl _ _ rfl rfl ea ec (es) rfl HEN.out (HA0.out.slOf Inp.len 4 rfl) ?_ ?_; (simp only [List.length_nil, List.length_append, List.length_cons, List.nil_append]; omega); intro v7 w7 hst7 _; obtain ⟨qp, _⟩ := blkCells (hst7.blk 2 rfl).1; have hlp := (hst7.blk 2 rfl).2.2; obtain ⟨qe, _⟩ := blkCells (hst7.blk 5 rfl).1; have hle := (hst7.blk 5 rfl).2.2; have k0 := qp 0; have k1 := qp 1; have k2 := qp 2; have k3 := qp 3; have k4 := qp 4; have k5 := qp 5; have k6 := qe 0; have k7 := qe 1; have k8 := qe 2; have k9 := qe 3; have k10 := qe 4; simp at k0 k1 k2 k3 k4 k5 k6 k7 k8 k9 k10; clear qp qe; have HA := Lib.hid hst7; clear hst7)
              | (refine step_append_st inpElem rfl HB0.out 8 rfl _ _ rfl rfl ea ec (es) rfl HEN.out (HB0.out.slOf Inp.len 4 rfl) ?_ ?_; (simp only [List.length_nil, List.length_append, List.length_cons, List.nil_append]; omega); intro v7 w7 hst7 _; obtain ⟨qp, _⟩ := blkCells (hst7.blk 2 rfl).1; have hlp := (hst7.blk 2 rfl).2.2; obtain ⟨qe, _⟩ := blkCells (hst7.blk 5 rfl).1; have hle := (hst7.blk 5 rfl).2.2; have k0 := qp 0; have k1 := qp 1; have k2 := qp 2; have k3 := qp 3; have k4 := qp 4; have k5 := qp 5; have k6 := qe 0; have k7 := qe 1; have k8 := qe 2; have k9 := qe 3; have k10 := qe 4; simp at k0 k1 k2 k3 k4 k5 k6 k7 k8 k9 k10; clear qp qe; have HB := Lib.hid hst7; clear hst7)
              | (refine step_append_st inpElem rfl HC0.out 9 rfl _ _ rfl rfl ea ec (es) rfl HEN.out (HC0.out.slOf Inp.len 4 rfl) ?_ ?_; (simp only [List.length_nil, List.length_append, List.length_cons, List.nil_append]; omega); intro v7 w7 hst7 _; replace hst7 := hst7.pick [0, 1, 2, 3, 4, 5, 6, 7, 9, 8] (by decide); obtain ⟨qp, _⟩ := blkCells (hst7.blk 2 rfl).1; have hlp := (hst7.blk 2 rfl).2.2; obtain ⟨qe, _⟩ := blkCells (hst7.blk 5 rfl).1; have hle := (hst7.blk 5 rfl).2.2; have k0 := qp 0; have k1 := qp 1; have k2 := qp 2; have k3 := qp 3; have k4 := qp 4; have k5 := qp 5; have k6 := qe 0; have k7 := qe 1; have k8 := qe 2; have k9 := qe 3; have k10 := qe 4; simp at k0 k1 k2 k3 k4 k5 k6 k7 k8 k9 k10; clear qp qe; have HB := Lib.hid hst7; clear hst7))
          all_goals
            go_wp2
            go_meet
            exact ⟨ma, mc, rfl, HP52.out.pick [0, 1, 2, 3, 4, 5, 6, 7, 8] (by decide)⟩
        case rest =>
          obtain ⟨va, vc, rfl, hst12⟩ := hcut
          have HC1 := Lib.hid (bareRows_st hst12 p HPR.out va vc GN (Seen.own Inp.len 8 rfl) HGNW.out (by omega))
          clear hlp6 hle6 e0 e1 e2 e3 e4 e5 e6 e7 e8 e9 e10 hlp hle HA0 HB0 HC0
          obtain ⟨qk, _⟩ := blkCells (hst12.blk 2 rfl).1
          have hlk := (hst12.blk 2 rfl).2.2
          have k0 := qk 0; have k1 := qk 1; have k2 := qk 2; have k3 := qk 3; have k4 := qk 4; have k5 := qk 5
          simp at k0 k1 k2 k3 k4 k5
          clear qk hst12
          go_upto_block 2 with (go_at_call 39; (with_reducible refine HC1.out.mono ?_); rintro e w13 ⟨v13, rfl, hst13⟩; obtain ⟨xa, xc, rfl, hxc, hxm, hxn, _⟩ := hst13.sl Rw.len 9 rfl; have HS13 := Lib.hid hst13; clear hst13 HC1)
          have hbd := rowsR_len (newR p.bare) GN
          have hbd' : (wholeRows p.bare GN).length ≤ 1000 := by
            have h0 : (newR p.bare).L.length = 0 := rfl
            show (rowsR (newR p.bare) GN).length ≤ 1000
            omega
          clear hbd
          generalize wholeRows p.bare GN = rows at *
          have hrl : rowsE.length ≤ rows.length := by rw [← HMORE.out]; exact List.length_filter_le _ _
          have HS14 := Lib.hid (HS13.out.nil 45 5 Rw.cells)
          go_cut [19] from 83 to 95 (fun u wx => ∃ vv : Value, u = vv ∧ St w wx [pt w.heap.size (.cells #[.slice ao k.ops.length co, .slice an k.ns.length cn, .int .i64 k.size, .int .i64 k.slide, .int .i64 k.agg, .int .i64 k.sink, .int .i64 k.feed] 69 (0, 0)), ownP 54 2 Opr.cells (.slice pa p.ops.length pc) p.ops, pt g (.cells #[.slice none 0 0, .int .i64 p.size, .int .i64 p.slide, .int .i64 p.agg, .int .i64 p.sink, .int .i64 p.feed] 57 (0, 0)), ownP 64 5 Inp.cells (.slice ia ins.length ic) ins, ownP 64 5 Inp.cells (.slice ea es.length ec) es, pt ge (.cells #[.bool true, .int .i64 1000, .int .i64 0, .int .i64 0, .int .u64 0] 64 (0, 0)), ownP 45 5 Rw.cells (.slice ra rowsE.length rc) rowsE, ownP 45 5 Rw.cells (.slice sa rowsE.length sc) rowsE, ownP 64 5 Inp.cells (.slice va GN.length vc) GN, ownP 45 5 Rw.cells (.slice xa rows.length xc) rows, ownP 45 5 Rw.cells vv (rows.filter (fun x : Rw => !(x.key == one)))])
          case first =>
            go_wp2_with fail
            go_loopw [19, 83] (fun vv iv wr => ∃ m : Nat, m ≤ rows.length ∧ iv = .int .i64 m ∧ St w wr [pt w.heap.size (.cells #[.slice ao k.ops.length co, .slice an k.ns.length cn, .int .i64 k.size, .int .i64 k.slide, .int .i64 k.agg, .int .i64 k.sink, .int .i64 k.feed] 69 (0, 0)), ownP 54 2 Opr.cells (.slice pa p.ops.length pc) p.ops, pt g (.cells #[.slice none 0 0, .int .i64 p.size, .int .i64 p.slide, .int .i64 p.agg, .int .i64 p.sink, .int .i64 p.feed] 57 (0, 0)), ownP 64 5 Inp.cells (.slice ia ins.length ic) ins, ownP 64 5 Inp.cells (.slice ea es.length ec) es, pt ge (.cells #[.bool true, .int .i64 1000, .int .i64 0, .int .i64 0, .int .u64 0] 64 (0, 0)), ownP 45 5 Rw.cells (.slice ra rowsE.length rc) rowsE, ownP 45 5 Rw.cells (.slice sa rowsE.length sc) rowsE, ownP 64 5 Inp.cells (.slice va GN.length vc) GN, ownP 45 5 Rw.cells (.slice xa rows.length xc) rows, ownP 45 5 Rw.cells vv ((rows.take m).filter (fun x : Rw => !(x.key == one)))]) (fun _ iv _ => rows.length - (intOf iv).toNat)
            case atStart => exact ⟨0, by omega, rfl, HS14.out⟩
            case round =>
              obtain ⟨m, hm, rfl, hst⟩ := hrel
              by_cases hlt : (m : Int) < rows.length
              · have hmn : m < rows.length := by omega
                obtain ⟨xb, xo, rfl, hxl, d0, d1, d2, d3, d4⟩ := (hst.slOf Rw.len 9 rfl).rwAt m hmn
                have hg2 := filter_take (fun x : Rw => !(x.key == one)) hmn
                have hlb : ((rows.take m).filter (fun x : Rw => !(x.key == one))).length < 1099511627776 := by have := List.length_filter_le (fun x : Rw => !(x.key == one)) (rows.take m); have := List.length_take_le m rows; omega
                rw [List.getElem?_eq_getElem hmn] at d0 d1 d2 d3 d4
                simp only [Option.getD_some] at d0 d1 d2 d3 d4
                generalize rows[m] = row at *
                obtain ⟨rs, rk, rv, rc, rl⟩ := row
                dsimp only at d0 d1 d2 d3 d4
                have HG2 := Lib.hid hg2
                have HLB := Lib.hid hlb
                have HST := Lib.hid hst
                clear hg2 hlb hst
                cases hkk : (rk == one) with
                | true =>
                  have HKK := Lib.hid hkk
                  have g2 := HG2.out
                  rw [if_neg (show ¬ (!(rk == one)) = true by rw [HKK.out]; decide)] at g2
                  have HB2 := Lib.hid g2
                  clear g2
                  go_wp2_with fail
                  go_roundw
                  case rel => exact ⟨m + 1, by omega, by go_num, by rw [HB2.out]; exact (HST.out.alloc _).pick [0, 1, 2, 3, 4, 5, 6, 7, 8, 9, 10] (by decide)⟩
                  case measure => simp [intOf]; omega
                | false =>
                  have HKK := Lib.hid hkk
                  have g2 := HG2.out
                  rw [if_pos (show (!(rk == one)) = true by rw [HKK.out]; rfl)] at g2
                  have HB2 := Lib.hid g2
                  clear g2
                  have HP1 := Lib.hid ((HST.out.alloc (.cells #[.int .i64 rs, .int .i64 rk, .int .i64 rv, .int .i64 rc, .int .u64 rl] 45)).alloc (.cells #[.int .i64 rs, .int .i64 rk, .int .i64 rv, .int .i64 rc, .int .u64 rl] 45))
                  go_wp2_with (at_builtin; refine wpList_push_st rwElem rfl HP1.out 10 rfl _ _ rfl rfl _ (⟨rs, rk, rv, rc, rl⟩ : Rw) rfl (new_at _ _ _ (by simp)) HLB.out ?_; intro v7 w7 hst7 _; have HPA := Lib.hid hst7; clear hst7)
                  go_roundw
                  case rel => exact ⟨m + 1, by omega, by go_num, by rw [HB2.out]; exact HPA.out.pick [0, 1, 2, 3, 4, 5, 6, 7, 8, 9, 10] (by decide)⟩
                  case measure => simp [intOf]; omega
              · obtain rfl : m = rows.length := by omega
                rw [List.take_length] at hst
                have HST := Lib.hid hst
                clear hst
                go_wp2
                go_meet
                exact ⟨_, rfl, HST.out⟩
          case rest =>
            obtain ⟨vv, rfl, hst15⟩ := hcut
            rw [HMORE.out] at hst15
            obtain ⟨ya, yc, rfl, _, _, _, _⟩ := hst15.sl Rw.len 10 rfl
            have HC2 := Lib.hid (sameRw_any hst15 6 7 rfl rfl rfl (by omega))
            clear hst15
            go_wp2_with (first
              | (go_at_call 24; (with_reducible refine HC3.out.mono ?_); rintro e w17 ⟨rfl, hst17⟩; have HS17 := Lib.hid hst17; clear HC3 hst17)
              | (go_at_call 24; (with_reducible refine HC2.out.mono ?_); rintro e w16 ⟨rfl, hst16⟩; have HC3 := Lib.hid (sameRw_any hst16 10 6 rfl rfl rfl (by omega)); clear HC2 hst16)
              | (go_at_call 8; refine (WholeRuns_any _).mono ?_; rintro e w18 ⟨rfl, hb18⟩; have HS18 := Lib.hid (HS17.out.kept hb18); clear hb18))
            go_ret
            exact ⟨rfl, HS18.out.below⟩
end Go.Proofs.Ytjkflblbcodnoaa
