/- The walk of CoreOrder. -/
import Derived.Test.YtdncpihaeobaeaaGreatSetLaw
import Derived.Test.YtdncpihaeobaeaaGreatActs
import Derived.Test.YtdncpihaeobaeaaGreatDoLit
import Derived.Test.YtdncpihaeobaeaaGreatOwnW
import Derived.Test.YtdncpihaeobaeaaGreatSeeCell
set_option linter.unusedVariables false
set_option linter.unusedSimpArgs false
namespace Go.Proofs.YtdncpihaeobaeaaGreat
open Go.RowKit
theorem sinks_after (k : SetQ) (l : List ActM) : ((newCo (suOf k)).after l).s.sinks = sksOf k := by
  rw [(after_s l (newCo (suOf k))).1]
  rfl
theorem acts_ten {us : List ActR} {l : List ActQ} (h : us.map ActR.val = actsOf l) : ∀ a ∈ us, 0 ≤ a.tenant ∧ a.tenant ≤ 3 := by
  intro a ha
  have : a.val ∈ actsOf l := by rw [← h]; exact List.mem_map_of_mem ha
  obtain ⟨k, _, hk⟩ := List.mem_map.1 this
  have e : a.tenant = within k.tenant 0 3 := congrArg ActM.tenant hk.symm
  have := within_range k.tenant 0 3 (by omega)
  omega
def partT (S : List ActR) : Nat → List ActR
  | 0 => []
  | c + 1 => partT S c ++ S.filter (tenB (3 - (c : Int)))
theorem partT_all (S : List ActR) : partT S 4 = sortT S := by
  unfold sortT
  simp [partT]
theorem partT_len (S : List ActR) (c : Nat) : (partT S c).length ≤ c * S.length := by
  induction c with
  | zero => simp [partT]
  | succ c ih =>
    simp only [partT, List.length_append]
    have := List.length_filter_le (tenB (3 - (c : Int))) S
    rw [Nat.succ_mul]
    omega
theorem filter_take_succ (S : List ActR) (t : Int) (j : Nat) (hj : j < S.length) : (S.take (j + 1)).filter (tenB t) = (S.take j).filter (tenB t) ++ if tenB t S[j] then [S[j]] else [] := by
  rw [List.take_add_one, List.getElem?_eq_getElem hj, List.filter_append]
  congr 1
  show List.filter _ [S[j]] = _
  rw [List.filter_cons]
  split <;> simp
theorem turnG_sub (l : List ActR) : ∀ seg : List ActR, ∀ a ∈ turnG l seg, a ∈ seg ∨ a ∈ l := by
  induction l with
  | nil => intro seg a ha; exact .inl (sortT_sub seg a ha)
  | cons x l ih =>
    intro seg a ha
    unfold turnG at ha
    split at ha
    · rcases List.mem_append.1 ha with ha | ha
      · exact .inl (sortT_sub seg a ha)
      · rcases List.mem_cons.1 ha with rfl | ha
        · exact .inr (by simp)
        · rcases ih [] a ha with h | h
          · cases h
          · exact .inr (by simp [h])
    · rcases ih (seg ++ [x]) a ha with h | h
      · rcases List.mem_append.1 h with h | h
        · exact .inl h
        · obtain rfl : a = x := by simpa using h
          exact .inr (by simp)
      · exact .inr (by simp [h])
def segK (us : List ActR) (f k : Nat) : List ActR := (us.drop f).take (k - f)
theorem segK_len (us : List ActR) (f k : Nat) (hf : f ≤ k) (hk : k ≤ us.length) : (segK us f k).length = k - f := by unfold segK; rw [List.length_take, List.length_drop]; omega
theorem segK_succ (us : List ActR) (f k : Nat) (hf : f ≤ k) (hk : k < us.length) : segK us f (k + 1) = segK us f k ++ [us[k]] := by
  unfold segK
  rw [show k + 1 - f = (k - f) + 1 by omega, List.take_add_one, List.getElem?_drop, show f + (k - f) = k by omega, List.getElem?_eq_getElem hk]
  rfl
theorem segK_nil (us : List ActR) (k : Nat) : segK us k k = [] := by unfold segK; simp
theorem segK_get (us : List ActR) (f k j : Nat) (hf : f ≤ k) (hk : k ≤ us.length) (hj : j < k - f) : ∃ h, (segK us f k)[j]'h = us[f + j]'(by omega) := by
  refine ⟨by rw [segK_len us f k hf hk]; exact hj, ?_⟩
  unfold segK
  rw [List.getElem_take, List.getElem_drop]
/-- The state between two rounds. -/
def ordR (us : List ActR) (k f : Nat) (T : List ActR) : Prop := (k ≤ us.length ∧ f ≤ k ∧ T ++ turnG (us.drop k) (segK us f k) = turnG us []) ∨ (k = us.length + 1 ∧ T = turnG us [])
theorem ordR_start (us : List ActR) : ordR us 0 0 [] := .inl ⟨by omega, by omega, by rw [segK_nil, List.drop_zero, List.nil_append]⟩
theorem ordR_on {us : List ActR} {k f : Nat} {T : List ActR} (h : ordR us k f T) (hk : k < us.length) (h3 : (us[k]).kind ≠ 3) : ordR us (k + 1) f T := by
  rcases h with ⟨a, b, c⟩ | ⟨a, _⟩
  · refine .inl ⟨by omega, by omega, ?_⟩
    rw [← c, List.drop_eq_getElem_cons hk, segK_succ us f k b hk]
    conv => rhs; unfold turnG
    rw [if_neg h3]
  · omega
theorem ordR_tick {us : List ActR} {k f : Nat} {T : List ActR} (h : ordR us k f T) (hk : k < us.length) (h3 : (us[k]).kind = 3) : ordR us (k + 1) (k + 1) (T ++ sortT (segK us f k) ++ [us[k]]) := by
  rcases h with ⟨a, b, c⟩ | ⟨a, _⟩
  · refine .inl ⟨by omega, by omega, ?_⟩
    rw [← c, List.drop_eq_getElem_cons hk, segK_nil]
    conv => rhs; unfold turnG
    rw [if_pos h3]
    simp
  · omega
theorem ordR_end {us : List ActR} {f : Nat} {T : List ActR} (h : ordR us us.length f T) : ordR us (us.length + 1) (us.length + 1) (T ++ sortT (segK us f us.length)) := by
  rcases h with ⟨a, b, c⟩ | ⟨a, _⟩
  · refine .inr ⟨rfl, ?_⟩
    rw [← c, List.drop_length]
    rfl
  · omega
theorem ordR_len {us : List ActR} {k f : Nat} {T : List ActR} (h : ordR us k f T) (hu : ∀ a ∈ us, 0 ≤ a.tenant ∧ a.tenant ≤ 3) : T.length ≤ us.length := by
  have hl := turnG_len us [] (by simp) hu
  rcases h with ⟨a, b, c⟩ | ⟨a, c⟩
  · have := congrArg List.length c
    rw [List.length_append] at this
    simp only [List.length_nil] at hl
    omega
  · rw [c]
    simp only [List.length_nil] at hl
    omega
set_option maxHeartbeats 16000000 in
set_option maxRecDepth 20000 in
theorem CoreOrder_any (w : World) (cs : Array Value) (k : SetQ) (hk : isStq w cs.toList k) (al : Option Addr) (cap : Nat) (l : List ActQR) (hle : l.length ≤ cap) (hmx : cap ≤ maxLen) (hnil : al = none → cap = 0) (hl : SlAt 15 isAq w al l) :
    Calls Tryz.prog 6 #[.agg cs, .slice al l.length cap] w fun e w' => e = .returned (.bool true) ∧ Below w.heap.size w w' := by
  obtain ⟨ka, kc, hcs, hks, hkw, hkl⟩ := hk
  obtain rfl : cs = #[.int .i64 k.budget, .int .i64 k.room, .int .i64 k.quota, .slice ka k.sinks.length kc] := by
    obtain ⟨cl⟩ := cs
    dsimp only at hcs
    rw [hcs]
  clear hcs
  obtain ⟨hla, hlq⟩ := hl.aq
  have hlm : l.length ≤ maxLen := by omega
  have HLA := Lib.hid hla
  have HAT : RowKit.Hid (∀ R : HP, ∀ x ∈ l, Seen w R 1 (intC .i64) x.oa x.p.ops ∧ Seen w R 1 (intC .i64) x.na x.p.ns ∧ x.q.wf) := Lib.hid (fun R x hx => ⟨Seen.old (hlq x hx).1, Seen.old (hlq x hx).2.1, (hlq x hx).2.2⟩)
  clear hla hlq hl hnil hle hmx
  have h0 : St w (w.alloc (.cells #[.int .i64 k.budget, .int .i64 k.room, .int .i64 k.quota, .slice ka k.sinks.length kc] 24)) [pt w.heap.size (.cells #[.int .i64 k.budget, .int .i64 k.room, .int .i64 k.quota, .slice ka k.sinks.length kc] 24 (0, 0))] := (St.start w).alloc (.cells #[.int .i64 k.budget, .int .i64 k.room, .int .i64 k.quota, .slice ka k.sinks.length kc] 24)
  have hse := setup_st h0 k ka kc (Seen.old hks) hkw hkl (sksOf k) rfl
  have k0 := (blkCells (h0.blk 0 rfl).1).1
  have k1 := (k0 0).trans rfl
  have k2 := (k0 1).trans rfl
  have k3 := (k0 2).trans rfl
  have k4 := (k0 3).trans rfl
  have HSE := Lib.hid hse
  have hsl := sksOf_len k
  have HSW := Lib.hid (sksOf_wf k)
  clear h0 hse k0 hks hkw hkl
  go_enter Tryz.func6, Tryz.ntmps6
  go_upto_region 2 with (go_at_call 10; (with_reducible refine HSE.out.mono ?_); rintro e w1 ⟨na, nc, rfl, h1⟩; have H1 := Lib.hid (h1.alloc (.cells #[.int .i64 (within k.budget 1 4), .int .i64 (within k.room 1 8), .int .i64 (within k.quota 0 30), .slice na (sksOf k).length nc] 28)); clear h1 HSE)
  refine wp_at H1.out ?_
  intro w3 h3
  generalize w1.heap.size = g at *
  have h3 : St w w3 [pt w.heap.size (.cells #[.int .i64 k.budget, .int .i64 k.room, .int .i64 k.quota, .slice ka k.sinks.length kc] 24 (0, 0)), ownP 113 5 Sk.cells (.slice na (sksOf k).length nc) (sksOf k), pt g (.cells #[.int .i64 (within k.budget 1 4), .int .i64 (within k.room 1 8), .int .i64 (within k.quota 0 30), .slice na (sksOf k).length nc] 28 (0, 0))] := h3
  have HAC := Lib.hid (acts_st h3 al cap l (Seen.old HLA.out) (HAT.out _) hlm)
  clear H1 h3
  go_upto_region 3 with (go_at_call 13; (with_reducible refine HAC.out.mono ?_); rintro e w4 ⟨va, us, rfl, hus, h4⟩; obtain ⟨aa, ac, rfl, hac, _⟩ := h4.sl ActR.len 3 rfl; have hul := vals_len hus; have HTEN : RowKit.Hid (∀ a ∈ us, 0 ≤ a.tenant ∧ a.tenant ≤ 3) := Lib.hid (acts_ten hus); have HOU := Lib.hid (vals_ok hus); have H6 : RowKit.Hid (St w w4 [pt w.heap.size (.cells #[.int .i64 k.budget, .int .i64 k.room, .int .i64 k.quota, .slice ka k.sinks.length kc] 24 (0, 0)), ownP 113 5 Sk.cells (.slice na (sksOf k).length nc) (sksOf k), pt g (.cells #[.int .i64 (within k.budget 1 4), .int .i64 (within k.room 1 8), .int .i64 (within k.quota 0 30), .slice na (sksOf k).length nc] 28 (0, 0)), ownP 67 15 ActR.cells (.slice aa us.length ac) us, poolP actP us, ownP 67 15 ActR.cells (.slice none 0 0) (([] : List ActR))]) := Lib.hid (h4.nil 67 15 ActR.cells); clear h4 hus HAC)
  go_wp2_with fail
  go_loopw [7, 8, 9] (fun v fv iv wr => ∃ (k0 f : Nat) (T : List ActR), ordR us k0 f T ∧ fv = .int .i64 f ∧ iv = .int .i64 k0 ∧ St w wr [pt w.heap.size (.cells #[.int .i64 k.budget, .int .i64 k.room, .int .i64 k.quota, .slice ka k.sinks.length kc] 24 (0, 0)), ownP 113 5 Sk.cells (.slice na (sksOf k).length nc) (sksOf k), pt g (.cells #[.int .i64 (within k.budget 1 4), .int .i64 (within k.room 1 8), .int .i64 (within k.quota 0 30), .slice na (sksOf k).length nc] 28 (0, 0)), ownP 67 15 ActR.cells (.slice aa us.length ac) us, poolP actP us, ownP 67 15 ActR.cells v (T)]) (fun _ _ iv _ => us.length + 1 - (intOf iv).toNat)
  case atStart => exact ⟨0, 0, [], ordR_start us, rfl, rfl, H6.out⟩
  case round =>
    clear H6
    obtain ⟨k0, f, T, hord, rfl, rfl, hst⟩ := hrel
    have hTl := ordR_len hord HTEN.out
    obtain ⟨ta, tc, hov, _⟩ := hst.sl ActR.len 5 rfl
    subst hov
    have HORD := Lib.hid hord
    by_cases hke : k0 = us.length + 1
    · have hT : T = turnG us [] := by rcases hord with ⟨h, _⟩ | ⟨_, h⟩ <;> first | omega | exact h
      subst hke
      · skip
        have hsame := turnG_same us (newCo (suOf k)) rfl [] (by simp) (by simp) HTEN.out
        have hTn : T.length = us.length := by
          have := turnG_len us [] (by simp) HTEN.out
          rw [hT, this]
          exact Nat.zero_add _
        have hTs : ∀ a ∈ T, a ∈ us := by
          intro a ha
          rw [hT] at ha
          rcases turnG_sub us [] a ha with h | h
          · cases h
          · exact h
        rw [← hT, List.nil_append] at hsame
        rw [hTn] at hst
        have hst : St w wr [pt w.heap.size (.cells #[.int .i64 k.budget, .int .i64 k.room, .int .i64 k.quota, .slice ka k.sinks.length kc] 24 (0, 0)), ownP 113 5 Sk.cells (.slice na (sksOf k).length nc) (sksOf k), pt g (.cells #[.int .i64 (within k.budget 1 4), .int .i64 (within k.room 1 8), .int .i64 (within k.quota 0 30), .slice na (sksOf k).length nc] 28 (0, 0)), ownP 67 15 ActR.cells (.slice aa us.length ac) us, poolP actP us, ownP 67 15 ActR.cells (.slice ta us.length tc) T] := hst
        have HSAME := Lib.hid hsame
        have HTN := Lib.hid hTn
        have HTS := Lib.hid hTs
        have HST := Lib.hid hst
        clear hsame hTs hst hord HORD hT hTl
        rw [hTn]
        clear hTn
        go_upto_region 21 with fail
        have S0 : ((wr).cell? ⟨g, 0, none⟩ = some (.int .i64 (within k.budget 1 4)) ∧ (wr).cell? ⟨g, 1, none⟩ = some (.int .i64 (within k.room 1 8)) ∧ (wr).cell? ⟨g, 2, none⟩ = some (.int .i64 (within k.quota 0 30)) ∧ (wr).cell? ⟨g, 3, none⟩ = some (.slice na (sksOf k).length nc)) := (by obtain ⟨zz, _⟩ := blkCells (HST.out.blk 2 rfl).1; exact ⟨(zz 0).trans rfl, (zz 1).trans rfl, (zz 2).trans rfl, (zz 3).trans rfl⟩)
        have S1 : ((wr.drew).cell? ⟨g, 0, none⟩ = some (.int .i64 (within k.budget 1 4)) ∧ (wr.drew).cell? ⟨g, 1, none⟩ = some (.int .i64 (within k.room 1 8)) ∧ (wr.drew).cell? ⟨g, 2, none⟩ = some (.int .i64 (within k.quota 0 30)) ∧ (wr.drew).cell? ⟨g, 3, none⟩ = some (.slice na (sksOf k).length nc)) := (by obtain ⟨zz, _⟩ := blkCells (HST.out.drew.blk 2 rfl).1; exact ⟨(zz 0).trans rfl, (zz 1).trans rfl, (zz 2).trans rfl, (zz 3).trans rfl⟩)
        have hna := coreNew_st HST.out.drew (suOf k) na nc (HST.out.drew.slOf Sk.len 1 rfl) (sk_nil HST.out 1 rfl) (suOf_right k) HSW.out
        have hna : Calls Tryz.prog 14 #[.agg #[.int .i64 (within k.budget 1 4), .int .i64 (within k.room 1 8), .int .i64 (within k.quota 0 30), .slice na (sksOf k).length nc]] wr.drew _ := hna
        have HNA := Lib.hid hna
        clear hna
        go_cut [13, 14] from 77 to 80 (fun u v wx => ∃ ca cb ma mc ma' mc', u = .pointer (some ⟨ca, 0, none⟩) ∧ v = .pointer (some ⟨cb, 0, none⟩) ∧ St w wx [pt w.heap.size (.cells #[.int .i64 k.budget, .int .i64 k.room, .int .i64 k.quota, .slice ka k.sinks.length kc] 24 (0, 0)), ownP 113 5 Sk.cells (.slice na (sksOf k).length nc) (sksOf k), pt g (.cells #[.int .i64 (within k.budget 1 4), .int .i64 (within k.room 1 8), .int .i64 (within k.quota 0 30), .slice na (sksOf k).length nc] 28 (0, 0)), ownP 67 15 ActR.cells (.slice aa us.length ac) us, poolP actP us, ownP 67 15 ActR.cells (.slice ta us.length tc) T, coP ca ma mc (newCo (suOf k)) 0, ownP 113 5 Sk.cells (.slice ma (sksOf k).length mc) (sksOf k), coP cb ma' mc' (newCo (suOf k)) 0, ownP 113 5 Sk.cells (.slice ma' (sksOf k).length mc') (sksOf k)])
        case first =>
          go_region_held3 (fun w' => ((w').cell? ⟨g, 0, none⟩ = some (.int .i64 (within k.budget 1 4)) ∧ (w').cell? ⟨g, 1, none⟩ = some (.int .i64 (within k.room 1 8)) ∧ (w').cell? ⟨g, 2, none⟩ = some (.int .i64 (within k.quota 0 30)) ∧ (w').cell? ⟨g, 3, none⟩ = some (.slice na (sksOf k).length nc))) (first | (with_reducible exact S0) | (with_reducible exact S1) | (with_reducible exact S2) | (with_reducible exact S3))
            (first
              | (go_at_call 14; (with_reducible refine HNB.out.mono ?_); rintro e wn2 ⟨cb, ma', mc', rfl, h6⟩; have S3 : ((wn2).cell? ⟨g, 0, none⟩ = some (.int .i64 (within k.budget 1 4)) ∧ (wn2).cell? ⟨g, 1, none⟩ = some (.int .i64 (within k.room 1 8)) ∧ (wn2).cell? ⟨g, 2, none⟩ = some (.int .i64 (within k.quota 0 30)) ∧ (wn2).cell? ⟨g, 3, none⟩ = some (.slice na (sksOf k).length nc)) := (by obtain ⟨zz, _⟩ := blkCells (h6.blk 2 rfl).1; exact ⟨(zz 0).trans rfl, (zz 1).trans rfl, (zz 2).trans rfl, (zz 3).trans rfl⟩); have HN2 := Lib.hid h6; clear h6 HNB)
              | (go_at_call 14; (with_reducible refine HNA.out.mono ?_); rintro e wn1 ⟨ca, ma, mc, rfl, h5⟩; have S2 : ((wn1).cell? ⟨g, 0, none⟩ = some (.int .i64 (within k.budget 1 4)) ∧ (wn1).cell? ⟨g, 1, none⟩ = some (.int .i64 (within k.room 1 8)) ∧ (wn1).cell? ⟨g, 2, none⟩ = some (.int .i64 (within k.quota 0 30)) ∧ (wn1).cell? ⟨g, 3, none⟩ = some (.slice na (sksOf k).length nc)) := (by obtain ⟨zz, _⟩ := blkCells (h5.blk 2 rfl).1; exact ⟨(zz 0).trans rfl, (zz 1).trans rfl, (zz 2).trans rfl, (zz 3).trans rfl⟩); have hnb := coreNew_st h5 (suOf k) na nc (h5.slOf Sk.len 1 rfl) (sk_nil h5 1 rfl) (suOf_right k) HSW.out; have hnb : Calls Tryz.prog 14 #[.agg #[.int .i64 (within k.budget 1 4), .int .i64 (within k.room 1 8), .int .i64 (within k.quota 0 30), .slice na (sksOf k).length nc]] wn1 _ := hnb; have HNB := Lib.hid hnb; clear hnb h5 HNA))
          all_goals
            go_wp2
            go_meet
            exact ⟨ca, cb, ma, mc, ma', mc', rfl, rfl, HN2.out⟩
        case rest =>
          obtain ⟨ca, cb, ma, mc, ma', mc', rfl, rfl, h⟩ := hcut
          have HD1 := Lib.hid (doAll_in (h.front 6 rfl) (Seen.own Sk.len 7 rfl) (sk_nil h 7 rfl) us aa ac (Seen.own ActR.len 3 rfl) (acts_ok h 4 rfl HOU.out _ 4 rfl) (by omega))
          clear h HST
          go_upto_region 27 with (first
            | (go_at_call 16; (with_reducible refine HD2.out.mono ?_); rintro e wq ⟨vq, qs, rfl, hqs, hq⟩; obtain ⟨qa, qc, rfl, hqc, _⟩ := hq.sl AnsR.len 2 rfl; have hql : qs.length = us.length := (by have := congrArg List.length hqs; rw [List.length_map, ans_len, List.length_map, HTN.out] at this; exact this); rw [hql] at hq hqc ⊢; have HQL := Lib.hid hql; have HQS := Lib.hid hqs; have hq := hq.back (n := 8) (by simp); rw [HSAME.out.1] at hq; have hq : St w wq [pt w.heap.size (.cells #[.int .i64 k.budget, .int .i64 k.room, .int .i64 k.quota, .slice ka k.sinks.length kc] 24 (0, 0)), ownP 113 5 Sk.cells (.slice na (sksOf k).length nc) (sksOf k), pt g (.cells #[.int .i64 (within k.budget 1 4), .int .i64 (within k.room 1 8), .int .i64 (within k.quota 0 30), .slice na (sksOf k).length nc] 28 (0, 0)), ownP 67 15 ActR.cells (.slice aa us.length ac) us, poolP actP us, ownP 67 15 ActR.cells (.slice ta us.length tc) T, coP ca ma mc ((newCo (suOf k)).after (us.map ActR.val)) (0 + 9 * us.length), ownP 113 5 Sk.cells (.slice ma (sksOf k).length mc) (sksOf k), coP cb ma' mc' ((newCo (suOf k)).after (us.map ActR.val)) (0 + 9 * us.length), ownP 113 5 Sk.cells (.slice ma' (sksOf k).length mc') (sksOf k), ownP 51 3 AnsR.cells (.slice pa us.length pc) ps, poolP ansP ps, ownP 51 3 AnsR.cells (.slice qa us.length qc) qs, poolP ansP qs] := hq; have HQ := Lib.hid hq; clear hq hqs hql HD2)
            | (go_at_call 16; (with_reducible refine HD1.out.mono ?_); rintro e wp ⟨vp, ps, rfl, hps, hp⟩; obtain ⟨pa, pc, rfl, hpc, _⟩ := hp.sl AnsR.len 2 rfl; have hpl : ps.length = us.length := (by have := congrArg List.length hps; rw [List.length_map, ans_len, List.length_map] at this; exact this); rw [hpl] at hp hpc ⊢; have HPL := Lib.hid hpl; have HPS := Lib.hid hps; have hp := hp.back (n := 6) (by simp); have hd2 := doAll_in (hp.front 8 rfl) (Seen.own Sk.len 9 rfl) (sk_nil hp 9 rfl) T ta tc (Seen.own ActR.len 5 rfl) ((acts_ok hp 4 rfl HOU.out _ 4 rfl).sub HTS.out) (by rw [HTN.out]; omega); rw [HTN.out] at hd2; have HD2 := Lib.hid hd2; clear hp hps hpl hd2 HD1))
          have hfp : ∀ x ∈ ps.map AnsR.val, x.rows.length ≤ 32 ∧ x.told.length ≤ 32 := by rw [HPS.out]; exact ans_few _ _
          have hfq : ∀ x ∈ qs.map AnsR.val, x.rows.length ≤ 32 ∧ x.told.length ≤ 32 := by rw [HQS.out]; exact ans_few _ _
          have HFP := Lib.hid hfp
          have HFQ := Lib.hid hfq
          clear hfp hfq
          go_wp2_with fail
          go_loopw [112] (fun iv wr => ∃ t : Nat, t ≤ 4 ∧ iv = .int .i64 t ∧ St w wr [pt w.heap.size (.cells #[.int .i64 k.budget, .int .i64 k.room, .int .i64 k.quota, .slice ka k.sinks.length kc] 24 (0, 0)), ownP 113 5 Sk.cells (.slice na (sksOf k).length nc) (sksOf k), pt g (.cells #[.int .i64 (within k.budget 1 4), .int .i64 (within k.room 1 8), .int .i64 (within k.quota 0 30), .slice na (sksOf k).length nc] 28 (0, 0)), ownP 67 15 ActR.cells (.slice aa us.length ac) us, poolP actP us, ownP 67 15 ActR.cells (.slice ta us.length tc) T, coP ca ma mc ((newCo (suOf k)).after (us.map ActR.val)) (0 + 9 * us.length), ownP 113 5 Sk.cells (.slice ma (sksOf k).length mc) (sksOf k), coP cb ma' mc' ((newCo (suOf k)).after (us.map ActR.val)) (0 + 9 * us.length), ownP 113 5 Sk.cells (.slice ma' (sksOf k).length mc') (sksOf k), ownP 51 3 AnsR.cells (.slice pa us.length pc) ps, poolP ansP ps, ownP 51 3 AnsR.cells (.slice qa us.length qc) qs, poolP ansP qs]) (fun iv _ => 4 - (intOf iv).toNat)
          case atStart => exact ⟨0, by omega, rfl, HQ.out⟩
          case round =>
            clear HQ
            obtain ⟨t, ht, rfl, hst⟩ := hrel
            by_cases hlt : (t : Int) < 4
            · obtain ⟨U, hU⟩ : ∃ U, ownA (fun a : ActR => ansB (t : Int) a.val) us ps = U := ⟨_, rfl⟩
              obtain ⟨V, hV⟩ : ∃ V, ownA (fun a : ActR => ansB (t : Int) a.val) T qs = V := ⟨_, rfl⟩
              have huv : U.map AnsR.val = V.map AnsR.val := by
                rw [← hU, ← hV, ownA_map ActR.val AnsR.val (ansB (t : Int)), ownA_map ActR.val AnsR.val (ansB (t : Int)), HPS.out, HQS.out]
                exact (HSAME.out.2 t (by omega)).symm
              have hvl : V.length = U.length := by have := congrArg List.length huv; rw [List.length_map, List.length_map] at this; omega
              have hul2 : U.length ≤ 1000 := by
                have := ownA_len (fun a : ActR => ansB (t : Int) a.val) us ps
                rw [hU, HPL.out] at this
                omega
              have hsu : ∀ x ∈ U, x ∈ ps := by rw [← hU]; exact ownA_sub _ _ _
              have hsv : ∀ x ∈ V, x ∈ qs := by rw [← hV]; exact ownA_sub _ _ _
              have ho1 := ownW_st hst aa ac us (Seen.own ActR.len 3 rfl) pa pc us.length ps (Seen.own AnsR.len 10 rfl) (t : Int) rfl HPL.out (by omega)
              rw [hU] at ho1
              have HU2 := Lib.hid hV
              have HO1 := Lib.hid ho1
              have HUV := Lib.hid huv
              have HVL := Lib.hid hvl
              have HUL := Lib.hid hul2
              have HSU := Lib.hid hsu
              have HSV := Lib.hid hsv
              clear ho1 hU hV huv hvl hul2 hsu hsv hst
              go_upto_region 33 with (first
                | (go_at_call 28; (with_reducible refine HO2.out.mono ?_); rintro e wv ⟨vv, rfl, hv⟩; obtain ⟨va, vc, rfl, hvc, _⟩ := hv.sl AnsR.len 15 rfl; rw [HVL.out] at hv hvc ⊢; have HAN := Lib.hid (answers_yes U V U.length ua va uc vc wv HUV.out rfl HVL.out (hv.slOf AnsR.len 14 rfl) (hv.slOf AnsR.len 15 rfl) (fun x hx => hv.ansAt 11 rfl HFP.out x (HSU.out x hx)) (fun x hx => hv.ansAt 13 rfl HFQ.out x (HSV.out x hx)) (by have := HUL.out; omega) huc hvc); have HV := Lib.hid hv; clear hv hvc huc HO2)
                | (go_at_call 28; (with_reducible refine HO1.out.mono ?_); rintro e wu ⟨vu, rfl, hu⟩; obtain ⟨ua, uc, rfl, huc, _⟩ := hu.sl AnsR.len 14 rfl; have ho2 := ownW_st hu ta tc T (Seen.own ActR.len 5 rfl) qa qc us.length qs (Seen.own AnsR.len 12 rfl) (t : Int) HTN.out HQL.out (by omega); rw [HU2.out] at ho2; have HO2 := Lib.hid ho2; clear hu ho2 HO1)
                | (go_at_call 25; (with_reducible refine HAN.out.mono ?_); rintro e wg ⟨rfl, hbg⟩; have hg : St w wg [pt w.heap.size (.cells #[.int .i64 k.budget, .int .i64 k.room, .int .i64 k.quota, .slice ka k.sinks.length kc] 24 (0, 0)), ownP 113 5 Sk.cells (.slice na (sksOf k).length nc) (sksOf k), pt g (.cells #[.int .i64 (within k.budget 1 4), .int .i64 (within k.room 1 8), .int .i64 (within k.quota 0 30), .slice na (sksOf k).length nc] 28 (0, 0)), ownP 67 15 ActR.cells (.slice aa us.length ac) us, poolP actP us, ownP 67 15 ActR.cells (.slice ta us.length tc) T, coP ca ma mc ((newCo (suOf k)).after (us.map ActR.val)) (0 + 9 * us.length), ownP 113 5 Sk.cells (.slice ma (sksOf k).length mc) (sksOf k), coP cb ma' mc' ((newCo (suOf k)).after (us.map ActR.val)) (0 + 9 * us.length), ownP 113 5 Sk.cells (.slice ma' (sksOf k).length mc') (sksOf k), ownP 51 3 AnsR.cells (.slice pa us.length pc) ps, poolP ansP ps, ownP 51 3 AnsR.cells (.slice qa us.length qc) qs, poolP ansP qs] := (HV.out.kept hbg).pick [0, 1, 2, 3, 4, 5, 6, 7, 8, 9, 10, 11, 12, 13] (by decide); have HC1 := Lib.hid (coreCell_in (hg.front 6 rfl) (t : Int) (by omega)); clear hg hbg HAN HV)
                | (go_at_call 29; (with_reducible refine HC1.out.mono ?_); rintro e wx ⟨p, rfl, hx⟩; have hx : St w wx [pt w.heap.size (.cells #[.int .i64 k.budget, .int .i64 k.room, .int .i64 k.quota, .slice ka k.sinks.length kc] 24 (0, 0)), ownP 113 5 Sk.cells (.slice na (sksOf k).length nc) (sksOf k), pt g (.cells #[.int .i64 (within k.budget 1 4), .int .i64 (within k.room 1 8), .int .i64 (within k.quota 0 30), .slice na (sksOf k).length nc] 28 (0, 0)), ownP 67 15 ActR.cells (.slice aa us.length ac) us, poolP actP us, ownP 67 15 ActR.cells (.slice ta us.length tc) T, coP ca ma mc ((newCo (suOf k)).after (us.map ActR.val)) (0 + 9 * us.length), ownP 113 5 Sk.cells (.slice ma (sksOf k).length mc) (sksOf k), coP cb ma' mc' ((newCo (suOf k)).after (us.map ActR.val)) (0 + 9 * us.length), ownP 113 5 Sk.cells (.slice ma' (sksOf k).length mc') (sksOf k), ownP 51 3 AnsR.cells (.slice pa us.length pc) ps, poolP ansP ps, ownP 51 3 AnsR.cells (.slice qa us.length qc) qs, poolP ansP qs, optP (0 + 9 * us.length) p (Co.at ((newCo (suOf k)).after (us.map ActR.val)) (t : Int))] := hx.back (n := 6) (by simp); have HC2 := Lib.hid (coreCell_in (hx.front 8 rfl) (t : Int) (by omega)); clear hx HC1)
                | (go_at_call 29; (with_reducible refine HC2.out.mono ?_); rintro e wy ⟨q, rfl, hy⟩; have hy : St w wy [pt w.heap.size (.cells #[.int .i64 k.budget, .int .i64 k.room, .int .i64 k.quota, .slice ka k.sinks.length kc] 24 (0, 0)), ownP 113 5 Sk.cells (.slice na (sksOf k).length nc) (sksOf k), pt g (.cells #[.int .i64 (within k.budget 1 4), .int .i64 (within k.room 1 8), .int .i64 (within k.quota 0 30), .slice na (sksOf k).length nc] 28 (0, 0)), ownP 67 15 ActR.cells (.slice aa us.length ac) us, poolP actP us, ownP 67 15 ActR.cells (.slice ta us.length tc) T, coP ca ma mc ((newCo (suOf k)).after (us.map ActR.val)) (0 + 9 * us.length), ownP 113 5 Sk.cells (.slice ma (sksOf k).length mc) (sksOf k), coP cb ma' mc' ((newCo (suOf k)).after (us.map ActR.val)) (0 + 9 * us.length), ownP 113 5 Sk.cells (.slice ma' (sksOf k).length mc') (sksOf k), ownP 51 3 AnsR.cells (.slice pa us.length pc) ps, poolP ansP ps, ownP 51 3 AnsR.cells (.slice qa us.length qc) qs, poolP ansP qs, optP (0 + 9 * us.length) p (Co.at ((newCo (suOf k)).after (us.map ActR.val)) (t : Int)), optP (0 + 9 * us.length) q (Co.at ((newCo (suOf k)).after (us.map ActR.val)) (t : Int))] := hy.back (n := 8) (by simp); have HY := Lib.hid hy; clear hy HC2))
              rcases hca : Co.at ((newCo (suOf k)).after (us.map ActR.val)) (t : Int) with _ | cl
              · rcases p with _ | b
                · rcases q with _ | d
                  · rw [show ptrV none = .pointer none from rfl]
                    clear hca
                    go_wp2_with fail
                    go_quiet (fail)
                    all_goals
                      go_wp2_with fail
                      go_roundw
                      case rel => exact ⟨t + 1, by omega, by go_num, (HY.out.kept (below_drewN wy _)).pick [0, 1, 2, 3, 4, 5, 6, 7, 8, 9, 10, 11, 12, 13] (by decide)⟩
                      case measure => simp [intOf]; omega
                  · have h6 := HY.out
                    rw [hca] at h6
                    obtain ⟨F, hF⟩ := h6.at 15 rfl
                    exact hF.elim
                · have h6 := HY.out
                  rw [hca] at h6
                  obtain ⟨F, hF⟩ := h6.at 14 rfl
                  exact hF.elim
              · have h6 := HY.out
                rw [hca] at h6
                rcases p with _ | b
                · obtain ⟨F, hF⟩ := h6.at 14 rfl
                  exact hF.elim
                · rcases q with _ | d
                  · obtain ⟨F, hF⟩ := h6.at 15 rfl
                    exact hF.elim
                  · rw [show ptrV (some b) = .pointer (some ⟨b, 0, none⟩) from rfl, show ptrV (some d) = .pointer (some ⟨d, 0, none⟩) from rfl]
                    have h6 : St w wy [pt w.heap.size (.cells #[.int .i64 k.budget, .int .i64 k.room, .int .i64 k.quota, .slice ka k.sinks.length kc] 24 (0, 0)), ownP 113 5 Sk.cells (.slice na (sksOf k).length nc) (sksOf k), pt g (.cells #[.int .i64 (within k.budget 1 4), .int .i64 (within k.room 1 8), .int .i64 (within k.quota 0 30), .slice na (sksOf k).length nc] 28 (0, 0)), ownP 67 15 ActR.cells (.slice aa us.length ac) us, poolP actP us, ownP 67 15 ActR.cells (.slice ta us.length tc) T, coP ca ma mc ((newCo (suOf k)).after (us.map ActR.val)) (0 + 9 * us.length), ownP 113 5 Sk.cells (.slice ma (sksOf k).length mc) (sksOf k), coP cb ma' mc' ((newCo (suOf k)).after (us.map ActR.val)) (0 + 9 * us.length), ownP 113 5 Sk.cells (.slice ma' (sksOf k).length mc') (sksOf k), ownP 51 3 AnsR.cells (.slice pa us.length pc) ps, poolP ansP ps, ownP 51 3 AnsR.cells (.slice qa us.length qc) qs, poolP ansP qs, clP b cl (0 + 9 * us.length), clP d cl (0 + 9 * us.length)] := h6
                    obtain ⟨rb, xa, xc, rv, xb, xd, hok, h7⟩ := cl_flat2 h6 14 rfl
                    obtain ⟨rb2, ya, yc, rv2, yb, yd, _, h8⟩ := cl_flat2 h7 15 rfl
                    have hok1 := hok.len
                    have h8 : St w wy [pt w.heap.size (.cells #[.int .i64 k.budget, .int .i64 k.room, .int .i64 k.quota, .slice ka k.sinks.length kc] 24 (0, 0)), ownP 113 5 Sk.cells (.slice na (sksOf k).length nc) (sksOf k), pt g (.cells #[.int .i64 (within k.budget 1 4), .int .i64 (within k.room 1 8), .int .i64 (within k.quota 0 30), .slice na (sksOf k).length nc] 28 (0, 0)), ownP 67 15 ActR.cells (.slice aa us.length ac) us, poolP actP us, ownP 67 15 ActR.cells (.slice ta us.length tc) T, coP ca ma mc ((newCo (suOf k)).after (us.map ActR.val)) (0 + 9 * us.length), ownP 113 5 Sk.cells (.slice ma (sksOf k).length mc) (sksOf k), coP cb ma' mc' ((newCo (suOf k)).after (us.map ActR.val)) (0 + 9 * us.length), ownP 113 5 Sk.cells (.slice ma' (sksOf k).length mc') (sksOf k), ownP 51 3 AnsR.cells (.slice pa us.length pc) ps, poolP ansP ps, ownP 51 3 AnsR.cells (.slice qa us.length qc) qs, poolP ansP qs, emp, emp, pt b (clB rb xa xc rv xb xd cl), seeP 5 Inp.cells (.slice xa cl.q.length xc) cl.q, rnP rb cl.rn cl.taken.length, ownP 55 5 Rw.cells rv cl.rows, ownP 65 5 Inp.cells (.slice xb cl.taken.length xd) cl.taken, pt d (clB rb2 ya yc rv2 yb yd cl), seeP 5 Inp.cells (.slice ya cl.q.length yc) cl.q, rnP rb2 cl.rn cl.taken.length, ownP 55 5 Rw.cells rv2 cl.rows, ownP 65 5 Inp.cells (.slice yb cl.taken.length yd) cl.taken] := h8
                    have hql1 : cl.q.length ≤ 1099511627776 := by omega
                    have htl1 : cl.taken.length ≤ 1099511627776 := by omega
                    have hsq : ∀ (w' : World) (K : List HP), St w w' K → K[16]? = some (pt b (clB rb xa xc rv xb xd cl)) → K[21]? = some (pt d (clB rb2 ya yc rv2 yb yd cl)) → ((w').cell? ⟨b, 3, none⟩ = some (.slice xa cl.q.length xc) ∧ (w').cell? ⟨d, 3, none⟩ = some (.slice ya cl.q.length yc)) := fun w' K hh e1 e2 => ⟨(cells8 (hh.blk 16 e1).1 (Below.refl _ _)).2.2.2.1, (cells8 (hh.blk 21 e2).1 (Below.refl _ _)).2.2.2.1⟩
                    have S0 := hsq _ _ h8 rfl rfl
                    have S1 := hsq _ _ h8.drew rfl rfl
                    have HSQ := Lib.hid hsq
                    have HQ1 := Lib.hid (all_st h8.drew 17 rfl hql1)
                    have HQL1 := Lib.hid hql1
                    have HTL1 := Lib.hid htl1
                    clear h6 h7 h8 hca HY hok hok1 hsq hql1 htl1
                    go_wp2_with fail
                    go_region_held3 (fun w' => ((w').cell? ⟨b, 3, none⟩ = some (.slice xa cl.q.length xc) ∧ (w').cell? ⟨d, 3, none⟩ = some (.slice ya cl.q.length yc))) (first | (with_reducible exact S0) | (with_reducible exact S1) | (with_reducible exact S2) | (with_reducible exact S3) | (with_reducible exact S4) | (with_reducible exact S5) | (with_reducible exact S6) | (with_reducible exact S7))
                      (first
                        | (go_at_call 30; (with_reducible refine HM2.out.mono ?_); rintro e wz6 ⟨rfl, hz⟩; have S7 := HSQ.out _ _ hz rfl rfl; have HZ := Lib.hid hz; clear hz HM2)
                        | (go_at_call 32; (with_reducible refine HT2.out.mono ?_); rintro e wz5 ⟨v5, rfl, hz⟩; obtain ⟨g5, c5, rfl, _, _, _, _⟩ := hz.sl Inp.len 29 rfl; have S6 := HSQ.out _ _ hz rfl rfl; have HM2 := Lib.hid (sameIn_any hz 28 29 rfl rfl rfl HTL1.out); clear hz HT2)
                        | (go_at_call 32; (with_reducible refine HT1.out.mono ?_); rintro e wz4 ⟨v4, rfl, hz⟩; obtain ⟨g4, c4, rfl, _, _, _, _⟩ := hz.sl Inp.len 28 rfl; have S5 := HSQ.out _ _ hz rfl rfl; have HT2 := Lib.hid (takenO_st hz 21 25 rfl rfl HTL1.out); clear hz HT1)
                        | (go_at_call 30; (with_reducible refine HM1.out.mono ?_); rintro e wz3 ⟨rfl, hz⟩; have S4 := HSQ.out _ _ hz rfl rfl; have HT1 := Lib.hid (takenO_st hz 16 20 rfl rfl HTL1.out); clear hz HM1)
                        | (go_at_call 31; (with_reducible refine HQ2.out.mono ?_); rintro e wz2 ⟨v2, rfl, hz⟩; obtain ⟨g2, c2, rfl, _, _, _, _⟩ := hz.sl Inp.len 27 rfl; have S3 := HSQ.out _ _ hz rfl rfl; have HM1 := Lib.hid (sameIn_any hz 26 27 rfl rfl rfl HQL1.out); clear hz HQ2)
                        | (go_at_call 31; (with_reducible refine HQ1.out.mono ?_); rintro e wz1 ⟨v1, rfl, hz⟩; obtain ⟨g1, c1, rfl, _, _, _, _⟩ := hz.sl Inp.len 26 rfl; have S2 := HSQ.out _ _ hz rfl rfl; have HQ2 := Lib.hid (all_st hz 22 rfl HQL1.out); clear hz HQ1))
                    all_goals
                      go_wp2_with fail
                      go_roundw
                      case rel => exact ⟨t + 1, by omega, by go_num, HZ.out.pick [0, 1, 2, 3, 4, 5, 6, 7, 8, 9, 10, 11, 12, 13] (by decide)⟩
                      case measure => simp [intOf]; omega
            · have HST := Lib.hid hst
              clear hst
              go_wp2_with (go_at_call 27; refine (CoreRuns_any _).mono ?_; rintro e w8 ⟨rfl, hb8⟩; have H9 := Lib.hid (HST.out.kept hb8); clear hb8 HST)
              go_ret
              exact ⟨rfl, H9.out.below⟩
    · have hkn : k0 ≤ us.length := by rcases hord with ⟨h, _⟩ | ⟨h, _⟩ <;> omega
      have hkI : (k0 : Int) ≤ us.length := by omega
      have hfk : f ≤ k0 := by rcases hord with ⟨_, h, _⟩ | ⟨h, _⟩ <;> omega
      have HST := Lib.hid hst
      by_cases hcont : ∃ h : k0 < us.length, (us[k0]).kind ≠ 3
      · obtain ⟨hk1, h3⟩ := hcont
        obtain ⟨x, hx⟩ : ∃ x, us[k0] = x := ⟨_, rfl⟩
        have hor := ordR_on hord hk1 h3
        rw [hx] at h3
        obtain ⟨b, o, hba, hbl, c0, c1, c2, c3, c4, c5, c6, c7, c8, c9, c10, c11, c12, c13, c14⟩ := (hst.slOf ActR.len 3 rfl).actAt k0 hk1 x hx
        have hk : (k0 : Int) < us.length := by omega
        have HOR := Lib.hid hor
        clear hst hord hx hor
        subst hba
        have p3 : ¬ x.kind = 3 := h3
        go_wp2_with fail
        go_roundw
        case rel => exact ⟨k0 + 1, f, T, HOR.out, rfl, by go_num, HST.out⟩
        case measure => simp [intOf]; omega
      · go_upto_region 8 with fail
        go_cut [41] from 30 to 41 (fun v wx => v = .bool false ∧ wx = wr)
        case first =>
          by_cases hk : (k0 : Int) < us.length
          · have hk1 : k0 < us.length := by omega
            obtain ⟨x, hx⟩ : ∃ x, us[k0] = x := ⟨_, rfl⟩
            have h3 : x.kind = 3 := by
              rw [← hx]
              exact Decidable.byContradiction fun h => hcont ⟨hk1, h⟩
            obtain ⟨b, o, hba, hbl, c0, c1, c2, c3, c4, c5, c6, c7, c8, c9, c10, c11, c12, c13, c14⟩ := (hst.slOf ActR.len 3 rfl).actAt k0 hk1 x hx
            rw [h3] at c0
            clear hst hord hcont hx h3
            subst hba
            go_wp2_with fail
            go_meet
            exact ⟨rfl, rfl⟩
          · clear hst hord hcont
            go_wp2_with fail
            go_meet
            exact ⟨rfl, rfl⟩
        case rest =>
          obtain ⟨rfl, hwc⟩ := hcut
          have hwc := hwc.symm
          subst hwc
          clear hst hord
          obtain ⟨SS, hSS⟩ : ∃ SS, segK us f k0 = SS := ⟨_, rfl⟩
          have hSL : SS.length = k0 - f := by rw [← hSS]; exact segK_len us f k0 hfk hkn
          have HSS := Lib.hid hSS
          have HSL := Lib.hid hSL
          clear hSS hSL
          go_upto_block 2 with fail
          go_cut [7, 10] from 42 to 63 (fun v _ wx => St w wx [pt w.heap.size (.cells #[.int .i64 k.budget, .int .i64 k.room, .int .i64 k.quota, .slice ka k.sinks.length kc] 24 (0, 0)), ownP 113 5 Sk.cells (.slice na (sksOf k).length nc) (sksOf k), pt g (.cells #[.int .i64 (within k.budget 1 4), .int .i64 (within k.room 1 8), .int .i64 (within k.quota 0 30), .slice na (sksOf k).length nc] 28 (0, 0)), ownP 67 15 ActR.cells (.slice aa us.length ac) us, poolP actP us, ownP 67 15 ActR.cells v (T ++ sortT SS)])
          case first =>
            go_wp2_with fail
            go_loopw [7, 10] (fun v cv wr2 => ∃ q0 : Nat, q0 ≤ 4 ∧ cv = .int .i64 (3 - (q0 : Int)) ∧ St w wr2 [pt w.heap.size (.cells #[.int .i64 k.budget, .int .i64 k.room, .int .i64 k.quota, .slice ka k.sinks.length kc] 24 (0, 0)), ownP 113 5 Sk.cells (.slice na (sksOf k).length nc) (sksOf k), pt g (.cells #[.int .i64 (within k.budget 1 4), .int .i64 (within k.room 1 8), .int .i64 (within k.quota 0 30), .slice na (sksOf k).length nc] 28 (0, 0)), ownP 67 15 ActR.cells (.slice aa us.length ac) us, poolP actP us, ownP 67 15 ActR.cells v (T ++ partT SS q0)]) (fun _ cv _ => (intOf cv + 1).toNat)
            case atStart => exact ⟨0, by omega, rfl, by rw [show T ++ partT SS 0 = T from List.append_nil T]; exact HST.out⟩
            case round =>
              clear HST
              obtain ⟨q0, hq0, rfl, hst2⟩ := hrel
              by_cases hc4 : (q0 : Int) < 4
              · have hge : (0 : Int) ≤ 3 - (q0 : Int) := by omega
                have HST2 := Lib.hid hst2
                have hge2 : (q0 : Int) ≤ 3 := by omega
                clear hst2
                go_upto_region 10 with fail
                go_cut [43] from 42 to 43 (fun v wx => v = .bool true ∧ wx = wr)
                case first =>
                  go_wp2_with fail
                  go_meet
                  exact ⟨by simp [hge2], rfl⟩
                case rest =>
                 obtain ⟨rfl, hwc⟩ := hcut
                 have hwc := hwc.symm
                 subst hwc
                 go_upto_region 12 with fail
                 go_cut [49, 50, 51] from 46 to 63 (fun v49 v50 v51 wx => ∃ sa sc, v49 = .slice sa (k0 - f) sc ∧ v50 = .int .i64 ((k0 - f : Nat) : Int) ∧ v51 = .int .i64 0 ∧ RowKit.Hid (∀ K : List HP, K[3]? = some (ownP 67 15 ActR.cells (.slice aa us.length ac) us) → Seen w (sepL K) 15 ActR.cells sa SS) ∧ wx = wr)
                 case first =>
                   have hst2 := HST2.out
                   obtain ⟨F, hF⟩ := hst2.at 3 rfl
                   rcases hF with ⟨hv, hnl⟩ | ⟨gg, cap4, cur4, hv, _⟩
                   · have e1 : aa = none := by injection hv
                     have e3 : ac = 0 := by injection hv
                     have hSn : SS = [] := by
                       have := HSL.out
                       have h0 : us.length = 0 := by rw [hnl]; rfl
                       exact List.length_eq_zero_iff.1 (by omega)
                     have f0 : f = 0 := by have h0 : us.length = 0 := (by rw [hnl]; rfl); omega
                     subst hnl
                     subst f0
                     subst e1 e3
                     clear hv hst2
                     go_wp2_with fail
                     go_meet
                     exact ⟨none, 0, rfl, rfl, rfl, Lib.hid fun K _ => Seen.old (.inl hSn), rfl⟩
                   · cases hv
                     have hfi : (f : Int) ≤ k0 := by omega
                     have hki : (k0 : Int) ≤ ac := by omega
                     have hfa : (f : Int) ≤ ac := by omega
                     by_cases hcc : ac = f
                     · have hSn : SS = [] := by
                         have := HSL.out
                         exact List.length_eq_zero_iff.1 (by omega)
                       have heq : (ac = f) = True := eq_true hcc
                       clear hst2 hcc
                       go_wp2_with fail
                       go_meet
                       exact ⟨_, _, rfl, rfl, rfl, Lib.hid fun K _ => Seen.old (.inl hSn), rfl⟩
                     · have hne : (ac = f) = False := eq_false hcc
                       have hse4 : ∀ K : List HP, K[3]? = some (ownP 67 15 ActR.cells (.slice (some ⟨gg, 0, none⟩) us.length ac) us) → Seen w (sepL K) 15 ActR.cells (some ⟨gg, f * 15, none⟩) SS := fun K hK => by
                         have := ((Seen.own (w0 := w) ActR.len 3 hK).drop f).take (k0 - f)
                         rw [Nat.zero_add] at this
                         rw [← HSS.out]
                         exact this
                       have HSE4 := Lib.hid hse4
                       clear hst2 hse4
                       go_wp2_with fail
                       go_meet
                       exact ⟨_, _, rfl, rfl, rfl, HSE4, rfl⟩
                 case rest =>
                   obtain ⟨sa, sc, rfl, rfl, rfl, HSE2, rfl⟩ := hcut
                   go_wp2_with fail
                   go_loopw [7, 51] (fun v jv wr3 => ∃ j : Nat, j ≤ k0 - f ∧ jv = .int .i64 j ∧ St w wr3 [pt w.heap.size (.cells #[.int .i64 k.budget, .int .i64 k.room, .int .i64 k.quota, .slice ka k.sinks.length kc] 24 (0, 0)), ownP 113 5 Sk.cells (.slice na (sksOf k).length nc) (sksOf k), pt g (.cells #[.int .i64 (within k.budget 1 4), .int .i64 (within k.room 1 8), .int .i64 (within k.quota 0 30), .slice na (sksOf k).length nc] 28 (0, 0)), ownP 67 15 ActR.cells (.slice aa us.length ac) us, poolP actP us, ownP 67 15 ActR.cells v (T ++ partT SS q0 ++ (SS.take j).filter (tenB (3 - (q0 : Int))))]) (fun _ jv _ => k0 - f - (intOf jv).toNat)
                   case atStart => exact ⟨0, by omega, rfl, by rw [List.take_zero, List.filter_nil, List.append_nil]; exact HST2.out⟩
                   case round =>
                     clear HST2
                     obtain ⟨j, hj, rfl, hst3⟩ := hrel
                     obtain ⟨za, zc, hov, _⟩ := hst3.sl ActR.len 5 rfl
                     subst hov
                     have HST3 := Lib.hid hst3
                     by_cases hjl : (j : Int) < ((k0 - f : Nat) : Int)
                     · have hj1 : j < SS.length := by have := HSL.out; omega
                       obtain ⟨y, hy⟩ : ∃ y, SS[j] = y := ⟨_, rfl⟩
                       have hft := filter_take_succ SS (3 - (q0 : Int)) j hj1
                       rw [hy] at hft
                       have hle : (T ++ partT SS q0 ++ (SS.take j).filter (tenB (3 - (q0 : Int)))).length < 1000000 := by
                         have h1 := partT_len SS q0
                         have h2 := List.length_filter_le (tenB (3 - (q0 : Int))) (SS.take j)
                         have h3 : q0 * SS.length ≤ 4 * 1000 := Nat.mul_le_mul (by omega) (by have := HSL.out; omega)
                         rw [List.length_take] at h2
                         rw [List.length_append, List.length_append]
                         have := HSL.out
                         omega
                       have hft2 : T ++ partT SS q0 ++ (SS.take (j + 1)).filter (tenB (3 - (q0 : Int))) = (T ++ partT SS q0 ++ (SS.take j).filter (tenB (3 - (q0 : Int)))) ++ if tenB (3 - (q0 : Int)) y then [y] else [] := by rw [hft, ← List.append_assoc]
                       generalize hgo : T ++ partT SS q0 ++ (SS.take j).filter (tenB (3 - (q0 : Int))) = out at *
                       obtain ⟨b2, o2, hba2, hbl2, e0, e1, e2, e3, e4, e5, e6, e7, e8, e9, e10, e11, e12, e13, e14⟩ := ((HSE2.out _ rfl) wr _ 0 hst3.wrap rfl).actAt j hj1 y hy
                       subst hba2
                       obtain ⟨kd, tn, fr, nn, oa, oc, p, i⟩ := y
                       dsimp only at e0 e1 e2 e3 e4 e5 e6 e7 e8 e9 e10 e11 e12 e13 e14
                       have hP : tenB (3 - (q0 : Int)) (⟨kd, tn, fr, nn, oa, oc, p, i⟩ : ActR) = (tn == 3 - (q0 : Int)) := rfl
                       rw [hP] at hft2
                       have h4 := (hst3.alloc (.cells #[.int .i64 kd, .int .i64 tn, .int .i64 fr, .int .i64 nn, .slice oa p.ops.length oc, .int .i64 p.size, .int .i64 p.slide, .int .i64 p.agg, .int .i64 p.sink, .int .i64 p.feed, .bool i.mark, .int .i64 i.ev.time, .int .i64 i.ev.key, .int .i64 i.ev.value, .int .u64 i.ev.label] 67)).alloc (.cells #[.int .i64 kd, .int .i64 tn, .int .i64 fr, .int .i64 nn, .slice oa p.ops.length oc, .int .i64 p.size, .int .i64 p.slide, .int .i64 p.agg, .int .i64 p.sink, .int .i64 p.feed, .bool i.mark, .int .i64 i.ev.time, .int .i64 i.ev.key, .int .i64 i.ev.value, .int .u64 i.ev.label] 67)
                       rw [World.size_alloc] at h4
                       have h4b := hst3.alloc (.cells #[.int .i64 kd, .int .i64 tn, .int .i64 fr, .int .i64 nn, .slice oa p.ops.length oc, .int .i64 p.size, .int .i64 p.slide, .int .i64 p.agg, .int .i64 p.sink, .int .i64 p.feed, .bool i.mark, .int .i64 i.ev.time, .int .i64 i.ev.key, .int .i64 i.ev.value, .int .u64 i.ev.label] 67)
                       have HFT := Lib.hid hft2
                       have HLE := Lib.hid hle
                       have H4 := Lib.hid h4
                       have H4b := Lib.hid h4b
                       clear hft hft2 hle h4 h4b hst3 hy hP hgo HST3
                       by_cases q1 : tn = 3 - (q0 : Int)
                       · have q4 : (tn == 3 - (q0 : Int)) = true := by simp [q1]
                         rw [q4, if_pos rfl] at HFT
                         clear q4
                         subst q1
                         go_wp2_with (at_builtin; refine wpList_push_stB actElem rfl H4.out 5 rfl _ _ rfl rfl _ (⟨kd, 3 - (q0 : Int), fr, nn, oa, oc, p, i⟩ : ActR) rfl (H4.out.blk 7 rfl).1 HLE.out ?_; intro v7 w7 hst7 _; have H7 := Lib.hid (hst7.pick [0, 1, 2, 3, 4, 5] (by decide)); clear hst7 H4 H4b)
                         go_roundw
                         case rel => first | exact ⟨j + 1, by omega, by go_num, by rw [HFT.out]; exact H7.out⟩ | ((repeat apply Exists.intro); exact ⟨⟨j + 1, by omega, by go_num, by rw [HFT.out]; exact H7.out⟩, rfl⟩)
                         case measure => simp [intOf]; omega
                       · have q4 : (tn == 3 - (q0 : Int)) = false := by simp [q1]
                         rw [q4, if_neg (by decide), List.append_nil] at HFT
                         clear q4
                         go_wp2_with fail
                         go_roundw
                         case rel => first | exact ⟨j + 1, by omega, by go_num, by rw [HFT.out]; exact H4b.out.pick [0, 1, 2, 3, 4, 5] (by decide)⟩ | ((repeat apply Exists.intro); exact ⟨⟨j + 1, by omega, by go_num, by rw [HFT.out]; exact H4b.out.pick [0, 1, 2, 3, 4, 5] (by decide)⟩, rfl⟩)
                         case measure => simp [intOf]; omega
                     · have hje : (SS.take j) = SS := List.take_of_length_le (by have := HSL.out; omega)
                       rw [hje] at HST3 ⊢
                       clear hst3
                       go_wp2_with fail
                       go_roundw
                       case rel => exact ⟨q0 + 1, by omega, by go_num, by rw [show T ++ partT SS (q0 + 1) = T ++ partT SS q0 ++ SS.filter (tenB (3 - (q0 : Int))) from (List.append_assoc _ _ _).symm]; exact HST3.out⟩
                       case measure => simp [intOf]; omega
              · obtain rfl : q0 = 4 := by omega
                have HST2 := Lib.hid hst2
                clear hst2
                go_wp2_with fail
                go_meet
                rw [← partT_all]
                exact HST2.out
          case rest =>
            have HST3 := Lib.hid hcut
            clear hcut HST
            by_cases hk : (k0 : Int) < us.length
            · have hk1 : k0 < us.length := by omega
              obtain ⟨x, hx⟩ : ∃ x, us[k0] = x := ⟨_, rfl⟩
              have h3 : x.kind = 3 := by
                rw [← hx]
                exact Decidable.byContradiction fun h => hcont ⟨hk1, h⟩
              have HXK := Lib.hid hx
              clear hcont hx
              have hyl : (T ++ sortT SS).length < 1000000 := by
                rw [List.length_append, ← partT_all]
                have h1 := partT_len SS 4
                have := HSL.out
                omega
              have hst3 := HST3.out
              obtain ⟨ya, yc, hov, _⟩ := hst3.sl ActR.len 5 rfl
              subst hov
              obtain ⟨b2, o2, hba2, hbl2, e0, e1, e2, e3, e4, e5, e6, e7, e8, e9, e10, e11, e12, e13, e14⟩ := (hst3.slOf ActR.len 3 rfl).actAt k0 hk1 x HXK.out
              cases hba2
              have hor := ordR_tick HORD.out hk1 (by rw [HXK.out]; exact h3)
              rw [HXK.out, HSS.out] at hor
              have HOR := Lib.hid hor
              obtain ⟨kd, tn, fr, nn, oa, oc, p, i⟩ := x
              dsimp only at e0 e1 e2 e3 e4 e5 e6 e7 e8 e9 e10 e11 e12 e13 e14 h3
              subst h3
              have h5 := hst3.alloc (.cells #[.int .i64 3, .int .i64 tn, .int .i64 fr, .int .i64 nn, .slice oa p.ops.length oc, .int .i64 p.size, .int .i64 p.slide, .int .i64 p.agg, .int .i64 p.sink, .int .i64 p.feed, .bool i.mark, .int .i64 i.ev.time, .int .i64 i.ev.key, .int .i64 i.ev.value, .int .u64 i.ev.label] 67)
              generalize hgo : T ++ sortT SS = T2 at *
              have H5 := Lib.hid h5
              have HYL := Lib.hid hyl
              clear h5 hyl hst3 hor hgo HST3
              go_wp2_with (at_builtin; refine wpList_push_stB actElem rfl H5.out 5 rfl _ _ rfl rfl _ (⟨3, tn, fr, nn, oa, oc, p, i⟩ : ActR) rfl (H5.out.blk 6 rfl).1 HYL.out ?_; intro v7 w7 hst7 _; have H7 := Lib.hid (hst7.pick [0, 1, 2, 3, 4, 5] (by decide)); clear hst7 H5)
              go_roundw
              case rel => first | exact ⟨_, _, _, HOR.out, by go_num, by go_num, H7.out⟩ | ((repeat apply Exists.intro); exact ⟨⟨_, _, _, HOR.out, by go_num, by go_num, H7.out⟩, rfl⟩)
              case measure => simp [intOf] <;> omega
            · have hkE : k0 = us.length := by omega
              have hor : ordR us (k0 + 1) (k0 + 1) (T ++ sortT SS) := by
                have h := HORD.out
                rw [hkE] at h ⊢
                have h2 := ordR_end h
                rw [← hkE, HSS.out] at h2
                rw [← hkE]
                exact h2
              have HOR := Lib.hid hor
              clear hor hkE hcont
              go_wp2_with fail
              go_roundw
              case rel => first | exact ⟨_, _, _, HOR.out, by go_num, by go_num, HST3.out⟩ | ((repeat apply Exists.intro); exact ⟨⟨_, _, _, HOR.out, by go_num, by go_num, HST3.out⟩, rfl⟩)
              case measure => simp [intOf] <;> omega
end Go.Proofs.YtdncpihaeobaeaaGreat
