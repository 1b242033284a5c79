/- Walks of package panes: Close, Open, Len, Copy. -/
import Derived.Test.YthegopajkljlmaaClose
import Derived.Test.YthegopajkljlmaaPut
set_option linter.unusedVariables false
namespace Go.Proofs.Ythegopajkljlmaa
open Go.RowKit Go.Maps
theorem SlAt.plAt {w : World} {a : Option Addr} {l : List Pl} (h : SlAt 2 (flat cellsP) w a l) (k : Nat) (hk : k < l.length) :
    ∃ b o, a = some ⟨b, o, none⟩ ∧ b < w.heap.size ∧ w.cell? ⟨b, o + k * 2, none⟩ = some (.int .i64 l[k].1.1) ∧ w.cell? ⟨b, o + k * 2 + 1, none⟩ = some (.int .i64 l[k].1.2) := by
  rcases h with rfl | ⟨b, o, rfl, hlt, h⟩
  · simp at hk
  · obtain ⟨cs, h1, h2, h3⟩ := h k hk
    unfold flat at h3
    subst h3
    exact ⟨b, o, rfl, hlt, h2 0 (by omega), h2 1 (by omega)⟩
theorem SlAt.kept {α : Type} {c : Nat} {enc : α → List Value} {w w' : World} {a : Option Addr} {l : List α} (h : SlAt c (flat enc) w a l) (hb : Below w.heap.size w w') : SlAt c (flat enc) w' a l := by
  rcases h with h | ⟨b, o, rfl, hlt, h⟩
  · exact .inl h
  · refine .inr ⟨b, o, rfl, by have := hb.size; omega, fun i hi => ?_⟩
    obtain ⟨cs, h1, h2, h3⟩ := h i hi
    exact ⟨cs, h1, fun j hj => (hb.cell (p := ⟨b, _, none⟩) hlt).trans (h2 j hj), h3⟩
theorem below_drewN (w : World) (n : Nat) : Below w.heap.size w (w.drewN n) := ⟨rfl, rfl, rfl, Nat.le_refl _, fun _ _ => rfl⟩
theorem own_grown {w w' : World} {B mb : Nat} {e : TypeId} {c n : Nat} {v : Value} {xs : List Value} (h : w.ownsRow B e c v n xs) (hb : w.grownBy w' (some mb)) (hm : mb < B) : w'.ownsRow B e c v n xs := by
  refine ⟨h.1, ?_⟩
  rcases h.2 with hn | ⟨g, cap, cur, hv, hB, hg, rest⟩
  · exact .inl hn
  · exact .inr ⟨g, cap, cur, hv, hB, (hb.block g (Array.getElem?_eq_some_iff.1 hg).1 (fun e => by cases e; omega)).trans hg, rest⟩
theorem grownBy_own {a b c : World} {r o : Option Nat} (h : a.grownBy b r) (k : b.grownBy c o) (ho : ∀ i, o = some i → a.heap.size ≤ i) : a.grownBy c r :=
  ⟨k.os.trans h.os, k.tape.trans h.tape, k.output.trans h.output, Nat.le_trans h.size k.size, fun i hi hne => (k.block i (Nat.lt_of_lt_of_le hi h.size) (fun e => by have := ho i e.symm; omega)).trans (h.block i hi hne)⟩
theorem own_keep {w w' : World} {B : Nat} {e : TypeId} {c n : Nat} {v : Value} {xs : List Value} (h : w.ownsRow B e c v n xs) (hb : Below w.heap.size w w') : w'.ownsRow B e c v n xs := by
  refine ⟨h.1, ?_⟩
  rcases h.2 with hn | ⟨g, cap, cur, hv, hB, hg, rest⟩
  · exact .inl hn
  · exact .inr ⟨g, cap, cur, hv, hB, (hb.block g (Array.getElem?_eq_some_iff.1 hg).1).trans hg, rest⟩
def rowsL (L : PL) : List Rw := L.map fun q => rowOf q.1 q.2
theorem rowsL_take {L : PL} {k : Nat} (hk : k < L.length) : rowsL (L.take (k + 1)) = rowsL (L.take k) ++ [rowOf L[k].1 L[k].2] := by
  unfold rowsL
  rw [List.take_add_one, List.getElem?_eq_getElem hk, List.map_append]
  rfl
theorem look_at {L : PL} (hs : SortedL L) {k : Nat} (hk : k < L.length) : lookL L L[k].1 = some L[k].2 := (lookL_some hs).2 (List.getElem_mem hk)
set_option maxRecDepth 20000 in
theorem open_any (pb mb : Nat) (sz sl kd : Int) (L : PL) (w : World) (hP : PanesAt w pb mb sz sl kd L) (hN : L.length < 2 ^ 40) :
    Calls Try.prog 30 #[.pointer (some ⟨pb, 0, none⟩)] w fun e w' => ∃ v, e = .returned v ∧ w'.ownsRow w.heap.size 43 5 v (rowsL L).length ((rowsL L).flatMap Rw.cells) ∧ Below w.heap.size w w' := by
  have hlt := hP.lt
  have hml := hP.2.lt
  have hs := Lib.hid hP.2.sorted
  have HP := Lib.hid hP
  obtain ⟨i0, hi, hz0, hz1, hz2⟩ := rwInfo
  clear hP
  go_enter Try.func30, Try.ntmps30
  go_wp2_with (first | (go_at_call 48; refine (places_any pb mb sz sl kd L _ HP.out (by omega)).mono ?_; rintro e w1 ⟨a, cap, rfl, hcap, hmax, hnil, hss, hblk, hb⟩))
  have HSS := Lib.hid hss
  have HB := Lib.hid hb
  have hs1 := hb.size
  clear hss hb hblk
  go_loopw [3, 9] (fun ov iv wr => ∃ k : Nat, k ≤ L.length ∧ iv = .int .i64 k ∧ wr.ownsRow w1.heap.size 43 5 ov (rowsL (L.take k)).length ((rowsL (L.take k)).flatMap Rw.cells) ∧ Below w1.heap.size w1 wr) (fun _ iv _ => L.length - (numOf iv).toNat)
  case atStart => exact ⟨0, by omega, rfl, World.ownsRow_nil _ _ _ _, Below.refl _ _⟩
  case round =>
    obtain ⟨k, hk, rfl, hown, hbel⟩ := hrel
    have hsz := hbel.size
    by_cases hkl : (k : Int) < L.length
    · have hkn : k < L.length := by omega
      obtain ⟨b, o, rfl, hbl, c0, c1⟩ := (HSS.out.kept hbel).plAt k (by simpa using hkn)
      rw [List.getElem_map] at c0 c1
      have hlk := look_at hs.out hkn
      have hrt := rowsL_take hkn
      have hlen : (rowsL (L.take k)).length = k := by simp [rowsL]; omega
      obtain ⟨p, hp⟩ : ∃ p, p = L[k].1 := ⟨_, rfl⟩
      obtain ⟨x, hx⟩ : ∃ x, x = L[k].2 := ⟨_, rfl⟩
      rw [← hp] at c0 c1 hlk
      rw [← hp, ← hx] at hrt
      rw [← hx] at hlk
      have HLK := Lib.hid hlk
      have HRT := Lib.hid hrt
      have HLEN := Lib.hid hlen
      have HOWN := Lib.hid hown
      have HBEL := Lib.hid (HB.out.trans (hbel.mono (by omega)))
      have HBE1 := Lib.hid hbel
      clear hlk hrt hlen hown hbel hp hx
      go_wp2_with (first
        | (go_at_call 49; refine (row_any pb mb sz sl kd L p _ (by refine HP.out.below (HBEL.out.trans ?_) hlt hml; go_grown)).mono ?_; rintro e w2 ⟨rfl, hb2⟩; have hb3 : Below wr.heap.size wr w2 := Below.trans (by go_grown) (hb2.mono (by simp)); have hs3 := hb3.size; simp only [HLK.out, Option.getD_some, Rw.cells, rowOf])
        | (at_builtin; refine wpList_append_sl Rw.len (by decide) Rw.one rfl _ _ 38 rfl w1.heap.size 43 i0 _ 40 Try.underlying38 hi hz0 hz1 hz2 rfl _ (rowsL (L.take k)) rfl (own_keep HOWN.out (hb3.alloc hs3 _)) (some ⟨w2.heap.size, 0, none⟩) 1 [rowOf p x] rfl (by simp) (SlAt.one Rw.len (heap_new _ _)) (by simp [HLEN.out]; omega) (by simp [HLEN.out, maxLen]; omega) (by simp; omega) ?_))
      intro v' w' h1 h2 h3
      go_wp2
      go_roundw
      case rel => exact ⟨k + 1, by omega, by go_num, by rw [HRT.out]; simpa using h1, (HBE1.out.trans ((hb3.alloc hs3 _).mono (by omega))).grown h2 (by simp; omega) (fun k hk => (HOWN.out.lt k hk).1)⟩
      case measure => simp [numOf]; omega
    · go_wp2
      go_ret
      have hke : k = L.length := by omega
      subst hke
      rw [List.take_length] at hown
      exact ⟨_, rfl, Go.Joins.ownsRow_le hown (by omega), HB.out.trans (hbel.mono (by omega))⟩
set_option maxRecDepth 20000 in
theorem len_any (pb mb : Nat) (sz sl kd : Int) (L : PL) (w : World) (hP : PanesAt w pb mb sz sl kd L) :
    Calls Try.prog 31 #[.pointer (some ⟨pb, 0, none⟩)] w fun e w' => e = .returned (.int .i64 L.length) ∧ Below w.heap.size w w' := by
  obtain ⟨D, n, hown, hD⟩ := hP.2
  have hlt := hP.lt
  have m0 : w.cell? ⟨pb, 3, none⟩ = some (.map (some mb)) := by simp [World.cell?, hP.1]
  have hl := hD.2.2.2
  have HO := Lib.hid hown
  have HL := Lib.hid hl
  clear hP hown hD hl
  go_enter Try.func31, Try.ntmps31
  go_wp2_with (at_len; refine wpList_len_own _ rfl _ 102 rfl 100 123 Try.underlying102 _ mb n D rfl HO.out ?_)
  go_ret
  exact ⟨by rw [HL.out]; rfl, Below.refl _ _⟩
def endsB (sz mark : Int) (q : Pl × Pn) : Bool := decide (q.1.1.1 + sz ≤ mark)
def keepL (sz mark : Int) (L : PL) : PL := L.filter fun q => !endsB sz mark q
def doneL (sz mark : Int) (L : PL) : PL := L.filter fun q => endsB sz mark q
theorem sorted_parts {L : PL} (hs : SortedL L) {k : Nat} (hk : k < L.length) : (∀ q ∈ L.take k, ltP q.1 L[k].1) ∧ (∀ q ∈ L.drop (k + 1), ltP L[k].1 q.1) := by
  have e : L = L.take k ++ L[k] :: L.drop (k + 1) := by rw [← List.drop_eq_getElem_cons hk, List.take_append_drop]
  unfold SortedL at hs
  rw [e, List.pairwise_append, List.pairwise_cons] at hs
  exact ⟨fun q hq => hs.2.2 q hq _ List.mem_cons_self, fun q hq => hs.2.1.1 q hq⟩
theorem mid_sorted {L : PL} (hs : SortedL L) (f : Pl × Pn → Bool) (k : Nat) : SortedL ((L.take k).filter f ++ L.drop k) := by
  refine List.Pairwise.sublist ?_ hs
  conv => rhs; rw [← List.take_append_drop k L]
  exact List.Sublist.append List.filter_sublist (List.Sublist.refl _)
theorem del_mid {L : PL} (hs : SortedL L) (f : Pl × Pn → Bool) {k : Nat} (hk : k < L.length) : delL ((L.take k).filter f ++ L.drop k) L[k].1 = (L.take k).filter f ++ L.drop (k + 1) := by
  obtain ⟨h1, h2⟩ := sorted_parts hs hk
  unfold delL
  rw [List.filter_append, List.drop_eq_getElem_cons hk, List.filter_cons]
  simp only [ne_eq, not_true_eq_false, decide_false, Bool.false_eq_true, if_false]
  congr 1
  · refine List.filter_eq_self.2 fun q hq => ?_
    have := h1 q (List.mem_filter.1 hq).1
    refine decide_eq_true fun e => ?_
    rw [e] at this
    exact ltP_irrefl _ this
  · refine List.filter_eq_self.2 fun q hq => ?_
    have := h2 q hq
    refine decide_eq_true fun e => ?_
    rw [e] at this
    exact ltP_irrefl _ this
theorem take_one {L : PL} {k : Nat} (hk : k < L.length) : L.take (k + 1) = L.take k ++ [L[k]] := by
  rw [List.take_add_one, List.getElem?_eq_getElem hk]
  rfl
theorem mid_keep {L : PL} (f : Pl × Pn → Bool) {k : Nat} (hk : k < L.length) (h : f L[k] = true) : (L.take k).filter f ++ L.drop k = (L.take (k + 1)).filter f ++ L.drop (k + 1) := by
  rw [take_one hk, List.filter_append, List.drop_eq_getElem_cons hk, List.append_assoc]
  simp only [List.filter_cons, h, List.filter_nil, if_true]
  rfl
theorem mid_skip {L : PL} (f : Pl × Pn → Bool) {k : Nat} (hk : k < L.length) (h : f L[k] = false) : (L.take (k + 1)).filter f = (L.take k).filter f := by
  rw [take_one hk, List.filter_append]
  simp only [List.filter_cons, h, List.filter_nil, Bool.false_eq_true, if_false, List.append_nil]
theorem mid_more {L : PL} (f : Pl × Pn → Bool) {k : Nat} (hk : k < L.length) (h : f L[k] = true) : (L.take (k + 1)).filter f = (L.take k).filter f ++ [L[k]] := by
  rw [take_one hk, List.filter_append]
  simp only [List.filter_cons, h, List.filter_nil, if_true]
theorem mid_look {L : PL} (hs : SortedL L) (f : Pl × Pn → Bool) {k : Nat} (hk : k < L.length) : lookL ((L.take k).filter f ++ L.drop k) L[k].1 = some L[k].2 := by
  refine (lookL_some (mid_sorted hs f k)).2 (List.mem_append.2 (.inr ?_))
  rw [List.drop_eq_getElem_cons hk]
  exact List.mem_cons_self
theorem wpList_del {w : World} {mb : Nat} {L : PL} (hM : MapAt w mb L) (p : Pl) {ops : Array Oper} {rest : List Oper} {o : Oper} {a : Act} {Q : Exit → Act → World → Prop} (hgd : o.guard = none) (m x : Operand)
    (ho : o.op = Op.call { callee := Callee.builtin Builtin.delete, args := #[m, x], argTypes := #[102, 100] }) (hm : a.eval m = .map (some mb)) (hx : a.eval x = encP p)
    (h : ∀ w', MapAt w' mb (delL L p) → w.grownBy w' (some mb) → wpList Try.prog ops Q rest (a.put o.dst (.tuple #[])) w') : wpList Try.prog ops Q (o :: rest) a w := by
  obtain ⟨D, n, h1, h2⟩ := hM
  exact wpList_delete_own _ hgd m x _ _ ho _ placeKeyed Try.underlying102 _ mb n D hm h1 _ _ hx (keyOf_place p) fun w' h3 h4 => h w' ⟨_, _, h3, h2.del (h1.tidy placeKeyed) p⟩ h4.grown
set_option maxHeartbeats 1000000 in
set_option maxRecDepth 20000 in
theorem close_any (pb mb : Nat) (sz sl kd : Int) (L : PL) (N : Nat) (mark : Int) (w : World) (hP : PanesAt w pb mb sz sl kd L) (hG : GoodL kd sz sl N L) (hN : N < 2 ^ 40) :
    Calls Try.prog 61 #[.pointer (some ⟨pb, 0, none⟩), .int .i64 mark] w fun e w' => ∃ v, e = .returned v ∧ w'.ownsRow w.heap.size 43 5 v (rowsL (doneL sz mark L)).length ((rowsL (doneL sz mark L)).flatMap Rw.cells) ∧ PanesAt w' pb mb sz sl kd (keepL sz mark L) ∧ w.grownBy w' (some mb) := by
  have hlt := hP.lt
  have hml := hP.2.lt
  have hne := hP.ne
  have hs := Lib.hid hP.2.sorted
  have HP := Lib.hid hP
  have HG := Lib.hid hG
  have hlen : L.length < 2 ^ 40 := by have := hG.len; omega
  obtain ⟨i0, hi, hz0, hz1, hz2⟩ := rwInfo
  clear hP hG
  go_enter Try.func61, Try.ntmps61
  go_wp2_with (first | (go_at_call 48; refine (places_any pb mb sz sl kd L _ HP.out (by omega)).mono ?_; rintro e w1 ⟨a, cap, rfl, hcap, hmax, hnil, hss, hblk, hb⟩))
  have HSS := Lib.hid hss
  have HB := Lib.hid hb
  have hs1 := hb.size
  have HP1 := Lib.hid (HP.out.below hb hlt hml)
  have hm1 : mb < w1.heap.size := by omega
  clear hss hb
  go_loopw [5, 11] (fun ov iv wr => ∃ k : Nat, k ≤ L.length ∧ iv = .int .i64 k ∧ wr.ownsRow w1.heap.size 43 5 ov (rowsL ((L.take k).filter fun q => endsB sz mark q)).length ((rowsL ((L.take k).filter fun q => endsB sz mark q)).flatMap Rw.cells) ∧ PanesAt wr pb mb sz sl kd ((L.take k).filter (fun q => !endsB sz mark q) ++ L.drop k) ∧ w1.grownBy wr (some mb)) (fun _ iv _ => L.length - (numOf iv).toNat)
  case atStart => exact ⟨0, by omega, rfl, World.ownsRow_nil _ _ _ _, HP1.out, grownBy_refl _ _⟩
  case round =>
    obtain ⟨k, hk, rfl, hown, hPr, hgr⟩ := hrel
    have hsz := hgr.size
    have HOWN := Lib.hid hown
    have HPR := Lib.hid hPr
    have HGR := Lib.hid hgr
    have hpr := hPr.lt
    have hmr := hPr.2.lt
    have q0 : wr.cell? ⟨pb, 0, none⟩ = some (.int .i64 sz) := by simp [World.cell?, hPr.1]
    have q3 : wr.cell? ⟨pb, 3, none⟩ = some (.map (some mb)) := by simp [World.cell?, hPr.1]
    clear hown hPr hgr
    by_cases hkl : (k : Int) < L.length
    · have hkn : k < L.length := by omega
      obtain ⟨b, o, rfl, hbl, c0, c1⟩ := (HSS.out.mapped cellsP_len (by omega) HP1.out.2.block HGR.out).plAt k (by simpa using hkn)
      rw [List.getElem_map] at c0 c1
      have hlk := mid_look hs.out (fun q => !endsB sz mark q) hkn
      have hdm := del_mid hs.out (fun q => !endsB sz mark q) hkn
      have hgood := HG.out.each L[k].1 L[k].2 (List.getElem_mem hkn)
      have hright := HG.out.right (fun e => by rw [e] at hkn; simp at hkn)
      have hends : endsB sz mark L[k] = decide (L[k].1.1.1 + sz ≤ mark) := rfl
      have hmk := mid_keep (fun q => !endsB sz mark q) hkn
      have hms := mid_skip (fun q => endsB sz mark q) hkn
      have hmm := mid_more (fun q => endsB sz mark q) hkn
      have hms' := mid_skip (fun q => !endsB sz mark q) hkn
      generalize hq : L[k] = q at *
      obtain ⟨p, x⟩ := q
      dsimp only at c0 c1 hlk hdm hgood hends
      have hg0 := hgood.1
      have hg1 := hgood.2.1
      have hr0 := hright.1
      have hr1 := hright.2.1
      have hr2 := hright.2.2.1
      have hle : ((L.take k).filter fun q => endsB sz mark q).length ≤ k := Nat.le_trans (List.length_filter_le _ _) (by rw [List.length_take]; omega)
      have HLK := Lib.hid hlk
      have HDM := Lib.hid hdm
      have HEN := Lib.hid hends
      have HMK := Lib.hid hmk
      have HMS := Lib.hid hms
      have HMM := Lib.hid hmm
      have HMS' := Lib.hid hms'
      clear hlk hdm hgood hright hends hmk hms hmm hms' hq
      go_wp2
      obtain ⟨w2, hw2⟩ : ∃ y, y = wr.alloc (.cells #[.int .i64 p.1.1, .int .i64 p.1.2] 100) := ⟨_, rfl⟩
      rw [← hw2]
      have hb2 : Below wr.heap.size wr w2 := by rw [hw2]; go_grown
      have hs2 : w2.heap.size = wr.heap.size + 1 := by rw [hw2]; simp
      have r0 := (hb2.cell (p := ⟨pb, 0, none⟩) hpr).trans q0
      have r3 := (hb2.cell (p := ⟨pb, 3, none⟩) hpr).trans q3
      have hp2 : w2.heap[wr.heap.size]? = some (.cells #[.int .i64 p.1.1, .int .i64 p.1.2] 100 (0, 0)) := by rw [hw2]; exact new_at _ _ _ rfl
      have z0 : w2.cell? ⟨wr.heap.size, 0, none⟩ = some (.int .i64 p.1.1) := by simp [World.cell?, hp2]
      have z1 : w2.cell? ⟨wr.heap.size, 1, none⟩ = some (.int .i64 p.1.2) := by simp [World.cell?, hp2]
      have HP2 := Lib.hid (HPR.out.below hb2 hpr hmr)
      have HO2 := Lib.hid (own_keep HOWN.out hb2)
      have HG2 := Lib.hid (grownBy_trans HGR.out (below_grownBy hb2))
      have HZ := Lib.hid hp2
      clear hw2 hb2 q0 q3 c0 c1 hp2
      have HOB : Hid (∀ i, u5.ownBlock = some i → w1.heap.size ≤ i ∧ i < wr.heap.size) := Lib.hid (fun i hi => HOWN.out.lt i hi)
      generalize wr.heap.size = g at *
      by_cases hcase : p.1.1 + sz ≤ mark
      · have hcase' : ¬ mark < p.1.1 + sz := by omega
        have hen : endsB sz mark (p, x) = true := by rw [HEN.out]; exact decide_eq_true hcase
        have HMMT := Lib.hid (HMM.out hen)
        have HMST := Lib.hid (HMS'.out (by simp [hen]))
        clear hen HMM HMS' HMK HMS
        go_quiet (fail)
        go_wp2_with (first
          | (go_at_call 49; refine (row_any pb mb sz sl kd _ p _ (by exact HP2.out.same rfl rfl)).mono ?_; rintro e w3 ⟨rfl, hb3⟩; have hs3 : w2.heap.size ≤ w3.heap.size := hb3.size; simp only [HLK.out, Option.getD_some, Rw.cells, rowOf])
          | (at_builtin; refine wpList_append_sl Rw.len (by decide) Rw.one rfl _ _ 38 rfl w1.heap.size 43 i0 _ 40 Try.underlying38 hi hz0 hz1 hz2 rfl _ (rowsL ((L.take k).filter fun q => endsB sz mark q)) rfl (own_keep HO2.out (Below.trans (below_drewN w2 _) (hb3.alloc hs3 _))) (some ⟨w3.heap.size, 0, none⟩) 1 [rowOf p x] rfl (by simp) (SlAt.one Rw.len (heap_new _ _)) (by simp [rowsL]; omega) (by simp [rowsL, maxLen]; omega) (by simp; omega) ?_))
        intro v' w4 h1 h2 h3
        have hb4 : Below w2.heap.size w2 (w3.alloc (.cells #[.int .i64 p.1.1, .int .i64 p.1.2, .int .i64 x.v, .int .i64 x.c, .int .u64 x.l] 43)) := Below.trans (below_drewN w2 _) (hb3.alloc hs3 _)
        have hob : ∀ i, u5.ownBlock = some i → w1.heap.size ≤ i ∧ i < g := HOB.out
        have hk4 : ∀ i, i < w2.heap.size → (i < w1.heap.size ∨ g ≤ i) → w4.heap[i]? = w2.heap[i]? := fun i hi hd => (h2.block i (by have := hb4.size; omega) (fun e => by have := hob i e.symm; omega)).trans (hb4.block i hi)
        have hs4 := h2.size
        have hs4' := hb4.size
        have HP4 := Lib.hid (HP2.out.same (hk4 pb (by omega) (by omega)) (hk4 mb (by omega) (by omega)))
        have hz4 := (hk4 g (by omega) (by omega)).trans HZ.out
        have z4 : w4.cell? ⟨g, 0, none⟩ = some (.int .i64 p.1.1) := by simp [World.cell?, hz4]
        have z5 : w4.cell? ⟨g, 1, none⟩ = some (.int .i64 p.1.2) := by simp [World.cell?, hz4]
        have r5 : w4.cell? ⟨pb, 3, none⟩ = some (.map (some mb)) := by simp [World.cell?, HP4.out.1]
        have HG4 := Lib.hid (grownBy_own (grownBy_below HG2.out hb4 (by omega)) h2 (fun i hi => (hob i hi).1))
        have H1 := Lib.hid h1
        clear h1 h2 h3 hb4 hob hk4 hz4 r0 r3 z0 z1
        go_wp2
        refine region_tail 5 (by kernel_rfl) (by kernel_rfl) ?_
        simp only [List.take_succ_cons, List.take_zero, List.drop_succ_cons, List.drop_zero]
        repeat still_step
        refine wpStill_nil ?_
        refine wpList_del (w := w4.drew) (HP4.out.2.same rfl) p rfl _ _ rfl rfl rfl ?_
        intro w6 hm6 hg6
        rw [HDM.out] at hm6
        have hg6' : w4.grownBy w6 (some mb) := ⟨hg6.os, hg6.tape, hg6.output, hg6.size, hg6.block⟩
        have hP6 : PanesAt w6 pb mb sz sl kd ((L.take (k + 1)).filter (fun q => !endsB sz mark q) ++ L.drop (k + 1)) := ⟨(hg6'.block pb (by omega) (by simp; omega)).trans HP4.out.1, by rw [HMST.out]; exact hm6⟩
        go_wp2
        have hrows : rowsL ((L.take (k + 1)).filter fun q => endsB sz mark q) = rowsL ((L.take k).filter fun q => endsB sz mark q) ++ [rowOf p x] := by rw [HMMT.out]; simp [rowsL]
        refine ⟨⟨k + 1, by omega, by simp, ?_, hP6, grownBy_trans HG4.out hg6'⟩, by simp [numOf]; omega⟩
        rw [hrows]
        have := own_grown H1.out hg6' hm1
        simpa using this
      · have hcase' : mark < p.1.1 + sz := by omega
        have hen : endsB sz mark (p, x) = false := by rw [HEN.out]; exact decide_eq_false hcase
        have HMKT := Lib.hid (HMK.out (by simp [hen]))
        have HMST := Lib.hid (HMS.out hen)
        clear hen HMM HMS' HMK HMS
        go_quiet (fail)
        go_wp2
        go_roundw
        case rel => exact ⟨k + 1, by omega, by go_num, by rw [HMST.out]; exact own_keep HO2.out (below_drewN w2 _), by rw [← HMKT.out]; exact HP2.out.same rfl rfl, grownBy_trans HG2.out (below_grownBy (below_drewN w2 _))⟩
        case measure => simp [numOf]; omega
    · go_wp2
      go_ret
      have hke : k = L.length := by omega
      subst hke
      have h1 := HOWN.out
      have h2 := HPR.out
      rw [List.take_length] at h1 h2
      rw [List.drop_length, List.append_nil] at h2
      exact ⟨_, rfl, Go.Joins.ownsRow_le h1 (by omega), h2, grownBy_trans (below_grownBy HB.out) HGR.out⟩
set_option maxRecDepth 20000 in
theorem copy_any (pb mb : Nat) (sz sl kd : Int) (L : PL) (w : World) (hP : PanesAt w pb mb sz sl kd L) :
    Calls Try.prog 69 #[.pointer (some ⟨pb, 0, none⟩)] w fun e w' => ∃ qb nb, e = .returned (.pointer (some ⟨qb, 0, none⟩)) ∧ w.heap.size ≤ qb ∧ w.heap.size ≤ nb ∧ PanesAt w' qb nb sz sl kd L ∧ Below w.heap.size w w' := by
  obtain ⟨D, n, hown, hD⟩ := hP.2
  have hlt := hP.lt
  have hml := hP.2.lt
  have m0 : w.cell? ⟨pb, 0, none⟩ = some (.int .i64 sz) := by simp [World.cell?, hP.1]
  have m1 : w.cell? ⟨pb, 1, none⟩ = some (.int .i64 sl) := by simp [World.cell?, hP.1]
  have m2 : w.cell? ⟨pb, 2, none⟩ = some (.int .i64 kd) := by simp [World.cell?, hP.1]
  have m3 : w.cell? ⟨pb, 3, none⟩ = some (.map (some mb)) := by simp [World.cell?, hP.1]
  have HO := Lib.hid hown
  have HD := Lib.hid hD
  have hcl := fun (W : World) (h : W.ownsMap Try.prog 100 elemPn mb n D) => AnyW.maps_Clone_owns Try.cloneP 100 elemPn mb n D W h
  have HCL := Lib.hid hcl
  clear hP hown hD hcl
  go_enter Try.func69, Try.ntmps69
  go_wp2_with (first | (go_at_call 79; refine (HCL.out _ (HO.out.alloc _)).mono ?_; rintro e w2 ⟨rfl, h1, h2, hb⟩; have hs := hb.size; simp only [World.size_alloc] at hs; have hv := (hb.block w.heap.size (by simp)).trans (heap_new w _); have hc3 : w2.cell? ⟨w.heap.size, 3, none⟩ = some (.map (some mb)) := (by simp [World.cell?, hv]); have hf3 : w2.frozen? ⟨w.heap.size, 3, none⟩ = false := (by simp [World.frozen?, hv])))
  go_ret
  simp only [World.size_alloc] at h1 hb
  refine ⟨w.heap.size, w.heap.size + 1, rfl, Nat.le_refl _, by omega, ⟨?_, D, n, ?_, HD.out⟩, ?_⟩
  · exact heap_setCell_row hv 3 _
  · exact ownsMap_at h1 (Below.heap_setCell _ _ _ _ (by simp))
  · have h0 : Below w.heap.size w w2 := Below.trans ((Below.refl _ w).alloc (Nat.le_refl _) (.cells #[.int .i64 sz, .int .i64 sl, .int .i64 kd, .map (some mb)] 104)) (hb.mono (by omega))
    go_grown
end Go.Proofs.Ythegopajkljlmaa
