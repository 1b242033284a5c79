/- Walk of core.Do. -/
import Derived.Test.YtdncpihaeobaeaaGreatDo
set_option linter.unusedVariables false
set_option linter.unusedSimpArgs false
namespace Go.Proofs.YtdncpihaeobaeaaGreat
open Go.RowKit
theorem ansInfo : ∃ i, Tryz.prog.info? 51 = some i ∧ i.zero = some (.agg #[.int .i64 0, .slice none 0 0, .slice none 0 0]) ∧ i.size = 3 ∧ i.bytes = 56 := info_parts (by kernel_rfl)
theorem ansElem : Elem Tryz.prog 38 51 3 AnsR.cells :=
  ⟨AnsR.len, by decide, AnsR.one, Tryz.underlying38, by
    obtain ⟨i, h1, h2, h3, h4⟩ := ansInfo
    exact ⟨i, _, h1, h2, h3, by omega, rfl⟩⟩
theorem SlAt.actAt {w : World} {sa : Option Addr} {l : List ActR} (h : SlAt 15 (flat ActR.cells) w sa l) (i : Nat) (hi : i < l.length) (a : ActR) (ha : l[i] = a) : ∃ b o, sa = some ⟨b, o, none⟩ ∧ b < w.heap.size ∧ w.cell? ⟨b, o + i * 15, none⟩ = some (.int .i64 a.kind) ∧ w.cell? ⟨b, o + i * 15 + 1, none⟩ = some (.int .i64 a.tenant) ∧ w.cell? ⟨b, o + i * 15 + 2, none⟩ = some (.int .i64 a.fr) ∧ w.cell? ⟨b, o + i * 15 + 3, none⟩ = some (.int .i64 a.n) ∧ w.cell? ⟨b, o + i * 15 + 4, none⟩ = some (.slice a.oa a.p.ops.length a.oc) ∧ w.cell? ⟨b, o + i * 15 + 5, none⟩ = some (.int .i64 a.p.size) ∧ w.cell? ⟨b, o + i * 15 + 6, none⟩ = some (.int .i64 a.p.slide) ∧ w.cell? ⟨b, o + i * 15 + 7, none⟩ = some (.int .i64 a.p.agg) ∧ w.cell? ⟨b, o + i * 15 + 8, none⟩ = some (.int .i64 a.p.sink) ∧ w.cell? ⟨b, o + i * 15 + 9, none⟩ = some (.int .i64 a.p.feed) ∧ w.cell? ⟨b, o + i * 15 + 10, none⟩ = some (.bool a.i.mark) ∧ w.cell? ⟨b, o + i * 15 + 11, none⟩ = some (.int .i64 a.i.ev.time) ∧ w.cell? ⟨b, o + i * 15 + 12, none⟩ = some (.int .i64 a.i.ev.key) ∧ w.cell? ⟨b, o + i * 15 + 13, none⟩ = some (.int .i64 a.i.ev.value) ∧ w.cell? ⟨b, o + i * 15 + 14, none⟩ = some (.int .u64 a.i.ev.label) := by
  rcases h with rfl | ⟨b, o, rfl, hlt, h⟩
  · simp at hi
  · obtain ⟨cs, h1, h2, rfl⟩ := h i hi
    rw [ha] at h2
    exact ⟨b, o, rfl, hlt, h2 0 (by show 0 < 15; omega), h2 1 (by show 1 < 15; omega), h2 2 (by show 2 < 15; omega), h2 3 (by show 3 < 15; omega), h2 4 (by show 4 < 15; omega), h2 5 (by show 5 < 15; omega), h2 6 (by show 6 < 15; omega), h2 7 (by show 7 < 15; omega), h2 8 (by show 8 < 15; omega), h2 9 (by show 9 < 15; omega), h2 10 (by show 10 < 15; omega), h2 11 (by show 11 < 15; omega), h2 12 (by show 12 < 15; omega), h2 13 (by show 13 < 15; omega), h2 14 (by show 14 < 15; omega)⟩
theorem after_take (co : Co) (l : List ActR) (j : Nat) (hj : j < l.length) : co.after ((l.take (j + 1)).map ActR.val) = ((co.after ((l.take j).map ActR.val)).do1 l[j].val).2 ∧ co.ans ((l.take (j + 1)).map ActR.val) = co.ans ((l.take j).map ActR.val) ++ [((co.after ((l.take j).map ActR.val)).do1 l[j].val).1] := by
  rw [List.take_add_one, List.getElem?_eq_getElem hj, Option.toList_some, List.map_append]
  rw [after_append, ans_append]
  exact ⟨rfl, rfl⟩
theorem ans_pool {ra ta : Option Addr} {rc tc : Nat} {e : Int} {rows : List Rw} {told : List Rel} {h : Nat → Option Obj} (s : sepL [ownP 55 5 Rw.cells (.slice ra rows.length rc) rows, ownP 42 4 Rel.cells (.slice ta told.length tc) told] h) : poolP ansP [(⟨e, ra, rc, rows, ta, tc, told⟩ : AnsR)] h := by
  refine poolP_one _ ?_
  obtain ⟨own, ho⟩ := s
  have h1 := seeP_own Rw.len (ho 0 _ rfl)
  have h2 := seeP_own Rel.len (ho 1 _ rfl)
  exact ⟨seeP_mono h1 fun b o hb => (part_some hb).2, seeP_mono h2 fun b o hb => (part_some hb).2⟩
theorem ans_in {w0 w' : World} {J J' R B : HP} {v : Value} {us : List AnsR} {ra ta : Option Addr} {rc tc : Nat} {e : Int} {rows : List Rw} {told : List Rel} (h : St w0 w' (J' :: sepL (([J, R, ownP 51 3 AnsR.cells v us, poolP ansP us, B]).set 0 emp) :: [ownP 55 5 Rw.cells (.slice ra rows.length rc) rows, ownP 42 4 Rel.cells (.slice ta told.length tc) told])) :
    St w0 w' [J', R, ownP 51 3 AnsR.cells v us, poolP ansP (us ++ [(⟨e, ra, rc, rows, ta, tc, told⟩ : AnsR)])] := by
  have h1 := h.back (n := 0) (by simp)
  have h1 : St w0 w' [J', R, ownP 51 3 AnsR.cells v us, poolP ansP us, B, ownP 55 5 Rw.cells (.slice ra rows.length rc) rows, ownP 42 4 Rel.cells (.slice ta told.length tc) told] := h1
  have h2 := h1.merge 5 6 (by decide) rfl rfl (Z := poolP ansP [(⟨e, ra, rc, rows, ta, tc, told⟩ : AnsR)]) fun h s => ans_pool s
  have h2 : St w0 w' [J', R, ownP 51 3 AnsR.cells v us, poolP ansP us, B, poolP ansP [(⟨e, ra, rc, rows, ta, tc, told⟩ : AnsR)], emp] := h2
  have h3 := h2.merge 3 5 (by decide) rfl rfl (Z := poolP ansP (us ++ [(⟨e, ra, rc, rows, ta, tc, told⟩ : AnsR)])) fun h s => poolP_two s
  exact h3.pick [0, 1, 2, 3] (by decide)
set_option maxHeartbeats 8000000 in
set_option maxRecDepth 20000 in
theorem doAll_in {w0 w : World} {R : HP} {cb sc N : Nat} {sa : Option Addr} {co : Co} (h : St w0 w [coP cb sa sc co N, R]) (hS : Seen w0 R 5 Sk.cells sa co.s.sinks) (hsn : sa = none → sc = 0) (l : List ActR) (la : Option Addr) (lc : Nat) (hl : Seen w0 R 15 ActR.cells la l)
    (hops : ∀ a ∈ l, Seen w0 R 2 Opr.cells a.oa a.p.ops ∧ (a.oa = none → a.oc = 0) ∧ a.val.ok) (hN : N + 9 * l.length < 2 ^ 26) :
    Calls Tryz.prog 16 #[.pointer (some ⟨cb, 0, none⟩), .slice la l.length lc] w fun x w' => ∃ v us, x = .returned v ∧ us.map AnsR.val = co.ans (l.map ActR.val) ∧ St w0 w' [coP cb sa sc (co.after (l.map ActR.val)) (N + 9 * l.length), R, ownP 51 3 AnsR.cells v us, poolP ansP us] := by
  have h0 : St w0 w [coP cb sa sc (co.after ((l.take 0).map ActR.val)) (N + 9 * 0), R, ownP 51 3 AnsR.cells (.slice none 0 0) ([]), poolP ansP ([])] := ((h.nil 51 3 AnsR.cells).pick [0, 1, 2, 3] (by decide)).imp 3 rfl (X' := poolP ansP []) (fun f _ => poolP_nil _ _)
  have H0 := Lib.hid h0
  have HS := Lib.hid hS
  have HSN := Lib.hid hsn
  have HL := Lib.hid hl
  have HO := Lib.hid hops
  have hlm : l.length < 2 ^ 26 := by omega
  clear h hS hsn hl hops h0
  go_enter Tryz.func16, Tryz.ntmps16
  go_wp2_with fail
  go_loopw [5, 10] (fun ov iv wr => ∃ j : Nat, j ≤ l.length ∧ iv = .int .i64 j ∧ ∃ us, us.map AnsR.val = co.ans ((l.take j).map ActR.val) ∧ St w0 wr [coP cb sa sc (co.after ((l.take j).map ActR.val)) (N + 9 * j), R, ownP 51 3 AnsR.cells (ov) (us), poolP ansP (us)]) (fun _ iv _ => l.length - (intOf iv).toNat)
  case atStart => exact ⟨0, by omega, rfl, [], rfl, H0.out⟩
  case round =>
    clear H0
    obtain ⟨j, hj, rfl, us, has, hst⟩ := hrel
    obtain ⟨ua, uc, hov, _⟩ := hst.sl AnsR.len 2 rfl
    subst hov
    by_cases hlt : (j : Int) < l.length
    · have hjn : j < l.length := by omega
      obtain ⟨a, ha⟩ : ∃ a, l[j] = a := ⟨_, rfl⟩
      obtain ⟨b, o, hla, hbl, c0, c1, c2, c3, c4, c5, c6, c7, c8, c9, c10, c11, c12, c13, c14⟩ := (HL.out.now hst 1 rfl).actAt j hjn a ha
      have hal : us.length = j := by
        have := congrArg List.length has
        rw [List.length_map, ans_len, List.length_map, List.length_take] at this
        omega
      obtain ⟨hat1, hat2⟩ := after_take co l j hjn
      obtain ⟨hop, hnil, hok⟩ := HO.out a (by rw [← ha]; exact List.getElem_mem hjn)
      rw [ha] at hat1 hat2
      obtain ⟨cj, hcj⟩ : ∃ x, co.after ((l.take j).map ActR.val) = x := ⟨_, rfl⟩
      have hsj : cj.s = co.s := by rw [← hcj]; exact (after_s _ co).1
      rw [hcj] at hst hat1 hat2
      subst hla
      obtain ⟨kd, tn, fr, nn, oa, oc, ⟨ops, sz, sl, ag, sk, fd⟩, ⟨im, ⟨et, ek, ev, el⟩⟩⟩ := a
      dsimp only at c0 c1 c2 c3 c4 c5 c6 c7 c8 c9 c10 c11 c12 c13 c14 hop hnil
      have h3 := hst.alloc (.cells #[.int .i64 kd, .int .i64 tn, .int .i64 fr, .int .i64 nn, .slice oa ops.length oc, .int .i64 sz, .int .i64 sl, .int .i64 ag, .int .i64 sk, .int .i64 fd, .bool im, .int .i64 et, .int .i64 ek, .int .i64 ev, .int .u64 el] 67)
      have h3 : St w0 (wr.alloc (.cells #[.int .i64 kd, .int .i64 tn, .int .i64 fr, .int .i64 nn, .slice oa ops.length oc, .int .i64 sz, .int .i64 sl, .int .i64 ag, .int .i64 sk, .int .i64 fd, .bool im, .int .i64 et, .int .i64 ek, .int .i64 ev, .int .u64 el] 67)) ([coP cb sa sc (cj) (N + 9 * j), R, ownP 51 3 AnsR.cells (.slice ua us.length uc) (us), poolP ansP (us), pt wr.heap.size (.cells #[.int .i64 kd, .int .i64 tn, .int .i64 fr, .int .i64 nn, .slice oa ops.length oc, .int .i64 sz, .int .i64 sl, .int .i64 ag, .int .i64 sk, .int .i64 fd, .bool im, .int .i64 et, .int .i64 ek, .int .i64 ev, .int .u64 el] 67 (0, 0))]) := h3
      have hbx := (blkCells (h3.blk 4 rfl).1).1
      have hjN : N + 9 * j < 2 ^ 26 := by omega
      have hdo := do_in (h3.front 0 rfl) (by rw [hsj]; exact HS.out.lift 1 rfl) HSN.out hjN (⟨kd, tn, fr, nn, oa, oc, ⟨ops, sz, sl, ag, sk, fd⟩, ⟨im, ⟨et, ek, ev, el⟩⟩⟩ : ActR) (hop.lift 1 rfl) hnil hok
      obtain ⟨r, hr⟩ : ∃ r, cj.do1 (⟨kd, tn, fr, nn, oa, oc, ⟨ops, sz, sl, ag, sk, fd⟩, ⟨im, ⟨et, ek, ev, el⟩⟩⟩ : ActR).val = r := ⟨_, rfl⟩
      rw [hr] at hdo hat1 hat2
      dsimp only at hdo
      have HDO := Lib.hid hdo
      have HT1 := Lib.hid hat1
      have HT2 := Lib.hid hat2
      have HAL := Lib.hid hal
      have HAS := Lib.hid has
      have HLL := Lib.hid (show us.length < 1099511627776 by omega)
      clear hst h3 hdo hat1 hat2 hop hnil hok ha hr hal has hsj hbx hcj
      go_wp2_with (first
        | (go_at_call 54; (with_reducible refine HDO.out.mono ?_); rintro e w2 ⟨ra, rc, ta, tc, rfl, h2⟩; have h4 := ans_in (e := r.1.err) h2; have H4 := Lib.hid h4; clear h2 h4 HDO)
        | (at_builtin; refine wpList_push_st ansElem rfl (H4.out.alloc (.cells #[.int .i64 r.1.err, .slice ra r.1.rows.length rc, .slice ta r.1.told.length tc] 51)) 2 rfl _ _ rfl rfl _ (⟨r.1.err, ra, rc, r.1.rows, ta, tc, r.1.told⟩ : AnsR) rfl (heap_new _ _) HLL.out ?_; intro v6 w6 hst6 _; have H6 := Lib.hid (hst6.pick [0, 1, 2, 3] (by decide)); clear hst6 H4))
      go_roundw
      case rel =>
        refine ⟨j + 1, by omega, by go_num, us ++ [(⟨r.1.err, ra, rc, r.1.rows, ta, tc, r.1.told⟩ : AnsR)], ?_, ?_⟩
        · rw [List.map_append, HAS.out, HT2.out]
          rfl
        · rw [HT1.out]
          exact H6.out
      case measure => simp [intOf]; omega
    · obtain rfl : j = l.length := by omega
      have HST := Lib.hid hst
      have HAS := Lib.hid has
      clear hst has
      go_wp2
      go_ret
      rw [List.take_length] at HAS HST
      exact ⟨_, rfl, us, HAS.out, HST.out⟩
end Go.Proofs.YtdncpihaeobaeaaGreat
