/- Walk of core.do. -/
import Derived.Test.YtdncpihaeobaeaaGreatReg2
set_option linter.unusedVariables false
set_option linter.unusedSimpArgs false
namespace Go.Proofs.YtdncpihaeobaeaaGreat
open Go.RowKit
/-- A tenant's cell, wherever: what 'at' answers. -/
theorem at_val {w0 w : World} {K : List HP} {cb sc N : Nat} {sa : Option Addr} {co : Co} (h : St w0 w (coP cb sa sc co N :: K)) (t : Int) : ∃ p : Option Nat, (co.at t = none → p = none) ∧ Calls Tryz.prog 58 #[.pointer (some ⟨cb, 0, none⟩), .int .i64 t] w fun e w' => e = .returned (.pointer (p.map fun b => ⟨b, 0, none⟩)) ∧ w' = w := by
  obtain ⟨ps, pv, bb, hp8, hok, hst⟩ := co_open h
  rcases at_cases t with ⟨u, hu, rfl⟩ | hn
  · have cu := (co_cells (hst.blk 0 rfl).1 hp8).2.2.2.2.1 u hu
    refine ⟨ps[u]'(by omega), fun hx => ?_, coreAt_in cb u _ w hu cu⟩
    rw [at_x co u hu] at hx
    obtain ⟨h5, i5⟩ := hst.cellIn 3 rfl hp8 hok.good.cells u hu
    rw [x_get hok.good.cells u hu, hx] at i5
    exact optP_none h5 _ i5
  · exact ⟨none, fun _ => rfl, coreAt_out cb t w hn⟩
def isAns (x : Ending) (w0 w' : World) (J : HP) (R : HP) (r : Ans) : Prop := ∃ ra rc ta tc, x = .returned (.agg #[.int .i64 r.err, .slice ra r.rows.length rc, .slice ta r.told.length tc]) ∧ St w0 w' [J, R, ownP 55 5 Rw.cells (.slice ra r.rows.length rc) r.rows, ownP 42 4 Rel.cells (.slice ta r.told.length tc) r.told]
theorem ans_nil {x : Ending} {w0 w' : World} {J R : HP} {K : List HP} {e : Int} (hx : x = .returned (.agg #[.int .i64 e, .slice none 0 0, .slice none 0 0])) (h : St w0 w' (J :: R :: K)) : isAns x w0 w' J R ⟨e, [], []⟩ := by
  have h1 : St w0 w' [J, R] := St.cut (L := [J, R]) (K := K) h
  exact ⟨none, 0, none, 0, hx, (h1.nil 55 5 Rw.cells).nil 42 4 Rel.cells⟩
set_option maxHeartbeats 8000000 in
set_option maxRecDepth 20000 in
theorem do_in {w0 w : World} {R : HP} {cb sc N : Nat} {sa : Option Addr} {co : Co} (h : St w0 w [coP cb sa sc co N, R]) (hS : Seen w0 R 5 Sk.cells sa co.s.sinks) (hsn : sa = none → sc = 0) (hN : N < 2 ^ 26) (a : ActR) (ho : Seen w0 R 2 Opr.cells a.oa a.p.ops) (hnil : a.oa = none → a.oc = 0) (hok : a.val.ok) :
    Calls Tryz.prog 54 #[.pointer (some ⟨cb, 0, none⟩), .agg #[.int .i64 a.kind, .int .i64 a.tenant, .int .i64 a.fr, .int .i64 a.n, .slice a.oa a.p.ops.length a.oc, .int .i64 a.p.size, .int .i64 a.p.slide, .int .i64 a.p.agg, .int .i64 a.p.sink, .int .i64 a.p.feed, .bool a.i.mark, .int .i64 a.i.ev.time, .int .i64 a.i.ev.key, .int .i64 a.i.ev.value, .int .u64 a.i.ev.label]] w fun x w' => isAns x w0 w' (coP cb sa sc (co.do1 a.val).2 (N + 9)) R (co.do1 a.val).1 := by
  obtain ⟨kd, tn, fr, nn, oa, oc, ⟨ops, sz, sl, ag, sk, fd⟩, ⟨im, ⟨et, ek, ev, el⟩⟩⟩ := a
  have how := hok.ops
  have hoe := hok.ev
  have hf0 := hok.fr0
  have hf1 := hok.fr1
  have hol := hok.few
  dsimp only [ActR.val] at ho hnil how hoe hf0 hf1 hol ⊢
  have H0 := Lib.hid (h.imp 0 rfl (X' := coP cb sa sc co (N + 9)) (fun f hf => coP_mono (Nat.le_add_right N 9) hf))
  have h0a := h.alloc (.cells #[.int .i64 kd, .int .i64 tn, .int .i64 fr, .int .i64 nn, .slice oa ops.length oc, .int .i64 sz, .int .i64 sl, .int .i64 ag, .int .i64 sk, .int .i64 fd, .bool im, .int .i64 et, .int .i64 ek, .int .i64 ev, .int .u64 el] 67)
  have h0b := h0a.alloc (.cells #[.int .i64 0, .slice none 0 0, .slice none 0 0] 51)
  rw [World.size_alloc] at h0b
  have h0c := h0b.alloc (.cells #[.int .i64 0, .slice none 0 0, .slice none 0 0] 51)
  rw [World.size_alloc, World.size_alloc] at h0c
  have h1 : St w0 (((w.alloc (.cells #[.int .i64 kd, .int .i64 tn, .int .i64 fr, .int .i64 nn, .slice oa ops.length oc, .int .i64 sz, .int .i64 sl, .int .i64 ag, .int .i64 sk, .int .i64 fd, .bool im, .int .i64 et, .int .i64 ek, .int .i64 ev, .int .u64 el] 67)).alloc (.cells #[.int .i64 0, .slice none 0 0, .slice none 0 0] 51)).alloc (.cells #[.int .i64 0, .slice none 0 0, .slice none 0 0] 51)) [coP cb sa sc co N, R, pt w.heap.size (.cells #[.int .i64 kd, .int .i64 tn, .int .i64 fr, .int .i64 nn, .slice oa ops.length oc, .int .i64 sz, .int .i64 sl, .int .i64 ag, .int .i64 sk, .int .i64 fd, .bool im, .int .i64 et, .int .i64 ek, .int .i64 ev, .int .u64 el] 67 (0, 0)), pt (w.heap.size + 1) (.cells #[.int .i64 0, .slice none 0 0, .slice none 0 0] 51 (0, 0)), pt (w.heap.size + 1 + 1) (.cells #[.int .i64 0, .slice none 0 0, .slice none 0 0] 51 (0, 0))] := h0c
  clear h0a h0b h0c
  obtain ⟨pa, hpa, hat⟩ := at_val h1 tn
  have HAT := Lib.hid hat
  have H1 := Lib.hid h1
  have HS := Lib.hid hS
  have HO := Lib.hid ho
  clear h h1 hat hS ho hok
  unfold Co.do1
  dsimp only
  by_cases k1 : kd = 1
  · subst k1
    rw [if_pos rfl]
    have HRG := Lib.hid (reg_in (H1.out.front 0 rfl) (HS.out.lift 1 rfl) (⟨1, tn, fr, nn, oa, oc, ⟨ops, sz, sl, ag, sk, fd⟩, ⟨im, ⟨et, ek, ev, el⟩⟩⟩ : ActR) (HO.out.lift 1 rfl) hnil how (by unfold maxLen; dsimp only; omega))
    clear how hoe hpa
    go_enter Tryz.func54, Tryz.ntmps54
    go_wp2_with (first | (go_at_call 58; (with_reducible refine HAT.out.mono ?_); rintro e wz ⟨rfl, hwz⟩; have hwz := hwz.symm; subst hwz) | (go_at_call 72; (with_reducible refine HRG.out.mono ?_); rintro e w2 ⟨rfl, h2⟩; have h3 := h2.back (n := 0) (by simp); obtain ⟨qA, zA⟩ := blkCells (h3.blk 3 rfl).1; obtain ⟨qB, zB⟩ := blkCells (h3.blk 4 rfl).1; have hgA := (h3.blk 3 rfl).2.2; have hgB := (h3.blk 4 rfl).2.2; have H3 := Lib.hid h3; clear h3; clear h2))
    have h4 := (((H3.out.set 4 rfl 0 (.int .i64 ((co.reg tn (⟨ops, sz, sl, ag, sk, fd⟩ : Pp)).1))).set 3 rfl 0 (.int .i64 ((co.reg tn (⟨ops, sz, sl, ag, sk, fd⟩ : Pp)).1))).set 3 rfl 1 (.slice none 0 0)).set 3 rfl 2 (.slice none 0 0)
    have h5 := h4.imp 0 rfl (X' := coP cb sa sc ((co.reg tn (⟨ops, sz, sl, ag, sk, fd⟩ : Pp)).2) (N + 9)) (fun f hf => coP_mono (Nat.le_add_right N 9) hf)
    exact bodyPost_ret (v := .agg #[.int .i64 ((co.reg tn (⟨ops, sz, sl, ag, sk, fd⟩ : Pp)).1), .slice none 0 0, .slice none 0 0]) (by simp [results, go_sem, qA, qB, zA]) rfl (ans_nil rfl h5)
  · rw [if_neg k1]
    by_cases k3 : kd = 3
    · subst k3
      rw [if_pos rfl]
      have HTK := Lib.hid (tick_in (H1.out.front 0 rfl) (HS.out.lift 1 rfl) hsn hN)
      clear how hoe hpa
      go_enter Tryz.func54, Tryz.ntmps54
      go_wp2_with (first | (go_at_call 58; (with_reducible refine HAT.out.mono ?_); rintro e wz ⟨rfl, hwz⟩; have hwz := hwz.symm; subst hwz) | (go_at_call 73; (with_reducible refine HTK.out.mono ?_); rintro e w2 ⟨rfl, h2⟩; have h3 := h2.back (n := 0) (by simp); obtain ⟨qA, zA⟩ := blkCells (h3.blk 3 rfl).1; obtain ⟨qB, zB⟩ := blkCells (h3.blk 4 rfl).1; have hgA := (h3.blk 3 rfl).2.2; have hgB := (h3.blk 4 rfl).2.2; have H3 := Lib.hid h3; clear h3; clear h2))
      have h4 := ((H3.out.set 3 rfl 0 (.int .i64 0)).set 3 rfl 1 (.slice none 0 0)).set 3 rfl 2 (.slice none 0 0)
      exact bodyPost_ret (v := .agg #[.int .i64 0, .slice none 0 0, .slice none 0 0]) (by simp [results, go_sem, qA, qB, zA]) rfl (ans_nil rfl h4)
    · rw [if_neg k3]
      by_cases k5 : kd = 5
      · subst k5
        rw [if_pos rfl]
        have hgo : co.toldB tn fr nn = (toldL co.told tn fr nn) := rfl
        rw [hgo]
        dsimp only
        obtain ⟨ps, pv, bb, hp8, hcok, hst⟩ := co_open H1.out
        have bx : ∀ w' L', St w0 w' L' → L'[0]? = some (pt cb (.cells (coCells co sa sc pv bb ps).toArray 119 (0, 0))) → L'[5]? = some (pt w.heap.size (.cells #[.int .i64 5, .int .i64 tn, .int .i64 fr, .int .i64 nn, .slice oa ops.length oc, .int .i64 sz, .int .i64 sl, .int .i64 ag, .int .i64 sk, .int .i64 fd, .bool im, .int .i64 et, .int .i64 ek, .int .i64 ev, .int .u64 el] 67 (0, 0))) → ((w').cell? ⟨cb, 13, none⟩ = some (.pointer (some ⟨bb, 0, none⟩)) ∧ (w').cell? ⟨w.heap.size, 1, none⟩ = some (.int .i64 tn) ∧ (w').cell? ⟨w.heap.size, 2, none⟩ = some (.int .i64 fr) ∧ (w').cell? ⟨w.heap.size, 3, none⟩ = some (.int .i64 nn)) := fun w' L' hs hl0 hl5 => by
          obtain ⟨_, _, _, _, _, _, z13, _, _⟩ := co_cells (hs.blk 0 hl0).1 hp8
          obtain ⟨_, x1, x2, x3, _⟩ := boxCells (a := (⟨5, tn, fr, nn, oa, oc, ⟨ops, sz, sl, ag, sk, fd⟩, ⟨im, ⟨et, ek, ev, el⟩⟩⟩ : ActR)) (hs.blk 5 hl5).1
          exact ⟨z13, x1, x2, x3⟩
        have S1 := bx _ _ hst.drew rfl rfl
        have S0 := bx _ _ hst rfl rfl
        have HTO := Lib.hid (told_in (hst.drew.front 2 rfl) tn fr nn (by omega) ⟨hf0, hf1⟩)
        have hfin : ∀ w' a c, St w0 w' (boardP bb co.told N :: sepL (([pt cb (.cells (coCells co sa sc pv bb ps).toArray 119 (0, 0)), ownP 125 4 Pot.cells pv co.pots, boardP bb co.told (N), sepL (clsL ps (co.cells) (N)), R, pt w.heap.size (.cells #[.int .i64 5, .int .i64 tn, .int .i64 fr, .int .i64 nn, .slice oa ops.length oc, .int .i64 sz, .int .i64 sl, .int .i64 ag, .int .i64 sk, .int .i64 fd, .bool im, .int .i64 et, .int .i64 ek, .int .i64 ev, .int .u64 el] 67 (0, 0)), pt (w.heap.size + 1) (.cells #[.int .i64 0, .slice none 0 0, .slice none 0 0] 51 (0, 0)), pt (w.heap.size + 1 + 1) (.cells #[.int .i64 0, .slice none 0 0, .slice none 0 0] 51 (0, 0))]).set 2 emp) :: [ownP 42 4 Rel.cells (.slice a (toldL co.told tn fr nn).1.length c) (toldL co.told tn fr nn).1]) →
            ((w').cell? ⟨cb, 13, none⟩ = some (.pointer (some ⟨bb, 0, none⟩)) ∧ (w').cell? ⟨w.heap.size, 1, none⟩ = some (.int .i64 tn) ∧ (w').cell? ⟨w.heap.size, 2, none⟩ = some (.int .i64 fr) ∧ (w').cell? ⟨w.heap.size, 3, none⟩ = some (.int .i64 nn)) ∧ w'.cell? ⟨w.heap.size + 1 + 1, 2, none⟩ = some (.slice none 0 0) ∧ w'.frozen? ⟨w.heap.size + 1 + 1, 2, none⟩ = false ∧ ((w'.setCell ⟨w.heap.size + 1 + 1, 2, none⟩ (.slice a (toldL co.told tn fr nn).1.length c)).cell? ⟨cb, 13, none⟩ = some (.pointer (some ⟨bb, 0, none⟩)) ∧ (w'.setCell ⟨w.heap.size + 1 + 1, 2, none⟩ (.slice a (toldL co.told tn fr nn).1.length c)).cell? ⟨w.heap.size, 1, none⟩ = some (.int .i64 tn) ∧ (w'.setCell ⟨w.heap.size + 1 + 1, 2, none⟩ (.slice a (toldL co.told tn fr nn).1.length c)).cell? ⟨w.heap.size, 2, none⟩ = some (.int .i64 fr) ∧ (w'.setCell ⟨w.heap.size + 1 + 1, 2, none⟩ (.slice a (toldL co.told tn fr nn).1.length c)).cell? ⟨w.heap.size, 3, none⟩ = some (.int .i64 nn)) ∧ (w'.setCell ⟨w.heap.size + 1 + 1, 2, none⟩ (.slice a (toldL co.told tn fr nn).1.length c)).cell? ⟨w.heap.size + 1 + 1, 0, none⟩ = some (.int .i64 0) ∧ (w'.setCell ⟨w.heap.size + 1 + 1, 2, none⟩ (.slice a (toldL co.told tn fr nn).1.length c)).frozen? ⟨w.heap.size + 1 + 1, 0, none⟩ = false ∧ (((w'.setCell ⟨w.heap.size + 1 + 1, 2, none⟩ (.slice a (toldL co.told tn fr nn).1.length c)).setCell ⟨w.heap.size + 1 + 1, 0, none⟩ (.int .i64 (toldL co.told tn fr nn).2)).cell? ⟨cb, 13, none⟩ = some (.pointer (some ⟨bb, 0, none⟩)) ∧ ((w'.setCell ⟨w.heap.size + 1 + 1, 2, none⟩ (.slice a (toldL co.told tn fr nn).1.length c)).setCell ⟨w.heap.size + 1 + 1, 0, none⟩ (.int .i64 (toldL co.told tn fr nn).2)).cell? ⟨w.heap.size, 1, none⟩ = some (.int .i64 tn) ∧ ((w'.setCell ⟨w.heap.size + 1 + 1, 2, none⟩ (.slice a (toldL co.told tn fr nn).1.length c)).setCell ⟨w.heap.size + 1 + 1, 0, none⟩ (.int .i64 (toldL co.told tn fr nn).2)).cell? ⟨w.heap.size, 2, none⟩ = some (.int .i64 fr) ∧ ((w'.setCell ⟨w.heap.size + 1 + 1, 2, none⟩ (.slice a (toldL co.told tn fr nn).1.length c)).setCell ⟨w.heap.size + 1 + 1, 0, none⟩ (.int .i64 (toldL co.told tn fr nn).2)).cell? ⟨w.heap.size, 3, none⟩ = some (.int .i64 nn)) ∧ St w0 w' ([coP cb sa sc (co) (N + 9), R, pt w.heap.size (.cells #[.int .i64 5, .int .i64 tn, .int .i64 fr, .int .i64 nn, .slice oa ops.length oc, .int .i64 sz, .int .i64 sl, .int .i64 ag, .int .i64 sk, .int .i64 fd, .bool im, .int .i64 et, .int .i64 ek, .int .i64 ev, .int .u64 el] 67 (0, 0)), pt (w.heap.size + 1) (.cells #[.int .i64 0, .slice none 0 0, .slice none 0 0] 51 (0, 0)), pt (w.heap.size + 1 + 1) (.cells #[.int .i64 0, .slice none 0 0, .slice none 0 0] 51 (0, 0))] ++ [ownP 42 4 Rel.cells (.slice a (toldL co.told tn fr nn).1.length c) (toldL co.told tn fr nn).1]) := fun w' a c h' => by
          have h7 := h'.back (n := 2) (by simp)
          have h7 : St w0 w' ([pt cb (.cells (coCells co sa sc pv bb ps).toArray 119 (0, 0)), ownP 125 4 Pot.cells pv co.pots, boardP bb co.told (N), sepL (clsL ps (co.cells) (N)), R, pt w.heap.size (.cells #[.int .i64 5, .int .i64 tn, .int .i64 fr, .int .i64 nn, .slice oa ops.length oc, .int .i64 sz, .int .i64 sl, .int .i64 ag, .int .i64 sk, .int .i64 fd, .bool im, .int .i64 et, .int .i64 ek, .int .i64 ev, .int .u64 el] 67 (0, 0)), pt (w.heap.size + 1) (.cells #[.int .i64 0, .slice none 0 0, .slice none 0 0] 51 (0, 0)), pt (w.heap.size + 1 + 1) (.cells #[.int .i64 0, .slice none 0 0, .slice none 0 0] 51 (0, 0))] ++ [ownP 42 4 Rel.cells (.slice a (toldL co.told tn fr nn).1.length c) (toldL co.told tn fr nn).1]) := h7
          have h8 := h7.set 7 rfl 2 (.slice a (toldL co.told tn fr nn).1.length c)
          have h9 := h8.set 7 rfl 0 (.int .i64 (toldL co.told tn fr nn).2)
          refine ⟨bx _ _ h7 rfl rfl, ((blkCells (h7.blk 7 rfl).1).1 2).trans rfl, (blkCells (h7.blk 7 rfl).1).2 _, bx _ _ h8 rfl rfl, ((blkCells (h8.blk 7 rfl).1).1 0).trans rfl, (blkCells (h8.blk 7 rfl).1).2 _, bx _ _ h9 rfl rfl, ?_⟩
          exact (co_shut (K := [R, pt w.heap.size (.cells #[.int .i64 5, .int .i64 tn, .int .i64 fr, .int .i64 nn, .slice oa ops.length oc, .int .i64 sz, .int .i64 sl, .int .i64 ag, .int .i64 sk, .int .i64 fd, .bool im, .int .i64 et, .int .i64 ek, .int .i64 ev, .int .u64 el] 67 (0, 0)), pt (w.heap.size + 1) (.cells #[.int .i64 0, .slice none 0 0, .slice none 0 0] 51 (0, 0)), pt (w.heap.size + 1 + 1) (.cells #[.int .i64 0, .slice none 0 0, .slice none 0 0] 51 (0, 0)), ownP 42 4 Rel.cells (.slice a (toldL co.told tn fr nn).1.length c) (toldL co.told tn fr nn).1]) hp8 hcok h7).imp 0 rfl (fun f hf => coP_mono (Nat.le_add_right N 9) hf)
        have HFIN := Lib.hid hfin
        clear how hoe hpa hst hfin bx hgo H1 hcok
        go_enter Tryz.func54, Tryz.ntmps54
        go_wp2_with (go_at_call 58; (with_reducible refine HAT.out.mono ?_); rintro e wz ⟨rfl, hwz⟩; have hwz := hwz.symm; subst hwz)
        go_region_held3 (fun w' => ((w').cell? ⟨cb, 13, none⟩ = some (.pointer (some ⟨bb, 0, none⟩)) ∧ (w').cell? ⟨w.heap.size, 1, none⟩ = some (.int .i64 tn) ∧ (w').cell? ⟨w.heap.size, 2, none⟩ = some (.int .i64 fr) ∧ (w').cell? ⟨w.heap.size, 3, none⟩ = some (.int .i64 nn))) (first | (with_reducible exact S1) | (with_reducible exact S0) | (with_reducible exact S4) | (with_reducible exact S5) | (with_reducible exact S6))
          (first | (go_at_call 74; (with_reducible refine HTO.out.mono ?_); rintro e w4 ⟨v4, rfl, h4⟩; obtain ⟨xa, xc, rfl, _⟩ := h4.sl Rel.len 2 rfl; obtain ⟨S4, e4, f4, S5, e5, f5, S6, h5⟩ := HFIN.out _ _ _ h4; have H5 := Lib.hid h5; clear h4 h5 HTO))
        have h5 := H5.out
        obtain ⟨qA, zA⟩ := blkCells (h5.blk 3 rfl).1
        obtain ⟨qB, zB⟩ := blkCells (h5.blk 4 rfl).1
        have hgA := (h5.blk 3 rfl).2.2
        have hgB := (h5.blk 4 rfl).2.2
        clear h5 S4 S5 S6 e4 f4 e5 f5
        go_wp2
        have h4 := ((((H5.out.set 4 rfl 2 (.slice xa (toldL co.told tn fr nn).1.length xc)).set 4 rfl 0 (.int .i64 (toldL co.told tn fr nn).2)).set 3 rfl 0 (.int .i64 (toldL co.told tn fr nn).2)).set 3 rfl 1 (.slice none 0 0)).set 3 rfl 2 (.slice xa (toldL co.told tn fr nn).1.length xc)
        have h6 := ((h4.pick [0, 1, 5] (by decide)).nil 55 5 Rw.cells).pick [0, 1, 3, 2] (by decide)
        exact bodyPost_ret (v := .agg #[.int .i64 (toldL co.told tn fr nn).2, .slice none 0 0, .slice xa (toldL co.told tn fr nn).1.length xc]) (by simp [results, go_sem, qA, qB, zA, zB]) rfl ⟨none, 0, xa, xc, rfl, h6⟩
      · rw [if_neg k5]
        by_cases k24 : kd ≠ 2 ∧ kd ≠ 4
        · rw [if_pos k24]
          have k2 : ¬ kd = 2 := k24.1
          have k4 : ¬ kd = 4 := k24.2
          have b2 : (kd != 2) = true := by simp [k2]
          have b4 : (kd != 4) = true := by simp [k4]
          clear how hoe hpa k24
          go_enter Tryz.func54, Tryz.ntmps54
          go_wp2_with (go_at_call 58; (with_reducible refine HAT.out.mono ?_); rintro e wz ⟨rfl, hwz⟩; have hwz := hwz.symm; subst hwz)
          all_goals (refine bodyPost_ret (v := .agg #[.int .i64 1, .slice none 0 0, .slice none 0 0]) (by simp [results, go_sem]) rfl ?_; exact ans_nil rfl (((H0.out.alloc _).alloc _).alloc _))
        · rw [if_neg k24]
          cases hx : co.at tn with
          | none =>
            have hpn := hpa hx
            subst hpn
            dsimp only
            clear how hoe hpa hx
            rcases (show kd = 2 ∨ kd = 4 by omega) with rfl | rfl
            all_goals
              go_enter Tryz.func54, Tryz.ntmps54
              go_wp2_with (go_at_call 58; (with_reducible refine HAT.out.mono ?_); rintro e wz ⟨rfl, hwz⟩; have hwz := hwz.symm; subst hwz)
              all_goals (refine bodyPost_ret (v := .agg #[.int .i64 2, .slice none 0 0, .slice none 0 0]) (by simp [results, go_sem]) rfl ?_; exact ans_nil rfl (((H0.out.alloc _).alloc _).alloc _))
          | some c =>
            dsimp only
            obtain ⟨ps, pv, bb, hp8, hok, hst⟩ := co_open H1.out
            have h8 := hok.good.cells
            rcases at_cases tn with ⟨u, hu8, rfl⟩ | hn
            · rw [at_x co u hu8] at hx
              obtain ⟨h5, i5⟩ := hst.cellIn 3 rfl hp8 h8 u hu8
              rw [x_get h8 u hu8, hx] at i5
              obtain ⟨b, hb⟩ := optP_some h5 _ i5
              rw [hb] at i5
              have cu := (co_cells (hst.blk 0 rfl).1 hp8).2.2.2.2.1 u hu8
              rw [hb] at cu
              have HAT2 := Lib.hid (coreAt_in cb u (.pointer (some ⟨b, 0, none⟩)) _ hu8 cu)
              have hqs : ps.set u (some b) = ps := by rw [← hb]; exact List.set_getElem_self _
              rw [Int.toNat_natCast]
              by_cases k2 : kd = 2
              · subst k2
                rw [if_pos rfl]
                have bx : ∀ w' L', St w0 w' L' → L'[0]? = some (pt cb (.cells (coCells co sa sc pv bb ps).toArray 119 (0, 0))) → L'[5]? = some (pt w.heap.size (.cells #[.int .i64 2, .int .i64 u, .int .i64 fr, .int .i64 nn, .slice oa ops.length oc, .int .i64 sz, .int .i64 sl, .int .i64 ag, .int .i64 sk, .int .i64 fd, .bool im, .int .i64 et, .int .i64 ek, .int .i64 ev, .int .u64 el] 67 (0, 0))) → ((w').cell? ⟨cb, 1, none⟩ = some (.int .i64 co.s.room) ∧ (w').cell? ⟨w.heap.size, 10, none⟩ = some (.bool im) ∧ (w').cell? ⟨w.heap.size, 11, none⟩ = some (.int .i64 et) ∧ (w').cell? ⟨w.heap.size, 12, none⟩ = some (.int .i64 ek) ∧ (w').cell? ⟨w.heap.size, 13, none⟩ = some (.int .i64 ev) ∧ (w').cell? ⟨w.heap.size, 14, none⟩ = some (.int .u64 el)) := fun w' L' hs hl0 hl5 => by
                  obtain ⟨_, z1, _⟩ := co_cells (hs.blk 0 hl0).1 hp8
                  obtain ⟨_, _, _, _, _, _, _, _, _, _, x0, x1, x2, x3, x4, _⟩ := boxCells (a := (⟨2, u, fr, nn, oa, oc, ⟨ops, sz, sl, ag, sk, fd⟩, ⟨im, ⟨et, ek, ev, el⟩⟩⟩ : ActR)) (hs.blk 5 hl5).1
                  exact ⟨z1, x0, x1, x2, x3, x4⟩
                have S1 := bx _ _ hst.drew rfl rfl
                have S0 := bx _ _ hst rfl rfl
                obtain ⟨h5d, i5d⟩ := hst.drew.cellIn 3 rfl hp8 h8 u hu8
                rw [x_get h8 u hu8, hx, hb] at i5d
                have HOF := Lib.hid (offer_st h5d _ i5d co.s.room (⟨im, ⟨et, ek, ev, el⟩⟩ : Inp) hoe (by omega))
                have hgd : Co.good { co with cells := co.cells.set u (some (c.offer co.s.room (⟨im, ⟨et, ek, ev, el⟩⟩ : Inp)).2) } := by
                  refine good_of hok.good rfl (by simp) rfl rfl fun t c' hc' => .inl ?_
                  rw [set_x co h8 u hu8] at hc'
                  split at hc'
                  · rename_i e2
                    subst e2
                    cases hc'
                    exact ⟨c, hx, (offer_keeps ..).2.1, (offer_keeps ..).1⟩
                  · exact ⟨c', hc', rfl, rfl⟩
                have hfin : ∀ w', St w0 w' ((([pt cb (.cells (coCells co sa sc pv bb ps).toArray 119 (0, 0)), ownP 125 4 Pot.cells pv co.pots, boardP bb co.told (N), sepL (clsL ps (co.cells) (N)), R, pt w.heap.size (.cells #[.int .i64 2, .int .i64 u, .int .i64 fr, .int .i64 nn, .slice oa ops.length oc, .int .i64 sz, .int .i64 sl, .int .i64 ag, .int .i64 sk, .int .i64 fd, .bool im, .int .i64 et, .int .i64 ek, .int .i64 ev, .int .u64 el] 67 (0, 0)), pt (w.heap.size + 1) (.cells #[.int .i64 0, .slice none 0 0, .slice none 0 0] 51 (0, 0)), pt (w.heap.size + 1 + 1) (.cells #[.int .i64 0, .slice none 0 0, .slice none 0 0] 51 (0, 0))]).set 3 emp ++ clsL ps co.cells N).set (([pt cb (.cells (coCells co sa sc pv bb ps).toArray 119 (0, 0)), ownP 125 4 Pot.cells pv co.pots, boardP bb co.told (N), sepL (clsL ps (co.cells) (N)), R, pt w.heap.size (.cells #[.int .i64 2, .int .i64 u, .int .i64 fr, .int .i64 nn, .slice oa ops.length oc, .int .i64 sz, .int .i64 sl, .int .i64 ag, .int .i64 sk, .int .i64 fd, .bool im, .int .i64 et, .int .i64 ek, .int .i64 ev, .int .u64 el] 67 (0, 0)), pt (w.heap.size + 1) (.cells #[.int .i64 0, .slice none 0 0, .slice none 0 0] 51 (0, 0)), pt (w.heap.size + 1 + 1) (.cells #[.int .i64 0, .slice none 0 0, .slice none 0 0] 51 (0, 0))]).length + u) (clP b (c.offer co.s.room (⟨im, ⟨et, ek, ev, el⟩⟩ : Inp)).2 (N + 1))) →
                    ((w').cell? ⟨cb, 1, none⟩ = some (.int .i64 co.s.room) ∧ (w').cell? ⟨w.heap.size, 10, none⟩ = some (.bool im) ∧ (w').cell? ⟨w.heap.size, 11, none⟩ = some (.int .i64 et) ∧ (w').cell? ⟨w.heap.size, 12, none⟩ = some (.int .i64 ek) ∧ (w').cell? ⟨w.heap.size, 13, none⟩ = some (.int .i64 ev) ∧ (w').cell? ⟨w.heap.size, 14, none⟩ = some (.int .u64 el)) ∧ w'.cell? ⟨w.heap.size + 1 + 1, 0, none⟩ = some (.int .i64 0) ∧ w'.frozen? ⟨w.heap.size + 1 + 1, 0, none⟩ = false ∧ ((w'.setCell ⟨w.heap.size + 1 + 1, 0, none⟩ (.int .i64 (c.offer co.s.room (⟨im, ⟨et, ek, ev, el⟩⟩ : Inp)).1)).cell? ⟨cb, 1, none⟩ = some (.int .i64 co.s.room) ∧ (w'.setCell ⟨w.heap.size + 1 + 1, 0, none⟩ (.int .i64 (c.offer co.s.room (⟨im, ⟨et, ek, ev, el⟩⟩ : Inp)).1)).cell? ⟨w.heap.size, 10, none⟩ = some (.bool im) ∧ (w'.setCell ⟨w.heap.size + 1 + 1, 0, none⟩ (.int .i64 (c.offer co.s.room (⟨im, ⟨et, ek, ev, el⟩⟩ : Inp)).1)).cell? ⟨w.heap.size, 11, none⟩ = some (.int .i64 et) ∧ (w'.setCell ⟨w.heap.size + 1 + 1, 0, none⟩ (.int .i64 (c.offer co.s.room (⟨im, ⟨et, ek, ev, el⟩⟩ : Inp)).1)).cell? ⟨w.heap.size, 12, none⟩ = some (.int .i64 ek) ∧ (w'.setCell ⟨w.heap.size + 1 + 1, 0, none⟩ (.int .i64 (c.offer co.s.room (⟨im, ⟨et, ek, ev, el⟩⟩ : Inp)).1)).cell? ⟨w.heap.size, 13, none⟩ = some (.int .i64 ev) ∧ (w'.setCell ⟨w.heap.size + 1 + 1, 0, none⟩ (.int .i64 (c.offer co.s.room (⟨im, ⟨et, ek, ev, el⟩⟩ : Inp)).1)).cell? ⟨w.heap.size, 14, none⟩ = some (.int .u64 el)) ∧ St w0 w' ([coP cb sa sc ({ co with cells := co.cells.set u (some (c.offer co.s.room (⟨im, ⟨et, ek, ev, el⟩⟩ : Inp)).2) }) (N + 9), R, pt w.heap.size (.cells #[.int .i64 2, .int .i64 u, .int .i64 fr, .int .i64 nn, .slice oa ops.length oc, .int .i64 sz, .int .i64 sl, .int .i64 ag, .int .i64 sk, .int .i64 fd, .bool im, .int .i64 et, .int .i64 ek, .int .i64 ev, .int .u64 el] 67 (0, 0)), pt (w.heap.size + 1) (.cells #[.int .i64 0, .slice none 0 0, .slice none 0 0] 51 (0, 0)), pt (w.heap.size + 1 + 1) (.cells #[.int .i64 0, .slice none 0 0, .slice none 0 0] 51 (0, 0))]) := fun w' h' => by
                  have h7 := St.cellOut (L := [pt cb (.cells (coCells co sa sc pv bb ps).toArray 119 (0, 0)), ownP 125 4 Pot.cells pv co.pots, boardP bb co.told (N), sepL (clsL ps (co.cells) (N)), R, pt w.heap.size (.cells #[.int .i64 2, .int .i64 u, .int .i64 fr, .int .i64 nn, .slice oa ops.length oc, .int .i64 sz, .int .i64 sl, .int .i64 ag, .int .i64 sk, .int .i64 fd, .bool im, .int .i64 et, .int .i64 ek, .int .i64 ev, .int .u64 el] 67 (0, 0)), pt (w.heap.size + 1) (.cells #[.int .i64 0, .slice none 0 0, .slice none 0 0] 51 (0, 0)), pt (w.heap.size + 1 + 1) (.cells #[.int .i64 0, .slice none 0 0, .slice none 0 0] 51 (0, 0))]) (M := []) 3 (by simp) hp8 h8 u hu8 (some b) (some (c.offer co.s.room (⟨im, ⟨et, ek, ev, el⟩⟩ : Inp)).2) (Nat.le_succ N) (by rw [List.append_nil]; exact h')
                  rw [hqs] at h7
                  have h7 : St w0 w' ([pt cb (.cells (coCells co sa sc pv bb ps).toArray 119 (0, 0)), ownP 125 4 Pot.cells pv co.pots, boardP bb co.told (N), sepL (clsL ps (co.cells.set u (some (c.offer co.s.room (⟨im, ⟨et, ek, ev, el⟩⟩ : Inp)).2)) (N + 1)), R, pt w.heap.size (.cells #[.int .i64 2, .int .i64 u, .int .i64 fr, .int .i64 nn, .slice oa ops.length oc, .int .i64 sz, .int .i64 sl, .int .i64 ag, .int .i64 sk, .int .i64 fd, .bool im, .int .i64 et, .int .i64 ek, .int .i64 ev, .int .u64 el] 67 (0, 0)), pt (w.heap.size + 1) (.cells #[.int .i64 0, .slice none 0 0, .slice none 0 0] 51 (0, 0)), pt (w.heap.size + 1 + 1) (.cells #[.int .i64 0, .slice none 0 0, .slice none 0 0] 51 (0, 0))]) := h7
                  have h9 := h7.set 7 rfl 0 (.int .i64 (c.offer co.s.room (⟨im, ⟨et, ek, ev, el⟩⟩ : Inp)).1)
                  refine ⟨bx _ _ h7 rfl rfl, ((blkCells (h7.blk 7 rfl).1).1 0).trans rfl, (blkCells (h7.blk 7 rfl).1).2 _, bx _ _ h9 rfl rfl, ?_⟩
                  have h10 : St w0 w' ([pt cb (.cells (coCells co sa sc pv bb ps).toArray 119 (0, 0)), ownP 125 4 Pot.cells pv co.pots, boardP bb co.told (N + 1), sepL (clsL ps (co.cells.set u (some (c.offer co.s.room (⟨im, ⟨et, ek, ev, el⟩⟩ : Inp)).2)) (N + 1)), R, pt w.heap.size (.cells #[.int .i64 2, .int .i64 u, .int .i64 fr, .int .i64 nn, .slice oa ops.length oc, .int .i64 sz, .int .i64 sl, .int .i64 ag, .int .i64 sk, .int .i64 fd, .bool im, .int .i64 et, .int .i64 ek, .int .i64 ev, .int .u64 el] 67 (0, 0)), pt (w.heap.size + 1) (.cells #[.int .i64 0, .slice none 0 0, .slice none 0 0] 51 (0, 0)), pt (w.heap.size + 1 + 1) (.cells #[.int .i64 0, .slice none 0 0, .slice none 0 0] 51 (0, 0))]) := h7.imp 2 rfl (X' := boardP bb co.told (N + 1)) (fun f hf => boardP_mono (Nat.le_succ N) hf)
                  exact (co_shut (co := { co with cells := co.cells.set u (some (c.offer co.s.room (⟨im, ⟨et, ek, ev, el⟩⟩ : Inp)).2) }) (K := [R, pt w.heap.size (.cells #[.int .i64 2, .int .i64 u, .int .i64 fr, .int .i64 nn, .slice oa ops.length oc, .int .i64 sz, .int .i64 sl, .int .i64 ag, .int .i64 sk, .int .i64 fd, .bool im, .int .i64 et, .int .i64 ek, .int .i64 ev, .int .u64 el] 67 (0, 0)), pt (w.heap.size + 1) (.cells #[.int .i64 0, .slice none 0 0, .slice none 0 0] 51 (0, 0)), pt (w.heap.size + 1 + 1) (.cells #[.int .i64 0, .slice none 0 0, .slice none 0 0] 51 (0, 0))]) hp8 ⟨hgd, Nat.le_trans hok.ticks (Nat.le_succ N), hok.pots, hok.sinks⟩ h10).imp 0 rfl (fun f hf => coP_mono (by omega) hf)
                have HFIN := Lib.hid hfin
                clear how hoe hpa hx hst h5 i5 h5d i5d hb cu hqs hgd bx hfin H1 k24
                go_enter Tryz.func54, Tryz.ntmps54
                go_wp2_with (first
                  | (go_at_call 58; (with_reducible refine HAT2.out.mono ?_); rintro e wz ⟨rfl, hwz⟩; have hwz := hwz.symm; subst hwz))
                go_region_held3 (fun w' => ((w').cell? ⟨cb, 1, none⟩ = some (.int .i64 co.s.room) ∧ (w').cell? ⟨w.heap.size, 10, none⟩ = some (.bool im) ∧ (w').cell? ⟨w.heap.size, 11, none⟩ = some (.int .i64 et) ∧ (w').cell? ⟨w.heap.size, 12, none⟩ = some (.int .i64 ek) ∧ (w').cell? ⟨w.heap.size, 13, none⟩ = some (.int .i64 ev) ∧ (w').cell? ⟨w.heap.size, 14, none⟩ = some (.int .u64 el))) (first | (with_reducible exact S1) | (with_reducible exact S0) | (with_reducible exact S4) | (with_reducible exact S5))
                  (first | (go_at_call 64; (with_reducible refine HOF.out.mono ?_); rintro e w4 ⟨rfl, h4⟩; obtain ⟨S4, e4, f4, S5, h5⟩ := HFIN.out _ h4; have H5 := Lib.hid h5; clear h4 h5 HOF))
                have h5 := H5.out
                obtain ⟨qA, zA⟩ := blkCells (h5.blk 3 rfl).1
                obtain ⟨qB, zB⟩ := blkCells (h5.blk 4 rfl).1
                have hgA := (h5.blk 3 rfl).2.2
                have hgB := (h5.blk 4 rfl).2.2
                clear h5 S4 S5 e4 f4
                go_wp2
                have h4 := (((H5.out.set 4 rfl 0 (.int .i64 (c.offer co.s.room (⟨im, ⟨et, ek, ev, el⟩⟩ : Inp)).1)).set 3 rfl 0 (.int .i64 (c.offer co.s.room (⟨im, ⟨et, ek, ev, el⟩⟩ : Inp)).1)).set 3 rfl 1 (.slice none 0 0)).set 3 rfl 2 (.slice none 0 0)
                exact bodyPost_ret (v := .agg #[.int .i64 (c.offer co.s.room (⟨im, ⟨et, ek, ev, el⟩⟩ : Inp)).1, .slice none 0 0, .slice none 0 0]) (by simp [results, go_sem, qA, qB, zA, zB]) rfl (ans_nil rfl h4)
              · rw [if_neg k2]
                obtain rfl : kd = 4 := by omega
                have hcs : co.cells.set u (some c) = co.cells := by
                  rw [← hx, ← x_get h8 u hu8]
                  exact List.set_getElem_self _
                have HTE := Lib.hid (tell_st h5 _ i5 fr nn (by omega) ⟨hf0, hf1⟩)
                have hfin : ∀ w' v, St w0 w' (([pt cb (.cells (coCells co sa sc pv bb ps).toArray 119 (0, 0)), ownP 125 4 Pot.cells pv co.pots, boardP bb co.told N, sepL (clsL ps co.cells N), R, pt w.heap.size (.cells #[.int .i64 4, .int .i64 u, .int .i64 fr, .int .i64 nn, .slice oa ops.length oc, .int .i64 sz, .int .i64 sl, .int .i64 ag, .int .i64 sk, .int .i64 fd, .bool im, .int .i64 et, .int .i64 ek, .int .i64 ev, .int .u64 el] 67 (0, 0)), pt (w.heap.size + 1) (.cells #[.int .i64 0, .slice none 0 0, .slice none 0 0] 51 (0, 0)), pt (w.heap.size + 1 + 1) (.cells #[.int .i64 0, .slice none 0 0, .slice none 0 0] 51 (0, 0))].set 3 emp ++ clsL ps co.cells N) ++ [ownP 55 5 Rw.cells v (tellR c.rows fr nn).1]) → St w0 w' [coP cb sa sc co (N + 9), R, pt w.heap.size (.cells #[.int .i64 4, .int .i64 u, .int .i64 fr, .int .i64 nn, .slice oa ops.length oc, .int .i64 sz, .int .i64 sl, .int .i64 ag, .int .i64 sk, .int .i64 fd, .bool im, .int .i64 et, .int .i64 ek, .int .i64 ev, .int .u64 el] 67 (0, 0)), pt (w.heap.size + 1) (.cells #[.int .i64 0, .slice none 0 0, .slice none 0 0] 51 (0, 0)), pt (w.heap.size + 1 + 1) (.cells #[.int .i64 0, .slice none 0 0, .slice none 0 0] 51 (0, 0)), ownP 55 5 Rw.cells v (tellR c.rows fr nn).1] := fun w' v h' => by
                  rw [List.append_assoc] at h'
                  have h7 := h'.unsplit (by simp)
                  exact (co_shut (K := [R, pt w.heap.size (.cells #[.int .i64 4, .int .i64 u, .int .i64 fr, .int .i64 nn, .slice oa ops.length oc, .int .i64 sz, .int .i64 sl, .int .i64 ag, .int .i64 sk, .int .i64 fd, .bool im, .int .i64 et, .int .i64 ek, .int .i64 ev, .int .u64 el] 67 (0, 0)), pt (w.heap.size + 1) (.cells #[.int .i64 0, .slice none 0 0, .slice none 0 0] 51 (0, 0)), pt (w.heap.size + 1 + 1) (.cells #[.int .i64 0, .slice none 0 0, .slice none 0 0] 51 (0, 0)), ownP 55 5 Rw.cells v (tellR c.rows fr nn).1]) hp8 hok h7).imp 0 rfl (fun f hf => coP_mono (Nat.le_add_right N 9) hf)
                have HFIN := Lib.hid hfin
                clear how hoe hpa hx hst h5 i5 hb cu hqs hcs hfin H1 k24
                go_enter Tryz.func54, Tryz.ntmps54
                go_wp2_with (first
                  | (go_at_call 58; (with_reducible refine HAT2.out.mono ?_); rintro e wz ⟨rfl, hwz⟩; have hwz := hwz.symm; subst hwz)
                  | (go_at_call 75; (with_reducible refine HTE.out.mono ?_); rintro e w2 ⟨v2, rfl, h2⟩; have h3 := HFIN.out _ _ h2; obtain ⟨xa, xc, rfl, _⟩ := h3.sl Rw.len 5 rfl; obtain ⟨qA, zA⟩ := blkCells (h3.blk 3 rfl).1; obtain ⟨qB, zB⟩ := blkCells (h3.blk 4 rfl).1; have hgA := (h3.blk 3 rfl).2.2; have hgB := (h3.blk 4 rfl).2.2; have H3 := Lib.hid h3; clear h2 h3 HTE))
                have h4 := ((((H3.out.set 4 rfl 1 (.slice xa (tellR c.rows fr nn).1.length xc)).set 4 rfl 0 (.int .i64 (tellR c.rows fr nn).2)).set 3 rfl 0 (.int .i64 (tellR c.rows fr nn).2)).set 3 rfl 1 (.slice xa (tellR c.rows fr nn).1.length xc)).set 3 rfl 2 (.slice none 0 0)
                have h5 := (h4.pick [0, 1, 5] (by decide)).nil 42 4 Rel.cells
                exact bodyPost_ret (v := .agg #[.int .i64 (tellR c.rows fr nn).2, .slice xa (tellR c.rows fr nn).1.length xc, .slice none 0 0]) (by simp [results, go_sem, qA, qB, zA, zB]) rfl ⟨xa, xc, none, 0, rfl, h5⟩
            · rw [at_out co tn hn] at hx
              cases hx
end Go.Proofs.YtdncpihaeobaeaaGreat
