/- Walks of cordonkeep.Pipes and cordonkeep.Same: of the same. -/
import Derived.Test.YtdncpihaeobaeaaGreatPoolS
set_option linter.unusedVariables false
set_option linter.unusedSimpArgs false
namespace Go.Proofs.YtdncpihaeobaeaaGreat
open Go.RowKit
set_option maxHeartbeats 4000000 in
set_option maxRecDepth 20000 in
theorem Pipes_yes (p : Pp) (a b : Option Addr) (ca cb : Nat) (w : World) (x1 : SlAt 2 (flat Opr.cells) w a p.ops) (y1 : SlAt 2 (flat Opr.cells) w b p.ops) (hR : p.ops.length ≤ 1099511627776) (h1 : p.ops.length ≤ ca) (h2 : p.ops.length ≤ cb) :
    Calls Tryz.prog 57 #[.agg #[.slice a p.ops.length ca, .int .i64 p.size, .int .i64 p.slide, .int .i64 p.agg, .int .i64 p.sink, .int .i64 p.feed], .agg #[.slice b p.ops.length cb, .int .i64 p.size, .int .i64 p.slide, .int .i64 p.agg, .int .i64 p.sink, .int .i64 p.feed]] w fun x w' => x = .returned (.bool true) ∧ Below w.heap.size w w' := by
  have hb2 : Below w.heap.size w ((w.alloc (.cells #[.slice a p.ops.length ca, .int .i64 p.size, .int .i64 p.slide, .int .i64 p.agg, .int .i64 p.sink, .int .i64 p.feed] 61)).alloc (.cells #[.slice b p.ops.length cb, .int .i64 p.size, .int .i64 p.slide, .int .i64 p.agg, .int .i64 p.sink, .int .i64 p.feed] 61)) := ((Below.refl _ w).alloc (Nat.le_refl _) _).alloc (by simp) _
  have hs1 := SameOp_yes p.ops a b ca cb ((w.alloc (.cells #[.slice a p.ops.length ca, .int .i64 p.size, .int .i64 p.slide, .int .i64 p.agg, .int .i64 p.sink, .int .i64 p.feed] 61)).alloc (.cells #[.slice b p.ops.length cb, .int .i64 p.size, .int .i64 p.slide, .int .i64 p.agg, .int .i64 p.sink, .int .i64 p.feed] 61)) (x1.below hb2 (fun _ _ h => h)) (y1.below hb2 (fun _ _ h => h)) hR h1 h2
  have HS1 := Lib.hid hs1
  have hend : ∀ n, Below w.heap.size w (((w.alloc (.cells #[.slice a p.ops.length ca, .int .i64 p.size, .int .i64 p.slide, .int .i64 p.agg, .int .i64 p.sink, .int .i64 p.feed] 61)).alloc (.cells #[.slice b p.ops.length cb, .int .i64 p.size, .int .i64 p.slide, .int .i64 p.agg, .int .i64 p.sink, .int .i64 p.feed] 61)).drewN n) := fun n => hb2.trans ((below_of_drewN ((w.alloc (.cells #[.slice a p.ops.length ca, .int .i64 p.size, .int .i64 p.slide, .int .i64 p.agg, .int .i64 p.sink, .int .i64 p.feed] 61)).alloc (.cells #[.slice b p.ops.length cb, .int .i64 p.size, .int .i64 p.slide, .int .i64 p.agg, .int .i64 p.sink, .int .i64 p.feed] 61)) n).mono (by simp; omega))
  have HEND := Lib.hid hend
  clear x1 y1 hb2 hs1 hend
  obtain ⟨ops, sz, sl, ag, sk, fd⟩ := p
  dsimp only at HS1 HEND ⊢
  go_enter Tryz.func57, Tryz.ntmps57
  go_wp2_with (go_at_call 76; (with_reducible refine HS1.out.mono ?_); rintro x w3 ⟨rfl, n, rfl⟩)
  go_ret
  exact ⟨rfl, HEND.out _⟩
set_option maxHeartbeats 4000000 in
set_option maxRecDepth 20000 in
theorem SameAct_yes (kd tn fr nn : Int) (p : Pp) (i : Inp) (a b : Option Addr) (ca cb : Nat) (w : World) (x1 : SlAt 2 (flat Opr.cells) w a p.ops) (y1 : SlAt 2 (flat Opr.cells) w b p.ops) (hR : p.ops.length ≤ 1099511627776) (h1 : p.ops.length ≤ ca) (h2 : p.ops.length ≤ cb) :
    Calls Tryz.prog 24 #[.agg #[.int .i64 kd, .int .i64 tn, .int .i64 fr, .int .i64 nn, .slice a p.ops.length ca, .int .i64 p.size, .int .i64 p.slide, .int .i64 p.agg, .int .i64 p.sink, .int .i64 p.feed, .bool i.mark, .int .i64 i.ev.time, .int .i64 i.ev.key, .int .i64 i.ev.value, .int .u64 i.ev.label], .agg #[.int .i64 kd, .int .i64 tn, .int .i64 fr, .int .i64 nn, .slice b p.ops.length cb, .int .i64 p.size, .int .i64 p.slide, .int .i64 p.agg, .int .i64 p.sink, .int .i64 p.feed, .bool i.mark, .int .i64 i.ev.time, .int .i64 i.ev.key, .int .i64 i.ev.value, .int .u64 i.ev.label]] w fun x w' => x = .returned (.bool true) ∧ Below w.heap.size w w' := by
  have hb2 : Below w.heap.size w ((w.alloc (.cells #[.int .i64 kd, .int .i64 tn, .int .i64 fr, .int .i64 nn, .slice a p.ops.length ca, .int .i64 p.size, .int .i64 p.slide, .int .i64 p.agg, .int .i64 p.sink, .int .i64 p.feed, .bool i.mark, .int .i64 i.ev.time, .int .i64 i.ev.key, .int .i64 i.ev.value, .int .u64 i.ev.label] 67)).alloc (.cells #[.int .i64 kd, .int .i64 tn, .int .i64 fr, .int .i64 nn, .slice b p.ops.length cb, .int .i64 p.size, .int .i64 p.slide, .int .i64 p.agg, .int .i64 p.sink, .int .i64 p.feed, .bool i.mark, .int .i64 i.ev.time, .int .i64 i.ev.key, .int .i64 i.ev.value, .int .u64 i.ev.label] 67)) := ((Below.refl _ w).alloc (Nat.le_refl _) _).alloc (by simp) _
  have hs1 := Pipes_yes p a b ca cb ((w.alloc (.cells #[.int .i64 kd, .int .i64 tn, .int .i64 fr, .int .i64 nn, .slice a p.ops.length ca, .int .i64 p.size, .int .i64 p.slide, .int .i64 p.agg, .int .i64 p.sink, .int .i64 p.feed, .bool i.mark, .int .i64 i.ev.time, .int .i64 i.ev.key, .int .i64 i.ev.value, .int .u64 i.ev.label] 67)).alloc (.cells #[.int .i64 kd, .int .i64 tn, .int .i64 fr, .int .i64 nn, .slice b p.ops.length cb, .int .i64 p.size, .int .i64 p.slide, .int .i64 p.agg, .int .i64 p.sink, .int .i64 p.feed, .bool i.mark, .int .i64 i.ev.time, .int .i64 i.ev.key, .int .i64 i.ev.value, .int .u64 i.ev.label] 67)) (x1.below hb2 (fun _ _ h => h)) (y1.below hb2 (fun _ _ h => h)) hR h1 h2
  have HS1 := Lib.hid hs1
  have h3 : St w ((w.alloc (.cells #[.int .i64 kd, .int .i64 tn, .int .i64 fr, .int .i64 nn, .slice a p.ops.length ca, .int .i64 p.size, .int .i64 p.slide, .int .i64 p.agg, .int .i64 p.sink, .int .i64 p.feed, .bool i.mark, .int .i64 i.ev.time, .int .i64 i.ev.key, .int .i64 i.ev.value, .int .u64 i.ev.label] 67)).alloc (.cells #[.int .i64 kd, .int .i64 tn, .int .i64 fr, .int .i64 nn, .slice b p.ops.length cb, .int .i64 p.size, .int .i64 p.slide, .int .i64 p.agg, .int .i64 p.sink, .int .i64 p.feed, .bool i.mark, .int .i64 i.ev.time, .int .i64 i.ev.key, .int .i64 i.ev.value, .int .u64 i.ev.label] 67)) [pt w.heap.size (.cells #[.int .i64 kd, .int .i64 tn, .int .i64 fr, .int .i64 nn, .slice a p.ops.length ca, .int .i64 p.size, .int .i64 p.slide, .int .i64 p.agg, .int .i64 p.sink, .int .i64 p.feed, .bool i.mark, .int .i64 i.ev.time, .int .i64 i.ev.key, .int .i64 i.ev.value, .int .u64 i.ev.label] 67 (0, 0)), pt (w.heap.size + 1) (.cells #[.int .i64 kd, .int .i64 tn, .int .i64 fr, .int .i64 nn, .slice b p.ops.length cb, .int .i64 p.size, .int .i64 p.slide, .int .i64 p.agg, .int .i64 p.sink, .int .i64 p.feed, .bool i.mark, .int .i64 i.ev.time, .int .i64 i.ev.key, .int .i64 i.ev.value, .int .u64 i.ev.label] 67 (0, 0))] := by
    have := ((St.start w).alloc (.cells #[.int .i64 kd, .int .i64 tn, .int .i64 fr, .int .i64 nn, .slice a p.ops.length ca, .int .i64 p.size, .int .i64 p.slide, .int .i64 p.agg, .int .i64 p.sink, .int .i64 p.feed, .bool i.mark, .int .i64 i.ev.time, .int .i64 i.ev.key, .int .i64 i.ev.value, .int .u64 i.ev.label] 67)).alloc (.cells #[.int .i64 kd, .int .i64 tn, .int .i64 fr, .int .i64 nn, .slice b p.ops.length cb, .int .i64 p.size, .int .i64 p.slide, .int .i64 p.agg, .int .i64 p.sink, .int .i64 p.feed, .bool i.mark, .int .i64 i.ev.time, .int .i64 i.ev.key, .int .i64 i.ev.value, .int .u64 i.ev.label] 67)
    rw [World.size_alloc] at this
    exact this
  have H3 := Lib.hid h3
  clear x1 y1 hb2 hs1 h3
  obtain ⟨ops, sz, sl, ag, sk, fd⟩ := p
  obtain ⟨im, ⟨et, ek, ev, el⟩⟩ := i
  dsimp only at HS1 H3 ⊢
  go_enter Tryz.func24, Tryz.ntmps24
  go_wp2_with (go_at_call 57; (with_reducible refine HS1.out.mono ?_); rintro x w3 ⟨rfl, hb3⟩; have h4 := H3.out.kept hb3; obtain ⟨za, _⟩ := blkCells (h4.blk 0 rfl).1; obtain ⟨zb, _⟩ := blkCells (h4.blk 1 rfl).1; have a10 := (za 10).trans rfl; have a11 := (za 11).trans rfl; have a12 := (za 12).trans rfl; have a13 := (za 13).trans rfl; have a14 := (za 14).trans rfl; have b10 := (zb 10).trans rfl; have b11 := (zb 11).trans rfl; have b12 := (zb 12).trans rfl; have b13 := (zb 13).trans rfl; have b14 := (zb 14).trans rfl; have H4 := Lib.hid h4; clear za zb h4 hb3 HS1 H3)
  go_ret
  exact ⟨by simp, H4.out.below⟩
end Go.Proofs.YtdncpihaeobaeaaGreat
