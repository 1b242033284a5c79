/- Walks of package cell. -/
import Derived.Test.YthegopajkljlmaaCell
set_option linter.unusedVariables false
set_option linter.unusedSimpArgs false
namespace Go.Proofs.Ythegopajkljlmaa
open Go.RowKit
def Cl.refuse (c : Cl) : Cl := ⟨c.left, c.spent, wrap64 (c.refused + 1), c.id, c.p, c.q, c.taken⟩
def Cl.offer (c : Cl) (room : Int) (i : Inp) : Int × Cl :=
  if ownB c.id i = false then (1, c.refuse) else if c.left = 0 then (4, c.refuse) else if room < c.q.length + 1 then (3, c.refuse)
  else (0, ⟨c.left - 1, wrap64 (c.spent + 1), c.refused, c.id, c.p, c.q ++ [ownI c.id i], c.taken⟩)
def Cl.feed (c : Cl) (e : Ev) : Cl := if evRight e.time e.key e.label then ⟨c.left, c.spent, c.refused, c.id, c.p, c.q ++ [⟨false, e⟩], c.taken⟩ else c
def Cl.serve (c : Cl) (j : Nat) : Cl := ⟨c.left, c.spent, c.refused, c.id, c.p, c.q.drop j, c.taken ++ c.q.take j⟩
theorem Cl.ok_refuse {c : Cl} {N : Nat} (h : c.ok N) : c.refuse.ok N := ⟨h.left0, h.left1, h.id0, h.id1, h.wfq, h.wft, h.len, h.right, h.ops, h.few⟩
theorem cellRefused_st {w0 w : World} {L : List HP} {b n : Nat} {l s r : Int} {v3 v4 v5 v6 v7 : Value} {T : TypeId} (h : St w0 w L) (hn : L[n]? = some (pt b (.cells #[.int .i64 l, .int .i64 s, .int .i64 r, v3, v4, v5, v6, v7] T (0, 0)))) (x : Int) :
    Calls Try.prog 37 #[.pointer (some ⟨b, 0, none⟩), .int .i64 x] w fun e w' => e = .returned (.int .i64 x) ∧ St w0 w' (L.set n (pt b (.cells #[.int .i64 l, .int .i64 s, .int .i64 (wrap64 (r + 1)), v3, v4, v5, v6, v7] T (0, 0)))) := by
  have HC := Lib.hid (refuse_st h hn)
  clear h hn
  go_enter Try.func37, Try.ntmps37
  go_wp2_with (go_at_call 58; (with_reducible refine HC.out.mono ?_); rintro e w1 ⟨rfl, h1⟩; have H1 := Lib.hid h1; clear h1 HC)
  go_ret
  exact ⟨rfl, H1.out⟩
set_option maxHeartbeats 2000000 in
set_option maxRecDepth 20000 in
theorem offer_st {w0 w : World} {L : List HP} {cb N : Nat} {c : Cl} (h : St w0 w L) (n : Nat) (hn : L[n]? = some (clP cb c N)) (room : Int) (i : Inp) (hi : i.ev.wf) (hN : N < 2 ^ 28) :
    Calls Try.prog 11 #[.pointer (some ⟨cb, 0, none⟩), .int .i64 room, .agg #[.bool i.mark, .int .i64 i.ev.time, .int .i64 i.ev.key, .int .i64 i.ev.value, .int .u64 i.ev.label]] w fun e w' => e = .returned (.int .i64 (c.offer room i).1) ∧ St w0 w' (L.set n (clP cb (c.offer room i).2 (N + 1))) := by
  have hnl := (List.getElem?_eq_some_iff.1 hn).1
  obtain ⟨rb, qv, rv, tv, hok, hst⟩ := cl_open h n hn
  have hend : ∀ (w' : World) (c' : Cl) (M : Nat) (K : List HP) (rb : Nat) (qv rv tv : Value), c'.ok M → St w0 w' (pt cb (.cells (c'.cells rb qv rv tv) 53 (0, 0)) :: seeP 5 Inp.cells qv c'.q :: rnP rb c'.rn c'.taken.length :: ownP 43 5 Rw.cells rv c'.rows :: ownP 33 5 Inp.cells tv c'.taken :: sepL (L.set n emp) :: K) → St w0 w' (L.set n (clP cb c' M) ++ K) := fun w' c' M K rb qv rv tv hok h' => cl_shut hok hnl h'
  obtain ⟨l, s, r, id, p, q, tk⟩ := c
  have hqlen : q.length < 2 ^ 28 := by have := hok.len; dsimp only at this; omega
  obtain ⟨qa, qc, hqv, _⟩ := hst.see Inp.len 1 rfl
  subst hqv
  dsimp only [Cl.cells] at hst
  have hR : ∀ w', St w0 w' [pt cb (.cells #[.int .i64 l, .int .i64 s, .int .i64 (wrap64 (r + 1)), .slice qa q.length qc, .pointer (some ⟨rb, 0, none⟩), .int .i64 id, rv, tv] 53 (0, 0)), seeP 5 Inp.cells (.slice qa q.length qc) q, rnP rb (Cl.rn ⟨l, s, r, id, p, q, tk⟩) tk.length, ownP 43 5 Rw.cells rv (Cl.rows ⟨l, s, r, id, p, q, tk⟩), ownP 33 5 Inp.cells tv tk, sepL (L.set n emp)] → St w0 w' (L.set n (clP cb (Cl.refuse ⟨l, s, r, id, p, q, tk⟩) (N + 1))) := fun w' h' => by
    have := hend w' (Cl.refuse ⟨l, s, r, id, p, q, tk⟩) (N + 1) [] rb (.slice qa q.length qc) rv tv ((Cl.ok_refuse hok).mono (by omega)) h'
    simpa using this
  have hY : ∀ w' v, St w0 w' [pt cb (.cells #[.int .i64 (l - 1), .int .i64 (wrap64 (s + 1)), .int .i64 r, v, .pointer (some ⟨rb, 0, none⟩), .int .i64 id, rv, tv] 53 (0, 0)), ownP 33 5 Inp.cells v (q ++ [ownI id i]), rnP rb (Cl.rn ⟨l, s, r, id, p, q, tk⟩) tk.length, ownP 43 5 Rw.cells rv (Cl.rows ⟨l, s, r, id, p, q, tk⟩), ownP 33 5 Inp.cells tv tk, sepL (L.set n emp)] → l ≠ 0 → St w0 w' (L.set n (clP cb ⟨l - 1, wrap64 (s + 1), r, id, p, q ++ [ownI id i], tk⟩ (N + 1))) := fun w' v h' hl0 => by
    have hok' : Cl.ok ⟨l - 1, wrap64 (s + 1), r, id, p, q ++ [ownI id i], tk⟩ (N + 1) := by
      obtain ⟨a1, a2, a3, a4, a5, a6, a7, a8, a9, a10⟩ := hok
      dsimp only at a1 a2 a3 a4 a5 a6 a7 a8 a9 a10
      refine ⟨by dsimp only; omega, by dsimp only; omega, a3, a4, fun j hj => ?_, a6, by dsimp only; rw [List.length_append]; simp only [List.length_cons, List.length_nil]; omega, a8, a9, a10⟩
      rcases List.mem_append.1 hj with hj | hj
      · exact a5 j hj
      · simp at hj; subst hj; exact ownI_wf a3 a4 hi
    have := hend w' ⟨l - 1, wrap64 (s + 1), r, id, p, q ++ [ownI id i], tk⟩ (N + 1) [] rb v rv tv hok' (h'.imp 1 rfl fun f hf => seeP_own Inp.len hf)
    simpa using this
  have hl0 := hok.left0
  have hl1 := hok.left1
  have h00 := hok.id0
  have h01 := hok.id1
  dsimp only at hl0 hl1 h00 h01
  obtain ⟨im, ⟨ti, ki, vi, li⟩⟩ := i
  have HCO := Lib.hid (own_st (hst.alloc (.cells #[.bool im, .int .i64 ti, .int .i64 ki, .int .i64 vi, .int .u64 li] 33)) (n := 0) rfl h00 h01 ⟨im, ⟨ti, ki, vi, li⟩⟩)
  unfold Cl.offer
  dsimp only
  obtain ⟨O, hO⟩ : ∃ O, O = ownI id ⟨im, ⟨ti, ki, vi, li⟩⟩ := ⟨_, rfl⟩
  obtain ⟨om, ⟨ot, okk, ov, ol⟩⟩ := O
  rw [← hO] at HCO hY ⊢
  obtain ⟨hlt, _⟩ := (⟨(hst.blk 0 rfl).2.2, trivial⟩ : cb < w.heap.size ∧ True)
  have HR := Lib.hid hR
  have HY := Lib.hid hY
  have HST := Lib.hid hst
  clear h hn hok hst hend hR hY hO hi hnl
  generalize Cl.rn ⟨l, s, r, id, p, q, tk⟩ = rn at *
  generalize Cl.rows ⟨l, s, r, id, p, q, tk⟩ = rws at *
  dsimp only at HCO
  cases hob : ownB id ⟨im, ⟨ti, ki, vi, li⟩⟩ with
  | false =>
    have HOB := Lib.hid hob
    rw [if_pos rfl]
    clear hob
    go_enter Try.func11, Try.ntmps11
    go_upto_region 3 with (go_at_call 36; (with_reducible refine HCO.out.mono ?_); rintro e w1 ⟨rfl, h1⟩; rw [HOB.out]; have h1 := h1.alloc (.cells #[.bool om, .int .i64 ot, .int .i64 okk, .int .i64 ov, .int .u64 ol] 33); obtain ⟨c0, c1, c2, c3, c4, c5, c6, c7⟩ := cells8 (h1.blk 0 rfl).1 (Below.refl _ _); have hlc := (h1.blk 0 rfl).2.2; have HS1 := Lib.hid h1; clear h1 HCO)
    have HCR := Lib.hid (cellRefused_st HS1.out (n := 0) rfl 1)
    go_wp2_with (go_at_call 37; (with_reducible refine HCR.out.mono ?_); rintro e w2 ⟨rfl, h2⟩; have H2 := Lib.hid h2; clear h2 HCR)
    go_ret
    exact ⟨rfl, HR.out _ (H2.out.pick [0, 1, 2, 3, 4, 5] (by decide))⟩
  | true =>
    have HOB := Lib.hid hob
    rw [if_neg (by decide)]
    clear hob
    by_cases hz : l = 0
    · rw [if_pos hz]
      subst hz
      go_enter Try.func11, Try.ntmps11
      go_upto_region 4 with (go_at_call 36; (with_reducible refine HCO.out.mono ?_); rintro e w1 ⟨rfl, h1⟩; rw [HOB.out]; have h1 := h1.alloc (.cells #[.bool om, .int .i64 ot, .int .i64 okk, .int .i64 ov, .int .u64 ol] 33); obtain ⟨c0, c1, c2, c3, c4, c5, c6, c7⟩ := cells8 (h1.blk 0 rfl).1 (Below.refl _ _); have hlc := (h1.blk 0 rfl).2.2; have HS1 := Lib.hid h1; clear h1 HCO)
      have HCL := Lib.hid (left_st 0 s r HS1.out)
      go_upto_region 5 with (go_at_call 18; (with_reducible refine HCL.out.mono ?_); rintro e w2 ⟨rfl, h2⟩; have HS2 := Lib.hid h2; have HCR := Lib.hid (cellRefused_st h2 (n := 0) rfl 4); clear h2 HCL)
      go_wp2_with (go_at_call 37; (with_reducible refine HCR.out.mono ?_); rintro e w2 ⟨rfl, h2⟩; have H2 := Lib.hid h2; clear h2 HCR)
      go_ret
      exact ⟨rfl, HR.out _ (H2.out.pick [0, 1, 2, 3, 4, 5] (by decide))⟩
    · rw [if_neg hz]
      have hz' : (l == 0) = false := by simpa using hz
      by_cases hro : room < (q.length : Int) + 1
      · rw [if_pos hro]
        go_enter Try.func11, Try.ntmps11
        go_upto_region 4 with (go_at_call 36; (with_reducible refine HCO.out.mono ?_); rintro e w1 ⟨rfl, h1⟩; rw [HOB.out]; have h1 := h1.alloc (.cells #[.bool om, .int .i64 ot, .int .i64 okk, .int .i64 ov, .int .u64 ol] 33); obtain ⟨c0, c1, c2, c3, c4, c5, c6, c7⟩ := cells8 (h1.blk 0 rfl).1 (Below.refl _ _); have hlc := (h1.blk 0 rfl).2.2; have HS1 := Lib.hid h1; clear h1 HCO)
        have HCL := Lib.hid (left_st l s r HS1.out)
        go_upto_region 6 with (go_at_call 18; (with_reducible refine HCL.out.mono ?_); rintro e w2 ⟨rfl, h2⟩; have HS2 := Lib.hid h2; clear h2 HCL)
        have HCP := Lib.hid (push_no (HS2.out.alloc (.cells #[.bool om, .int .i64 ot, .int .i64 okk, .int .i64 ov, .int .u64 ol] 33)).drew (n := 0) rfl 1 rfl (by decide) (by omega) room hro (some ⟨w2.heap.size, 0, none⟩) 1)
        go_region_held3 (fun w' => w'.cell? ⟨w1.heap.size, 0, none⟩ = some (.bool om) ∧ w'.cell? ⟨w1.heap.size, 1, none⟩ = some (.int .i64 ot) ∧ w'.cell? ⟨w1.heap.size, 2, none⟩ = some (.int .i64 okk) ∧ w'.cell? ⟨w1.heap.size, 3, none⟩ = some (.int .i64 ov) ∧ w'.cell? ⟨w1.heap.size, 4, none⟩ = some (.int .u64 ol)) (first | (with_reducible exact ⟨k0, k1, k2, k3, k4⟩) | exact cells5 (HS2.out.blk 7 rfl).1 (by go_grown))
          (first | (go_at_call 38; (with_reducible refine HCP.out.mono ?_); rintro e w3 ⟨rfl, h3⟩; obtain ⟨k0, k1, k2, k3, k4⟩ := cells5 (h3.blk 7 rfl).1 (Below.refl _ _); have HS3 := Lib.hid h3; clear h3))
        all_goals
          have HCR := Lib.hid (cellRefused_st HS3.out (n := 0) rfl 3)
          go_wp2_with (go_at_call 37; (with_reducible refine HCR.out.mono ?_); rintro e w2 ⟨rfl, h2⟩; have H2 := Lib.hid h2; clear h2 HCR)
          go_ret
          exact ⟨rfl, HR.out _ (H2.out.pick [0, 1, 2, 3, 4, 5] (by decide))⟩
      · rw [if_neg hro]
        go_enter Try.func11, Try.ntmps11
        go_upto_region 4 with (go_at_call 36; (with_reducible refine HCO.out.mono ?_); rintro e w1 ⟨rfl, h1⟩; rw [HOB.out]; have h1 := h1.alloc (.cells #[.bool om, .int .i64 ot, .int .i64 okk, .int .i64 ov, .int .u64 ol] 33); obtain ⟨c0, c1, c2, c3, c4, c5, c6, c7⟩ := cells8 (h1.blk 0 rfl).1 (Below.refl _ _); have hlc := (h1.blk 0 rfl).2.2; have HS1 := Lib.hid h1; clear h1 HCO)
        have HCL := Lib.hid (left_st l s r HS1.out)
        go_upto_region 6 with (go_at_call 18; (with_reducible refine HCL.out.mono ?_); rintro e w2 ⟨rfl, h2⟩; have HS2 := Lib.hid h2; clear h2 HCL)
        have HCP := Lib.hid (push_yes (HS2.out.alloc (.cells #[.bool om, .int .i64 ot, .int .i64 okk, .int .i64 ov, .int .u64 ol] 33)).drew (n := 0) rfl 1 rfl (by decide) (by omega) room (by omega) ⟨om, ⟨ot, okk, ov, ol⟩⟩ 8 rfl)
        go_region_held3 (fun w' => w'.cell? ⟨w1.heap.size, 0, none⟩ = some (.bool om) ∧ w'.cell? ⟨w1.heap.size, 1, none⟩ = some (.int .i64 ot) ∧ w'.cell? ⟨w1.heap.size, 2, none⟩ = some (.int .i64 okk) ∧ w'.cell? ⟨w1.heap.size, 3, none⟩ = some (.int .i64 ov) ∧ w'.cell? ⟨w1.heap.size, 4, none⟩ = some (.int .u64 ol)) (first | (with_reducible exact ⟨k0, k1, k2, k3, k4⟩) | exact cells5 (HS2.out.blk 7 rfl).1 (by go_grown))
          (first | (go_at_call 38; (with_reducible refine HCP.out.mono ?_); rintro e w3 ⟨v3, rfl, h3⟩; obtain ⟨k0, k1, k2, k3, k4⟩ := cells5 (h3.blk 7 rfl).1 (Below.refl _ _); have HS3 := Lib.hid h3; clear h3))
        all_goals
          have hl1' : 1 ≤ l := by omega
          have HCS := Lib.hid (spend_st (HS3.out.alloc (.cells #[.int .i64 1] 3)) (n := 0) rfl hl1' hl1 9 rfl)
          go_wp2_with (go_at_call 39; (with_reducible refine HCS.out.mono ?_); rintro e w4 ⟨rfl, h4⟩; have H4 := Lib.hid h4; clear h4 HCS)
          go_ret
          exact ⟨rfl, HY.out _ _ (H4.out.pick [0, 1, 2, 3, 4, 5] (by decide)) hz⟩
end Go.Proofs.Ythegopajkljlmaa
