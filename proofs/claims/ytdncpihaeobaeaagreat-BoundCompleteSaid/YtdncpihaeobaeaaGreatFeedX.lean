/- A cell whose runner is named; what is fed to it. -/
import Derived.Test.YtdncpihaeobaeaaGreatServe
set_option linter.unusedVariables false
set_option linter.unusedSimpArgs false
namespace Go.Proofs.YtdncpihaeobaeaaGreat
open Go.RowKit
def clX (cb rb : Nat) (c : Cl) (N : Nat) : HP := exP fun x : Value × Value × Value => andP (c.ok N) (sepL [pt cb (.cells (c.cells rb x.1 x.2.1 x.2.2) 83 (0, 0)), seeP 5 Inp.cells x.1 c.q, rnP rb c.rn c.taken.length, ownP 55 5 Rw.cells x.2.1 c.rows, ownP 65 5 Inp.cells x.2.2 c.taken])
theorem clX_open {w0 w : World} {L : List HP} {cb rb N : Nat} {c : Cl} (h : St w0 w L) (n : Nat) (hn : L[n]? = some (clX cb rb c N)) : ∃ (qv rv tv : Value), c.ok N ∧ St w0 w [pt cb (.cells (c.cells rb qv rv tv) 83 (0, 0)), seeP 5 Inp.cells qv c.q, rnP rb c.rn c.taken.length, ownP 55 5 Rw.cells rv c.rows, ownP 65 5 Inp.cells tv c.taken, sepL (L.set n emp)] := by
  obtain ⟨x, h2⟩ := (h.front n hn).ex 0 rfl
  obtain ⟨hφ, h3⟩ := h2.pure 0 rfl
  exact ⟨x.1, x.2.1, x.2.2, hφ, h3.ungroup⟩
theorem clX_shut {w0 w : World} {L K : List HP} {cb N n rb : Nat} {qv rv tv : Value} {c : Cl} (hok : c.ok N) (hn : n < L.length)
    (h : St w0 w (pt cb (.cells (c.cells rb qv rv tv) 83 (0, 0)) :: seeP 5 Inp.cells qv c.q :: rnP rb c.rn c.taken.length :: ownP 55 5 Rw.cells rv c.rows :: ownP 65 5 Inp.cells tv c.taken :: sepL (L.set n emp) :: K)) : St w0 w (L.set n (clX cb rb c N) ++ K) :=
  ((St.group (L := [_, _, _, _, _]) h).imp 0 rfl (X' := clX cb rb c N) fun h hh => ⟨(qv, rv, tv), hok, hh⟩).back hn
theorem clX_name {w0 w : World} {L : List HP} {cb N : Nat} {c : Cl} (h : St w0 w L) (n : Nat) (hn : L[n]? = some (clP cb c N)) : ∃ rb, St w0 w (L.set n (clX cb rb c N)) := by
  have h1 := h.imp n hn (X' := exP fun rb => clX cb rb c N) (fun f hf => by
    obtain ⟨x, hok, hs⟩ := hf
    exact ⟨x.1, (x.2.1, x.2.2.1, x.2.2.2), hok, hs⟩)
  have hnl := (List.getElem?_eq_some_iff.1 hn).1
  obtain ⟨rb, h2⟩ := h1.ex n (set_get hnl _)
  exact ⟨rb, by simpa [List.set_set] using h2⟩
theorem clX_P {cb rb N : Nat} {c : Cl} {h : Nat → Option Obj} (hh : clX cb rb c N h) : clP cb c N h := by
  obtain ⟨x, hok, hs⟩ := hh
  exact ⟨(rb, x.1, x.2.1, x.2.2), hok, hs⟩
theorem clX_runner {w0 w : World} {L : List HP} {cb rb N : Nat} {c : Cl} (h : St w0 w L) (n : Nat) (hn : L[n]? = some (clX cb rb c N)) : c.ok N ∧ cb < w.heap.size ∧ rb < w.heap.size ∧ w.cell? ⟨cb, 4, none⟩ = some (.pointer (some ⟨rb, 0, none⟩)) ∧
    w.cell? ⟨rb, 0, none⟩ = some (.int .i64 c.rn.c.mark) ∧ w.cell? ⟨rb, 1, none⟩ = some (.int .i64 c.rn.c.late) ∧ w.cell? ⟨rb, 2, none⟩ = some (.int .i64 c.rn.c.seen) ∧ w.cell? ⟨rb, 8, none⟩ = some (.int .i64 c.rn.p.sink) ∧ w.cell? ⟨rb, 9, none⟩ = some (.int .i64 c.rn.p.feed) ∧ c.rn.c.ok c.taken.length := by
  obtain ⟨qv, rv, tv, hok, hst⟩ := clX_open h n hn
  obtain ⟨_, _, _, _, c4, _⟩ := cells8 (hst.blk 0 rfl).1 (Below.refl _ _)
  obtain ⟨pb, v, hrok, hst2⟩ := rn_flat hst 2 rfl
  have hb := hst2.blk 6 rfl
  obtain ⟨q, _⟩ := blkCells hb.1
  exact ⟨hok, (hst.blk 0 rfl).2.2, hb.2.2, c4, (q 0).trans rfl, (q 1).trans rfl, (q 2).trans rfl, (q 8).trans rfl, (q 9).trans rfl, hrok.1⟩
set_option maxHeartbeats 2000000 in
set_option maxRecDepth 20000 in
theorem feedX_st {w0 w : World} {L : List HP} {cb rb N : Nat} {c : Cl} (h : St w0 w L) (n : Nat) (hn : L[n]? = some (clX cb rb c N)) (e : Ev) (he : e.wf) (hN : N < 2 ^ 28) :
    Calls Tryz.prog 125 #[.pointer (some ⟨cb, 0, none⟩), .agg #[.int .i64 e.time, .int .i64 e.key, .int .i64 e.value, .int .u64 e.label]] w fun x w' => x = .returned (.tuple #[]) ∧ St w0 w' (L.set n (clX cb rb (c.feed e) (N + 1))) := by
  have hnl := (List.getElem?_eq_some_iff.1 hn).1
  obtain ⟨qv, rv, tv, hok, hst⟩ := clX_open h n hn
  have hend : ∀ (w' : World) (c' : Cl) (M : Nat) (K : List HP) (qv rv tv : Value), c'.ok M → St w0 w' (pt cb (.cells (c'.cells rb qv rv tv) 83 (0, 0)) :: seeP 5 Inp.cells qv c'.q :: rnP rb c'.rn c'.taken.length :: ownP 55 5 Rw.cells rv c'.rows :: ownP 65 5 Inp.cells tv c'.taken :: sepL (L.set n emp) :: K) → St w0 w' (L.set n (clX cb rb c' M) ++ K) := fun w' c' M K qv rv tv hok h' => clX_shut hok hnl h'
  obtain ⟨l, s, r, id, p, q, tk⟩ := c
  have hqlen : q.length < 2 ^ 28 := by have := hok.len; dsimp only at this; omega
  obtain ⟨qa, qc, hqv, _⟩ := hst.see Inp.len 1 rfl
  subst hqv
  dsimp only [Cl.cells] at hst
  have hR : ∀ w', St w0 w' [pt cb (.cells #[.int .i64 l, .int .i64 s, .int .i64 r, .slice qa q.length qc, .pointer (some ⟨rb, 0, none⟩), .int .i64 id, rv, tv] 83 (0, 0)), seeP 5 Inp.cells (.slice qa q.length qc) q, rnP rb (Cl.rn ⟨l, s, r, id, p, q, tk⟩) tk.length, ownP 55 5 Rw.cells rv (Cl.rows ⟨l, s, r, id, p, q, tk⟩), ownP 65 5 Inp.cells tv tk, sepL (L.set n emp)] → St w0 w' (L.set n (clX cb rb ⟨l, s, r, id, p, q, tk⟩ (N + 1))) := fun w' h' => by
    have := hend w' ⟨l, s, r, id, p, q, tk⟩ (N + 1) [] (.slice qa q.length qc) rv tv (hok.mono (by omega)) h'
    simpa using this
  have hY : ∀ w' v, St w0 w' [pt cb (.cells #[.int .i64 l, .int .i64 s, .int .i64 r, v, .pointer (some ⟨rb, 0, none⟩), .int .i64 id, rv, tv] 83 (0, 0)), ownP 65 5 Inp.cells v (q ++ [⟨false, e⟩]), rnP rb (Cl.rn ⟨l, s, r, id, p, q, tk⟩) tk.length, ownP 55 5 Rw.cells rv (Cl.rows ⟨l, s, r, id, p, q, tk⟩), ownP 65 5 Inp.cells tv tk, sepL (L.set n emp)] → St w0 w' (L.set n (clX cb rb ⟨l, s, r, id, p, q ++ [⟨false, e⟩], tk⟩ (N + 1))) := fun w' v h' => by
    have hok' : Cl.ok ⟨l, s, r, id, p, q ++ [⟨false, e⟩], tk⟩ (N + 1) := by
      obtain ⟨a1, a2, a3, a4, a5, a6, a7, a8, a9, a10⟩ := hok
      dsimp only at a1 a2 a3 a4 a5 a6 a7 a8 a9 a10
      refine ⟨a1, a2, a3, a4, fun j hj => ?_, a6, by dsimp only; rw [List.length_append]; simp only [List.length_cons, List.length_nil]; omega, a8, a9, a10⟩
      rcases List.mem_append.1 hj with hj | hj
      · exact a5 j hj
      · simp at hj; subst hj; exact he
    have := hend w' ⟨l, s, r, id, p, q ++ [⟨false, e⟩], tk⟩ (N + 1) [] v rv tv hok' (h'.imp 1 rfl fun f hf => seeP_own Inp.len hf)
    simpa using this
  obtain ⟨ti, ki, vi, li⟩ := e
  have HCR := Lib.hid (evRight_st ti ki vi li (hst.alloc (.cells #[.int .i64 ti, .int .i64 ki, .int .i64 vi, .int .u64 li] 63)))
  unfold Cl.feed
  dsimp only
  have HR := Lib.hid hR
  have HY := Lib.hid hY
  clear h hn hok hst hend hR hY he hnl
  generalize Cl.rn ⟨l, s, r, id, p, q, tk⟩ = rn at *
  generalize Cl.rows ⟨l, s, r, id, p, q, tk⟩ = rws at *
  cases hob : evRight ti ki li with
  | false =>
    have HOB := Lib.hid hob
    rw [if_neg (by decide)]
    clear hob
    go_enter Tryz.func125, Tryz.ntmps125
    go_wp2_with (go_at_call 108; (with_reducible refine HCR.out.mono ?_); rintro e w1 ⟨rfl, h1⟩; rw [HOB.out]; have H1 := Lib.hid h1; clear h1 HCR)
    go_end0
    exact ⟨rfl, HR.out _ (H1.out.pick [0, 1, 2, 3, 4, 5] (by decide))⟩
  | true =>
    have HOB := Lib.hid hob
    rw [if_pos rfl]
    clear hob
    go_enter Tryz.func125, Tryz.ntmps125
    go_upto_region 2 with (go_at_call 108; (with_reducible refine HCR.out.mono ?_); rintro e w1 ⟨rfl, h1⟩; rw [HOB.out]; have HS2 := Lib.hid h1; clear h1 HCR)
    have hgs := (HS2.out.blk 6 rfl).2.2
    have HCP := Lib.hid (push_yes (HS2.out.alloc (.cells #[.bool false, .int .i64 ti, .int .i64 ki, .int .i64 vi, .int .u64 li] 65)).drew (n := 0) rfl 1 rfl (by decide) (by omega) 9223372036854775807 (by omega) ⟨false, ⟨ti, ki, vi, li⟩⟩ 7 rfl)
    go_region_held3 (fun w' => w'.cell? ⟨w.heap.size, 0, none⟩ = some (.int .i64 ti) ∧ w'.cell? ⟨w.heap.size, 1, none⟩ = some (.int .i64 ki) ∧ w'.cell? ⟨w.heap.size, 2, none⟩ = some (.int .i64 vi) ∧ w'.cell? ⟨w.heap.size, 3, none⟩ = some (.int .u64 li)) (first | (with_reducible exact ⟨k0, k1, k2, k3⟩) | exact cells4 (HS2.out.blk 6 rfl).1 (by go_grown))
      (first | (go_at_call 85; (with_reducible refine HCP.out.mono ?_); rintro e w3 ⟨v3, rfl, h3⟩; obtain ⟨k0, k1, k2, k3⟩ := cells4 (h3.blk 6 rfl).1 (Below.refl _ _); have HS3 := Lib.hid h3; clear h3))
    all_goals
      go_wp2
      go_end0
      exact ⟨rfl, HY.out _ _ (HS3.out.pick [0, 1, 2, 3, 4, 5] (by decide))⟩
end Go.Proofs.YtdncpihaeobaeaaGreat
