/- Walks of package cell: what is fed, served, told. -/
import Derived.Test.YthegopajkljlmaaCellOps
set_option linter.unusedVariables false
set_option linter.unusedSimpArgs false
namespace Go.Proofs.Ythegopajkljlmaa
open Go.RowKit
set_option maxHeartbeats 2000000 in
set_option maxRecDepth 20000 in
theorem feed_st {w0 w : World} {L : List HP} {cb N : Nat} {c : Cl} (h : St w0 w L) (n : Nat) (hn : L[n]? = some (clP cb c N)) (e : Ev) (he : e.wf) (hN : N < 2 ^ 28) :
    Calls Try.prog 27 #[.pointer (some ⟨cb, 0, none⟩), .agg #[.int .i64 e.time, .int .i64 e.key, .int .i64 e.value, .int .u64 e.label]] w fun x w' => x = .returned (.tuple #[]) ∧ St w0 w' (L.set n (clP cb (c.feed e) (N + 1))) := by
  have hnl := (List.getElem?_eq_some_iff.1 hn).1
  obtain ⟨rb, qv, rv, tv, hok, hst⟩ := cl_open h n hn
  have hend : ∀ (w' : World) (c' : Cl) (M : Nat) (K : List HP) (rb : Nat) (qv rv tv : Value), c'.ok M → St w0 w' (pt cb (.cells (c'.cells rb qv rv tv) 53 (0, 0)) :: seeP 5 Inp.cells qv c'.q :: rnP rb c'.rn c'.taken.length :: ownP 43 5 Rw.cells rv c'.rows :: ownP 33 5 Inp.cells tv c'.taken :: sepL (L.set n emp) :: K) → St w0 w' (L.set n (clP cb c' M) ++ K) := fun w' c' M K rb qv rv tv hok h' => cl_shut hok hnl h'
  obtain ⟨l, s, r, id, p, q, tk⟩ := c
  have hqlen : q.length < 2 ^ 28 := by have := hok.len; dsimp only at this; omega
  obtain ⟨qa, qc, hqv, _⟩ := hst.see Inp.len 1 rfl
  subst hqv
  dsimp only [Cl.cells] at hst
  have hR : ∀ w', St w0 w' [pt cb (.cells #[.int .i64 l, .int .i64 s, .int .i64 r, .slice qa q.length qc, .pointer (some ⟨rb, 0, none⟩), .int .i64 id, rv, tv] 53 (0, 0)), seeP 5 Inp.cells (.slice qa q.length qc) q, rnP rb (Cl.rn ⟨l, s, r, id, p, q, tk⟩) tk.length, ownP 43 5 Rw.cells rv (Cl.rows ⟨l, s, r, id, p, q, tk⟩), ownP 33 5 Inp.cells tv tk, sepL (L.set n emp)] → St w0 w' (L.set n (clP cb ⟨l, s, r, id, p, q, tk⟩ (N + 1))) := fun w' h' => by
    have := hend w' ⟨l, s, r, id, p, q, tk⟩ (N + 1) [] rb (.slice qa q.length qc) rv tv (hok.mono (by omega)) h'
    simpa using this
  have hY : ∀ w' v, St w0 w' [pt cb (.cells #[.int .i64 l, .int .i64 s, .int .i64 r, v, .pointer (some ⟨rb, 0, none⟩), .int .i64 id, rv, tv] 53 (0, 0)), ownP 33 5 Inp.cells v (q ++ [⟨false, e⟩]), rnP rb (Cl.rn ⟨l, s, r, id, p, q, tk⟩) tk.length, ownP 43 5 Rw.cells rv (Cl.rows ⟨l, s, r, id, p, q, tk⟩), ownP 33 5 Inp.cells tv tk, sepL (L.set n emp)] → St w0 w' (L.set n (clP cb ⟨l, s, r, id, p, q ++ [⟨false, e⟩], tk⟩ (N + 1))) := fun w' v h' => by
    have hok' : Cl.ok ⟨l, s, r, id, p, q ++ [⟨false, e⟩], tk⟩ (N + 1) := by
      obtain ⟨a1, a2, a3, a4, a5, a6, a7, a8, a9, a10⟩ := hok
      dsimp only at a1 a2 a3 a4 a5 a6 a7 a8 a9 a10
      refine ⟨a1, a2, a3, a4, fun j hj => ?_, a6, by dsimp only; rw [List.length_append]; simp only [List.length_cons, List.length_nil]; omega, a8, a9, a10⟩
      rcases List.mem_append.1 hj with hj | hj
      · exact a5 j hj
      · simp at hj; subst hj; exact he
    have := hend w' ⟨l, s, r, id, p, q ++ [⟨false, e⟩], tk⟩ (N + 1) [] rb v rv tv hok' (h'.imp 1 rfl fun f hf => seeP_own Inp.len hf)
    simpa using this
  obtain ⟨ti, ki, vi, li⟩ := e
  have HCR := Lib.hid (evRight_st ti ki vi li (hst.alloc (.cells #[.int .i64 ti, .int .i64 ki, .int .i64 vi, .int .u64 li] 31)))
  unfold Cl.feed
  dsimp only
  have HR := Lib.hid hR
  have HY := Lib.hid hY
  clear h hn hok hst hend hR hY he hnl
  generalize Cl.rn ⟨l, s, r, id, p, q, tk⟩ = rn at *
  generalize Cl.rows ⟨l, s, r, id, p, q, tk⟩ = rws at *
  cases hob : evRight ti ki li with
  | false =>
    have HOB := Lib.hid hob
    rw [if_neg (by decide)]
    clear hob
    go_enter Try.func27, Try.ntmps27
    go_wp2_with (go_at_call 47; (with_reducible refine HCR.out.mono ?_); rintro e w1 ⟨rfl, h1⟩; rw [HOB.out]; have H1 := Lib.hid h1; clear h1 HCR)
    go_end0
    exact ⟨rfl, HR.out _ (H1.out.pick [0, 1, 2, 3, 4, 5] (by decide))⟩
  | true =>
    have HOB := Lib.hid hob
    rw [if_pos rfl]
    clear hob
    go_enter Try.func27, Try.ntmps27
    go_upto_region 2 with (go_at_call 47; (with_reducible refine HCR.out.mono ?_); rintro e w1 ⟨rfl, h1⟩; rw [HOB.out]; have HS2 := Lib.hid h1; clear h1 HCR)
    have hgs := (HS2.out.blk 6 rfl).2.2
    have HCP := Lib.hid (push_yes (HS2.out.alloc (.cells #[.bool false, .int .i64 ti, .int .i64 ki, .int .i64 vi, .int .u64 li] 33)).drew (n := 0) rfl 1 rfl (by decide) (by omega) 9223372036854775807 (by omega) ⟨false, ⟨ti, ki, vi, li⟩⟩ 7 rfl)
    go_region_held3 (fun w' => w'.cell? ⟨w.heap.size, 0, none⟩ = some (.int .i64 ti) ∧ w'.cell? ⟨w.heap.size, 1, none⟩ = some (.int .i64 ki) ∧ w'.cell? ⟨w.heap.size, 2, none⟩ = some (.int .i64 vi) ∧ w'.cell? ⟨w.heap.size, 3, none⟩ = some (.int .u64 li)) (first | (with_reducible exact ⟨k0, k1, k2, k3⟩) | exact cells4 (HS2.out.blk 6 rfl).1 (by go_grown))
      (first | (go_at_call 38; (with_reducible refine HCP.out.mono ?_); rintro e w3 ⟨v3, rfl, h3⟩; obtain ⟨k0, k1, k2, k3⟩ := cells4 (h3.blk 6 rfl).1 (Below.refl _ _); have HS3 := Lib.hid h3; clear h3))
    all_goals
      go_wp2
      go_end0
      exact ⟨rfl, HY.out _ _ (HS3.out.pick [0, 1, 2, 3, 4, 5] (by decide))⟩
theorem wpList_append_len {P : Program} {α : Type} {enc : α → List Value} {c : Nat} {w0 w : World} {L : List HP} {t e : TypeId} (E : Elem P t e c enc) {ops : Array Oper} {rest : List Oper} {o : Oper} {a : Act} {Q : Exit → Act → World → Prop} (hgd : o.guard = none) (hst : St w0 w L) (n : Nat) {v : Value} {l0 : List α} (hn : L[n]? = some (ownP e c enc v l0))
    (s x : Operand) (ho : o.op = .call { callee := .builtin .append, args := #[s, x], argTypes := #[t, t] }) (hs : a.eval s = v)
    (ad : Option Addr) (k cap : Nat) (l : List α) (hk : l.length = k) (hx : a.eval x = .slice ad k cap) (hnil : ad = none → cap = 0) (hsl : SlAt c (flat enc) w ad l) (hlen : l0.length + l.length ≤ 1099511627776)
    (h : ∀ v' w', St w0 w' (L.set n (ownP e c enc v' (l0 ++ l))) → (v ≠ .slice none 0 0 → v' ≠ .slice none 0 0) → wpList P ops Q rest (a.put o.dst v') w') : wpList P ops Q (o :: rest) a w := by
  subst hk
  exact wpList_append_st E hgd hst n hn s x ho hs ad cap l hx hnil hsl hlen h
theorem rnTake_len {w0 w : World} {L : List HP} {rb N : Nat} {r : Rn} (h : St w0 w L) (n : Nat) (hn : L[n]? = some (rnP rb r N)) (a : Option Addr) (k cap : Nat) (l : List Inp) (hk : l.length = k) (hl : Seen w0 (sepL (L.set n emp)) 5 Inp.cells a l) (hw : ∀ i ∈ l, i.ev.wf) (hN : N + k < 2 ^ 30) :
    Calls Try.prog 43 #[.pointer (some ⟨rb, 0, none⟩), .slice a k cap] w fun x w' => ∃ v, x = .returned v ∧ St w0 w' (L.set n (rnP rb (afterR r l) (N + l.length)) ++ [ownP 43 5 Rw.cells v (rowsR r l)]) := by
  subst hk
  obtain ⟨_, _, _, _, hG, _⟩ := rn_see h n hn (by omega)
  exact rnTake_st h n hn a cap l hl hw hN hG.len
set_option maxHeartbeats 2000000 in
set_option maxRecDepth 20000 in
theorem serve_st {w0 w : World} {L : List HP} {cb N : Nat} {c : Cl} (h : St w0 w L) (n : Nat) (hn : L[n]? = some (clP cb c N)) (m : Int) (j : Nat) (hj : max 0 (min m c.q.length) = (j : Int)) (hN : N < 2 ^ 28) :
    Calls Try.prog 15 #[.pointer (some ⟨cb, 0, none⟩), .int .i64 m] w fun x w' => ∃ v, x = .returned v ∧ St w0 w' (L.set n (clP cb (c.serve j) N) ++ [ownP 43 5 Rw.cells v (rowsR c.rn (c.q.take j))]) := by
  have hnl := (List.getElem?_eq_some_iff.1 hn).1
  obtain ⟨rb, qv, rv, tv, hok, hst⟩ := cl_open h n hn
  have hend : ∀ (w' : World) (c' : Cl) (M : Nat) (K : List HP) (rb : Nat) (qv rv tv : Value), c'.ok M → St w0 w' (pt cb (.cells (c'.cells rb qv rv tv) 53 (0, 0)) :: seeP 5 Inp.cells qv c'.q :: rnP rb c'.rn c'.taken.length :: ownP 43 5 Rw.cells rv c'.rows :: ownP 33 5 Inp.cells tv c'.taken :: sepL (L.set n emp) :: K) → St w0 w' (L.set n (clP cb c' M) ++ K) := fun w' c' M K rb qv rv tv hok h' => cl_shut hok hnl h'
  obtain ⟨l, s, r, id, p, q, tk⟩ := c
  dsimp only at hj
  have hjq : j ≤ q.length := by omega
  have htl : (q.take j).length = j := by simp; omega
  have hlen := hok.len
  dsimp only at hlen
  have hrl := rowsR_len (newR p) tk
  have hrl2 := rowsR_len (afterR (newR p) tk) (q.take j)
  have hn0 : (newR p).L.length = 0 := rfl
  have hrl : (Cl.rows ⟨l, s, r, id, p, q, tk⟩).length + (Cl.rn ⟨l, s, r, id, p, q, tk⟩).L.length ≤ 8 * tk.length := by
    show (rowsR (newR p) tk).length + (afterR (newR p) tk).L.length ≤ _
    omega
  have hrl2 : (rowsR (Cl.rn ⟨l, s, r, id, p, q, tk⟩) (q.take j)).length ≤ (Cl.rn ⟨l, s, r, id, p, q, tk⟩).L.length + 8 * j := by
    show (rowsR (afterR (newR p) tk) (q.take j)).length ≤ (afterR (newR p) tk).L.length + 8 * j
    rw [htl] at hrl2
    omega
  have hwq : ∀ i ∈ q.take j, i.ev.wf := fun i hi => hok.wfq i (List.mem_of_mem_take hi)
  obtain ⟨qa, qc, hqv, _⟩ := hst.see Inp.len 1 rfl
  subst hqv
  obtain ⟨ra, rc, hrv, _, _, _, _⟩ := hst.sl Rw.len 3 rfl
  subst hrv
  obtain ⟨ta, tc, htv, _, _, _, _⟩ := hst.sl Inp.len 4 rfl
  subst htv
  dsimp only [Cl.cells] at hst
  have hY : ∀ w' v1 v2 v3 v4, St w0 w' [pt cb (.cells #[.int .i64 l, .int .i64 s, .int .i64 r, v1, .pointer (some ⟨rb, 0, none⟩), .int .i64 id, v2, v3] 53 (0, 0)), seeP 5 Inp.cells v1 (q.drop j), rnP rb (afterR (Cl.rn ⟨l, s, r, id, p, q, tk⟩) (q.take j)) (tk.length + (q.take j).length), ownP 43 5 Rw.cells v2 (Cl.rows ⟨l, s, r, id, p, q, tk⟩ ++ rowsR (Cl.rn ⟨l, s, r, id, p, q, tk⟩) (q.take j)), ownP 33 5 Inp.cells v3 (tk ++ q.take j), sepL (L.set n emp), ownP 43 5 Rw.cells v4 (rowsR (Cl.rn ⟨l, s, r, id, p, q, tk⟩) (q.take j))] → St w0 w' (L.set n (clP cb (Cl.serve ⟨l, s, r, id, p, q, tk⟩ j) N) ++ [ownP 43 5 Rw.cells v4 (rowsR (Cl.rn ⟨l, s, r, id, p, q, tk⟩) (q.take j))]) := fun w' v1 v2 v3 v4 h' => by
    have hok' : Cl.ok (Cl.serve ⟨l, s, r, id, p, q, tk⟩ j) N := by
      obtain ⟨a1, a2, a3, a4, a5, a6, a7, a8, a9, a10⟩ := hok
      dsimp only at a1 a2 a3 a4 a5 a6 a7 a8 a9 a10
      refine ⟨a1, a2, a3, a4, fun i hi => a5 i (List.mem_of_mem_drop hi), fun i hi => ?_, ?_, a8, a9, a10⟩
      · rcases List.mem_append.1 hi with hi | hi
        · exact a6 i hi
        · exact hwq i hi
      · show (q.drop j).length + (tk ++ q.take j).length ≤ N
        rw [List.length_append, htl, List.length_drop]
        omega
    refine hend w' (Cl.serve ⟨l, s, r, id, p, q, tk⟩ j) N [ownP 43 5 Rw.cells v4 (rowsR (Cl.rn ⟨l, s, r, id, p, q, tk⟩) (q.take j))] rb v1 v2 v3 hok' ?_
    have e1 : (Cl.serve ⟨l, s, r, id, p, q, tk⟩ j).rn = afterR (Cl.rn ⟨l, s, r, id, p, q, tk⟩) (q.take j) := afterR_append _ _ _
    have e2 : (Cl.serve ⟨l, s, r, id, p, q, tk⟩ j).rows = Cl.rows ⟨l, s, r, id, p, q, tk⟩ ++ rowsR (Cl.rn ⟨l, s, r, id, p, q, tk⟩) (q.take j) := rowsR_append _ _ _
    have e3 : (Cl.serve ⟨l, s, r, id, p, q, tk⟩ j).taken.length = tk.length + (q.take j).length := List.length_append
    rw [e1, e2, e3]
    exact h'
  have HPO := Lib.hid (pop_st hst (n := 0) rfl 1 rfl (by decide) (by omega) m j hj)
  have HY := Lib.hid hY
  have HWQ := Lib.hid hwq
  have HTL := Lib.hid htl
  have hrn : Cl.rn ⟨l, s, r, id, p, q, tk⟩ = afterR (newR p) tk := rfl
  clear h hn hok hst hend hY hnl hwq htl hj
  dsimp only
  generalize Cl.rn ⟨l, s, r, id, p, q, tk⟩ = rn at *
  generalize Cl.rows ⟨l, s, r, id, p, q, tk⟩ = rws at *
  have hl1 : tk.length + (q.take j).length ≤ 1099511627776 := by rw [HTL.out]; omega
  have hl2 : rws.length + (rowsR rn (q.take j)).length ≤ 1099511627776 := by omega
  have HL1 := Lib.hid hl1
  have HL2 := Lib.hid hl2
  have hjb : tk.length + j < 2 ^ 30 := by omega
  clear hl1 hl2 hrn
  go_enter Try.func15, Try.ntmps15
  go_upto_region 2 with (go_at_call 42; (with_reducible refine HPO.out.mono ?_); rintro e w1 ⟨u1, v1, rfl, h1⟩; obtain ⟨ua, uc, rfl, _, _, hun, _⟩ := h1.sl Inp.len 6 rfl; obtain ⟨c0, c1, c2, c3, c4, c5, c6, c7⟩ := cells8 (h1.blk 0 rfl).1 (Below.refl _ _); have hlc := (h1.blk 0 rfl).2.2; have HUN := Lib.hid hun; have HS1 := Lib.hid h1; clear h1 HPO hun)
  have htv : (tk ++ q.take j).length = tk.length + j := by rw [List.length_append, HTL.out]
  have HTV := Lib.hid htv
  rw [HTL.out] at HS1
  clear htv
  go_upto_region 3 with (at_builtin; refine wpList_append_len inpElem rfl HS1.out 4 rfl _ _ rfl rfl ua j uc (q.take j) HTL.out rfl HUN.out (HS1.out.slOf Inp.len 6 rfl) HL1.out ?_; intro v2 w2 h2 _; obtain ⟨xa, xc, rfl, _, _, _, _⟩ := h2.sl Inp.len 4 rfl; rw [HTV.out] at h2 ⊢; obtain ⟨q2, z2⟩ := blkCells (h2.blk 0 rfl).1; have hlc2 := (h2.blk 0 rfl).2.2; have HS2 := Lib.hid h2; clear h2)
  have HCT := Lib.hid (rnTake_len (HS2.out.set 0 rfl 7 (.slice xa (tk.length + j) xc)) 2 rfl ua j uc (q.take j) HTL.out (Seen.own Inp.len 6 rfl) HWQ.out hjb)
  go_upto_region 4 with (go_at_call 43; (with_reducible refine HCT.out.mono ?_); rintro e w3 ⟨v3, rfl, h3⟩; obtain ⟨ya, yc, rfl, _, _, hyn, _⟩ := h3.sl Rw.len 7 rfl; obtain ⟨d0, d1, d2, d3, d4, d5, d6, d7⟩ := cells8 (h3.blk 0 rfl).1 (Below.refl _ _); have hlc3 := (h3.blk 0 rfl).2.2; have HYN := Lib.hid hyn; have HS3 := Lib.hid h3; clear h3 HCT hyn)
  have hrv : (rws ++ rowsR rn (q.take j)).length = rws.length + (rowsR rn (q.take j)).length := List.length_append
  have HRV := Lib.hid hrv
  clear hrv
  go_wp2_with (at_builtin; refine wpList_append_st rwElem rfl HS3.out 3 rfl _ _ rfl rfl ya yc (rowsR rn (q.take j)) rfl HYN.out (HS3.out.slOf Rw.len 7 rfl) HL2.out ?_; intro v4 w4 h4 _; obtain ⟨za, zc, rfl, _, _, _, _⟩ := h4.sl Rw.len 3 rfl; rw [HRV.out] at h4 ⊢; obtain ⟨q4, z4⟩ := blkCells (h4.blk 0 rfl).1; have hlc4 := (h4.blk 0 rfl).2.2; have HS4 := Lib.hid h4; clear h4)
  go_ret
  exact ⟨_, rfl, HY.out _ _ _ _ _ ((HS4.out.set 0 rfl 6 (.slice za (rws.length + (rowsR rn (q.take j)).length) zc)).pick [0, 1, 2, 3, 4, 5, 7] (by decide))⟩
end Go.Proofs.Ythegopajkljlmaa
