/- Walk of core.serve. -/
import Derived.Test.YtdncpihaeobaeaaGreatCore
import Derived.Test.YtdncpihaeobaeaaGreatPlanT
import Derived.Test.YtdncpihaeobaeaaGreatTwinB
set_option linter.unusedVariables false
set_option linter.unusedSimpArgs false
namespace Go.Proofs.YtdncpihaeobaeaaGreat
open Go.RowKit
theorem St.gainPt {w0 w w' : World} {L : List HP} (h : St w0 w L) (hb : Below w.heap.size w w') {g : Nat} {o : Obj} (hp : w'.heap[g]? = some o) (hg : w.heap.size ≤ g) : St w0 w' (L ++ [pt g o]) :=
  h.gain hb _ (fun b => b == g) (fun b hbt => by simp at hbt; omega) (by
    show _root_.Go.Proofs.YtdncpihaeobaeaaGreat.part _ _ g = _
    unfold _root_.Go.Proofs.YtdncpihaeobaeaaGreat.part
    rw [if_pos (by simp)]
    exact hp)
theorem co_cells {w : World} {cb sc bb : Nat} {sa : Option Addr} {co : Co} {pv : Value} {ps : List (Option Nat)} {T : TypeId} (h : w.heap[cb]? = some (.cells (coCells co sa sc pv bb ps).toArray T (0, 0))) (h8 : ps.length = 8) :
    w.cell? ⟨cb, 0, none⟩ = some (.int .i64 co.s.budget) ∧ w.cell? ⟨cb, 1, none⟩ = some (.int .i64 co.s.room) ∧ w.cell? ⟨cb, 2, none⟩ = some (.int .i64 co.s.quota) ∧ w.cell? ⟨cb, 3, none⟩ = some (.slice sa co.s.sinks.length sc) ∧ (∀ k (hk : k < 8), w.cell? ⟨cb, 4 + k, none⟩ = some (ptrV (ps[k]'(by omega)))) ∧ w.cell? ⟨cb, 12, none⟩ = some pv ∧ w.cell? ⟨cb, 13, none⟩ = some (.pointer (some ⟨bb, 0, none⟩)) ∧ w.cell? ⟨cb, 14, none⟩ = some (.int .i64 co.ticks) ∧ cb < w.heap.size := by
  obtain ⟨q, _⟩ := blkCells h
  refine ⟨(q 0).trans rfl, (q 1).trans rfl, (q 2).trans rfl, (q 3).trans rfl, fun k hk => (q (4 + k)).trans ?_, (q 12).trans ?_, (q 13).trans ?_, (q 14).trans ?_, (Array.getElem?_eq_some_iff.1 h).1⟩
  · match ps, h8 with
    | [p0, p1, p2, p3, p4, p5, p6, p7], _ =>
      match k, hk with
      | 0, _ | 1, _ | 2, _ | 3, _ | 4, _ | 5, _ | 6, _ | 7, _ => rfl
  · match ps, h8 with
    | [p0, p1, p2, p3, p4, p5, p6, p7], _ => rfl
  · match ps, h8 with
    | [p0, p1, p2, p3, p4, p5, p6, p7], _ => rfl
  · match ps, h8 with
    | [p0, p1, p2, p3, p4, p5, p6, p7], _ => rfl
set_option maxRecDepth 20000 in
theorem idxPtr (v0 v1 v2 v3 v4 v5 v6 v7 : Value) (k : Nat) (hk : k < 8) (w : World) : (Instr.index 116 (.agg #[v0, v1, v2, v3, v4, v5, v6, v7]) (.int .i64 k)).run Tryz.prog w = .ok ([v0, v1, v2, v3, v4, v5, v6, v7][k]'(by simpa using hk)) w := by
  match k, hk with
  | 0, _ | 1, _ | 2, _ | 3, _ | 4, _ | 5, _ | 6, _ | 7, _ => rfl
theorem pts8 {ps : List (Option Nat)} (h : ps.length = 8) : ∃ p0 p1 p2 p3 p4 p5 p6 p7, ps = [p0, p1, p2, p3, p4, p5, p6, p7] := by
  match ps, h with
  | [p0, p1, p2, p3, p4, p5, p6, p7], _ => exact ⟨p0, p1, p2, p3, p4, p5, p6, p7, rfl⟩
theorem set_app_get {L K : List HP} {n : Nat} {X Y : HP} (i : Nat) (h : K[i]? = some Y) : (L.set n X ++ K)[L.length + i]? = some Y := by
  rw [List.getElem?_append_right (by simp)]
  simpa using h
/-- A cell's runner, among other things. -/
theorem cl_runner {w0 w : World} {L : List HP} {cb N : Nat} {c : Cl} (h : St w0 w L) (n : Nat) (hn : L[n]? = some (clP cb c N)) : ∃ rb : Nat, c.ok N ∧ cb < w.heap.size ∧ rb < w.heap.size ∧ w.cell? ⟨cb, 4, none⟩ = some (.pointer (some ⟨rb, 0, none⟩)) ∧
    w.cell? ⟨rb, 0, none⟩ = some (.int .i64 c.rn.c.mark) ∧ w.cell? ⟨rb, 1, none⟩ = some (.int .i64 c.rn.c.late) ∧ w.cell? ⟨rb, 2, none⟩ = some (.int .i64 c.rn.c.seen) ∧ w.cell? ⟨rb, 8, none⟩ = some (.int .i64 c.rn.p.sink) ∧ w.cell? ⟨rb, 9, none⟩ = some (.int .i64 c.rn.p.feed) ∧ c.rn.c.ok c.taken.length := by
  obtain ⟨rb, qv, rv, tv, hok, hst⟩ := cl_flat h n hn
  have hnl := (List.getElem?_eq_some_iff.1 hn).1
  have i0 := set_app_get (L := L) (n := n) (X := emp) (K := [pt cb (.cells (c.cells rb qv rv tv) 83 (0, 0)), seeP 5 Inp.cells qv c.q, rnP rb c.rn c.taken.length, ownP 55 5 Rw.cells rv c.rows, ownP 65 5 Inp.cells tv c.taken]) 0 rfl
  have i2 := set_app_get (L := L) (n := n) (X := emp) (K := [pt cb (.cells (c.cells rb qv rv tv) 83 (0, 0)), seeP 5 Inp.cells qv c.q, rnP rb c.rn c.taken.length, ownP 55 5 Rw.cells rv c.rows, ownP 65 5 Inp.cells tv c.taken]) 2 rfl
  obtain ⟨_, _, _, _, c4, _⟩ := cells8 (hst.blk _ i0).1 (Below.refl _ _)
  have hl := (hst.blk _ i0).2.2
  obtain ⟨pb, v, hrok, hst2⟩ := rn_flat hst _ i2
  have hb := hst2.blk _ (set_app_get 0 rfl)
  obtain ⟨q, _⟩ := blkCells hb.1
  exact ⟨rb, hok, hl, hb.2.2, c4, (q 0).trans rfl, (q 1).trans rfl, (q 2).trans rfl, (q 8).trans rfl, (q 9).trans rfl, hrok.1⟩
theorem after_p (l : List Inp) : ∀ r : Rn, (afterR r l).p = r.p := by
  induction l with
  | nil => exact fun r => rfl
  | cons i l ih =>
    intro r
    show (afterR (takeR r i).1 l).p = r.p
    rw [ih]
    unfold takeR
    split
    · split <;> rfl
    · rfl
theorem rn_p (c : Cl) : c.rn.p = c.p := after_p c.taken (newR c.p)
def Co.wait (co : Co) (t : Nat) : Int := match co.cells.getD t none with
  | none => 0
  | some c => c.q.length
def Co.waitK (co : Co) (k : Nat) : List Int := (List.range 8).map fun t => if t < k then co.wait t else 0
theorem waitK_len (co : Co) (k : Nat) : (co.waitK k).length = 8 := by simp [Co.waitK]
theorem waitK_step (co : Co) (k : Nat) (hk : k < 8) : (co.waitK k).set k (co.wait k) = co.waitK (k + 1) := by
  apply List.ext_getElem (by simp [Co.waitK])
  intro i h1 h2
  rw [List.getElem_set]
  simp only [Co.waitK, List.getElem_map, List.getElem_range]
  split
  · rename_i e; subst e; rw [if_pos (by omega)]
  · rename_i e
    simp only [show i < k + 1 ↔ i < k by omega]
theorem waitK_none (co : Co) (k : Nat) (h : co.wait k = 0) : co.waitK k = co.waitK (k + 1) := by
  unfold Co.waitK
  apply List.map_congr_left
  intro i _
  by_cases e : i = k
  · subst e; rw [if_neg (by omega), if_pos (by omega), h]
  · simp only [show i < k + 1 ↔ i < k by omega]
theorem waitK_at (co : Co) (j : Nat) (hj : j < 8) : (co.waitK 8)[j]? = some (co.wait j) := by
  unfold Co.waitK
  rw [List.getElem?_map, List.getElem?_range hj]
  simp [hj]
theorem serveK_succ (co : Co) (k : Nat) : co.serveK (k + 1) = (co.serveK k).turn ((co.ticks + k) % 8) := by
  unfold Co.serveK
  rw [List.range_succ, List.foldl_append]
  rfl
theorem turn_none {co : Co} {j : Nat} (h : co.x j = none) : co.turn j = co := by
  unfold Co.turn
  unfold Co.x at h
  rw [h]
theorem turn_some {co : Co} {j : Nat} {c : Cl} (h : co.x j = some c) : co.turn j = { co with
      cells := co.cells.set j (some (c.serve (co.servN c)))
      pots := if c.p.sink = -1 then co.pots else co.pots.set c.p.sink.toNat (giveP (co.s.sinks.getD c.p.sink.toNat Sk.zero) j (co.pots.getD c.p.sink.toNat Pot.zero) (rowsR c.rn (c.q.take (co.servN c)))) } := by
  unfold Co.turn
  unfold Co.x at h
  rw [h]
theorem wait_x {co : Co} {t : Nat} : co.wait t = match co.x t with | none => 0 | some c => (c.q.length : Int) := rfl
theorem x_get {co : Co} (h8 : co.cells.length = 8) (k : Nat) (hk : k < 8) : co.cells[k]'(by omega) = co.x k := by
  unfold Co.x
  rw [List.getD_eq_getElem?_getD, List.getElem?_eq_getElem (by omega)]
  rfl
end Go.Proofs.YtdncpihaeobaeaaGreat
