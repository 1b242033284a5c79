/- The plain law of CellFed: events that are fed, and what the runner of a cell tells. -/
import Derived.Test.YthegopajkljlmaaLabLaw
import Derived.Test.YthegopajkljlmaaCellRuns
import Derived.Test.YthegopajkljlmaaLateLaw
set_option linter.unusedVariables false
namespace Go.Proofs.Ythegopajkljlmaa
open Go.RowKit Go.Maps
/-- What a cell's runner tells, its cells and its windows. -/
theorem cl_run {w0 w : World} {L : List HP} {cb N : Nat} {c : Cl} (h : St w0 w L) (n : Nat) (hn : L[n]? = some (clP cb c N)) (hN : N < 2 ^ 28) : ∃ rb pb : Nat,
    w.cell? ⟨cb, 4, none⟩ = some (.pointer (some ⟨rb, 0, none⟩)) ∧ rb < w.heap.size ∧ w.cell? ⟨rb, 0, none⟩ = some (.int .i64 c.rn.c.mark) ∧ w.cell? ⟨rb, 1, none⟩ = some (.int .i64 c.rn.c.late) ∧ w.cell? ⟨rb, 2, none⟩ = some (.int .i64 c.rn.c.seen) ∧ w.cell? ⟨rb, 3, none⟩ = some (.pointer (some ⟨pb, 0, none⟩)) ∧
    (Calls Try.prog 30 #[.pointer (some ⟨pb, 0, none⟩)] w fun e w' => ∃ v, e = .returned v ∧ St w0 w' (L ++ [ownP 43 5 Rw.cells v (rowsL c.rn.L)])) ∧
    (Calls Try.prog 31 #[.pointer (some ⟨pb, 0, none⟩)] w fun e w' => e = .returned (.int .i64 c.rn.L.length) ∧ St w0 w' L) := by
  have hset := set_same hn
  have hnl := (List.getElem?_eq_some_iff.1 hn).1
  obtain ⟨rb, qv, rv, tv, hok, hst⟩ := cl_open h n hn
  obtain ⟨_, _, _, _, c4, _⟩ := cells8 (hst.blk 0 rfl).1 (Below.refl _ _)
  have hlen := hok.len
  obtain ⟨pb, v, _, ⟨hb, _, hlr⟩, _, _, hLen, hOpen, hfl⟩ := rn_see hst 2 rfl (by omega)
  obtain ⟨r0, r1, r2, r3, _⟩ := cells10 hb (Below.refl _ _)
  refine ⟨rb, pb, c4, hlr, r0, r1, r2, r3, ?_, ?_⟩
  · refine (hOpen w hfl).mono ?_
    rintro e w' ⟨v', rfl, h'⟩
    have := cl_shut hok hnl (K := [ownP 43 5 Rw.cells v' (rowsL c.rn.L)]) h'
    rw [hset] at this
    exact ⟨v', rfl, this⟩
  · refine (hLen w hfl).mono ?_
    rintro e w' ⟨rfl, h'⟩
    have := cl_shut hok hnl (K := []) h'
    rw [hset, List.append_nil] at this
    exact ⟨rfl, this⟩
/-- Events of one label, none late. -/
structure FedOK (lb : Int) (r : Rn) (n : Nat) : Prop where
  srt : SortedL r.L
  lab : OneL lb r.L
  mark : r.c.mark = 0
  seen : r.c.seen = n
  tot : (n : Int) ≤ totalL r.L
theorem FedOK.step {lb : Int} {r : Rn} {n : Nat} (h : FedOK lb r n) (hops : r.p.ops = []) (hw : (Lit.int .u64 lb).wf = true) (hr : rightW r.p.size r.p.slide) {e : Ev} (h0 : 0 ≤ e.time) (h1 : e.time ≤ 1099511627776) (hl : e.label = lb) : FedOK lb (evR r e) (n + 1) := by
  have hB : onB r.c e.time = true := by unfold onB; simp [h.mark, h0, h1]
  have hc : onC r.c e.time = ⟨r.c.mark, r.c.late, r.c.seen + 1⟩ := by unfold onC; rw [if_pos ⟨h0, h1⟩, if_neg (by rw [h.mark]; omega)]
  have hE : evR r e = ⟨⟨r.c.mark, r.c.late, r.c.seen + 1⟩, r.p, putE r.p.agg r.p.size r.p.slide r.L e⟩ := by unfold evR; simp [hB, hc, hops, runO_nil]
  have hT := putE_total (kd := r.p.agg) e r.L h.srt hr h0 h1
  have hP := putE_lab (kd := r.p.agg) (sz := r.p.size) (sl := r.p.slide) h.srt hw h.lab hl
  have hs := h.seen
  have ht := h.tot
  rw [hE]
  exact { srt := hP.2, lab := hP.1, mark := h.mark, seen := (by show r.c.seen + 1 = ((n + 1 : Nat) : Int); omega), tot := (by show ((n + 1 : Nat) : Int) ≤ totalL (putE r.p.agg r.p.size r.p.slide r.L e); omega) }
theorem FedOK.all {lb : Int} (hw : (Lit.int .u64 lb).wf = true) : ∀ (l : List Inp) (r : Rn) (n : Nat), FedOK lb r n → r.p.ops = [] → rightW r.p.size r.p.slide → (∀ i ∈ l, i.mark = false ∧ 0 ≤ i.ev.time ∧ i.ev.time ≤ 1099511627776 ∧ i.ev.label = lb) → FedOK lb (afterR r l) (n + l.length) ∧ rowsR r l = []
  | [], r, n, h, _, _, _ => ⟨h, rfl⟩
  | ⟨im, e⟩ :: l, r, n, h, ho, hr, hi => by
    obtain ⟨h1, h2, h3, h4⟩ := hi ⟨im, e⟩ (by simp)
    obtain rfl : im = false := h1
    have h5 := h.step ho hw hr h2 h3 h4
    have h6 := FedOK.all hw l (evR r e) (n + 1) h5 ho hr fun j hj => hi j (by simp [hj])
    refine ⟨?_, ?_⟩
    · rw [List.length_cons, show n + (l.length + 1) = n + 1 + l.length by omega]
      exact h6.1
    · show [] ++ rowsR (evR r e) l = []
      rw [h6.2]
      rfl
theorem FedOK.new (lb : Int) (p : Pp) : FedOK lb (newR p) 0 := { srt := List.Pairwise.nil, lab := (fun _ _ h => by cases h), mark := rfl, seen := rfl, tot := Int.le_refl _ }
theorem total_ne {L : PL} (h : 1 ≤ totalL L) : 0 < L.length := by
  cases L with
  | nil => simp [totalL] at h
  | cons q L => simp
end Go.Proofs.Ythegopajkljlmaa
