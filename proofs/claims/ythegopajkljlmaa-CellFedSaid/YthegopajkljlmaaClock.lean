/- Walks of package clock, and of slices.Clone at operations. -/
import Derived.Test.YthegopajkljlmaaPipe
import Derived.WalkSpells
set_option linter.unusedVariables false
namespace Go.Proofs.Ythegopajkljlmaa
open Go.RowKit Go.Maps
/-- A watermark, how many were late, how many were seen. -/
structure Clk where
  mark : Int
  late : Int
  seen : Int
def Clk.cells (c : Clk) : List Value := [.int .i64 c.mark, .int .i64 c.late, .int .i64 c.seen]
/-- Its bounds, when so many were seen. -/
def Clk.ok (c : Clk) (N : Nat) : Prop := 0 ≤ c.mark ∧ c.mark ≤ 1099512676352 ∧ 0 ≤ c.late ∧ c.late ≤ c.seen ∧ c.seen ≤ N
def onC (c : Clk) (t : Int) : Clk := if 0 ≤ t ∧ t ≤ 1099511627776 then (if t < c.mark then ⟨c.mark, c.late + 1, c.seen + 1⟩ else ⟨c.mark, c.late, c.seen + 1⟩) else c
def onB (c : Clk) (t : Int) : Bool := decide (0 ≤ t ∧ t ≤ 1099511627776 ∧ c.mark ≤ t)
def advC (c : Clk) (t : Int) : Clk := if c.mark < t ∧ t ≤ 1099512676352 then ⟨t, c.late, c.seen⟩ else c
def advB (c : Clk) (t : Int) : Bool := decide (c.mark < t ∧ t ≤ 1099512676352)
theorem Clk.ok_on {c : Clk} {N : Nat} (h : c.ok N) (t : Int) : (onC c t).ok (N + 1) := by
  obtain ⟨h1, h2, h3, h4, h5⟩ := h
  unfold onC
  split
  · split
    · exact ⟨h1, h2, by dsimp only; omega, by dsimp only; omega, by dsimp only; omega⟩
    · exact ⟨h1, h2, h3, by dsimp only; omega, by dsimp only; omega⟩
  · exact ⟨h1, h2, h3, h4, by omega⟩
theorem Clk.ok_adv {c : Clk} {N : Nat} (h : c.ok N) (t : Int) : (advC c t).ok N := by
  obtain ⟨h1, h2, h3, h4, h5⟩ := h
  unfold advC
  split
  · exact ⟨by dsimp only; omega, by dsimp only; omega, h3, h4, h5⟩
  · exact ⟨h1, h2, h3, h4, h5⟩
theorem Clk.ok_mono {c : Clk} {N M : Nat} (h : c.ok N) (hN : N ≤ M) : c.ok M := ⟨h.1, h.2.1, h.2.2.1, h.2.2.2.1, by have := h.2.2.2.2; omega⟩
set_option maxHeartbeats 400000 in
/-- clock.On at a clock that begins a block. -/
theorem on_any (b : Nat) (c : Clk) (t : Int) (rest : List Value) (T : TypeId) (w : World) (N : Nat) (hok : c.ok N) (hN : N < 2 ^ 60) (hb : w.heap[b]? = some (.cells (c.cells ++ rest).toArray T (0, 0))) :
    Calls Try.prog 72 #[.pointer (some ⟨b, 0, none⟩), .int .i64 t] w fun e w' => e = .returned (.bool (onB c t)) ∧ w' = (w.setCell ⟨b, 2, none⟩ (.int .i64 (onC c t).seen)).setCell ⟨b, 1, none⟩ (.int .i64 (onC c t).late) := by
  obtain ⟨q, z⟩ := blkCells hb
  have hlt := (Array.getElem?_eq_some_iff.1 hb).1
  obtain ⟨m, lt, sn⟩ := c
  obtain ⟨h1, h2, h3, h4, h5⟩ := hok
  dsimp only at h1 h2 h3 h4 h5
  have q0 : w.cell? ⟨b, 0, none⟩ = some (.int .i64 m) := by simp [q, Clk.cells]
  have q1 : w.cell? ⟨b, 1, none⟩ = some (.int .i64 lt) := by simp [q, Clk.cells]
  have q2 : w.cell? ⟨b, 2, none⟩ = some (.int .i64 sn) := by simp [q, Clk.cells]
  have z0 := z 0
  have z1 := z 1
  have z2 := z 2
  have E0 := Lib.hid (setCell_self q1)
  have E2 := Lib.hid (setCell_self q2)
  clear q z hb
  have E1 := Lib.hid (setCell_self (w := w.setCell ⟨b, 2, none⟩ (.int .i64 (sn + 1))) (b := b) (o := 1) (v := .int .i64 lt) (by go_simp))
  by_cases t0 : 0 ≤ t
  · by_cases t1 : t ≤ 1099511627776
    · by_cases t2 : t < m
      · have hB : onB ⟨m, lt, sn⟩ t = false := by unfold onB; simp; omega
        have hC : onC ⟨m, lt, sn⟩ t = ⟨m, lt + 1, sn + 1⟩ := by unfold onC; simp [t0, t1, t2]
        rw [hB, hC]
        dsimp only
        clear hB hC
        go_enter Try.func72, Try.ntmps72
        go_wp2
        go_ret
        exact ⟨rfl, rfl⟩
      · have hB : onB ⟨m, lt, sn⟩ t = true := by unfold onB; simp; omega
        have hC : onC ⟨m, lt, sn⟩ t = ⟨m, lt, sn + 1⟩ := by unfold onC; simp [t0, t1, t2]
        rw [hB, hC]
        dsimp only
        rw [E1.out]
        clear hB hC
        go_enter Try.func72, Try.ntmps72
        go_wp2
        go_ret
        exact ⟨rfl, rfl⟩
    · have hB : onB ⟨m, lt, sn⟩ t = false := by unfold onB; simp; omega
      have hC : onC ⟨m, lt, sn⟩ t = ⟨m, lt, sn⟩ := by unfold onC; simp [t0, t1]
      rw [hB, hC]
      dsimp only
      rw [E2.out, E0.out]
      clear hB hC
      go_enter Try.func72, Try.ntmps72
      go_wp2
      go_ret
      exact ⟨rfl, rfl⟩
  · have hB : onB ⟨m, lt, sn⟩ t = false := by unfold onB; simp; omega
    have hC : onC ⟨m, lt, sn⟩ t = ⟨m, lt, sn⟩ := by unfold onC; simp [t0]
    rw [hB, hC]
    dsimp only
    rw [E2.out, E0.out]
    clear hB hC
    go_enter Try.func72, Try.ntmps72
    go_wp2
    go_ret
    exact ⟨rfl, rfl⟩
theorem advance_any (b : Nat) (c : Clk) (t : Int) (rest : List Value) (T : TypeId) (w : World) (N : Nat) (hok : c.ok N) (hb : w.heap[b]? = some (.cells (c.cells ++ rest).toArray T (0, 0))) :
    Calls Try.prog 60 #[.pointer (some ⟨b, 0, none⟩), .int .i64 t] w fun e w' => e = .returned (.bool (advB c t)) ∧ w' = w.setCell ⟨b, 0, none⟩ (.int .i64 (advC c t).mark) := by
  obtain ⟨q, z⟩ := blkCells hb
  have hlt := (Array.getElem?_eq_some_iff.1 hb).1
  obtain ⟨m, lt, sn⟩ := c
  have q0 : w.cell? ⟨b, 0, none⟩ = some (.int .i64 m) := by simp [q, Clk.cells]
  have z0 := z 0
  have E0 := Lib.hid (setCell_self q0)
  clear q z hb hok
  by_cases t0 : m < t
  · by_cases t1 : t ≤ 1099512676352
    · have hB : advB ⟨m, lt, sn⟩ t = true := by unfold advB; simp; omega
      have hC : advC ⟨m, lt, sn⟩ t = ⟨t, lt, sn⟩ := by unfold advC; simp [t0, t1]
      rw [hB, hC]
      dsimp only
      clear hB hC
      go_enter Try.func60, Try.ntmps60
      go_wp2
      go_ret
      exact ⟨rfl, rfl⟩
    · have hB : advB ⟨m, lt, sn⟩ t = false := by unfold advB; simp; omega
      have hC : advC ⟨m, lt, sn⟩ t = ⟨m, lt, sn⟩ := by unfold advC; simp [t1]
      rw [hB, hC]
      dsimp only
      rw [E0.out]
      clear hB hC
      go_enter Try.func60, Try.ntmps60
      go_wp2
      go_ret
      exact ⟨rfl, rfl⟩
  · have hB : advB ⟨m, lt, sn⟩ t = false := by unfold advB; simp; omega
    have hC : advC ⟨m, lt, sn⟩ t = ⟨m, lt, sn⟩ := by unfold advC; simp [t0]
    rw [hB, hC]
    dsimp only
    rw [E0.out]
    clear hB hC
    go_enter Try.func60, Try.ntmps60
    go_wp2
    go_ret
    exact ⟨rfl, rfl⟩
theorem mark_any (c : Clk) (w : World) : Calls Try.prog 62 #[.agg c.cells.toArray] w fun e w' => e = .returned (.int .i64 c.mark) ∧ w' = w.alloc (.cells c.cells.toArray 67) := by
  dsimp only [Clk.cells]
  go_enter Try.func62, Try.ntmps62
  go_wp2
  go_ret
  exact ⟨rfl, rfl⟩
theorem opElem : Elem Try.prog 24 92 2 Opr.cells :=
  ⟨Opr.len, by decide, Opr.one, Try.underlying24, by
    obtain ⟨i, h1, h2, h3, h4⟩ := info_parts (P := Try.prog) (e := 92) (z := .agg #[.int .i64 0, .int .i64 0]) (size := 2) (bytes := 16) (by kernel_rfl)
    exact ⟨i, _, h1, h2, h3, by omega, rfl⟩⟩
/-- slices.Clone at operations: a copy of its own. -/
theorem cloneOp_st {w0 w : World} {L : List HP} (h : St w0 w L) (a : Option Addr) (cap : Nat) (l : List Opr) (hl : SlAt 2 (flat Opr.cells) w a l) (hn : a = none → cap = 0) (hlen : l.length ≤ 1099511627776) :
    Calls Try.prog 56 #[.slice a l.length cap] w fun e w' => ∃ v, e = .returned v ∧ St w0 w' (L ++ [ownP 92 2 Opr.cells v l]) := by
  have HS := Lib.hid h
  have HL := Lib.hid hl
  have HN := Lib.hid hlen
  clear h hl hlen
  have q : ∀ (w : World) (a : Option Addr) (n c n' c' : Nat), (binOp .eql 24 (.slice a n c) (.slice none n' c')).run Try.prog w = .ok (.bool a.isNone) w := fun w a n c n' c' => Lib.run_eql_slice_nil w _ _ a n c n' c' Try.underlying24
  cases a with
  | none =>
    have hll : l = [] := by rcases HL.out with h | ⟨b, o, he, _⟩; exact h; cases he
    subst hll
    obtain rfl := hn rfl
    clear hn HN
    go_enter Try.func56, Try.ntmps56
    go_wp2
    go_ret
    exact ⟨_, rfl, HS.out.nil _ _ _⟩
  | some a =>
    go_enter Try.func56, Try.ntmps56
    go_wp2_with (at_builtin; refine wpList_copy_st opElem rfl (HS.out.alloc (.cells #[] 92)) L.length (by simp) _ _ rfl rfl (some a) cap l rfl (by simp) (HL.out.below ((Below.refl _ w).alloc (Nat.le_refl _) _) (fun _ _ h => h)) HN.out ?_; intro b c w1 h1)
    go_ret
    refine ⟨_, rfl, ?_⟩
    simpa using h1
end Go.Proofs.Ythegopajkljlmaa
