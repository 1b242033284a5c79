/- A core: what it is kept in. -/
import Derived.Test.YtdncpihaeobaeaaGreatBoard
import Derived.Test.YtdncpihaeobaeaaGreatRowWf
set_option linter.unusedVariables false
set_option linter.unusedSimpArgs false
namespace Go.Proofs.YtdncpihaeobaeaaGreat
open Go.RowKit
theorem St.imp' {w0 w : World} {L L' : List HP} {X X' : HP} (h : St w0 w L) (n : Nat) (hn : L[n]? = some X) (H : ∀ h, X h → X' h) (e : L.set n X' = L') : St w0 w L' := e ▸ h.imp n hn H
def ptrV (p : Option Nat) : Value := .pointer (p.map fun b => ⟨b, 0, none⟩)
/-- A tenant's cell, if there is one. -/
def optP (N : Nat) (p : Option Nat) (c : Option Cl) : HP := match p, c with
  | some b, some c => clP b c N
  | none, none => emp
  | _, _ => fun _ => False
def clsL (ps : List (Option Nat)) (cs : List (Option Cl)) (N : Nat) : List HP := List.zipWith (optP N) ps cs
def coCells (co : Co) (sa : Option Addr) (sc : Nat) (pv : Value) (bb : Nat) (ps : List (Option Nat)) : List Value :=
  [.int .i64 co.s.budget, .int .i64 co.s.room, .int .i64 co.s.quota, .slice sa co.s.sinks.length sc] ++ (ps.map ptrV ++ [pv, .pointer (some ⟨bb, 0, none⟩), .int .i64 co.ticks])
structure Co.ok (co : Co) (N : Nat) : Prop where
  good : co.good
  ticks : co.ticks ≤ N
  pots : ∀ p ∈ co.pots, (Lit.int .i64 p.value).wf = true
  sinks : ∀ s ∈ co.s.sinks, (Lit.int .u64 s.fr).wf = true
theorem Co.ok.mono {co : Co} {N M : Nat} (h : co.ok N) (hM : N ≤ M) : co.ok M := ⟨h.good, Nat.le_trans h.ticks hM, h.pots, h.sinks⟩
def coP (cb : Nat) (sa : Option Addr) (sc : Nat) (co : Co) (N : Nat) : HP := exP fun x : List (Option Nat) × Value × Nat => andP (x.1.length = 8 ∧ co.ok N) (sepL [pt cb (.cells (coCells co sa sc x.2.1 x.2.2 x.1).toArray 119 (0, 0)), ownP 125 4 Pot.cells x.2.1 co.pots, boardP x.2.2 co.told N, sepL (clsL x.1 co.cells N)])
theorem co_open {w0 w : World} {K : List HP} {cb sc N : Nat} {sa : Option Addr} {co : Co} (h : St w0 w (coP cb sa sc co N :: K)) : ∃ (ps : List (Option Nat)) (pv : Value) (bb : Nat), ps.length = 8 ∧ co.ok N ∧ St w0 w (pt cb (.cells (coCells co sa sc pv bb ps).toArray 119 (0, 0)) :: ownP 125 4 Pot.cells pv co.pots :: boardP bb co.told N :: sepL (clsL ps co.cells N) :: K) := by
  obtain ⟨x, h2⟩ := h.ex 0 rfl
  obtain ⟨⟨h3, h4⟩, h5⟩ := h2.pure 0 rfl
  exact ⟨x.1, x.2.1, x.2.2, h3, h4, h5.ungroup⟩
theorem co_shut {w0 w : World} {K : List HP} {cb sc N : Nat} {sa : Option Addr} {co : Co} {ps : List (Option Nat)} {pv : Value} {bb : Nat} (h8 : ps.length = 8) (hok : co.ok N) (h : St w0 w (pt cb (.cells (coCells co sa sc pv bb ps).toArray 119 (0, 0)) :: ownP 125 4 Pot.cells pv co.pots :: boardP bb co.told N :: sepL (clsL ps co.cells N) :: K)) : St w0 w (coP cb sa sc co N :: K) :=
  (St.group (L := [_, _, _, _]) h).imp 0 rfl (X' := coP cb sa sc co N) fun h hh => ⟨(ps, pv, bb), ⟨h8, hok⟩, hh⟩
theorem Seen.now {α : Type} {w0 w : World} {R : HP} {c : Nat} {enc : α → List Value} {a : Option Addr} {l : List α} (h : Seen w0 R c enc a l) {L : List HP} (hs : St w0 w L) (m : Nat) (hm : L[m]? = some R) : SlAt c (flat enc) w a l := h w L m hs hm
/-- A core among other things: opened for a call, shut behind it. -/
theorem co_lift {w0 w : World} {L : List HP} {cb sc N : Nat} {sa : Option Addr} {co : Co} (h : St w0 w L) (n : Nat) (hn : L[n]? = some (coP cb sa sc co N)) : St w0 w [coP cb sa sc co N, sepL (L.set n emp)] := h.front n hn
theorem cls_len (ps : List (Option Nat)) (cs : List (Option Cl)) (N : Nat) (h1 : ps.length = 8) (h2 : cs.length = 8) : (clsL ps cs N).length = 8 := by unfold clsL; simp; omega
theorem cls_get (ps : List (Option Nat)) (cs : List (Option Cl)) (N : Nat) (h1 : ps.length = 8) (h2 : cs.length = 8) (k : Nat) (hk : k < 8) : (clsL ps cs N)[k]? = some (optP N (ps[k]'(by omega)) (cs[k]'(by omega))) := zip_get _ ps cs k (by omega) (by omega)
theorem cls_set (ps : List (Option Nat)) (cs : List (Option Cl)) (N : Nat) (k : Nat) (p : Option Nat) (c : Option Cl) : (clsL ps cs N).set k (optP N p c) = clsL (ps.set k p) (cs.set k c) N := zip_set _ ps cs k p c
theorem optP_none {w0 w : World} {L : List HP} {N : Nat} {p : Option Nat} (h : St w0 w L) (n : Nat) (hn : L[n]? = some (optP N p none)) : p = none := by
  cases p with
  | none => rfl
  | some b =>
    obtain ⟨F, hF⟩ := h.at n hn
    exact hF.elim
theorem optP_some {w0 w : World} {L : List HP} {N : Nat} {p : Option Nat} {c : Cl} (h : St w0 w L) (n : Nat) (hn : L[n]? = some (optP N p (some c))) : ∃ b, p = some b := by
  cases p with
  | none =>
    obtain ⟨F, hF⟩ := h.at n hn
    exact hF.elim
  | some b => exact ⟨b, rfl⟩
theorem optP_mono {N M : Nat} (hM : N ≤ M) (p : Option Nat) (c : Option Cl) {h : Nat → Option Obj} (hh : optP N p c h) : optP M p c h := by
  cases p <;> cases c
  · exact hh
  · exact hh
  · exact hh
  · exact clP_mono hM hh
theorem cls_mono {N M : Nat} (hM : N ≤ M) (ps : List (Option Nat)) (cs : List (Option Cl)) {h : Nat → Option Obj} (hh : sepL (clsL ps cs N) h) : sepL (clsL ps cs M) h := by
  obtain ⟨own, ho⟩ := hh
  refine ⟨own, fun i P hi => ?_⟩
  unfold clsL at hi
  obtain ⟨hi1, rfl⟩ := List.getElem?_eq_some_iff.1 hi
  rw [List.getElem_zipWith]
  simp only [List.length_zipWith] at hi1
  exact optP_mono hM _ _ (ho i _ (zip_get _ ps cs i (by omega) (by omega)))
/-- A cell of a core laid open, among other things: the core's cells behind all. -/
theorem St.cellIn {w0 w : World} {L : List HP} {N : Nat} {ps : List (Option Nat)} {cs : List (Option Cl)} (h : St w0 w L) (m : Nat) (hm : L[m]? = some (sepL (clsL ps cs N))) (h1 : ps.length = 8) (h2 : cs.length = 8) (k : Nat) (hk : k < 8) :
    St w0 w (L.set m _root_.Go.Proofs.YtdncpihaeobaeaaGreat.emp ++ clsL ps cs N) ∧ (L.set m _root_.Go.Proofs.YtdncpihaeobaeaaGreat.emp ++ clsL ps cs N)[L.length + k]? = some (optP N (ps[k]'(by omega)) (cs[k]'(by omega))) := by
  refine ⟨h.split m hm, ?_⟩
  rw [List.getElem?_append_right (by simp)]
  simp only [List.length_set, Nat.add_sub_cancel_left]
  exact cls_get ps cs N h1 h2 k hk
/-- Such a cell turned: the core's cells are one thing again. -/
theorem St.cellOut {w0 w : World} {L M : List HP} {N N' : Nat} {ps : List (Option Nat)} {cs : List (Option Cl)} (m : Nat) (hml : m < L.length) (h1 : ps.length = 8) (h2 : cs.length = 8) (k : Nat) (hk : k < 8) (p : Option Nat) (c : Option Cl) (hN : N ≤ N')
    (h : St w0 w ((L.set m _root_.Go.Proofs.YtdncpihaeobaeaaGreat.emp ++ clsL ps cs N).set (L.length + k) (optP N' p c) ++ M)) : St w0 w (L.set m (sepL (clsL (ps.set k p) (cs.set k c) N')) ++ M) := by
  have e : (L.set m _root_.Go.Proofs.YtdncpihaeobaeaaGreat.emp ++ clsL ps cs N).set (L.length + k) (optP N' p c) = L.set m _root_.Go.Proofs.YtdncpihaeobaeaaGreat.emp ++ (clsL ps cs N).set k (optP N' p c) := by
    rw [List.set_append_right _ _ (by simp)]
    simp
  rw [e, List.append_assoc] at h
  have h3 := h.unsplit hml
  refine St.imp' h3 m (by rw [List.getElem?_append_left (by simpa using hml), List.getElem?_set_self hml]) ?_ (by rw [List.set_append_left _ _ (by simpa using hml), List.set_set])
  intro f hf
  rw [← cls_set]
  obtain ⟨own, ho⟩ := hf
  refine ⟨own, fun i P hi => ?_⟩
  rw [List.getElem?_set] at hi
  split at hi
  · rename_i e
    subst e
    split at hi
    · cases hi
      exact ho k _ (by rw [List.getElem?_set_self (by rw [cls_len ps cs N h1 h2]; omega)])
    · cases hi
  · rename_i hne
    have hi8 : i < 8 := by
      have := (List.getElem?_eq_some_iff.1 hi).1
      rwa [cls_len ps cs N' h1 h2] at this
    rw [cls_get ps cs N' h1 h2 i hi8] at hi
    cases hi
    exact optP_mono hN _ _ (ho i _ (by rw [List.getElem?_set, if_neg hne]; exact cls_get ps cs N h1 h2 i hi8))
theorem within_any (n lo hi : Int) (w : World) : Calls Tryz.prog 68 #[.int .i64 n, .int .i64 lo, .int .i64 hi] w fun e w' => e = .returned (.bool (decide (lo ≤ n) && decide (n ≤ hi))) ∧ w' = w := by
  by_cases h1 : lo ≤ n <;> by_cases h2 : n ≤ hi
  all_goals
    go_enter Tryz.func68, Tryz.ntmps68
    go_wp2
    go_ret
    exact ⟨by simp [h1, h2], rfl⟩
theorem coreAt_in (cb k : Nat) (p : Value) (w : World) (hk : k < 8) (c : w.cell? ⟨cb, 4 + k, none⟩ = some p) : Calls Tryz.prog 58 #[.pointer (some ⟨cb, 0, none⟩), .int .i64 k] w fun e w' => e = .returned p ∧ w' = w := by
  have hW := Lib.hid (within_any (k : Int) 0 7 w)
  rw [show (decide (0 ≤ (k : Int)) && decide ((k : Int) ≤ 7)) = true by simp; omega] at hW
  go_enter Tryz.func58, Tryz.ntmps58
  go_wp2_with (go_at_call 68; (with_reducible refine hW.out.mono ?_); rintro e w1 ⟨rfl, rfl⟩)
  go_ret
  exact ⟨rfl, rfl⟩
theorem coreAt_out (cb : Nat) (t : Int) (w : World) (ht : ¬ (0 ≤ t ∧ t ≤ 7)) : Calls Tryz.prog 58 #[.pointer (some ⟨cb, 0, none⟩), .int .i64 t] w fun e w' => e = .returned (.pointer none) ∧ w' = w := by
  have hW := Lib.hid (within_any t 0 7 w)
  rw [show (decide (0 ≤ t) && decide (t ≤ 7)) = false by simp; omega] at hW
  go_enter Tryz.func58, Tryz.ntmps58
  go_wp2_with (go_at_call 68; (with_reducible refine hW.out.mono ?_); rintro e w1 ⟨rfl, rfl⟩)
  go_ret
  exact ⟨rfl, rfl⟩
end Go.Proofs.YtdncpihaeobaeaaGreat
