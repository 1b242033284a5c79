/- Several texts of this seat, joined: Oper, Pipe, Clock, Runner, Take, Keep, KeepPipe, Law10, Whole, PartLaw, Readers, RunKeys, WholeBare. -/
import Derived.Test.YtdncpihaeobaeaaGreatK1
import Derived.Test.YtdncpihaeobaeaaGreatK2
import Derived.WalkSpells
import Derived.Deep.CutBlock
set_option linter.unusedVariables false
namespace Go.Proofs.YtdncpihaeobaeaaGreat
/- Oper -/
section
open Go.RowKit Go.Maps
theorem i64_range {n : Int} (h : (Lit.int .i64 n).wf = true) : -9223372036854775808 ≤ n ∧ n ≤ 9223372036854775807 := by
  exact wf_i64 h
/-- An operation's kind and number. -/
structure Opr where
  kind : Int
  n : Int
deriving DecidableEq
def Opr.cells (o : Opr) : List Value := [.int .i64 o.kind, .int .i64 o.n]
def Opr.zero : Opr := ⟨0, 0⟩
def Opr.wf (o : Opr) : Prop := (Lit.int .i64 o.kind).wf = true ∧ (Lit.int .i64 o.n).wf = true
theorem Opr.len (o : Opr) : o.cells.length = 2 := rfl
theorem Opr.one (o : Opr) : ∀ u ∈ o.cells, u.oneCell' = true := by intro u hu; simp [Opr.cells] at hu; rcases hu with rfl | rfl <;> rfl
theorem SlAt.opAt {w : World} {a : Option Addr} {l : List Opr} (h : SlAt 2 (flat Opr.cells) w a l) (k : Nat) (hk : k < l.length) :
    ∃ b o, a = some ⟨b, o, none⟩ ∧ b < w.heap.size ∧ w.cell? ⟨b, o + k * 2, none⟩ = some (.int .i64 (l[k]?.getD Opr.zero).kind) ∧ w.cell? ⟨b, o + k * 2 + 1, none⟩ = some (.int .i64 (l[k]?.getD Opr.zero).n) := by
  rcases h with rfl | ⟨b, o, rfl, hlt, h⟩
  · simp at hk
  · obtain ⟨cs, h1, h2, h3⟩ := h k hk
    rw [List.getElem?_eq_getElem hk]
    unfold flat at h3
    subst h3
    exact ⟨b, o, rfl, hlt, h2 0 (by omega), h2 1 (by omega)⟩
/-- Does an event pass, as it is? -/
def passO (o : Opr) (e : Ev) : Bool := if o.kind = 4 then decide (o.n < e.value) else if o.kind = 5 then decide (e.value < o.n) else if o.kind = 6 then decide (e.key = o.n) else false
def applyO (o : Opr) (e : Ev) : Option Ev :=
  if o.kind = 1 then some { e with value := wrap64 (e.value + o.n) }
  else if o.kind = 2 then some { e with value := wrap64 (e.value * o.n) }
  else if o.kind = 3 ∧ 1 ≤ o.n then some { e with key := e.value % o.n }
  else if passO o e then some e else none
theorem passes_any (o : Opr) (e : Ev) (w : World) : Calls Tryz.prog 144 #[.agg o.cells.toArray, .agg e.cells.toArray] w fun x w' => x = .returned (.bool (passO o e)) ∧ w' = (w.alloc (.cells o.cells.toArray 147)).alloc (.cells e.cells.toArray 63) := by
  obtain ⟨k, n⟩ := o
  obtain ⟨t, ky, v, lb⟩ := e
  simp only [Opr.cells, Ev.cells]
  by_cases k4 : k = 4
  · subst k4
    by_cases hv : n < v
    all_goals
      have he : passO ⟨4, n⟩ ⟨t, ky, v, lb⟩ = decide (n < v) := by simp [passO]
      rw [he]
      clear he
      go_enter Tryz.func144, Tryz.ntmps144
      go_wp2
      go_ret
      exact ⟨by simp [hv], rfl⟩
  · by_cases k5 : k = 5
    · subst k5
      by_cases hv : v < n
      all_goals
        have he : passO ⟨5, n⟩ ⟨t, ky, v, lb⟩ = decide (v < n) := by simp [passO]
        rw [he]
        clear he
        go_enter Tryz.func144, Tryz.ntmps144
        go_wp2
        go_ret
        exact ⟨by simp [hv], rfl⟩
    · by_cases k6 : k = 6
      · subst k6
        have he : passO ⟨6, n⟩ ⟨t, ky, v, lb⟩ = (ky == n) := by rw [Bool.eq_iff_iff]; simp [passO]
        rw [he]
        clear he
        go_enter Tryz.func144, Tryz.ntmps144
        go_wp2
        go_ret
        exact ⟨rfl, rfl⟩
      · have he : passO ⟨k, n⟩ ⟨t, ky, v, lb⟩ = false := by simp [passO, k4, k5, k6]
        rw [he]
        clear he
        go_enter Tryz.func144, Tryz.ntmps144
        go_wp2
        go_ret
        exact ⟨rfl, rfl⟩
def okE (r : Option Ev) : Value := .tuple #[.agg (r.getD Ev.zero).cells.toArray, .bool r.isSome]
set_option maxHeartbeats 1000000 in
theorem apply_any (o : Opr) (e : Ev) (ho : o.wf) (he : e.wf) (w : World) : Calls Tryz.prog 129 #[.agg o.cells.toArray, .agg e.cells.toArray] w fun x w' => x = .returned (okE (applyO o e)) ∧ Below w.heap.size w w' := by
  obtain ⟨k, n⟩ := o
  obtain ⟨t, ky, v, lb⟩ := e
  simp only [Opr.cells, Ev.cells]
  have hn := i64_range ho.2
  have hv := i64_range he.2.2.1
  have hky := i64_range he.2.1
  dsimp only at hn hv hky
  clear ho he
  by_cases k1 : k = 1
  · subst k1
    have he : applyO ⟨1, n⟩ ⟨t, ky, v, lb⟩ = some ⟨t, ky, wrap64 (v + n), lb⟩ := by simp [applyO]
    rw [he]
    clear he
    go_enter Tryz.func129, Tryz.ntmps129
    go_wp2
    exact bodyPost_ret (by simp [results, go_sem]; rfl) rfl ⟨rfl, by go_grown⟩
  · by_cases k2 : k = 2
    · subst k2
      have he : applyO ⟨2, n⟩ ⟨t, ky, v, lb⟩ = some ⟨t, ky, wrap64 (v * n), lb⟩ := by simp [applyO]
      rw [he]
      clear he
      go_enter Tryz.func129, Tryz.ntmps129
      go_wp2
      exact bodyPost_ret (by simp [results, go_sem]; rfl) rfl ⟨rfl, by go_grown⟩
    · by_cases k3 : k = 3
      · subst k3
        by_cases h1 : 1 ≤ n
        · have he : applyO ⟨3, n⟩ ⟨t, ky, v, lb⟩ = some ⟨t, v % n, v, lb⟩ := by simp [applyO, h1]
          rw [he]
          clear he
          have hz : (n == 0) = false := by simp; omega
          have hm := Int.emod_nonneg v (show n ≠ 0 by omega)
          have hm2 := Int.emod_lt_of_pos v (show 0 < n by omega)
          by_cases hneg : v.tmod n < 0
          · have h3 : ¬ (0 ≤ v) := fun h => by rw [Int.tmod_eq_emod_of_nonneg h] at hneg; omega
            have hq : v.tmod n + n = v % n := by
              rw [Int.tmod_eq_emod] at hneg ⊢
              split
              · rename_i hc
                rw [if_pos hc] at hneg
                omega
              · first | omega | (simp; omega)
            have hlo : -n ≤ v.tmod n := by omega
            rw [← hq]
            clear hq hm hm2 h3
            go_enter Tryz.func129, Tryz.ntmps129
            go_wp2
            exact bodyPost_ret (by simp [results, go_sem]; rfl) rfl ⟨rfl, by go_grown⟩
          · have hq : v.tmod n = v % n := by
              rw [Int.tmod_eq_emod] at hneg ⊢
              split
              · simp
              · rename_i hc
                rw [if_neg hc] at hneg
                simp at hneg
                omega
            rw [← hq]
            clear hq hm hm2
            go_enter Tryz.func129, Tryz.ntmps129
            go_wp2
            exact bodyPost_ret (by simp [results, go_sem]; rfl) rfl ⟨rfl, by go_grown⟩
        · have he : applyO ⟨3, n⟩ ⟨t, ky, v, lb⟩ = none := by simp [applyO, passO, h1]
          have hp : passO ⟨3, n⟩ ⟨t, ky, v, lb⟩ = false := by simp [passO]
          rw [he]
          clear he
          go_enter Tryz.func129, Tryz.ntmps129
          go_wp2_with (go_at_call 144; refine (passes_any ⟨3, n⟩ ⟨t, ky, v, lb⟩ _).mono ?_; rintro e w' ⟨rfl, rfl⟩; rw [hp]; dsimp only [Opr.cells, Ev.cells])
          exact bodyPost_ret (by simp [results, go_sem]; rfl) rfl ⟨rfl, by go_grown⟩
      · have he : applyO ⟨k, n⟩ ⟨t, ky, v, lb⟩ = if passO ⟨k, n⟩ ⟨t, ky, v, lb⟩ then some ⟨t, ky, v, lb⟩ else none := by simp [applyO, k1, k2, k3]
        rw [he]
        cases hp : passO ⟨k, n⟩ ⟨t, ky, v, lb⟩
        all_goals
          have HP := Lib.hid hp
          clear he hp
          go_enter Tryz.func129, Tryz.ntmps129
          go_wp2_with (go_at_call 144; refine (passes_any ⟨k, n⟩ ⟨t, ky, v, lb⟩ _).mono ?_; rintro e w' ⟨rfl, rfl⟩; rw [HP.out]; dsimp only [Opr.cells, Ev.cells])
          exact bodyPost_ret (by simp [results, go_sem]; rfl) rfl ⟨rfl, by go_grown⟩
/-- Operations, one by one. -/
def runO (e : Ev) (l : List Opr) : Option Ev := l.foldl (fun r o => r.bind (applyO o)) (some e)
theorem wrap64_wf (n : Int) : (Lit.int .i64 (wrap64 n)).wf = true := wf_wrap n
theorem applyO_wf {o : Opr} {e x : Ev} (he : e.wf) (ho : o.wf) (h : applyO o e = some x) : x.wf := by
  unfold applyO at h
  split at h
  · cases h; exact ⟨he.1, he.2.1, wrap64_wf _, he.2.2.2⟩
  split at h
  · cases h; exact ⟨he.1, he.2.1, wrap64_wf _, he.2.2.2⟩
  split at h
  · rename_i hk
    cases h
    have hn := i64_range ho.2
    have h0 := Int.emod_nonneg e.value (show o.n ≠ 0 by omega)
    have h1 := Int.emod_lt_of_pos e.value (show 0 < o.n by omega)
    exact ⟨he.1, WalkArith.wf_i64 (by dsimp only; omega), he.2.2.1, he.2.2.2⟩
  split at h
  · cases h; exact he
  · cases h
theorem runO_none (l : List Opr) : l.foldl (fun r o => r.bind (applyO o)) none = none := by
  induction l with
  | nil => rfl
  | cons o l ih => exact ih
theorem runO_snoc (e : Ev) (l : List Opr) {k : Nat} (hk : k < l.length) : runO e (l.take (k + 1)) = (runO e (l.take k)).bind (applyO l[k]) := by
  unfold runO
  rw [List.take_add_one, List.getElem?_eq_getElem hk, Option.toList_some, List.foldl_append]
  rfl
theorem runO_short (e : Ev) (l : List Opr) (k : Nat) (h : runO e (l.take k) = none) : runO e l = none := by
  conv => lhs; rw [← List.take_append_drop k l]
  unfold runO at *
  rw [List.foldl_append, h, runO_none]
theorem blkCells {w : World} {b : Nat} {cs : Array Value} {T : TypeId} (h : w.heap[b]? = some (.cells cs T (0, 0))) : (∀ i, w.cell? ⟨b, i, none⟩ = cs[i]?) ∧ (∀ i, w.frozen? ⟨b, i, none⟩ = false) :=
  ⟨fun i => by simp [World.cell?, h], fun i => by simp [World.frozen?, h]⟩
set_option maxHeartbeats 1000000 in
theorem run_any (e : Ev) (a : Option Addr) (cap : Nat) (l : List Opr) (w : World) (he : e.wf) (hl : SlAt 2 (flat Opr.cells) w a l) (hw : ∀ o ∈ l, o.wf) (hlen : l.length ≤ 1000000) :
    Calls Tryz.prog 111 #[.agg e.cells.toArray, .slice a l.length cap] w fun x w' => x = .returned (okE (runO e l)) ∧ Below w.heap.size w w' := by
  have HL := Lib.hid hl
  have HW := Lib.hid hw
  have HE := Lib.hid he
  clear hl hw he
  dsimp only [Ev.cells]
  go_enter Tryz.func111, Tryz.ntmps111
  go_wp2_with fail
  go_loopw [12] (fun iv wr => ∃ (k : Nat) (x : Ev), k ≤ l.length ∧ iv = .int .i64 k ∧ runO e (l.take k) = some x ∧ x.wf ∧ wr.heap[w.heap.size]? = some (.cells #[.int .i64 x.time, .int .i64 x.key, .int .i64 x.value, .int .u64 x.label] 63 (0, 0)) ∧ wr.heap[w.heap.size + 1]? = some (.cells #[.int .i64 0, .int .i64 0, .int .i64 0, .int .u64 0] 63 (0, 0)) ∧ Below w.heap.size w wr) (fun iv _ => l.length - (intOf iv).toNat)
  case atStart => exact ⟨0, e, by omega, rfl, rfl, HE.out, (Below.heap_alloc _ _ _ (by simp)).trans (heap_new _ _), new_at _ _ _ (by simp), by go_grown⟩
  case round =>
    obtain ⟨k, x, hk, rfl, hx, hxw, hb0, hb1, hbel⟩ := hrel
    have hs1 := (Array.getElem?_eq_some_iff.1 hb1).1
    have hs0 := (Array.getElem?_eq_some_iff.1 hb0).1
    have hsz := hbel.size
    have HX := Lib.hid hx
    have HXW := Lib.hid hxw
    have HB0 := Lib.hid hb0
    have HB1 := Lib.hid hb1
    have HBEL := Lib.hid hbel
    clear hx hxw hb0 hb1 hbel
    generalize hg : w.heap.size = g at *
    have HG := Lib.hid hg
    clear hg
    by_cases hlt : (k : Int) < l.length
    · have hkn : k < l.length := by omega
      obtain ⟨b, o, rfl, hbl, c0, c1⟩ := (HL.out.below (w' := wr) (by rw [HG.out]; exact HBEL.out) (fun _ _ h => h)).opAt k hkn
      have how := HW.out _ (List.getElem_mem hkn)
      have hsn := runO_snoc e l hkn
      rw [HX.out, Option.bind_some] at hsn
      rw [List.getElem?_eq_getElem hkn] at c0 c1
      simp only [Option.getD_some] at c0 c1
      generalize l[k] = op at *
      have HSN := Lib.hid hsn
      have HOW := Lib.hid how
      clear hsn how
      obtain ⟨q0, z0⟩ := blkCells HB0.out
      obtain ⟨q1, z1⟩ := blkCells HB1.out
      cases happ : applyO op x with
      | none =>
        have HA := Lib.hid happ
        clear happ
        go_wp2_with (go_at_call 129; refine (apply_any op x HOW.out HXW.out _).mono ?_; rintro y w1 ⟨rfl, hb⟩; rw [HA.out]; dsimp only [okE, Option.getD_none, Ev.zero, Ev.cells, Option.isSome_none]; obtain ⟨p1, y1⟩ := blkCells ((hb.block (g + 1) (by simp; omega)).trans ((Below.heap_alloc _ _ _ hs1).trans HB1.out)); have hs2 := hb.size; simp only [World.size_alloc] at hs2; have hs3 : g < w1.heap.size := (by omega); have hs4 : g + 1 < w1.heap.size := (by omega); have HB := Lib.hid hb; clear hb)
        exact bodyPost_ret (by simp [results, go_sem, p1, hs4]; rfl) rfl ⟨by rw [runO_short e l (k + 1) (HSN.out.trans HA.out)]; rfl, by have hb := ((HBEL.out.alloc hsz (.cells #[.int .i64 op.kind, .int .i64 op.n] 147)).trans (HB.out.mono (by simp; omega))); rw [HG.out]; refine hb.trans ?_; go_grown⟩
      | some y =>
        have HA := Lib.hid happ
        clear happ
        go_wp2_with (go_at_call 129; refine (apply_any op x HOW.out HXW.out _).mono ?_; rintro y' w1 ⟨rfl, hb⟩; rw [HA.out]; dsimp only [okE, Option.getD_some, Ev.cells, Option.isSome_some]; have HC0 := Lib.hid ((hb.block g (by simp; omega)).trans ((Below.heap_alloc _ _ _ hs0).trans HB0.out)); have HC1 := Lib.hid ((hb.block (g + 1) (by simp; omega)).trans ((Below.heap_alloc _ _ _ hs1).trans HB1.out)); obtain ⟨p0, y0⟩ := blkCells HC0.out; have hs2 := hb.size; simp only [World.size_alloc] at hs2; have hs3 : g < w1.heap.size := (by omega); have hs4 : g + 1 < w1.heap.size := (by omega); have HB := Lib.hid hb; clear hb)
        go_roundw
        case rel => exact ⟨k + 1, y, by omega, by go_num, HSN.out.trans HA.out, applyO_wf HXW.out HOW.out HA.out, (Below.heap_alloc _ _ _ (by simp; omega)).trans (heap_setCell_row (heap_setCell_row (heap_setCell_row (heap_setCell_row HC0.out 0 _) 1 _) 2 _) 3 _), (Below.heap_alloc _ _ _ (by simp; omega)).trans (((((Below.heap_setCell _ _ _ _ (by simp)).trans (Below.heap_setCell _ _ _ _ (by simp))).trans (Below.heap_setCell _ _ _ _ (by simp))).trans (Below.heap_setCell _ _ _ _ (by simp))).trans HC1.out), by have hb := ((HBEL.out.alloc hsz (.cells #[.int .i64 op.kind, .int .i64 op.n] 147)).trans (HB.out.mono (by simp; omega))); refine hb.trans ?_; go_grown⟩
        case measure => simp [intOf]; omega
    · obtain ⟨q0, z0⟩ := blkCells HB0.out
      obtain ⟨q1, z1⟩ := blkCells HB1.out
      obtain rfl : k = l.length := by omega
      have hr := HX.out
      rw [List.take_length] at hr
      have HR := Lib.hid hr
      clear hr
      go_wp2
      exact bodyPost_ret (by simp [results, go_sem, q1]; rfl) rfl ⟨by rw [HR.out]; rfl, by rw [HG.out]; refine HBEL.out.trans ?_; go_grown⟩
/-- The same, as a walk spells it. -/
theorem run_at (e : Ev) (a : Option Addr) (cap : Nat) (l : List Opr) (w : World) (he : e.wf) (hl : SlAt 2 (flat Opr.cells) w a l) (hw : ∀ o ∈ l, o.wf) (hlen : l.length ≤ 1000000) :
    Calls Tryz.prog 111 #[.agg #[.int .i64 e.time, .int .i64 e.key, .int .i64 e.value, .int .u64 e.label], .slice a l.length cap] w fun x w' => x = .returned (okE (runO e l)) ∧ Below w.heap.size w w' := run_any e a cap l w he hl hw hlen
end
/- Pipe -/
section
open Go.RowKit Go.Maps
def rightO (o : Opr) : Bool := if o.kind = 1 ∨ o.kind = 2 ∨ o.kind = 4 ∨ o.kind = 5 then true else if o.kind = 3 then decide (1 ≤ o.n) && decide (o.n ≤ 256) else if o.kind = 6 then decide (0 ≤ o.n) && decide (o.n ≤ 255) else false
theorem rightO_any (o : Opr) (w : World) : Calls Tryz.prog 127 #[.agg o.cells.toArray] w fun x w' => x = .returned (.bool (rightO o)) ∧ w' = w.alloc (.cells o.cells.toArray 147) := by
  obtain ⟨k, n⟩ := o
  simp only [Opr.cells]
  by_cases h : k = 1 ∨ k = 2 ∨ k = 4 ∨ k = 5
  · have he : rightO ⟨k, n⟩ = true := by simp [rightO, h]
    rw [he]
    clear he
    rcases h with rfl | rfl | rfl | rfl
    all_goals
      go_enter Tryz.func127, Tryz.ntmps127
      go_wp2
      go_ret
      exact ⟨rfl, rfl⟩
  · by_cases k3 : k = 3
    · subst k3
      have he : rightO ⟨3, n⟩ = (decide (1 ≤ n) && decide (n ≤ 256)) := by simp [rightO]
      rw [he]
      clear he h
      cases h1 : decide (1 ≤ n) <;> cases h2 : decide (n ≤ 256)
      all_goals
        go_enter Tryz.func127, Tryz.ntmps127
        go_wp2
        go_ret
        exact ⟨by simp, rfl⟩
    · by_cases k6 : k = 6
      · subst k6
        have he : rightO ⟨6, n⟩ = (decide (0 ≤ n) && decide (n ≤ 255)) := by simp [rightO]
        rw [he]
        clear he h
        cases h1 : decide (0 ≤ n) <;> cases h2 : decide (n ≤ 255)
        all_goals
          go_enter Tryz.func127, Tryz.ntmps127
          go_wp2
          go_ret
          exact ⟨by simp, rfl⟩
      · have he : rightO ⟨k, n⟩ = false := by simp [rightO, h, k3, k6]
        rw [he]
        clear he
        simp only [not_or] at h
        obtain ⟨k1, k2, k4, k5⟩ := h
        go_enter Tryz.func127, Tryz.ntmps127
        go_wp2
        go_ret
        exact ⟨rfl, rfl⟩
def rightOps (l : List Opr) : Bool := decide (l.length ≤ 6) && l.all rightO
theorem all_take {l : List Opr} {k : Nat} (hk : k < l.length) : (l.take (k + 1)).all rightO = ((l.take k).all rightO && rightO l[k]) := by
  rw [List.take_add_one, List.getElem?_eq_getElem hk, Option.toList_some, List.all_append]
  simp
set_option maxHeartbeats 1000000 in
theorem rightOps_any (a : Option Addr) (cap : Nat) (l : List Opr) (w : World) (hl : SlAt 2 (flat Opr.cells) w a l) (hmx : l.length ≤ maxLen) :
    Calls Tryz.prog 104 #[.slice a l.length cap] w fun x w' => x = .returned (.bool (rightOps l)) ∧ Below w.heap.size w w' := by
  unfold maxLen at hmx
  by_cases h6 : (l.length : Int) ≤ 6
  · have HL := Lib.hid hl
    clear hl
    go_enter Tryz.func104, Tryz.ntmps104
    go_wp2_with fail
    go_loopw [10] (fun iv wr => ∃ (k : Nat), k ≤ l.length ∧ iv = .int .i64 k ∧ (l.take k).all rightO = true ∧ Below w.heap.size w wr) (fun iv _ => l.length - (intOf iv).toNat)
    case atStart => exact ⟨0, by omega, rfl, rfl, Below.refl _ _⟩
    case round =>
      obtain ⟨k, hk, rfl, hall, hbel⟩ := hrel
      have HA := Lib.hid hall
      have HBEL := Lib.hid hbel
      have hsz := hbel.size
      clear hall hbel
      by_cases hlt : (k : Int) < l.length
      · have hkn : k < l.length := by omega
        obtain ⟨b, o, rfl, hbl, c0, c1⟩ := (HL.out.below (w' := wr) HBEL.out (fun _ _ h => h)).opAt k hkn
        have hsn := all_take hkn
        have hme := List.getElem_mem hkn
        rw [HA.out, Bool.true_and] at hsn
        rw [List.getElem?_eq_getElem hkn] at c0 c1
        simp only [Option.getD_some] at c0 c1
        have hfa : rightO l[k] = false → rightOps l = false := fun h => by
          unfold rightOps
          have : l.all rightO = false := List.all_eq_false.2 ⟨_, hme, by simp [h]⟩
          rw [this, Bool.and_false]
        generalize l[k] = op at *
        have HSN := Lib.hid hsn
        have HFA := Lib.hid hfa
        clear hsn hme hfa
        cases happ : rightO op with
        | false =>
          have HR := Lib.hid happ
          clear happ
          go_wp2_with (go_at_call 127; refine (rightO_any op _).mono ?_; rintro y w1 ⟨rfl, rfl⟩; rw [HR.out]; dsimp only [Opr.cells])
          go_ret
          exact ⟨by rw [HFA.out HR.out]; rfl, HBEL.out.trans (by go_grown)⟩
        | true =>
          have HR := Lib.hid happ
          clear happ
          go_wp2_with (go_at_call 127; refine (rightO_any op _).mono ?_; rintro y w1 ⟨rfl, rfl⟩; rw [HR.out]; dsimp only [Opr.cells])
          go_roundw
          case rel => exact ⟨k + 1, by omega, by go_num, HSN.out.trans HR.out, HBEL.out.trans (by go_grown)⟩
          case measure => simp [intOf]; omega
      · obtain rfl : k = l.length := by omega
        have hr := HA.out
        rw [List.take_length] at hr
        have hro : rightOps l = true := by unfold rightOps; simp [hr]; omega
        have HR := Lib.hid hro
        clear hr hro
        go_wp2
        go_ret
        exact ⟨by rw [HR.out]; rfl, HBEL.out⟩
  · have hro : rightOps l = false := by unfold rightOps; simp; omega
    rw [hro]
    clear hro hl
    go_enter Tryz.func104, Tryz.ntmps104
    go_wp2
    go_ret
    exact ⟨rfl, Below.refl _ _⟩
def rightK (k : Int) : Bool := decide (1 ≤ k) && decide (k ≤ 4)
theorem rightK_any (k : Int) (w : World) : Calls Tryz.prog 106 #[.int .i64 k] w fun x w' => x = .returned (.bool (rightK k)) ∧ w' = w := by
  unfold rightK
  by_cases h1 : 1 ≤ k <;> by_cases h2 : k ≤ 4
  all_goals
    go_enter Tryz.func106, Tryz.ntmps106
    go_wp2
    go_ret
    exact ⟨by simp [h1, h2], rfl⟩
def placeOk (n : Int) : Bool := (n == -1) || (decide (0 ≤ n) && decide (n < 4))
theorem place_any (n : Int) (w : World) : Calls Tryz.prog 107 #[.int .i64 n] w fun x w' => x = .returned (.bool (placeOk n)) ∧ w' = w := by
  unfold placeOk
  by_cases h0 : n = -1
  · subst h0
    go_enter Tryz.func107, Tryz.ntmps107
    go_wp2
    go_ret
    exact ⟨rfl, rfl⟩
  · have hb : (n == -1) = false := by simp [h0]
    by_cases h1 : 0 ≤ n <;> by_cases h2 : n < 4
    all_goals
      go_enter Tryz.func107, Tryz.ntmps107
      go_wp2
      go_ret
      exact ⟨by simp [h1, h2], rfl⟩
/-- A pipe. -/
structure Pp where
  ops : List Opr
  size : Int
  slide : Int
  agg : Int
  sink : Int
  feed : Int
deriving DecidableEq
def Pp.tail (p : Pp) : List Value := [.int .i64 p.size, .int .i64 p.slide, .int .i64 p.agg, .int .i64 p.sink, .int .i64 p.feed]
def rightPp (p : Pp) : Bool := rightOps p.ops && decide (rightW p.size p.slide) && rightK p.agg && placeOk p.sink && placeOk p.feed
set_option maxHeartbeats 400000 in
set_option maxRecDepth 20000 in
theorem rightPp_any (p : Pp) (a : Option Addr) (cap : Nat) (w : World) (hl : SlAt 2 (flat Opr.cells) w a p.ops) (hmx : p.ops.length ≤ maxLen) :
    Calls Tryz.prog 80 #[.agg #[.slice a p.ops.length cap, .int .i64 p.size, .int .i64 p.slide, .int .i64 p.agg, .int .i64 p.sink, .int .i64 p.feed]] w fun x w' => x = .returned (.bool (rightPp p)) ∧ Below w.heap.size w w' := by
  obtain ⟨ops, size, slide, ag, sink, feed⟩ := p
  dsimp only at hl hmx ⊢
  unfold rightPp
  dsimp only
  have HL := Lib.hid hl
  clear hl
  cases h1 : rightOps ops <;> cases h2 : decide (rightW size slide) <;> cases h3 : rightK ag <;> cases h4 : placeOk sink
  all_goals
    have H1 := Lib.hid h1
    have H2 := Lib.hid h2
    have H3 := Lib.hid h3
    have H4 := Lib.hid h4
    clear h1 h2 h3 h4
    go_enter Tryz.func80, Tryz.ntmps80
    go_wp2_with (first
      | (go_at_call 104; refine (rightOps_any a cap ops _ (HL.out.below ((Below.refl _ w).alloc (Nat.le_refl _) _) (fun _ _ h => h)) hmx).mono ?_; rintro x w1 ⟨rfl, hb⟩; rw [H1.out]; obtain ⟨q1, z1⟩ := blkCells ((hb.block w.heap.size (by simp)).trans (heap_new _ _)); have hs1 := hb.size; simp only [World.size_alloc] at hs1; have hs2 : w.heap.size < w1.heap.size := (by omega); have HB := Lib.hid hb; clear hb)
      | (go_at_call 105; refine (right_any size slide _).mono ?_; rintro x w2 ⟨rfl, rfl⟩; rw [H2.out])
      | (go_at_call 106; refine (rightK_any ag _).mono ?_; rintro x w2 ⟨rfl, rfl⟩; rw [H3.out])
      | (go_at_call 107; refine (place_any _ _).mono ?_; rintro x w2 ⟨rfl, rfl⟩; try rw [H4.out]))
    go_ret
    exact ⟨by simp, ((Below.refl _ w).alloc (Nat.le_refl _) _).trans (HB.out.mono (by simp))⟩
end
/- Clock -/
section
open Go.RowKit Go.Maps
/-- A watermark, how many were late, how many were seen. -/
structure Clk where
  mark : Int
  late : Int
  seen : Int
def Clk.cells (c : Clk) : List Value := [.int .i64 c.mark, .int .i64 c.late, .int .i64 c.seen]
/-- Its bounds, when so many were seen. -/
def Clk.ok (c : Clk) (N : Nat) : Prop := 0 ≤ c.mark ∧ c.mark ≤ 1099512676352 ∧ 0 ≤ c.late ∧ c.late ≤ c.seen ∧ c.seen ≤ N
def onC (c : Clk) (t : Int) : Clk := if 0 ≤ t ∧ t ≤ 1099511627776 then (if t < c.mark then ⟨c.mark, c.late + 1, c.seen + 1⟩ else ⟨c.mark, c.late, c.seen + 1⟩) else c
def onB (c : Clk) (t : Int) : Bool := decide (0 ≤ t ∧ t ≤ 1099511627776 ∧ c.mark ≤ t)
def advC (c : Clk) (t : Int) : Clk := if c.mark < t ∧ t ≤ 1099512676352 then ⟨t, c.late, c.seen⟩ else c
def advB (c : Clk) (t : Int) : Bool := decide (c.mark < t ∧ t ≤ 1099512676352)
theorem Clk.ok_on {c : Clk} {N : Nat} (h : c.ok N) (t : Int) : (onC c t).ok (N + 1) := by
  obtain ⟨h1, h2, h3, h4, h5⟩ := h
  unfold onC
  split
  · split
    · exact ⟨h1, h2, by dsimp only; omega, by dsimp only; omega, by dsimp only; omega⟩
    · exact ⟨h1, h2, h3, by dsimp only; omega, by dsimp only; omega⟩
  · exact ⟨h1, h2, h3, h4, by omega⟩
theorem Clk.ok_adv {c : Clk} {N : Nat} (h : c.ok N) (t : Int) : (advC c t).ok N := by
  obtain ⟨h1, h2, h3, h4, h5⟩ := h
  unfold advC
  split
  · exact ⟨by dsimp only; omega, by dsimp only; omega, h3, h4, h5⟩
  · exact ⟨h1, h2, h3, h4, h5⟩
theorem Clk.ok_mono {c : Clk} {N M : Nat} (h : c.ok N) (hN : N ≤ M) : c.ok M := ⟨h.1, h.2.1, h.2.2.1, h.2.2.2.1, by have := h.2.2.2.2; omega⟩
set_option maxHeartbeats 400000 in
/-- clock.On at a clock that begins a block. -/
theorem on_any (b : Nat) (c : Clk) (t : Int) (rest : List Value) (T : TypeId) (w : World) (N : Nat) (hok : c.ok N) (hN : N < 2 ^ 60) (hb : w.heap[b]? = some (.cells (c.cells ++ rest).toArray T (0, 0))) :
    Calls Tryz.prog 110 #[.pointer (some ⟨b, 0, none⟩), .int .i64 t] w fun e w' => e = .returned (.bool (onB c t)) ∧ w' = (w.setCell ⟨b, 2, none⟩ (.int .i64 (onC c t).seen)).setCell ⟨b, 1, none⟩ (.int .i64 (onC c t).late) := by
  obtain ⟨q, z⟩ := blkCells hb
  have hlt := (Array.getElem?_eq_some_iff.1 hb).1
  obtain ⟨m, lt, sn⟩ := c
  obtain ⟨h1, h2, h3, h4, h5⟩ := hok
  dsimp only at h1 h2 h3 h4 h5
  have q0 : w.cell? ⟨b, 0, none⟩ = some (.int .i64 m) := by simp [q, Clk.cells]
  have q1 : w.cell? ⟨b, 1, none⟩ = some (.int .i64 lt) := by simp [q, Clk.cells]
  have q2 : w.cell? ⟨b, 2, none⟩ = some (.int .i64 sn) := by simp [q, Clk.cells]
  have z0 := z 0
  have z1 := z 1
  have z2 := z 2
  have E0 := Lib.hid (setCell_self q1)
  have E2 := Lib.hid (setCell_self q2)
  clear q z hb
  have E1 := Lib.hid (setCell_self (w := w.setCell ⟨b, 2, none⟩ (.int .i64 (sn + 1))) (b := b) (o := 1) (v := .int .i64 lt) (by go_simp))
  by_cases t0 : 0 ≤ t
  · by_cases t1 : t ≤ 1099511627776
    · by_cases t2 : t < m
      · have hB : onB ⟨m, lt, sn⟩ t = false := by unfold onB; simp; omega
        have hC : onC ⟨m, lt, sn⟩ t = ⟨m, lt + 1, sn + 1⟩ := by unfold onC; simp [t0, t1, t2]
        rw [hB, hC]
        dsimp only
        clear hB hC
        go_enter Tryz.func110, Tryz.ntmps110
        go_wp2
        go_ret
        exact ⟨rfl, rfl⟩
      · have hB : onB ⟨m, lt, sn⟩ t = true := by unfold onB; simp; omega
        have hC : onC ⟨m, lt, sn⟩ t = ⟨m, lt, sn + 1⟩ := by unfold onC; simp [t0, t1, t2]
        rw [hB, hC]
        dsimp only
        rw [E1.out]
        clear hB hC
        go_enter Tryz.func110, Tryz.ntmps110
        go_wp2
        go_ret
        exact ⟨rfl, rfl⟩
    · have hB : onB ⟨m, lt, sn⟩ t = false := by unfold onB; simp; omega
      have hC : onC ⟨m, lt, sn⟩ t = ⟨m, lt, sn⟩ := by unfold onC; simp [t0, t1]
      rw [hB, hC]
      dsimp only
      rw [E2.out, E0.out]
      clear hB hC
      go_enter Tryz.func110, Tryz.ntmps110
      go_wp2
      go_ret
      exact ⟨rfl, rfl⟩
  · have hB : onB ⟨m, lt, sn⟩ t = false := by unfold onB; simp; omega
    have hC : onC ⟨m, lt, sn⟩ t = ⟨m, lt, sn⟩ := by unfold onC; simp [t0]
    rw [hB, hC]
    dsimp only
    rw [E2.out, E0.out]
    clear hB hC
    go_enter Tryz.func110, Tryz.ntmps110
    go_wp2
    go_ret
    exact ⟨rfl, rfl⟩
theorem advance_any (b : Nat) (c : Clk) (t : Int) (rest : List Value) (T : TypeId) (w : World) (N : Nat) (hok : c.ok N) (hb : w.heap[b]? = some (.cells (c.cells ++ rest).toArray T (0, 0))) :
    Calls Tryz.prog 90 #[.pointer (some ⟨b, 0, none⟩), .int .i64 t] w fun e w' => e = .returned (.bool (advB c t)) ∧ w' = w.setCell ⟨b, 0, none⟩ (.int .i64 (advC c t).mark) := by
  obtain ⟨q, z⟩ := blkCells hb
  have hlt := (Array.getElem?_eq_some_iff.1 hb).1
  obtain ⟨m, lt, sn⟩ := c
  have q0 : w.cell? ⟨b, 0, none⟩ = some (.int .i64 m) := by simp [q, Clk.cells]
  have z0 := z 0
  have E0 := Lib.hid (setCell_self q0)
  clear q z hb hok
  by_cases t0 : m < t
  · by_cases t1 : t ≤ 1099512676352
    · have hB : advB ⟨m, lt, sn⟩ t = true := by unfold advB; simp; omega
      have hC : advC ⟨m, lt, sn⟩ t = ⟨t, lt, sn⟩ := by unfold advC; simp [t0, t1]
      rw [hB, hC]
      dsimp only
      clear hB hC
      go_enter Tryz.func90, Tryz.ntmps90
      go_wp2
      go_ret
      exact ⟨rfl, rfl⟩
    · have hB : advB ⟨m, lt, sn⟩ t = false := by unfold advB; simp; omega
      have hC : advC ⟨m, lt, sn⟩ t = ⟨m, lt, sn⟩ := by unfold advC; simp [t1]
      rw [hB, hC]
      dsimp only
      rw [E0.out]
      clear hB hC
      go_enter Tryz.func90, Tryz.ntmps90
      go_wp2
      go_ret
      exact ⟨rfl, rfl⟩
  · have hB : advB ⟨m, lt, sn⟩ t = false := by unfold advB; simp; omega
    have hC : advC ⟨m, lt, sn⟩ t = ⟨m, lt, sn⟩ := by unfold advC; simp [t0]
    rw [hB, hC]
    dsimp only
    rw [E0.out]
    clear hB hC
    go_enter Tryz.func90, Tryz.ntmps90
    go_wp2
    go_ret
    exact ⟨rfl, rfl⟩
theorem mark_any (c : Clk) (w : World) : Calls Tryz.prog 92 #[.agg c.cells.toArray] w fun e w' => e = .returned (.int .i64 c.mark) ∧ w' = w.alloc (.cells c.cells.toArray 87) := by
  dsimp only [Clk.cells]
  go_enter Tryz.func92, Tryz.ntmps92
  go_wp2
  go_ret
  exact ⟨rfl, rfl⟩
theorem opElem : Elem Tryz.prog 59 147 2 Opr.cells :=
  ⟨Opr.len, by decide, Opr.one, Tryz.underlying59, by
    obtain ⟨i, h1, h2, h3, h4⟩ := info_parts (P := Tryz.prog) (e := 147) (z := .agg #[.int .i64 0, .int .i64 0]) (size := 2) (bytes := 16) (by kernel_rfl)
    exact ⟨i, _, h1, h2, h3, by omega, rfl⟩⟩
/-- slices.Clone at operations: a copy of its own. -/
theorem cloneOp_st {w0 w : World} {L : List HP} (h : St w0 w L) (a : Option Addr) (cap : Nat) (l : List Opr) (hl : SlAt 2 (flat Opr.cells) w a l) (hn : a = none → cap = 0) (hlen : l.length ≤ 1099511627776) :
    Calls Tryz.prog 87 #[.slice a l.length cap] w fun e w' => ∃ v, e = .returned v ∧ St w0 w' (L ++ [ownP 147 2 Opr.cells v l]) := by
  have HS := Lib.hid h
  have HL := Lib.hid hl
  have HN := Lib.hid hlen
  clear h hl hlen
  have q : ∀ (w : World) (a : Option Addr) (n c n' c' : Nat), (binOp .eql 59 (.slice a n c) (.slice none n' c')).run Tryz.prog w = .ok (.bool a.isNone) w := fun w a n c n' c' => Lib.run_eql_slice_nil w _ _ a n c n' c' Tryz.underlying59
  cases a with
  | none =>
    have hll : l = [] := by rcases HL.out with h | ⟨b, o, he, _⟩; exact h; cases he
    subst hll
    obtain rfl := hn rfl
    clear hn HN
    go_enter Tryz.func87, Tryz.ntmps87
    go_wp2
    go_ret
    exact ⟨_, rfl, HS.out.nil _ _ _⟩
  | some a =>
    go_enter Tryz.func87, Tryz.ntmps87
    go_wp2_with (at_builtin; refine wpList_copy_st opElem rfl (HS.out.alloc (.cells #[] 147)) L.length (by simp) _ _ rfl rfl (some a) cap l rfl (by simp) (HL.out.below ((Below.refl _ w).alloc (Nat.le_refl _) _) (fun _ _ h => h)) HN.out ?_; intro b c w1 h1)
    go_ret
    refine ⟨_, rfl, ?_⟩
    simpa using h1
end
/- Runner -/
section
open Go.RowKit Go.Maps
/-- A runner: its clock, its pipe, the windows that are open. -/
structure Rn where
  c : Clk
  p : Pp
  L : PL
def Rn.cells (r : Rn) (pb : Nat) (v : Value) : Array Value := #[.int .i64 r.c.mark, .int .i64 r.c.late, .int .i64 r.c.seen, .pointer (some ⟨pb, 0, none⟩), v, .int .i64 r.p.size, .int .i64 r.p.slide, .int .i64 r.p.agg, .int .i64 r.p.sink, .int .i64 r.p.feed]
def Rn.ok (r : Rn) (N : Nat) : Prop := r.c.ok N ∧ (∀ o ∈ r.p.ops, o.wf) ∧ r.p.ops.length ≤ 6
def rnP (rb : Nat) (r : Rn) (N : Nat) : HP := exP fun x : Nat × Value => andP (r.ok N) (sepL [pt rb (.cells (r.cells x.1 x.2) 90 (0, 0)), panesP x.1 r.p.size r.p.slide r.p.agg (8 * N) r.L, ownP 147 2 Opr.cells x.2 r.p.ops])
/-- A runner, laid open. -/
theorem rn_open {w0 w : World} {L : List HP} {rb N : Nat} {r : Rn} (h : St w0 w L) (n : Nat) (hn : L[n]? = some (rnP rb r N)) : ∃ (pb : Nat) (v : Value), r.ok N ∧ St w0 w [pt rb (.cells (r.cells pb v) 90 (0, 0)), panesP pb r.p.size r.p.slide r.p.agg (8 * N) r.L, ownP 147 2 Opr.cells v r.p.ops, sepL (L.set n emp)] := by
  obtain ⟨x, h2⟩ := (h.front n hn).ex 0 rfl
  obtain ⟨hφ, h3⟩ := h2.pure 0 rfl
  exact ⟨x.1, x.2, hφ, h3.ungroup⟩
theorem rn_shut {w0 w : World} {L K : List HP} {rb N pb n : Nat} {v : Value} {r : Rn} (hok : r.ok N) (hn : n < L.length)
    (h : St w0 w (pt rb (.cells (r.cells pb v) 90 (0, 0)) :: panesP pb r.p.size r.p.slide r.p.agg (8 * N) r.L :: ownP 147 2 Opr.cells v r.p.ops :: sepL (L.set n emp) :: K)) : St w0 w (L.set n (rnP rb r N) ++ K) :=
  ((St.group (L := [_, _, _]) h).imp 0 rfl (X' := rnP rb r N) fun h hh => ⟨(pb, v), hok, hh⟩).back hn
/-- A runner, laid open among others. -/
theorem rn_flat {w0 w : World} {L : List HP} {rb N : Nat} {r : Rn} (h : St w0 w L) (n : Nat) (hn : L[n]? = some (rnP rb r N)) : ∃ (pb : Nat) (v : Value), r.ok N ∧ St w0 w (L.set n emp ++ [pt rb (.cells (r.cells pb v) 90 (0, 0)), panesP pb r.p.size r.p.slide r.p.agg (8 * N) r.L, ownP 147 2 Opr.cells v r.p.ops]) := by
  have hnl := (List.getElem?_eq_some_iff.1 hn).1
  obtain ⟨x, h2⟩ := h.ex n hn
  obtain ⟨hφ, h3⟩ := h2.pure n (by simp [hnl]; rfl)
  have h4 := h3.split n (by simp [hnl]; rfl)
  rw [List.set_set, List.set_set] at h4
  exact ⟨x.1, x.2, hφ, h4⟩
theorem rn_pack {r : Rn} {rb N pb : Nat} {v : Value} (hok : r.ok N) (h : Nat → Option Obj) (hh : sepL [pt rb (.cells (r.cells pb v) 90 (0, 0)), panesP pb r.p.size r.p.slide r.p.agg (8 * N) r.L, ownP 147 2 Opr.cells v r.p.ops] h) : rnP rb r N h := ⟨(pb, v), hok, hh⟩
theorem onC_mark (c : Clk) (t : Int) : (onC c t).mark = c.mark := by
  unfold onC
  split
  · split <;> rfl
  · rfl
theorem set2 {L : List HP} {n b : Nat} {cs : Array Value} {T : TypeId} {w0 w : World} (h : St w0 w L) (hn : L[n]? = some (pt b (.cells cs T (0, 0)))) (i j : Nat) (u v : Value) :
    St w0 ((w.setCell ⟨b, i, none⟩ u).setCell ⟨b, j, none⟩ v) (L.set n (pt b (.cells ((cs.setIfInBounds i u).setIfInBounds j v) T (0, 0)))) := by
  have hnl := (List.getElem?_eq_some_iff.1 hn).1
  have := (h.set n hn i u).set n (by simp [hnl]; rfl) j v
  rwa [List.set_set] at this
theorem on_st {w0 w : World} {L : List HP} {n b N : Nat} {c : Clk} {rest : List Value} {T : TypeId} (h : St w0 w L) (hn : L[n]? = some (pt b (.cells (c.cells ++ rest).toArray T (0, 0)))) (t : Int) (hok : c.ok N) (hN : N < 2 ^ 60) :
    Calls Tryz.prog 110 #[.pointer (some ⟨b, 0, none⟩), .int .i64 t] w fun e w' => e = .returned (.bool (onB c t)) ∧ St w0 w' (L.set n (pt b (.cells ((onC c t).cells ++ rest).toArray T (0, 0)))) :=
  (on_any b c t rest T w N hok hN (h.blk n hn).1).mono (by
    rintro e w' ⟨rfl, rfl⟩
    refine ⟨rfl, ?_⟩
    have := set2 h hn 2 1 (.int .i64 (onC c t).seen) (.int .i64 (onC c t).late)
    have e : ((c.cells ++ rest).toArray.setIfInBounds 2 (.int .i64 (onC c t).seen)).setIfInBounds 1 (.int .i64 (onC c t).late) = ((onC c t).cells ++ rest).toArray := by
      simp [Clk.cells, onC_mark]
    rwa [e] at this)
theorem advance_st {w0 w : World} {L : List HP} {n b N : Nat} {c : Clk} {rest : List Value} {T : TypeId} (h : St w0 w L) (hn : L[n]? = some (pt b (.cells (c.cells ++ rest).toArray T (0, 0)))) (t : Int) (hok : c.ok N) :
    Calls Tryz.prog 90 #[.pointer (some ⟨b, 0, none⟩), .int .i64 t] w fun e w' => e = .returned (.bool (advB c t)) ∧ St w0 w' (L.set n (pt b (.cells ((advC c t).cells ++ rest).toArray T (0, 0)))) :=
  (advance_any b c t rest T w N hok (h.blk n hn).1).mono (by
    rintro e w' ⟨rfl, rfl⟩
    refine ⟨rfl, ?_⟩
    have := h.set n hn 0 (.int .i64 (advC c t).mark)
    have e : (c.cells ++ rest).toArray.setIfInBounds 0 (.int .i64 (advC c t).mark) = ((advC c t).cells ++ rest).toArray := by
      unfold advC
      split <;> simp [Clk.cells]
    rwa [e] at this)
theorem wpList_at {P : Program} {ops : Array Oper} {Q : Exit → Act → World → Prop} {l : List Oper} {a : Act} {w0 w : World} {L : List HP} (h : St w0 w L) (H : ∀ w', St w0 w' L → wpList P ops Q l a w') : wpList P ops Q l a w := H w h
theorem wp_at {P : Program} {c : Code} {Q : Exit → Act → World → Prop} {a : Act} {w0 w : World} {L : List HP} (h : St w0 w L) (H : ∀ w', St w0 w' L → c.wp P Q a w') : c.wp P Q a w := H w h
theorem panesP_mono {pb N M : Nat} {sz sl kd : Int} {L : PL} (hN : N ≤ M) {h : Nat → Option Obj} (hh : panesP pb sz sl kd N L h) : panesP pb sz sl kd M L h := ⟨⟨hh.1.1.mono hN, hh.1.2⟩, hh.2⟩
theorem runO_wf {e x : Ev} : ∀ {l : List Opr}, e.wf → (∀ o ∈ l, o.wf) → runO e l = some x → x.wf := by
  intro l
  induction l generalizing e with
  | nil => intro he _ h; cases h; exact he
  | cons o l ih =>
    intro he hl h
    unfold runO at h
    rw [List.foldl_cons, Option.bind_some] at h
    cases ho : applyO o e with
    | none => rw [ho, runO_none] at h; cases h
    | some y =>
      rw [ho] at h
      exact ih (applyO_wf he (hl o (by simp)) ho) (fun o ho => hl o (by simp [ho])) h
/-- An event comes. -/
def evR (r : Rn) (e : Ev) : Rn := ⟨onC r.c e.time, r.p, if onB r.c e.time then (match runO e r.p.ops with | some x => putE r.p.agg r.p.size r.p.slide r.L x | none => r.L) else r.L⟩
set_option maxHeartbeats 1000000 in
set_option maxRecDepth 20000 in
theorem rnEvent_st {w0 w : World} {L : List HP} {rb N : Nat} {r : Rn} (h : St w0 w L) (n : Nat) (hn : L[n]? = some (rnP rb r N)) (e : Ev) (he : e.wf) (hN : N < 2 ^ 30) :
    Calls Tryz.prog 89 #[.pointer (some ⟨rb, 0, none⟩), .agg e.cells.toArray] w fun x w' => x = .returned (.tuple #[]) ∧ St w0 w' (L.set n (rnP rb (evR r e) (N + 1))) := by
  have hnl := (List.getElem?_eq_some_iff.1 hn).1
  obtain ⟨pb, v, hok, hst⟩ := rn_open h n hn
  clear h hn
  have hend : ∀ (w' : World) (r' : Rn), r'.p = r.p → r'.c.ok (N + 1) → St w0 w' ([pt rb (.cells (r'.cells pb v) 90 (0, 0)), panesP pb r'.p.size r'.p.slide r'.p.agg (8 * (N + 1)) r'.L, ownP 147 2 Opr.cells v r'.p.ops, sepL (L.set n emp)]) → St w0 w' (L.set n (rnP rb r' (N + 1))) := fun w' r' hp hc h => by
    have := rn_shut (K := []) ⟨hc, by rw [hp]; exact hok.2⟩ hnl h
    simpa using this
  generalize sepL (L.set n emp) = R at *
  obtain ⟨hb, _, hlt⟩ := hst.blk 0 rfl
  obtain ⟨av, cap, hv, hcap, hmax, hnil, hops⟩ := hst.sl Opr.len 2 rfl
  subst hv
  have HS := Lib.hid hst
  have HOK := Lib.hid hok
  have HE := Lib.hid he
  have HEND := Lib.hid hend
  have HNL := Lib.hid hnl
  clear hst hok he hend hnl hops hnil
  unfold Rn.cells at hb
  obtain ⟨q, z⟩ := blkCells hb
  have HB := Lib.hid hb
  clear hb
  cases hB : onB r.c e.time with
  | false =>
    have HBB := Lib.hid hB
    clear hB
    dsimp only [Ev.cells]
    go_enter Tryz.func89, Tryz.ntmps89
    go_wp2_with fail
    refine region_tail 5 (by kernel_rfl) (by kernel_rfl) ?_
    simp only [List.take_succ_cons, List.take_zero, List.drop_succ_cons, List.drop_zero]
    repeat still_step
    refine wpStill_nil ?_
    refine wpList_at ((HS.out.alloc _).drew) ?_
    intro w1 hst1
    go_wp2_with (go_at_call 110; refine (on_st (c := r.c) (rest := [.pointer (some ⟨pb, 0, none⟩), .slice av r.p.ops.length cap, .int .i64 r.p.size, .int .i64 r.p.slide, .int .i64 r.p.agg, .int .i64 r.p.sink, .int .i64 r.p.feed]) hst1 (n := 0) rfl e.time HOK.out.1 (by omega)).mono ?_; rintro y w2 ⟨rfl, hst2⟩; rw [HBB.out])
    refine bodyPost_ret (results_none rfl _ _ _) rfl ?_
    refine ⟨rfl, HEND.out _ (evR r e) rfl (Clk.ok_on HOK.out.1 e.time) ?_⟩
    have hev : (evR r e).L = r.L := by unfold evR; simp [HBB.out]
    rw [hev]
    exact (hst2.imp 1 rfl fun h hh => panesP_mono (by omega) hh).pick [0, 1, 2, 3] (by decide)
  | true =>
    have HBB := Lib.hid hB
    clear hB
    dsimp only [Ev.cells]
    go_enter Tryz.func89, Tryz.ntmps89
    go_wp2_with fail
    refine region_tail 5 (by kernel_rfl) (by kernel_rfl) ?_
    simp only [List.take_succ_cons, List.take_zero, List.drop_succ_cons, List.drop_zero]
    repeat still_step
    refine wpStill_nil ?_
    refine wpList_at ((HS.out.alloc _).drew) ?_
    intro w1 hst1
    go_wp2_with (go_at_call 110; refine (on_st (c := r.c) (rest := [.pointer (some ⟨pb, 0, none⟩), .slice av r.p.ops.length cap, .int .i64 r.p.size, .int .i64 r.p.slide, .int .i64 r.p.agg, .int .i64 r.p.sink, .int .i64 r.p.feed]) hst1 (n := 0) rfl e.time HOK.out.1 (by omega)).mono ?_; rintro y w2 ⟨rfl, hst2⟩; rw [HBB.out])
    have hz2 : w.heap.size < w2.heap.size := (hst2.blk 4 rfl).2.2
    have hrl : rb < w2.heap.size := (hst2.blk 0 rfl).2.2
    obtain ⟨q2, z2⟩ := blkCells (hst2.blk 0 rfl).1
    obtain ⟨p2, y2⟩ := blkCells (hst2.blk 4 rfl).1
    have c0 := p2 0
    have c1 := p2 1
    have c2 := p2 2
    have c3 := p2 3
    have c4 := q2 4
    simp [Clk.cells] at c0 c1 c2 c3 c4
    have HOPS := Lib.hid (hst2.slOf Opr.len 2 rfl)
    have HS2 := Lib.hid hst2
    have HW := Lib.hid HOK.out.2.1
    have HL := Lib.hid HOK.out.2.2
    clear q2 z2 p2 y2 q z hst1 hst2
    go_cut [4, 5] from 13 to 22 (fun u v wx => ∃ g, u = .pointer (some ⟨g, 0, none⟩) ∧ v = .bool (runO e r.p.ops).isSome ∧ St w0 wx [pt rb (.cells ((⟨onC r.c e.time, r.p, r.L⟩ : Rn).cells pb (.slice av r.p.ops.length cap)) 90 (0, 0)), panesP pb r.p.size r.p.slide r.p.agg (8 * N) r.L, ownP 147 2 Opr.cells (.slice av r.p.ops.length cap) r.p.ops, R, pt g (.cells ((runO e r.p.ops).getD Ev.zero).cells.toArray 63 (0, 0))])
    case first =>
      go_region_held3 (fun w' => w'.cell? ⟨w.heap.size, 0, none⟩ = some (.int .i64 e.time) ∧ w'.cell? ⟨w.heap.size, 1, none⟩ = some (.int .i64 e.key) ∧ w'.cell? ⟨w.heap.size, 2, none⟩ = some (.int .i64 e.value) ∧ w'.cell? ⟨w.heap.size, 3, none⟩ = some (.int .u64 e.label) ∧ w'.cell? ⟨rb, 4, none⟩ = some (.slice av r.p.ops.length cap)) (exact ⟨(Below.cell (B := w2.heap.size) (w := w2) (by go_grown) hz2).trans c0, (Below.cell (B := w2.heap.size) (w := w2) (by go_grown) hz2).trans c1, (Below.cell (B := w2.heap.size) (w := w2) (by go_grown) hz2).trans c2, (Below.cell (B := w2.heap.size) (w := w2) (by go_grown) hz2).trans c3, (Below.cell (B := w2.heap.size) (w := w2) (by go_grown) hrl).trans c4⟩) (first
        | (go_at_call 111; (with_reducible refine (run_at e av cap r.p.ops ((w2.alloc (.cells #[.int .i64 0, .int .i64 0, .int .i64 0, .int .u64 0] 63)).drew) HE.out ?_ HW.out (by have := HL.out; omega)).mono ?_); exact HOPS.out.below (by go_grown) (fun _ _ h => h); rintro x w3 ⟨rfl, hb3⟩; have HG3 := Lib.hid ((hb3.block w2.heap.size (by simp)).trans (new_drew _ _ _ rfl)); obtain ⟨k3, f3⟩ := blkCells HG3.out; have hb4 : Below w2.heap.size w2 w3 := Below.trans (by go_grown) (hb3.mono (by simp)); have hs3 := hb4.size; have hs4 := hb3.size; simp only [World.size_alloc, World.size_drew] at hs4; have HB3 := Lib.hid hb3; clear hb3; dsimp only [okE, Ev.cells])
        | (go_at_call 111; refine (run_at e av cap r.p.ops _ HE.out ?_ HW.out (by have := HL.out; omega)).mono ?_; exact HOPS.out.below (by go_grown) (fun _ _ h => h); rintro x w3 ⟨rfl, hb3⟩; have hb4 : Below w2.heap.size w2 w3 := Below.trans (by go_grown) (hb3.mono (by simp)); have hs3 := hb4.size; have HB3 := Lib.hid hb3; clear hb3; dsimp only [okE, Ev.cells]))
      all_goals
        go_wp2
        go_meet
      · refine ⟨_, rfl, rfl, ?_⟩
        have := ((HS2.out.drew.kept HB3.out).alloc (.cells ((runO e r.p.ops).getD Ev.zero).cells.toArray 63)).pick [0, 1, 2, 3, 5] (by decide)
        exact this
      · refine ⟨_, rfl, rfl, ?_⟩
        have := ((HS2.out.alloc (.cells #[.int .i64 0, .int .i64 0, .int .i64 0, .int .u64 0] 63)).drew.kept HB3.out).pick [0, 1, 2, 3, 5] (by decide)
        generalize (runO e r.p.ops).getD Ev.zero = x at *
        exact set2 (set2 this (n := 4) rfl 0 1 (.int .i64 x.time) (.int .i64 x.key)) (n := 4) rfl 2 3 (.int .i64 x.value) (.int .u64 x.label)
    case rest =>
      obtain ⟨g, rfl, rfl, hst3⟩ := hcut
      cases hR : runO e r.p.ops with
      | none =>
        have HR := Lib.hid hR
        have HS3 := Lib.hid hst3
        clear hst3 c0 c1 c2 c3 c4 hR
        dsimp only [Option.isSome_none]
        go_wp2
        refine bodyPost_end (results_none rfl _ _ _) rfl ?_
        refine ⟨rfl, HEND.out _ (evR r e) rfl (Clk.ok_on HOK.out.1 e.time) ?_⟩
        have hev : (evR r e).L = r.L := by unfold evR; simp [HR.out]
        rw [hev]
        exact (HS3.out.imp 1 rfl fun h hh => panesP_mono (by omega) hh).pick [0, 1, 2, 3] (by decide)
      | some x =>
        have HR := Lib.hid hR
        rw [hR] at hst3
        clear hR
        dsimp only [Option.isSome_some, Option.getD_some] at hst3 ⊢
        obtain ⟨q3, z3⟩ := blkCells (hst3.blk 0 rfl).1
        obtain ⟨p3, y3⟩ := blkCells (hst3.blk 4 rfl).1
        have hg3 : g < wc.heap.size := (hst3.blk 4 rfl).2.2
        have hrl3 : rb < wc.heap.size := (hst3.blk 0 rfl).2.2
        have c0 := p3 0
        have c1 := p3 1
        have c2 := p3 2
        have c3 := p3 3
        have c4 := q3 3
        simp [Rn.cells, Ev.cells] at c0 c1 c2 c3 c4
        have HS3 := Lib.hid hst3
        clear hst3 q3 z3 p3 y3
        have HXW := Lib.hid (runO_wf HE.out HW.out HR.out)
        have HC := Lib.hid (panesPut1_st (x := x) (HS3.out.alloc (.cells #[.int .i64 x.time, .int .i64 x.key, .int .i64 x.value, .int .u64 x.label] 63)).drew 1 rfl 5 rfl HXW.out (by omega))
        go_wp2_with fail
        go_region_held3 (fun w' => w'.cell? ⟨g, 0, none⟩ = some (.int .i64 x.time) ∧ w'.cell? ⟨g, 1, none⟩ = some (.int .i64 x.key) ∧ w'.cell? ⟨g, 2, none⟩ = some (.int .i64 x.value) ∧ w'.cell? ⟨g, 3, none⟩ = some (.int .u64 x.label) ∧ w'.cell? ⟨rb, 3, none⟩ = some (.pointer (some ⟨pb, 0, none⟩)))
          (first | exact ⟨k0, k1, k2, k3, k4⟩ | exact ⟨(Below.cell (B := wc.heap.size) (w := wc) (by go_grown) hg3).trans c0, (Below.cell (B := wc.heap.size) (w := wc) (by go_grown) hg3).trans c1, (Below.cell (B := wc.heap.size) (w := wc) (by go_grown) hg3).trans c2, (Below.cell (B := wc.heap.size) (w := wc) (by go_grown) hg3).trans c3, (Below.cell (B := wc.heap.size) (w := wc) (by go_grown) hrl3).trans c4⟩)
          (first | (go_at_call 112; (with_reducible refine HC.out.mono ?_); rintro y w5 ⟨rfl, hst5⟩; obtain ⟨q5, _⟩ := blkCells (hst5.blk 0 rfl).1; obtain ⟨p5, _⟩ := blkCells (hst5.blk 4 rfl).1; have k0 := p5 0; have k1 := p5 1; have k2 := p5 2; have k3 := p5 3; have k4 := q5 3; simp [Rn.cells, Ev.cells] at k0 k1 k2 k3 k4; have HS5 := Lib.hid hst5; clear hst5 q5 p5))
        go_wp2
        refine bodyPost_end (results_none rfl _ _ _) rfl ?_
        refine ⟨rfl, HEND.out _ (evR r e) rfl (Clk.ok_on HOK.out.1 e.time) ?_⟩
        have hev : (evR r e).L = putE r.p.agg r.p.size r.p.slide r.L x := by unfold evR; simp [HBB.out, HR.out]
        rw [hev]
        exact HS5.out.pick [0, 1, 2, 3] (by decide)
/-- An input: is it a mark? the event. -/
structure Inp where
  mark : Bool
  ev : Ev
deriving DecidableEq
def Inp.cells (i : Inp) : List Value := [.bool i.mark, .int .i64 i.ev.time, .int .i64 i.ev.key, .int .i64 i.ev.value, .int .u64 i.ev.label]
def Inp.zero : Inp := ⟨false, Ev.zero⟩
theorem Inp.len (i : Inp) : i.cells.length = 5 := rfl
theorem Inp.one (i : Inp) : ∀ u ∈ i.cells, u.oneCell' = true := by intro u hu; simp [Inp.cells] at hu; rcases hu with rfl | rfl | rfl | rfl | rfl <;> rfl
theorem SlAt.inAt {w : World} {a : Option Addr} {l : List Inp} (h : SlAt 5 (flat Inp.cells) w a l) (k : Nat) (hk : k < l.length) :
    ∃ b o, a = some ⟨b, o, none⟩ ∧ b < w.heap.size ∧ w.cell? ⟨b, o + k * 5, none⟩ = some (.bool (l[k]?.getD Inp.zero).mark) ∧ w.cell? ⟨b, o + k * 5 + 1, none⟩ = some (.int .i64 (l[k]?.getD Inp.zero).ev.time) ∧ w.cell? ⟨b, o + k * 5 + 2, none⟩ = some (.int .i64 (l[k]?.getD Inp.zero).ev.key) ∧
      w.cell? ⟨b, o + k * 5 + 3, none⟩ = some (.int .i64 (l[k]?.getD Inp.zero).ev.value) ∧ w.cell? ⟨b, o + k * 5 + 4, none⟩ = some (.int .u64 (l[k]?.getD Inp.zero).ev.label) := by
  rcases h with rfl | ⟨b, o, rfl, hlt, h⟩
  · simp at hk
  · obtain ⟨cs, h1, h2, h3⟩ := h k hk
    rw [List.getElem?_eq_getElem hk]
    unfold flat at h3
    subst h3
    exact ⟨b, o, rfl, hlt, h2 0 (by omega), h2 1 (by omega), h2 2 (by omega), h2 3 (by omega), h2 4 (by omega)⟩
theorem rwElem : Elem Tryz.prog 49 55 5 Rw.cells :=
  ⟨Rw.len, by decide, Rw.one, Tryz.underlying49, by
    obtain ⟨i, h1, h2, h3, h4⟩ := rwInfo
    exact ⟨i, _, h1, h2, h3, by omega, rfl⟩⟩
/-- One input: the runner behind it, the rows that it closes. -/
def takeR (r : Rn) (i : Inp) : Rn × List Rw :=
  if i.mark then (if advB r.c i.ev.time then (⟨advC r.c i.ev.time, r.p, keepL r.p.size i.ev.time r.L⟩, rowsL (doneL r.p.size i.ev.time r.L)) else (r, [])) else (evR r i.ev, [])
def afterR (r : Rn) (l : List Inp) : Rn := l.foldl (fun r i => (takeR r i).1) r
def rowsR (r : Rn) : List Inp → List Rw
  | [] => []
  | i :: l => (takeR r i).2 ++ rowsR (takeR r i).1 l
theorem afterR_append (r : Rn) (l m : List Inp) : afterR r (l ++ m) = afterR (afterR r l) m := by unfold afterR; rw [List.foldl_append]
theorem rowsR_append (r : Rn) (l m : List Inp) : rowsR r (l ++ m) = rowsR r l ++ rowsR (afterR r l) m := by
  induction l generalizing r with
  | nil => rfl
  | cons i l ih => rw [List.cons_append, rowsR, rowsR, ih, List.append_assoc]; rfl
theorem insL_len_le : ∀ (L : PL) (p : Pl) (x : Pn), (insL L p x).length ≤ L.length + 1
  | [], _, _ => by simp [insL]
  | q :: L, p, x => by
    unfold insL
    split
    · simp
    · split
      · have := insL_len_le L p x; simp; omega
      · simp
theorem putE_len (kd sz sl : Int) (L : PL) (e : Ev) : (putE kd sz sl L e).length ≤ L.length + 8 := by
  have h : ∀ (ss : List Int) (L : PL), (ss.foldl (fun L s => putS kd L e s) L).length ≤ L.length + ss.length := by
    intro ss
    induction ss with
    | nil => intro L; simp
    | cons s ss ih =>
      intro L
      rw [List.foldl_cons]
      have h1 := ih (putS kd L e s)
      have h2 : (putS kd L e s).length ≤ L.length + 1 := insL_len_le _ _ _
      simp only [List.length_cons]
      omega
  have h1 := h (startsOf e.time sz sl) L
  have h2 := starts_len e.time sz sl
  unfold putE
  omega
theorem part_len (sz t : Int) (L : PL) : (doneL sz t L).length + (keepL sz t L).length = L.length := by
  unfold doneL keepL
  induction L with
  | nil => rfl
  | cons q L ih =>
    rw [List.filter_cons, List.filter_cons]
    cases endsB sz t q
    · simp only [Bool.false_eq_true, if_false, Bool.not_false, if_true, List.length_cons]
      omega
    · simp only [if_true, Bool.not_true, Bool.false_eq_true, if_false, List.length_cons]
      omega
theorem takeR_len (r : Rn) (i : Inp) : (takeR r i).2.length + (takeR r i).1.L.length ≤ r.L.length + 8 := by
  unfold takeR
  split
  · split
    · have := part_len r.p.size i.ev.time r.L
      simp only [rowsL, List.length_map]
      omega
    · simp
  · unfold evR
    dsimp only
    split
    · split
      · rename_i x _
        have := putE_len r.p.agg r.p.size r.p.slide r.L x
        rw [List.length_nil]
        omega
      · rw [List.length_nil]
        omega
    · rw [List.length_nil]
      omega
theorem rowsR_len (r : Rn) (l : List Inp) : (rowsR r l).length + (afterR r l).L.length ≤ r.L.length + 8 * l.length := by
  induction l generalizing r with
  | nil => simp [rowsR, afterR]
  | cons i l ih =>
    have h1 := takeR_len r i
    have h2 := ih (takeR r i).1
    simp only [rowsR, List.length_append, List.length_cons]
    have h3 : afterR r (i :: l) = afterR (takeR r i).1 l := rfl
    rw [h3]
    omega
theorem takeR_p (r : Rn) (i : Inp) : (takeR r i).1.p = r.p := by
  unfold takeR
  split
  · split <;> rfl
  · rfl
theorem afterR_p (r : Rn) (l : List Inp) : (afterR r l).p = r.p := by
  induction l generalizing r with
  | nil => rfl
  | cons i l ih => exact (ih _).trans (takeR_p r i)
end
/- Take -/
section
open Go.RowKit Go.Maps
theorem evR_ok {r : Rn} {N : Nat} (h : r.ok N) (e : Ev) : (evR r e).ok (N + 1) := ⟨Clk.ok_on h.1 _, h.2⟩
theorem takeR_ok {r : Rn} {N : Nat} (h : r.ok N) (i : Inp) : (takeR r i).1.ok (N + 1) := by
  unfold takeR
  split
  · split
    · exact ⟨Clk.ok_mono (Clk.ok_adv h.1 _) (by omega), h.2⟩
    · exact ⟨Clk.ok_mono h.1 (by omega), h.2⟩
  · exact evR_ok h _
theorem rnP_mono {rb N M : Nat} {r : Rn} (hN : N ≤ M) {h : Nat → Option Obj} (hh : rnP rb r N h) : rnP rb r M h := by
  obtain ⟨x, hok, own, hs⟩ := hh
  refine ⟨x, ⟨Clk.ok_mono hok.1 hN, hok.2⟩, own, fun i P hi => ?_⟩
  match i, hi with
  | 0, hi => exact hs 0 P hi
  | 1, hi =>
    cases hi
    exact panesP_mono (by omega) (hs 1 _ rfl)
  | 2, hi => exact hs 2 P hi
  | i + 3, hi => simp at hi
theorem mark_at (m lt sn : Int) (w : World) : Calls Tryz.prog 92 #[.agg #[.int .i64 m, .int .i64 lt, .int .i64 sn]] w fun e w' => e = .returned (.int .i64 m) ∧ w' = w.alloc (.cells #[.int .i64 m, .int .i64 lt, .int .i64 sn] 87) := mark_any ⟨m, lt, sn⟩ w
theorem advC_true {c : Clk} {t : Int} (h : advB c t = true) : advC c t = ⟨t, c.late, c.seen⟩ := by
  unfold advB at h
  unfold advC
  rw [if_pos (by simpa using h)]
theorem advC_false {c : Clk} {t : Int} (h : advB c t = false) : advC c t = c := by
  unfold advB at h
  unfold advC
  rw [if_neg (by simpa using h)]
theorem takeR_mark {r : Rn} {e : Ev} (h : advB r.c e.time = true) : takeR r ⟨true, e⟩ = (⟨⟨e.time, r.c.late, r.c.seen⟩, r.p, keepL r.p.size e.time r.L⟩, rowsL (doneL r.p.size e.time r.L)) := by
  unfold takeR
  simp [h, advC_true h]
theorem takeR_skip {r : Rn} {e : Ev} (h : advB r.c e.time = false) : takeR r ⟨true, e⟩ = (r, []) := by
  unfold takeR
  simp [h]
theorem event_at {w0 w : World} {L : List HP} {rb N : Nat} {r : Rn} (h : St w0 w L) (n : Nat) (hn : L[n]? = some (rnP rb r N)) (e : Ev) (he : e.wf) (hN : N < 2 ^ 30) :
    Calls Tryz.prog 89 #[.pointer (some ⟨rb, 0, none⟩), .agg #[.int .i64 e.time, .int .i64 e.key, .int .i64 e.value, .int .u64 e.label]] w fun x w' => x = .returned (.tuple #[]) ∧ St w0 w' (L.set n (rnP rb (evR r e) (N + 1))) := rnEvent_st h n hn e he hN
set_option maxHeartbeats 2000000 in
set_option maxRecDepth 20000 in
theorem rnTake_st {w0 w : World} {L : List HP} {rb N : Nat} {r : Rn} (h : St w0 w L) (n : Nat) (hn : L[n]? = some (rnP rb r N)) (a : Option Addr) (cap : Nat) (l : List Inp) (hl : Seen w0 (sepL (L.set n emp)) 5 Inp.cells a l) (hw : ∀ i ∈ l, i.ev.wf) (hN : N + l.length < 2 ^ 30) (hr : r.L.length ≤ 8 * N) :
    Calls Tryz.prog 66 #[.pointer (some ⟨rb, 0, none⟩), .slice a l.length cap] w fun x w' => ∃ v, x = .returned v ∧ St w0 w' (L.set n (rnP rb (afterR r l) (N + l.length)) ++ [ownP 55 5 Rw.cells v (rowsR r l)]) := by
  have hnl := (List.getElem?_eq_some_iff.1 hn).1
  have hst := (h.front n hn).nil 55 5 Rw.cells
  have hend : ∀ (w' : World) (v : Value), St w0 w' [rnP rb (afterR r l) (N + l.length), sepL (L.set n emp), ownP 55 5 Rw.cells v (rowsR r l)] → St w0 w' (L.set n (rnP rb (afterR r l) (N + l.length)) ++ [ownP 55 5 Rw.cells v (rowsR r l)]) := fun w' v h => h.back hnl
  clear h hn
  generalize sepL (L.set n emp) = R at *
  have HS := Lib.hid hst
  have HL := Lib.hid hl
  have HW := Lib.hid hw
  have HEND := Lib.hid hend
  have HN := Lib.hid hN
  have HR := Lib.hid hr
  have hl30 : l.length < 2 ^ 30 := by omega
  clear hst hl hw hend hN hr hnl
  go_enter Tryz.func66, Tryz.ntmps66
  go_wp2_with fail
  go_loopw [5, 10] (fun v iv wr => ∃ k : Nat, k ≤ l.length ∧ iv = .int .i64 k ∧ St w0 wr [rnP rb (afterR r (l.take k)) (N + k), R, ownP 55 5 Rw.cells v (rowsR r (l.take k))]) (fun _ iv _ => l.length - (intOf iv).toNat)
  case atStart => exact ⟨0, by omega, rfl, by simpa [afterR, rowsR] using HS.out⟩
  case round =>
    obtain ⟨k, hk, rfl, hst⟩ := hrel
    by_cases hlt : (k : Int) < l.length
    · have hkn : k < l.length := by omega
      obtain ⟨b, o, rfl, hbl, c0, c1, c2, c3, c4⟩ := (HL.out wr _ 1 hst rfl).inAt k hkn
      have hiw := HW.out _ (List.getElem_mem hkn)
      have htk : l.take (k + 1) = l.take k ++ [l[k]] := by rw [List.take_add_one, List.getElem?_eq_getElem hkn]; rfl
      have hA : afterR r (l.take (k + 1)) = (takeR (afterR r (l.take k)) l[k]).1 := by rw [htk, afterR_append]; rfl
      have hB : rowsR r (l.take (k + 1)) = rowsR r (l.take k) ++ (takeR (afterR r (l.take k)) l[k]).2 := by rw [htk, rowsR_append, rowsR, rowsR, List.append_nil]
      have hlen := rowsR_len r (l.take k)
      rw [List.length_take, Nat.min_eq_left (by omega)] at hlen
      rw [List.getElem?_eq_getElem hkn] at c0 c1 c2 c3 c4
      simp only [Option.getD_some] at c0 c1 c2 c3 c4
      generalize l[k] = i at *
      obtain ⟨im, ie⟩ := i
      generalize hq : afterR r (l.take k) = q at *
      generalize rowsR r (l.take k) = out at *
      have HA := Lib.hid hA
      have HB := Lib.hid hB
      have HIW := Lib.hid hiw
      have HLEN := Lib.hid hlen
      have HST := Lib.hid hst
      clear hA hB hiw hlen hst hq htk
      dsimp only at c0 c1 c2 c3 c4
      cases im with
      | false =>
        have HC := Lib.hid (event_at (HST.out.alloc (.cells #[.bool false, .int .i64 ie.time, .int .i64 ie.key, .int .i64 ie.value, .int .u64 ie.label] 65)) 0 rfl ie HIW.out (by have := HN.out; omega))
        go_wp2_with (go_at_call 89; (with_reducible refine HC.out.mono ?_); rintro y w1 ⟨rfl, hst1⟩; have HS1 := Lib.hid hst1; clear hst1)
        go_roundw
        case rel => exact ⟨k + 1, by omega, by go_num, by rw [HA.out, HB.out]; have := HS1.out.pick [0, 1, 2] (by decide); simpa [takeR, Nat.add_assoc] using this⟩
        case measure => simp [intOf]; omega
      | true =>
        obtain ⟨pb, v, hok, hst⟩ := rn_flat (HST.out.alloc (.cells #[.bool true, .int .i64 ie.time, .int .i64 ie.key, .int .i64 ie.value, .int .u64 ie.label] 65)) 0 rfl
        obtain ⟨av, opcap, hv, _, _, _, _⟩ := hst.sl Opr.len 6 rfl
        subst hv
        have HOK := Lib.hid hok
        have HC := Lib.hid (advance_st (c := q.c) (rest := [.pointer (some ⟨pb, 0, none⟩), .slice av q.p.ops.length opcap, .int .i64 q.p.size, .int .i64 q.p.slide, .int .i64 q.p.agg, .int .i64 q.p.sink, .int .i64 q.p.feed]) hst.drew (n := 4) rfl ie.time hok.1)
        clear hok hst
        cases hB : advB q.c ie.time with
        | false =>
          have HB0 := Lib.hid hB
          clear hB
          go_wp2_with fail
          refine region_tail 6 (by kernel_rfl) (by kernel_rfl) ?_
          simp only [List.take_succ_cons, List.take_zero, List.drop_succ_cons, List.drop_zero]
          repeat still_step
          refine wpStill_nil ?_
          go_wp2_with (go_at_call 90; (with_reducible refine HC.out.mono ?_); rintro y w1 ⟨rfl, hst1⟩; rw [HB0.out]; have HS1 := Lib.hid hst1; clear hst1)
          go_roundw
          case rel =>
            refine ⟨k + 1, by omega, by go_num, ?_⟩
            have h := (HS1.out.fold 4 [5, 6] (by decide) (by simp)).imp 4 rfl (X' := rnP rb q (N + k + 1)) fun h hh => rnP_mono (by omega) (rn_pack HOK.out h (by rw [advC_false HB0.out] at hh; exact hh))
            have : St w0 w1 [rnP rb q (N + k + 1), R, ownP 55 5 Rw.cells u5 out] := h.pick [4, 1, 2] (by decide)
            rw [HA.out, HB.out, takeR_skip HB0.out, List.append_nil]
            exact this
          case measure => simp [intOf]; omega
        | true =>
          have HB0 := Lib.hid hB
          clear hB
          go_wp2_with fail
          refine region_tail 6 (by kernel_rfl) (by kernel_rfl) ?_
          simp only [List.take_succ_cons, List.take_zero, List.drop_succ_cons, List.drop_zero]
          repeat still_step
          refine wpStill_nil ?_
          go_wp2_with (go_at_call 90; (with_reducible refine HC.out.mono ?_); rintro y w1 ⟨rfl, hst1⟩; rw [HB0.out]; rw [advC_true HB0.out] at hst1; have HS1 := Lib.hid hst1; clear hst1)
          obtain ⟨q1, _⟩ := blkCells (HS1.out.blk 4 rfl).1
          have hrl : rb < w1.heap.size := (HS1.out.blk 4 rfl).2.2
          have e0 := q1 0
          have e1 := q1 1
          have e2 := q1 2
          have e3 := q1 3
          simp [Clk.cells] at e0 e1 e2 e3
          have HM := Lib.hid (mark_at ie.time q.c.late q.c.seen w1.drew)
          have HC2 := Lib.hid (panesClose_st (HS1.out.alloc (.cells #[.int .i64 ie.time, .int .i64 q.c.late, .int .i64 q.c.seen] 87)).drew 5 rfl ie.time (by have := HN.out; omega))
          clear q1
          go_region_held3 (fun w' => w'.cell? ⟨rb, 0, none⟩ = some (.int .i64 ie.time) ∧ w'.cell? ⟨rb, 1, none⟩ = some (.int .i64 q.c.late) ∧ w'.cell? ⟨rb, 2, none⟩ = some (.int .i64 q.c.seen) ∧ w'.cell? ⟨rb, 3, none⟩ = some (.pointer (some ⟨pb, 0, none⟩)))
            (first | exact ⟨k0, k1, k2, k3⟩ | exact ⟨(Below.cell (B := w1.heap.size) (w := w1) (by go_grown) hrl).trans e0, (Below.cell (B := w1.heap.size) (w := w1) (by go_grown) hrl).trans e1, (Below.cell (B := w1.heap.size) (w := w1) (by go_grown) hrl).trans e2, (Below.cell (B := w1.heap.size) (w := w1) (by go_grown) hrl).trans e3⟩)
            (first
              | (go_at_call 92; (with_reducible refine HM.out.mono ?_); rintro y w2 ⟨rfl, rfl⟩)
              | (go_at_call 91; (with_reducible refine HC2.out.mono ?_); rintro y w3 ⟨v3, rfl, hst3⟩; obtain ⟨ad, cap3, rfl, hcap3, hmx3, hnil3, hsl3⟩ := hst3.sl Rw.len 8 rfl; have HS3 := Lib.hid hst3; have HSL3 := Lib.hid hsl3; have HNIL := Lib.hid hnil3; obtain ⟨q3, _⟩ := blkCells (hst3.blk 4 rfl).1; have k0 := q3 0; have k1 := q3 1; have k2 := q3 2; have k3 := q3 3; simp [Clk.cells] at k0 k1 k2 k3; clear hst3 hsl3 hnil3 q3)
              | (refine step_append_st rwElem rfl HS3.out 2 rfl _ _ rfl rfl ad cap3 _ rfl HNIL.out HSL3.out ?_ ?_; (have h1 := part_len q.p.size ie.time q.L; have h2 := HLEN.out; have h3 := HR.out; have h4 := HN.out; simp only [rowsL, List.length_map]; omega); intro v4 w4 hst4 _; have HS4 := Lib.hid hst4; obtain ⟨q4, _⟩ := blkCells (hst4.blk 4 rfl).1; have k0 := q4 0; have k1 := q4 1; have k2 := q4 2; have k3 := q4 3; simp [Clk.cells] at k0 k1 k2 k3; clear hst4 q4))
          go_wp2
          go_roundw
          case rel =>
            refine ⟨k + 1, by omega, by go_num, ?_⟩
            have hok2 : (⟨⟨ie.time, q.c.late, q.c.seen⟩, q.p, keepL q.p.size ie.time q.L⟩ : Rn).ok (N + k) := ⟨by have := Clk.ok_adv HOK.out.1 ie.time; rwa [advC_true HB0.out] at this, HOK.out.2⟩
            have h := (HS4.out.fold 4 [5, 6] (by decide) (by simp)).imp 4 rfl (X' := rnP rb ⟨⟨ie.time, q.c.late, q.c.seen⟩, q.p, keepL q.p.size ie.time q.L⟩ (N + k + 1)) fun h hh => rnP_mono (by omega) (rn_pack hok2 h hh)
            have := h.pick [4, 1, 2] (by decide)
            rw [HA.out, HB.out, takeR_mark HB0.out]
            exact this
          case measure => simp [intOf]; omega
    · obtain rfl : k = l.length := by omega
      rw [List.take_length] at hst
      have HST := Lib.hid hst
      clear hst
      go_wp2
      go_ret
      exact ⟨_, rfl, HEND.out _ _ HST.out⟩
theorem set_same {L : List HP} {n : Nat} {X : HP} (hn : L[n]? = some X) : L.set n X = L := by
  refine List.ext_getElem? fun i => ?_
  rw [List.getElem?_set]
  split
  · rename_i e
    subst e
    rw [if_pos (List.getElem?_eq_some_iff.1 hn).1, hn]
  · rfl
theorem Clk.ok_zero : (⟨0, 0, 0⟩ : Clk).ok 0 := by unfold Clk.ok; decide
/-- The same where nobody asks what is open. -/
theorem rn_see {w0 w : World} {L : List HP} {rb N : Nat} {r : Rn} (h : St w0 w L) (n : Nat) (hn : L[n]? = some (rnP rb r N)) (hN : N < 2 ^ 30) : ∃ (pb : Nat) (v : Value), r.ok N ∧ (w.heap[rb]? = some (.cells (r.cells pb v) 90 (0, 0)) ∧ w0.heap.size ≤ rb ∧ rb < w.heap.size) ∧ GoodL r.p.agg r.p.size r.p.slide (8 * N) r.L ∧ SortedL r.L ∧
    (∀ w', St w0 w' [pt rb (.cells (r.cells pb v) 90 (0, 0)), panesP pb r.p.size r.p.slide r.p.agg (8 * N) r.L, ownP 147 2 Opr.cells v r.p.ops, sepL (L.set n emp)] → Calls Tryz.prog 34 #[.pointer (some ⟨pb, 0, none⟩)] w' fun e w'' => e = .returned (.int .i64 r.L.length) ∧ St w0 w'' L) ∧
    True ∧
    St w0 w [pt rb (.cells (r.cells pb v) 90 (0, 0)), panesP pb r.p.size r.p.slide r.p.agg (8 * N) r.L, ownP 147 2 Opr.cells v r.p.ops, sepL (L.set n emp)] := by
  have hnl := (List.getElem?_eq_some_iff.1 hn).1
  have hLs : L.set n (rnP rb r N) = L := set_same hn
  obtain ⟨pb, v, hok, hst⟩ := rn_open h n hn
  obtain ⟨hG, hS, _⟩ := panesP_good hst 1 rfl
  refine ⟨pb, v, hok, hst.blk 0 rfl, hG, hS, fun w' h' => ?_, trivial, hst⟩
  · refine (panesLen_st h' 1 rfl).mono ?_
    rintro e w'' ⟨rfl, h2⟩
    have := rn_shut (K := []) hok hnl h2
    rw [List.append_nil, hLs] at this
    exact ⟨rfl, this⟩
theorem rightPp_at (p : Pp) (a : Option Addr) (cap : Nat) (w : World) (hl : SlAt 2 (flat Opr.cells) w a p.ops) (hmx : p.ops.length ≤ maxLen) (b : Bool) (hb : rightPp p = b) {w0 : World} {L : List HP} (h : St w0 w L) :
    Calls Tryz.prog 80 #[.agg #[.slice a p.ops.length cap, .int .i64 p.size, .int .i64 p.slide, .int .i64 p.agg, .int .i64 p.sink, .int .i64 p.feed]] w fun x w' => x = .returned (.bool b) ∧ St w0 w' L := by
  subst hb
  exact (rightPp_any p a cap w hl hmx).mono fun e w' h' => ⟨h'.1, h.kept h'.2⟩
theorem rnNew_nil {w0 w : World} {L : List HP} (h : St w0 w L) (p : Pp) (a : Option Addr) (cap : Nat) (hl : SlAt 2 (flat Opr.cells) w a p.ops) (hlen : p.ops.length ≤ maxLen) (hr : rightPp p = false) :
    Calls Tryz.prog 65 #[.agg #[.slice a p.ops.length cap, .int .i64 p.size, .int .i64 p.slide, .int .i64 p.agg, .int .i64 p.sink, .int .i64 p.feed]] w fun x w' => x = .returned (.pointer none) ∧ St w0 w' L := by
  have HS := Lib.hid h
  have HC := Lib.hid (rightPp_at p a cap _ (hl.below (((Below.refl _ w).alloc (Nat.le_refl _) (.cells #[.slice a p.ops.length cap, .int .i64 p.size, .int .i64 p.slide, .int .i64 p.agg, .int .i64 p.sink, .int .i64 p.feed] 61))) (fun _ _ h => h)) hlen false hr (h.alloc _))
  clear h hl hr hlen
  go_enter Tryz.func65, Tryz.ntmps65
  go_wp2_with (go_at_call 80; (with_reducible refine HC.out.mono ?_); rintro y w1 ⟨rfl, hst1⟩; have HS1 := Lib.hid hst1; clear hst1)
  go_ret
  exact ⟨rfl, HS1.out.cut⟩
set_option maxHeartbeats 1000000 in
set_option maxRecDepth 20000 in
theorem rnNew_st {w0 w : World} {L : List HP} (h : St w0 w L) (p : Pp) (a : Option Addr) (cap : Nat) (hl : SlAt 2 (flat Opr.cells) w a p.ops) (hnil : a = none → cap = 0) (hw : ∀ o ∈ p.ops, o.wf) (hlen : p.ops.length ≤ 6) (hr : rightPp p = true) :
    Calls Tryz.prog 65 #[.agg #[.slice a p.ops.length cap, .int .i64 p.size, .int .i64 p.slide, .int .i64 p.agg, .int .i64 p.sink, .int .i64 p.feed]] w fun x w' => ∃ rb, x = .returned (.pointer (some ⟨rb, 0, none⟩)) ∧ St w0 w' (L ++ [rnP rb ⟨⟨0, 0, 0⟩, p, []⟩ 0]) := by
  have hkd : (Lit.int .i64 p.agg).wf = true := by
    unfold rightPp at hr
    simp only [Bool.and_eq_true] at hr
    have := hr.1.1.2
    unfold rightK at this
    simp at this
    exact WalkArith.wf_i64 (by omega)
  have HS := Lib.hid h
  have HL := Lib.hid hl
  have HNIL := Lib.hid hnil
  have HW := Lib.hid hw
  have hmx : p.ops.length ≤ maxLen := by unfold maxLen; omega
  have hst0 := h.wrap.alloc (.cells #[.slice a p.ops.length cap, .int .i64 p.size, .int .i64 p.slide, .int .i64 p.agg, .int .i64 p.sink, .int .i64 p.feed] 61)
  have hl0 := hl.below (((Below.refl _ w).alloc (Nat.le_refl _) (.cells #[.slice a p.ops.length cap, .int .i64 p.size, .int .i64 p.slide, .int .i64 p.agg, .int .i64 p.sink, .int .i64 p.feed] 61))) (fun _ _ h => h)
  have HC := Lib.hid (rightPp_any p a cap _ hl0 hmx)
  have HST0 := Lib.hid hst0
  have HL0 := Lib.hid hl0
  have HRR := Lib.hid hr
  clear h hl hr hmx hnil hw hst0 hl0
  go_enter Tryz.func65, Tryz.ntmps65
  go_wp2_with (first
    | (go_at_call 80; (with_reducible refine HC.out.mono ?_); rintro y w1 ⟨rfl, hb1⟩; rw [HRR.out]; have HS1 := Lib.hid (HST0.out.kept hb1); have HL1 := Lib.hid (HL0.out.below hb1 (fun _ _ h => h)); have HC1 := Lib.hid (cloneOp_st HS1.out a cap p.ops HL1.out HNIL.out (by omega)); obtain ⟨q1, z1⟩ := blkCells (HS1.out.blk 1 rfl).1; have hg1 : w.heap.size < w1.heap.size := (HS1.out.blk 1 rfl).2.2; clear hb1)
    | (go_at_call 87; (with_reducible refine HC1.out.mono ?_); rintro y w2 ⟨v, rfl, hst2⟩; obtain ⟨q2, z2⟩ := blkCells (hst2.blk 1 rfl).1; have hg2 : w.heap.size < w2.heap.size := (hst2.blk 1 rfl).2.2; obtain ⟨av, cv, rfl, _, _, _, _⟩ := hst2.sl Opr.len 2 rfl; have HS2 := Lib.hid hst2; clear hst2))
  refine wp_at (HS2.out.set 1 rfl 0 _) ?_
  intro w3 hst3
  clear q1 z1 q2 z2 hg1 hg2 HS1 HS2 HC1 HL1
  obtain ⟨q3, _⟩ := blkCells (hst3.blk 1 rfl).1
  have hg3 : w.heap.size < w3.heap.size := (hst3.blk 1 rfl).2.2
  have e0 := q3 0
  have e1 := q3 1
  have e2 := q3 2
  have e3 := q3 3
  have e4 := q3 4
  have e5 := q3 5
  simp at e0 e1 e2 e3 e4 e5
  have HS3 := Lib.hid hst3
  have HC3 := Lib.hid (panesNew_st p.size p.slide p.agg hkd hst3.drew)
  clear hst3 q3
  go_region_held3 (fun w' => w'.cell? ⟨w.heap.size, 0, none⟩ = some (.slice av p.ops.length cv) ∧ w'.cell? ⟨w.heap.size, 1, none⟩ = some (.int .i64 p.size) ∧ w'.cell? ⟨w.heap.size, 2, none⟩ = some (.int .i64 p.slide) ∧ w'.cell? ⟨w.heap.size, 3, none⟩ = some (.int .i64 p.agg) ∧ w'.cell? ⟨w.heap.size, 4, none⟩ = some (.int .i64 p.sink) ∧ w'.cell? ⟨w.heap.size, 5, none⟩ = some (.int .i64 p.feed))
    (first | exact ⟨k0, k1, k2, k3, k4, k5⟩ | exact ⟨(Below.cell (B := w4.heap.size) (w := w4) (by go_grown) hg4).trans k0, (Below.cell (B := w4.heap.size) (w := w4) (by go_grown) hg4).trans k1, (Below.cell (B := w4.heap.size) (w := w4) (by go_grown) hg4).trans k2, (Below.cell (B := w4.heap.size) (w := w4) (by go_grown) hg4).trans k3, (Below.cell (B := w4.heap.size) (w := w4) (by go_grown) hg4).trans k4, (Below.cell (B := w4.heap.size) (w := w4) (by go_grown) hg4).trans k5⟩ | exact ⟨(Below.cell (B := w3.heap.size) (w := w3) (by go_grown) hg3).trans e0, (Below.cell (B := w3.heap.size) (w := w3) (by go_grown) hg3).trans e1, (Below.cell (B := w3.heap.size) (w := w3) (by go_grown) hg3).trans e2, (Below.cell (B := w3.heap.size) (w := w3) (by go_grown) hg3).trans e3, (Below.cell (B := w3.heap.size) (w := w3) (by go_grown) hg3).trans e4, (Below.cell (B := w3.heap.size) (w := w3) (by go_grown) hg3).trans e5⟩)
    (first
      | (go_at_call 88; (with_reducible refine HC3.out.mono ?_); rintro y w4 ⟨pb, rfl, hst4⟩; obtain ⟨q4, _⟩ := blkCells (hst4.blk 1 rfl).1; have hg4 : w.heap.size < w4.heap.size := (hst4.blk 1 rfl).2.2; have k0 := q4 0; have k1 := q4 1; have k2 := q4 2; have k3 := q4 3; have k4 := q4 4; have k5 := q4 5; simp at k0 k1 k2 k3 k4 k5; have HS4 := Lib.hid hst4; clear hst4 q4))
  go_wp2
  go_ret
  refine ⟨_, rfl, ?_⟩
  have h5 := ((HS4.out.alloc _).fold 4 [3, 2] (by decide) (by simp)).imp 4 rfl (X' := rnP w4.heap.size ⟨⟨0, 0, 0⟩, p, []⟩ 0) fun h hh => rn_pack (pb := pb) (v := .slice av p.ops.length cv) ⟨Clk.ok_zero, HW.out, hlen⟩ h hh
  exact (h5.pick [0, 4] (by decide)).unwrap
set_option maxHeartbeats 1000000 in
set_option maxRecDepth 20000 in
theorem rnTwin_st {w0 w : World} {L : List HP} {rb N : Nat} {r : Rn} (h : St w0 w L) (n : Nat) (hn : L[n]? = some (rnP rb r N)) :
    Calls Tryz.prog 78 #[.pointer (some ⟨rb, 0, none⟩)] w fun x w' => ∃ tb, x = .returned (.pointer (some ⟨tb, 0, none⟩)) ∧ St w0 w' (L ++ [rnP tb r N]) := by
  have hnl := (List.getElem?_eq_some_iff.1 hn).1
  obtain ⟨pb, v, hok, hst⟩ := rn_open h n hn
  have hend : ∀ (w' : World) (tb : Nat), St w0 w' [pt rb (.cells (r.cells pb v) 90 (0, 0)), panesP pb r.p.size r.p.slide r.p.agg (8 * N) r.L, ownP 147 2 Opr.cells v r.p.ops, sepL (L.set n emp), rnP tb r N] → St w0 w' (L ++ [rnP tb r N]) := fun w' tb h => by
    have := rn_shut (K := [rnP tb r N]) hok hnl h
    rwa [set_same hn] at this
  clear h hn
  generalize sepL (L.set n emp) = R at *
  obtain ⟨hb, _, hlt⟩ := hst.blk 0 rfl
  obtain ⟨av, cap, hv, hcap, hmax, hnil, hops⟩ := hst.sl Opr.len 2 rfl
  subst hv
  have hst1 := hst.alloc (.cells (r.cells pb (.slice av r.p.ops.length cap)) 90)
  have HS := Lib.hid hst1
  have HC := Lib.hid (panesCopy_st hst1 1 rfl)
  have HOK := Lib.hid hok
  have HEND := Lib.hid hend
  have HNIL := Lib.hid hnil
  unfold Rn.cells at hb
  obtain ⟨q, z⟩ := blkCells hb
  have e0 := q 0
  have e1 := q 1
  have e2 := q 2
  have e3 := q 3
  have e4 := q 4
  have e5 := q 5
  have e6 := q 6
  have e7 := q 7
  have e8 := q 8
  have e9 := q 9
  simp at e0 e1 e2 e3 e4 e5 e6 e7 e8 e9
  clear hst hok hend hnl hops hnil hb q z hst1
  dsimp only [Rn.cells] at HC
  go_enter Tryz.func78, Tryz.ntmps78
  go_wp2_with (first
    | (go_at_call 103; (with_reducible refine HC.out.mono ?_); rintro y w2 ⟨qb, rfl, hst2⟩; obtain ⟨q2, z2⟩ := blkCells (hst2.blk 4 rfl).1; obtain ⟨p2, _⟩ := blkCells (hst2.blk 0 rfl).1; have hg2 : w.heap.size < w2.heap.size := (hst2.blk 4 rfl).2.2; have hr2 : rb < w2.heap.size := (hst2.blk 0 rfl).2.2; have hne2 := hst2.ne 0 4 rfl rfl (by decide); have HS2 := Lib.hid (hst2.set 4 rfl 3 (.pointer (some ⟨qb, 0, none⟩))); have HC2 := Lib.hid (cloneOp_st HS2.out av cap r.p.ops (HS2.out.slOf Opr.len 2 rfl) HNIL.out (by have := HOK.out.2.2; omega)); have f4 := p2 4; simp at f4; clear hst2 p2)
    | (go_at_call 87; (with_reducible refine HC2.out.mono ?_); rintro y w3 ⟨v3, rfl, hst3⟩; obtain ⟨q3, z3⟩ := blkCells (hst3.blk 4 rfl).1; have hg3 : w.heap.size < w3.heap.size := (hst3.blk 4 rfl).2.2; obtain ⟨a3, c3, rfl, _, _, _, _⟩ := hst3.sl Opr.len 6 rfl; have HS3 := Lib.hid (hst3.set 4 rfl 4 (.slice a3 r.p.ops.length c3)); clear hst3))
  go_ret
  refine ⟨_, rfl, HEND.out _ w.heap.size ?_⟩
  have h5 := (HS3.out.fold 4 [5, 6] (by decide) (by simp)).imp 4 rfl (X' := rnP w.heap.size r N) fun h hh => rn_pack (pb := qb) (v := .slice a3 r.p.ops.length c3) HOK.out h hh
  exact h5.pick [0, 1, 2, 3, 4] (by decide)
end
/- Keep -/
section
open Go.RowKit Go.Maps
theorem inpElem : Elem Tryz.prog 75 65 5 Inp.cells :=
  ⟨Inp.len, by decide, Inp.one, Tryz.underlying75, by
    obtain ⟨i, h1, h2, h3, h4⟩ := info_parts (P := Tryz.prog) (e := 65) (z := .agg #[.bool false, .int .i64 0, .int .i64 0, .int .i64 0, .int .u64 0]) (size := 5) (bytes := 40) (by kernel_rfl)
    exact ⟨i, _, h1, h2, h3, by omega, rfl⟩⟩
/-- Numbers of which an input is made. -/
structure InQ where
  time : Int
  key : Int
  value : Int
  mark : Int
def InQ.cells (q : InQ) : List Value := [.int .i64 q.time, .int .i64 q.key, .int .i64 q.value, .int .i64 q.mark]
def InQ.wf (q : InQ) : Prop := (Lit.int .i64 q.time).wf = true ∧ (Lit.int .i64 q.key).wf = true ∧ (Lit.int .i64 q.value).wf = true ∧ (Lit.int .i64 q.mark).wf = true
def InQ.zero : InQ := ⟨0, 0, 0, 0⟩
theorem InQ.len (i : InQ) : i.cells.length = 4 := rfl
theorem SlAt.iqAt {w : World} {a : Option Addr} {l : List InQ} (h : SlAt 4 (flat InQ.cells) w a l) (k : Nat) (hk : k < l.length) :
    ∃ b o, a = some ⟨b, o, none⟩ ∧ b < w.heap.size ∧ w.cell? ⟨b, o + k * 4, none⟩ = some (.int .i64 (l[k]?.getD InQ.zero).time) ∧ w.cell? ⟨b, o + k * 4 + 1, none⟩ = some (.int .i64 (l[k]?.getD InQ.zero).key) ∧ w.cell? ⟨b, o + k * 4 + 2, none⟩ = some (.int .i64 (l[k]?.getD InQ.zero).value) ∧
      w.cell? ⟨b, o + k * 4 + 3, none⟩ = some (.int .i64 (l[k]?.getD InQ.zero).mark) := by
  rcases h with rfl | ⟨b, o, rfl, hlt, h⟩
  · simp at hk
  · obtain ⟨cs, h1, h2, h3⟩ := h k hk
    rw [List.getElem?_eq_getElem hk]
    unfold flat at h3
    subst h3
    exact ⟨b, o, rfl, hlt, h2 0 (by omega), h2 1 (by omega), h2 2 (by omega), h2 3 (by omega)⟩
def markB (n : Int) : Bool := bits .and .i64 n 3 == 3
def labelOf (n : Int) : Int := IntKind.u64.wrap (2 ^ (within n 0 7).toNat)
def inpOf (q : InQ) : Inp := if markB q.mark then ⟨true, ⟨within q.time 0 160, 0, 0, 0⟩⟩ else ⟨false, ⟨within q.time 0 120, within q.key 0 3, within q.value (-50) 50, labelOf q.mark⟩⟩
def inputsOf (l : List InQ) : List Inp := (l.take 25).map inpOf
theorem Within_at (n lo hi : Int) (w : World) (hn0 : -9223372036854775808 ≤ n) (hn1 : n ≤ 9223372036854775807) (h : lo ≤ hi) (hlo : -1000000000000000 ≤ lo) (hhi : hi ≤ 1000000000000000) :
    Calls Tryz.prog 11 #[.int .i64 n, .int .i64 lo, .int .i64 hi] w fun e w' => e = .returned (.int .i64 (within n lo hi)) ∧ w = w' :=
  (Within_any n lo hi w hn0 hn1 h hlo hhi).mono fun _ _ h => ⟨h.1, h.2.symm⟩
set_option maxHeartbeats 2000000 in
set_option maxRecDepth 20000 in
theorem inputs_st {w0 w : World} {L : List HP} (h : St w0 w L) (a : Option Addr) (cap : Nat) (l : List InQ) (hl : Seen w0 (sepL L) 4 InQ.cells a l) (hw : ∀ q ∈ l, q.wf) (hmx : l.length ≤ maxLen) :
    Calls Tryz.prog 46 #[.slice a l.length cap] w fun e w' => ∃ v, e = .returned v ∧ St w0 w' (L ++ [ownP 65 5 Inp.cells v (inputsOf l)]) := by
  unfold maxLen at hmx
  have hst := h.wrap.nil 65 5 Inp.cells
  have HS := Lib.hid hst
  have HL := Lib.hid hl
  have HW := Lib.hid hw
  clear h hl hw hst
  go_enter Tryz.func46, Tryz.ntmps46
  go_wp2_with fail
  go_loopw [3, 4] (fun v iv wr => ∃ k : Nat, k ≤ l.length ∧ k ≤ 25 ∧ iv = .int .i64 k ∧ St w0 wr [sepL L, ownP 65 5 Inp.cells v ((l.take k).map inpOf)]) (fun _ iv _ => 25 - (intOf iv).toNat)
  case atStart => exact ⟨0, by omega, by omega, rfl, HS.out⟩
  case round =>
    obtain ⟨k, hk, hk25, rfl, hst⟩ := hrel
    by_cases hlt : (k : Int) < l.length
    · by_cases h25 : (k : Int) < 25
      · have hkn : k < l.length := by omega
        obtain ⟨b, o, rfl, hbl, c0, c1, c2, c3⟩ := (HL.out wr _ 0 hst rfl).iqAt k hkn
        have hqw := HW.out _ (List.getElem_mem hkn)
        have hmp : (l.take (k + 1)).map inpOf = (l.take k).map inpOf ++ [inpOf l[k]] := by rw [List.take_add_one, List.getElem?_eq_getElem hkn, List.map_append]; rfl
        have hlen : ((l.take k).map inpOf).length < 1099511627776 := by simp; omega
        rw [List.getElem?_eq_getElem hkn] at c0 c1 c2 c3
        simp only [Option.getD_some] at c0 c1 c2 c3
        generalize l[k] = q at *
        obtain ⟨qt, qk, qv, qm⟩ := q
        dsimp only at c0 c1 c2 c3
        generalize (l.take k).map inpOf = out at *
        have HMP := Lib.hid hmp
        have hr1 := i64_range hqw.1
        have hr2 := i64_range hqw.2.1
        have hr3 := i64_range hqw.2.2.1
        have hr4 := i64_range hqw.2.2.2
        dsimp only at hr1 hr2 hr3 hr4
        have HQW := Lib.hid hqw
        have HLEN := Lib.hid hlen
        have HST := Lib.hid hst
        clear hmp hqw hlen hst
        cases hm : markB qm with
        | true =>
          have HM := Lib.hid hm
          unfold markB at hm
          have hmi : inpOf ⟨qt, qk, qv, qm⟩ = ⟨true, ⟨within qt 0 160, 0, 0, 0⟩⟩ := by unfold inpOf; rw [if_pos HM.out]
          rw [hmi] at HMP
          clear hmi
          have HST2 := Lib.hid (HST.out.alloc (.cells #[.int .i64 qt, .int .i64 qk, .int .i64 qv, .int .i64 qm] 104))
          go_wp2_with (first
            | (go_at_call 11; refine (Within_at _ _ _ _ (by omega) (by omega) (by omega) (by omega) (by omega)).mono ?_; rintro e wz ⟨rfl, rfl⟩)
            | (at_builtin; refine wpList_push_st inpElem rfl (HST2.out.alloc _) 1 rfl _ _ rfl rfl _ (⟨true, ⟨within qt 0 160, 0, 0, 0⟩⟩ : Inp) rfl (new_at _ _ _ (by simp)) HLEN.out ?_; intro v2 w2 hst2 _; have HS2 := Lib.hid hst2; clear hst2))
          go_roundw
          case rel => exact ⟨k + 1, by omega, by omega, by go_num, by rw [HMP.out]; exact HS2.out.pick [0, 1] (by decide)⟩
          case measure => simp [intOf]; omega
        | false =>
          have HM := Lib.hid hm
          unfold markB at hm
          have hmi : inpOf ⟨qt, qk, qv, qm⟩ = ⟨false, ⟨within qt 0 120, within qk 0 3, within qv (-50) 50, labelOf qm⟩⟩ := by unfold inpOf; rw [if_neg (by rw [HM.out]; decide)]
          rw [hmi] at HMP
          clear hmi
          have hw7 := within_range qm 0 7 (by omega)
          go_wp2_with fail
          refine wp_at (HST.out.alloc (.cells #[.int .i64 qt, .int .i64 qk, .int .i64 qv, .int .i64 qm] 104)) ?_
          intro w1 hst1
          generalize wr.heap.size = g at *
          obtain ⟨q1, _⟩ := blkCells (hst1.blk 2 rfl).1
          have hg1 : g < w1.heap.size := (hst1.blk 2 rfl).2.2
          have e0 := q1 0
          have e1 := q1 1
          have e2 := q1 2
          have e3 := q1 3
          simp at e0 e1 e2 e3
          have HS1 := Lib.hid hst1
          clear hst1 q1 HST
          go_region_held3 (fun w' => w'.cell? ⟨g, 0, none⟩ = some (.int .i64 qt) ∧ w'.cell? ⟨g, 1, none⟩ = some (.int .i64 qk) ∧ w'.cell? ⟨g, 2, none⟩ = some (.int .i64 qv) ∧ w'.cell? ⟨g, 3, none⟩ = some (.int .i64 qm))
            (first | exact ⟨k0, k1, k2, k3⟩ | exact ⟨(Below.cell (B := w1.heap.size) (w := w1) (by go_grown) hg1).trans e0, (Below.cell (B := w1.heap.size) (w := w1) (by go_grown) hg1).trans e1, (Below.cell (B := w1.heap.size) (w := w1) (by go_grown) hg1).trans e2, (Below.cell (B := w1.heap.size) (w := w1) (by go_grown) hg1).trans e3⟩)
            (first
              | (go_at_call 11; refine (Within_at _ _ _ _ (by omega) (by omega) (by omega) (by omega) (by omega)).mono ?_; rintro e wz ⟨rfl, rfl⟩)
              | (refine step_append_st inpElem rfl (HS1.out.alloc (.cells #[.bool false, .int .i64 (within qt 0 120), .int .i64 (within qk 0 3), .int .i64 (within qv (-50) 50), .int .u64 (labelOf qm)] 65)).drew 1 rfl _ _ rfl rfl (some ⟨w1.heap.size, 0, none⟩) 1 [⟨false, ⟨within qt 0 120, within qk 0 3, within qv (-50) 50, labelOf qm⟩⟩] rfl (by simp) (SlAt.one Inp.len (new_drew _ _ _ rfl)) ?_ ?_; (have := HLEN.out; simp; omega); intro v2 w2 hst2 _; have HS2 := Lib.hid hst2; obtain ⟨q2, _⟩ := blkCells (hst2.blk 2 rfl).1; have k0 := q2 0; have k1 := q2 1; have k2 := q2 2; have k3 := q2 3; simp at k0 k1 k2 k3; clear hst2 q2))
          go_wp2
          go_roundw
          case rel => exact ⟨k + 1, by omega, by omega, by go_num, by rw [HMP.out]; exact HS2.out.pick [0, 1] (by decide)⟩
          case measure => simp [intOf]; omega
      · have HST := Lib.hid hst
        clear hst
        go_wp2
        go_ret
        refine ⟨_, rfl, ?_⟩
        obtain rfl : k = 25 := by omega
        exact HST.out.unwrap
    · have HST := Lib.hid hst
      clear hst
      go_wp2
      go_ret
      refine ⟨_, rfl, ?_⟩
      obtain rfl : k = l.length := by omega
      have e : inputsOf l = (l.take l.length).map inpOf := by unfold inputsOf; rw [List.take_length, List.take_of_length_le hk25]
      rw [e]
      exact HST.out.unwrap
end
/- KeepPipe -/
section
open Go.RowKit Go.Maps
def pickI (l : List Int) (i : Nat) : Int := if l = [] then 0 else l[i % l.length]?.getD 0
theorem pickI_range {l : List Int} (h : ∀ x ∈ l, (Lit.int .i64 x).wf = true) (i : Nat) : -9223372036854775808 ≤ pickI l i ∧ pickI l i ≤ 9223372036854775807 := by
  unfold pickI
  split
  · omega
  · rename_i hne
    have hpos : 0 < l.length := List.length_pos_iff.2 hne
    rw [List.getElem?_eq_getElem (Nat.mod_lt _ hpos)]
    exact i64_range (h _ (List.getElem_mem _))
set_option maxRecDepth 20000 in
theorem pick_at (a : Option Addr) (cap : Nat) (l : List Int) (i : Nat) (w : World) (hl : SlAt 1 (flat (intC .i64)) w a l) (hmx : l.length ≤ maxLen) (hi : i < 2 ^ 60) :
    Calls Tryz.prog 67 #[.slice a l.length cap, .int .i64 i] w fun e w' => e = .returned (.int .i64 (pickI l i)) ∧ w = w' := by
  unfold maxLen at hmx
  cases l with
  | nil =>
    go_enter Tryz.func67, Tryz.ntmps67
    go_wp2
    go_ret
    exact ⟨rfl, rfl⟩
  | cons x l =>
    have hpos : 0 < (x :: l).length := by simp
    have hmod := Nat.mod_lt i hpos
    obtain ⟨b, o, rfl, hbl, c0⟩ := hl.intAt (i % (x :: l).length) hmod
    have hp : pickI (x :: l) i = (x :: l)[i % (x :: l).length]?.getD 0 := by unfold pickI; rw [if_neg (by simp)]
    rw [← hp] at c0
    generalize pickI (x :: l) i = y at *
    clear hp hl
    generalize (x :: l).length = n at *
    have hne : ((n : Int) == 0) = false := by simp; omega
    have hmo : ((i : Int).tmod n) = ((i % n : Nat) : Int) := by rw [Int.tmod_eq_emod_of_nonneg (by omega)]; rfl
    have hmo2 : ((i : Int) % n) = ((i % n : Nat) : Int) := rfl
    generalize i % n = j at *
    go_enter Tryz.func67, Tryz.ntmps67
    go_wp2
    go_ret
    exact ⟨rfl, rfl⟩
def opAt (ops ns : List Int) (i : Nat) : Opr :=
  ⟨within (ops[i]?.getD 0) 1 6, if within (ops[i]?.getD 0) 1 6 = 3 then within (within (pickI ns i) (-5) 9) 1 4 else if within (ops[i]?.getD 0) 1 6 = 6 then within (within (pickI ns i) (-5) 9) 0 2 else within (pickI ns i) (-5) 9⟩
/-- Numbers of which a pipe is made. -/
structure PipeQ where
  ops : List Int
  ns : List Int
  size : Int
  slide : Int
  agg : Int
  sink : Int
  feed : Int
def PipeQ.wf (k : PipeQ) : Prop := (∀ x ∈ k.ops, (Lit.int .i64 x).wf = true) ∧ (∀ x ∈ k.ns, (Lit.int .i64 x).wf = true) ∧ (Lit.int .i64 k.size).wf = true ∧ (Lit.int .i64 k.slide).wf = true ∧ (Lit.int .i64 k.agg).wf = true ∧ (Lit.int .i64 k.sink).wf = true ∧ (Lit.int .i64 k.feed).wf = true ∧ k.ops.length ≤ maxLen ∧ k.ns.length ≤ maxLen
def pipeOf (k : PipeQ) : Pp := ⟨(List.range (min k.ops.length 4)).map (opAt k.ops k.ns), within k.size (within k.slide 1 12) (4 * within k.slide 1 12), within k.slide 1 12, within k.agg 1 4, within k.sink (-1) 1, within k.feed (-1) 1⟩
theorem opAt_right (ops ns : List Int) (i : Nat) : rightO (opAt ops ns i) = true ∧ (opAt ops ns i).wf := by
  have h1 := within_range (ops[i]?.getD 0) 1 6 (by omega)
  have h2 := within_range (pickI ns i) (-5) 9 (by omega)
  have h3 := within_range (within (pickI ns i) (-5) 9) 1 4 (by omega)
  have h4 := within_range (within (pickI ns i) (-5) 9) 0 2 (by omega)
  unfold opAt
  generalize within (ops[i]?.getD 0) 1 6 = k at *
  generalize within (within (pickI ns i) (-5) 9) 1 4 = x at *
  generalize within (within (pickI ns i) (-5) 9) 0 2 = y at *
  generalize within (pickI ns i) (-5) 9 = z at *
  by_cases k3 : k = 3
  · subst k3
    exact ⟨by simp [rightO]; omega, show (Lit.int .i64 3).wf = true by decide, WalkArith.wf_i64 (by simp; omega)⟩
  · by_cases k6 : k = 6
    · subst k6
      exact ⟨by simp [rightO]; omega, show (Lit.int .i64 6).wf = true by decide, WalkArith.wf_i64 (by simp; omega)⟩
    · have : k = 1 ∨ k = 2 ∨ k = 4 ∨ k = 5 := by omega
      exact ⟨by simp [rightO, this], WalkArith.wf_i64 (by simp; omega), WalkArith.wf_i64 (by simp [k3, k6]; omega)⟩
theorem pipeOf_right (k : PipeQ) : rightPp (pipeOf k) = true ∧ (∀ o ∈ (pipeOf k).ops, o.wf) ∧ (pipeOf k).ops.length ≤ 4 ∧ 1 ≤ (pipeOf k).slide ∧ (pipeOf k).slide ≤ 12 ∧ (pipeOf k).slide ≤ (pipeOf k).size ∧ (pipeOf k).size ≤ 4 * (pipeOf k).slide := by
  have h1 := within_range k.slide 1 12 (by omega)
  have h2 := within_range k.size (within k.slide 1 12) (4 * within k.slide 1 12) (by omega)
  have h3 := within_range k.agg 1 4 (by omega)
  have h4 := within_range k.sink (-1) 1 (by omega)
  have h5 := within_range k.feed (-1) 1 (by omega)
  have hl : (pipeOf k).ops.length ≤ 4 := by simp [pipeOf]; omega
  refine ⟨?_, ?_, hl, h1.1, h1.2, h2.1, h2.2⟩
  · unfold rightPp
    have e1 : rightOps (pipeOf k).ops = true := by
      unfold rightOps
      rw [Bool.and_eq_true]
      refine ⟨by simp; omega, List.all_eq_true.2 fun o ho => ?_⟩
      obtain ⟨i, _, rfl⟩ := List.mem_map.1 ho
      exact (opAt_right _ _ _).1
    have e2 : decide (rightW (pipeOf k).size (pipeOf k).slide) = true := by
      refine decide_eq_true ⟨h1.1, h2.1, by show within k.size _ _ ≤ _; omega, ?_⟩
      show (within k.size (within k.slide 1 12) (4 * within k.slide 1 12) + within k.slide 1 12 - 1) / within k.slide 1 12 ≤ 8
      exact Int.ediv_le_of_le_mul (by omega) (by omega)
    have e3 : rightK (pipeOf k).agg = true := by
      show rightK (within k.agg 1 4) = true
      unfold rightK
      simp only [Bool.and_eq_true, decide_eq_true_eq]
      exact h3
    have e4 : placeOk (pipeOf k).sink = true := by
      show placeOk (within k.sink (-1) 1) = true
      generalize within k.sink (-1) 1 = x at *
      have : x = -1 ∨ x = 0 ∨ x = 1 := by omega
      rcases this with rfl | rfl | rfl <;> rfl
    have e5 : placeOk (pipeOf k).feed = true := by
      show placeOk (within k.feed (-1) 1) = true
      generalize within k.feed (-1) 1 = x at *
      have : x = -1 ∨ x = 0 ∨ x = 1 := by omega
      rcases this with rfl | rfl | rfl <;> rfl
    rw [e1, e2, e3, e4, e5]
    rfl
  · intro o ho
    obtain ⟨i, _, rfl⟩ := List.mem_map.1 ho
    exact (opAt_right _ _ _).2
set_option maxHeartbeats 4000000 in
set_option maxRecDepth 20000 in
theorem pipe_st {w0 w : World} {L : List HP} (h : St w0 w L) (k : PipeQ) (hk : k.wf) (ao an : Option Addr) (co cn : Nat) (hlo : Seen w0 (sepL L) 1 (intC .i64) ao k.ops) (hln : Seen w0 (sepL L) 1 (intC .i64) an k.ns) :
    Calls Tryz.prog 45 #[.agg #[.slice ao k.ops.length co, .slice an k.ns.length cn, .int .i64 k.size, .int .i64 k.slide, .int .i64 k.agg, .int .i64 k.sink, .int .i64 k.feed]] w fun e w' =>
      ∃ a cap, e = .returned (.agg #[.slice a (pipeOf k).ops.length cap, .int .i64 (pipeOf k).size, .int .i64 (pipeOf k).slide, .int .i64 (pipeOf k).agg, .int .i64 (pipeOf k).sink, .int .i64 (pipeOf k).feed]) ∧ (a = none → cap = 0) ∧ St w0 w' (L ++ [ownP 147 2 Opr.cells (.slice a (pipeOf k).ops.length cap) (pipeOf k).ops]) := by
  obtain ⟨hwo, hwn, hsz, hsl, hag, hsk, hfd, hmo, hmn⟩ := hk
  have HWO := Lib.hid hwo
  have HWN := Lib.hid hwn
  have HLO := Lib.hid hlo
  have HLN := Lib.hid hln
  have hr1 := i64_range hsz
  have hr2 := i64_range hsl
  have hr3 := i64_range hag
  have hr4 := i64_range hsk
  have hr5 := i64_range hfd
  obtain ⟨ops, ns, size, slide, ag, sink, feed⟩ := k
  dsimp only at hr1 hr2 hr3 hr4 hr5 hmo hmn HWO HWN HLO HLN ⊢
  have hs := within_range slide 1 12 (by omega)
  have HMO := Lib.hid hmo
  have HMN := Lib.hid hmn
  unfold maxLen at hmo hmn
  have hst := (h.wrap.alloc (.cells #[.slice ao ops.length co, .slice an ns.length cn, .int .i64 size, .int .i64 slide, .int .i64 ag, .int .i64 sink, .int .i64 feed] 102)).alloc (.cells #[.slice none 0 0, .int .i64 0, .int .i64 0, .int .i64 0, .int .i64 0, .int .i64 0] 61)
  have HS := Lib.hid hst
  clear hst h hwo hwn hlo hln hsz hsl hag hsk hfd
  go_enter Tryz.func45, Tryz.ntmps45
  go_wp2_with fail
  refine wp_at HS.out ?_
  intro w1 hst1
  generalize hg : w.heap.size = g at *
  have hge : (w.alloc (.cells #[.slice ao ops.length co, .slice an ns.length cn, .int .i64 size, .int .i64 slide, .int .i64 ag, .int .i64 sink, .int .i64 feed] 102)).heap.size = g + 1 := by simp [hg]
  rw [hge] at hst1
  clear hge HS hg
  obtain ⟨q1, _⟩ := blkCells (hst1.blk 1 rfl).1
  have hg1 : g < w1.heap.size := (hst1.blk 1 rfl).2.2
  have hg2 : g + 1 < w1.heap.size := (hst1.blk 2 rfl).2.2
  have e3 := q1 3
  have e4 := q1 4
  have e5 := q1 5
  have e6 := q1 6
  simp at e3 e4 e5 e6
  have HS1 := Lib.hid hst1
  clear hst1 q1
  go_cut [3] from 6 to 18 (fun u wx => ∃ gp, u = .pointer (some ⟨gp, 0, none⟩) ∧ St w0 wx [sepL L, pt g (.cells #[.slice ao ops.length co, .slice an ns.length cn, .int .i64 size, .int .i64 slide, .int .i64 ag, .int .i64 sink, .int .i64 feed] 102 (0, 0)), pt (g + 1) (.cells #[.slice none 0 0, .int .i64 0, .int .i64 0, .int .i64 0, .int .i64 0, .int .i64 0] 61 (0, 0)), pt gp (.cells #[.slice none 0 0, .int .i64 0, .int .i64 (within slide 1 12), .int .i64 (within ag 1 4), .int .i64 (within sink (-1) 1), .int .i64 (within feed (-1) 1)] 61 (0, 0))])
  case first =>
    go_region_held3 (fun w' => w'.cell? ⟨g, 3, none⟩ = some (.int .i64 slide) ∧ w'.cell? ⟨g, 4, none⟩ = some (.int .i64 ag) ∧ w'.cell? ⟨g, 5, none⟩ = some (.int .i64 sink) ∧ w'.cell? ⟨g, 6, none⟩ = some (.int .i64 feed))
      (exact ⟨(Below.cell (B := w1.heap.size) (w := w1) (by go_grown) hg1).trans e3, (Below.cell (B := w1.heap.size) (w := w1) (by go_grown) hg1).trans e4, (Below.cell (B := w1.heap.size) (w := w1) (by go_grown) hg1).trans e5, (Below.cell (B := w1.heap.size) (w := w1) (by go_grown) hg1).trans e6⟩)
      (first | (go_at_call 11; refine (Within_at _ _ _ _ (by omega) (by omega) (by omega) (by omega) (by omega)).mono ?_; rintro e wz ⟨rfl, rfl⟩))
    all_goals
      go_wp2
      go_meet
      exact ⟨_, rfl, (HS1.out.alloc _).drew⟩
  case rest =>
    obtain ⟨gp, rfl, hst2⟩ := hcut
    have hz := within_range size (within slide 1 12) (4 * within slide 1 12) (by omega)
    obtain ⟨q2, z2⟩ := blkCells (hst2.blk 3 rfl).1
    obtain ⟨p2, _⟩ := blkCells (hst2.blk 1 rfl).1
    have hp2 : gp < wc.heap.size := (hst2.blk 3 rfl).2.2
    have hg3 : g < wc.heap.size := (hst2.blk 1 rfl).2.2
    have hst3 := (hst2.set 3 rfl 1 (.int .i64 (within size (within slide 1 12) (4 * within slide 1 12)))).nil 147 2 Opr.cells
    have HS3 := Lib.hid hst3
    clear hst2 hst3 HS1 e3 e4 e5 e6 hg1 hg2
    have hpo : pipeOf ⟨ops, ns, size, slide, ag, sink, feed⟩ = ⟨(List.range (min ops.length 4)).map (opAt ops ns), within size (within slide 1 12) (4 * within slide 1 12), within slide 1 12, within ag 1 4, within sink (-1) 1, within feed (-1) 1⟩ := rfl
    generalize hq2 : within slide 1 12 = S2 at *
    generalize hq1 : within size S2 (4 * S2) = S1 at *
    have HQ1 := Lib.hid hq1
    clear hq1 hq2
    generalize within ag 1 4 = S3 at *
    generalize within sink (-1) 1 = S4 at *
    generalize within feed (-1) 1 = S5 at *
    have HPO := Lib.hid hpo
    clear hpo
    go_wp2_with (go_at_call 11; refine (Within_at _ _ _ _ (by omega) (by omega) (by omega) (by omega) (by omega)).mono ?_; rintro e wz ⟨rfl, rfl⟩; rw [HQ1.out])
    refine wp_at HS3.out ?_
    intro w3 hst3
    clear q2 z2 p2 hp2 hg3 HS3
    have HS3 := Lib.hid hst3
    clear hst3
    have hOP : ∀ j, j < ops.length → j < 4 → (List.range (j + 1)).map (opAt ops ns) = (List.range j).map (opAt ops ns) ++ [opAt ops ns j] := fun j _ _ => by rw [List.range_succ, List.map_append]; rfl
    have HOP := Lib.hid hOP
    clear hOP
    go_loopw [4] (fun iv wr => ∃ (j : Nat) (av : Option Addr) (cap : Nat), j ≤ ops.length ∧ j ≤ 4 ∧ iv = .int .i64 j ∧ (av = none → cap = 0) ∧ St w0 wr [sepL L, pt g (.cells #[.slice ao ops.length co, .slice an ns.length cn, .int .i64 size, .int .i64 slide, .int .i64 ag, .int .i64 sink, .int .i64 feed] 102 (0, 0)), pt (g + 1) (.cells #[.slice none 0 0, .int .i64 0, .int .i64 0, .int .i64 0, .int .i64 0, .int .i64 0] 61 (0, 0)), pt gp (.cells #[.slice av j cap, .int .i64 S1, .int .i64 S2, .int .i64 S3, .int .i64 S4, .int .i64 S5] 61 (0, 0)), ownP 147 2 Opr.cells (.slice av j cap) ((List.range j).map (opAt ops ns))]) (fun iv _ => 4 - (intOf iv).toNat)
    case atStart => exact ⟨0, none, 0, by omega, by omega, rfl, fun _ => rfl, HS3.out⟩
    case round =>
      obtain ⟨j, av, cap, hj, hj4, rfl, hnil, hst⟩ := hrel
      obtain ⟨q1, _⟩ := blkCells (hst.blk 1 rfl).1
      have hg1 : g < wr.heap.size := (hst.blk 1 rfl).2.2
      have e0 := q1 0
      have e1 := q1 1
      simp at e0 e1
      have HNIL := Lib.hid hnil
      clear q1 hnil
      by_cases hlt : (j : Int) < ops.length
      · by_cases h4 : (j : Int) < 4
        · have hjn : j < ops.length := by omega
          have HLNr := Lib.hid (HLN.out wr _ 0 hst rfl)
          obtain ⟨b, o, rfl, hbl, c0⟩ := (HLO.out wr _ 0 hst rfl).intAt j hjn
          have hor : -9223372036854775808 ≤ ops[j]?.getD 0 ∧ ops[j]?.getD 0 ≤ 9223372036854775807 := by rw [List.getElem?_eq_getElem hjn]; exact i64_range (HWO.out _ (List.getElem_mem hjn))
          have hnr := pickI_range HWN.out j
          have hop : opAt ops ns j = ⟨within (ops[j]?.getD 0) 1 6, if within (ops[j]?.getD 0) 1 6 = 3 then within (within (pickI ns j) (-5) 9) 1 4 else if within (ops[j]?.getD 0) 1 6 = 6 then within (within (pickI ns j) (-5) 9) 0 2 else within (pickI ns j) (-5) 9⟩ := rfl
          have hzz := within_range (pickI ns j) (-5) 9 (by omega)
          have HPK := Lib.hid (fun (w' : World) (hb : Below wr.heap.size wr w') => pick_at an cn ns j w' (HLNr.out.below hb (fun _ _ h => h)) HMN.out (by omega))
          generalize ops[j]?.getD 0 = x at *
          generalize pickI ns j = y at *
          have HO2 := Lib.hid hop
          have HST := Lib.hid hst
          clear hop hst HLNr
          go_wp2_with fail
          go_cut [5] from 39 to 50 (fun u wx => ∃ gq, u = .pointer (some ⟨gq, 0, none⟩) ∧ St w0 wx [sepL L, pt g (.cells #[.slice (some ⟨b, o, none⟩) ops.length co, .slice an ns.length cn, .int .i64 size, .int .i64 slide, .int .i64 ag, .int .i64 sink, .int .i64 feed] 102 (0, 0)), pt (g + 1) (.cells #[.slice none 0 0, .int .i64 0, .int .i64 0, .int .i64 0, .int .i64 0, .int .i64 0] 61 (0, 0)), pt gp (.cells #[.slice av j cap, .int .i64 S1, .int .i64 S2, .int .i64 S3, .int .i64 S4, .int .i64 S5] 61 (0, 0)), ownP 147 2 Opr.cells (.slice av j cap) ((List.range j).map (opAt ops ns)), pt gq (.cells #[.int .i64 (within x 1 6), .int .i64 (within y (-5) 9)] 147 (0, 0))])
          case first =>
            go_region_held3 (fun w' => w'.cell? ⟨g, 0, none⟩ = some (.slice (some ⟨b, o, none⟩) ops.length co) ∧ w'.cell? ⟨g, 1, none⟩ = some (.slice an ns.length cn) ∧ w'.cell? ⟨b, o + j, none⟩ = some (.int .i64 x))
              (exact ⟨(Below.cell (B := wr.heap.size) (w := wr) (by go_grown) hg1).trans e0, (Below.cell (B := wr.heap.size) (w := wr) (by go_grown) hg1).trans e1, (Below.cell (B := wr.heap.size) (w := wr) (by go_grown) hbl).trans c0⟩)
              (first
                | (go_at_call 11; refine (Within_at _ _ _ _ (by omega) (by omega) (by omega) (by omega) (by omega)).mono ?_; rintro e wz ⟨rfl, rfl⟩)
                | (go_at_call 67; refine (HPK.out _ ?_).mono ?_; go_grown; rintro e wz ⟨rfl, rfl⟩))
            all_goals
              go_wp2
              go_meet
              exact ⟨_, rfl, (HST.out.alloc _).drew⟩
          case rest =>
            obtain ⟨gq, rfl, hst4⟩ := hcut
            obtain ⟨q4, z4⟩ := blkCells (hst4.blk 5 rfl).1
            obtain ⟨p4, y4⟩ := blkCells (hst4.blk 3 rfl).1
            have hq4 : gq < wc.heap.size := (hst4.blk 5 rfl).2.2
            have hp4 : gp < wc.heap.size := (hst4.blk 3 rfl).2.2
            have hne4 := hst4.ne 3 5 rfl rfl (by decide)
            have hoj := HOP.out j hjn (by omega)
            rw [HO2.out] at hoj
            have HOJ := Lib.hid hoj
            have hol : ((List.range j).map (opAt ops ns)).length < 1099511627776 := by simp; omega
            have HOL := Lib.hid hol
            have hout : ((List.range j).map (opAt ops ns)).length = j := by simp
            have HOUT := Lib.hid hout
            clear hout
            have hz1 := within_range (within y (-5) 9) 1 4 (by omega)
            have hz2 := within_range (within y (-5) 9) 0 2 (by omega)
            clear hoj hol HO2 HST c0 e0 e1
            generalize (List.range j).map (opAt ops ns) = out at *
            generalize within x 1 6 = kd at *
            generalize within y (-5) 9 = n0 at *
            by_cases k3 : kd = 3
            · subst k3
              simp only [if_true] at HOJ
              have HS4 := Lib.hid (hst4.set 5 rfl 1 (.int .i64 (within n0 1 4)))
              clear hst4
              have HS4b := Lib.hid (HS4.out.alloc (.cells #[.int .i64 3, .int .i64 (within n0 1 4)] 147))
              go_wp2_with (first
                | (go_at_call 11; refine (Within_at _ _ _ _ (by omega) (by omega) (by omega) (by omega) (by omega)).mono ?_; rintro e wz ⟨rfl, rfl⟩)
                | (at_builtin; refine wpList_push_st opElem rfl HS4b.out 4 rfl _ _ rfl rfl _ (⟨3, within n0 1 4⟩ : Opr) rfl (new_at _ _ _ (by simp)) HOL.out ?_; intro v5 w5 hst5 hv5; clear hv5; obtain ⟨a5, c5, rfl, _, _, hn5, _⟩ := hst5.sl Opr.len 4 rfl; have hl5 : (out ++ [(⟨3, within n0 1 4⟩ : Opr)]).length = j + 1 := (by simp [HOUT.out]); rw [hl5] at hst5 ⊢; obtain ⟨q5, z5⟩ := blkCells (hst5.blk 3 rfl).1; have hp5 : gp < w5.heap.size := (hst5.blk 3 rfl).2.2; have HS5 := Lib.hid hst5; have HN5 := Lib.hid hn5; clear hst5 hl5 hn5))
              go_roundw
              case rel =>
                refine ⟨j + 1, a5, c5, by omega, by omega, by go_num, HN5.out, ?_⟩
                rw [HOJ.out]
                exact (HS5.out.set 3 rfl 0 (.slice a5 (j + 1) c5)).pick [0, 1, 2, 3, 4] (by decide)
              case measure => simp [intOf]; omega
            · by_cases k6 : kd = 6
              · subst k6
                simp only [show ¬ ((6 : Int) = 3) by decide, if_false, if_true] at HOJ
                have HS4 := Lib.hid (hst4.set 5 rfl 1 (.int .i64 (within n0 0 2)))
                clear hst4
                have HS4b := Lib.hid (HS4.out.alloc (.cells #[.int .i64 6, .int .i64 (within n0 0 2)] 147))
                go_wp2_with (first
                  | (go_at_call 11; refine (Within_at _ _ _ _ (by omega) (by omega) (by omega) (by omega) (by omega)).mono ?_; rintro e wz ⟨rfl, rfl⟩)
                  | (at_builtin; refine wpList_push_st opElem rfl HS4b.out 4 rfl _ _ rfl rfl _ (⟨6, within n0 0 2⟩ : Opr) rfl (new_at _ _ _ (by simp)) HOL.out ?_; intro v5 w5 hst5 hv5; clear hv5; obtain ⟨a5, c5, rfl, _, _, hn5, _⟩ := hst5.sl Opr.len 4 rfl; have hl5 : (out ++ [(⟨6, within n0 0 2⟩ : Opr)]).length = j + 1 := (by simp [HOUT.out]); rw [hl5] at hst5 ⊢; obtain ⟨q5, z5⟩ := blkCells (hst5.blk 3 rfl).1; have hp5 : gp < w5.heap.size := (hst5.blk 3 rfl).2.2; have HS5 := Lib.hid hst5; have HN5 := Lib.hid hn5; clear hst5 hl5 hn5))
                go_roundw
                case rel =>
                  refine ⟨j + 1, a5, c5, by omega, by omega, by go_num, HN5.out, ?_⟩
                  rw [HOJ.out]
                  exact (HS5.out.set 3 rfl 0 (.slice a5 (j + 1) c5)).pick [0, 1, 2, 3, 4] (by decide)
                case measure => simp [intOf]; omega
              · simp only [k3, k6, if_false] at HOJ
                have HS4 := Lib.hid hst4
                clear hst4
                have HS4b := Lib.hid (HS4.out.alloc (.cells #[.int .i64 kd, .int .i64 n0] 147))
                go_wp2_with (first
                  | (go_at_call 11; refine (Within_at _ _ _ _ (by omega) (by omega) (by omega) (by omega) (by omega)).mono ?_; rintro e wz ⟨rfl, rfl⟩)
                  | (at_builtin; refine wpList_push_st opElem rfl HS4b.out 4 rfl _ _ rfl rfl _ (⟨kd, n0⟩ : Opr) rfl (new_at _ _ _ (by simp)) HOL.out ?_; intro v5 w5 hst5 hv5; clear hv5; obtain ⟨a5, c5, rfl, _, _, hn5, _⟩ := hst5.sl Opr.len 4 rfl; have hl5 : (out ++ [(⟨kd, n0⟩ : Opr)]).length = j + 1 := (by simp [HOUT.out]); rw [hl5] at hst5 ⊢; obtain ⟨q5, z5⟩ := blkCells (hst5.blk 3 rfl).1; have hp5 : gp < w5.heap.size := (hst5.blk 3 rfl).2.2; have HS5 := Lib.hid hst5; have HN5 := Lib.hid hn5; clear hst5 hl5 hn5))
                go_roundw
                case rel =>
                  refine ⟨j + 1, a5, c5, by omega, by omega, by go_num, HN5.out, ?_⟩
                  rw [HOJ.out]
                  exact (HS5.out.set 3 rfl 0 (.slice a5 (j + 1) c5)).pick [0, 1, 2, 3, 4] (by decide)
                case measure => simp [intOf]; omega
        · obtain ⟨p4, y4⟩ := blkCells (hst.blk 3 rfl).1
          obtain ⟨q4, z4⟩ := blkCells (hst.blk 2 rfl).1
          have hp4 : gp < wr.heap.size := (hst.blk 3 rfl).2.2
          have hg2 : g + 1 < wr.heap.size := (hst.blk 2 rfl).2.2
          have HST := Lib.hid hst
          clear hst
          obtain rfl : j = 4 := by omega
          go_wp2
          have hp := HPO.out
          rw [Nat.min_eq_right (by omega)] at hp
          refine bodyPost_ret (v := .agg #[.slice av 4 cap, .int .i64 S1, .int .i64 S2, .int .i64 S3, .int .i64 S4, .int .i64 S5]) (by simp [results, go_sem, q4]) rfl ?_
          rw [hp]
          refine ⟨av, cap, by simp, HNIL.out, ?_⟩
          have h := (((((((HST.out.set 2 rfl 0 (.slice av 4 cap)).set 2 rfl 1 (.int .i64 S1)).set 2 rfl 2 (.int .i64 S2)).set 2 rfl 3 (.int .i64 S3)).set 2 rfl 4 (.int .i64 S4)).set 2 rfl 5 (.int .i64 S5)).pick [0, 4] (by decide)).unwrap
          simpa using h
      · obtain ⟨p4, y4⟩ := blkCells (hst.blk 3 rfl).1
        obtain ⟨q4, z4⟩ := blkCells (hst.blk 2 rfl).1
        have hp4 : gp < wr.heap.size := (hst.blk 3 rfl).2.2
        have hg2 : g + 1 < wr.heap.size := (hst.blk 2 rfl).2.2
        have HST := Lib.hid hst
        clear hst
        obtain rfl : j = ops.length := by omega
        go_wp2
        have hp := HPO.out
        rw [Nat.min_eq_left hj4] at hp
        refine bodyPost_ret (v := .agg #[.slice av ops.length cap, .int .i64 S1, .int .i64 S2, .int .i64 S3, .int .i64 S4, .int .i64 S5]) (by simp [results, go_sem, q4]) rfl ?_
        rw [hp]
        refine ⟨av, cap, by simp, HNIL.out, ?_⟩
        have h := (((((((HST.out.set 2 rfl 0 (.slice av ops.length cap)).set 2 rfl 1 (.int .i64 S1)).set 2 rfl 2 (.int .i64 S2)).set 2 rfl 3 (.int .i64 S3)).set 2 rfl 4 (.int .i64 S4)).set 2 rfl 5 (.int .i64 S5)).pick [0, 4] (by decide)).unwrap
        simpa using h
end
/- Law10 -/
section
open Go.RowKit Go.Maps
theorem Seen.pt {α : Type} {w0 : World} {K : List HP} {c : Nat} {enc : α → List Value} (hc : ∀ x, (enc x).length = c) {e : TypeId} {g : Nat} {l : List α} (n : Nat) (h : K[n]? = some (Go.Proofs.YtdncpihaeobaeaaGreat.pt g (.cells (l.flatMap enc).toArray e (0, 0)))) : Seen w0 (sepL K) c enc (some ⟨g, 0, none⟩) l := by
  intro w' L' m hs hm
  have h1 := hs.split m hm
  refine SlAt.ofRow (e := e) (fr := (0, 0)) hc (h1.blk (L'.length + n) ?_).1
  rw [List.getElem?_append_right (by simp)]
  simpa using h
theorem mark_st {w0 w : World} {L : List HP} (m lt sn : Int) (h : St w0 w L) : Calls Tryz.prog 92 #[.agg #[.int .i64 m, .int .i64 lt, .int .i64 sn]] w fun e w' => e = .returned (.int .i64 m) ∧ St w0 w' L :=
  (mark_at m lt sn w).mono (by rintro e w' ⟨rfl, rfl⟩; exact ⟨rfl, (h.alloc _).cut⟩)
theorem sameRw_st {w0 w : World} {L : List HP} (l : List Rw) (a b : Option Addr) (ca cb : Nat) (h : St w0 w L) (ha : SlAt 5 (flat Rw.cells) w a l) (hb : SlAt 5 (flat Rw.cells) w b l) (hlen : l.length ≤ 1099511627776) (hca : l.length ≤ ca) (hcb : l.length ≤ cb) :
    Calls Tryz.prog 22 #[.slice a l.length ca, .slice b l.length cb] w fun e w' => e = .returned (.bool true) ∧ St w0 w' L :=
  (SameRw_ok l a b ca cb w ha hb hlen hca hcb).mono (by rintro e w' ⟨rfl, hb⟩; exact ⟨rfl, h.kept hb⟩)
def p10 : Pp := ⟨[⟨2, 2⟩], 10, 10, 2, -1, -1⟩
def i10 : List Inp := [⟨false, ⟨3, 0, 5, 1⟩⟩, ⟨false, ⟨12, 0, 1, 1⟩⟩, ⟨true, ⟨10, 0, 0, 0⟩⟩, ⟨false, ⟨4, 0, 9, 1⟩⟩, ⟨true, ⟨20, 0, 0, 0⟩⟩]
def r10 : Rn := ⟨⟨0, 0, 0⟩, p10, []⟩
theorem p10_right : rightPp p10 = true := by decide +kernel
theorem r10_rows : rowsR r10 i10 = [⟨0, 0, 10, 1, 1⟩, ⟨10, 0, 2, 1, 1⟩] := by decide +kernel
theorem r10_late : (afterR r10 i10).c.late = 1 := by decide +kernel
theorem r10_seen : (afterR r10 i10).c.seen = 3 := by decide +kernel
theorem r10_mark : (afterR r10 i10).c.mark = 20 := by decide +kernel
theorem r10_len : (afterR r10 i10).L = [] := by decide +kernel
theorem r10_c : (afterR r10 i10).c = ⟨20, 1, 3⟩ := by
  have h1 := r10_late
  have h2 := r10_seen
  have h3 := r10_mark
  generalize (afterR r10 i10).c = c at *
  obtain ⟨a, b, d⟩ := c
  dsimp only at h1 h2 h3
  subst h1 h2 h3
  rfl
theorem p10_ops : ∀ o ∈ p10.ops, o.wf := by
  intro o ho
  simp [p10] at ho
  subst ho
  exact ⟨by decide, by decide⟩
theorem i10_wf : ∀ i ∈ i10, i.ev.wf := by
  intro i hi
  simp [i10] at hi
  rcases hi with rfl | rfl | rfl | rfl | rfl <;> exact ⟨by decide, by decide, by decide, by decide⟩
end
/- Whole -/
section
open Go.RowKit Go.Maps
def newR (p : Pp) : Rn := ⟨⟨0, 0, 0⟩, p, []⟩
def wholeRows (p : Pp) (l : List Inp) : List Rw := rowsR (newR p) l
theorem seen_more {α : Type} {w0 : World} {L : List HP} {X : HP} {c : Nat} {enc : α → List Value} {a : Option Addr} {l : List α} (h : Seen w0 (sepL L) c enc a l) : Seen w0 (sepL ((L ++ [X]).set L.length emp)) c enc a l := by
  intro w' L' m hs hm
  have h1 := hs.imp m hm (X' := sepL L) fun h ⟨own, ho⟩ => ⟨own, fun i P hi => ho i P (by
    have hl := (List.getElem?_eq_some_iff.1 hi).1
    rw [List.getElem?_set, if_neg (by omega), List.getElem?_append_left hl]
    exact hi)⟩
  exact h w' _ m h1 (by rw [List.getElem?_set, if_pos rfl, if_pos (List.getElem?_eq_some_iff.1 hm).1])
/-- One thing is let go. -/
theorem St.skip {w0 w : World} {L K : List HP} {Y : HP} (h : St w0 w (L ++ Y :: K)) : St w0 w (L ++ K) := by
  refine ⟨h.below, ?_⟩
  obtain ⟨own, ho⟩ := h.sep
  refine ⟨fun b => if own b < L.length then own b else if own b = L.length then L.length + K.length else own b - 1, fun i P hi => ?_⟩
  by_cases hil : i < L.length
  · rw [List.getElem?_append_left hil] at hi
    refine cast (congrArg P (part_own fun b => ?_)) (ho i P (by rw [List.getElem?_append_left hil]; exact hi))
    simp only [beq_iff_eq]
    constructor
    · intro he; rw [if_pos (by omega), he]
    · intro he
      split at he
      · exact he
      · split at he <;> omega
  · rw [List.getElem?_append_right (by omega)] at hi
    have hk := (List.getElem?_eq_some_iff.1 hi).1
    refine cast (congrArg P (part_own fun b => ?_)) (ho (i + 1) P (by rw [List.getElem?_append_right (by omega), show i + 1 - L.length = (i - L.length) + 1 by omega]; exact hi))
    simp only [beq_iff_eq]
    constructor
    · intro he; rw [if_neg (by omega), if_neg (by omega)]; omega
    · intro he
      split at he
      · omega
      · split at he <;> omega
theorem set_last {L : List HP} (X Y : HP) : (L ++ [X]).set L.length Y = L ++ [Y] := by rw [List.set_append_right _ _ (Nat.le_refl _), Nat.sub_self]; rfl
set_option maxRecDepth 20000 in
theorem rows_st {w0 w : World} {L : List HP} (h : St w0 w L) (p : Pp) (a : Option Addr) (cap : Nat) (hl : SlAt 2 (flat Opr.cells) w a p.ops) (hnil : a = none → cap = 0) (hw : ∀ o ∈ p.ops, o.wf) (hlen : p.ops.length ≤ 6) (hr : rightPp p = true)
    (ia : Option Addr) (ic : Nat) (l : List Inp) (hi : Seen w0 (sepL L) 5 Inp.cells ia l) (hiw : ∀ i ∈ l, i.ev.wf) (hil : l.length < 2 ^ 29) :
    Calls Tryz.prog 41 #[.agg #[.slice a p.ops.length cap, .int .i64 p.size, .int .i64 p.slide, .int .i64 p.agg, .int .i64 p.sink, .int .i64 p.feed], .slice ia l.length ic] w fun e w' => ∃ v, e = .returned v ∧ St w0 w' (L ++ [ownP 55 5 Rw.cells v (wholeRows p l)]) := by
  have hl0 := hl.below (((Below.refl _ w).alloc (Nat.le_refl _) (.cells #[.slice a p.ops.length cap, .int .i64 p.size, .int .i64 p.slide, .int .i64 p.agg, .int .i64 p.sink, .int .i64 p.feed] 61))) (fun _ _ h => h)
  have hst0 := (h.alloc (.cells #[.slice a p.ops.length cap, .int .i64 p.size, .int .i64 p.slide, .int .i64 p.agg, .int .i64 p.sink, .int .i64 p.feed] 61)).cut
  have HC := Lib.hid (rnNew_st hst0 p a cap hl0 hnil hw hlen hr)
  have HI := Lib.hid (seen_more (X := emp) hi)
  have HIO := Lib.hid hi
  have HIW := Lib.hid hiw
  clear h hl hnil hw hr hl0 hst0 hi hiw
  go_enter Tryz.func41, Tryz.ntmps41
  go_wp2_with (first
    | (go_at_call 65; (with_reducible refine HC.out.mono ?_); rintro e w1 ⟨rb, rfl, hst1⟩; have HT := Lib.hid (rnTake_st (N := 0) (r := newR p) (rb := rb) hst1 L.length (by simp [newR]) ia ic l (seen_more HIO.out) HIW.out (by omega) (by simp [newR])); clear hst1)
    | (go_at_call 66; (with_reducible refine HT.out.mono ?_); rintro e w2 ⟨v2, rfl, hst2⟩; have HS2 := Lib.hid hst2; clear hst2))
  go_ret
  refine ⟨_, rfl, ?_⟩
  have h := HS2.out
  rw [set_last, List.append_assoc] at h
  exact h.skip
set_option maxRecDepth 20000 in
theorem past_st {w0 w : World} {L : List HP} (h : St w0 w L) (p : Pp) (a : Option Addr) (cap : Nat) (hl : SlAt 2 (flat Opr.cells) w a p.ops) (hnil : a = none → cap = 0) (hw : ∀ o ∈ p.ops, o.wf) (hlen : p.ops.length ≤ 6) (hr : rightPp p = true)
    (ia : Option Addr) (ic : Nat) (l : List Inp) (hi : Seen w0 (sepL L) 5 Inp.cells ia l) (hiw : ∀ i ∈ l, i.ev.wf) (hil : l.length < 2 ^ 29) :
    Calls Tryz.prog 42 #[.agg #[.slice a p.ops.length cap, .int .i64 p.size, .int .i64 p.slide, .int .i64 p.agg, .int .i64 p.sink, .int .i64 p.feed], .slice ia l.length ic] w fun e w' => e = .returned (.bool (((afterR (newR p) l).L.length : Int) == 0)) ∧ St w0 w' L := by
  have hl0 := hl.below (((Below.refl _ w).alloc (Nat.le_refl _) (.cells #[.slice a p.ops.length cap, .int .i64 p.size, .int .i64 p.slide, .int .i64 p.agg, .int .i64 p.sink, .int .i64 p.feed] 61))) (fun _ _ h => h)
  have hst0 := (h.alloc (.cells #[.slice a p.ops.length cap, .int .i64 p.size, .int .i64 p.slide, .int .i64 p.agg, .int .i64 p.sink, .int .i64 p.feed] 61)).cut
  have HC := Lib.hid (rnNew_st hst0 p a cap hl0 hnil hw hlen hr)
  have HIO := Lib.hid hi
  have HIW := Lib.hid hiw
  clear h hl hnil hw hr hl0 hst0 hi hiw
  go_enter Tryz.func42, Tryz.ntmps42
  go_wp2_with (first
    | (go_at_call 65; (with_reducible refine HC.out.mono ?_); rintro e w1 ⟨rb, rfl, hst1⟩; have HT := Lib.hid (rnTake_st (N := 0) (r := newR p) (rb := rb) hst1 L.length (by simp [newR]) ia ic l (seen_more HIO.out) HIW.out (by omega) (by simp [newR])); clear hst1)
    | (go_at_call 66; (with_reducible refine HT.out.mono ?_); rintro e w2 ⟨v2, rfl, hst2⟩; rw [set_last] at hst2; obtain ⟨pb, v, _, ⟨hb, _, hl⟩, _, _, hlen, _, hx⟩ := rn_see hst2.cut L.length (by simp; rfl) (by omega); obtain ⟨q, _⟩ := blkCells hb; have e3 := q 3; simp [Rn.cells] at e3; have HLEN := Lib.hid (hlen _ hx); clear hb q hlen hx hst2)
    | (go_at_call 34; (with_reducible refine HLEN.out.mono ?_); rintro e w3 ⟨rfl, hst3⟩; have HS3 := Lib.hid hst3; clear hst3))
  go_ret
  exact ⟨rfl, HS3.out.cut⟩
def labelsOf (l : List Inp) : Int := l.foldl (fun m i => if i.mark then m else bits .or .u64 m i.ev.label) 0
end
/- PartLaw -/
section
open Go.RowKit Go.Maps
/-- The windows of some keys. -/
def keysL (K : Int → Bool) (L : PL) : PL := L.filter fun q => K q.1.1.2
theorem keysL_cons (K : Int → Bool) (q : Pl × Pn) (L : PL) : keysL K (q :: L) = if K q.1.1.2 = true then q :: keysL K L else keysL K L := by
  unfold keysL
  rw [List.filter_cons]
theorem keysL_sorted {K : Int → Bool} {L : PL} (h : SortedL L) : SortedL (keysL K L) := List.Pairwise.filter _ h
theorem lookL_head (q : Pl × Pn) (L : PL) (p : Pl) : lookL (q :: L) p = if q.1 = p then some q.2 else lookL L p := by
  unfold lookL
  rw [List.find?_cons]
  by_cases h : q.1 = p <;> simp [h]
theorem lookL_keys {K : Int → Bool} {p : Pl} (hp : K p.1.2 = true) : ∀ L : PL, lookL (keysL K L) p = lookL L p
  | [] => rfl
  | q :: L => by
    rw [keysL_cons, lookL_head]
    by_cases h : K q.1.1.2 = true
    · rw [if_pos h, lookL_head, lookL_keys hp L]
    · have hn : ¬ q.1 = p := fun e => h (by rw [e]; exact hp)
      rw [if_neg h, if_neg hn, lookL_keys hp L]
theorem insL_head (q : Pl × Pn) (L : PL) (p : Pl) (x : Pn) : insL (q :: L) p x = if q.1 = p then (p, x) :: L else if ltP q.1 p then q :: insL L p x else (p, x) :: q :: L := rfl
theorem insL_keys_ne {K : Int → Bool} {p : Pl} {x : Pn} (hp : ¬ K p.1.2 = true) : ∀ L : PL, keysL K (insL L p x) = keysL K L
  | [] => by rw [insL, keysL_cons, if_neg hp]
  | q :: L => by
    rw [insL_head]
    by_cases h1 : q.1 = p
    · rw [if_pos h1, keysL_cons, keysL_cons, if_neg hp, if_neg (h1 ▸ hp)]
    · rw [if_neg h1]
      by_cases h2 : ltP q.1 p
      · rw [if_pos h2, keysL_cons, keysL_cons, insL_keys_ne hp L]
      · rw [if_neg h2, keysL_cons, if_neg hp]
theorem insL_first {p : Pl} {x : Pn} : ∀ {L : PL}, (∀ q ∈ L, ltP p q.1) → insL L p x = (p, x) :: L
  | [], _ => rfl
  | q :: L, h => by
    have h1 := h q (by simp)
    have hn : ¬ q.1 = p := fun e => ltP_irrefl p (by rw [e] at h1; exact h1)
    have hm : ¬ ltP q.1 p := fun h2 => ltP_irrefl p (ltP_trans h1 h2)
    rw [insL_head, if_neg hn, if_neg hm]
theorem insL_keys {K : Int → Bool} {p : Pl} {x : Pn} (hp : K p.1.2 = true) : ∀ {L : PL}, SortedL L → keysL K (insL L p x) = insL (keysL K L) p x
  | [], _ => by rw [insL, keysL_cons, if_pos hp]; rfl
  | q :: L, hs => by
    have hs' := List.pairwise_cons.1 hs
    rw [insL_head]
    by_cases h1 : q.1 = p
    · rw [if_pos h1, keysL_cons, keysL_cons, if_pos hp, if_pos (h1 ▸ hp), insL_head, if_pos h1]
    · rw [if_neg h1]
      by_cases h2 : ltP q.1 p
      · rw [if_pos h2, keysL_cons, keysL_cons, insL_keys hp hs'.2]
        by_cases h3 : K q.1.1.2 = true
        · rw [if_pos h3, if_pos h3, insL_head, if_neg h1, if_pos h2]
        · rw [if_neg h3, if_neg h3]
      · rw [if_neg h2, keysL_cons, if_pos hp]
        refine (insL_first fun r hr => ?_).symm
        have hr' := (List.mem_filter.1 hr).1
        have hpq := ltP_total h1 h2
        rcases List.mem_cons.1 hr' with rfl | h
        · exact hpq
        · exact ltP_trans hpq (hs'.1 r h)
theorem putS_keys {kd : Int} {K : Int → Bool} {L : PL} (hs : SortedL L) (e : Ev) (he : e.wf) {s : Int} (hw : (Lit.int .i64 s).wf = true) : keysL K (putS kd L e s) = if K e.key = true then putS kd (keysL K L) e s else keysL K L := by
  unfold putS
  have hp : (plOf s e.key).1 = (s, e.key) := plOf_1 hw he.2.1
  by_cases h : K e.key = true
  · rw [if_pos h, insL_keys (by rw [hp]; exact h) hs, lookL_keys (by rw [hp]; exact h)]
  · rw [if_neg h, insL_keys_ne (by rw [hp]; exact h)]
theorem puts_keys {kd : Int} {K : Int → Bool} (e : Ev) (he : e.wf) : ∀ (ss : List Int) (L : PL), (∀ s ∈ ss, (Lit.int .i64 s).wf = true) → SortedL L → keysL K (ss.foldl (fun L s => putS kd L e s) L) = if K e.key = true then ss.foldl (fun L s => putS kd L e s) (keysL K L) else keysL K L
  | [], L, _, _ => by simp
  | s :: ss, L, hw, hs => by
    rw [List.foldl_cons, puts_keys e he ss _ (fun t h => hw t (by simp [h])) (putS_sorted hs e s), putS_keys hs e he (hw s (by simp))]
    by_cases h : K e.key = true
    · simp [h]
    · simp [h]
theorem putE_keys {kd sz sl : Int} {K : Int → Bool} {L : PL} (hs : SortedL L) (e : Ev) (he : e.wf) : keysL K (putE kd sz sl L e) = if K e.key = true then putE kd sz sl (keysL K L) e else keysL K L :=
  puts_keys e he _ L (fun s h => starts_wf h) hs
theorem putE_srt {kd sz sl : Int} {L : PL} (hs : SortedL L) (e : Ev) : SortedL (putE kd sz sl L e) := by
  unfold putE
  generalize startsOf e.time sz sl = ss
  induction ss generalizing L with
  | nil => exact hs
  | cons s ss ih => exact ih (putS_sorted hs e s)
theorem keep_srt {sz t : Int} {L : PL} (hs : SortedL L) : SortedL (keepL sz t L) := List.Pairwise.filter _ hs
theorem keep_keys {sz t : Int} {K : Int → Bool} (L : PL) : keysL K (keepL sz t L) = keepL sz t (keysL K L) := by
  unfold keysL keepL
  rw [List.filter_filter, List.filter_filter]
  congr 1
  funext q
  rw [Bool.and_comm]
theorem done_keys {sz t : Int} {K : Int → Bool} (L : PL) : keysL K (doneL sz t L) = doneL sz t (keysL K L) := by
  unfold keysL doneL
  rw [List.filter_filter, List.filter_filter]
  congr 1
  funext q
  rw [Bool.and_comm]
theorem rows_keys (K : Int → Bool) (L : PL) : (rowsL L).filter (fun r => K r.key) = rowsL (keysL K L) := by
  unfold rowsL keysL
  rw [List.filter_map]
  rfl
theorem takeR_srt {r : Rn} (hs : SortedL r.L) (i : Inp) : SortedL (takeR r i).1.L := by
  unfold takeR
  split
  · split
    · exact keep_srt hs
    · exact hs
  · unfold evR
    dsimp only
    split
    · split
      · exact putE_srt hs _
      · exact hs
    · exact hs
theorem runO_nil (e : Ev) : runO e [] = some e := rfl
/-- Two runners of one pipe without operations: the one has just some keys of the other's. -/
structure Part (K : Int → Bool) (r q : Rn) : Prop where
  ops : r.p.ops = []
  pipe : q.p = r.p
  mark : q.c.mark = r.c.mark
  open_ : q.L = keysL K r.L
  sorted : SortedL r.L
  seen : q.c.seen ≤ r.c.seen
  late : q.c.late ≤ r.c.late
theorem Part.mk_in {K : Int → Bool} {r q : Rn} (h : Part K r q) (i : Inp) (hw : i.ev.wf) (hi : (i.mark || K i.ev.key) = true) : Part K (takeR r i).1 (takeR q i).1 ∧ (takeR q i).2 = (takeR r i).2.filter (fun x => K x.key) := by
  obtain ⟨hops, hp, hm, ho, hs, hsn, hlt⟩ := h
  have hs' := takeR_srt hs i
  obtain ⟨im, e⟩ := i
  obtain ⟨⟨m, lt, sn⟩, p, L⟩ := r
  obtain ⟨⟨m', lt', sn'⟩, p', L'⟩ := q
  dsimp only at *
  subst hp hm ho
  cases im with
  | true =>
    unfold takeR
    dsimp only [if_true]
    have ha : advB ⟨m', lt', sn'⟩ e.time = advB ⟨m', lt, sn⟩ e.time := rfl
    rw [ha]
    cases hb : advB ⟨m', lt, sn⟩ e.time with
    | true =>
      simp only [if_true]
      rw [advC_true (ha.trans hb), advC_true hb]
      refine ⟨⟨hops, rfl, rfl, (keep_keys L).symm, keep_srt hs, hsn, hlt⟩, ?_⟩
      rw [rows_keys, done_keys]
    | false =>
      simp only [Bool.false_eq_true, if_false]
      exact ⟨⟨hops, rfl, rfl, rfl, hs, hsn, hlt⟩, rfl⟩
  | false =>
    simp only [Bool.false_or] at hi
    unfold takeR evR
    simp only [Bool.false_eq_true, if_false, hops, runO_nil]
    have hB : onB ⟨m', lt', sn'⟩ e.time = onB ⟨m', lt, sn⟩ e.time := rfl
    rw [hB]
    have hC : (onC ⟨m', lt', sn'⟩ e.time).seen ≤ (onC ⟨m', lt, sn⟩ e.time).seen ∧ (onC ⟨m', lt', sn'⟩ e.time).late ≤ (onC ⟨m', lt, sn⟩ e.time).late := by
      unfold onC
      split
      · split
        · dsimp only; omega
        · dsimp only; omega
      · exact ⟨hsn, hlt⟩
    refine ⟨⟨hops, rfl, by rw [onC_mark, onC_mark], ?_, ?_, hC.1, hC.2⟩, rfl⟩
    · dsimp only
      split
      · rw [putE_keys hs e hw, if_pos hi]
      · rfl
    · dsimp only
      split
      · exact putE_srt hs e
      · exact hs
theorem Part.mk_out {K : Int → Bool} {r q : Rn} (h : Part K r q) (i : Inp) (hw : i.ev.wf) (hi : (i.mark || K i.ev.key) = false) : Part K (takeR r i).1 q ∧ (takeR r i).2.filter (fun x => K x.key) = [] := by
  obtain ⟨hops, hp, hm, ho, hs, hsn, hlt⟩ := h
  simp only [Bool.or_eq_false_iff] at hi
  obtain ⟨im, e⟩ := i
  obtain ⟨⟨m, lt, sn⟩, p, L⟩ := r
  dsimp only at *
  obtain ⟨rfl, hk⟩ := hi
  unfold takeR evR
  simp only [Bool.false_eq_true, if_false, hops, runO_nil]
  have hC : sn ≤ (onC ⟨m, lt, sn⟩ e.time).seen ∧ lt ≤ (onC ⟨m, lt, sn⟩ e.time).late := by
    unfold onC
    split
    · split
      · dsimp only; omega
      · dsimp only; omega
    · exact ⟨Int.le_refl _, Int.le_refl _⟩
  refine ⟨⟨hops, hp, by rw [onC_mark]; exact hm, ?_, ?_, by dsimp only; omega, by dsimp only; omega⟩, rfl⟩
  · dsimp only
    split
    · rw [putE_keys hs e hw, if_neg (by rw [hk]; decide)]
      exact ho
    · exact ho
  · dsimp only
    split
    · exact putE_srt hs e
    · exact hs
theorem Part.all {K : Int → Bool} : ∀ {l : List Inp} {r q : Rn}, Part K r q → (∀ i ∈ l, i.ev.wf) → Part K (afterR r l) (afterR q (l.filter fun i => i.mark || K i.ev.key)) ∧ rowsR q (l.filter fun i => i.mark || K i.ev.key) = (rowsR r l).filter (fun x => K x.key)
  | [], r, q, h, _ => ⟨h, rfl⟩
  | i :: l, r, q, h, hw => by
    rw [List.filter_cons]
    cases hi : (i.mark || K i.ev.key) with
    | true =>
      obtain ⟨h1, h2⟩ := h.mk_in i (hw i (by simp)) hi
      obtain ⟨h3, h4⟩ := Part.all (l := l) h1 (fun j hj => hw j (by simp [hj]))
      rw [if_pos rfl]
      refine ⟨h3, ?_⟩
      rw [rowsR, rowsR, h4, h2, List.filter_append]
    | false =>
      obtain ⟨h1, h2⟩ := h.mk_out i (hw i (by simp)) hi
      obtain ⟨h3, h4⟩ := Part.all (l := l) h1 (fun j hj => hw j (by simp [hj]))
      rw [if_neg (by decide)]
      refine ⟨h3, ?_⟩
      rw [rowsR, h4, List.filter_append, h2, List.nil_append]
theorem Part.new (K : Int → Bool) {p : Pp} (h : p.ops = []) : Part K ⟨⟨0, 0, 0⟩, p, []⟩ ⟨⟨0, 0, 0⟩, p, []⟩ := ⟨h, rfl, rfl, rfl, List.Pairwise.nil, Int.le_refl _, Int.le_refl _⟩
end
/- Readers -/
section
open Go.RowKit Go.Maps Go.ChangeShapes Go.WideShapes Go.ChangeAt
def isIq (w : World) (cs : List Value) (q : InQ) : Prop := cs = q.cells ∧ q.wf
set_option maxRecDepth 20000 in
theorem Rdr_iq {H : Type} {enc : TypeId × Value → H} : Rdr enc Tryz.prog 104 isIq := by
  intro w fuel cs x h
  obtain ⟨y0, y1, y2, y3, n, hx, hl, h0, h1, h2, h3⟩ := Go.Joins.trod_struct4 Tryz.underlying104 h
  rw [show Tryz.prog.cellsOf 104 = 4 by kernel_rfl] at hl
  match cs, hl with
  | [c0, c1, c2, c3], _ =>
    rw [show Tryz.prog.cellsOf 3 = 1 by kernel_rfl] at h0 h1 h2 h3
    obtain ⟨n0, e0, _, w0⟩ := DataW.trod_int Tryz.underlying3 h0
    obtain ⟨n1, e1, _, w1⟩ := DataW.trod_int Tryz.underlying3 h1
    obtain ⟨n2, e2, _, w2⟩ := DataW.trod_int Tryz.underlying3 h2
    obtain ⟨n3, e3, _, w3⟩ := DataW.trod_int Tryz.underlying3 h3
    simp at e0 e1 e2 e3
    subst e0 e1 e2 e3
    exact ⟨⟨n0, n1, n2, n3⟩, rfl, w0, w1, w2, w3⟩
theorem SlAt.iq {w : World} {a : Option Addr} {l : List InQ} (h : SlAt 4 isIq w a l) : SlAt 4 (flat InQ.cells) w a l ∧ ∀ e ∈ l, e.wf := by
  refine ⟨h.imp fun cs x h => h.1, fun e he => ?_⟩
  rcases h with rfl | ⟨b, o, rfl, hlt, h⟩
  · cases he
  · obtain ⟨i, hi, rfl⟩ := List.getElem_of_mem he
    obtain ⟨cs, h1, h2, h3⟩ := h i hi
    exact h3.2
theorem SlAt.ints {kd : IntKind} {w : World} {a : Option Addr} {l : List Int} (h : SlAt 1 (isInt kd) w a l) : SlAt 1 (flat (intC kd)) w a l ∧ ∀ x ∈ l, (Lit.int kd x).wf = true := by
  refine ⟨h.imp fun cs x h => h.1, fun e he => ?_⟩
  rcases h with rfl | ⟨b, o, rfl, hlt, h⟩
  · cases he
  · obtain ⟨i, hi, rfl⟩ := List.getElem_of_mem he
    obtain ⟨cs, h1, h2, h3⟩ := h i hi
    exact h3.2
def isPq (w : World) (cs : List Value) (k : PipeQ) : Prop := ∃ ao co an cn, cs = [.slice ao k.ops.length co, .slice an k.ns.length cn, .int .i64 k.size, .int .i64 k.slide, .int .i64 k.agg, .int .i64 k.sink, .int .i64 k.feed] ∧ SlAt 1 (flat (intC .i64)) w ao k.ops ∧ SlAt 1 (flat (intC .i64)) w an k.ns ∧ k.wf
set_option maxRecDepth 20000 in
theorem Rdr_pq {H : Type} {enc : TypeId × Value → H} : Rdr enc Tryz.prog 102 isPq := by
  intro w fuel cs x h
  obtain ⟨xs, n, _, _, hl, hxl, hf⟩ := DataW.trod_struct Tryz.underlying102 h
  rw [show Tryz.prog.cellsOf 102 = 7 by kernel_rfl] at hl
  have f0 := hf 0 _ rfl
  have f1 := hf 1 _ rfl
  have f2 := hf 2 _ rfl
  have f3 := hf 3 _ rfl
  have f4 := hf 4 _ rfl
  have f5 := hf 5 _ rfl
  have f6 := hf 6 _ rfl
  match xs, hxl with
  | [y0, y1, y2, y3, y4, y5, y6], _ =>
    match cs, hl with
    | [c0, c1, c2, c3, c4, c5, c6], _ =>
      simp only [List.getElem_toArray, List.getElem_cons_succ, List.getElem_cons_zero] at f0 f1 f2 f3 f4 f5 f6
      rw [show Tryz.prog.cellsOf 3 = 1 by kernel_rfl] at f2 f3 f4 f5 f6
      rw [show Tryz.prog.cellsOf 100 = 1 by kernel_rfl] at f0 f1
      obtain ⟨l0, a0, k0, e0, _, m0, _, s0⟩ := Rdr.slice Tryz.underlying100 1 (by kernel_rfl) (by decide) (Rdr.int Tryz.underlying3) w _ _ _ f0
      obtain ⟨l1, a1, k1, e1, _, m1, _, s1⟩ := Rdr.slice Tryz.underlying100 1 (by kernel_rfl) (by decide) (Rdr.int Tryz.underlying3) w _ _ _ f1
      obtain ⟨n2, e2, _, w2⟩ := DataW.trod_int Tryz.underlying3 f2
      obtain ⟨n3, e3, _, w3⟩ := DataW.trod_int Tryz.underlying3 f3
      obtain ⟨n4, e4, _, w4⟩ := DataW.trod_int Tryz.underlying3 f4
      obtain ⟨n5, e5, _, w5⟩ := DataW.trod_int Tryz.underlying3 f5
      obtain ⟨n6, e6, _, w6⟩ := DataW.trod_int Tryz.underlying3 f6
      simp at e0 e1 e2 e3 e4 e5 e6
      subst e0 e1 e2 e3 e4 e5 e6
      exact ⟨⟨l0, l1, n2, n3, n4, n5, n6⟩, a0, k0, a1, k1, rfl, s0.ints.1, s1.ints.1, s0.ints.2, s1.ints.2, w2, w3, w4, w5, w6, by dsimp only; omega, by dsimp only; omega⟩
end
/- RunKeys -/
section
open Go.RowKit Go.Maps
theorem labelOf_wf (n : Int) : (Lit.int .u64 (labelOf n)).wf = true := by
  unfold labelOf
  have h := within_range n 0 7 (by omega)
  have : within n 0 7 = 0 ∨ within n 0 7 = 1 ∨ within n 0 7 = 2 ∨ within n 0 7 = 3 ∨ within n 0 7 = 4 ∨ within n 0 7 = 5 ∨ within n 0 7 = 6 ∨ within n 0 7 = 7 := by omega
  rcases this with h | h | h | h | h | h | h | h <;> rw [h] <;> decide
theorem inpOf_wf (q : InQ) : (inpOf q).ev.wf := by
  unfold inpOf
  split
  · have h := within_range q.time 0 160 (by omega)
    exact ⟨WalkArith.wf_i64 (by dsimp only; omega), by dsimp only; decide, by dsimp only; decide, by dsimp only; decide⟩
  · have h1 := within_range q.time 0 120 (by omega)
    have h2 := within_range q.key 0 3 (by omega)
    have h3 := within_range q.value (-50) 50 (by omega)
    exact ⟨WalkArith.wf_i64 (by dsimp only; omega), WalkArith.wf_i64 (by dsimp only; omega), WalkArith.wf_i64 (by dsimp only; omega), labelOf_wf _⟩
theorem inputs_wf (l : List InQ) : ∀ i ∈ inputsOf l, i.ev.wf := by
  intro i hi
  obtain ⟨q, _, rfl⟩ := List.mem_map.1 hi
  exact inpOf_wf q
theorem inputs_len (l : List InQ) : (inputsOf l).length ≤ 25 := by simp [inputsOf]; omega
/-- A pipe without its operations. -/
def Pp.bare (p : Pp) : Pp := ⟨[], p.size, p.slide, p.agg, p.sink, p.feed⟩
theorem bare_right {p : Pp} (h : rightPp p = true) : rightPp p.bare = true := by
  unfold rightPp at *
  simp only [Bool.and_eq_true] at *
  exact ⟨⟨⟨⟨rfl, h.1.1.1.2⟩, h.1.1.2⟩, h.1.2⟩, h.2⟩
theorem filter_take {α : Type} {l : List α} (f : α → Bool) {m : Nat} (hm : m < l.length) : (l.take (m + 1)).filter f = if f l[m] then (l.take m).filter f ++ [l[m]] else (l.take m).filter f := by
  rw [List.take_add_one, List.getElem?_eq_getElem hm, List.filter_append]
  cases h : f l[m] <;> simp [h]
set_option maxRecDepth 20000 in
theorem bareNew_st {w0 w : World} {L : List HP} (h : St w0 w L) (p : Pp) (hr : rightPp p.bare = true) : Calls Tryz.prog 65 #[.agg #[.slice none 0 0, .int .i64 p.size, .int .i64 p.slide, .int .i64 p.agg, .int .i64 p.sink, .int .i64 p.feed]] w fun e w' => ∃ rb, e = .returned (.pointer (some ⟨rb, 0, none⟩)) ∧ St w0 w' (L ++ [rnP rb (newR p.bare) 0]) :=
  rnNew_st h p.bare none 0 (.inl rfl) (fun _ => rfl) (by simp [Pp.bare]) (by simp [Pp.bare]) hr
/-- One input handed to a runner. -/
theorem take1_st {w0 w : World} {L : List HP} {rb N : Nat} {r : Rn} (h : St w0 w L) (n : Nat) (hn : L[n]? = some (rnP rb r N)) (m : Nat) {g : Nat} {i : Inp} (hm : (L.set n emp)[m]? = some (pt g (.cells #[.bool i.mark, .int .i64 i.ev.time, .int .i64 i.ev.key, .int .i64 i.ev.value, .int .u64 i.ev.label] 65 (0, 0)))) (hw : i.ev.wf) (hN : N + 1 < 2 ^ 30) :
    Calls Tryz.prog 66 #[.pointer (some ⟨rb, 0, none⟩), .slice (some ⟨g, 0, none⟩) 1 1] w fun x w' => ∃ v, x = .returned v ∧ St w0 w' (L.set n (rnP rb (takeR r i).1 (N + 1)) ++ [ownP 55 5 Rw.cells v (takeR r i).2]) := by
  obtain ⟨pb, v, _, _, hG, _⟩ := rn_see h n hn (by omega)
  refine (rnTake_st h n hn (some ⟨g, 0, none⟩) 1 [i] (Seen.pt (l := [i]) Inp.len m hm) (by simpa using hw) hN hG.len).mono ?_
  rintro e w' ⟨v, rfl, hst⟩
  refine ⟨v, rfl, ?_⟩
  have e : rowsR r [i] = (takeR r i).2 := List.append_nil _
  rw [e] at hst
  exact hst
end
/- WholeBare -/
section
open Go.RowKit Go.Maps
theorem or_assoc64 (l a b : Int) : bits .or .u64 (bits .or .u64 l a) b = bits .or .u64 l (bits .or .u64 a b) := by
  simp only [bits_or64, bv_toNat]
  rw [BitVec.or_assoc]
theorem or_swap64 (l a b : Int) : bits .or .u64 (bits .or .u64 l a) b = bits .or .u64 (bits .or .u64 l b) a := by
  simp only [bits_or64, bv_toNat]
  rw [BitVec.or_assoc, BitVec.or_comm (bv a) (bv b), ← BitVec.or_assoc]
theorem labels_parts (f : Inp → Bool) : ∀ (l : List Inp) (x y : Int), l.foldl (fun m i => if i.mark then m else bits .or .u64 m i.ev.label) (bits .or .u64 x y) =
    bits .or .u64 ((l.filter fun i => i.mark || f i).foldl (fun m i => if i.mark then m else bits .or .u64 m i.ev.label) x) ((l.filter fun i => i.mark || !f i).foldl (fun m i => if i.mark then m else bits .or .u64 m i.ev.label) y)
  | [], x, y => rfl
  | i :: l, x, y => by
    rw [List.foldl_cons, List.filter_cons, List.filter_cons]
    cases hm : i.mark with
    | true =>
      simp only [Bool.true_or, if_true, List.foldl_cons, hm]
      exact labels_parts f l x y
    | false =>
      cases hf : f i with
      | true =>
        simp only [Bool.or_true, Bool.not_true, Bool.or_false, if_true, List.foldl_cons, hm, Bool.false_eq_true, if_false]
        rw [or_swap64, labels_parts f l]
      | false =>
        simp only [Bool.or_false, Bool.not_false, Bool.or_true, if_true, List.foldl_cons, hm, Bool.false_eq_true, if_false]
        rw [or_assoc64, labels_parts f l]
theorem labels_two (f : Inp → Bool) (l : List Inp) : labelsOf l = bits .or .u64 (labelsOf (l.filter fun i => i.mark || f i)) (labelsOf (l.filter fun i => i.mark || !f i)) := by
  have h := labels_parts f l 0 0
  have h0 : bits .or .u64 (0 : Int) 0 = 0 := by decide
  rw [h0] at h
  exact h
set_option maxRecDepth 20000 in
theorem bareRows_st {w0 w : World} {L : List HP} (h : St w0 w L) (p : Pp) (hr : rightPp p.bare = true) (ia : Option Addr) (ic : Nat) (l : List Inp) (hi : Seen w0 (sepL L) 5 Inp.cells ia l) (hiw : ∀ i ∈ l, i.ev.wf) (hil : l.length < 2 ^ 29) :
    Calls Tryz.prog 41 #[.agg #[.slice none 0 0, .int .i64 p.size, .int .i64 p.slide, .int .i64 p.agg, .int .i64 p.sink, .int .i64 p.feed], .slice ia l.length ic] w fun e w' => ∃ v, e = .returned v ∧ St w0 w' (L ++ [ownP 55 5 Rw.cells v (wholeRows p.bare l)]) :=
  rows_st h p.bare none 0 (.inl rfl) (fun _ => rfl) (by simp [Pp.bare]) (by simp [Pp.bare]) hr ia ic l hi hiw hil
theorem mark1000_wf : (⟨1000, 0, 0, 0⟩ : Ev).wf := ⟨by decide, by decide, by decide, by decide⟩
def endI : Inp := ⟨true, ⟨1000, 0, 0, 0⟩⟩
theorem sameRw_any {w0 w : World} {L : List HP} (h : St w0 w L) (n m : Nat) {a b : Option Addr} {j i ca cb : Nat} {l l' : List Rw} (hn : L[n]? = some (ownP 55 5 Rw.cells (.slice a j ca) l)) (hm : L[m]? = some (ownP 55 5 Rw.cells (.slice b i cb) l')) (he : l' = l) (hlen : l.length ≤ 1099511627776) :
    Calls Tryz.prog 22 #[.slice a j ca, .slice b i cb] w fun e w' => e = .returned (.bool true) ∧ St w0 w' L := by
  subst he
  obtain ⟨a1, c1, e1, h1, _, _, s1⟩ := h.sl Rw.len n hn
  obtain ⟨a2, c2, e2, h2, _, _, s2⟩ := h.sl Rw.len m hm
  cases e1
  cases e2
  exact sameRw_st l' a b ca cb h s1 s2 hlen h1 h2
end
end Go.Proofs.YtdncpihaeobaeaaGreat
