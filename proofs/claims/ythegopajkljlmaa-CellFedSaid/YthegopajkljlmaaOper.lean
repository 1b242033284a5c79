/- Walks of package oper. -/
import Derived.Test.YthegopajkljlmaaEv
import Derived.Test.YthegopajkljlmaaSepSl
import Derived.Test.YthegopajkljlmaaAgg
set_option linter.unusedVariables false
namespace Go.Proofs.Ythegopajkljlmaa
open Go.RowKit Go.Maps
theorem i64_range {n : Int} (h : (Lit.int .i64 n).wf = true) : -9223372036854775808 ≤ n ∧ n ≤ 9223372036854775807 := by
  exact wf_i64 h
/-- An operation's kind and number. -/
structure Opr where
  kind : Int
  n : Int
deriving DecidableEq
def Opr.cells (o : Opr) : List Value := [.int .i64 o.kind, .int .i64 o.n]
def Opr.zero : Opr := ⟨0, 0⟩
def Opr.wf (o : Opr) : Prop := (Lit.int .i64 o.kind).wf = true ∧ (Lit.int .i64 o.n).wf = true
theorem Opr.len (o : Opr) : o.cells.length = 2 := rfl
theorem Opr.one (o : Opr) : ∀ u ∈ o.cells, u.oneCell' = true := by intro u hu; simp [Opr.cells] at hu; rcases hu with rfl | rfl <;> rfl
theorem SlAt.opAt {w : World} {a : Option Addr} {l : List Opr} (h : SlAt 2 (flat Opr.cells) w a l) (k : Nat) (hk : k < l.length) :
    ∃ b o, a = some ⟨b, o, none⟩ ∧ b < w.heap.size ∧ w.cell? ⟨b, o + k * 2, none⟩ = some (.int .i64 (l[k]?.getD Opr.zero).kind) ∧ w.cell? ⟨b, o + k * 2 + 1, none⟩ = some (.int .i64 (l[k]?.getD Opr.zero).n) := by
  rcases h with rfl | ⟨b, o, rfl, hlt, h⟩
  · simp at hk
  · obtain ⟨cs, h1, h2, h3⟩ := h k hk
    rw [List.getElem?_eq_getElem hk]
    unfold flat at h3
    subst h3
    exact ⟨b, o, rfl, hlt, by simpa [Opr.cells] using h2 0 (by omega), by simpa [Opr.cells] using h2 1 (by omega)⟩
/-- Does an event pass, as it is? -/
def passO (o : Opr) (e : Ev) : Bool := if o.kind = 4 then decide (o.n < e.value) else if o.kind = 5 then decide (e.value < o.n) else if o.kind = 6 then decide (e.key = o.n) else false
def applyO (o : Opr) (e : Ev) : Option Ev :=
  if o.kind = 1 then some { e with value := wrap64 (e.value + o.n) }
  else if o.kind = 2 then some { e with value := wrap64 (e.value * o.n) }
  else if o.kind = 3 ∧ 1 ≤ o.n then some { e with key := e.value % o.n }
  else if passO o e then some e else none
theorem passes_any (o : Opr) (e : Ev) (w : World) : Calls Try.prog 89 #[.agg o.cells.toArray, .agg e.cells.toArray] w fun x w' => x = .returned (.bool (passO o e)) ∧ w' = (w.alloc (.cells o.cells.toArray 92)).alloc (.cells e.cells.toArray 31) := by
  obtain ⟨k, n⟩ := o
  obtain ⟨t, ky, v, lb⟩ := e
  simp only [Opr.cells, Ev.cells]
  by_cases k4 : k = 4
  · subst k4
    by_cases hv : n < v
    all_goals
      have he : passO ⟨4, n⟩ ⟨t, ky, v, lb⟩ = decide (n < v) := by simp [passO]
      rw [he]
      clear he
      go_enter Try.func89, Try.ntmps89
      go_wp2
      go_ret
      exact ⟨by simp [hv], rfl⟩
  · by_cases k5 : k = 5
    · subst k5
      by_cases hv : v < n
      all_goals
        have he : passO ⟨5, n⟩ ⟨t, ky, v, lb⟩ = decide (v < n) := by simp [passO]
        rw [he]
        clear he
        go_enter Try.func89, Try.ntmps89
        go_wp2
        go_ret
        exact ⟨by simp [hv], rfl⟩
    · by_cases k6 : k = 6
      · subst k6
        have he : passO ⟨6, n⟩ ⟨t, ky, v, lb⟩ = (ky == n) := by rw [Bool.eq_iff_iff]; simp [passO]
        rw [he]
        clear he
        go_enter Try.func89, Try.ntmps89
        go_wp2
        go_ret
        exact ⟨rfl, rfl⟩
      · have he : passO ⟨k, n⟩ ⟨t, ky, v, lb⟩ = false := by simp [passO, k4, k5, k6]
        rw [he]
        clear he
        go_enter Try.func89, Try.ntmps89
        go_wp2
        go_ret
        exact ⟨rfl, rfl⟩
def okE (r : Option Ev) : Value := .tuple #[.agg (r.getD Ev.zero).cells.toArray, .bool r.isSome]
set_option maxHeartbeats 1000000 in
theorem apply_any (o : Opr) (e : Ev) (ho : o.wf) (he : e.wf) (w : World) : Calls Try.prog 80 #[.agg o.cells.toArray, .agg e.cells.toArray] w fun x w' => x = .returned (okE (applyO o e)) ∧ Below w.heap.size w w' := by
  obtain ⟨k, n⟩ := o
  obtain ⟨t, ky, v, lb⟩ := e
  simp only [Opr.cells, Ev.cells]
  have hn := i64_range ho.2
  have hv := i64_range he.2.2.1
  have hky := i64_range he.2.1
  dsimp only at hn hv hky
  clear ho he
  by_cases k1 : k = 1
  · subst k1
    have he : applyO ⟨1, n⟩ ⟨t, ky, v, lb⟩ = some ⟨t, ky, wrap64 (v + n), lb⟩ := by simp [applyO]
    rw [he]
    clear he
    go_enter Try.func80, Try.ntmps80
    go_wp2
    exact bodyPost_ret (by simp [results, go_sem]; rfl) rfl ⟨rfl, by go_grown⟩
  · by_cases k2 : k = 2
    · subst k2
      have he : applyO ⟨2, n⟩ ⟨t, ky, v, lb⟩ = some ⟨t, ky, wrap64 (v * n), lb⟩ := by simp [applyO]
      rw [he]
      clear he
      go_enter Try.func80, Try.ntmps80
      go_wp2
      exact bodyPost_ret (by simp [results, go_sem]; rfl) rfl ⟨rfl, by go_grown⟩
    · by_cases k3 : k = 3
      · subst k3
        by_cases h1 : 1 ≤ n
        · have he : applyO ⟨3, n⟩ ⟨t, ky, v, lb⟩ = some ⟨t, v % n, v, lb⟩ := by simp [applyO, h1]
          rw [he]
          clear he
          have hz : (n == 0) = false := by simp; omega
          have hm := Int.emod_nonneg v (show n ≠ 0 by omega)
          have hm2 := Int.emod_lt_of_pos v (show 0 < n by omega)
          by_cases hneg : v.tmod n < 0
          · have h3 : ¬ (0 ≤ v) := fun h => by rw [Int.tmod_eq_emod_of_nonneg h] at hneg; omega
            have hq : v.tmod n + n = v % n := by
              rw [Int.tmod_eq_emod] at hneg ⊢
              split
              · rename_i hc
                rw [if_pos hc] at hneg
                omega
              · first | omega | (simp; omega)
            have hlo : -n ≤ v.tmod n := by omega
            rw [← hq]
            clear hq hm hm2 h3
            go_enter Try.func80, Try.ntmps80
            go_wp2
            exact bodyPost_ret (by simp [results, go_sem]; rfl) rfl ⟨rfl, by go_grown⟩
          · have hq : v.tmod n = v % n := by
              rw [Int.tmod_eq_emod] at hneg ⊢
              split
              · simp
              · rename_i hc
                rw [if_neg hc] at hneg
                simp at hneg
                omega
            rw [← hq]
            clear hq hm hm2
            go_enter Try.func80, Try.ntmps80
            go_wp2
            exact bodyPost_ret (by simp [results, go_sem]; rfl) rfl ⟨rfl, by go_grown⟩
        · have he : applyO ⟨3, n⟩ ⟨t, ky, v, lb⟩ = none := by simp [applyO, passO, h1]
          have hp : passO ⟨3, n⟩ ⟨t, ky, v, lb⟩ = false := by simp [passO]
          rw [he]
          clear he
          go_enter Try.func80, Try.ntmps80
          go_wp2_with (go_at_call 89; refine (passes_any ⟨3, n⟩ ⟨t, ky, v, lb⟩ _).mono ?_; rintro e w' ⟨rfl, rfl⟩; rw [hp]; dsimp only [Opr.cells, Ev.cells])
          exact bodyPost_ret (by simp [results, go_sem]; rfl) rfl ⟨rfl, by go_grown⟩
      · have he : applyO ⟨k, n⟩ ⟨t, ky, v, lb⟩ = if passO ⟨k, n⟩ ⟨t, ky, v, lb⟩ then some ⟨t, ky, v, lb⟩ else none := by simp [applyO, k1, k2, k3]
        rw [he]
        cases hp : passO ⟨k, n⟩ ⟨t, ky, v, lb⟩
        all_goals
          have HP := Lib.hid hp
          clear he hp
          go_enter Try.func80, Try.ntmps80
          go_wp2_with (go_at_call 89; refine (passes_any ⟨k, n⟩ ⟨t, ky, v, lb⟩ _).mono ?_; rintro e w' ⟨rfl, rfl⟩; rw [HP.out]; dsimp only [Opr.cells, Ev.cells])
          exact bodyPost_ret (by simp [results, go_sem]; rfl) rfl ⟨rfl, by go_grown⟩
/-- Operations, one by one. -/
def runO (e : Ev) (l : List Opr) : Option Ev := l.foldl (fun r o => r.bind (applyO o)) (some e)
theorem wrap64_wf (n : Int) : (Lit.int .i64 (wrap64 n)).wf = true := wf_wrap n
theorem applyO_wf {o : Opr} {e x : Ev} (he : e.wf) (ho : o.wf) (h : applyO o e = some x) : x.wf := by
  unfold applyO at h
  split at h
  · cases h; exact ⟨he.1, he.2.1, wrap64_wf _, he.2.2.2⟩
  split at h
  · cases h; exact ⟨he.1, he.2.1, wrap64_wf _, he.2.2.2⟩
  split at h
  · rename_i hk
    cases h
    have hn := i64_range ho.2
    have h0 := Int.emod_nonneg e.value (show o.n ≠ 0 by omega)
    have h1 := Int.emod_lt_of_pos e.value (show 0 < o.n by omega)
    exact ⟨he.1, WalkArith.wf_i64 (by dsimp only; omega), he.2.2.1, he.2.2.2⟩
  split at h
  · cases h; exact he
  · cases h
theorem runO_none (l : List Opr) : l.foldl (fun r o => r.bind (applyO o)) none = none := by
  induction l with
  | nil => rfl
  | cons o l ih => exact ih
theorem runO_snoc (e : Ev) (l : List Opr) {k : Nat} (hk : k < l.length) : runO e (l.take (k + 1)) = (runO e (l.take k)).bind (applyO l[k]) := by
  unfold runO
  rw [List.take_add_one, List.getElem?_eq_getElem hk, Option.toList_some, List.foldl_append]
  rfl
theorem runO_short (e : Ev) (l : List Opr) (k : Nat) (h : runO e (l.take k) = none) : runO e l = none := by
  conv => lhs; rw [← List.take_append_drop k l]
  unfold runO at *
  rw [List.foldl_append, h, runO_none]
theorem blkCells {w : World} {b : Nat} {cs : Array Value} {T : TypeId} (h : w.heap[b]? = some (.cells cs T (0, 0))) : (∀ i, w.cell? ⟨b, i, none⟩ = cs[i]?) ∧ (∀ i, w.frozen? ⟨b, i, none⟩ = false) :=
  ⟨fun i => by simp [World.cell?, h], fun i => by simp [World.frozen?, h]⟩
set_option maxHeartbeats 1000000 in
theorem run_any (e : Ev) (a : Option Addr) (cap : Nat) (l : List Opr) (w : World) (he : e.wf) (hl : SlAt 2 (flat Opr.cells) w a l) (hw : ∀ o ∈ l, o.wf) (hlen : l.length ≤ 1000000) :
    Calls Try.prog 73 #[.agg e.cells.toArray, .slice a l.length cap] w fun x w' => x = .returned (okE (runO e l)) ∧ Below w.heap.size w w' := by
  have HL := Lib.hid hl
  have HW := Lib.hid hw
  have HE := Lib.hid he
  clear hl hw he
  dsimp only [Ev.cells]
  go_enter Try.func73, Try.ntmps73
  go_wp2_with fail
  go_loopw [12] (fun iv wr => ∃ (k : Nat) (x : Ev), k ≤ l.length ∧ iv = .int .i64 k ∧ runO e (l.take k) = some x ∧ x.wf ∧ wr.heap[w.heap.size]? = some (.cells #[.int .i64 x.time, .int .i64 x.key, .int .i64 x.value, .int .u64 x.label] 31 (0, 0)) ∧ wr.heap[w.heap.size + 1]? = some (.cells #[.int .i64 0, .int .i64 0, .int .i64 0, .int .u64 0] 31 (0, 0)) ∧ Below w.heap.size w wr) (fun iv _ => l.length - (intOf iv).toNat)
  case atStart => exact ⟨0, e, by omega, rfl, rfl, HE.out, (Below.heap_alloc _ _ _ (by simp)).trans (heap_new _ _), new_at _ _ _ (by simp), by go_grown⟩
  case round =>
    obtain ⟨k, x, hk, rfl, hx, hxw, hb0, hb1, hbel⟩ := hrel
    have hs1 := (Array.getElem?_eq_some_iff.1 hb1).1
    have hs0 := (Array.getElem?_eq_some_iff.1 hb0).1
    have hsz := hbel.size
    have HX := Lib.hid hx
    have HXW := Lib.hid hxw
    have HB0 := Lib.hid hb0
    have HB1 := Lib.hid hb1
    have HBEL := Lib.hid hbel
    clear hx hxw hb0 hb1 hbel
    generalize hg : w.heap.size = g at *
    have HG := Lib.hid hg
    clear hg
    by_cases hlt : (k : Int) < l.length
    · have hkn : k < l.length := by omega
      obtain ⟨b, o, rfl, hbl, c0, c1⟩ := (HL.out.below (w' := wr) (by rw [HG.out]; exact HBEL.out) (fun _ _ h => h)).opAt k hkn
      have how := HW.out _ (List.getElem_mem hkn)
      have hsn := runO_snoc e l hkn
      rw [HX.out, Option.bind_some] at hsn
      rw [List.getElem?_eq_getElem hkn] at c0 c1
      simp only [Option.getD_some] at c0 c1
      generalize l[k] = op at *
      have HSN := Lib.hid hsn
      have HOW := Lib.hid how
      clear hsn how
      obtain ⟨q0, z0⟩ := blkCells HB0.out
      obtain ⟨q1, z1⟩ := blkCells HB1.out
      cases happ : applyO op x with
      | none =>
        have HA := Lib.hid happ
        clear happ
        go_wp2_with (go_at_call 80; refine (apply_any op x HOW.out HXW.out _).mono ?_; rintro y w1 ⟨rfl, hb⟩; rw [HA.out]; dsimp only [okE, Option.getD_none, Ev.zero, Ev.cells, Option.isSome_none]; obtain ⟨p1, y1⟩ := blkCells ((hb.block (g + 1) (by simp; omega)).trans ((Below.heap_alloc _ _ _ hs1).trans HB1.out)); have hs2 := hb.size; simp only [World.size_alloc] at hs2; have hs3 : g < w1.heap.size := (by omega); have hs4 : g + 1 < w1.heap.size := (by omega); have HB := Lib.hid hb; clear hb)
        exact bodyPost_ret (by simp [results, go_sem, p1, hs4]; rfl) rfl ⟨by rw [runO_short e l (k + 1) (HSN.out.trans HA.out)]; rfl, by have hb := ((HBEL.out.alloc hsz (.cells #[.int .i64 op.kind, .int .i64 op.n] 92)).trans (HB.out.mono (by simp; omega))); rw [HG.out]; refine hb.trans ?_; go_grown⟩
      | some y =>
        have HA := Lib.hid happ
        clear happ
        go_wp2_with (go_at_call 80; refine (apply_any op x HOW.out HXW.out _).mono ?_; rintro y' w1 ⟨rfl, hb⟩; rw [HA.out]; dsimp only [okE, Option.getD_some, Ev.cells, Option.isSome_some]; have HC0 := Lib.hid ((hb.block g (by simp; omega)).trans ((Below.heap_alloc _ _ _ hs0).trans HB0.out)); have HC1 := Lib.hid ((hb.block (g + 1) (by simp; omega)).trans ((Below.heap_alloc _ _ _ hs1).trans HB1.out)); obtain ⟨p0, y0⟩ := blkCells HC0.out; have hs2 := hb.size; simp only [World.size_alloc] at hs2; have hs3 : g < w1.heap.size := (by omega); have hs4 : g + 1 < w1.heap.size := (by omega); have HB := Lib.hid hb; clear hb)
        go_roundw
        case rel => exact ⟨k + 1, y, by omega, by go_num, HSN.out.trans HA.out, applyO_wf HXW.out HOW.out HA.out, (Below.heap_alloc _ _ _ (by simp; omega)).trans (heap_setCell_row (heap_setCell_row (heap_setCell_row (heap_setCell_row HC0.out 0 _) 1 _) 2 _) 3 _), (Below.heap_alloc _ _ _ (by simp; omega)).trans (((((Below.heap_setCell _ _ _ _ (by simp)).trans (Below.heap_setCell _ _ _ _ (by simp))).trans (Below.heap_setCell _ _ _ _ (by simp))).trans (Below.heap_setCell _ _ _ _ (by simp))).trans HC1.out), by have hb := ((HBEL.out.alloc hsz (.cells #[.int .i64 op.kind, .int .i64 op.n] 92)).trans (HB.out.mono (by simp; omega))); refine hb.trans ?_; go_grown⟩
        case measure => simp [intOf]; omega
    · obtain ⟨q0, z0⟩ := blkCells HB0.out
      obtain ⟨q1, z1⟩ := blkCells HB1.out
      obtain rfl : k = l.length := by omega
      have hr := HX.out
      rw [List.take_length] at hr
      have HR := Lib.hid hr
      clear hr
      go_wp2
      exact bodyPost_ret (by simp [results, go_sem, q1]; rfl) rfl ⟨by rw [HR.out]; rfl, by rw [HG.out]; refine HBEL.out.trans ?_; go_grown⟩
/-- The same, as a walk spells it. -/
theorem run_at (e : Ev) (a : Option Addr) (cap : Nat) (l : List Opr) (w : World) (he : e.wf) (hl : SlAt 2 (flat Opr.cells) w a l) (hw : ∀ o ∈ l, o.wf) (hlen : l.length ≤ 1000000) :
    Calls Try.prog 73 #[.agg #[.int .i64 e.time, .int .i64 e.key, .int .i64 e.value, .int .u64 e.label], .slice a l.length cap] w fun x w' => x = .returned (okE (runO e l)) ∧ Below w.heap.size w w' := run_any e a cap l w he hl hw hlen
end Go.Proofs.Ythegopajkljlmaa
