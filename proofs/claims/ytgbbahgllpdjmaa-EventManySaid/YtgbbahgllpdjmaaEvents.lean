/- Walks of event.Latest and event.Labels. -/
import Derived.Test.YtgbbahgllpdjmaaEvent
set_option linter.unusedVariables false
namespace Go.Proofs.Ytgbbahgllpdjmaa
open Go.RowKit
/-- An event's four numbers. -/
structure Ev where
  time : Int
  key : Int
  value : Int
  label : Int
def Ev.cells (e : Ev) : List Value := [.int .i64 e.time, .int .i64 e.key, .int .i64 e.value, .int .u64 e.label]
def Ev.zero : Ev := ⟨0, 0, 0, 0⟩
/-- The events lie from an address on. -/
def evsAt (w : World) (b o : Nat) (es : List Ev) : Prop := ∀ i, i < es.length →
  w.cell? ⟨b, o + i * 4, none⟩ = some (.int .i64 (es[i]?.getD Ev.zero).time) ∧ w.cell? ⟨b, o + i * 4 + 1, none⟩ = some (.int .i64 (es[i]?.getD Ev.zero).key) ∧
  w.cell? ⟨b, o + i * 4 + 2, none⟩ = some (.int .i64 (es[i]?.getD Ev.zero).value) ∧ w.cell? ⟨b, o + i * 4 + 3, none⟩ = some (.int .u64 (es[i]?.getD Ev.zero).label)
theorem evsAt.below {w w' : World} {B b o : Nat} {es : List Ev} (h : evsAt w b o es) (hb : Below B w w') (hlt : b < B) : evsAt w' b o es := by
  intro i hi
  obtain ⟨h0, h1, h2, h3⟩ := h i hi
  exact ⟨(hb.cell (p := ⟨b, _, none⟩) hlt).trans h0, (hb.cell (p := ⟨b, _, none⟩) hlt).trans h1, (hb.cell (p := ⟨b, _, none⟩) hlt).trans h2, (hb.cell (p := ⟨b, _, none⟩) hlt).trans h3⟩
def latestFrom (t : Int) (es : List Ev) : Int := es.foldl (fun t e => max t e.time) t
def latestOf (es : List Ev) : Int := match es with | [] => -1 | e :: _ => latestFrom e.time es
theorem latest_take (t : Int) (es : List Ev) (k : Nat) (h : k < es.length) : latestFrom t (es.take (k + 1)) = max (latestFrom t (es.take k)) (es[k]?.getD Ev.zero).time := by
  rw [List.take_succ_eq_append_getElem h, latestFrom, List.foldl_append, List.getElem?_eq_getElem h]; rfl
theorem Latest_nil (a : Option Addr) (cap : Nat) (w : World) : Calls Try.prog 28 #[.slice a 0 cap] w fun e w' => e = .returned (.int .i64 (-1)) ∧ w' = w := by
  go_enter Try.func28, Try.ntmps28
  go_wp2
  go_ret
  exact ⟨rfl, rfl⟩
theorem Labels_nil (a : Option Addr) (cap : Nat) (w : World) : Calls Try.prog 29 #[.slice a 0 cap] w fun e w' => e = .returned (.int .u64 0) ∧ w' = w := by
  go_enter Try.func29, Try.ntmps29
  go_wp2
  go_rounds 1
  go_ret
  exact ⟨rfl, rfl⟩
theorem Latest_any (es : List Ev) (b o cap : Nat) (a : Option Addr) (w : World) (ha : es = [] ∨ a = some ⟨b, o, none⟩) (hb : b < w.heap.size) (h : evsAt w b o es) (hlen : es.length ≤ 1000000) :
    Calls Try.prog 28 #[.slice a es.length cap] w fun e w' => e = .returned (.int .i64 (latestOf es)) ∧ Below w.heap.size w w' := by
  by_cases he : es = []
  · subst he
    go_enter Try.func28, Try.ntmps28
    go_wp2
    go_ret
    exact ⟨rfl, Below.refl _ _⟩
  · obtain rfl := ha.resolve_left he
    clear ha
    obtain ⟨e0, rest, rfl⟩ := List.exists_cons_of_ne_nil he
    have h0 := (h 0 (by simp)).1
    simp at h0
    have hn : (((e0 :: rest).length : Int) == 0) = false := by simp; omega
    have hpos : 0 < (e0 :: rest).length := by simp
    generalize hes : e0 :: rest = es at *
    have HES := Lib.hid hes
    have H := Lib.hid h
    clear hes h he
    go_enter Try.func28, Try.ntmps28
    go_wp2
    go_loopw [3, 15] (fun t i wr => ∃ k : Nat, k ≤ es.length ∧ i = .int .i64 k ∧ t = .int .i64 (latestFrom e0.time (es.take k)) ∧ Below w.heap.size w wr) (fun _ i _ => es.length - (intOf i).toNat)
    case atStart => exact ⟨0, by omega, rfl, rfl, Below.refl _ _⟩
    case round =>
      obtain ⟨k, hk, rfl, rfl, hbel⟩ := hrel
      have hsz := hbel.size
      by_cases hlt : k < es.length
      · obtain ⟨c0, c1, c2, c3⟩ := (H.out.below hbel hb) k hlt
        have HT := Lib.hid (latest_take e0.time es k hlt)
        generalize es[k]?.getD Ev.zero = x at *
        obtain ⟨xt, xk, xv, xl⟩ := x
        dsimp only at c0 c1 c2 c3
        generalize latestFrom e0.time (es.take k) = t at *
        go_wp2
        go_roundw
        case rel => exact ⟨k + 1, by omega, by go_num, by rw [HT.out]; dsimp only; congr 1; omega, by go_grown⟩
        case measure => simp [intOf]; omega
      · obtain rfl : k = es.length := by omega
        have ht := List.take_length (l := es)
        go_wp2
        go_ret
        refine ⟨?_, hbel⟩
        rw [List.take_length, ← HES.out]
        rfl
def labelsFrom (m : Int) (es : List Ev) : Int := es.foldl (fun m e => bits .or .u64 m e.label) m
theorem labels_take (m : Int) (es : List Ev) (k : Nat) (h : k < es.length) : labelsFrom m (es.take (k + 1)) = bits .or .u64 (labelsFrom m (es.take k)) (es[k]?.getD Ev.zero).label := by
  rw [List.take_succ_eq_append_getElem h, labelsFrom, List.foldl_append, List.getElem?_eq_getElem h]; rfl
theorem Labels_any (es : List Ev) (b o cap : Nat) (a : Option Addr) (w : World) (ha : es = [] ∨ a = some ⟨b, o, none⟩) (hb : b < w.heap.size) (h : evsAt w b o es) (hlen : es.length ≤ 1000000) :
    Calls Try.prog 29 #[.slice a es.length cap] w fun e w' => e = .returned (.int .u64 (labelsFrom 0 es)) ∧ Below w.heap.size w w' := by
  by_cases he : es = []
  · subst he
    go_enter Try.func29, Try.ntmps29
    go_wp2
    go_rounds 1
    go_ret
    exact ⟨rfl, Below.refl _ _⟩
  · obtain rfl := ha.resolve_left he
    clear ha
    have hpos : 0 < es.length := List.length_pos_iff.2 he
    have H := Lib.hid h
    clear h he
    go_enter Try.func29, Try.ntmps29
    go_wp2
    go_loopw [3, 8] (fun t i wr => ∃ k : Nat, k ≤ es.length ∧ i = .int .i64 k ∧ t = .int .u64 (labelsFrom 0 (es.take k)) ∧ Below w.heap.size w wr) (fun _ i _ => es.length - (intOf i).toNat)
    case atStart => exact ⟨0, by omega, rfl, rfl, Below.refl _ _⟩
    case round =>
      obtain ⟨k, hk, rfl, rfl, hbel⟩ := hrel
      have hsz := hbel.size
      by_cases hlt : k < es.length
      · obtain ⟨c0, c1, c2, c3⟩ := (H.out.below hbel hb) k hlt
        have HT := Lib.hid (labels_take 0 es k hlt)
        generalize es[k]?.getD Ev.zero = x at *
        obtain ⟨xt, xk, xv, xl⟩ := x
        dsimp only at c0 c1 c2 c3
        generalize labelsFrom 0 (es.take k) = t at *
        go_wp2
        go_roundw
        case rel => exact ⟨k + 1, by omega, by go_num, by rw [HT.out], by go_grown⟩
        case measure => simp [intOf]; omega
      · obtain rfl : k = es.length := by omega
        go_wp2
        go_ret
        rw [List.take_length]
        exact ⟨rfl, hbel⟩
end Go.Proofs.Ytgbbahgllpdjmaa
