/- Walks of package whole. -/
import Derived.Test.YtjkflblbcodnoaaLaw10
set_option linter.unusedVariables false
namespace Go.Proofs.Ytjkflblbcodnoaa
open Go.RowKit Go.Maps
def newR (p : Pp) : Rn := ⟨⟨0, 0, 0⟩, p, []⟩
def wholeRows (p : Pp) (l : List Inp) : List Rw := rowsR (newR p) l
theorem seen_more {α : Type} {w0 : World} {L : List HP} {X : HP} {c : Nat} {enc : α → List Value} {a : Option Addr} {l : List α} (h : Seen w0 (sepL L) c enc a l) : Seen w0 (sepL ((L ++ [X]).set L.length emp)) c enc a l := by
  intro w' L' m hs hm
  have h1 := hs.imp m hm (X' := sepL L) fun h ⟨own, ho⟩ => ⟨own, fun i P hi => ho i P (by
    have hl := (List.getElem?_eq_some_iff.1 hi).1
    rw [List.getElem?_set, if_neg (by omega), List.getElem?_append_left hl]
    exact hi)⟩
  exact h w' _ m h1 (by rw [List.getElem?_set, if_pos rfl, if_pos (List.getElem?_eq_some_iff.1 hm).1])
/-- One thing is let go. -/
theorem St.skip {w0 w : World} {L K : List HP} {Y : HP} (h : St w0 w (L ++ Y :: K)) : St w0 w (L ++ K) := by
  refine ⟨h.below, ?_⟩
  obtain ⟨own, ho⟩ := h.sep
  refine ⟨fun b => if own b < L.length then own b else if own b = L.length then L.length + K.length else own b - 1, fun i P hi => ?_⟩
  by_cases hil : i < L.length
  · rw [List.getElem?_append_left hil] at hi
    refine cast (congrArg P (part_own fun b => ?_)) (ho i P (by rw [List.getElem?_append_left hil]; exact hi))
    simp only [beq_iff_eq]
    constructor
    · intro he; rw [if_pos (by omega), he]
    · intro he
      split at he
      · exact he
      · split at he <;> omega
  · rw [List.getElem?_append_right (by omega)] at hi
    have hk := (List.getElem?_eq_some_iff.1 hi).1
    refine cast (congrArg P (part_own fun b => ?_)) (ho (i + 1) P (by rw [List.getElem?_append_right (by omega), show i + 1 - L.length = (i - L.length) + 1 by omega]; exact hi))
    simp only [beq_iff_eq]
    constructor
    · intro he; rw [if_neg (by omega), if_neg (by omega)]; omega
    · intro he
      split at he
      · omega
      · split at he <;> omega
theorem set_last {L : List HP} (X Y : HP) : (L ++ [X]).set L.length Y = L ++ [Y] := by rw [List.set_append_right _ _ (Nat.le_refl _), Nat.sub_self]; rfl
set_option maxRecDepth 20000 in
theorem rows_st {w0 w : World} {L : List HP} (h : St w0 w L) (p : Pp) (a : Option Addr) (cap : Nat) (hl : SlAt 2 (flat Opr.cells) w a p.ops) (hnil : a = none → cap = 0) (hw : ∀ o ∈ p.ops, o.wf) (hlen : p.ops.length ≤ 6) (hr : rightPp p = true)
    (ia : Option Addr) (ic : Nat) (l : List Inp) (hi : Seen w0 (sepL L) 5 Inp.cells ia l) (hiw : ∀ i ∈ l, i.ev.wf) (hil : l.length < 2 ^ 29) :
    Calls Try.prog 39 #[.agg #[.slice a p.ops.length cap, .int .i64 p.size, .int .i64 p.slide, .int .i64 p.agg, .int .i64 p.sink, .int .i64 p.feed], .slice ia l.length ic] w fun e w' => ∃ v, e = .returned v ∧ St w0 w' (L ++ [ownP 45 5 Rw.cells v (wholeRows p l)]) := by
  have hl0 := hl.below (((Below.refl _ w).alloc (Nat.le_refl _) (.cells #[.slice a p.ops.length cap, .int .i64 p.size, .int .i64 p.slide, .int .i64 p.agg, .int .i64 p.sink, .int .i64 p.feed] 57))) (fun _ _ h => h)
  have hst0 := (h.alloc (.cells #[.slice a p.ops.length cap, .int .i64 p.size, .int .i64 p.slide, .int .i64 p.agg, .int .i64 p.sink, .int .i64 p.feed] 57)).cut
  have HC := Lib.hid (rnNew_st hst0 p a cap hl0 hnil hw hlen hr)
  have HI := Lib.hid (seen_more (X := emp) hi)
  have HIO := Lib.hid hi
  have HIW := Lib.hid hiw
  clear h hl hnil hw hr hl0 hst0 hi hiw
  go_enter Try.func39, Try.ntmps39
  go_wp2_with (first
    | (go_at_call 29; (with_reducible refine HC.out.mono ?_); rintro e w1 ⟨rb, rfl, hst1⟩; have HT := Lib.hid (rnTake_st (N := 0) (r := newR p) (rb := rb) hst1 L.length (by simp [newR]) ia ic l (seen_more HIO.out) HIW.out (by omega) (by simp [newR])); clear hst1)
    | (go_at_call 30; (with_reducible refine HT.out.mono ?_); rintro e w2 ⟨v2, rfl, hst2⟩; have HS2 := Lib.hid hst2; clear hst2))
  go_ret
  refine ⟨_, rfl, ?_⟩
  have h := HS2.out
  rw [set_last, List.append_assoc] at h
  exact h.skip
set_option maxRecDepth 20000 in
theorem past_st {w0 w : World} {L : List HP} (h : St w0 w L) (p : Pp) (a : Option Addr) (cap : Nat) (hl : SlAt 2 (flat Opr.cells) w a p.ops) (hnil : a = none → cap = 0) (hw : ∀ o ∈ p.ops, o.wf) (hlen : p.ops.length ≤ 6) (hr : rightPp p = true)
    (ia : Option Addr) (ic : Nat) (l : List Inp) (hi : Seen w0 (sepL L) 5 Inp.cells ia l) (hiw : ∀ i ∈ l, i.ev.wf) (hil : l.length < 2 ^ 29) :
    Calls Try.prog 40 #[.agg #[.slice a p.ops.length cap, .int .i64 p.size, .int .i64 p.slide, .int .i64 p.agg, .int .i64 p.sink, .int .i64 p.feed], .slice ia l.length ic] w fun e w' => e = .returned (.bool (((afterR (newR p) l).L.length : Int) == 0)) ∧ St w0 w' L := by
  have hl0 := hl.below (((Below.refl _ w).alloc (Nat.le_refl _) (.cells #[.slice a p.ops.length cap, .int .i64 p.size, .int .i64 p.slide, .int .i64 p.agg, .int .i64 p.sink, .int .i64 p.feed] 57))) (fun _ _ h => h)
  have hst0 := (h.alloc (.cells #[.slice a p.ops.length cap, .int .i64 p.size, .int .i64 p.slide, .int .i64 p.agg, .int .i64 p.sink, .int .i64 p.feed] 57)).cut
  have HC := Lib.hid (rnNew_st hst0 p a cap hl0 hnil hw hlen hr)
  have HIO := Lib.hid hi
  have HIW := Lib.hid hiw
  clear h hl hnil hw hr hl0 hst0 hi hiw
  go_enter Try.func40, Try.ntmps40
  go_wp2_with (first
    | (go_at_call 29; (with_reducible refine HC.out.mono ?_); rintro e w1 ⟨rb, rfl, hst1⟩; have HT := Lib.hid (rnTake_st (N := 0) (r := newR p) (rb := rb) hst1 L.length (by simp [newR]) ia ic l (seen_more HIO.out) HIW.out (by omega) (by simp [newR])); clear hst1)
    | (go_at_call 30; (with_reducible refine HT.out.mono ?_); rintro e w2 ⟨v2, rfl, hst2⟩; rw [set_last] at hst2; obtain ⟨pb, v, _, ⟨hb, _, hl⟩, _, _, hlen, _, hx⟩ := rn_see hst2.cut L.length (by simp; rfl) (by omega); obtain ⟨q, _⟩ := blkCells hb; have e3 := q 3; simp [Rn.cells] at e3; have HLEN := Lib.hid (hlen _ hx); clear hb q hlen hx hst2)
    | (go_at_call 26; (with_reducible refine HLEN.out.mono ?_); rintro e w3 ⟨rfl, hst3⟩; have HS3 := Lib.hid hst3; clear hst3))
  go_ret
  exact ⟨rfl, HS3.out.cut⟩
def labelsOf (l : List Inp) : Int := l.foldl (fun m i => if i.mark then m else bits .or .u64 m i.ev.label) 0
theorem labels_st {w0 w : World} {L : List HP} (h : St w0 w L) (ia : Option Addr) (ic : Nat) (l : List Inp) (hi : Seen w0 (sepL L) 5 Inp.cells ia l) (hil : l.length < 2 ^ 29) :
    Calls Try.prog 41 #[.slice ia l.length ic] w fun e w' => e = .returned (.int .u64 (labelsOf l)) ∧ St w0 w' L := by
  have HS := Lib.hid h
  have HI := Lib.hid hi
  clear h hi
  go_enter Try.func41, Try.ntmps41
  go_wp2_with fail
  go_loopw [3, 8] (fun mv iv wr => ∃ k : Nat, k ≤ l.length ∧ iv = .int .i64 k ∧ mv = .int .u64 (labelsOf (l.take k)) ∧ St w0 wr L) (fun _ iv _ => l.length - (intOf iv).toNat)
  case atStart => exact ⟨0, by omega, rfl, rfl, HS.out⟩
  case round =>
    obtain ⟨k, hk, rfl, rfl, hst⟩ := hrel
    by_cases hlt : (k : Int) < l.length
    · have hkn : k < l.length := by omega
      obtain ⟨b, o, rfl, hbl, c0, c1, c2, c3, c4⟩ := (HI.out wr _ 0 hst.wrap rfl).inAt k hkn
      have hsn : labelsOf (l.take (k + 1)) = if l[k].mark then labelsOf (l.take k) else bits .or .u64 (labelsOf (l.take k)) l[k].ev.label := by
        unfold labelsOf
        rw [List.take_add_one, List.getElem?_eq_getElem hkn, Option.toList_some, List.foldl_append]
        rfl
      rw [List.getElem?_eq_getElem hkn] at c0 c1 c2 c3 c4
      simp only [Option.getD_some] at c0 c1 c2 c3 c4
      generalize l[k] = i at *
      obtain ⟨im, ie⟩ := i
      dsimp only at c0 c1 c2 c3 c4 hsn
      generalize labelsOf (l.take k) = m at *
      have HSN := Lib.hid hsn
      have HST := Lib.hid hst
      clear hsn hst
      cases im
      all_goals
        go_wp2
        go_roundw
        case rel => exact ⟨k + 1, by omega, by go_num, by rw [HSN.out]; rfl, (HST.out.alloc _).cut⟩
        case measure => simp [intOf]; omega
    · obtain rfl : k = l.length := by omega
      rw [List.take_length]
      have HST := Lib.hid hst
      clear hst
      go_wp2
      go_ret
      exact ⟨rfl, HST.out⟩
end Go.Proofs.Ytjkflblbcodnoaa
