/- slices.SortedFunc over a map's places. -/
import Derived.Test.YthegopajkljlmaaSortP
import Derived.Shelf.SlSortCmp.NoneTotal
set_option linter.unusedVariables false
namespace Go.Proofs.Ythegopajkljlmaa
open Go.Shelf Go.RowKit Go.Lib Go.Sort Go.Proofs
theorem below_sorted {α : Type} [Inhabited α] (enc : α → List Value) (k : Nat) (w : World) (blk off m : Nat) (dk : Array α) (os : Array Obj) {B : Nat} (hB : B ≤ blk) (hs : B ≤ w.heap.size) : RowKit.Below B w (sortWorldK enc k w blk off m dk os) := by
  refine ⟨rfl, rfl, rfl, size_sortWorldK_c enc k w blk off m dk os, fun i hi => ?_⟩
  show (Array.append (Array.modify w.heap blk _) os)[i]? = _
  have e : (Array.append (Array.modify w.heap blk (onCells (putCells id off (flatK enc k dk)))) os) = (Array.modify w.heap blk (onCells (putCells id off (flatK enc k dk)))) ++ os := rfl
  rw [e, Array.getElem?_append_left (by simp; omega), Array.getElem?_modify, if_neg (by omega)]
/-- A row of the call's own, as the sort's kit has it. -/
theorem holdsK_own {α : Type} [Inhabited α] {enc : α → List Value} {c : Nat} (hc : ∀ x, (enc x).length = c) (c0 : 0 < c) {w : World} {B : Nat} {e : TypeId} {l : List α} {g cap : Nat} (h : w.ownsRow B e c (.slice (some ⟨g, 0, none⟩) l.length cap) l.length (l.flatMap enc)) :
    HoldsK enc c w g 0 l.toArray := by
  intro j hj
  simp at hj
  have hd := Nat.div_add_mod j c
  have hm := Nat.mod_lt j c0
  have hi : j / c < l.length := by rw [Nat.div_lt_iff_lt_mul c0]; exact hj
  obtain ⟨h1, h2⟩ := own_cell h hj
  rw [Nat.zero_add]
  refine ⟨?_, h2⟩
  have hf := flatMap_at hc l (j / c) (j % c) hm
  rw [Nat.mul_comm, hd, List.getElem?_eq_getElem hi] at hf
  rw [h1, hf, id, get_flatK _ _ _ _ (by simpa using hj)]
  have hx : l.toArray[j / c]! = l[j / c] := by simp [hi]
  rw [hx]
  simp only [Option.bind_some]
  rw [List.getElem?_eq_getElem (by rw [hc]; exact hm)]
  simp [hc, hm]
theorem slAt_holdsK {α : Type} [Inhabited α] {enc : α → List Value} {c : Nat} (hc : ∀ x, (enc x).length = c) {w : World} {g : Nat} {d : Array α} (hg : g < w.heap.size) (h : HoldsK enc c w g 0 d) : SlAt c (flat enc) w (some ⟨g, 0, none⟩) d.toList := by
  refine .inr ⟨g, 0, rfl, hg, fun i hi => ?_⟩
  have hi' : i < d.size := by simpa using hi
  refine ⟨enc d.toList[i], hc _, fun j hj => ?_, rfl⟩
  have := (HoldsK.cell h hi' hj).1
  rw [this]
  have e : d[i]! = d.toList[i] := by simp [hi']
  rw [e, List.getElem?_eq_getElem (by rw [hc]; exact hj)]
  simp [hc, hj]
theorem pairwise_of_sorted {d : Array Pl} (hs : SortedIn (ltOf cmpP) 0 d.size d) (hn : d.toList.Nodup) : d.toList.Pairwise ltP := by
  rw [List.pairwise_iff_getElem]
  intro i j hi hj hij
  have h1 : i < d.size := by simpa using hi
  have h2 : j < d.size := by simpa using hj
  have h := hs i j (Nat.zero_le _) hij h2
  rw [ltOf_cmpP] at h
  simp only [decide_eq_false_iff_not] at h
  have ei : d[i]! = d.toList[i] := by simp [h1]
  have ej : d[j]! = d.toList[j] := by simp [h2]
  rw [ei, ej] at h
  have hne : d.toList[i] ≠ d.toList[j] := fun e => by
    have := (List.getElem_inj (h₀ := hi) (h₁ := hj) hn).1 e
    omega
  generalize d.toList[i] = x at *
  generalize d.toList[j] = y at *
  obtain ⟨⟨a, b⟩, hx⟩ := x
  obtain ⟨⟨c, e⟩, hy⟩ := y
  unfold ltP
  simp at *
  by_cases h3 : a = c
  · subst h3; simp at hne; omega
  · omega
/-- SortedFunc over a map's keys: all its places, each once, rising. -/
theorem sorted_places {H : Type} (Bm b nn : Nat) (D0 : DataW H) {R : Value → Option (DataW H × List MemPlace)} (w : World) (hBm : Bm < w.heap.size) (hm : w.cell? ⟨Bm, 0, none⟩ = some (.map (some b))) (hown : w.ownsMap Try.prog 100 R b nn D0)
    (hN : Maps.size D0 ≤ 2 ^ 40) (hC : ∀ ss, PlacesOf D0 ss → ss.length ≤ 2 ^ 40) :
    Calls Try.prog 63 #[.func (.func 77) #[] #[.pointer (some ⟨Bm, 0, none⟩)], .func (.func 65) #[] #[]] w fun e w' =>
      ∃ (a : Option Addr) (cap : Nat) (ss : List Pl), e = .returned (.slice a ss.length cap) ∧ PlacesOf D0 ss ∧ ss.Pairwise ltP ∧ ss.length ≤ cap ∧ cap ≤ maxLen ∧ (a = none → cap = 0) ∧ SlAt 2 (flat cellsP) w' a ss ∧ (∀ b o, a = some ⟨b, o, none⟩ → w.heap.size ≤ b) ∧ RowKit.Below w.heap.size w w' := by
  have hN1 : Maps.size D0 ≤ maxLen := by unfold maxLen; omega
  have hN2 : Maps.size D0 * 16 ≤ 140737488355328 := by omega
  go_enter Try.func63, Try.ntmps63
  go_wp2_with (go_at_call 75; refine (collect_keys Bm b nn D0 w hBm hm hown hN1 hN2).mono ?_; rintro e w1 ⟨v, ss, rfl, hP, hrow, hnil, hb⟩)
  by_cases h0 : ss = []
  · subst h0
    obtain rfl := hnil.2 rfl
    have hS := fun W => AnyF.slices_SortFunc_none (P := Try.prog) (ρ := _) { Try.sortP with } none 0 (.func (.func 65) #[] #[]) W
    change ∀ W, Calls Try.prog 76 _ _ _ at hS
    go_wp2_with (go_at_call 76; refine (hS _).mono ?_; rintro e w' ⟨rfl, rfl⟩)
    go_ret
    exact ⟨none, 0, [], rfl, hP, List.Pairwise.nil, by simp, by decide, fun _ => rfl, .inl rfl, by simp, hb⟩
  · have hl : 0 < ss.length := List.length_pos_iff.2 h0
    obtain ⟨g, cap, rfl, hc1, hc2⟩ := own_form hrow hl
    have hlt := own_lt hrow
    have hS := sortFunc_places g cap ss.toArray w1 (holdsK_own cellsP_len (by omega) hrow) hlt.2 (by have := hC ss hP; simp; omega)
    simp only [List.size_toArray] at hS
    have HR := Lib.hid (holdsK_own cellsP_len (by omega) hrow)
    clear hrow hnil
    go_wp2_with (go_at_call 76; refine hS.mono ?_; rintro e w' ⟨rfl, d', q, os, hp, hs, rfl⟩)
    go_ret
    have hsz : d'.size = ss.length := by simpa using hp.1
    have hperm : d'.toList.Perm ss := by
      have := hp.2.2
      simpa [List.take_of_length_le (show d'.toList.length ≤ ss.length by simp [hsz])] using this
    have hlen : d'.toList.length = ss.length := by simpa using hsz
    have hnd : d'.toList.Nodup := hperm.nodup_iff.2 hP.1
    have hH := holdsK_sortWorldK_c cellsP 2 w1 g 0 ss.toArray d' q os HR.out hlt.2 (by simpa using hsz)
    refine ⟨some ⟨g, 0, none⟩, cap, d'.toList, by rw [hlen]; rfl, ⟨hnd, fun x => by rw [hperm.mem_iff]; exact hP.2 x⟩, pairwise_of_sorted (by rw [hsz]; exact hs) hnd, by omega, hc2, by simp, ?_, ?_, ?_⟩
    · exact slAt_holdsK cellsP_len (Nat.lt_of_lt_of_le hlt.2 (size_sortWorldK_c cellsP 2 w1 g 0 q d' os)) hH
    · intro b o he; cases he; exact hlt.1
    · exact hb.trans (below_sorted cellsP 2 w1 g 0 q d' os hlt.1 hb.size)
end Go.Proofs.Ythegopajkljlmaa
