/- Several texts of this seat, joined: Base, Read, Own, Place, Keys, Collect, Agg, Window, Ev, Pane, Same, Within. -/
import Derived.Test.YtdncpihaeobaeaaGreatChecked
import Derived.WalkKit
import Derived.WalkSmall
import Derived.Deep.LoopGhost
import Derived.Deep.QuietTactic
import Derived.BigQuiet
import Derived.StillTailTactics
import Derived.Lib.Hide
import Derived.WalkLawsBesides
import Derived.Handy
import Derived.OpenShut
import Derived.ProofKit
import Derived.ChangeOld
import Derived.Lib.SmallJoins
import Derived.Deep.Slices
import Derived.Laws.AppendOwn
import Derived.Laws.AppendOwnNone
import Derived.OwnWalk
import Derived.DeepKeys4
import Derived.Maps.OwnSet
import Derived.Sort.KeysCollected
import Derived.Shelf.SlIterI.Collect
import Derived.RangeFuncNested
import Derived.RangeFuncBound
import Derived.RangeFuncCalls
import Derived.RangeFuncLeaves
import Derived.Shelf.RegionOpen
import Derived.OwnWalkIn
import Derived.TacticsInMore
import Derived.LoopNIn
import Derived.LoopIn
import Derived.Maps.AppendAt
import Derived.Deep.RegionHeld3
set_option linter.unusedVariables false
namespace Go.Proofs.YtdncpihaeobaeaaGreat
/- Base -/
section
open Go.RowKit
theorem heap_new (w : World) (o : Obj) : (w.alloc o).heap[w.heap.size]? = some o := by
  show (w.heap.push o)[w.heap.size]? = some o
  simp
theorem heap_setCell_row {w : World} {b : Nat} {cs : Array Value} {T : TypeId} {fr : Nat × Nat} (h : w.heap[b]? = some (.cells cs T fr)) (o : Nat) (v : Value) : (w.setCell ⟨b, o, none⟩ v).heap[b]? = some (.cells (cs.setIfInBounds o v) T fr) := by
  simp [World.setCell, Array.getElem?_modify, h]
/-- A region that draws its order: n operations that leave the world alone, then a tail whose order is forced. -/
theorem region_tail {P : Program} {id : Nat} {Q : Exit → Act → World → Prop} {a : Act} {w : World} {l : List Oper} (n : Nat) (hm : P.follows .mixedOrders = true) (hB : Region.lexTailB .any l.toArray n = true)
    (h : wpStill P l.toArray w.drew (fun a' => wpList P l.toArray Q (l.drop n) a' w.drew) (l.take n) a) : (Code.region id l.toArray true).wp P Q a w :=
  wp_region_still_tail n hm hB h
end
/- Read -/
section
open Go.ChangeShapes Go.WideShapes Go.ChangeAt Go.RowKit Go.Deep
/-- Cells that read as one number. -/
def isInt (k : IntKind) (w : World) (cs : List Value) (n : Int) : Prop := cs = [.int k n] ∧ (Lit.int k n).wf = true
def isBool (w : World) (cs : List Value) (b : Bool) : Prop := cs = [.bool b]
/-- A slice's elements lie at its address, each of c cells. -/
def SlAt {α : Type} (c : Nat) (R : World → List Value → α → Prop) (w : World) (a : Option Addr) (l : List α) : Prop :=
  l = [] ∨ ∃ b o, a = some ⟨b, o, none⟩ ∧ b < w.heap.size ∧ ∀ i (h : i < l.length), ∃ cs, cs.length = c ∧ (∀ j, j < c → w.cell? ⟨b, o + i * c + j, none⟩ = cs[j]?) ∧ R w cs l[i]
/-- One cell that reads as a slice. -/
def isSl {α : Type} (c : Nat) (R : World → List Value → α → Prop) (w : World) (cs : List Value) (l : List α) : Prop :=
  ∃ a cap, cs = [.slice a l.length cap] ∧ l.length ≤ cap ∧ cap ≤ maxLen ∧ (a = none → cap = 0) ∧ SlAt c R w a l
/-- At this type data read so. -/
def Rdr {H : Type} {α : Type} (enc : TypeId × Value → H) (P : Program) (t : TypeId) (R : World → List Value → α → Prop) : Prop :=
  ∀ (w : World) (fuel : Nat) (cs : List Value) (x : DataW H × List MemPlace), DataW.trod enc P w 0 (fun _ => true) true fuel t cs = some x → ∃ a, R w cs a
section
variable {H : Type} {enc : TypeId × Value → H} {P : Program}
theorem Rdr.int {t : TypeId} {k : IntKind} (ht : P.underlying t = some (.int k)) : Rdr enc P t (isInt k) := by
  intro w fuel cs x h
  obtain ⟨n, hc, _, hw⟩ := DataW.trod_int ht h
  exact ⟨n, hc, hw⟩
theorem Rdr.bool {t : TypeId} (ht : P.underlying t = some .bool) : Rdr enc P t isBool := by
  intro w fuel cs x h
  obtain ⟨b, hc, _⟩ := DataW.trod_bool ht h
  exact ⟨b, hc⟩
theorem lt_of_cell {w : World} {a : Addr} {v : Value} (h : w.cell? a = some v) : a.block < w.heap.size := by
  unfold World.cell? at h
  split at h
  · rename_i he; exact (Array.getElem?_eq_some_iff.1 he).1
  · cases h
theorem spot_of_cell {w : World} {a : Addr} {v : Value} (h : w.cell? a = some v) : a = ⟨a.block, a.off, none⟩ := by
  unfold World.cell? at h
  split at h
  · split at h
    · cases h
    · rename_i hs
      obtain ⟨b, o, s⟩ := a
      cases s with
      | none => rfl
      | some s => simp at hs
  · cases h
theorem Rdr.slice {α : Type} {t e : TypeId} {R : World → List Value → α → Prop} (ht : P.underlying t = some (.slice e)) (c : Nat) (hce : P.cellsOf e = c) (hc : 0 < c) (r : Rdr enc P e R) : Rdr enc P t (isSl c R) := by
  subst hce
  intro w fuel cs x h
  rcases open_slice ht h with ⟨rfl, _⟩ | ⟨a, len, cap, m, n, D, Pl, rfl, _, hl, hm, hmm, _, hx⟩
  · exact ⟨[], none, 0, rfl, Nat.le_refl _, by decide, fun _ => rfl, .inl rfl⟩
  · simp only [if_true] at hmm
    have each : ∀ i : Fin len, ∃ v cs', w.cells? 0 (a.add (i * P.cellsOf e)) (P.cellsOf e) = some cs' ∧ R w cs' v := by
      intro i
      obtain ⟨cs', h1, h2⟩ := hx i (by omega)
      obtain ⟨v, hv⟩ := r w _ _ _ h2
      exact ⟨v, cs', h1, hv⟩
    have hF : ∃ f : Fin len → α, ∀ i : Fin len, ∃ cs', w.cells? 0 (a.add (i * P.cellsOf e)) (P.cellsOf e) = some cs' ∧ R w cs' (f i) := ⟨fun i => Classical.choose (each i), fun i => Classical.choose_spec (each i)⟩
    obtain ⟨f, hf⟩ := hF
    refine ⟨List.ofFn f, some a, cap, by simp, by simp; omega, hm, by simp, ?_⟩
    by_cases h0 : len = 0
    · subst h0; exact .inl (by simp)
    · right
      obtain ⟨cs0, c0, _⟩ := hf ⟨0, by omega⟩
      obtain ⟨_, hn0, g0⟩ := World.cells?_some c0
      have g00 := g0 0 hc
      simp only [Nat.zero_mul] at g00
      rw [show (a.add 0).add 0 = a from rfl] at g00
      rw [List.getElem?_eq_getElem (by omega)] at g00
      obtain ⟨b, o, s⟩ := a
      have hs := spot_of_cell g00
      simp at hs
      subst hs
      refine ⟨b, o, rfl, lt_of_cell g00, ?_⟩
      intro i hi
      simp at hi
      obtain ⟨cs', h1, h2⟩ := hf ⟨i, hi⟩
      obtain ⟨_, hn, g⟩ := World.cells?_some h1
      refine ⟨cs', hn, ?_, by simpa using h2⟩
      intro j hj
      rw [← g j hj]
      congr 1
      simp [Addr.add]
      split <;> split <;> simp_all [Nat.add_assoc]
/-- A value of a slice type among the arguments. -/
theorem open_sl {α : Type} {t e : TypeId} {R : World → List Value → α → Prop} {w : World} {r : Reach} {b0 : Nat} {v : Value} {d : DataW H} {ps : List MemPlace} (ht : P.underlying t = some (.slice e)) (c : Nat) (hce : P.cellsOf e = c) (hc : 0 < c) (rd : Rdr enc P e R)
    (hval : Value.okWide P w r b0 t v) (hd : DataW.Trod enc P w 0 (fun _ => true) true t v d ps) : ∃ (a : Option Addr) (cap : Nat) (l : List α), v = .slice a l.length cap ∧ l.length ≤ cap ∧ cap ≤ maxLen ∧ (a = none → cap = 0) ∧ SlAt c R w a l := by
  obtain ⟨a, len, cap, rfl⟩ := okWide_slice ht hval
  obtain ⟨fuel, hf⟩ := hd
  obtain ⟨l, a', cap', hcs, h1, h2, hn, h3⟩ := Rdr.slice ht c hce hc rd w _ _ _ hf
  simp [Value.cells] at hcs
  obtain ⟨rfl, rfl, rfl⟩ := hcs
  exact ⟨_, _, l, rfl, h1, h2, hn, h3⟩
/-- A value of a struct type among the arguments. -/
theorem open_st {α : Type} {t : TypeId} {fs : Array Field} {R : World → List Value → α → Prop} {w : World} {r : Reach} {b0 : Nat} {v : Value} {d : DataW H} {ps : List MemPlace} (ht : P.underlying t = some (.struct fs)) (rd : Rdr enc P t R)
    (hval : Value.okWide P w r b0 t v) (hd : DataW.Trod enc P w 0 (fun _ => true) true t v d ps) : ∃ (cs : Array Value) (x : α), v = .agg cs ∧ R w cs.toList x := by
  obtain ⟨cs, rfl, _⟩ := okWide_struct ht hval
  obtain ⟨fuel, hf⟩ := hd
  obtain ⟨x, hx⟩ := rd w _ _ _ hf
  exact ⟨cs, x, rfl, by simpa [Value.cells] using hx⟩
end
theorem SlAt.below {α : Type} {c : Nat} {R : World → List Value → α → Prop} {w w' : World} {a : Option Addr} {l : List α} (h : SlAt c R w a l) (hb : Below w.heap.size w w') (hR : ∀ cs x, R w cs x → R w' cs x) : SlAt c R w' a l := by
  rcases h with h | ⟨b, o, rfl, hlt, h⟩
  · exact .inl h
  · refine .inr ⟨b, o, rfl, by have := hb.size; omega, fun i hi => ?_⟩
    obtain ⟨cs, h1, h2, h3⟩ := h i hi
    exact ⟨cs, h1, fun j hj => (hb.cell (p := ⟨b, _, none⟩) hlt).trans (h2 j hj), hR _ _ h3⟩
/-- A slice of numbers: cell by cell. -/
theorem SlAt.int {k : IntKind} {w : World} {a : Option Addr} {l : List Int} (h : SlAt 1 (isInt k) w a l) (i : Nat) (hi : i < l.length) : ∃ b o, a = some ⟨b, o, none⟩ ∧ b < w.heap.size ∧ w.cell? ⟨b, o + i, none⟩ = some (.int k (l[i]?.getD 0)) ∧ (Lit.int k (l[i]?.getD 0)).wf = true := by
  rcases h with rfl | ⟨b, o, rfl, hlt, h⟩
  · simp at hi
  · obtain ⟨cs, h1, h2, rfl, h4⟩ := h i hi
    have := h2 0 (by omega)
    rw [List.getElem?_eq_getElem hi]
    exact ⟨b, o, rfl, hlt, by simpa using this, h4⟩
theorem SlAt.bool {w : World} {a : Option Addr} {l : List Bool} (h : SlAt 1 isBool w a l) (i : Nat) (hi : i < l.length) : ∃ b o, a = some ⟨b, o, none⟩ ∧ b < w.heap.size ∧ w.cell? ⟨b, o + i, none⟩ = some (.bool (l[i]?.getD false)) := by
  rcases h with rfl | ⟨b, o, rfl, hlt, h⟩
  · simp at hi
  · obtain ⟨cs, h1, h2, rfl⟩ := h i hi
    have := h2 0 (by omega)
    rw [List.getElem?_eq_getElem hi]
    exact ⟨b, o, rfl, hlt, by simpa using this⟩
theorem SlAt.sl {α : Type} {c : Nat} {R : World → List Value → α → Prop} {w : World} {a : Option Addr} {l : List (List α)} (h : SlAt 1 (isSl c R) w a l) (i : Nat) (hi : i < l.length) :
    ∃ b o a' cap, a = some ⟨b, o, none⟩ ∧ b < w.heap.size ∧ w.cell? ⟨b, o + i, none⟩ = some (.slice a' (l[i]?.getD []).length cap) ∧ (l[i]?.getD []).length ≤ cap ∧ cap ≤ maxLen ∧ (a' = none → cap = 0) ∧ SlAt c R w a' (l[i]?.getD []) := by
  rcases h with rfl | ⟨b, o, rfl, hlt, h⟩
  · simp at hi
  · obtain ⟨cs, h1, h2, a', cap, rfl, h3, h4, hn, h5⟩ := h i hi
    have := h2 0 (by omega)
    rw [List.getElem?_eq_getElem hi]
    exact ⟨b, o, a', cap, rfl, hlt, by simpa using this, h3, h4, hn, h5⟩
end
/- Own -/
section
open Go.RowKit
/-- Cells that are just what a datum is laid out as. -/
def flat {α : Type} (enc : α → List Value) (w : World) (cs : List Value) (x : α) : Prop := cs = enc x
def intC (k : IntKind) (n : Int) : List Value := [.int k n]
def boolC (b : Bool) : List Value := [.bool b]
theorem SlAt.imp {α : Type} {c : Nat} {R R' : World → List Value → α → Prop} {w : World} {a : Option Addr} {l : List α} (h : SlAt c R w a l) (hR : ∀ cs x, R w cs x → R' w cs x) : SlAt c R' w a l := by
  rcases h with h | ⟨b, o, rfl, hlt, h⟩
  · exact .inl h
  · refine .inr ⟨b, o, rfl, hlt, fun i hi => ?_⟩
    obtain ⟨cs, h1, h2, h3⟩ := h i hi
    exact ⟨cs, h1, h2, hR _ _ h3⟩
theorem SlAt.take {α : Type} {c : Nat} {R : World → List Value → α → Prop} {w : World} {a : Option Addr} {l : List α} (h : SlAt c R w a l) (n : Nat) : SlAt c R w a (l.take n) := by
  rcases h with rfl | ⟨b, o, rfl, hlt, h⟩
  · exact .inl (by simp)
  · refine .inr ⟨b, o, rfl, hlt, fun i hi => ?_⟩
    simp at hi
    obtain ⟨cs, h1, h2, h3⟩ := h i (by omega)
    exact ⟨cs, h1, h2, by simpa using h3⟩
theorem SlAt.drop {α : Type} {c : Nat} {R : World → List Value → α → Prop} {w : World} {b o : Nat} {l : List α} (h : SlAt c R w (some ⟨b, o, none⟩) l) (n : Nat) : SlAt c R w (some ⟨b, o + n * c, none⟩) (l.drop n) := by
  rcases h with rfl | ⟨b', o', he, hlt, h⟩
  · exact .inl (by simp)
  · simp at he
    obtain ⟨rfl, rfl⟩ := he
    refine .inr ⟨b, _, rfl, hlt, fun i hi => ?_⟩
    simp at hi
    obtain ⟨cs, h1, h2, h3⟩ := h (n + i) (by omega)
    refine ⟨cs, h1, fun j hj => ?_, by simpa using h3⟩
    rw [← h2 j hj, Nat.add_mul, ← Nat.add_assoc]
theorem SlAt.flatBelow {α : Type} {c : Nat} {enc : α → List Value} {w w' : World} {a : Option Addr} {l : List α} (h : SlAt c (flat enc) w a l) {B : Nat} (hb : Below B w w') (hB : ∀ b o, a = some ⟨b, o, none⟩ → l ≠ [] → b < B) : SlAt c (flat enc) w' a l := by
  rcases h with h | ⟨b, o, rfl, hlt, h⟩
  · exact .inl h
  · by_cases hl : l = []
    · exact .inl hl
    · refine .inr ⟨b, o, rfl, by have := hb.size; omega, fun i hi => ?_⟩
      obtain ⟨cs, h1, h2, h3⟩ := h i hi
      exact ⟨cs, h1, fun j hj => (hb.cell (p := ⟨b, _, none⟩) (hB b o rfl hl)).trans (h2 j hj), h3⟩
theorem flatMap_at {α : Type} {enc : α → List Value} {c : Nat} (hc : ∀ x, (enc x).length = c) : ∀ (l : List α) (i j : Nat), j < c → (l.flatMap enc)[i * c + j]? = l[i]?.bind fun x => (enc x)[j]?
  | [], i, j, _ => by simp
  | x :: l, 0, j, hj => by
    rw [List.flatMap_cons, Nat.zero_mul, Nat.zero_add, List.getElem?_append_left (by rw [hc]; exact hj)]
    simp
  | x :: l, i + 1, j, hj => by
    rw [List.flatMap_cons, List.getElem?_append_right (by rw [hc, Nat.add_mul]; omega), hc, show (i + 1) * c + j - c = i * c + j from by rw [Nat.add_mul]; omega, flatMap_at hc l i j hj]
    simp
theorem flatMap_len {α : Type} {enc : α → List Value} {c : Nat} (hc : ∀ x, (enc x).length = c) (l : List α) : (l.flatMap enc).length = l.length * c := by
  induction l with
  | nil => simp
  | cons x l ih => rw [List.flatMap_cons, List.length_append, hc, ih, List.length_cons, Nat.add_mul]; omega
/-- A slice that reads at a row of flat data, cell by cell. -/
theorem SlAt.cells {α : Type} {c : Nat} {enc : α → List Value} (hc : ∀ x, (enc x).length = c) (c0 : 0 < c) {w : World} {b o : Nat} {l : List α} (h : SlAt c (flat enc) w (some ⟨b, o, none⟩) l) (j : Nat) (u : Value) (hu : (l.flatMap enc)[j]? = some u) : w.cell? ⟨b, o + j, none⟩ = some u := by
  rcases h with rfl | ⟨b', o', he, hlt, h⟩
  · simp at hu
  · simp at he
    obtain ⟨rfl, rfl⟩ := he
    have hj := Nat.div_add_mod j c
    rw [← hj, Nat.mul_comm, flatMap_at hc _ _ _ (Nat.mod_lt _ c0)] at hu
    by_cases hi : j / c < l.length
    · obtain ⟨cs, h1, h2, h3⟩ := h _ hi
      rw [List.getElem?_eq_getElem hi] at hu
      simp at hu
      rw [← hu, ← h3, ← h2 _ (Nat.mod_lt _ c0), Nat.add_assoc, Nat.mul_comm, hj]
    · rw [List.getElem?_eq_none (by omega)] at hu
      simp at hu
/-- A slice of the call's own reads at its data. -/
theorem slAt_of_own {α : Type} {enc : α → List Value} {c : Nat} (hc : ∀ x, (enc x).length = c) {w : World} {B : Nat} {e : TypeId} {v : Value} {l : List α} (h : w.ownsRow B e c v l.length (l.flatMap enc)) :
    ∃ a cap, v = .slice a l.length cap ∧ l.length ≤ cap ∧ cap ≤ maxLen ∧ (a = none → cap = 0) ∧ (∀ b o, a = some ⟨b, o, none⟩ → B ≤ b ∧ b < w.heap.size) ∧ SlAt c (flat enc) w a l := by
  rcases h.2 with ⟨rfl, hn⟩ | ⟨g, cap, cur, rfl, hB, hg, hle, hmax, hsz, htake⟩
  · have hl : l = [] := List.eq_nil_of_length_eq_zero hn
    subst hl
    exact ⟨none, 0, rfl, by simp, by decide, fun _ => rfl, by simp, .inl rfl⟩
  · have hlt := (Array.getElem?_eq_some_iff.1 hg).1
    refine ⟨_, cap, rfl, hle, hmax, by simp, ?_, .inr ⟨g, 0, rfl, hlt, fun i hi => ⟨enc l[i], hc _, fun j hj => ?_, rfl⟩⟩⟩
    · intro b o he
      simp at he
      obtain ⟨rfl, _⟩ := he
      exact ⟨hB, hlt⟩
    · have hf := flatMap_at hc l i j hj
      rw [List.getElem?_eq_getElem hi] at hf
      rw [← htake, List.getElem?_take] at hf
      have hb : i * c + j < l.length * c := by
        have : (i + 1) * c ≤ l.length * c := Nat.mul_le_mul_right _ hi
        rw [Nat.add_mul] at this
        omega
      rw [if_pos hb] at hf
      simp only [World.cell?, hg, Nat.zero_add]
      simpa using hf
theorem new_at (w : World) (o : Obj) (g : Nat) (h : g = w.heap.size) : (w.alloc o).heap[g]? = some o := by rw [h]; exact heap_new w o
theorem new_drew (w : World) (o : Obj) (g : Nat) (h : g = w.heap.size) : (w.alloc o).drew.heap[g]? = some o := new_at w o g h
/-- 'append(s, x...)': s the call's own, x any slice of flat data. -/
theorem wp_append_sl {P : Program} {α : Type} {enc : α → List Value} {c : Nat} (hc : ∀ x, (enc x).length = c) (c0 : 0 < c) (hone : ∀ x, ∀ u ∈ enc x, u.oneCell' = true) {w : World} {o : Oper} {a : Act} {K : Act → World → Prop} {Q : Exit → Act → World → Prop} (s x : Operand) (t : TypeId)
    (ho : o.op = .call { callee := .builtin .append, args := #[s, x], argTypes := #[t, t] })
    (base : Nat) (e : TypeId) (i : TypeInfo) (z : Value) (bytes : Nat) (ht : P.underlying t = some (.slice e)) (hi : P.info? e = some i) (hz : i.zero = some z)
    (hsize : i.size = c) (hby : i.bytes = bytes) (hzs : z.cells.size = c)
    (v : Value) (l0 : List α) (hs : a.eval s = v) (hown : w.ownsRow base e c v l0.length (l0.flatMap enc))
    (ad : Option Addr) (cap : Nat) (l : List α) (hx : a.eval x = .slice ad l.length cap) (hnil : ad = none → cap = 0) (hsl : SlAt c (flat enc) w ad l)
    (hbytes : (l0.length + l.length) * bytes ≤ 140737488355328) (h63 : l0.length + l.length ≤ maxLen) (hbase : base ≤ w.heap.size)
    (h : ∀ v' w', w'.ownsRow base e c v' (l0 ++ l).length ((l0 ++ l).flatMap enc) → w.grownBy w' v.ownBlock → (v ≠ .slice none 0 0 → v' ≠ .slice none 0 0) → K (a.put o.dst v') w') : o.wp P a w K Q := by
  match ad, hnil, hsl, hx with
  | none, hnil, hsl, hx =>
    have hl : l = [] := by rcases hsl with h | ⟨b, o, he, _⟩; exact h; cases he
    subst hl
    rw [hnil rfl] at hx
    have hrun := run_append_owned_none (P := P) (w := w) base t o.type e i c ht hi v _ _ hown
    unfold Oper.wp
    simp [execOp, ho, resolve, invoke, builtin, hs, hx, hrun, Result.andThen]
    exact h v w (by simpa using hown) ⟨rfl, rfl, rfl, Nat.le_refl _, fun _ _ _ => rfl⟩ id
  | some ad, hnil, hsl, hx =>
    refine wp_append_own w s x t ho base e i z c bytes ht hi hz hsize hby hzs c0 v _ _ hs hown ad l.length cap (l.flatMap enc) hx (flatMap_len hc l) ?_ ?_ h63 hbytes hbase ?_
    · intro j u hu
      rcases hsl with rfl | ⟨b, o, he, hlt, hh⟩
      · simp at hu
      · simp at he
        subst he
        have := SlAt.cells hc c0 (b := b) (o := o) (.inr ⟨b, o, rfl, hlt, hh⟩) j u hu
        rw [← this]
        congr 1
        simp [Addr.add]
    · intro u hu
      simp at hu
      obtain ⟨x, _, hx⟩ := hu
      exact hone x u hx
    · intro v' w' h1 h2 h3
      exact h v' w' (by rw [List.flatMap_append, List.length_append]; exact h1) h2 (fun hv hv' => hv (h3.1 hv').1)
/-- 'append([]T{}, x...)': a copy of the call's own. -/
theorem wp_copy_sl {P : Program} {α : Type} {enc : α → List Value} {c : Nat} (hc : ∀ x, (enc x).length = c) (c0 : 0 < c) (hone : ∀ x, ∀ u ∈ enc x, u.oneCell' = true) {w : World} {o : Oper} {a : Act} {K : Act → World → Prop} {Q : Exit → Act → World → Prop} (s x : Operand) (t : TypeId)
    (ho : o.op = .call { callee := .builtin .append, args := #[s, x], argTypes := #[t, t] })
    (base : Nat) (e : TypeId) (i : TypeInfo) (z : Value) (bytes : Nat) (ht : P.underlying t = some (.slice e)) (hi : P.info? e = some i) (hz : i.zero = some z)
    (hsize : i.size = c) (hby : i.bytes = bytes) (hzs : z.cells.size = c)
    (g : Nat) (hs : a.eval s = .slice (some ⟨g, 0, none⟩) 0 0) (hg : w.heap[g]? = some (.cells #[] e (0, 0))) (hbg : base ≤ g)
    (ad : Option Addr) (cap : Nat) (l : List α) (hx : a.eval x = .slice ad l.length cap) (hnil : ad = none → cap = 0) (hsl : SlAt c (flat enc) w ad l)
    (hbytes : l.length * bytes ≤ 140737488355328) (h63 : l.length ≤ maxLen)
    (h : ∀ b cap' w', w'.ownsRow base e c (.slice (some ⟨b, 0, none⟩) l.length cap') l.length (l.flatMap enc) → Below g w w' → w.heap.size ≤ w'.heap.size → K (a.put o.dst (.slice (some ⟨b, 0, none⟩) l.length cap')) w') : o.wp P a w K Q := by
  have hlt := (Array.getElem?_eq_some_iff.1 hg).1
  refine wp_append_sl hc c0 hone s x t ho base e i z bytes ht hi hz hsize hby hzs _ [] hs ?_ ad cap l hx hnil hsl (by simpa using hbytes) (by simpa using h63) (by omega) ?_
  · exact ⟨by simp, .inr ⟨g, 0, #[], rfl, hbg, hg, Nat.le_refl _, by decide, by simp, by simp⟩⟩
  · intro v' w' h1 h2 h3
    have h1 : w'.ownsRow base e c v' l.length (l.flatMap enc) := by simpa using h1
    obtain ⟨b, cap', hv⟩ : ∃ b cap', v' = .slice (some ⟨b, 0, none⟩) l.length cap' := by
      rcases h1.2 with ⟨hn, _⟩ | ⟨b, cap', _, hv, _⟩
      · exact absurd hn (h3 (by simp))
      · exact ⟨b, cap', hv⟩
    subst hv
    refine h b cap' w' h1 ?_ h2.size
    exact (Below.refl g w).grown h2 (by omega) (by intro k hk; simp [Value.ownBlock] at hk; omega)
theorem wpList_append_sl {P : Program} {α : Type} {enc : α → List Value} {c : Nat} (hc : ∀ x, (enc x).length = c) (c0 : 0 < c) (hone : ∀ x, ∀ u ∈ enc x, u.oneCell' = true) {w : World} {ops : Array Oper} {rest : List Oper} {o : Oper} {a : Act} {Q : Exit → Act → World → Prop} (hgd : o.guard = none) (s x : Operand) (t : TypeId)
    (ho : o.op = .call { callee := .builtin .append, args := #[s, x], argTypes := #[t, t] })
    (base : Nat) (e : TypeId) (i : TypeInfo) (z : Value) (bytes : Nat) (ht : P.underlying t = some (.slice e)) (hi : P.info? e = some i) (hz : i.zero = some z)
    (hsize : i.size = c) (hby : i.bytes = bytes) (hzs : z.cells.size = c)
    (v : Value) (l0 : List α) (hs : a.eval s = v) (hown : w.ownsRow base e c v l0.length (l0.flatMap enc))
    (ad : Option Addr) (cap : Nat) (l : List α) (hx : a.eval x = .slice ad l.length cap) (hnil : ad = none → cap = 0) (hsl : SlAt c (flat enc) w ad l)
    (hbytes : (l0.length + l.length) * bytes ≤ 140737488355328) (h63 : l0.length + l.length ≤ maxLen) (hbase : base ≤ w.heap.size)
    (h : ∀ v' w', w'.ownsRow base e c v' (l0 ++ l).length ((l0 ++ l).flatMap enc) → w.grownBy w' v.ownBlock → (v ≠ .slice none 0 0 → v' ≠ .slice none 0 0) → wpList P ops Q rest (a.put o.dst v') w') : wpList P ops Q (o :: rest) a w :=
  wpList_plain hgd fun K hK => wp_append_sl hc c0 hone s x t ho base e i z bytes ht hi hz hsize hby hzs v l0 hs hown ad cap l hx hnil hsl hbytes h63 hbase fun v' w' h1 h2 h3 => hK _ _ (h v' w' h1 h2 h3)
theorem wpList_copy_sl {P : Program} {α : Type} {enc : α → List Value} {c : Nat} (hc : ∀ x, (enc x).length = c) (c0 : 0 < c) (hone : ∀ x, ∀ u ∈ enc x, u.oneCell' = true) {w : World} {ops : Array Oper} {rest : List Oper} {o : Oper} {a : Act} {Q : Exit → Act → World → Prop} (hgd : o.guard = none) (s x : Operand) (t : TypeId)
    (ho : o.op = .call { callee := .builtin .append, args := #[s, x], argTypes := #[t, t] })
    (base : Nat) (e : TypeId) (i : TypeInfo) (z : Value) (bytes : Nat) (ht : P.underlying t = some (.slice e)) (hi : P.info? e = some i) (hz : i.zero = some z)
    (hsize : i.size = c) (hby : i.bytes = bytes) (hzs : z.cells.size = c)
    (g : Nat) (hs : a.eval s = .slice (some ⟨g, 0, none⟩) 0 0) (hg : w.heap[g]? = some (.cells #[] e (0, 0))) (hbg : base ≤ g)
    (ad : Option Addr) (cap : Nat) (l : List α) (hx : a.eval x = .slice ad l.length cap) (hnil : ad = none → cap = 0) (hsl : SlAt c (flat enc) w ad l)
    (hbytes : l.length * bytes ≤ 140737488355328) (h63 : l.length ≤ maxLen)
    (h : ∀ b cap' w', w'.ownsRow base e c (.slice (some ⟨b, 0, none⟩) l.length cap') l.length (l.flatMap enc) → Below g w w' → w.heap.size ≤ w'.heap.size → wpList P ops Q rest (a.put o.dst (.slice (some ⟨b, 0, none⟩) l.length cap')) w') : wpList P ops Q (o :: rest) a w :=
  wpList_plain hgd fun K hK => wp_copy_sl hc c0 hone s x t ho base e i z bytes ht hi hz hsize hby hzs g hs hg hbg ad cap l hx hnil hsl hbytes h63 fun b cap' w' h1 h2 h3 => hK _ _ (h b cap' w' h1 h2 h3)
/-- The same at a step of a region that draws its order. -/
theorem step_append_sl {P : Program} {α : Type} {enc : α → List Value} {c : Nat} (hc : ∀ x, (enc x).length = c) (c0 : 0 < c) (hone : ∀ x, ∀ u ∈ enc x, u.oneCell' = true) {w : World} {ops : Array Oper} {o : Oper} {a : Act} {K : Act → World → Prop} {Q : Exit → Act → World → Prop} {E : Prop} (hgd : o.guard = none) (s x : Operand) (t : TypeId)
    (ho : o.op = .call { callee := .builtin .append, args := #[s, x], argTypes := #[t, t] })
    (base : Nat) (e : TypeId) (i : TypeInfo) (z : Value) (bytes : Nat) (ht : P.underlying t = some (.slice e)) (hi : P.info? e = some i) (hz : i.zero = some z)
    (hsize : i.size = c) (hby : i.bytes = bytes) (hzs : z.cells.size = c)
    (v : Value) (l0 : List α) (hs : a.eval s = v) (hown : w.ownsRow base e c v l0.length (l0.flatMap enc))
    (ad : Option Addr) (cap : Nat) (l : List α) (hx : a.eval x = .slice ad l.length cap) (hnil : ad = none → cap = 0) (hsl : SlAt c (flat enc) w ad l)
    (hbytes : (l0.length + l.length) * bytes ≤ 140737488355328) (h63 : l0.length + l.length ≤ maxLen) (hbase : base ≤ w.heap.size)
    (h : ∀ v' w', w'.ownsRow base e c v' (l0 ++ l).length ((l0 ++ l).flatMap enc) → w.grownBy w' v.ownBlock → (v ≠ .slice none 0 0 → v' ≠ .slice none 0 0) → K (a.put o.dst v') w') : if Region.wanted o (yielded ops a.tmps) = true then Oper.wp P o a w K Q else E := by
  have hw : Region.wanted o (yielded ops a.tmps) = true := by simp [Region.wanted, hgd]
  rw [if_pos hw]
  exact wp_append_sl hc c0 hone s x t ho base e i z bytes ht hi hz hsize hby hzs v l0 hs hown ad cap l hx hnil hsl hbytes h63 hbase h
theorem step_copy_sl {P : Program} {α : Type} {enc : α → List Value} {c : Nat} (hc : ∀ x, (enc x).length = c) (c0 : 0 < c) (hone : ∀ x, ∀ u ∈ enc x, u.oneCell' = true) {w : World} {ops : Array Oper} {o : Oper} {a : Act} {K : Act → World → Prop} {Q : Exit → Act → World → Prop} {E : Prop} (hgd : o.guard = none) (s x : Operand) (t : TypeId)
    (ho : o.op = .call { callee := .builtin .append, args := #[s, x], argTypes := #[t, t] })
    (base : Nat) (e : TypeId) (i : TypeInfo) (z : Value) (bytes : Nat) (ht : P.underlying t = some (.slice e)) (hi : P.info? e = some i) (hz : i.zero = some z)
    (hsize : i.size = c) (hby : i.bytes = bytes) (hzs : z.cells.size = c)
    (g : Nat) (hs : a.eval s = .slice (some ⟨g, 0, none⟩) 0 0) (hg : w.heap[g]? = some (.cells #[] e (0, 0))) (hbg : base ≤ g)
    (ad : Option Addr) (cap : Nat) (l : List α) (hx : a.eval x = .slice ad l.length cap) (hnil : ad = none → cap = 0) (hsl : SlAt c (flat enc) w ad l)
    (hbytes : l.length * bytes ≤ 140737488355328) (h63 : l.length ≤ maxLen)
    (h : ∀ b cap' w', w'.ownsRow base e c (.slice (some ⟨b, 0, none⟩) l.length cap') l.length (l.flatMap enc) → Below g w w' → w.heap.size ≤ w'.heap.size → K (a.put o.dst (.slice (some ⟨b, 0, none⟩) l.length cap')) w') : if Region.wanted o (yielded ops a.tmps) = true then Oper.wp P o a w K Q else E := by
  have hw : Region.wanted o (yielded ops a.tmps) = true := by simp [Region.wanted, hgd]
  rw [if_pos hw]
  exact wp_copy_sl hc c0 hone s x t ho base e i z bytes ht hi hz hsize hby hzs g hs hg hbg ad cap l hx hnil hsl hbytes h63 h
theorem SlAt.intAt {kd : IntKind} {w : World} {a : Option Addr} {l : List Int} (h : SlAt 1 (flat (intC kd)) w a l) (k : Nat) (hk : k < l.length) :
    ∃ b o, a = some ⟨b, o, none⟩ ∧ b < w.heap.size ∧ w.cell? ⟨b, o + k, none⟩ = some (.int kd (l[k]?.getD 0)) := by
  rcases h with rfl | ⟨b, o, rfl, hlt, h⟩
  · simp at hk
  · obtain ⟨cs, h1, h2, h3⟩ := h k hk
    have := h2 0 (by omega)
    rw [List.getElem?_eq_getElem hk]
    exact ⟨b, o, rfl, hlt, by rw [h3] at this; simpa [intC] using this⟩
theorem SlAt.ofInts {kd : IntKind} {w : World} {b o : Nat} {l : List Int} (hb : b < w.heap.size) (h : ∀ i, i < l.length → w.cell? ⟨b, o + i, none⟩ = some (.int kd (l[i]?.getD 0))) : SlAt 1 (flat (intC kd)) w (some ⟨b, o, none⟩) l := by
  refine .inr ⟨b, o, rfl, hb, fun i hi => ⟨[.int kd l[i]], rfl, fun j hj => ?_, rfl⟩⟩
  obtain rfl : j = 0 := by omega
  have := h i hi
  rw [List.getElem?_eq_getElem hi] at this
  simpa using this
theorem SlAt.boolAt {w : World} {a : Option Addr} {l : List Bool} (h : SlAt 1 (flat boolC) w a l) (k : Nat) (hk : k < l.length) :
    ∃ b o, a = some ⟨b, o, none⟩ ∧ b < w.heap.size ∧ w.cell? ⟨b, o + k, none⟩ = some (.bool (l[k]?.getD false)) := by
  rcases h with rfl | ⟨b, o, rfl, hlt, h⟩
  · simp at hk
  · obtain ⟨cs, h1, h2, h3⟩ := h k hk
    have := h2 0 (by omega)
    rw [List.getElem?_eq_getElem hk]
    exact ⟨b, o, rfl, hlt, by rw [h3] at this; simpa [boolC] using this⟩
theorem intC_len (kd : IntKind) (n : Int) : (intC kd n).length = 1 := rfl
theorem intC_one (kd : IntKind) (n : Int) : ∀ u ∈ intC kd n, u.oneCell' = true := by intro u hu; simp [intC] at hu; subst hu; rfl
theorem slAt_own {α : Type} {enc : α → List Value} {c : Nat} (hc : ∀ x, (enc x).length = c) {w : World} {B : Nat} {e : TypeId} {l : List α} {b cap : Nat} (h : w.ownsRow B e c (.slice (some ⟨b, 0, none⟩) l.length cap) l.length (l.flatMap enc)) :
    SlAt c (flat enc) w (some ⟨b, 0, none⟩) l ∧ B ≤ b ∧ b < w.heap.size ∧ l.length ≤ cap ∧ cap ≤ maxLen := by
  obtain ⟨a, cap', hv, h1, h2, h3, h4, h5⟩ := slAt_of_own hc h
  simp at hv
  obtain ⟨rfl, rfl⟩ := hv
  exact ⟨h5, (h4 b 0 rfl).1, (h4 b 0 rfl).2, h1, h2⟩
theorem SlAt.one {α : Type} {enc : α → List Value} {c : Nat} (hc : ∀ x, (enc x).length = c) {w : World} {g : Nat} {x : α} {e : TypeId} {fr : Nat × Nat} (h : w.heap[g]? = some (.cells (enc x).toArray e fr)) : SlAt c (flat enc) w (some ⟨g, 0, none⟩) [x] := by
  refine .inr ⟨g, 0, rfl, (Array.getElem?_eq_some_iff.1 h).1, fun i hi => ?_⟩
  obtain rfl : i = 0 := by simp at hi; exact hi
  refine ⟨enc x, hc x, fun j hj => ?_, rfl⟩
  simp [World.cell?, h]
/-- A store into a row of the call's own. -/
theorem own_setCell {w : World} {B : Nat} {e : TypeId} {c n g cap i : Nat} {xs : List Value} {u : Value} (h : w.ownsRow B e c (.slice (some ⟨g, 0, none⟩) n cap) n xs) (hi : i < n * c) :
    (w.setCell ⟨g, i, none⟩ u).ownsRow B e c (.slice (some ⟨g, 0, none⟩) n cap) n (xs.set i u) := by
  refine ⟨by rw [List.length_set]; exact h.1, ?_⟩
  rcases h.2 with ⟨hn, _⟩ | ⟨g', cap', cur, hv, hB, hg, hle, hmax, hsz, htake⟩
  · cases hn
  · simp at hv
    obtain ⟨rfl, rfl⟩ := hv
    refine .inr ⟨g, cap, cur.setIfInBounds i u, rfl, hB, heap_setCell_row hg i u, hle, hmax, by simpa using hsz, ?_⟩
    rw [← htake, Array.toList_setIfInBounds, List.take_set]
theorem own_cell {w : World} {B : Nat} {e : TypeId} {c n g cap i : Nat} {xs : List Value} (h : w.ownsRow B e c (.slice (some ⟨g, 0, none⟩) n cap) n xs) (hi : i < n * c) :
    w.cell? ⟨g, i, none⟩ = xs[i]? ∧ w.frozen? ⟨g, i, none⟩ = false := by
  rcases h.2 with ⟨hn, _⟩ | ⟨g', cap', cur, hv, hB, hg, hle, hmax, hsz, htake⟩
  · cases hn
  · simp at hv
    obtain ⟨rfl, rfl⟩ := hv
    refine ⟨?_, by simp [World.frozen?, hg]⟩
    rw [← htake, List.getElem?_take, if_pos hi]
    simp [World.cell?, hg]
theorem own_block {w w' : World} {B : Nat} {e : TypeId} {c n g cap : Nat} {xs : List Value} (h : w.ownsRow B e c (.slice (some ⟨g, 0, none⟩) n cap) n xs) (hb : w'.heap[g]? = w.heap[g]?) :
    w'.ownsRow B e c (.slice (some ⟨g, 0, none⟩) n cap) n xs := by
  refine ⟨h.1, ?_⟩
  rcases h.2 with ⟨hn, _⟩ | ⟨g', cap', cur, hv, hB, hg, rest⟩
  · cases hn
  · simp at hv
    obtain ⟨rfl, rfl⟩ := hv
    exact .inr ⟨g, cap, cur, rfl, hB, hb.trans hg, rest⟩
theorem own_lt {w : World} {B : Nat} {e : TypeId} {c n g cap : Nat} {xs : List Value} (h : w.ownsRow B e c (.slice (some ⟨g, 0, none⟩) n cap) n xs) : B ≤ g ∧ g < w.heap.size := h.lt g rfl
theorem own_form {w : World} {B : Nat} {e : TypeId} {c n : Nat} {v : Value} {xs : List Value} (h : w.ownsRow B e c v n xs) (hn : 0 < n) : ∃ g cap, v = .slice (some ⟨g, 0, none⟩) n cap ∧ n ≤ cap ∧ cap ≤ maxLen := by
  rcases h.2 with ⟨_, h0⟩ | ⟨g, cap, cur, hv, hB, hg, hle, hmax, _⟩
  · omega
  · exact ⟨g, cap, hv, hle, hmax⟩
theorem ints_set (k : IntKind) : ∀ (l : List Int) (i : Nat) (x : Int), (l.flatMap (intC k)).set i (.int k x) = (l.set i x).flatMap (intC k)
  | [], _, _ => rfl
  | y :: l, 0, x => rfl
  | y :: l, i + 1, x => by
    show (intC k y ++ l.flatMap (intC k)).set (i + 1) _ = intC k y ++ (l.set i x).flatMap (intC k)
    rw [← ints_set k l i x]
    rfl
theorem ints_at (k : IntKind) (l : List Int) (i : Nat) (h : i < l.length) : (l.flatMap (intC k))[i]? = some (.int k (l[i]?.getD 0)) := by
  have := flatMap_at (enc := intC k) (c := 1) (intC_len k) l i 0 (by omega)
  simp only [Nat.mul_one, Nat.add_zero] at this
  rw [this, List.getElem?_eq_getElem h]
  rfl
end
/- Place -/
section
open Go.RowKit Go.Maps
/-- A place: two numbers in their bounds. -/
abbrev Pl := { p : Int × Int // (Lit.int .i64 p.1).wf = true ∧ (Lit.int .i64 p.2).wf = true }
abbrev encP (p : Pl) : Value := .agg #[.int .i64 p.1.1, .int .i64 p.1.2]
def cellsP (p : Pl) : List Value := [.int .i64 p.1.1, .int .i64 p.1.2]
def litP (p : Pl) : Lit := .string (keyBytes [.int .i64 p.1.1, .int .i64 p.1.2])
theorem placeLaidOut : laidOutB Tryz.prog = true := by kernel_rfl
theorem placeLaw : WideMaps.KeyLaw Tryz.prog 196 := deep_law_laid placeLaidOut (m := 2) (by omega) (of_decide_eq_true (by kernel_rfl)) (by kernel_rfl) (by kernel_rfl)
theorem placeKeyed : Keyed Tryz.prog 196 := Keyed.of_law placeLaw
theorem typesTwo : ∃ n, Tryz.prog.types.size + 1 = n + 2 := ⟨Tryz.prog.types.size - 1, by have : 0 < Tryz.prog.types.size := of_decide_eq_true (by kernel_rfl); omega⟩
def intKey : Value → Option (List Lit)
  | .int q n => if q = .i64 ∧ (Lit.int .i64 n).wf = true then some [.int .i64 n] else none
  | _ => none
theorem intKey_some {c : Value} {l : List Lit} (h : intKey c = some l) : ∃ a, c = .int .i64 a ∧ (Lit.int .i64 a).wf = true ∧ l = [.int .i64 a] := by
  cases c <;> simp [intKey] at h
  rename_i q a
  obtain ⟨⟨rfl, hw⟩, rfl⟩ := h
  exact ⟨a, rfl, hw, rfl⟩
theorem keyLits_int (d : Nat) (v : Value) : Tryz.prog.keyLits (d + 1) 3 [v] = intKey v := by
  unfold Program.keyLits
  rw [Tryz.underlying3]
  cases v <;> simp [intKey]
theorem keyLits_place (d : Nat) (x y : Value) : Tryz.prog.keyLits (d + 2) 196 [x, y] = (Tryz.prog.keyLits (d + 1) 3 [x]).bind fun l => (Tryz.prog.keyLits (d + 1) 3 [y]).map fun m => l ++ m := by
  conv => lhs; unfold Program.keyLits
  rw [Tryz.underlying196]
  simp only [show Tryz.prog.cellsOf 196 = 2 by kernel_rfl]
  simp [show Tryz.prog.cellsOf 3 = 1 by kernel_rfl]
  generalize Tryz.prog.keyLits (d + 1) 3 [x] = l0
  generalize Tryz.prog.keyLits (d + 1) 3 [y] = l1
  cases l0 <;> cases l1 <;> simp
theorem keyOf_place (p : Pl) : keyOf Tryz.prog 196 (encP p) = some (litP p) := by
  obtain ⟨⟨a, b⟩, h1, h2⟩ := p
  dsimp only at h1 h2
  obtain ⟨n, hn⟩ := typesTwo
  unfold keyOf
  rw [Tryz.underlying196]
  simp only []
  rw [if_pos ?h1, hn]
  case h1 =>
    rw [show Tryz.prog.keyType 196 = true by kernel_rfl]
    simp [Value.formed, Tryz.underlying196, show Tryz.prog.cellsOf 196 = 2 by kernel_rfl]
  simp only [Value.cells]
  rw [keyLits_place, keyLits_int, keyLits_int]
  simp [h1, h2, litP, intKey]
set_option maxRecDepth 20000 in
theorem keyOf_place_inv {v : Value} {kl : Lit} (h : keyOf Tryz.prog 196 v = some kl) : ∃ p : Pl, v = encP p ∧ kl = litP p := by
  obtain ⟨n, hn⟩ := typesTwo
  have h' := h
  unfold keyOf at h
  rw [Tryz.underlying196] at h
  simp only [] at h
  by_cases hf : (Tryz.prog.keyType 196 && Value.formed Tryz.prog 196 v) = true
  · rw [if_pos hf] at h
    simp only [Bool.and_eq_true] at hf
    obtain ⟨_, hf⟩ := hf
    obtain ⟨ls, hl, he⟩ := Option.map_eq_some_iff.1 h
    unfold Value.formed at hf
    rw [Tryz.underlying196] at hf
    cases v <;> simp at hf
    rename_i cs
    rw [show Tryz.prog.cellsOf 196 = 2 by kernel_rfl] at hf
    obtain ⟨c0, c1, rfl⟩ := Go.Joins.array2 hf
    rw [hn] at hl
    simp only [Value.cells] at hl
    rw [keyLits_place, keyLits_int, keyLits_int] at hl
    obtain ⟨l0, h0, hl⟩ := Option.bind_eq_some_iff.1 hl
    obtain ⟨l1, h1, rfl⟩ := Option.map_eq_some_iff.1 hl
    obtain ⟨a, rfl, ha, rfl⟩ := intKey_some h0
    obtain ⟨b, rfl, hb, rfl⟩ := intKey_some h1
    exact ⟨⟨(a, b), ha, hb⟩, rfl, he.symm⟩
  · rw [if_neg hf] at h
    cases h
theorem litP_inj {p q : Pl} (h : litP p = litP q) : p = q := by
  have h1 := placeKeyed.inj (keyOf_place p) (h ▸ keyOf_place q)
  obtain ⟨⟨a, b⟩, _⟩ := p
  obtain ⟨⟨c, d⟩, _⟩ := q
  simp [encP] at h1
  simp [h1]
end
/- Keys -/
section
open Go.RowKit Go.Maps Go.Sort Go.Shelf
/-- No place twice; a place is on the list just where the map has it and it is no longer to come. -/
def CollP {H : Type} (D0 : DataW H) (left : Lit → Bool) (ss : List Pl) : Prop := ss.Nodup ∧ ∀ x, x ∈ ss ↔ (Maps.has D0 (litP x) = true ∧ left (litP x) = false)
theorem litP_same (x y : Pl) : (litP x).sameKey (litP y) = decide (x = y) := by
  by_cases h : x = y
  · subst h; simp [litP, Lit.sameKey]
  · rw [decide_eq_false h]
    by_cases hs : (litP x).sameKey (litP y) = true
    · exact absurd (litP_inj (WideAt.sameKey_eq hs)) h
    · simpa using hs
section
variable {H : Type} {D0 : DataW H} {left : Lit → Bool} {ss : List Pl}
theorem CollP.start (D0 : DataW H) : CollP D0 (Maps.has D0) [] := ⟨List.nodup_nil, fun x => by cases Maps.has D0 (litP x) <;> simp⟩
theorem CollP.step (h : CollP D0 left ss) {x : Pl} {y : DataW H} (hlk : left (litP x) = true) (hat : ∀ zd, D0.atKey (litP x) zd = y) : CollP D0 (fun z => left z && !z.sameKey (litP x)) (ss ++ [x]) := by
  have hhas : Maps.has D0 (litP x) = true := has_true_of_atKey hat
  have hnew : x ∉ ss := fun hx => by have := ((h.2 x).1 hx).2; rw [hlk] at this; cases this
  refine ⟨List.nodup_append.2 ⟨h.1, by simp, fun a ha b hb => by simp at hb; subst hb; exact fun e => hnew (e ▸ ha)⟩, fun y => ?_⟩
  by_cases hy : y = x
  · subst hy; simp [hhas, litP_same]
  · simp [h.2 y, hy, litP_same]
end
/-- The places of a map: each once. -/
def PlacesOf {H : Type} (D0 : DataW H) (ss : List Pl) : Prop := ss.Nodup ∧ ∀ x, x ∈ ss ↔ Maps.has D0 (litP x) = true
set_option maxRecDepth 100000 in
set_option maxHeartbeats 1000000 in
theorem keys1_in {H : Type} (F : Fence) (n : Nat) (h1 : F.fn 148) (hro : F.round = none) (hn : 1 ≤ n) (l Bm b nn : Nat) (D0 : DataW H) {R : Value → Option (DataW H × List MemPlace)} (J Jx : List Pl → World → Prop)
    (hY : ∀ pre x W, J pre W → pre.length < Maps.size D0 → YieldAt F (n - 1) Tryz.prog l #[encP x] W fun e W' => (e = .returned (.bool true) ∧ J (pre ++ [x]) W' ∧ KeepsWalks W W') ∨ (e = .returned (.bool false) ∧ Jx (pre ++ [x]) W'))
    (W : World) (hJ : AbidesFrom W.heap.size J) (hm : W.cell? ⟨Bm, 0, none⟩ = some (.map (some b))) (hown : W.ownsMap Tryz.prog 196 R b nn D0) (h0 : J [] W) :
    CallsIn F n Tryz.prog 148 #[.func (.yield l) #[] #[], .pointer (some ⟨Bm, 0, none⟩)] W fun e W' => (∃ v, e = .returned v) ∧ ((∃ ss : List Pl, PlacesOf D0 ss ∧ J ss W') ∨ (∃ pre : List Pl, True ∧ Jx pre W')) := by
  refine callsIn_of_wp Tryz.func148 rfl h1 ?_ hro
  simp only [Tryz.ntmps148, List.size_toArray, List.length_cons, List.length_nil, Nat.reduceAdd, Nat.reduceSub, Array.replicate_succ, Array.replicate_zero, List.push_toArray, List.append_toArray, List.nil_append, List.cons_append]
  gi_wp2_with (first
    | (gi_at_range; refine wpListIn_range_own _ rfl _ 134 rfl 196 211 placeKeyed Tryz.underlying134 _ b nn _ rfl hown ?_; intro w0 hrg0 hg0 hs0)
    | gi_in)
  go_frame
  gi_loopw [3] (fun _ wr => ∃ (left : Lit → Bool) (cnt : Nat) (ss : List Pl), wr.ranges Tryz.prog 196 R b W.heap.size nn D0 left cnt ∧ ss.length + cnt ≤ Maps.size D0 ∧ CollP D0 left ss ∧ J ss wr)
    (fun _ wr => wr.rangeLeft b W.heap.size)
  case atStart =>
    exact ⟨_, _, [], hrg0, by simp, CollP.start D0, hJ [] W w0 none h0 hg0 (fun r e => by cases e)⟩
  case round =>
    obtain ⟨left, cnt, ss, hrg, hcs, hC, hJs⟩ := hrel
    gi_wp2_with (first
      | (gi_at_next; refine wpListIn_next_ranges _ rfl _ rfl 196 placeKeyed R encP id (fun key kl hk => by obtain ⟨x, hx, _⟩ := keyOf_place_inv hk; exact ⟨x, hx⟩) (fun v _ _ => ⟨v, rfl⟩) b W.heap.size nn _ _ _ rfl hrg ?_ ?_)
      | gi_in)
    · intro hc0 hl0
      gi_wp2
      go_end0
      exact ⟨⟨_, rfl⟩, .inl ⟨ss, ⟨hC.1, fun x => by rw [hC.2 x, hl0]; simp⟩, hJs⟩⟩
    · intro xa xb hxw c kl yd yp w2 cnt2 hkey hlk hv hat hrg2 hlt hg2 hs2 hen
      obtain ⟨x', ex, rfl⟩ := keyOf_place_inv hkey
      obtain rfl : x' = ⟨(xa, xb), hxw⟩ := by
        have := keyOf_place ⟨(xa, xb), hxw⟩
        exact litP_inj (Option.some.inj (hkey.symm.trans this))
      have hJ2 : J ss w2 := hJ ss wr w2 (some W.heap.size) hJs hg2 (fun r e => by cases e; exact ⟨Nat.le_refl _, hrg.iter_walk⟩)
      have hJ3 : J ss (w2.alloc (.cells #[.int .i64 xa, .int .i64 xb] 196)) := hJ ss w2 _ none hJ2 (World.grownBy_alloc _ _ _) (fun r e => by cases e)
      obtain ⟨fn, tmps, assign, body, hy, hR⟩ := hY ss ⟨(xa, xb), hxw⟩ _ hJ3 (by omega)
      clear hs2
      dsimp only [encP] at hy
      gi_wp2
      refine hR.mono ?_
      rintro e W3 (⟨rfl, hJ4, hk3⟩ | ⟨rfl, hJx⟩)
      rotate_left
      · gi_wp2
        refine bodyPost_ret (results_none rfl _ _ _) rfl ?_
        exact ⟨⟨_, rfl⟩, .inr ⟨_, trivial, hJx⟩⟩
      gi_wp2
      have hrg3 := (hrg2.of_walks (KeepsWalks.alloc _ _)).of_walks hk3
      have hlen : (ss ++ [(⟨(xa, xb), hxw⟩ : Pl)]).length + cnt2 ≤ Maps.size D0 := by rw [List.length_append, List.length_singleton]; omega
      have hC2 := hC.step hlk hat
      go_roundw
      case rel => exact ⟨_, cnt2, ss ++ [⟨(xa, xb), hxw⟩], hrg3, hlen, hC2, hJ4⟩
      case measure => rw [hrg3.left_eq, hrg.left_eq]; exact hlt
theorem keys_stops {H : Type} (F : Fence) (n : Nat) (h1 : F.fn 148) (hro : F.round = none) (hn : 1 ≤ n) (Bm b nn : Nat) (D0 : DataW H) {R : Value → Option (DataW H × List MemPlace)} (w : World) (hBm : Bm < w.heap.size)
    (hm : w.cell? ⟨Bm, 0, none⟩ = some (.map (some b))) (hown : w.ownsMap Tryz.prog 196 R b nn D0) :
    SeqStopsK F n Tryz.prog 148 #[.pointer (some ⟨Bm, 0, none⟩)] (fun x : Pl => #[encP x]) KeepsWalks (PlacesOf D0) (fun _ => True) (Maps.size D0) w := fun l J Jx W hW hJ hJx hY h0 => by
  have hown' : W.ownsMap Tryz.prog 196 R b nn D0 := by
    have hbl := hown.lt
    obtain ⟨es, clock, hb, Ft, hs, hD⟩ := hown
    exact ⟨es, clock, (hW.block b hbl).trans hb, Ft, hs, hD⟩
  exact keys1_in F n h1 hro hn l Bm b nn D0 J Jx hY W hJ ((hW.cell (p := ⟨Bm, 0, none⟩) hBm).trans hm) hown' h0
end
/- Collect -/
section
open Go.RowKit Go.Maps Go.Sort Go.Shelf
attribute [local go_sem] Oper.semAt_some
theorem cellsP_len (p : Pl) : (cellsP p).length = 2 := rfl
theorem cellsP_one (p : Pl) : ∀ u ∈ cellsP p, u.oneCell' = true := by intro u hu; simp [cellsP] at hu; rcases hu with rfl | rfl <;> rfl
theorem placeInfo : ∃ i, Tryz.prog.info? 196 = some i ∧ i.zero = some (.agg #[.int .i64 0, .int .i64 0]) ∧ i.size = 2 ∧ i.bytes = 16 := info_parts (by kernel_rfl)
/-- A block that holds a place. -/
def PlBox (W : World) (B : Nat) (x : Pl) : Prop := W.heap[B]? = some (.cells #[.int .i64 x.1.1, .int .i64 x.1.2] 196 (0, 0))
set_option maxHeartbeats 2000000 in
theorem appendSeq_in (F : Fence) (n : Nat) (h46 : F.fn 151) (hro : F.round = none) (hn : 2 ≤ n) (g : Nat) (lb : Array Value) (hFg : F.fn g) (eg : ∀ args w, (callFunc g args).run Tryz.prog w = .ok (.enter g args) w)
    (S Sp : List Pl → Prop) (N : Nat) (hN : N ≤ maxLen) (hNb : N * 16 ≤ 140737488355328) (w : World) (hseq : SeqStopsK F (n - 1) Tryz.prog g lb (fun x : Pl => #[encP x]) KeepsWalks S Sp N w) :
    CallsIn F n Tryz.prog 151 #[.slice none 0 0, .func (.func g) #[] lb] w fun e w' => ∃ (v : Value) (ss : List Pl), e = .returned v ∧ S ss ∧ w'.ownsRow w.heap.size 196 2 v ss.length (ss.flatMap cellsP) ∧ (v = .slice none 0 0 ↔ ss = []) ∧ Below w.heap.size w w' := by
  have h1 : 1 ≤ n := by omega
  obtain ⟨i0, hi, hz0, hz1, hz2⟩ := placeInfo
  refine callsIn_of_wp_marks Tryz.func151 rfl h46 ?_ hro
  simp only [Tryz.ntmps151, List.size_toArray, List.length_cons, List.length_nil, Nat.reduceAdd, Nat.reduceSub, Array.replicate_succ, Array.replicate_zero, List.push_toArray, List.append_toArray, List.nil_append, List.cons_append]
  gi_wp2
  have bS := Boxed.new w 193 (.slice none 0 0)
  have hB0 : Below w.heap.size w (w.alloc (.cells #[.slice none 0 0] 193)) := (Below.refl _ w).alloc (Nat.le_refl _) _
  refine wpIn_rangeFunc_ownH hro h1 (gf := g) (lb := lb) rfl hFg eg (hseq) walksK_t walksK_b hB0 (fun _ => rfl)
    (fun pre W => (∃ v, Boxed W w.heap.size 193 v ∧ W.ownsRow w.heap.size 196 2 v pre.length (pre.flatMap cellsP) ∧ (v = .slice none 0 0 ↔ pre = [])) ∧ Below w.heap.size w W)
    (fun _ _ _ => False)
    (OwnFrom.and (Own.from (holdsRow_own w.heap.size w.heap.size 193 196 2 (fun pre : List Pl => pre.length) (fun pre => pre.flatMap cellsP) (fun pre v => (v = .slice none 0 0 ↔ pre = []))) _) (ownFrom_below (Nat.le_refl _) (by simp)))
    (fun _ _ _ _ _ hs _ _ => hs)
    ⟨⟨_, bS, World.ownsRow_nil _ _ _ _, by simp⟩, hB0⟩
    (fun x a' W => ∃ Bx, w.heap.size < Bx ∧ PlBox W Bx x ∧ a' = { tmps := #[.slice none 0 0, .func (.func g) #[] lb, .pointer (some ⟨w.heap.size, 0, none⟩), undef, .slice none 0 0, .pointer (some ⟨Bx, 0, none⟩), .func (.func g) #[] lb, encP x, undef, undef, undef, undef, undef], defers := [] })
    (fun x a' _ X Y row hs hg hr => by
      obtain ⟨Bx, h1, h2, h3⟩ := hs
      refine ⟨Bx, h1, ?_, h3⟩
      refine (hg.block Bx (Array.getElem?_eq_some_iff.1 h2).1 (fun e => ?_)).trans h2
      obtain ⟨_, o, ho, hc⟩ := hr Bx e.symm
      rw [show X.heap[Bx]? = _ from h2] at ho
      cases ho
      cases hc)
    ?assign ?body ?done ?stop
  case assign =>
    rintro l pre x W K ⟨⟨v, hv, hrow, hnil⟩, hB⟩ hK
    obtain ⟨⟨xa, xb⟩, hx1, hx2⟩ := x
    gi_wp2
    exact hK _ _ ((KeepsOthers.alloc _ _).from _) (KeepsWalks.alloc _ _) ⟨⟨v, hv.alloc _, hrow.alloc _, hnil⟩, hB.alloc hB.size _⟩ ⟨W.heap.size, hv.lt, World.alloc_heap_new W _, rfl⟩
  case body =>
    rintro l pre x a' W hl ⟨r, hr⟩ ⟨⟨v, hv, hrow, hnil⟩, hB⟩ ⟨Bx, hBx, bX, rfl⟩ hlt
    obtain ⟨⟨xa, xb⟩, hx1, hx2⟩ := x
    have hc := hv.cell
    have cX0 : W.cell? ⟨Bx, 0, none⟩ = some (.int .i64 xa) := by simp [World.cell?, show W.heap[Bx]? = _ from bX]
    have cX1 : W.cell? ⟨Bx, 1, none⟩ = some (.int .i64 xb) := by simp [World.cell?, show W.heap[Bx]? = _ from bX]
    gi_wp2_with (gi_at_builtin; refine wpListIn_append_own _ rfl _ _ 193 rfl w.heap.size 196 i0 _ 2 16 Tryz.underlying193 hi hz0 hz1 hz2 rfl (by decide) _ _ _ rfl (hrow.alloc _) ⟨W.heap.size, 0, none⟩ 1 1 [.int .i64 xa, .int .i64 xb] rfl rfl ?hnews (by simp [Value.oneCell']) (by omega) (by omega) (by have := hB.size; simp; omega) ?hk)
    case hnews =>
      intro j u hu
      match j, hu with
      | 0, hu => simp at hu; subst hu; simp [go_sem]
      | 1, hu => simp at hu; subst hu; simp [go_sem]
      | j + 2, hu => simp at hu
    intro v' w1 hown' hgrow _
    obtain ⟨g', cap', rfl⟩ := ownsRow_succ hown'
    obtain ⟨hv1, hv2, hr2, hk2, hb2⟩ := hv.appended (by decide) hrow hB.size (Nat.le_refl _) hown' hgrow
    have hc1 := hv1.cell
    have hf1 := hv1.frozen
    gi_wp2
    have hr3 : (w1.setCell ⟨w.heap.size, 0, none⟩ (.slice (some ⟨g', 0, none⟩) (pre.length + 1) cap')).ownsRow w.heap.size 196 2 (.slice (some ⟨g', 0, none⟩) (pre.length + 1) cap') (pre ++ [(⟨(xa, xb), hx1, hx2⟩ : Pl)]).length ((pre ++ [(⟨(xa, xb), hx1, hx2⟩ : Pl)]).flatMap cellsP) := by
      rw [List.length_append, List.flatMap_append, List.length_singleton]
      exact hr2
    exact ⟨hk2.from _, hk2.walks, ⟨_, hv2, hr3, by simp⟩, hB.trans hb2⟩
  case done =>
    rintro D ys W hD hS ⟨⟨v, hv, hrow, hnil⟩, hB⟩ hK
    have hc := hv.cell
    gi_wp2
    refine ⟨by simp, .inl ⟨_, _, rfl, run_takeDeferred hK, ?_⟩⟩
    exact ⟨_, results_tmp rfl _ _ _, v, ys, rfl, hS, ownsRow_putObj hrow _ hK rfl, hnil, hB.trans (belowK_b (w := w) (Nat.le_refl _) W D _ _ (by simp at hD; omega) hK rfl rfl)⟩
  case stop =>
    intro D c pre W _ _ h _
    exact h.elim
theorem collect_in (F : Fence) (n : Nat) (h42 : F.fn 146) (h46 : F.fn 151) (hro : F.round = none) (hn : 3 ≤ n) (g : Nat) (lb : Array Value) (hFg : F.fn g) (eg : ∀ args w, (callFunc g args).run Tryz.prog w = .ok (.enter g args) w)
    (S Sp : List Pl → Prop) (N : Nat) (hN : N ≤ maxLen) (hNb : N * 16 ≤ 140737488355328) (w : World) (hseq : SeqStopsK F (n - 1 - 1) Tryz.prog g lb (fun x : Pl => #[encP x]) KeepsWalks S Sp N w) :
    CallsIn F n Tryz.prog 146 #[.func (.func g) #[] lb] w fun e w' => ∃ (v : Value) (ss : List Pl), e = .returned v ∧ S ss ∧ w'.ownsRow w.heap.size 196 2 v ss.length (ss.flatMap cellsP) ∧ (v = .slice none 0 0 ↔ ss = []) ∧ Below w.heap.size w w' := by
  have h1 : 1 ≤ n := by omega
  refine callsIn_of_wp Tryz.func146 rfl h42 ?_ hro
  simp only [Tryz.ntmps146, List.size_toArray, List.length_cons, List.length_nil, Nat.reduceAdd, Nat.reduceSub, Array.replicate_succ, Array.replicate_zero, List.push_toArray, List.append_toArray, List.nil_append, List.cons_append]
  gi_wp2_with (gi_at_call 151; refine (appendSeq_in F (n - 1) h46 hro (by omega) g lb hFg eg S Sp N hN hNb _ hseq).mono ?_; rintro e w' ⟨v, ss, rfl, hS, hrow, hnil, hb⟩)
  go_ret
  exact ⟨v, ss, rfl, hS, hrow, hnil, hb⟩
/-- maps.Keys(m), then slices.Collect of it. -/
theorem keys_any (mb : Option Nat) (w : World) : Calls Tryz.prog 133 #[.map mb] w fun e w' => e = .returned (.func (.func 148) #[] #[.pointer (some ⟨w.heap.size, 0, none⟩)]) ∧ w' = w.alloc (.cells #[.map mb] 134) := by
  go_enter Tryz.func133, Tryz.ntmps133
  go_wp2
  go_ret
  exact ⟨rfl, rfl⟩
/-- slices.Collect of a map's keys: all its places, each once, in some order. -/
theorem collect_keys {H : Type} (Bm b nn : Nat) (D0 : DataW H) {R : Value → Option (DataW H × List MemPlace)} (w : World) (hBm : Bm < w.heap.size) (hm : w.cell? ⟨Bm, 0, none⟩ = some (.map (some b))) (hown : w.ownsMap Tryz.prog 196 R b nn D0)
    (hN : Maps.size D0 ≤ maxLen) (hNb : Maps.size D0 * 16 ≤ 140737488355328) :
    Calls Tryz.prog 146 #[.func (.func 148) #[] #[.pointer (some ⟨Bm, 0, none⟩)]] w fun e w' =>
      ∃ (v : Value) (ss : List Pl), e = .returned v ∧ PlacesOf D0 ss ∧ w'.ownsRow w.heap.size 196 2 v ss.length (ss.flatMap cellsP) ∧ (v = .slice none 0 0 ↔ ss = []) ∧ Below w.heap.size w w' := by
  refine (callsIn_wide (n := 5)).1 ?_
  exact collect_in Fence.wide 5 trivial trivial rfl (by omega) _ _ trivial (enters_of Tryz.func148 (by kernel_rfl) rfl) (PlacesOf D0) (fun _ => True) (Maps.size D0) hN hNb w
    (keys_stops Fence.wide _ trivial rfl (by omega) Bm b nn D0 w hBm hm hown)
def ltP (x y : Pl) : Prop := x.1.1 < y.1.1 ∨ (x.1.1 = y.1.1 ∧ x.1.2 < y.1.2)
end
/- Agg -/
section
open Go.RowKit
/-- a value behind one more -/
def takeV (k c v x n : Int) : Int := if k = 1 then wrap64 (v + n) else if k = 2 then wrap64 (v + x) else if k = 3 ∧ (c = 0 ∨ x < v) ∨ k = 4 ∧ (c = 0 ∨ v < x) then x else v
theorem setCell_self {w : World} {b o : Nat} {v : Value} (h : w.cell? ⟨b, o, none⟩ = some v) : w.setCell ⟨b, o, none⟩ v = w := by
  unfold World.cell? at h
  split at h
  · rename_i cs t fr he
    have h : cs[o]? = some v := h
    have e : (w.setCell ⟨b, o, none⟩ v).heap = w.heap := by
      apply Array.ext_getElem?
      intro i
      simp only [World.setCell]
      rw [Array.getElem?_modify]
      split
      · rename_i hi
        subst hi
        rw [he]
        simp only [Option.map_some, Option.isSome_none, Bool.false_eq_true, if_false]
        congr 2
        apply Array.ext_getElem?
        intro j
        rw [Array.getElem?_setIfInBounds]
        split
        · rename_i hj
          subst hj
          rw [h]
          rw [if_pos (Array.getElem?_eq_some_iff.1 h).1]
        · rfl
      · rfl
    show { w with heap := (w.setCell ⟨b, o, none⟩ v).heap } = w
    rw [e]
  · cases h
theorem tick_any (b o : Nat) (c n : Int) (w : World) (h0 : 0 ≤ c) (h1 : c < 2 ^ 60) (h2 : 0 ≤ n) (h3 : n < 2 ^ 60) (c0 : w.cell? ⟨b, o, none⟩ = some (.int .i64 c)) (f0 : w.frozen? ⟨b, o, none⟩ = false) :
    Calls Tryz.prog 150 #[.pointer (some ⟨b, o, none⟩), .int .i64 n] w fun e w' => e = .returned (.tuple #[]) ∧ w' = w.setCell ⟨b, o, none⟩ (.int .i64 (c + n)) := by
  go_enter Tryz.func150, Tryz.ntmps150
  go_wp2
  go_end0
  exact ⟨rfl, rfl⟩
theorem aggNew_any (k : Int) (w : World) : Calls Tryz.prog 70 #[.int .i64 k] w fun e w' => e = .returned (.agg #[.int .i64 0, .int .i64 k, .int .i64 0]) ∧ w' = w.alloc (.cells #[.int .i64 0, .int .i64 k, .int .i64 0] 123) := by
  go_enter Tryz.func70, Tryz.ntmps70
  go_wp2
  exact bodyPost_ret (v := .agg #[.int .i64 0, .int .i64 k, .int .i64 0]) (by simp [results, go_sem]) rfl ⟨rfl, rfl⟩
theorem frozen_set (w : World) (b o : Nat) (u : Value) (a : Addr) : (w.setCell ⟨b, o, none⟩ u).frozen? a = w.frozen? a := by
  simp only [World.frozen?, World.setCell, Array.getElem?_modify]
  by_cases h : b = a.block
  · subst h
    rw [if_pos rfl]
    cases w.heap[a.block]? with
    | none => rfl
    | some x => cases x <;> rfl
  · rw [if_neg h]
set_option maxHeartbeats 2000000 in
theorem take_any (b o : Nat) (k c v x n : Int) (w : World) (h0 : 0 ≤ c) (h1 : c < 2 ^ 60) (h2 : 0 ≤ n) (h3 : n < 2 ^ 60) (c0 : w.cell? ⟨b, o, none⟩ = some (.int .i64 c)) (c1 : w.cell? ⟨b, o + 1, none⟩ = some (.int .i64 k)) (c2 : w.cell? ⟨b, o + 2, none⟩ = some (.int .i64 v)) (f0 : w.frozen? ⟨b, o, none⟩ = false) (f2 : w.frozen? ⟨b, o + 2, none⟩ = false) :
    Calls Tryz.prog 145 #[.pointer (some ⟨b, o, none⟩), .int .i64 x, .int .i64 n] w fun e w' => e = .returned (.tuple #[]) ∧ w' = (w.setCell ⟨b, o + 2, none⟩ (.int .i64 (takeV k c v x n))).setCell ⟨b, o, none⟩ (.int .i64 (c + n)) := by
  have f0' : ∀ u, (w.setCell ⟨b, o + 2, none⟩ u).frozen? ⟨b, o, none⟩ = false := fun u => (frozen_set _ _ _ _ _).trans f0
  have es : w.setCell ⟨b, o + 2, none⟩ (.int .i64 v) = w := setCell_self c2
  have ET := Lib.hid es
  clear es
  by_cases k1 : k = 1
  · subst k1
    have ev : takeV 1 c v x n = wrap64 (v + n) := by simp [takeV]
    rw [ev]
    clear ET ev
    by_cases hc : c = 0
    all_goals
      go_enter Tryz.func145, Tryz.ntmps145
      go_wp2_with (go_at_call 150; refine (tick_any b o c n _ h0 h1 h2 h3 (by simp [go_sem]; assumption) (f0' _)).mono ?_; rintro e w' ⟨rfl, rfl⟩)
      go_end0
      first | exact ⟨rfl, rfl⟩ | exact ⟨rfl, by simp [hc]⟩ | exact ⟨rfl, by simp [hc0]⟩
  · by_cases k2 : k = 2
    · subst k2
      have ev : takeV 2 c v x n = wrap64 (v + x) := by simp [takeV]
      rw [ev]
      clear ET ev
      by_cases hc : c = 0
      all_goals
        go_enter Tryz.func145, Tryz.ntmps145
        go_wp2_with (go_at_call 150; refine (tick_any b o c n _ h0 h1 h2 h3 (by simp [go_sem]; assumption) (f0' _)).mono ?_; rintro e w' ⟨rfl, rfl⟩)
        go_end0
        first | exact ⟨rfl, rfl⟩ | exact ⟨rfl, by simp [hc]⟩ | exact ⟨rfl, by simp [hc0]⟩
    · by_cases hh : k = 3 ∧ (c = 0 ∨ x < v) ∨ k = 4 ∧ (c = 0 ∨ v < x)
      · have ev : takeV k c v x n = x := by simp [takeV, k1, k2, hh]
        rw [ev]
        clear ET ev
        rcases hh with ⟨rfl, hc | hc⟩ | ⟨rfl, hc | hc⟩
        · go_enter Tryz.func145, Tryz.ntmps145
          go_wp2_with (go_at_call 150; refine (tick_any b o c n _ h0 h1 h2 h3 (by simp [go_sem]; assumption) (f0' _)).mono ?_; rintro e w' ⟨rfl, rfl⟩)
          go_end0
          first | exact ⟨rfl, rfl⟩ | exact ⟨rfl, by simp [hc]⟩ | exact ⟨rfl, by simp [hc0]⟩
        · by_cases hc0 : c = 0
          all_goals
            go_enter Tryz.func145, Tryz.ntmps145
            go_wp2_with (go_at_call 150; refine (tick_any b o c n _ h0 h1 h2 h3 (by simp [go_sem]; assumption) (f0' _)).mono ?_; rintro e w' ⟨rfl, rfl⟩)
            go_end0
            first | exact ⟨rfl, rfl⟩ | exact ⟨rfl, by simp [hc]⟩ | exact ⟨rfl, by simp [hc0]⟩
        · go_enter Tryz.func145, Tryz.ntmps145
          go_wp2_with (go_at_call 150; refine (tick_any b o c n _ h0 h1 h2 h3 (by simp [go_sem]; assumption) (f0' _)).mono ?_; rintro e w' ⟨rfl, rfl⟩)
          go_end0
          first | exact ⟨rfl, rfl⟩ | exact ⟨rfl, by simp [hc]⟩ | exact ⟨rfl, by simp [hc0]⟩
        · by_cases hc0 : c = 0
          all_goals
            go_enter Tryz.func145, Tryz.ntmps145
            go_wp2_with (go_at_call 150; refine (tick_any b o c n _ h0 h1 h2 h3 (by simp [go_sem]; assumption) (f0' _)).mono ?_; rintro e w' ⟨rfl, rfl⟩)
            go_end0
            first | exact ⟨rfl, rfl⟩ | exact ⟨rfl, by simp [hc]⟩ | exact ⟨rfl, by simp [hc0]⟩
      · have ev : takeV k c v x n = v := by simp [takeV, k1, k2, hh]
        rw [ev, ET.out]
        clear ET ev
        by_cases k3 : k = 3
        · subst k3
          have hc0 : ¬ c = 0 := fun e => hh (.inl ⟨rfl, .inl e⟩)
          have hxv : ¬ x < v := fun e => hh (.inl ⟨rfl, .inr e⟩)
          clear hh
          go_enter Tryz.func145, Tryz.ntmps145
          go_wp2_with (go_at_call 150; refine (tick_any b o c n _ h0 h1 h2 h3 (by assumption) (by assumption)).mono ?_; rintro e w' ⟨rfl, rfl⟩)
          go_end0
          first | exact ⟨rfl, rfl⟩ | exact ⟨rfl, by simp [hc]⟩ | exact ⟨rfl, by simp [hc0]⟩
        · by_cases k4 : k = 4
          · subst k4
            have hc0 : ¬ c = 0 := fun e => hh (.inr ⟨rfl, .inl e⟩)
            have hxv : ¬ v < x := fun e => hh (.inr ⟨rfl, .inr e⟩)
            clear hh
            go_enter Tryz.func145, Tryz.ntmps145
            go_wp2_with (go_at_call 150; refine (tick_any b o c n _ h0 h1 h2 h3 (by assumption) (by assumption)).mono ?_; rintro e w' ⟨rfl, rfl⟩)
            go_end0
            first | exact ⟨rfl, rfl⟩ | exact ⟨rfl, by simp [hc]⟩ | exact ⟨rfl, by simp [hc0]⟩
          · clear hh
            by_cases hc0 : c = 0
            all_goals
              go_enter Tryz.func145, Tryz.ntmps145
              go_wp2_with (go_at_call 150; refine (tick_any b o c n _ h0 h1 h2 h3 (by assumption) (by assumption)).mono ?_; rintro e w' ⟨rfl, rfl⟩)
              go_end0
              first | exact ⟨rfl, rfl⟩ | exact ⟨rfl, by simp [hc]⟩ | exact ⟨rfl, by simp [hc0]⟩
/-- Add of one value. -/
theorem add_one (b o : Nat) (k c v x : Int) (ab : Nat) (w : World) (h0 : 0 ≤ c) (h1 : c < 2 ^ 60) (c0 : w.cell? ⟨b, o, none⟩ = some (.int .i64 c)) (c1 : w.cell? ⟨b, o + 1, none⟩ = some (.int .i64 k)) (c2 : w.cell? ⟨b, o + 2, none⟩ = some (.int .i64 v)) (f0 : w.frozen? ⟨b, o, none⟩ = false) (f2 : w.frozen? ⟨b, o + 2, none⟩ = false) (cx : w.cell? ⟨ab, 0, none⟩ = some (.int .i64 x)) :
    Calls Tryz.prog 131 #[.pointer (some ⟨b, o, none⟩), .slice (some ⟨ab, 0, none⟩) 1 1] w fun e w' => e = .returned (.tuple #[]) ∧ w' = (w.setCell ⟨b, o + 2, none⟩ (.int .i64 (takeV k c v x 1))).setCell ⟨b, o, none⟩ (.int .i64 (c + 1)) := by
  have HT := Lib.hid (take_any b o k c v x 1 w h0 h1 (by omega) (by omega) c0 c1 c2 f0 f2)
  go_enter Tryz.func131, Tryz.ntmps131
  go_wp2
  refine wp_loop_rounds 2 ?_
  rw [rounds_succ]
  go_wp2_with (go_at_call 145; refine HT.out.mono ?_; rintro e w' ⟨rfl, rfl⟩)
  rw [rounds_succ]
  go_wp2_with fail
  go_end0
  exact ⟨rfl, rfl⟩
theorem join_two (x y : Int) (ab : Nat) (w : World) (c0 : w.cell? ⟨ab, 0, none⟩ = some (.int .u64 x)) (c1 : w.cell? ⟨ab, 1, none⟩ = some (.int .u64 y)) :
    Calls Tryz.prog 116 #[.slice (some ⟨ab, 0, none⟩) 2 2] w fun e w' => e = .returned (.int .u64 (bits .or .u64 (bits .or .u64 0 x) y)) ∧ w' = w := by
  go_enter Tryz.func116, Tryz.ntmps116
  go_wp2
  go_rounds 3
  go_ret
  exact ⟨rfl, rfl⟩
def bv (x : Int) : BitVec 64 := BitVec.ofInt 64 x
theorem bits_or64 (x y : Int) : bits .or .u64 x y = ((bv x ||| bv y).toNat : Int) := by
  have h := (bv x ||| bv y).isLt
  show IntKind.wrap .u64 ((bv x ||| bv y).toNat : Int) = _
  generalize (bv x ||| bv y).toNat = n at h
  simp [IntKind.wrap, IntKind.bits, IntKind.signed]
  omega
theorem bv_toNat (b : BitVec 64) : bv (b.toNat : Int) = b := by
  unfold bv
  rw [BitVec.ofInt_natCast, BitVec.ofNat_toNat]
  simp
theorem wf_u64 {x : Int} (h : (Lit.int .u64 x).wf = true) : 0 ≤ x ∧ x < 18446744073709551616 := by
  simp [Lit.wf, IntKind.min, IntKind.max, IntKind.signed, IntKind.bits] at h
  omega
theorem wf_u64_mk {x : Int} (h0 : 0 ≤ x) (h1 : x < 18446744073709551616) : (Lit.int .u64 x).wf = true := by
  simp [Lit.wf, IntKind.min, IntKind.max, IntKind.signed, IntKind.bits]
  omega
theorem bv_back {x : Int} (h : (Lit.int .u64 x).wf = true) : ((bv x).toNat : Int) = x := by
  obtain ⟨h0, h1⟩ := wf_u64 h
  unfold bv
  rw [BitVec.toNat_ofInt]
  simp
  omega
theorem or_zero {x : Int} (h : (Lit.int .u64 x).wf = true) : bits .or .u64 0 x = x := by
  rw [bits_or64, show bv 0 = 0#64 from rfl, BitVec.zero_or, bv_back h]
theorem or_wf (x y : Int) : (Lit.int .u64 (bits .or .u64 x y)).wf = true := by
  rw [bits_or64]
  have h := (bv x ||| bv y).isLt
  exact wf_u64_mk (by omega) (by omega)
theorem wf_i64 {x : Int} (h : (Lit.int .i64 x).wf = true) : -9223372036854775808 ≤ x ∧ x ≤ 9223372036854775807 := by
  simp [Lit.wf, IntKind.min, IntKind.max, IntKind.signed, IntKind.bits] at h
  omega
theorem wf_wrap (x : Int) : (Lit.int .i64 (wrap64 x)).wf = true := by
  apply WalkArith.wf_i64
  unfold wrap64
  omega
theorem takeV_wf {k c v x n : Int} (hv : (Lit.int .i64 v).wf = true) (hx : (Lit.int .i64 x).wf = true) : (Lit.int .i64 (takeV k c v x n)).wf = true := by
  unfold takeV
  split
  · exact wf_wrap _
  · split
    · exact wf_wrap _
    · split
      · exact hx
      · exact hv
end
/- Window -/
section
open Go.RowKit
def mostOf (size slide : Int) : Int := (size + slide - 1) / slide
def rightW (size slide : Int) : Prop := 1 ≤ slide ∧ slide ≤ size ∧ size ≤ 1048576 ∧ mostOf size slide ≤ 8
instance (a b : Int) : Decidable (rightW a b) := by unfold rightW; infer_instance
theorem mostOf_mul {size slide : Int} (h1 : 1 ≤ slide) (h2 : slide ≤ size) : size ≤ mostOf size slide * slide ∧ mostOf size slide * slide ≤ size + slide - 1 ∧ 1 ≤ mostOf size slide := by
  unfold mostOf
  have h := Int.mul_ediv_add_emod (size + slide - 1) slide
  have hm := Int.emod_nonneg (size + slide - 1) (show slide ≠ 0 by omega)
  have hl := Int.emod_lt_of_pos (size + slide - 1) (show 0 < slide by omega)
  rw [Int.mul_comm] at h
  refine ⟨by omega, by omega, ?_⟩
  rw [Int.le_ediv_iff_mul_le (by omega)]
  omega
/-- windows number n - 1 to 0 before a time, as they are kept -/
def winds (last time size slide : Int) : Nat → List Int
  | 0 => []
  | n + 1 => (if 0 ≤ last - n * slide ∧ time - size < last - n * slide then [last - n * slide] else []) ++ winds last time size slide n
def startsOf (time size slide : Int) : List Int :=
  if rightW size slide ∧ 0 ≤ time ∧ time ≤ 1099511627776 then winds (time - time % slide) time size slide (mostOf size slide).toNat else []
theorem winds_mem {last time size slide : Int} {n : Nat} {s : Int} (h : s ∈ winds last time size slide n) : 0 ≤ s ∧ time - size < s ∧ ∃ k : Nat, k < n ∧ s = last - k * slide := by
  induction n with
  | zero => simp [winds] at h
  | succ n ih =>
    rw [winds, List.mem_append] at h
    rcases h with h | h
    · split at h
      · rename_i hc
        simp at h
        exact ⟨by omega, by omega, n, by omega, h⟩
      · simp at h
    · obtain ⟨h1, h2, k, h3, h4⟩ := ih h
      exact ⟨h1, h2, k, by omega, h4⟩
theorem winds_len (last time size slide : Int) (n : Nat) : (winds last time size slide n).length ≤ n := by
  induction n with
  | zero => simp [winds]
  | succ n ih =>
    rw [winds, List.length_append]
    split <;> simp <;> omega
theorem most_any (size slide : Int) (w : World) (h0 : 1 ≤ slide) (h1 : slide ≤ size) (h2 : size ≤ 1048576) :
    Calls Tryz.prog 128 #[.int .i64 size, .int .i64 slide] w fun e w' => e = .returned (.int .i64 (mostOf size slide)) ∧ w' = w := by
  unfold mostOf
  go_enter Tryz.func128, Tryz.ntmps128
  go_wp2
  go_ret
  exact ⟨rfl, rfl⟩
theorem right_any (size slide : Int) (w : World) :
    Calls Tryz.prog 105 #[.int .i64 size, .int .i64 slide] w fun e w' => e = .returned (.bool (decide (rightW size slide))) ∧ w' = w := by
  by_cases h : 1 ≤ slide ∧ slide ≤ size ∧ size ≤ 1048576
  · obtain ⟨h0, h1, h2⟩ := h
    have hm := most_any size slide w h0 h1 h2
    have hd : decide (rightW size slide) = decide (mostOf size slide ≤ 8) := decide_eq_decide.2 ⟨fun h => h.2.2.2, fun h => ⟨h0, h1, h2, h⟩⟩
    rw [hd]
    generalize mostOf size slide = m at *
    go_enter Tryz.func105, Tryz.ntmps105
    go_wp2_with (go_at_call 128; refine hm.mono ?_; rintro e w ⟨rfl, rfl⟩)
    all_goals
      go_ret
      exact ⟨by simp [*], rfl⟩
  · have hd : decide (rightW size slide) = false := decide_eq_false fun hr => h ⟨hr.1, hr.2.1, hr.2.2.1⟩
    rw [hd]
    clear hd
    by_cases h0 : 1 ≤ slide
    · by_cases h1 : slide ≤ size
      · have h2 : ¬ size ≤ 1048576 := fun h2 => h ⟨h0, h1, h2⟩
        clear h
        go_enter Tryz.func105, Tryz.ntmps105
        go_wp2
        go_ret
        exact ⟨rfl, rfl⟩
      · clear h
        go_enter Tryz.func105, Tryz.ntmps105
        go_wp2
        go_ret
        exact ⟨rfl, rfl⟩
    · clear h
      go_enter Tryz.func105, Tryz.ntmps105
      go_wp2
      go_ret
      exact ⟨rfl, rfl⟩
theorem starts_none (time size slide : Int) (w : World) (h : ¬ (rightW size slide ∧ 0 ≤ time ∧ time ≤ 1099511627776)) :
    Calls Tryz.prog 130 #[.int .i64 time, .int .i64 size, .int .i64 slide] w fun e w' => e = .returned (.slice none 0 0) ∧ w' = w := by
  have hr := right_any size slide w
  by_cases h1 : rightW size slide
  · rw [decide_eq_true h1] at hr
    by_cases h2 : time < 0
    · clear h
      go_enter Tryz.func130, Tryz.ntmps130
      go_wp2_with (go_at_call 105; refine hr.mono ?_; rintro e w ⟨rfl, rfl⟩)
      go_ret
      exact ⟨rfl, rfl⟩
    · have h3 : 1099511627776 < time := by
        by_cases h3 : 1099511627776 < time
        · exact h3
        · exact absurd ⟨h1, by omega, by omega⟩ h
      clear h
      go_enter Tryz.func130, Tryz.ntmps130
      go_wp2_with (go_at_call 105; refine hr.mono ?_; rintro e w ⟨rfl, rfl⟩)
      go_ret
      exact ⟨rfl, rfl⟩
  · rw [decide_eq_false h1] at hr
    clear h h1
    go_enter Tryz.func130, Tryz.ntmps130
    go_wp2_with (go_at_call 105; refine hr.mono ?_; rintro e w ⟨rfl, rfl⟩)
    go_ret
    exact ⟨rfl, rfl⟩
theorem intInfo : ∃ i, Tryz.prog.info? 3 = some i ∧ i.zero = some (.int .i64 0) ∧ i.size = 1 ∧ i.bytes = 8 := info_parts (by kernel_rfl)
set_option maxHeartbeats 1000000 in
set_option maxRecDepth 20000 in
theorem starts_any (time size slide : Int) (w : World) :
    Calls Tryz.prog 130 #[.int .i64 time, .int .i64 size, .int .i64 slide] w fun e w' => ∃ (v : Value), e = .returned v ∧ w'.ownsRow w.heap.size 3 1 v (startsOf time size slide).length ((startsOf time size slide).flatMap (intC .i64)) ∧ Below w.heap.size w w' := by
  by_cases h : rightW size slide ∧ 0 ≤ time ∧ time ≤ 1099511627776
  · have hS : startsOf time size slide = winds (time - time % slide) time size slide (mostOf size slide).toNat := by unfold startsOf; rw [if_pos h]
    rw [hS]
    clear hS
    obtain ⟨hr, ht0, ht1⟩ := h
    have hw := right_any size slide w
    rw [decide_eq_true hr] at hw
    obtain ⟨hs0, hs1, hs2, hm8⟩ := hr
    have hmm := most_any size slide w hs0 hs1 hs2
    have hm1 := (mostOf_mul hs0 hs1).2.2
    have hmod0 := Int.emod_nonneg time (show slide ≠ 0 by omega)
    have hmod1 := Int.emod_lt_of_pos time (show 0 < slide by omega)
    have htm : time.tmod slide = time % slide := Int.tmod_eq_emod_of_nonneg ht0
    have htl : time % slide ≤ time := by
      have h1 := Int.mul_ediv_add_emod time slide
      have h2 := Int.mul_nonneg (show 0 ≤ slide by omega) (Int.ediv_nonneg ht0 (show 0 ≤ slide by omega))
      omega
    obtain ⟨i0, hi, hz0, hz1, hz2⟩ := intInfo
    generalize hlast : time - time % slide = last at *
    generalize hmo : mostOf size slide = m at *
    go_enter Tryz.func130, Tryz.ntmps130
    go_wp2_with (first | (go_at_call 105; refine hw.mono ?_; rintro e w ⟨rfl, rfl⟩) | (go_at_call 128; refine hmm.mono ?_; rintro e w ⟨rfl, rfl⟩))
    have hmN : ((m.toNat : Nat) : Int) = m := by omega
    go_loopw [7, 9] (fun v iv wr => ∃ (n : Nat) (xs : List Int), n ≤ m.toNat ∧ xs.length + n ≤ m.toNat ∧ iv = .int .i64 (n - 1) ∧ wr.ownsRow w.heap.size 3 1 v xs.length (xs.flatMap (intC .i64)) ∧ Below w.heap.size w wr ∧ xs ++ winds last time size slide n = winds last time size slide m.toNat) (fun _ iv _ => (RowKit.intOf iv + 1).toNat)
    case atStart => exact ⟨m.toNat, [], by omega, by simp, by rw [hmN], World.ownsRow_nil _ _ _ _, Below.refl _ _, rfl⟩
    case round =>
      obtain ⟨n, xs, hn, hxs, rfl, hown, hbel, heq⟩ := hrel
      have hsz := hbel.size
      match n, hn, hxs, heq with
      | 0, hn, hxs, heq =>
        simp only [winds, List.append_nil] at heq
        subst heq
        go_wp2
        go_ret
        exact ⟨_, rfl, hown, hbel⟩
      | n + 1, hn, hxs, heq =>
        rw [show (((n + 1 : Nat) : Int) - 1) = n from by omega]
        rw [winds] at heq
        have hp0 : 0 ≤ (n : Int) * slide := Int.mul_nonneg (by omega) (by omega)
        have hp1 : (n : Int) * slide ≤ 7 * 1048576 := Int.mul_le_mul (by omega) (by omega) (by omega) (by omega)
        have HO := Lib.hid hown
        have HE := Lib.hid heq
        clear hown heq
        by_cases c1 : 0 ≤ last - n * slide
        · by_cases c2 : time - size < last - n * slide
          · have HE' : Hid (xs ++ [last - n * slide] ++ winds last time size slide n = winds last time size slide m.toNat) := by
              show _ = _
              rw [← HE.out, if_pos ⟨c1, c2⟩]
              simp
            clear HE
            go_wp2_with (at_builtin; refine wpList_append_sl (intC_len _) (by decide) (intC_one _) rfl _ _ 100 rfl w.heap.size 3 i0 _ 8 Tryz.underlying100 hi hz0 hz1 hz2 rfl _ xs rfl (HO.out.alloc _) (some ⟨wr.heap.size, 0, none⟩) 1 [last - n * slide] rfl (by simp) (SlAt.one (intC_len _) (heap_new _ _)) (by simp; omega) (by simp [maxLen]; omega) (by simp; omega) ?_)
            intro v' w' h1 h2 h3
            go_wp2
            go_roundw
            case rel => exact ⟨n, xs ++ [last - n * slide], by omega, by simp; omega, by go_num, by simpa using h1, (hbel.alloc (by omega) _).grown h2 (by simp; omega) (fun k hk => (HO.out.lt k hk).1), HE'.out⟩
            case measure => simp [RowKit.intOf]
          · have HE' : Hid (xs ++ winds last time size slide n = winds last time size slide m.toNat) := by
              show _ = _
              rw [← HE.out, if_neg (fun h => c2 h.2)]
              simp
            clear HE
            go_wp2
            go_roundw
            case rel => exact ⟨n, xs, by omega, by omega, by go_num, HO.out, hbel, HE'.out⟩
            case measure => simp [RowKit.intOf]
        · have HE' : Hid (xs ++ winds last time size slide n = winds last time size slide m.toNat) := by
            show _ = _
            rw [← HE.out, if_neg (fun h => c1 h.1)]
            simp
          clear HE
          go_wp2
          go_roundw
          case rel => exact ⟨n, xs, by omega, by omega, by go_num, HO.out, hbel, HE'.out⟩
          case measure => simp [RowKit.intOf]
  · have hS : startsOf time size slide = [] := by unfold startsOf; rw [if_neg h]
    rw [hS]
    exact (starts_none time size slide w h).mono (by rintro e w' ⟨rfl, rfl⟩; exact ⟨_, rfl, World.ownsRow_nil _ _ _ _, Below.refl _ _⟩)
end
/- Ev -/
section
open Go.ChangeShapes Go.WideShapes Go.ChangeAt Go.RowKit
/-- An event's four numbers. -/
structure Ev where
  time : Int
  key : Int
  value : Int
  label : Int
deriving DecidableEq
def Ev.cells (e : Ev) : List Value := [.int .i64 e.time, .int .i64 e.key, .int .i64 e.value, .int .u64 e.label]
def Ev.zero : Ev := ⟨0, 0, 0, 0⟩
def Ev.wf (e : Ev) : Prop := (Lit.int .i64 e.time).wf = true ∧ (Lit.int .i64 e.key).wf = true ∧ (Lit.int .i64 e.value).wf = true ∧ (Lit.int .u64 e.label).wf = true
theorem Ev.len (e : Ev) : e.cells.length = 4 := rfl
theorem Ev.one (e : Ev) : ∀ u ∈ e.cells, u.oneCell' = true := by intro u hu; simp [Ev.cells] at hu; rcases hu with rfl | rfl | rfl | rfl <;> rfl
theorem evInfo : ∃ i, Tryz.prog.info? 63 = some i ∧ i.zero = some (.agg #[.int .i64 0, .int .i64 0, .int .i64 0, .int .u64 0]) ∧ i.size = 4 ∧ i.bytes = 32 := info_parts (by kernel_rfl)
def isEv (w : World) (cs : List Value) (e : Ev) : Prop := cs = e.cells ∧ e.wf
set_option maxRecDepth 20000 in
theorem Rdr_ev {H : Type} {enc : TypeId × Value → H} : Rdr enc Tryz.prog 63 isEv := by
  intro w fuel cs x h
  obtain ⟨y0, y1, y2, y3, n, hx, hl, h0, h1, h2, h3⟩ := Go.Joins.trod_struct4 Tryz.underlying63 h
  rw [show Tryz.prog.cellsOf 63 = 4 by kernel_rfl] at hl
  match cs, hl with
  | [c0, c1, c2, c3], _ =>
    rw [show Tryz.prog.cellsOf 3 = 1 by kernel_rfl] at h0 h1 h2
    rw [show Tryz.prog.cellsOf 53 = 1 by kernel_rfl] at h3
    obtain ⟨n0, e0, _, w0⟩ := DataW.trod_int Tryz.underlying3 h0
    obtain ⟨n1, e1, _, w1⟩ := DataW.trod_int Tryz.underlying3 h1
    obtain ⟨n2, e2, _, w2⟩ := DataW.trod_int Tryz.underlying3 h2
    obtain ⟨n3, e3, _, w3⟩ := DataW.trod_int Tryz.underlying53 h3
    simp at e0 e1 e2 e3
    subst e0 e1 e2 e3
    exact ⟨⟨n0, n1, n2, n3⟩, rfl, w0, w1, w2, w3⟩
/-- What is well formed, beside its cells. -/
theorem SlAt.both {w : World} {a : Option Addr} {l : List Ev} (h : SlAt 4 isEv w a l) : SlAt 4 (flat Ev.cells) w a l ∧ ∀ e ∈ l, e.wf := by
  refine ⟨h.imp fun _ _ hx => hx.1, ?_⟩
  rcases h with rfl | ⟨b, o, rfl, hlt, h⟩
  · simp
  · intro e he
    obtain ⟨i, hi, rfl⟩ := List.getElem_of_mem he
    obtain ⟨cs, _, _, h3⟩ := h i hi
    exact h3.2
/-- A slice of events: cell by cell. -/
theorem SlAt.evAt {w : World} {a : Option Addr} {l : List Ev} (h : SlAt 4 (flat Ev.cells) w a l) (k : Nat) (hk : k < l.length) :
    ∃ b o, a = some ⟨b, o, none⟩ ∧ b < w.heap.size ∧ w.cell? ⟨b, o + k * 4, none⟩ = some (.int .i64 (l[k]?.getD Ev.zero).time) ∧ w.cell? ⟨b, o + k * 4 + 1, none⟩ = some (.int .i64 (l[k]?.getD Ev.zero).key) ∧
      w.cell? ⟨b, o + k * 4 + 2, none⟩ = some (.int .i64 (l[k]?.getD Ev.zero).value) ∧ w.cell? ⟨b, o + k * 4 + 3, none⟩ = some (.int .u64 (l[k]?.getD Ev.zero).label) := by
  rcases h with rfl | ⟨b, o, rfl, hlt, h⟩
  · simp at hk
  · obtain ⟨cs, h1, h2, h3⟩ := h k hk
    rw [List.getElem?_eq_getElem hk]
    unfold flat at h3
    subst h3
    exact ⟨b, o, rfl, hlt, by simpa [Ev.cells] using h2 0 (by omega), by simpa [Ev.cells] using h2 1 (by omega), by simpa [Ev.cells] using h2 2 (by omega), by simpa [Ev.cells] using h2 3 (by omega)⟩
/-- A row's five numbers. -/
structure Rw where
  start : Int
  key : Int
  value : Int
  count : Int
  label : Int
deriving DecidableEq
def Rw.zero : Rw := ⟨0, 0, 0, 0, 0⟩
def Rw.cells (r : Rw) : List Value := [.int .i64 r.start, .int .i64 r.key, .int .i64 r.value, .int .i64 r.count, .int .u64 r.label]
theorem Rw.len (e : Rw) : e.cells.length = 5 := rfl
theorem Rw.one (e : Rw) : ∀ u ∈ e.cells, u.oneCell' = true := by intro u hu; simp [Rw.cells] at hu; rcases hu with rfl | rfl | rfl | rfl | rfl <;> rfl
theorem rwInfo : ∃ i, Tryz.prog.info? 55 = some i ∧ i.zero = some (.agg #[.int .i64 0, .int .i64 0, .int .i64 0, .int .i64 0, .int .u64 0]) ∧ i.size = 5 ∧ i.bytes = 40 := info_parts (by kernel_rfl)
theorem SlAt.rwAt {w : World} {a : Option Addr} {l : List Rw} (h : SlAt 5 (flat Rw.cells) w a l) (k : Nat) (hk : k < l.length) :
    ∃ b o, a = some ⟨b, o, none⟩ ∧ b < w.heap.size ∧ w.cell? ⟨b, o + k * 5, none⟩ = some (.int .i64 (l[k]?.getD Rw.zero).start) ∧ w.cell? ⟨b, o + k * 5 + 1, none⟩ = some (.int .i64 (l[k]?.getD Rw.zero).key) ∧
      w.cell? ⟨b, o + k * 5 + 2, none⟩ = some (.int .i64 (l[k]?.getD Rw.zero).value) ∧ w.cell? ⟨b, o + k * 5 + 3, none⟩ = some (.int .i64 (l[k]?.getD Rw.zero).count) ∧ w.cell? ⟨b, o + k * 5 + 4, none⟩ = some (.int .u64 (l[k]?.getD Rw.zero).label) := by
  rcases h with rfl | ⟨b, o, rfl, hlt, h⟩
  · simp at hk
  · obtain ⟨cs, h1, h2, h3⟩ := h k hk
    rw [List.getElem?_eq_getElem hk]
    unfold flat at h3
    subst h3
    exact ⟨b, o, rfl, hlt, by simpa [Rw.cells] using h2 0 (by omega), by simpa [Rw.cells] using h2 1 (by omega), by simpa [Rw.cells] using h2 2 (by omega), by simpa [Rw.cells] using h2 3 (by omega), by simpa [Rw.cells] using h2 4 (by omega)⟩
end
/- Pane -/
section
open Go.RowKit Go.Maps
/-- A window's count, kind, value, label. -/
structure Pn where
  c : Int
  k : Int
  v : Int
  l : Int
deriving DecidableEq
def Pn.zero : Pn := ⟨0, 0, 0, 0⟩
def Pn.wf (x : Pn) : Prop := (Lit.int .i64 x.c).wf = true ∧ (Lit.int .i64 x.k).wf = true ∧ (Lit.int .i64 x.v).wf = true ∧ (Lit.int .u64 x.l).wf = true
def encPn (x : Pn) : Value := .agg #[.int .i64 x.c, .int .i64 x.k, .int .i64 x.v, .int .u64 x.l]
def dPn (x : Pn) : DataW Unit := .agg [.lit (.int .i64 x.c), .lit (.int .i64 x.k), .lit (.int .i64 x.v), .lit (.int .u64 x.l)]
instance (x : Pn) : Decidable x.wf := by unfold Pn.wf; infer_instance
def elemPn : Value → Option (DataW Unit × List MemPlace)
  | .agg cs => match cs.toList with
    | [.int .i64 c, .int .i64 k, .int .i64 v, .int .u64 l] => if Pn.wf ⟨c, k, v, l⟩ then some (dPn ⟨c, k, v, l⟩, []) else none
    | _ => none
  | _ => none
theorem elemPn_mk (x : Pn) (h : x.wf) : elemPn (encPn x) = some (dPn x, []) := by
  obtain ⟨c, k, v, l⟩ := x
  simp [elemPn, encPn, h]
theorem elemPn_zero : elemPn (.agg #[.int .i64 0, .int .i64 0, .int .i64 0, .int .u64 0]) = some (dPn Pn.zero, []) := elemPn_mk Pn.zero (by decide)
theorem dPn_inj {x y : Pn} (h : dPn x = dPn y) : x = y := by
  obtain ⟨c, k, v, l⟩ := x
  obtain ⟨c', k', v', l'⟩ := y
  simpa [dPn] using h
theorem elemPn_inv {v : Value} {z : DataW Unit × List MemPlace} (h : elemPn v = some z) : ∃ x : Pn, v = encPn x ∧ x.wf ∧ z = (dPn x, []) := by
  unfold elemPn at h
  split at h
  · rename_i cs
    split at h
    · rename_i c k v l he
      split at h
      · rename_i hw
        cases h
        obtain ⟨cl⟩ := cs
        simp at he
        subst he
        exact ⟨⟨c, k, v, l⟩, rfl, hw, rfl⟩
      · cases h
    · cases h
  · cases h
abbrev PL := List (Pl × Pn)
instance (x y : Pl) : Decidable (ltP x y) := by unfold ltP; infer_instance
theorem ltP_irrefl (x : Pl) : ¬ ltP x x := by unfold ltP; omega
theorem ltP_trans {x y z : Pl} (h : ltP x y) (h' : ltP y z) : ltP x z := by unfold ltP at *; omega
theorem ltP_total {x y : Pl} (h : x ≠ y) (h' : ¬ ltP x y) : ltP y x := by
  obtain ⟨⟨a, b⟩, hx⟩ := x
  obtain ⟨⟨c, d⟩, hy⟩ := y
  unfold ltP at *
  simp at *
  by_cases e : a = c
  · subst e; simp at h; omega
  · omega
def SortedL (L : PL) : Prop := L.Pairwise fun a b => ltP a.1 b.1
def lookL (L : PL) (p : Pl) : Option Pn := (L.find? fun q => q.1 = p).map (·.2)
def insL : PL → Pl → Pn → PL
  | [], p, x => [(p, x)]
  | q :: L, p, x => if q.1 = p then (p, x) :: L else if ltP q.1 p then q :: insL L p x else (p, x) :: q :: L
theorem mem_insL {L : PL} (hs : SortedL L) {p : Pl} {x : Pn} (q : Pl) (y : Pn) : (q, y) ∈ insL L p x ↔ (q = p ∧ y = x) ∨ (q ≠ p ∧ (q, y) ∈ L) := by
  induction L with
  | nil => simp [insL]
  | cons r L ih =>
    obtain ⟨r1, r2⟩ := r
    have hs' := List.pairwise_cons.1 hs
    have hr := hs'.1
    have ih := ih hs'.2
    unfold insL
    split
    · rename_i he
      dsimp only at he
      subst he
      have hne : ∀ z, (r1, z) ∉ L := fun z hz => ltP_irrefl r1 (hr (r1, z) hz)
      constructor
      · intro h
        simp at h
        rcases h with h | h
        · exact .inl h
        · exact .inr ⟨fun e => hne y (e ▸ h), by simp [h]⟩
      · rintro (⟨rfl, rfl⟩ | ⟨h1, h2⟩)
        · simp
        · simp [h1] at h2; simp [h2]
    · rename_i he
      split
      · rename_i hlt
        rw [List.mem_cons, ih]
        constructor
        · rintro (h | h | h)
          · cases h; exact .inr ⟨he, by simp⟩
          · exact .inl h
          · exact .inr ⟨h.1, by simp [h.2]⟩
        · rintro (h | ⟨h1, h2⟩)
          · exact .inr (.inl h)
          · rcases List.mem_cons.1 h2 with h2 | h2
            · exact .inl h2
            · exact .inr (.inr ⟨h1, h2⟩)
      · rename_i hlt
        have hpr : ltP p r1 := ltP_total he hlt
        have hne : ∀ z, (p, z) ∉ (r1, r2) :: L := fun z hz => by
          rcases List.mem_cons.1 hz with h | h
          · cases h; exact he rfl
          · exact ltP_irrefl _ (ltP_trans hpr (hr _ h))
        constructor
        · intro h
          rcases List.mem_cons.1 h with h | h
          · cases h; exact .inl ⟨rfl, rfl⟩
          · exact .inr ⟨fun e => hne y (e ▸ h), h⟩
        · rintro (⟨rfl, rfl⟩ | ⟨h1, h2⟩)
          · simp
          · exact List.mem_cons.2 (.inr h2)
theorem insL_sorted {L : PL} (hs : SortedL L) (p : Pl) (x : Pn) : SortedL (insL L p x) := by
  induction L with
  | nil => simp [insL, SortedL]
  | cons r L ih =>
    obtain ⟨r1, r2⟩ := r
    have hs' := List.pairwise_cons.1 hs
    unfold insL
    split
    · rename_i he
      dsimp only at he
      subst he
      exact List.pairwise_cons.2 ⟨hs'.1, hs'.2⟩
    · rename_i he
      split
      · rename_i hlt
        refine List.pairwise_cons.2 ⟨fun q hq => ?_, ih hs'.2⟩
        obtain ⟨q1, q2⟩ := q
        rcases (mem_insL hs'.2 q1 q2).1 hq with ⟨rfl, rfl⟩ | ⟨_, h⟩
        · exact hlt
        · exact hs'.1 _ h
      · rename_i hlt
        have hpr : ltP p r1 := ltP_total he hlt
        refine List.pairwise_cons.2 ⟨fun q hq => ?_, hs⟩
        rcases List.mem_cons.1 hq with h | h
        · subst h; exact hpr
        · exact ltP_trans hpr (hs'.1 _ h)
theorem lookL_some {L : PL} (hs : SortedL L) {p : Pl} {x : Pn} : lookL L p = some x ↔ (p, x) ∈ L := by
  induction L with
  | nil => simp [lookL]
  | cons r L ih =>
    obtain ⟨r1, r2⟩ := r
    have hs' := List.pairwise_cons.1 hs
    have ih := ih hs'.2
    unfold lookL at *
    rw [List.find?_cons]
    by_cases he : r1 = p
    · subst he
      have hne : (r1, x) ∉ L := fun hz => ltP_irrefl r1 (hs'.1 (r1, x) hz)
      simp [hne, eq_comm]
    · simp only [he, decide_false]
      rw [ih]
      simp [Ne.symm he]
theorem lookL_none {L : PL} (hs : SortedL L) {p : Pl} : lookL L p = none ↔ ∀ x, (p, x) ∉ L := by
  constructor
  · intro h x hx
    rw [(lookL_some hs).2 hx] at h
    cases h
  · intro h
    cases hl : lookL L p with
    | none => rfl
    | some x => exact absurd ((lookL_some hs).1 hl) (h x)
theorem insL_length {L : PL} (hs : SortedL L) (p : Pl) (x : Pn) : (insL L p x).length = if (lookL L p).isSome then L.length else L.length + 1 := by
  induction L with
  | nil => simp [insL, lookL]
  | cons r L ih =>
    obtain ⟨r1, r2⟩ := r
    have hs' := List.pairwise_cons.1 hs
    have ih := ih hs'.2
    unfold insL
    split
    · rename_i he
      dsimp only at he
      subst he
      rw [(lookL_some hs (p := r1) (x := r2)).2 (by simp)]
      simp
    · rename_i he
      split
      · have e : lookL ((r1, r2) :: L) p = lookL L p := by
          unfold lookL
          rw [List.find?_cons]
          simp [he]
        rw [e]
        simp only [List.length_cons, ih]
        split <;> rfl
      · rename_i hlt
        have hpr : ltP p r1 := ltP_total he hlt
        rw [(lookL_none hs (p := p)).2 (fun z hz => ?_)]
        · simp
        · rcases List.mem_cons.1 hz with h | h
          · cases h; exact he rfl
          · exact ltP_irrefl _ (ltP_trans hpr (hs'.1 _ h))
/-- The map holds just what the list holds. -/
def MapOf (D : DataW Unit) (L : PL) : Prop := SortedL L ∧ (∀ p, Maps.has D (litP p) = true ↔ ∃ x, (p, x) ∈ L) ∧ (∀ p x, (p, x) ∈ L → ∀ z, D.atKey (litP p) z = dPn x) ∧ Maps.size D = L.length
theorem litP_key (p : Pl) : WideAt.IsKeyLit (litP p) := trivial
theorem litP_ne {p q : Pl} (h : p ≠ q) : litP p ≠ litP q := fun e => h (litP_inj e)
theorem MapOf.empty : MapOf (.map []) [] := ⟨List.Pairwise.nil, fun p => by simp [Maps.has], fun p x h => by simp at h, rfl⟩
theorem MapOf.has_look {D : DataW Unit} {L : PL} (h : MapOf D L) (p : Pl) : Maps.has D (litP p) = (lookL L p).isSome := by
  cases hl : lookL L p with
  | none =>
    have := (lookL_none h.1).1 hl
    cases hh : Maps.has D (litP p) with
    | false => rfl
    | true => obtain ⟨x, hx⟩ := (h.2.1 p).1 hh; exact absurd hx (this x)
  | some x => rw [(h.2.1 p).2 ⟨x, (lookL_some h.1).1 hl⟩]; rfl
theorem MapOf.at_look {D : DataW Unit} {L : PL} (h : MapOf D L) (p : Pl) (z : Pn) : D.atKey (litP p) (dPn z) = dPn ((lookL L p).getD z) := by
  cases hl : lookL L p with
  | none =>
    have e := h.has_look p
    rw [hl] at e
    exact atKey_of_not_has e _
  | some x => exact h.2.2.1 p x ((lookL_some h.1).1 hl) _
theorem MapOf.put {D : DataW Unit} {L : PL} (h : MapOf D L) (hT : Tidy D) (p : Pl) (x : Pn) : MapOf (D.put (litP p) (dPn x)) (insL L p x) := by
  refine ⟨insL_sorted h.1 p x, fun q => ?_, fun q y hq z => ?_, ?_⟩
  · by_cases he : q = p
    · subst he
      rw [has_put_same hT.isMap (litP_key _)]
      simp [mem_insL h.1]
    · rw [has_put_other (litP_ne he), h.2.1 q]
      simp [mem_insL h.1, he]
  · rcases (mem_insL h.1 q y).1 hq with ⟨rfl, rfl⟩ | ⟨he, hm⟩
    · exact atKey_put_same hT.isMap (litP_key _) _ _
    · rw [atKey_put_other (litP_ne he)]
      exact h.2.2.1 q y hm z
  · rw [size_put hT, h.has_look p, insL_length h.1, h.2.2.2]
def delL (L : PL) (p : Pl) : PL := L.filter fun q => q.1 ≠ p
theorem delL_length {L : PL} (hs : SortedL L) (p : Pl) : (delL L p).length + (if (lookL L p).isSome then 1 else 0) = L.length := by
  induction L with
  | nil => simp [delL, lookL]
  | cons r L ih =>
    obtain ⟨r1, r2⟩ := r
    have hs' := List.pairwise_cons.1 hs
    have ih := ih hs'.2
    unfold delL at *
    rw [List.filter_cons]
    by_cases he : r1 = p
    · subst he
      rw [(lookL_some hs (p := r1) (x := r2)).2 (by simp)]
      have hn : lookL L r1 = none := (lookL_none hs'.2).2 fun z hz => ltP_irrefl r1 (hs'.1 (r1, z) hz)
      rw [hn] at ih
      rw [if_neg (by simp)]
      simp only [Option.isSome_none, Bool.false_eq_true, if_false, Nat.add_zero] at ih
      rw [ih]
      rfl
    · have e : lookL ((r1, r2) :: L) p = lookL L p := by
        unfold lookL
        rw [List.find?_cons]
        simp [he]
      rw [e]
      simp [he]
      simp at ih
      omega
theorem MapOf.del {D : DataW Unit} {L : PL} (h : MapOf D L) (hT : Tidy D) (p : Pl) : MapOf (D.del (litP p)) (delL L p) := by
  refine ⟨List.Pairwise.filter _ h.1, fun q => ?_, fun q y hq z => ?_, ?_⟩
  · by_cases he : q = p
    · subst he
      rw [has_del_same]
      simp [delL]
    · rw [has_del_other (litP_ne he), h.2.1 q]
      simp [delL, he]
  · simp [delL] at hq
    rw [atKey_del_other (litP_ne hq.2)]
    exact h.2.2.1 q y hq.1 z
  · have e1 := size_del hT (k := litP p)
    have e2 := delL_length h.1 p
    rw [h.has_look p, h.2.2.2] at e1
    omega
theorem sorted_ext : ∀ {l m : List Pl}, l.Pairwise ltP → m.Pairwise ltP → (∀ x, x ∈ l ↔ x ∈ m) → l = m
  | [], [], _, _, _ => rfl
  | [], y :: m, _, _, h => by simpa using (h y).2 (by simp)
  | x :: l, [], _, _, h => by simpa using (h x).1 (by simp)
  | x :: l, y :: m, hl, hm, h => by
    have hl' := List.pairwise_cons.1 hl
    have hm' := List.pairwise_cons.1 hm
    have e : x = y := by
      rcases List.mem_cons.1 ((h x).1 (by simp)) with e | hx
      · exact e
      · rcases List.mem_cons.1 ((h y).2 (by simp)) with e | hy
        · exact e.symm
        · exact absurd (ltP_trans (hl'.1 _ hy) (hm'.1 _ hx)) (ltP_irrefl _)
    subst e
    congr 1
    refine sorted_ext hl'.2 hm'.2 fun z => ?_
    constructor
    · intro hz
      rcases List.mem_cons.1 ((h z).1 (by simp [hz])) with e | hz'
      · subst e; exact absurd (hl'.1 _ hz) (ltP_irrefl _)
      · exact hz'
    · intro hz
      rcases List.mem_cons.1 ((h z).2 (by simp [hz])) with e | hz'
      · subst e; exact absurd (hm'.1 _ hz) (ltP_irrefl _)
      · exact hz'
theorem MapOf.places {D : DataW Unit} {L : PL} (h : MapOf D L) {ss : List Pl} (hp : PlacesOf D ss) (hs : ss.Pairwise ltP) : ss = L.map (·.1) := by
  refine sorted_ext hs ?_ fun x => ?_
  · exact List.pairwise_map.2 h.1
  · rw [hp.2 x, h.2.1 x]
    simp
theorem MapOf.places_len {D : DataW Unit} {L : PL} (h : MapOf D L) {ss : List Pl} (hp : PlacesOf D ss) : ss.length = L.length := by
  have hn : (L.map (·.1)).Nodup := by
    have : (L.map (·.1)).Pairwise ltP := List.pairwise_map.2 h.1
    refine List.Pairwise.imp (fun {a b} hab e => ?_) this
    subst e
    exact ltP_irrefl _ hab
  have : ss.Perm (L.map (·.1)) := (List.perm_ext_iff_of_nodup hp.1 hn).2 fun x => by rw [hp.2 x, h.2.1 x]; simp
  simpa using this.length_eq
end
/- Same -/
section
open Go.RowKit
theorem SameRw_yes (l : List Rw) (a b : Option Addr) (ca cb : Nat) (w : World) (ha : SlAt 5 (flat Rw.cells) w a l) (hb : SlAt 5 (flat Rw.cells) w b l) (hlen : l.length ≤ 1099511627776) (hca : l.length ≤ ca) (hcb : l.length ≤ cb) :
    Calls Tryz.prog 22 #[.slice a l.length ca, .slice b l.length cb] w fun e w' => e = .returned (.bool true) ∧ ∃ n, w' = w.drewN n := by
  have HA := Lib.hid ha
  have HB := Lib.hid hb
  clear ha hb
  go_enter Tryz.func22, Tryz.ntmps22
  go_wp2
  go_loopw [5] (fun i wr => ∃ (k n : Nat), k ≤ l.length ∧ i = .int .i64 k ∧ wr = w.drewN n) (fun i _ => l.length - (RowKit.intOf i).toNat)
  case atStart => exact ⟨0, 0, by omega, rfl, rfl⟩
  case round =>
    obtain ⟨k, n, hk, rfl, rfl⟩ := hrel
    by_cases hlt : k < l.length
    · obtain ⟨b1, o1, rfl, h1, x0, x1, x2, x3, x4⟩ := HA.out.rwAt k hlt
      obtain ⟨b2, o2, rfl, h2, y0, y1, y2, y3, y4⟩ := HB.out.rwAt k hlt
      generalize l[k]?.getD Rw.zero = x at *
      go_wp2_with fail
      have hk1 : (k : Int) < l.length := by omega
      have hk2 : (k : Int) < ca := by omega
      go_quiet (fail)
      go_wp2
      go_roundw
      case rel => exact ⟨k + 1, _, by omega, by go_num, rfl⟩
      case measure => simp [RowKit.intOf]; omega
    · go_wp2
      go_ret
      exact ⟨rfl, n, rfl⟩
theorem SameRw_ok (l : List Rw) (a b : Option Addr) (ca cb : Nat) (w : World) (ha : SlAt 5 (flat Rw.cells) w a l) (hb : SlAt 5 (flat Rw.cells) w b l) (hlen : l.length ≤ 1099511627776) (hca : l.length ≤ ca) (hcb : l.length ≤ cb) :
    Calls Tryz.prog 22 #[.slice a l.length ca, .slice b l.length cb] w fun e w' => e = .returned (.bool true) ∧ Below w.heap.size w w' :=
  (SameRw_yes l a b ca cb w ha hb hlen hca hcb).mono (by rintro e w' ⟨rfl, n, rfl⟩; exact ⟨rfl, rfl, rfl, rfl, Nat.le_refl _, fun _ _ => rfl⟩)
end
/- Within -/
section
open Go.RowKit
/-- a number brought into lo .. hi -/
def within (n lo hi : Int) : Int := lo + n % (hi - lo + 1)
theorem within_range (n lo hi : Int) (h : lo ≤ hi) : lo ≤ within n lo hi ∧ within n lo hi ≤ hi := by
  unfold within
  have h1 := Int.emod_nonneg n (show hi - lo + 1 ≠ 0 by omega)
  have h2 := Int.emod_lt_of_pos n (show 0 < hi - lo + 1 by omega)
  omega
theorem Within_any (n lo hi : Int) (w : World) (hn0 : -9223372036854775808 ≤ n) (hn1 : n ≤ 9223372036854775807) (h : lo ≤ hi) (hlo : -1000000000000000 ≤ lo) (hhi : hi ≤ 1000000000000000) :
    Calls Tryz.prog 11 #[.int .i64 n, .int .i64 lo, .int .i64 hi] w fun e w' => e = .returned (.int .i64 (within n lo hi)) ∧ w' = w := by
  have h1 := Int.emod_nonneg n (show hi - lo + 1 ≠ 0 by omega)
  have h2 := Int.emod_lt_of_pos n (show 0 < hi - lo + 1 by omega)
  have hd : (hi - lo + 1 == 0) = false := by simp; omega
  by_cases h0 : 0 ≤ n
  · go_enter Tryz.func11, Tryz.ntmps11
    go_wp2
    go_ret
    exact ⟨rfl, rfl⟩
  · have hm : 0 < hi - lo + 1 := by omega
    have ht := Int.tmod_eq_emod (a := n) (b := hi - lo + 1)
    have hna : ((hi - lo + 1).natAbs : Int) = hi - lo + 1 := by omega
    have hf : (n.tmod (hi - lo + 1) = 0 ∧ n % (hi - lo + 1) = 0) ∨ (n.tmod (hi - lo + 1) < 0 ∧ -(hi - lo + 1) < n.tmod (hi - lo + 1) ∧ n % (hi - lo + 1) = n.tmod (hi - lo + 1) + (hi - lo + 1)) := by
      by_cases hdv : (hi - lo + 1) ∣ n
      · have := Int.emod_eq_zero_of_dvd hdv
        rw [if_pos (.inr hdv)] at ht
        left
        omega
      · rw [if_neg (by rintro (h | h); omega; exact hdv h)] at ht
        have hne : n % (hi - lo + 1) ≠ 0 := fun h => hdv (Int.dvd_of_emod_eq_zero h)
        right
        omega
    have hw : within n lo hi = lo + n % (hi - lo + 1) := rfl
    rw [hw]
    clear hw ht hna
    rcases hf with ⟨h3, h4⟩ | ⟨h3, h4, h5⟩
    · rw [h4]
      go_enter Tryz.func11, Tryz.ntmps11
      go_wp2
      all_goals
        go_ret
        exact ⟨by first | rfl | (congr 2; omega), rfl⟩
    · rw [h5]
      clear h1 h2 h5
      have h6 : lo + n.tmod (hi - lo + 1) + (hi - lo + 1) = lo + (n.tmod (hi - lo + 1) + hi - lo + 1) := by omega
      rw [show lo + (n.tmod (hi - lo + 1) + (hi - lo + 1)) = lo + (n.tmod (hi - lo + 1) + hi - lo + 1) from by omega]
      clear h6
      go_enter Tryz.func11, Tryz.ntmps11
      go_wp2
      all_goals
        go_ret
        exact ⟨by first | rfl | (congr 2; omega), rfl⟩
end
end Go.Proofs.YtdncpihaeobaeaaGreat
