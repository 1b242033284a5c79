/- Appends at guarded operations. -/
import Derived.Test.YtapmfekeooeinaaOwn
set_option linter.unusedVariables false
namespace Go.Proofs.Ytapmfekeooeinaa
open Go.RowKit
theorem wpList_want {P : Program} {ops : Array Oper} {Q : Exit → Act → World → Prop} {a : Act} {w : World} {rest : List Oper} {o : Oper} (hw : Region.wanted o (yielded ops a.tmps) = true)
    (h : ∀ K : Act → World → Prop, (∀ a w, wpList P ops Q rest a w → K a w) → o.wp P a w K Q) : wpList P ops Q (o :: rest) a w :=
  wpList_step fun K hK => by rw [if_pos hw]; exact h K hK
theorem wpList_append_sl_g {P : Program} {α : Type} {enc : α → List Value} {c : Nat} (hc : ∀ x, (enc x).length = c) (c0 : 0 < c) (hone : ∀ x, ∀ u ∈ enc x, u.oneCell' = true) {w : World} {ops : Array Oper} {rest : List Oper} {o : Oper} {a : Act} {Q : Exit → Act → World → Prop} (hw : Region.wanted o (yielded ops a.tmps) = true) (s x : Operand) (t : TypeId)
    (ho : o.op = .call { callee := .builtin .append, args := #[s, x], argTypes := #[t, t] })
    (base : Nat) (e : TypeId) (i : TypeInfo) (z : Value) (bytes : Nat) (ht : P.underlying t = some (.slice e)) (hi : P.info? e = some i) (hz : i.zero = some z)
    (hsize : i.size = c) (hby : i.bytes = bytes) (hzs : z.cells.size = c)
    (v : Value) (l0 : List α) (hs : a.eval s = v) (hown : w.ownsRow base e c v l0.length (l0.flatMap enc))
    (ad : Option Addr) (cap : Nat) (l : List α) (hx : a.eval x = .slice ad l.length cap) (hnil : ad = none → cap = 0) (hsl : SlAt c (flat enc) w ad l)
    (hbytes : (l0.length + l.length) * bytes ≤ 140737488355328) (h63 : l0.length + l.length ≤ maxLen) (hbase : base ≤ w.heap.size)
    (h : ∀ v' w', w'.ownsRow base e c v' (l0 ++ l).length ((l0 ++ l).flatMap enc) → w.grownBy w' v.ownBlock → (v ≠ .slice none 0 0 → v' ≠ .slice none 0 0) → wpList P ops Q rest (a.put o.dst v') w') : wpList P ops Q (o :: rest) a w :=
  wpList_want hw fun K hK => wp_append_sl hc c0 hone s x t ho base e i z bytes ht hi hz hsize hby hzs v l0 hs hown ad cap l hx hnil hsl hbytes h63 hbase fun v' w' h1 h2 h3 => hK _ _ (h v' w' h1 h2 h3)
theorem wpList_copy_sl_g {P : Program} {α : Type} {enc : α → List Value} {c : Nat} (hc : ∀ x, (enc x).length = c) (c0 : 0 < c) (hone : ∀ x, ∀ u ∈ enc x, u.oneCell' = true) {w : World} {ops : Array Oper} {rest : List Oper} {o : Oper} {a : Act} {Q : Exit → Act → World → Prop} (hw : Region.wanted o (yielded ops a.tmps) = true) (s x : Operand) (t : TypeId)
    (ho : o.op = .call { callee := .builtin .append, args := #[s, x], argTypes := #[t, t] })
    (base : Nat) (e : TypeId) (i : TypeInfo) (z : Value) (bytes : Nat) (ht : P.underlying t = some (.slice e)) (hi : P.info? e = some i) (hz : i.zero = some z)
    (hsize : i.size = c) (hby : i.bytes = bytes) (hzs : z.cells.size = c)
    (g : Nat) (hs : a.eval s = .slice (some ⟨g, 0, none⟩) 0 0) (hg : w.heap[g]? = some (.cells #[] e (0, 0))) (hbg : base ≤ g)
    (ad : Option Addr) (cap : Nat) (l : List α) (hx : a.eval x = .slice ad l.length cap) (hnil : ad = none → cap = 0) (hsl : SlAt c (flat enc) w ad l)
    (hbytes : l.length * bytes ≤ 140737488355328) (h63 : l.length ≤ maxLen)
    (h : ∀ b cap' w', w'.ownsRow base e c (.slice (some ⟨b, 0, none⟩) l.length cap') l.length (l.flatMap enc) → Below g w w' → w.heap.size ≤ w'.heap.size → wpList P ops Q rest (a.put o.dst (.slice (some ⟨b, 0, none⟩) l.length cap')) w') : wpList P ops Q (o :: rest) a w :=
  wpList_want hw fun K hK => wp_copy_sl hc c0 hone s x t ho base e i z bytes ht hi hz hsize hby hzs g hs hg hbg ad cap l hx hnil hsl hbytes h63 fun b cap' w' h1 h2 h3 => hK _ _ (h b cap' w' h1 h2 h3)
end Go.Proofs.Ytapmfekeooeinaa
