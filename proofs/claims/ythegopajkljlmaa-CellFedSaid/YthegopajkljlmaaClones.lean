/- slices.Clone at inputs, at rows: copies of their own. -/
import Derived.Test.YthegopajkljlmaaKeep
import Derived.Test.YthegopajkljlmaaSee
set_option linter.unusedVariables false
namespace Go.Proofs.Ythegopajkljlmaa
open Go.RowKit
/-- slices.Clone at api.Input: a copy of its own. -/
theorem cloneInp_st {w0 w : World} {L : List HP} (h : St w0 w L) (a : Option Addr) (cap : Nat) (l : List Inp) (hl : SlAt 5 (flat Inp.cells) w a l) (hn : a = none → cap = 0) (hlen : l.length ≤ 1099511627776) :
    Calls Try.prog 46 #[.slice a l.length cap] w fun e w' => ∃ v, e = .returned v ∧ St w0 w' (L ++ [ownP 33 5 Inp.cells v l]) := by
  have HS := Lib.hid h
  have HL := Lib.hid hl
  have HN := Lib.hid hlen
  clear h hl hlen
  have q : ∀ (w : World) (a : Option Addr) (n c n' c' : Nat), (binOp .eql 48 (.slice a n c) (.slice none n' c')).run Try.prog w = .ok (.bool a.isNone) w := fun w a n c n' c' => Lib.run_eql_slice_nil w _ _ a n c n' c' Try.underlying48
  cases a with
  | none =>
    have hll : l = [] := by rcases HL.out with h | ⟨b, o, he, _⟩; exact h; cases he
    subst hll
    obtain rfl := hn rfl
    clear hn HN
    go_enter Try.func46, Try.ntmps46
    go_wp2
    go_ret
    exact ⟨_, rfl, HS.out.nil _ _ _⟩
  | some a =>
    go_enter Try.func46, Try.ntmps46
    go_wp2_with (at_builtin; refine wpList_copy_st inpElem rfl (HS.out.alloc (.cells #[] 33)) L.length (by simp) _ _ rfl rfl (some a) cap l rfl (by simp) (HL.out.below ((Below.refl _ w).alloc (Nat.le_refl _) _) (fun _ _ h => h)) HN.out ?_; intro b c w1 h1)
    go_ret
    refine ⟨_, rfl, ?_⟩
    simpa using h1
/-- slices.Clone at api.Row: a copy of its own. -/
theorem cloneRw_st {w0 w : World} {L : List HP} (h : St w0 w L) (a : Option Addr) (cap : Nat) (l : List Rw) (hl : SlAt 5 (flat Rw.cells) w a l) (hn : a = none → cap = 0) (hlen : l.length ≤ 1099511627776) :
    Calls Try.prog 44 #[.slice a l.length cap] w fun e w' => ∃ v, e = .returned v ∧ St w0 w' (L ++ [ownP 43 5 Rw.cells v l]) := by
  have HS := Lib.hid h
  have HL := Lib.hid hl
  have HN := Lib.hid hlen
  clear h hl hlen
  have q : ∀ (w : World) (a : Option Addr) (n c n' c' : Nat), (binOp .eql 38 (.slice a n c) (.slice none n' c')).run Try.prog w = .ok (.bool a.isNone) w := fun w a n c n' c' => Lib.run_eql_slice_nil w _ _ a n c n' c' Try.underlying38
  cases a with
  | none =>
    have hll : l = [] := by rcases HL.out with h | ⟨b, o, he, _⟩; exact h; cases he
    subst hll
    obtain rfl := hn rfl
    clear hn HN
    go_enter Try.func44, Try.ntmps44
    go_wp2
    go_ret
    exact ⟨_, rfl, HS.out.nil _ _ _⟩
  | some a =>
    go_enter Try.func44, Try.ntmps44
    go_wp2_with (at_builtin; refine wpList_copy_st rwElem rfl (HS.out.alloc (.cells #[] 43)) L.length (by simp) _ _ rfl rfl (some a) cap l rfl (by simp) (HL.out.below ((Below.refl _ w).alloc (Nat.le_refl _) _) (fun _ _ h => h)) HN.out ?_; intro b c w1 h1)
    go_ret
    refine ⟨_, rfl, ?_⟩
    simpa using h1
end Go.Proofs.Ythegopajkljlmaa
