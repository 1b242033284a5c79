/-
  No cell of these rows narrows 'for every input' (looked for: loops, veiled, ifaces, maps, wideKeys, modest, calm, conditions, laid).
  DERIVED. THE GIVEN ROWS OF THIS SEAT. 11 by the template 'for every input the law returns true; each argument reads behind the call as it read before'; 0 by the template 'total and deterministic' (their statements: YtgbbahgllpdjmaaTotals.lean).
  GIVEN WITH THE SEED: the statements are not yours to turn. If you find one false, say at which input.
  Laid BY PROGRAM, IN A SANDBOX (cutbox-rows.mjs): the forced cells as the released guide's own fill.sh prints them over the translation 6f3ea63005207e76… (all of the seat's roots in one cut). By AI agents, Wed Nov 11 2026. No macro, syntax, notation, axiom, sorry.
-/
import Derived.Test.YtgbbahgllpdjmaaChecked
import GoSem.Claim
import GoSem.ClaimJoined
import GoSem.ClaimMapViews
import Derived.JoinedTies
import Derived.KernelRfl
namespace Go.Proofs.Ytgbbahgllpdjmaa
/- THE CELL 'sum', in the pinned program and in every row, IS THE sha256 OF THE DUMP (.gsa) THAT YtgbbahgllpdjmaaProg.lean LOADS. Nothing in Lean hashes anything: it is a label: what it is worth is what the hold of that sum in a sandbox is worth. -/
noncomputable def Try.pinned : Pinned := { name := "ytgbbahgllpdjmaa", sum := "6f3ea63005207e76a7d02a8d2a716fd502eae5f2e1f3335e169d7677c2d1244f", checked := Try.checked }
namespace Rows
def none {H : Type} : Left H := { results := [], args := [] }

/-- 'cordonlaw14.QuotaRuns': WHATEVER THE INPUT: true; the input reads as it did. -/
def quotaRunsSpec : ChangeSpec := { name := "quotaRuns", fn := fun _ => fun
  | [] => { results := [.lit (.bool true)], args := [] }
  | _ => none }
def quotaRunsRow : OpenClaim := { program := "ytgbbahgllpdjmaa", sum := "6f3ea63005207e76a7d02a8d2a716fd502eae5f2e1f3335e169d7677c2d1244f", func := "cordon/cordonlaw14.QuotaRuns", spec := "quotaRuns", apart := false }
def QuotaRunsSaid : Prop := quotaRunsRow.holds Try.pinned (OpenSpec.ofChange quotaRunsSpec)

/-- ITS FALSE NEIGHBOUR: 'it returns false'. Refute it at one input. -/
def quotaRunsWrong : ChangeSpec := { name := "quotaRuns", fn := fun _ => fun
  | [] => { results := [.lit (.bool false)], args := [] }
  | _ => none }
def QuotaRunsWrongFalsely : Prop := quotaRunsRow.holds Try.pinned (OpenSpec.ofChange quotaRunsWrong)

/-- 'cordonlaw14.QuotaPlays': WHATEVER THE INPUT: true; the input reads as it did. -/
def quotaPlaysSpec : ChangeSpec := { name := "quotaPlays", fn := fun _ => fun
  | [d1, d2, d3] => { results := [.lit (.bool true)], args := [d1, d2, d3] }
  | _ => none }
def quotaPlaysRow : OpenClaim := { program := "ytgbbahgllpdjmaa", sum := "6f3ea63005207e76a7d02a8d2a716fd502eae5f2e1f3335e169d7677c2d1244f", func := "cordon/cordonlaw14.QuotaPlays", spec := "quotaPlays", apart := false }
def QuotaPlaysSaid : Prop := quotaPlaysRow.holds Try.pinned (OpenSpec.ofChange quotaPlaysSpec)

/-- ITS FALSE NEIGHBOUR: 'it returns false'. Refute it at one input. -/
def quotaPlaysWrong : ChangeSpec := { name := "quotaPlays", fn := fun _ => fun
  | [d1, d2, d3] => { results := [.lit (.bool false)], args := [d1, d2, d3] }
  | _ => none }
def QuotaPlaysWrongFalsely : Prop := quotaPlaysRow.holds Try.pinned (OpenSpec.ofChange quotaPlaysWrong)

/-- 'cordonlaw13.SlotRuns': WHATEVER THE INPUT: true; the input reads as it did. -/
def slotRunsSpec : ChangeSpec := { name := "slotRuns", fn := fun _ => fun
  | [] => { results := [.lit (.bool true)], args := [] }
  | _ => none }
def slotRunsRow : OpenClaim := { program := "ytgbbahgllpdjmaa", sum := "6f3ea63005207e76a7d02a8d2a716fd502eae5f2e1f3335e169d7677c2d1244f", func := "cordon/cordonlaw13.SlotRuns", spec := "slotRuns", apart := false }
def SlotRunsSaid : Prop := slotRunsRow.holds Try.pinned (OpenSpec.ofChange slotRunsSpec)

/-- ITS FALSE NEIGHBOUR: 'it returns false'. Refute it at one input. -/
def slotRunsWrong : ChangeSpec := { name := "slotRuns", fn := fun _ => fun
  | [] => { results := [.lit (.bool false)], args := [] }
  | _ => none }
def SlotRunsWrongFalsely : Prop := slotRunsRow.holds Try.pinned (OpenSpec.ofChange slotRunsWrong)

/-- 'cordonlaw13.SlotTells': WHATEVER THE INPUT: true; the input reads as it did. -/
def slotTellsSpec : ChangeSpec := { name := "slotTells", fn := fun _ => fun
  | [d1, d2, d3] => { results := [.lit (.bool true)], args := [d1, d2, d3] }
  | _ => none }
def slotTellsRow : OpenClaim := { program := "ytgbbahgllpdjmaa", sum := "6f3ea63005207e76a7d02a8d2a716fd502eae5f2e1f3335e169d7677c2d1244f", func := "cordon/cordonlaw13.SlotTells", spec := "slotTells", apart := false }
def SlotTellsSaid : Prop := slotTellsRow.holds Try.pinned (OpenSpec.ofChange slotTellsSpec)

/-- ITS FALSE NEIGHBOUR: 'it returns false'. Refute it at one input. -/
def slotTellsWrong : ChangeSpec := { name := "slotTells", fn := fun _ => fun
  | [d1, d2, d3] => { results := [.lit (.bool false)], args := [d1, d2, d3] }
  | _ => none }
def SlotTellsWrongFalsely : Prop := slotTellsRow.holds Try.pinned (OpenSpec.ofChange slotTellsWrong)

/-- 'cordonlaw13.SlotTicks': WHATEVER THE INPUT: true; the input reads as it did. -/
def slotTicksSpec : ChangeSpec := { name := "slotTicks", fn := fun _ => fun
  | [d1, d2, d3, d4, d5] => { results := [.lit (.bool true)], args := [d1, d2, d3, d4, d5] }
  | _ => none }
def slotTicksRow : OpenClaim := { program := "ytgbbahgllpdjmaa", sum := "6f3ea63005207e76a7d02a8d2a716fd502eae5f2e1f3335e169d7677c2d1244f", func := "cordon/cordonlaw13.SlotTicks", spec := "slotTicks", apart := false }
def SlotTicksSaid : Prop := slotTicksRow.holds Try.pinned (OpenSpec.ofChange slotTicksSpec)

/-- ITS FALSE NEIGHBOUR: 'it returns false'. Refute it at one input. -/
def slotTicksWrong : ChangeSpec := { name := "slotTicks", fn := fun _ => fun
  | [d1, d2, d3, d4, d5] => { results := [.lit (.bool false)], args := [d1, d2, d3, d4, d5] }
  | _ => none }
def SlotTicksWrongFalsely : Prop := slotTicksRow.holds Try.pinned (OpenSpec.ofChange slotTicksWrong)

/-- 'cordonlaw13.SlotRound': WHATEVER THE INPUT: true; the input reads as it did. -/
def slotRoundSpec : ChangeSpec := { name := "slotRound", fn := fun _ => fun
  | [d1, d2, d3, d4, d5] => { results := [.lit (.bool true)], args := [d1, d2, d3, d4, d5] }
  | _ => none }
def slotRoundRow : OpenClaim := { program := "ytgbbahgllpdjmaa", sum := "6f3ea63005207e76a7d02a8d2a716fd502eae5f2e1f3335e169d7677c2d1244f", func := "cordon/cordonlaw13.SlotRound", spec := "slotRound", unfollowed := true, recurses := true, apart := false }
def SlotRoundSaid : Prop := slotRoundRow.holds Try.pinned (OpenSpec.ofChange slotRoundSpec)

/-- ITS FALSE NEIGHBOUR: 'it returns false'. Refute it at one input. -/
def slotRoundWrong : ChangeSpec := { name := "slotRound", fn := fun _ => fun
  | [d1, d2, d3, d4, d5] => { results := [.lit (.bool false)], args := [d1, d2, d3, d4, d5] }
  | _ => none }
def SlotRoundWrongFalsely : Prop := slotRoundRow.holds Try.pinned (OpenSpec.ofChange slotRoundWrong)

/-- 'cordonlaw13.SlotSums': WHATEVER THE INPUT: true; the input reads as it did. -/
def slotSumsSpec : ChangeSpec := { name := "slotSums", fn := fun _ => fun
  | [d1, d2, d3, d4] => { results := [.lit (.bool true)], args := [d1, d2, d3, d4] }
  | _ => none }
def slotSumsRow : OpenClaim := { program := "ytgbbahgllpdjmaa", sum := "6f3ea63005207e76a7d02a8d2a716fd502eae5f2e1f3335e169d7677c2d1244f", func := "cordon/cordonlaw13.SlotSums", spec := "slotSums", apart := false }
def SlotSumsSaid : Prop := slotSumsRow.holds Try.pinned (OpenSpec.ofChange slotSumsSpec)

/-- ITS FALSE NEIGHBOUR: 'it returns false'. Refute it at one input. -/
def slotSumsWrong : ChangeSpec := { name := "slotSums", fn := fun _ => fun
  | [d1, d2, d3, d4] => { results := [.lit (.bool false)], args := [d1, d2, d3, d4] }
  | _ => none }
def SlotSumsWrongFalsely : Prop := slotSumsRow.holds Try.pinned (OpenSpec.ofChange slotSumsWrong)

/-- 'cordonlaw2.EventRuns': WHATEVER THE INPUT: true; the input reads as it did. -/
def eventRunsSpec : ChangeSpec := { name := "eventRuns", fn := fun _ => fun
  | [] => { results := [.lit (.bool true)], args := [] }
  | _ => none }
def eventRunsRow : OpenClaim := { program := "ytgbbahgllpdjmaa", sum := "6f3ea63005207e76a7d02a8d2a716fd502eae5f2e1f3335e169d7677c2d1244f", func := "cordon/cordonlaw2.EventRuns", spec := "eventRuns", apart := false }
def EventRunsSaid : Prop := eventRunsRow.holds Try.pinned (OpenSpec.ofChange eventRunsSpec)

/-- ITS FALSE NEIGHBOUR: 'it returns false'. Refute it at one input. -/
def eventRunsWrong : ChangeSpec := { name := "eventRuns", fn := fun _ => fun
  | [] => { results := [.lit (.bool false)], args := [] }
  | _ => none }
def EventRunsWrongFalsely : Prop := eventRunsRow.holds Try.pinned (OpenSpec.ofChange eventRunsWrong)

/-- 'cordonlaw2.EventOrder': WHATEVER THE INPUT: true; the input reads as it did. -/
def eventOrderSpec : ChangeSpec := { name := "eventOrder", fn := fun _ => fun
  | [d1, d2, d3] => { results := [.lit (.bool true)], args := [d1, d2, d3] }
  | _ => none }
def eventOrderRow : OpenClaim := { program := "ytgbbahgllpdjmaa", sum := "6f3ea63005207e76a7d02a8d2a716fd502eae5f2e1f3335e169d7677c2d1244f", func := "cordon/cordonlaw2.EventOrder", spec := "eventOrder", apart := false }
def EventOrderSaid : Prop := eventOrderRow.holds Try.pinned (OpenSpec.ofChange eventOrderSpec)

/-- ITS FALSE NEIGHBOUR: 'it returns false'. Refute it at one input. -/
def eventOrderWrong : ChangeSpec := { name := "eventOrder", fn := fun _ => fun
  | [d1, d2, d3] => { results := [.lit (.bool false)], args := [d1, d2, d3] }
  | _ => none }
def EventOrderWrongFalsely : Prop := eventOrderRow.holds Try.pinned (OpenSpec.ofChange eventOrderWrong)

/-- 'cordonlaw2.EventTells': WHATEVER THE INPUT: true; the input reads as it did. -/
def eventTellsSpec : ChangeSpec := { name := "eventTells", fn := fun _ => fun
  | [d1, d2] => { results := [.lit (.bool true)], args := [d1, d2] }
  | _ => none }
def eventTellsRow : OpenClaim := { program := "ytgbbahgllpdjmaa", sum := "6f3ea63005207e76a7d02a8d2a716fd502eae5f2e1f3335e169d7677c2d1244f", func := "cordon/cordonlaw2.EventTells", spec := "eventTells", apart := false }
def EventTellsSaid : Prop := eventTellsRow.holds Try.pinned (OpenSpec.ofChange eventTellsSpec)

/-- ITS FALSE NEIGHBOUR: 'it returns false'. Refute it at one input. -/
def eventTellsWrong : ChangeSpec := { name := "eventTells", fn := fun _ => fun
  | [d1, d2] => { results := [.lit (.bool false)], args := [d1, d2] }
  | _ => none }
def EventTellsWrongFalsely : Prop := eventTellsRow.holds Try.pinned (OpenSpec.ofChange eventTellsWrong)

/-- 'cordonlaw2.EventMany': WHATEVER THE INPUT: true; the input reads as it did. -/
def eventManySpec : ChangeSpec := { name := "eventMany", fn := fun _ => fun
  | [d1, d2, d3] => { results := [.lit (.bool true)], args := [d1, d2, d3] }
  | _ => none }
def eventManyRow : OpenClaim := { program := "ytgbbahgllpdjmaa", sum := "6f3ea63005207e76a7d02a8d2a716fd502eae5f2e1f3335e169d7677c2d1244f", func := "cordon/cordonlaw2.EventMany", spec := "eventMany", apart := false }
def EventManySaid : Prop := eventManyRow.holds Try.pinned (OpenSpec.ofChange eventManySpec)

/-- ITS FALSE NEIGHBOUR: 'it returns false'. Refute it at one input. -/
def eventManyWrong : ChangeSpec := { name := "eventMany", fn := fun _ => fun
  | [d1, d2, d3] => { results := [.lit (.bool false)], args := [d1, d2, d3] }
  | _ => none }
def EventManyWrongFalsely : Prop := eventManyRow.holds Try.pinned (OpenSpec.ofChange eventManyWrong)

/- THE SECOND FORM. 'bulk': how many values and letters a reading holds, each counted each time it is reached (what is shared counts as often as it is met; a slice's spare places count too). A statement '..UptoSaid' is the law's where the arguments, and the package variables that the reading takes, are together of bulk at most 1048576: NARROWER than '..Said'. Prove '..Said' where nothing that the law and all that it calls make is longer than what came in: it says more and counts as full. Else prove '..UptoSaid'. A law counts once. -/
mutual
def uptoBulk {H : Type} : DataW H → Nat
  | .lit (.string bytes) => bytes.length + 1
  | .lit _ => 1
  | .nil => 1
  | .ptr d => uptoBulk d + 1
  | .slice elems spare => uptoBulkAll elems + uptoBulkAll spare + 1
  | .agg parts => uptoBulkAll parts + 1
  | .iface _ d => uptoBulk d + 1
  | .map entries => uptoBulkEntries entries + 1
  | .held _ => 1
def uptoBulkAll {H : Type} : List (DataW H) → Nat
  | [] => 0
  | d :: r => uptoBulk d + uptoBulkAll r
def uptoBulkEntries {H : Type} : List (Lit × DataW H) → Nat
  | [] => 0
  | x :: r => uptoBulkEntry x + uptoBulkEntries r
def uptoBulkEntry {H : Type} : Lit × DataW H → Nat
  | (.string bytes, d) => bytes.length + uptoBulk d + 1
  | (_, d) => uptoBulk d + 1
 end
def uptoSmall : (H : Type) → List (DataW H) → Bool := fun _ ds => decide (uptoBulkAll ds ≤ 1048576)
def OpenSpec.upto (s : _root_.Go.ChangeSpec) : _root_.Go.OpenSpec := { _root_.Go.OpenSpec.ofChange s with cond := some uptoSmall }

/-- 'cordonlaw14.QuotaRuns', WHERE WHAT IT READS IS OF BULK AT MOST 1048576: true; the input reads as it did. -/
def quotaRunsUptoRow : OpenClaim := { program := "ytgbbahgllpdjmaa", sum := "6f3ea63005207e76a7d02a8d2a716fd502eae5f2e1f3335e169d7677c2d1244f", func := "cordon/cordonlaw14.QuotaRuns", spec := "quotaRuns", apart := false, narrowed := true }
def QuotaRunsUptoSaid : Prop := quotaRunsUptoRow.holds Try.pinned (OpenSpec.upto quotaRunsSpec)

/-- 'cordonlaw14.QuotaPlays', WHERE WHAT IT READS IS OF BULK AT MOST 1048576: true; the input reads as it did. -/
def quotaPlaysUptoRow : OpenClaim := { program := "ytgbbahgllpdjmaa", sum := "6f3ea63005207e76a7d02a8d2a716fd502eae5f2e1f3335e169d7677c2d1244f", func := "cordon/cordonlaw14.QuotaPlays", spec := "quotaPlays", apart := false, narrowed := true }
def QuotaPlaysUptoSaid : Prop := quotaPlaysUptoRow.holds Try.pinned (OpenSpec.upto quotaPlaysSpec)

/-- 'cordonlaw13.SlotRuns', WHERE WHAT IT READS IS OF BULK AT MOST 1048576: true; the input reads as it did. -/
def slotRunsUptoRow : OpenClaim := { program := "ytgbbahgllpdjmaa", sum := "6f3ea63005207e76a7d02a8d2a716fd502eae5f2e1f3335e169d7677c2d1244f", func := "cordon/cordonlaw13.SlotRuns", spec := "slotRuns", apart := false, narrowed := true }
def SlotRunsUptoSaid : Prop := slotRunsUptoRow.holds Try.pinned (OpenSpec.upto slotRunsSpec)

/-- 'cordonlaw13.SlotTells', WHERE WHAT IT READS IS OF BULK AT MOST 1048576: true; the input reads as it did. -/
def slotTellsUptoRow : OpenClaim := { program := "ytgbbahgllpdjmaa", sum := "6f3ea63005207e76a7d02a8d2a716fd502eae5f2e1f3335e169d7677c2d1244f", func := "cordon/cordonlaw13.SlotTells", spec := "slotTells", apart := false, narrowed := true }
def SlotTellsUptoSaid : Prop := slotTellsUptoRow.holds Try.pinned (OpenSpec.upto slotTellsSpec)

/-- 'cordonlaw13.SlotTicks', WHERE WHAT IT READS IS OF BULK AT MOST 1048576: true; the input reads as it did. -/
def slotTicksUptoRow : OpenClaim := { program := "ytgbbahgllpdjmaa", sum := "6f3ea63005207e76a7d02a8d2a716fd502eae5f2e1f3335e169d7677c2d1244f", func := "cordon/cordonlaw13.SlotTicks", spec := "slotTicks", apart := false, narrowed := true }
def SlotTicksUptoSaid : Prop := slotTicksUptoRow.holds Try.pinned (OpenSpec.upto slotTicksSpec)

/-- 'cordonlaw13.SlotRound', WHERE WHAT IT READS IS OF BULK AT MOST 1048576: true; the input reads as it did. -/
def slotRoundUptoRow : OpenClaim := { program := "ytgbbahgllpdjmaa", sum := "6f3ea63005207e76a7d02a8d2a716fd502eae5f2e1f3335e169d7677c2d1244f", func := "cordon/cordonlaw13.SlotRound", spec := "slotRound", unfollowed := true, recurses := true, apart := false, narrowed := true }
def SlotRoundUptoSaid : Prop := slotRoundUptoRow.holds Try.pinned (OpenSpec.upto slotRoundSpec)

/-- 'cordonlaw13.SlotSums', WHERE WHAT IT READS IS OF BULK AT MOST 1048576: true; the input reads as it did. -/
def slotSumsUptoRow : OpenClaim := { program := "ytgbbahgllpdjmaa", sum := "6f3ea63005207e76a7d02a8d2a716fd502eae5f2e1f3335e169d7677c2d1244f", func := "cordon/cordonlaw13.SlotSums", spec := "slotSums", apart := false, narrowed := true }
def SlotSumsUptoSaid : Prop := slotSumsUptoRow.holds Try.pinned (OpenSpec.upto slotSumsSpec)

/-- 'cordonlaw2.EventRuns', WHERE WHAT IT READS IS OF BULK AT MOST 1048576: true; the input reads as it did. -/
def eventRunsUptoRow : OpenClaim := { program := "ytgbbahgllpdjmaa", sum := "6f3ea63005207e76a7d02a8d2a716fd502eae5f2e1f3335e169d7677c2d1244f", func := "cordon/cordonlaw2.EventRuns", spec := "eventRuns", apart := false, narrowed := true }
def EventRunsUptoSaid : Prop := eventRunsUptoRow.holds Try.pinned (OpenSpec.upto eventRunsSpec)

/-- 'cordonlaw2.EventOrder', WHERE WHAT IT READS IS OF BULK AT MOST 1048576: true; the input reads as it did. -/
def eventOrderUptoRow : OpenClaim := { program := "ytgbbahgllpdjmaa", sum := "6f3ea63005207e76a7d02a8d2a716fd502eae5f2e1f3335e169d7677c2d1244f", func := "cordon/cordonlaw2.EventOrder", spec := "eventOrder", apart := false, narrowed := true }
def EventOrderUptoSaid : Prop := eventOrderUptoRow.holds Try.pinned (OpenSpec.upto eventOrderSpec)

/-- 'cordonlaw2.EventTells', WHERE WHAT IT READS IS OF BULK AT MOST 1048576: true; the input reads as it did. -/
def eventTellsUptoRow : OpenClaim := { program := "ytgbbahgllpdjmaa", sum := "6f3ea63005207e76a7d02a8d2a716fd502eae5f2e1f3335e169d7677c2d1244f", func := "cordon/cordonlaw2.EventTells", spec := "eventTells", apart := false, narrowed := true }
def EventTellsUptoSaid : Prop := eventTellsUptoRow.holds Try.pinned (OpenSpec.upto eventTellsSpec)

/-- 'cordonlaw2.EventMany', WHERE WHAT IT READS IS OF BULK AT MOST 1048576: true; the input reads as it did. -/
def eventManyUptoRow : OpenClaim := { program := "ytgbbahgllpdjmaa", sum := "6f3ea63005207e76a7d02a8d2a716fd502eae5f2e1f3335e169d7677c2d1244f", func := "cordon/cordonlaw2.EventMany", spec := "eventMany", apart := false, narrowed := true }
def EventManyUptoSaid : Prop := eventManyUptoRow.holds Try.pinned (OpenSpec.upto eventManySpec)

end Rows
end Go.Proofs.Ytgbbahgllpdjmaa
