/-
  No cell of these rows narrows 'for every input' (looked for: loops, veiled, ifaces, maps, wideKeys, modest, calm, conditions, laid).
  DERIVED. THE GIVEN ROWS OF THIS SEAT. 7 by the template 'for every input the law returns true; each argument reads behind the call as it read before'; 0 by the template 'total and deterministic' (their statements: YthegopajkljlmaaTotals.lean).
  GIVEN WITH THE SEED: the statements are not yours to turn. If you find one false, say at which input.
  Laid BY PROGRAM, IN A SANDBOX (cutbox-rows.mjs): the forced cells as the released guide's own fill.sh prints them over the translation 776d05b05104ac41… (all of the seat's roots in one cut). By AI agents, Wed Nov 11 2026. No macro, syntax, notation, axiom, sorry.
-/
import Derived.Test.YthegopajkljlmaaChecked
import GoSem.Claim
import GoSem.ClaimJoined
import GoSem.ClaimMapViews
import Derived.JoinedTies
import Derived.KernelRfl
namespace Go.Proofs.Ythegopajkljlmaa
/- THE CELL 'sum', in the pinned program and in every row, IS THE sha256 OF THE DUMP (.gsa) THAT YthegopajkljlmaaProg.lean LOADS. Nothing in Lean hashes anything: it is a label: what it is worth is what the hold of that sum in a sandbox is worth. -/
noncomputable def Try.pinned : Pinned := { name := "ythegopajkljlmaa", sum := "776d05b05104ac41fa96630152d59e4b083bf686d736ac31e3c305263cfce1c0", checked := Try.checked }
namespace Rows
def none {H : Type} : Left H := { results := [], args := [] }

/-- 'cordonlaw24.BoundRuns': WHATEVER THE INPUT: true; the input reads as it did. -/
def boundRunsSpec : ChangeSpec := { name := "boundRuns", fn := fun _ => fun
  | [] => { results := [.lit (.bool true)], args := [] }
  | _ => none }
def boundRunsRow : OpenClaim := { program := "ythegopajkljlmaa", sum := "776d05b05104ac41fa96630152d59e4b083bf686d736ac31e3c305263cfce1c0", func := "cordon/cordonlaw24.BoundRuns", spec := "boundRuns", plainKeys := false, apart := false }
def BoundRunsSaid : Prop := boundRunsRow.holds Try.pinned (OpenSpec.ofChange boundRunsSpec)

/-- ITS FALSE NEIGHBOUR: 'it returns false'. Refute it at one input. -/
def boundRunsWrong : ChangeSpec := { name := "boundRuns", fn := fun _ => fun
  | [] => { results := [.lit (.bool false)], args := [] }
  | _ => none }
def BoundRunsWrongFalsely : Prop := boundRunsRow.holds Try.pinned (OpenSpec.ofChange boundRunsWrong)

/-- 'cordonlaw15.CellRuns': WHATEVER THE INPUT: true; the input reads as it did. -/
def cellRunsSpec : ChangeSpec := { name := "cellRuns", fn := fun _ => fun
  | [] => { results := [.lit (.bool true)], args := [] }
  | _ => none }
def cellRunsRow : OpenClaim := { program := "ythegopajkljlmaa", sum := "776d05b05104ac41fa96630152d59e4b083bf686d736ac31e3c305263cfce1c0", func := "cordon/cordonlaw15.CellRuns", spec := "cellRuns", unfollowed := true, recurses := true, plainKeys := false, apart := false }
def CellRunsSaid : Prop := cellRunsRow.holds Try.pinned (OpenSpec.ofChange cellRunsSpec)

/-- ITS FALSE NEIGHBOUR: 'it returns false'. Refute it at one input. -/
def cellRunsWrong : ChangeSpec := { name := "cellRuns", fn := fun _ => fun
  | [] => { results := [.lit (.bool false)], args := [] }
  | _ => none }
def CellRunsWrongFalsely : Prop := cellRunsRow.holds Try.pinned (OpenSpec.ofChange cellRunsWrong)

/-- 'cordonlaw15.CellLabels': WHATEVER THE INPUT: true; the input reads as it did. -/
def cellLabelsSpec : ChangeSpec := { name := "cellLabels", fn := fun _ => fun
  | [d1, d2, d3, d4] => { results := [.lit (.bool true)], args := [d1, d2, d3, d4] }
  | _ => none }
def cellLabelsRow : OpenClaim := { program := "ythegopajkljlmaa", sum := "776d05b05104ac41fa96630152d59e4b083bf686d736ac31e3c305263cfce1c0", func := "cordon/cordonlaw15.CellLabels", spec := "cellLabels", unfollowed := true, recurses := true, plainKeys := false, apart := false }
def CellLabelsSaid : Prop := cellLabelsRow.holds Try.pinned (OpenSpec.ofChange cellLabelsSpec)

/-- ITS FALSE NEIGHBOUR: 'it returns false'. Refute it at one input. -/
def cellLabelsWrong : ChangeSpec := { name := "cellLabels", fn := fun _ => fun
  | [d1, d2, d3, d4] => { results := [.lit (.bool false)], args := [d1, d2, d3, d4] }
  | _ => none }
def CellLabelsWrongFalsely : Prop := cellLabelsRow.holds Try.pinned (OpenSpec.ofChange cellLabelsWrong)

/-- 'cordonlaw15.CellServes': WHATEVER THE INPUT: true; the input reads as it did. -/
def cellServesSpec : ChangeSpec := { name := "cellServes", fn := fun _ => fun
  | [d1, d2, d3, d4] => { results := [.lit (.bool true)], args := [d1, d2, d3, d4] }
  | _ => none }
def cellServesRow : OpenClaim := { program := "ythegopajkljlmaa", sum := "776d05b05104ac41fa96630152d59e4b083bf686d736ac31e3c305263cfce1c0", func := "cordon/cordonlaw15.CellServes", spec := "cellServes", unfollowed := true, recurses := true, plainKeys := false, apart := false }
def CellServesSaid : Prop := cellServesRow.holds Try.pinned (OpenSpec.ofChange cellServesSpec)

/-- ITS FALSE NEIGHBOUR: 'it returns false'. Refute it at one input. -/
def cellServesWrong : ChangeSpec := { name := "cellServes", fn := fun _ => fun
  | [d1, d2, d3, d4] => { results := [.lit (.bool false)], args := [d1, d2, d3, d4] }
  | _ => none }
def CellServesWrongFalsely : Prop := cellServesRow.holds Try.pinned (OpenSpec.ofChange cellServesWrong)

/-- 'cordonlaw15.CellFed': WHATEVER THE INPUT: true; the input reads as it did. -/
def cellFedSpec : ChangeSpec := { name := "cellFed", fn := fun _ => fun
  | [d1, d2, d3, d4] => { results := [.lit (.bool true)], args := [d1, d2, d3, d4] }
  | _ => none }
def cellFedRow : OpenClaim := { program := "ythegopajkljlmaa", sum := "776d05b05104ac41fa96630152d59e4b083bf686d736ac31e3c305263cfce1c0", func := "cordon/cordonlaw15.CellFed", spec := "cellFed", unfollowed := true, recurses := true, plainKeys := false, apart := false }
def CellFedSaid : Prop := cellFedRow.holds Try.pinned (OpenSpec.ofChange cellFedSpec)

/-- ITS FALSE NEIGHBOUR: 'it returns false'. Refute it at one input. -/
def cellFedWrong : ChangeSpec := { name := "cellFed", fn := fun _ => fun
  | [d1, d2, d3, d4] => { results := [.lit (.bool false)], args := [d1, d2, d3, d4] }
  | _ => none }
def CellFedWrongFalsely : Prop := cellFedRow.holds Try.pinned (OpenSpec.ofChange cellFedWrong)

/-- 'cordonlaw24.BoundMost': WHATEVER THE INPUT: true; the input reads as it did. -/
def boundMostSpec : ChangeSpec := { name := "boundMost", fn := fun _ => fun
  | [d1, d2, d3, d4] => { results := [.lit (.bool true)], args := [d1, d2, d3, d4] }
  | _ => none }
def boundMostRow : OpenClaim := { program := "ythegopajkljlmaa", sum := "776d05b05104ac41fa96630152d59e4b083bf686d736ac31e3c305263cfce1c0", func := "cordon/cordonlaw24.BoundMost", spec := "boundMost", unfollowed := true, recurses := true, plainKeys := false, apart := false }
def BoundMostSaid : Prop := boundMostRow.holds Try.pinned (OpenSpec.ofChange boundMostSpec)

/-- ITS FALSE NEIGHBOUR: 'it returns false'. Refute it at one input. -/
def boundMostWrong : ChangeSpec := { name := "boundMost", fn := fun _ => fun
  | [d1, d2, d3, d4] => { results := [.lit (.bool false)], args := [d1, d2, d3, d4] }
  | _ => none }
def BoundMostWrongFalsely : Prop := boundMostRow.holds Try.pinned (OpenSpec.ofChange boundMostWrong)

/-- 'cordonlaw15.CellTwins': WHATEVER THE INPUT: true; the input reads as it did. -/
def cellTwinsSpec : ChangeSpec := { name := "cellTwins", fn := fun _ => fun
  | [d1, d2, d3, d4] => { results := [.lit (.bool true)], args := [d1, d2, d3, d4] }
  | _ => none }
def cellTwinsRow : OpenClaim := { program := "ythegopajkljlmaa", sum := "776d05b05104ac41fa96630152d59e4b083bf686d736ac31e3c305263cfce1c0", func := "cordon/cordonlaw15.CellTwins", spec := "cellTwins", inPlace := ["maps.clone"], unfollowed := true, recurses := true, plainKeys := false, apart := false }
def CellTwinsSaid : Prop := cellTwinsRow.holds Try.pinned (OpenSpec.ofChange cellTwinsSpec)

/-- ITS FALSE NEIGHBOUR: 'it returns false'. Refute it at one input. -/
def cellTwinsWrong : ChangeSpec := { name := "cellTwins", fn := fun _ => fun
  | [d1, d2, d3, d4] => { results := [.lit (.bool false)], args := [d1, d2, d3, d4] }
  | _ => none }
def CellTwinsWrongFalsely : Prop := cellTwinsRow.holds Try.pinned (OpenSpec.ofChange cellTwinsWrong)

/- THE SECOND FORM. 'bulk': how many values and letters a reading holds, each counted each time it is reached (what is shared counts as often as it is met; a slice's spare places count too). A statement '..UptoSaid' is the law's where the arguments, and the package variables that the reading takes, are together of bulk at most 1048576: NARROWER than '..Said'. Prove '..Said' where nothing that the law and all that it calls make is longer than what came in: it says more and counts as full. Else prove '..UptoSaid'. A law counts once. -/
mutual
def uptoBulk {H : Type} : DataW H → Nat
  | .lit (.string bytes) => bytes.length + 1
  | .lit _ => 1
  | .nil => 1
  | .ptr d => uptoBulk d + 1
  | .slice elems spare => uptoBulkAll elems + uptoBulkAll spare + 1
  | .agg parts => uptoBulkAll parts + 1
  | .iface _ d => uptoBulk d + 1
  | .map entries => uptoBulkEntries entries + 1
  | .held _ => 1
def uptoBulkAll {H : Type} : List (DataW H) → Nat
  | [] => 0
  | d :: r => uptoBulk d + uptoBulkAll r
def uptoBulkEntries {H : Type} : List (Lit × DataW H) → Nat
  | [] => 0
  | x :: r => uptoBulkEntry x + uptoBulkEntries r
def uptoBulkEntry {H : Type} : Lit × DataW H → Nat
  | (.string bytes, d) => bytes.length + uptoBulk d + 1
  | (_, d) => uptoBulk d + 1
 end
def uptoSmall : (H : Type) → List (DataW H) → Bool := fun _ ds => decide (uptoBulkAll ds ≤ 1048576)
def OpenSpec.upto (s : _root_.Go.ChangeSpec) : _root_.Go.OpenSpec := { _root_.Go.OpenSpec.ofChange s with cond := some uptoSmall }

/-- 'cordonlaw24.BoundRuns', WHERE WHAT IT READS IS OF BULK AT MOST 1048576: true; the input reads as it did. -/
def boundRunsUptoRow : OpenClaim := { program := "ythegopajkljlmaa", sum := "776d05b05104ac41fa96630152d59e4b083bf686d736ac31e3c305263cfce1c0", func := "cordon/cordonlaw24.BoundRuns", spec := "boundRuns", plainKeys := false, apart := false, narrowed := true }
def BoundRunsUptoSaid : Prop := boundRunsUptoRow.holds Try.pinned (OpenSpec.upto boundRunsSpec)

/-- 'cordonlaw15.CellRuns', WHERE WHAT IT READS IS OF BULK AT MOST 1048576: true; the input reads as it did. -/
def cellRunsUptoRow : OpenClaim := { program := "ythegopajkljlmaa", sum := "776d05b05104ac41fa96630152d59e4b083bf686d736ac31e3c305263cfce1c0", func := "cordon/cordonlaw15.CellRuns", spec := "cellRuns", unfollowed := true, recurses := true, plainKeys := false, apart := false, narrowed := true }
def CellRunsUptoSaid : Prop := cellRunsUptoRow.holds Try.pinned (OpenSpec.upto cellRunsSpec)

/-- 'cordonlaw15.CellLabels', WHERE WHAT IT READS IS OF BULK AT MOST 1048576: true; the input reads as it did. -/
def cellLabelsUptoRow : OpenClaim := { program := "ythegopajkljlmaa", sum := "776d05b05104ac41fa96630152d59e4b083bf686d736ac31e3c305263cfce1c0", func := "cordon/cordonlaw15.CellLabels", spec := "cellLabels", unfollowed := true, recurses := true, plainKeys := false, apart := false, narrowed := true }
def CellLabelsUptoSaid : Prop := cellLabelsUptoRow.holds Try.pinned (OpenSpec.upto cellLabelsSpec)

/-- 'cordonlaw15.CellServes', WHERE WHAT IT READS IS OF BULK AT MOST 1048576: true; the input reads as it did. -/
def cellServesUptoRow : OpenClaim := { program := "ythegopajkljlmaa", sum := "776d05b05104ac41fa96630152d59e4b083bf686d736ac31e3c305263cfce1c0", func := "cordon/cordonlaw15.CellServes", spec := "cellServes", unfollowed := true, recurses := true, plainKeys := false, apart := false, narrowed := true }
def CellServesUptoSaid : Prop := cellServesUptoRow.holds Try.pinned (OpenSpec.upto cellServesSpec)

/-- 'cordonlaw15.CellFed', WHERE WHAT IT READS IS OF BULK AT MOST 1048576: true; the input reads as it did. -/
def cellFedUptoRow : OpenClaim := { program := "ythegopajkljlmaa", sum := "776d05b05104ac41fa96630152d59e4b083bf686d736ac31e3c305263cfce1c0", func := "cordon/cordonlaw15.CellFed", spec := "cellFed", unfollowed := true, recurses := true, plainKeys := false, apart := false, narrowed := true }
def CellFedUptoSaid : Prop := cellFedUptoRow.holds Try.pinned (OpenSpec.upto cellFedSpec)

/-- 'cordonlaw24.BoundMost', WHERE WHAT IT READS IS OF BULK AT MOST 1048576: true; the input reads as it did. -/
def boundMostUptoRow : OpenClaim := { program := "ythegopajkljlmaa", sum := "776d05b05104ac41fa96630152d59e4b083bf686d736ac31e3c305263cfce1c0", func := "cordon/cordonlaw24.BoundMost", spec := "boundMost", unfollowed := true, recurses := true, plainKeys := false, apart := false, narrowed := true }
def BoundMostUptoSaid : Prop := boundMostUptoRow.holds Try.pinned (OpenSpec.upto boundMostSpec)

/-- 'cordonlaw15.CellTwins', WHERE WHAT IT READS IS OF BULK AT MOST 1048576: true; the input reads as it did. -/
def cellTwinsUptoRow : OpenClaim := { program := "ythegopajkljlmaa", sum := "776d05b05104ac41fa96630152d59e4b083bf686d736ac31e3c305263cfce1c0", func := "cordon/cordonlaw15.CellTwins", spec := "cellTwins", inPlace := ["maps.clone"], unfollowed := true, recurses := true, plainKeys := false, apart := false, narrowed := true }
def CellTwinsUptoSaid : Prop := cellTwinsUptoRow.holds Try.pinned (OpenSpec.upto cellTwinsSpec)

end Rows
end Go.Proofs.Ythegopajkljlmaa
