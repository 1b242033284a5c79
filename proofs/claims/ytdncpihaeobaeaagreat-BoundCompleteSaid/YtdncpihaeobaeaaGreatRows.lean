/-
  No cell of these rows narrows 'for every input' (looked for: loops, veiled, ifaces, maps, wideKeys, modest, calm, conditions, laid).
  DERIVED. THE GIVEN ROWS OF THIS SEAT. 7 by the template 'for every input the law returns true; each argument reads behind the call as it read before'; 0 by the template 'total and deterministic' (their statements: YtdncpihaeobaeaaGreatTotals.lean).
  GIVEN WITH THE SEED: the statements are not yours to turn. If you find one false, say at which input.
  Laid BY PROGRAM, IN A SANDBOX (cutbox-rows.mjs): the forced cells as the released guide's own fill.sh prints them over the translation ee73bc42b85803e1… (all of the seat's roots in one cut). By AI agents, Wed Nov 11 2026. No macro, syntax, notation, axiom, sorry.
-/
import Derived.Test.YtdncpihaeobaeaaGreatChecked
import GoSem.Claim
import GoSem.ClaimJoined
import GoSem.ClaimMapViews
import Derived.JoinedTies
import Derived.KernelRfl
namespace Go.Proofs.YtdncpihaeobaeaaGreat
/- THE CELL 'sum', in the pinned program and in every row, IS THE sha256 OF THE DUMP (.gsa) THAT YtdncpihaeobaeaaGreatProg.lean LOADS. Nothing in Lean hashes anything: it is a label: what it is worth is what the hold of that sum in a sandbox is worth. -/
noncomputable def Tryz.pinned : Pinned := { name := "ytdncpihaeobaeaagreat", sum := "ee73bc42b85803e181f56fbb25532867cb2e943fbf9f18926d1cb4485f62039e", checked := Tryz.checked }
namespace Rows
def none {H : Type} : Left H := { results := [], args := [] }

/-- 'cordontop.TopLow': WHATEVER THE INPUT: true; the input reads as it did. -/
def topLowSpec : ChangeSpec := { name := "topLow", fn := fun _ => fun
  | [d1, d2, d3, d4] => { results := [.lit (.bool true)], args := [d1, d2, d3, d4] }
  | _ => none }
def topLowRow : OpenClaim := { program := "ytdncpihaeobaeaagreat", sum := "ee73bc42b85803e181f56fbb25532867cb2e943fbf9f18926d1cb4485f62039e", func := "cordon/cordontop.TopLow", spec := "topLow", unfollowed := true, recurses := true, plainKeys := false, apart := false }
def TopLowSaid : Prop := topLowRow.holds Tryz.pinned (OpenSpec.ofChange topLowSpec)

/-- ITS FALSE NEIGHBOUR: 'it returns false'. Refute it at one input. -/
def topLowWrong : ChangeSpec := { name := "topLow", fn := fun _ => fun
  | [d1, d2, d3, d4] => { results := [.lit (.bool false)], args := [d1, d2, d3, d4] }
  | _ => none }
def TopLowWrongFalsely : Prop := topLowRow.holds Tryz.pinned (OpenSpec.ofChange topLowWrong)

/-- 'cordonlaw19.CoreParts': WHATEVER THE INPUT: true; the input reads as it did. -/
def corePartsSpec : ChangeSpec := { name := "coreParts", fn := fun _ => fun
  | [d1, d2, d3] => { results := [.lit (.bool true)], args := [d1, d2, d3] }
  | _ => none }
def corePartsRow : OpenClaim := { program := "ytdncpihaeobaeaagreat", sum := "ee73bc42b85803e181f56fbb25532867cb2e943fbf9f18926d1cb4485f62039e", func := "cordon/cordonlaw19.CoreParts", spec := "coreParts", unfollowed := true, recurses := true, plainKeys := false, apart := false }
def CorePartsSaid : Prop := corePartsRow.holds Tryz.pinned (OpenSpec.ofChange corePartsSpec)

/-- ITS FALSE NEIGHBOUR: 'it returns false'. Refute it at one input. -/
def corePartsWrong : ChangeSpec := { name := "coreParts", fn := fun _ => fun
  | [d1, d2, d3] => { results := [.lit (.bool false)], args := [d1, d2, d3] }
  | _ => none }
def CorePartsWrongFalsely : Prop := corePartsRow.holds Tryz.pinned (OpenSpec.ofChange corePartsWrong)

/-- 'cordonlaw19.CoreAlone': WHATEVER THE INPUT: true; the input reads as it did. -/
def coreAloneSpec : ChangeSpec := { name := "coreAlone", fn := fun _ => fun
  | [d1, d2, d3, d4] => { results := [.lit (.bool true)], args := [d1, d2, d3, d4] }
  | _ => none }
def coreAloneRow : OpenClaim := { program := "ytdncpihaeobaeaagreat", sum := "ee73bc42b85803e181f56fbb25532867cb2e943fbf9f18926d1cb4485f62039e", func := "cordon/cordonlaw19.CoreAlone", spec := "coreAlone", unfollowed := true, recurses := true, plainKeys := false, apart := false }
def CoreAloneSaid : Prop := coreAloneRow.holds Tryz.pinned (OpenSpec.ofChange coreAloneSpec)

/-- ITS FALSE NEIGHBOUR: 'it returns false'. Refute it at one input. -/
def coreAloneWrong : ChangeSpec := { name := "coreAlone", fn := fun _ => fun
  | [d1, d2, d3, d4] => { results := [.lit (.bool false)], args := [d1, d2, d3, d4] }
  | _ => none }
def CoreAloneWrongFalsely : Prop := coreAloneRow.holds Tryz.pinned (OpenSpec.ofChange coreAloneWrong)

/-- 'cordonlaw19.CoreOrder': WHATEVER THE INPUT: true; the input reads as it did. -/
def coreOrderSpec : ChangeSpec := { name := "coreOrder", fn := fun _ => fun
  | [d1, d2] => { results := [.lit (.bool true)], args := [d1, d2] }
  | _ => none }
def coreOrderRow : OpenClaim := { program := "ytdncpihaeobaeaagreat", sum := "ee73bc42b85803e181f56fbb25532867cb2e943fbf9f18926d1cb4485f62039e", func := "cordon/cordonlaw19.CoreOrder", spec := "coreOrder", inPlace := ["maps.clone"], unfollowed := true, recurses := true, plainKeys := false, apart := false }
def CoreOrderSaid : Prop := coreOrderRow.holds Tryz.pinned (OpenSpec.ofChange coreOrderSpec)

/-- ITS FALSE NEIGHBOUR: 'it returns false'. Refute it at one input. -/
def coreOrderWrong : ChangeSpec := { name := "coreOrder", fn := fun _ => fun
  | [d1, d2] => { results := [.lit (.bool false)], args := [d1, d2] }
  | _ => none }
def CoreOrderWrongFalsely : Prop := coreOrderRow.holds Tryz.pinned (OpenSpec.ofChange coreOrderWrong)

/-- 'cordonlaw24.BoundTells': WHATEVER THE INPUT: true; the input reads as it did. -/
def boundTellsSpec : ChangeSpec := { name := "boundTells", fn := fun _ => fun
  | [d1, d2, d3, d4, d5] => { results := [.lit (.bool true)], args := [d1, d2, d3, d4, d5] }
  | _ => none }
def boundTellsRow : OpenClaim := { program := "ytdncpihaeobaeaagreat", sum := "ee73bc42b85803e181f56fbb25532867cb2e943fbf9f18926d1cb4485f62039e", func := "cordon/cordonlaw24.BoundTells", spec := "boundTells", inPlace := ["maps.clone"], unfollowed := true, recurses := true, plainKeys := false, apart := false }
def BoundTellsSaid : Prop := boundTellsRow.holds Tryz.pinned (OpenSpec.ofChange boundTellsSpec)

/-- ITS FALSE NEIGHBOUR: 'it returns false'. Refute it at one input. -/
def boundTellsWrong : ChangeSpec := { name := "boundTells", fn := fun _ => fun
  | [d1, d2, d3, d4, d5] => { results := [.lit (.bool false)], args := [d1, d2, d3, d4, d5] }
  | _ => none }
def BoundTellsWrongFalsely : Prop := boundTellsRow.holds Tryz.pinned (OpenSpec.ofChange boundTellsWrong)

/-- 'cordonlaw24.BoundStill': WHATEVER THE INPUT: true; the input reads as it did. -/
def boundStillSpec : ChangeSpec := { name := "boundStill", fn := fun _ => fun
  | [d1, d2, d3] => { results := [.lit (.bool true)], args := [d1, d2, d3] }
  | _ => none }
def boundStillRow : OpenClaim := { program := "ytdncpihaeobaeaagreat", sum := "ee73bc42b85803e181f56fbb25532867cb2e943fbf9f18926d1cb4485f62039e", func := "cordon/cordonlaw24.BoundStill", spec := "boundStill", inPlace := ["maps.clone"], unfollowed := true, recurses := true, plainKeys := false, apart := false }
def BoundStillSaid : Prop := boundStillRow.holds Tryz.pinned (OpenSpec.ofChange boundStillSpec)

/-- ITS FALSE NEIGHBOUR: 'it returns false'. Refute it at one input. -/
def boundStillWrong : ChangeSpec := { name := "boundStill", fn := fun _ => fun
  | [d1, d2, d3] => { results := [.lit (.bool false)], args := [d1, d2, d3] }
  | _ => none }
def BoundStillWrongFalsely : Prop := boundStillRow.holds Tryz.pinned (OpenSpec.ofChange boundStillWrong)

/-- 'cordonlaw24.BoundComplete': WHATEVER THE INPUT: true; the input reads as it did. -/
def boundCompleteSpec : ChangeSpec := { name := "boundComplete", fn := fun _ => fun
  | [d1, d2, d3, d4] => { results := [.lit (.bool true)], args := [d1, d2, d3, d4] }
  | _ => none }
def boundCompleteRow : OpenClaim := { program := "ytdncpihaeobaeaagreat", sum := "ee73bc42b85803e181f56fbb25532867cb2e943fbf9f18926d1cb4485f62039e", func := "cordon/cordonlaw24.BoundComplete", spec := "boundComplete", inPlace := ["maps.clone"], unfollowed := true, recurses := true, plainKeys := false, apart := false }
def BoundCompleteSaid : Prop := boundCompleteRow.holds Tryz.pinned (OpenSpec.ofChange boundCompleteSpec)

/-- ITS FALSE NEIGHBOUR: 'it returns false'. Refute it at one input. -/
def boundCompleteWrong : ChangeSpec := { name := "boundComplete", fn := fun _ => fun
  | [d1, d2, d3, d4] => { results := [.lit (.bool false)], args := [d1, d2, d3, d4] }
  | _ => none }
def BoundCompleteWrongFalsely : Prop := boundCompleteRow.holds Tryz.pinned (OpenSpec.ofChange boundCompleteWrong)

/- THE SECOND FORM. 'bulk': how many values and letters a reading holds, each counted each time it is reached (what is shared counts as often as it is met; a slice's spare places count too). A statement '..UptoSaid' is the law's where the arguments, and the package variables that the reading takes, are together of bulk at most 1048576: NARROWER than '..Said'. Prove '..Said' where nothing that the law and all that it calls make is longer than what came in: it says more and counts as full. Else prove '..UptoSaid'. A law counts once. -/
mutual
def uptoBulk {H : Type} : DataW H → Nat
  | .lit (.string bytes) => bytes.length + 1
  | .lit _ => 1
  | .nil => 1
  | .ptr d => uptoBulk d + 1
  | .slice elems spare => uptoBulkAll elems + uptoBulkAll spare + 1
  | .agg parts => uptoBulkAll parts + 1
  | .iface _ d => uptoBulk d + 1
  | .map entries => uptoBulkEntries entries + 1
  | .held _ => 1
def uptoBulkAll {H : Type} : List (DataW H) → Nat
  | [] => 0
  | d :: r => uptoBulk d + uptoBulkAll r
def uptoBulkEntries {H : Type} : List (Lit × DataW H) → Nat
  | [] => 0
  | x :: r => uptoBulkEntry x + uptoBulkEntries r
def uptoBulkEntry {H : Type} : Lit × DataW H → Nat
  | (.string bytes, d) => bytes.length + uptoBulk d + 1
  | (_, d) => uptoBulk d + 1
 end
def uptoSmall : (H : Type) → List (DataW H) → Bool := fun _ ds => decide (uptoBulkAll ds ≤ 1048576)
def OpenSpec.upto (s : _root_.Go.ChangeSpec) : _root_.Go.OpenSpec := { _root_.Go.OpenSpec.ofChange s with cond := some uptoSmall }

/-- 'cordontop.TopLow', WHERE WHAT IT READS IS OF BULK AT MOST 1048576: true; the input reads as it did. -/
def topLowUptoRow : OpenClaim := { program := "ytdncpihaeobaeaagreat", sum := "ee73bc42b85803e181f56fbb25532867cb2e943fbf9f18926d1cb4485f62039e", func := "cordon/cordontop.TopLow", spec := "topLow", unfollowed := true, recurses := true, plainKeys := false, apart := false, narrowed := true }
def TopLowUptoSaid : Prop := topLowUptoRow.holds Tryz.pinned (OpenSpec.upto topLowSpec)

/-- 'cordonlaw19.CoreParts', WHERE WHAT IT READS IS OF BULK AT MOST 1048576: true; the input reads as it did. -/
def corePartsUptoRow : OpenClaim := { program := "ytdncpihaeobaeaagreat", sum := "ee73bc42b85803e181f56fbb25532867cb2e943fbf9f18926d1cb4485f62039e", func := "cordon/cordonlaw19.CoreParts", spec := "coreParts", unfollowed := true, recurses := true, plainKeys := false, apart := false, narrowed := true }
def CorePartsUptoSaid : Prop := corePartsUptoRow.holds Tryz.pinned (OpenSpec.upto corePartsSpec)

/-- 'cordonlaw19.CoreAlone', WHERE WHAT IT READS IS OF BULK AT MOST 1048576: true; the input reads as it did. -/
def coreAloneUptoRow : OpenClaim := { program := "ytdncpihaeobaeaagreat", sum := "ee73bc42b85803e181f56fbb25532867cb2e943fbf9f18926d1cb4485f62039e", func := "cordon/cordonlaw19.CoreAlone", spec := "coreAlone", unfollowed := true, recurses := true, plainKeys := false, apart := false, narrowed := true }
def CoreAloneUptoSaid : Prop := coreAloneUptoRow.holds Tryz.pinned (OpenSpec.upto coreAloneSpec)

/-- 'cordonlaw19.CoreOrder', WHERE WHAT IT READS IS OF BULK AT MOST 1048576: true; the input reads as it did. -/
def coreOrderUptoRow : OpenClaim := { program := "ytdncpihaeobaeaagreat", sum := "ee73bc42b85803e181f56fbb25532867cb2e943fbf9f18926d1cb4485f62039e", func := "cordon/cordonlaw19.CoreOrder", spec := "coreOrder", inPlace := ["maps.clone"], unfollowed := true, recurses := true, plainKeys := false, apart := false, narrowed := true }
def CoreOrderUptoSaid : Prop := coreOrderUptoRow.holds Tryz.pinned (OpenSpec.upto coreOrderSpec)

/-- 'cordonlaw24.BoundTells', WHERE WHAT IT READS IS OF BULK AT MOST 1048576: true; the input reads as it did. -/
def boundTellsUptoRow : OpenClaim := { program := "ytdncpihaeobaeaagreat", sum := "ee73bc42b85803e181f56fbb25532867cb2e943fbf9f18926d1cb4485f62039e", func := "cordon/cordonlaw24.BoundTells", spec := "boundTells", inPlace := ["maps.clone"], unfollowed := true, recurses := true, plainKeys := false, apart := false, narrowed := true }
def BoundTellsUptoSaid : Prop := boundTellsUptoRow.holds Tryz.pinned (OpenSpec.upto boundTellsSpec)

/-- 'cordonlaw24.BoundStill', WHERE WHAT IT READS IS OF BULK AT MOST 1048576: true; the input reads as it did. -/
def boundStillUptoRow : OpenClaim := { program := "ytdncpihaeobaeaagreat", sum := "ee73bc42b85803e181f56fbb25532867cb2e943fbf9f18926d1cb4485f62039e", func := "cordon/cordonlaw24.BoundStill", spec := "boundStill", inPlace := ["maps.clone"], unfollowed := true, recurses := true, plainKeys := false, apart := false, narrowed := true }
def BoundStillUptoSaid : Prop := boundStillUptoRow.holds Tryz.pinned (OpenSpec.upto boundStillSpec)

/-- 'cordonlaw24.BoundComplete', WHERE WHAT IT READS IS OF BULK AT MOST 1048576: true; the input reads as it did. -/
def boundCompleteUptoRow : OpenClaim := { program := "ytdncpihaeobaeaagreat", sum := "ee73bc42b85803e181f56fbb25532867cb2e943fbf9f18926d1cb4485f62039e", func := "cordon/cordonlaw24.BoundComplete", spec := "boundComplete", inPlace := ["maps.clone"], unfollowed := true, recurses := true, plainKeys := false, apart := false, narrowed := true }
def BoundCompleteUptoSaid : Prop := boundCompleteUptoRow.holds Tryz.pinned (OpenSpec.upto boundCompleteSpec)

end Rows
end Go.Proofs.YtdncpihaeobaeaaGreat
