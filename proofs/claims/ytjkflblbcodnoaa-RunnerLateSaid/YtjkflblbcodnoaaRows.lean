/-
  No cell of these rows narrows 'for every input' (looked for: loops, veiled, ifaces, maps, wideKeys, modest, calm, conditions, laid).
  DERIVED. THE GIVEN ROWS OF THIS SEAT. 13 by the template 'for every input the law returns true; each argument reads behind the call as it read before'; 0 by the template 'total and deterministic' (their statements: YtjkflblbcodnoaaTotals.lean).
  GIVEN WITH THE SEED: the statements are not yours to turn. If you find one false, say at which input.
  Laid BY PROGRAM, IN A SANDBOX (cutbox-rows.mjs): the forced cells as the released guide's own fill.sh prints them over the translation 659860aa8b661b5d… (all of the seat's roots in one cut). By AI agents, Wed Nov 11 2026. No macro, syntax, notation, axiom, sorry.
-/
import Derived.Test.YtjkflblbcodnoaaChecked
import GoSem.Claim
import GoSem.ClaimJoined
import GoSem.ClaimMapViews
import Derived.JoinedTies
import Derived.KernelRfl
namespace Go.Proofs.Ytjkflblbcodnoaa
/- THE CELL 'sum', in the pinned program and in every row, IS THE sha256 OF THE DUMP (.gsa) THAT YtjkflblbcodnoaaProg.lean LOADS. Nothing in Lean hashes anything: it is a label: what it is worth is what the hold of that sum in a sandbox is worth. -/
noncomputable def Try.pinned : Pinned := { name := "ytjkflblbcodnoaa", sum := "659860aa8b661b5db6b6878276a4dca085222c246568d0c9ee33d67e396c6702", checked := Try.checked }
namespace Rows
def none {H : Type} : Left H := { results := [], args := [] }

/-- 'cordonlaw8.PanesPlays': WHATEVER THE INPUT: true; the input reads as it did. -/
def panesPlaysSpec : ChangeSpec := { name := "panesPlays", fn := fun _ => fun
  | [d1, d2, d3, d4, d5] => { results := [.lit (.bool true)], args := [d1, d2, d3, d4, d5] }
  | _ => none }
def panesPlaysRow : OpenClaim := { program := "ytjkflblbcodnoaa", sum := "659860aa8b661b5db6b6878276a4dca085222c246568d0c9ee33d67e396c6702", func := "cordon/cordonlaw8.PanesPlays", spec := "panesPlays", inPlace := ["maps.clone"], unfollowed := true, recurses := true, plainKeys := false, apart := false }
def PanesPlaysSaid : Prop := panesPlaysRow.holds Try.pinned (OpenSpec.ofChange panesPlaysSpec)

/-- ITS FALSE NEIGHBOUR: 'it returns false'. Refute it at one input. -/
def panesPlaysWrong : ChangeSpec := { name := "panesPlays", fn := fun _ => fun
  | [d1, d2, d3, d4, d5] => { results := [.lit (.bool false)], args := [d1, d2, d3, d4, d5] }
  | _ => none }
def PanesPlaysWrongFalsely : Prop := panesPlaysRow.holds Try.pinned (OpenSpec.ofChange panesPlaysWrong)

/-- 'cordonlaw10.RunnerRuns': WHATEVER THE INPUT: true; the input reads as it did. -/
def runnerRunsSpec : ChangeSpec := { name := "runnerRuns", fn := fun _ => fun
  | [] => { results := [.lit (.bool true)], args := [] }
  | _ => none }
def runnerRunsRow : OpenClaim := { program := "ytjkflblbcodnoaa", sum := "659860aa8b661b5db6b6878276a4dca085222c246568d0c9ee33d67e396c6702", func := "cordon/cordonlaw10.RunnerRuns", spec := "runnerRuns", unfollowed := true, recurses := true, plainKeys := false, apart := false }
def RunnerRunsSaid : Prop := runnerRunsRow.holds Try.pinned (OpenSpec.ofChange runnerRunsSpec)

/-- ITS FALSE NEIGHBOUR: 'it returns false'. Refute it at one input. -/
def runnerRunsWrong : ChangeSpec := { name := "runnerRuns", fn := fun _ => fun
  | [] => { results := [.lit (.bool false)], args := [] }
  | _ => none }
def RunnerRunsWrongFalsely : Prop := runnerRunsRow.holds Try.pinned (OpenSpec.ofChange runnerRunsWrong)

/-- 'cordonlaw10.RunnerKeys': WHATEVER THE INPUT: true; the input reads as it did. -/
def runnerKeysSpec : ChangeSpec := { name := "runnerKeys", fn := fun _ => fun
  | [d1, d2, d3] => { results := [.lit (.bool true)], args := [d1, d2, d3] }
  | _ => none }
def runnerKeysRow : OpenClaim := { program := "ytjkflblbcodnoaa", sum := "659860aa8b661b5db6b6878276a4dca085222c246568d0c9ee33d67e396c6702", func := "cordon/cordonlaw10.RunnerKeys", spec := "runnerKeys", unfollowed := true, recurses := true, plainKeys := false, apart := false }
def RunnerKeysSaid : Prop := runnerKeysRow.holds Try.pinned (OpenSpec.ofChange runnerKeysSpec)

/-- ITS FALSE NEIGHBOUR: 'it returns false'. Refute it at one input. -/
def runnerKeysWrong : ChangeSpec := { name := "runnerKeys", fn := fun _ => fun
  | [d1, d2, d3] => { results := [.lit (.bool false)], args := [d1, d2, d3] }
  | _ => none }
def RunnerKeysWrongFalsely : Prop := runnerKeysRow.holds Try.pinned (OpenSpec.ofChange runnerKeysWrong)

/-- 'cordonlaw10.RunnerParts': WHATEVER THE INPUT: true; the input reads as it did. -/
def runnerPartsSpec : ChangeSpec := { name := "runnerParts", fn := fun _ => fun
  | [d1, d2, d3] => { results := [.lit (.bool true)], args := [d1, d2, d3] }
  | _ => none }
def runnerPartsRow : OpenClaim := { program := "ytjkflblbcodnoaa", sum := "659860aa8b661b5db6b6878276a4dca085222c246568d0c9ee33d67e396c6702", func := "cordon/cordonlaw10.RunnerParts", spec := "runnerParts", unfollowed := true, recurses := true, plainKeys := false, apart := false }
def RunnerPartsSaid : Prop := runnerPartsRow.holds Try.pinned (OpenSpec.ofChange runnerPartsSpec)

/-- ITS FALSE NEIGHBOUR: 'it returns false'. Refute it at one input. -/
def runnerPartsWrong : ChangeSpec := { name := "runnerParts", fn := fun _ => fun
  | [d1, d2, d3] => { results := [.lit (.bool false)], args := [d1, d2, d3] }
  | _ => none }
def RunnerPartsWrongFalsely : Prop := runnerPartsRow.holds Try.pinned (OpenSpec.ofChange runnerPartsWrong)

/-- 'cordonlaw10.RunnerLate': WHATEVER THE INPUT: true; the input reads as it did. -/
def runnerLateSpec : ChangeSpec := { name := "runnerLate", fn := fun _ => fun
  | [d1, d2, d3, d4] => { results := [.lit (.bool true)], args := [d1, d2, d3, d4] }
  | _ => none }
def runnerLateRow : OpenClaim := { program := "ytjkflblbcodnoaa", sum := "659860aa8b661b5db6b6878276a4dca085222c246568d0c9ee33d67e396c6702", func := "cordon/cordonlaw10.RunnerLate", spec := "runnerLate", unfollowed := true, recurses := true, plainKeys := false, apart := false }
def RunnerLateSaid : Prop := runnerLateRow.holds Try.pinned (OpenSpec.ofChange runnerLateSpec)

/-- ITS FALSE NEIGHBOUR: 'it returns false'. Refute it at one input. -/
def runnerLateWrong : ChangeSpec := { name := "runnerLate", fn := fun _ => fun
  | [d1, d2, d3, d4] => { results := [.lit (.bool false)], args := [d1, d2, d3, d4] }
  | _ => none }
def RunnerLateWrongFalsely : Prop := runnerLateRow.holds Try.pinned (OpenSpec.ofChange runnerLateWrong)

/-- 'cordonlaw11.WholeRuns': WHATEVER THE INPUT: true; the input reads as it did. -/
def wholeRunsSpec : ChangeSpec := { name := "wholeRuns", fn := fun _ => fun
  | [] => { results := [.lit (.bool true)], args := [] }
  | _ => none }
def wholeRunsRow : OpenClaim := { program := "ytjkflblbcodnoaa", sum := "659860aa8b661b5db6b6878276a4dca085222c246568d0c9ee33d67e396c6702", func := "cordon/cordonlaw11.WholeRuns", spec := "wholeRuns", unfollowed := true, recurses := true, plainKeys := false, apart := false }
def WholeRunsSaid : Prop := wholeRunsRow.holds Try.pinned (OpenSpec.ofChange wholeRunsSpec)

/-- ITS FALSE NEIGHBOUR: 'it returns false'. Refute it at one input. -/
def wholeRunsWrong : ChangeSpec := { name := "wholeRuns", fn := fun _ => fun
  | [] => { results := [.lit (.bool false)], args := [] }
  | _ => none }
def WholeRunsWrongFalsely : Prop := wholeRunsRow.holds Try.pinned (OpenSpec.ofChange wholeRunsWrong)

/-- 'cordonlaw11.WholeTells': WHATEVER THE INPUT: true; the input reads as it did. -/
def wholeTellsSpec : ChangeSpec := { name := "wholeTells", fn := fun _ => fun
  | [d1, d2, d3] => { results := [.lit (.bool true)], args := [d1, d2, d3] }
  | _ => none }
def wholeTellsRow : OpenClaim := { program := "ytjkflblbcodnoaa", sum := "659860aa8b661b5db6b6878276a4dca085222c246568d0c9ee33d67e396c6702", func := "cordon/cordonlaw11.WholeTells", spec := "wholeTells", unfollowed := true, recurses := true, plainKeys := false, apart := false }
def WholeTellsSaid : Prop := wholeTellsRow.holds Try.pinned (OpenSpec.ofChange wholeTellsSpec)

/-- ITS FALSE NEIGHBOUR: 'it returns false'. Refute it at one input. -/
def wholeTellsWrong : ChangeSpec := { name := "wholeTells", fn := fun _ => fun
  | [d1, d2, d3] => { results := [.lit (.bool false)], args := [d1, d2, d3] }
  | _ => none }
def WholeTellsWrongFalsely : Prop := wholeTellsRow.holds Try.pinned (OpenSpec.ofChange wholeTellsWrong)

/-- 'cordonlaw11.WholeOrder': WHATEVER THE INPUT: true; the input reads as it did. -/
def wholeOrderSpec : ChangeSpec := { name := "wholeOrder", fn := fun _ => fun
  | [d1, d2, d3, d4] => { results := [.lit (.bool true)], args := [d1, d2, d3, d4] }
  | _ => none }
def wholeOrderRow : OpenClaim := { program := "ytjkflblbcodnoaa", sum := "659860aa8b661b5db6b6878276a4dca085222c246568d0c9ee33d67e396c6702", func := "cordon/cordonlaw11.WholeOrder", spec := "wholeOrder", unfollowed := true, recurses := true, plainKeys := false, apart := false }
def WholeOrderSaid : Prop := wholeOrderRow.holds Try.pinned (OpenSpec.ofChange wholeOrderSpec)

/-- ITS FALSE NEIGHBOUR: 'it returns false'. Refute it at one input. -/
def wholeOrderWrong : ChangeSpec := { name := "wholeOrder", fn := fun _ => fun
  | [d1, d2, d3, d4] => { results := [.lit (.bool false)], args := [d1, d2, d3, d4] }
  | _ => none }
def WholeOrderWrongFalsely : Prop := wholeOrderRow.holds Try.pinned (OpenSpec.ofChange wholeOrderWrong)

/-- 'cordonlaw11.WholeMarks': WHATEVER THE INPUT: true; the input reads as it did. -/
def wholeMarksSpec : ChangeSpec := { name := "wholeMarks", fn := fun _ => fun
  | [d1, d2] => { results := [.lit (.bool true)], args := [d1, d2] }
  | _ => none }
def wholeMarksRow : OpenClaim := { program := "ytjkflblbcodnoaa", sum := "659860aa8b661b5db6b6878276a4dca085222c246568d0c9ee33d67e396c6702", func := "cordon/cordonlaw11.WholeMarks", spec := "wholeMarks", unfollowed := true, recurses := true, plainKeys := false, apart := false }
def WholeMarksSaid : Prop := wholeMarksRow.holds Try.pinned (OpenSpec.ofChange wholeMarksSpec)

/-- ITS FALSE NEIGHBOUR: 'it returns false'. Refute it at one input. -/
def wholeMarksWrong : ChangeSpec := { name := "wholeMarks", fn := fun _ => fun
  | [d1, d2] => { results := [.lit (.bool false)], args := [d1, d2] }
  | _ => none }
def WholeMarksWrongFalsely : Prop := wholeMarksRow.holds Try.pinned (OpenSpec.ofChange wholeMarksWrong)

/-- 'cordonlaw11.WholeParts': WHATEVER THE INPUT: true; the input reads as it did. -/
def wholePartsSpec : ChangeSpec := { name := "wholeParts", fn := fun _ => fun
  | [d1, d2, d3] => { results := [.lit (.bool true)], args := [d1, d2, d3] }
  | _ => none }
def wholePartsRow : OpenClaim := { program := "ytjkflblbcodnoaa", sum := "659860aa8b661b5db6b6878276a4dca085222c246568d0c9ee33d67e396c6702", func := "cordon/cordonlaw11.WholeParts", spec := "wholeParts", unfollowed := true, recurses := true, plainKeys := false, apart := false }
def WholePartsSaid : Prop := wholePartsRow.holds Try.pinned (OpenSpec.ofChange wholePartsSpec)

/-- ITS FALSE NEIGHBOUR: 'it returns false'. Refute it at one input. -/
def wholePartsWrong : ChangeSpec := { name := "wholeParts", fn := fun _ => fun
  | [d1, d2, d3] => { results := [.lit (.bool false)], args := [d1, d2, d3] }
  | _ => none }
def WholePartsWrongFalsely : Prop := wholePartsRow.holds Try.pinned (OpenSpec.ofChange wholePartsWrong)

/-- 'cordonlaw10.RunnerTakes': WHATEVER THE INPUT: true; the input reads as it did. -/
def runnerTakesSpec : ChangeSpec := { name := "runnerTakes", fn := fun _ => fun
  | [d1, d2, d3, d4] => { results := [.lit (.bool true)], args := [d1, d2, d3, d4] }
  | _ => none }
def runnerTakesRow : OpenClaim := { program := "ytjkflblbcodnoaa", sum := "659860aa8b661b5db6b6878276a4dca085222c246568d0c9ee33d67e396c6702", func := "cordon/cordonlaw10.RunnerTakes", spec := "runnerTakes", inPlace := ["maps.clone"], unfollowed := true, recurses := true, plainKeys := false, apart := false }
def RunnerTakesSaid : Prop := runnerTakesRow.holds Try.pinned (OpenSpec.ofChange runnerTakesSpec)

/-- ITS FALSE NEIGHBOUR: 'it returns false'. Refute it at one input. -/
def runnerTakesWrong : ChangeSpec := { name := "runnerTakes", fn := fun _ => fun
  | [d1, d2, d3, d4] => { results := [.lit (.bool false)], args := [d1, d2, d3, d4] }
  | _ => none }
def RunnerTakesWrongFalsely : Prop := runnerTakesRow.holds Try.pinned (OpenSpec.ofChange runnerTakesWrong)

/-- 'cordonlaw10.RunnerOps': WHATEVER THE INPUT: true; the input reads as it did. -/
def runnerOpsSpec : ChangeSpec := { name := "runnerOps", fn := fun _ => fun
  | [d1, d2] => { results := [.lit (.bool true)], args := [d1, d2] }
  | _ => none }
def runnerOpsRow : OpenClaim := { program := "ytjkflblbcodnoaa", sum := "659860aa8b661b5db6b6878276a4dca085222c246568d0c9ee33d67e396c6702", func := "cordon/cordonlaw10.RunnerOps", spec := "runnerOps", inPlace := ["maps.clone"], unfollowed := true, recurses := true, plainKeys := false, apart := false }
def RunnerOpsSaid : Prop := runnerOpsRow.holds Try.pinned (OpenSpec.ofChange runnerOpsSpec)

/-- ITS FALSE NEIGHBOUR: 'it returns false'. Refute it at one input. -/
def runnerOpsWrong : ChangeSpec := { name := "runnerOps", fn := fun _ => fun
  | [d1, d2] => { results := [.lit (.bool false)], args := [d1, d2] }
  | _ => none }
def RunnerOpsWrongFalsely : Prop := runnerOpsRow.holds Try.pinned (OpenSpec.ofChange runnerOpsWrong)

/-- 'cordonlaw11.WholePrefix': WHATEVER THE INPUT: true; the input reads as it did. -/
def wholePrefixSpec : ChangeSpec := { name := "wholePrefix", fn := fun _ => fun
  | [d1, d2, d3, d4] => { results := [.lit (.bool true)], args := [d1, d2, d3, d4] }
  | _ => none }
def wholePrefixRow : OpenClaim := { program := "ytjkflblbcodnoaa", sum := "659860aa8b661b5db6b6878276a4dca085222c246568d0c9ee33d67e396c6702", func := "cordon/cordonlaw11.WholePrefix", spec := "wholePrefix", unfollowed := true, recurses := true, plainKeys := false, apart := false }
def WholePrefixSaid : Prop := wholePrefixRow.holds Try.pinned (OpenSpec.ofChange wholePrefixSpec)

/-- ITS FALSE NEIGHBOUR: 'it returns false'. Refute it at one input. -/
def wholePrefixWrong : ChangeSpec := { name := "wholePrefix", fn := fun _ => fun
  | [d1, d2, d3, d4] => { results := [.lit (.bool false)], args := [d1, d2, d3, d4] }
  | _ => none }
def WholePrefixWrongFalsely : Prop := wholePrefixRow.holds Try.pinned (OpenSpec.ofChange wholePrefixWrong)

/- THE SECOND FORM. 'bulk': how many values and letters a reading holds, each counted each time it is reached (what is shared counts as often as it is met; a slice's spare places count too). A statement '..UptoSaid' is the law's where the arguments, and the package variables that the reading takes, are together of bulk at most 1048576: NARROWER than '..Said'. Prove '..Said' where nothing that the law and all that it calls make is longer than what came in: it says more and counts as full. Else prove '..UptoSaid'. A law counts once. -/
mutual
def uptoBulk {H : Type} : DataW H → Nat
  | .lit (.string bytes) => bytes.length + 1
  | .lit _ => 1
  | .nil => 1
  | .ptr d => uptoBulk d + 1
  | .slice elems spare => uptoBulkAll elems + uptoBulkAll spare + 1
  | .agg parts => uptoBulkAll parts + 1
  | .iface _ d => uptoBulk d + 1
  | .map entries => uptoBulkEntries entries + 1
  | .held _ => 1
def uptoBulkAll {H : Type} : List (DataW H) → Nat
  | [] => 0
  | d :: r => uptoBulk d + uptoBulkAll r
def uptoBulkEntries {H : Type} : List (Lit × DataW H) → Nat
  | [] => 0
  | x :: r => uptoBulkEntry x + uptoBulkEntries r
def uptoBulkEntry {H : Type} : Lit × DataW H → Nat
  | (.string bytes, d) => bytes.length + uptoBulk d + 1
  | (_, d) => uptoBulk d + 1
 end
def uptoSmall : (H : Type) → List (DataW H) → Bool := fun _ ds => decide (uptoBulkAll ds ≤ 1048576)
def OpenSpec.upto (s : _root_.Go.ChangeSpec) : _root_.Go.OpenSpec := { _root_.Go.OpenSpec.ofChange s with cond := some uptoSmall }

/-- 'cordonlaw8.PanesPlays', WHERE WHAT IT READS IS OF BULK AT MOST 1048576: true; the input reads as it did. -/
def panesPlaysUptoRow : OpenClaim := { program := "ytjkflblbcodnoaa", sum := "659860aa8b661b5db6b6878276a4dca085222c246568d0c9ee33d67e396c6702", func := "cordon/cordonlaw8.PanesPlays", spec := "panesPlays", inPlace := ["maps.clone"], unfollowed := true, recurses := true, plainKeys := false, apart := false, narrowed := true }
def PanesPlaysUptoSaid : Prop := panesPlaysUptoRow.holds Try.pinned (OpenSpec.upto panesPlaysSpec)

/-- 'cordonlaw10.RunnerRuns', WHERE WHAT IT READS IS OF BULK AT MOST 1048576: true; the input reads as it did. -/
def runnerRunsUptoRow : OpenClaim := { program := "ytjkflblbcodnoaa", sum := "659860aa8b661b5db6b6878276a4dca085222c246568d0c9ee33d67e396c6702", func := "cordon/cordonlaw10.RunnerRuns", spec := "runnerRuns", unfollowed := true, recurses := true, plainKeys := false, apart := false, narrowed := true }
def RunnerRunsUptoSaid : Prop := runnerRunsUptoRow.holds Try.pinned (OpenSpec.upto runnerRunsSpec)

/-- 'cordonlaw10.RunnerKeys', WHERE WHAT IT READS IS OF BULK AT MOST 1048576: true; the input reads as it did. -/
def runnerKeysUptoRow : OpenClaim := { program := "ytjkflblbcodnoaa", sum := "659860aa8b661b5db6b6878276a4dca085222c246568d0c9ee33d67e396c6702", func := "cordon/cordonlaw10.RunnerKeys", spec := "runnerKeys", unfollowed := true, recurses := true, plainKeys := false, apart := false, narrowed := true }
def RunnerKeysUptoSaid : Prop := runnerKeysUptoRow.holds Try.pinned (OpenSpec.upto runnerKeysSpec)

/-- 'cordonlaw10.RunnerParts', WHERE WHAT IT READS IS OF BULK AT MOST 1048576: true; the input reads as it did. -/
def runnerPartsUptoRow : OpenClaim := { program := "ytjkflblbcodnoaa", sum := "659860aa8b661b5db6b6878276a4dca085222c246568d0c9ee33d67e396c6702", func := "cordon/cordonlaw10.RunnerParts", spec := "runnerParts", unfollowed := true, recurses := true, plainKeys := false, apart := false, narrowed := true }
def RunnerPartsUptoSaid : Prop := runnerPartsUptoRow.holds Try.pinned (OpenSpec.upto runnerPartsSpec)

/-- 'cordonlaw10.RunnerLate', WHERE WHAT IT READS IS OF BULK AT MOST 1048576: true; the input reads as it did. -/
def runnerLateUptoRow : OpenClaim := { program := "ytjkflblbcodnoaa", sum := "659860aa8b661b5db6b6878276a4dca085222c246568d0c9ee33d67e396c6702", func := "cordon/cordonlaw10.RunnerLate", spec := "runnerLate", unfollowed := true, recurses := true, plainKeys := false, apart := false, narrowed := true }
def RunnerLateUptoSaid : Prop := runnerLateUptoRow.holds Try.pinned (OpenSpec.upto runnerLateSpec)

/-- 'cordonlaw11.WholeRuns', WHERE WHAT IT READS IS OF BULK AT MOST 1048576: true; the input reads as it did. -/
def wholeRunsUptoRow : OpenClaim := { program := "ytjkflblbcodnoaa", sum := "659860aa8b661b5db6b6878276a4dca085222c246568d0c9ee33d67e396c6702", func := "cordon/cordonlaw11.WholeRuns", spec := "wholeRuns", unfollowed := true, recurses := true, plainKeys := false, apart := false, narrowed := true }
def WholeRunsUptoSaid : Prop := wholeRunsUptoRow.holds Try.pinned (OpenSpec.upto wholeRunsSpec)

/-- 'cordonlaw11.WholeTells', WHERE WHAT IT READS IS OF BULK AT MOST 1048576: true; the input reads as it did. -/
def wholeTellsUptoRow : OpenClaim := { program := "ytjkflblbcodnoaa", sum := "659860aa8b661b5db6b6878276a4dca085222c246568d0c9ee33d67e396c6702", func := "cordon/cordonlaw11.WholeTells", spec := "wholeTells", unfollowed := true, recurses := true, plainKeys := false, apart := false, narrowed := true }
def WholeTellsUptoSaid : Prop := wholeTellsUptoRow.holds Try.pinned (OpenSpec.upto wholeTellsSpec)

/-- 'cordonlaw11.WholeOrder', WHERE WHAT IT READS IS OF BULK AT MOST 1048576: true; the input reads as it did. -/
def wholeOrderUptoRow : OpenClaim := { program := "ytjkflblbcodnoaa", sum := "659860aa8b661b5db6b6878276a4dca085222c246568d0c9ee33d67e396c6702", func := "cordon/cordonlaw11.WholeOrder", spec := "wholeOrder", unfollowed := true, recurses := true, plainKeys := false, apart := false, narrowed := true }
def WholeOrderUptoSaid : Prop := wholeOrderUptoRow.holds Try.pinned (OpenSpec.upto wholeOrderSpec)

/-- 'cordonlaw11.WholeMarks', WHERE WHAT IT READS IS OF BULK AT MOST 1048576: true; the input reads as it did. -/
def wholeMarksUptoRow : OpenClaim := { program := "ytjkflblbcodnoaa", sum := "659860aa8b661b5db6b6878276a4dca085222c246568d0c9ee33d67e396c6702", func := "cordon/cordonlaw11.WholeMarks", spec := "wholeMarks", unfollowed := true, recurses := true, plainKeys := false, apart := false, narrowed := true }
def WholeMarksUptoSaid : Prop := wholeMarksUptoRow.holds Try.pinned (OpenSpec.upto wholeMarksSpec)

/-- 'cordonlaw11.WholeParts', WHERE WHAT IT READS IS OF BULK AT MOST 1048576: true; the input reads as it did. -/
def wholePartsUptoRow : OpenClaim := { program := "ytjkflblbcodnoaa", sum := "659860aa8b661b5db6b6878276a4dca085222c246568d0c9ee33d67e396c6702", func := "cordon/cordonlaw11.WholeParts", spec := "wholeParts", unfollowed := true, recurses := true, plainKeys := false, apart := false, narrowed := true }
def WholePartsUptoSaid : Prop := wholePartsUptoRow.holds Try.pinned (OpenSpec.upto wholePartsSpec)

/-- 'cordonlaw10.RunnerTakes', WHERE WHAT IT READS IS OF BULK AT MOST 1048576: true; the input reads as it did. -/
def runnerTakesUptoRow : OpenClaim := { program := "ytjkflblbcodnoaa", sum := "659860aa8b661b5db6b6878276a4dca085222c246568d0c9ee33d67e396c6702", func := "cordon/cordonlaw10.RunnerTakes", spec := "runnerTakes", inPlace := ["maps.clone"], unfollowed := true, recurses := true, plainKeys := false, apart := false, narrowed := true }
def RunnerTakesUptoSaid : Prop := runnerTakesUptoRow.holds Try.pinned (OpenSpec.upto runnerTakesSpec)

/-- 'cordonlaw10.RunnerOps', WHERE WHAT IT READS IS OF BULK AT MOST 1048576: true; the input reads as it did. -/
def runnerOpsUptoRow : OpenClaim := { program := "ytjkflblbcodnoaa", sum := "659860aa8b661b5db6b6878276a4dca085222c246568d0c9ee33d67e396c6702", func := "cordon/cordonlaw10.RunnerOps", spec := "runnerOps", inPlace := ["maps.clone"], unfollowed := true, recurses := true, plainKeys := false, apart := false, narrowed := true }
def RunnerOpsUptoSaid : Prop := runnerOpsUptoRow.holds Try.pinned (OpenSpec.upto runnerOpsSpec)

/-- 'cordonlaw11.WholePrefix', WHERE WHAT IT READS IS OF BULK AT MOST 1048576: true; the input reads as it did. -/
def wholePrefixUptoRow : OpenClaim := { program := "ytjkflblbcodnoaa", sum := "659860aa8b661b5db6b6878276a4dca085222c246568d0c9ee33d67e396c6702", func := "cordon/cordonlaw11.WholePrefix", spec := "wholePrefix", unfollowed := true, recurses := true, plainKeys := false, apart := false, narrowed := true }
def WholePrefixUptoSaid : Prop := wholePrefixUptoRow.holds Try.pinned (OpenSpec.upto wholePrefixSpec)

end Rows
end Go.Proofs.Ytjkflblbcodnoaa
