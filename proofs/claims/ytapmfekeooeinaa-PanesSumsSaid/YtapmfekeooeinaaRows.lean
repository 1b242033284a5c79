/-
  No cell of these rows narrows 'for every input' (looked for: loops, veiled, ifaces, maps, wideKeys, modest, calm, conditions, laid).
  DERIVED. THE GIVEN ROWS OF THIS SEAT. 6 by the template 'for every input the law returns true; each argument reads behind the call as it read before'; 0 by the template 'total and deterministic' (their statements: YtapmfekeooeinaaTotals.lean).
  GIVEN WITH THE SEED: the statements are not yours to turn. If you find one false, say at which input.
  Laid BY PROGRAM, IN A SANDBOX (cutbox-rows.mjs): the forced cells as the released guide's own fill.sh prints them over the translation 2d3aaef5ad375665… (all of the seat's roots in one cut). By AI agents, Wed Nov 11 2026. No macro, syntax, notation, axiom, sorry.
-/
import Derived.Test.YtapmfekeooeinaaChecked
import GoSem.Claim
import GoSem.ClaimJoined
import GoSem.ClaimMapViews
import Derived.JoinedTies
import Derived.KernelRfl
namespace Go.Proofs.Ytapmfekeooeinaa
/- THE CELL 'sum', in the pinned program and in every row, IS THE sha256 OF THE DUMP (.gsa) THAT YtapmfekeooeinaaProg.lean LOADS. Nothing in Lean hashes anything: it is a label: what it is worth is what the hold of that sum in a sandbox is worth. -/
noncomputable def Try.pinned : Pinned := { name := "ytapmfekeooeinaa", sum := "2d3aaef5ad3756656027da1187c4a0a93b8ce540c1d54813d611925c2e6c0c0f", checked := Try.checked }
namespace Rows
def none {H : Type} : Left H := { results := [], args := [] }

/-- 'cordonlaw8.PanesRuns': WHATEVER THE INPUT: true; the input reads as it did. -/
def panesRunsSpec : ChangeSpec := { name := "panesRuns", fn := fun _ => fun
  | [] => { results := [.lit (.bool true)], args := [] }
  | _ => none }
def panesRunsRow : OpenClaim := { program := "ytapmfekeooeinaa", sum := "2d3aaef5ad3756656027da1187c4a0a93b8ce540c1d54813d611925c2e6c0c0f", func := "cordon/cordonlaw8.PanesRuns", spec := "panesRuns", unfollowed := true, recurses := true, plainKeys := false, apart := false }
def PanesRunsSaid : Prop := panesRunsRow.holds Try.pinned (OpenSpec.ofChange panesRunsSpec)

/-- ITS FALSE NEIGHBOUR: 'it returns false'. Refute it at one input. -/
def panesRunsWrong : ChangeSpec := { name := "panesRuns", fn := fun _ => fun
  | [] => { results := [.lit (.bool false)], args := [] }
  | _ => none }
def PanesRunsWrongFalsely : Prop := panesRunsRow.holds Try.pinned (OpenSpec.ofChange panesRunsWrong)

/-- 'cordonlaw8.PanesOrder': WHATEVER THE INPUT: true; the input reads as it did. -/
def panesOrderSpec : ChangeSpec := { name := "panesOrder", fn := fun _ => fun
  | [d1, d2, d3, d4, d5] => { results := [.lit (.bool true)], args := [d1, d2, d3, d4, d5] }
  | _ => none }
def panesOrderRow : OpenClaim := { program := "ytapmfekeooeinaa", sum := "2d3aaef5ad3756656027da1187c4a0a93b8ce540c1d54813d611925c2e6c0c0f", func := "cordon/cordonlaw8.PanesOrder", spec := "panesOrder", unfollowed := true, recurses := true, plainKeys := false, apart := false }
def PanesOrderSaid : Prop := panesOrderRow.holds Try.pinned (OpenSpec.ofChange panesOrderSpec)

/-- ITS FALSE NEIGHBOUR: 'it returns false'. Refute it at one input. -/
def panesOrderWrong : ChangeSpec := { name := "panesOrder", fn := fun _ => fun
  | [d1, d2, d3, d4, d5] => { results := [.lit (.bool false)], args := [d1, d2, d3, d4, d5] }
  | _ => none }
def PanesOrderWrongFalsely : Prop := panesOrderRow.holds Try.pinned (OpenSpec.ofChange panesOrderWrong)

/-- 'cordonlaw8.PanesClose': WHATEVER THE INPUT: true; the input reads as it did. -/
def panesCloseSpec : ChangeSpec := { name := "panesClose", fn := fun _ => fun
  | [d1, d2, d3, d4, d5] => { results := [.lit (.bool true)], args := [d1, d2, d3, d4, d5] }
  | _ => none }
def panesCloseRow : OpenClaim := { program := "ytapmfekeooeinaa", sum := "2d3aaef5ad3756656027da1187c4a0a93b8ce540c1d54813d611925c2e6c0c0f", func := "cordon/cordonlaw8.PanesClose", spec := "panesClose", unfollowed := true, recurses := true, plainKeys := false, apart := false }
def PanesCloseSaid : Prop := panesCloseRow.holds Try.pinned (OpenSpec.ofChange panesCloseSpec)

/-- ITS FALSE NEIGHBOUR: 'it returns false'. Refute it at one input. -/
def panesCloseWrong : ChangeSpec := { name := "panesClose", fn := fun _ => fun
  | [d1, d2, d3, d4, d5] => { results := [.lit (.bool false)], args := [d1, d2, d3, d4, d5] }
  | _ => none }
def PanesCloseWrongFalsely : Prop := panesCloseRow.holds Try.pinned (OpenSpec.ofChange panesCloseWrong)

/-- 'cordonlaw8.PanesKeys': WHATEVER THE INPUT: true; the input reads as it did. -/
def panesKeysSpec : ChangeSpec := { name := "panesKeys", fn := fun _ => fun
  | [d1, d2, d3, d4, d5] => { results := [.lit (.bool true)], args := [d1, d2, d3, d4, d5] }
  | _ => none }
def panesKeysRow : OpenClaim := { program := "ytapmfekeooeinaa", sum := "2d3aaef5ad3756656027da1187c4a0a93b8ce540c1d54813d611925c2e6c0c0f", func := "cordon/cordonlaw8.PanesKeys", spec := "panesKeys", unfollowed := true, recurses := true, plainKeys := false, apart := false }
def PanesKeysSaid : Prop := panesKeysRow.holds Try.pinned (OpenSpec.ofChange panesKeysSpec)

/-- ITS FALSE NEIGHBOUR: 'it returns false'. Refute it at one input. -/
def panesKeysWrong : ChangeSpec := { name := "panesKeys", fn := fun _ => fun
  | [d1, d2, d3, d4, d5] => { results := [.lit (.bool false)], args := [d1, d2, d3, d4, d5] }
  | _ => none }
def PanesKeysWrongFalsely : Prop := panesKeysRow.holds Try.pinned (OpenSpec.ofChange panesKeysWrong)

/-- 'cordonlaw8.PanesSums': WHATEVER THE INPUT: true; the input reads as it did. -/
def panesSumsSpec : ChangeSpec := { name := "panesSums", fn := fun _ => fun
  | [d1, d2, d3] => { results := [.lit (.bool true)], args := [d1, d2, d3] }
  | _ => none }
def panesSumsRow : OpenClaim := { program := "ytapmfekeooeinaa", sum := "2d3aaef5ad3756656027da1187c4a0a93b8ce540c1d54813d611925c2e6c0c0f", func := "cordon/cordonlaw8.PanesSums", spec := "panesSums", unfollowed := true, recurses := true, plainKeys := false, apart := false }
def PanesSumsSaid : Prop := panesSumsRow.holds Try.pinned (OpenSpec.ofChange panesSumsSpec)

/-- ITS FALSE NEIGHBOUR: 'it returns false'. Refute it at one input. -/
def panesSumsWrong : ChangeSpec := { name := "panesSums", fn := fun _ => fun
  | [d1, d2, d3] => { results := [.lit (.bool false)], args := [d1, d2, d3] }
  | _ => none }
def PanesSumsWrongFalsely : Prop := panesSumsRow.holds Try.pinned (OpenSpec.ofChange panesSumsWrong)

/-- 'cordonlaw8.PanesPlays': WHATEVER THE INPUT: true; the input reads as it did. -/
def panesPlaysSpec : ChangeSpec := { name := "panesPlays", fn := fun _ => fun
  | [d1, d2, d3, d4, d5] => { results := [.lit (.bool true)], args := [d1, d2, d3, d4, d5] }
  | _ => none }
def panesPlaysRow : OpenClaim := { program := "ytapmfekeooeinaa", sum := "2d3aaef5ad3756656027da1187c4a0a93b8ce540c1d54813d611925c2e6c0c0f", func := "cordon/cordonlaw8.PanesPlays", spec := "panesPlays", inPlace := ["maps.clone"], unfollowed := true, recurses := true, plainKeys := false, apart := false }
def PanesPlaysSaid : Prop := panesPlaysRow.holds Try.pinned (OpenSpec.ofChange panesPlaysSpec)

/-- ITS FALSE NEIGHBOUR: 'it returns false'. Refute it at one input. -/
def panesPlaysWrong : ChangeSpec := { name := "panesPlays", fn := fun _ => fun
  | [d1, d2, d3, d4, d5] => { results := [.lit (.bool false)], args := [d1, d2, d3, d4, d5] }
  | _ => none }
def PanesPlaysWrongFalsely : Prop := panesPlaysRow.holds Try.pinned (OpenSpec.ofChange panesPlaysWrong)

/- THE SECOND FORM. 'bulk': how many values and letters a reading holds, each counted each time it is reached (what is shared counts as often as it is met; a slice's spare places count too). A statement '..UptoSaid' is the law's where the arguments, and the package variables that the reading takes, are together of bulk at most 1048576: NARROWER than '..Said'. Prove '..Said' where nothing that the law and all that it calls make is longer than what came in: it says more and counts as full. Else prove '..UptoSaid'. A law counts once. -/
mutual
def uptoBulk {H : Type} : DataW H → Nat
  | .lit (.string bytes) => bytes.length + 1
  | .lit _ => 1
  | .nil => 1
  | .ptr d => uptoBulk d + 1
  | .slice elems spare => uptoBulkAll elems + uptoBulkAll spare + 1
  | .agg parts => uptoBulkAll parts + 1
  | .iface _ d => uptoBulk d + 1
  | .map entries => uptoBulkEntries entries + 1
  | .held _ => 1
def uptoBulkAll {H : Type} : List (DataW H) → Nat
  | [] => 0
  | d :: r => uptoBulk d + uptoBulkAll r
def uptoBulkEntries {H : Type} : List (Lit × DataW H) → Nat
  | [] => 0
  | x :: r => uptoBulkEntry x + uptoBulkEntries r
def uptoBulkEntry {H : Type} : Lit × DataW H → Nat
  | (.string bytes, d) => bytes.length + uptoBulk d + 1
  | (_, d) => uptoBulk d + 1
 end
def uptoSmall : (H : Type) → List (DataW H) → Bool := fun _ ds => decide (uptoBulkAll ds ≤ 1048576)
def OpenSpec.upto (s : _root_.Go.ChangeSpec) : _root_.Go.OpenSpec := { _root_.Go.OpenSpec.ofChange s with cond := some uptoSmall }

/-- 'cordonlaw8.PanesRuns', WHERE WHAT IT READS IS OF BULK AT MOST 1048576: true; the input reads as it did. -/
def panesRunsUptoRow : OpenClaim := { program := "ytapmfekeooeinaa", sum := "2d3aaef5ad3756656027da1187c4a0a93b8ce540c1d54813d611925c2e6c0c0f", func := "cordon/cordonlaw8.PanesRuns", spec := "panesRuns", unfollowed := true, recurses := true, plainKeys := false, apart := false, narrowed := true }
def PanesRunsUptoSaid : Prop := panesRunsUptoRow.holds Try.pinned (OpenSpec.upto panesRunsSpec)

/-- 'cordonlaw8.PanesOrder', WHERE WHAT IT READS IS OF BULK AT MOST 1048576: true; the input reads as it did. -/
def panesOrderUptoRow : OpenClaim := { program := "ytapmfekeooeinaa", sum := "2d3aaef5ad3756656027da1187c4a0a93b8ce540c1d54813d611925c2e6c0c0f", func := "cordon/cordonlaw8.PanesOrder", spec := "panesOrder", unfollowed := true, recurses := true, plainKeys := false, apart := false, narrowed := true }
def PanesOrderUptoSaid : Prop := panesOrderUptoRow.holds Try.pinned (OpenSpec.upto panesOrderSpec)

/-- 'cordonlaw8.PanesClose', WHERE WHAT IT READS IS OF BULK AT MOST 1048576: true; the input reads as it did. -/
def panesCloseUptoRow : OpenClaim := { program := "ytapmfekeooeinaa", sum := "2d3aaef5ad3756656027da1187c4a0a93b8ce540c1d54813d611925c2e6c0c0f", func := "cordon/cordonlaw8.PanesClose", spec := "panesClose", unfollowed := true, recurses := true, plainKeys := false, apart := false, narrowed := true }
def PanesCloseUptoSaid : Prop := panesCloseUptoRow.holds Try.pinned (OpenSpec.upto panesCloseSpec)

/-- 'cordonlaw8.PanesKeys', WHERE WHAT IT READS IS OF BULK AT MOST 1048576: true; the input reads as it did. -/
def panesKeysUptoRow : OpenClaim := { program := "ytapmfekeooeinaa", sum := "2d3aaef5ad3756656027da1187c4a0a93b8ce540c1d54813d611925c2e6c0c0f", func := "cordon/cordonlaw8.PanesKeys", spec := "panesKeys", unfollowed := true, recurses := true, plainKeys := false, apart := false, narrowed := true }
def PanesKeysUptoSaid : Prop := panesKeysUptoRow.holds Try.pinned (OpenSpec.upto panesKeysSpec)

/-- 'cordonlaw8.PanesSums', WHERE WHAT IT READS IS OF BULK AT MOST 1048576: true; the input reads as it did. -/
def panesSumsUptoRow : OpenClaim := { program := "ytapmfekeooeinaa", sum := "2d3aaef5ad3756656027da1187c4a0a93b8ce540c1d54813d611925c2e6c0c0f", func := "cordon/cordonlaw8.PanesSums", spec := "panesSums", unfollowed := true, recurses := true, plainKeys := false, apart := false, narrowed := true }
def PanesSumsUptoSaid : Prop := panesSumsUptoRow.holds Try.pinned (OpenSpec.upto panesSumsSpec)

/-- 'cordonlaw8.PanesPlays', WHERE WHAT IT READS IS OF BULK AT MOST 1048576: true; the input reads as it did. -/
def panesPlaysUptoRow : OpenClaim := { program := "ytapmfekeooeinaa", sum := "2d3aaef5ad3756656027da1187c4a0a93b8ce540c1d54813d611925c2e6c0c0f", func := "cordon/cordonlaw8.PanesPlays", spec := "panesPlays", inPlace := ["maps.clone"], unfollowed := true, recurses := true, plainKeys := false, apart := false, narrowed := true }
def PanesPlaysUptoSaid : Prop := panesPlaysUptoRow.holds Try.pinned (OpenSpec.upto panesPlaysSpec)

end Rows
end Go.Proofs.Ytapmfekeooeinaa
