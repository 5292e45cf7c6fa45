/-
  No cell of these rows narrows 'for every input' (looked for: loops, veiled, ifaces, maps, wideKeys, modest, calm, conditions, laid).
  DERIVED. THE GIVEN ROWS OF THIS SEAT. 4 by the template 'for every input the law returns true; each argument reads behind the call as it read before'; 0 by the template 'total and deterministic' (their statements: YtchpagboglomoaaTotals.lean).
  GIVEN WITH THE SEED: the statements are not yours to turn. If you find one false, say at which input.
  Laid BY PROGRAM, IN A SANDBOX (cutbox-rows.mjs): the forced cells as the released guide's own fill.sh prints them over the translation ddb6f944917ec8f5… (all of the seat's roots in one cut). By AI agents, Wed Nov 11 2026. No macro, syntax, notation, axiom, sorry.
-/
import Derived.Test.YtchpagboglomoaaChecked
import GoSem.Claim
import GoSem.ClaimJoined
import GoSem.ClaimMapViews
import Derived.JoinedTies
import Derived.KernelRfl
namespace Go.Proofs.Ytchpagboglomoaa
/- THE CELL 'sum', in the pinned program and in every row, IS THE sha256 OF THE DUMP (.gsa) THAT YtchpagboglomoaaProg.lean LOADS. Nothing in Lean hashes anything: it is a label: what it is worth is what the hold of that sum in a sandbox is worth. -/
noncomputable def Try.pinned : Pinned := { name := "ytchpagboglomoaa", sum := "ddb6f944917ec8f57f4b1195e03a183589549b874544549fd7e8c8df1ddc9962", checked := Try.checked }
namespace Rows
def none {H : Type} : Left H := { results := [], args := [] }

/-- 'concordancelaw22.UndoPlays': WHATEVER THE INPUT: true; the input reads as it did. -/
def undoPlaysSpec : ChangeSpec := { name := "undoPlays", fn := fun _ => fun
  | [d] => { results := [.lit (.bool true)], args := [d] }
  | _ => none }
def undoPlaysRow : OpenClaim := { program := "ytchpagboglomoaa", sum := "ddb6f944917ec8f57f4b1195e03a183589549b874544549fd7e8c8df1ddc9962", func := "concordance/concordancelaw22.UndoPlays", spec := "undoPlays", inPlace := ["slices.overlaps[concordance/order.pair[int, []concordance/undo.Entry]]", "internal/abi.NoEscape"], unfollowed := true, recurses := true, apart := false }
def UndoPlaysSaid : Prop := undoPlaysRow.holds Try.pinned (OpenSpec.ofChange undoPlaysSpec)

/-- ITS FALSE NEIGHBOUR: 'it returns false'. Refute it at one input. -/
def undoPlaysWrong : ChangeSpec := { name := "undoPlays", fn := fun _ => fun
  | [d] => { results := [.lit (.bool false)], args := [d] }
  | _ => none }
def UndoPlaysWrongFalsely : Prop := undoPlaysRow.holds Try.pinned (OpenSpec.ofChange undoPlaysWrong)

/-- 'concordancelaw22.UndoLoads': WHATEVER THE INPUT: true; the input reads as it did. -/
def undoLoadsSpec : ChangeSpec := { name := "undoLoads", fn := fun _ => fun
  | [d1, d2] => { results := [.lit (.bool true)], args := [d1, d2] }
  | _ => none }
def undoLoadsRow : OpenClaim := { program := "ytchpagboglomoaa", sum := "ddb6f944917ec8f57f4b1195e03a183589549b874544549fd7e8c8df1ddc9962", func := "concordance/concordancelaw22.UndoLoads", spec := "undoLoads", inPlace := ["slices.overlaps[concordance/order.pair[int, []concordance/undo.Entry]]", "internal/abi.NoEscape"], unfollowed := true, recurses := true, apart := false }
def UndoLoadsSaid : Prop := undoLoadsRow.holds Try.pinned (OpenSpec.ofChange undoLoadsSpec)

/-- ITS FALSE NEIGHBOUR: 'it returns false'. Refute it at one input. -/
def undoLoadsWrong : ChangeSpec := { name := "undoLoads", fn := fun _ => fun
  | [d1, d2] => { results := [.lit (.bool false)], args := [d1, d2] }
  | _ => none }
def UndoLoadsWrongFalsely : Prop := undoLoadsRow.holds Try.pinned (OpenSpec.ofChange undoLoadsWrong)

/-- 'concordancelaw22.UndoReplays': WHATEVER THE INPUT: true; the input reads as it did. -/
def undoReplaysSpec : ChangeSpec := { name := "undoReplays", fn := fun _ => fun
  | [d1, d2, d3] => { results := [.lit (.bool true)], args := [d1, d2, d3] }
  | _ => none }
def undoReplaysRow : OpenClaim := { program := "ytchpagboglomoaa", sum := "ddb6f944917ec8f57f4b1195e03a183589549b874544549fd7e8c8df1ddc9962", func := "concordance/concordancelaw22.UndoReplays", spec := "undoReplays", inPlace := ["slices.overlaps[concordance/order.pair[int, []concordance/undo.Entry]]", "internal/abi.NoEscape"], unfollowed := true, recurses := true, apart := false }
def UndoReplaysSaid : Prop := undoReplaysRow.holds Try.pinned (OpenSpec.ofChange undoReplaysSpec)

/-- ITS FALSE NEIGHBOUR: 'it returns false'. Refute it at one input. -/
def undoReplaysWrong : ChangeSpec := { name := "undoReplays", fn := fun _ => fun
  | [d1, d2, d3] => { results := [.lit (.bool false)], args := [d1, d2, d3] }
  | _ => none }
def UndoReplaysWrongFalsely : Prop := undoReplaysRow.holds Try.pinned (OpenSpec.ofChange undoReplaysWrong)

/-- 'concordancelaw22.UndoJoined': WHATEVER THE INPUT: true; the input reads as it did. -/
def undoJoinedSpec : ChangeSpec := { name := "undoJoined", fn := fun _ => fun
  | [d1, d2] => { results := [.lit (.bool true)], args := [d1, d2] }
  | _ => none }
def undoJoinedRow : OpenClaim := { program := "ytchpagboglomoaa", sum := "ddb6f944917ec8f57f4b1195e03a183589549b874544549fd7e8c8df1ddc9962", func := "concordance/concordancelaw22.UndoJoined", spec := "undoJoined", inPlace := ["slices.overlaps[concordance/order.pair[int, []concordance/undo.Entry]]", "internal/abi.NoEscape"], unfollowed := true, recurses := true, apart := false }
def UndoJoinedSaid : Prop := undoJoinedRow.holds Try.pinned (OpenSpec.ofChange undoJoinedSpec)

/-- ITS FALSE NEIGHBOUR: 'it returns false'. Refute it at one input. -/
def undoJoinedWrong : ChangeSpec := { name := "undoJoined", fn := fun _ => fun
  | [d1, d2] => { results := [.lit (.bool false)], args := [d1, d2] }
  | _ => none }
def UndoJoinedWrongFalsely : Prop := undoJoinedRow.holds Try.pinned (OpenSpec.ofChange undoJoinedWrong)

/- THE SECOND FORM. 'bulk': how many values and letters a reading holds, each counted each time it is reached (what is shared counts as often as it is met; a slice's spare places count too). A statement '..UptoSaid' is the law's where the arguments, and the package variables that the reading takes, are together of bulk at most 1048576: NARROWER than '..Said'. Prove '..Said' where nothing that the law and all that it calls make is longer than what came in: it says more and counts as full. Else prove '..UptoSaid'. A law counts once. -/
mutual
def uptoBulk {H : Type} : DataW H → Nat
  | .lit (.string bytes) => bytes.length + 1
  | .lit _ => 1
  | .nil => 1
  | .ptr d => uptoBulk d + 1
  | .slice elems spare => uptoBulkAll elems + uptoBulkAll spare + 1
  | .agg parts => uptoBulkAll parts + 1
  | .iface _ d => uptoBulk d + 1
  | .map entries => uptoBulkEntries entries + 1
  | .held _ => 1
def uptoBulkAll {H : Type} : List (DataW H) → Nat
  | [] => 0
  | d :: r => uptoBulk d + uptoBulkAll r
def uptoBulkEntries {H : Type} : List (Lit × DataW H) → Nat
  | [] => 0
  | x :: r => uptoBulkEntry x + uptoBulkEntries r
def uptoBulkEntry {H : Type} : Lit × DataW H → Nat
  | (.string bytes, d) => bytes.length + uptoBulk d + 1
  | (_, d) => uptoBulk d + 1
 end
def uptoSmall : (H : Type) → List (DataW H) → Bool := fun _ ds => decide (uptoBulkAll ds ≤ 1048576)
def OpenSpec.upto (s : _root_.Go.ChangeSpec) : _root_.Go.OpenSpec := { _root_.Go.OpenSpec.ofChange s with cond := some uptoSmall }

/-- 'concordancelaw22.UndoPlays', WHERE WHAT IT READS IS OF BULK AT MOST 1048576: true; the input reads as it did. -/
def undoPlaysUptoRow : OpenClaim := { program := "ytchpagboglomoaa", sum := "ddb6f944917ec8f57f4b1195e03a183589549b874544549fd7e8c8df1ddc9962", func := "concordance/concordancelaw22.UndoPlays", spec := "undoPlays", inPlace := ["slices.overlaps[concordance/order.pair[int, []concordance/undo.Entry]]", "internal/abi.NoEscape"], unfollowed := true, recurses := true, apart := false, narrowed := true }
def UndoPlaysUptoSaid : Prop := undoPlaysUptoRow.holds Try.pinned (OpenSpec.upto undoPlaysSpec)

/-- 'concordancelaw22.UndoLoads', WHERE WHAT IT READS IS OF BULK AT MOST 1048576: true; the input reads as it did. -/
def undoLoadsUptoRow : OpenClaim := { program := "ytchpagboglomoaa", sum := "ddb6f944917ec8f57f4b1195e03a183589549b874544549fd7e8c8df1ddc9962", func := "concordance/concordancelaw22.UndoLoads", spec := "undoLoads", inPlace := ["slices.overlaps[concordance/order.pair[int, []concordance/undo.Entry]]", "internal/abi.NoEscape"], unfollowed := true, recurses := true, apart := false, narrowed := true }
def UndoLoadsUptoSaid : Prop := undoLoadsUptoRow.holds Try.pinned (OpenSpec.upto undoLoadsSpec)

/-- 'concordancelaw22.UndoReplays', WHERE WHAT IT READS IS OF BULK AT MOST 1048576: true; the input reads as it did. -/
def undoReplaysUptoRow : OpenClaim := { program := "ytchpagboglomoaa", sum := "ddb6f944917ec8f57f4b1195e03a183589549b874544549fd7e8c8df1ddc9962", func := "concordance/concordancelaw22.UndoReplays", spec := "undoReplays", inPlace := ["slices.overlaps[concordance/order.pair[int, []concordance/undo.Entry]]", "internal/abi.NoEscape"], unfollowed := true, recurses := true, apart := false, narrowed := true }
def UndoReplaysUptoSaid : Prop := undoReplaysUptoRow.holds Try.pinned (OpenSpec.upto undoReplaysSpec)

/-- 'concordancelaw22.UndoJoined', WHERE WHAT IT READS IS OF BULK AT MOST 1048576: true; the input reads as it did. -/
def undoJoinedUptoRow : OpenClaim := { program := "ytchpagboglomoaa", sum := "ddb6f944917ec8f57f4b1195e03a183589549b874544549fd7e8c8df1ddc9962", func := "concordance/concordancelaw22.UndoJoined", spec := "undoJoined", inPlace := ["slices.overlaps[concordance/order.pair[int, []concordance/undo.Entry]]", "internal/abi.NoEscape"], unfollowed := true, recurses := true, apart := false, narrowed := true }
def UndoJoinedUptoSaid : Prop := undoJoinedUptoRow.holds Try.pinned (OpenSpec.upto undoJoinedSpec)

end Rows
end Go.Proofs.Ytchpagboglomoaa
