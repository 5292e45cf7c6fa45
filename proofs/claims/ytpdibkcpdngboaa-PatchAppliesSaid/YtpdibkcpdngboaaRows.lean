/-
  No cell of these rows narrows 'for every input' (looked for: loops, veiled, ifaces, maps, wideKeys, modest, calm, conditions, laid).
  DERIVED. THE GIVEN ROWS OF THIS SEAT. 5 by the template 'for every input the law returns true; each argument reads behind the call as it read before'; 0 by the template 'total and deterministic' (their statements: YtpdibkcpdngboaaTotals.lean).
  GIVEN WITH THE SEED: the statements are not yours to turn. If you find one false, say at which input.
  Laid BY PROGRAM, IN A SANDBOX (cutbox-rows.mjs): the forced cells as the released guide's own fill.sh prints them over the translation 46f8819072508c5a… (all of the seat's roots in one cut). By AI agents, Wed Nov 11 2026. No macro, syntax, notation, axiom, sorry.
-/
import Derived.Test.YtpdibkcpdngboaaChecked
import GoSem.Claim
import GoSem.ClaimJoined
import GoSem.ClaimMapViews
import Derived.JoinedTies
import Derived.KernelRfl
namespace Go.Proofs.Ytpdibkcpdngboaa
/- THE CELL 'sum', in the pinned program and in every row, IS THE sha256 OF THE DUMP (.gsa) THAT YtpdibkcpdngboaaProg.lean LOADS. Nothing in Lean hashes anything: it is a label: what it is worth is what the hold of that sum in a sandbox is worth. -/
noncomputable def Try.pinned : Pinned := { name := "ytpdibkcpdngboaa", sum := "46f8819072508c5a29c010b2e7908dc44101f8055ad2ce7f07dd0444993514d4", checked := Try.checked }
namespace Rows
def none {H : Type} : Left H := { results := [], args := [] }

/-- 'concordancelaw06.PatchChains': WHATEVER THE INPUT: true; the input reads as it did. -/
def patchChainsSpec : ChangeSpec := { name := "patchChains", fn := fun _ => fun
  | [d] => { results := [.lit (.bool true)], args := [d] }
  | _ => none }
def patchChainsRow : OpenClaim := { program := "ytpdibkcpdngboaa", sum := "46f8819072508c5a29c010b2e7908dc44101f8055ad2ce7f07dd0444993514d4", func := "concordance/concordancelaw06.PatchChains", spec := "patchChains", apart := false }
def PatchChainsSaid : Prop := patchChainsRow.holds Try.pinned (OpenSpec.ofChange patchChainsSpec)

/-- ITS FALSE NEIGHBOUR: 'it returns false'. Refute it at one input. -/
def patchChainsWrong : ChangeSpec := { name := "patchChains", fn := fun _ => fun
  | [d] => { results := [.lit (.bool false)], args := [d] }
  | _ => none }
def PatchChainsWrongFalsely : Prop := patchChainsRow.holds Try.pinned (OpenSpec.ofChange patchChainsWrong)

/-- 'concordancelaw06.PatchBack': WHATEVER THE INPUT: true; the input reads as it did. -/
def patchBackSpec : ChangeSpec := { name := "patchBack", fn := fun _ => fun
  | [d1, d2] => { results := [.lit (.bool true)], args := [d1, d2] }
  | _ => none }
def patchBackRow : OpenClaim := { program := "ytpdibkcpdngboaa", sum := "46f8819072508c5a29c010b2e7908dc44101f8055ad2ce7f07dd0444993514d4", func := "concordance/concordancelaw06.PatchBack", spec := "patchBack", apart := false }
def PatchBackSaid : Prop := patchBackRow.holds Try.pinned (OpenSpec.ofChange patchBackSpec)

/-- ITS FALSE NEIGHBOUR: 'it returns false'. Refute it at one input. -/
def patchBackWrong : ChangeSpec := { name := "patchBack", fn := fun _ => fun
  | [d1, d2] => { results := [.lit (.bool false)], args := [d1, d2] }
  | _ => none }
def PatchBackWrongFalsely : Prop := patchBackRow.holds Try.pinned (OpenSpec.ofChange patchBackWrong)

/-- 'concordancelaw06.PatchApplies': WHATEVER THE INPUT: true; the input reads as it did. -/
def patchAppliesSpec : ChangeSpec := { name := "patchApplies", fn := fun _ => fun
  | [d1, d2] => { results := [.lit (.bool true)], args := [d1, d2] }
  | _ => none }
def patchAppliesRow : OpenClaim := { program := "ytpdibkcpdngboaa", sum := "46f8819072508c5a29c010b2e7908dc44101f8055ad2ce7f07dd0444993514d4", func := "concordance/concordancelaw06.PatchApplies", spec := "patchApplies", inPlace := ["internal/abi.NoEscape"], apart := false }
def PatchAppliesSaid : Prop := patchAppliesRow.holds Try.pinned (OpenSpec.ofChange patchAppliesSpec)

/-- ITS FALSE NEIGHBOUR: 'it returns false'. Refute it at one input. -/
def patchAppliesWrong : ChangeSpec := { name := "patchApplies", fn := fun _ => fun
  | [d1, d2] => { results := [.lit (.bool false)], args := [d1, d2] }
  | _ => none }
def PatchAppliesWrongFalsely : Prop := patchAppliesRow.holds Try.pinned (OpenSpec.ofChange patchAppliesWrong)

/-- 'concordancelaw06.PatchDiffs': WHATEVER THE INPUT: true; the input reads as it did. -/
def patchDiffsSpec : ChangeSpec := { name := "patchDiffs", fn := fun _ => fun
  | [d1, d2] => { results := [.lit (.bool true)], args := [d1, d2] }
  | _ => none }
def patchDiffsRow : OpenClaim := { program := "ytpdibkcpdngboaa", sum := "46f8819072508c5a29c010b2e7908dc44101f8055ad2ce7f07dd0444993514d4", func := "concordance/concordancelaw06.PatchDiffs", spec := "patchDiffs", inPlace := ["internal/abi.NoEscape"], apart := false }
def PatchDiffsSaid : Prop := patchDiffsRow.holds Try.pinned (OpenSpec.ofChange patchDiffsSpec)

/-- ITS FALSE NEIGHBOUR: 'it returns false'. Refute it at one input. -/
def patchDiffsWrong : ChangeSpec := { name := "patchDiffs", fn := fun _ => fun
  | [d1, d2] => { results := [.lit (.bool false)], args := [d1, d2] }
  | _ => none }
def PatchDiffsWrongFalsely : Prop := patchDiffsRow.holds Try.pinned (OpenSpec.ofChange patchDiffsWrong)

/-- 'concordancelaw06.PatchGets': WHATEVER THE INPUT: true; the input reads as it did. -/
def patchGetsSpec : ChangeSpec := { name := "patchGets", fn := fun _ => fun
  | [d] => { results := [.lit (.bool true)], args := [d] }
  | _ => none }
def patchGetsRow : OpenClaim := { program := "ytpdibkcpdngboaa", sum := "46f8819072508c5a29c010b2e7908dc44101f8055ad2ce7f07dd0444993514d4", func := "concordance/concordancelaw06.PatchGets", spec := "patchGets", inPlace := ["internal/abi.NoEscape"], apart := false }
def PatchGetsSaid : Prop := patchGetsRow.holds Try.pinned (OpenSpec.ofChange patchGetsSpec)

/-- ITS FALSE NEIGHBOUR: 'it returns false'. Refute it at one input. -/
def patchGetsWrong : ChangeSpec := { name := "patchGets", fn := fun _ => fun
  | [d] => { results := [.lit (.bool false)], args := [d] }
  | _ => none }
def PatchGetsWrongFalsely : Prop := patchGetsRow.holds Try.pinned (OpenSpec.ofChange patchGetsWrong)

/- THE SECOND FORM. 'bulk': how many values and letters a reading holds, each counted each time it is reached (what is shared counts as often as it is met; a slice's spare places count too). A statement '..UptoSaid' is the law's where the arguments, and the package variables that the reading takes, are together of bulk at most 1048576: NARROWER than '..Said'. Prove '..Said' where nothing that the law and all that it calls make is longer than what came in: it says more and counts as full. Else prove '..UptoSaid'. A law counts once. -/
mutual
def uptoBulk {H : Type} : DataW H → Nat
  | .lit (.string bytes) => bytes.length + 1
  | .lit _ => 1
  | .nil => 1
  | .ptr d => uptoBulk d + 1
  | .slice elems spare => uptoBulkAll elems + uptoBulkAll spare + 1
  | .agg parts => uptoBulkAll parts + 1
  | .iface _ d => uptoBulk d + 1
  | .map entries => uptoBulkEntries entries + 1
  | .held _ => 1
def uptoBulkAll {H : Type} : List (DataW H) → Nat
  | [] => 0
  | d :: r => uptoBulk d + uptoBulkAll r
def uptoBulkEntries {H : Type} : List (Lit × DataW H) → Nat
  | [] => 0
  | x :: r => uptoBulkEntry x + uptoBulkEntries r
def uptoBulkEntry {H : Type} : Lit × DataW H → Nat
  | (.string bytes, d) => bytes.length + uptoBulk d + 1
  | (_, d) => uptoBulk d + 1
 end
def uptoSmall : (H : Type) → List (DataW H) → Bool := fun _ ds => decide (uptoBulkAll ds ≤ 1048576)
def OpenSpec.upto (s : _root_.Go.ChangeSpec) : _root_.Go.OpenSpec := { _root_.Go.OpenSpec.ofChange s with cond := some uptoSmall }

/-- 'concordancelaw06.PatchChains', WHERE WHAT IT READS IS OF BULK AT MOST 1048576: true; the input reads as it did. -/
def patchChainsUptoRow : OpenClaim := { program := "ytpdibkcpdngboaa", sum := "46f8819072508c5a29c010b2e7908dc44101f8055ad2ce7f07dd0444993514d4", func := "concordance/concordancelaw06.PatchChains", spec := "patchChains", apart := false, narrowed := true }
def PatchChainsUptoSaid : Prop := patchChainsUptoRow.holds Try.pinned (OpenSpec.upto patchChainsSpec)

/-- 'concordancelaw06.PatchBack', WHERE WHAT IT READS IS OF BULK AT MOST 1048576: true; the input reads as it did. -/
def patchBackUptoRow : OpenClaim := { program := "ytpdibkcpdngboaa", sum := "46f8819072508c5a29c010b2e7908dc44101f8055ad2ce7f07dd0444993514d4", func := "concordance/concordancelaw06.PatchBack", spec := "patchBack", apart := false, narrowed := true }
def PatchBackUptoSaid : Prop := patchBackUptoRow.holds Try.pinned (OpenSpec.upto patchBackSpec)

/-- 'concordancelaw06.PatchApplies', WHERE WHAT IT READS IS OF BULK AT MOST 1048576: true; the input reads as it did. -/
def patchAppliesUptoRow : OpenClaim := { program := "ytpdibkcpdngboaa", sum := "46f8819072508c5a29c010b2e7908dc44101f8055ad2ce7f07dd0444993514d4", func := "concordance/concordancelaw06.PatchApplies", spec := "patchApplies", inPlace := ["internal/abi.NoEscape"], apart := false, narrowed := true }
def PatchAppliesUptoSaid : Prop := patchAppliesUptoRow.holds Try.pinned (OpenSpec.upto patchAppliesSpec)

/-- 'concordancelaw06.PatchDiffs', WHERE WHAT IT READS IS OF BULK AT MOST 1048576: true; the input reads as it did. -/
def patchDiffsUptoRow : OpenClaim := { program := "ytpdibkcpdngboaa", sum := "46f8819072508c5a29c010b2e7908dc44101f8055ad2ce7f07dd0444993514d4", func := "concordance/concordancelaw06.PatchDiffs", spec := "patchDiffs", inPlace := ["internal/abi.NoEscape"], apart := false, narrowed := true }
def PatchDiffsUptoSaid : Prop := patchDiffsUptoRow.holds Try.pinned (OpenSpec.upto patchDiffsSpec)

/-- 'concordancelaw06.PatchGets', WHERE WHAT IT READS IS OF BULK AT MOST 1048576: true; the input reads as it did. -/
def patchGetsUptoRow : OpenClaim := { program := "ytpdibkcpdngboaa", sum := "46f8819072508c5a29c010b2e7908dc44101f8055ad2ce7f07dd0444993514d4", func := "concordance/concordancelaw06.PatchGets", spec := "patchGets", inPlace := ["internal/abi.NoEscape"], apart := false, narrowed := true }
def PatchGetsUptoSaid : Prop := patchGetsUptoRow.holds Try.pinned (OpenSpec.upto patchGetsSpec)

end Rows
end Go.Proofs.Ytpdibkcpdngboaa
