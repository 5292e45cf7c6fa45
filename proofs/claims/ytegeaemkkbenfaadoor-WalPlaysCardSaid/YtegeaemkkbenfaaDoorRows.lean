/-
  NARROWER THAN 'FOR EVERY INPUT', by the rows' own cells (each row's printed sentence says how): WalFull: laid · WalRefuses: laid · WalReads: laid · WalSwitches: laid · WalPlays: laid.
  DERIVED. THE GIVEN ROWS OF THIS SEAT. 5 by the template 'for every input the law returns true; each argument reads behind the call as it read before'; 0 by the template 'total and deterministic' (their statements: YtegeaemkkbenfaaDoorTotals.lean).
  GIVEN WITH THE SEED: the statements are not yours to turn. If you find one false, say at which input.
  Laid BY PROGRAM, IN A SANDBOX (cutbox-rows.mjs): the forced cells as the released guide's own fill.sh prints them over the translation 54064cb50b3c063c… (all of the seat's roots in one cut). By AI agents, Wed Nov 11 2026. No macro, syntax, notation, axiom, sorry.
-/
import Derived.Test.YtegeaemkkbenfaaDoorChecked
import GoSem.Claim
import GoSem.ClaimJoined
import GoSem.ClaimMapViews
import Derived.JoinedTies
import Derived.KernelRfl
namespace Go.Proofs.YtegeaemkkbenfaaDoor
/- THE CELL 'sum', in the pinned program and in every row, IS THE sha256 OF THE DUMP (.gsa) THAT YtegeaemkkbenfaaDoorProg.lean LOADS. Nothing in Lean hashes anything: it is a label: what it is worth is what the hold of that sum in a sandbox is worth. -/
noncomputable def Tryd.pinned : Pinned := { name := "ytegeaemkkbenfaadoor", sum := "54064cb50b3c063cc9942c8d144f3d978ff2d9fd9235d0d298c540f0c8be77b2", checked := Tryd.checked }
namespace Rows
def none {H : Type} : Left H := { results := [], args := [] }

/- WHAT THE LISTED PACKAGE-LEVEL VARIABLES READ AS WHEN THE CALL BEGINS. Each datum BY PROGRAM (the guide's laid-datum.mjs) off the statement by which the dump's own 'gosem.cut.vars' lays the variable. In a bare row this is a premise. The card (YtegeaemkkbenfaaDoorCards.lean) ties it to the program's text. -/
def laid_concordance_sum_turns {H : Type} : DataW H := .agg [.lit (.int .u32 0), .lit (.int .u32 498536548), .lit (.int .u32 997073096), .lit (.int .u32 651767980), .lit (.int .u32 1994146192), .lit (.int .u32 1802195444), .lit (.int .u32 1303535960), .lit (.int .u32 1342533948), .lit (.int .u32 3988292384), .lit (.int .u32 4027552580), .lit (.int .u32 3604390888), .lit (.int .u32 3412177804), .lit (.int .u32 2607071920), .lit (.int .u32 2262029012), .lit (.int .u32 2685067896), .lit (.int .u32 3183342108)]

/-- 'concordancelaw08.WalFull': WHATEVER THE INPUT: true; the input reads as it did. -/
def walFullSpec : ChangeSpec := { name := "walFull", fn := fun _ => fun
  | [d1, d2] => { results := [.lit (.bool true)], args := [d1, d2] }
  | _ => none }
def walFullRow : OpenClaim := { program := "ytegeaemkkbenfaadoor", sum := "54064cb50b3c063cc9942c8d144f3d978ff2d9fd9235d0d298c540f0c8be77b2", func := "concordance/concordancelaw08.WalFull", spec := "walFull", inPlace := ["internal/abi.NoEscape", "internal/bytealg.MakeNoZero"], unfollowed := true, recurses := true, named := ["concordance/sum.turns"], apart := false, laid := [("concordance/sum.turns", laid_concordance_sum_turns)] }
def WalFullSaid : Prop := walFullRow.holds Tryd.pinned (OpenSpec.ofChange walFullSpec)

/-- ITS FALSE NEIGHBOUR: 'it returns false'. Refute it at one input. -/
def walFullWrong : ChangeSpec := { name := "walFull", fn := fun _ => fun
  | [d1, d2] => { results := [.lit (.bool false)], args := [d1, d2] }
  | _ => none }
def WalFullWrongFalsely : Prop := walFullRow.holds Tryd.pinned (OpenSpec.ofChange walFullWrong)

/-- 'concordancelaw08.WalRefuses': WHATEVER THE INPUT: true; the input reads as it did. -/
def walRefusesSpec : ChangeSpec := { name := "walRefuses", fn := fun _ => fun
  | [d1, d2, d3] => { results := [.lit (.bool true)], args := [d1, d2, d3] }
  | _ => none }
def walRefusesRow : OpenClaim := { program := "ytegeaemkkbenfaadoor", sum := "54064cb50b3c063cc9942c8d144f3d978ff2d9fd9235d0d298c540f0c8be77b2", func := "concordance/concordancelaw08.WalRefuses", spec := "walRefuses", inPlace := ["internal/abi.NoEscape", "internal/bytealg.MakeNoZero"], unfollowed := true, recurses := true, named := ["concordance/sum.turns"], apart := false, laid := [("concordance/sum.turns", laid_concordance_sum_turns)] }
def WalRefusesSaid : Prop := walRefusesRow.holds Tryd.pinned (OpenSpec.ofChange walRefusesSpec)

/-- ITS FALSE NEIGHBOUR: 'it returns false'. Refute it at one input. -/
def walRefusesWrong : ChangeSpec := { name := "walRefuses", fn := fun _ => fun
  | [d1, d2, d3] => { results := [.lit (.bool false)], args := [d1, d2, d3] }
  | _ => none }
def WalRefusesWrongFalsely : Prop := walRefusesRow.holds Tryd.pinned (OpenSpec.ofChange walRefusesWrong)

/-- 'concordancelaw08.WalReads': WHATEVER THE INPUT: true; the input reads as it did. -/
def walReadsSpec : ChangeSpec := { name := "walReads", fn := fun _ => fun
  | [d1, d2] => { results := [.lit (.bool true)], args := [d1, d2] }
  | _ => none }
def walReadsRow : OpenClaim := { program := "ytegeaemkkbenfaadoor", sum := "54064cb50b3c063cc9942c8d144f3d978ff2d9fd9235d0d298c540f0c8be77b2", func := "concordance/concordancelaw08.WalReads", spec := "walReads", inPlace := ["internal/abi.NoEscape", "internal/bytealg.MakeNoZero"], unfollowed := true, recurses := true, named := ["concordance/sum.turns"], apart := false, laid := [("concordance/sum.turns", laid_concordance_sum_turns)] }
def WalReadsSaid : Prop := walReadsRow.holds Tryd.pinned (OpenSpec.ofChange walReadsSpec)

/-- ITS FALSE NEIGHBOUR: 'it returns false'. Refute it at one input. -/
def walReadsWrong : ChangeSpec := { name := "walReads", fn := fun _ => fun
  | [d1, d2] => { results := [.lit (.bool false)], args := [d1, d2] }
  | _ => none }
def WalReadsWrongFalsely : Prop := walReadsRow.holds Tryd.pinned (OpenSpec.ofChange walReadsWrong)

/-- 'concordancelaw08.WalSwitches': WHATEVER THE INPUT: true; the input reads as it did. -/
def walSwitchesSpec : ChangeSpec := { name := "walSwitches", fn := fun _ => fun
  | [d] => { results := [.lit (.bool true)], args := [d] }
  | _ => none }
def walSwitchesRow : OpenClaim := { program := "ytegeaemkkbenfaadoor", sum := "54064cb50b3c063cc9942c8d144f3d978ff2d9fd9235d0d298c540f0c8be77b2", func := "concordance/concordancelaw08.WalSwitches", spec := "walSwitches", inPlace := ["internal/abi.NoEscape", "internal/bytealg.MakeNoZero"], unfollowed := true, recurses := true, named := ["concordance/sum.turns"], apart := false, laid := [("concordance/sum.turns", laid_concordance_sum_turns)] }
def WalSwitchesSaid : Prop := walSwitchesRow.holds Tryd.pinned (OpenSpec.ofChange walSwitchesSpec)

/-- ITS FALSE NEIGHBOUR: 'it returns false'. Refute it at one input. -/
def walSwitchesWrong : ChangeSpec := { name := "walSwitches", fn := fun _ => fun
  | [d] => { results := [.lit (.bool false)], args := [d] }
  | _ => none }
def WalSwitchesWrongFalsely : Prop := walSwitchesRow.holds Tryd.pinned (OpenSpec.ofChange walSwitchesWrong)

/-- 'concordancelaw08.WalPlays': WHATEVER THE INPUT: true; the input reads as it did. -/
def walPlaysSpec : ChangeSpec := { name := "walPlays", fn := fun _ => fun
  | [d1, d2] => { results := [.lit (.bool true)], args := [d1, d2] }
  | _ => none }
def walPlaysRow : OpenClaim := { program := "ytegeaemkkbenfaadoor", sum := "54064cb50b3c063cc9942c8d144f3d978ff2d9fd9235d0d298c540f0c8be77b2", func := "concordance/concordancelaw08.WalPlays", spec := "walPlays", inPlace := ["internal/abi.NoEscape", "internal/bytealg.MakeNoZero"], unfollowed := true, recurses := true, named := ["concordance/sum.turns"], apart := false, laid := [("concordance/sum.turns", laid_concordance_sum_turns)] }
def WalPlaysSaid : Prop := walPlaysRow.holds Tryd.pinned (OpenSpec.ofChange walPlaysSpec)

/-- ITS FALSE NEIGHBOUR: 'it returns false'. Refute it at one input. -/
def walPlaysWrong : ChangeSpec := { name := "walPlays", fn := fun _ => fun
  | [d1, d2] => { results := [.lit (.bool false)], args := [d1, d2] }
  | _ => none }
def WalPlaysWrongFalsely : Prop := walPlaysRow.holds Tryd.pinned (OpenSpec.ofChange walPlaysWrong)

/- THE SECOND FORM. 'bulk': how many values and letters a reading holds, each counted each time it is reached (what is shared counts as often as it is met; a slice's spare places count too). A statement '..UptoSaid' is the law's where the arguments, and the package variables that the reading takes, are together of bulk at most 1048576: NARROWER than '..Said'. Prove '..Said' where nothing that the law and all that it calls make is longer than what came in: it says more and counts as full. Else prove '..UptoSaid'. A law counts once. -/
mutual
def uptoBulk {H : Type} : DataW H → Nat
  | .lit (.string bytes) => bytes.length + 1
  | .lit _ => 1
  | .nil => 1
  | .ptr d => uptoBulk d + 1
  | .slice elems spare => uptoBulkAll elems + uptoBulkAll spare + 1
  | .agg parts => uptoBulkAll parts + 1
  | .iface _ d => uptoBulk d + 1
  | .map entries => uptoBulkEntries entries + 1
  | .held _ => 1
def uptoBulkAll {H : Type} : List (DataW H) → Nat
  | [] => 0
  | d :: r => uptoBulk d + uptoBulkAll r
def uptoBulkEntries {H : Type} : List (Lit × DataW H) → Nat
  | [] => 0
  | x :: r => uptoBulkEntry x + uptoBulkEntries r
def uptoBulkEntry {H : Type} : Lit × DataW H → Nat
  | (.string bytes, d) => bytes.length + uptoBulk d + 1
  | (_, d) => uptoBulk d + 1
 end
def uptoSmall : (H : Type) → List (DataW H) → Bool := fun _ ds => decide (uptoBulkAll ds ≤ 1048576)
def OpenSpec.upto (s : _root_.Go.ChangeSpec) : _root_.Go.OpenSpec := { _root_.Go.OpenSpec.ofChange s with cond := some uptoSmall }

/-- 'concordancelaw08.WalFull', WHERE WHAT IT READS IS OF BULK AT MOST 1048576: true; the input reads as it did. -/
def walFullUptoRow : OpenClaim := { program := "ytegeaemkkbenfaadoor", sum := "54064cb50b3c063cc9942c8d144f3d978ff2d9fd9235d0d298c540f0c8be77b2", func := "concordance/concordancelaw08.WalFull", spec := "walFull", inPlace := ["internal/abi.NoEscape", "internal/bytealg.MakeNoZero"], unfollowed := true, recurses := true, named := ["concordance/sum.turns"], apart := false, laid := [("concordance/sum.turns", laid_concordance_sum_turns)], narrowed := true }
def WalFullUptoSaid : Prop := walFullUptoRow.holds Tryd.pinned (OpenSpec.upto walFullSpec)

/-- 'concordancelaw08.WalRefuses', WHERE WHAT IT READS IS OF BULK AT MOST 1048576: true; the input reads as it did. -/
def walRefusesUptoRow : OpenClaim := { program := "ytegeaemkkbenfaadoor", sum := "54064cb50b3c063cc9942c8d144f3d978ff2d9fd9235d0d298c540f0c8be77b2", func := "concordance/concordancelaw08.WalRefuses", spec := "walRefuses", inPlace := ["internal/abi.NoEscape", "internal/bytealg.MakeNoZero"], unfollowed := true, recurses := true, named := ["concordance/sum.turns"], apart := false, laid := [("concordance/sum.turns", laid_concordance_sum_turns)], narrowed := true }
def WalRefusesUptoSaid : Prop := walRefusesUptoRow.holds Tryd.pinned (OpenSpec.upto walRefusesSpec)

/-- 'concordancelaw08.WalReads', WHERE WHAT IT READS IS OF BULK AT MOST 1048576: true; the input reads as it did. -/
def walReadsUptoRow : OpenClaim := { program := "ytegeaemkkbenfaadoor", sum := "54064cb50b3c063cc9942c8d144f3d978ff2d9fd9235d0d298c540f0c8be77b2", func := "concordance/concordancelaw08.WalReads", spec := "walReads", inPlace := ["internal/abi.NoEscape", "internal/bytealg.MakeNoZero"], unfollowed := true, recurses := true, named := ["concordance/sum.turns"], apart := false, laid := [("concordance/sum.turns", laid_concordance_sum_turns)], narrowed := true }
def WalReadsUptoSaid : Prop := walReadsUptoRow.holds Tryd.pinned (OpenSpec.upto walReadsSpec)

/-- 'concordancelaw08.WalSwitches', WHERE WHAT IT READS IS OF BULK AT MOST 1048576: true; the input reads as it did. -/
def walSwitchesUptoRow : OpenClaim := { program := "ytegeaemkkbenfaadoor", sum := "54064cb50b3c063cc9942c8d144f3d978ff2d9fd9235d0d298c540f0c8be77b2", func := "concordance/concordancelaw08.WalSwitches", spec := "walSwitches", inPlace := ["internal/abi.NoEscape", "internal/bytealg.MakeNoZero"], unfollowed := true, recurses := true, named := ["concordance/sum.turns"], apart := false, laid := [("concordance/sum.turns", laid_concordance_sum_turns)], narrowed := true }
def WalSwitchesUptoSaid : Prop := walSwitchesUptoRow.holds Tryd.pinned (OpenSpec.upto walSwitchesSpec)

/-- 'concordancelaw08.WalPlays', WHERE WHAT IT READS IS OF BULK AT MOST 1048576: true; the input reads as it did. -/
def walPlaysUptoRow : OpenClaim := { program := "ytegeaemkkbenfaadoor", sum := "54064cb50b3c063cc9942c8d144f3d978ff2d9fd9235d0d298c540f0c8be77b2", func := "concordance/concordancelaw08.WalPlays", spec := "walPlays", inPlace := ["internal/abi.NoEscape", "internal/bytealg.MakeNoZero"], unfollowed := true, recurses := true, named := ["concordance/sum.turns"], apart := false, laid := [("concordance/sum.turns", laid_concordance_sum_turns)], narrowed := true }
def WalPlaysUptoSaid : Prop := walPlaysUptoRow.holds Tryd.pinned (OpenSpec.upto walPlaysSpec)

end Rows
end Go.Proofs.YtegeaemkkbenfaaDoor
