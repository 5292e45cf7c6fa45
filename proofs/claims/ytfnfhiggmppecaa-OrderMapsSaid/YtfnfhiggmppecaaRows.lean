/-
  No cell of these rows narrows 'for every input' (looked for: loops, veiled, ifaces, maps, wideKeys, modest, calm, conditions, laid).
  DERIVED. THE GIVEN ROWS OF THIS SEAT. 4 by the template 'for every input the law returns true; each argument reads behind the call as it read before'; 0 by the template 'total and deterministic' (their statements: YtfnfhiggmppecaaTotals.lean).
  GIVEN WITH THE SEED: the statements are not yours to turn. If you find one false, say at which input.
  Laid BY PROGRAM, IN A SANDBOX (cutbox-rows.mjs): the forced cells as the released guide's own fill.sh prints them over the translation c4f8ad063a3f875f… (all of the seat's roots in one cut). By AI agents, Wed Nov 11 2026. No macro, syntax, notation, axiom, sorry.
-/
import Derived.Test.YtfnfhiggmppecaaChecked
import GoSem.Claim
import GoSem.ClaimJoined
import GoSem.ClaimMapViews
import Derived.JoinedTies
import Derived.KernelRfl
namespace Go.Proofs.Ytfnfhiggmppecaa
/- THE CELL 'sum', in the pinned program and in every row, IS THE sha256 OF THE DUMP (.gsa) THAT YtfnfhiggmppecaaProg.lean LOADS. Nothing in Lean hashes anything: it is a label: what it is worth is what the hold of that sum in a sandbox is worth. -/
noncomputable def Try.pinned : Pinned := { name := "ytfnfhiggmppecaa", sum := "c4f8ad063a3f875f717425cc43b94181c541c74efd23b95768e65e1df8fa4fae", checked := Try.checked }
namespace Rows
def none {H : Type} : Left H := { results := [], args := [] }

/-- 'concordancelaw04.OrderRecents': WHATEVER THE INPUT: true; the input reads as it did. -/
def orderRecentsSpec : ChangeSpec := { name := "orderRecents", fn := fun _ => fun
  | [d] => { results := [.lit (.bool true)], args := [d] }
  | _ => none }
def orderRecentsRow : OpenClaim := { program := "ytfnfhiggmppecaa", sum := "c4f8ad063a3f875f717425cc43b94181c541c74efd23b95768e65e1df8fa4fae", func := "concordance/concordancelaw04.OrderRecents", spec := "orderRecents", inPlace := ["slices.overlaps[concordance/order.pair[string, int]]"], unfollowed := true, recurses := true, apart := false }
def OrderRecentsSaid : Prop := orderRecentsRow.holds Try.pinned (OpenSpec.ofChange orderRecentsSpec)

/-- ITS FALSE NEIGHBOUR: 'it returns false'. Refute it at one input. -/
def orderRecentsWrong : ChangeSpec := { name := "orderRecents", fn := fun _ => fun
  | [d] => { results := [.lit (.bool false)], args := [d] }
  | _ => none }
def OrderRecentsWrongFalsely : Prop := orderRecentsRow.holds Try.pinned (OpenSpec.ofChange orderRecentsWrong)

/-- 'concordancelaw04.OrderNumbers': WHATEVER THE INPUT: true; the input reads as it did. -/
def orderNumbersSpec : ChangeSpec := { name := "orderNumbers", fn := fun _ => fun
  | [d1, d2] => { results := [.lit (.bool true)], args := [d1, d2] }
  | _ => none }
def orderNumbersRow : OpenClaim := { program := "ytfnfhiggmppecaa", sum := "c4f8ad063a3f875f717425cc43b94181c541c74efd23b95768e65e1df8fa4fae", func := "concordance/concordancelaw04.OrderNumbers", spec := "orderNumbers", inPlace := ["slices.overlaps[concordance/order.pair[string, int]]", "slices.overlaps[concordance/order.pair[int, int]]"], unfollowed := true, recurses := true, apart := false }
def OrderNumbersSaid : Prop := orderNumbersRow.holds Try.pinned (OpenSpec.ofChange orderNumbersSpec)

/-- ITS FALSE NEIGHBOUR: 'it returns false'. Refute it at one input. -/
def orderNumbersWrong : ChangeSpec := { name := "orderNumbers", fn := fun _ => fun
  | [d1, d2] => { results := [.lit (.bool false)], args := [d1, d2] }
  | _ => none }
def OrderNumbersWrongFalsely : Prop := orderNumbersRow.holds Try.pinned (OpenSpec.ofChange orderNumbersWrong)

/-- 'concordancelaw04.OrderTurned': WHATEVER THE INPUT: true; the input reads as it did. -/
def orderTurnedSpec : ChangeSpec := { name := "orderTurned", fn := fun _ => fun
  | [d] => { results := [.lit (.bool true)], args := [d] }
  | _ => none }
def orderTurnedRow : OpenClaim := { program := "ytfnfhiggmppecaa", sum := "c4f8ad063a3f875f717425cc43b94181c541c74efd23b95768e65e1df8fa4fae", func := "concordance/concordancelaw04.OrderTurned", spec := "orderTurned", inPlace := ["slices.overlaps[concordance/order.pair[string, int]]"], unfollowed := true, recurses := true, apart := false }
def OrderTurnedSaid : Prop := orderTurnedRow.holds Try.pinned (OpenSpec.ofChange orderTurnedSpec)

/-- ITS FALSE NEIGHBOUR: 'it returns false'. Refute it at one input. -/
def orderTurnedWrong : ChangeSpec := { name := "orderTurned", fn := fun _ => fun
  | [d] => { results := [.lit (.bool false)], args := [d] }
  | _ => none }
def OrderTurnedWrongFalsely : Prop := orderTurnedRow.holds Try.pinned (OpenSpec.ofChange orderTurnedWrong)

/-- 'concordancelaw04.OrderMaps': WHATEVER THE INPUT: true; the input reads as it did. -/
def orderMapsSpec : ChangeSpec := { name := "orderMaps", fn := fun _ => fun
  | [d1, d2] => { results := [.lit (.bool true)], args := [d1, d2] }
  | _ => none }
def orderMapsRow : OpenClaim := { program := "ytfnfhiggmppecaa", sum := "c4f8ad063a3f875f717425cc43b94181c541c74efd23b95768e65e1df8fa4fae", func := "concordance/concordancelaw04.OrderMaps", spec := "orderMaps", inPlace := ["slices.overlaps[concordance/order.pair[string, int]]"], unfollowed := true, recurses := true, apart := false }
def OrderMapsSaid : Prop := orderMapsRow.holds Try.pinned (OpenSpec.ofChange orderMapsSpec)

/-- ITS FALSE NEIGHBOUR: 'it returns false'. Refute it at one input. -/
def orderMapsWrong : ChangeSpec := { name := "orderMaps", fn := fun _ => fun
  | [d1, d2] => { results := [.lit (.bool false)], args := [d1, d2] }
  | _ => none }
def OrderMapsWrongFalsely : Prop := orderMapsRow.holds Try.pinned (OpenSpec.ofChange orderMapsWrong)

/- THE SECOND FORM. 'bulk': how many values and letters a reading holds, each counted each time it is reached (what is shared counts as often as it is met; a slice's spare places count too). A statement '..UptoSaid' is the law's where the arguments, and the package variables that the reading takes, are together of bulk at most 1048576: NARROWER than '..Said'. Prove '..Said' where nothing that the law and all that it calls make is longer than what came in: it says more and counts as full. Else prove '..UptoSaid'. A law counts once. -/
mutual
def uptoBulk {H : Type} : DataW H → Nat
  | .lit (.string bytes) => bytes.length + 1
  | .lit _ => 1
  | .nil => 1
  | .ptr d => uptoBulk d + 1
  | .slice elems spare => uptoBulkAll elems + uptoBulkAll spare + 1
  | .agg parts => uptoBulkAll parts + 1
  | .iface _ d => uptoBulk d + 1
  | .map entries => uptoBulkEntries entries + 1
  | .held _ => 1
def uptoBulkAll {H : Type} : List (DataW H) → Nat
  | [] => 0
  | d :: r => uptoBulk d + uptoBulkAll r
def uptoBulkEntries {H : Type} : List (Lit × DataW H) → Nat
  | [] => 0
  | x :: r => uptoBulkEntry x + uptoBulkEntries r
def uptoBulkEntry {H : Type} : Lit × DataW H → Nat
  | (.string bytes, d) => bytes.length + uptoBulk d + 1
  | (_, d) => uptoBulk d + 1
 end
def uptoSmall : (H : Type) → List (DataW H) → Bool := fun _ ds => decide (uptoBulkAll ds ≤ 1048576)
def OpenSpec.upto (s : _root_.Go.ChangeSpec) : _root_.Go.OpenSpec := { _root_.Go.OpenSpec.ofChange s with cond := some uptoSmall }

/-- 'concordancelaw04.OrderRecents', WHERE WHAT IT READS IS OF BULK AT MOST 1048576: true; the input reads as it did. -/
def orderRecentsUptoRow : OpenClaim := { program := "ytfnfhiggmppecaa", sum := "c4f8ad063a3f875f717425cc43b94181c541c74efd23b95768e65e1df8fa4fae", func := "concordance/concordancelaw04.OrderRecents", spec := "orderRecents", inPlace := ["slices.overlaps[concordance/order.pair[string, int]]"], unfollowed := true, recurses := true, apart := false, narrowed := true }
def OrderRecentsUptoSaid : Prop := orderRecentsUptoRow.holds Try.pinned (OpenSpec.upto orderRecentsSpec)

/-- 'concordancelaw04.OrderNumbers', WHERE WHAT IT READS IS OF BULK AT MOST 1048576: true; the input reads as it did. -/
def orderNumbersUptoRow : OpenClaim := { program := "ytfnfhiggmppecaa", sum := "c4f8ad063a3f875f717425cc43b94181c541c74efd23b95768e65e1df8fa4fae", func := "concordance/concordancelaw04.OrderNumbers", spec := "orderNumbers", inPlace := ["slices.overlaps[concordance/order.pair[string, int]]", "slices.overlaps[concordance/order.pair[int, int]]"], unfollowed := true, recurses := true, apart := false, narrowed := true }
def OrderNumbersUptoSaid : Prop := orderNumbersUptoRow.holds Try.pinned (OpenSpec.upto orderNumbersSpec)

/-- 'concordancelaw04.OrderTurned', WHERE WHAT IT READS IS OF BULK AT MOST 1048576: true; the input reads as it did. -/
def orderTurnedUptoRow : OpenClaim := { program := "ytfnfhiggmppecaa", sum := "c4f8ad063a3f875f717425cc43b94181c541c74efd23b95768e65e1df8fa4fae", func := "concordance/concordancelaw04.OrderTurned", spec := "orderTurned", inPlace := ["slices.overlaps[concordance/order.pair[string, int]]"], unfollowed := true, recurses := true, apart := false, narrowed := true }
def OrderTurnedUptoSaid : Prop := orderTurnedUptoRow.holds Try.pinned (OpenSpec.upto orderTurnedSpec)

/-- 'concordancelaw04.OrderMaps', WHERE WHAT IT READS IS OF BULK AT MOST 1048576: true; the input reads as it did. -/
def orderMapsUptoRow : OpenClaim := { program := "ytfnfhiggmppecaa", sum := "c4f8ad063a3f875f717425cc43b94181c541c74efd23b95768e65e1df8fa4fae", func := "concordance/concordancelaw04.OrderMaps", spec := "orderMaps", inPlace := ["slices.overlaps[concordance/order.pair[string, int]]"], unfollowed := true, recurses := true, apart := false, narrowed := true }
def OrderMapsUptoSaid : Prop := orderMapsUptoRow.holds Try.pinned (OpenSpec.upto orderMapsSpec)

end Rows
end Go.Proofs.Ytfnfhiggmppecaa
