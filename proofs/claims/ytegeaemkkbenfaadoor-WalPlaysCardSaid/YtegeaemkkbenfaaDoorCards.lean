/-
  DERIVED. GIVEN WITH THE SEED: THE CARDS: each row of YtegeaemkkbenfaaDoorRows.lean that lists a variable, with what it lists TIED to the program's text (the seventh form; the later family's looks); each row that meets fmt, with fmt's text TOLD by the authors' own Lean function (tested against real Go, not proved from fmt's source: count such statements apart). THE CARD IS WHAT COUNTS. Prove the row's statement (the work); the ties are given (YtegeaemkkbenfaaDoorTie.lean); close each card by the builder's one call (the guide's Derived/Test/ToyasCard.lean, 'card_holds'). Laid BY PROGRAM, IN A SANDBOX (cutbox-door.mjs). By AI agents, Wed Nov 11 2026. No macro, syntax, notation, axiom, sorry.
-/
import Derived.Test.YtegeaemkkbenfaaDoorRows
import GoSem.ClaimSeven
namespace Go.Proofs.YtegeaemkkbenfaaDoor
namespace Rows

/-- THE TIED CARD OF 'concordancelaw08.WalFull'. -/
def walFullCard : Claim7 := { stood := { row := walFullRow, standIns := [], harness := (true, "15d962b43baf39bf39019e21669393fb36bfcc22b21e885ee3881ee55d88bbc8"), looks := false }, kinds := [], alts := [], laidByText := true, laidKinds := [.data], laidTests := true, laidLooks := .later }
def WalFullCardSaid : Prop := Claim7.holds Tryd.pinned (.plain (OpenSpec.ofChange walFullSpec)) walFullCard

/-- THE TIED CARD OF 'concordancelaw08.WalRefuses'. -/
def walRefusesCard : Claim7 := { stood := { row := walRefusesRow, standIns := [], harness := (true, "15d962b43baf39bf39019e21669393fb36bfcc22b21e885ee3881ee55d88bbc8"), looks := false }, kinds := [], alts := [], laidByText := true, laidKinds := [.data], laidTests := true, laidLooks := .later }
def WalRefusesCardSaid : Prop := Claim7.holds Tryd.pinned (.plain (OpenSpec.ofChange walRefusesSpec)) walRefusesCard

/-- THE TIED CARD OF 'concordancelaw08.WalReads'. -/
def walReadsCard : Claim7 := { stood := { row := walReadsRow, standIns := [], harness := (true, "15d962b43baf39bf39019e21669393fb36bfcc22b21e885ee3881ee55d88bbc8"), looks := false }, kinds := [], alts := [], laidByText := true, laidKinds := [.data], laidTests := true, laidLooks := .later }
def WalReadsCardSaid : Prop := Claim7.holds Tryd.pinned (.plain (OpenSpec.ofChange walReadsSpec)) walReadsCard

/-- THE TIED CARD OF 'concordancelaw08.WalSwitches'. -/
def walSwitchesCard : Claim7 := { stood := { row := walSwitchesRow, standIns := [], harness := (true, "15d962b43baf39bf39019e21669393fb36bfcc22b21e885ee3881ee55d88bbc8"), looks := false }, kinds := [], alts := [], laidByText := true, laidKinds := [.data], laidTests := true, laidLooks := .later }
def WalSwitchesCardSaid : Prop := Claim7.holds Tryd.pinned (.plain (OpenSpec.ofChange walSwitchesSpec)) walSwitchesCard

/-- THE TIED CARD OF 'concordancelaw08.WalPlays'. -/
def walPlaysCard : Claim7 := { stood := { row := walPlaysRow, standIns := [], harness := (true, "15d962b43baf39bf39019e21669393fb36bfcc22b21e885ee3881ee55d88bbc8"), looks := false }, kinds := [], alts := [], laidByText := true, laidKinds := [.data], laidTests := true, laidLooks := .later }
def WalPlaysCardSaid : Prop := Claim7.holds Tryd.pinned (.plain (OpenSpec.ofChange walPlaysSpec)) walPlaysCard

/-- THE SECOND FORM's CARD OF 'concordancelaw08.WalFull'. -/
def walFullUptoCard : Claim7 := { stood := { row := walFullUptoRow, standIns := [], harness := (true, "15d962b43baf39bf39019e21669393fb36bfcc22b21e885ee3881ee55d88bbc8"), looks := false }, kinds := [], alts := [], laidByText := true, laidKinds := [.data], laidTests := true, laidLooks := .later }
def WalFullUptoCardSaid : Prop := Claim7.holds Tryd.pinned (.plain (OpenSpec.upto walFullSpec)) walFullUptoCard

/-- THE SECOND FORM's CARD OF 'concordancelaw08.WalRefuses'. -/
def walRefusesUptoCard : Claim7 := { stood := { row := walRefusesUptoRow, standIns := [], harness := (true, "15d962b43baf39bf39019e21669393fb36bfcc22b21e885ee3881ee55d88bbc8"), looks := false }, kinds := [], alts := [], laidByText := true, laidKinds := [.data], laidTests := true, laidLooks := .later }
def WalRefusesUptoCardSaid : Prop := Claim7.holds Tryd.pinned (.plain (OpenSpec.upto walRefusesSpec)) walRefusesUptoCard

/-- THE SECOND FORM's CARD OF 'concordancelaw08.WalReads'. -/
def walReadsUptoCard : Claim7 := { stood := { row := walReadsUptoRow, standIns := [], harness := (true, "15d962b43baf39bf39019e21669393fb36bfcc22b21e885ee3881ee55d88bbc8"), looks := false }, kinds := [], alts := [], laidByText := true, laidKinds := [.data], laidTests := true, laidLooks := .later }
def WalReadsUptoCardSaid : Prop := Claim7.holds Tryd.pinned (.plain (OpenSpec.upto walReadsSpec)) walReadsUptoCard

/-- THE SECOND FORM's CARD OF 'concordancelaw08.WalSwitches'. -/
def walSwitchesUptoCard : Claim7 := { stood := { row := walSwitchesUptoRow, standIns := [], harness := (true, "15d962b43baf39bf39019e21669393fb36bfcc22b21e885ee3881ee55d88bbc8"), looks := false }, kinds := [], alts := [], laidByText := true, laidKinds := [.data], laidTests := true, laidLooks := .later }
def WalSwitchesUptoCardSaid : Prop := Claim7.holds Tryd.pinned (.plain (OpenSpec.upto walSwitchesSpec)) walSwitchesUptoCard

/-- THE SECOND FORM's CARD OF 'concordancelaw08.WalPlays'. -/
def walPlaysUptoCard : Claim7 := { stood := { row := walPlaysUptoRow, standIns := [], harness := (true, "15d962b43baf39bf39019e21669393fb36bfcc22b21e885ee3881ee55d88bbc8"), looks := false }, kinds := [], alts := [], laidByText := true, laidKinds := [.data], laidTests := true, laidLooks := .later }
def WalPlaysUptoCardSaid : Prop := Claim7.holds Tryd.pinned (.plain (OpenSpec.upto walPlaysSpec)) walPlaysUptoCard
end Rows
end Go.Proofs.YtegeaemkkbenfaaDoor
