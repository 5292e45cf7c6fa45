/-
  DERIVED. GIVEN WITH THE SEED: THE CARDS: each row of YtcpehlllgfffkaaDoorRows.lean that lists a variable, with what it lists TIED to the program's text (the seventh form; the later family's looks); each row that meets fmt, with fmt's text TOLD by the authors' own Lean function (tested against real Go, not proved from fmt's source: count such statements apart). THE CARD IS WHAT COUNTS. Prove the row's statement (the work); the ties are given (YtcpehlllgfffkaaDoorTie.lean); close each card by the builder's one call (the guide's Derived/Test/ToyasCard.lean, 'card_holds'). Laid BY PROGRAM, IN A SANDBOX (cutbox-door.mjs). By AI agents, Wed Nov 11 2026. No macro, syntax, notation, axiom, sorry.
-/
import Derived.Test.YtcpehlllgfffkaaDoorRows
import GoSem.ClaimSeven
namespace Go.Proofs.YtcpehlllgfffkaaDoor
namespace Rows

/-- THE TIED CARD OF 'concordancelaw19.TupleShown'. -/
def tupleShownCard : Claim7 := { stood := { row := tupleShownRow, standIns := [], harness := (true, "ad1b43c5a1d40cf88a024c910d1b90b19792f9c30d9e3ca949ce3ce891cc635f"), looks := false }, kinds := [], alts := [], laidByText := true, laidKinds := [.data, .data, .data], laidTests := true, laidLooks := .later }
def TupleShownCardSaid : Prop := Claim7.holds Tryd.pinned (.plain (OpenSpec.ofChange tupleShownSpec)) tupleShownCard

/-- THE TIED CARD OF 'concordancelaw19.TupleIDs'. -/
def tupleIDsCard : Claim7 := { stood := { row := tupleIDsRow, standIns := [], harness := (true, "ad1b43c5a1d40cf88a024c910d1b90b19792f9c30d9e3ca949ce3ce891cc635f"), looks := false }, kinds := [], alts := [], laidByText := true, laidKinds := [.data, .data, .data], laidTests := true, laidLooks := .later }
def TupleIDsCardSaid : Prop := Claim7.holds Tryd.pinned (.plain (OpenSpec.ofChange tupleIDsSpec)) tupleIDsCard

/-- THE TIED CARD OF 'concordancelaw19.TupleEntries'. -/
def tupleEntriesCard : Claim7 := { stood := { row := tupleEntriesRow, standIns := [], harness := (true, "ad1b43c5a1d40cf88a024c910d1b90b19792f9c30d9e3ca949ce3ce891cc635f"), looks := false }, kinds := [], alts := [], laidByText := true, laidKinds := [.data, .data, .data], laidTests := true, laidLooks := .later }
def TupleEntriesCardSaid : Prop := Claim7.holds Tryd.pinned (.plain (OpenSpec.ofChange tupleEntriesSpec)) tupleEntriesCard

/-- THE TIED CARD OF 'concordancelaw19.TupleBounds'. -/
def tupleBoundsCard : Claim7 := { stood := { row := tupleBoundsRow, standIns := [], harness := (true, "ad1b43c5a1d40cf88a024c910d1b90b19792f9c30d9e3ca949ce3ce891cc635f"), looks := false }, kinds := [], alts := [], laidByText := true, laidKinds := [.data, .data, .data], laidTests := true, laidLooks := .later }
def TupleBoundsCardSaid : Prop := Claim7.holds Tryd.pinned (.plain (OpenSpec.ofChange tupleBoundsSpec)) tupleBoundsCard

/-- THE TIED CARD OF 'concordancelaw19.TupleRows'. -/
def tupleRowsCard : Claim7 := { stood := { row := tupleRowsRow, standIns := [], harness := (true, "ad1b43c5a1d40cf88a024c910d1b90b19792f9c30d9e3ca949ce3ce891cc635f"), looks := false }, kinds := [], alts := [], laidByText := true, laidKinds := [.data, .data, .data], laidTests := true, laidLooks := .later }
def TupleRowsCardSaid : Prop := Claim7.holds Tryd.pinned (.plain (OpenSpec.ofChange tupleRowsSpec)) tupleRowsCard

/-- THE SECOND FORM's CARD OF 'concordancelaw19.TupleShown'. -/
def tupleShownUptoCard : Claim7 := { stood := { row := tupleShownUptoRow, standIns := [], harness := (true, "ad1b43c5a1d40cf88a024c910d1b90b19792f9c30d9e3ca949ce3ce891cc635f"), looks := false }, kinds := [], alts := [], laidByText := true, laidKinds := [.data, .data, .data], laidTests := true, laidLooks := .later }
def TupleShownUptoCardSaid : Prop := Claim7.holds Tryd.pinned (.plain (OpenSpec.upto tupleShownSpec)) tupleShownUptoCard

/-- THE SECOND FORM's CARD OF 'concordancelaw19.TupleIDs'. -/
def tupleIDsUptoCard : Claim7 := { stood := { row := tupleIDsUptoRow, standIns := [], harness := (true, "ad1b43c5a1d40cf88a024c910d1b90b19792f9c30d9e3ca949ce3ce891cc635f"), looks := false }, kinds := [], alts := [], laidByText := true, laidKinds := [.data, .data, .data], laidTests := true, laidLooks := .later }
def TupleIDsUptoCardSaid : Prop := Claim7.holds Tryd.pinned (.plain (OpenSpec.upto tupleIDsSpec)) tupleIDsUptoCard

/-- THE SECOND FORM's CARD OF 'concordancelaw19.TupleEntries'. -/
def tupleEntriesUptoCard : Claim7 := { stood := { row := tupleEntriesUptoRow, standIns := [], harness := (true, "ad1b43c5a1d40cf88a024c910d1b90b19792f9c30d9e3ca949ce3ce891cc635f"), looks := false }, kinds := [], alts := [], laidByText := true, laidKinds := [.data, .data, .data], laidTests := true, laidLooks := .later }
def TupleEntriesUptoCardSaid : Prop := Claim7.holds Tryd.pinned (.plain (OpenSpec.upto tupleEntriesSpec)) tupleEntriesUptoCard

/-- THE SECOND FORM's CARD OF 'concordancelaw19.TupleBounds'. -/
def tupleBoundsUptoCard : Claim7 := { stood := { row := tupleBoundsUptoRow, standIns := [], harness := (true, "ad1b43c5a1d40cf88a024c910d1b90b19792f9c30d9e3ca949ce3ce891cc635f"), looks := false }, kinds := [], alts := [], laidByText := true, laidKinds := [.data, .data, .data], laidTests := true, laidLooks := .later }
def TupleBoundsUptoCardSaid : Prop := Claim7.holds Tryd.pinned (.plain (OpenSpec.upto tupleBoundsSpec)) tupleBoundsUptoCard

/-- THE SECOND FORM's CARD OF 'concordancelaw19.TupleRows'. -/
def tupleRowsUptoCard : Claim7 := { stood := { row := tupleRowsUptoRow, standIns := [], harness := (true, "ad1b43c5a1d40cf88a024c910d1b90b19792f9c30d9e3ca949ce3ce891cc635f"), looks := false }, kinds := [], alts := [], laidByText := true, laidKinds := [.data, .data, .data], laidTests := true, laidLooks := .later }
def TupleRowsUptoCardSaid : Prop := Claim7.holds Tryd.pinned (.plain (OpenSpec.upto tupleRowsSpec)) tupleRowsUptoCard
end Rows
end Go.Proofs.YtcpehlllgfffkaaDoor
