/-
  DERIVED. GIVEN WITH THE SEED: THE CARDS: each row of YtkoligiilieboaaGreatDoorRows.lean that lists a variable, with what it lists TIED to the program's text (the seventh form; the later family's looks); each row that meets fmt, with fmt's text TOLD by the authors' own Lean function (tested against real Go, not proved from fmt's source: count such statements apart). THE CARD IS WHAT COUNTS. Prove the row's statement (the work); the ties are given (YtkoligiilieboaaGreatDoorTie.lean); close each card by the builder's one call (the guide's Derived/Test/ToyasCard.lean, 'card_holds'). Laid BY PROGRAM, IN A SANDBOX (cutbox-door.mjs). By AI agents, Wed Nov 11 2026. No macro, syntax, notation, axiom, sorry.
-/
import Derived.Test.YtkoligiilieboaaGreatDoorRows
import GoSem.ClaimSeven
namespace Go.Proofs.YtkoligiilieboaaGreatDoor
namespace Rows

/-- THE TIED CARD OF 'stratigraphlaw17.BookTakes'. -/
def bookTakesCard : Claim7 := { stood := { row := bookTakesRow, standIns := [], harness := (true, "55887bdc3d90f8e8be6d3e849b2cb7e9da109ca71e89adf120a861f6f6be4d78"), looks := false }, kinds := [], alts := [], laidByText := true, laidKinds := [.data, .pinned], laidTests := true, laidLooks := .later }
def BookTakesCardSaid : Prop := Claim7.holds Tryz.pinned (.plain (OpenSpec.ofChange bookTakesSpec)) bookTakesCard

/-- THE TIED CARD OF 'stratigraphlaw17.BookCells'. -/
def bookCellsCard : Claim7 := { stood := { row := bookCellsRow, standIns := [], harness := (true, "55887bdc3d90f8e8be6d3e849b2cb7e9da109ca71e89adf120a861f6f6be4d78"), looks := false }, kinds := [], alts := [], laidByText := true, laidKinds := [.data, .pinned], laidTests := true, laidLooks := .later }
def BookCellsCardSaid : Prop := Claim7.holds Tryz.pinned (.plain (OpenSpec.ofChange bookCellsSpec)) bookCellsCard

/-- THE SECOND FORM's CARD OF 'stratigraphlaw17.BookTakes'. -/
def bookTakesUptoCard : Claim7 := { stood := { row := bookTakesUptoRow, standIns := [], harness := (true, "55887bdc3d90f8e8be6d3e849b2cb7e9da109ca71e89adf120a861f6f6be4d78"), looks := false }, kinds := [], alts := [], laidByText := true, laidKinds := [.data, .pinned], laidTests := true, laidLooks := .later }
def BookTakesUptoCardSaid : Prop := Claim7.holds Tryz.pinned (.plain (OpenSpec.upto bookTakesSpec)) bookTakesUptoCard

/-- THE SECOND FORM's CARD OF 'stratigraphlaw17.BookCells'. -/
def bookCellsUptoCard : Claim7 := { stood := { row := bookCellsUptoRow, standIns := [], harness := (true, "55887bdc3d90f8e8be6d3e849b2cb7e9da109ca71e89adf120a861f6f6be4d78"), looks := false }, kinds := [], alts := [], laidByText := true, laidKinds := [.data, .pinned], laidTests := true, laidLooks := .later }
def BookCellsUptoCardSaid : Prop := Claim7.holds Tryz.pinned (.plain (OpenSpec.upto bookCellsSpec)) bookCellsUptoCard
end Rows
end Go.Proofs.YtkoligiilieboaaGreatDoor
