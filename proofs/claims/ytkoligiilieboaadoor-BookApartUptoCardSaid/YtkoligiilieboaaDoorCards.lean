/-
  DERIVED. GIVEN WITH THE SEED: THE CARDS: each row of YtkoligiilieboaaDoorRows.lean that lists a variable, with what it lists TIED to the program's text (the seventh form; the later family's looks); each row that meets fmt, with fmt's text TOLD by the authors' own Lean function (tested against real Go, not proved from fmt's source: count such statements apart). THE CARD IS WHAT COUNTS. Prove the row's statement (the work); the ties are given (YtkoligiilieboaaDoorTie.lean); close each card by the builder's one call (the guide's Derived/Test/ToyasCard.lean, 'card_holds'). Laid BY PROGRAM, IN A SANDBOX (cutbox-door.mjs). By AI agents, Wed Nov 11 2026. No macro, syntax, notation, axiom, sorry.
-/
import Derived.Test.YtkoligiilieboaaDoorRows
import GoSem.ClaimSeven
namespace Go.Proofs.YtkoligiilieboaaDoor
namespace Rows

/-- THE TIED CARD OF 'stratigraphlaw17.BookMsgs'. -/
def bookMsgsCard : Claim7 := { stood := { row := bookMsgsRow, standIns := [], harness := (true, "8056b5ec208948485fd508f9d5fdc0e893ad5e35d8122ab21901102b274db470"), looks := false }, kinds := [], alts := [], laidByText := true, laidKinds := [.data, .pinned], laidTests := true, laidLooks := .later }
def BookMsgsCardSaid : Prop := Claim7.holds Tryd.pinned (.plain (OpenSpec.ofChange bookMsgsSpec)) bookMsgsCard

/-- THE TIED CARD OF 'stratigraphlaw17.BookApart'. -/
def bookApartCard : Claim7 := { stood := { row := bookApartRow, standIns := [], harness := (true, "8056b5ec208948485fd508f9d5fdc0e893ad5e35d8122ab21901102b274db470"), looks := false }, kinds := [], alts := [], laidByText := true, laidKinds := [.data, .pinned], laidTests := true, laidLooks := .later }
def BookApartCardSaid : Prop := Claim7.holds Tryd.pinned (.plain (OpenSpec.ofChange bookApartSpec)) bookApartCard

/-- THE SECOND FORM's CARD OF 'stratigraphlaw17.BookMsgs'. -/
def bookMsgsUptoCard : Claim7 := { stood := { row := bookMsgsUptoRow, standIns := [], harness := (true, "8056b5ec208948485fd508f9d5fdc0e893ad5e35d8122ab21901102b274db470"), looks := false }, kinds := [], alts := [], laidByText := true, laidKinds := [.data, .pinned], laidTests := true, laidLooks := .later }
def BookMsgsUptoCardSaid : Prop := Claim7.holds Tryd.pinned (.plain (OpenSpec.upto bookMsgsSpec)) bookMsgsUptoCard

/-- THE SECOND FORM's CARD OF 'stratigraphlaw17.BookApart'. -/
def bookApartUptoCard : Claim7 := { stood := { row := bookApartUptoRow, standIns := [], harness := (true, "8056b5ec208948485fd508f9d5fdc0e893ad5e35d8122ab21901102b274db470"), looks := false }, kinds := [], alts := [], laidByText := true, laidKinds := [.data, .pinned], laidTests := true, laidLooks := .later }
def BookApartUptoCardSaid : Prop := Claim7.holds Tryd.pinned (.plain (OpenSpec.upto bookApartSpec)) bookApartUptoCard
end Rows
end Go.Proofs.YtkoligiilieboaaDoor
