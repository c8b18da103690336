/-
  DERIVED. GIVEN WITH THE SEED: THE CARDS: each row of YtkhamjghanjikaaDoorRows.lean that lists a variable, with what it lists TIED to the program's text (the seventh form; the later family's looks); each row that meets fmt, with fmt's text TOLD by the authors' own Lean function (tested against real Go, not proved from fmt's source: count such statements apart). THE CARD IS WHAT COUNTS. Prove the row's statement (the work); the ties are given (YtkhamjghanjikaaDoorTie.lean); close each card by the builder's one call (the guide's Derived/Test/ToyasCard.lean, 'card_holds'). Laid BY PROGRAM, IN A SANDBOX (cutbox-door.mjs). By AI agents, Wed Nov 11 2026. No macro, syntax, notation, axiom, sorry.
-/
import Derived.Test.YtkhamjghanjikaaDoorRows
import GoSem.ClaimSeven
namespace Go.Proofs.YtkhamjghanjikaaDoor
namespace Rows

/-- THE TIED CARD OF 'stratigraphlaw05.StampShows'. -/
def stampShowsCard : Claim7 := { stood := { row := stampShowsRow, standIns := [], harness := (true, "182ef42d766ad6a5a4173dd43a8e50210b44e3bb8de940aa2bbe18c631b052d0"), looks := true }, kinds := [], alts := [], laidByText := true, laidKinds := [.data, .data, .data, .data, .sentinel, .sentinel, .pinned], laidTests := true, laidLooks := .later }
def StampShowsCardSaid : Prop := Claim7.holds Tryd.pinned (.plain (OpenSpec.ofChange stampShowsSpec)) stampShowsCard

/-- THE TIED CARD OF 'stratigraphlaw05.StampReads'. -/
def stampReadsCard : Claim7 := { stood := { row := stampReadsRow, standIns := [], harness := (true, "182ef42d766ad6a5a4173dd43a8e50210b44e3bb8de940aa2bbe18c631b052d0"), looks := true }, kinds := [], alts := [], laidByText := true, laidKinds := [.data, .data, .data, .data, .sentinel, .sentinel, .pinned], laidTests := true, laidLooks := .later }
def StampReadsCardSaid : Prop := Claim7.holds Tryd.pinned (.plain (OpenSpec.ofChange stampReadsSpec)) stampReadsCard

/-- THE TIED CARD OF 'stratigraphlaw05.StampChain'. -/
def stampChainCard : Claim7 := { stood := { row := stampChainRow, standIns := [], harness := (true, "182ef42d766ad6a5a4173dd43a8e50210b44e3bb8de940aa2bbe18c631b052d0"), looks := true }, kinds := [], alts := [], laidByText := true, laidKinds := [.data, .data, .data], laidTests := true, laidLooks := .later }
def StampChainCardSaid : Prop := Claim7.holds Tryd.pinned (.plain (OpenSpec.ofChange stampChainSpec)) stampChainCard

/-- THE TIED CARD OF 'stratigraphlaw05.StampOrders'. -/
def stampOrdersCard : Claim7 := { stood := { row := stampOrdersRow, standIns := [], harness := (true, "182ef42d766ad6a5a4173dd43a8e50210b44e3bb8de940aa2bbe18c631b052d0"), looks := true }, kinds := [], alts := [], laidByText := true, laidKinds := [.data, .data, .data], laidTests := true, laidLooks := .later }
def StampOrdersCardSaid : Prop := Claim7.holds Tryd.pinned (.plain (OpenSpec.ofChange stampOrdersSpec)) stampOrdersCard

/-- THE TIED CARD OF 'stratigraphlaw05.StampTakes'. -/
def stampTakesCard : Claim7 := { stood := { row := stampTakesRow, standIns := [], harness := (true, "182ef42d766ad6a5a4173dd43a8e50210b44e3bb8de940aa2bbe18c631b052d0"), looks := true }, kinds := [], alts := [], laidByText := true, laidKinds := [.data, .data, .data], laidTests := true, laidLooks := .later }
def StampTakesCardSaid : Prop := Claim7.holds Tryd.pinned (.plain (OpenSpec.ofChange stampTakesSpec)) stampTakesCard

/-- THE TIED CARD OF 'stratigraphlaw05.StampBytes'. -/
def stampBytesCard : Claim7 := { stood := { row := stampBytesRow, standIns := [], harness := (true, "182ef42d766ad6a5a4173dd43a8e50210b44e3bb8de940aa2bbe18c631b052d0"), looks := true }, kinds := [], alts := [], laidByText := true, laidKinds := [.data, .data, .data], laidTests := true, laidLooks := .later }
def StampBytesCardSaid : Prop := Claim7.holds Tryd.pinned (.plain (OpenSpec.ofChange stampBytesSpec)) stampBytesCard

/-- THE SECOND FORM's CARD OF 'stratigraphlaw05.StampShows'. -/
def stampShowsUptoCard : Claim7 := { stood := { row := stampShowsUptoRow, standIns := [], harness := (true, "182ef42d766ad6a5a4173dd43a8e50210b44e3bb8de940aa2bbe18c631b052d0"), looks := true }, kinds := [], alts := [], laidByText := true, laidKinds := [.data, .data, .data, .data, .sentinel, .sentinel, .pinned], laidTests := true, laidLooks := .later }
def StampShowsUptoCardSaid : Prop := Claim7.holds Tryd.pinned (.plain (OpenSpec.upto stampShowsSpec)) stampShowsUptoCard

/-- THE SECOND FORM's CARD OF 'stratigraphlaw05.StampReads'. -/
def stampReadsUptoCard : Claim7 := { stood := { row := stampReadsUptoRow, standIns := [], harness := (true, "182ef42d766ad6a5a4173dd43a8e50210b44e3bb8de940aa2bbe18c631b052d0"), looks := true }, kinds := [], alts := [], laidByText := true, laidKinds := [.data, .data, .data, .data, .sentinel, .sentinel, .pinned], laidTests := true, laidLooks := .later }
def StampReadsUptoCardSaid : Prop := Claim7.holds Tryd.pinned (.plain (OpenSpec.upto stampReadsSpec)) stampReadsUptoCard

/-- THE SECOND FORM's CARD OF 'stratigraphlaw05.StampChain'. -/
def stampChainUptoCard : Claim7 := { stood := { row := stampChainUptoRow, standIns := [], harness := (true, "182ef42d766ad6a5a4173dd43a8e50210b44e3bb8de940aa2bbe18c631b052d0"), looks := true }, kinds := [], alts := [], laidByText := true, laidKinds := [.data, .data, .data], laidTests := true, laidLooks := .later }
def StampChainUptoCardSaid : Prop := Claim7.holds Tryd.pinned (.plain (OpenSpec.upto stampChainSpec)) stampChainUptoCard

/-- THE SECOND FORM's CARD OF 'stratigraphlaw05.StampOrders'. -/
def stampOrdersUptoCard : Claim7 := { stood := { row := stampOrdersUptoRow, standIns := [], harness := (true, "182ef42d766ad6a5a4173dd43a8e50210b44e3bb8de940aa2bbe18c631b052d0"), looks := true }, kinds := [], alts := [], laidByText := true, laidKinds := [.data, .data, .data], laidTests := true, laidLooks := .later }
def StampOrdersUptoCardSaid : Prop := Claim7.holds Tryd.pinned (.plain (OpenSpec.upto stampOrdersSpec)) stampOrdersUptoCard

/-- THE SECOND FORM's CARD OF 'stratigraphlaw05.StampTakes'. -/
def stampTakesUptoCard : Claim7 := { stood := { row := stampTakesUptoRow, standIns := [], harness := (true, "182ef42d766ad6a5a4173dd43a8e50210b44e3bb8de940aa2bbe18c631b052d0"), looks := true }, kinds := [], alts := [], laidByText := true, laidKinds := [.data, .data, .data], laidTests := true, laidLooks := .later }
def StampTakesUptoCardSaid : Prop := Claim7.holds Tryd.pinned (.plain (OpenSpec.upto stampTakesSpec)) stampTakesUptoCard

/-- THE SECOND FORM's CARD OF 'stratigraphlaw05.StampBytes'. -/
def stampBytesUptoCard : Claim7 := { stood := { row := stampBytesUptoRow, standIns := [], harness := (true, "182ef42d766ad6a5a4173dd43a8e50210b44e3bb8de940aa2bbe18c631b052d0"), looks := true }, kinds := [], alts := [], laidByText := true, laidKinds := [.data, .data, .data], laidTests := true, laidLooks := .later }
def StampBytesUptoCardSaid : Prop := Claim7.holds Tryd.pinned (.plain (OpenSpec.upto stampBytesSpec)) stampBytesUptoCard
end Rows
end Go.Proofs.YtkhamjghanjikaaDoor
