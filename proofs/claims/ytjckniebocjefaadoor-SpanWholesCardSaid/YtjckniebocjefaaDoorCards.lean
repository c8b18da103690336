/-
  DERIVED. GIVEN WITH THE SEED: THE CARDS: each row of YtjckniebocjefaaDoorRows.lean that lists a variable, with what it lists TIED to the program's text (the seventh form; the later family's looks); each row that meets fmt, with fmt's text TOLD by the authors' own Lean function (tested against real Go, not proved from fmt's source: count such statements apart). THE CARD IS WHAT COUNTS. Prove the row's statement (the work); the ties are given (YtjckniebocjefaaDoorTie.lean); close each card by the builder's one call (the guide's Derived/Test/ToyasCard.lean, 'card_holds'). Laid BY PROGRAM, IN A SANDBOX (cutbox-door.mjs). By AI agents, Wed Nov 11 2026. No macro, syntax, notation, axiom, sorry.
-/
import Derived.Test.YtjckniebocjefaaDoorRows
import GoSem.ClaimSeven
namespace Go.Proofs.YtjckniebocjefaaDoor
namespace Rows

/-- THE TIED CARD OF 'stratigraphlaw09.SpanRights'. -/
def spanRightsCard : Claim7 := { stood := { row := spanRightsRow, standIns := [], harness := (true, "b7408953976fc4159ce5a87ab389274742f47cee1c5e737dbbf586d7e43abc1b"), looks := false }, kinds := [], alts := [], laidByText := true, laidKinds := [.data, .pinned], laidTests := true, laidLooks := .later }
def SpanRightsCardSaid : Prop := Claim7.holds Tryd.pinned (.plain (OpenSpec.ofChange spanRightsSpec)) spanRightsCard

/-- THE TIED CARD OF 'stratigraphlaw09.SpanCuts'. -/
def spanCutsCard : Claim7 := { stood := { row := spanCutsRow, standIns := [], harness := (true, "b7408953976fc4159ce5a87ab389274742f47cee1c5e737dbbf586d7e43abc1b"), looks := false }, kinds := [], alts := [], laidByText := true, laidKinds := [.data, .pinned], laidTests := true, laidLooks := .later }
def SpanCutsCardSaid : Prop := Claim7.holds Tryd.pinned (.plain (OpenSpec.ofChange spanCutsSpec)) spanCutsCard

/-- THE TIED CARD OF 'stratigraphlaw09.SpanMeets'. -/
def spanMeetsCard : Claim7 := { stood := { row := spanMeetsRow, standIns := [], harness := (true, "b7408953976fc4159ce5a87ab389274742f47cee1c5e737dbbf586d7e43abc1b"), looks := false }, kinds := [], alts := [], laidByText := true, laidKinds := [.data, .pinned], laidTests := true, laidLooks := .later }
def SpanMeetsCardSaid : Prop := Claim7.holds Tryd.pinned (.plain (OpenSpec.ofChange spanMeetsSpec)) spanMeetsCard

/-- THE TIED CARD OF 'stratigraphlaw09.SpanWholes'. -/
def spanWholesCard : Claim7 := { stood := { row := spanWholesRow, standIns := [], harness := (true, "b7408953976fc4159ce5a87ab389274742f47cee1c5e737dbbf586d7e43abc1b"), looks := false }, kinds := [], alts := [], laidByText := true, laidKinds := [.data, .pinned], laidTests := true, laidLooks := .later }
def SpanWholesCardSaid : Prop := Claim7.holds Tryd.pinned (.plain (OpenSpec.ofChange spanWholesSpec)) spanWholesCard

/-- THE TIED CARD OF 'stratigraphlaw09.SpanOnce'. -/
def spanOnceCard : Claim7 := { stood := { row := spanOnceRow, standIns := [], harness := (true, "b7408953976fc4159ce5a87ab389274742f47cee1c5e737dbbf586d7e43abc1b"), looks := false }, kinds := [], alts := [], laidByText := true, laidKinds := [.data, .pinned], laidTests := true, laidLooks := .later }
def SpanOnceCardSaid : Prop := Claim7.holds Tryd.pinned (.plain (OpenSpec.ofChange spanOnceSpec)) spanOnceCard

/-- THE TIED CARD OF 'stratigraphlaw09.SpanJoins'. -/
def spanJoinsCard : Claim7 := { stood := { row := spanJoinsRow, standIns := [], harness := (true, "b7408953976fc4159ce5a87ab389274742f47cee1c5e737dbbf586d7e43abc1b"), looks := false }, kinds := [], alts := [], laidByText := true, laidKinds := [.data, .pinned], laidTests := true, laidLooks := .later }
def SpanJoinsCardSaid : Prop := Claim7.holds Tryd.pinned (.plain (OpenSpec.ofChange spanJoinsSpec)) spanJoinsCard

/-- THE TIED CARD OF 'stratigraphlaw09.SpanBack'. -/
def spanBackCard : Claim7 := { stood := { row := spanBackRow, standIns := [], harness := (true, "b7408953976fc4159ce5a87ab389274742f47cee1c5e737dbbf586d7e43abc1b"), looks := false }, kinds := [], alts := [], laidByText := true, laidKinds := [.data, .pinned], laidTests := true, laidLooks := .later }
def SpanBackCardSaid : Prop := Claim7.holds Tryd.pinned (.plain (OpenSpec.ofChange spanBackSpec)) spanBackCard

/-- THE SECOND FORM's CARD OF 'stratigraphlaw09.SpanRights'. -/
def spanRightsUptoCard : Claim7 := { stood := { row := spanRightsUptoRow, standIns := [], harness := (true, "b7408953976fc4159ce5a87ab389274742f47cee1c5e737dbbf586d7e43abc1b"), looks := false }, kinds := [], alts := [], laidByText := true, laidKinds := [.data, .pinned], laidTests := true, laidLooks := .later }
def SpanRightsUptoCardSaid : Prop := Claim7.holds Tryd.pinned (.plain (OpenSpec.upto spanRightsSpec)) spanRightsUptoCard

/-- THE SECOND FORM's CARD OF 'stratigraphlaw09.SpanCuts'. -/
def spanCutsUptoCard : Claim7 := { stood := { row := spanCutsUptoRow, standIns := [], harness := (true, "b7408953976fc4159ce5a87ab389274742f47cee1c5e737dbbf586d7e43abc1b"), looks := false }, kinds := [], alts := [], laidByText := true, laidKinds := [.data, .pinned], laidTests := true, laidLooks := .later }
def SpanCutsUptoCardSaid : Prop := Claim7.holds Tryd.pinned (.plain (OpenSpec.upto spanCutsSpec)) spanCutsUptoCard

/-- THE SECOND FORM's CARD OF 'stratigraphlaw09.SpanMeets'. -/
def spanMeetsUptoCard : Claim7 := { stood := { row := spanMeetsUptoRow, standIns := [], harness := (true, "b7408953976fc4159ce5a87ab389274742f47cee1c5e737dbbf586d7e43abc1b"), looks := false }, kinds := [], alts := [], laidByText := true, laidKinds := [.data, .pinned], laidTests := true, laidLooks := .later }
def SpanMeetsUptoCardSaid : Prop := Claim7.holds Tryd.pinned (.plain (OpenSpec.upto spanMeetsSpec)) spanMeetsUptoCard

/-- THE SECOND FORM's CARD OF 'stratigraphlaw09.SpanWholes'. -/
def spanWholesUptoCard : Claim7 := { stood := { row := spanWholesUptoRow, standIns := [], harness := (true, "b7408953976fc4159ce5a87ab389274742f47cee1c5e737dbbf586d7e43abc1b"), looks := false }, kinds := [], alts := [], laidByText := true, laidKinds := [.data, .pinned], laidTests := true, laidLooks := .later }
def SpanWholesUptoCardSaid : Prop := Claim7.holds Tryd.pinned (.plain (OpenSpec.upto spanWholesSpec)) spanWholesUptoCard

/-- THE SECOND FORM's CARD OF 'stratigraphlaw09.SpanOnce'. -/
def spanOnceUptoCard : Claim7 := { stood := { row := spanOnceUptoRow, standIns := [], harness := (true, "b7408953976fc4159ce5a87ab389274742f47cee1c5e737dbbf586d7e43abc1b"), looks := false }, kinds := [], alts := [], laidByText := true, laidKinds := [.data, .pinned], laidTests := true, laidLooks := .later }
def SpanOnceUptoCardSaid : Prop := Claim7.holds Tryd.pinned (.plain (OpenSpec.upto spanOnceSpec)) spanOnceUptoCard

/-- THE SECOND FORM's CARD OF 'stratigraphlaw09.SpanJoins'. -/
def spanJoinsUptoCard : Claim7 := { stood := { row := spanJoinsUptoRow, standIns := [], harness := (true, "b7408953976fc4159ce5a87ab389274742f47cee1c5e737dbbf586d7e43abc1b"), looks := false }, kinds := [], alts := [], laidByText := true, laidKinds := [.data, .pinned], laidTests := true, laidLooks := .later }
def SpanJoinsUptoCardSaid : Prop := Claim7.holds Tryd.pinned (.plain (OpenSpec.upto spanJoinsSpec)) spanJoinsUptoCard

/-- THE SECOND FORM's CARD OF 'stratigraphlaw09.SpanBack'. -/
def spanBackUptoCard : Claim7 := { stood := { row := spanBackUptoRow, standIns := [], harness := (true, "b7408953976fc4159ce5a87ab389274742f47cee1c5e737dbbf586d7e43abc1b"), looks := false }, kinds := [], alts := [], laidByText := true, laidKinds := [.data, .pinned], laidTests := true, laidLooks := .later }
def SpanBackUptoCardSaid : Prop := Claim7.holds Tryd.pinned (.plain (OpenSpec.upto spanBackSpec)) spanBackUptoCard
end Rows
end Go.Proofs.YtjckniebocjefaaDoor
