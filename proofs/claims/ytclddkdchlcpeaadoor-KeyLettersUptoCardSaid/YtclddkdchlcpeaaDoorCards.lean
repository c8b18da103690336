/-
  DERIVED. GIVEN WITH THE SEED: THE CARDS: each row of YtclddkdchlcpeaaDoorRows.lean that lists a variable, with what it lists TIED to the program's text (the seventh form; the later family's looks); each row that meets fmt, with fmt's text TOLD by the authors' own Lean function (tested against real Go, not proved from fmt's source: count such statements apart). THE CARD IS WHAT COUNTS. Prove the row's statement (the work); the ties are given (YtclddkdchlcpeaaDoorTie.lean); close each card by the builder's one call (the guide's Derived/Test/ToyasCard.lean, 'card_holds'). Laid BY PROGRAM, IN A SANDBOX (cutbox-door.mjs). By AI agents, Wed Nov 11 2026. No macro, syntax, notation, axiom, sorry.
-/
import Derived.Test.YtclddkdchlcpeaaDoorRows
import GoSem.ClaimSeven
namespace Go.Proofs.YtclddkdchlcpeaaDoor
namespace Rows

/-- THE TIED CARD OF 'stratigraphlaw04.KeyCompares'. -/
def keyComparesCard : Claim7 := { stood := { row := keyComparesRow, standIns := [], harness := (true, "4e80e6a540d18e5ad27ff17f603a821625c2efe0ad20d594277643c8408ef6bb"), looks := false }, kinds := [], alts := [], laidByText := true, laidKinds := [.data, .pinned], laidTests := true, laidLooks := .later }
def KeyComparesCardSaid : Prop := Claim7.holds Tryd.pinned (.plain (OpenSpec.ofChange keyComparesSpec)) keyComparesCard

/-- THE TIED CARD OF 'stratigraphlaw04.KeyShows'. -/
def keyShowsCard : Claim7 := { stood := { row := keyShowsRow, standIns := [], harness := (true, "4e80e6a540d18e5ad27ff17f603a821625c2efe0ad20d594277643c8408ef6bb"), looks := false }, kinds := [], alts := [], laidByText := true, laidKinds := [.data, .pinned], laidTests := true, laidLooks := .later }
def KeyShowsCardSaid : Prop := Claim7.holds Tryd.pinned (.plain (OpenSpec.ofChange keyShowsSpec)) keyShowsCard

/-- THE TIED CARD OF 'stratigraphlaw04.KeyReads'. -/
def keyReadsCard : Claim7 := { stood := { row := keyReadsRow, standIns := [], harness := (true, "4e80e6a540d18e5ad27ff17f603a821625c2efe0ad20d594277643c8408ef6bb"), looks := false }, kinds := [], alts := [], laidByText := true, laidKinds := [.data, .pinned], laidTests := true, laidLooks := .later }
def KeyReadsCardSaid : Prop := Claim7.holds Tryd.pinned (.plain (OpenSpec.ofChange keyReadsSpec)) keyReadsCard

/-- THE TIED CARD OF 'stratigraphlaw04.KeyOrder'. -/
def keyOrderCard : Claim7 := { stood := { row := keyOrderRow, standIns := [], harness := (true, "4e80e6a540d18e5ad27ff17f603a821625c2efe0ad20d594277643c8408ef6bb"), looks := false }, kinds := [], alts := [], laidByText := true, laidKinds := [.data, .pinned], laidTests := true, laidLooks := .later }
def KeyOrderCardSaid : Prop := Claim7.holds Tryd.pinned (.plain (OpenSpec.ofChange keyOrderSpec)) keyOrderCard

/-- THE TIED CARD OF 'stratigraphlaw04.KeyBack'. -/
def keyBackCard : Claim7 := { stood := { row := keyBackRow, standIns := [], harness := (true, "4e80e6a540d18e5ad27ff17f603a821625c2efe0ad20d594277643c8408ef6bb"), looks := false }, kinds := [], alts := [], laidByText := true, laidKinds := [.data, .pinned], laidTests := true, laidLooks := .later }
def KeyBackCardSaid : Prop := Claim7.holds Tryd.pinned (.plain (OpenSpec.ofChange keyBackSpec)) keyBackCard

/-- THE TIED CARD OF 'stratigraphlaw04.KeyChain'. -/
def keyChainCard : Claim7 := { stood := { row := keyChainRow, standIns := [], harness := (true, "4e80e6a540d18e5ad27ff17f603a821625c2efe0ad20d594277643c8408ef6bb"), looks := false }, kinds := [], alts := [], laidByText := true, laidKinds := [.data, .pinned], laidTests := true, laidLooks := .later }
def KeyChainCardSaid : Prop := Claim7.holds Tryd.pinned (.plain (OpenSpec.ofChange keyChainSpec)) keyChainCard

/-- THE TIED CARD OF 'stratigraphlaw04.KeyRights'. -/
def keyRightsCard : Claim7 := { stood := { row := keyRightsRow, standIns := [], harness := (true, "4e80e6a540d18e5ad27ff17f603a821625c2efe0ad20d594277643c8408ef6bb"), looks := false }, kinds := [], alts := [], laidByText := true, laidKinds := [.data, .pinned], laidTests := true, laidLooks := .later }
def KeyRightsCardSaid : Prop := Claim7.holds Tryd.pinned (.plain (OpenSpec.ofChange keyRightsSpec)) keyRightsCard

/-- THE TIED CARD OF 'stratigraphlaw04.KeyLetters'. -/
def keyLettersCard : Claim7 := { stood := { row := keyLettersRow, standIns := [], harness := (true, "4e80e6a540d18e5ad27ff17f603a821625c2efe0ad20d594277643c8408ef6bb"), looks := false }, kinds := [], alts := [], laidByText := true, laidKinds := [.data, .pinned], laidTests := true, laidLooks := .later }
def KeyLettersCardSaid : Prop := Claim7.holds Tryd.pinned (.plain (OpenSpec.ofChange keyLettersSpec)) keyLettersCard

/-- THE SECOND FORM's CARD OF 'stratigraphlaw04.KeyCompares'. -/
def keyComparesUptoCard : Claim7 := { stood := { row := keyComparesUptoRow, standIns := [], harness := (true, "4e80e6a540d18e5ad27ff17f603a821625c2efe0ad20d594277643c8408ef6bb"), looks := false }, kinds := [], alts := [], laidByText := true, laidKinds := [.data, .pinned], laidTests := true, laidLooks := .later }
def KeyComparesUptoCardSaid : Prop := Claim7.holds Tryd.pinned (.plain (OpenSpec.upto keyComparesSpec)) keyComparesUptoCard

/-- THE SECOND FORM's CARD OF 'stratigraphlaw04.KeyShows'. -/
def keyShowsUptoCard : Claim7 := { stood := { row := keyShowsUptoRow, standIns := [], harness := (true, "4e80e6a540d18e5ad27ff17f603a821625c2efe0ad20d594277643c8408ef6bb"), looks := false }, kinds := [], alts := [], laidByText := true, laidKinds := [.data, .pinned], laidTests := true, laidLooks := .later }
def KeyShowsUptoCardSaid : Prop := Claim7.holds Tryd.pinned (.plain (OpenSpec.upto keyShowsSpec)) keyShowsUptoCard

/-- THE SECOND FORM's CARD OF 'stratigraphlaw04.KeyReads'. -/
def keyReadsUptoCard : Claim7 := { stood := { row := keyReadsUptoRow, standIns := [], harness := (true, "4e80e6a540d18e5ad27ff17f603a821625c2efe0ad20d594277643c8408ef6bb"), looks := false }, kinds := [], alts := [], laidByText := true, laidKinds := [.data, .pinned], laidTests := true, laidLooks := .later }
def KeyReadsUptoCardSaid : Prop := Claim7.holds Tryd.pinned (.plain (OpenSpec.upto keyReadsSpec)) keyReadsUptoCard

/-- THE SECOND FORM's CARD OF 'stratigraphlaw04.KeyOrder'. -/
def keyOrderUptoCard : Claim7 := { stood := { row := keyOrderUptoRow, standIns := [], harness := (true, "4e80e6a540d18e5ad27ff17f603a821625c2efe0ad20d594277643c8408ef6bb"), looks := false }, kinds := [], alts := [], laidByText := true, laidKinds := [.data, .pinned], laidTests := true, laidLooks := .later }
def KeyOrderUptoCardSaid : Prop := Claim7.holds Tryd.pinned (.plain (OpenSpec.upto keyOrderSpec)) keyOrderUptoCard

/-- THE SECOND FORM's CARD OF 'stratigraphlaw04.KeyBack'. -/
def keyBackUptoCard : Claim7 := { stood := { row := keyBackUptoRow, standIns := [], harness := (true, "4e80e6a540d18e5ad27ff17f603a821625c2efe0ad20d594277643c8408ef6bb"), looks := false }, kinds := [], alts := [], laidByText := true, laidKinds := [.data, .pinned], laidTests := true, laidLooks := .later }
def KeyBackUptoCardSaid : Prop := Claim7.holds Tryd.pinned (.plain (OpenSpec.upto keyBackSpec)) keyBackUptoCard

/-- THE SECOND FORM's CARD OF 'stratigraphlaw04.KeyChain'. -/
def keyChainUptoCard : Claim7 := { stood := { row := keyChainUptoRow, standIns := [], harness := (true, "4e80e6a540d18e5ad27ff17f603a821625c2efe0ad20d594277643c8408ef6bb"), looks := false }, kinds := [], alts := [], laidByText := true, laidKinds := [.data, .pinned], laidTests := true, laidLooks := .later }
def KeyChainUptoCardSaid : Prop := Claim7.holds Tryd.pinned (.plain (OpenSpec.upto keyChainSpec)) keyChainUptoCard

/-- THE SECOND FORM's CARD OF 'stratigraphlaw04.KeyRights'. -/
def keyRightsUptoCard : Claim7 := { stood := { row := keyRightsUptoRow, standIns := [], harness := (true, "4e80e6a540d18e5ad27ff17f603a821625c2efe0ad20d594277643c8408ef6bb"), looks := false }, kinds := [], alts := [], laidByText := true, laidKinds := [.data, .pinned], laidTests := true, laidLooks := .later }
def KeyRightsUptoCardSaid : Prop := Claim7.holds Tryd.pinned (.plain (OpenSpec.upto keyRightsSpec)) keyRightsUptoCard

/-- THE SECOND FORM's CARD OF 'stratigraphlaw04.KeyLetters'. -/
def keyLettersUptoCard : Claim7 := { stood := { row := keyLettersUptoRow, standIns := [], harness := (true, "4e80e6a540d18e5ad27ff17f603a821625c2efe0ad20d594277643c8408ef6bb"), looks := false }, kinds := [], alts := [], laidByText := true, laidKinds := [.data, .pinned], laidTests := true, laidLooks := .later }
def KeyLettersUptoCardSaid : Prop := Claim7.holds Tryd.pinned (.plain (OpenSpec.upto keyLettersSpec)) keyLettersUptoCard
end Rows
end Go.Proofs.YtclddkdchlcpeaaDoor
