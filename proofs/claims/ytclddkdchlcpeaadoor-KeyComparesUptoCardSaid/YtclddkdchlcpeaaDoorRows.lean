/-
  NARROWER THAN 'FOR EVERY INPUT', by the rows' own cells (each row's printed sentence says how): KeyCompares: laid · KeyShows: laid · KeyReads: laid · KeyOrder: laid · KeyBack: laid · KeyChain: laid · KeyRights: laid · KeyLetters: laid.
  DERIVED. THE GIVEN ROWS OF THIS SEAT. 8 by the template 'for every input the law returns true; each argument reads behind the call as it read before'; 0 by the template 'total and deterministic' (their statements: YtclddkdchlcpeaaDoorTotals.lean).
  GIVEN WITH THE SEED: the statements are not yours to turn. If you find one false, say at which input.
  Laid BY PROGRAM, IN A SANDBOX (cutbox-rows.mjs): the forced cells as the released guide's own fill.sh prints them over the translation 7c4e735454111fc4… (all of the seat's roots in one cut). By AI agents, Wed Nov 11 2026. No macro, syntax, notation, axiom, sorry.
-/
import Derived.Test.YtclddkdchlcpeaaDoorChecked
import GoSem.PinnedTables
import GoSem.Claim
import GoSem.ClaimJoined
import GoSem.ClaimMapViews
import Derived.JoinedTies
import Derived.KernelRfl
namespace Go.Proofs.YtclddkdchlcpeaaDoor
/- THE CELL 'sum', in the pinned program and in every row, IS THE sha256 OF THE DUMP (.gsa) THAT YtclddkdchlcpeaaDoorProg.lean LOADS. Nothing in Lean hashes anything: it is a label: what it is worth is what the hold of that sum in a sandbox is worth. -/
noncomputable def Tryd.pinned : Pinned := { name := "ytclddkdchlcpeaadoor", sum := "7c4e735454111fc4378104bd93c3d2029d0fb1463d104105a16121bddc3875de", checked := Tryd.checked }
namespace Rows
def none {H : Type} : Left H := { results := [], args := [] }

/- WHAT THE LISTED PACKAGE-LEVEL VARIABLES READ AS WHEN THE CALL BEGINS. Each datum BY PROGRAM (the guide's laid-datum.mjs) off the statement by which the dump's own 'gosem.cut.vars' lays the variable. In a bare row this is a premise. The card (YtclddkdchlcpeaaDoorCards.lean) ties it to the program's text. -/
def laid_unicode_utf8_acceptRanges {H : Type} : DataW H := .agg [.agg [.lit (.int .u8 128), .lit (.int .u8 191)], .agg [.lit (.int .u8 160), .lit (.int .u8 191)], .agg [.lit (.int .u8 128), .lit (.int .u8 159)], .agg [.lit (.int .u8 144), .lit (.int .u8 191)], .agg [.lit (.int .u8 128), .lit (.int .u8 143)], .agg [.lit (.int .u8 0), .lit (.int .u8 0)], .agg [.lit (.int .u8 0), .lit (.int .u8 0)], .agg [.lit (.int .u8 0), .lit (.int .u8 0)], .agg [.lit (.int .u8 0), .lit (.int .u8 0)], .agg [.lit (.int .u8 0), .lit (.int .u8 0)], .agg [.lit (.int .u8 0), .lit (.int .u8 0)], .agg [.lit (.int .u8 0), .lit (.int .u8 0)], .agg [.lit (.int .u8 0), .lit (.int .u8 0)], .agg [.lit (.int .u8 0), .lit (.int .u8 0)], .agg [.lit (.int .u8 0), .lit (.int .u8 0)], .agg [.lit (.int .u8 0), .lit (.int .u8 0)]]
/-- One of Go's own tables, pinned by name: the form's constant. -/
def laid_unicode_utf8_first : DataW Unit := Go.Pinned.utf8First

/-- 'stratigraphlaw04.KeyCompares': WHATEVER THE INPUT: true; the input reads as it did. -/
def keyComparesSpec : ChangeSpec := { name := "keyCompares", fn := fun _ => fun
  | [d1, d2] => { results := [.lit (.bool true)], args := [d1, d2] }
  | _ => none }
def keyComparesRow : OpenClaim := { program := "ytclddkdchlcpeaadoor", sum := "7c4e735454111fc4378104bd93c3d2029d0fb1463d104105a16121bddc3875de", func := "stratigraph/stratigraphlaw04.KeyCompares", spec := "keyCompares", inPlace := ["internal/bytealg.IndexByteString", "internal/abi.NoEscape"], named := ["unicode/utf8.first", "unicode/utf8.acceptRanges"], apart := false, laid := [("unicode/utf8.acceptRanges", laid_unicode_utf8_acceptRanges), ("unicode/utf8.first", laid_unicode_utf8_first)] }
def KeyComparesSaid : Prop := keyComparesRow.holds Tryd.pinned (OpenSpec.ofChange keyComparesSpec)

/-- ITS FALSE NEIGHBOUR: 'it returns false'. Refute it at one input. -/
def keyComparesWrong : ChangeSpec := { name := "keyCompares", fn := fun _ => fun
  | [d1, d2] => { results := [.lit (.bool false)], args := [d1, d2] }
  | _ => none }
def KeyComparesWrongFalsely : Prop := keyComparesRow.holds Tryd.pinned (OpenSpec.ofChange keyComparesWrong)

/-- 'stratigraphlaw04.KeyShows': WHATEVER THE INPUT: true; the input reads as it did. -/
def keyShowsSpec : ChangeSpec := { name := "keyShows", fn := fun _ => fun
  | [d] => { results := [.lit (.bool true)], args := [d] }
  | _ => none }
def keyShowsRow : OpenClaim := { program := "ytclddkdchlcpeaadoor", sum := "7c4e735454111fc4378104bd93c3d2029d0fb1463d104105a16121bddc3875de", func := "stratigraph/stratigraphlaw04.KeyShows", spec := "keyShows", inPlace := ["internal/bytealg.IndexByteString", "internal/abi.NoEscape"], named := ["unicode/utf8.first", "unicode/utf8.acceptRanges"], apart := false, laid := [("unicode/utf8.acceptRanges", laid_unicode_utf8_acceptRanges), ("unicode/utf8.first", laid_unicode_utf8_first)] }
def KeyShowsSaid : Prop := keyShowsRow.holds Tryd.pinned (OpenSpec.ofChange keyShowsSpec)

/-- ITS FALSE NEIGHBOUR: 'it returns false'. Refute it at one input. -/
def keyShowsWrong : ChangeSpec := { name := "keyShows", fn := fun _ => fun
  | [d] => { results := [.lit (.bool false)], args := [d] }
  | _ => none }
def KeyShowsWrongFalsely : Prop := keyShowsRow.holds Tryd.pinned (OpenSpec.ofChange keyShowsWrong)

/-- 'stratigraphlaw04.KeyReads': WHATEVER THE INPUT: true; the input reads as it did. -/
def keyReadsSpec : ChangeSpec := { name := "keyReads", fn := fun _ => fun
  | [d] => { results := [.lit (.bool true)], args := [d] }
  | _ => none }
def keyReadsRow : OpenClaim := { program := "ytclddkdchlcpeaadoor", sum := "7c4e735454111fc4378104bd93c3d2029d0fb1463d104105a16121bddc3875de", func := "stratigraph/stratigraphlaw04.KeyReads", spec := "keyReads", inPlace := ["internal/bytealg.IndexByteString", "internal/abi.NoEscape"], named := ["unicode/utf8.first", "unicode/utf8.acceptRanges"], apart := false, laid := [("unicode/utf8.acceptRanges", laid_unicode_utf8_acceptRanges), ("unicode/utf8.first", laid_unicode_utf8_first)] }
def KeyReadsSaid : Prop := keyReadsRow.holds Tryd.pinned (OpenSpec.ofChange keyReadsSpec)

/-- ITS FALSE NEIGHBOUR: 'it returns false'. Refute it at one input. -/
def keyReadsWrong : ChangeSpec := { name := "keyReads", fn := fun _ => fun
  | [d] => { results := [.lit (.bool false)], args := [d] }
  | _ => none }
def KeyReadsWrongFalsely : Prop := keyReadsRow.holds Tryd.pinned (OpenSpec.ofChange keyReadsWrong)

/-- 'stratigraphlaw04.KeyOrder': WHATEVER THE INPUT: true; the input reads as it did. -/
def keyOrderSpec : ChangeSpec := { name := "keyOrder", fn := fun _ => fun
  | [d1, d2] => { results := [.lit (.bool true)], args := [d1, d2] }
  | _ => none }
def keyOrderRow : OpenClaim := { program := "ytclddkdchlcpeaadoor", sum := "7c4e735454111fc4378104bd93c3d2029d0fb1463d104105a16121bddc3875de", func := "stratigraph/stratigraphlaw04.KeyOrder", spec := "keyOrder", inPlace := ["internal/bytealg.IndexByteString", "internal/abi.NoEscape"], named := ["unicode/utf8.first", "unicode/utf8.acceptRanges"], apart := false, laid := [("unicode/utf8.acceptRanges", laid_unicode_utf8_acceptRanges), ("unicode/utf8.first", laid_unicode_utf8_first)] }
def KeyOrderSaid : Prop := keyOrderRow.holds Tryd.pinned (OpenSpec.ofChange keyOrderSpec)

/-- ITS FALSE NEIGHBOUR: 'it returns false'. Refute it at one input. -/
def keyOrderWrong : ChangeSpec := { name := "keyOrder", fn := fun _ => fun
  | [d1, d2] => { results := [.lit (.bool false)], args := [d1, d2] }
  | _ => none }
def KeyOrderWrongFalsely : Prop := keyOrderRow.holds Tryd.pinned (OpenSpec.ofChange keyOrderWrong)

/-- 'stratigraphlaw04.KeyBack': WHATEVER THE INPUT: true; the input reads as it did. -/
def keyBackSpec : ChangeSpec := { name := "keyBack", fn := fun _ => fun
  | [d1, d2] => { results := [.lit (.bool true)], args := [d1, d2] }
  | _ => none }
def keyBackRow : OpenClaim := { program := "ytclddkdchlcpeaadoor", sum := "7c4e735454111fc4378104bd93c3d2029d0fb1463d104105a16121bddc3875de", func := "stratigraph/stratigraphlaw04.KeyBack", spec := "keyBack", inPlace := ["internal/bytealg.IndexByteString", "internal/abi.NoEscape"], named := ["unicode/utf8.first", "unicode/utf8.acceptRanges"], apart := false, laid := [("unicode/utf8.acceptRanges", laid_unicode_utf8_acceptRanges), ("unicode/utf8.first", laid_unicode_utf8_first)] }
def KeyBackSaid : Prop := keyBackRow.holds Tryd.pinned (OpenSpec.ofChange keyBackSpec)

/-- ITS FALSE NEIGHBOUR: 'it returns false'. Refute it at one input. -/
def keyBackWrong : ChangeSpec := { name := "keyBack", fn := fun _ => fun
  | [d1, d2] => { results := [.lit (.bool false)], args := [d1, d2] }
  | _ => none }
def KeyBackWrongFalsely : Prop := keyBackRow.holds Tryd.pinned (OpenSpec.ofChange keyBackWrong)

/-- 'stratigraphlaw04.KeyChain': WHATEVER THE INPUT: true; the input reads as it did. -/
def keyChainSpec : ChangeSpec := { name := "keyChain", fn := fun _ => fun
  | [d1, d2, d3] => { results := [.lit (.bool true)], args := [d1, d2, d3] }
  | _ => none }
def keyChainRow : OpenClaim := { program := "ytclddkdchlcpeaadoor", sum := "7c4e735454111fc4378104bd93c3d2029d0fb1463d104105a16121bddc3875de", func := "stratigraph/stratigraphlaw04.KeyChain", spec := "keyChain", inPlace := ["internal/bytealg.IndexByteString", "internal/abi.NoEscape"], named := ["unicode/utf8.first", "unicode/utf8.acceptRanges"], apart := false, laid := [("unicode/utf8.acceptRanges", laid_unicode_utf8_acceptRanges), ("unicode/utf8.first", laid_unicode_utf8_first)] }
def KeyChainSaid : Prop := keyChainRow.holds Tryd.pinned (OpenSpec.ofChange keyChainSpec)

/-- ITS FALSE NEIGHBOUR: 'it returns false'. Refute it at one input. -/
def keyChainWrong : ChangeSpec := { name := "keyChain", fn := fun _ => fun
  | [d1, d2, d3] => { results := [.lit (.bool false)], args := [d1, d2, d3] }
  | _ => none }
def KeyChainWrongFalsely : Prop := keyChainRow.holds Tryd.pinned (OpenSpec.ofChange keyChainWrong)

/-- 'stratigraphlaw04.KeyRights': WHATEVER THE INPUT: true; the input reads as it did. -/
def keyRightsSpec : ChangeSpec := { name := "keyRights", fn := fun _ => fun
  | [d] => { results := [.lit (.bool true)], args := [d] }
  | _ => none }
def keyRightsRow : OpenClaim := { program := "ytclddkdchlcpeaadoor", sum := "7c4e735454111fc4378104bd93c3d2029d0fb1463d104105a16121bddc3875de", func := "stratigraph/stratigraphlaw04.KeyRights", spec := "keyRights", inPlace := ["internal/bytealg.IndexByteString", "internal/abi.NoEscape"], named := ["unicode/utf8.first", "unicode/utf8.acceptRanges"], apart := false, laid := [("unicode/utf8.acceptRanges", laid_unicode_utf8_acceptRanges), ("unicode/utf8.first", laid_unicode_utf8_first)] }
def KeyRightsSaid : Prop := keyRightsRow.holds Tryd.pinned (OpenSpec.ofChange keyRightsSpec)

/-- ITS FALSE NEIGHBOUR: 'it returns false'. Refute it at one input. -/
def keyRightsWrong : ChangeSpec := { name := "keyRights", fn := fun _ => fun
  | [d] => { results := [.lit (.bool false)], args := [d] }
  | _ => none }
def KeyRightsWrongFalsely : Prop := keyRightsRow.holds Tryd.pinned (OpenSpec.ofChange keyRightsWrong)

/-- 'stratigraphlaw04.KeyLetters': WHATEVER THE INPUT: true; the input reads as it did. -/
def keyLettersSpec : ChangeSpec := { name := "keyLetters", fn := fun _ => fun
  | [d] => { results := [.lit (.bool true)], args := [d] }
  | _ => none }
def keyLettersRow : OpenClaim := { program := "ytclddkdchlcpeaadoor", sum := "7c4e735454111fc4378104bd93c3d2029d0fb1463d104105a16121bddc3875de", func := "stratigraph/stratigraphlaw04.KeyLetters", spec := "keyLetters", inPlace := ["internal/bytealg.IndexByteString", "internal/abi.NoEscape"], named := ["unicode/utf8.first", "unicode/utf8.acceptRanges"], apart := false, laid := [("unicode/utf8.acceptRanges", laid_unicode_utf8_acceptRanges), ("unicode/utf8.first", laid_unicode_utf8_first)] }
def KeyLettersSaid : Prop := keyLettersRow.holds Tryd.pinned (OpenSpec.ofChange keyLettersSpec)

/-- ITS FALSE NEIGHBOUR: 'it returns false'. Refute it at one input. -/
def keyLettersWrong : ChangeSpec := { name := "keyLetters", fn := fun _ => fun
  | [d] => { results := [.lit (.bool false)], args := [d] }
  | _ => none }
def KeyLettersWrongFalsely : Prop := keyLettersRow.holds Tryd.pinned (OpenSpec.ofChange keyLettersWrong)

/- THE SECOND FORM. 'bulk': how many values and letters a reading holds, each counted each time it is reached (what is shared counts as often as it is met; a slice's spare places count too). A statement '..UptoSaid' is the law's where the arguments, and the package variables that the reading takes, are together of bulk at most 1048576: NARROWER than '..Said'. Prove '..Said' where nothing that the law and all that it calls make is longer than what came in: it says more and counts as full. Else prove '..UptoSaid'. A law counts once. -/
mutual
def uptoBulk {H : Type} : DataW H → Nat
  | .lit (.string bytes) => bytes.length + 1
  | .lit _ => 1
  | .nil => 1
  | .ptr d => uptoBulk d + 1
  | .slice elems spare => uptoBulkAll elems + uptoBulkAll spare + 1
  | .agg parts => uptoBulkAll parts + 1
  | .iface _ d => uptoBulk d + 1
  | .map entries => uptoBulkEntries entries + 1
  | .held _ => 1
def uptoBulkAll {H : Type} : List (DataW H) → Nat
  | [] => 0
  | d :: r => uptoBulk d + uptoBulkAll r
def uptoBulkEntries {H : Type} : List (Lit × DataW H) → Nat
  | [] => 0
  | x :: r => uptoBulkEntry x + uptoBulkEntries r
def uptoBulkEntry {H : Type} : Lit × DataW H → Nat
  | (.string bytes, d) => bytes.length + uptoBulk d + 1
  | (_, d) => uptoBulk d + 1
 end
def uptoSmall : (H : Type) → List (DataW H) → Bool := fun _ ds => decide (uptoBulkAll ds ≤ 1048576)
def OpenSpec.upto (s : _root_.Go.ChangeSpec) : _root_.Go.OpenSpec := { _root_.Go.OpenSpec.ofChange s with cond := some uptoSmall }

/-- 'stratigraphlaw04.KeyCompares', WHERE WHAT IT READS IS OF BULK AT MOST 1048576: true; the input reads as it did. -/
def keyComparesUptoRow : OpenClaim := { program := "ytclddkdchlcpeaadoor", sum := "7c4e735454111fc4378104bd93c3d2029d0fb1463d104105a16121bddc3875de", func := "stratigraph/stratigraphlaw04.KeyCompares", spec := "keyCompares", inPlace := ["internal/bytealg.IndexByteString", "internal/abi.NoEscape"], named := ["unicode/utf8.first", "unicode/utf8.acceptRanges"], apart := false, laid := [("unicode/utf8.acceptRanges", laid_unicode_utf8_acceptRanges), ("unicode/utf8.first", laid_unicode_utf8_first)], narrowed := true }
def KeyComparesUptoSaid : Prop := keyComparesUptoRow.holds Tryd.pinned (OpenSpec.upto keyComparesSpec)

/-- 'stratigraphlaw04.KeyShows', WHERE WHAT IT READS IS OF BULK AT MOST 1048576: true; the input reads as it did. -/
def keyShowsUptoRow : OpenClaim := { program := "ytclddkdchlcpeaadoor", sum := "7c4e735454111fc4378104bd93c3d2029d0fb1463d104105a16121bddc3875de", func := "stratigraph/stratigraphlaw04.KeyShows", spec := "keyShows", inPlace := ["internal/bytealg.IndexByteString", "internal/abi.NoEscape"], named := ["unicode/utf8.first", "unicode/utf8.acceptRanges"], apart := false, laid := [("unicode/utf8.acceptRanges", laid_unicode_utf8_acceptRanges), ("unicode/utf8.first", laid_unicode_utf8_first)], narrowed := true }
def KeyShowsUptoSaid : Prop := keyShowsUptoRow.holds Tryd.pinned (OpenSpec.upto keyShowsSpec)

/-- 'stratigraphlaw04.KeyReads', WHERE WHAT IT READS IS OF BULK AT MOST 1048576: true; the input reads as it did. -/
def keyReadsUptoRow : OpenClaim := { program := "ytclddkdchlcpeaadoor", sum := "7c4e735454111fc4378104bd93c3d2029d0fb1463d104105a16121bddc3875de", func := "stratigraph/stratigraphlaw04.KeyReads", spec := "keyReads", inPlace := ["internal/bytealg.IndexByteString", "internal/abi.NoEscape"], named := ["unicode/utf8.first", "unicode/utf8.acceptRanges"], apart := false, laid := [("unicode/utf8.acceptRanges", laid_unicode_utf8_acceptRanges), ("unicode/utf8.first", laid_unicode_utf8_first)], narrowed := true }
def KeyReadsUptoSaid : Prop := keyReadsUptoRow.holds Tryd.pinned (OpenSpec.upto keyReadsSpec)

/-- 'stratigraphlaw04.KeyOrder', WHERE WHAT IT READS IS OF BULK AT MOST 1048576: true; the input reads as it did. -/
def keyOrderUptoRow : OpenClaim := { program := "ytclddkdchlcpeaadoor", sum := "7c4e735454111fc4378104bd93c3d2029d0fb1463d104105a16121bddc3875de", func := "stratigraph/stratigraphlaw04.KeyOrder", spec := "keyOrder", inPlace := ["internal/bytealg.IndexByteString", "internal/abi.NoEscape"], named := ["unicode/utf8.first", "unicode/utf8.acceptRanges"], apart := false, laid := [("unicode/utf8.acceptRanges", laid_unicode_utf8_acceptRanges), ("unicode/utf8.first", laid_unicode_utf8_first)], narrowed := true }
def KeyOrderUptoSaid : Prop := keyOrderUptoRow.holds Tryd.pinned (OpenSpec.upto keyOrderSpec)

/-- 'stratigraphlaw04.KeyBack', WHERE WHAT IT READS IS OF BULK AT MOST 1048576: true; the input reads as it did. -/
def keyBackUptoRow : OpenClaim := { program := "ytclddkdchlcpeaadoor", sum := "7c4e735454111fc4378104bd93c3d2029d0fb1463d104105a16121bddc3875de", func := "stratigraph/stratigraphlaw04.KeyBack", spec := "keyBack", inPlace := ["internal/bytealg.IndexByteString", "internal/abi.NoEscape"], named := ["unicode/utf8.first", "unicode/utf8.acceptRanges"], apart := false, laid := [("unicode/utf8.acceptRanges", laid_unicode_utf8_acceptRanges), ("unicode/utf8.first", laid_unicode_utf8_first)], narrowed := true }
def KeyBackUptoSaid : Prop := keyBackUptoRow.holds Tryd.pinned (OpenSpec.upto keyBackSpec)

/-- 'stratigraphlaw04.KeyChain', WHERE WHAT IT READS IS OF BULK AT MOST 1048576: true; the input reads as it did. -/
def keyChainUptoRow : OpenClaim := { program := "ytclddkdchlcpeaadoor", sum := "7c4e735454111fc4378104bd93c3d2029d0fb1463d104105a16121bddc3875de", func := "stratigraph/stratigraphlaw04.KeyChain", spec := "keyChain", inPlace := ["internal/bytealg.IndexByteString", "internal/abi.NoEscape"], named := ["unicode/utf8.first", "unicode/utf8.acceptRanges"], apart := false, laid := [("unicode/utf8.acceptRanges", laid_unicode_utf8_acceptRanges), ("unicode/utf8.first", laid_unicode_utf8_first)], narrowed := true }
def KeyChainUptoSaid : Prop := keyChainUptoRow.holds Tryd.pinned (OpenSpec.upto keyChainSpec)

/-- 'stratigraphlaw04.KeyRights', WHERE WHAT IT READS IS OF BULK AT MOST 1048576: true; the input reads as it did. -/
def keyRightsUptoRow : OpenClaim := { program := "ytclddkdchlcpeaadoor", sum := "7c4e735454111fc4378104bd93c3d2029d0fb1463d104105a16121bddc3875de", func := "stratigraph/stratigraphlaw04.KeyRights", spec := "keyRights", inPlace := ["internal/bytealg.IndexByteString", "internal/abi.NoEscape"], named := ["unicode/utf8.first", "unicode/utf8.acceptRanges"], apart := false, laid := [("unicode/utf8.acceptRanges", laid_unicode_utf8_acceptRanges), ("unicode/utf8.first", laid_unicode_utf8_first)], narrowed := true }
def KeyRightsUptoSaid : Prop := keyRightsUptoRow.holds Tryd.pinned (OpenSpec.upto keyRightsSpec)

/-- 'stratigraphlaw04.KeyLetters', WHERE WHAT IT READS IS OF BULK AT MOST 1048576: true; the input reads as it did. -/
def keyLettersUptoRow : OpenClaim := { program := "ytclddkdchlcpeaadoor", sum := "7c4e735454111fc4378104bd93c3d2029d0fb1463d104105a16121bddc3875de", func := "stratigraph/stratigraphlaw04.KeyLetters", spec := "keyLetters", inPlace := ["internal/bytealg.IndexByteString", "internal/abi.NoEscape"], named := ["unicode/utf8.first", "unicode/utf8.acceptRanges"], apart := false, laid := [("unicode/utf8.acceptRanges", laid_unicode_utf8_acceptRanges), ("unicode/utf8.first", laid_unicode_utf8_first)], narrowed := true }
def KeyLettersUptoSaid : Prop := keyLettersUptoRow.holds Tryd.pinned (OpenSpec.upto keyLettersSpec)

end Rows
end Go.Proofs.YtclddkdchlcpeaaDoor
