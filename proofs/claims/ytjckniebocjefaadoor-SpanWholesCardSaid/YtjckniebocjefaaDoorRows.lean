/-
  NARROWER THAN 'FOR EVERY INPUT', by the rows' own cells (each row's printed sentence says how): SpanRights: laid · SpanCuts: laid · SpanMeets: laid · SpanWholes: laid · SpanOnce: laid · SpanJoins: laid · SpanBack: laid.
  DERIVED. THE GIVEN ROWS OF THIS SEAT. 7 by the template 'for every input the law returns true; each argument reads behind the call as it read before'; 0 by the template 'total and deterministic' (their statements: YtjckniebocjefaaDoorTotals.lean).
  GIVEN WITH THE SEED: the statements are not yours to turn. If you find one false, say at which input.
  Laid BY PROGRAM, IN A SANDBOX (cutbox-rows.mjs): the forced cells as the released guide's own fill.sh prints them over the translation f02b1ea8d8c02165… (all of the seat's roots in one cut). By AI agents, Wed Nov 11 2026. No macro, syntax, notation, axiom, sorry.
-/
import Derived.Test.YtjckniebocjefaaDoorChecked
import GoSem.PinnedTables
import GoSem.Claim
import GoSem.ClaimJoined
import GoSem.ClaimMapViews
import Derived.JoinedTies
import Derived.KernelRfl
namespace Go.Proofs.YtjckniebocjefaaDoor
/- THE CELL 'sum', in the pinned program and in every row, IS THE sha256 OF THE DUMP (.gsa) THAT YtjckniebocjefaaDoorProg.lean LOADS. Nothing in Lean hashes anything: it is a label: what it is worth is what the hold of that sum in a sandbox is worth. -/
noncomputable def Tryd.pinned : Pinned := { name := "ytjckniebocjefaadoor", sum := "f02b1ea8d8c02165de6e3b19cc196750864ba6869211bce30b625ccda70e0d4d", checked := Tryd.checked }
namespace Rows
def none {H : Type} : Left H := { results := [], args := [] }

/- WHAT THE LISTED PACKAGE-LEVEL VARIABLES READ AS WHEN THE CALL BEGINS. Each datum BY PROGRAM (the guide's laid-datum.mjs) off the statement by which the dump's own 'gosem.cut.vars' lays the variable. In a bare row this is a premise. The card (YtjckniebocjefaaDoorCards.lean) ties it to the program's text. -/
def laid_unicode_utf8_acceptRanges {H : Type} : DataW H := .agg [.agg [.lit (.int .u8 128), .lit (.int .u8 191)], .agg [.lit (.int .u8 160), .lit (.int .u8 191)], .agg [.lit (.int .u8 128), .lit (.int .u8 159)], .agg [.lit (.int .u8 144), .lit (.int .u8 191)], .agg [.lit (.int .u8 128), .lit (.int .u8 143)], .agg [.lit (.int .u8 0), .lit (.int .u8 0)], .agg [.lit (.int .u8 0), .lit (.int .u8 0)], .agg [.lit (.int .u8 0), .lit (.int .u8 0)], .agg [.lit (.int .u8 0), .lit (.int .u8 0)], .agg [.lit (.int .u8 0), .lit (.int .u8 0)], .agg [.lit (.int .u8 0), .lit (.int .u8 0)], .agg [.lit (.int .u8 0), .lit (.int .u8 0)], .agg [.lit (.int .u8 0), .lit (.int .u8 0)], .agg [.lit (.int .u8 0), .lit (.int .u8 0)], .agg [.lit (.int .u8 0), .lit (.int .u8 0)], .agg [.lit (.int .u8 0), .lit (.int .u8 0)]]
/-- One of Go's own tables, pinned by name: the form's constant. -/
def laid_unicode_utf8_first : DataW Unit := Go.Pinned.utf8First

/-- 'stratigraphlaw09.SpanRights': WHATEVER THE INPUT: true; the input reads as it did. -/
def spanRightsSpec : ChangeSpec := { name := "spanRights", fn := fun _ => fun
  | [d1, d2] => { results := [.lit (.bool true)], args := [d1, d2] }
  | _ => none }
def spanRightsRow : OpenClaim := { program := "ytjckniebocjefaadoor", sum := "f02b1ea8d8c02165de6e3b19cc196750864ba6869211bce30b625ccda70e0d4d", func := "stratigraph/stratigraphlaw09.SpanRights", spec := "spanRights", named := ["unicode/utf8.first", "unicode/utf8.acceptRanges"], apart := false, laid := [("unicode/utf8.acceptRanges", laid_unicode_utf8_acceptRanges), ("unicode/utf8.first", laid_unicode_utf8_first)] }
def SpanRightsSaid : Prop := spanRightsRow.holds Tryd.pinned (OpenSpec.ofChange spanRightsSpec)

/-- ITS FALSE NEIGHBOUR: 'it returns false'. Refute it at one input. -/
def spanRightsWrong : ChangeSpec := { name := "spanRights", fn := fun _ => fun
  | [d1, d2] => { results := [.lit (.bool false)], args := [d1, d2] }
  | _ => none }
def SpanRightsWrongFalsely : Prop := spanRightsRow.holds Tryd.pinned (OpenSpec.ofChange spanRightsWrong)

/-- 'stratigraphlaw09.SpanCuts': WHATEVER THE INPUT: true; the input reads as it did. -/
def spanCutsSpec : ChangeSpec := { name := "spanCuts", fn := fun _ => fun
  | [d1, d2] => { results := [.lit (.bool true)], args := [d1, d2] }
  | _ => none }
def spanCutsRow : OpenClaim := { program := "ytjckniebocjefaadoor", sum := "f02b1ea8d8c02165de6e3b19cc196750864ba6869211bce30b625ccda70e0d4d", func := "stratigraph/stratigraphlaw09.SpanCuts", spec := "spanCuts", named := ["unicode/utf8.first", "unicode/utf8.acceptRanges"], apart := false, laid := [("unicode/utf8.acceptRanges", laid_unicode_utf8_acceptRanges), ("unicode/utf8.first", laid_unicode_utf8_first)] }
def SpanCutsSaid : Prop := spanCutsRow.holds Tryd.pinned (OpenSpec.ofChange spanCutsSpec)

/-- ITS FALSE NEIGHBOUR: 'it returns false'. Refute it at one input. -/
def spanCutsWrong : ChangeSpec := { name := "spanCuts", fn := fun _ => fun
  | [d1, d2] => { results := [.lit (.bool false)], args := [d1, d2] }
  | _ => none }
def SpanCutsWrongFalsely : Prop := spanCutsRow.holds Tryd.pinned (OpenSpec.ofChange spanCutsWrong)

/-- 'stratigraphlaw09.SpanMeets': WHATEVER THE INPUT: true; the input reads as it did. -/
def spanMeetsSpec : ChangeSpec := { name := "spanMeets", fn := fun _ => fun
  | [d1, d2, d3] => { results := [.lit (.bool true)], args := [d1, d2, d3] }
  | _ => none }
def spanMeetsRow : OpenClaim := { program := "ytjckniebocjefaadoor", sum := "f02b1ea8d8c02165de6e3b19cc196750864ba6869211bce30b625ccda70e0d4d", func := "stratigraph/stratigraphlaw09.SpanMeets", spec := "spanMeets", named := ["unicode/utf8.first", "unicode/utf8.acceptRanges"], apart := false, laid := [("unicode/utf8.acceptRanges", laid_unicode_utf8_acceptRanges), ("unicode/utf8.first", laid_unicode_utf8_first)] }
def SpanMeetsSaid : Prop := spanMeetsRow.holds Tryd.pinned (OpenSpec.ofChange spanMeetsSpec)

/-- ITS FALSE NEIGHBOUR: 'it returns false'. Refute it at one input. -/
def spanMeetsWrong : ChangeSpec := { name := "spanMeets", fn := fun _ => fun
  | [d1, d2, d3] => { results := [.lit (.bool false)], args := [d1, d2, d3] }
  | _ => none }
def SpanMeetsWrongFalsely : Prop := spanMeetsRow.holds Tryd.pinned (OpenSpec.ofChange spanMeetsWrong)

/-- 'stratigraphlaw09.SpanWholes': WHATEVER THE INPUT: true; the input reads as it did. -/
def spanWholesSpec : ChangeSpec := { name := "spanWholes", fn := fun _ => fun
  | [d] => { results := [.lit (.bool true)], args := [d] }
  | _ => none }
def spanWholesRow : OpenClaim := { program := "ytjckniebocjefaadoor", sum := "f02b1ea8d8c02165de6e3b19cc196750864ba6869211bce30b625ccda70e0d4d", func := "stratigraph/stratigraphlaw09.SpanWholes", spec := "spanWholes", named := ["unicode/utf8.first", "unicode/utf8.acceptRanges"], apart := false, laid := [("unicode/utf8.acceptRanges", laid_unicode_utf8_acceptRanges), ("unicode/utf8.first", laid_unicode_utf8_first)] }
def SpanWholesSaid : Prop := spanWholesRow.holds Tryd.pinned (OpenSpec.ofChange spanWholesSpec)

/-- ITS FALSE NEIGHBOUR: 'it returns false'. Refute it at one input. -/
def spanWholesWrong : ChangeSpec := { name := "spanWholes", fn := fun _ => fun
  | [d] => { results := [.lit (.bool false)], args := [d] }
  | _ => none }
def SpanWholesWrongFalsely : Prop := spanWholesRow.holds Tryd.pinned (OpenSpec.ofChange spanWholesWrong)

/-- 'stratigraphlaw09.SpanOnce': WHATEVER THE INPUT: true; the input reads as it did. -/
def spanOnceSpec : ChangeSpec := { name := "spanOnce", fn := fun _ => fun
  | [d1, d2] => { results := [.lit (.bool true)], args := [d1, d2] }
  | _ => none }
def spanOnceRow : OpenClaim := { program := "ytjckniebocjefaadoor", sum := "f02b1ea8d8c02165de6e3b19cc196750864ba6869211bce30b625ccda70e0d4d", func := "stratigraph/stratigraphlaw09.SpanOnce", spec := "spanOnce", named := ["unicode/utf8.first", "unicode/utf8.acceptRanges"], apart := false, laid := [("unicode/utf8.acceptRanges", laid_unicode_utf8_acceptRanges), ("unicode/utf8.first", laid_unicode_utf8_first)] }
def SpanOnceSaid : Prop := spanOnceRow.holds Tryd.pinned (OpenSpec.ofChange spanOnceSpec)

/-- ITS FALSE NEIGHBOUR: 'it returns false'. Refute it at one input. -/
def spanOnceWrong : ChangeSpec := { name := "spanOnce", fn := fun _ => fun
  | [d1, d2] => { results := [.lit (.bool false)], args := [d1, d2] }
  | _ => none }
def SpanOnceWrongFalsely : Prop := spanOnceRow.holds Tryd.pinned (OpenSpec.ofChange spanOnceWrong)

/-- 'stratigraphlaw09.SpanJoins': WHATEVER THE INPUT: true; the input reads as it did. -/
def spanJoinsSpec : ChangeSpec := { name := "spanJoins", fn := fun _ => fun
  | [d1, d2] => { results := [.lit (.bool true)], args := [d1, d2] }
  | _ => none }
def spanJoinsRow : OpenClaim := { program := "ytjckniebocjefaadoor", sum := "f02b1ea8d8c02165de6e3b19cc196750864ba6869211bce30b625ccda70e0d4d", func := "stratigraph/stratigraphlaw09.SpanJoins", spec := "spanJoins", named := ["unicode/utf8.first", "unicode/utf8.acceptRanges"], apart := false, laid := [("unicode/utf8.acceptRanges", laid_unicode_utf8_acceptRanges), ("unicode/utf8.first", laid_unicode_utf8_first)] }
def SpanJoinsSaid : Prop := spanJoinsRow.holds Tryd.pinned (OpenSpec.ofChange spanJoinsSpec)

/-- ITS FALSE NEIGHBOUR: 'it returns false'. Refute it at one input. -/
def spanJoinsWrong : ChangeSpec := { name := "spanJoins", fn := fun _ => fun
  | [d1, d2] => { results := [.lit (.bool false)], args := [d1, d2] }
  | _ => none }
def SpanJoinsWrongFalsely : Prop := spanJoinsRow.holds Tryd.pinned (OpenSpec.ofChange spanJoinsWrong)

/-- 'stratigraphlaw09.SpanBack': WHATEVER THE INPUT: true; the input reads as it did. -/
def spanBackSpec : ChangeSpec := { name := "spanBack", fn := fun _ => fun
  | [d1, d2, d3] => { results := [.lit (.bool true)], args := [d1, d2, d3] }
  | _ => none }
def spanBackRow : OpenClaim := { program := "ytjckniebocjefaadoor", sum := "f02b1ea8d8c02165de6e3b19cc196750864ba6869211bce30b625ccda70e0d4d", func := "stratigraph/stratigraphlaw09.SpanBack", spec := "spanBack", named := ["unicode/utf8.first", "unicode/utf8.acceptRanges"], apart := false, laid := [("unicode/utf8.acceptRanges", laid_unicode_utf8_acceptRanges), ("unicode/utf8.first", laid_unicode_utf8_first)] }
def SpanBackSaid : Prop := spanBackRow.holds Tryd.pinned (OpenSpec.ofChange spanBackSpec)

/-- ITS FALSE NEIGHBOUR: 'it returns false'. Refute it at one input. -/
def spanBackWrong : ChangeSpec := { name := "spanBack", fn := fun _ => fun
  | [d1, d2, d3] => { results := [.lit (.bool false)], args := [d1, d2, d3] }
  | _ => none }
def SpanBackWrongFalsely : Prop := spanBackRow.holds Tryd.pinned (OpenSpec.ofChange spanBackWrong)

/- THE SECOND FORM. 'bulk': how many values and letters a reading holds, each counted each time it is reached (what is shared counts as often as it is met; a slice's spare places count too). A statement '..UptoSaid' is the law's where the arguments, and the package variables that the reading takes, are together of bulk at most 1048576: NARROWER than '..Said'. Prove '..Said' where nothing that the law and all that it calls make is longer than what came in: it says more and counts as full. Else prove '..UptoSaid'. A law counts once. -/
mutual
def uptoBulk {H : Type} : DataW H → Nat
  | .lit (.string bytes) => bytes.length + 1
  | .lit _ => 1
  | .nil => 1
  | .ptr d => uptoBulk d + 1
  | .slice elems spare => uptoBulkAll elems + uptoBulkAll spare + 1
  | .agg parts => uptoBulkAll parts + 1
  | .iface _ d => uptoBulk d + 1
  | .map entries => uptoBulkEntries entries + 1
  | .held _ => 1
def uptoBulkAll {H : Type} : List (DataW H) → Nat
  | [] => 0
  | d :: r => uptoBulk d + uptoBulkAll r
def uptoBulkEntries {H : Type} : List (Lit × DataW H) → Nat
  | [] => 0
  | x :: r => uptoBulkEntry x + uptoBulkEntries r
def uptoBulkEntry {H : Type} : Lit × DataW H → Nat
  | (.string bytes, d) => bytes.length + uptoBulk d + 1
  | (_, d) => uptoBulk d + 1
 end
def uptoSmall : (H : Type) → List (DataW H) → Bool := fun _ ds => decide (uptoBulkAll ds ≤ 1048576)
def OpenSpec.upto (s : _root_.Go.ChangeSpec) : _root_.Go.OpenSpec := { _root_.Go.OpenSpec.ofChange s with cond := some uptoSmall }

/-- 'stratigraphlaw09.SpanRights', WHERE WHAT IT READS IS OF BULK AT MOST 1048576: true; the input reads as it did. -/
def spanRightsUptoRow : OpenClaim := { program := "ytjckniebocjefaadoor", sum := "f02b1ea8d8c02165de6e3b19cc196750864ba6869211bce30b625ccda70e0d4d", func := "stratigraph/stratigraphlaw09.SpanRights", spec := "spanRights", named := ["unicode/utf8.first", "unicode/utf8.acceptRanges"], apart := false, laid := [("unicode/utf8.acceptRanges", laid_unicode_utf8_acceptRanges), ("unicode/utf8.first", laid_unicode_utf8_first)], narrowed := true }
def SpanRightsUptoSaid : Prop := spanRightsUptoRow.holds Tryd.pinned (OpenSpec.upto spanRightsSpec)

/-- 'stratigraphlaw09.SpanCuts', WHERE WHAT IT READS IS OF BULK AT MOST 1048576: true; the input reads as it did. -/
def spanCutsUptoRow : OpenClaim := { program := "ytjckniebocjefaadoor", sum := "f02b1ea8d8c02165de6e3b19cc196750864ba6869211bce30b625ccda70e0d4d", func := "stratigraph/stratigraphlaw09.SpanCuts", spec := "spanCuts", named := ["unicode/utf8.first", "unicode/utf8.acceptRanges"], apart := false, laid := [("unicode/utf8.acceptRanges", laid_unicode_utf8_acceptRanges), ("unicode/utf8.first", laid_unicode_utf8_first)], narrowed := true }
def SpanCutsUptoSaid : Prop := spanCutsUptoRow.holds Tryd.pinned (OpenSpec.upto spanCutsSpec)

/-- 'stratigraphlaw09.SpanMeets', WHERE WHAT IT READS IS OF BULK AT MOST 1048576: true; the input reads as it did. -/
def spanMeetsUptoRow : OpenClaim := { program := "ytjckniebocjefaadoor", sum := "f02b1ea8d8c02165de6e3b19cc196750864ba6869211bce30b625ccda70e0d4d", func := "stratigraph/stratigraphlaw09.SpanMeets", spec := "spanMeets", named := ["unicode/utf8.first", "unicode/utf8.acceptRanges"], apart := false, laid := [("unicode/utf8.acceptRanges", laid_unicode_utf8_acceptRanges), ("unicode/utf8.first", laid_unicode_utf8_first)], narrowed := true }
def SpanMeetsUptoSaid : Prop := spanMeetsUptoRow.holds Tryd.pinned (OpenSpec.upto spanMeetsSpec)

/-- 'stratigraphlaw09.SpanWholes', WHERE WHAT IT READS IS OF BULK AT MOST 1048576: true; the input reads as it did. -/
def spanWholesUptoRow : OpenClaim := { program := "ytjckniebocjefaadoor", sum := "f02b1ea8d8c02165de6e3b19cc196750864ba6869211bce30b625ccda70e0d4d", func := "stratigraph/stratigraphlaw09.SpanWholes", spec := "spanWholes", named := ["unicode/utf8.first", "unicode/utf8.acceptRanges"], apart := false, laid := [("unicode/utf8.acceptRanges", laid_unicode_utf8_acceptRanges), ("unicode/utf8.first", laid_unicode_utf8_first)], narrowed := true }
def SpanWholesUptoSaid : Prop := spanWholesUptoRow.holds Tryd.pinned (OpenSpec.upto spanWholesSpec)

/-- 'stratigraphlaw09.SpanOnce', WHERE WHAT IT READS IS OF BULK AT MOST 1048576: true; the input reads as it did. -/
def spanOnceUptoRow : OpenClaim := { program := "ytjckniebocjefaadoor", sum := "f02b1ea8d8c02165de6e3b19cc196750864ba6869211bce30b625ccda70e0d4d", func := "stratigraph/stratigraphlaw09.SpanOnce", spec := "spanOnce", named := ["unicode/utf8.first", "unicode/utf8.acceptRanges"], apart := false, laid := [("unicode/utf8.acceptRanges", laid_unicode_utf8_acceptRanges), ("unicode/utf8.first", laid_unicode_utf8_first)], narrowed := true }
def SpanOnceUptoSaid : Prop := spanOnceUptoRow.holds Tryd.pinned (OpenSpec.upto spanOnceSpec)

/-- 'stratigraphlaw09.SpanJoins', WHERE WHAT IT READS IS OF BULK AT MOST 1048576: true; the input reads as it did. -/
def spanJoinsUptoRow : OpenClaim := { program := "ytjckniebocjefaadoor", sum := "f02b1ea8d8c02165de6e3b19cc196750864ba6869211bce30b625ccda70e0d4d", func := "stratigraph/stratigraphlaw09.SpanJoins", spec := "spanJoins", named := ["unicode/utf8.first", "unicode/utf8.acceptRanges"], apart := false, laid := [("unicode/utf8.acceptRanges", laid_unicode_utf8_acceptRanges), ("unicode/utf8.first", laid_unicode_utf8_first)], narrowed := true }
def SpanJoinsUptoSaid : Prop := spanJoinsUptoRow.holds Tryd.pinned (OpenSpec.upto spanJoinsSpec)

/-- 'stratigraphlaw09.SpanBack', WHERE WHAT IT READS IS OF BULK AT MOST 1048576: true; the input reads as it did. -/
def spanBackUptoRow : OpenClaim := { program := "ytjckniebocjefaadoor", sum := "f02b1ea8d8c02165de6e3b19cc196750864ba6869211bce30b625ccda70e0d4d", func := "stratigraph/stratigraphlaw09.SpanBack", spec := "spanBack", named := ["unicode/utf8.first", "unicode/utf8.acceptRanges"], apart := false, laid := [("unicode/utf8.acceptRanges", laid_unicode_utf8_acceptRanges), ("unicode/utf8.first", laid_unicode_utf8_first)], narrowed := true }
def SpanBackUptoSaid : Prop := spanBackUptoRow.holds Tryd.pinned (OpenSpec.upto spanBackSpec)

end Rows
end Go.Proofs.YtjckniebocjefaaDoor
