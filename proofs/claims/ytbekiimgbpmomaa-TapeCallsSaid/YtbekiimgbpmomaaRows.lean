/-
  No cell of these rows narrows 'for every input' (looked for: loops, veiled, ifaces, maps, wideKeys, modest, calm, conditions, laid).
  DERIVED. THE GIVEN ROWS OF THIS SEAT. 5 by the template 'for every input the law returns true; each argument reads behind the call as it read before'; 0 by the template 'total and deterministic' (their statements: YtbekiimgbpmomaaTotals.lean).
  GIVEN WITH THE SEED: the statements are not yours to turn. If you find one false, say at which input.
  Laid BY PROGRAM, IN A SANDBOX (cutbox-rows.mjs): the forced cells as the released guide's own fill.sh prints them over the translation b577a6f35b77d3b2… (all of the seat's roots in one cut). By AI agents, Wed Nov 11 2026. No macro, syntax, notation, axiom, sorry.
-/
import Derived.Test.YtbekiimgbpmomaaChecked
import GoSem.Claim
import GoSem.ClaimJoined
import GoSem.ClaimMapViews
import Derived.JoinedTies
import Derived.KernelRfl
namespace Go.Proofs.Ytbekiimgbpmomaa
/- THE CELL 'sum', in the pinned program and in every row, IS THE sha256 OF THE DUMP (.gsa) THAT YtbekiimgbpmomaaProg.lean LOADS. Nothing in Lean hashes anything: it is a label: what it is worth is what the hold of that sum in a sandbox is worth. -/
noncomputable def Try.pinned : Pinned := { name := "ytbekiimgbpmomaa", sum := "b577a6f35b77d3b2a8ae23212814135f48bae22207ba80704a2a756c362505e3", checked := Try.checked }
namespace Rows
def none {H : Type} : Left H := { results := [], args := [] }

/-- 'stratigraphlaw12.TapeFull': WHATEVER THE INPUT: true; the input reads as it did. -/
def tapeFullSpec : ChangeSpec := { name := "tapeFull", fn := fun _ => fun
  | [d1, d2] => { results := [.lit (.bool true)], args := [d1, d2] }
  | _ => none }
def tapeFullRow : OpenClaim := { program := "ytbekiimgbpmomaa", sum := "b577a6f35b77d3b2a8ae23212814135f48bae22207ba80704a2a756c362505e3", func := "stratigraph/stratigraphlaw12.TapeFull", spec := "tapeFull", apart := false }
def TapeFullSaid : Prop := tapeFullRow.holds Try.pinned (OpenSpec.ofChange tapeFullSpec)

/-- ITS FALSE NEIGHBOUR: 'it returns false'. Refute it at one input. -/
def tapeFullWrong : ChangeSpec := { name := "tapeFull", fn := fun _ => fun
  | [d1, d2] => { results := [.lit (.bool false)], args := [d1, d2] }
  | _ => none }
def TapeFullWrongFalsely : Prop := tapeFullRow.holds Try.pinned (OpenSpec.ofChange tapeFullWrong)

/-- 'stratigraphlaw12.TapeTexts': WHATEVER THE INPUT: true; the input reads as it did. -/
def tapeTextsSpec : ChangeSpec := { name := "tapeTexts", fn := fun _ => fun
  | [d] => { results := [.lit (.bool true)], args := [d] }
  | _ => none }
def tapeTextsRow : OpenClaim := { program := "ytbekiimgbpmomaa", sum := "b577a6f35b77d3b2a8ae23212814135f48bae22207ba80704a2a756c362505e3", func := "stratigraph/stratigraphlaw12.TapeTexts", spec := "tapeTexts", apart := false }
def TapeTextsSaid : Prop := tapeTextsRow.holds Try.pinned (OpenSpec.ofChange tapeTextsSpec)

/-- ITS FALSE NEIGHBOUR: 'it returns false'. Refute it at one input. -/
def tapeTextsWrong : ChangeSpec := { name := "tapeTexts", fn := fun _ => fun
  | [d] => { results := [.lit (.bool false)], args := [d] }
  | _ => none }
def TapeTextsWrongFalsely : Prop := tapeTextsRow.holds Try.pinned (OpenSpec.ofChange tapeTextsWrong)

/-- 'stratigraphlaw12.TapeFirm': WHATEVER THE INPUT: true; the input reads as it did. -/
def tapeFirmSpec : ChangeSpec := { name := "tapeFirm", fn := fun _ => fun
  | [d] => { results := [.lit (.bool true)], args := [d] }
  | _ => none }
def tapeFirmRow : OpenClaim := { program := "ytbekiimgbpmomaa", sum := "b577a6f35b77d3b2a8ae23212814135f48bae22207ba80704a2a756c362505e3", func := "stratigraph/stratigraphlaw12.TapeFirm", spec := "tapeFirm", apart := false }
def TapeFirmSaid : Prop := tapeFirmRow.holds Try.pinned (OpenSpec.ofChange tapeFirmSpec)

/-- ITS FALSE NEIGHBOUR: 'it returns false'. Refute it at one input. -/
def tapeFirmWrong : ChangeSpec := { name := "tapeFirm", fn := fun _ => fun
  | [d] => { results := [.lit (.bool false)], args := [d] }
  | _ => none }
def TapeFirmWrongFalsely : Prop := tapeFirmRow.holds Try.pinned (OpenSpec.ofChange tapeFirmWrong)

/-- 'stratigraphlaw12.TapeArms': WHATEVER THE INPUT: true; the input reads as it did. -/
def tapeArmsSpec : ChangeSpec := { name := "tapeArms", fn := fun _ => fun
  | [d1, d2] => { results := [.lit (.bool true)], args := [d1, d2] }
  | _ => none }
def tapeArmsRow : OpenClaim := { program := "ytbekiimgbpmomaa", sum := "b577a6f35b77d3b2a8ae23212814135f48bae22207ba80704a2a756c362505e3", func := "stratigraph/stratigraphlaw12.TapeArms", spec := "tapeArms", apart := false }
def TapeArmsSaid : Prop := tapeArmsRow.holds Try.pinned (OpenSpec.ofChange tapeArmsSpec)

/-- ITS FALSE NEIGHBOUR: 'it returns false'. Refute it at one input. -/
def tapeArmsWrong : ChangeSpec := { name := "tapeArms", fn := fun _ => fun
  | [d1, d2] => { results := [.lit (.bool false)], args := [d1, d2] }
  | _ => none }
def TapeArmsWrongFalsely : Prop := tapeArmsRow.holds Try.pinned (OpenSpec.ofChange tapeArmsWrong)

/-- 'stratigraphlaw12.TapeCalls': WHATEVER THE INPUT: true; the input reads as it did. -/
def tapeCallsSpec : ChangeSpec := { name := "tapeCalls", fn := fun _ => fun
  | [d1, d2, d3] => { results := [.lit (.bool true)], args := [d1, d2, d3] }
  | _ => none }
def tapeCallsRow : OpenClaim := { program := "ytbekiimgbpmomaa", sum := "b577a6f35b77d3b2a8ae23212814135f48bae22207ba80704a2a756c362505e3", func := "stratigraph/stratigraphlaw12.TapeCalls", spec := "tapeCalls", apart := false }
def TapeCallsSaid : Prop := tapeCallsRow.holds Try.pinned (OpenSpec.ofChange tapeCallsSpec)

/-- ITS FALSE NEIGHBOUR: 'it returns false'. Refute it at one input. -/
def tapeCallsWrong : ChangeSpec := { name := "tapeCalls", fn := fun _ => fun
  | [d1, d2, d3] => { results := [.lit (.bool false)], args := [d1, d2, d3] }
  | _ => none }
def TapeCallsWrongFalsely : Prop := tapeCallsRow.holds Try.pinned (OpenSpec.ofChange tapeCallsWrong)

/- THE SECOND FORM. 'bulk': how many values and letters a reading holds, each counted each time it is reached (what is shared counts as often as it is met; a slice's spare places count too). A statement '..UptoSaid' is the law's where the arguments, and the package variables that the reading takes, are together of bulk at most 1048576: NARROWER than '..Said'. Prove '..Said' where nothing that the law and all that it calls make is longer than what came in: it says more and counts as full. Else prove '..UptoSaid'. A law counts once. -/
mutual
def uptoBulk {H : Type} : DataW H → Nat
  | .lit (.string bytes) => bytes.length + 1
  | .lit _ => 1
  | .nil => 1
  | .ptr d => uptoBulk d + 1
  | .slice elems spare => uptoBulkAll elems + uptoBulkAll spare + 1
  | .agg parts => uptoBulkAll parts + 1
  | .iface _ d => uptoBulk d + 1
  | .map entries => uptoBulkEntries entries + 1
  | .held _ => 1
def uptoBulkAll {H : Type} : List (DataW H) → Nat
  | [] => 0
  | d :: r => uptoBulk d + uptoBulkAll r
def uptoBulkEntries {H : Type} : List (Lit × DataW H) → Nat
  | [] => 0
  | x :: r => uptoBulkEntry x + uptoBulkEntries r
def uptoBulkEntry {H : Type} : Lit × DataW H → Nat
  | (.string bytes, d) => bytes.length + uptoBulk d + 1
  | (_, d) => uptoBulk d + 1
 end
def uptoSmall : (H : Type) → List (DataW H) → Bool := fun _ ds => decide (uptoBulkAll ds ≤ 1048576)
def OpenSpec.upto (s : _root_.Go.ChangeSpec) : _root_.Go.OpenSpec := { _root_.Go.OpenSpec.ofChange s with cond := some uptoSmall }

/-- 'stratigraphlaw12.TapeFull', WHERE WHAT IT READS IS OF BULK AT MOST 1048576: true; the input reads as it did. -/
def tapeFullUptoRow : OpenClaim := { program := "ytbekiimgbpmomaa", sum := "b577a6f35b77d3b2a8ae23212814135f48bae22207ba80704a2a756c362505e3", func := "stratigraph/stratigraphlaw12.TapeFull", spec := "tapeFull", apart := false, narrowed := true }
def TapeFullUptoSaid : Prop := tapeFullUptoRow.holds Try.pinned (OpenSpec.upto tapeFullSpec)

/-- 'stratigraphlaw12.TapeTexts', WHERE WHAT IT READS IS OF BULK AT MOST 1048576: true; the input reads as it did. -/
def tapeTextsUptoRow : OpenClaim := { program := "ytbekiimgbpmomaa", sum := "b577a6f35b77d3b2a8ae23212814135f48bae22207ba80704a2a756c362505e3", func := "stratigraph/stratigraphlaw12.TapeTexts", spec := "tapeTexts", apart := false, narrowed := true }
def TapeTextsUptoSaid : Prop := tapeTextsUptoRow.holds Try.pinned (OpenSpec.upto tapeTextsSpec)

/-- 'stratigraphlaw12.TapeFirm', WHERE WHAT IT READS IS OF BULK AT MOST 1048576: true; the input reads as it did. -/
def tapeFirmUptoRow : OpenClaim := { program := "ytbekiimgbpmomaa", sum := "b577a6f35b77d3b2a8ae23212814135f48bae22207ba80704a2a756c362505e3", func := "stratigraph/stratigraphlaw12.TapeFirm", spec := "tapeFirm", apart := false, narrowed := true }
def TapeFirmUptoSaid : Prop := tapeFirmUptoRow.holds Try.pinned (OpenSpec.upto tapeFirmSpec)

/-- 'stratigraphlaw12.TapeArms', WHERE WHAT IT READS IS OF BULK AT MOST 1048576: true; the input reads as it did. -/
def tapeArmsUptoRow : OpenClaim := { program := "ytbekiimgbpmomaa", sum := "b577a6f35b77d3b2a8ae23212814135f48bae22207ba80704a2a756c362505e3", func := "stratigraph/stratigraphlaw12.TapeArms", spec := "tapeArms", apart := false, narrowed := true }
def TapeArmsUptoSaid : Prop := tapeArmsUptoRow.holds Try.pinned (OpenSpec.upto tapeArmsSpec)

/-- 'stratigraphlaw12.TapeCalls', WHERE WHAT IT READS IS OF BULK AT MOST 1048576: true; the input reads as it did. -/
def tapeCallsUptoRow : OpenClaim := { program := "ytbekiimgbpmomaa", sum := "b577a6f35b77d3b2a8ae23212814135f48bae22207ba80704a2a756c362505e3", func := "stratigraph/stratigraphlaw12.TapeCalls", spec := "tapeCalls", apart := false, narrowed := true }
def TapeCallsUptoSaid : Prop := tapeCallsUptoRow.holds Try.pinned (OpenSpec.upto tapeCallsSpec)

end Rows
end Go.Proofs.Ytbekiimgbpmomaa
