/-
  No cell of these rows narrows 'for every input' (looked for: loops, veiled, ifaces, maps, wideKeys, modest, calm, conditions, laid).
  DERIVED. THE GIVEN ROWS OF THIS SEAT. 5 by the template 'for every input the law returns true; each argument reads behind the call as it read before'; 0 by the template 'total and deterministic' (their statements: YtpkgofgpdnlnhaaTotals.lean).
  GIVEN WITH THE SEED: the statements are not yours to turn. If you find one false, say at which input.
  Laid BY PROGRAM, IN A SANDBOX (cutbox-rows.mjs): the forced cells as the released guide's own fill.sh prints them over the translation 163a52d016fd1367… (all of the seat's roots in one cut). By AI agents, Wed Nov 11 2026. No macro, syntax, notation, axiom, sorry.
-/
import Derived.Test.YtpkgofgpdnlnhaaChecked
import GoSem.Claim
import GoSem.ClaimJoined
import GoSem.ClaimMapViews
import Derived.JoinedTies
import Derived.KernelRfl
namespace Go.Proofs.Ytpkgofgpdnlnhaa
/- THE CELL 'sum', in the pinned program and in every row, IS THE sha256 OF THE DUMP (.gsa) THAT YtpkgofgpdnlnhaaProg.lean LOADS. Nothing in Lean hashes anything: it is a label: what it is worth is what the hold of that sum in a sandbox is worth. -/
noncomputable def Try.pinned : Pinned := { name := "ytpkgofgpdnlnhaa", sum := "163a52d016fd1367384729e1c3e1c531938d36b894a04c7977895e4c1859278f", checked := Try.checked }
namespace Rows
def none {H : Type} : Left H := { results := [], args := [] }

/-- 'stratigraphlaw02.CheckSums': WHATEVER THE INPUT: true; the input reads as it did. -/
def checkSumsSpec : ChangeSpec := { name := "checkSums", fn := fun _ => fun
  | [d] => { results := [.lit (.bool true)], args := [d] }
  | _ => none }
def checkSumsRow : OpenClaim := { program := "ytpkgofgpdnlnhaa", sum := "163a52d016fd1367384729e1c3e1c531938d36b894a04c7977895e4c1859278f", func := "stratigraph/stratigraphlaw02.CheckSums", spec := "checkSums", apart := false }
def CheckSumsSaid : Prop := checkSumsRow.holds Try.pinned (OpenSpec.ofChange checkSumsSpec)

/-- ITS FALSE NEIGHBOUR: 'it returns false'. Refute it at one input. -/
def checkSumsWrong : ChangeSpec := { name := "checkSums", fn := fun _ => fun
  | [d] => { results := [.lit (.bool false)], args := [d] }
  | _ => none }
def CheckSumsWrongFalsely : Prop := checkSumsRow.holds Try.pinned (OpenSpec.ofChange checkSumsWrong)

/-- 'stratigraphlaw02.CheckApart': WHATEVER THE INPUT: true; the input reads as it did. -/
def checkApartSpec : ChangeSpec := { name := "checkApart", fn := fun _ => fun
  | [d1, d2] => { results := [.lit (.bool true)], args := [d1, d2] }
  | _ => none }
def checkApartRow : OpenClaim := { program := "ytpkgofgpdnlnhaa", sum := "163a52d016fd1367384729e1c3e1c531938d36b894a04c7977895e4c1859278f", func := "stratigraph/stratigraphlaw02.CheckApart", spec := "checkApart", apart := false }
def CheckApartSaid : Prop := checkApartRow.holds Try.pinned (OpenSpec.ofChange checkApartSpec)

/-- ITS FALSE NEIGHBOUR: 'it returns false'. Refute it at one input. -/
def checkApartWrong : ChangeSpec := { name := "checkApart", fn := fun _ => fun
  | [d1, d2] => { results := [.lit (.bool false)], args := [d1, d2] }
  | _ => none }
def CheckApartWrongFalsely : Prop := checkApartRow.holds Try.pinned (OpenSpec.ofChange checkApartWrong)

/-- 'stratigraphlaw02.CheckOpens': WHATEVER THE INPUT: true; the input reads as it did. -/
def checkOpensSpec : ChangeSpec := { name := "checkOpens", fn := fun _ => fun
  | [d] => { results := [.lit (.bool true)], args := [d] }
  | _ => none }
def checkOpensRow : OpenClaim := { program := "ytpkgofgpdnlnhaa", sum := "163a52d016fd1367384729e1c3e1c531938d36b894a04c7977895e4c1859278f", func := "stratigraph/stratigraphlaw02.CheckOpens", spec := "checkOpens", apart := false }
def CheckOpensSaid : Prop := checkOpensRow.holds Try.pinned (OpenSpec.ofChange checkOpensSpec)

/-- ITS FALSE NEIGHBOUR: 'it returns false'. Refute it at one input. -/
def checkOpensWrong : ChangeSpec := { name := "checkOpens", fn := fun _ => fun
  | [d] => { results := [.lit (.bool false)], args := [d] }
  | _ => none }
def CheckOpensWrongFalsely : Prop := checkOpensRow.holds Try.pinned (OpenSpec.ofChange checkOpensWrong)

/-- 'stratigraphlaw02.CheckBack': WHATEVER THE INPUT: true; the input reads as it did. -/
def checkBackSpec : ChangeSpec := { name := "checkBack", fn := fun _ => fun
  | [d] => { results := [.lit (.bool true)], args := [d] }
  | _ => none }
def checkBackRow : OpenClaim := { program := "ytpkgofgpdnlnhaa", sum := "163a52d016fd1367384729e1c3e1c531938d36b894a04c7977895e4c1859278f", func := "stratigraph/stratigraphlaw02.CheckBack", spec := "checkBack", apart := false }
def CheckBackSaid : Prop := checkBackRow.holds Try.pinned (OpenSpec.ofChange checkBackSpec)

/-- ITS FALSE NEIGHBOUR: 'it returns false'. Refute it at one input. -/
def checkBackWrong : ChangeSpec := { name := "checkBack", fn := fun _ => fun
  | [d] => { results := [.lit (.bool false)], args := [d] }
  | _ => none }
def CheckBackWrongFalsely : Prop := checkBackRow.holds Try.pinned (OpenSpec.ofChange checkBackWrong)

/-- 'stratigraphlaw02.CheckTurned': WHATEVER THE INPUT: true; the input reads as it did. -/
def checkTurnedSpec : ChangeSpec := { name := "checkTurned", fn := fun _ => fun
  | [d1, d2, d3] => { results := [.lit (.bool true)], args := [d1, d2, d3] }
  | _ => none }
def checkTurnedRow : OpenClaim := { program := "ytpkgofgpdnlnhaa", sum := "163a52d016fd1367384729e1c3e1c531938d36b894a04c7977895e4c1859278f", func := "stratigraph/stratigraphlaw02.CheckTurned", spec := "checkTurned", apart := false }
def CheckTurnedSaid : Prop := checkTurnedRow.holds Try.pinned (OpenSpec.ofChange checkTurnedSpec)

/-- ITS FALSE NEIGHBOUR: 'it returns false'. Refute it at one input. -/
def checkTurnedWrong : ChangeSpec := { name := "checkTurned", fn := fun _ => fun
  | [d1, d2, d3] => { results := [.lit (.bool false)], args := [d1, d2, d3] }
  | _ => none }
def CheckTurnedWrongFalsely : Prop := checkTurnedRow.holds Try.pinned (OpenSpec.ofChange checkTurnedWrong)

/- THE SECOND FORM. 'bulk': how many values and letters a reading holds, each counted each time it is reached (what is shared counts as often as it is met; a slice's spare places count too). A statement '..UptoSaid' is the law's where the arguments, and the package variables that the reading takes, are together of bulk at most 1048576: NARROWER than '..Said'. Prove '..Said' where nothing that the law and all that it calls make is longer than what came in: it says more and counts as full. Else prove '..UptoSaid'. A law counts once. -/
mutual
def uptoBulk {H : Type} : DataW H → Nat
  | .lit (.string bytes) => bytes.length + 1
  | .lit _ => 1
  | .nil => 1
  | .ptr d => uptoBulk d + 1
  | .slice elems spare => uptoBulkAll elems + uptoBulkAll spare + 1
  | .agg parts => uptoBulkAll parts + 1
  | .iface _ d => uptoBulk d + 1
  | .map entries => uptoBulkEntries entries + 1
  | .held _ => 1
def uptoBulkAll {H : Type} : List (DataW H) → Nat
  | [] => 0
  | d :: r => uptoBulk d + uptoBulkAll r
def uptoBulkEntries {H : Type} : List (Lit × DataW H) → Nat
  | [] => 0
  | x :: r => uptoBulkEntry x + uptoBulkEntries r
def uptoBulkEntry {H : Type} : Lit × DataW H → Nat
  | (.string bytes, d) => bytes.length + uptoBulk d + 1
  | (_, d) => uptoBulk d + 1
 end
def uptoSmall : (H : Type) → List (DataW H) → Bool := fun _ ds => decide (uptoBulkAll ds ≤ 1048576)
def OpenSpec.upto (s : _root_.Go.ChangeSpec) : _root_.Go.OpenSpec := { _root_.Go.OpenSpec.ofChange s with cond := some uptoSmall }

/-- 'stratigraphlaw02.CheckSums', WHERE WHAT IT READS IS OF BULK AT MOST 1048576: true; the input reads as it did. -/
def checkSumsUptoRow : OpenClaim := { program := "ytpkgofgpdnlnhaa", sum := "163a52d016fd1367384729e1c3e1c531938d36b894a04c7977895e4c1859278f", func := "stratigraph/stratigraphlaw02.CheckSums", spec := "checkSums", apart := false, narrowed := true }
def CheckSumsUptoSaid : Prop := checkSumsUptoRow.holds Try.pinned (OpenSpec.upto checkSumsSpec)

/-- 'stratigraphlaw02.CheckApart', WHERE WHAT IT READS IS OF BULK AT MOST 1048576: true; the input reads as it did. -/
def checkApartUptoRow : OpenClaim := { program := "ytpkgofgpdnlnhaa", sum := "163a52d016fd1367384729e1c3e1c531938d36b894a04c7977895e4c1859278f", func := "stratigraph/stratigraphlaw02.CheckApart", spec := "checkApart", apart := false, narrowed := true }
def CheckApartUptoSaid : Prop := checkApartUptoRow.holds Try.pinned (OpenSpec.upto checkApartSpec)

/-- 'stratigraphlaw02.CheckOpens', WHERE WHAT IT READS IS OF BULK AT MOST 1048576: true; the input reads as it did. -/
def checkOpensUptoRow : OpenClaim := { program := "ytpkgofgpdnlnhaa", sum := "163a52d016fd1367384729e1c3e1c531938d36b894a04c7977895e4c1859278f", func := "stratigraph/stratigraphlaw02.CheckOpens", spec := "checkOpens", apart := false, narrowed := true }
def CheckOpensUptoSaid : Prop := checkOpensUptoRow.holds Try.pinned (OpenSpec.upto checkOpensSpec)

/-- 'stratigraphlaw02.CheckBack', WHERE WHAT IT READS IS OF BULK AT MOST 1048576: true; the input reads as it did. -/
def checkBackUptoRow : OpenClaim := { program := "ytpkgofgpdnlnhaa", sum := "163a52d016fd1367384729e1c3e1c531938d36b894a04c7977895e4c1859278f", func := "stratigraph/stratigraphlaw02.CheckBack", spec := "checkBack", apart := false, narrowed := true }
def CheckBackUptoSaid : Prop := checkBackUptoRow.holds Try.pinned (OpenSpec.upto checkBackSpec)

/-- 'stratigraphlaw02.CheckTurned', WHERE WHAT IT READS IS OF BULK AT MOST 1048576: true; the input reads as it did. -/
def checkTurnedUptoRow : OpenClaim := { program := "ytpkgofgpdnlnhaa", sum := "163a52d016fd1367384729e1c3e1c531938d36b894a04c7977895e4c1859278f", func := "stratigraph/stratigraphlaw02.CheckTurned", spec := "checkTurned", apart := false, narrowed := true }
def CheckTurnedUptoSaid : Prop := checkTurnedUptoRow.holds Try.pinned (OpenSpec.upto checkTurnedSpec)

end Rows
end Go.Proofs.Ytpkgofgpdnlnhaa
