/-
  No cell of these rows narrows 'for every input' (looked for: loops, veiled, ifaces, maps, wideKeys, modest, calm, conditions, laid).
  DERIVED. THE GIVEN ROWS OF THIS SEAT. 5 by the template 'for every input the law returns true; each argument reads behind the call as it read before'; 0 by the template 'total and deterministic' (their statements: YthjoamldmcnodaaTotals.lean).
  GIVEN WITH THE SEED: the statements are not yours to turn. If you find one false, say at which input.
  Laid BY PROGRAM, IN A SANDBOX (cutbox-rows.mjs): the forced cells as the released guide's own fill.sh prints them over the translation d0e1f29e273bfb71… (all of the seat's roots in one cut). By AI agents, Wed Nov 11 2026. No macro, syntax, notation, axiom, sorry.
-/
import Derived.Test.YthjoamldmcnodaaChecked
import GoSem.Claim
import GoSem.ClaimJoined
import GoSem.ClaimMapViews
import Derived.JoinedTies
import Derived.KernelRfl
namespace Go.Proofs.Ythjoamldmcnodaa
/- THE CELL 'sum', in the pinned program and in every row, IS THE sha256 OF THE DUMP (.gsa) THAT YthjoamldmcnodaaProg.lean LOADS. Nothing in Lean hashes anything: it is a label: what it is worth is what the hold of that sum in a sandbox is worth. -/
noncomputable def Try.pinned : Pinned := { name := "ythjoamldmcnodaa", sum := "d0e1f29e273bfb71bb625ccd908d30b75d4a3265aadacdbb76f80f4c1ea2c1f4", checked := Try.checked }
namespace Rows
def none {H : Type} : Left H := { results := [], args := [] }

/-- 'stratigraphlaw13.WalAgain': WHATEVER THE INPUT: true; the input reads as it did. -/
def walAgainSpec : ChangeSpec := { name := "walAgain", fn := fun _ => fun
  | [d] => { results := [.lit (.bool true)], args := [d] }
  | _ => none }
def walAgainRow : OpenClaim := { program := "ythjoamldmcnodaa", sum := "d0e1f29e273bfb71bb625ccd908d30b75d4a3265aadacdbb76f80f4c1ea2c1f4", func := "stratigraph/stratigraphlaw13.WalAgain", spec := "walAgain", apart := false }
def WalAgainSaid : Prop := walAgainRow.holds Try.pinned (OpenSpec.ofChange walAgainSpec)

/-- ITS FALSE NEIGHBOUR: 'it returns false'. Refute it at one input. -/
def walAgainWrong : ChangeSpec := { name := "walAgain", fn := fun _ => fun
  | [d] => { results := [.lit (.bool false)], args := [d] }
  | _ => none }
def WalAgainWrongFalsely : Prop := walAgainRow.holds Try.pinned (OpenSpec.ofChange walAgainWrong)

/-- 'stratigraphlaw13.WalOpens': WHATEVER THE INPUT: true; the input reads as it did. -/
def walOpensSpec : ChangeSpec := { name := "walOpens", fn := fun _ => fun
  | [d] => { results := [.lit (.bool true)], args := [d] }
  | _ => none }
def walOpensRow : OpenClaim := { program := "ythjoamldmcnodaa", sum := "d0e1f29e273bfb71bb625ccd908d30b75d4a3265aadacdbb76f80f4c1ea2c1f4", func := "stratigraph/stratigraphlaw13.WalOpens", spec := "walOpens", apart := false }
def WalOpensSaid : Prop := walOpensRow.holds Try.pinned (OpenSpec.ofChange walOpensSpec)

/-- ITS FALSE NEIGHBOUR: 'it returns false'. Refute it at one input. -/
def walOpensWrong : ChangeSpec := { name := "walOpens", fn := fun _ => fun
  | [d] => { results := [.lit (.bool false)], args := [d] }
  | _ => none }
def WalOpensWrongFalsely : Prop := walOpensRow.holds Try.pinned (OpenSpec.ofChange walOpensWrong)

/-- 'stratigraphlaw13.WalKeeps': WHATEVER THE INPUT: true; the input reads as it did. -/
def walKeepsSpec : ChangeSpec := { name := "walKeeps", fn := fun _ => fun
  | [d] => { results := [.lit (.bool true)], args := [d] }
  | _ => none }
def walKeepsRow : OpenClaim := { program := "ythjoamldmcnodaa", sum := "d0e1f29e273bfb71bb625ccd908d30b75d4a3265aadacdbb76f80f4c1ea2c1f4", func := "stratigraph/stratigraphlaw13.WalKeeps", spec := "walKeeps", apart := false }
def WalKeepsSaid : Prop := walKeepsRow.holds Try.pinned (OpenSpec.ofChange walKeepsSpec)

/-- ITS FALSE NEIGHBOUR: 'it returns false'. Refute it at one input. -/
def walKeepsWrong : ChangeSpec := { name := "walKeeps", fn := fun _ => fun
  | [d] => { results := [.lit (.bool false)], args := [d] }
  | _ => none }
def WalKeepsWrongFalsely : Prop := walKeepsRow.holds Try.pinned (OpenSpec.ofChange walKeepsWrong)

/-- 'stratigraphlaw13.WalPuts': WHATEVER THE INPUT: true; the input reads as it did. -/
def walPutsSpec : ChangeSpec := { name := "walPuts", fn := fun _ => fun
  | [d1, d2] => { results := [.lit (.bool true)], args := [d1, d2] }
  | _ => none }
def walPutsRow : OpenClaim := { program := "ythjoamldmcnodaa", sum := "d0e1f29e273bfb71bb625ccd908d30b75d4a3265aadacdbb76f80f4c1ea2c1f4", func := "stratigraph/stratigraphlaw13.WalPuts", spec := "walPuts", apart := false }
def WalPutsSaid : Prop := walPutsRow.holds Try.pinned (OpenSpec.ofChange walPutsSpec)

/-- ITS FALSE NEIGHBOUR: 'it returns false'. Refute it at one input. -/
def walPutsWrong : ChangeSpec := { name := "walPuts", fn := fun _ => fun
  | [d1, d2] => { results := [.lit (.bool false)], args := [d1, d2] }
  | _ => none }
def WalPutsWrongFalsely : Prop := walPutsRow.holds Try.pinned (OpenSpec.ofChange walPutsWrong)

/-- 'stratigraphlaw13.WalRenews': WHATEVER THE INPUT: true; the input reads as it did. -/
def walRenewsSpec : ChangeSpec := { name := "walRenews", fn := fun _ => fun
  | [d1, d2, d3, d4] => { results := [.lit (.bool true)], args := [d1, d2, d3, d4] }
  | _ => none }
def walRenewsRow : OpenClaim := { program := "ythjoamldmcnodaa", sum := "d0e1f29e273bfb71bb625ccd908d30b75d4a3265aadacdbb76f80f4c1ea2c1f4", func := "stratigraph/stratigraphlaw13.WalRenews", spec := "walRenews", apart := false }
def WalRenewsSaid : Prop := walRenewsRow.holds Try.pinned (OpenSpec.ofChange walRenewsSpec)

/-- ITS FALSE NEIGHBOUR: 'it returns false'. Refute it at one input. -/
def walRenewsWrong : ChangeSpec := { name := "walRenews", fn := fun _ => fun
  | [d1, d2, d3, d4] => { results := [.lit (.bool false)], args := [d1, d2, d3, d4] }
  | _ => none }
def WalRenewsWrongFalsely : Prop := walRenewsRow.holds Try.pinned (OpenSpec.ofChange walRenewsWrong)

/- THE SECOND FORM. 'bulk': how many values and letters a reading holds, each counted each time it is reached (what is shared counts as often as it is met; a slice's spare places count too). A statement '..UptoSaid' is the law's where the arguments, and the package variables that the reading takes, are together of bulk at most 1048576: NARROWER than '..Said'. Prove '..Said' where nothing that the law and all that it calls make is longer than what came in: it says more and counts as full. Else prove '..UptoSaid'. A law counts once. -/
mutual
def uptoBulk {H : Type} : DataW H → Nat
  | .lit (.string bytes) => bytes.length + 1
  | .lit _ => 1
  | .nil => 1
  | .ptr d => uptoBulk d + 1
  | .slice elems spare => uptoBulkAll elems + uptoBulkAll spare + 1
  | .agg parts => uptoBulkAll parts + 1
  | .iface _ d => uptoBulk d + 1
  | .map entries => uptoBulkEntries entries + 1
  | .held _ => 1
def uptoBulkAll {H : Type} : List (DataW H) → Nat
  | [] => 0
  | d :: r => uptoBulk d + uptoBulkAll r
def uptoBulkEntries {H : Type} : List (Lit × DataW H) → Nat
  | [] => 0
  | x :: r => uptoBulkEntry x + uptoBulkEntries r
def uptoBulkEntry {H : Type} : Lit × DataW H → Nat
  | (.string bytes, d) => bytes.length + uptoBulk d + 1
  | (_, d) => uptoBulk d + 1
 end
def uptoSmall : (H : Type) → List (DataW H) → Bool := fun _ ds => decide (uptoBulkAll ds ≤ 1048576)
def OpenSpec.upto (s : _root_.Go.ChangeSpec) : _root_.Go.OpenSpec := { _root_.Go.OpenSpec.ofChange s with cond := some uptoSmall }

/-- 'stratigraphlaw13.WalAgain', WHERE WHAT IT READS IS OF BULK AT MOST 1048576: true; the input reads as it did. -/
def walAgainUptoRow : OpenClaim := { program := "ythjoamldmcnodaa", sum := "d0e1f29e273bfb71bb625ccd908d30b75d4a3265aadacdbb76f80f4c1ea2c1f4", func := "stratigraph/stratigraphlaw13.WalAgain", spec := "walAgain", apart := false, narrowed := true }
def WalAgainUptoSaid : Prop := walAgainUptoRow.holds Try.pinned (OpenSpec.upto walAgainSpec)

/-- 'stratigraphlaw13.WalOpens', WHERE WHAT IT READS IS OF BULK AT MOST 1048576: true; the input reads as it did. -/
def walOpensUptoRow : OpenClaim := { program := "ythjoamldmcnodaa", sum := "d0e1f29e273bfb71bb625ccd908d30b75d4a3265aadacdbb76f80f4c1ea2c1f4", func := "stratigraph/stratigraphlaw13.WalOpens", spec := "walOpens", apart := false, narrowed := true }
def WalOpensUptoSaid : Prop := walOpensUptoRow.holds Try.pinned (OpenSpec.upto walOpensSpec)

/-- 'stratigraphlaw13.WalKeeps', WHERE WHAT IT READS IS OF BULK AT MOST 1048576: true; the input reads as it did. -/
def walKeepsUptoRow : OpenClaim := { program := "ythjoamldmcnodaa", sum := "d0e1f29e273bfb71bb625ccd908d30b75d4a3265aadacdbb76f80f4c1ea2c1f4", func := "stratigraph/stratigraphlaw13.WalKeeps", spec := "walKeeps", apart := false, narrowed := true }
def WalKeepsUptoSaid : Prop := walKeepsUptoRow.holds Try.pinned (OpenSpec.upto walKeepsSpec)

/-- 'stratigraphlaw13.WalPuts', WHERE WHAT IT READS IS OF BULK AT MOST 1048576: true; the input reads as it did. -/
def walPutsUptoRow : OpenClaim := { program := "ythjoamldmcnodaa", sum := "d0e1f29e273bfb71bb625ccd908d30b75d4a3265aadacdbb76f80f4c1ea2c1f4", func := "stratigraph/stratigraphlaw13.WalPuts", spec := "walPuts", apart := false, narrowed := true }
def WalPutsUptoSaid : Prop := walPutsUptoRow.holds Try.pinned (OpenSpec.upto walPutsSpec)

/-- 'stratigraphlaw13.WalRenews', WHERE WHAT IT READS IS OF BULK AT MOST 1048576: true; the input reads as it did. -/
def walRenewsUptoRow : OpenClaim := { program := "ythjoamldmcnodaa", sum := "d0e1f29e273bfb71bb625ccd908d30b75d4a3265aadacdbb76f80f4c1ea2c1f4", func := "stratigraph/stratigraphlaw13.WalRenews", spec := "walRenews", apart := false, narrowed := true }
def WalRenewsUptoSaid : Prop := walRenewsUptoRow.holds Try.pinned (OpenSpec.upto walRenewsSpec)

end Rows
end Go.Proofs.Ythjoamldmcnodaa
