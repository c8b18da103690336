/-
  No cell of these rows narrows 'for every input' (looked for: loops, veiled, ifaces, maps, wideKeys, modest, calm, conditions, laid).
  DERIVED. THE GIVEN ROWS OF THIS SEAT. 7 by the template 'for every input the law returns true; each argument reads behind the call as it read before'; 0 by the template 'total and deterministic' (their statements: YtpdjfmdbpnpkfaaTotals.lean).
  GIVEN WITH THE SEED: the statements are not yours to turn. If you find one false, say at which input.
  Laid BY PROGRAM, IN A SANDBOX (cutbox-rows.mjs): the forced cells as the released guide's own fill.sh prints them over the translation 70fd52bfcdf2eda0… (all of the seat's roots in one cut). By AI agents, Wed Nov 11 2026. No macro, syntax, notation, axiom, sorry.
-/
import Derived.Test.YtpdjfmdbpnpkfaaChecked
import GoSem.Claim
import GoSem.ClaimJoined
import GoSem.ClaimMapViews
import Derived.JoinedTies
import Derived.KernelRfl
namespace Go.Proofs.Ytpdjfmdbpnpkfaa
/- THE CELL 'sum', in the pinned program and in every row, IS THE sha256 OF THE DUMP (.gsa) THAT YtpdjfmdbpnpkfaaProg.lean LOADS. Nothing in Lean hashes anything: it is a label: what it is worth is what the hold of that sum in a sandbox is worth. -/
noncomputable def Try.pinned : Pinned := { name := "ytpdjfmdbpnpkfaa", sum := "70fd52bfcdf2eda0c50d025d7e1f8abeb30b6c00ee90767c3b46d7a112ce73fe", checked := Try.checked }
namespace Rows
def none {H : Type} : Left H := { results := [], args := [] }

/-- 'stratigraphlaw06.ClockNows': WHATEVER THE INPUT: true; the input reads as it did. -/
def clockNowsSpec : ChangeSpec := { name := "clockNows", fn := fun _ => fun
  | [d1, d2] => { results := [.lit (.bool true)], args := [d1, d2] }
  | _ => none }
def clockNowsRow : OpenClaim := { program := "ytpdjfmdbpnpkfaa", sum := "70fd52bfcdf2eda0c50d025d7e1f8abeb30b6c00ee90767c3b46d7a112ce73fe", func := "stratigraph/stratigraphlaw06.ClockNows", spec := "clockNows", apart := false }
def ClockNowsSaid : Prop := clockNowsRow.holds Try.pinned (OpenSpec.ofChange clockNowsSpec)

/-- ITS FALSE NEIGHBOUR: 'it returns false'. Refute it at one input. -/
def clockNowsWrong : ChangeSpec := { name := "clockNows", fn := fun _ => fun
  | [d1, d2] => { results := [.lit (.bool false)], args := [d1, d2] }
  | _ => none }
def ClockNowsWrongFalsely : Prop := clockNowsRow.holds Try.pinned (OpenSpec.ofChange clockNowsWrong)

/-- 'stratigraphlaw06.ClockNews': WHATEVER THE INPUT: true; the input reads as it did. -/
def clockNewsSpec : ChangeSpec := { name := "clockNews", fn := fun _ => fun
  | [d] => { results := [.lit (.bool true)], args := [d] }
  | _ => none }
def clockNewsRow : OpenClaim := { program := "ytpdjfmdbpnpkfaa", sum := "70fd52bfcdf2eda0c50d025d7e1f8abeb30b6c00ee90767c3b46d7a112ce73fe", func := "stratigraph/stratigraphlaw06.ClockNews", spec := "clockNews", apart := false }
def ClockNewsSaid : Prop := clockNewsRow.holds Try.pinned (OpenSpec.ofChange clockNewsSpec)

/-- ITS FALSE NEIGHBOUR: 'it returns false'. Refute it at one input. -/
def clockNewsWrong : ChangeSpec := { name := "clockNews", fn := fun _ => fun
  | [d] => { results := [.lit (.bool false)], args := [d] }
  | _ => none }
def ClockNewsWrongFalsely : Prop := clockNewsRow.holds Try.pinned (OpenSpec.ofChange clockNewsWrong)

/-- 'stratigraphlaw06.ClockApart': WHATEVER THE INPUT: true; the input reads as it did. -/
def clockApartSpec : ChangeSpec := { name := "clockApart", fn := fun _ => fun
  | [d1, d2, d3, d4] => { results := [.lit (.bool true)], args := [d1, d2, d3, d4] }
  | _ => none }
def clockApartRow : OpenClaim := { program := "ytpdjfmdbpnpkfaa", sum := "70fd52bfcdf2eda0c50d025d7e1f8abeb30b6c00ee90767c3b46d7a112ce73fe", func := "stratigraph/stratigraphlaw06.ClockApart", spec := "clockApart", apart := false }
def ClockApartSaid : Prop := clockApartRow.holds Try.pinned (OpenSpec.ofChange clockApartSpec)

/-- ITS FALSE NEIGHBOUR: 'it returns false'. Refute it at one input. -/
def clockApartWrong : ChangeSpec := { name := "clockApart", fn := fun _ => fun
  | [d1, d2, d3, d4] => { results := [.lit (.bool false)], args := [d1, d2, d3, d4] }
  | _ => none }
def ClockApartWrongFalsely : Prop := clockApartRow.holds Try.pinned (OpenSpec.ofChange clockApartWrong)

/-- 'stratigraphlaw06.ClockJoins': WHATEVER THE INPUT: true; the input reads as it did. -/
def clockJoinsSpec : ChangeSpec := { name := "clockJoins", fn := fun _ => fun
  | [d1, d2, d3] => { results := [.lit (.bool true)], args := [d1, d2, d3] }
  | _ => none }
def clockJoinsRow : OpenClaim := { program := "ytpdjfmdbpnpkfaa", sum := "70fd52bfcdf2eda0c50d025d7e1f8abeb30b6c00ee90767c3b46d7a112ce73fe", func := "stratigraph/stratigraphlaw06.ClockJoins", spec := "clockJoins", apart := false }
def ClockJoinsSaid : Prop := clockJoinsRow.holds Try.pinned (OpenSpec.ofChange clockJoinsSpec)

/-- ITS FALSE NEIGHBOUR: 'it returns false'. Refute it at one input. -/
def clockJoinsWrong : ChangeSpec := { name := "clockJoins", fn := fun _ => fun
  | [d1, d2, d3] => { results := [.lit (.bool false)], args := [d1, d2, d3] }
  | _ => none }
def ClockJoinsWrongFalsely : Prop := clockJoinsRow.holds Try.pinned (OpenSpec.ofChange clockJoinsWrong)

/-- 'stratigraphlaw06.ClockHears': WHATEVER THE INPUT: true; the input reads as it did. -/
def clockHearsSpec : ChangeSpec := { name := "clockHears", fn := fun _ => fun
  | [d1, d2, d3] => { results := [.lit (.bool true)], args := [d1, d2, d3] }
  | _ => none }
def clockHearsRow : OpenClaim := { program := "ytpdjfmdbpnpkfaa", sum := "70fd52bfcdf2eda0c50d025d7e1f8abeb30b6c00ee90767c3b46d7a112ce73fe", func := "stratigraph/stratigraphlaw06.ClockHears", spec := "clockHears", apart := false }
def ClockHearsSaid : Prop := clockHearsRow.holds Try.pinned (OpenSpec.ofChange clockHearsSpec)

/-- ITS FALSE NEIGHBOUR: 'it returns false'. Refute it at one input. -/
def clockHearsWrong : ChangeSpec := { name := "clockHears", fn := fun _ => fun
  | [d1, d2, d3] => { results := [.lit (.bool false)], args := [d1, d2, d3] }
  | _ => none }
def ClockHearsWrongFalsely : Prop := clockHearsRow.holds Try.pinned (OpenSpec.ofChange clockHearsWrong)

/-- 'stratigraphlaw06.ClockRises': WHATEVER THE INPUT: true; the input reads as it did. -/
def clockRisesSpec : ChangeSpec := { name := "clockRises", fn := fun _ => fun
  | [d1, d2] => { results := [.lit (.bool true)], args := [d1, d2] }
  | _ => none }
def clockRisesRow : OpenClaim := { program := "ytpdjfmdbpnpkfaa", sum := "70fd52bfcdf2eda0c50d025d7e1f8abeb30b6c00ee90767c3b46d7a112ce73fe", func := "stratigraph/stratigraphlaw06.ClockRises", spec := "clockRises", apart := false }
def ClockRisesSaid : Prop := clockRisesRow.holds Try.pinned (OpenSpec.ofChange clockRisesSpec)

/-- ITS FALSE NEIGHBOUR: 'it returns false'. Refute it at one input. -/
def clockRisesWrong : ChangeSpec := { name := "clockRises", fn := fun _ => fun
  | [d1, d2] => { results := [.lit (.bool false)], args := [d1, d2] }
  | _ => none }
def ClockRisesWrongFalsely : Prop := clockRisesRow.holds Try.pinned (OpenSpec.ofChange clockRisesWrong)

/-- 'stratigraphlaw06.ClockFar': WHATEVER THE INPUT: true; the input reads as it did. -/
def clockFarSpec : ChangeSpec := { name := "clockFar", fn := fun _ => fun
  | [d1, d2, d3] => { results := [.lit (.bool true)], args := [d1, d2, d3] }
  | _ => none }
def clockFarRow : OpenClaim := { program := "ytpdjfmdbpnpkfaa", sum := "70fd52bfcdf2eda0c50d025d7e1f8abeb30b6c00ee90767c3b46d7a112ce73fe", func := "stratigraph/stratigraphlaw06.ClockFar", spec := "clockFar", apart := false }
def ClockFarSaid : Prop := clockFarRow.holds Try.pinned (OpenSpec.ofChange clockFarSpec)

/-- ITS FALSE NEIGHBOUR: 'it returns false'. Refute it at one input. -/
def clockFarWrong : ChangeSpec := { name := "clockFar", fn := fun _ => fun
  | [d1, d2, d3] => { results := [.lit (.bool false)], args := [d1, d2, d3] }
  | _ => none }
def ClockFarWrongFalsely : Prop := clockFarRow.holds Try.pinned (OpenSpec.ofChange clockFarWrong)

/- THE SECOND FORM. 'bulk': how many values and letters a reading holds, each counted each time it is reached (what is shared counts as often as it is met; a slice's spare places count too). A statement '..UptoSaid' is the law's where the arguments, and the package variables that the reading takes, are together of bulk at most 1048576: NARROWER than '..Said'. Prove '..Said' where nothing that the law and all that it calls make is longer than what came in: it says more and counts as full. Else prove '..UptoSaid'. A law counts once. -/
mutual
def uptoBulk {H : Type} : DataW H → Nat
  | .lit (.string bytes) => bytes.length + 1
  | .lit _ => 1
  | .nil => 1
  | .ptr d => uptoBulk d + 1
  | .slice elems spare => uptoBulkAll elems + uptoBulkAll spare + 1
  | .agg parts => uptoBulkAll parts + 1
  | .iface _ d => uptoBulk d + 1
  | .map entries => uptoBulkEntries entries + 1
  | .held _ => 1
def uptoBulkAll {H : Type} : List (DataW H) → Nat
  | [] => 0
  | d :: r => uptoBulk d + uptoBulkAll r
def uptoBulkEntries {H : Type} : List (Lit × DataW H) → Nat
  | [] => 0
  | x :: r => uptoBulkEntry x + uptoBulkEntries r
def uptoBulkEntry {H : Type} : Lit × DataW H → Nat
  | (.string bytes, d) => bytes.length + uptoBulk d + 1
  | (_, d) => uptoBulk d + 1
 end
def uptoSmall : (H : Type) → List (DataW H) → Bool := fun _ ds => decide (uptoBulkAll ds ≤ 1048576)
def OpenSpec.upto (s : _root_.Go.ChangeSpec) : _root_.Go.OpenSpec := { _root_.Go.OpenSpec.ofChange s with cond := some uptoSmall }

/-- 'stratigraphlaw06.ClockNows', WHERE WHAT IT READS IS OF BULK AT MOST 1048576: true; the input reads as it did. -/
def clockNowsUptoRow : OpenClaim := { program := "ytpdjfmdbpnpkfaa", sum := "70fd52bfcdf2eda0c50d025d7e1f8abeb30b6c00ee90767c3b46d7a112ce73fe", func := "stratigraph/stratigraphlaw06.ClockNows", spec := "clockNows", apart := false, narrowed := true }
def ClockNowsUptoSaid : Prop := clockNowsUptoRow.holds Try.pinned (OpenSpec.upto clockNowsSpec)

/-- 'stratigraphlaw06.ClockNews', WHERE WHAT IT READS IS OF BULK AT MOST 1048576: true; the input reads as it did. -/
def clockNewsUptoRow : OpenClaim := { program := "ytpdjfmdbpnpkfaa", sum := "70fd52bfcdf2eda0c50d025d7e1f8abeb30b6c00ee90767c3b46d7a112ce73fe", func := "stratigraph/stratigraphlaw06.ClockNews", spec := "clockNews", apart := false, narrowed := true }
def ClockNewsUptoSaid : Prop := clockNewsUptoRow.holds Try.pinned (OpenSpec.upto clockNewsSpec)

/-- 'stratigraphlaw06.ClockApart', WHERE WHAT IT READS IS OF BULK AT MOST 1048576: true; the input reads as it did. -/
def clockApartUptoRow : OpenClaim := { program := "ytpdjfmdbpnpkfaa", sum := "70fd52bfcdf2eda0c50d025d7e1f8abeb30b6c00ee90767c3b46d7a112ce73fe", func := "stratigraph/stratigraphlaw06.ClockApart", spec := "clockApart", apart := false, narrowed := true }
def ClockApartUptoSaid : Prop := clockApartUptoRow.holds Try.pinned (OpenSpec.upto clockApartSpec)

/-- 'stratigraphlaw06.ClockJoins', WHERE WHAT IT READS IS OF BULK AT MOST 1048576: true; the input reads as it did. -/
def clockJoinsUptoRow : OpenClaim := { program := "ytpdjfmdbpnpkfaa", sum := "70fd52bfcdf2eda0c50d025d7e1f8abeb30b6c00ee90767c3b46d7a112ce73fe", func := "stratigraph/stratigraphlaw06.ClockJoins", spec := "clockJoins", apart := false, narrowed := true }
def ClockJoinsUptoSaid : Prop := clockJoinsUptoRow.holds Try.pinned (OpenSpec.upto clockJoinsSpec)

/-- 'stratigraphlaw06.ClockHears', WHERE WHAT IT READS IS OF BULK AT MOST 1048576: true; the input reads as it did. -/
def clockHearsUptoRow : OpenClaim := { program := "ytpdjfmdbpnpkfaa", sum := "70fd52bfcdf2eda0c50d025d7e1f8abeb30b6c00ee90767c3b46d7a112ce73fe", func := "stratigraph/stratigraphlaw06.ClockHears", spec := "clockHears", apart := false, narrowed := true }
def ClockHearsUptoSaid : Prop := clockHearsUptoRow.holds Try.pinned (OpenSpec.upto clockHearsSpec)

/-- 'stratigraphlaw06.ClockRises', WHERE WHAT IT READS IS OF BULK AT MOST 1048576: true; the input reads as it did. -/
def clockRisesUptoRow : OpenClaim := { program := "ytpdjfmdbpnpkfaa", sum := "70fd52bfcdf2eda0c50d025d7e1f8abeb30b6c00ee90767c3b46d7a112ce73fe", func := "stratigraph/stratigraphlaw06.ClockRises", spec := "clockRises", apart := false, narrowed := true }
def ClockRisesUptoSaid : Prop := clockRisesUptoRow.holds Try.pinned (OpenSpec.upto clockRisesSpec)

/-- 'stratigraphlaw06.ClockFar', WHERE WHAT IT READS IS OF BULK AT MOST 1048576: true; the input reads as it did. -/
def clockFarUptoRow : OpenClaim := { program := "ytpdjfmdbpnpkfaa", sum := "70fd52bfcdf2eda0c50d025d7e1f8abeb30b6c00ee90767c3b46d7a112ce73fe", func := "stratigraph/stratigraphlaw06.ClockFar", spec := "clockFar", apart := false, narrowed := true }
def ClockFarUptoSaid : Prop := clockFarUptoRow.holds Try.pinned (OpenSpec.upto clockFarSpec)

end Rows
end Go.Proofs.Ytpdjfmdbpnpkfaa
