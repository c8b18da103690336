/- Slices of spans, opened. -/
import Derived.Test.YtbggohdpaodkeaaDoorRows0
import Derived.Test.YtbggohdpaodkeaaDoorSpan
namespace Go.Proofs.YtbggohdpaodkeaaDoor
open Go.ChangeShapes Go.WideShapes Go.ChangeAt Go.RowKit Go.Deep
instance : Inhabited Sp := ⟨zSp⟩
def spC (a : Sp) : List Value := [.string ⟨a.lo.toArray⟩, .string ⟨a.hi.toArray⟩]
def spOk (a : Sp) : Prop := a.lo.length ≤ 9223372036854775807 ∧ a.hi.length ≤ 9223372036854775807
section
variable {H : Type} {enc : TypeId × Value → H} {P : Program} {w : World} {held : Bool}
theorem open_spc {e ts : TypeId} {f0 f1 : Field} (hs : P.underlying e = some (.struct #[f0, f1])) (hst : P.underlying ts = some .string)
    (e0 : f0.type = ts ∧ f0.offset = 0) (e1 : f1.type = ts ∧ f1.offset = 1) (hc2 : P.cellsOf ts = 1) (hct : P.cellsOf e = 2)
    (n : Nat) (l : List Value) (y : DataW H × List MemPlace) (h : DataW.trod enc P w 0 (fun _ => true) held n e l = some y) : ∃ x : Sp, l = spC x ∧ spOk x := by
  obtain ⟨xs, m, _, _, hlen, hxs, hf⟩ := DataW.trod_struct hs h
  rw [hct] at hlen
  match l, hlen, xs, hxs with
  | [c0, c1], _, [y0, y1], _ =>
    have h0 := hf 0 f0 rfl
    have h1 := hf 1 f1 rfl
    rw [e0.1, e0.2, hc2] at h0
    rw [e1.1, e1.2, hc2] at h1
    obtain ⟨s0, hs0, _, ws0⟩ := DataW.trod_string hst h0
    obtain ⟨s1, hs1, _, ws1⟩ := DataW.trod_string hst h1
    simp at hs0 hs1
    refine ⟨⟨s0.data.toList, s1.data.toList⟩, ?_, ?_, ?_⟩
    · rw [hs0, hs1]
      unfold spC
      simp
    · unfold maxLen at ws0
      simpa using ws0
    · unfold maxLen at ws1
      simpa using ws1
end
end Go.Proofs.YtbggohdpaodkeaaDoor
