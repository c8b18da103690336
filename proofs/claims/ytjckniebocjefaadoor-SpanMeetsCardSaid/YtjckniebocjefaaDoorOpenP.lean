/- A span opened: a struct of two strings. -/
import Derived.ProofKit
import Derived.SizedLaws
import Derived.Lib.SmallJoins
namespace Go.Proofs.YtjckniebocjefaaDoor
open Go.ChangeShapes Go.WideShapes Go.ChangeAt Go.RowKit
section
variable {H : Type} {enc : TypeId × Value → H} {P : Program} {w : World} {base : Nat} {spare : Nat → Bool} {held : Bool}
theorem open_span {r : Reach} {b0 : Nat} {t ts : TypeId} {f0 f1 : Field} {v : Value} {d : DataW H} {p : List MemPlace}
    (hs : P.underlying t = some (.struct #[f0, f1])) (hst : P.underlying ts = some .string)
    (e0 : f0.type = ts ∧ f0.offset = 0) (e1 : f1.type = ts ∧ f1.offset = 1) (cs : P.cellsOf ts = 1) (hct : P.cellsOf t = 2)
    (hv : Value.okWide P w r b0 t v) (h : DataW.Trod enc P w base spare held t v d p) :
    ∃ (l m : List UInt8), v = .agg #[.string ⟨l.toArray⟩, .string ⟨m.toArray⟩] ∧ d = .agg [.lit (.string l), .lit (.string m)] := by
  obtain ⟨cs', rfl, hsz⟩ := okWide_struct hs hv
  obtain ⟨fuel, hf⟩ := h
  obtain ⟨xs, n, _, hx, hlen, hxs, hg⟩ := DataW.trod_struct hs hf
  clear hf
  obtain ⟨rfl, _⟩ := Prod.mk.inj hx
  rw [hct] at hlen
  simp [Value.cells] at hlen hg
  obtain ⟨cl⟩ := cs'
  simp at hlen hg
  match cl, hlen, xs, hxs with
  | [c0, c1], _, [y0, y1], _ =>
    have h0 := hg 0 f0 rfl
    have h1 := hg 1 f1 rfl
    rw [e0.1, e0.2, cs] at h0
    rw [e1.1, e1.2, cs] at h1
    simp at h0 h1
    obtain ⟨s0, q0, x0, _⟩ := DataW.trod_string hst h0
    obtain ⟨s1, q1, x1, _⟩ := DataW.trod_string hst h1
    simp at q0 q1
    subst q0 q1 x0 x1
    exact ⟨s0.data.toList, s1.data.toList, by cases s0; cases s1; simp, rfl⟩
end
end Go.Proofs.YtjckniebocjefaaDoor
