/- A tape opened: a struct of two strings, an int, two bools. -/
import Derived.ProofKit
import Derived.SizedLaws
import Derived.Lib.SmallJoins
namespace Go.Proofs.Ythjoamldmcnodaa
open Go.ChangeShapes Go.WideShapes Go.ChangeAt Go.RowKit
section
variable {H : Type} {enc : TypeId × Value → H} {P : Program} {w : World} {base : Nat} {spare : Nat → Bool} {held : Bool}
theorem open_tape {r : Reach} {b0 : Nat} {t ts ti tb : TypeId} {f0 f1 f2 f3 f4 : Field} {v : Value} {d : DataW H} {p : List MemPlace}
    (hs : P.underlying t = some (.struct #[f0, f1, f2, f3, f4])) (hst : P.underlying ts = some .string) (hi : P.underlying ti = some (.int .i64)) (hb : P.underlying tb = some .bool)
    (e0 : f0.type = ts ∧ f0.offset = 0) (e1 : f1.type = ts ∧ f1.offset = 1) (e2 : f2.type = ti ∧ f2.offset = 2) (e3 : f3.type = tb ∧ f3.offset = 3) (e4 : f4.type = tb ∧ f4.offset = 4)
    (cs : P.cellsOf ts = 1) (ci : P.cellsOf ti = 1) (cb : P.cellsOf tb = 1) (hct : P.cellsOf t = 5)
    (hv : Value.okWide P w r b0 t v) (h : DataW.Trod enc P w base spare held t v d p) :
    ∃ (l m : List UInt8) (n : Int) (a b : Bool), v = .agg #[.string ⟨l.toArray⟩, .string ⟨m.toArray⟩, .int .i64 n, .bool a, .bool b] ∧ (Lit.int .i64 n).wf = true ∧
      d = .agg [.lit (.string l), .lit (.string m), .lit (.int .i64 n), .lit (.bool a), .lit (.bool b)] := by
  obtain ⟨cs', rfl, hsz⟩ := okWide_struct hs hv
  obtain ⟨fuel, hf⟩ := h
  obtain ⟨xs, n, _, hx, hlen, hxs, hg⟩ := DataW.trod_struct hs hf
  clear hf
  obtain ⟨rfl, _⟩ := Prod.mk.inj hx
  rw [hct] at hlen
  simp [Value.cells] at hlen hg
  obtain ⟨cl⟩ := cs'
  simp at hlen hg
  match cl, hlen, xs, hxs with
  | [c0, c1, c2, c3, c4], _, [y0, y1, y2, y3, y4], _ =>
    have h0 := hg 0 f0 rfl
    have h1 := hg 1 f1 rfl
    have h2 := hg 2 f2 rfl
    have h3 := hg 3 f3 rfl
    have h4 := hg 4 f4 rfl
    rw [e0.1, e0.2, cs] at h0
    rw [e1.1, e1.2, cs] at h1
    rw [e2.1, e2.2, ci] at h2
    rw [e3.1, e3.2, cb] at h3
    rw [e4.1, e4.2, cb] at h4
    simp at h0 h1 h2 h3 h4
    obtain ⟨s0, q0, x0, _⟩ := DataW.trod_string hst h0
    obtain ⟨s1, q1, x1, _⟩ := DataW.trod_string hst h1
    obtain ⟨a2, q2, x2, wa⟩ := DataW.trod_int hi h2
    obtain ⟨a3, q3, x3⟩ := DataW.trod_bool hb h3
    obtain ⟨a4, q4, x4⟩ := DataW.trod_bool hb h4
    simp at q0 q1 q2 q3 q4
    subst q0 q1 q2 q3 q4 x0 x1 x2 x3 x4
    exact ⟨s0.data.toList, s1.data.toList, a2, a3, a4, by cases s0; cases s1; simp, wa, rfl⟩
end
end Go.Proofs.Ythjoamldmcnodaa
