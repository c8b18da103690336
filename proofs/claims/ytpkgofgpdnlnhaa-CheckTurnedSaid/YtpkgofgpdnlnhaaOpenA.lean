/- An array of four bytes as argument, opened. -/
import Derived.ProofKit
import Derived.SizedLaws
import Derived.Lib.SmallJoins
import Derived.OpenShut
namespace Go.Proofs.Ytpkgofgpdnlnhaa
open Go.ChangeShapes Go.WideShapes Go.ChangeAt Go.RowKit
section
variable {H : Type} {enc : TypeId × Value → H} {P : Program} {w : World} {base : Nat} {spare : Nat → Bool} {held : Bool}
theorem open_arr4 {t e : TypeId} {v : Value} {d : DataW H} {p : List MemPlace} (ht : P.underlying t = some (.array 4 e)) (he : P.underlying e = some (.int .u8)) (hc : P.cellsOf e = 1) (hct : P.cellsOf t = 4)
    (h : DataW.Trod enc P w base spare held t v d p) :
    ∃ a b c f : Int, v = .agg #[.int .u8 a, .int .u8 b, .int .u8 c, .int .u8 f] ∧ (Lit.int .u8 a).wf = true ∧ (Lit.int .u8 b).wf = true ∧ (Lit.int .u8 c).wf = true ∧ (Lit.int .u8 f).wf = true := by
  obtain ⟨fuel, hf⟩ := h
  obtain ⟨xs, n, _, _, hlen, hxs, hg⟩ := DataW.trod_array ht hf
  rw [hct] at hlen
  have key : ∀ (cs : List Value), cs.length = 4 → (∀ (i : Nat), i < 4 → DataW.trod enc P w base spare held n e ((cs.drop (i * P.cellsOf e)).take (P.cellsOf e)) = xs[i]?) →
      ∃ a b c f : Int, cs = [.int .u8 a, .int .u8 b, .int .u8 c, .int .u8 f] ∧ (Lit.int .u8 a).wf = true ∧ (Lit.int .u8 b).wf = true ∧ (Lit.int .u8 c).wf = true ∧ (Lit.int .u8 f).wf = true := by
    intro cs hl hg
    match cs, hl, xs, hxs with
    | [c0, c1, c2, c3], _, [y0, y1, y2, y3], _ =>
      have h0 := hg 0 (by omega)
      have h1 := hg 1 (by omega)
      have h2 := hg 2 (by omega)
      have h3 := hg 3 (by omega)
      rw [hc] at h0 h1 h2 h3
      simp at h0 h1 h2 h3
      obtain ⟨a, q0, _, w0⟩ := DataW.trod_int he h0
      obtain ⟨b, q1, _, w1⟩ := DataW.trod_int he h1
      obtain ⟨c, q2, _, w2⟩ := DataW.trod_int he h2
      obtain ⟨f, q3, _, w3⟩ := DataW.trod_int he h3
      simp at q0 q1 q2 q3
      exact ⟨a, b, c, f, by rw [q0, q1, q2, q3], w0, w1, w2, w3⟩
  obtain ⟨a, b, c, f, hq, r⟩ := key v.cells.toList (by simpa using hlen) (by simpa using hg)
  refine ⟨a, b, c, f, ?_, r⟩
  cases v with
  | agg cs =>
    obtain ⟨cl⟩ := cs
    simp [Value.cells] at hq
    rw [hq]
  | _ => simp [Value.cells] at hq
end
end Go.Proofs.Ytpkgofgpdnlnhaa
