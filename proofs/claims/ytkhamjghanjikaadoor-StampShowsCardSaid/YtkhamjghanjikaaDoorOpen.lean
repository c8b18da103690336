/- Arguments opened: structs of ints, a struct round a struct, structs of strings; how long a string in an argument is. -/
import Derived.ProofKit
import Derived.SizedLaws
import Derived.Lib.SmallJoins
namespace Go.Proofs.YtkhamjghanjikaaDoor
open Go.ChangeShapes Go.WideShapes Go.ChangeAt Go.RowKit
section
variable {H : Type} {enc : TypeId × Value → H} {P : Program} {w : World} {base : Nat} {spare : Nat → Bool} {held : Bool}
theorem trod_ints3 {t ti : TypeId} {f0 f1 f2 : Field} (hs : P.underlying t = some (.struct #[f0, f1, f2])) (hi : P.underlying ti = some (.int .i64))
    (e0 : f0.type = ti ∧ f0.offset = 0) (e1 : f1.type = ti ∧ f1.offset = 1) (e2 : f2.type = ti ∧ f2.offset = 2) (hc : P.cellsOf ti = 1) (hct : P.cellsOf t = 3)
    {fuel : Nat} {cs : List Value} {x : DataW H × List MemPlace} (h : DataW.trod enc P w base spare held fuel t cs = some x) :
    ∃ a b c : Int, cs = [.int .i64 a, .int .i64 b, .int .i64 c] ∧ (Lit.int .i64 a).wf = true ∧ (Lit.int .i64 b).wf = true ∧ (Lit.int .i64 c).wf = true := by
  obtain ⟨xs, n, _, _, hlen, hxs, hf⟩ := DataW.trod_struct hs h
  rw [hct] at hlen
  match cs, hlen, xs, hxs with
  | [c0, c1, c2], _, [y0, y1, y2], _ =>
    have h0 := hf 0 f0 rfl
    have h1 := hf 1 f1 rfl
    have h2 := hf 2 f2 rfl
    rw [e0.1, e0.2, hc] at h0
    rw [e1.1, e1.2, hc] at h1
    rw [e2.1, e2.2, hc] at h2
    obtain ⟨a, ha, _, wa⟩ := DataW.trod_int hi h0
    obtain ⟨b, hb, _, wb⟩ := DataW.trod_int hi h1
    obtain ⟨c, hc', _, wc⟩ := DataW.trod_int hi h2
    simp at ha hb hc'
    exact ⟨a, b, c, by rw [ha, hb, hc'], wa, wb, wc⟩
theorem trod_wrap {t t' : TypeId} {f : Field} (hs : P.underlying t = some (.struct #[f])) (e : f.type = t' ∧ f.offset = 0) (hc : P.cellsOf t' = P.cellsOf t)
    {fuel : Nat} {cs : List Value} {x : DataW H × List MemPlace} (h : DataW.trod enc P w base spare held fuel t cs = some x) :
    ∃ n y, DataW.trod enc P w base spare held n t' cs = some y := by
  obtain ⟨xs, n, _, _, hlen, hxs, hf⟩ := DataW.trod_struct hs h
  match xs, hxs with
  | [y], _ =>
    have h0 := hf 0 f rfl
    rw [e.1, e.2, hc, List.drop_zero, List.take_of_length_le (by omega)] at h0
    exact ⟨n, y, h0⟩
theorem open_stamp {r : Reach} {b0 : Nat} {t ti : TypeId} {f0 f1 f2 : Field} {v : Value} {d : DataW H} {p : List MemPlace} (hs : P.underlying t = some (.struct #[f0, f1, f2])) (hi : P.underlying ti = some (.int .i64))
    (e0 : f0.type = ti ∧ f0.offset = 0) (e1 : f1.type = ti ∧ f1.offset = 1) (e2 : f2.type = ti ∧ f2.offset = 2) (hc : P.cellsOf ti = 1) (hct : P.cellsOf t = 3)
    (hv : Value.okWide P w r b0 t v) (h : DataW.Trod enc P w base spare held t v d p) :
    ∃ a b c : Int, v = .agg #[.int .i64 a, .int .i64 b, .int .i64 c] ∧ (Lit.int .i64 a).wf = true ∧ (Lit.int .i64 b).wf = true ∧ (Lit.int .i64 c).wf = true := by
  obtain ⟨cs, rfl, hsz⟩ := okWide_struct hs hv
  obtain ⟨fuel, hf⟩ := h
  obtain ⟨a, b, c, hcs, wa, wb, wc⟩ := trod_ints3 hs hi e0 e1 e2 hc hct hf
  refine ⟨a, b, c, ?_, wa, wb, wc⟩
  simp [Value.cells] at hcs
  obtain ⟨l⟩ := cs
  simp at hcs
  rw [hcs]
theorem open_clock {r : Reach} {b0 : Nat} {t' t ti : TypeId} {f f0 f1 f2 : Field} {v : Value} {d : DataW H} {p : List MemPlace} (hs' : P.underlying t' = some (.struct #[f])) (e : f.type = t ∧ f.offset = 0) (hcc : P.cellsOf t = P.cellsOf t')
    (hs : P.underlying t = some (.struct #[f0, f1, f2])) (hi : P.underlying ti = some (.int .i64))
    (e0 : f0.type = ti ∧ f0.offset = 0) (e1 : f1.type = ti ∧ f1.offset = 1) (e2 : f2.type = ti ∧ f2.offset = 2) (hc : P.cellsOf ti = 1) (hct : P.cellsOf t = 3)
    (hv : Value.okWide P w r b0 t' v) (h : DataW.Trod enc P w base spare held t' v d p) :
    ∃ a b c : Int, v = .agg #[.int .i64 a, .int .i64 b, .int .i64 c] ∧ (Lit.int .i64 a).wf = true ∧ (Lit.int .i64 b).wf = true ∧ (Lit.int .i64 c).wf = true := by
  obtain ⟨cs, rfl, hsz⟩ := okWide_struct hs' hv
  obtain ⟨fuel, hf⟩ := h
  obtain ⟨n, y, hf⟩ := trod_wrap hs' e hcc hf
  obtain ⟨a, b, c, hcs, wa, wb, wc⟩ := trod_ints3 hs hi e0 e1 e2 hc hct hf
  refine ⟨a, b, c, ?_, wa, wb, wc⟩
  simp [Value.cells] at hcs
  obtain ⟨l⟩ := cs
  simp at hcs
  rw [hcs]
end
end Go.Proofs.YtkhamjghanjikaaDoor
