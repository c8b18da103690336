/- Slices of acts (two ints, a text), opened. -/
import Derived.Test.YthjoamldmcnodaaRows0
namespace Go.Proofs.Ythjoamldmcnodaa
open Go.ChangeShapes Go.WideShapes Go.ChangeAt Go.RowKit Go.Deep
structure Ac where
  kd : Int
  n : Int
  s : List UInt8
  deriving Inhabited
def acC (a : Ac) : List Value := [.int .i64 a.kd, .int .i64 a.n, .string ⟨a.s.toArray⟩]
def acOk (a : Ac) : Prop := (-9223372036854775808 ≤ a.kd ∧ a.kd ≤ 9223372036854775807) ∧ (-9223372036854775808 ≤ a.n ∧ a.n ≤ 9223372036854775807) ∧ a.s.length ≤ 9223372036854775807
section
variable {H : Type} {enc : TypeId × Value → H} {P : Program} {w : World} {held : Bool}
theorem open_ac {e ti ts : TypeId} {f0 f1 f2 : Field} (hs : P.underlying e = some (.struct #[f0, f1, f2])) (hi : P.underlying ti = some (.int .i64)) (hst : P.underlying ts = some .string)
    (e0 : f0.type = ti ∧ f0.offset = 0) (e1 : f1.type = ti ∧ f1.offset = 1) (e2 : f2.type = ts ∧ f2.offset = 2) (hc : P.cellsOf ti = 1) (hc2 : P.cellsOf ts = 1) (hct : P.cellsOf e = 3)
    (n : Nat) (l : List Value) (y : DataW H × List MemPlace) (h : DataW.trod enc P w 0 (fun _ => true) held n e l = some y) : ∃ x : Ac, l = acC x ∧ acOk x := by
  obtain ⟨xs, m, _, _, hlen, hxs, hf⟩ := DataW.trod_struct hs h
  rw [hct] at hlen
  match l, hlen, xs, hxs with
  | [c0, c1, c2], _, [y0, y1, y2], _ =>
    have h0 := hf 0 f0 rfl
    have h1 := hf 1 f1 rfl
    have h2 := hf 2 f2 rfl
    rw [e0.1, e0.2, hc] at h0
    rw [e1.1, e1.2, hc] at h1
    rw [e2.1, e2.2, hc2] at h2
    obtain ⟨a, ha, _, wa⟩ := DataW.trod_int hi h0
    obtain ⟨b, hb, _, wb⟩ := DataW.trod_int hi h1
    obtain ⟨s, hss, _, ws⟩ := DataW.trod_string hst h2
    simp at ha hb hss
    refine ⟨⟨a, b, s.data.toList⟩, ?_, bounds_i64 wa, bounds_i64 wb, ?_⟩
    · rw [ha, hb, hss]
      unfold acC
      simp
    · unfold maxLen at ws
      simpa using ws
end
end Go.Proofs.Ythjoamldmcnodaa
