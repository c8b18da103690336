/- Structs stored cell by cell; how a world goes on below a block. -/
import Derived.Test.YthjoamldmcnodaaBlk
namespace Go.Proofs.Ythjoamldmcnodaa
open Go.RowKit
theorem blk_put5 {w : World} {g : Nat} {t : TypeId} {c0 c1 c2 c3 c4 u0 u1 u2 u3 u4 : Value} (h : Blk w g t #[c0, c1, c2, c3, c4]) :
    Blk (((((w.setCell ⟨g, 0, none⟩ u0).setCell ⟨g, 1, none⟩ u1).setCell ⟨g, 2, none⟩ u2).setCell ⟨g, 3, none⟩ u3).setCell ⟨g, 4, none⟩ u4) g t #[u0, u1, u2, u3, u4] := by
  have h5 := ((((h.set 0 u0).set 1 u1).set 2 u2).set 3 u3).set 4 u4
  simpa using h5
theorem below_left {B : Nat} {w w' : World} {q : Prop} (h : Below B w w' ∧ q) : Below B w w' := h.1
theorem ret_bool {a b : Bool} (h : a = b) : Ending.returned (.bool a) = .returned (.bool b) := by rw [h]
/-- a struct of five cells stored in block g: what becomes of the other blocks, and of the world -/
def put5 (w : World) (g : Nat) (u0 u1 u2 u3 u4 : Value) : World :=
  ((((w.setCell ⟨g, 0, none⟩ u0).setCell ⟨g, 1, none⟩ u1).setCell ⟨g, 2, none⟩ u2).setCell ⟨g, 3, none⟩ u3).setCell ⟨g, 4, none⟩ u4
theorem put5_same {w : World} {g : Nat} {t : TypeId} {c0 c1 c2 c3 c4 u0 u1 u2 u3 u4 : Value} (h : Blk w g t #[c0, c1, c2, c3, c4]) : Blk (put5 w g u0 u1 u2 u3 u4) g t #[u0, u1, u2, u3, u4] := blk_put5 h
theorem put5_far {w : World} {g b : Nat} {t : TypeId} {cs : Array Value} (u0 u1 u2 u3 u4 : Value) (h : Blk w b t cs) (hb : b ≠ g) : Blk (put5 w g u0 u1 u2 u3 u4) b t cs :=
  ((((h.far hb _).far hb _).far hb _).far hb _).far hb _
theorem put5_below {w W : World} {g : Nat} (u0 u1 u2 u3 u4 : Value) (h : Below w.heap.size w W) (hg : w.heap.size ≤ g) : Below w.heap.size w (put5 W g u0 u1 u2 u3 u4) :=
  bst (bst (bst (bst (bst h hg _) hg _) hg _) hg _) hg _
theorem own_base {w : World} {base base' s n : Nat} {e : TypeId} {v : Value} {xs : List Value} (h : w.ownsRow base e s v n xs) (hb : base' ≤ base) : w.ownsRow base' e s v n xs := by
  refine ⟨h.1, ?_⟩
  rcases h.2 with h0 | ⟨g, cap, cur, hv, hbg, rest⟩
  · exact .inl h0
  · exact .inr ⟨g, cap, cur, hv, by omega, rest⟩
end Go.Proofs.Ythjoamldmcnodaa
