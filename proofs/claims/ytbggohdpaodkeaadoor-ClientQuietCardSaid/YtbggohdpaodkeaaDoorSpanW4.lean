/- The walks of the document's Meet and Cut of spans. -/
import Derived.Test.YtbggohdpaodkeaaDoorSpanW3
import Derived.Deep.RegionHeld3
import Derived.Deep.DeepCutAuto
namespace Go.Proofs.YtbggohdpaodkeaaDoor
open Go.RowKit
attribute [local go_sem] ByteArray.mk_append_mk ByteArray.extract_mk
attribute [local go_sem ↓] Go.wp_at_zero Go.wp_at_succ
def CutCut (W : World) (T : TypeId) (cu cv : Array Value) (s7 s8 : Value) (wx : World) : Prop :=
  ∃ gu gv, s7 = .pointer (some ⟨gu, 0, none⟩) ∧ s8 = .pointer (some ⟨gv, 0, none⟩) ∧ W.heap.size ≤ gu ∧ W.heap.size ≤ gv ∧ Blk wx gu T cu ∧ Blk wx gv T cv ∧ Below W.heap.size W wx
theorem blk_put2 {w : World} {g : Nat} {t : TypeId} {c0 c1 u0 u1 : Value} (h : Blk w g t #[c0, c1]) : Blk ((w.setCell ⟨g, 0, none⟩ u0).setCell ⟨g, 1, none⟩ u1) g t #[u0, u1] := by
  have h5 := (h.set 0 u0).set 1 u1
  simpa using h5
end Go.Proofs.YtbggohdpaodkeaaDoor
