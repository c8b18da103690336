/- The walks of the laws of spans: SpanRights, SpanCuts, SpanJoins, SpanMeets, SpanBack. -/
import Derived.Test.YtbggohdpaodkeaaDoorSpanW4
import Derived.Deep.RegionHeld3
import Derived.Deep.DrawnRows
import Derived.Deep.DeepCutAuto
namespace Go.Proofs.YtbggohdpaodkeaaDoor
open Go.RowKit
attribute [local go_sem] ByteArray.mk_append_mk ByteArray.extract_mk
attribute [local go_sem ↓] Go.wp_at_zero Go.wp_at_succ
def BackCut (W : World) (i j : Bool) (s12 s13 : Value) (wx : World) : Prop := s12 = .bool i ∧ s13 = .bool j ∧ Below W.heap.size W wx
theorem aw1 : cutSp ⟨[98], [100]⟩ [99] = (⟨[98], [99]⟩, ⟨[99], [100]⟩, 0) := by decide
theorem aw2 : hasSp ⟨[98], [100]⟩ [99] = true := by decide
theorem aw3 : hasSp ⟨[98], [100]⟩ [100] = false := by decide
end Go.Proofs.YtbggohdpaodkeaaDoor
