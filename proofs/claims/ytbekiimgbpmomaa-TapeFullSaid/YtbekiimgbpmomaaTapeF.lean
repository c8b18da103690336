/- The walk of TapeFull. -/
import Derived.Test.YtbekiimgbpmomaaTapeFa
import Derived.Test.YtbekiimgbpmomaaTapeFb
import Derived.Deep.RegionHeld3
import Derived.Deep.RegionWith
import Derived.Deep.DrawnRows
namespace Go.Proofs.Ytbekiimgbpmomaa
open Go.RowKit
attribute [local go_sem] ByteArray.mk_append_mk ByteArray.extract_mk
set_option maxHeartbeats 800000 in
set_option maxRecDepth 100000 in
theorem tapeFull_walk (x : Int) (hx : (Lit.int .i8 x).wf = true) (y : Int) (hy : (Lit.int .i8 y).wf = true) (w : World) :
    Calls Try.prog 3 #[.int .i8 x, .int .i8 y] w fun e w' => e = .returned (.bool true) ∧ Below w.heap.size w w' := by
  by_cases hq0 : 1048576 < 1048448 + x + (y + 128)
  · exact tapeFull_yes x hx y hy hq0 w
  · exact tapeFull_no x hx y hy hq0 w
end Go.Proofs.Ytbekiimgbpmomaa
