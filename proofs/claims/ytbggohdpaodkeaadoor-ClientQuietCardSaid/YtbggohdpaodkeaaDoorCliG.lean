/- The clients that 'awake' makes are right. -/
import Derived.Test.YtbggohdpaodkeaaDoorCliF
namespace Go.Proofs.YtbggohdpaodkeaaDoor
open Go.RowKit
attribute [local go_sem] ByteArray.mk_append_mk ByteArray.extract_mk
attribute [local go_sem ↓] Go.wp_at_zero Go.wp_at_succ
/-- as it begins -/
abbrev c0A : Array Value := #[.int .i64 1, .int .i64 1, .slice none 0 0, .slice none 0 0, .int .i64 0, .int .i64 0, .int .i64 0, .string ⟨#[]⟩, .string ⟨#[]⟩, .bool false, .string ⟨#[]⟩, .int .i64 0, .int .i64 0, .int .i64 0, .string ⟨#[]⟩, .int .i64 0, .bool false, .int .i64 0]
/-- a request is pending, with so many tries -/
abbrev cPA (t : Int) : Array Value := #[.int .i64 1, .int .i64 2, .slice none 0 0, .slice none 0 0, .int .i64 1, .int .i64 1, .int .i64 4, .string ⟨#[97]⟩, .string ⟨#[]⟩, .bool false, .string ⟨#[]⟩, .int .i64 0, .int .i64 0, .int .i64 0, .string ⟨#[]⟩, .int .i64 0, .bool false, .int .i64 t]
set_option maxHeartbeats 1600000 in
set_option maxRecDepth 100000 in
theorem right0_ok (w : World) : Calls Tryd.prog 13 #[.agg c0A] w fun e w' => e = .returned (.bool true) ∧ Below w.heap.size w w' := by
  go_enter Tryd.func13, Tryd.ntmps13
  go_wp2
  go_ret
  exact ⟨rfl, bal (b0 w) _⟩
set_option maxHeartbeats 1600000 in
set_option maxRecDepth 100000 in
theorem rightP_ok (t : Int) (h1 : 0 ≤ t) (h2 : t ≤ 12) (w : World) (hT : Go.Lib.Utf8Tabs 0 1 w) : Calls Tryd.prog 13 #[.agg (cPA t)] w fun e w' => e = .returned (.bool true) ∧ Below w.heap.size w w' := by
  go_enter Tryd.func13, Tryd.ntmps13
  go_wp2_with fail
  refine (rr_ok _ (Utf8Tabs_below hT (bal (b0 w) _))).mono ?_
  rintro e w1 ⟨rfl, d1⟩
  go_wp2
  go_ret
  exact ⟨rfl, bt (bal (b0 w) _) d1⟩
end Go.Proofs.YtbggohdpaodkeaaDoor
