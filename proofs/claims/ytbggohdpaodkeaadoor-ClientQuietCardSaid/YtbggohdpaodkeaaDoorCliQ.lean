/- Ask, as 'awake' calls it. -/
import Derived.Test.YtbggohdpaodkeaaDoorCliP
namespace Go.Proofs.YtbggohdpaodkeaaDoor
open Go.RowKit
attribute [local go_sem] ByteArray.mk_append_mk ByteArray.extract_mk
attribute [local go_sem ↓] Go.wp_at_zero Go.wp_at_succ
set_option maxHeartbeats 800000 in
set_option maxRecDepth 100000 in
theorem ask_ok (w : World) (hT : Go.Lib.Utf8Tabs 0 1 w) : Calls Tryd.prog 12 #[.agg c0A, .agg rqI] w fun e w' => e = .returned (.tuple #[.agg (cPA 12), .int .i64 0]) ∧ Below w.heap.size w w' := by
  have B1 : Blk (((w.alloc (.cells c0A 29)).alloc (.cells rqI 27)).alloc (.cells zcA 29)) w.heap.size 29 c0A := ((Blk.new w _ _).alloc _).alloc _
  have B2 : Blk (((w.alloc (.cells c0A 29)).alloc (.cells rqI 27)).alloc (.cells zcA 29)) (w.heap.size + 1) 27 rqI := (Blk.new' _ _ _ _ (by simp)).alloc _
  have B3 : Blk (((w.alloc (.cells c0A 29)).alloc (.cells rqI 27)).alloc (.cells zcA 29)) (w.heap.size + 1 + 1) 29 zcA := Blk.new' _ _ _ _ (by simp)
  have hb : Below w.heap.size w (((w.alloc (.cells c0A 29)).alloc (.cells rqI 27)).alloc (.cells zcA 29)) := bal (bal (bal (b0 w) _) _) _
  go_enter Tryd.func12, Tryd.ntmps12
  go_wp2_with (with_reducible refine wpl_ld B1 (by with_unfolding_all rfl) 29 _ (by with_unfolding_all rfl) (by with_unfolding_all rfl) _ Tryd.underlying29 (by with_unfolding_all rfl) (by with_unfolding_all rfl) ?_)
  generalize (((w.alloc (.cells c0A 29)).alloc (.cells rqI 27)).alloc (.cells zcA 29)) = W at *
  refine (free_ok W).mono ?_
  rintro e w1 ⟨rfl, d1⟩
  have C1 := B1.keep d1
  have C2 := B2.keep d1
  have C3 := B3.keep d1
  have b1 := bt hb d1
  clear B1 B2 B3
  go_wp2_with (first | (with_reducible refine wpl_ld C1 (by with_unfolding_all rfl) 29 _ (by with_unfolding_all rfl) (by with_unfolding_all rfl) _ Tryd.underlying29 (by with_unfolding_all rfl) (by with_unfolding_all rfl) ?_) | (with_reducible refine wpl_ld C2 (by with_unfolding_all rfl) 27 _ (by with_unfolding_all rfl) (by with_unfolding_all rfl) _ Tryd.underlying27 (by with_unfolding_all rfl) (by with_unfolding_all rfl) ?_) | fail)
  refine (pend_ok w1 (Utf8Tabs_below hT b1)).mono ?_
  rintro e w2 ⟨rfl, d2⟩
  have E3 := C3.keep d2
  have b2 := bt b1 d2
  have D : ∀ w3, w3 = w2.setRow (w.heap.size + 1 + 1) (cPA 12) → Below w.heap.size w w3 ∧ Blk w3 (w.heap.size + 1 + 1) 29 (cPA 12) := by
    rintro _ rfl
    exact ⟨below_row b2 (by omega) _, E3.row _⟩
  go_wp2_with (first | (with_reducible refine wpl_st E3 (by with_unfolding_all rfl) 29 _ _ (by with_unfolding_all rfl) (cPA 12) (by with_unfolding_all rfl) (by with_unfolding_all rfl) (by with_unfolding_all rfl) (by with_unfolding_all rfl) (by with_unfolding_all rfl) ?_; intro w3 e3; obtain ⟨b3, F3⟩ := D w3 e3; clear e3) | fail)
  exact bodyPost_ret (res2c F3 rfl rfl _ rfl _ Tryd.underlying29 rfl rfl) rfl ⟨rfl, b3⟩
end Go.Proofs.YtbggohdpaodkeaaDoor
