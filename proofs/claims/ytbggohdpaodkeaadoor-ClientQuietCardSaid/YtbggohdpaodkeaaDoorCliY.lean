/- awake. -/
import Derived.Test.YtbggohdpaodkeaaDoorCliX
namespace Go.Proofs.YtbggohdpaodkeaaDoor
open Go.RowKit
attribute [local go_sem] ByteArray.mk_append_mk ByteArray.extract_mk
attribute [local go_sem ↓] Go.wp_at_zero Go.wp_at_succ
set_option maxHeartbeats 800000 in
set_option maxRecDepth 100000 in
theorem awake20 (w : World) (hT : Go.Lib.Utf8Tabs 0 1 w) : Calls Tryd.prog 6 #[] w fun e w' => e = .returned (.bool true) ∧ Below w.heap.size w w' := by
  have ho1 : c0A.toList.all (·.oneCell') = true := (by with_unfolding_all rfl)
  have ho2 : (cPA 12).toList.all (·.oneCell') = true := (by with_unfolding_all rfl)
  have ho3 : (cPA 11).toList.all (·.oneCell') = true := (by with_unfolding_all rfl)
  have ho4 : ztA.toList.all (·.oneCell') = true := (by with_unfolding_all rfl)
  go_enter Tryd.func6, Tryd.ntmps6
  go_wp2_with fail
  refine (new_ok w).mono ?_
  rintro e w1 ⟨rfl, b1⟩
  have A1 : Blk (w1.alloc (.cells zcA 29)) w1.heap.size 29 zcA := Blk.new w1 _ _
  have sz1 := b1.size
  have D1 : ∀ w', w' = (w1.alloc (.cells zcA 29)).setRow w1.heap.size c0A → Below w.heap.size w w' ∧ Blk w' w1.heap.size 29 c0A := by
    rintro _ rfl
    exact ⟨below_row (bal b1 _) sz1 _, A1.row _⟩
  go_wp2_with (with_reducible refine wpl_st A1 (by with_unfolding_all rfl) 29 _ _ (by with_unfolding_all rfl) c0A (by with_unfolding_all rfl) (by with_unfolding_all rfl) (by with_unfolding_all rfl) (by with_unfolding_all rfl) ho1 ?_; refine Classical.byContradiction fun hno => ?_)
  refine hno ?_
  clear hno ho1
  intro w2 e2
  obtain ⟨b2, C2⟩ := D1 w2 e2
  clear e2 D1 A1
  generalize w1.heap.size = G at *
  go_wp2_with (with_reducible refine wpl_ld C2 (by with_unfolding_all rfl) 29 _ (by with_unfolding_all rfl) (by with_unfolding_all rfl) _ Tryd.underlying29 (by with_unfolding_all rfl) (by with_unfolding_all rfl) ?_)
  refine (ask_ok w2 (Utf8Tabs_below hT b2)).mono ?_
  rintro e w3 ⟨rfl, d3⟩
  have b3 := bt b2 d3
  have C3 := C2.keep d3
  clear C2
  have D3 : ∀ w', w' = w3.setRow G (cPA 12) → Below w.heap.size w w' ∧ Blk w' G 29 (cPA 12) := by
    rintro _ rfl
    exact ⟨below_row b3 sz1 _, C3.row _⟩
  go_wp2_with (with_reducible refine wpl_st C3 (by with_unfolding_all rfl) 29 _ _ (by with_unfolding_all rfl) (cPA 12) (by with_unfolding_all rfl) (by with_unfolding_all rfl) (by with_unfolding_all rfl) (by with_unfolding_all rfl) ho2 ?_; refine Classical.byContradiction fun hno => ?_)
  refine hno ?_
  clear hno ho2
  intro w4 e4
  obtain ⟨b4, C4⟩ := D3 w4 e4
  clear e4 D3 C3
  go_wp2_with (with_reducible refine wpl_ld C4 (by with_unfolding_all rfl) 29 _ (by with_unfolding_all rfl) (by with_unfolding_all rfl) _ Tryd.underlying29 (by with_unfolding_all rfl) (by with_unfolding_all rfl) ?_)
  refine (tick_ok w4 (Utf8Tabs_below hT b4)).mono ?_
  rintro e w5 ⟨g, rfl, hg, M5, d5⟩
  have b5 := bt b4 d5
  have C5 := C4.keep d5
  have hGg : G < g := Nat.lt_of_lt_of_le C4.lt hg
  clear C4
  have sz5 := M5.lt
  have T5 : Blk (w5.alloc (.cells ztA 41)) w5.heap.size 41 ztA := Blk.new w5 _ _
  have D5 : ∀ w', w' = (w5.alloc (.cells ztA 41)).setRow G (cPA 11) → Below w.heap.size w w' ∧ Blk w' G 29 (cPA 11) ∧ Blk w' g 35 (mkA 3 11) ∧ Blk w' w5.heap.size 41 ztA := by
    rintro _ rfl
    exact ⟨below_row (bal b5 _) sz1 _, (C5.alloc _).row _, (M5.alloc _).row_far (by omega) _, T5.row_far (by omega) _⟩
  go_wp2_with (with_reducible refine wpl_st (C5.alloc (.cells ztA 41)) (by with_unfolding_all rfl) 29 _ _ (by with_unfolding_all rfl) (cPA 11) (by with_unfolding_all rfl) (by with_unfolding_all rfl) (by with_unfolding_all rfl) (by with_unfolding_all rfl) ho3 ?_; refine Classical.byContradiction fun hno => ?_)
  refine hno ?_
  clear hno ho3
  intro w6 e6
  obtain ⟨b6, C6, M6, T6⟩ := D5 w6 e6
  clear e6 D5 C5 M5 T5
  generalize w5.heap.size = H at *
  have D6 : ∀ w', w' = w6.setRow H ztA → Below w.heap.size w w' ∧ Blk w' G 29 (cPA 11) ∧ Blk w' g 35 (mkA 3 11) := by
    rintro _ rfl
    exact ⟨below_row b6 (by omega) _, C6.row_far (by omega) _, M6.row_far (by omega) _⟩
  go_wp2_with (with_reducible refine wpl_st T6 (by with_unfolding_all rfl) 41 _ _ (by with_unfolding_all rfl) ztA (by with_unfolding_all rfl) (by with_unfolding_all rfl) (by with_unfolding_all rfl) (by with_unfolding_all rfl) ho4 ?_; refine Classical.byContradiction fun hno => ?_)
  refine hno ?_
  clear hno ho4
  intro w7 e7
  obtain ⟨b7, C7, M7⟩ := D6 w7 e7
  clear e7 D6 C6 M6 T6
  have k0 : w7.cell? ⟨g, 0, none⟩ = some (.int .i64 3) := M7.cell 0
  have k1 : w7.cell? ⟨g, 1, none⟩ = some (.int .i64 11) := M7.cell 1
  go_wp2_with (with_reducible refine wpl_ldg C7 (by with_unfolding_all rfl) 29 _ (by with_unfolding_all rfl) (by with_unfolding_all rfl) _ Tryd.underlying29 (by with_unfolding_all rfl) (by with_unfolding_all rfl) ?_)
  refine (rightP_ok 11 (by decide) (by decide) w7 (Utf8Tabs_below hT b7)).mono ?_
  rintro e w8 ⟨rfl, d8⟩
  go_wp2
  go_ret
  exact ⟨rfl, bt b7 d8⟩
end Go.Proofs.YtbggohdpaodkeaaDoor
