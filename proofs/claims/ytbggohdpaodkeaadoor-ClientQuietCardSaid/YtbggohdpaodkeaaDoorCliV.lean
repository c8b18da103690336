/- atlas.Find of no places. -/
import Derived.Test.YtbggohdpaodkeaaDoorCliQ
namespace Go.Proofs.YtbggohdpaodkeaaDoor
open Go.RowKit
attribute [local go_sem] ByteArray.mk_append_mk ByteArray.extract_mk
attribute [local go_sem ↓] Go.wp_at_zero Go.wp_at_succ
theorem atright_nil (w : World) (hT : Go.Lib.Utf8Tabs 0 1 w) : Calls Tryd.prog 30 #[.slice none 0 0] w fun e w' => e = .returned (.bool false) ∧ Below w.heap.size w w' := by
  refine (atright_sb none 0 [] (by decide) (by decide) (by intro x hx; cases hx) w (fun h => absurd h (by decide)) hT).mono ?_
  rintro e w' ⟨b, rfl, hq, hb⟩
  cases b
  · exact ⟨rfl, hb⟩
  · exact absurd (hq rfl) (by decide)
set_option maxHeartbeats 800000 in
theorem find_nil (w : World) (hT : Go.Lib.Utf8Tabs 0 1 w) : Calls Tryd.prog 25 #[.slice none 0 0, .string ⟨#[97]⟩] w fun e w' => e = .returned (.tuple #[.agg zpA, .bool false]) ∧ Below w.heap.size w w' := by
  have B1 : Blk (w.alloc (.cells zpA 59)) w.heap.size 59 zpA := Blk.new w _ _
  have hb : Below w.heap.size w (w.alloc (.cells zpA 59)) := bal (b0 w) _
  go_enter Tryd.func25, Tryd.ntmps25
  go_wp2_with fail
  generalize (w.alloc (.cells zpA 59)) = W at *
  refine (atright_nil W (Utf8Tabs_below hT hb)).mono ?_
  rintro e w1 ⟨rfl, d1⟩
  have C1 := B1.keep d1
  have b1 := bt hb d1
  have D : ∀ w3, w3 = w1.setRow w.heap.size zpA → Below w.heap.size w w3 ∧ Blk w3 w.heap.size 59 zpA := by
    rintro _ rfl
    exact ⟨below_row b1 (Nat.le_refl _) _, C1.row _⟩
  go_wp2_with (first | (with_reducible refine wpl_st C1 (by with_unfolding_all rfl) 59 _ _ (by with_unfolding_all rfl) zpA (by with_unfolding_all rfl) (by with_unfolding_all rfl) (by with_unfolding_all rfl) (by with_unfolding_all rfl) (by with_unfolding_all rfl) ?_; intro w3 e3; obtain ⟨b3, F3⟩ := D w3 e3; clear e3) | fail)
  exact bodyPost_ret (res2c F3 rfl rfl _ rfl _ Tryd.underlying59 rfl rfl) rfl ⟨rfl, b3⟩
end Go.Proofs.YtbggohdpaodkeaaDoor
