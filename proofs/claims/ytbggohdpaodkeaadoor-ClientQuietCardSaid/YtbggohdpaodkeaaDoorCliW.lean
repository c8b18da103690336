/- The first walks over clients and messages: are they small, is a client the document's? -/
import Derived.Test.YtbggohdpaodkeaaDoorCli
import Derived.Test.YtbggohdpaodkeaaDoorProg
import Derived.Test.YtbggohdpaodkeaaDoorBase
import Derived.Deep.DrawnRows
namespace Go.Proofs.YtbggohdpaodkeaaDoor
open Go.RowKit
attribute [local go_sem] ByteArray.mk_append_mk ByteArray.extract_mk
attribute [local go_sem ↓] Go.wp_at_zero Go.wp_at_succ
def smallB (c : Cli) : Bool := decide (c.pn ≤ 40) && decide (c.ln ≤ 40)
def smallM (m : Ms) : Bool := decide (m.ans.itn ≤ 40) && decide (m.pn ≤ 40) && decide (m.mn ≤ 40) && decide (m.text.length ≤ 8192)
set_option maxHeartbeats 800000 in
set_option maxRecDepth 100000 in
theorem small_any (c : Cli) (w : World) : Calls Tryd.prog 4 #[cliV c] w fun e w' => e = .returned (.bool (smallB c)) ∧ Below w.heap.size w w' := by
  by_cases h1 : (c.pn : Int) ≤ 40
  case pos =>
    by_cases h2 : (c.ln : Int) ≤ 40
    case pos =>
      go_enter Tryd.func4, Tryd.ntmps4
      go_wp2
      go_ret
      exact ⟨by simp [smallB]; omega, bal (b0 w) _⟩
    case neg =>
      go_enter Tryd.func4, Tryd.ntmps4
      go_wp2
      go_ret
      exact ⟨by simp [smallB]; omega, bal (b0 w) _⟩
  case neg =>
    go_enter Tryd.func4, Tryd.ntmps4
    go_wp2
    go_ret
    exact ⟨by simp [smallB]; omega, bal (b0 w) _⟩
set_option maxHeartbeats 800000 in
set_option maxRecDepth 100000 in
theorem smallmsg_any (m : Ms) (w : World) : Calls Tryd.prog 5 #[msV m] w fun e w' => e = .returned (.bool (smallM m)) ∧ Below w.heap.size w w' := by
  by_cases h1 : (m.ans.itn : Int) ≤ 40
  case pos =>
    by_cases h2 : (m.pn : Int) ≤ 40
    case pos =>
      by_cases h3 : (m.mn : Int) ≤ 40
      case pos =>
        by_cases h4 : (m.text.length : Int) ≤ 8192
        all_goals
          go_enter Tryd.func5, Tryd.ntmps5
          go_wp2
          go_ret
          exact ⟨by simp [smallM]; omega, bal (b0 w) _⟩
      case neg =>
        go_enter Tryd.func5, Tryd.ntmps5
        go_wp2
        go_ret
        exact ⟨by simp [smallM]; omega, bal (b0 w) _⟩
    case neg =>
      go_enter Tryd.func5, Tryd.ntmps5
      go_wp2
      go_ret
      exact ⟨by simp [smallM]; omega, bal (b0 w) _⟩
  case neg =>
    go_enter Tryd.func5, Tryd.ntmps5
    go_wp2
    go_ret
    exact ⟨by simp [smallM]; omega, bal (b0 w) _⟩
set_option maxHeartbeats 800000 in
set_option maxRecDepth 100000 in
theorem ref20_any (c : Cli) (w : World) : Calls Tryd.prog 10 #[cliV c] w fun e w' => e = .returned (cliV c) ∧ Below w.heap.size w w' := by
  have G1 : Blk (w.alloc (.cells (cliA c) 29)) w.heap.size 29 (cliA c) := Blk.new w _ _
  have G2 : Blk ((w.alloc (.cells (cliA c) 29)).alloc (.cells zcA 46)) (w.heap.size + 1) 46 zcA := Blk.new' _ _ _ _ (by simp)
  have G1' := G1.alloc (.cells zcA 46)
  have hb : ∀ w', w' = ((w.alloc (.cells (cliA c) 29)).alloc (.cells zcA 46)).setRow (w.heap.size + 1) (cliA c) → Below w.heap.size w w' ∧ Blk w' (w.heap.size + 1) 46 (cliA c) := by
    rintro _ rfl
    exact ⟨below_row (bal (bal (b0 w) _) _) (Nat.le_succ _) _, G2.row _⟩
  go_enter Tryd.func10, Tryd.ntmps10
  go_wp2_with (first | (with_reducible refine wpl_ld G1' (by with_unfolding_all rfl) _ _ (by with_unfolding_all rfl) (by with_unfolding_all rfl) _ Tryd.underlying29 (by with_unfolding_all rfl) (by with_unfolding_all rfl) ?_; with_reducible refine wpl_st G2 (by with_unfolding_all rfl) _ _ _ (by with_unfolding_all rfl) (cliA c) (by with_unfolding_all rfl) (by with_unfolding_all rfl) (by with_unfolding_all rfl) (by with_unfolding_all rfl) (by with_unfolding_all rfl) ?_; intro w1 e1; obtain ⟨b1, B1⟩ := hb w1 e1) | fail)
  exact bodyPost_ret (res_row B1 rfl rfl _ Tryd.underlying46 rfl rfl) rfl ⟨rfl, b1⟩
end Go.Proofs.YtbggohdpaodkeaaDoor
