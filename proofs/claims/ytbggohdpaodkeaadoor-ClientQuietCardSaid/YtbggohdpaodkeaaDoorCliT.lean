/- client.Tick of a client that has nothing pending. -/
import Derived.Test.YtbggohdpaodkeaaDoorCliM
namespace Go.Proofs.YtbggohdpaodkeaaDoor
open Go.RowKit
attribute [local go_sem] ByteArray.mk_append_mk ByteArray.extract_mk
attribute [local go_sem ↓] Go.wp_at_zero Go.wp_at_succ
set_option maxHeartbeats 3200000 in
set_option maxRecDepth 100000 in
theorem tick_any (c : Cli) (ps : List Pl) (ls : List Int) (h0 : c.req.rq = 0) (w : World) (hC : CliIn c ps ls w) :
    Calls Tryd.prog 7 #[cliV c] w fun e w' => e = .returned (.tuple #[cliV c, .slice none 0 0, .agg ztA]) ∧ Below w.heap.size w w' := by
  go_enter Tryd.func7, Tryd.ntmps7
  have B1 : Blk (((w.alloc (.cells (cliA c) 29)).alloc (.cells zcA 29)).alloc (.cells ztA 41)) w.heap.size 29 (cliA c) := ((Blk.new w _ _).alloc _).alloc _
  have B2 : Blk (((w.alloc (.cells (cliA c) 29)).alloc (.cells zcA 29)).alloc (.cells ztA 41)) (w.heap.size + 1) 29 zcA := (Blk.new' _ _ _ _ (by simp)).alloc _
  have B3 : Blk (((w.alloc (.cells (cliA c) 29)).alloc (.cells zcA 29)).alloc (.cells ztA 41)) (w.heap.size + 1 + 1) 41 ztA := Blk.new' _ _ _ _ (by simp)
  have hbW : Below w.heap.size w (((w.alloc (.cells (cliA c) 29)).alloc (.cells zcA 29)).alloc (.cells ztA 41)) := bal (bal (bal (b0 w) _) _) _
  go_wp2_with (with_reducible refine wpl_ld B1 (by with_unfolding_all rfl) _ _ (by with_unfolding_all rfl) (by with_unfolding_all rfl) _ Tryd.underlying29 (by with_unfolding_all rfl) (by with_unfolding_all rfl) ?_)
  generalize (((w.alloc (.cells (cliA c) 29)).alloc (.cells zcA 29)).alloc (.cells ztA 41)) = W at *
  refine (cliright_sb c ps ls h0 W (hC.keep hbW)).mono ?_
  rintro e w1 ⟨q, rfl, d1⟩
  have hb1 := bt hbW d1
  have C1 := B1.keep d1
  have C2 := B2.keep d1
  have C3 := B3.keep d1
  clear B1 B2 B3
  have a5 : w1.cell? ⟨w.heap.size, 5, none⟩ = some (.int .i64 0) := by rw [← h0]; exact C1.cell 5
  have D : ∀ w', w' = w1.setRow (w.heap.size + 1) (cliA c) → Below w.heap.size w w' ∧ Blk w' (w.heap.size + 1) 29 (cliA c) ∧ Blk w' (w.heap.size + 1 + 1) 41 ztA := by
    rintro _ rfl
    exact ⟨below_row hb1 (by omega) _, C2.row _, C3.row_far (by omega) _⟩
  have E : ∀ w' w'', Below w.heap.size w w' → Blk w' (w.heap.size + 1) 29 (cliA c) → Blk w' (w.heap.size + 1 + 1) 41 ztA → w'' = w'.setRow (w.heap.size + 1 + 1) ztA → Below w.heap.size w w'' ∧ Blk w'' (w.heap.size + 1) 29 (cliA c) ∧ Blk w'' (w.heap.size + 1 + 1) 41 ztA := by
    rintro w' _ x1 x2 x3 rfl
    exact ⟨below_row x1 (by omega) _, x2.row_far (by omega) _, x3.row _⟩
  cases q
  all_goals
    go_wp2_with (first | (with_reducible refine wpl_ld C1 (by with_unfolding_all rfl) _ _ (by with_unfolding_all rfl) (by with_unfolding_all rfl) _ Tryd.underlying29 (by with_unfolding_all rfl) (by with_unfolding_all rfl) ?_) | (with_reducible refine wpl_st C2 (by with_unfolding_all rfl) _ _ _ (by with_unfolding_all rfl) (cliA c) (by with_unfolding_all rfl) (by with_unfolding_all rfl) (by with_unfolding_all rfl) (by with_unfolding_all rfl) (by with_unfolding_all rfl) ?_; intro w2 e2; obtain ⟨b2, F2, F3⟩ := D w2 e2; clear e2) | (with_reducible refine wpl_st F3 (by with_unfolding_all rfl) _ _ _ (by with_unfolding_all rfl) ztA (by with_unfolding_all rfl) (by with_unfolding_all rfl) (by with_unfolding_all rfl) (by with_unfolding_all rfl) (by with_unfolding_all rfl) ?_; intro w3 e3; obtain ⟨b3, H2, H3⟩ := E w2 w3 b2 F2 F3 e3; clear e3) | fail)
    exact bodyPost_ret (res3 H2 H3 rfl rfl rfl _ rfl _ _ Tryd.underlying29 rfl rfl Tryd.underlying41 rfl rfl) rfl ⟨rfl, b3⟩
end Go.Proofs.YtbggohdpaodkeaaDoor
