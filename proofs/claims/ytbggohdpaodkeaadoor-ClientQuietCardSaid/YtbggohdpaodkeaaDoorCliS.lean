/- send, as 'awake' calls it. -/
import Derived.Test.YtbggohdpaodkeaaDoorCliV
namespace Go.Proofs.YtbggohdpaodkeaaDoor
open Go.RowKit
attribute [local go_sem] ByteArray.mk_append_mk ByteArray.extract_mk
attribute [local go_sem ↓] Go.wp_at_zero Go.wp_at_succ
/-- a message of a kind, from a node -/
abbrev mkA (k f : Int) : Array Value := #[.int .i64 k, .int .i64 f, .int .i64 0, .int .i64 0, .int .i64 0, .int .i64 0, .int .i64 0, .int .i64 0, .int .i64 0, .int .i64 0, .int .i64 0, .int .i64 0, .string ⟨#[]⟩, .int .i64 0, .int .i64 0, .int .i64 0, .string ⟨#[]⟩, .string ⟨#[]⟩, .bool false, .string ⟨#[]⟩, .int .i64 0, .int .i64 0, .int .i64 0, .string ⟨#[]⟩, .int .i64 0, .int .i64 0, .int .i64 0, .int .i64 0, .int .i64 0, .bool false, .string ⟨#[]⟩, .slice none 0 0, .string ⟨#[]⟩, .bool false, .slice none 0 0, .slice none 0 0]
set_option maxHeartbeats 800000 in
set_option maxRecDepth 100000 in
theorem send_ok (w : World) (hT : Go.Lib.Utf8Tabs 0 1 w) : Calls Tryd.prog 15 #[.agg (cPA 11)] w fun e w' => ∃ g, e = .returned (.slice (some ⟨g, 0, none⟩) 1 1) ∧ w.heap.size ≤ g ∧ Blk w' g 35 (mkA 3 11) ∧ Below w.heap.size w w' := by
  have B2 : Blk ((w.alloc (.cells (cPA 11) 29)).alloc (.cells (mkA 0 0) 35)) (w.heap.size + 1) 35 (mkA 0 0) := Blk.new' _ _ _ _ (by simp)
  have D : ∀ w', w' = ((w.alloc (.cells (cPA 11) 29)).alloc (.cells (mkA 0 0) 35)).setRow (w.heap.size + 1) (mkA 0 11) → Below w.heap.size w w' ∧ Blk w' w.heap.size 29 (cPA 11) ∧ Blk w' (w.heap.size + 1) 35 (mkA 0 11) := by
    rintro _ rfl
    exact ⟨below_row (bal (bal (b0 w) _) _) (by omega) _, ((Blk.new w _ _).alloc _).row_far (by omega) _, B2.row _⟩
  go_enter Tryd.func15, Tryd.ntmps15
  have h1 : (mkA 0 11).size = (mkA 0 0).size := (by with_unfolding_all rfl)
  have h2 : (Tryd.prog.info? 35).map (·.size) = some (mkA 0 11).size := (by with_unfolding_all rfl)
  have h3 : (mkA 0 11).toList.all (·.oneCell') = true := (by with_unfolding_all rfl)
  go_wp2_with (with_reducible refine wpl_st B2 (by with_unfolding_all rfl) 35 _ _ (by with_unfolding_all rfl) (mkA 0 11) (by with_unfolding_all rfl) (by with_unfolding_all rfl) h1 h2 h3 ?_; refine Classical.byContradiction fun hno => ?_)
  refine hno ?_
  clear hno h1 h2 h3
  intro w1 e1
  obtain ⟨b1, C1, C2⟩ := D w1 e1
  clear e1
  have c2 : w1.cell? ⟨w.heap.size, 2, none⟩ = some (.slice none 0 0) := C1.cell 2
  have c7 : w1.cell? ⟨w.heap.size, 7, none⟩ = some (.string ⟨#[97]⟩) := C1.cell 7
  go_wp2_with fail
  refine (find_nil w1 (Utf8Tabs_below hT b1)).mono ?_
  rintro e w2 ⟨rfl, d2⟩
  have E1 := C1.keep d2
  have E2 := C2.keep d2
  have b2 := bt b1 d2
  clear c2 c7 C1 C2 D B2
  have sz2 : w.heap.size + 1 < w2.heap.size := E2.lt
  have B3 : Blk (w2.alloc (.cells zpA 59)) w2.heap.size 59 zpA := Blk.new w2 _ _
  have D3 : ∀ w3, w3 = (w2.alloc (.cells zpA 59)).setRow w2.heap.size zpA → Below w.heap.size w w3 ∧ Blk w3 w.heap.size 29 (cPA 11) ∧ Blk w3 (w.heap.size + 1) 35 (mkA 0 11) := by
    rintro _ rfl
    exact ⟨below_row (bal b2 _) (by omega) _, (E1.alloc _).row_far (by omega) _, (E2.alloc _).row_far (by omega) _⟩
  go_wp2_with (first | (with_reducible refine wpl_st B3 (by with_unfolding_all rfl) 59 _ _ (by with_unfolding_all rfl) zpA (by with_unfolding_all rfl) (by with_unfolding_all rfl) (by with_unfolding_all rfl) (by with_unfolding_all rfl) (by with_unfolding_all rfl) ?_; refine Classical.byContradiction fun hno => ?_) | fail)
  refine hno ?_
  clear hno
  intro w3 e3
  obtain ⟨b3, F1, F2⟩ := D3 w3 e3
  clear e3 D3 B3 E1 E2
  have c16 : w3.cell? ⟨w.heap.size, 16, none⟩ = some (.bool false) := F1.cell 16
  have c0 : w3.cell? ⟨w.heap.size + 1, 0, none⟩ = some (.int .i64 0) := F2.cell 0
  have f0 := F2.frozen 0
  have K : Blk (w3.setCell ⟨w.heap.size + 1, 0, none⟩ (.int .i64 3)) (w.heap.size + 1) 35 (mkA 3 11) := F2.set 0 _
  have b4 : Below w.heap.size w (w3.setCell ⟨w.heap.size + 1, 0, none⟩ (.int .i64 3)) := bst b3 (by show _ ≤ w.heap.size + 1; omega) _
  go_wp2_with (first | (with_reducible refine wpl_ld K (by with_unfolding_all rfl) 35 _ (by with_unfolding_all rfl) (by with_unfolding_all rfl) _ Tryd.underlying35 (by with_unfolding_all rfl) (by with_unfolding_all rfl) ?_) | fail)
  go_ret
  exact ⟨_, rfl, b3.size, Blk.new' _ _ _ _ (by simp), bal b4 _⟩
end Go.Proofs.YtbggohdpaodkeaaDoor
