/- pend and Ask, as 'awake' calls them.  -/
import Derived.Test.YtbggohdpaodkeaaDoorCliJ
import Derived.Test.YtbggohdpaodkeaaDoorMid
namespace Go.Proofs.YtbggohdpaodkeaaDoor
open Go.RowKit
attribute [local go_sem] ByteArray.mk_append_mk ByteArray.extract_mk
attribute [local go_sem ↓] Go.wp_at_zero Go.wp_at_succ
abbrev rqI : Array Value := #[.int .i64 0, .int .i64 0, .int .i64 4, .string ⟨#[97]⟩, .string ⟨#[]⟩, .bool false, .string ⟨#[]⟩, .int .i64 0, .int .i64 0, .int .i64 0, .string ⟨#[]⟩, .int .i64 0]
abbrev c1A : Array Value := #[.int .i64 1, .int .i64 1, .slice none 0 0, .slice none 0 0, .int .i64 1, .int .i64 1, .int .i64 4, .string ⟨#[97]⟩, .string ⟨#[]⟩, .bool false, .string ⟨#[]⟩, .int .i64 0, .int .i64 0, .int .i64 0, .string ⟨#[]⟩, .int .i64 0, .bool false, .int .i64 0]
set_option maxHeartbeats 800000 in
set_option maxRecDepth 100000 in
theorem pend_ok (w : World) (hT : Go.Lib.Utf8Tabs 0 1 w) : Calls Tryd.prog 22 #[.agg c0A, .agg rqI, .bool false] w fun e w' => e = .returned (.tuple #[.agg (cPA 12), .int .i64 0]) ∧ Below w.heap.size w w' := by
  have B1 : Blk (((w.alloc (.cells c0A 29)).alloc (.cells rqI 27)).alloc (.cells zcA 29)) w.heap.size 29 c0A := ((Blk.new w _ _).alloc _).alloc _
  have B4 : Blk ((((w.alloc (.cells c0A 29)).alloc (.cells rqI 27)).alloc (.cells zcA 29)).alloc (.cells zcA 29)) (w.heap.size + 1 + 1 + 1) 29 zcA := Blk.new' _ _ _ _ (by simp)
  have D : ∀ w', w' = ((((w.alloc (.cells c0A 29)).alloc (.cells rqI 27)).alloc (.cells zcA 29)).alloc (.cells zcA 29)).setRow (w.heap.size + 1 + 1 + 1) c0A → Below w.heap.size w w' ∧ Blk w' w.heap.size 29 c0A ∧ Blk w' (w.heap.size + 1) 27 rqI ∧ Blk w' (w.heap.size + 1 + 1) 29 zcA ∧ Blk w' (w.heap.size + 1 + 1 + 1) 29 c0A := by
    rintro _ rfl
    exact ⟨below_row (bal (bal (bal (bal (b0 w) _) _) _) _) (by omega) _, (B1.alloc _).row_far (by omega) _, ((((Blk.new' _ _ _ _ (by simp)).alloc _).alloc _)).row_far (by omega) _, ((Blk.new' _ _ _ _ (by simp)).alloc _).row_far (by omega) _, B4.row _⟩
  go_enter Tryd.func22, Tryd.ntmps22
  go_wp2_with (first | (with_reducible refine wpl_ld B1 (by with_unfolding_all rfl) 29 _ (by with_unfolding_all rfl) (by with_unfolding_all rfl) _ Tryd.underlying29 (by with_unfolding_all rfl) (by with_unfolding_all rfl) ?_) | (with_reducible refine wpl_st B4 (by with_unfolding_all rfl) 29 _ _ (by with_unfolding_all rfl) c0A (by with_unfolding_all rfl) (by with_unfolding_all rfl) (by with_unfolding_all rfl) (by with_unfolding_all rfl) (by with_unfolding_all rfl) ?_; refine Classical.byContradiction fun hno => ?_) | fail)
  refine hno ?_
  clear hno
  intro w1 e1
  obtain ⟨b1, C1, C2, C3, C4⟩ := D w1 e1
  clear e1
  have a0 : w1.cell? ⟨w.heap.size, 0, none⟩ = some (.int .i64 1) := C1.cell 0
  have a1 : w1.cell? ⟨w.heap.size, 1, none⟩ = some (.int .i64 1) := C1.cell 1
  have r0 : w1.cell? ⟨w.heap.size + 1, 0, none⟩ = some (.int .i64 0) := C2.cell 0
  have r1 : w1.cell? ⟨w.heap.size + 1, 1, none⟩ = some (.int .i64 0) := C2.cell 1
  have f0 := C2.frozen 0
  have f1 := C2.frozen 1
  go_wp2_with fail
  go_region
  all_goals
    first
      | (obtain ⟨w2, hw2⟩ : ∃ w2, w2 = ((w1.setCell ⟨w.heap.size + 1, 0, none⟩ (.int .i64 1)).setCell ⟨w.heap.size + 1, 1, none⟩ (.int .i64 1)).drew := ⟨_, rfl⟩
         rw [← hw2]
         have E2 : Blk w2 (w.heap.size + 1) 27 rqP := by rw [hw2]; exact ((C2.set 0 _).set 1 _).drew
         have E1 : Blk w2 w.heap.size 29 c0A := by rw [hw2]; exact ((C1.far (by show _ ≠ w.heap.size + 1; omega) _).far (by show _ ≠ w.heap.size + 1; omega) _).drew
         have E3 : Blk w2 (w.heap.size + 1 + 1) 29 zcA := by rw [hw2]; exact ((C3.far (by show _ ≠ w.heap.size + 1; omega) _).far (by show _ ≠ w.heap.size + 1; omega) _).drew
         have E4 : Blk w2 (w.heap.size + 1 + 1 + 1) 29 c0A := by rw [hw2]; exact ((C4.far (by show _ ≠ w.heap.size + 1; omega) _).far (by show _ ≠ w.heap.size + 1; omega) _).drew
         have hb2 : Below w.heap.size w w2 := by rw [hw2]; exact (bst (bst b1 (by show _ ≤ w.heap.size + 1; omega) _) (by show _ ≤ w.heap.size + 1; omega) _).drew)
      | (obtain ⟨w2, hw2⟩ : ∃ w2, w2 = ((w1.setCell ⟨w.heap.size + 1, 1, none⟩ (.int .i64 1)).setCell ⟨w.heap.size + 1, 0, none⟩ (.int .i64 1)).drew := ⟨_, rfl⟩
         rw [← hw2]
         have E2 : Blk w2 (w.heap.size + 1) 27 rqP := by rw [hw2]; exact ((C2.set 1 _).set 0 _).drew
         have E1 : Blk w2 w.heap.size 29 c0A := by rw [hw2]; exact ((C1.far (by show _ ≠ w.heap.size + 1; omega) _).far (by show _ ≠ w.heap.size + 1; omega) _).drew
         have E3 : Blk w2 (w.heap.size + 1 + 1) 29 zcA := by rw [hw2]; exact ((C3.far (by show _ ≠ w.heap.size + 1; omega) _).far (by show _ ≠ w.heap.size + 1; omega) _).drew
         have E4 : Blk w2 (w.heap.size + 1 + 1 + 1) 29 c0A := by rw [hw2]; exact ((C4.far (by show _ ≠ w.heap.size + 1; omega) _).far (by show _ ≠ w.heap.size + 1; omega) _).drew
         have hb2 : Below w.heap.size w w2 := by rw [hw2]; exact (bst (bst b1 (by show _ ≤ w.heap.size + 1; omega) _) (by show _ ≤ w.heap.size + 1; omega) _).drew)
    clear hw2 C1 C2 C3 C4 a0 a1 r0 r1 f0 f1 B1 B4 D
    have hle : 4 + rqP.size ≤ c0A.size := by decide
    have hone : rqP.all (·.oneCell') = true := by first | decide | (simp [Value.oneCell']; done) | exact all_oneCell_toArray (by simp [Value.oneCell'])
    have D3 : ∀ w3, w3 = w2.setCells (w.heap.size + 1 + 1 + 1) 4 rqP.toList → Below w.heap.size w w3 ∧ Blk w3 w.heap.size 29 c0A ∧ Blk w3 (w.heap.size + 1 + 1) 29 zcA ∧ Blk w3 (w.heap.size + 1 + 1 + 1) 29 c1A := by
      rintro _ rfl
      exact ⟨below_setCells _ (by omega) _ _ hb2, E1.setCells_far _ (by omega) _ _, E3.setCells_far _ (by omega) _ _, E4.setCells _ _ _ _⟩
    go_wp2_with (first | (with_reducible refine wpl_ld E2 (by with_unfolding_all rfl) 27 _ (by with_unfolding_all rfl) (by with_unfolding_all rfl) _ Tryd.underlying27 (by with_unfolding_all rfl) (by with_unfolding_all rfl) ?_) | (with_reducible refine wpl_stm E4 (by with_unfolding_all rfl) 27 _ _ (by with_unfolding_all rfl) 4 rqP (by with_unfolding_all rfl) (by with_unfolding_all rfl) hle (by with_unfolding_all rfl) hone ?_; refine Classical.byContradiction fun hno => ?_) | fail)
    refine hno ?_
    clear hno
    intro w3 e3
    obtain ⟨b3, G1, G3, G4⟩ := D3 w3 e3
    clear e3 D3 E1 E2 E3 E4 hb2
    have p16 : w3.cell? ⟨w.heap.size + 1 + 1 + 1, 16, none⟩ = some (.bool false) := G4.cell 16
    have p17 : w3.cell? ⟨w.heap.size + 1 + 1 + 1, 17, none⟩ = some (.int .i64 0) := G4.cell 17
    have p1 : w3.cell? ⟨w.heap.size + 1 + 1 + 1, 1, none⟩ = some (.int .i64 1) := G4.cell 1
    have q16 := G4.frozen 16
    have q17 := G4.frozen 17
    have q1 := G4.frozen 1
    have K4 : Blk (((w3.setCell ⟨w.heap.size + 1 + 1 + 1, 16, none⟩ (.bool false)).setCell ⟨w.heap.size + 1 + 1 + 1, 17, none⟩ (.int .i64 12)).setCell ⟨w.heap.size + 1 + 1 + 1, 1, none⟩ (.int .i64 2)) (w.heap.size + 1 + 1 + 1) 29 (cPA 12) := ((G4.set 16 _).set 17 _).set 1 _
    have K3 : Blk (((w3.setCell ⟨w.heap.size + 1 + 1 + 1, 16, none⟩ (.bool false)).setCell ⟨w.heap.size + 1 + 1 + 1, 17, none⟩ (.int .i64 12)).setCell ⟨w.heap.size + 1 + 1 + 1, 1, none⟩ (.int .i64 2)) (w.heap.size + 1 + 1) 29 zcA := ((G3.far (by show _ ≠ w.heap.size + 1 + 1 + 1; omega) _).far (by show _ ≠ w.heap.size + 1 + 1 + 1; omega) _).far (by show _ ≠ w.heap.size + 1 + 1 + 1; omega) _
    have b5 : Below w.heap.size w (((w3.setCell ⟨w.heap.size + 1 + 1 + 1, 16, none⟩ (.bool false)).setCell ⟨w.heap.size + 1 + 1 + 1, 17, none⟩ (.int .i64 12)).setCell ⟨w.heap.size + 1 + 1 + 1, 1, none⟩ (.int .i64 2)) := bst (bst (bst b3 (by show _ ≤ w.heap.size + 1 + 1 + 1; omega) _) (by show _ ≤ w.heap.size + 1 + 1 + 1; omega) _) (by show _ ≤ w.heap.size + 1 + 1 + 1; omega) _
    go_wp2_with (first | (with_reducible refine wpl_ld K4 (by with_unfolding_all rfl) 29 _ (by with_unfolding_all rfl) (by with_unfolding_all rfl) _ Tryd.underlying29 (by with_unfolding_all rfl) (by with_unfolding_all rfl) ?_) | fail)
    clear p16 p17 p1 q16 q17 q1 G1 G3 G4 b3
    generalize (((w3.setCell ⟨w.heap.size + 1 + 1 + 1, 16, none⟩ (.bool false)).setCell ⟨w.heap.size + 1 + 1 + 1, 17, none⟩ (.int .i64 12)).setCell ⟨w.heap.size + 1 + 1 + 1, 1, none⟩ (.int .i64 2)) = w5 at K4 K3 b5 ⊢
    refine (rightP_ok 12 (by decide) (by decide) w5 (Utf8Tabs_below hT b5)).mono ?_
    rintro e w6 ⟨rfl, d6⟩
    have L4 := K4.keep d6
    have L3 := K3.keep d6
    have b6 : Below w.heap.size w w6 := bt b5 d6
    have D6 : ∀ w7, w7 = w6.setRow (w.heap.size + 1 + 1) (cPA 12) → Below w.heap.size w w7 ∧ Blk w7 (w.heap.size + 1 + 1) 29 (cPA 12) := by
      rintro _ rfl
      exact ⟨below_row b6 (by omega) _, L3.row _⟩
    clear K4 K3
    go_wp2_with (first | (with_reducible refine wpl_ld L4 (by with_unfolding_all rfl) 29 _ (by with_unfolding_all rfl) (by with_unfolding_all rfl) _ Tryd.underlying29 (by with_unfolding_all rfl) (by with_unfolding_all rfl) ?_) | (with_reducible refine wpl_st L3 (by with_unfolding_all rfl) 29 _ _ (by with_unfolding_all rfl) (cPA 12) (by with_unfolding_all rfl) (by with_unfolding_all rfl) (by with_unfolding_all rfl) (by with_unfolding_all rfl) (by with_unfolding_all rfl) ?_; intro w7 e7; obtain ⟨b7, F7⟩ := D6 w7 e7; clear e7) | fail)
    exact bodyPost_ret (res2c F7 rfl rfl _ rfl _ Tryd.underlying29 rfl rfl) rfl ⟨rfl, b7⟩
end Go.Proofs.YtbggohdpaodkeaaDoor
