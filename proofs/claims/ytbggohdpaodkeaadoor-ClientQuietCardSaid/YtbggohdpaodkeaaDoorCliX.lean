/- Tick, as 'awake' calls it. -/
import Derived.Test.YtbggohdpaodkeaaDoorCliS
import Derived.Test.YtbggohdpaodkeaaDoorReg
namespace Go.Proofs.YtbggohdpaodkeaaDoor
open Go.RowKit
attribute [local go_sem] ByteArray.mk_append_mk ByteArray.extract_mk
attribute [local go_sem ↓] Go.wp_at_zero Go.wp_at_succ
set_option maxHeartbeats 800000 in
set_option maxRecDepth 100000 in
theorem tick_ok (w : World) (hT : Go.Lib.Utf8Tabs 0 1 w) : Calls Tryd.prog 7 #[.agg (cPA 12)] w fun e w' => ∃ g, e = .returned (.tuple #[.agg (cPA 11), .slice (some ⟨g, 0, none⟩) 1 1, .agg ztA]) ∧ w.heap.size ≤ g ∧ Blk w' g 35 (mkA 3 11) ∧ Below w.heap.size w w' := by
  have B1 : Blk (((w.alloc (.cells (cPA 12) 29)).alloc (.cells zcA 29)).alloc (.cells ztA 41)) w.heap.size 29 (cPA 12) := ((Blk.new w _ _).alloc _).alloc _
  have B2 : Blk (((w.alloc (.cells (cPA 12) 29)).alloc (.cells zcA 29)).alloc (.cells ztA 41)) (w.heap.size + 1) 29 zcA := (Blk.new' _ _ _ _ (by simp)).alloc _
  have B3 : Blk (((w.alloc (.cells (cPA 12) 29)).alloc (.cells zcA 29)).alloc (.cells ztA 41)) (w.heap.size + 1 + 1) 41 ztA := Blk.new' _ _ _ _ (by simp)
  have hb : Below w.heap.size w (((w.alloc (.cells (cPA 12) 29)).alloc (.cells zcA 29)).alloc (.cells ztA 41)) := bal (bal (bal (b0 w) _) _) _
  go_enter Tryd.func7, Tryd.ntmps7
  go_wp2_with (with_reducible refine wpl_ld B1 (by with_unfolding_all rfl) 29 _ (by with_unfolding_all rfl) (by with_unfolding_all rfl) _ Tryd.underlying29 (by with_unfolding_all rfl) (by with_unfolding_all rfl) ?_)
  generalize (((w.alloc (.cells (cPA 12) 29)).alloc (.cells zcA 29)).alloc (.cells ztA 41)) = W at *
  refine (rightP_ok 12 (by decide) (by decide) W (Utf8Tabs_below hT hb)).mono ?_
  rintro e w1 ⟨rfl, d1⟩
  have C1 := B1.keep d1
  have C2 := B2.keep d1
  have C3 := B3.keep d1
  have b1 := bt hb d1
  clear B1 B2 B3
  have a5 : w1.cell? ⟨w.heap.size, 5, none⟩ = some (.int .i64 1) := C1.cell 5
  have a17 : w1.cell? ⟨w.heap.size, 17, none⟩ = some (.int .i64 12) := C1.cell 17
  have f17 := C1.frozen 17
  go_wp2_with fail
  have E1 : Blk (w1.setCell ⟨w.heap.size, 17, none⟩ (.int .i64 11)) w.heap.size 29 (cPA 11) := C1.set 17 _
  have E2 : Blk (w1.setCell ⟨w.heap.size, 17, none⟩ (.int .i64 11)) (w.heap.size + 1) 29 zcA := C2.far (by show _ ≠ w.heap.size; omega) _
  have E3 : Blk (w1.setCell ⟨w.heap.size, 17, none⟩ (.int .i64 11)) (w.heap.size + 1 + 1) 41 ztA := C3.far (by show _ ≠ w.heap.size; omega) _
  have b2 : Below w.heap.size w (w1.setCell ⟨w.heap.size, 17, none⟩ (.int .i64 11)) := bst b1 (Nat.le_refl _) _
  generalize (w1.setCell ⟨w.heap.size, 17, none⟩ (.int .i64 11)) = w2 at *
  clear C1 C2 C3 a5 a17 f17
  have ho1 : (cPA 11).toList.all (·.oneCell') = true := (by with_unfolding_all rfl)
  have ho2 : ztA.toList.all (·.oneCell') = true := (by with_unfolding_all rfl)
  refine wp_region_held_drew (S := fun w' => Below w.heap.size w w' ∧ Blk w' w.heap.size 29 (cPA 11) ∧ (∃ c, c.size = 18 ∧ Blk w' (w.heap.size + 1) 29 c) ∧ (∃ c, c.size = 24 ∧ Blk w' (w.heap.size + 1 + 1) 41 c)) (by kernel_rfl) ⟨b2.drew, E1.drew, ⟨zcA, rfl, E2.drew⟩, ⟨ztA, rfl, E3.drew⟩⟩ (fun hH => ?_)
  refine wpAnyH_take (i := 0) (v := .agg (cPA 11)) rfl (by kernel_rfl) (by kernel_rfl) (by kernel_rfl) (fun _ _ _ h => h) (yif_ld (by rfl) 29 _ rfl (by rfl) (fun _ h => h.2.1) _ Tryd.underlying29 (by with_unfolding_all rfl) (by with_unfolding_all rfl)) hH ?_
  simp only [Act.put, List.setIfInBounds_toArray, List.set_cons_zero, List.set_cons_succ]
  refine wpAnyH_take (i := 1) (v := .agg (cPA 11)) rfl (by kernel_rfl) (by kernel_rfl) (by kernel_rfl) (fun _ _ _ h => h) (yif_ld (by rfl) 29 _ rfl (by rfl) (fun _ h => h.2.1) _ Tryd.underlying29 (by with_unfolding_all rfl) (by with_unfolding_all rfl)) hH ?_
  simp only [Act.put, List.setIfInBounds_toArray, List.set_cons_zero, List.set_cons_succ]
  refine wpAnyH_take (i := 3) (v := .agg ztA) rfl (by kernel_rfl) (by kernel_rfl) (by kernel_rfl) (fun _ _ _ h => h) (.inl ⟨by rfl, by intro w hS; go_simp⟩) hH ?_
  simp only [Act.put, List.setIfInBounds_toArray, List.set_cons_zero, List.set_cons_succ]
  refine wpAnyH_ready (rs := [2]) (by kernel_rfl) (by simp) ?_
  refine AllReadyH.cons rfl (fun K hK => ?_) AllReadyH.nil
  go_simp
  refine (send_ok w2.drew (Utf8Tabs_below hT b2.drew)).mono ?_
  rintro e w3 ⟨g, rfl, hg, hM, d3⟩
  have b3 : Below w.heap.size w w3 := bt b2.drew d3
  have F1 := E1.drew.keep d3
  have F2 := E2.drew.keep d3
  have F3 := E3.drew.keep d3
  have hg2 : w.heap.size + 1 + 1 < g := Nat.lt_of_lt_of_le E3.lt hg
  clear E1 E2 E3 b2 hH
  refine hK.out _ _ ⟨b3, F1, ⟨zcA, rfl, F2⟩, ⟨ztA, rfl, F3⟩⟩ (fun hH => ?_)
  clear hK K hH
  refine wpAnyH_ready (rs := [4]) (by kernel_rfl) (by simp) ?_
  refine AllReadyH.cons rfl (fun K hK => ?_) AllReadyH.nil
  refine wp_st F2 (by rfl) 29 _ _ rfl (cPA 11) (by rfl) (by rfl) (by rfl) (by with_unfolding_all rfl) ho1 ?_
  intro w4 e4
  have b4 : Below w.heap.size w w4 := by rw [e4]; exact below_row b3 (by omega) _
  have G1 : Blk w4 w.heap.size 29 (cPA 11) := by rw [e4]; exact F1.row_far (by omega) _
  have G2 : Blk w4 (w.heap.size + 1) 29 (cPA 11) := by rw [e4]; exact F2.row _
  have G3 : Blk w4 (w.heap.size + 1 + 1) 41 ztA := by rw [e4]; exact F3.row_far (by omega) _
  have GM : Blk w4 g 35 (mkA 3 11) := by rw [e4]; exact hM.row_far (by omega) _
  clear e4 F1 F2 F3 hM b3
  refine hK.out _ _ ⟨b4, G1, ⟨_, rfl, G2⟩, ⟨ztA, rfl, G3⟩⟩ (fun hH => ?_)
  clear hK K
  simp only [Act.put, List.setIfInBounds_toArray, List.set_cons_zero, List.set_cons_succ]
  refine wpAnyH_take (i := 5) (v := .slice (some ⟨g, 0, none⟩) 1 1) rfl (by kernel_rfl) (by kernel_rfl) (by kernel_rfl) (fun _ _ _ h => h) (.inl ⟨by rfl, by intro w hS; go_simp⟩) hH ?_
  simp only [Act.put, List.setIfInBounds_toArray, List.set_cons_zero, List.set_cons_succ]
  refine wpAnyH_ready (rs := [6]) (by kernel_rfl) (by simp) ?_
  refine AllReadyH.cons rfl (fun K hK => ?_) AllReadyH.nil
  refine wp_st G3 (by rfl) 41 _ _ rfl ztA (by rfl) (by rfl) (by rfl) (by with_unfolding_all rfl) ho2 ?_
  intro w5 e5
  have b5 : Below w.heap.size w w5 := by rw [e5]; exact below_row b4 (by omega) _
  have H1 : Blk w5 w.heap.size 29 (cPA 11) := by rw [e5]; exact G1.row_far (by omega) _
  have H2 : Blk w5 (w.heap.size + 1) 29 (cPA 11) := by rw [e5]; exact G2.row_far (by omega) _
  have H3 : Blk w5 (w.heap.size + 1 + 1) 41 ztA := by rw [e5]; exact G3.row _
  have HM : Blk w5 g 35 (mkA 3 11) := by rw [e5]; exact GM.row_far (by omega) _
  clear e5 G1 G2 G3 GM b4
  refine hK.out _ _ ⟨b5, H1, ⟨_, rfl, H2⟩, ⟨ztA, rfl, H3⟩⟩ (fun hH => ?_)
  clear hK K
  refine wpAnyH_done (by kernel_rfl) ?_ _
  go_wp2_with fail
  exact bodyPost_ret (res3 H2 H3 rfl rfl rfl _ rfl _ _ Tryd.underlying29 rfl rfl Tryd.underlying41 rfl rfl) rfl ⟨g, rfl, by omega, HM, b5⟩
end Go.Proofs.YtbggohdpaodkeaaDoor
