/- New, free, pend, Ask, as 'awake' calls them. -/
import Derived.Test.YtbggohdpaodkeaaDoorCliG
namespace Go.Proofs.YtbggohdpaodkeaaDoor
open Go.RowKit
attribute [local go_sem] ByteArray.mk_append_mk ByteArray.extract_mk
attribute [local go_sem ↓] Go.wp_at_zero Go.wp_at_succ
section
variable {P : Program} {w : World}
/-- two results, of which the first lies in a block that is known whole -/
theorem res2c {fn : Func} {p q : Tmp} {ty1 : TypeId} {tmps : Array Value} {g1 : Nat} {t1 : TypeId} {c1 : Array Value} (H1 : Blk w g1 t1 c1) (h : fn.results = #[.cell p ty1, .tmp q])
    (hp : tmps.getD p undef = .pointer (some ⟨g1, 0, none⟩)) (v : Value) (hq : tmps.getD q undef = v) (d1 : TypeDesc)
    (hu1 : P.underlying ty1 = some d1) (hd1 : (match d1 with | .struct _ | .array _ _ => true | _ => false) = true) (hi1 : (P.info? ty1).map (·.size) = some c1.size) :
    (results fn tmps).run P w = .ok (.tuple #[.agg c1, v]) w := by
  have hp' : tmps[p]?.getD undef = .pointer (some ⟨g1, 0, none⟩) := by simpa using hp
  have hq' : tmps[q]?.getD undef = v := by simpa using hq
  simp [results, h, hp', hq', asAddr, run_loadVar_row w g1 t1 ty1 c1 (0, 0) d1 H1 hu1 hd1 hi1]
end
theorem new_ok (w : World) : Calls Tryd.prog 11 #[.int .i64 1] w fun e w' => e = .returned (.tuple #[.agg c0A, .int .i64 0]) ∧ Below w.heap.size w w' := by
  have B1 : Blk (w.alloc (.cells zcA 29)) w.heap.size 29 zcA := Blk.new w _ _
  have D : ∀ w', w' = (w.alloc (.cells zcA 29)).setRow w.heap.size c0A → Below w.heap.size w w' ∧ Blk w' w.heap.size 29 c0A := by
    rintro _ rfl
    exact ⟨below_row (bal (b0 w) _) (Nat.le_refl _) _, B1.row _⟩
  go_enter Tryd.func11, Tryd.ntmps11
  go_wp2_with (first | (with_reducible refine wpl_st B1 (by with_unfolding_all rfl) 29 _ _ (by with_unfolding_all rfl) c0A (by with_unfolding_all rfl) (by with_unfolding_all rfl) (by with_unfolding_all rfl) (by with_unfolding_all rfl) (by with_unfolding_all rfl) ?_; intro w2 e2; obtain ⟨b2, F2⟩ := D w2 e2; clear e2) | fail)
  exact bodyPost_ret (res2c F2 rfl rfl _ rfl _ Tryd.underlying29 rfl rfl) rfl ⟨rfl, b2⟩
set_option maxHeartbeats 800000 in
theorem free_ok (w : World) : Calls Tryd.prog 21 #[.agg c0A] w fun e w' => e = .returned (.int .i64 0) ∧ Below w.heap.size w w' := by
  have B1 : Blk (w.alloc (.cells c0A 29)) w.heap.size 29 c0A := Blk.new w _ _
  have hb1 : Below w.heap.size w (w.alloc (.cells c0A 29)) := bal (b0 w) _
  go_enter Tryd.func21, Tryd.ntmps21
  go_wp2_with (with_reducible refine wpl_ld B1 (by with_unfolding_all rfl) 29 _ (by with_unfolding_all rfl) (by with_unfolding_all rfl) _ Tryd.underlying29 (by with_unfolding_all rfl) (by with_unfolding_all rfl) ?_)
  refine (right0_ok _).mono ?_
  rintro e w1 ⟨rfl, d1⟩
  have C1 := B1.keep d1
  have a1 : w1.cell? ⟨w.heap.size, 1, none⟩ = some (.int .i64 1) := C1.cell 1
  have a5 : w1.cell? ⟨w.heap.size, 5, none⟩ = some (.int .i64 0) := C1.cell 5
  go_wp2
  go_ret
  exact ⟨rfl, bt hb1 d1⟩
end Go.Proofs.YtbggohdpaodkeaaDoor
