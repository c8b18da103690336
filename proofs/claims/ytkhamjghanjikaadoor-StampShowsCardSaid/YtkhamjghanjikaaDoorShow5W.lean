/- The walks through stamp.Show at a fixed stamp, and the laws' awake. -/
import Derived.Test.YtkhamjghanjikaaDoorStampW
import Derived.Deep.QuietTactic
import Derived.BigQuiet
namespace Go.Proofs.YtkhamjghanjikaaDoor
open Go.RowKit
attribute [local go_sem] ByteArray.mk_append_mk ByteArray.extract_mk
theorem quiet_lf {P : Program} {f : FuncId} {args : Array Value} {w : World} {n : Nat} {v : Value}
    (h : Calls P f args (w.drewN n) fun e w' => e = .returned v ∧ w.drewN n = w') : Calls P f args (w.drewN n) fun e w' => e = .returned v ∧ ∃ m, w' = w.drewN m :=
  h.mono fun _ _ ⟨he, hm⟩ => ⟨he, n, hm.symm⟩
set_option maxHeartbeats 400000 in
set_option maxRecDepth 100000 in
theorem itoa5 (w : World) : Calls Tryd.prog 26 #[.int .i64 5] w fun e w' => e = .returned (.string ⟨#[53]⟩) ∧ w = w' := by
  go_enter Tryd.func26, Tryd.ntmps26
  go_wp2_with (go_in)
  go_ret
  exact ⟨rfl, rfl⟩
set_option maxHeartbeats 400000 in
set_option maxRecDepth 100000 in
theorem itoa0 (w : World) : Calls Tryd.prog 26 #[.int .i64 0] w fun e w' => e = .returned (.string ⟨#[48]⟩) ∧ w = w' := by
  go_enter Tryd.func26, Tryd.ntmps26
  go_wp2_with (go_in)
  go_ret
  exact ⟨rfl, rfl⟩
set_option maxHeartbeats 400000 in
set_option maxRecDepth 100000 in
theorem itoa2 (w : World) : Calls Tryd.prog 26 #[.int .i64 2] w fun e w' => e = .returned (.string ⟨#[50]⟩) ∧ w = w' := by
  go_enter Tryd.func26, Tryd.ntmps26
  go_wp2_with (go_in)
  go_ret
  exact ⟨rfl, rfl⟩
theorem right502 : rightB 5 0 2 = true := by decide
theorem right000 : rightB 0 0 0 = true := by decide
theorem cmp510 : cmpS 5 1 0 5 0 9 = 1 := by decide
set_option maxHeartbeats 800000 in
set_option maxRecDepth 100000 in
theorem show502 (w : World) : Calls Tryd.prog 9 #[stampV 5 0 2] w fun e w' => e = .returned (.string ⟨#[53, 46, 48, 46, 50]⟩) ∧ Below w.heap.size w w' := by
  go_enter Tryd.func9, Tryd.ntmps9
  go_wp2_with fail
  refine (right_any 5 0 2 _).mono ?_
  rintro e w1 ⟨rfl, hb1⟩
  rw [right502]
  obtain ⟨hc1, hf1⟩ := bcell hb1
  have hB1 : Below w.heap.size w w1 := bt (bal (b0 w) _) hb1
  have x0 : w1.cell? ⟨w.heap.size, 0, none⟩ = some (.int .i64 5) := by rw [hc1 _ _ (by simp)]; go_simp
  have x1 : w1.cell? ⟨w.heap.size, 1, none⟩ = some (.int .i64 0) := by rw [hc1 _ _ (by simp)]; go_simp
  have x2 : w1.cell? ⟨w.heap.size, 2, none⟩ = some (.int .i64 2) := by rw [hc1 _ _ (by simp)]; go_simp
  clear hc1 hf1
  go_wp2_with fail
  go_quiet ((first
    | (go_at_call_of 26 (Value.int IntKind.i64 5); exact quiet_lf (itoa5 _))
    | (go_at_call_of 26 (Value.int IntKind.i64 0); exact quiet_lf (itoa0 _))
    | (go_at_call_of 26 (Value.int IntKind.i64 2); exact quiet_lf (itoa2 _))))
  go_wp2
  go_ret
  exact ⟨rfl, below_drewN hB1 _⟩
set_option maxHeartbeats 800000 in
set_option maxRecDepth 100000 in
theorem awake05 (w : World) : Calls Tryd.prog 11 #[] w fun e w' => e = .returned (.bool true) ∧ Below w.heap.size w w' := by
  go_enter Tryd.func11, Tryd.ntmps11
  go_wp2_with fail
  refine (right_any 0 0 0 _).mono ?_
  rintro e w1 ⟨rfl, hb1⟩
  rw [right000]
  go_wp2_with fail
  refine (show502 _).mono ?_
  rintro e w2 ⟨rfl, hb2⟩
  go_wp2_with fail
  refine (compare_any 5 1 0 5 0 9 _).mono ?_
  rintro e w3 ⟨rfl, hb3⟩
  rw [cmp510]
  go_wp2
  go_ret
  exact ⟨rfl, bt (bt hb1 hb2) hb3⟩
end Go.Proofs.YtkhamjghanjikaaDoor
