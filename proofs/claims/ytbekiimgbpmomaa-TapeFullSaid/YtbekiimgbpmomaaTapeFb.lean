/- The walk of TapeFull. -/
import Derived.Test.YtbekiimgbpmomaaTapeF0
import Derived.Deep.RegionHeld3
import Derived.Deep.RegionWith
import Derived.Deep.DrawnRows
namespace Go.Proofs.Ytbekiimgbpmomaa
open Go.RowKit
attribute [local go_sem] ByteArray.mk_append_mk ByteArray.extract_mk
set_option maxHeartbeats 12800000 in
set_option maxRecDepth 100000 in
theorem tapeFull_no (x : Int) (hx : (Lit.int .i8 x).wf = true) (y : Int) (hy : (Lit.int .i8 y).wf = true) (hq0 : ¬ (1048576 < 1048448 + x + (y + 128))) (w : World) :
    Calls Try.prog 3 #[.int .i8 x, .int .i8 y] w fun e w' => e = .returned (.bool true) ∧ Below w.heap.size w w' := by
  have hb := bounds_i8 hx
  have hb2 := bounds_i8 hy
  obtain ⟨hx1, hx2⟩ := hb
  obtain ⟨hy1, hy2⟩ := hb2
  clear hx hy
  obtain ⟨n, hn⟩ := Int.eq_ofNat_of_zero_le (show 0 ≤ 1048448 + x by omega)
  obtain ⟨k, hk⟩ := Int.eq_ofNat_of_zero_le (show 0 ≤ y + 128 by omega)
  obtain ⟨i0, hi, hz0, hz1, hz2⟩ := info_parts infoU8
  have hmk := fun w => run_make_u8 (P := Try.prog) Try.underlying23 hi hz0 hz1 hz2 n (n : Int) rfl (by omega) w
  have hmk2 := fun w => run_make_u8 (P := Try.prog) Try.underlying23 hi hz0 hz1 hz2 k (k : Int) rfl (by omega) w
  have hcv := fun w => run_conv_zb (P := Try.prog) Try.underlying23 Try.underlying5 Try.underlying9 n w
  have hcvw : ∀ (W : World) (b : Nat), W.heap[b]? = some (.cells (zb k) 5) → (convert 23 9 (.slice (some ⟨b, 0, none⟩) k k)).run Try.prog W = .ok (.string ⟨(zs k).toArray⟩) W := fun W b hb => by
    have h := run_convert_bytes_arg (P := Try.prog) (w := W) 23 5 Try.underlying23 Try.underlying5 b 0 k k (List.replicate k 0) (by simp) (fun i hi => by
      rw [cell_of_row _ _ _ _ _ _ hb, zb_eq]
      simp [hi]) 9 Try.underlying9
    rw [h]
    have : strOfNums (List.replicate k 0) = ⟨(zs k).toArray⟩ := by unfold strOfNums zs; simp
    rw [this]
  have hcv2 : ∀ (X : World) (b : Nat), X.heap.size = b → (convert 23 9 (.slice (some ⟨b, 0, none⟩) k k)).run Try.prog (X.alloc (.cells (zb k) 5)).drew = .ok (.string ⟨(zs k).toArray⟩) (X.alloc (.cells (zb k) 5)).drew := fun X b hb => by
    subst hb
    exact hcvw _ _ (heap_alloc_new X _)
  have hcv3 : ∀ (X : World) (b : Nat) (o : Obj), X.heap.size = b → (convert 23 9 (.slice (some ⟨b, 0, none⟩) k k)).run Try.prog ((X.alloc (.cells (zb k) 5)).alloc o).drew = .ok (.string ⟨(zs k).toArray⟩) ((X.alloc (.cells (zb k) 5)).alloc o).drew := fun X b o hb => by
    subst hb
    refine hcvw _ _ ?_
    show ((X.alloc (.cells (zb k) 5)).alloc o).heap[X.heap.size]? = _
    rw [heap_alloc_old _ _ (by simp)]
    exact heap_alloc_new X _
  clear hcvw
  have hzl := zs_len n
  have hzk := zs_len k
  generalize zs n = F at *
  generalize zs k = S at *
  have hF : F.length ≤ 1048576 := by omega
  have hq : ¬ (1048576 < n + k) := by omega
  clear hq0
  have hv := full_no F S (by omega)
  have HV := Lib.hid hv
  clear hv
  have h6 : ¬ ((1048576 : Int) < (n : Int) + k) := by omega
  have hr := full_right F S (by omega)
  have HR := Lib.hid hr
  clear hr
  have hS : S.length ≤ 140737488351232 := by omega
  go_enter Try.func3, Try.ntmps3
  go_wp2_with fail
  go_region_with (first
    | (go_at_call 8; refine (append_any F [] 0 false false (by omega) (by simp) S hS _).mono ?_; rintro e w1 ⟨rfl, hb1⟩; rw [HV.out]; simp only [tapeV]; obtain ⟨hc1, hf1⟩ := bcell hb1; have hz1 := hb1.size; (try simp at hz1)))
  all_goals
    go_wp2_with fail
    refine (tright_any F S 0 false false (by omega) hS _).mono ?_
    rintro e w2 ⟨rfl, hb2⟩
    rw [HR.out]
    go_wp2_with fail
    refine (awake12 _).mono ?_
    rintro e w3 ⟨rfl, hb3⟩
    go_wp2
    go_ret
    refine ⟨rfl, ?_⟩
    repeat (first | (with_reducible refine Below.drew ?_) | (with_reducible refine bal ?_ _) | ((with_reducible refine bst ?_ ?_ _); rotate_left; focus (first | (simp; done) | (simp; omega))))
    refine bt ?_ hb3
    repeat (first | (with_reducible refine Below.drew ?_) | (with_reducible refine bal ?_ _) | ((with_reducible refine bst ?_ ?_ _); rotate_left; focus (first | (simp; done) | (simp; omega))))
    refine bt ?_ hb2
    repeat (first | (with_reducible refine Below.drew ?_) | (with_reducible refine bal ?_ _) | ((with_reducible refine bst ?_ ?_ _); rotate_left; focus (first | (simp; done) | (simp; omega))))
    refine bt ?_ hb1
    repeat (first | (with_reducible refine Below.drew ?_) | (with_reducible refine bal ?_ _) | ((with_reducible refine bst ?_ ?_ _); rotate_left; focus (first | (simp; done) | (simp; omega))))
    exact b0 w
end Go.Proofs.Ytbekiimgbpmomaa
