/- The walks of the document's Arm and Crash of a tape. -/
import Derived.Test.YtbekiimgbpmomaaLaw12
import Derived.Test.YtbekiimgbpmomaaTape
import Derived.Test.YtbekiimgbpmomaaBlk
namespace Go.Proofs.Ytbekiimgbpmomaa
open Go.RowKit
attribute [local go_sem] ByteArray.mk_append_mk ByteArray.extract_mk
set_option maxHeartbeats 800000 in
set_option maxRecDepth 100000 in
theorem refarm_any (f lo : List UInt8) (n : Int) (ar dn : Bool) (k : Int) (w : World) :
    Calls Try.prog 22 #[tapeV ⟨f, lo, n, ar, dn⟩, .int .i64 k] w fun e w' => e = .returned (tapeV ⟨f, lo, min (max k 0) 1099511627776, decide (0 ≤ k), dn⟩) ∧ Below w.heap.size w w' := by
  by_cases h0 : k < 0
  case pos =>
    have hv : tapeV ⟨f, lo, min (max k 0) 1099511627776, decide (0 ≤ k), dn⟩ = tapeV ⟨f, lo, 0, false, dn⟩ := by
      rw [show min (max k 0) 1099511627776 = 0 by omega, decide_eq_false (by omega)]
    have HV := Lib.hid hv
    clear hv
    go_enter Try.func22, Try.ntmps22
    go_wp2
    refine bodyPost_ret (v := tapeV ⟨f, lo, 0, false, dn⟩) (by simp [results, Try.results22, go_sem, *]) rfl ⟨by rw [HV.out], ?_⟩
    repeat (first | with_reducible exact b0 _ | with_reducible assumption | with_reducible refine Below.drew ?_ | with_reducible refine below_drewN ?_ _ | with_reducible refine bal ?_ _ | ((with_reducible refine bst ?_ ?_ _); rotate_left; focus (first | exact Nat.le_refl _ | assumption | (simp; done) | (simp; omega) | omega)))
  case neg =>
    by_cases h1 : 1099511627776 < k
    case pos =>
      have hv : tapeV ⟨f, lo, min (max k 0) 1099511627776, decide (0 ≤ k), dn⟩ = tapeV ⟨f, lo, 1099511627776, true, dn⟩ := by
        rw [show min (max k 0) 1099511627776 = 1099511627776 by omega, decide_eq_true (by omega)]
      have HV := Lib.hid hv
      clear hv
      go_enter Try.func22, Try.ntmps22
      go_wp2
      refine bodyPost_ret (v := tapeV ⟨f, lo, 1099511627776, true, dn⟩) (by simp [results, Try.results22, go_sem, *]) rfl ⟨by first | rw [HV.out] | rw [show min (max k 0) 1099511627776 = 1099511627776 by omega], ?_⟩
      repeat (first | with_reducible exact b0 _ | with_reducible assumption | with_reducible refine Below.drew ?_ | with_reducible refine below_drewN ?_ _ | with_reducible refine bal ?_ _ | ((with_reducible refine bst ?_ ?_ _); rotate_left; focus (first | exact Nat.le_refl _ | assumption | (simp; done) | (simp; omega) | omega)))
    case neg =>
      have hv : tapeV ⟨f, lo, min (max k 0) 1099511627776, decide (0 ≤ k), dn⟩ = tapeV ⟨f, lo, k, true, dn⟩ := by
        rw [show min (max k 0) 1099511627776 = k by omega, decide_eq_true (by omega)]
      have HV := Lib.hid hv
      clear hv
      go_enter Try.func22, Try.ntmps22
      go_wp2
      refine bodyPost_ret (v := tapeV ⟨f, lo, k, true, dn⟩) (by simp [results, Try.results22, go_sem, *]) rfl ⟨by first | rw [HV.out] | rw [show min (max k 0) 1099511627776 = k by omega], ?_⟩
      repeat (first | with_reducible exact b0 _ | with_reducible assumption | with_reducible refine Below.drew ?_ | with_reducible refine below_drewN ?_ _ | with_reducible refine bal ?_ _ | ((with_reducible refine bst ?_ ?_ _); rotate_left; focus (first | exact Nat.le_refl _ | assumption | (simp; done) | (simp; omega) | omega)))
theorem take_snocL (l : List UInt8) (i : Nat) (h : i < l.length) : l.take i ++ List.take 1 (l.drop i) = l.take (i + 1) := by
  rw [List.take_succ_eq_append_getElem h, List.drop_eq_getElem_cons h]
  rfl
set_option maxHeartbeats 800000 in
set_option maxRecDepth 100000 in
theorem refcrash_any (f lo : List UInt8) (n : Int) (ar dn : Bool) (hf : f.length ≤ 140737488351232) (hl : lo.length ≤ 140737488351232) (k : Int) (w : World) :
    Calls Try.prog 23 #[tapeV ⟨f, lo, n, ar, dn⟩, .int .i64 k] w fun e w' => e = .returned (tapeV ⟨f ++ lo.take (min k.toNat lo.length), [], 0, false, false⟩) ∧ Below w.heap.size w w' := by
  go_enter Try.func23, Try.ntmps23
  go_wp2
  go_loop [5, 6] (fun s i => ∃ j : Nat, i = .int .i64 j ∧ j ≤ lo.length ∧ (j : Int) ≤ max k 0 ∧ s = .string ⟨(f ++ lo.take j).toArray⟩) (fun _ i => lo.length - (intOf i).toNat)
  case atStart => exact ⟨0, rfl, Nat.zero_le _, by omega, by simp⟩
  case round =>
    obtain ⟨j, rfl, hj, hjk, rfl⟩ := hrel
    by_cases h1 : j < lo.length
    case pos =>
      by_cases h2 : (j : Int) < k
      case pos =>
        have hts := take_snocL lo j h1
        have HT := Lib.hid hts
        clear hts
        have hsl := fun w => run_mid (P := Try.prog) w Try.underlying9 lo (j : Int) ((j : Int) + 1) j (j + 1) rfl (by omega) (by omega) (by omega)
        rw [show j + 1 - j = 1 by omega] at hsl
        go_wp2
        go_round
        case rel =>
          refine ⟨j + 1, by go_num, by omega, by omega, ?_⟩
          rw [← HT.out]
        case measure => simp [intOf]; omega
      case neg =>
        have hm : min k.toNat lo.length = j := by omega
        have HM := Lib.hid hm
        clear hm
        go_wp2
        refine bodyPost_ret (v := tapeV ⟨f ++ lo.take j, [], 0, false, false⟩) (by simp [results, Try.results23, go_sem, *]) rfl ⟨by rw [HM.out], ?_⟩
        repeat (first | with_reducible exact b0 _ | with_reducible assumption | with_reducible refine Below.drew ?_ | with_reducible refine below_drewN ?_ _ | with_reducible refine bal ?_ _ | ((with_reducible refine bst ?_ ?_ _); rotate_left; focus (first | exact Nat.le_refl _ | assumption | (simp; done) | (simp; omega) | omega)))
    case neg =>
      have hm : min k.toNat lo.length = j := by omega
      have HM := Lib.hid hm
      clear hm
      go_wp2
      refine bodyPost_ret (v := tapeV ⟨f ++ lo.take j, [], 0, false, false⟩) (by simp [results, Try.results23, go_sem, *]) rfl ⟨by rw [HM.out], ?_⟩
      repeat (first | with_reducible exact b0 _ | with_reducible assumption | with_reducible refine Below.drew ?_ | with_reducible refine below_drewN ?_ _ | with_reducible refine bal ?_ _ | ((with_reducible refine bst ?_ ?_ _); rotate_left; focus (first | exact Nat.le_refl _ | assumption | (simp; done) | (simp; omega) | omega)))
theorem arm_right_eq (f lo : List UInt8) (n : Int) (ar dn : Bool) (k : Int) (h : rightTp ⟨f, lo, n, ar, dn⟩ = true) : armT ⟨f, lo, n, ar, dn⟩ k = ⟨f, lo, min (max k 0) 1099511627776, decide (0 ≤ k), dn⟩ := by
  simp [armT, h]
end Go.Proofs.Ytbekiimgbpmomaa
