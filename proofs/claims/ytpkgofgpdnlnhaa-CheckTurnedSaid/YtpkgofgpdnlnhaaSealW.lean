/- The walks through check.Seal, check.Open and the document's Four, Open: what they make of any bytes. -/
import Derived.Test.YtpkgofgpdnlnhaaProg
import Derived.Test.YtpkgofgpdnlnhaaCrc
import Derived.Test.YtpkgofgpdnlnhaaBase
import Derived.Test.YtpkgofgpdnlnhaaOfW
import Derived.Test.YtpkgofgpdnlnhaaRef2W
import Derived.Outline
import Derived.Deep.RegionHeld3
import Derived.Deep.DrawnRows
import Derived.Deep.QuietTactic
import Derived.BigQuiet
namespace Go.Proofs.Ytpkgofgpdnlnhaa
open Go.RowKit
theorem of_list (l : List UInt8) (w : World) (hs : l.length ≤ 281474976710656) :
    Calls Try.prog 9 #[.string ⟨l.toArray⟩] w fun e w' => e = .returned (.int .u32 (sumN l : Nat)) ∧ w = w' := of_any ⟨l.toArray⟩ w (by show l.toArray.size ≤ maxLen; unfold maxLen; simp; omega)
theorem refof_list (l : List UInt8) (w : World) (hs : l.length ≤ 281474976710656) :
    Calls Try.prog 8 #[.string ⟨l.toArray⟩] w fun e w' => e = .returned (.int .u32 (sumN l : Nat)) ∧ w = w' := refof_any ⟨l.toArray⟩ w (by show l.toArray.size ≤ maxLen; unfold maxLen; simp; omega)
set_option maxHeartbeats 400000 in
theorem seal_any (l : List UInt8) (w : World) (hs : l.length ≤ 281474976710656) :
    Calls Try.prog 10 #[.string ⟨l.toArray⟩] w fun e w' => e = .returned (.string ⟨(sealL l).toArray⟩) ∧ Below w.heap.size w w' := by
  have hn := sumN_lt l
  generalize hN : sumN l = n at *
  have HN := Lib.hid hN
  clear hN
  have kc := fun (w : World) (cap : Nat) (a b c d : Int) => run_conv4 (P := Try.prog) w Try.underlying35 Try.underlying5 Try.underlying9 cap a b c d
  go_enter Try.func10, Try.ntmps10
  go_wp2_with fail
  refine (of_list l _ hs).mono ?_
  rintro e w' ⟨rfl, rfl⟩
  rw [HN.out]
  go_wp2
  go_ret
  refine ⟨ret_str ?_, by exact (Below.refl _ _).alloc (Nat.le_refl _) _⟩
  unfold sealL
  rw [HN.out]
  exact ByteArray.mk_append_mk _ _
set_option maxHeartbeats 400000 in
theorem four_any (n : Nat) (w : World) (hn : n < 4294967296) :
    Calls Try.prog 11 #[.int .u32 (n : Nat)] w fun e w' => e = .returned (.string ⟨(four n).toArray⟩) ∧ Below w.heap.size w w' := by
  have kc := fun (w : World) (cap : Nat) (a b c d : Int) => run_conv4 (P := Try.prog) w Try.underlying35 Try.underlying5 Try.underlying9 cap a b c d
  go_enter Try.func11, Try.ntmps11
  go_wp2
  go_ret
  exact ⟨rfl, (Below.refl _ _).alloc (Nat.le_refl _) _⟩
attribute [local go_sem ↓] Go.wp_at_zero Go.wp_at_succ
attribute [local go_sem] ByteArray.extract_mk ByteArray.mk_append_mk
set_option maxHeartbeats 400000 in
theorem open_any (l : List UInt8) (w : World) (hs : l.length ≤ 281474976710656) :
    Calls Try.prog 13 #[.string ⟨l.toArray⟩] w fun e w' => e = .returned (.tuple #[.string ⟨(openL l).1.toArray⟩, .int .i64 (openL l).2]) ∧ Below w.heap.size w w' := by
  by_cases h4 : l.length < 4
  · have hO : openL l = ([], 2) := by unfold openL; rw [if_pos h4]
    rw [hO]
    have h4 : (l.length : Int) - 4 < 0 := by omega
    go_enter Try.func13, Try.ntmps13
    go_wp2
    go_ret2
    exact ⟨rfl, Below.refl _ _⟩
  · have h4' : ¬ ((l.length : Int) - 4 < 0) := by omega
    obtain ⟨t, ht⟩ : ∃ t, t = sealL (l.take (l.length - 4)) := ⟨_, rfl⟩
    have HT := Lib.hid ht
    clear ht
    by_cases hk : okSeal l
    · have hO : openL l = (l.take (l.length - 4), 0) := by unfold openL; rw [if_neg h4, if_pos hk]
      rw [hO]
      have hb : (!(t == l)) = false := by rw [HT.out]; simpa [okSeal] using hk
      clear hO hk
      go_enter Try.func13, Try.ntmps13
      go_wp2_with fail
      refine (seal_any _ _ (by simp; omega)).mono ?_
      rintro e w' ⟨rfl, hb⟩
      rw [← HT.out]
      go_wp2
      go_ret2
      exact ⟨rfl, hb⟩
    · have hO : openL l = ([], 4) := by unfold openL; rw [if_neg h4, if_neg hk]
      rw [hO]
      have hb : (!(t == l)) = true := by rw [HT.out]; simpa [okSeal] using hk
      clear hO hk
      go_enter Try.func13, Try.ntmps13
      go_wp2_with fail
      refine (seal_any _ _ (by simp; omega)).mono ?_
      rintro e w' ⟨rfl, hb⟩
      rw [← HT.out]
      go_wp2
      go_ret2
      exact ⟨rfl, hb⟩
set_option maxHeartbeats 400000 in
theorem refopen_any (l : List UInt8) (w : World) (hs : l.length ≤ 281474976710656) :
    Calls Try.prog 14 #[.string ⟨l.toArray⟩] w fun e w' => e = .returned (.tuple #[.string ⟨(openL l).1.toArray⟩, .int .i64 (openL l).2]) ∧ Below w.heap.size w w' := by
  by_cases h4 : l.length < 4
  · have hO : openL l = ([], 2) := by unfold openL; rw [if_pos h4]
    rw [hO]
    have h4 : (l.length : Int) < 4 := by omega
    go_enter Try.func14, Try.ntmps14
    go_wp2
    go_ret2
    exact ⟨rfl, Below.refl _ _⟩
  · have h4' : ¬ ((l.length : Int) < 4) := by omega
    have h4'' : (4 : Int) ≤ l.length := by omega
    have hn := sumN_lt (l.take (l.length - 4))
    obtain ⟨t, ht⟩ : ∃ t, t = four (sumN (l.take (l.length - 4))) := ⟨_, rfl⟩
    have HT := Lib.hid ht
    clear ht
    by_cases hk : okSeal l
    · have hO : openL l = (l.take (l.length - 4), 0) := by unfold openL; rw [if_neg h4, if_pos hk]
      rw [hO]
      have hb : (!(l.drop (l.length - 4) == t)) = false := by rw [HT.out]; simpa using (okSeal_drop l).1 hk
      clear hO hk
      have s1 := fun w => run_from (P := Try.prog) w Try.underlying9 l ((l.length : Int) - 4) (l.length - 4) (by omega) (by omega)
      have s2 := fun w => run_to (P := Try.prog) w Try.underlying9 l ((l.length : Int) - 4) (l.length - 4) (by omega) (by omega)
      clear h4
      go_enter Try.func14, Try.ntmps14
      go_wp2_with fail
      go_region_held3 (fun _ => True) (trivial) (first
        | (go_at_call 8; refine (refof_list _ _ (by simp; omega)).mono ?_; rintro e w' ⟨rfl, rfl⟩)
        | (go_at_call 11; refine (four_any _ _ hn).mono ?_; rintro e w' ⟨rfl, hw⟩; rw [← HT.out]))
      go_wp2
      go_ret2
      exact ⟨rfl, (Below.drew (Below.refl _ w)).trans hw⟩
    · have hO : openL l = ([], 4) := by unfold openL; rw [if_neg h4, if_neg hk]
      rw [hO]
      have hb : (!(l.drop (l.length - 4) == t)) = true := by rw [HT.out]; simpa using fun h => hk ((okSeal_drop l).2 h)
      clear hO hk
      have s1 := fun w => run_from (P := Try.prog) w Try.underlying9 l ((l.length : Int) - 4) (l.length - 4) (by omega) (by omega)
      have s2 := fun w => run_to (P := Try.prog) w Try.underlying9 l ((l.length : Int) - 4) (l.length - 4) (by omega) (by omega)
      clear h4
      go_enter Try.func14, Try.ntmps14
      go_wp2_with fail
      go_region_held3 (fun _ => True) (trivial) (first
        | (go_at_call 8; refine (refof_list _ _ (by simp; omega)).mono ?_; rintro e w' ⟨rfl, rfl⟩)
        | (go_at_call 11; refine (four_any _ _ hn).mono ?_; rintro e w' ⟨rfl, hw⟩; rw [← HT.out]))
      go_wp2
      go_ret2
      exact ⟨rfl, (Below.drew (Below.refl _ w)).trans hw⟩
theorem awake_sum : sumN [49, 50, 51, 52, 53, 54, 55, 56, 57] = 3808858755 := by decide +kernel
set_option maxHeartbeats 400000 in
theorem awake02 (w : World) : Calls Try.prog 12 #[] w fun e w' => e = .returned (.bool true) ∧ w = w' := by
  go_enter Try.func12, Try.ntmps12
  go_wp2_with fail
  refine (of_list [49, 50, 51, 52, 53, 54, 55, 56, 57] w (by simp)).mono ?_
  rintro e w' ⟨rfl, rfl⟩
  rw [awake_sum]
  go_wp2
  go_ret
  exact ⟨rfl, rfl⟩
end Go.Proofs.Ytpkgofgpdnlnhaa
