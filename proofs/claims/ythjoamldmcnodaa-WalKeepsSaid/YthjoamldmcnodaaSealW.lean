/- The walks through check.Seal, check.Open and the document's Four, Open: what they make of any bytes. -/
import Derived.Test.YthjoamldmcnodaaProg
import Derived.Test.YthjoamldmcnodaaCrc
import Derived.Test.YthjoamldmcnodaaBase
import Derived.Test.YthjoamldmcnodaaOfW
import Derived.Test.YthjoamldmcnodaaRef2W
import Derived.Outline
import Derived.Deep.RegionHeld3
import Derived.Deep.DrawnRows
import Derived.Deep.QuietTactic
import Derived.BigQuiet
namespace Go.Proofs.Ythjoamldmcnodaa
open Go.RowKit
theorem of_list (l : List UInt8) (w : World) (hs : l.length ≤ 281474976710656) :
    Calls Try.prog 43 #[.string ⟨l.toArray⟩] w fun e w' => e = .returned (.int .u32 (sumN l : Nat)) ∧ w = w' := of_any ⟨l.toArray⟩ w (by show l.toArray.size ≤ maxLen; unfold maxLen; simp; omega)
theorem refof_list (l : List UInt8) (w : World) (hs : l.length ≤ 281474976710656) :
    Calls Try.prog 42 #[.string ⟨l.toArray⟩] w fun e w' => e = .returned (.int .u32 (sumN l : Nat)) ∧ w = w' := refof_any ⟨l.toArray⟩ w (by show l.toArray.size ≤ maxLen; unfold maxLen; simp; omega)
set_option maxHeartbeats 400000 in
theorem seal_any (l : List UInt8) (w : World) (hs : l.length ≤ 281474976710656) :
    Calls Try.prog 34 #[.string ⟨l.toArray⟩] w fun e w' => e = .returned (.string ⟨(sealL l).toArray⟩) ∧ Below w.heap.size w w' := by
  have hn := sumN_lt l
  generalize hN : sumN l = n at *
  have HN := Lib.hid hN
  clear hN
  have kc := fun (w : World) (cap : Nat) (a b c d : Int) => run_conv4 (P := Try.prog) w Try.underlying72 Try.underlying5 Try.underlying9 cap a b c d
  go_enter Try.func34, Try.ntmps34
  go_wp2_with fail
  refine (of_list l _ hs).mono ?_
  rintro e w' ⟨rfl, rfl⟩
  rw [HN.out]
  go_wp2
  go_ret
  refine ⟨ret_str ?_, by exact (Below.refl _ _).alloc (Nat.le_refl _) _⟩
  unfold sealL
  rw [HN.out]
  exact ByteArray.mk_append_mk _ _
set_option maxHeartbeats 400000 in
theorem four_any (n : Nat) (w : World) (hn : n < 4294967296) :
    Calls Try.prog 41 #[.int .u32 (n : Nat)] w fun e w' => e = .returned (.string ⟨(four n).toArray⟩) ∧ Below w.heap.size w w' := by
  have kc := fun (w : World) (cap : Nat) (a b c d : Int) => run_conv4 (P := Try.prog) w Try.underlying72 Try.underlying5 Try.underlying9 cap a b c d
  go_enter Try.func41, Try.ntmps41
  go_wp2
  go_ret
  exact ⟨rfl, (Below.refl _ _).alloc (Nat.le_refl _) _⟩
attribute [local go_sem ↓] Go.wp_at_zero Go.wp_at_succ
attribute [local go_sem] ByteArray.extract_mk ByteArray.mk_append_mk
set_option maxHeartbeats 400000 in
theorem open_any (l : List UInt8) (w : World) (hs : l.length ≤ 281474976710656) :
    Calls Try.prog 46 #[.string ⟨l.toArray⟩] w fun e w' => e = .returned (.tuple #[.string ⟨(openL l).1.toArray⟩, .int .i64 (openL l).2]) ∧ Below w.heap.size w w' := by
  by_cases h4 : l.length < 4
  · have hO : openL l = ([], 2) := by unfold openL; rw [if_pos h4]
    rw [hO]
    have h4 : (l.length : Int) - 4 < 0 := by omega
    go_enter Try.func46, Try.ntmps46
    go_wp2
    go_ret2
    exact ⟨rfl, Below.refl _ _⟩
  · have h4' : ¬ ((l.length : Int) - 4 < 0) := by omega
    obtain ⟨t, ht⟩ : ∃ t, t = sealL (l.take (l.length - 4)) := ⟨_, rfl⟩
    have HT := Lib.hid ht
    clear ht
    by_cases hk : okSeal l
    · have hO : openL l = (l.take (l.length - 4), 0) := by unfold openL; rw [if_neg h4, if_pos hk]
      rw [hO]
      have hb : (!(t == l)) = false := by rw [HT.out]; simpa [okSeal] using hk
      clear hO hk
      go_enter Try.func46, Try.ntmps46
      go_wp2_with fail
      refine (seal_any _ _ (by simp; omega)).mono ?_
      rintro e w' ⟨rfl, hb⟩
      rw [← HT.out]
      go_wp2
      go_ret2
      exact ⟨rfl, hb⟩
    · have hO : openL l = ([], 4) := by unfold openL; rw [if_neg h4, if_neg hk]
      rw [hO]
      have hb : (!(t == l)) = true := by rw [HT.out]; simpa [okSeal] using hk
      clear hO hk
      go_enter Try.func46, Try.ntmps46
      go_wp2_with fail
      refine (seal_any _ _ (by simp; omega)).mono ?_
      rintro e w' ⟨rfl, hb⟩
      rw [← HT.out]
      go_wp2
      go_ret2
      exact ⟨rfl, hb⟩
theorem awake_sum : sumN [49, 50, 51, 52, 53, 54, 55, 56, 57] = 3808858755 := by decide +kernel
end Go.Proofs.Ythjoamldmcnodaa
