/- The walks of the laws of layer 2: each answers true. -/
import Derived.Test.YtpkgofgpdnlnhaaSealW
namespace Go.Proofs.Ytpkgofgpdnlnhaa
open Go.RowKit
attribute [local go_sem] ByteArray.extract_mk ByteArray.mk_append_mk
set_option maxHeartbeats 400000 in
theorem checkSums_walk (l : List UInt8) (hl : l.length ≤ 140737488351232) (w : World) :
    Calls Try.prog 3 #[.string ⟨l.toArray⟩] w fun e w' => e = .returned (.bool true) ∧ Below w.heap.size w w' := by
  have hn := sumN_lt l
  generalize hN : sumN l = n at *
  have HN := Lib.hid hN
  clear hN
  have hse : sealL l = l ++ four n := by unfold sealL; rw [HN.out]
  have HSE := Lib.hid hse
  clear hse
  have f4 := four_length n
  go_enter Try.func3, Try.ntmps3
  go_wp2_with fail
  refine (refof_list l w (by omega)).mono ?_
  rintro e w' ⟨rfl, rfl⟩
  rw [HN.out]
  go_wp2_with fail
  refine (of_list l w (by omega)).mono ?_
  rintro e w' ⟨rfl, rfl⟩
  rw [HN.out]
  go_wp2_with fail
  refine (seal_any l w (by omega)).mono ?_
  rintro e w1 ⟨rfl, hb1⟩
  rw [HSE.out]
  go_wp2_with fail
  refine (four_any n w1 (by omega)).mono ?_
  rintro e w2 ⟨rfl, hb2⟩
  go_wp2_with fail
  refine (awake02 w2).mono ?_
  rintro e w' ⟨rfl, rfl⟩
  go_wp2
  go_ret
  exact ⟨rfl, hb1.trans (hb2.mono hb1.size)⟩
theorem sealB (a b : List UInt8) : ((sealL a == sealL b) == (a == b)) = true := by
  by_cases h : a = b
  · subst h; simp
  · have h2 : sealL a ≠ sealL b := fun e => h (seal_inj a b e)
    rw [beq_eq_false_iff_ne.2 h, beq_eq_false_iff_ne.2 h2]; rfl
set_option maxHeartbeats 400000 in
theorem checkApart_walk (l : List UInt8) (hl : l.length ≤ 140737488351232) (m : List UInt8) (hm : m.length ≤ 140737488351232) (w : World) :
    Calls Try.prog 4 #[.string ⟨l.toArray⟩, .string ⟨m.toArray⟩] w fun e w' => e = .returned (.bool true) ∧ Below w.heap.size w w' := by
  have hb := sealB l m
  obtain ⟨x, hx⟩ : ∃ x, x = sealL l := ⟨_, rfl⟩
  obtain ⟨y, hy⟩ : ∃ y, y = sealL m := ⟨_, rfl⟩
  rw [← hx, ← hy] at hb
  have HX := Lib.hid hx
  have HY := Lib.hid hy
  clear hx hy
  go_enter Try.func4, Try.ntmps4
  go_wp2_with fail
  refine (seal_any l w (by omega)).mono ?_
  rintro e w1 ⟨rfl, hb1⟩
  rw [← HX.out]
  go_wp2_with fail
  refine (seal_any m w1 (by omega)).mono ?_
  rintro e w2 ⟨rfl, hb2⟩
  rw [← HY.out]
  go_wp2_with fail
  refine (awake02 w2).mono ?_
  rintro e w' ⟨rfl, rfl⟩
  go_wp2
  go_ret
  exact ⟨rfl, hb1.trans (hb2.mono hb1.size)⟩
set_option maxHeartbeats 400000 in
theorem checkOpens_walk (l : List UInt8) (hl : l.length ≤ 140737488351232) (w : World) :
    Calls Try.prog 5 #[.string ⟨l.toArray⟩] w fun e w' => e = .returned (.bool true) ∧ Below w.heap.size w w' := by
  generalize hO : openL l = o at *
  obtain ⟨t, n⟩ := o
  have HO := Lib.hid hO
  clear hO
  go_enter Try.func5, Try.ntmps5
  go_wp2_with fail
  refine (open_any l w (by omega)).mono ?_
  rintro e w1 ⟨rfl, hb1⟩
  rw [HO.out]
  go_wp2_with fail
  refine (refopen_any l w1 (by omega)).mono ?_
  rintro e w2 ⟨rfl, hb2⟩
  rw [HO.out]
  go_wp2_with fail
  refine (awake02 w2).mono ?_
  rintro e w' ⟨rfl, rfl⟩
  go_wp2
  go_ret
  exact ⟨rfl, hb1.trans (hb2.mono hb1.size)⟩
theorem open_seal (l : List UInt8) : openL (sealL l) = (l, 0) := by
  unfold openL
  have hlen : (sealL l).length = l.length + 4 := by unfold sealL; simp [four_length]
  rw [if_neg (by omega), if_pos (okSeal_seal l)]
  unfold sealL
  simp [four_length]
set_option maxHeartbeats 400000 in
theorem checkBack_walk (l : List UInt8) (hl : l.length ≤ 140737488351232) (w : World) :
    Calls Try.prog 6 #[.string ⟨l.toArray⟩] w fun e w' => e = .returned (.bool true) ∧ Below w.heap.size w w' := by
  have hlen : (sealL l).length = l.length + 4 := by unfold sealL; simp [four_length]
  have hO := open_seal l
  obtain ⟨t, ht⟩ : ∃ t, t = sealL l := ⟨_, rfl⟩
  rw [← ht] at hlen hO
  have HO := Lib.hid hO
  have HT := Lib.hid ht
  clear hO ht
  go_enter Try.func6, Try.ntmps6
  go_wp2_with fail
  refine (seal_any l w (by omega)).mono ?_
  rintro e w1 ⟨rfl, hb1⟩
  rw [← HT.out]
  go_wp2_with fail
  refine (open_any t w1 (by omega)).mono ?_
  rintro e w2 ⟨rfl, hb2⟩
  rw [HO.out]
  go_wp2_with fail
  refine (seal_any l w2 (by omega)).mono ?_
  rintro e w3 ⟨rfl, hb3⟩
  rw [← HT.out]
  go_wp2_with fail
  refine (awake02 w3).mono ?_
  rintro e w' ⟨rfl, rfl⟩
  go_wp2
  go_ret
  exact ⟨rfl, (hb1.trans (hb2.mono hb1.size)).trans (hb3.mono (Nat.le_trans hb1.size hb2.size))⟩
end Go.Proofs.Ytpkgofgpdnlnhaa
