/- The walk through check.Of: it is the sum of the plain law. -/
import Derived.Test.YthjoamldmcnodaaProg
import Derived.Test.YthjoamldmcnodaaCrc
import Derived.Test.YthjoamldmcnodaaBase
namespace Go.Proofs.Ythjoamldmcnodaa
open Go.RowKit
theorem step_u32 (c : Nat) (hc : c < 2 ^ 32) : bits .xor .u32 ((c : Int) / 2) (bits .and .u32 2197175160 (-bits .and .u32 (c : Int) 1 % 4294967296)) = ((t1 c : Nat) : Int) := by
  have h1 : bits .and .u32 (c : Int) 1 = ((c % 2 : Nat) : Int) := by
    have := u32_and_nat c 1 (by omega) (by omega)
    rw [nat_mask1] at this
    exact this
  rw [h1]
  have h2 : ((c : Int) / 2) = ((c / 2 : Nat) : Int) := by omega
  rw [h2]
  unfold t1
  rcases Nat.mod_two_eq_zero_or_one c with h | h
  · rw [h]
    have h3 : bits .and .u32 2197175160 (-((0 : Nat) : Int) % 4294967296) = ((0 : Nat) : Int) := by decide +kernel
    rw [h3, u32_xor_nat _ _ (by omega) (by omega)]
    simp
  · rw [h]
    have h3 : bits .and .u32 2197175160 (-((1 : Nat) : Int) % 4294967296) = ((poly : Nat) : Int) := by decide +kernel
    rw [h3, u32_xor_nat _ _ (by omega) (by unfold poly; omega)]
    simp
theorem tn_succ (n c : Nat) : tn (n + 1) c = t1 (tn n c) := by rw [tn_add]; rfl
theorem crc_snoc (s : ByteArray) (k : Nat) (h : k < s.size) (c : Nat) : crcN c (s.data.toList.take (k + 1)) = tn 8 (crcN c (s.data.toList.take k) ^^^ s[k].toNat) := by
  rw [take_snoc s k h, crcN_append]; rfl
set_option maxHeartbeats 400000 in
theorem of_any (s : ByteArray) (w : World) (hs : s.size ≤ maxLen) :
    Calls Try.prog 43 #[.string s] w fun e w' => e = .returned (.int .u32 (sumN s.data.toList : Nat)) ∧ w = w' := by
  unfold maxLen at hs
  go_enter Try.func43, Try.ntmps43
  go_wp2
  go_loop [3, 7] (fun c i => ∃ k : Nat, k ≤ s.size ∧ i = .int .i64 k ∧ c = .int .u32 (crcN 4294967295 (s.data.toList.take k) : Nat)) (fun _ i => s.size - (intOf i).toNat)
  case atStart => exact ⟨0, Nat.zero_le _, rfl, rfl⟩
  case round =>
    obtain ⟨k, hk, rfl, rfl⟩ := hrel
    have hc : Hid (crcN 4294967295 (s.data.toList.take k) < 2 ^ 32) := crcN_lt _ _ (by omega)
    by_cases hlt : k < s.size
    · go_wp2
      go_loop [3, 16] (fun c i => ∃ j : Nat, j ≤ 8 ∧ i = .int .i64 j ∧ c = .int .u32 (tn j (crcN 4294967295 (s.data.toList.take k) ^^^ s[k].toNat) : Nat)) (fun _ i => 8 - (intOf i).toNat)
      case atStart =>
        refine ⟨0, Nat.zero_le _, rfl, int_eq ?_⟩
        have hb := s[k].toNat_lt
        have hc := hc.out
        rw [Int.emod_eq_of_lt (by omega) (by omega), u32_xor_nat _ _ (by omega) (by omega)]
        rfl
      case round =>
        obtain ⟨j, hj, rfl, rfl⟩ := hrel
        by_cases hlt : j < 8
        · go_wp2
          go_round
          case rel =>
            refine ⟨j + 1, by omega, by go_num, int_eq ?_⟩
            have hb := s[k].toNat_lt
            rw [tn_succ, step_u32]
            exact tn_lt _ _ (Nat.xor_lt_two_pow hc.out (by omega))
          case measure => simp [intOf]; omega
        · go_wp2
          go_round
          case rel =>
            have : j = 8 := by omega
            subst this
            exact ⟨k + 1, by omega, by go_num, int_eq (by rw [crc_snoc])⟩
          case measure => simp [intOf]; omega
    · go_wp2
      go_ret
      refine ⟨ret_int ?_, rfl⟩
      have hc := hc.out
      have hm : IntKind.u32.max = ((4294967295 : Nat) : Int) := by decide
      rw [hm, u32_xor_nat _ _ (by omega) (by omega), take_all s k (by omega)]
      rfl
end Go.Proofs.Ythjoamldmcnodaa
