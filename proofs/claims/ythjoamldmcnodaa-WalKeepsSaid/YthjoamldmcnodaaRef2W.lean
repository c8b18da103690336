/- The walk through the document's sum: it is the same sum. -/
import Derived.Test.YthjoamldmcnodaaProg
import Derived.Test.YthjoamldmcnodaaCrc
import Derived.Test.YthjoamldmcnodaaOfW
import Derived.Test.YthjoamldmcnodaaBase
import Derived.Outline
namespace Go.Proofs.Ythjoamldmcnodaa
open Go.RowKit
theorem dstep_one (x d : Nat) : ((x ^^^ d) / 2) ^^^ (if ((x ^^^ d) + d) % 2 = 1 then poly else 0) = t1 x ^^^ d / 2 := by
  have e : ((x ^^^ d) + d) % 2 = x % 2 := by have := xor_mod2 x d; omega
  rw [e, xor_div2]
  unfold t1
  rw [Nat.xor_assoc, Nat.xor_assoc, Nat.xor_comm (d / 2)]
theorem wrap_nat (n : Nat) (h : n ≤ 9223372036854775807) : wrap64 (n : Int) = (n : Int) := IntWalk.wrap64_in _ (by omega)
theorem odd_way (c b j : Nat) (hc : c ≤ 4294967295) (hb : b ≤ 255) : ((wrap64 ((c : Int) + wrap64 (b : Int) / 2 ^ j)).tmod 2 == 1) = decide ((c + b / 2 ^ j) % 2 = 1) := by
  have hd : b / 2 ^ j ≤ b := Nat.div_le_self _ _
  have e : (c : Int) + wrap64 (b : Int) / 2 ^ j = ((c + b / 2 ^ j : Nat) : Int) := by
    rw [wrap_nat b (by omega), Int.natCast_add, Int.natCast_ediv, Int.natCast_pow]; rfl
  rw [e]
  clear e
  have hn : c + b / 2 ^ j ≤ 9223372036854775807 := by omega
  generalize c + b / 2 ^ j = n at hn
  rw [wrap_nat _ hn, Int.tmod_eq_emod_of_nonneg (by omega)]
  by_cases h : n % 2 = 1
  · have h2 : (n : Int) % 2 = 1 := by omega
    rw [h2]; simp [h]
  · have h2 : (n : Int) % 2 = 0 := by omega
    rw [h2]; simp [h]
theorem odd_yes (y b j c : Nat) (hC : c = tn j y ^^^ b / 2 ^ j) (hc : c ≤ 4294967295) (hb : b ≤ 255) (h : ((wrap64 ((c : Int) + wrap64 (b : Int) / 2 ^ j)).tmod 2 == 1) = true) :
    bits .xor .i64 ((c : Int) / 2) 2197175160 = ((tn (j + 1) y ^^^ b / 2 ^ (j + 1) : Nat) : Int) := by
  rw [odd_way c b j hc hb] at h
  have h := of_decide_eq_true h
  have e : (c : Int) / 2 = ((c / 2 : Nat) : Int) := by omega
  have := i64_xor_nat (c / 2) 2197175160 (by omega) (by omega)
  rw [e]
  refine this.trans ?_
  congr 1
  have h1 := dstep_one (tn j y) (b / 2 ^ j)
  rw [← hC, if_pos h] at h1
  rw [tn_succ, Nat.pow_succ, ← Nat.div_div_eq_div_mul]
  exact h1
theorem odd_no (y b j c : Nat) (hC : c = tn j y ^^^ b / 2 ^ j) (hc : c ≤ 4294967295) (hb : b ≤ 255) (h : ((wrap64 ((c : Int) + wrap64 (b : Int) / 2 ^ j)).tmod 2 == 1) = false) :
    (c : Int) / 2 = ((tn (j + 1) y ^^^ b / 2 ^ (j + 1) : Nat) : Int) := by
  rw [odd_way c b j hc hb] at h
  have h := of_decide_eq_false h
  have e : (c : Int) / 2 = ((c / 2 : Nat) : Int) := by omega
  rw [e]
  congr 1
  have h1 := dstep_one (tn j y) (b / 2 ^ j)
  rw [← hC, if_neg h] at h1
  rw [tn_succ, Nat.pow_succ, ← Nat.div_div_eq_div_mul]
  simpa using h1
set_option maxHeartbeats 400000 in
theorem refof_any (s : ByteArray) (w : World) (hs : s.size ≤ maxLen) :
    Calls Try.prog 42 #[.string s] w fun e w' => e = .returned (.int .u32 (sumN s.data.toList : Nat)) ∧ w = w' := by
  unfold maxLen at hs
  go_enter Try.func42, Try.ntmps42
  go_wp2
  go_loop [3, 4] (fun c i => ∃ k : Nat, k ≤ s.size ∧ i = .int .i64 k ∧ c = .int .i64 (crcN 4294967295 (s.data.toList.take k) : Nat)) (fun _ i => s.size - (intOf i).toNat)
  case atStart => exact ⟨0, Nat.zero_le _, rfl, rfl⟩
  case round =>
    obtain ⟨k, hk, rfl, rfl⟩ := hrel
    have hc : Hid (crcN 4294967295 (s.data.toList.take k) < 2 ^ 32) := crcN_lt _ _ (by omega)
    by_cases hlt : k < s.size
    · obtain ⟨y, hy⟩ : ∃ y, y = crcN 4294967295 (s.data.toList.take k) ^^^ s[k].toNat := ⟨_, rfl⟩
      have Hy := Lib.hid hy
      clear hy
      go_wp2
      go_loop [3, 5] (fun c i => ∃ j : Nat, j ≤ 8 ∧ i = .int .i64 j ∧ c = .int .i64 (tn j y ^^^ s[k].toNat / 2 ^ j : Nat)) (fun _ i => 8 - (intOf i).toNat)
      case atStart =>
        refine ⟨0, Nat.zero_le _, rfl, int_eq ?_⟩
        rw [Hy.out]
        simp [tn, Nat.xor_assoc]
      case round =>
        obtain ⟨j, hj, rfl, rfl⟩ := hrel
        have hcb : tn j y ^^^ s[k].toNat / 2 ^ j < 2 ^ 32 := by
          refine Nat.xor_lt_two_pow (tn_lt _ _ ?_) ?_
          · rw [Hy.out]; exact Nat.xor_lt_two_pow hc.out (by have := s[k].toNat_lt; omega)
          · have := s[k].toNat_lt; have := Nat.div_le_self s[k].toNat (2 ^ j); omega
        generalize hC : tn j y ^^^ s[k].toNat / 2 ^ j = c at *
        have HC := Lib.hid hC
        clear hC
        have hcb : c ≤ 4294967295 := by omega
        by_cases hlt : j < 8
        · go_wp2
          · have h : ((wrap64 (c + wrap64 s[k].toNat / 2 ^ j)).tmod 2 == 1) = true := by assumption
            go_round
            case rel => exact ⟨j + 1, by omega, by go_num, int_eq (odd_yes y _ j c HC.out.symm hcb (by have := s[k].toNat_lt; omega) h)⟩
            case measure => simp [intOf]; omega
          · have h : ((wrap64 (c + wrap64 s[k].toNat / 2 ^ j)).tmod 2 == 1) = false := by assumption
            go_round
            case rel => exact ⟨j + 1, by omega, by go_num, int_eq (odd_no y _ j c HC.out.symm hcb (by have := s[k].toNat_lt; omega) h)⟩
            case measure => simp [intOf]; omega
        · go_wp2
          go_round
          case rel =>
            have : j = 8 := by omega
            subst this
            refine ⟨k + 1, by omega, by go_num, int_eq ?_⟩
            rw [crc_snoc s k (by assumption), ← HC.out, Hy.out]
            have : s[k].toNat / 2 ^ 8 = 0 := Nat.div_eq_of_lt (by have := s[k].toNat_lt; omega)
            rw [this]; simp
          case measure => simp [intOf]; omega
    · go_wp2
      go_ret
      refine ⟨ret_int ?_, rfl⟩
      have hc := hc.out
      rw [take_all s k (by omega)] at hc ⊢
      rw [IntWalk.wrap64_in _ (by omega)]
      have := compl_u32 _ hc
      unfold sumN
      omega
end Go.Proofs.Ythjoamldmcnodaa
