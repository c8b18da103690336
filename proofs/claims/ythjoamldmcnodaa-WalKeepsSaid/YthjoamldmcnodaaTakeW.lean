/- The walks through pack.long and pack.Take: the number at the beginning is taken as the plain law says. -/
import Derived.Test.YthjoamldmcnodaaProg
import Derived.Test.YthjoamldmcnodaaPack
import Derived.Test.YthjoamldmcnodaaOwn
import Derived.Outline
import Derived.Deep.QuietTactic
import Derived.BigQuiet
namespace Go.Proofs.Ythjoamldmcnodaa
open Go.RowKit
/-- the error of a number that is too great -/
def longE (l : List UInt8) : Nat := if endOf l = l.length then 2 else 3
def LongRel (l : List UInt8) (i : Value) : Prop := ∃ k : Nat, i = .int .i64 k ∧ k ≤ l.length ∧ ∀ j, j < k → 128 ≤ byteAt l j
theorem snoc_all (l : List UInt8) (k : Nat) (h : ∀ j, j < k → 128 ≤ byteAt l j) (hb : 128 ≤ byteAt l k) : ∀ j, j < k + 1 → 128 ≤ byteAt l j := by
  intro j hj
  rcases Nat.lt_or_ge j k with h1 | h1
  · exact h j h1
  · have : j = k := by omega
    subst this; exact hb
set_option maxHeartbeats 400000 in
set_option maxRecDepth 100000 in
theorem long_any (l : List UInt8) (hl : l.length ≤ 281474976710656) (w : World) :
    Calls Try.prog 48 #[.string ⟨l.toArray⟩] w fun e w' => e = .returned (.int .i64 (longE l)) ∧ w = w' := by
  go_enter Try.func48, Try.ntmps48
  go_wp2
  go_loop [6] (fun i => LongRel l i) (fun i => l.length - (intOf i).toNat)
  case atStart => exact ⟨0, rfl, Nat.zero_le _, fun j hj => by omega⟩
  case round =>
    obtain ⟨k, rfl, hk, hall⟩ := hrel
    have HA := Lib.hid hall
    clear hall
    by_cases hlt : k < l.length
    · obtain ⟨b, hb⟩ : ∃ b, byteAt l k = b := ⟨_, rfl⟩
      have hix := fun w => run_at (P := Try.prog) w Try.underlying9 l k k b rfl hlt hb
      have HB := Lib.hid hb
      clear hb
      by_cases hb : b < 128
      · have hr : longE l = 3 := by
          unfold longE
          rw [endOf_eq l k hlt HA.out (by rw [HB.out]; exact hb), if_neg (by omega)]
        have HR := Lib.hid hr
        clear hr
        go_wp2
        go_ret
        exact ⟨by rw [HR.out]; rfl, rfl⟩
      · go_wp2
        go_round
        case rel => exact ⟨k + 1, by go_num, by omega, snoc_all _ k HA.out (by rw [HB.out]; omega)⟩
        case measure => simp [intOf]; omega
    · have hkl : l.length = k := by omega
      have hr : longE l = 2 := by
        unfold longE
        rw [if_pos (endOf_all _ (by rw [hkl]; exact HA.out))]
      have HR := Lib.hid hr
      clear hr hkl
      go_wp2
      go_ret
      exact ⟨by rw [HR.out]; rfl, rfl⟩
theorem pow_128 (k : Nat) : (2 : Nat) ^ (7 * k) = 128 ^ k := by rw [Nat.pow_mul]
theorem or_step (v k d : Nat) (hv : v < 128 ^ k) (hk : k ≤ 8) (hd : d < 128) :
    bits .or .i64 (v : Int) (wrap64 ((d : Int) * 2 ^ (7 * k))) = ((v + 128 ^ k * d : Nat) : Int) := by
  have h8 : 128 ^ k ≤ 128 ^ 8 := Nat.pow_le_pow_right (by omega) hk
  have hm : 128 ^ k * d ≤ 128 ^ 8 * 127 := Nat.mul_le_mul h8 (by omega)
  have e : (d : Int) * 2 ^ (7 * k) = ((128 ^ k * d : Nat) : Int) := by
    rw [← pow_128, Int.natCast_mul, Int.natCast_pow, Int.mul_comm]; rfl
  rw [e, IntWalk.wrap64_in _ (by omega), i64_or_nat v _ (by omega) (by omega)]
  congr 1
  have h := Nat.two_pow_add_eq_or_of_lt (i := 7 * k) (b := v) (by rw [pow_128]; exact hv) d
  rw [pow_128] at h
  rw [Nat.or_comm, ← h, Nat.add_comm]
theorem and_127 (b : Nat) (h : b < 256) : bits .and .u8 (b : Int) 127 = ((b % 128 : Nat) : Int) := by
  have := u8_and_nat b 127 h (by omega)
  rw [nat_mask7] at this
  exact this
def TakeRel (l : List UInt8) (n i : Value) : Prop := ∃ k : Nat, i = .int .i64 k ∧ n = .int .i64 (valL (l.take k) : Nat) ∧ k ≤ l.length ∧ k ≤ 9 ∧ ∀ j, j < k → 128 ≤ byteAt l j
set_option maxHeartbeats 800000 in
set_option maxRecDepth 100000 in
theorem take_any (l : List UInt8) (hl : l.length ≤ 281474976710656) (w : World) :
    Calls Try.prog 45 #[.string ⟨l.toArray⟩] w fun e w' => e = .returned (.tuple #[.int .i64 (takeL l).1, .string ⟨(takeL l).2.1.toArray⟩, .int .i64 (takeL l).2.2]) ∧ Below w.heap.size w w' := by
  go_enter Try.func45, Try.ntmps45
  go_wp2
  go_loop [5, 10] (fun n i => TakeRel l n i) (fun _ i => l.length - (intOf i).toNat)
  case atStart => exact ⟨0, rfl, rfl, Nat.zero_le _, by omega, fun j hj => by omega⟩
  case round =>
    obtain ⟨k, rfl, rfl, hk, hk9, hall⟩ := hrel
    have HA := Lib.hid hall
    clear hall
    by_cases hlt : k < l.length
    · obtain ⟨b, hb⟩ : ∃ b, byteAt l k = b := ⟨_, rfl⟩
      have hix := fun w => run_at (P := Try.prog) w Try.underlying9 l k k b rfl hlt hb
      have HB := Lib.hid hb
      have hb256 : b < 256 := by rw [← hb]; exact byteAt_lt l k
      clear hb
      obtain ⟨d, hd⟩ : ∃ d, b % 128 = d := ⟨_, rfl⟩
      have hand : bits .and .u8 (b : Int) 127 = (d : Int) := by rw [← hd]; exact and_127 b hb256
      have hd128 : d < 128 := by omega
      have HD := Lib.hid hd
      clear hd
      have hv : valL (l.take k) < 128 ^ k := by have := valL_lt (l.take k); rwa [List.length_take, Nat.min_eq_left hk] at this
      have HV := Lib.hid hv
      clear hv
      by_cases h8 : k ≤ 8
      · by_cases hb : 128 ≤ b
        · go_wp2
          go_round
          case rel =>
            refine ⟨k + 1, by go_num, int_eq ?_, by omega, by omega, snoc_all _ k HA.out (by rw [HB.out]; exact hb)⟩
            rw [or_step _ k d HV.out h8 hd128, valL_snoc l k hlt, HB.out, HD.out]
          case measure => simp [intOf]; omega
        · have hdb : d = b := by have := HD.out; omega
          have he : endOf l = k := endOf_eq l k hlt HA.out (by rw [HB.out]; omega)
          by_cases hz : d = 0 ∧ 0 < k
          · have hr : takeL l = (0, [], 3) := by
              unfold takeL
              rw [he, if_neg (by omega), if_neg (by omega), if_pos ⟨by omega, by rw [HB.out]; omega⟩]
            have HR := Lib.hid hr
            clear hr he
            obtain ⟨h0, hk0⟩ := hz
            have hq : ((d : Int) == 0) = true := by simp [h0]
            have hk0 : (0 : Int) < k := by omega
            clear h0 hdb
            go_wp2
            go_ret3
            exact ⟨by rw [HR.out]; rfl, Below.refl _ _⟩
          · have hr : takeL l = (valL (l.take k) + 128 ^ k * d, l.drop (k + 1), 0) := by
              unfold takeL
              rw [he, if_neg (by omega), if_neg (by omega), if_neg (by intro hh; exact hz ⟨by have := hh.2; rw [HB.out] at this; omega, hh.1⟩), valL_snoc l k hlt, HB.out, HD.out]
            have HR := Lib.hid hr
            have s1 := fun w => run_from (P := Try.prog) w Try.underlying9 l ((k : Int) + 1) (k + 1) (by omega) (by omega)
            have hor := or_step _ k d HV.out h8 hd128
            clear hr he
            clear hdb
            by_cases h0 : d = 0
            · have hq : ((d : Int) == 0) = true := by simp [h0]
              have hk0 : ¬ ((0 : Int) < k) := by omega
              clear hz h0
              go_wp2
              go_quiet (fail)
              go_wp2
              go_ret3
              exact ⟨by rw [HR.out]; rfl, below_drewN (Below.refl _ _) _⟩
            · have h0 : (0 : Int) < d := by omega
              have hq : ((d : Int) == 0) = false := by simp; omega
              clear hz
              go_wp2
              go_quiet (fail)
              go_wp2
              go_ret3
              exact ⟨by rw [HR.out]; rfl, below_drewN (Below.refl _ _) _⟩
      · have hk8 : (8 : Int) < k := by omega
        have he9 : 9 ≤ endOf l := Nat.le_trans (show 9 ≤ k by omega) (endOf_ge l k hk HA.out)
        by_cases hbd : 128 ≤ b ∨ 0 < d
        · have hr : takeL l = (0, [], longE l) := by
            unfold takeL longE
            split
            · rfl
            · rw [if_pos (by omega)]
          have HR := Lib.hid hr
          clear hr he9
          rcases hbd with hb | hb
          · have hb : (128 : Int) ≤ b := by omega
            go_wp2_with fail
            refine (long_any l hl w).mono ?_
            rintro e w' ⟨rfl, rfl⟩
            go_wp2
            go_ret3
            exact ⟨by rw [HR.out]; rfl, Below.refl _ _⟩
          · have hb : (0 : Int) < d := by omega
            by_cases hb2 : (128 : Int) ≤ b
            · go_wp2_with fail
              refine (long_any l hl w).mono ?_
              rintro e w' ⟨rfl, rfl⟩
              go_wp2
              go_ret3
              exact ⟨by rw [HR.out]; rfl, Below.refl _ _⟩
            · go_wp2_with fail
              refine (long_any l hl w).mono ?_
              rintro e w' ⟨rfl, rfl⟩
              go_wp2
              go_ret3
              exact ⟨by rw [HR.out]; rfl, Below.refl _ _⟩
        · have hr : takeL l = (0, [], 3) := by
            have hb : b < 128 := by omega
            have he := endOf_eq l k hlt HA.out (by rw [HB.out]; exact hb)
            unfold takeL
            rw [he, if_neg (by omega), if_pos (by omega)]
          have HR := Lib.hid hr
          have hq : ((d : Int) == 0) = true := by simp; omega
          have hq2 : ¬ ((0 : Int) < d) := by omega
          have hq3 : ¬ ((128 : Int) ≤ b) := by omega
          have hk0 : (0 : Int) < k := by omega
          clear hr he9 hbd
          go_wp2
          go_ret3
          exact ⟨by rw [HR.out]; rfl, Below.refl _ _⟩
    · have hkl : l.length = k := by omega
      have hr : takeL l = (0, [], 2) := by
        unfold takeL
        rw [if_pos (endOf_all _ (by rw [hkl]; exact HA.out))]
      have HR := Lib.hid hr
      clear hr hkl
      go_wp2
      go_ret3
      exact ⟨by rw [HR.out]; rfl, Below.refl _ _⟩
end Go.Proofs.Ythjoamldmcnodaa
