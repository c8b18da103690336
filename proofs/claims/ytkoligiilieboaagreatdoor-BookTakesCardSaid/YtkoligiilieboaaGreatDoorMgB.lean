/- The walk through pack.Put: a number is written as the plain law says. The walks through pack.long and pack.Take: the number at the beginning is taken as the plain law says. The walks through the document's digits, Put and Take: the same numbers as the plain law. The walks through flags and texts, the program's and the document's. The walks through stamp.Right, Compare, Later, Sooner: what they make of any stamps. The walks through the document's stamps: Right, Before, Later, Sooner. The walk through pack.Numbers: several numbers, one behind the other. The walks through stamp.Take and the document's: the stamp at the beginning of any bytes. The walks through stamp.Bytes and the document's: a stamp as bytes. -/
import Derived.Test.YtkoligiilieboaaGreatDoorProg
import Derived.Test.YtkoligiilieboaaGreatDoorMgA
import Derived.Outline
import Derived.Deep.QuietTactic
import Derived.BigQuiet
import Derived.Deep.RegionHeld3
import Derived.Deep.DrawnRows
set_option linter.unusedSimpArgs false
set_option linter.unusedVariables false
namespace Go.Proofs.YtkoligiilieboaaGreatDoor
open Go.RowKit
theorem infoU8 : (Tryz.prog.info? 5).map (fun i => (i.zero, i.size, i.bytes)) = some (some (.int .u8 0), 1, 1) := by kernel_rfl
theorem putF_step (f m : Nat) (hm : 128 ≤ m) (hf : m < 128 ^ f) : ∃ f', f = f' + 1 ∧ putF f m = UInt8.ofNat (m % 128 + 128) :: putF f' (m / 128) ∧ m / 128 < 128 ^ f' := by
  cases f with
  | zero => simp at hf; omega
  | succ f =>
    refine ⟨f, rfl, ?_, ?_⟩
    · rw [putF, if_neg (by omega)]
    · rw [Nat.pow_succ] at hf; omega
theorem putF_stop (f m : Nat) (hm : m < 128) (hf : m < 128 ^ f) (h0 : 0 < f) : putF f m = [UInt8.ofNat m] := by
  cases f with
  | zero => omega
  | succ f => rw [putF, if_pos hm]
theorem or128 : ∀ x : Fin 256, x.val ||| 128 = x.val % 128 + 128 := by decide +kernel
theorem byte_or (m : Nat) : bits .or .u8 ((m : Int) % 256) 128 = (((m % 128 + 128 : Nat)) : Int) := by
  have h := u8_or_nat (m % 256) 128 (by omega) (by omega)
  have e : ((m : Int) % 256) = ((m % 256 : Nat) : Int) := by omega
  rw [e]
  refine h.trans ?_
  congr 1
  have h1 := or128 ⟨m % 256, by omega⟩
  simp only at h1
  omega
set_option maxHeartbeats 400000 in
theorem put_neg (n : Int) (h : n < 0) (w : World) : Calls Tryz.prog 96 #[.int .i64 n] w fun e w' => e = .returned (.tuple #[.string ⟨#[]⟩, .int .i64 1]) ∧ w = w' := by
  go_enter Tryz.func96, Tryz.ntmps96
  go_wp2
  go_ret2
  exact ⟨rfl, rfl⟩
def PutRel (n : Nat) (w : World) (x v : Value) (wr : World) : Prop :=
  ∃ (m f : Nat) (pre : List UInt8), x = .int .i64 m ∧ m < 128 ^ f ∧ pre.length + f = 9 ∧ 0 < f ∧ putL n = pre ++ putF f m ∧
      wr.ownsRow w.heap.size 5 1 v pre.length (pre.map bv) ∧ Below w.heap.size w wr
set_option maxHeartbeats 400000 in
set_option maxRecDepth 10000 in
theorem put_any (n : Nat) (h : n ≤ 9223372036854775807) (w : World) :
    Calls Tryz.prog 96 #[.int .i64 n] w fun e w' => e = .returned (.tuple #[.string ⟨(putL n).toArray⟩, .int .i64 0]) ∧ Below w.heap.size w w' := by
  have hn0 : ¬ ((n : Int) < 0) := by omega
  obtain ⟨i0, hi, hz0, hz1, hz2⟩ := info_parts infoU8
  have HH := Lib.hid h
  clear h
  go_enter Tryz.func96, Tryz.ntmps96
  go_wp2
  go_loopw [0, 4] (fun x v wr => PutRel n w x v wr) (fun x _ _ => (intOf x).toNat)
  case atStart => exact ⟨n, 9, [], rfl, by have := HH.out; omega, rfl, by omega, rfl, World.ownsRow_nil _ _ _ _, Below.refl _ _⟩
  case round =>
    obtain ⟨m, f, pre, rfl, hf, hpf, hf0, hput, hown, hb⟩ := hrel
    by_cases hlt : 128 ≤ m
    · obtain ⟨f', rfl, hstep, hf'⟩ := putF_step f m hlt hf
      have hbo := byte_or m
      rw [hstep] at hput
      have HP := Lib.hid hput
      have HF := Lib.hid hf
      have HF' := Lib.hid hf'
      have HL := Lib.hid hpf
      have hpl : pre.length ≤ 9 := by omega
      have hbs := hb.size
      clear hput hf hf' hpf hstep
      go_wp2_with (at_builtin; refine wpList_push (by rfl) _ _ _ (by rfl) w.heap.size 5 i0 (.int .u8 0) 1 Tryz.underlying88 hi hz0 hz1 hz2 rfl wr _ pre.length (pre.map bv) (by rfl) hown (.int .u8 ((m : Int) % 128 + 128)) rfl 1 (by rfl) (by omega) (by omega) hbs ?_; intro g cap w1 hown1 hb1)
      go_roundw
      case rel =>
        refine ⟨m / 128, f', pre ++ [UInt8.ofNat (m % 128 + 128)], by go_num, HF'.out, by have := HL.out; simp; omega, ?_, by rw [HP.out]; simp, ?_, hb.trans hb1⟩
        · have h1 := HF.out
          rcases Nat.eq_zero_or_pos f' with h0 | h0
          · subst h0; omega
          · exact h0
        · rw [List.map_append, List.length_append]
          have hbv : [UInt8.ofNat (m % 128 + 128)].map bv = [.int .u8 ((m : Int) % 128 + 128)] := by rw [List.map_cons, List.map_nil, bv_ofNat _ (by omega), show ((m % 128 + 128 : Nat) : Int) = (m : Int) % 128 + 128 from by omega]
          rw [hbv]
          exact hown1
      case measure => simp [intOf]; omega
    · have hbs := hb.size
      have hst := putF_stop f m (by omega) hf hf0
      rw [hst] at hput
      have HP := Lib.hid hput
      have HL := Lib.hid hpf
      have hpl : pre.length ≤ 9 := by omega
      have hlt : (m : Int) < 128 := by omega
      have hm0 : (m : Int) % 256 = m := by omega
      have hmc : bv (UInt8.ofNat m) = .int .u8 m := bv_ofNat m (by omega)
      clear hput hst hf hpf
      go_wp2_with (at_builtin; refine wpList_push (by rfl) _ _ _ (by rfl) w.heap.size 5 i0 (.int .u8 0) 1 Tryz.underlying88 hi hz0 hz1 hz2 rfl wr _ pre.length (pre.map bv) (by rfl) hown (.int .u8 (m : Int)) rfl 1 (by rfl) (by omega) (by omega) hbs ?_; intro g cap w1 hown1 hb1; have kc := run_conv_own (P := Tryz.prog) w1 Tryz.underlying88 Tryz.underlying5 Tryz.underlying9 (xs := pre ++ [UInt8.ofNat m]) (by rw [List.map_append, List.map_cons, List.map_nil, hmc]; exact hown1))
      go_ret2
      exact ⟨by rw [HP.out]; rfl, hb.trans hb1⟩
def putI (n : Int) : List UInt8 × Nat := if n < 0 then ([], 1) else (putL n.toNat, 0)
theorem putI_neg (n : Int) (h : n < 0) : putI n = ([], 1) := by unfold putI; rw [if_pos h]
theorem putI_nat (n : Nat) : putI (n : Int) = (putL n, 0) := by unfold putI; rw [if_neg (by omega)]; rfl
theorem put_int (n : Int) (h : n ≤ 9223372036854775807) (w : World) :
    Calls Tryz.prog 96 #[.int .i64 n] w fun e w' => e = .returned (.tuple #[.string ⟨(putI n).1.toArray⟩, .int .i64 (putI n).2]) ∧ Below w.heap.size w w' := by
  by_cases h0 : n < 0
  · rw [putI_neg n h0]
    exact (put_neg n h0 w).mono fun _ _ ⟨he, hw⟩ => ⟨he, hw ▸ Below.refl _ _⟩
  · obtain ⟨m, rfl⟩ := Int.eq_ofNat_of_zero_le (show 0 ≤ n by omega)
    rw [putI_nat]
    exact put_any m (by omega) w
end Go.Proofs.YtkoligiilieboaaGreatDoor
namespace Go.Proofs.YtkoligiilieboaaGreatDoor
open Go.RowKit
def longE (l : List UInt8) : Nat := if endOf l = l.length then 2 else 3
def LongRel (l : List UInt8) (i : Value) : Prop := ∃ k : Nat, i = .int .i64 k ∧ k ≤ l.length ∧ ∀ j, j < k → 128 ≤ byteAt l j
theorem snoc_all (l : List UInt8) (k : Nat) (h : ∀ j, j < k → 128 ≤ byteAt l j) (hb : 128 ≤ byteAt l k) : ∀ j, j < k + 1 → 128 ≤ byteAt l j := by
  intro j hj
  rcases Nat.lt_or_ge j k with h1 | h1
  · exact h j h1
  · have : j = k := by omega
    subst this; exact hb
set_option maxHeartbeats 400000 in
set_option maxRecDepth 100000 in
theorem long_any (l : List UInt8) (hl : l.length ≤ 281474976710656) (w : World) :
    Calls Tryz.prog 108 #[.string ⟨l.toArray⟩] w fun e w' => e = .returned (.int .i64 (longE l)) ∧ w = w' := by
  go_enter Tryz.func108, Tryz.ntmps108
  go_wp2
  go_loop [6] (fun i => LongRel l i) (fun i => l.length - (intOf i).toNat)
  case atStart => exact ⟨0, rfl, Nat.zero_le _, fun j hj => by omega⟩
  case round =>
    obtain ⟨k, rfl, hk, hall⟩ := hrel
    have HA := Lib.hid hall
    clear hall
    by_cases hlt : k < l.length
    · obtain ⟨b, hb⟩ : ∃ b, byteAt l k = b := ⟨_, rfl⟩
      have hix := fun w => run_at (P := Tryz.prog) w Tryz.underlying9 l k k b rfl hlt hb
      have HB := Lib.hid hb
      clear hb
      by_cases hb : b < 128
      · have hr : longE l = 3 := by
          unfold longE
          rw [endOf_eq l k hlt HA.out (by rw [HB.out]; exact hb), if_neg (by omega)]
        have HR := Lib.hid hr
        clear hr
        go_wp2
        go_ret
        exact ⟨by rw [HR.out]; rfl, rfl⟩
      · go_wp2
        go_round
        case rel => exact ⟨k + 1, by go_num, by omega, snoc_all _ k HA.out (by rw [HB.out]; omega)⟩
        case measure => simp [intOf]; omega
    · have hkl : l.length = k := by omega
      have hr : longE l = 2 := by
        unfold longE
        rw [if_pos (endOf_all _ (by rw [hkl]; exact HA.out))]
      have HR := Lib.hid hr
      clear hr hkl
      go_wp2
      go_ret
      exact ⟨by rw [HR.out]; rfl, rfl⟩
theorem pow_128 (k : Nat) : (2 : Nat) ^ (7 * k) = 128 ^ k := by rw [Nat.pow_mul]
theorem or_step (v k d : Nat) (hv : v < 128 ^ k) (hk : k ≤ 8) (hd : d < 128) :
    bits .or .i64 (v : Int) (wrap64 ((d : Int) * 2 ^ (7 * k))) = ((v + 128 ^ k * d : Nat) : Int) := by
  have h8 : 128 ^ k ≤ 128 ^ 8 := Nat.pow_le_pow_right (by omega) hk
  have hm : 128 ^ k * d ≤ 128 ^ 8 * 127 := Nat.mul_le_mul h8 (by omega)
  have e : (d : Int) * 2 ^ (7 * k) = ((128 ^ k * d : Nat) : Int) := by
    rw [← pow_128, Int.natCast_mul, Int.natCast_pow, Int.mul_comm]; rfl
  rw [e, IntWalk.wrap64_in _ (by omega), i64_or_nat v _ (by omega) (by omega)]
  congr 1
  have h := Nat.two_pow_add_eq_or_of_lt (i := 7 * k) (b := v) (by rw [pow_128]; exact hv) d
  rw [pow_128] at h
  rw [Nat.or_comm, ← h, Nat.add_comm]
theorem and_127 (b : Nat) (h : b < 256) : bits .and .u8 (b : Int) 127 = ((b % 128 : Nat) : Int) := by
  have := u8_and_nat b 127 h (by omega)
  rw [nat_mask7] at this
  exact this
def TakeRel (l : List UInt8) (n i : Value) : Prop := ∃ k : Nat, i = .int .i64 k ∧ n = .int .i64 (valL (l.take k) : Nat) ∧ k ≤ l.length ∧ k ≤ 9 ∧ ∀ j, j < k → 128 ≤ byteAt l j
set_option maxHeartbeats 800000 in
set_option maxRecDepth 100000 in
theorem take_any (l : List UInt8) (hl : l.length ≤ 281474976710656) (w : World) :
    Calls Tryz.prog 70 #[.string ⟨l.toArray⟩] w fun e w' => e = .returned (.tuple #[.int .i64 (takeL l).1, .string ⟨(takeL l).2.1.toArray⟩, .int .i64 (takeL l).2.2]) ∧ Below w.heap.size w w' := by
  go_enter Tryz.func70, Tryz.ntmps70
  go_wp2
  go_loop [5, 10] (fun n i => TakeRel l n i) (fun _ i => l.length - (intOf i).toNat)
  case atStart => exact ⟨0, rfl, rfl, Nat.zero_le _, by omega, fun j hj => by omega⟩
  case round =>
    obtain ⟨k, rfl, rfl, hk, hk9, hall⟩ := hrel
    have HA := Lib.hid hall
    clear hall
    by_cases hlt : k < l.length
    · obtain ⟨b, hb⟩ : ∃ b, byteAt l k = b := ⟨_, rfl⟩
      have hix := fun w => run_at (P := Tryz.prog) w Tryz.underlying9 l k k b rfl hlt hb
      have HB := Lib.hid hb
      have hb256 : b < 256 := by rw [← hb]; exact byteAt_lt l k
      clear hb
      obtain ⟨d, hd⟩ : ∃ d, b % 128 = d := ⟨_, rfl⟩
      have hand : bits .and .u8 (b : Int) 127 = (d : Int) := by rw [← hd]; exact and_127 b hb256
      have hd128 : d < 128 := by omega
      have HD := Lib.hid hd
      clear hd
      have hv : valL (l.take k) < 128 ^ k := by have := valL_lt (l.take k); rwa [List.length_take, Nat.min_eq_left hk] at this
      have HV := Lib.hid hv
      clear hv
      by_cases h8 : k ≤ 8
      · by_cases hb : 128 ≤ b
        · go_wp2
          go_round
          case rel =>
            refine ⟨k + 1, by go_num, int_eq ?_, by omega, by omega, snoc_all _ k HA.out (by rw [HB.out]; exact hb)⟩
            rw [or_step _ k d HV.out h8 hd128, valL_snoc l k hlt, HB.out, HD.out]
          case measure => simp [intOf]; omega
        · have hdb : d = b := by have := HD.out; omega
          have he : endOf l = k := endOf_eq l k hlt HA.out (by rw [HB.out]; omega)
          by_cases hz : d = 0 ∧ 0 < k
          · have hr : takeL l = (0, [], 3) := by
              unfold takeL
              rw [he, if_neg (by omega), if_neg (by omega), if_pos ⟨by omega, by rw [HB.out]; omega⟩]
            have HR := Lib.hid hr
            clear hr he
            obtain ⟨h0, hk0⟩ := hz
            have hq : ((d : Int) == 0) = true := by simp [h0]
            have hk0 : (0 : Int) < k := by omega
            clear h0 hdb
            go_wp2
            go_ret3
            exact ⟨by rw [HR.out]; rfl, Below.refl _ _⟩
          · have hr : takeL l = (valL (l.take k) + 128 ^ k * d, l.drop (k + 1), 0) := by
              unfold takeL
              rw [he, if_neg (by omega), if_neg (by omega), if_neg (by intro hh; exact hz ⟨by have := hh.2; rw [HB.out] at this; omega, hh.1⟩), valL_snoc l k hlt, HB.out, HD.out]
            have HR := Lib.hid hr
            have s1 := fun w => run_from (P := Tryz.prog) w Tryz.underlying9 l ((k : Int) + 1) (k + 1) (by omega) (by omega)
            have hor := or_step _ k d HV.out h8 hd128
            clear hr he
            clear hdb
            by_cases h0 : d = 0
            · have hq : ((d : Int) == 0) = true := by simp [h0]
              have hk0 : ¬ ((0 : Int) < k) := by omega
              clear hz h0
              go_wp2
              go_quiet (fail)
              go_wp2
              go_ret3
              exact ⟨by rw [HR.out]; rfl, below_drewN (Below.refl _ _) _⟩
            · have h0 : (0 : Int) < d := by omega
              have hq : ((d : Int) == 0) = false := by simp; omega
              clear hz
              go_wp2
              go_quiet (fail)
              go_wp2
              go_ret3
              exact ⟨by rw [HR.out]; rfl, below_drewN (Below.refl _ _) _⟩
      · have hk8 : (8 : Int) < k := by omega
        have he9 : 9 ≤ endOf l := Nat.le_trans (show 9 ≤ k by omega) (endOf_ge l k hk HA.out)
        by_cases hbd : 128 ≤ b ∨ 0 < d
        · have hr : takeL l = (0, [], longE l) := by
            unfold takeL longE
            split
            · rfl
            · rw [if_pos (by omega)]
          have HR := Lib.hid hr
          clear hr he9
          rcases hbd with hb | hb
          · have hb : (128 : Int) ≤ b := by omega
            go_wp2_with fail
            refine (long_any l hl w).mono ?_
            rintro e w' ⟨rfl, rfl⟩
            go_wp2
            go_ret3
            exact ⟨by rw [HR.out]; rfl, Below.refl _ _⟩
          · have hb : (0 : Int) < d := by omega
            by_cases hb2 : (128 : Int) ≤ b
            · go_wp2_with fail
              refine (long_any l hl w).mono ?_
              rintro e w' ⟨rfl, rfl⟩
              go_wp2
              go_ret3
              exact ⟨by rw [HR.out]; rfl, Below.refl _ _⟩
            · go_wp2_with fail
              refine (long_any l hl w).mono ?_
              rintro e w' ⟨rfl, rfl⟩
              go_wp2
              go_ret3
              exact ⟨by rw [HR.out]; rfl, Below.refl _ _⟩
        · have hr : takeL l = (0, [], 3) := by
            have hb : b < 128 := by omega
            have he := endOf_eq l k hlt HA.out (by rw [HB.out]; exact hb)
            unfold takeL
            rw [he, if_neg (by omega), if_pos (by omega)]
          have HR := Lib.hid hr
          have hq : ((d : Int) == 0) = true := by simp; omega
          have hq2 : ¬ ((0 : Int) < d) := by omega
          have hq3 : ¬ ((128 : Int) ≤ b) := by omega
          have hk0 : (0 : Int) < k := by omega
          clear hr he9 hbd
          go_wp2
          go_ret3
          exact ⟨by rw [HR.out]; rfl, Below.refl _ _⟩
    · have hkl : l.length = k := by omega
      have hr : takeL l = (0, [], 2) := by
        unfold takeL
        rw [if_pos (endOf_all _ (by rw [hkl]; exact HA.out))]
      have HR := Lib.hid hr
      clear hr hkl
      go_wp2
      go_ret3
      exact ⟨by rw [HR.out]; rfl, Below.refl _ _⟩
end Go.Proofs.YtkoligiilieboaaGreatDoor
namespace Go.Proofs.YtkoligiilieboaaGreatDoor
open Go.RowKit
theorem infoInt : (Tryz.prog.info? 3).map (fun i => (i.zero, i.size, i.bytes)) = some (some (.int .i64 0), 1, 8) := by kernel_rfl
def DigRel (n : Nat) (w : World) (x v : Value) (wr : World) : Prop :=
  ∃ (m f : Nat) (pre : List Nat), x = .int .i64 m ∧ m < 128 ^ f ∧ pre.length + f = 9 ∧ digF 9 n = pre ++ (if m = 0 then [] else digF f m) ∧
      wr.ownsRow w.heap.size 3 1 v pre.length (pre.map iv) ∧ Below w.heap.size w wr
theorem dig_first (n : Nat) (h : n < 128 ^ 9) : digF 9 n = [n % 128] ++ (if n / 128 = 0 then [] else digF 8 (n / 128)) := by
  rw [digF]
  by_cases hn : n < 128
  · rw [if_pos hn, if_pos (by omega)]; simp; omega
  · rw [if_neg hn, if_neg (by omega)]; rfl
theorem dig_step (f m : Nat) (hm : 0 < m) (hf : m < 128 ^ f) : ∃ f', f = f' + 1 ∧ m / 128 < 128 ^ f' ∧ (if m = 0 then [] else digF f m) = [m % 128] ++ (if m / 128 = 0 then [] else digF f' (m / 128)) := by
  cases f with
  | zero => simp at hf; omega
  | succ f =>
    refine ⟨f, rfl, by rw [Nat.pow_succ] at hf; omega, ?_⟩
    rw [if_neg (by omega), digF]
    by_cases hn : m < 128
    · rw [if_pos hn, if_pos (by omega)]; simp; omega
    · rw [if_neg hn, if_neg (by omega)]; rfl
set_option maxHeartbeats 400000 in
set_option maxRecDepth 100000 in
theorem digits_any (n : Nat) (h : n ≤ 9223372036854775807) (w : World) :
    Calls Tryz.prog 116 #[.int .i64 n] w fun e w' => ∃ g cap, e = .returned (.slice (some ⟨g, 0, none⟩) (digF 9 n).length cap) ∧
      w'.ownsRow w.heap.size 3 1 (.slice (some ⟨g, 0, none⟩) (digF 9 n).length cap) (digF 9 n).length ((digF 9 n).map iv) ∧ Below w.heap.size w w' := by
  obtain ⟨i0, hi, hz0, hz1, hz2⟩ := info_parts infoInt
  have hlit := own_lit w w.heap.size 3 [.int .i64 ((n : Int) % 128)] 1 rfl (by omega) (Nat.le_refl _)
  have HL := Lib.hid hlit
  clear hlit
  go_enter Tryz.func116, Tryz.ntmps116
  go_wp2
  go_loopw [0, 3] (fun x v wr => DigRel n w x v wr) (fun x _ _ => (intOf x).toNat)
  case atStart =>
    refine ⟨n / 128, 8, [n % 128], by go_num, by omega, rfl, dig_first n (by omega), ?_, (Below.refl _ _).alloc (Nat.le_refl _) _⟩
    have := HL.out
    simpa [iv] using this
  case round =>
    obtain ⟨m, f, pre, rfl, hf, hpf, hput, hown, hb⟩ := hrel
    have hm63 : m ≤ 9223372036854775807 := by
      have := Nat.pow_le_pow_right (show 0 < 128 by omega) (show f ≤ 9 by omega)
      omega
    by_cases hlt : 0 < m
    · obtain ⟨f', rfl, hf', hstep⟩ := dig_step f m hlt hf
      rw [hstep] at hput
      have HP := Lib.hid hput
      have HF' := Lib.hid hf'
      have HL := Lib.hid hpf
      have hpl : pre.length ≤ 9 := by omega
      have hbs := hb.size
      clear hput hf hf' hpf hstep
      go_wp2_with (at_builtin; refine wpList_push (by rfl) _ _ _ (by rfl) w.heap.size 3 i0 (.int .i64 0) 8 Tryz.underlying49 hi hz0 hz1 hz2 rfl wr _ pre.length (pre.map iv) (by rfl) hown (.int .i64 ((m : Int) % 128)) rfl 1 (by rfl) (by omega) (by omega) hbs ?_; intro g cap w1 hown1 hb1)
      go_roundw
      case rel =>
        refine ⟨m / 128, f', pre ++ [m % 128], by go_num, HF'.out, by have := HL.out; simp; omega, by rw [HP.out]; simp, ?_, hb.trans hb1⟩
        rw [List.map_append, List.length_append]
        exact hown1
      case measure => simp [intOf]; omega
    · have hm : m = 0 := by omega
      rw [if_pos hm, List.append_nil] at hput
      have hne : 0 < pre.length := by
        rw [← hput, digF]; split <;> simp
      have hform := hown.form hne
      have HP := Lib.hid hput
      have HO := Lib.hid hown
      have HF := Lib.hid hform
      clear hput hf hpf hown hform hm
      go_wp2
      go_ret
      obtain ⟨g, cap, hv, _⟩ := HF.out
      refine ⟨g, cap, ?_, ?_, hb⟩
      · rw [HP.out, ← hv]; rfl
      · rw [HP.out, ← hv]; exact HO.out
theorem row_cell {w : World} {base e g n cap : Nat} {xs : List Value} (h : w.ownsRow base e 1 (.slice (some ⟨g, 0, none⟩) n cap) n xs) (k : Nat) (u : Value) (hk : xs[k]? = some u) : w.cell? ⟨g, k, none⟩ = some u := by
  have hc := h.cells (g := g) rfl k u hk
  have ha : (⟨g, 0, none⟩ : Addr).add k = ⟨g, k, none⟩ := by unfold Addr.add; split <;> simp_all
  rwa [ha] at hc
attribute [local go_sem] ByteArray.mk_append_mk
def RPutRel (n : Nat) (w : World) (g cap : Nat) (i s : Value) (wr : World) : Prop :=
  ∃ k : Nat, i = .int .i64 k ∧ k ≤ (digF 9 n).length ∧ s = .string ⟨((putL n).take k).toArray⟩ ∧
    wr.ownsRow w.heap.size 3 1 (.slice (some ⟨g, 0, none⟩) (digF 9 n).length cap) (digF 9 n).length ((digF 9 n).map iv) ∧ Below w.heap.size w wr
set_option maxHeartbeats 400000 in
set_option maxRecDepth 100000 in
theorem refput_neg (n : Int) (h : n < 0) (w : World) : Calls Tryz.prog 91 #[.int .i64 n] w fun e w' => e = .returned (.tuple #[.string ⟨#[]⟩, .int .i64 1]) ∧ w = w' := by
  go_enter Tryz.func91, Tryz.ntmps91
  go_wp2
  go_ret2
  exact ⟨rfl, rfl⟩
set_option maxHeartbeats 800000 in
set_option maxRecDepth 100000 in
theorem refput_any (n : Nat) (h : n ≤ 9223372036854775807) (w : World) :
    Calls Tryz.prog 91 #[.int .i64 n] w fun e w' => e = .returned (.tuple #[.string ⟨(putL n).toArray⟩, .int .i64 0]) ∧ Below w.heap.size w w' := by
  have hn0 : ¬ ((n : Int) < 0) := by omega
  have hlen9 : (digF 9 n).length ≤ 9 := by rw [← putF_dig]; exact putF_len 9 n
  have hlenp : (digF 9 n).length = (putL n).length := (putF_dig 9 n).symm
  have HP := Lib.hid hlenp
  clear hlenp
  have kc := fun (w : World) (cap : Nat) (a : Int) => run_conv1 (P := Tryz.prog) w Tryz.underlying88 Tryz.underlying5 Tryz.underlying9 cap a
  go_enter Tryz.func91, Tryz.ntmps91
  go_wp2_with fail
  refine (digits_any n h w).mono ?_
  rintro e w1 ⟨g, cap, rfl, hown1, hb1⟩
  have HO := Lib.hid hown1
  clear hown1
  go_wp2
  go_loopw [5, 6, 7] (fun s i _ wr => RPutRel n w g cap i s wr) (fun _ i _ _ => (digF 9 n).length - (intOf i).toNat)
  case atStart => exact ⟨0, rfl, Nat.zero_le _, rfl, HO.out, hb1⟩
  case round =>
    obtain ⟨k, rfl, hk, rfl, hown, hb⟩ := hrel
    have HW := Lib.hid hown
    by_cases hlt : k < (digF 9 n).length
    · have hd := digF_lt 9 n ((digF 9 n)[k]) (List.getElem_mem hlt)
      have hat := putF_at 9 n k (by omega) hlt
      rw [List.getElem?_eq_getElem hlt, Option.getD_some] at hat
      have hcell := row_cell hown k (iv (digF 9 n)[k]) (by simp [hlt])
      generalize (digF 9 n)[k] = d at *
      unfold iv at hcell
      have HA := Lib.hid hat
      have htk : (putL n).take (k + 1) = (putL n).take k ++ ((putL n)[k]?).toList := List.take_add_one
      have HT := Lib.hid htk
      have htl : ((putL n).take k).length ≤ 9 := by rw [List.length_take]; omega
      clear hown hat htk
      by_cases hl : k + 1 < (digF 9 n).length
      · have hl' : (k : Int) < ((digF 9 n).length : Int) - 1 := by omega
        go_wp2
        go_roundw
        case rel =>
          refine ⟨k + 1, by go_num, by omega, ?_, HW.out.alloc _, hb.alloc hb.size _⟩
          have h1 := HA.out
          rw [if_pos hl] at h1
          rw [HT.out]
          unfold putL at *
          rw [h1]
          simp
        case measure => simp [intOf]; omega
      · have hl' : ¬ ((k : Int) < ((digF 9 n).length : Int) - 1) := by omega
        go_wp2
        go_roundw
        case rel =>
          refine ⟨k + 1, by go_num, by omega, ?_, HW.out.alloc _, hb.alloc hb.size _⟩
          have h1 := HA.out
          rw [if_neg hl] at h1
          rw [HT.out]
          unfold putL at *
          rw [h1]
          simp
        case measure => simp [intOf]; omega
    · have hk' : k = (putL n).length := by rw [← HP.out]; omega
      have HK := Lib.hid hk'
      clear hk' hown
      go_wp2
      go_ret2
      exact ⟨by rw [HK.out]; simp, hb⟩
def ETakeRel (l : List UInt8) (i : Value) : Prop := ∃ k : Nat, i = .int .i64 k ∧ k ≤ l.length ∧ ∀ j, j < k → 128 ≤ byteAt l j
def VTakeRel (l : List UInt8) (e : Nat) (n i : Value) : Prop :=
  (∃ k : Nat, i = .int .i64 k ∧ k ≤ e ∧ n = .int .i64 (valL ((l.take (e + 1)).drop (k + 1)) : Nat)) ∨ (i = .int .i64 (-1) ∧ n = .int .i64 (valL (l.take (e + 1)) : Nat))
theorem val_down (l : List UInt8) (e k : Nat) (hk : k < e + 1) (he : e < l.length) : valL ((l.take (e + 1)).drop k) = byteAt l k % 128 + 128 * valL ((l.take (e + 1)).drop (k + 1)) := by
  have hlt : k < (l.take (e + 1)).length := by simp; omega
  rw [List.drop_eq_getElem_cons hlt, valL]
  congr 1
  have : byteAt (l.take (e + 1)) k = byteAt l k := byteAt_take l _ _ hk
  rw [← this]
  unfold byteAt
  rw [List.getElem?_eq_getElem hlt]; rfl
theorem val_small (l : List UInt8) (e k : Nat) (he : e ≤ 8) : valL ((l.take (e + 1)).drop (k + 1)) ≤ 72057594037927935 := by
  have := valL_lt ((l.take (e + 1)).drop (k + 1))
  have h2 : 128 ^ ((l.take (e + 1)).drop (k + 1)).length ≤ 128 ^ 8 := Nat.pow_le_pow_right (by omega) (by simp; omega)
  omega
theorem put_same (l : List UInt8) (k : Nat) (hlt : k < l.length) (h8 : k ≤ 8) (he : endOf l = k) :
    (!(putL (valL (l.take (k + 1))) == l.take (k + 1))) = decide (0 < k ∧ byteAt l k = 0) := by
  by_cases hz : 0 < k ∧ byteAt l k = 0
  · rw [decide_eq_true hz]
    have hne : putL (valL (l.take (k + 1))) ≠ l.take (k + 1) := by
      intro h
      have hm : valL (l.take (k + 1)) < 2 ^ 63 := by
        have := valL_lt (l.take (k + 1))
        have h2 : 128 ^ (l.take (k + 1)).length ≤ 128 ^ 9 := Nat.pow_le_pow_right (by omega) (by simp; omega)
        omega
      have h1 := take_put (valL (l.take (k + 1))) (l.drop (k + 1)) hm
      rw [h, List.take_append_drop] at h1
      have h3 : takeL l = (0, [], 3) := by
        unfold takeL
        rw [he, if_neg (by omega), if_neg (by omega), if_pos hz]
      rw [h3] at h1
      simp at h1
    simp [hne]
  · rw [decide_eq_false hz]
    have hl1 : (l.take (k + 1)).length = k + 1 := by simp; omega
    have heq : putL (valL (l.take (k + 1))) = l.take (k + 1) := by
      refine put_val _ 9 (by intro h; rw [h] at hl1; simp at hl1) (by omega) (fun j hj => ?_) ?_ (fun hgt => ?_)
      · rw [byteAt_take _ _ _ (by omega)]; exact endOf_before l j (by omega)
      · rw [hl1, Nat.add_sub_cancel, byteAt_take _ _ _ (by omega), ← he]; exact endOf_at l (by omega)
      · rw [hl1, Nat.add_sub_cancel, byteAt_take _ _ _ (by omega)]
        intro h0; exact hz ⟨by omega, h0⟩
    simp [heq]
set_option maxHeartbeats 800000 in
set_option maxRecDepth 100000 in
theorem reftake_any (l : List UInt8) (hl : l.length ≤ 281474976710656) (w : World) :
    Calls Tryz.prog 73 #[.string ⟨l.toArray⟩] w fun e w' => e = .returned (.tuple #[.int .i64 (takeL l).1, .string ⟨(takeL l).2.1.toArray⟩, .int .i64 (takeL l).2.2]) ∧ Below w.heap.size w w' := by
  go_enter Tryz.func73, Tryz.ntmps73
  go_wp2
  go_loop [5] (fun i => ETakeRel l i) (fun i => l.length - (intOf i).toNat)
  case atStart => exact ⟨0, rfl, Nat.zero_le _, fun j hj => by omega⟩
  case round =>
    obtain ⟨k, rfl, hk, hall⟩ := hrel
    have HA := Lib.hid hall
    clear hall
    by_cases hlt : k < l.length
    · obtain ⟨b, hb⟩ : ∃ b, byteAt l k = b := ⟨_, rfl⟩
      have hix := fun w => run_at (P := Tryz.prog) w Tryz.underlying9 l k k b rfl hlt hb
      have HB := Lib.hid hb
      clear hb
      by_cases hb : 128 ≤ b
      · go_wp2
        go_round
        case rel => exact ⟨k + 1, by go_num, by omega, snoc_all l k HA.out (by rw [HB.out]; exact hb)⟩
        case measure => simp [intOf]; omega
      · have he : endOf l = k := endOf_eq l k hlt HA.out (by rw [HB.out]; omega)
        have hq : ((k : Int) == (l.length : Int)) = false := by simp; omega
        by_cases h8 : 8 < k
        · have hr : takeL l = (0, [], 3) := by unfold takeL; rw [he, if_neg (by omega), if_pos (by omega)]
          have HR := Lib.hid hr
          have h8 : (8 : Int) < k := by omega
          clear hr he
          go_wp2
          go_ret3
          exact ⟨by rw [HR.out]; rfl, Below.refl _ _⟩
        · have HE := Lib.hid he
          have h8' : ¬ ((8 : Int) < k) := by omega
          have hps := put_same l k hlt (by omega) he
          obtain ⟨tk, htk⟩ : ∃ tk, tk = l.take (k + 1) := ⟨_, rfl⟩
          have HTK := Lib.hid htk
          rw [← htk] at hps
          obtain ⟨m, hm⟩ : ∃ m, m = valL tk := ⟨_, rfl⟩
          have hm63 : m ≤ 9223372036854775807 := by
            rw [hm, htk]
            have := valL_lt (l.take (k + 1))
            have h2 : 128 ^ (l.take (k + 1)).length ≤ 128 ^ 9 := Nat.pow_le_pow_right (by omega) (by simp; omega)
            omega
          rw [← hm] at hps
          obtain ⟨pm, hpm⟩ : ∃ pm, pm = putL m := ⟨_, rfl⟩
          rw [← hpm] at hps
          have HPM := Lib.hid hpm
          have HM := Lib.hid hm
          have HPS := Lib.hid hps
          have s2 := fun w => run_to (P := Tryz.prog) w Tryz.underlying9 l ((k : Int) + 1) (k + 1) (by omega) (by omega)
          rw [← htk] at s2
          have s1 := fun w => run_from (P := Tryz.prog) w Tryz.underlying9 l ((k : Int) + 1) (k + 1) (by omega) (by omega)
          clear he hps htk hm hpm
          go_wp2
          go_loop [6, 7] (fun n i => VTakeRel l k n i) (fun _ i => (intOf i + 1).toNat)
          case atStart =>
            refine .inl ⟨k, rfl, Nat.le_refl _, ?_⟩
            have : (l.take (k + 1)).drop (k + 1) = [] := List.drop_of_length_le (by simp; omega)
            rw [this]; rfl
          case round =>
            rcases hrel with ⟨j, rfl, hj, rfl⟩ | ⟨rfl, rfl⟩
            · obtain ⟨c, hc⟩ : ∃ c, byteAt l j = c := ⟨_, rfl⟩
              have hiy := fun w => run_at (P := Tryz.prog) w Tryz.underlying9 l j j c rfl (by omega) hc
              have hc256 : c < 256 := by rw [← hc]; exact byteAt_lt l j
              have HC := Lib.hid hc
              have hv := val_small l k j (by omega)
              have hdn := val_down l k j (by omega) hlt
              rw [hc] at hdn
              generalize valL ((l.take (k + 1)).drop (j + 1)) = v at *
              have HDN := Lib.hid hdn
              clear hc hdn
              go_wp2
              go_round
              case rel =>
                cases j with
                | zero => exact .inr ⟨by go_num, int_eq (by have := HDN.out; rw [List.drop_zero] at this; rw [this]; omega)⟩
                | succ j => exact .inl ⟨j, by go_num, by omega, int_eq (by rw [HDN.out]; omega)⟩
              case measure => simp [intOf]
            · have hvm : valL (l.take (k + 1)) = m := by rw [← HTK.out]; exact HM.out.symm
              rw [hvm]
              clear hvm
              go_wp2_with fail
              refine (refput_any m hm63 w).mono ?_
              rintro e w1 ⟨rfl, hb1⟩
              rw [← HPM.out]
              by_cases hz : 0 < k ∧ byteAt l k = 0
              · have hps := HPS.out
                rw [decide_eq_true hz] at hps
                have hr : takeL l = (0, [], 3) := by
                  unfold takeL
                  rw [HE.out, if_neg (by omega), if_neg (by omega), if_pos hz]
                have HR := Lib.hid hr
                clear hr hz
                go_wp2
                go_ret3
                exact ⟨by rw [HR.out]; rfl, hb1⟩
              · have hps := HPS.out
                rw [decide_eq_false hz] at hps
                have hr : takeL l = (m, l.drop (k + 1), 0) := by
                  unfold takeL
                  rw [HE.out, if_neg (by omega), if_neg (by omega), if_neg hz, HM.out, HTK.out]
                have HR := Lib.hid hr
                clear hr hz
                go_wp2
                go_quiet (fail)
                go_wp2
                go_ret3
                exact ⟨by rw [HR.out]; rfl, below_drewN hb1 _⟩
    · have hkl : l.length = k := by omega
      have hr : takeL l = (0, [], 2) := by
        unfold takeL
        rw [if_pos (endOf_all _ (by rw [hkl]; exact HA.out))]
      have HR := Lib.hid hr
      have hq : ((k : Int) == (l.length : Int)) = true := by simp; omega
      clear hr hkl
      go_wp2
      go_ret3
      exact ⟨by rw [HR.out]; rfl, Below.refl _ _⟩
end Go.Proofs.YtkoligiilieboaaGreatDoor
namespace Go.Proofs.YtkoligiilieboaaGreatDoor
open Go.RowKit
attribute [local go_sem] ByteArray.mk_append_mk
theorem take_rest_len (l : List UInt8) : (takeL l).2.1.length ≤ l.length := by
  unfold takeL
  split
  · simp
  split
  · simp
  split
  · simp
  · simp
set_option maxHeartbeats 400000 in
set_option maxRecDepth 100000 in
theorem flag_any (on : Bool) (w : World) : Calls Tryz.prog 99 #[.bool on] w fun e w' => e = .returned (.string ⟨(flagL on).toArray⟩) ∧ Below w.heap.size w w' := by
  have kc := fun (w : World) (cap : Nat) (a : Int) => run_conv1 (P := Tryz.prog) w Tryz.underlying88 Tryz.underlying5 Tryz.underlying9 cap a
  cases on
  all_goals
    go_enter Tryz.func99, Tryz.ntmps99
    go_wp2
    go_ret
    first | exact ⟨rfl, Below.refl _ _⟩ | exact ⟨rfl, (Below.refl _ _).alloc (Nat.le_refl _) _⟩
set_option maxHeartbeats 400000 in
set_option maxRecDepth 100000 in
theorem takeflag_any (l : List UInt8) (hl : l.length ≤ 281474976710656) (w : World) :
    Calls Tryz.prog 75 #[.string ⟨l.toArray⟩] w fun e w' => e = .returned (.tuple #[.bool (takeFlagL l).1, .string ⟨(takeFlagL l).2.1.toArray⟩, .int .i64 (takeFlagL l).2.2]) ∧ Below w.heap.size w w' := by
  cases l with
  | nil =>
    go_enter Tryz.func75, Tryz.ntmps75
    go_wp2
    go_ret3
    exact ⟨rfl, Below.refl _ _⟩
  | cons b r =>
    obtain ⟨c, hc⟩ : ∃ c, b.toNat = c := ⟨_, rfl⟩
    have hix : ∀ w, (Instr.index 9 (.string ⟨(b :: r).toArray⟩) (.int .i64 0)).run Tryz.prog w = .ok (.int .u8 (c : Int)) w := fun w => run_at (P := Tryz.prog) w Tryz.underlying9 (b :: r) 0 0 c rfl (by simp) (by simpa using hc)
    have s1 : ∀ w, (Instr.slice 9 (.string ⟨(b :: r).toArray⟩) (some (.int .i64 1)) none none).run Tryz.prog w = .ok (.string ⟨r.toArray⟩) w := fun w => run_from (P := Tryz.prog) w Tryz.underlying9 (b :: r) 1 1 rfl (by simp)
    obtain ⟨z, hz⟩ : ∃ z, z = b :: r := ⟨_, rfl⟩
    have hne : z.isEmpty = false := by rw [hz]; rfl
    have hne2 : (z == []) = false := by rw [hz]; rfl
    have hne3 : ((z.length : Int) == 0) = false := by rw [hz]; simp; omega
    rw [← hz] at hix s1 hl ⊢
    have HZ := Lib.hid hz
    have HC := Lib.hid hc
    clear hz hc
    by_cases h1 : 1 < c
    · have hr : takeFlagL z = (false, [], 3) := by rw [HZ.out, takeFlagL, if_pos (by rw [HC.out]; exact h1)]
      have HR := Lib.hid hr
      clear hr
      go_enter Tryz.func75, Tryz.ntmps75
      go_wp2
      go_ret3
      exact ⟨by rw [HR.out]; rfl, Below.refl _ _⟩
    · have hr : takeFlagL z = (((c : Int) == 1), r, 0) := by
        rw [HZ.out, takeFlagL, if_neg (by rw [HC.out]; exact h1), HC.out]
        have : (c == 1) = ((c : Int) == 1) := by
          by_cases h : c = 1
          · subst h; rfl
          · have h2 : ¬ ((c : Int) = 1) := by omega
            rw [beq_eq_false_iff_ne.2 h, beq_eq_false_iff_ne.2 h2]
        rw [this]
      have HR := Lib.hid hr
      clear hr
      go_enter Tryz.func75, Tryz.ntmps75
      go_wp2
      go_quiet (fail)
      go_wp2
      go_ret3
      exact ⟨by rw [HR.out]; rfl, below_drewN (Below.refl _ _) _⟩
set_option maxHeartbeats 400000 in
set_option maxRecDepth 100000 in
theorem text_any (l : List UInt8) (hl : l.length ≤ 281474976710656) (w : World) : Calls Tryz.prog 98 #[.string ⟨l.toArray⟩] w fun e w' => e = .returned (.string ⟨(textL l).toArray⟩) ∧ Below w.heap.size w w' := by
  have hp := putL_len l.length
  have hx : textL l = putL l.length ++ l := rfl
  have HX := Lib.hid hx
  clear hx
  go_enter Tryz.func98, Tryz.ntmps98
  go_wp2_with fail
  refine (put_any l.length (by omega) w).mono ?_
  rintro e w1 ⟨rfl, hb1⟩
  go_wp2
  go_ret
  exact ⟨by rw [HX.out]; rfl, hb1⟩
set_option maxHeartbeats 400000 in
set_option maxRecDepth 100000 in
theorem taketext_any (l : List UInt8) (hl : l.length ≤ 281474976710656) (w : World) :
    Calls Tryz.prog 74 #[.string ⟨l.toArray⟩] w fun e w' => e = .returned (.tuple #[.string ⟨(takeTextL l).1.toArray⟩, .string ⟨(takeTextL l).2.1.toArray⟩, .int .i64 (takeTextL l).2.2]) ∧ Below w.heap.size w w' := by
  obtain ⟨n, r, e, ht⟩ : ∃ n r e, takeL l = (n, r, e) := ⟨_, _, _, rfl⟩
  have HT := Lib.hid ht
  have hr := take_rest_len l
  rw [ht] at hr
  simp only at hr
  by_cases he : e = 0
  · subst he
    have hnn := (take_ok l n r ht).1
    by_cases hn : r.length < n
    · have hq : takeTextL l = ([], [], 2) := by unfold takeTextL; rw [ht]; simp [hn]
      have HQ := Lib.hid hq
      clear hq ht hnn
      go_enter Tryz.func74, Tryz.ntmps74
      go_wp2_with fail
      refine (take_any l hl w).mono ?_
      rintro e w1 ⟨rfl, hb1⟩
      rw [HT.out]
      go_wp2
      go_ret3
      exact ⟨by rw [HQ.out]; rfl, hb1⟩
    · have hq : takeTextL l = (r.take n, r.drop n, 0) := by unfold takeTextL; rw [ht]; simp [hn]
      have HQ := Lib.hid hq
      have s1 := fun w => run_from (P := Tryz.prog) w Tryz.underlying9 r (n : Int) n rfl (by omega)
      have s2 := fun w => run_to (P := Tryz.prog) w Tryz.underlying9 r (n : Int) n rfl (by omega)
      clear hq ht hnn
      go_enter Tryz.func74, Tryz.ntmps74
      go_wp2_with fail
      refine (take_any l hl w).mono ?_
      rintro e w1 ⟨rfl, hb1⟩
      rw [HT.out]
      go_wp2
      go_quiet (fail)
      go_wp2
      go_ret3
      exact ⟨by rw [HQ.out]; rfl, below_drewN hb1 _⟩
  · have hq : takeTextL l = ([], [], e) := by unfold takeTextL; rw [ht]; simp [he]
    have HQ := Lib.hid hq
    have he' : (!((e : Int) == 0)) = true := by simp; omega
    have he'' : ((e : Int) != 0) = true := he'
    clear hq ht he
    go_enter Tryz.func74, Tryz.ntmps74
    go_wp2_with fail
    refine (take_any l hl w).mono ?_
    rintro e w1 ⟨rfl, hb1⟩
    rw [HT.out]
    go_wp2
    go_ret3
    exact ⟨by rw [HQ.out]; rfl, hb1⟩
set_option maxHeartbeats 400000 in
set_option maxRecDepth 100000 in
theorem refflag_any (on : Bool) (w : World) : Calls Tryz.prog 94 #[.bool on] w fun e w' => e = .returned (.string ⟨(flagL on).toArray⟩) ∧ Below w.heap.size w w' := by
  have kc := fun (w : World) (cap : Nat) (a : Int) => run_conv1 (P := Tryz.prog) w Tryz.underlying88 Tryz.underlying5 Tryz.underlying9 cap a
  cases on
  all_goals
    go_enter Tryz.func94, Tryz.ntmps94
    go_wp2
    go_ret
    first | exact ⟨rfl, Below.refl _ _⟩ | exact ⟨rfl, (Below.refl _ _).alloc (Nat.le_refl _) _⟩
set_option maxHeartbeats 400000 in
set_option maxRecDepth 100000 in
theorem reftakeflag_any (l : List UInt8) (hl : l.length ≤ 281474976710656) (w : World) :
    Calls Tryz.prog 80 #[.string ⟨l.toArray⟩] w fun e w' => e = .returned (.tuple #[.bool (takeFlagL l).1, .string ⟨(takeFlagL l).2.1.toArray⟩, .int .i64 (takeFlagL l).2.2]) ∧ Below w.heap.size w w' := by
  cases l with
  | nil =>
    go_enter Tryz.func80, Tryz.ntmps80
    go_wp2
    go_ret3
    exact ⟨rfl, Below.refl _ _⟩
  | cons b r =>
    obtain ⟨c, hc⟩ : ∃ c, b.toNat = c := ⟨_, rfl⟩
    have hix : ∀ w, (Instr.index 9 (.string ⟨(b :: r).toArray⟩) (.int .i64 0)).run Tryz.prog w = .ok (.int .u8 (c : Int)) w := fun w => run_at (P := Tryz.prog) w Tryz.underlying9 (b :: r) 0 0 c rfl (by simp) (by simpa using hc)
    have s1 : ∀ w, (Instr.slice 9 (.string ⟨(b :: r).toArray⟩) (some (.int .i64 1)) none none).run Tryz.prog w = .ok (.string ⟨r.toArray⟩) w := fun w => run_from (P := Tryz.prog) w Tryz.underlying9 (b :: r) 1 1 rfl (by simp)
    obtain ⟨z, hz⟩ : ∃ z, z = b :: r := ⟨_, rfl⟩
    have hne : z.isEmpty = false := by rw [hz]; rfl
    have hne2 : (z == []) = false := by rw [hz]; rfl
    have hne3 : ((z.length : Int) == 0) = false := by rw [hz]; simp; omega
    rw [← hz] at hix s1 hl ⊢
    have HZ := Lib.hid hz
    have HC := Lib.hid hc
    clear hz hc
    by_cases h1 : 1 < c
    · have hr : takeFlagL z = (false, [], 3) := by rw [HZ.out, takeFlagL, if_pos (by rw [HC.out]; exact h1)]
      have HR := Lib.hid hr
      clear hr
      go_enter Tryz.func80, Tryz.ntmps80
      go_wp2
      go_ret3
      exact ⟨by rw [HR.out]; rfl, Below.refl _ _⟩
    · have hr : takeFlagL z = (((c : Int) == 1), r, 0) := by
        rw [HZ.out, takeFlagL, if_neg (by rw [HC.out]; exact h1), HC.out]
        have : (c == 1) = ((c : Int) == 1) := by
          by_cases h : c = 1
          · subst h; rfl
          · have h2 : ¬ ((c : Int) = 1) := by omega
            rw [beq_eq_false_iff_ne.2 h, beq_eq_false_iff_ne.2 h2]
        rw [this]
      have HR := Lib.hid hr
      clear hr
      go_enter Tryz.func80, Tryz.ntmps80
      go_wp2
      go_quiet (fail)
      go_wp2
      go_ret3
      exact ⟨by rw [HR.out]; rfl, below_drewN (Below.refl _ _) _⟩
set_option maxHeartbeats 400000 in
set_option maxRecDepth 100000 in
theorem reftext_any (l : List UInt8) (hl : l.length ≤ 281474976710656) (w : World) : Calls Tryz.prog 92 #[.string ⟨l.toArray⟩] w fun e w' => e = .returned (.string ⟨(textL l).toArray⟩) ∧ Below w.heap.size w w' := by
  have hp := putL_len l.length
  have hx : textL l = putL l.length ++ l := rfl
  have HX := Lib.hid hx
  clear hx
  go_enter Tryz.func92, Tryz.ntmps92
  go_wp2_with fail
  refine (refput_any l.length (by omega) w).mono ?_
  rintro e w1 ⟨rfl, hb1⟩
  go_wp2
  go_ret
  exact ⟨by rw [HX.out]; rfl, hb1⟩
set_option maxHeartbeats 400000 in
set_option maxRecDepth 100000 in
theorem reftaketext_any (l : List UInt8) (hl : l.length ≤ 281474976710656) (w : World) :
    Calls Tryz.prog 79 #[.string ⟨l.toArray⟩] w fun e w' => e = .returned (.tuple #[.string ⟨(takeTextL l).1.toArray⟩, .string ⟨(takeTextL l).2.1.toArray⟩, .int .i64 (takeTextL l).2.2]) ∧ Below w.heap.size w w' := by
  obtain ⟨n, r, e, ht⟩ : ∃ n r e, takeL l = (n, r, e) := ⟨_, _, _, rfl⟩
  have HT := Lib.hid ht
  have hr := take_rest_len l
  rw [ht] at hr
  simp only at hr
  by_cases he : e = 0
  · subst he
    have hnn := (take_ok l n r ht).1
    by_cases hn : r.length < n
    · have hq : takeTextL l = ([], [], 2) := by unfold takeTextL; rw [ht]; simp [hn]
      have HQ := Lib.hid hq
      clear hq ht hnn
      go_enter Tryz.func79, Tryz.ntmps79
      go_wp2_with fail
      refine (reftake_any l hl w).mono ?_
      rintro e w1 ⟨rfl, hb1⟩
      rw [HT.out]
      go_wp2
      go_ret3
      exact ⟨by rw [HQ.out]; rfl, hb1⟩
    · have hq : takeTextL l = (r.take n, r.drop n, 0) := by unfold takeTextL; rw [ht]; simp [hn]
      have HQ := Lib.hid hq
      have s1 := fun w => run_from (P := Tryz.prog) w Tryz.underlying9 r (n : Int) n rfl (by omega)
      have s2 := fun w => run_to (P := Tryz.prog) w Tryz.underlying9 r (n : Int) n rfl (by omega)
      clear hq ht hnn
      go_enter Tryz.func79, Tryz.ntmps79
      go_wp2_with fail
      refine (reftake_any l hl w).mono ?_
      rintro e w1 ⟨rfl, hb1⟩
      rw [HT.out]
      go_wp2
      go_quiet (fail)
      go_wp2
      go_ret3
      exact ⟨by rw [HQ.out]; rfl, below_drewN hb1 _⟩
  · have hq : takeTextL l = ([], [], e) := by unfold takeTextL; rw [ht]; simp [he]
    have HQ := Lib.hid hq
    have he' : (!((e : Int) == 0)) = true := by simp; omega
    have he'' : ((e : Int) != 0) = true := he'
    clear hq ht he
    go_enter Tryz.func79, Tryz.ntmps79
    go_wp2_with fail
    refine (reftake_any l hl w).mono ?_
    rintro e w1 ⟨rfl, hb1⟩
    rw [HT.out]
    go_wp2
    go_ret3
    exact ⟨by rw [HQ.out]; rfl, hb1⟩
end Go.Proofs.YtkoligiilieboaaGreatDoor
namespace Go.Proofs.YtkoligiilieboaaGreatDoor
open Go.RowKit
attribute [local go_sem ↓] Go.wp_at_zero Go.wp_at_succ
abbrev stampV (a t n : Int) : Value := .agg #[.int .i64 a, .int .i64 t, .int .i64 n]
def withinB (n most : Int) : Bool := decide (0 ≤ n) && decide (n ≤ most)
def rightB (a t n : Int) : Bool := withinB a 1099511627776 && withinB t 1048576 && withinB n 255
set_option maxHeartbeats 400000 in
set_option maxRecDepth 100000 in
theorem within_any (n m : Int) (w : World) : Calls Tryz.prog 104 #[.int .i64 n, .int .i64 m] w fun e w' => e = .returned (.bool (withinB n m)) ∧ w = w' := by
  by_cases h0 : 0 ≤ n
  · by_cases h1 : n ≤ m
    · have hr : withinB n m = true := by simp [withinB, h0, h1]
      have HR := Lib.hid hr
      clear hr
      go_enter Tryz.func104, Tryz.ntmps104
      go_wp2
      go_ret
      exact ⟨by rw [HR.out]; rfl, rfl⟩
    · have hr : withinB n m = false := by simp [withinB, h1]
      have HR := Lib.hid hr
      clear hr
      go_enter Tryz.func104, Tryz.ntmps104
      go_wp2
      go_ret
      exact ⟨by rw [HR.out]; rfl, rfl⟩
  · have hr : withinB n m = false := by simp [withinB, h0]
    have HR := Lib.hid hr
    clear hr
    go_enter Tryz.func104, Tryz.ntmps104
    go_wp2
    go_ret
    exact ⟨by rw [HR.out]; rfl, rfl⟩
set_option maxHeartbeats 400000 in
set_option maxRecDepth 100000 in
theorem right_any (a t n : Int) (w : World) : Calls Tryz.prog 64 #[stampV a t n] w fun e w' => e = .returned (.bool (rightB a t n)) ∧ Below w.heap.size w w' := by
  have hr : rightB a t n = (withinB a 1099511627776 && withinB t 1048576 && withinB n 255) := rfl
  have HR := Lib.hid hr
  clear hr
  generalize h1 : withinB a 1099511627776 = b1 at HR
  generalize h2 : withinB t 1048576 = b2 at HR
  generalize h3 : withinB n 255 = b3 at HR
  have H1 := Lib.hid h1
  have H2 := Lib.hid h2
  have H3 := Lib.hid h3
  clear h1 h2 h3
  have wn := fun (n m : Int) (w : World) => within_any n m w
  cases b1
  · go_enter Tryz.func64, Tryz.ntmps64
    go_wp2_with fail
    refine (within_any a 1099511627776 _).mono ?_
    rintro e w' ⟨rfl, rfl⟩
    rw [H1.out]
    go_wp2
    go_ret
    exact ⟨by rw [HR.out]; rfl, (Below.refl _ _).alloc (Nat.le_refl _) _⟩
  · cases b2
    · go_enter Tryz.func64, Tryz.ntmps64
      go_wp2_with fail
      refine (within_any a 1099511627776 _).mono ?_
      rintro e w' ⟨rfl, rfl⟩
      rw [H1.out]
      go_wp2_with fail
      refine (within_any t 1048576 _).mono ?_
      rintro e w' ⟨rfl, rfl⟩
      rw [H2.out]
      go_wp2
      go_ret
      exact ⟨by rw [HR.out]; rfl, (Below.refl _ _).alloc (Nat.le_refl _) _⟩
    · go_enter Tryz.func64, Tryz.ntmps64
      go_wp2_with fail
      refine (within_any a 1099511627776 _).mono ?_
      rintro e w' ⟨rfl, rfl⟩
      rw [H1.out]
      go_wp2_with fail
      refine (within_any t 1048576 _).mono ?_
      rintro e w' ⟨rfl, rfl⟩
      rw [H2.out]
      go_wp2_with fail
      refine (within_any n 255 _).mono ?_
      rintro e w' ⟨rfl, rfl⟩
      rw [H3.out]
      go_wp2
      go_ret
      exact ⟨by rw [HR.out]; rfl, (Below.refl _ _).alloc (Nat.le_refl _) _⟩
def cmpI (x y : Int) : Int := if x < y then -1 else if y < x then 1 else 0
def cmpS (a t n a' t' n' : Int) : Int := if cmpI a a' = 0 then (if cmpI t t' = 0 then cmpI n n' else cmpI t t') else cmpI a a'
set_option maxHeartbeats 400000 in
set_option maxRecDepth 100000 in
theorem cmp_any (x y : Int) (w : World) : Calls Tryz.prog 122 #[.int .i64 x, .int .i64 y] w fun e w' => e = .returned (.int .i64 (cmpI x y)) ∧ w = w' := by
  have hx : (x != x) = false := by simp
  have hy : (y != y) = false := by simp
  by_cases h0 : x < y
  · have hr : cmpI x y = -1 := by unfold cmpI; rw [if_pos h0]
    have HR := Lib.hid hr
    clear hr
    go_enter Tryz.func122, Tryz.ntmps122
    go_wp2
    go_ret
    exact ⟨by rw [HR.out]; rfl, rfl⟩
  · by_cases h1 : y < x
    · have hr : cmpI x y = 1 := by unfold cmpI; rw [if_neg h0, if_pos h1]
      have HR := Lib.hid hr
      clear hr
      go_enter Tryz.func122, Tryz.ntmps122
      go_wp2
      go_ret
      exact ⟨by rw [HR.out]; rfl, rfl⟩
    · have hr : cmpI x y = 0 := by unfold cmpI; rw [if_neg h0, if_neg h1]
      have HR := Lib.hid hr
      clear hr
      go_enter Tryz.func122, Tryz.ntmps122
      go_wp2
      go_ret
      exact ⟨by rw [HR.out]; rfl, rfl⟩
def or3 (x y z : Int) : Int := if x = 0 then (if y = 0 then z else y) else x
set_option maxHeartbeats 400000 in
set_option maxRecDepth 100000 in
theorem or_any (x y z : Int) (g c : Nat) (w : World) (h0 : w.cell? ⟨g, 0, none⟩ = some (.int .i64 x)) (h1 : w.cell? ⟨g, 1, none⟩ = some (.int .i64 y)) (h2 : w.cell? ⟨g, 2, none⟩ = some (.int .i64 z)) :
    Calls Tryz.prog 121 #[.slice (some ⟨g, 0, none⟩) 3 c] w fun e w' => e = .returned (.int .i64 (or3 x y z)) ∧ w = w' := by
  by_cases hx : x = 0
  · have hx' : (x != 0) = false := by simp [hx]
    by_cases hy : y = 0
    · have hy' : (y != 0) = false := by simp [hy]
      by_cases hz : z = 0
      · have hz' : (z != 0) = false := by simp [hz]
        have hr : or3 x y z = 0 := by unfold or3; rw [if_pos hx, if_pos hy, hz]
        have HR := Lib.hid hr
        clear hr hx hy hz
        go_enter Tryz.func121, Tryz.ntmps121
        go_wp2
        refine wp_loop_rounds 4 ?_
        rw [rounds_succ]
        go_wp2
        rw [rounds_succ]
        go_wp2
        rw [rounds_succ]
        go_wp2
        rw [rounds_succ]
        go_wp2
        go_ret
        exact ⟨by rw [HR.out]; rfl, rfl⟩
      · have hz' : (z != 0) = true := by simp [hz]
        have hr : or3 x y z = z := by unfold or3; rw [if_pos hx, if_pos hy]
        have HR := Lib.hid hr
        clear hr hx hy hz
        go_enter Tryz.func121, Tryz.ntmps121
        go_wp2
        refine wp_loop_rounds 4 ?_
        rw [rounds_succ]
        go_wp2
        rw [rounds_succ]
        go_wp2
        rw [rounds_succ]
        go_wp2
        go_ret
        exact ⟨by rw [HR.out]; rfl, rfl⟩
    · have hy' : (y != 0) = true := by simp [hy]
      have hr : or3 x y z = y := by unfold or3; rw [if_pos hx, if_neg hy]
      have HR := Lib.hid hr
      clear hr hx hy
      go_enter Tryz.func121, Tryz.ntmps121
      go_wp2
      refine wp_loop_rounds 4 ?_
      rw [rounds_succ]
      go_wp2
      rw [rounds_succ]
      go_wp2
      go_ret
      exact ⟨by rw [HR.out]; rfl, rfl⟩
  · have hx' : (x != 0) = true := by simp [hx]
    have hr : or3 x y z = x := by unfold or3; rw [if_neg hx]
    have HR := Lib.hid hr
    clear hr hx
    go_enter Tryz.func121, Tryz.ntmps121
    go_wp2
    refine wp_loop_rounds 4 ?_
    rw [rounds_succ]
    go_wp2
    go_ret
    exact ⟨by rw [HR.out]; rfl, rfl⟩
theorem cmpS_or (a t n a' t' n' : Int) : or3 (cmpI a a') (cmpI t t') (cmpI n n') = cmpS a t n a' t' n' := rfl
set_option maxHeartbeats 1600000 in
set_option maxRecDepth 100000 in
theorem compare_any (a t n a' t' n' : Int) (w : World) :
    Calls Tryz.prog 110 #[stampV a t n, stampV a' t' n'] w fun e w' => e = .returned (.int .i64 (cmpS a t n a' t' n')) ∧ Below w.heap.size w w' := by
  rw [← cmpS_or]
  go_enter Tryz.func110, Tryz.ntmps110
  go_wp2_with fail
  go_region_held3 (fun w' => w'.cell? ⟨w.heap.size, 0, none⟩ = some (.int .i64 a) ∧ w'.cell? ⟨w.heap.size, 1, none⟩ = some (.int .i64 t) ∧ w'.cell? ⟨w.heap.size, 2, none⟩ = some (.int .i64 n) ∧
      w'.cell? ⟨w.heap.size + 1, 0, none⟩ = some (.int .i64 a') ∧ w'.cell? ⟨w.heap.size + 1, 1, none⟩ = some (.int .i64 t') ∧ w'.cell? ⟨w.heap.size + 1, 2, none⟩ = some (.int .i64 n')) (go_keep) (first
    | (go_at_call 122; refine (cmp_any _ _ _).mono ?_; rintro e w' ⟨rfl, rfl⟩)
    | (go_at_call 121; refine (or_any (cmpI a a') (cmpI t t') (cmpI n n') (w.heap.size + 1 + 1) 3 _ (by go_simp) (by go_simp) (by go_simp)).mono ?_; rintro e w' ⟨rfl, rfl⟩))
  go_wp2
  go_ret
  exact ⟨rfl, (((((Below.refl _ w).alloc (Nat.le_refl _) _).alloc (by simp) _).alloc (by simp; omega) _)).drew⟩
abbrev stampT (s : Int × Int × Int) : Value := stampV s.1 s.2.1 s.2.2
end Go.Proofs.YtkoligiilieboaaGreatDoor
namespace Go.Proofs.YtkoligiilieboaaGreatDoor
open Go.RowKit
set_option maxHeartbeats 800000 in
set_option maxRecDepth 100000 in
theorem refright_any (a t n : Int) (w : World) : Calls Tryz.prog 49 #[stampV a t n] w fun e w' => e = .returned (.bool (rightB a t n)) ∧ Below w.heap.size w w' := by
  by_cases h0 : 0 ≤ a
  · by_cases h1 : a ≤ 1099511627776
    · by_cases h2 : 0 ≤ t
      · by_cases h3 : t ≤ 1048576
        · by_cases h4 : 0 ≤ n
          · by_cases h5 : n ≤ 255
            · have hv : rightB a t n = true := by unfold rightB withinB; simp; omega
              have HV := Lib.hid hv
              clear hv
              go_enter Tryz.func49, Tryz.ntmps49
              go_wp2
              go_ret
              exact ⟨by rw [HV.out]; rfl, bal (b0 w) _⟩
            · have hv : rightB a t n = false := by unfold rightB withinB; simp; omega
              have HV := Lib.hid hv
              clear hv
              go_enter Tryz.func49, Tryz.ntmps49
              go_wp2
              go_ret
              exact ⟨by rw [HV.out]; rfl, bal (b0 w) _⟩
          · have hv : rightB a t n = false := by unfold rightB withinB; simp; omega
            have HV := Lib.hid hv
            clear hv
            go_enter Tryz.func49, Tryz.ntmps49
            go_wp2
            go_ret
            exact ⟨by rw [HV.out]; rfl, bal (b0 w) _⟩
        · have hv : rightB a t n = false := by unfold rightB withinB; simp; omega
          have HV := Lib.hid hv
          clear hv
          go_enter Tryz.func49, Tryz.ntmps49
          go_wp2
          go_ret
          exact ⟨by rw [HV.out]; rfl, bal (b0 w) _⟩
      · have hv : rightB a t n = false := by unfold rightB withinB; simp; omega
        have HV := Lib.hid hv
        clear hv
        go_enter Tryz.func49, Tryz.ntmps49
        go_wp2
        go_ret
        exact ⟨by rw [HV.out]; rfl, bal (b0 w) _⟩
    · have hv : rightB a t n = false := by unfold rightB withinB; simp; omega
      have HV := Lib.hid hv
      clear hv
      go_enter Tryz.func49, Tryz.ntmps49
      go_wp2
      go_ret
      exact ⟨by rw [HV.out]; rfl, bal (b0 w) _⟩
  · have hv : rightB a t n = false := by unfold rightB withinB; simp; omega
    have HV := Lib.hid hv
    clear hv
    go_enter Tryz.func49, Tryz.ntmps49
    go_wp2
    go_ret
    exact ⟨by rw [HV.out]; rfl, bal (b0 w) _⟩
theorem before_iff (a t n a' t' n' : Int) : cmpS a t n a' t' n' < 0 ↔ (a < a' ∨ a = a' ∧ (t < t' ∨ t = t' ∧ n < n')) := by
  unfold cmpS cmpI
  repeat' split
  all_goals omega
theorem after_iff (a t n a' t' n' : Int) : 0 < cmpS a t n a' t' n' ↔ (a' < a ∨ a = a' ∧ (t' < t ∨ t = t' ∧ n' < n)) := by
  unfold cmpS cmpI
  repeat' split
  all_goals omega
set_option maxHeartbeats 800000 in
set_option maxRecDepth 100000 in
theorem before_any (a t n a' t' n' : Int) (w : World) : Calls Tryz.prog 97 #[stampV a t n, stampV a' t' n'] w fun e w' => e = .returned (.bool (decide (cmpS a t n a' t' n' < 0))) ∧ Below w.heap.size w w' := by
  have hi := before_iff a t n a' t' n'
  by_cases h1 : a = a'
  · subst h1
    have q1 : (a != a) = false := by simp
    by_cases h2 : t = t'
    · subst h2
      have q2 : (t != t) = false := by simp
      have hv : decide (cmpS a t n a t n' < 0) = decide (n < n') := by rw [decide_eq_decide, hi]; omega
      have HV := Lib.hid hv
      clear hv hi
      go_enter Tryz.func97, Tryz.ntmps97
      go_wp2
      go_ret
      exact ⟨by rw [HV.out]; rfl, bal (bal (b0 w) _) _⟩
    · have q2 : (t != t') = true := by simp [h2]
      have hv : decide (cmpS a t n a t' n' < 0) = decide (t < t') := by rw [decide_eq_decide, hi]; omega
      have HV := Lib.hid hv
      clear hv hi
      go_enter Tryz.func97, Tryz.ntmps97
      go_wp2
      go_ret
      exact ⟨by rw [HV.out]; rfl, bal (bal (b0 w) _) _⟩
  · have q1 : (a != a') = true := by simp [h1]
    have hv : decide (cmpS a t n a' t' n' < 0) = decide (a < a') := by rw [decide_eq_decide, hi]; omega
    have HV := Lib.hid hv
    clear hv hi
    go_enter Tryz.func97, Tryz.ntmps97
    go_wp2
    go_ret
    exact ⟨by rw [HV.out]; rfl, bal (bal (b0 w) _) _⟩
end Go.Proofs.YtkoligiilieboaaGreatDoor
namespace Go.Proofs.YtkoligiilieboaaGreatDoor
open Go.RowKit
def badL (zs : List Int) : Bool := zs.any fun z => decide (z < 0)
def numsB (zs : List Int) : List UInt8 := zs.flatMap fun z => (putI z).1
theorem putI_len (z : Int) : (putI z).1.length ≤ 9 := by
  unfold putI
  split
  · simp
  · exact putL_len _
theorem numsB_len (zs : List Int) : (numsB zs).length ≤ 9 * zs.length := by
  induction zs with
  | nil => simp [numsB]
  | cons z zs ih =>
    have := putI_len z
    unfold numsB at *
    simp only [List.flatMap_cons, List.length_append, List.length_cons]
    omega
theorem numsB_snoc (zs : List Int) (k : Nat) (h : k < zs.length) : numsB (zs.take (k + 1)) = numsB (zs.take k) ++ (putI zs[k]).1 := by
  unfold numsB
  rw [List.take_succ_eq_append_getElem h, List.flatMap_append]
  simp
theorem badL_snoc (zs : List Int) (k : Nat) (h : k < zs.length) : badL (zs.take (k + 1)) = (badL (zs.take k) || decide (zs[k] < 0)) := by
  unfold badL
  rw [List.take_succ_eq_append_getElem h, List.any_append]
  simp
theorem badL_of (zs : List Int) (k : Nat) (h : k < zs.length) (hz : zs[k] < 0) : badL zs = true := by
  unfold badL
  rw [List.any_eq_true]
  exact ⟨zs[k], List.getElem_mem h, by simpa using hz⟩
def numsI (zs : List Int) : List UInt8 × Nat := if badL zs = true then ([], 1) else (numsB zs, 0)
theorem numsI_bad (zs : List Int) (h : badL zs = true) : numsI zs = ([], 1) := by unfold numsI; rw [if_pos h]
theorem numsI_ok (zs : List Int) (h : badL zs = false) : numsI zs = (numsB zs, 0) := by unfold numsI; rw [if_neg (by simp [h])]
def NumRel (zs : List Int) (w : World) (v i : Value) (wr : World) : Prop :=
  ∃ k : Nat, i = .int .i64 k ∧ k ≤ zs.length ∧ badL (zs.take k) = false ∧ wr.ownsRow w.heap.size 5 1 v (numsB (zs.take k)).length ((numsB (zs.take k)).map bv) ∧ Below w.heap.size w wr
set_option maxHeartbeats 400000 in
set_option maxRecDepth 100000 in
theorem numbers_any (zs : List Int) (A : Option Addr) (n cap : Nat) (w : World) (hn : zs.length = n) (hm : n ≤ 1000000) (hz : ∀ z ∈ zs, z ≤ 9223372036854775807) (hR : Rd w w.heap.size 1 A n (zs.map (Value.int .i64))) :
    Calls Tryz.prog 117 #[.slice A n cap] w fun e w' => e = .returned (.tuple #[.string ⟨(numsI zs).1.toArray⟩, .int .i64 (numsI zs).2]) ∧ Below w.heap.size w w' := by
  subst hn
  obtain ⟨i0, hi, hz0, hz1, hz2⟩ := info_parts infoU8
  go_enter Tryz.func117, Tryz.ntmps117
  go_wp2
  go_loopw [4, 11] (fun v i wr => NumRel zs w v i wr) (fun _ i _ => zs.length - (intOf i).toNat)
  case atStart => exact ⟨0, rfl, Nat.zero_le _, rfl, World.ownsRow_nil _ _ _ _, Below.refl _ _⟩
  case round =>
    obtain ⟨k, rfl, hk, hbad, hown, hb⟩ := hrel
    have HB := Lib.hid hbad
    clear hbad
    have hbs := hb.size
    have hnl := numsB_len (zs.take k)
    rw [List.length_take, Nat.min_eq_left hk] at hnl
    by_cases hlt : k < zs.length
    · have hR' := hR.2
      obtain ⟨b, off, rfl, hbB, hc⟩ := hR' (by omega)
      obtain ⟨z, hzk⟩ : ∃ z, zs[k] = z := ⟨_, rfl⟩
      have hc1 := hb.cell (p := ⟨b, off + k, none⟩) hbB
      rw [hc k (.int .i64 z) (by simp [hlt, hzk])] at hc1
      have hz63 := hz zs[k] (List.getElem_mem hlt)
      rw [hzk] at hz63
      have hsn := numsB_snoc zs k hlt
      have hbn := badL_snoc zs k hlt
      have hbo := badL_of zs k hlt
      rw [hzk] at hsn hbn hbo
      have HSN := Lib.hid hsn
      have HBN := Lib.hid hbn
      have HBO := Lib.hid hbo
      clear hsn hbn hbo hzk hc hR'
      generalize numsB (zs.take k) = bs at *
      have hpl := putI_len z
      by_cases hneg : z < 0
      · have hp := putI_neg z hneg
        go_wp2_with fail
        refine (put_int z (by omega) wr).mono ?_
        rintro e w1 ⟨rfl, hb1⟩
        rw [hp]
        go_wp2
        go_ret2
        exact ⟨by rw [numsI_bad zs (HBO.out hneg)]; rfl, hb.trans (hb1.mono hbs)⟩
      · go_wp2_with fail
        refine (put_int z (by omega) wr).mono ?_
        rintro e w1 ⟨rfl, hb1⟩
        have hp2 : (putI z).2 = 0 := by unfold putI; rw [if_neg (by omega)]
        rw [hp2]
        generalize (putI z).1 = ps at *
        have hown1 := own_below hown hb1 (Nat.le_refl _)
        have hb1s := hb1.size
        go_wp2_with (at_builtin; refine wpList_apstr (by rfl) _ _ _ _ (by rfl) w.heap.size 5 i0 Tryz.underlying88 Tryz.underlying9 hi hz0 hz1 hz2 w1 _ bs (by rfl) hown1 ps (by rfl) (by omega) (by omega) ?_; intro v2 w2 hown2 hb2)
        go_roundw
        case rel => exact ⟨k + 1, by go_num, by omega, by rw [HBN.out, HB.out]; simp; omega, by rw [HSN.out]; exact hown2, (hb.trans (hb1.mono hbs)).trans hb2⟩
        case measure => simp [intOf]; omega
    · have hkl : k = zs.length := by omega
      have htk : zs.take k = zs := List.take_of_length_le (by omega)
      have hb' := HB.out
      rw [htk] at hown hb'
      have HN := Lib.hid (numsI_ok zs hb')
      have kc := run_conv_any (P := Tryz.prog) wr Tryz.underlying88 Tryz.underlying5 Tryz.underlying9 hown
      clear htk hb' hkl hown
      go_wp2
      go_ret2
      exact ⟨by rw [HN.out]; rfl, hb⟩
end Go.Proofs.YtkoligiilieboaaGreatDoor
namespace Go.Proofs.YtkoligiilieboaaGreatDoor
open Go.RowKit
def takeStampL (l : List UInt8) : (Int × Int × Int) × List UInt8 × Nat :=
  if (takeL l).2.2 ≠ 0 then ((0, 0, 0), [], (takeL l).2.2)
  else if (takeL (takeL l).2.1).2.2 ≠ 0 then ((0, 0, 0), [], (takeL (takeL l).2.1).2.2)
  else if (takeL (takeL (takeL l).2.1).2.1).2.2 ≠ 0 then ((0, 0, 0), [], (takeL (takeL (takeL l).2.1).2.1).2.2)
  else if rightB (takeL l).1 (takeL (takeL l).2.1).1 (takeL (takeL (takeL l).2.1).2.1).1 = false then ((0, 0, 0), [], 3)
  else (((takeL l).1, (takeL (takeL l).2.1).1, (takeL (takeL (takeL l).2.1).2.1).1), (takeL (takeL (takeL l).2.1).2.1).2.1, 0)
theorem take_shorter (l r : List UInt8) (n e : Nat) (h : takeL l = (n, r, e)) : r.length ≤ l.length ∧ n < 2 ^ 63 := by
  by_cases he : e = 0
  · subst he
    obtain ⟨h1, h2, _, _⟩ := take_ok l n r h
    have := congrArg List.length h2
    simp at this
    exact ⟨by omega, h1⟩
  · have := take_err l (by rw [h]; exact he)
    rw [h] at this
    obtain ⟨h1, h2, _⟩ := this
    simp only at h1 h2
    subst h1 h2
    simp
set_option maxHeartbeats 3200000 in
set_option maxRecDepth 100000 in
theorem sttake_any (l : List UInt8) (hl : l.length ≤ 281474976710656) (w : World) :
    Calls Tryz.prog 69 #[.string ⟨l.toArray⟩] w fun e w' => e = .returned (.tuple #[stampT (takeStampL l).1, .string ⟨(takeStampL l).2.1.toArray⟩, .int .i64 (takeStampL l).2.2]) ∧ Below w.heap.size w w' := by
  obtain ⟨⟨a, r1, e1⟩, h1⟩ : ∃ x, takeL l = x := ⟨_, rfl⟩
  obtain ⟨⟨b, r2, e2⟩, h2⟩ : ∃ x, takeL r1 = x := ⟨_, rfl⟩
  obtain ⟨⟨c, r3, e3⟩, h3⟩ : ∃ x, takeL r2 = x := ⟨_, rfl⟩
  obtain ⟨s1, a63⟩ := take_shorter _ _ _ _ h1
  obtain ⟨s2, b63⟩ := take_shorter _ _ _ _ h2
  obtain ⟨s3, c63⟩ := take_shorter _ _ _ _ h3
  obtain ⟨q, hq⟩ : ∃ q, rightB a b c = q := ⟨_, rfl⟩
  have H1 := Lib.hid h1
  have H2 := Lib.hid h2
  have H3 := Lib.hid h3
  have HQ := Lib.hid hq
  clear h1 h2 h3 hq
  by_cases z1 : e1 = 0
  case neg =>
    have hv : takeStampL l = ((0, 0, 0), [], e1) := by simp [takeStampL, H1.out, H2.out, H3.out, HQ.out, z1]
    have HV := Lib.hid hv
    clear hv
    have b1 : ((e1 : Int) == 0) = false := by simp; omega
    have b1' : ((e1 : Int) != 0) = true := by simp; omega
    go_enter Tryz.func69, Tryz.ntmps69
    go_wp2_with fail
    refine wp_loop_rounds 4 ?_
    rw [rounds_succ]
    go_wp2_with fail
    refine (take_any l (by omega) _).mono ?_
    rintro e w1 ⟨rfl, hb1⟩
    rw [H1.out]
    have hR1 : Blk w1 w.heap.size 27 #[.int .i64 0, .int .i64 0, .int .i64 0] := Blk.keep ((Blk.new w _ _).alloc _) hb1
    have hN1 : Blk w1 (w.heap.size + 1) 150 #[.int .i64 0, .int .i64 0, .int .i64 0] := Blk.keep (Blk.new' _ _ _ _ (by simp)) hb1
    have hB1 : Below w.heap.size w w1 := bt (bal (bal (b0 w) _) _) hb1
    obtain ⟨lR, x0, x1, x2, y0, y1, y2⟩ := hR1.c3
    obtain ⟨lN, u0, u1, u2, v0, v1, v2⟩ := hN1.c3
    go_wp2
    refine bodyPost_ret (v := .tuple #[stampV 0 0 0, .string ⟨#[]⟩, .int .i64 e1]) (by simp [results, Tryz.results69, go_sem, *]) rfl ⟨by rw [HV.out] <;> rfl, ?_⟩
    (repeat (first | with_reducible exact b0 _ | with_reducible assumption | with_reducible refine Below.drew ?_ | with_reducible refine below_drewN ?_ _ | with_reducible refine bal ?_ _ | ((with_reducible refine bst ?_ ?_ _); rotate_left; focus (first | exact Nat.le_refl _ | assumption | (simp; done) | (simp; omega) | omega))))
  case pos =>
  subst z1
  by_cases z2 : e2 = 0
  case neg =>
    have hv : takeStampL l = ((0, 0, 0), [], e2) := by simp [takeStampL, H1.out, H2.out, H3.out, HQ.out, z2]
    have HV := Lib.hid hv
    clear hv
    have b2 : ((e2 : Int) == 0) = false := by simp; omega
    have b2' : ((e2 : Int) != 0) = true := by simp; omega
    go_enter Tryz.func69, Tryz.ntmps69
    go_wp2_with fail
    refine wp_loop_rounds 4 ?_
    rw [rounds_succ]
    go_wp2_with fail
    refine (take_any l (by omega) _).mono ?_
    rintro e w1 ⟨rfl, hb1⟩
    rw [H1.out]
    have hR1 : Blk w1 w.heap.size 27 #[.int .i64 0, .int .i64 0, .int .i64 0] := Blk.keep ((Blk.new w _ _).alloc _) hb1
    have hN1 : Blk w1 (w.heap.size + 1) 150 #[.int .i64 0, .int .i64 0, .int .i64 0] := Blk.keep (Blk.new' _ _ _ _ (by simp)) hb1
    have hB1 : Below w.heap.size w w1 := bt (bal (bal (b0 w) _) _) hb1
    obtain ⟨lR, x0, x1, x2, y0, y1, y2⟩ := hR1.c3
    obtain ⟨lN, u0, u1, u2, v0, v1, v2⟩ := hN1.c3
    go_wp2_with fail
    rw [rounds_succ]
    go_wp2_with fail
    refine (take_any r1 (by omega) _).mono ?_
    rintro e w2 ⟨rfl, hb2⟩
    rw [H2.out]
    have hR2 : Blk w2 w.heap.size 27 #[.int .i64 0, .int .i64 0, .int .i64 0] := Blk.keep (Blk.far hR1 (by simp) _) hb2
    have hN2 : Blk w2 (w.heap.size + 1) 150 #[.int .i64 a, .int .i64 0, .int .i64 0] := Blk.keep (by have h := hN1.set 0 (.int .i64 a); simpa using h) hb2
    have hB2 : Below w.heap.size w w2 := bt (bst hB1 (by simp) _) hb2
    clear lR x0 x1 x2 y0 y1 y2 lN u0 u1 u2 v0 v1 v2
    obtain ⟨lR, x0, x1, x2, y0, y1, y2⟩ := hR2.c3
    obtain ⟨lN, u0, u1, u2, v0, v1, v2⟩ := hN2.c3
    go_wp2
    refine bodyPost_ret (v := .tuple #[stampV 0 0 0, .string ⟨#[]⟩, .int .i64 e2]) (by simp [results, Tryz.results69, go_sem, *]) rfl ⟨by rw [HV.out] <;> rfl, ?_⟩
    (repeat (first | with_reducible exact b0 _ | with_reducible assumption | with_reducible refine Below.drew ?_ | with_reducible refine below_drewN ?_ _ | with_reducible refine bal ?_ _ | ((with_reducible refine bst ?_ ?_ _); rotate_left; focus (first | exact Nat.le_refl _ | assumption | (simp; done) | (simp; omega) | omega))))
  case pos =>
  subst z2
  by_cases z3 : e3 = 0
  case neg =>
    have hv : takeStampL l = ((0, 0, 0), [], e3) := by simp [takeStampL, H1.out, H2.out, H3.out, HQ.out, z3]
    have HV := Lib.hid hv
    clear hv
    have b3 : ((e3 : Int) == 0) = false := by simp; omega
    have b3' : ((e3 : Int) != 0) = true := by simp; omega
    go_enter Tryz.func69, Tryz.ntmps69
    go_wp2_with fail
    refine wp_loop_rounds 4 ?_
    rw [rounds_succ]
    go_wp2_with fail
    refine (take_any l (by omega) _).mono ?_
    rintro e w1 ⟨rfl, hb1⟩
    rw [H1.out]
    have hR1 : Blk w1 w.heap.size 27 #[.int .i64 0, .int .i64 0, .int .i64 0] := Blk.keep ((Blk.new w _ _).alloc _) hb1
    have hN1 : Blk w1 (w.heap.size + 1) 150 #[.int .i64 0, .int .i64 0, .int .i64 0] := Blk.keep (Blk.new' _ _ _ _ (by simp)) hb1
    have hB1 : Below w.heap.size w w1 := bt (bal (bal (b0 w) _) _) hb1
    obtain ⟨lR, x0, x1, x2, y0, y1, y2⟩ := hR1.c3
    obtain ⟨lN, u0, u1, u2, v0, v1, v2⟩ := hN1.c3
    go_wp2_with fail
    rw [rounds_succ]
    go_wp2_with fail
    refine (take_any r1 (by omega) _).mono ?_
    rintro e w2 ⟨rfl, hb2⟩
    rw [H2.out]
    have hR2 : Blk w2 w.heap.size 27 #[.int .i64 0, .int .i64 0, .int .i64 0] := Blk.keep (Blk.far hR1 (by simp) _) hb2
    have hN2 : Blk w2 (w.heap.size + 1) 150 #[.int .i64 a, .int .i64 0, .int .i64 0] := Blk.keep (by have h := hN1.set 0 (.int .i64 a); simpa using h) hb2
    have hB2 : Below w.heap.size w w2 := bt (bst hB1 (by simp) _) hb2
    clear lR x0 x1 x2 y0 y1 y2 lN u0 u1 u2 v0 v1 v2
    obtain ⟨lR, x0, x1, x2, y0, y1, y2⟩ := hR2.c3
    obtain ⟨lN, u0, u1, u2, v0, v1, v2⟩ := hN2.c3
    go_wp2_with fail
    rw [rounds_succ]
    go_wp2_with fail
    refine (take_any r2 (by omega) _).mono ?_
    rintro e w3 ⟨rfl, hb3⟩
    rw [H3.out]
    have hR3 : Blk w3 w.heap.size 27 #[.int .i64 0, .int .i64 0, .int .i64 0] := Blk.keep (Blk.far hR2 (by simp) _) hb3
    have hN3 : Blk w3 (w.heap.size + 1) 150 #[.int .i64 a, .int .i64 b, .int .i64 0] := Blk.keep (by have h := hN2.set 1 (.int .i64 b); simpa using h) hb3
    have hB3 : Below w.heap.size w w3 := bt (bst hB2 (by simp) _) hb3
    clear lR x0 x1 x2 y0 y1 y2 lN u0 u1 u2 v0 v1 v2
    obtain ⟨lR, x0, x1, x2, y0, y1, y2⟩ := hR3.c3
    obtain ⟨lN, u0, u1, u2, v0, v1, v2⟩ := hN3.c3
    go_wp2
    refine bodyPost_ret (v := .tuple #[stampV 0 0 0, .string ⟨#[]⟩, .int .i64 e3]) (by simp [results, Tryz.results69, go_sem, *]) rfl ⟨by rw [HV.out] <;> rfl, ?_⟩
    (repeat (first | with_reducible exact b0 _ | with_reducible assumption | with_reducible refine Below.drew ?_ | with_reducible refine below_drewN ?_ _ | with_reducible refine bal ?_ _ | ((with_reducible refine bst ?_ ?_ _); rotate_left; focus (first | exact Nat.le_refl _ | assumption | (simp; done) | (simp; omega) | omega))))
  case pos =>
  subst z3
  cases q
  case false =>
    have hv : takeStampL l = ((0, 0, 0), [], 3) := by simp [takeStampL, H1.out, H2.out, H3.out, HQ.out]
    have HV := Lib.hid hv
    clear hv
    go_enter Tryz.func69, Tryz.ntmps69
    go_wp2_with fail
    refine wp_loop_rounds 4 ?_
    rw [rounds_succ]
    go_wp2_with fail
    refine (take_any l (by omega) _).mono ?_
    rintro e w1 ⟨rfl, hb1⟩
    rw [H1.out]
    have hR1 : Blk w1 w.heap.size 27 #[.int .i64 0, .int .i64 0, .int .i64 0] := Blk.keep ((Blk.new w _ _).alloc _) hb1
    have hN1 : Blk w1 (w.heap.size + 1) 150 #[.int .i64 0, .int .i64 0, .int .i64 0] := Blk.keep (Blk.new' _ _ _ _ (by simp)) hb1
    have hB1 : Below w.heap.size w w1 := bt (bal (bal (b0 w) _) _) hb1
    obtain ⟨lR, x0, x1, x2, y0, y1, y2⟩ := hR1.c3
    obtain ⟨lN, u0, u1, u2, v0, v1, v2⟩ := hN1.c3
    go_wp2_with fail
    rw [rounds_succ]
    go_wp2_with fail
    refine (take_any r1 (by omega) _).mono ?_
    rintro e w2 ⟨rfl, hb2⟩
    rw [H2.out]
    have hR2 : Blk w2 w.heap.size 27 #[.int .i64 0, .int .i64 0, .int .i64 0] := Blk.keep (Blk.far hR1 (by simp) _) hb2
    have hN2 : Blk w2 (w.heap.size + 1) 150 #[.int .i64 a, .int .i64 0, .int .i64 0] := Blk.keep (by have h := hN1.set 0 (.int .i64 a); simpa using h) hb2
    have hB2 : Below w.heap.size w w2 := bt (bst hB1 (by simp) _) hb2
    clear lR x0 x1 x2 y0 y1 y2 lN u0 u1 u2 v0 v1 v2
    obtain ⟨lR, x0, x1, x2, y0, y1, y2⟩ := hR2.c3
    obtain ⟨lN, u0, u1, u2, v0, v1, v2⟩ := hN2.c3
    go_wp2_with fail
    rw [rounds_succ]
    go_wp2_with fail
    refine (take_any r2 (by omega) _).mono ?_
    rintro e w3 ⟨rfl, hb3⟩
    rw [H3.out]
    have hR3 : Blk w3 w.heap.size 27 #[.int .i64 0, .int .i64 0, .int .i64 0] := Blk.keep (Blk.far hR2 (by simp) _) hb3
    have hN3 : Blk w3 (w.heap.size + 1) 150 #[.int .i64 a, .int .i64 b, .int .i64 0] := Blk.keep (by have h := hN2.set 1 (.int .i64 b); simpa using h) hb3
    have hB3 : Below w.heap.size w w3 := bt (bst hB2 (by simp) _) hb3
    clear lR x0 x1 x2 y0 y1 y2 lN u0 u1 u2 v0 v1 v2
    obtain ⟨lR, x0, x1, x2, y0, y1, y2⟩ := hR3.c3
    obtain ⟨lN, u0, u1, u2, v0, v1, v2⟩ := hN3.c3
    go_wp2_with fail
    rw [rounds_succ]
    go_wp2_with fail
    refine (right_any a b c _).mono ?_
    rintro e w4 ⟨rfl, hb4⟩
    rw [HQ.out]
    have hR4 : Blk w4 w.heap.size 27 #[.int .i64 0, .int .i64 0, .int .i64 0] := Blk.keep ((Blk.far hR3 (by simp) _).alloc _) hb4
    have hO4 : Blk w4 w3.heap.size 27 #[.int .i64 a, .int .i64 b, .int .i64 c] := Blk.keep (Blk.new' _ _ _ _ (by simp)) hb4
    have hB4 : Below w.heap.size w w4 := bt (bal (bst hB3 (by simp) _) _) hb4
    have lt3 : w.heap.size < w3.heap.size := lR
    clear lR x0 x1 x2 y0 y1 y2 lN u0 u1 u2 v0 v1 v2
    obtain ⟨lR, x0, x1, x2, y0, y1, y2⟩ := hR4.c3
    obtain ⟨lO, u0, u1, u2, v0, v1, v2⟩ := hO4.c3
    go_wp2
    refine bodyPost_ret (v := .tuple #[stampV 0 0 0, .string ⟨#[]⟩, .int .i64 3]) (by simp [results, Tryz.results69, go_sem, *]) rfl ⟨by rw [HV.out] <;> rfl, ?_⟩
    (repeat (first | with_reducible exact b0 _ | with_reducible assumption | with_reducible refine Below.drew ?_ | with_reducible refine below_drewN ?_ _ | with_reducible refine bal ?_ _ | ((with_reducible refine bst ?_ ?_ _); rotate_left; focus (first | exact Nat.le_refl _ | assumption | (simp; done) | (simp; omega) | omega))))
  case true =>
    have hv : takeStampL l = (((a : Int), (b : Int), (c : Int)), r3, 0) := by simp [takeStampL, H1.out, H2.out, H3.out, HQ.out]
    have HV := Lib.hid hv
    clear hv
    go_enter Tryz.func69, Tryz.ntmps69
    go_wp2_with fail
    refine wp_loop_rounds 4 ?_
    rw [rounds_succ]
    go_wp2_with fail
    refine (take_any l (by omega) _).mono ?_
    rintro e w1 ⟨rfl, hb1⟩
    rw [H1.out]
    have hR1 : Blk w1 w.heap.size 27 #[.int .i64 0, .int .i64 0, .int .i64 0] := Blk.keep ((Blk.new w _ _).alloc _) hb1
    have hN1 : Blk w1 (w.heap.size + 1) 150 #[.int .i64 0, .int .i64 0, .int .i64 0] := Blk.keep (Blk.new' _ _ _ _ (by simp)) hb1
    have hB1 : Below w.heap.size w w1 := bt (bal (bal (b0 w) _) _) hb1
    obtain ⟨lR, x0, x1, x2, y0, y1, y2⟩ := hR1.c3
    obtain ⟨lN, u0, u1, u2, v0, v1, v2⟩ := hN1.c3
    go_wp2_with fail
    rw [rounds_succ]
    go_wp2_with fail
    refine (take_any r1 (by omega) _).mono ?_
    rintro e w2 ⟨rfl, hb2⟩
    rw [H2.out]
    have hR2 : Blk w2 w.heap.size 27 #[.int .i64 0, .int .i64 0, .int .i64 0] := Blk.keep (Blk.far hR1 (by simp) _) hb2
    have hN2 : Blk w2 (w.heap.size + 1) 150 #[.int .i64 a, .int .i64 0, .int .i64 0] := Blk.keep (by have h := hN1.set 0 (.int .i64 a); simpa using h) hb2
    have hB2 : Below w.heap.size w w2 := bt (bst hB1 (by simp) _) hb2
    clear lR x0 x1 x2 y0 y1 y2 lN u0 u1 u2 v0 v1 v2
    obtain ⟨lR, x0, x1, x2, y0, y1, y2⟩ := hR2.c3
    obtain ⟨lN, u0, u1, u2, v0, v1, v2⟩ := hN2.c3
    go_wp2_with fail
    rw [rounds_succ]
    go_wp2_with fail
    refine (take_any r2 (by omega) _).mono ?_
    rintro e w3 ⟨rfl, hb3⟩
    rw [H3.out]
    have hR3 : Blk w3 w.heap.size 27 #[.int .i64 0, .int .i64 0, .int .i64 0] := Blk.keep (Blk.far hR2 (by simp) _) hb3
    have hN3 : Blk w3 (w.heap.size + 1) 150 #[.int .i64 a, .int .i64 b, .int .i64 0] := Blk.keep (by have h := hN2.set 1 (.int .i64 b); simpa using h) hb3
    have hB3 : Below w.heap.size w w3 := bt (bst hB2 (by simp) _) hb3
    clear lR x0 x1 x2 y0 y1 y2 lN u0 u1 u2 v0 v1 v2
    obtain ⟨lR, x0, x1, x2, y0, y1, y2⟩ := hR3.c3
    obtain ⟨lN, u0, u1, u2, v0, v1, v2⟩ := hN3.c3
    go_wp2_with fail
    rw [rounds_succ]
    go_wp2_with fail
    refine (right_any a b c _).mono ?_
    rintro e w4 ⟨rfl, hb4⟩
    rw [HQ.out]
    have hR4 : Blk w4 w.heap.size 27 #[.int .i64 0, .int .i64 0, .int .i64 0] := Blk.keep ((Blk.far hR3 (by simp) _).alloc _) hb4
    have hO4 : Blk w4 w3.heap.size 27 #[.int .i64 a, .int .i64 b, .int .i64 c] := Blk.keep (Blk.new' _ _ _ _ (by simp)) hb4
    have hB4 : Below w.heap.size w w4 := bt (bal (bst hB3 (by simp) _) _) hb4
    have lt3 : w.heap.size < w3.heap.size := lR
    clear lR x0 x1 x2 y0 y1 y2 lN u0 u1 u2 v0 v1 v2
    obtain ⟨lR, x0, x1, x2, y0, y1, y2⟩ := hR4.c3
    obtain ⟨lO, u0, u1, u2, v0, v1, v2⟩ := hO4.c3
    go_wp2
    refine bodyPost_ret (v := .tuple #[stampV a b c, .string ⟨r3.toArray⟩, .int .i64 0]) (by simp [results, Tryz.results69, go_sem, *]) rfl ⟨by rw [HV.out] <;> rfl, ?_⟩
    (repeat (first | with_reducible exact b0 _ | with_reducible assumption | with_reducible refine Below.drew ?_ | with_reducible refine below_drewN ?_ _ | with_reducible refine bal ?_ _ | ((with_reducible refine bst ?_ ?_ _); rotate_left; focus (first | exact Nat.le_refl _ | assumption | (simp; done) | (simp; omega) | omega))))
set_option maxHeartbeats 3200000 in
set_option maxRecDepth 100000 in
theorem refsttake_any (l : List UInt8) (hl : l.length ≤ 281474976710656) (w : World) :
    Calls Tryz.prog 72 #[.string ⟨l.toArray⟩] w fun e w' => e = .returned (.tuple #[stampT (takeStampL l).1, .string ⟨(takeStampL l).2.1.toArray⟩, .int .i64 (takeStampL l).2.2]) ∧ Below w.heap.size w w' := by
  obtain ⟨⟨a, r1, e1⟩, h1⟩ : ∃ x, takeL l = x := ⟨_, rfl⟩
  obtain ⟨⟨b, r2, e2⟩, h2⟩ : ∃ x, takeL r1 = x := ⟨_, rfl⟩
  obtain ⟨⟨c, r3, e3⟩, h3⟩ : ∃ x, takeL r2 = x := ⟨_, rfl⟩
  obtain ⟨s1, a63⟩ := take_shorter _ _ _ _ h1
  obtain ⟨s2, b63⟩ := take_shorter _ _ _ _ h2
  obtain ⟨s3, c63⟩ := take_shorter _ _ _ _ h3
  obtain ⟨q, hq⟩ : ∃ q, rightB a b c = q := ⟨_, rfl⟩
  have H1 := Lib.hid h1
  have H2 := Lib.hid h2
  have H3 := Lib.hid h3
  have HQ := Lib.hid hq
  clear h1 h2 h3 hq
  by_cases z1 : e1 = 0
  case neg =>
    have hv : takeStampL l = ((0, 0, 0), [], e1) := by simp [takeStampL, H1.out, H2.out, H3.out, HQ.out, z1]
    have HV := Lib.hid hv
    clear hv
    have b1 : ((e1 : Int) == 0) = false := by simp; omega
    have b1' : ((e1 : Int) != 0) = true := by simp; omega
    go_enter Tryz.func72, Tryz.ntmps72
    go_wp2_with fail
    refine (reftake_any l (by omega) _).mono ?_
    rintro e w1 ⟨rfl, hb1⟩
    rw [H1.out]
    have hR1 : Blk w1 w.heap.size 27 #[.int .i64 0, .int .i64 0, .int .i64 0] := Blk.keep (Blk.new w _ _) hb1
    have hB1 : Below w.heap.size w w1 := bt (bal (b0 w) _) hb1
    obtain ⟨lR, x0, x1, x2, y0, y1, y2⟩ := hR1.c3
    go_wp2
    refine bodyPost_ret (v := .tuple #[stampV 0 0 0, .string ⟨#[]⟩, .int .i64 e1]) (by simp [results, Tryz.results72, go_sem, *]) rfl ⟨by rw [HV.out] <;> rfl, ?_⟩
    (repeat (first | with_reducible exact b0 _ | with_reducible assumption | with_reducible refine Below.drew ?_ | with_reducible refine below_drewN ?_ _ | with_reducible refine bal ?_ _ | ((with_reducible refine bst ?_ ?_ _); rotate_left; focus (first | exact Nat.le_refl _ | assumption | (simp; done) | (simp; omega) | omega))))
  case pos =>
  subst z1
  by_cases z2 : e2 = 0
  case neg =>
    have hv : takeStampL l = ((0, 0, 0), [], e2) := by simp [takeStampL, H1.out, H2.out, H3.out, HQ.out, z2]
    have HV := Lib.hid hv
    clear hv
    have b2 : ((e2 : Int) == 0) = false := by simp; omega
    have b2' : ((e2 : Int) != 0) = true := by simp; omega
    go_enter Tryz.func72, Tryz.ntmps72
    go_wp2_with fail
    refine (reftake_any l (by omega) _).mono ?_
    rintro e w1 ⟨rfl, hb1⟩
    rw [H1.out]
    have hR1 : Blk w1 w.heap.size 27 #[.int .i64 0, .int .i64 0, .int .i64 0] := Blk.keep (Blk.new w _ _) hb1
    have hB1 : Below w.heap.size w w1 := bt (bal (b0 w) _) hb1
    obtain ⟨lR, x0, x1, x2, y0, y1, y2⟩ := hR1.c3
    go_wp2_with fail
    refine (reftake_any r1 (by omega) _).mono ?_
    rintro e w2 ⟨rfl, hb2⟩
    rw [H2.out]
    have hR2 : Blk w2 w.heap.size 27 #[.int .i64 0, .int .i64 0, .int .i64 0] := Blk.keep hR1 hb2
    have hB2 : Below w.heap.size w w2 := bt hB1 hb2
    clear lR x0 x1 x2 y0 y1 y2
    obtain ⟨lR, x0, x1, x2, y0, y1, y2⟩ := hR2.c3
    go_wp2
    refine bodyPost_ret (v := .tuple #[stampV 0 0 0, .string ⟨#[]⟩, .int .i64 e2]) (by simp [results, Tryz.results72, go_sem, *]) rfl ⟨by rw [HV.out] <;> rfl, ?_⟩
    (repeat (first | with_reducible exact b0 _ | with_reducible assumption | with_reducible refine Below.drew ?_ | with_reducible refine below_drewN ?_ _ | with_reducible refine bal ?_ _ | ((with_reducible refine bst ?_ ?_ _); rotate_left; focus (first | exact Nat.le_refl _ | assumption | (simp; done) | (simp; omega) | omega))))
  case pos =>
  subst z2
  by_cases z3 : e3 = 0
  case neg =>
    have hv : takeStampL l = ((0, 0, 0), [], e3) := by simp [takeStampL, H1.out, H2.out, H3.out, HQ.out, z3]
    have HV := Lib.hid hv
    clear hv
    have b3 : ((e3 : Int) == 0) = false := by simp; omega
    have b3' : ((e3 : Int) != 0) = true := by simp; omega
    go_enter Tryz.func72, Tryz.ntmps72
    go_wp2_with fail
    refine (reftake_any l (by omega) _).mono ?_
    rintro e w1 ⟨rfl, hb1⟩
    rw [H1.out]
    have hR1 : Blk w1 w.heap.size 27 #[.int .i64 0, .int .i64 0, .int .i64 0] := Blk.keep (Blk.new w _ _) hb1
    have hB1 : Below w.heap.size w w1 := bt (bal (b0 w) _) hb1
    obtain ⟨lR, x0, x1, x2, y0, y1, y2⟩ := hR1.c3
    go_wp2_with fail
    refine (reftake_any r1 (by omega) _).mono ?_
    rintro e w2 ⟨rfl, hb2⟩
    rw [H2.out]
    have hR2 : Blk w2 w.heap.size 27 #[.int .i64 0, .int .i64 0, .int .i64 0] := Blk.keep hR1 hb2
    have hB2 : Below w.heap.size w w2 := bt hB1 hb2
    clear lR x0 x1 x2 y0 y1 y2
    obtain ⟨lR, x0, x1, x2, y0, y1, y2⟩ := hR2.c3
    go_wp2_with fail
    refine (reftake_any r2 (by omega) _).mono ?_
    rintro e w3 ⟨rfl, hb3⟩
    rw [H3.out]
    have hR3 : Blk w3 w.heap.size 27 #[.int .i64 0, .int .i64 0, .int .i64 0] := Blk.keep hR2 hb3
    have hB3 : Below w.heap.size w w3 := bt hB2 hb3
    clear lR x0 x1 x2 y0 y1 y2
    obtain ⟨lR, x0, x1, x2, y0, y1, y2⟩ := hR3.c3
    go_wp2
    refine bodyPost_ret (v := .tuple #[stampV 0 0 0, .string ⟨#[]⟩, .int .i64 e3]) (by simp [results, Tryz.results72, go_sem, *]) rfl ⟨by rw [HV.out] <;> rfl, ?_⟩
    (repeat (first | with_reducible exact b0 _ | with_reducible assumption | with_reducible refine Below.drew ?_ | with_reducible refine below_drewN ?_ _ | with_reducible refine bal ?_ _ | ((with_reducible refine bst ?_ ?_ _); rotate_left; focus (first | exact Nat.le_refl _ | assumption | (simp; done) | (simp; omega) | omega))))
  case pos =>
  subst z3
  cases q
  case false =>
    have hv : takeStampL l = ((0, 0, 0), [], 3) := by simp [takeStampL, H1.out, H2.out, H3.out, HQ.out]
    have HV := Lib.hid hv
    clear hv
    go_enter Tryz.func72, Tryz.ntmps72
    go_wp2_with fail
    refine (reftake_any l (by omega) _).mono ?_
    rintro e w1 ⟨rfl, hb1⟩
    rw [H1.out]
    have hR1 : Blk w1 w.heap.size 27 #[.int .i64 0, .int .i64 0, .int .i64 0] := Blk.keep (Blk.new w _ _) hb1
    have hB1 : Below w.heap.size w w1 := bt (bal (b0 w) _) hb1
    obtain ⟨lR, x0, x1, x2, y0, y1, y2⟩ := hR1.c3
    go_wp2_with fail
    refine (reftake_any r1 (by omega) _).mono ?_
    rintro e w2 ⟨rfl, hb2⟩
    rw [H2.out]
    have hR2 : Blk w2 w.heap.size 27 #[.int .i64 0, .int .i64 0, .int .i64 0] := Blk.keep hR1 hb2
    have hB2 : Below w.heap.size w w2 := bt hB1 hb2
    clear lR x0 x1 x2 y0 y1 y2
    obtain ⟨lR, x0, x1, x2, y0, y1, y2⟩ := hR2.c3
    go_wp2_with fail
    refine (reftake_any r2 (by omega) _).mono ?_
    rintro e w3 ⟨rfl, hb3⟩
    rw [H3.out]
    have hR3 : Blk w3 w.heap.size 27 #[.int .i64 0, .int .i64 0, .int .i64 0] := Blk.keep hR2 hb3
    have hB3 : Below w.heap.size w w3 := bt hB2 hb3
    clear lR x0 x1 x2 y0 y1 y2
    obtain ⟨lR, x0, x1, x2, y0, y1, y2⟩ := hR3.c3
    go_wp2_with fail
    refine (refright_any a b c _).mono ?_
    rintro e w4 ⟨rfl, hb4⟩
    rw [HQ.out]
    have hR4 : Blk w4 w.heap.size 27 #[.int .i64 0, .int .i64 0, .int .i64 0] := Blk.keep (hR3.alloc _) hb4
    have hO4 : Blk w4 w3.heap.size 27 #[.int .i64 a, .int .i64 b, .int .i64 c] := Blk.keep (Blk.new' _ _ _ _ (by simp)) hb4
    have hB4 : Below w.heap.size w w4 := bt (bal hB3 _) hb4
    have lt3 : w.heap.size < w3.heap.size := lR
    clear lR x0 x1 x2 y0 y1 y2
    obtain ⟨lR, x0, x1, x2, y0, y1, y2⟩ := hR4.c3
    obtain ⟨lO, u0, u1, u2, v0, v1, v2⟩ := hO4.c3
    go_wp2
    refine bodyPost_ret (v := .tuple #[stampV 0 0 0, .string ⟨#[]⟩, .int .i64 3]) (by simp [results, Tryz.results72, go_sem, *]) rfl ⟨by rw [HV.out] <;> rfl, ?_⟩
    (repeat (first | with_reducible exact b0 _ | with_reducible assumption | with_reducible refine Below.drew ?_ | with_reducible refine below_drewN ?_ _ | with_reducible refine bal ?_ _ | ((with_reducible refine bst ?_ ?_ _); rotate_left; focus (first | exact Nat.le_refl _ | assumption | (simp; done) | (simp; omega) | omega))))
  case true =>
    have hv : takeStampL l = (((a : Int), (b : Int), (c : Int)), r3, 0) := by simp [takeStampL, H1.out, H2.out, H3.out, HQ.out]
    have HV := Lib.hid hv
    clear hv
    go_enter Tryz.func72, Tryz.ntmps72
    go_wp2_with fail
    refine (reftake_any l (by omega) _).mono ?_
    rintro e w1 ⟨rfl, hb1⟩
    rw [H1.out]
    have hR1 : Blk w1 w.heap.size 27 #[.int .i64 0, .int .i64 0, .int .i64 0] := Blk.keep (Blk.new w _ _) hb1
    have hB1 : Below w.heap.size w w1 := bt (bal (b0 w) _) hb1
    obtain ⟨lR, x0, x1, x2, y0, y1, y2⟩ := hR1.c3
    go_wp2_with fail
    refine (reftake_any r1 (by omega) _).mono ?_
    rintro e w2 ⟨rfl, hb2⟩
    rw [H2.out]
    have hR2 : Blk w2 w.heap.size 27 #[.int .i64 0, .int .i64 0, .int .i64 0] := Blk.keep hR1 hb2
    have hB2 : Below w.heap.size w w2 := bt hB1 hb2
    clear lR x0 x1 x2 y0 y1 y2
    obtain ⟨lR, x0, x1, x2, y0, y1, y2⟩ := hR2.c3
    go_wp2_with fail
    refine (reftake_any r2 (by omega) _).mono ?_
    rintro e w3 ⟨rfl, hb3⟩
    rw [H3.out]
    have hR3 : Blk w3 w.heap.size 27 #[.int .i64 0, .int .i64 0, .int .i64 0] := Blk.keep hR2 hb3
    have hB3 : Below w.heap.size w w3 := bt hB2 hb3
    clear lR x0 x1 x2 y0 y1 y2
    obtain ⟨lR, x0, x1, x2, y0, y1, y2⟩ := hR3.c3
    go_wp2_with fail
    refine (refright_any a b c _).mono ?_
    rintro e w4 ⟨rfl, hb4⟩
    rw [HQ.out]
    have hR4 : Blk w4 w.heap.size 27 #[.int .i64 0, .int .i64 0, .int .i64 0] := Blk.keep (hR3.alloc _) hb4
    have hO4 : Blk w4 w3.heap.size 27 #[.int .i64 a, .int .i64 b, .int .i64 c] := Blk.keep (Blk.new' _ _ _ _ (by simp)) hb4
    have hB4 : Below w.heap.size w w4 := bt (bal hB3 _) hb4
    have lt3 : w.heap.size < w3.heap.size := lR
    clear lR x0 x1 x2 y0 y1 y2
    obtain ⟨lR, x0, x1, x2, y0, y1, y2⟩ := hR4.c3
    obtain ⟨lO, u0, u1, u2, v0, v1, v2⟩ := hO4.c3
    go_wp2
    refine bodyPost_ret (v := .tuple #[stampV a b c, .string ⟨r3.toArray⟩, .int .i64 0]) (by simp [results, Tryz.results72, go_sem, *]) rfl ⟨by rw [HV.out] <;> rfl, ?_⟩
    (repeat (first | with_reducible exact b0 _ | with_reducible assumption | with_reducible refine Below.drew ?_ | with_reducible refine below_drewN ?_ _ | with_reducible refine bal ?_ _ | ((with_reducible refine bst ?_ ?_ _); rotate_left; focus (first | exact Nat.le_refl _ | assumption | (simp; done) | (simp; omega) | omega))))
end Go.Proofs.YtkoligiilieboaaGreatDoor
namespace Go.Proofs.YtkoligiilieboaaGreatDoor
open Go.RowKit
attribute [local go_sem] ByteArray.extract_mk ByteArray.mk_append_mk
def bytesS (a t n : Int) : List UInt8 × Nat := if rightB a t n = true then (numsB [a, t, n], 0) else ([], 1)
theorem right_pos (a t n : Int) (h : rightB a t n = true) : (0 ≤ a ∧ a ≤ 1099511627776) ∧ (0 ≤ t ∧ t ≤ 1048576) ∧ (0 ≤ n ∧ n ≤ 255) := by
  unfold rightB withinB at h
  simpa [and_assoc] using h
theorem nums3_ok (a t n : Int) (h : rightB a t n = true) : numsI [a, t, n] = (numsB [a, t, n], 0) := by
  have := right_pos a t n h
  apply numsI_ok
  unfold badL
  simp
  omega
theorem rd_blk3 {w : World} {g B : Nat} {t : TypeId} {c0 c1 c2 : Value} (h : Blk w g t #[c0, c1, c2]) (hg : g < B) : Rd w B 1 (some ⟨g, 0, none⟩) 3 [c0, c1, c2] := by
  refine ⟨rfl, fun _ => ⟨g, 0, rfl, hg, fun j u hu => ?_⟩⟩
  rw [Nat.zero_add, h.cell j]
  simpa using hu
theorem refput_int (n : Int) (h : n ≤ 9223372036854775807) (w : World) :
    Calls Tryz.prog 91 #[.int .i64 n] w fun e w' => e = .returned (.tuple #[.string ⟨(putI n).1.toArray⟩, .int .i64 (putI n).2]) ∧ Below w.heap.size w w' := by
  by_cases h0 : n < 0
  · rw [putI_neg n h0]
    exact (refput_neg n h0 w).mono fun _ _ ⟨he, hw⟩ => ⟨he, hw ▸ Below.refl _ _⟩
  · obtain ⟨m, rfl⟩ := Int.eq_ofNat_of_zero_le (show 0 ≤ n by omega)
    rw [putI_nat]
    exact refput_any m (by omega) w
set_option maxHeartbeats 800000 in
set_option maxRecDepth 100000 in
theorem stbytes_any (a t n : Int) (w : World) :
    Calls Tryz.prog 95 #[stampV a t n] w fun e w' => e = .returned (.tuple #[.string ⟨(bytesS a t n).1.toArray⟩, .int .i64 (bytesS a t n).2]) ∧ Below w.heap.size w w' := by
  obtain ⟨q, hq⟩ : ∃ q, rightB a t n = q := ⟨_, rfl⟩
  cases q
  · have hv : bytesS a t n = ([], 1) := by unfold bytesS; rw [hq]; rfl
    have HV := Lib.hid hv
    have HQ := Lib.hid hq
    clear hv hq
    go_enter Tryz.func95, Tryz.ntmps95
    go_wp2_with fail
    refine (right_any a t n _).mono ?_
    rintro e w1 ⟨rfl, hb1⟩
    rw [HQ.out]
    go_wp2
    go_ret2
    exact ⟨by rw [HV.out]; rfl, bt (bal (b0 w) _) hb1⟩
  · have hv : bytesS a t n = (numsB [a, t, n], 0) := by unfold bytesS; rw [hq]; rfl
    have hn := nums3_ok a t n hq
    obtain ⟨⟨p1, p2⟩, ⟨p3, p4⟩, ⟨p5, p6⟩⟩ := right_pos a t n hq
    have HV := Lib.hid hv
    have HQ := Lib.hid hq
    have HN := Lib.hid hn
    clear hv hq hn
    go_enter Tryz.func95, Tryz.ntmps95
    go_wp2_with fail
    refine (right_any a t n _).mono ?_
    rintro e w1 ⟨rfl, hb1⟩
    rw [HQ.out]
    have hA : Blk w1 w.heap.size 27 #[.int .i64 a, .int .i64 t, .int .i64 n] := Blk.keep (Blk.new w _ _) hb1
    have hB1 : Below w.heap.size w w1 := bt (bal (b0 w) _) hb1
    obtain ⟨lA, x0, x1, x2, _, _, _⟩ := hA.c3
    have hz : ∀ z ∈ [a, t, n], z ≤ 9223372036854775807 := by
      intro z hz
      simp at hz
      omega
    have hr3 := rd_blk3 (B := w1.heap.size + 1) (Blk.new w1 3 #[.int .i64 a, .int .i64 t, .int .i64 n]) (by omega)
    have HZ := Lib.hid hz
    have HR3 := Lib.hid hr3
    clear hz hr3
    go_wp2_with fail
    refine (numbers_any [a, t, n] (some ⟨w1.heap.size, 0, none⟩) 3 3 _ rfl (by omega) HZ.out (by have h := HR3.out; simpa using h)).mono ?_
    rintro e w2 ⟨rfl, hb2⟩
    rw [HN.out]
    go_wp2
    go_ret2
    exact ⟨by rw [HV.out]; rfl, bt (bal hB1 _) hb2⟩
set_option maxHeartbeats 800000 in
set_option maxRecDepth 100000 in
theorem refstbytes_any (a t n : Int) (hq : rightB a t n = true) (w : World) :
    Calls Tryz.prog 93 #[stampV a t n] w fun e w' => e = .returned (.string ⟨(numsB [a, t, n]).toArray⟩) ∧ Below w.heap.size w w' := by
  obtain ⟨⟨p1, p2⟩, ⟨p3, p4⟩, ⟨p5, p6⟩⟩ := right_pos a t n hq
  clear hq
  have hn : numsB [a, t, n] = (putI a).1 ++ ((putI t).1 ++ (putI n).1) := by simp [numsB]
  have la := putI_len a
  have lt := putI_len t
  have ln := putI_len n
  obtain ⟨⟨sa, ea⟩, hsa⟩ : ∃ x, putI a = x := ⟨_, rfl⟩
  obtain ⟨⟨st, et⟩, hst⟩ : ∃ x, putI t = x := ⟨_, rfl⟩
  obtain ⟨⟨sn, en⟩, hsn⟩ : ∃ x, putI n = x := ⟨_, rfl⟩
  rw [hsa] at la hn
  rw [hst] at lt hn
  rw [hsn] at ln hn
  simp only at la lt ln hn
  have HA := Lib.hid hsa
  have HT := Lib.hid hst
  have HS := Lib.hid hsn
  have HN := Lib.hid hn
  clear hsa hst hsn hn
  go_enter Tryz.func93, Tryz.ntmps93
  go_wp2_with fail
  refine (refput_int a (by omega) _).mono ?_
  rintro e w1 ⟨rfl, hb1⟩
  rw [HA.out]
  have hA : Blk w1 w.heap.size 27 #[.int .i64 a, .int .i64 t, .int .i64 n] := Blk.keep (Blk.new w _ _) hb1
  have hB1 : Below w.heap.size w w1 := bt (bal (b0 w) _) hb1
  obtain ⟨lA, x0, x1, x2, _, _, _⟩ := hA.c3
  go_wp2_with fail
  refine (refput_int t (by omega) _).mono ?_
  rintro e w2 ⟨rfl, hb2⟩
  rw [HT.out]
  have hA2 := hA.keep hb2
  clear lA x0 x1 x2 hA
  obtain ⟨lA, x0, x1, x2, _, _, _⟩ := hA2.c3
  go_wp2_with fail
  refine (refput_int n (by omega) _).mono ?_
  rintro e w3 ⟨rfl, hb3⟩
  rw [HS.out]
  go_wp2
  go_ret
  exact ⟨by rw [HN.out]; simp, bt (bt hB1 hb2) hb3⟩
end Go.Proofs.YtkoligiilieboaaGreatDoor
