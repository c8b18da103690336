/- The walks of the digits to the base 16: the program's digit, the document's hex and value. -/
import Derived.Test.YtclddkdchlcpeaaDoorKey3
import Derived.Test.YtclddkdchlcpeaaDoorKRightW
import Derived.Test.YtclddkdchlcpeaaDoorShelf09
import Derived.RegionTactic
import Derived.ChangeAlike
import Derived.Deep.QuietTactic
import Derived.BigQuiet
namespace Go.Proofs.YtclddkdchlcpeaaDoor
open Go.RowKit
attribute [local go_sem] ByteArray.mk_append_mk ByteArray.extract_mk
theorem value_any (b : Nat) (hb : b < 256) (w : World) : Calls Tryd.prog 31 #[.int .u8 (b : Nat)] w fun e w' => e = .returned (.int .i64 (valL (UInt8.ofNat b))) ∧ w = w' := by
  have e : (UInt8.ofNat b).toNat = b := by simp; omega
  by_cases h1 : 48 ≤ b
  case neg =>
    have hv : valL (UInt8.ofNat b) = 99 := by unfold valL; rw [e, if_neg (by omega), if_neg (by omega)]
    have HV := Lib.hid hv
    clear hv e
    have h2 : (b : Int) < 48 := by omega
    have h3 : (b : Int) < 65 := by omega
    go_enter Tryd.func31, Tryd.ntmps31
    go_wp2
    go_ret
    exact ⟨by rw [HV.out]; rfl, rfl⟩
  case pos =>
    by_cases h2 : b ≤ 57
    case pos =>
      have hv : ((valL (UInt8.ofNat b) : Nat) : Int) = (b : Int) - 48 := by unfold valL; rw [e, if_pos (by omega)]; omega
      have HV := Lib.hid hv
      clear hv e
      have h3 : (48 : Int) ≤ (b : Int) := by omega
      have h4 : (b : Int) ≤ 57 := by omega
      go_enter Tryd.func31, Tryd.ntmps31
      go_wp2
      go_ret
      exact ⟨by rw [HV.out] <;> rfl, rfl⟩
    case neg =>
      have h3 : (48 : Int) ≤ (b : Int) := by omega
      have h4 : ¬ ((b : Int) ≤ 57) := by omega
      by_cases h5 : 65 ≤ b
      case neg =>
        have hv : valL (UInt8.ofNat b) = 99 := by unfold valL; rw [e, if_neg (by omega), if_neg (by omega)]
        have HV := Lib.hid hv
        clear hv e
        have h6 : (b : Int) < 65 := by omega
        go_enter Tryd.func31, Tryd.ntmps31
        go_wp2
        go_ret
        exact ⟨by rw [HV.out]; rfl, rfl⟩
      case pos =>
        have h6 : (65 : Int) ≤ (b : Int) := by omega
        by_cases h7 : b ≤ 70
        case pos =>
          have hv : ((valL (UInt8.ofNat b) : Nat) : Int) = (b : Int) - 65 + 10 := by unfold valL; rw [e, if_neg (by omega), if_pos (by omega)]; omega
          have HV := Lib.hid hv
          clear hv e
          have h8 : (b : Int) ≤ 70 := by omega
          go_enter Tryd.func31, Tryd.ntmps31
          go_wp2
          go_ret
          exact ⟨by rw [HV.out] <;> rfl, rfl⟩
        case neg =>
          have hv : valL (UInt8.ofNat b) = 99 := by unfold valL; rw [e, if_neg (by omega), if_neg (by omega)]
          have HV := Lib.hid hv
          clear hv e
          have h8 : ¬ ((b : Int) ≤ 70) := by omega
          go_enter Tryd.func31, Tryd.ntmps31
          go_wp2
          go_ret
          exact ⟨by rw [HV.out]; rfl, rfl⟩
def digitsB : ByteArray := ⟨#[48, 49, 50, 51, 52, 53, 54, 55, 56, 57, 65, 66, 67, 68, 69, 70]⟩
theorem index_val (b : Nat) (hb : b < 256) : Lib.indexByte digitsB.data.toList (UInt8.ofNat b) = if valL (UInt8.ofNat b) = 99 then -1 else (valL (UInt8.ofNat b) : Int) := by
  have h : ∀ b : Fin 256, Lib.indexByte digitsB.data.toList (UInt8.ofNat b.val) = if valL (UInt8.ofNat b.val) = 99 then -1 else (valL (UInt8.ofNat b.val) : Int) := by decide +kernel
  exact h ⟨b, hb⟩
def digT (b : Nat) : Value := .tuple #[.int .u8 (if valL (UInt8.ofNat b) = 99 then 255 else (valL (UInt8.ofNat b) : Int)), .bool (!decide (valL (UInt8.ofNat b) = 99))]
theorem digit_any (b : Nat) (hb : b < 256) (w : World) : Calls Tryd.prog 30 #[.int .u8 (b : Nat)] w fun e w' => e = .returned (digT b) ∧ w = w' := by
  have C : Calls Tryd.prog 35 #[.string digitsB, .int .u8 (b : Nat)] w fun e w' => e = .returned (.int .i64 (if valL (UInt8.ofNat b) = 99 then -1 else (valL (UInt8.ofNat b) : Int))) ∧ w = w' := by
    have h := Tryd.strings_IndexByte digitsB (b : Nat) w
    rw [show ((b : Nat) : Int).toNat.toUInt8 = UInt8.ofNat b from rfl, index_val b hb] at h
    exact h.mono fun e w' x => ⟨x.1, x.2.symm⟩
  unfold digT
  obtain ⟨v, hv⟩ : ∃ v, valL (UInt8.ofNat b) = v := ⟨_, rfl⟩
  have hv16 := val_lt (UInt8.ofNat b)
  rw [hv] at C hv16 ⊢
  clear hv
  by_cases h : v = 99
  case pos =>
    subst h
    rw [if_pos rfl] at C ⊢
    go_enter Tryd.func30, Tryd.ntmps30
    go_wp2_with fail
    refine C.mono ?_
    rintro e w1 ⟨rfl, rfl⟩
    go_wp2
    go_ret2
    exact ⟨rfl, rfl⟩
  case neg =>
    have hlt := hv16 h
    rw [if_neg h] at C ⊢
    have hd : decide (v = 99) = false := by simp [h]
    rw [hd]
    clear hd h hv16
    go_enter Tryd.func30, Tryd.ntmps30
    go_wp2_with fail
    refine C.mono ?_
    rintro e w1 ⟨rfl, rfl⟩
    have hw : IntKind.u8.wrap (v : Int) = v := by rw [IntKind.wrap_u8]; omega
    have h0 : (0 : Int) ≤ (v : Int) := by omega
    go_wp2
    go_ret2
    exact ⟨rfl, rfl⟩
theorem digs_cut (q : Nat) (hq : q < 16) : digitsB.extract q (q + 1) = ⟨[digL q].toArray⟩ := by
  have h : ∀ q : Fin 16, digitsB.extract q.val (q.val + 1) = ⟨[digL q.val].toArray⟩ := by decide +kernel
  exact h ⟨q, hq⟩
set_option maxHeartbeats 400000 in
set_option maxRecDepth 100000 in
theorem hex_any (b : Nat) (hb : b < 256) (w : World) : Calls Tryd.prog 29 #[.int .u8 (b : Nat)] w fun e w' => e = .returned (.string ⟨(hexL (UInt8.ofNat b)).toArray⟩) ∧ Below w.heap.size w w' := by
  have hq1 : b / 16 < 16 := by omega
  have hq2 : b % 16 < 16 := by omega
  have s1 : ∀ w, (Instr.slice 9 (.string digitsB) (some (.int .u8 ((b : Int) / 16))) (some (.int .u8 ((b : Int) / 16 + 1))) none).run Tryd.prog w = .ok (.string ⟨[digL (b / 16)].toArray⟩) w := fun w => by
    rw [run_slice_string w _ _ _ _ _ _ Tryd.underlying9 (by omega) (by omega) (by have : digitsB.size = 16 := rfl; omega)]
    rw [show ((b : Int) / 16).toNat = b / 16 by omega, show ((b : Int) / 16 + 1).toNat = b / 16 + 1 by omega, digs_cut _ hq1]
  have s2 : ∀ w, (Instr.slice 9 (.string digitsB) (some (.int .u8 ((b : Int) % 16))) (some (.int .u8 ((b : Int) % 16 + 1))) none).run Tryd.prog w = .ok (.string ⟨[digL (b % 16)].toArray⟩) w := fun w => by
    rw [run_slice_string w _ _ _ _ _ _ Tryd.underlying9 (by omega) (by omega) (by have : digitsB.size = 16 := rfl; omega)]
    rw [show ((b : Int) % 16).toNat = b % 16 by omega, show ((b : Int) % 16 + 1).toNat = b % 16 + 1 by omega, digs_cut _ hq2]
  have hv : hexL (UInt8.ofNat b) = [37, digL (b / 16), digL (b % 16)] := by
    have e : (UInt8.ofNat b).toNat = b := by simp; omega
    unfold hexL
    rw [e]
  have HV := Lib.hid hv
  clear hv
  have b0 : (0 : Int) ≤ (b : Int) := by omega
  have b1 : (b : Int) < 256 := by omega
  have u1 : IntKind.u8.wrap ((b : Int) / 16 + 1) = (b : Int) / 16 + 1 := by rw [IntKind.wrap_u8]; omega
  have u2 : IntKind.u8.wrap ((b : Int) % 16 + 1) = (b : Int) % 16 + 1 := by rw [IntKind.wrap_u8]; omega
  have u3 : IntKind.u8.wrap ((b : Int) / 16) = (b : Int) / 16 := by rw [IntKind.wrap_u8]; omega
  have u4 : IntKind.u8.wrap ((b : Int) % 16) = (b : Int) % 16 := by rw [IntKind.wrap_u8]; omega
  unfold digitsB at s1 s2
  go_enter Tryd.func29, Tryd.ntmps29
  go_wp2
  go_quiet (fail)
  go_wp2
  go_ret
  exact ⟨by rw [HV.out] <;> rfl, below_drewN (Below.refl _ _) nq⟩
end Go.Proofs.YtclddkdchlcpeaaDoor
