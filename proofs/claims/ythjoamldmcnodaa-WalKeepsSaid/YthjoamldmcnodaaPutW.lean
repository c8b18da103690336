/- The walk through pack.Put: a number is written as the plain law says. -/
import Derived.Test.YthjoamldmcnodaaProg
import Derived.Test.YthjoamldmcnodaaPack
import Derived.Test.YthjoamldmcnodaaOwn
import Derived.Outline
namespace Go.Proofs.Ythjoamldmcnodaa
open Go.RowKit
theorem infoU8 : (Try.prog.info? 5).map (fun i => (i.zero, i.size, i.bytes)) = some (some (.int .u8 0), 1, 1) := by kernel_rfl
theorem putF_step (f m : Nat) (hm : 128 ≤ m) (hf : m < 128 ^ f) : ∃ f', f = f' + 1 ∧ putF f m = UInt8.ofNat (m % 128 + 128) :: putF f' (m / 128) ∧ m / 128 < 128 ^ f' := by
  cases f with
  | zero => simp at hf; omega
  | succ f =>
    refine ⟨f, rfl, ?_, ?_⟩
    · rw [putF, if_neg (by omega)]
    · rw [Nat.pow_succ] at hf; omega
theorem putF_stop (f m : Nat) (hm : m < 128) (hf : m < 128 ^ f) (h0 : 0 < f) : putF f m = [UInt8.ofNat m] := by
  cases f with
  | zero => omega
  | succ f => rw [putF, if_pos hm]
theorem or128 : ∀ x : Fin 256, x.val ||| 128 = x.val % 128 + 128 := by decide +kernel
theorem byte_or (m : Nat) : bits .or .u8 ((m : Int) % 256) 128 = (((m % 128 + 128 : Nat)) : Int) := by
  have h := u8_or_nat (m % 256) 128 (by omega) (by omega)
  have e : ((m : Int) % 256) = ((m % 256 : Nat) : Int) := by omega
  rw [e]
  refine h.trans ?_
  congr 1
  have h1 := or128 ⟨m % 256, by omega⟩
  simp only at h1
  omega
set_option maxHeartbeats 400000 in
theorem put_neg (n : Int) (h : n < 0) (w : World) : Calls Try.prog 44 #[.int .i64 n] w fun e w' => e = .returned (.tuple #[.string ⟨#[]⟩, .int .i64 1]) ∧ w = w' := by
  go_enter Try.func44, Try.ntmps44
  go_wp2
  go_ret2
  exact ⟨rfl, rfl⟩
def PutRel (n : Nat) (w : World) (x v : Value) (wr : World) : Prop :=
  ∃ (m f : Nat) (pre : List UInt8), x = .int .i64 m ∧ m < 128 ^ f ∧ pre.length + f = 9 ∧ 0 < f ∧ putL n = pre ++ putF f m ∧
      wr.ownsRow w.heap.size 5 1 v pre.length (pre.map bv) ∧ Below w.heap.size w wr
set_option maxHeartbeats 400000 in
set_option maxRecDepth 10000 in
theorem put_any (n : Nat) (h : n ≤ 9223372036854775807) (w : World) :
    Calls Try.prog 44 #[.int .i64 n] w fun e w' => e = .returned (.tuple #[.string ⟨(putL n).toArray⟩, .int .i64 0]) ∧ Below w.heap.size w w' := by
  have hn0 : ¬ ((n : Int) < 0) := by omega
  obtain ⟨i0, hi, hz0, hz1, hz2⟩ := info_parts infoU8
  have HH := Lib.hid h
  clear h
  go_enter Try.func44, Try.ntmps44
  go_wp2
  go_loopw [0, 4] (fun x v wr => PutRel n w x v wr) (fun x _ _ => (intOf x).toNat)
  case atStart => exact ⟨n, 9, [], rfl, by have := HH.out; omega, rfl, by omega, rfl, World.ownsRow_nil _ _ _ _, Below.refl _ _⟩
  case round =>
    obtain ⟨m, f, pre, rfl, hf, hpf, hf0, hput, hown, hb⟩ := hrel
    by_cases hlt : 128 ≤ m
    · obtain ⟨f', rfl, hstep, hf'⟩ := putF_step f m hlt hf
      have hbo := byte_or m
      rw [hstep] at hput
      have HP := Lib.hid hput
      have HF := Lib.hid hf
      have HF' := Lib.hid hf'
      have HL := Lib.hid hpf
      have hpl : pre.length ≤ 9 := by omega
      have hbs := hb.size
      clear hput hf hf' hpf hstep
      go_wp2_with (at_builtin; refine wpList_push (by rfl) _ _ _ (by rfl) w.heap.size 5 i0 (.int .u8 0) 1 Try.underlying72 hi hz0 hz1 hz2 rfl wr _ pre.length (pre.map bv) (by rfl) hown (.int .u8 ((m : Int) % 128 + 128)) rfl 1 (by rfl) (by omega) (by omega) hbs ?_; intro g cap w1 hown1 hb1)
      go_roundw
      case rel =>
        refine ⟨m / 128, f', pre ++ [UInt8.ofNat (m % 128 + 128)], by go_num, HF'.out, by have := HL.out; simp; omega, ?_, by rw [HP.out]; simp, ?_, hb.trans hb1⟩
        · have h1 := HF.out
          rcases Nat.eq_zero_or_pos f' with h0 | h0
          · subst h0; omega
          · exact h0
        · rw [List.map_append, List.length_append]
          have hbv : [UInt8.ofNat (m % 128 + 128)].map bv = [.int .u8 ((m : Int) % 128 + 128)] := by rw [List.map_cons, List.map_nil, bv_ofNat _ (by omega), show ((m % 128 + 128 : Nat) : Int) = (m : Int) % 128 + 128 from by omega]
          rw [hbv]
          exact hown1
      case measure => simp [intOf]; omega
    · have hbs := hb.size
      have hst := putF_stop f m (by omega) hf hf0
      rw [hst] at hput
      have HP := Lib.hid hput
      have HL := Lib.hid hpf
      have hpl : pre.length ≤ 9 := by omega
      have hlt : (m : Int) < 128 := by omega
      have hm0 : (m : Int) % 256 = m := by omega
      have hmc : bv (UInt8.ofNat m) = .int .u8 m := bv_ofNat m (by omega)
      clear hput hst hf hpf
      go_wp2_with (at_builtin; refine wpList_push (by rfl) _ _ _ (by rfl) w.heap.size 5 i0 (.int .u8 0) 1 Try.underlying72 hi hz0 hz1 hz2 rfl wr _ pre.length (pre.map bv) (by rfl) hown (.int .u8 (m : Int)) rfl 1 (by rfl) (by omega) (by omega) hbs ?_; intro g cap w1 hown1 hb1; have kc := run_conv_own (P := Try.prog) w1 Try.underlying72 Try.underlying5 Try.underlying9 (xs := pre ++ [UInt8.ofNat m]) (by rw [List.map_append, List.map_cons, List.map_nil, hmc]; exact hown1))
      go_ret2
      exact ⟨by rw [HP.out]; rfl, hb.trans hb1⟩
/-- any int: written, or refused -/
def putI (n : Int) : List UInt8 × Nat := if n < 0 then ([], 1) else (putL n.toNat, 0)
theorem putI_neg (n : Int) (h : n < 0) : putI n = ([], 1) := by unfold putI; rw [if_pos h]
theorem putI_nat (n : Nat) : putI (n : Int) = (putL n, 0) := by unfold putI; rw [if_neg (by omega)]; rfl
theorem put_int (n : Int) (h : n ≤ 9223372036854775807) (w : World) :
    Calls Try.prog 44 #[.int .i64 n] w fun e w' => e = .returned (.tuple #[.string ⟨(putI n).1.toArray⟩, .int .i64 (putI n).2]) ∧ Below w.heap.size w w' := by
  by_cases h0 : n < 0
  · rw [putI_neg n h0]
    exact (put_neg n h0 w).mono fun _ _ ⟨he, hw⟩ => ⟨he, hw ▸ Below.refl _ _⟩
  · obtain ⟨m, rfl⟩ := Int.eq_ofNat_of_zero_le (show 0 ≤ n by omega)
    rw [putI_nat]
    exact put_any m (by omega) w
end Go.Proofs.Ythjoamldmcnodaa
