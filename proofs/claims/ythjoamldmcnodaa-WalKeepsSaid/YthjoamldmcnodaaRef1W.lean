/- The walks through the document's digits, Put and Take: the same numbers as the plain law. -/
import Derived.Test.YthjoamldmcnodaaPutW
import Derived.Test.YthjoamldmcnodaaTakeW
import Derived.Outline
namespace Go.Proofs.Ythjoamldmcnodaa
open Go.RowKit
theorem infoInt : (Try.prog.info? 3).map (fun i => (i.zero, i.size, i.bytes)) = some (some (.int .i64 0), 1, 8) := by kernel_rfl
def DigRel (n : Nat) (w : World) (x v : Value) (wr : World) : Prop :=
  ∃ (m f : Nat) (pre : List Nat), x = .int .i64 m ∧ m < 128 ^ f ∧ pre.length + f = 9 ∧ digF 9 n = pre ++ (if m = 0 then [] else digF f m) ∧
      wr.ownsRow w.heap.size 3 1 v pre.length (pre.map iv) ∧ Below w.heap.size w wr
theorem dig_first (n : Nat) (h : n < 128 ^ 9) : digF 9 n = [n % 128] ++ (if n / 128 = 0 then [] else digF 8 (n / 128)) := by
  rw [digF]
  by_cases hn : n < 128
  · rw [if_pos hn, if_pos (by omega)]; simp; omega
  · rw [if_neg hn, if_neg (by omega)]; rfl
theorem dig_step (f m : Nat) (hm : 0 < m) (hf : m < 128 ^ f) : ∃ f', f = f' + 1 ∧ m / 128 < 128 ^ f' ∧ (if m = 0 then [] else digF f m) = [m % 128] ++ (if m / 128 = 0 then [] else digF f' (m / 128)) := by
  cases f with
  | zero => simp at hf; omega
  | succ f =>
    refine ⟨f, rfl, by rw [Nat.pow_succ] at hf; omega, ?_⟩
    rw [if_neg (by omega), digF]
    by_cases hn : m < 128
    · rw [if_pos hn, if_pos (by omega)]; simp; omega
    · rw [if_neg hn, if_neg (by omega)]; rfl
set_option maxHeartbeats 400000 in
set_option maxRecDepth 100000 in
theorem digits_any (n : Nat) (h : n ≤ 9223372036854775807) (w : World) :
    Calls Try.prog 49 #[.int .i64 n] w fun e w' => ∃ g cap, e = .returned (.slice (some ⟨g, 0, none⟩) (digF 9 n).length cap) ∧
      w'.ownsRow w.heap.size 3 1 (.slice (some ⟨g, 0, none⟩) (digF 9 n).length cap) (digF 9 n).length ((digF 9 n).map iv) ∧ Below w.heap.size w w' := by
  obtain ⟨i0, hi, hz0, hz1, hz2⟩ := info_parts infoInt
  have hlit := own_lit w w.heap.size 3 [.int .i64 ((n : Int) % 128)] 1 rfl (by omega) (Nat.le_refl _)
  have HL := Lib.hid hlit
  clear hlit
  go_enter Try.func49, Try.ntmps49
  go_wp2
  go_loopw [0, 3] (fun x v wr => DigRel n w x v wr) (fun x _ _ => (intOf x).toNat)
  case atStart =>
    refine ⟨n / 128, 8, [n % 128], by go_num, by omega, rfl, dig_first n (by omega), ?_, (Below.refl _ _).alloc (Nat.le_refl _) _⟩
    have := HL.out
    simpa [iv] using this
  case round =>
    obtain ⟨m, f, pre, rfl, hf, hpf, hput, hown, hb⟩ := hrel
    have hm63 : m ≤ 9223372036854775807 := by
      have := Nat.pow_le_pow_right (show 0 < 128 by omega) (show f ≤ 9 by omega)
      omega
    by_cases hlt : 0 < m
    · obtain ⟨f', rfl, hf', hstep⟩ := dig_step f m hlt hf
      rw [hstep] at hput
      have HP := Lib.hid hput
      have HF' := Lib.hid hf'
      have HL := Lib.hid hpf
      have hpl : pre.length ≤ 9 := by omega
      have hbs := hb.size
      clear hput hf hf' hpf hstep
      go_wp2_with (at_builtin; refine wpList_push (by rfl) _ _ _ (by rfl) w.heap.size 3 i0 (.int .i64 0) 8 Try.underlying79 hi hz0 hz1 hz2 rfl wr _ pre.length (pre.map iv) (by rfl) hown (.int .i64 ((m : Int) % 128)) rfl 1 (by rfl) (by omega) (by omega) hbs ?_; intro g cap w1 hown1 hb1)
      go_roundw
      case rel =>
        refine ⟨m / 128, f', pre ++ [m % 128], by go_num, HF'.out, by have := HL.out; simp; omega, by rw [HP.out]; simp, ?_, hb.trans hb1⟩
        rw [List.map_append, List.length_append]
        exact hown1
      case measure => simp [intOf]; omega
    · have hm : m = 0 := by omega
      rw [if_pos hm, List.append_nil] at hput
      have hne : 0 < pre.length := by
        rw [← hput, digF]; split <;> simp
      have hform := hown.form hne
      have HP := Lib.hid hput
      have HO := Lib.hid hown
      have HF := Lib.hid hform
      clear hput hf hpf hown hform hm
      go_wp2
      go_ret
      obtain ⟨g, cap, hv, _⟩ := HF.out
      refine ⟨g, cap, ?_, ?_, hb⟩
      · rw [HP.out, ← hv]; rfl
      · rw [HP.out, ← hv]; exact HO.out
theorem row_cell {w : World} {base e g n cap : Nat} {xs : List Value} (h : w.ownsRow base e 1 (.slice (some ⟨g, 0, none⟩) n cap) n xs) (k : Nat) (u : Value) (hk : xs[k]? = some u) : w.cell? ⟨g, k, none⟩ = some u := by
  have hc := h.cells (g := g) rfl k u hk
  have ha : (⟨g, 0, none⟩ : Addr).add k = ⟨g, k, none⟩ := by unfold Addr.add; split <;> simp_all
  rwa [ha] at hc
attribute [local go_sem] ByteArray.mk_append_mk
def RPutRel (n : Nat) (w : World) (g cap : Nat) (i s : Value) (wr : World) : Prop :=
  ∃ k : Nat, i = .int .i64 k ∧ k ≤ (digF 9 n).length ∧ s = .string ⟨((putL n).take k).toArray⟩ ∧
    wr.ownsRow w.heap.size 3 1 (.slice (some ⟨g, 0, none⟩) (digF 9 n).length cap) (digF 9 n).length ((digF 9 n).map iv) ∧ Below w.heap.size w wr
set_option maxHeartbeats 400000 in
set_option maxRecDepth 100000 in
theorem refput_neg (n : Int) (h : n < 0) (w : World) : Calls Try.prog 47 #[.int .i64 n] w fun e w' => e = .returned (.tuple #[.string ⟨#[]⟩, .int .i64 1]) ∧ w = w' := by
  go_enter Try.func47, Try.ntmps47
  go_wp2
  go_ret2
  exact ⟨rfl, rfl⟩
set_option maxHeartbeats 800000 in
set_option maxRecDepth 100000 in
theorem refput_any (n : Nat) (h : n ≤ 9223372036854775807) (w : World) :
    Calls Try.prog 47 #[.int .i64 n] w fun e w' => e = .returned (.tuple #[.string ⟨(putL n).toArray⟩, .int .i64 0]) ∧ Below w.heap.size w w' := by
  have hn0 : ¬ ((n : Int) < 0) := by omega
  have hlen9 : (digF 9 n).length ≤ 9 := by rw [← putF_dig]; exact putF_len 9 n
  have hlenp : (digF 9 n).length = (putL n).length := (putF_dig 9 n).symm
  have HP := Lib.hid hlenp
  clear hlenp
  have kc := fun (w : World) (cap : Nat) (a : Int) => run_conv1 (P := Try.prog) w Try.underlying72 Try.underlying5 Try.underlying9 cap a
  go_enter Try.func47, Try.ntmps47
  go_wp2_with fail
  refine (digits_any n h w).mono ?_
  rintro e w1 ⟨g, cap, rfl, hown1, hb1⟩
  have HO := Lib.hid hown1
  clear hown1
  go_wp2
  go_loopw [5, 6, 7] (fun s i _ wr => RPutRel n w g cap i s wr) (fun _ i _ _ => (digF 9 n).length - (intOf i).toNat)
  case atStart => exact ⟨0, rfl, Nat.zero_le _, rfl, HO.out, hb1⟩
  case round =>
    obtain ⟨k, rfl, hk, rfl, hown, hb⟩ := hrel
    have HW := Lib.hid hown
    by_cases hlt : k < (digF 9 n).length
    · have hd := digF_lt 9 n ((digF 9 n)[k]) (List.getElem_mem hlt)
      have hat := putF_at 9 n k (by omega) hlt
      rw [List.getElem?_eq_getElem hlt, Option.getD_some] at hat
      have hcell := row_cell hown k (iv (digF 9 n)[k]) (by simp [hlt])
      generalize (digF 9 n)[k] = d at *
      unfold iv at hcell
      have HA := Lib.hid hat
      have htk : (putL n).take (k + 1) = (putL n).take k ++ ((putL n)[k]?).toList := List.take_add_one
      have HT := Lib.hid htk
      have htl : ((putL n).take k).length ≤ 9 := by rw [List.length_take]; omega
      clear hown hat htk
      by_cases hl : k + 1 < (digF 9 n).length
      · have hl' : (k : Int) < ((digF 9 n).length : Int) - 1 := by omega
        go_wp2
        go_roundw
        case rel =>
          refine ⟨k + 1, by go_num, by omega, ?_, HW.out.alloc _, hb.alloc hb.size _⟩
          have h1 := HA.out
          rw [if_pos hl] at h1
          rw [HT.out]
          unfold putL at *
          rw [h1]
          simp
        case measure => simp [intOf]; omega
      · have hl' : ¬ ((k : Int) < ((digF 9 n).length : Int) - 1) := by omega
        go_wp2
        go_roundw
        case rel =>
          refine ⟨k + 1, by go_num, by omega, ?_, HW.out.alloc _, hb.alloc hb.size _⟩
          have h1 := HA.out
          rw [if_neg hl] at h1
          rw [HT.out]
          unfold putL at *
          rw [h1]
          simp
        case measure => simp [intOf]; omega
    · have hk' : k = (putL n).length := by rw [← HP.out]; omega
      have HK := Lib.hid hk'
      clear hk' hown
      go_wp2
      go_ret2
      exact ⟨by rw [HK.out]; simp, hb⟩
def ETakeRel (l : List UInt8) (i : Value) : Prop := ∃ k : Nat, i = .int .i64 k ∧ k ≤ l.length ∧ ∀ j, j < k → 128 ≤ byteAt l j
/-- the number, from its last byte down to place i + 1 -/
def VTakeRel (l : List UInt8) (e : Nat) (n i : Value) : Prop :=
  (∃ k : Nat, i = .int .i64 k ∧ k ≤ e ∧ n = .int .i64 (valL ((l.take (e + 1)).drop (k + 1)) : Nat)) ∨ (i = .int .i64 (-1) ∧ n = .int .i64 (valL (l.take (e + 1)) : Nat))
theorem val_down (l : List UInt8) (e k : Nat) (hk : k < e + 1) (he : e < l.length) : valL ((l.take (e + 1)).drop k) = byteAt l k % 128 + 128 * valL ((l.take (e + 1)).drop (k + 1)) := by
  have hlt : k < (l.take (e + 1)).length := by simp; omega
  rw [List.drop_eq_getElem_cons hlt, valL]
  congr 1
  have : byteAt (l.take (e + 1)) k = byteAt l k := byteAt_take l _ _ hk
  rw [← this]
  unfold byteAt
  rw [List.getElem?_eq_getElem hlt]; rfl
theorem val_small (l : List UInt8) (e k : Nat) (he : e ≤ 8) : valL ((l.take (e + 1)).drop (k + 1)) ≤ 72057594037927935 := by
  have := valL_lt ((l.take (e + 1)).drop (k + 1))
  have h2 : 128 ^ ((l.take (e + 1)).drop (k + 1)).length ≤ 128 ^ 8 := Nat.pow_le_pow_right (by omega) (by simp; omega)
  omega
theorem put_same (l : List UInt8) (k : Nat) (hlt : k < l.length) (h8 : k ≤ 8) (he : endOf l = k) :
    (!(putL (valL (l.take (k + 1))) == l.take (k + 1))) = decide (0 < k ∧ byteAt l k = 0) := by
  by_cases hz : 0 < k ∧ byteAt l k = 0
  · rw [decide_eq_true hz]
    have hne : putL (valL (l.take (k + 1))) ≠ l.take (k + 1) := by
      intro h
      have hm : valL (l.take (k + 1)) < 2 ^ 63 := by
        have := valL_lt (l.take (k + 1))
        have h2 : 128 ^ (l.take (k + 1)).length ≤ 128 ^ 9 := Nat.pow_le_pow_right (by omega) (by simp; omega)
        omega
      have h1 := take_put (valL (l.take (k + 1))) (l.drop (k + 1)) hm
      rw [h, List.take_append_drop] at h1
      have h3 : takeL l = (0, [], 3) := by
        unfold takeL
        rw [he, if_neg (by omega), if_neg (by omega), if_pos hz]
      rw [h3] at h1
      simp at h1
    simp [hne]
  · rw [decide_eq_false hz]
    have hl1 : (l.take (k + 1)).length = k + 1 := by simp; omega
    have heq : putL (valL (l.take (k + 1))) = l.take (k + 1) := by
      refine put_val _ 9 (by intro h; rw [h] at hl1; simp at hl1) (by omega) (fun j hj => ?_) ?_ (fun hgt => ?_)
      · rw [byteAt_take _ _ _ (by omega)]; exact endOf_before l j (by omega)
      · rw [hl1, Nat.add_sub_cancel, byteAt_take _ _ _ (by omega), ← he]; exact endOf_at l (by omega)
      · rw [hl1, Nat.add_sub_cancel, byteAt_take _ _ _ (by omega)]
        intro h0; exact hz ⟨by omega, h0⟩
    simp [heq]
set_option maxHeartbeats 800000 in
set_option maxRecDepth 100000 in
theorem reftake_any (l : List UInt8) (hl : l.length ≤ 281474976710656) (w : World) :
    Calls Try.prog 39 #[.string ⟨l.toArray⟩] w fun e w' => e = .returned (.tuple #[.int .i64 (takeL l).1, .string ⟨(takeL l).2.1.toArray⟩, .int .i64 (takeL l).2.2]) ∧ Below w.heap.size w w' := by
  go_enter Try.func39, Try.ntmps39
  go_wp2
  go_loop [5] (fun i => ETakeRel l i) (fun i => l.length - (intOf i).toNat)
  case atStart => exact ⟨0, rfl, Nat.zero_le _, fun j hj => by omega⟩
  case round =>
    obtain ⟨k, rfl, hk, hall⟩ := hrel
    have HA := Lib.hid hall
    clear hall
    by_cases hlt : k < l.length
    · obtain ⟨b, hb⟩ : ∃ b, byteAt l k = b := ⟨_, rfl⟩
      have hix := fun w => run_at (P := Try.prog) w Try.underlying9 l k k b rfl hlt hb
      have HB := Lib.hid hb
      clear hb
      by_cases hb : 128 ≤ b
      · go_wp2
        go_round
        case rel => exact ⟨k + 1, by go_num, by omega, snoc_all l k HA.out (by rw [HB.out]; exact hb)⟩
        case measure => simp [intOf]; omega
      · have he : endOf l = k := endOf_eq l k hlt HA.out (by rw [HB.out]; omega)
        have hq : ((k : Int) == (l.length : Int)) = false := by simp; omega
        by_cases h8 : 8 < k
        · have hr : takeL l = (0, [], 3) := by unfold takeL; rw [he, if_neg (by omega), if_pos (by omega)]
          have HR := Lib.hid hr
          have h8 : (8 : Int) < k := by omega
          clear hr he
          go_wp2
          go_ret3
          exact ⟨by rw [HR.out]; rfl, Below.refl _ _⟩
        · have HE := Lib.hid he
          have h8' : ¬ ((8 : Int) < k) := by omega
          have hps := put_same l k hlt (by omega) he
          obtain ⟨tk, htk⟩ : ∃ tk, tk = l.take (k + 1) := ⟨_, rfl⟩
          have HTK := Lib.hid htk
          rw [← htk] at hps
          obtain ⟨m, hm⟩ : ∃ m, m = valL tk := ⟨_, rfl⟩
          have hm63 : m ≤ 9223372036854775807 := by
            rw [hm, htk]
            have := valL_lt (l.take (k + 1))
            have h2 : 128 ^ (l.take (k + 1)).length ≤ 128 ^ 9 := Nat.pow_le_pow_right (by omega) (by simp; omega)
            omega
          rw [← hm] at hps
          obtain ⟨pm, hpm⟩ : ∃ pm, pm = putL m := ⟨_, rfl⟩
          rw [← hpm] at hps
          have HPM := Lib.hid hpm
          have HM := Lib.hid hm
          have HPS := Lib.hid hps
          have s2 := fun w => run_to (P := Try.prog) w Try.underlying9 l ((k : Int) + 1) (k + 1) (by omega) (by omega)
          rw [← htk] at s2
          have s1 := fun w => run_from (P := Try.prog) w Try.underlying9 l ((k : Int) + 1) (k + 1) (by omega) (by omega)
          clear he hps htk hm hpm
          go_wp2
          go_loop [6, 7] (fun n i => VTakeRel l k n i) (fun _ i => (intOf i + 1).toNat)
          case atStart =>
            refine .inl ⟨k, rfl, Nat.le_refl _, ?_⟩
            have : (l.take (k + 1)).drop (k + 1) = [] := List.drop_of_length_le (by simp; omega)
            rw [this]; rfl
          case round =>
            rcases hrel with ⟨j, rfl, hj, rfl⟩ | ⟨rfl, rfl⟩
            · obtain ⟨c, hc⟩ : ∃ c, byteAt l j = c := ⟨_, rfl⟩
              have hiy := fun w => run_at (P := Try.prog) w Try.underlying9 l j j c rfl (by omega) hc
              have hc256 : c < 256 := by rw [← hc]; exact byteAt_lt l j
              have HC := Lib.hid hc
              have hv := val_small l k j (by omega)
              have hdn := val_down l k j (by omega) hlt
              rw [hc] at hdn
              generalize valL ((l.take (k + 1)).drop (j + 1)) = v at *
              have HDN := Lib.hid hdn
              clear hc hdn
              go_wp2
              go_round
              case rel =>
                cases j with
                | zero => exact .inr ⟨by go_num, int_eq (by have := HDN.out; rw [List.drop_zero] at this; rw [this]; omega)⟩
                | succ j => exact .inl ⟨j, by go_num, by omega, int_eq (by rw [HDN.out]; omega)⟩
              case measure => simp [intOf]
            · have hvm : valL (l.take (k + 1)) = m := by rw [← HTK.out]; exact HM.out.symm
              rw [hvm]
              clear hvm
              go_wp2_with fail
              refine (refput_any m hm63 w).mono ?_
              rintro e w1 ⟨rfl, hb1⟩
              rw [← HPM.out]
              by_cases hz : 0 < k ∧ byteAt l k = 0
              · have hps := HPS.out
                rw [decide_eq_true hz] at hps
                have hr : takeL l = (0, [], 3) := by
                  unfold takeL
                  rw [HE.out, if_neg (by omega), if_neg (by omega), if_pos hz]
                have HR := Lib.hid hr
                clear hr hz
                go_wp2
                go_ret3
                exact ⟨by rw [HR.out]; rfl, hb1⟩
              · have hps := HPS.out
                rw [decide_eq_false hz] at hps
                have hr : takeL l = (m, l.drop (k + 1), 0) := by
                  unfold takeL
                  rw [HE.out, if_neg (by omega), if_neg (by omega), if_neg hz, HM.out, HTK.out]
                have HR := Lib.hid hr
                clear hr hz
                go_wp2
                go_quiet (fail)
                go_wp2
                go_ret3
                exact ⟨by rw [HR.out]; rfl, below_drewN hb1 _⟩
    · have hkl : l.length = k := by omega
      have hr : takeL l = (0, [], 2) := by
        unfold takeL
        rw [if_pos (endOf_all _ (by rw [hkl]; exact HA.out))]
      have HR := Lib.hid hr
      have hq : ((k : Int) == (l.length : Int)) = true := by simp; omega
      clear hr hkl
      go_wp2
      go_ret3
      exact ⟨by rw [HR.out]; rfl, Below.refl _ _⟩
end Go.Proofs.Ythjoamldmcnodaa
