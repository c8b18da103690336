/- The walks of the document's Digits, Show, Number of stamps' words. -/
import Derived.Test.YtkhamjghanjikaaDoorLib5W
import Derived.Test.YtkhamjghanjikaaDoorRef5W
import Derived.Test.YtkhamjghanjikaaDoorBlk
import Derived.Deep.RegionHeld3
import Derived.Deep.DrawnRows
namespace Go.Proofs.YtkhamjghanjikaaDoor
open Go.RowKit
attribute [local go_sem] ByteArray.mk_append_mk ByteArray.extract_mk
attribute [local go_sem ↓] Go.wp_at_zero Go.wp_at_succ
theorem sz_mk (l : List UInt8) : (⟨l.toArray⟩ : ByteArray).size = l.length := by show l.toArray.size = _; simp
theorem conv1_any (w : World) (cap : Nat) (x : Int) (n : Nat) (hx : x = n) :
    (convert 66 9 (.slice (some ⟨w.heap.size, 0, none⟩) 1 cap)).run Tryd.prog (w.alloc (.cells #[.int .u8 x] 5)) = .ok (.string ⟨[UInt8.ofNat n].toArray⟩) (w.alloc (.cells #[.int .u8 x] 5)) := by
  subst hx
  rw [run_conv1 w Tryd.underlying66 Tryd.underlying5 Tryd.underlying9]
  simp
def DgRel (u : Nat) (w : World) (n s : Value) (wr : World) : Prop :=
  ∃ (v : Nat) (l : List UInt8), n = .int .i64 v ∧ v ≤ u ∧ s = .string ⟨l.toArray⟩ ∧ Lib.decDigits u = Lib.decDigits v ++ l ∧ Below w.heap.size w wr
set_option maxHeartbeats 800000 in
set_option maxRecDepth 100000 in
theorem digits_any (u : Nat) (hu : u ≤ 1099511627776) (w : World) :
    Calls Tryd.prog 29 #[.int .i64 (u : Int)] w fun e w' => e = .returned (.string ⟨(Lib.decDigits u).toArray⟩) ∧ Below w.heap.size w w' := by
  have hlen := dec_len 12 u (by omega)
  go_enter Tryd.func29, Tryd.ntmps29
  go_wp2
  go_loopw [0, 3] (fun n s wr => DgRel u w n s wr) (fun n _ _ => (intOf n).toNat)
  case atStart => exact ⟨u, [], rfl, Nat.le_refl _, rfl, by simp, b0 w⟩
  case round =>
    obtain ⟨v, l, rfl, hv, rfl, hd, hb⟩ := hrel
    have hl : l.length ≤ 13 := by have := congrArg List.length hd; rw [List.length_append] at this; omega
    have hun := dec_unfold v
    have hbs := hb.size
    have v0 : (0 : Int) ≤ (v : Int) := by omega
    by_cases h9 : v < 10
    case pos =>
      rw [if_pos h9] at hun
      rw [hun] at hd
      have HD := Lib.hid hd
      have hcv := conv1_any wr 1 (48 + (v : Int)) (48 + v) (by omega)
      obtain ⟨z, hz⟩ : ∃ z, UInt8.ofNat (48 + v) = z := ⟨_, rfl⟩
      have HD2 : Hid (Lib.decDigits u = [z] ++ l) := Lib.hid (by rw [← hz]; exact HD.out)
      rw [hz] at hcv
      clear hun hd hz HD
      have h9b : ¬ ((9 : Int) < (v : Int)) := by omega
      have hw8 : IntKind.u8.wrap (48 + (v : Int)) = 48 + (v : Int) := by rw [IntKind.wrap_u8]; omega
      go_wp2
      go_ret
      exact ⟨by rw [HD2.out]; simp, bal hb _⟩
    case neg =>
      rw [if_neg h9] at hun
      rw [hun] at hd
      have hcv := conv1_any wr 1 (48 + (v : Int) % 10) (48 + v % 10) (by omega)
      obtain ⟨z, hz⟩ : ∃ z, UInt8.ofNat (48 + v % 10) = z := ⟨_, rfl⟩
      rw [hz] at hcv hd
      have HD := Lib.hid hd
      clear hun hd hz
      have h9b : (9 : Int) < (v : Int) := by omega
      have hw8 : IntKind.u8.wrap (48 + (v : Int) % 10) = 48 + (v : Int) % 10 := by rw [IntKind.wrap_u8]; omega
      go_wp2
      go_roundw
      case rel => exact ⟨v / 10, [z] ++ l, by go_num, by omega, by simp, by rw [HD.out, List.append_assoc], bal hb _⟩
      case measure => simp [intOf]; omega
def NmRel (p : List UInt8) (n i : Value) : Prop := ∃ k : Nat, i = .int .i64 k ∧ k ≤ p.length ∧ n = .int .i64 (valD 0 (p.take k) : Nat) ∧ (p.take k).all isD = true
theorem valD_step (x y T a : Nat) (h : x < (y + 1) * T) (hy : y + 1 ≤ (a + 1) * 10) : x < (a + 1) * (T * 10) := by
  have h5 := Nat.mul_le_mul_right T hy
  rw [Nat.mul_comm T 10, ← Nat.mul_assoc]
  exact Nat.lt_of_lt_of_le h h5
theorem isD_iff (b : UInt8) (h : isD b = true) : 48 ≤ b.toNat ∧ b.toNat ≤ 57 := by
  simp only [isD, Bool.and_eq_true, decide_eq_true_eq] at h
  exact h
theorem valD_lt : ∀ (l : List UInt8) (acc : Nat), l.all isD = true → valD acc l < (acc + 1) * 10 ^ l.length
  | [], acc, _ => by
    show acc < (acc + 1) * 10 ^ 0
    omega
  | b :: r, acc, ha => by
    rw [List.all_cons, Bool.and_eq_true] at ha
    have h1 := isD_iff b ha.1
    have h3 := valD_lt r (10 * acc + (b.toNat - 48)) ha.2
    rw [List.length_cons, Nat.pow_succ]
    exact valD_step _ _ _ _ h3 (by omega)
theorem take_allD {p : List UInt8} {k : Nat} (hk : k < p.length) (h : (p.take k).all isD = true) : (p.take (k + 1)).all isD = isD p[k] := by
  rw [List.take_succ_eq_append_getElem hk, List.all_append, h]
  simp
theorem num_bad {p : List UInt8} {k : Nat} (hk : k < p.length) (h : isD p[k] = false) : p.all isD = false := by
  cases e : p.all isD with
  | false => rfl
  | true => rw [List.all_eq_true.1 e p[k] (List.getElem_mem hk)] at h; cases h
set_option maxHeartbeats 800000 in
set_option maxRecDepth 100000 in
theorem number_any (p : List UInt8) (hp : p.length ≤ 9223372036854775807) (w : World) :
    Calls Tryd.prog 30 #[.string ⟨p.toArray⟩] w fun e w' => e = .returned (.int .i64 (numL p)) ∧ w' = w := by
  have hnum : numL p = if p.length = 0 ∨ 13 < p.length ∨ (1 < p.length ∧ p.head? = some 48) ∨ p.all isD = false then (-1 : Int) else ((valD 0 p : Nat) : Int) := rfl
  have HN := Lib.hid hnum
  clear hnum
  by_cases h0 : p.length = 0
  case pos =>
    have hr : numL p = -1 := by rw [HN.out, if_pos (.inl h0)]
    have HR := Lib.hid hr
    have hz : ((p.length : Int) == 0) = true := by rw [h0]; rfl
    have hz2 : (p.length : Int) = 0 := by omega
    clear hr h0
    go_enter Tryd.func30, Tryd.ntmps30
    go_wp2
    go_ret
    exact ⟨by rw [HR.out] <;> rfl, rfl⟩
  case neg =>
    have hz : ((p.length : Int) == 0) = false := by rw [beq_eq_false_iff_ne]; omega
    have hz2 : ¬ (p.length : Int) = 0 := by omega
    by_cases h13 : 13 < p.length
    case pos =>
      have hr : numL p = -1 := by rw [HN.out, if_pos (.inr (.inl h13))]
      have HR := Lib.hid hr
      have g13 : (13 : Int) < p.length := by omega
      clear hr
      go_enter Tryd.func30, Tryd.ntmps30
      go_wp2
      go_ret
      exact ⟨by rw [HR.out] <;> rfl, rfl⟩
    case neg =>
      have g13 : ¬ ((13 : Int) < p.length) := by omega
      have hp0 : 0 < p.length := by omega
      have hat0 := fun w => run_at (P := Tryd.prog) w Tryd.underlying9 p 0 0 (p[0]).toNat rfl hp0 (by rw [List.getElem?_eq_getElem hp0]; rfl)
      have hhd : p.head? = some p[0] := by cases p with | nil => simp at hp0 | cons a r => rfl
      by_cases hlead : 1 < p.length ∧ (p[0]).toNat = 48
      case pos =>
        have hr : numL p = -1 := by rw [HN.out, if_pos (.inr (.inr (.inl ⟨hlead.1, by rw [hhd, Option.some.injEq, ← UInt8.toNat_inj]; exact hlead.2⟩)))]
        have HR := Lib.hid hr
        obtain ⟨h1, h2⟩ := hlead
        rw [h2] at hat0
        have g1 : (1 : Int) < p.length := by omega
        clear hr h2 hhd
        go_enter Tryd.func30, Tryd.ntmps30
        go_wp2
        go_ret
        exact ⟨by rw [HR.out] <;> rfl, rfl⟩
      case neg =>
        have hnl : ¬ (1 < p.length ∧ p.head? = some 48) := by
          rintro ⟨h1, h2⟩
          rw [hhd, Option.some.injEq] at h2
          exact hlead ⟨h1, by rw [h2]; rfl⟩
        have HNL := Lib.hid hnl
        clear hnl hhd
        by_cases h1 : 1 < p.length
        case pos =>
          have g1 : (1 : Int) < p.length := by omega
          have hb0 : (((p[0]).toNat : Int) == 48) = false := by rw [beq_eq_false_iff_ne]; omega
          clear hlead
          go_enter Tryd.func30, Tryd.ntmps30
          go_wp2
          clear hat0 hb0
          go_loop [3, 4] (fun n i => NmRel p n i) (fun _ i => p.length - (intOf i).toNat)
          case atStart => exact ⟨0, rfl, Nat.zero_le _, rfl, rfl⟩
          case round =>
            obtain ⟨k, rfl, hk, rfl, hall⟩ := hrel
            have k0 : (0 : Int) ≤ (k : Int) := by omega
            by_cases hlt : k < p.length
            · have hat := fun w => run_at (P := Tryd.prog) w Tryd.underlying9 p (k : Int) k (p[k]).toNat rfl hlt (by rw [List.getElem?_eq_getElem hlt]; rfl)
              have hsn : valD 0 (p.take (k + 1)) = 10 * valD 0 (p.take k) + ((p[k]).toNat - 48) := by rw [List.take_succ_eq_append_getElem hlt, valD_snoc]
              have hta := take_allD hlt hall
              have hvl := valD_lt (p.take k) 0 hall
              have hpw : 10 ^ (p.take k).length ≤ 10 ^ 13 := Nat.pow_le_pow_right (by omega) (by rw [List.length_take]; omega)
              have hbad := num_bad hlt
              have hud : isD p[k] = (decide (48 ≤ (p[k]).toNat) && decide ((p[k]).toNat ≤ 57)) := rfl
              obtain ⟨b, hb⟩ : ∃ b, (p[k]).toNat = b := ⟨_, rfl⟩
              have hb256 : b < 256 := by rw [← hb]; exact UInt8.toNat_lt _
              obtain ⟨v, hv⟩ : ∃ v, valD 0 (p.take k) = v := ⟨_, rfl⟩
              have hv13 : v < 10000000000000 := by rw [← hv]; omega
              rw [hb] at hat hsn hud
              rw [hv] at hsn
              rw [hud] at hta hbad
              have HS := Lib.hid hsn
              have HA := Lib.hid hta
              have HB := Lib.hid hbad
              rw [hv]
              clear hsn hta hbad hud hb hv hvl hpw hall
              by_cases hd : 48 ≤ b ∧ b ≤ 57
              · obtain ⟨d1, d2⟩ := hd
                have e1 : ¬ ((b : Int) < 48) := by omega
                have e2 : ¬ ((57 : Int) < (b : Int)) := by omega
                have e3 : (0 : Int) ≤ (b : Int) := by omega
                go_wp2
                go_round
                case rel => exact ⟨k + 1, by go_num, by omega, by rw [HS.out]; go_num, by rw [HA.out]; simp; omega⟩
                case measure => simp [intOf]; omega
              · have hr : numL p = -1 := by rw [HN.out, if_pos (.inr (.inr (.inr (HB.out (by simp; omega)))))]
                have HR := Lib.hid hr
                clear hr
                by_cases e1 : (b : Int) < 48
                · go_wp2
                  go_ret
                  exact ⟨by rw [HR.out] <;> rfl, rfl⟩
                · have e2 : (57 : Int) < (b : Int) := by omega
                  go_wp2
                  go_ret
                  exact ⟨by rw [HR.out] <;> rfl, rfl⟩
            · have hke : k = p.length := by omega
              subst hke
              rw [List.take_length] at hall
              have hr : numL p = (valD 0 p : Nat) := by
                rw [HN.out, if_neg]
                rintro (h | h | h | h)
                · exact h0 h
                · exact h13 h
                · exact HNL.out h
                · rw [hall] at h; cases h
              have HR := Lib.hid hr
              rw [List.take_length]
              clear hr
              go_wp2
              go_ret
              exact ⟨by rw [HR.out] <;> rfl, rfl⟩
        case neg =>
          have g1 : ¬ ((1 : Int) < p.length) := by omega
          clear hlead hat0
          go_enter Tryd.func30, Tryd.ntmps30
          go_wp2
          go_loop [3, 4] (fun n i => NmRel p n i) (fun _ i => p.length - (intOf i).toNat)
          case atStart => exact ⟨0, rfl, Nat.zero_le _, rfl, rfl⟩
          case round =>
            obtain ⟨k, rfl, hk, rfl, hall⟩ := hrel
            have k0 : (0 : Int) ≤ (k : Int) := by omega
            by_cases hlt : k < p.length
            · have hat := fun w => run_at (P := Tryd.prog) w Tryd.underlying9 p (k : Int) k (p[k]).toNat rfl hlt (by rw [List.getElem?_eq_getElem hlt]; rfl)
              have hsn : valD 0 (p.take (k + 1)) = 10 * valD 0 (p.take k) + ((p[k]).toNat - 48) := by rw [List.take_succ_eq_append_getElem hlt, valD_snoc]
              have hta := take_allD hlt hall
              have hvl := valD_lt (p.take k) 0 hall
              have hpw : 10 ^ (p.take k).length ≤ 10 ^ 13 := Nat.pow_le_pow_right (by omega) (by rw [List.length_take]; omega)
              have hbad := num_bad hlt
              have hud : isD p[k] = (decide (48 ≤ (p[k]).toNat) && decide ((p[k]).toNat ≤ 57)) := rfl
              obtain ⟨b, hb⟩ : ∃ b, (p[k]).toNat = b := ⟨_, rfl⟩
              have hb256 : b < 256 := by rw [← hb]; exact UInt8.toNat_lt _
              obtain ⟨v, hv⟩ : ∃ v, valD 0 (p.take k) = v := ⟨_, rfl⟩
              have hv13 : v < 10000000000000 := by rw [← hv]; omega
              rw [hb] at hat hsn hud
              rw [hv] at hsn
              rw [hud] at hta hbad
              have HS := Lib.hid hsn
              have HA := Lib.hid hta
              have HB := Lib.hid hbad
              rw [hv]
              clear hsn hta hbad hud hb hv hvl hpw hall
              by_cases hd : 48 ≤ b ∧ b ≤ 57
              · obtain ⟨d1, d2⟩ := hd
                have e1 : ¬ ((b : Int) < 48) := by omega
                have e2 : ¬ ((57 : Int) < (b : Int)) := by omega
                have e3 : (0 : Int) ≤ (b : Int) := by omega
                go_wp2
                go_round
                case rel => exact ⟨k + 1, by go_num, by omega, by rw [HS.out]; go_num, by rw [HA.out]; simp; omega⟩
                case measure => simp [intOf]; omega
              · have hr : numL p = -1 := by rw [HN.out, if_pos (.inr (.inr (.inr (HB.out (by simp; omega)))))]
                have HR := Lib.hid hr
                clear hr
                by_cases e1 : (b : Int) < 48
                · go_wp2
                  go_ret
                  exact ⟨by rw [HR.out] <;> rfl, rfl⟩
                · have e2 : (57 : Int) < (b : Int) := by omega
                  go_wp2
                  go_ret
                  exact ⟨by rw [HR.out] <;> rfl, rfl⟩
            · have hke : k = p.length := by omega
              subst hke
              rw [List.take_length] at hall
              have hr : numL p = (valD 0 p : Nat) := by
                rw [HN.out, if_neg]
                rintro (h | h | h | h)
                · exact h0 h
                · exact h13 h
                · exact HNL.out h
                · rw [hall] at h; cases h
              have HR := Lib.hid hr
              rw [List.take_length]
              clear hr
              go_wp2
              go_ret
              exact ⟨by rw [HR.out] <;> rfl, rfl⟩
end Go.Proofs.YtkhamjghanjikaaDoor
