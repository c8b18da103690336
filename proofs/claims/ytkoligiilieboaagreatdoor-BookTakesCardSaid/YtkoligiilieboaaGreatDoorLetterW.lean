/- The walk of the document's Letter, and of its Plain. -/
import Derived.Test.YtkoligiilieboaaGreatDoorProg
import Derived.Test.YtkoligiilieboaaGreatDoorMgA
import Derived.Deep.QuietTactic
import Derived.BigQuiet
import Derived.Outline
set_option linter.unusedSimpArgs false
set_option linter.unusedVariables false
namespace Go.Proofs.YtkoligiilieboaaGreatDoor
open Go.RowKit
def accN (l : List UInt8) (a0 : Nat) : Nat → Nat
  | 0 => a0
  | k + 1 => if k = 0 then a0 else 64 * accN l a0 k + ub l k - 128
def okAt (b : Nat) : Prop := 128 ≤ b ∧ b ≤ 191
theorem let_ascii (l : List UInt8) (h : ub l 0 < 128) : letL l = ((ub l 0 : Int), 1) := by
  rw [letR_eq]; unfold letR; rw [if_pos h]
theorem let_high (l : List UInt8) (h : 128 ≤ ub l 0) (h' : ub l 0 < 194 ∨ 245 ≤ ub l 0) : letL l = (-1, 1) := by
  rw [letR_eq]; unfold letR
  rw [if_neg (by omega), if_neg (by omega), if_neg (by omega), if_neg (by omega)]
theorem let_short2 (l : List UInt8) (h1 : 194 ≤ ub l 0) (h2 : ub l 0 < 224) (h : l.length < 2) : letL l = (-1, 1) := by
  rw [letR_eq]; unfold letR
  rw [if_neg (by omega), if_pos (by omega), if_pos h]
theorem let_bad2 (l : List UInt8) (h1 : 194 ≤ ub l 0) (h2 : ub l 0 < 224) (h : 2 ≤ l.length) (j : Nat) (hj1 : 1 ≤ j) (hj2 : j < 2) (hb : ub l j < 128 ∨ 191 < ub l j) : letL l = (-1, 1) := by
  rw [letR_eq]; unfold letR
  rw [if_neg (by omega), if_pos (by omega), if_neg (by omega)]
  have hj : j = 1 := by omega
  subst hj
  all_goals
    repeat' split
  all_goals first | rfl | (exfalso; omega)
theorem let_fin2 (l : List UInt8) (h1 : 194 ≤ ub l 0) (h2 : ub l 0 < 224) (h : 2 ≤ l.length) (hall : ∀ j, 1 ≤ j → j < 2 → okAt (ub l j)) : letL l = finR (accN l (ub l 0 - 192) 2) 2 128 := by
  rw [letR_eq]; unfold letR
  have k1 := hall 1 (by omega) (by omega)
  unfold okAt at k1
  rw [if_neg (by omega), if_pos (by omega), if_neg (by omega), if_neg (by omega)]
  simp [accN]
theorem let_short3 (l : List UInt8) (h1 : 224 ≤ ub l 0) (h2 : ub l 0 < 240) (h : l.length < 3) : letL l = (-1, 1) := by
  rw [letR_eq]; unfold letR
  rw [if_neg (by omega), if_neg (by omega), if_pos (by omega), if_pos h]
theorem let_bad3 (l : List UInt8) (h1 : 224 ≤ ub l 0) (h2 : ub l 0 < 240) (h : 3 ≤ l.length) (j : Nat) (hj1 : 1 ≤ j) (hj2 : j < 3) (hb : ub l j < 128 ∨ 191 < ub l j) : letL l = (-1, 1) := by
  rw [letR_eq]; unfold letR
  rw [if_neg (by omega), if_neg (by omega), if_pos (by omega), if_neg (by omega)]
  have hj : j = 1 ∨ j = 2 := by omega
  rcases hj with rfl | rfl
  all_goals
    repeat' split
  all_goals first | rfl | (exfalso; omega)
theorem let_fin3 (l : List UInt8) (h1 : 224 ≤ ub l 0) (h2 : ub l 0 < 240) (h : 3 ≤ l.length) (hall : ∀ j, 1 ≤ j → j < 3 → okAt (ub l j)) : letL l = finR (accN l (ub l 0 - 224) 3) 3 2048 := by
  rw [letR_eq]; unfold letR
  have k1 := hall 1 (by omega) (by omega)
  have k2 := hall 2 (by omega) (by omega)
  unfold okAt at k1 k2
  rw [if_neg (by omega), if_neg (by omega), if_pos (by omega), if_neg (by omega), if_neg (by omega), if_neg (by omega)]
  simp [accN]
theorem let_short4 (l : List UInt8) (h1 : 240 ≤ ub l 0) (h2 : ub l 0 < 245) (h : l.length < 4) : letL l = (-1, 1) := by
  rw [letR_eq]; unfold letR
  rw [if_neg (by omega), if_neg (by omega), if_neg (by omega), if_pos (by omega), if_pos h]
theorem let_bad4 (l : List UInt8) (h1 : 240 ≤ ub l 0) (h2 : ub l 0 < 245) (h : 4 ≤ l.length) (j : Nat) (hj1 : 1 ≤ j) (hj2 : j < 4) (hb : ub l j < 128 ∨ 191 < ub l j) : letL l = (-1, 1) := by
  rw [letR_eq]; unfold letR
  rw [if_neg (by omega), if_neg (by omega), if_neg (by omega), if_pos (by omega), if_neg (by omega)]
  have hj : j = 1 ∨ j = 2 ∨ j = 3 := by omega
  rcases hj with rfl | rfl | rfl
  all_goals
    repeat' split
  all_goals first | rfl | (exfalso; omega)
theorem let_fin4 (l : List UInt8) (h1 : 240 ≤ ub l 0) (h2 : ub l 0 < 245) (h : 4 ≤ l.length) (hall : ∀ j, 1 ≤ j → j < 4 → okAt (ub l j)) : letL l = finR (accN l (ub l 0 - 240) 4) 4 65536 := by
  rw [letR_eq]; unfold letR
  have k1 := hall 1 (by omega) (by omega)
  have k2 := hall 2 (by omega) (by omega)
  have k3 := hall 3 (by omega) (by omega)
  unfold okAt at k1 k2 k3
  rw [if_neg (by omega), if_neg (by omega), if_neg (by omega), if_pos (by omega), if_neg (by omega), if_neg (by omega), if_neg (by omega), if_neg (by omega)]
  simp [accN]
def LetRel (l : List UInt8) (a0 n : Nat) (a i : Value) : Prop :=
  ∃ k c : Nat, a = .int .i64 c ∧ i = .int .i64 k ∧ 1 ≤ k ∧ k ≤ n ∧ c = accN l a0 k ∧ (∀ j, 1 ≤ j → j < k → okAt (ub l j)) ∧ ((k = 1 ∧ c < 32) ∨ (k = 2 ∧ c < 2048) ∨ (k = 3 ∧ c < 131072) ∨ (k = 4 ∧ c < 8388608))
def LetRelW (l : List UInt8) (a0 n : Nat) (w : World) (a i : Value) (wr : World) : Prop := w = wr ∧ LetRel l a0 n a i
theorem ok_snoc (l : List UInt8) (k : Nat) (h : ∀ j, 1 ≤ j → j < k → okAt (ub l j)) (hb : okAt (ub l k)) : ∀ j, 1 ≤ j → j < k + 1 → okAt (ub l j) := by
  intro j j1 j2
  rcases Nat.lt_or_ge j k with h1 | h1
  · exact h j j1 h1
  · have : j = k := by omega
    subst this; exact hb
theorem acc_succ (l : List UInt8) (a0 k : Nat) (h : 1 ≤ k) : accN l a0 (k + 1) = 64 * accN l a0 k + ub l k - 128 := by
  show (if k = 0 then a0 else _) = _
  rw [if_neg (by omega)]
set_option maxHeartbeats 1600000 in
set_option maxRecDepth 100000 in
theorem letter_any (l : List UInt8) (h : l ≠ []) (hl : l.length ≤ 9223372036854775807) (w : World) :
    Calls Tryz.prog 112 #[.string ⟨l.toArray⟩] w fun e w' => e = .returned (.tuple #[.int .i64 (letL l).1, .int .i64 (letL l).2]) ∧ w = w' := by
  have hpos := List.length_pos_iff.2 h
  obtain ⟨b0, hb0⟩ : ∃ b, ub l 0 = b := ⟨_, rfl⟩
  have hb0l := ub_lt l 0
  rw [hb0] at hb0l
  have hix0 := fun w => run_at (P := Tryz.prog) w Tryz.underlying9 l 0 0 b0 rfl hpos hb0
  have HB := Lib.hid hb0
  clear hb0
  by_cases c1 : b0 < 128
  case pos =>
    have hr : letL l = ((b0 : Int), 1) := by rw [let_ascii l (by rw [HB.out]; exact c1), HB.out]
    have HR := Lib.hid hr
    clear hr
    go_enter Tryz.func112, Tryz.ntmps112
    go_wp2
    go_ret2
    exact ⟨by rw [HR.out]; rfl, rfl⟩
  case neg =>
    by_cases c2 : b0 < 194
    case pos =>
      have hr : letL l = (-1, 1) := let_high l (by rw [HB.out]; omega) (by rw [HB.out]; omega)
      have HR := Lib.hid hr
      clear hr
      go_enter Tryz.func112, Tryz.ntmps112
      go_wp2
      go_ret2
      exact ⟨by rw [HR.out]; rfl, rfl⟩
    case neg =>
      by_cases d2 : b0 < 224
      case pos =>
        by_cases e : l.length < 2
        case pos =>
          have hr : letL l = (-1, 1) := let_short2 l (by rw [HB.out]; omega) (by rw [HB.out]; omega) e
          have HR := Lib.hid hr
          clear hr
          go_enter Tryz.func112, Tryz.ntmps112
          go_wp2
          go_ret2
          exact ⟨by rw [HR.out]; rfl, rfl⟩
        case neg =>
          have dd : (b0 : Int) < 224 := by omega
          have HB2 := Lib.hid (let_bad2 l (by rw [HB.out]; omega) (by rw [HB.out]; omega) (by omega))
          have HF := Lib.hid (let_fin2 l (by rw [HB.out]; omega) (by rw [HB.out]; omega) (by omega))
          go_enter Tryz.func112, Tryz.ntmps112
          go_wp2
          go_loopw [4, 7] (fun a i wr => LetRelW l (b0 - 192) 2 w a i wr) (fun _ i _ => 2 - (intOf i).toNat)
          case atStart => exact ⟨rfl, 1, b0 - 192, int_eq (by omega), rfl, by omega, by omega, rfl, fun j _ _ => by omega, by omega⟩
          case round =>
            obtain ⟨rfl, k, c, rfl, rfl, hk1, hk2, hc, hall, hcb⟩ := hrel
            have HC := Lib.hid hc
            have HA := Lib.hid hall
            clear hc hall
            by_cases hlt : k < 2
            case pos =>
              obtain ⟨b, hb⟩ : ∃ b, ub l k = b := ⟨_, rfl⟩
              have hbl := ub_lt l k
              rw [hb] at hbl
              have hix := fun w => run_at (P := Tryz.prog) w Tryz.underlying9 l k k b rfl (by omega) hb
              have HK := Lib.hid hb
              clear hb
              by_cases f1 : b < 128
              case pos =>
                have hr : letL l = (-1, 1) := HB2.out k hk1 hlt (by rw [HK.out]; omega)
                have HR := Lib.hid hr
                clear hr
                go_wp2
                go_ret2
                exact ⟨by rw [HR.out]; rfl, rfl⟩
              case neg =>
                by_cases f2 : 191 < b
                case pos =>
                  have hr : letL l = (-1, 1) := HB2.out k hk1 hlt (by rw [HK.out]; omega)
                  have HR := Lib.hid hr
                  clear hr
                  go_wp2
                  go_ret2
                  exact ⟨by rw [HR.out]; rfl, rfl⟩
                case neg =>
                  go_wp2
                  go_roundw
                  case rel => refine ⟨rfl, k + 1, 64 * c + b - 128, int_eq (by omega), by go_num, by omega, by omega, by rw [acc_succ l _ k hk1, ← HC.out, HK.out], ok_snoc l k HA.out (by rw [HK.out]; exact ⟨by omega, by omega⟩), by omega⟩
                  case measure => simp [intOf]; omega
            case neg =>
              have hkn : k = 2 := by omega
              subst hkn
              have hF := HF.out HA.out
              rw [HB.out, ← HC.out] at hF
              have HF2 := Lib.hid hF
              clear hF
              by_cases g1 : (c : Int) < 128
              case pos =>
                have hr : letL l = (-1, 1) := by rw [HF2.out]; unfold finR; rw [if_pos (by omega)]
                have HR := Lib.hid hr
                clear hr
                go_wp2
                go_ret2
                exact ⟨by rw [HR.out]; rfl, rfl⟩
              case neg =>
                by_cases g2 : 1114111 < (c : Int)
                case pos =>
                  have hr : letL l = (-1, 1) := by rw [HF2.out]; unfold finR; rw [if_pos (by omega)]
                  have HR := Lib.hid hr
                  clear hr
                  go_wp2
                  go_ret2
                  exact ⟨by rw [HR.out]; rfl, rfl⟩
                case neg =>
                  by_cases g3 : 55296 ≤ (c : Int)
                  case pos =>
                    by_cases g4 : (c : Int) < 57344
                    case pos =>
                      have hr : letL l = (-1, 1) := by rw [HF2.out]; unfold finR; rw [if_pos (by omega)]
                      have HR := Lib.hid hr
                      clear hr
                      go_wp2
                      go_ret2
                      exact ⟨by rw [HR.out]; rfl, rfl⟩
                    case neg =>
                      have hr : letL l = ((c : Int), 2) := by rw [HF2.out]; unfold finR; rw [if_neg (by omega)]
                      have HR := Lib.hid hr
                      clear hr
                      go_wp2
                      go_ret2
                      exact ⟨by rw [HR.out]; rfl, rfl⟩
                  case neg =>
                    have hr : letL l = ((c : Int), 2) := by rw [HF2.out]; unfold finR; rw [if_neg (by omega)]
                    have HR := Lib.hid hr
                    clear hr
                    go_wp2
                    go_ret2
                    exact ⟨by rw [HR.out]; rfl, rfl⟩
      case neg =>
        by_cases d3 : b0 < 240
        case pos =>
          by_cases e : l.length < 3
          case pos =>
            have hr : letL l = (-1, 1) := let_short3 l (by rw [HB.out]; omega) (by rw [HB.out]; omega) e
            have HR := Lib.hid hr
            clear hr
            go_enter Tryz.func112, Tryz.ntmps112
            go_wp2
            go_ret2
            exact ⟨by rw [HR.out]; rfl, rfl⟩
          case neg =>
            have dd : (b0 : Int) < 240 := by omega
            have HB2 := Lib.hid (let_bad3 l (by rw [HB.out]; omega) (by rw [HB.out]; omega) (by omega))
            have HF := Lib.hid (let_fin3 l (by rw [HB.out]; omega) (by rw [HB.out]; omega) (by omega))
            go_enter Tryz.func112, Tryz.ntmps112
            go_wp2
            go_loopw [4, 7] (fun a i wr => LetRelW l (b0 - 224) 3 w a i wr) (fun _ i _ => 3 - (intOf i).toNat)
            case atStart => exact ⟨rfl, 1, b0 - 224, int_eq (by omega), rfl, by omega, by omega, rfl, fun j _ _ => by omega, by omega⟩
            case round =>
              obtain ⟨rfl, k, c, rfl, rfl, hk1, hk2, hc, hall, hcb⟩ := hrel
              have HC := Lib.hid hc
              have HA := Lib.hid hall
              clear hc hall
              by_cases hlt : k < 3
              case pos =>
                obtain ⟨b, hb⟩ : ∃ b, ub l k = b := ⟨_, rfl⟩
                have hbl := ub_lt l k
                rw [hb] at hbl
                have hix := fun w => run_at (P := Tryz.prog) w Tryz.underlying9 l k k b rfl (by omega) hb
                have HK := Lib.hid hb
                clear hb
                by_cases f1 : b < 128
                case pos =>
                  have hr : letL l = (-1, 1) := HB2.out k hk1 hlt (by rw [HK.out]; omega)
                  have HR := Lib.hid hr
                  clear hr
                  go_wp2
                  go_ret2
                  exact ⟨by rw [HR.out]; rfl, rfl⟩
                case neg =>
                  by_cases f2 : 191 < b
                  case pos =>
                    have hr : letL l = (-1, 1) := HB2.out k hk1 hlt (by rw [HK.out]; omega)
                    have HR := Lib.hid hr
                    clear hr
                    go_wp2
                    go_ret2
                    exact ⟨by rw [HR.out]; rfl, rfl⟩
                  case neg =>
                    go_wp2
                    go_roundw
                    case rel => refine ⟨rfl, k + 1, 64 * c + b - 128, int_eq (by omega), by go_num, by omega, by omega, by rw [acc_succ l _ k hk1, ← HC.out, HK.out], ok_snoc l k HA.out (by rw [HK.out]; exact ⟨by omega, by omega⟩), by omega⟩
                    case measure => simp [intOf]; omega
              case neg =>
                have hkn : k = 3 := by omega
                subst hkn
                have hF := HF.out HA.out
                rw [HB.out, ← HC.out] at hF
                have HF2 := Lib.hid hF
                clear hF
                by_cases g1 : (c : Int) < 2048
                case pos =>
                  have hr : letL l = (-1, 1) := by rw [HF2.out]; unfold finR; rw [if_pos (by omega)]
                  have HR := Lib.hid hr
                  clear hr
                  go_wp2
                  go_ret2
                  exact ⟨by rw [HR.out]; rfl, rfl⟩
                case neg =>
                  by_cases g2 : 1114111 < (c : Int)
                  case pos =>
                    have hr : letL l = (-1, 1) := by rw [HF2.out]; unfold finR; rw [if_pos (by omega)]
                    have HR := Lib.hid hr
                    clear hr
                    go_wp2
                    go_ret2
                    exact ⟨by rw [HR.out]; rfl, rfl⟩
                  case neg =>
                    by_cases g3 : 55296 ≤ (c : Int)
                    case pos =>
                      by_cases g4 : (c : Int) < 57344
                      case pos =>
                        have hr : letL l = (-1, 1) := by rw [HF2.out]; unfold finR; rw [if_pos (by omega)]
                        have HR := Lib.hid hr
                        clear hr
                        go_wp2
                        go_ret2
                        exact ⟨by rw [HR.out]; rfl, rfl⟩
                      case neg =>
                        have hr : letL l = ((c : Int), 3) := by rw [HF2.out]; unfold finR; rw [if_neg (by omega)]
                        have HR := Lib.hid hr
                        clear hr
                        go_wp2
                        go_ret2
                        exact ⟨by rw [HR.out]; rfl, rfl⟩
                    case neg =>
                      have hr : letL l = ((c : Int), 3) := by rw [HF2.out]; unfold finR; rw [if_neg (by omega)]
                      have HR := Lib.hid hr
                      clear hr
                      go_wp2
                      go_ret2
                      exact ⟨by rw [HR.out]; rfl, rfl⟩
        case neg =>
          by_cases d4 : b0 < 245
          case pos =>
            by_cases e : l.length < 4
            case pos =>
              have hr : letL l = (-1, 1) := let_short4 l (by rw [HB.out]; omega) (by rw [HB.out]; omega) e
              have HR := Lib.hid hr
              clear hr
              go_enter Tryz.func112, Tryz.ntmps112
              go_wp2
              go_ret2
              exact ⟨by rw [HR.out]; rfl, rfl⟩
            case neg =>
              have dd : (b0 : Int) < 245 := by omega
              have HB2 := Lib.hid (let_bad4 l (by rw [HB.out]; omega) (by rw [HB.out]; omega) (by omega))
              have HF := Lib.hid (let_fin4 l (by rw [HB.out]; omega) (by rw [HB.out]; omega) (by omega))
              go_enter Tryz.func112, Tryz.ntmps112
              go_wp2
              go_loopw [4, 7] (fun a i wr => LetRelW l (b0 - 240) 4 w a i wr) (fun _ i _ => 4 - (intOf i).toNat)
              case atStart => exact ⟨rfl, 1, b0 - 240, int_eq (by omega), rfl, by omega, by omega, rfl, fun j _ _ => by omega, by omega⟩
              case round =>
                obtain ⟨rfl, k, c, rfl, rfl, hk1, hk2, hc, hall, hcb⟩ := hrel
                have HC := Lib.hid hc
                have HA := Lib.hid hall
                clear hc hall
                by_cases hlt : k < 4
                case pos =>
                  obtain ⟨b, hb⟩ : ∃ b, ub l k = b := ⟨_, rfl⟩
                  have hbl := ub_lt l k
                  rw [hb] at hbl
                  have hix := fun w => run_at (P := Tryz.prog) w Tryz.underlying9 l k k b rfl (by omega) hb
                  have HK := Lib.hid hb
                  clear hb
                  by_cases f1 : b < 128
                  case pos =>
                    have hr : letL l = (-1, 1) := HB2.out k hk1 hlt (by rw [HK.out]; omega)
                    have HR := Lib.hid hr
                    clear hr
                    go_wp2
                    go_ret2
                    exact ⟨by rw [HR.out]; rfl, rfl⟩
                  case neg =>
                    by_cases f2 : 191 < b
                    case pos =>
                      have hr : letL l = (-1, 1) := HB2.out k hk1 hlt (by rw [HK.out]; omega)
                      have HR := Lib.hid hr
                      clear hr
                      go_wp2
                      go_ret2
                      exact ⟨by rw [HR.out]; rfl, rfl⟩
                    case neg =>
                      go_wp2
                      go_roundw
                      case rel => refine ⟨rfl, k + 1, 64 * c + b - 128, int_eq (by omega), by go_num, by omega, by omega, by rw [acc_succ l _ k hk1, ← HC.out, HK.out], ok_snoc l k HA.out (by rw [HK.out]; exact ⟨by omega, by omega⟩), by omega⟩
                      case measure => simp [intOf]; omega
                case neg =>
                  have hkn : k = 4 := by omega
                  subst hkn
                  have hF := HF.out HA.out
                  rw [HB.out, ← HC.out] at hF
                  have HF2 := Lib.hid hF
                  clear hF
                  by_cases g1 : (c : Int) < 65536
                  case pos =>
                    have hr : letL l = (-1, 1) := by rw [HF2.out]; unfold finR; rw [if_pos (by omega)]
                    have HR := Lib.hid hr
                    clear hr
                    go_wp2
                    go_ret2
                    exact ⟨by rw [HR.out]; rfl, rfl⟩
                  case neg =>
                    by_cases g2 : 1114111 < (c : Int)
                    case pos =>
                      have hr : letL l = (-1, 1) := by rw [HF2.out]; unfold finR; rw [if_pos (by omega)]
                      have HR := Lib.hid hr
                      clear hr
                      go_wp2
                      go_ret2
                      exact ⟨by rw [HR.out]; rfl, rfl⟩
                    case neg =>
                      by_cases g3 : 55296 ≤ (c : Int)
                      case pos =>
                        by_cases g4 : (c : Int) < 57344
                        case pos =>
                          have hr : letL l = (-1, 1) := by rw [HF2.out]; unfold finR; rw [if_pos (by omega)]
                          have HR := Lib.hid hr
                          clear hr
                          go_wp2
                          go_ret2
                          exact ⟨by rw [HR.out]; rfl, rfl⟩
                        case neg =>
                          have hr : letL l = ((c : Int), 4) := by rw [HF2.out]; unfold finR; rw [if_neg (by omega)]
                          have HR := Lib.hid hr
                          clear hr
                          go_wp2
                          go_ret2
                          exact ⟨by rw [HR.out]; rfl, rfl⟩
                      case neg =>
                        have hr : letL l = ((c : Int), 4) := by rw [HF2.out]; unfold finR; rw [if_neg (by omega)]
                        have HR := Lib.hid hr
                        clear hr
                        go_wp2
                        go_ret2
                        exact ⟨by rw [HR.out]; rfl, rfl⟩
          case neg =>
            have hr : letL l = (-1, 1) := let_high l (by rw [HB.out]; omega) (by rw [HB.out]; omega)
            have HR := Lib.hid hr
            clear hr
            go_enter Tryz.func112, Tryz.ntmps112
            go_wp2
            go_ret2
            exact ⟨by rw [HR.out]; rfl, rfl⟩
end Go.Proofs.YtkoligiilieboaaGreatDoor
