/- The walk of the document's Compare of keys. -/
import Derived.Test.YtkoligiilieboaaGreatDoorKRightW
import Derived.Deep.QuietTactic
import Derived.BigQuiet
set_option linter.unusedSimpArgs false
set_option linter.unusedVariables false
namespace Go.Proofs.YtkoligiilieboaaGreatDoor
open Go.RowKit
attribute [local go_sem] ByteArray.mk_append_mk ByteArray.extract_mk
theorem cmpN_step (xs ys : List Nat) (k : Nat) (ha : k < xs.length) (hb : k < ys.length) :
    cmpN (xs.drop k) (ys.drop k) = if xs[k] < ys[k] then -1 else if ys[k] < xs[k] then 1 else cmpN (xs.drop (k + 1)) (ys.drop (k + 1)) := by
  rw [List.drop_eq_getElem_cons ha, List.drop_eq_getElem_cons hb]
  rfl
theorem cmpN_end (xs ys : List Nat) (k : Nat) (h : k = xs.length ∨ k = ys.length) (h1 : k ≤ xs.length) (h2 : k ≤ ys.length) :
    cmpN (xs.drop k) (ys.drop k) = if xs.length < ys.length then -1 else if ys.length < xs.length then 1 else 0 := by
  rcases h with h | h
  · subst h
    rw [List.drop_length]
    by_cases h3 : xs.length < ys.length
    · rw [if_pos h3, List.drop_eq_getElem_cons h3]; rfl
    · have : ys.drop xs.length = [] := List.drop_eq_nil_of_le (by omega)
      rw [this, if_neg h3, if_neg (by omega)]; rfl
  · subst h
    rw [List.drop_length]
    by_cases h3 : ys.length < xs.length
    · rw [if_neg (by omega), if_pos h3, List.drop_eq_getElem_cons h3]; rfl
    · have : xs.drop ys.length = [] := List.drop_eq_nil_of_le (by omega)
      rw [this, if_neg (by omega), if_neg h3]; rfl
def CRel (xs ys : List Nat) (w : World) (i : Value) (wr : World) : Prop :=
  ∃ k : Nat, i = .int .i64 k ∧ k ≤ xs.length ∧ k ≤ ys.length ∧ cmpN xs ys = cmpN (xs.drop k) (ys.drop k) ∧ Below w.heap.size w wr
set_option maxHeartbeats 1600000 in
set_option maxRecDepth 100000 in
theorem refcompare_any (a b : List UInt8) (hla : a.length ≤ 1099511627776) (hlb : b.length ≤ 1099511627776) (w : World) :
    Calls Tryz.prog 86 #[.string ⟨a.toArray⟩, .string ⟨b.toArray⟩] w fun e w' => e = .returned (.int .i64 (cmpL a b)) ∧ Below w.heap.size w w' := by
  have hxl := letters_len a
  have hyl := letters_len b
  have hv : cmpL a b = cmpN (lettersL a) (lettersL b) := rfl
  have HV := Lib.hid hv
  clear hv
  have LA := refletters_any a hla
  have LB := refletters_any b hlb
  obtain ⟨xs, hx⟩ : ∃ x, lettersL a = x := ⟨_, rfl⟩
  obtain ⟨ys, hy⟩ : ∃ x, lettersL b = x := ⟨_, rfl⟩
  rw [hx] at LA HV hxl
  rw [hy] at LB HV hyl
  clear hx hy
  go_enter Tryz.func86, Tryz.ntmps86
  go_wp2_with fail
  refine (LA _).mono ?_
  rintro e w1 ⟨A, cap, rfl, hown, hb1⟩
  go_wp2_with fail
  refine (LB _).mono ?_
  rintro e w2 ⟨A', cap', rfl, hown', hb2⟩
  have hb1s := hb1.size
  have hb2s := hb2.size
  have hB2 := hb1.trans (hb2.mono hb1s)
  have hR := (Rd.of_own hown).below hb2 (Nat.le_refl _)
  have hR' := Rd.of_own hown'
  clear hown hown'
  go_wp2
  go_loopw [7] (fun i wr => CRel xs ys w2 i wr) (fun i _ => xs.length - (intOf i).toNat)
  case atStart => exact ⟨0, rfl, Nat.zero_le _, Nat.zero_le _, rfl, Below.refl _ _⟩
  case round =>
    obtain ⟨k, rfl, hk1, hk2, hcm, hbr⟩ := hrel
    have HC := Lib.hid hcm
    clear hcm
    have hB := hB2.trans (hbr.mono (by omega))
    have hRr := hR.below hbr hb2s
    have hRr' := hR'.below hbr (Nat.le_refl _)
    by_cases h1 : k < xs.length
    case pos =>
      by_cases h2 : k < ys.length
      case pos =>
        obtain ⟨ab, ao, rfl, hab, hac⟩ := hRr.2 (by omega)
        obtain ⟨bb, bo, rfl, hbb, hbc⟩ := hRr'.2 (by omega)
        have g1 := hac k (iv xs[k]) (by simp [h1])
        have g2 := hbc k (iv ys[k]) (by simp [h2])
        have hst := cmpN_step xs ys k h1 h2
        obtain ⟨x, hx⟩ : ∃ x, xs[k] = x := ⟨_, rfl⟩
        obtain ⟨y, hy⟩ : ∃ y, ys[k] = y := ⟨_, rfl⟩
        rw [hx] at g1 hst
        rw [hy] at g2 hst
        unfold iv at g1 g2
        have HS := Lib.hid hst
        clear hst hx hy hac hbc hRr hRr' hR hR' LA LB
        have b1 : (0 : Int) ≤ (k : Int) := by omega
        by_cases h3 : (x : Int) < y
        case pos =>
          go_wp2
          go_quiet (fail)
          go_wp2
          go_ret
          exact ⟨by rw [HV.out, HC.out, HS.out, if_pos (by omega)]; rfl, below_drewN hB _⟩
        case neg =>
          by_cases h4 : (y : Int) < x
          case pos =>
            go_wp2
            go_quiet (fail)
            go_wp2
            go_quiet (fail)
            go_wp2
            go_ret
            exact ⟨by rw [HV.out, HC.out, HS.out, if_neg (by omega), if_pos (by omega)]; rfl, below_drewN (below_drewN hB _) _⟩
          case neg =>
            go_wp2
            go_quiet (fail)
            go_wp2
            go_quiet (fail)
            go_wp2
            go_roundw
            case rel => exact ⟨k + 1, by go_num, by omega, by omega, by rw [HC.out, HS.out, if_neg (by omega), if_neg (by omega)], below_drewN hbr _⟩
            case measure => simp [intOf]; omega
      case neg =>
        have hst := cmpN_end xs ys k (by omega) hk1 hk2
        have HS := Lib.hid hst
        clear hst
        by_cases h3 : xs.length < ys.length
        case pos => omega
        case neg =>
          by_cases h4 : ys.length < xs.length
          case pos =>
            go_wp2
            go_ret
            exact ⟨by rw [HV.out, HC.out, HS.out, if_neg h3, if_pos h4]; rfl, hB⟩
          case neg =>
            go_wp2
            go_ret
            exact ⟨by rw [HV.out, HC.out, HS.out, if_neg h3, if_neg h4]; rfl, hB⟩
    case neg =>
      have hst := cmpN_end xs ys k (by omega) hk1 hk2
      have HS := Lib.hid hst
      clear hst
      by_cases h3 : xs.length < ys.length
      case pos =>
        go_wp2
        go_ret
        exact ⟨by rw [HV.out, HC.out, HS.out, if_pos h3]; rfl, hB⟩
      case neg =>
        by_cases h4 : ys.length < xs.length
        case pos => omega
        case neg =>
          go_wp2
          go_ret
          exact ⟨by rw [HV.out, HC.out, HS.out, if_neg h3, if_neg h4]; rfl, hB⟩
end Go.Proofs.YtkoligiilieboaaGreatDoor
