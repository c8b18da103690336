/- The walks of the laws of keys that gather all letters of a text, for texts of at most 1048576 bytes. -/
import Derived.Test.YtclddkdchlcpeaaDoorLettersW
import Derived.Test.YtclddkdchlcpeaaDoorLaw04
namespace Go.Proofs.YtclddkdchlcpeaaDoor
open Go.RowKit
attribute [local go_sem] ByteArray.mk_append_mk ByteArray.extract_mk
attribute [local go_sem ↓] Go.wp_at_zero Go.wp_at_succ
set_option maxHeartbeats 1600000 in
set_option maxRecDepth 100000 in
theorem keyCompares_walk (a : List UInt8) (za : a.length ≤ 1048576) (b : List UInt8) (zb : b.length ≤ 1048576) (w : World) (hT : Go.Lib.Utf8Tabs 0 1 w) :
    Calls Tryd.prog 3 #[.string ⟨a.toArray⟩, .string ⟨b.toArray⟩] w fun e w' => e = .returned (.bool true) ∧ Below w.heap.size w w' := by
  have hsw := cmpL_swap a b
  have hrg := cmpL_range a b
  obtain ⟨x, hx⟩ : ∃ x, cmpL a b = x := ⟨_, rfl⟩
  rw [hx] at hsw hrg
  have HX := Lib.hid hx
  have HS := Lib.hid hsw
  clear hx hsw
  go_enter Tryd.func3, Tryd.ntmps3
  go_wp2_with fail
  refine (compare_any a b _ hT (by omega) (by omega)).mono ?_
  rintro e w1 ⟨rfl, hb1⟩
  rw [HX.out]
  go_wp2_with fail
  refine (refcompare_any a b (by omega) (by omega) _).mono ?_
  rintro e w2 ⟨rfl, hb2⟩
  rw [HX.out]
  have hB2 := bt hb1 hb2
  go_wp2_with fail
  refine (compare_any b a _ (Utf8Tabs_below hT hB2) (by omega) (by omega)).mono ?_
  rintro e w3 ⟨rfl, hb3⟩
  rw [HS.out]
  have hB3 := bt hB2 hb3
  go_wp2_with fail
  refine (compare_any a b _ (Utf8Tabs_below hT hB3) (by omega) (by omega)).mono ?_
  rintro e w4 ⟨rfl, hb4⟩
  rw [HX.out]
  have hB4 := bt hB3 hb4
  have hneg : IntKind.i64.wrap (-x) = -x := IntWalk.i64_in _ (by omega)
  go_wp2_with fail
  refine (awake04 _ (Utf8Tabs_below hT hB4)).mono ?_
  rintro e w5 ⟨rfl, hb5⟩
  go_wp2
  go_ret
  exact ⟨rfl, bt hB4 hb5⟩
def RiRel (n : Nat) (w1 : World) (i : Value) (wr : World) : Prop := ∃ k : Nat, i = .int .i64 k ∧ k ≤ n ∧ Below w1.heap.size w1 wr
set_option maxHeartbeats 1600000 in
set_option maxRecDepth 100000 in
theorem keyRights_walk (a : List UInt8) (za : a.length ≤ 1048576) (w : World) (hT : Go.Lib.Utf8Tabs 0 1 w) :
    Calls Tryd.prog 9 #[.string ⟨a.toArray⟩] w fun e w' => e = .returned (.bool true) ∧ Below w.heap.size w w' := by
  have hll := letters_len a
  have hok := letters_ok a
  have LA := keyletters_any a (by omega)
  have LB := refletters_any a (by omega)
  obtain ⟨xs, hx⟩ : ∃ x, lettersL a = x := ⟨_, rfl⟩
  rw [hx] at LA LB hll hok
  obtain ⟨q, hq⟩ : ∃ q, rightL a = q := ⟨_, rfl⟩
  have HQ := Lib.hid hq
  have HO := Lib.hid hok
  have hqq : (q != q) = false := by simp
  clear hx hq hok
  go_enter Tryd.func9, Tryd.ntmps9
  go_wp2_with fail
  refine (LA _).mono ?_
  rintro e w1 ⟨A, cap, rfl, hown, hb1⟩
  go_wp2_with fail
  refine (LB _).mono ?_
  rintro e w2 ⟨A', cap', rfl, hown', hb2⟩
  have hB2 := bt hb1 hb2
  have hR := (Rd.of_own hown).below hb2 (Nat.le_refl _)
  have hR' := Rd.of_own hown'
  have hb1s := hb2.size
  have hTw := Utf8Tabs_below hT hB2
  clear hown hown' LA LB
  go_wp2_with fail
  refine (keyright_any a (by omega) _ hTw).mono ?_
  rintro e w3 ⟨rfl, hb3⟩
  rw [HQ.out]
  go_wp2_with fail
  refine (refkright_any a (by omega) _).mono ?_
  rintro e w4 ⟨rfl, hw4⟩
  rw [HQ.out]
  have hb24 : Below w2.heap.size w2 w4 := by rw [← hw4]; exact hb3
  clear hw4
  go_wp2
  go_loopw [24] (fun i wr => RiRel xs.length w4 i wr) (fun i _ => xs.length - (intOf i).toNat)
  case atStart => exact ⟨0, rfl, Nat.zero_le _, Below.refl _ _⟩
  case round =>
    obtain ⟨k, rfl, hk1, hbr⟩ := hrel
    have hb2r := bt hb24 hbr
    have hB := bt hB2 hb2r
    have hRr := hR.below hb2r hb1s
    have hRr' := hR'.below hb2r (Nat.le_refl _)
    by_cases h1 : k < xs.length
    case pos =>
      obtain ⟨ab, ao, rfl, hab, hac⟩ := hRr.2 (by omega)
      obtain ⟨bb, bo, rfl, hbb, hbc⟩ := hRr'.2 (by omega)
      have g1 := hac k (rv xs[k]) (by simp [h1])
      have g2 := hbc k (iv xs[k]) (by simp [h1])
      have hxm := (HO.out xs[k] (List.getElem_mem h1)).2
      obtain ⟨x, hx⟩ : ∃ x, xs[k] = x := ⟨_, rfl⟩
      rw [hx] at g1 g2 hxm
      unfold iv at g2
      unfold rv at g1
      clear hx hac hbc hRr hRr' hR hR'
      have b1 : (0 : Int) ≤ (k : Int) := by omega
      have hwx : IntKind.i64.wrap (x : Int) = x := IntWalk.i64_in _ (by omega)
      have hxx : ((x : Int) != (x : Int)) = false := by simp
      go_wp2
      go_quiet (fail)
      go_wp2
      go_roundw
      case rel => exact ⟨k + 1, by go_num, by omega, below_drewN hbr _⟩
      case measure => simp [intOf]; omega
    case neg =>
      have hke : k = xs.length := by omega
      subst hke
      go_wp2_with fail
      refine (awake04 _ (Utf8Tabs_below hT hB)).mono ?_
      rintro e w5 ⟨rfl, hb5⟩
      go_wp2
      go_ret
      exact ⟨rfl, bt hB hb5⟩
theorem conv_runes (w : World) {base g cap : Nat} {xs : List Nat} (hown : w.ownsRow base 21 1 (.slice (some ⟨g, 0, none⟩) xs.length cap) xs.length (xs.map rv)) (hok : ∀ c ∈ xs, okC c) :
    (convert 33 9 (.slice (some ⟨g, 0, none⟩) xs.length cap)).run Tryd.prog w = .ok (.string ⟨(xs.flatMap encN).toArray⟩) w := by
  have h := run_convert_runes (P := Tryd.prog) w 33 9 21 ⟨g, 0, none⟩ xs.length cap (xs.map fun n : Nat => (n : Int)) (by simp) Tryd.underlying33 Tryd.underlying21 Tryd.underlying9 (fun j hj => by
    have hj' : j < xs.length := by simpa using hj
    have hc := hown.cells (g := g) rfl j (rv xs[j]) (by simp [hj'])
    rw [hc]
    simp [rv, hj'])
  rw [List.take_of_length_le (by simp), runes_flat xs hok] at h
  exact h
set_option maxHeartbeats 1600000 in
set_option maxRecDepth 100000 in
theorem keyLetters_walk (a : List UInt8) (za : a.length ≤ 1048576) (w : World) (hT : Go.Lib.Utf8Tabs 0 1 w) :
    Calls Tryd.prog 10 #[.string ⟨a.toArray⟩] w fun e w' => e = .returned (.bool true) ∧ Below w.heap.size w w' := by
  have hll := letters_len a
  have hok := letters_ok a
  have LA := keyletters_any a (by omega)
  cases hp : rightL a with
  | false =>
    have HP := Lib.hid hp
    clear hp
    obtain ⟨xs, hx⟩ : ∃ x, lettersL a = x := ⟨_, rfl⟩
    rw [hx] at LA hll
    clear hx
    have hg : ¬ ((a.length : Int) < xs.length) := by omega
    go_enter Tryd.func10, Tryd.ntmps10
    go_wp2_with fail
    refine (LA _).mono ?_
    rintro e w1 ⟨A, cap, rfl, hown, hb1⟩
    go_wp2_with fail
    refine (keyright_any a (by omega) _ (Utf8Tabs_below hT hb1)).mono ?_
    rintro e w3 ⟨rfl, hb3⟩
    rw [HP.out]
    have hB3 := bt hb1 hb3
    go_wp2_with fail
    refine (awake04 _ (Utf8Tabs_below hT hB3)).mono ?_
    rintro e w5 ⟨rfl, hb5⟩
    go_wp2
    go_ret
    exact ⟨rfl, bt hB3 hb5⟩
  | true =>
    have HP := Lib.hid hp
    have hpp : plainL a = true ∧ 1 ≤ a.length := by
      unfold rightL at hp
      simp only [Bool.and_eq_true, decide_eq_true_eq] at hp
      exact ⟨hp.1, hp.2.1⟩
    clear hp
    have hen := letters_enc a hpp.1
    rw [flat_enc _ hok] at hen
    obtain ⟨xs, hx⟩ : ∃ x, lettersL a = x := ⟨_, rfl⟩
    rw [hx] at LA hll hok hen
    clear hx
    have hx0 : 0 < xs.length := by
      rcases Nat.eq_zero_or_pos xs.length with h | h
      · have h2 : xs = [] := List.eq_nil_of_length_eq_zero h
        subst h2
        have h3 : a.length = 0 := (congrArg List.length hen).trans rfl
        omega
      · exact h
    have HE := Lib.hid hen
    have HO := Lib.hid hok
    have hg : ¬ ((a.length : Int) < xs.length) := by omega
    have hg2 : (0 : Int) < xs.length := by omega
    have haa : (a == a) = true := by simp
    clear hen hok hpp
    go_enter Tryd.func10, Tryd.ntmps10
    go_wp2_with fail
    refine (LA _).mono ?_
    rintro e w1 ⟨A, cap, rfl, hown, hb1⟩
    obtain ⟨g, cap2, hv, _, _⟩ := hown.form hx0
    injection hv with hA _ hC
    subst hA hC
    go_wp2_with fail
    refine (keyright_any a (by omega) _ (Utf8Tabs_below hT hb1)).mono ?_
    rintro e w3 ⟨rfl, hb3⟩
    rw [HP.out]
    have hB3 := bt hb1 hb3
    have hcv := conv_runes w3 (own_below hown hb3 (Nat.le_refl _)) HO.out
    rw [← HE.out] at hcv
    clear hown
    go_wp2_with fail
    refine (awake04 _ (Utf8Tabs_below hT hB3)).mono ?_
    rintro e w5 ⟨rfl, hb5⟩
    go_wp2
    go_ret
    exact ⟨rfl, bt hB3 hb5⟩
end Go.Proofs.YtclddkdchlcpeaaDoor
