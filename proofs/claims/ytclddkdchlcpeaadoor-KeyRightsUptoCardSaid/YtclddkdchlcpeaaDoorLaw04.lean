/- The walks of the laws of keys. -/
import Derived.Test.YtclddkdchlcpeaaDoorRefReadW
import Derived.Test.YtclddkdchlcpeaaDoorKey4
namespace Go.Proofs.YtclddkdchlcpeaaDoor
open Go.RowKit
attribute [local go_sem] ByteArray.mk_append_mk ByteArray.extract_mk
attribute [local go_sem ↓] Go.wp_at_zero Go.wp_at_succ
theorem aw_readL : readL [97, 37, 50, 48, 98] = some [97, 32, 98] := by decide +kernel
theorem aw_read : readT [97, 37, 50, 48, 98] = .tuple #[.string ⟨#[97, 32, 98]⟩, .int .i64 0] := by unfold readT; rw [aw_readL]
theorem aw_right : rightL [97, 98] = true := by decide +kernel
theorem aw_show : showL [97, 32, 98] = [97, 37, 50, 48, 98] := by decide +kernel
theorem aw_cmp : cmpL [97] [97, 98] = -1 := by decide +kernel
set_option maxHeartbeats 800000 in
set_option maxRecDepth 100000 in
theorem awake04 (w : World) (hT : Go.Lib.Utf8Tabs 0 1 w) : Calls Tryd.prog 13 #[] w fun e w' => e = .returned (.bool true) ∧ Below w.heap.size w w' := by
  go_enter Tryd.func13, Tryd.ntmps13
  go_wp2_with fail
  refine (keyread_any [97, 37, 50, 48, 98] (by decide) _ hT).mono ?_
  rintro e w1 ⟨rfl, hb1⟩
  rw [aw_read]
  have hT1 := Utf8Tabs_below hT hb1
  go_wp2_with fail
  refine (keyright_any [97, 98] (by decide) _ hT1).mono ?_
  rintro e w2 ⟨rfl, hb2⟩
  rw [aw_right]
  have hB2 := bt hb1 hb2
  have hT2 := Utf8Tabs_below hT hB2
  go_wp2_with fail
  refine (keyshow_any [97, 32, 98] (by decide) _ hT2).mono ?_
  rintro e w3 ⟨rfl, hb3⟩
  rw [aw_show]
  have hB3 := bt hB2 hb3
  have hT3 := Utf8Tabs_below hT hB3
  go_wp2_with fail
  refine (compare_any [97] [97, 98] _ hT3 (by decide) (by decide)).mono ?_
  rintro e w4 ⟨rfl, hb4⟩
  rw [aw_cmp]
  go_wp2
  go_ret
  exact ⟨rfl, bt hB3 hb4⟩
set_option maxHeartbeats 800000 in
set_option maxRecDepth 100000 in
theorem keyShows_walk (s : List UInt8) (_zs : s.length ≤ 140737488351232) (w : World) (hT : Go.Lib.Utf8Tabs 0 1 w) :
    Calls Tryd.prog 4 #[.string ⟨s.toArray⟩] w fun e w' => e = .returned (.bool true) ∧ Below w.heap.size w w' := by
  by_cases h : s.length ≤ 4096
  case neg =>
    have h1 : (4096 : Int) < s.length := by omega
    go_enter Tryd.func4, Tryd.ntmps4
    go_wp2_with fail
    refine (awake04 _ hT).mono ?_
    rintro e w1 ⟨rfl, hb1⟩
    go_wp2
    go_ret
    exact ⟨rfl, hb1⟩
  case pos =>
    have h1 : ¬ ((4096 : Int) < s.length) := by omega
    go_enter Tryd.func4, Tryd.ntmps4
    go_wp2_with fail
    refine (keyshow_any s (by omega) _ hT).mono ?_
    rintro e w1 ⟨rfl, hb1⟩
    have hT1 := Utf8Tabs_below hT hb1
    have hq : (showL s == showL s) = true := by simp
    go_wp2_with fail
    refine (refshow_any s (by omega) _).mono ?_
    rintro e w2 ⟨rfl, hb2⟩
    have hB2 := bt hb1 hb2
    go_wp2_with fail
    refine (awake04 _ (Utf8Tabs_below hT hB2)).mono ?_
    rintro e w3 ⟨rfl, hb3⟩
    go_wp2
    go_ret
    exact ⟨rfl, bt hB2 hb3⟩
set_option maxHeartbeats 800000 in
set_option maxRecDepth 100000 in
theorem keyReads_walk (s : List UInt8) (_zs : s.length ≤ 140737488351232) (w : World) (hT : Go.Lib.Utf8Tabs 0 1 w) :
    Calls Tryd.prog 5 #[.string ⟨s.toArray⟩] w fun e w' => e = .returned (.bool true) ∧ Below w.heap.size w w' := by
  by_cases h : s.length ≤ 4096
  case neg =>
    have h1 : (4096 : Int) < s.length := by omega
    go_enter Tryd.func5, Tryd.ntmps5
    go_wp2_with fail
    refine (awake04 _ hT).mono ?_
    rintro e w1 ⟨rfl, hb1⟩
    go_wp2
    go_ret
    exact ⟨rfl, hb1⟩
  case pos =>
    have h1 : ¬ ((4096 : Int) < s.length) := by omega
    have R1 := keyread_any s (by omega) w hT
    have R2 := refread_any s (by omega)
    unfold readT at R1
    unfold refReadT at R2
    cases hr : readL s with
    | none =>
      rw [hr] at R1 R2
      simp only at R1 R2
      clear hr
      go_enter Tryd.func5, Tryd.ntmps5
      go_wp2_with fail
      refine R1.mono ?_
      rintro e w1 ⟨rfl, hb1⟩
      go_wp2_with fail
      refine (R2 _).mono ?_
      rintro e w2 ⟨rfl, hb2⟩
      have hB2 := bt hb1 hb2
      go_wp2_with fail
      refine (awake04 _ (Utf8Tabs_below hT hB2)).mono ?_
      rintro e w3 ⟨rfl, hb3⟩
      go_wp2
      go_ret
      exact ⟨rfl, bt hB2 hb3⟩
    | some x =>
      rw [hr] at R1 R2
      simp only at R1 R2
      clear hr
      have hq : (x == x) = true := by simp
      go_enter Tryd.func5, Tryd.ntmps5
      go_wp2_with fail
      refine R1.mono ?_
      rintro e w1 ⟨rfl, hb1⟩
      go_wp2_with fail
      refine (R2 _).mono ?_
      rintro e w2 ⟨rfl, hb2⟩
      have hB2 := bt hb1 hb2
      go_wp2_with fail
      refine (awake04 _ (Utf8Tabs_below hT hB2)).mono ?_
      rintro e w3 ⟨rfl, hb3⟩
      go_wp2
      go_ret
      exact ⟨rfl, bt hB2 hb3⟩
set_option maxHeartbeats 1600000 in
set_option maxRecDepth 100000 in
theorem keyChain_walk (a : List UInt8) (za : a.length ≤ 140737488351232) (b : List UInt8) (zb : b.length ≤ 140737488351232) (c : List UInt8) (zc : c.length ≤ 140737488351232) (w : World) (hT : Go.Lib.Utf8Tabs 0 1 w) :
    Calls Tryd.prog 8 #[.string ⟨a.toArray⟩, .string ⟨b.toArray⟩, .string ⟨c.toArray⟩] w fun e w' => e = .returned (.bool true) ∧ Below w.heap.size w w' := by
  have hself := cmpL_self a
  have htr := fun h1 h2 => cmpL_trans (a := a) (b := b) (c := c) h1 h2
  obtain ⟨x, hx⟩ : ∃ x, cmpL a b = x := ⟨_, rfl⟩
  obtain ⟨y, hy⟩ : ∃ x, cmpL b c = x := ⟨_, rfl⟩
  obtain ⟨z, hz⟩ : ∃ x, cmpL a c = x := ⟨_, rfl⟩
  rw [hx, hy, hz] at htr
  have HX := Lib.hid hx
  have HY := Lib.hid hy
  have HZ := Lib.hid hz
  have HF := Lib.hid hself
  clear hx hy hz hself
  by_cases h1 : 0 < x
  case pos =>
    clear htr
    go_enter Tryd.func8, Tryd.ntmps8
    go_wp2_with fail
    refine (compare_any a b _ hT (by omega) (by omega)).mono ?_
    rintro e w1 ⟨rfl, hb1⟩
    rw [HX.out]
    go_wp2_with fail
    refine (awake04 _ (Utf8Tabs_below hT hb1)).mono ?_
    rintro e w3 ⟨rfl, hb3⟩
    go_wp2
    go_ret
    exact ⟨rfl, bt hb1 hb3⟩
  case neg =>
    by_cases h2 : 0 < y
    case pos =>
      clear htr
      go_enter Tryd.func8, Tryd.ntmps8
      go_wp2_with fail
      refine (compare_any a b _ hT (by omega) (by omega)).mono ?_
      rintro e w1 ⟨rfl, hb1⟩
      rw [HX.out]
      go_wp2_with fail
      refine (compare_any b c _ (Utf8Tabs_below hT hb1) (by omega) (by omega)).mono ?_
      rintro e w2 ⟨rfl, hb2⟩
      rw [HY.out]
      have hB2 := bt hb1 hb2
      go_wp2_with fail
      refine (awake04 _ (Utf8Tabs_below hT hB2)).mono ?_
      rintro e w3 ⟨rfl, hb3⟩
      go_wp2
      go_ret
      exact ⟨rfl, bt hB2 hb3⟩
    case neg =>
      have h3 : z ≤ 0 := htr (by omega) (by omega)
      clear htr
      go_enter Tryd.func8, Tryd.ntmps8
      go_wp2_with fail
      refine (compare_any a b _ hT (by omega) (by omega)).mono ?_
      rintro e w1 ⟨rfl, hb1⟩
      rw [HX.out]
      go_wp2_with fail
      refine (compare_any b c _ (Utf8Tabs_below hT hb1) (by omega) (by omega)).mono ?_
      rintro e w2 ⟨rfl, hb2⟩
      rw [HY.out]
      have hB2 := bt hb1 hb2
      go_wp2_with fail
      refine (compare_any a c _ (Utf8Tabs_below hT hB2) (by omega) (by omega)).mono ?_
      rintro e w4 ⟨rfl, hb4⟩
      rw [HZ.out]
      have hB4 := bt hB2 hb4
      go_wp2_with fail
      refine (compare_any a a _ (Utf8Tabs_below hT hB4) (by omega) (by omega)).mono ?_
      rintro e w5 ⟨rfl, hb5⟩
      rw [HF.out]
      have hB5 := bt hB4 hb5
      go_wp2_with fail
      refine (awake04 _ (Utf8Tabs_below hT hB5)).mono ?_
      rintro e w3 ⟨rfl, hb3⟩
      go_wp2
      go_ret
      exact ⟨rfl, bt hB5 hb3⟩
set_option maxHeartbeats 1600000 in
set_option maxRecDepth 100000 in
theorem keyOrder_walk (a : List UInt8) (za : a.length ≤ 140737488351232) (b : List UInt8) (zb : b.length ≤ 140737488351232) (w : World) (hT : Go.Lib.Utf8Tabs 0 1 w) :
    Calls Tryd.prog 6 #[.string ⟨a.toArray⟩, .string ⟨b.toArray⟩] w fun e w' => e = .returned (.bool true) ∧ Below w.heap.size w w' := by
  have hless := fun h1 h2 => less_cmp (a := a) (b := b) h1 h2
  have hzero := fun h1 h2 => cmpL_zero (a := a) (b := b) h1 h2
  have hrg := cmpL_range a b
  have HLESS := Lib.hid hless
  have HZERO := Lib.hid hzero
  clear hless hzero
  obtain ⟨c, hc⟩ : ∃ x, cmpL a b = x := ⟨_, rfl⟩
  rw [hc] at hrg
  have HC := Lib.hid hc
  clear hc
  cases hp : rightL a with
  | false =>
    have HP := Lib.hid hp
    clear hp
    go_enter Tryd.func6, Tryd.ntmps6
    go_wp2_with fail
    refine (keyright_any a (by omega) _ hT).mono ?_
    rintro e w1 ⟨rfl, hb1⟩
    rw [HP.out]
    go_wp2_with fail
    refine (awake04 _ (Utf8Tabs_below hT hb1)).mono ?_
    rintro e w3 ⟨rfl, hb3⟩
    go_wp2
    go_ret
    exact ⟨rfl, bt hb1 hb3⟩
  | true =>
    have HP := Lib.hid hp
    have hpa : plainL a = true := by unfold rightL at hp; rw [Bool.and_eq_true] at hp; exact hp.1
    clear hp
    cases hq : rightL b with
    | false =>
      have HQ := Lib.hid hq
      clear hq hpa
      go_enter Tryd.func6, Tryd.ntmps6
      go_wp2_with fail
      refine (keyright_any a (by omega) _ hT).mono ?_
      rintro e w1 ⟨rfl, hb1⟩
      rw [HP.out]
      go_wp2_with fail
      refine (keyright_any b (by omega) _ (Utf8Tabs_below hT hb1)).mono ?_
      rintro e w2 ⟨rfl, hb2⟩
      rw [HQ.out]
      have hB2 := bt hb1 hb2
      go_wp2_with fail
      refine (awake04 _ (Utf8Tabs_below hT hB2)).mono ?_
      rintro e w3 ⟨rfl, hb3⟩
      go_wp2
      go_ret
      exact ⟨rfl, bt hB2 hb3⟩
    | true =>
      have HQ := Lib.hid hq
      have hpb : plainL b = true := by unfold rightL at hq; rw [Bool.and_eq_true] at hq; exact hq.1
      clear hq
      have hl := HLESS.out hpa hpb
      have hz := HZERO.out hpa hpb
      rw [HC.out] at hl hz
      clear hpa hpb HLESS HZERO
      have hl2 : (Go.Op.bytesLess a b) = decide (c < 0) := hl
      have hz2 : (a == b) = (c == 0) := by rw [Bool.eq_iff_iff, beq_iff_eq, beq_iff_eq]; exact hz.symm
      clear hl hz
      have hcs : (c = -1 ∧ Go.Op.bytesLess a b = true ∧ (a == b) = false) ∨ (c = 0 ∧ Go.Op.bytesLess a b = false ∧ (a == b) = true) ∨ (c = 1 ∧ Go.Op.bytesLess a b = false ∧ (a == b) = false) := by
        rcases hrg with rfl | rfl | rfl
        · exact .inl ⟨rfl, hl2, hz2⟩
        · exact .inr (.inl ⟨rfl, hl2, hz2⟩)
        · exact .inr (.inr ⟨rfl, hl2, hz2⟩)
      clear hl2 hz2 hrg
      rcases hcs with ⟨rfl, hl3, hz3⟩ | ⟨rfl, hl3, hz3⟩ | ⟨rfl, hl3, hz3⟩
      all_goals
        go_enter Tryd.func6, Tryd.ntmps6
        go_wp2_with fail
        refine (keyright_any a (by omega) _ hT).mono ?_
        rintro e w1 ⟨rfl, hb1⟩
        rw [HP.out]
        go_wp2_with fail
        refine (keyright_any b (by omega) _ (Utf8Tabs_below hT hb1)).mono ?_
        rintro e w2 ⟨rfl, hb2⟩
        rw [HQ.out]
        have hB2 := bt hb1 hb2
        go_wp2_with fail
        refine (compare_any a b _ (Utf8Tabs_below hT hB2) (by omega) (by omega)).mono ?_
        rintro e w4 ⟨rfl, hb4⟩
        rw [HC.out]
        have hB4 := bt hB2 hb4
        go_wp2_with fail
        refine (awake04 _ (Utf8Tabs_below hT hB4)).mono ?_
        rintro e w3 ⟨rfl, hb3⟩
        go_wp2
        go_ret
        exact ⟨rfl, bt hB4 hb3⟩
def LowRel (W : List UInt8) (w0 : World) (i : Value) (wr : World) : Prop := ∃ k : Nat, i = .int .i64 k ∧ k ≤ W.length ∧ wr = w0
set_option maxHeartbeats 1600000 in
set_option maxRecDepth 100000 in
theorem keyBack_walk (a : List UInt8) (za : a.length ≤ 140737488351232) (b : List UInt8) (zb : b.length ≤ 140737488351232) (w : World) (hT : Go.Lib.Utf8Tabs 0 1 w) :
    Calls Tryd.prog 7 #[.string ⟨a.toArray⟩, .string ⟨b.toArray⟩] w fun e w' => e = .returned (.bool true) ∧ Below w.heap.size w w' := by
  by_cases h : a.length ≤ 4096
  case neg =>
    have h1 : (4096 : Int) < a.length := by omega
    go_enter Tryd.func7, Tryd.ntmps7
    go_wp2_with fail
    refine (awake04 _ hT).mono ?_
    rintro e w1 ⟨rfl, hb1⟩
    go_wp2
    go_ret
    exact ⟨rfl, hb1⟩
  case pos =>
    have h1 : ¬ ((4096 : Int) < a.length) := by omega
    by_cases h2 : b.length ≤ 4096
    case neg =>
      have h3 : (4096 : Int) < b.length := by omega
      go_enter Tryd.func7, Tryd.ntmps7
      go_wp2_with fail
      refine (awake04 _ hT).mono ?_
      rintro e w1 ⟨rfl, hb1⟩
      go_wp2
      go_ret
      exact ⟨rfl, hb1⟩
    case pos =>
      have h3 : ¬ ((4096 : Int) < b.length) := by omega
      have hrd : readT (showL a) = .tuple #[.string ⟨a.toArray⟩, .int .i64 0] := by unfold readT; rw [read_show]
      have hby := fun x hx => show_bytes a x hx
      have hln := showL_len a
      have hin : (showL b == showL a) = (b == a) := by rw [Bool.eq_iff_iff, beq_iff_eq, beq_iff_eq]; exact ⟨fun h => show_inj h, fun h => by rw [h]⟩
      obtain ⟨W, hW⟩ : ∃ x, showL a = x := ⟨_, rfl⟩
      obtain ⟨V, hV⟩ : ∃ x, showL b = x := ⟨_, rfl⟩
      rw [hW] at hrd hby hln hin
      rw [hV] at hin
      obtain ⟨q, hq⟩ : ∃ x, (b == a) = x := ⟨_, rfl⟩
      rw [hq] at hin
      have HW := Lib.hid hW
      have HV := Lib.hid hV
      have HR := Lib.hid hrd
      have HY := Lib.hid hby
      have hne : W.isEmpty = false := by cases W; simp at hln; rfl
      have haa : (a == a) = true := by simp
      clear hW hV hrd hby
      go_enter Tryd.func7, Tryd.ntmps7
      go_wp2_with fail
      refine (keyshow_any a (by omega) _ hT).mono ?_
      rintro e w1 ⟨rfl, hb1⟩
      rw [HW.out]
      go_wp2
      go_loopw [6] (fun i wr => LowRel W w1 i wr) (fun i _ => W.length - (intOf i).toNat)
      case atStart => exact ⟨0, rfl, Nat.zero_le _, rfl⟩
      case round =>
        obtain ⟨k, rfl, hk, rfl⟩ := hrel
        have k0 : (0 : Int) ≤ (k : Int) := by omega
        by_cases hlt : k < W.length
        case pos =>
          have hb' := HY.out W[k] (List.getElem_mem hlt)
          have hat := fun w => run_at (P := Tryd.prog) w Tryd.underlying9 W (k : Int) k (W[k]).toNat rfl hlt (by rw [List.getElem?_eq_getElem hlt]; rfl)
          obtain ⟨y, hy⟩ : ∃ y, (W[k]).toNat = y := ⟨_, rfl⟩
          rw [hy] at hat hb'
          clear hy
          have hg : ¬ ((y : Int) ≤ 32) := by omega
          go_wp2
          go_roundw
          case rel => exact ⟨k + 1, by go_num, by omega, rfl⟩
          case measure => simp [intOf]; omega
        case neg =>
          have hke : k = W.length := by omega
          subst hke
          go_wp2_with fail
          refine (keyread_any W (by omega) _ (Utf8Tabs_below hT hb1)).mono ?_
          rintro e w2 ⟨rfl, hb2⟩
          rw [HR.out]
          have hB2 := bt hb1 hb2
          go_wp2_with fail
          refine (keyshow_any b (by omega) _ (Utf8Tabs_below hT hB2)).mono ?_
          rintro e w3 ⟨rfl, hb3⟩
          rw [HV.out]
          have hB3 := bt hB2 hb3
          have hqq : (q == q) = true := by simp
          go_wp2_with fail
          refine (awake04 _ (Utf8Tabs_below hT hB3)).mono ?_
          rintro e w4 ⟨rfl, hb4⟩
          go_wp2
          go_ret
          exact ⟨rfl, bt hB3 hb4⟩
end Go.Proofs.YtclddkdchlcpeaaDoor
