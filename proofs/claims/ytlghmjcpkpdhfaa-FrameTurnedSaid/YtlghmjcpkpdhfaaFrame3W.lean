/- The walks of FrameApart and FrameLong: each answers true. -/
import Derived.Test.YtlghmjcpkpdhfaaFrame2W
import Derived.Test.YtlghmjcpkpdhfaaMake
namespace Go.Proofs.Ytlghmjcpkpdhfaa
open Go.RowKit
attribute [local go_sem] ByteArray.mk_append_mk ByteArray.extract_mk
set_option maxHeartbeats 800000 in
set_option maxRecDepth 100000 in
theorem frameApart_walk (l : List UInt8) (hl : l.length ≤ 140737488351232) (m : List UInt8) (hm : m.length ≤ 140737488351232) (w : World) :
    Calls Try.prog 7 #[.string ⟨l.toArray⟩, .string ⟨m.toArray⟩] w fun e w' => e = .returned (.bool true) ∧ Below w.heap.size w w' := by
  by_cases h : 4096 < l.length
  · have h' : (4096 : Int) < l.length := by omega
    go_enter Try.func7, Try.ntmps7
    go_wp2_with fail
    refine (awake03 w).mono ?_
    rintro e w1 ⟨rfl, hb1⟩
    go_wp2
    go_ret
    exact ⟨rfl, hb1⟩
  · by_cases h2 : 4096 < m.length
    · have h' : ¬ ((4096 : Int) < l.length) := by omega
      have h2' : (4096 : Int) < m.length := by omega
      go_enter Try.func7, Try.ntmps7
      go_wp2_with fail
      refine (awake03 w).mono ?_
      rintro e w1 ⟨rfl, hb1⟩
      go_wp2
      go_ret
      exact ⟨rfl, hb1⟩
    · have h' : ¬ ((4096 : Int) < l.length) := by omega
      have h2' : ¬ ((4096 : Int) < m.length) := by omega
      have hlaw := wrap_begins l m (by omega) (by omega)
      have hl1 := wrapL_len l
      have hl2 := wrapL_len m
      have hp1 := putL_len l.length
      have hp2 := putL_len m.length
      generalize hW : wrapL l = p at *
      generalize hV : wrapL m = q at *
      have HP := Lib.hid hW
      have HQ := Lib.hid hV
      have hpl : p.length ≤ 5000 := by omega
      have hql : q.length ≤ 5000 := by omega
      clear hW hV hl1 hl2 hp1 hp2
      by_cases hle : p.length ≤ q.length
      · rw [decide_eq_true hle, Bool.true_and] at hlaw
        have HL := Lib.hid hlaw
        clear hlaw
        have s2 := fun w => run_to (P := Try.prog) w Try.underlying9 q (p.length : Int) p.length rfl hle
        have hle' : (p.length : Int) ≤ q.length := by omega
        go_enter Try.func7, Try.ntmps7
        go_wp2_with fail
        refine (wrap_any l (by omega) w).mono ?_
        rintro e w1 ⟨rfl, hb1⟩
        rw [HP.out]
        go_wp2_with fail
        refine (wrap_any m (by omega) w1).mono ?_
        rintro e w2 ⟨rfl, hb2⟩
        rw [HQ.out]
        have hlaw := HL.out
        go_wp2_with fail
        refine (awake03 w2).mono ?_
        rintro e w3 ⟨rfl, hb3⟩
        go_wp2
        go_ret
        exact ⟨rfl, bt (bt hb1 hb2) hb3⟩
      · have hd : decide (p.length ≤ q.length) = false := decide_eq_false hle
        rw [hd, Bool.false_and] at hlaw
        have HL := Lib.hid hlaw.symm
        have hle' : (q.length : Int) < (p.length : Int) := by omega
        have hdd : decide ((p.length : Int) ≤ (q.length : Int)) = false := decide_eq_false (by omega)
        clear hlaw hd hle
        go_enter Try.func7, Try.ntmps7
        go_wp2_with fail
        refine (wrap_any l (by omega) w).mono ?_
        rintro e w1 ⟨rfl, hb1⟩
        rw [HP.out]
        go_wp2_with fail
        refine (wrap_any m (by omega) w1).mono ?_
        rintro e w2 ⟨rfl, hb2⟩
        rw [HQ.out]
        have hlaw := HL.out
        go_wp2_with fail
        refine (awake03 w2).mono ?_
        rintro e w3 ⟨rfl, hb3⟩
        go_wp2
        go_ret
        exact ⟨rfl, bt (bt hb1 hb2) hb3⟩
theorem put3 (n : Nat) (h1 : 16384 ≤ n) (h2 : n < 2097152) : (putL n).length = 3 := by
  unfold putL
  rw [putF, if_neg (by omega), putF, if_neg (by omega), putF, if_pos (by omega)]
  rfl
set_option maxHeartbeats 800000 in
set_option maxRecDepth 100000 in
theorem frameLong_walk (x : Int) (hx : (Lit.int .i8 x).wf = true) (w : World) :
    Calls Try.prog 4 #[.int .i8 x] w fun e w' => e = .returned (.bool true) ∧ Below w.heap.size w w' := by
  have hb := bounds_i8 hx
  obtain ⟨hb1, hb2⟩ := hb
  clear hx
  obtain ⟨n, hn⟩ := Int.eq_ofNat_of_zero_le (show 0 ≤ 1048576 + x by omega)
  obtain ⟨i0, hi, hz0, hz1, hz2⟩ := info_parts infoU8
  have hmk := fun w => run_make_u8 (P := Try.prog) Try.underlying29 hi hz0 hz1 hz2 n (1048576 + x) hn (by omega) w
  have hcv := fun w => run_conv_zb (P := Try.prog) Try.underlying29 Try.underlying5 Try.underlying9 n w
  have hzl := zs_len n
  by_cases h0 : 0 < x
  · have hlong : 1048576 < (zs n).length := by omega
    have hl2 : (zs n).length ≤ 281474976710656 := by omega
    generalize zs n = z at *
    have HN := Lib.hid hn
    clear hn hzl
    go_enter Try.func4, Try.ntmps4
    go_wp2_with fail
    refine (wrap_long z hlong hl2 _).mono ?_
    rintro e w' ⟨rfl, rfl⟩
    go_wp2_with fail
    refine (awake03 _).mono ?_
    rintro e w3 ⟨rfl, hb3⟩
    go_wp2
    go_ret
    exact ⟨rfl, bt (bal (b0 w) _) hb3⟩
  · have hok : (zs n).length ≤ 1048576 := by omega
    have hwl := wrapL_len (zs n)
    rw [hzl, put3 n (by omega) (by omega)] at hwl
    have hfin : ((wrapL (zs n)).length : Int) = 1048576 + x + 7 := by omega
    generalize zs n = z at *
    generalize hW : wrapL z = W at *
    have HW := Lib.hid hW
    have HF := Lib.hid hfin
    have HN := Lib.hid hn
    clear hn hzl hW hwl hfin
    go_enter Try.func4, Try.ntmps4
    go_wp2_with fail
    refine (wrap_any z hok _).mono ?_
    rintro e w1 ⟨rfl, hb1⟩
    rw [HW.out]
    have hf := HF.out
    go_wp2_with fail
    refine (awake03 _).mono ?_
    rintro e w3 ⟨rfl, hb3⟩
    go_wp2
    go_ret
    exact ⟨rfl, bt (bt (bal (b0 w) _) hb1) hb3⟩
end Go.Proofs.Ytlghmjcpkpdhfaa
