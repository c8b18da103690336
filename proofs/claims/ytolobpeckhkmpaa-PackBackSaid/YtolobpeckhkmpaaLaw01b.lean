/- The walks of PackTexts and PackBack: each answers true. -/
import Derived.Test.YtolobpeckhkmpaaLaw01
namespace Go.Proofs.Ytolobpeckhkmpaa
open Go.RowKit
attribute [local go_sem] ByteArray.mk_append_mk ByteArray.extract_mk
set_option maxHeartbeats 1600000 in
set_option maxRecDepth 100000 in
theorem packTexts_walk (l : List UInt8) (hl : l.length ≤ 140737488351232) (on : Bool) (w : World) :
    Calls Try.prog 9 #[.string ⟨l.toArray⟩, .bool on] w fun e w' => e = .returned (.bool true) ∧ Below w.heap.size w w' := by
  obtain ⟨a, b, x, ht⟩ : ∃ n r e, takeTextL l = (n, r, e) := ⟨_, _, _, rfl⟩
  obtain ⟨c, d, y, hf⟩ : ∃ n r e, takeFlagL l = (n, r, e) := ⟨_, _, _, rfl⟩
  obtain ⟨tl, htl⟩ : ∃ t, textL l = t := ⟨_, rfl⟩
  obtain ⟨fl, hfl⟩ : ∃ t, flagL on = t := ⟨_, rfl⟩
  have HT := Lib.hid ht
  have HF := Lib.hid hf
  have HTL := Lib.hid htl
  have HFL := Lib.hid hfl
  clear ht hf htl hfl
  go_enter Try.func9, Try.ntmps9
  go_wp2_with fail
  refine (taketext_any l (by omega) w).mono ?_
  rintro e w1 ⟨rfl, hb1⟩
  rw [HT.out]
  go_wp2_with fail
  refine (reftaketext_any l (by omega) w1).mono ?_
  rintro e w2 ⟨rfl, hb2⟩
  rw [HT.out]
  go_wp2_with fail
  refine (takeflag_any l (by omega) w2).mono ?_
  rintro e w3 ⟨rfl, hb3⟩
  rw [HF.out]
  go_wp2_with fail
  refine (reftakeflag_any l (by omega) w3).mono ?_
  rintro e w4 ⟨rfl, hb4⟩
  rw [HF.out]
  go_wp2_with fail
  refine (text_any l (by omega) w4).mono ?_
  rintro e w5 ⟨rfl, hb5⟩
  rw [HTL.out]
  go_wp2_with fail
  refine (reftext_any l (by omega) w5).mono ?_
  rintro e w6 ⟨rfl, hb6⟩
  rw [HTL.out]
  go_wp2_with fail
  refine (flag_any on w6).mono ?_
  rintro e w7 ⟨rfl, hb7⟩
  rw [HFL.out]
  go_wp2_with fail
  refine (refflag_any on w7).mono ?_
  rintro e w8 ⟨rfl, hb8⟩
  rw [HFL.out]
  go_wp2_with fail
  refine (awake01 w8).mono ?_
  rintro e w9 ⟨rfl, hb9⟩
  go_wp2
  go_ret
  exact ⟨rfl, bt (bt (bt (bt (bt (bt (bt (bt hb1 hb2) hb3) hb4) hb5) hb6) hb7) hb8) hb9⟩
set_option maxHeartbeats 1600000 in
set_option maxRecDepth 100000 in
theorem packBack_walk (n : Int) (hn : (Lit.int .i64 n).wf = true) (l : List UInt8) (hl : l.length ≤ 140737488351232) (on : Bool) (more : List UInt8) (hm : more.length ≤ 140737488351232) (w : World) :
    Calls Try.prog 10 #[.int .i64 n, .string ⟨l.toArray⟩, .bool on, .string ⟨more.toArray⟩] w fun e w' => e = .returned (.bool true) ∧ Below w.heap.size w w' := by
  have hnb := (wf_bounds hn).2
  clear hn
  have htb := takeText_text l more (by omega)
  have hfb := takeFlag_flag on more
  have htlen : (textL l).length ≤ l.length + 9 := by unfold textL; have := putL_len l.length; simp; omega
  have hflen : (flagL on).length ≤ 1 := by cases on <;> simp [flagL]
  generalize htl : textL l = tl at *
  generalize hfl : flagL on = fl at *
  have HT := Lib.hid htb
  have HF := Lib.hid hfb
  have HTL := Lib.hid htl
  have HFL := Lib.hid hfl
  clear htb hfb htl hfl
  by_cases h0 : n < 0
  · go_enter Try.func10, Try.ntmps10
    go_wp2_with fail
    refine (put_neg n h0 w).mono ?_
    rintro e w1 ⟨rfl, rfl⟩
    go_wp2_with fail
    refine (text_any l (by omega) w).mono ?_
    rintro e w2 ⟨rfl, hb2⟩
    rw [HTL.out]
    go_wp2_with fail
    refine (taketext_any (tl ++ more) (by simp; omega) w2).mono ?_
    rintro e w3 ⟨rfl, hb3⟩
    rw [HT.out]
    go_wp2_with fail
    refine (flag_any on w3).mono ?_
    rintro e w4 ⟨rfl, hb4⟩
    rw [HFL.out]
    go_wp2_with fail
    refine (takeflag_any (fl ++ more) (by simp; omega) w4).mono ?_
    rintro e w5 ⟨rfl, hb5⟩
    rw [HF.out]
    go_wp2_with fail
    refine (awake01 w5).mono ?_
    rintro e w6 ⟨rfl, hb6⟩
    go_wp2
    go_ret
    exact ⟨rfl, bt (bt (bt (bt hb2 hb3) hb4) hb5) hb6⟩
  · obtain ⟨m, rfl⟩ := Int.eq_ofNat_of_zero_le (show 0 ≤ n by omega)
    have hm63 : m ≤ 9223372036854775807 := by omega
    have hpl := putL_len m
    have htk := take_put m more (by omega)
    generalize hP : putL m = p at *
    have HP := Lib.hid hP
    have HK := Lib.hid htk
    clear hP htk h0 hnb
    go_enter Try.func10, Try.ntmps10
    go_wp2_with fail
    refine (put_any m hm63 w).mono ?_
    rintro e w0 ⟨rfl, hb0⟩
    rw [HP.out]
    go_wp2_with fail
    refine (take_any (p ++ more) (by simp; omega) w0).mono ?_
    rintro e w1 ⟨rfl, hb1⟩
    rw [HK.out]
    go_wp2_with fail
    refine (text_any l (by omega) w1).mono ?_
    rintro e w2 ⟨rfl, hb2⟩
    rw [HTL.out]
    go_wp2_with fail
    refine (taketext_any (tl ++ more) (by simp; omega) w2).mono ?_
    rintro e w3 ⟨rfl, hb3⟩
    rw [HT.out]
    go_wp2_with fail
    refine (flag_any on w3).mono ?_
    rintro e w4 ⟨rfl, hb4⟩
    rw [HFL.out]
    go_wp2_with fail
    refine (takeflag_any (fl ++ more) (by simp; omega) w4).mono ?_
    rintro e w5 ⟨rfl, hb5⟩
    rw [HF.out]
    go_wp2_with fail
    refine (awake01 w5).mono ?_
    rintro e w6 ⟨rfl, hb6⟩
    go_wp2
    go_ret
    exact ⟨rfl, bt (bt (bt (bt (bt (bt hb0 hb1) hb2) hb3) hb4) hb5) hb6⟩
end Go.Proofs.Ytolobpeckhkmpaa
