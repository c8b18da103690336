/- The walks of the laws of layer 1 but PackNumbers: each answers true. -/
import Derived.Test.YtolobpeckhkmpaaTextW
import Derived.Outline
namespace Go.Proofs.Ytolobpeckhkmpaa
open Go.RowKit
attribute [local go_sem] ByteArray.mk_append_mk ByteArray.extract_mk
theorem put300 : putL 300 = [172, 2] := by decide +kernel
theorem take300 : takeL [172, 2, 120] = (300, [120], 0) := by decide +kernel
set_option maxHeartbeats 400000 in
set_option maxRecDepth 100000 in
theorem awake01 (w : World) : Calls Try.prog 13 #[] w fun e w' => e = .returned (.bool true) ∧ Below w.heap.size w w' := by
  go_enter Try.func13, Try.ntmps13
  go_wp2_with fail
  refine (put_any 300 (by omega) w).mono ?_
  rintro e w1 ⟨rfl, hb1⟩
  rw [put300]
  go_wp2_with fail
  refine (take_any [172, 2, 120] (by simp) w1).mono ?_
  rintro e w2 ⟨rfl, hb2⟩
  rw [take300]
  go_wp2
  go_ret
  exact ⟨rfl, hb1.trans (hb2.mono hb1.size)⟩
theorem wf_bounds {n : Int} (h : (Lit.int .i64 n).wf = true) : -9223372036854775808 ≤ n ∧ n ≤ 9223372036854775807 := bounds_i64 h
set_option maxHeartbeats 400000 in
set_option maxRecDepth 100000 in
theorem packPuts_walk (n : Int) (hn : (Lit.int .i64 n).wf = true) (w : World) :
    Calls Try.prog 3 #[.int .i64 n] w fun e w' => e = .returned (.bool true) ∧ Below w.heap.size w w' := by
  have hb := wf_bounds hn
  clear hn
  by_cases h0 : n < 0
  · go_enter Try.func3, Try.ntmps3
    go_wp2_with fail
    refine (put_neg n h0 w).mono ?_
    rintro e w1 ⟨rfl, rfl⟩
    go_wp2_with fail
    refine (refput_neg n h0 w).mono ?_
    rintro e w1 ⟨rfl, rfl⟩
    go_wp2_with fail
    refine (awake01 w).mono ?_
    rintro e w1 ⟨rfl, hb1⟩
    go_wp2
    go_ret
    exact ⟨rfl, hb1⟩
  · obtain ⟨m, rfl⟩ := Int.eq_ofNat_of_zero_le (show 0 ≤ n by omega)
    have hm : m ≤ 9223372036854775807 := by omega
    clear hb h0
    generalize hP : putL m = p
    have HP := Lib.hid hP
    clear hP
    go_enter Try.func3, Try.ntmps3
    go_wp2_with fail
    refine (put_any m hm w).mono ?_
    rintro e w1 ⟨rfl, hb1⟩
    rw [HP.out]
    go_wp2_with fail
    refine (refput_any m hm w1).mono ?_
    rintro e w2 ⟨rfl, hb2⟩
    rw [HP.out]
    go_wp2_with fail
    refine (awake01 w2).mono ?_
    rintro e w3 ⟨rfl, hb3⟩
    go_wp2
    go_ret
    exact ⟨rfl, (hb1.trans (hb2.mono hb1.size)).trans (hb3.mono (Nat.le_trans hb1.size hb2.size))⟩
set_option maxHeartbeats 400000 in
set_option maxRecDepth 100000 in
theorem packTakes_walk (l : List UInt8) (hl : l.length ≤ 140737488351232) (w : World) :
    Calls Try.prog 4 #[.string ⟨l.toArray⟩] w fun e w' => e = .returned (.bool true) ∧ Below w.heap.size w w' := by
  obtain ⟨n, r, e, ht⟩ : ∃ n r e, takeL l = (n, r, e) := ⟨_, _, _, rfl⟩
  have HT := Lib.hid ht
  clear ht
  go_enter Try.func4, Try.ntmps4
  go_wp2_with fail
  refine (take_any l (by omega) w).mono ?_
  rintro e w1 ⟨rfl, hb1⟩
  rw [HT.out]
  go_wp2_with fail
  refine (reftake_any l (by omega) w1).mono ?_
  rintro e w2 ⟨rfl, hb2⟩
  rw [HT.out]
  go_wp2_with fail
  refine (awake01 w2).mono ?_
  rintro e w3 ⟨rfl, hb3⟩
  go_wp2
  go_ret
  exact ⟨rfl, (hb1.trans (hb2.mono hb1.size)).trans (hb3.mono (Nat.le_trans hb1.size hb2.size))⟩
theorem apart_law (a b : Nat) (ha : a < 2 ^ 63) (hb : b < 2 ^ 63) : (decide ((putL a).length ≤ (putL b).length) && ((putL b).take (putL a).length == putL a)) = (a == b) := by
  by_cases h : a = b
  · subst h; simp
  · have h2 : (a == b) = false := beq_eq_false_iff_ne.2 h
    rw [h2]
    have hne : (putL b).take (putL a).length ≠ putL a := by
      intro he
      have h3 := put_inj a b ha hb ((putL b).drop (putL a).length) [] (by
        rw [List.append_nil]
        have := List.take_append_drop (putL a).length (putL b)
        rw [he] at this
        exact this)
      exact h h3.1
    rw [beq_eq_false_iff_ne.2 hne, Bool.and_false]
theorem natB (a b : Nat) : ((a : Int) == (b : Int)) = (a == b) := by
  by_cases h : a = b
  · subst h; simp
  · have h2 : ¬ ((a : Int) = b) := by omega
    rw [beq_eq_false_iff_ne.2 h, beq_eq_false_iff_ne.2 h2]
set_option maxHeartbeats 800000 in
set_option maxRecDepth 100000 in
theorem packApart_walk (a : Int) (ha : (Lit.int .i64 a).wf = true) (b : Int) (hb : (Lit.int .i64 b).wf = true) (w : World) :
    Calls Try.prog 5 #[.int .i64 a, .int .i64 b] w fun e w' => e = .returned (.bool true) ∧ Below w.heap.size w w' := by
  have hab := (wf_bounds ha).2
  have hbb := (wf_bounds hb).2
  clear ha hb
  by_cases h0 : a < 0 ∨ b < 0
  · obtain ⟨p, hp⟩ : ∃ p, putI a = p := ⟨_, rfl⟩
    obtain ⟨q, hq⟩ : ∃ q, putI b = q := ⟨_, rfl⟩
    obtain ⟨ps, pe⟩ := p
    obtain ⟨qs, qe⟩ := q
    have hbad : ((pe : Int) != 0) = true ∨ (((pe : Int) != 0) = false ∧ ((qe : Int) != 0) = true) := by
      by_cases h1 : a < 0
      · left; rw [putI_neg a h1] at hp; simp at hp; rw [← hp.2]; decide
      · right
        have h2 : b < 0 := by omega
        rw [putI_neg b h2] at hq
        unfold putI at hp
        rw [if_neg h1] at hp
        simp at hp hq
        rw [← hp.2, ← hq.2]; decide
    have HP := Lib.hid hp
    have HQ := Lib.hid hq
    clear hp hq h0
    rcases hbad with h1 | ⟨h1, h2⟩
    all_goals
      go_enter Try.func5, Try.ntmps5
      go_wp2_with fail
      refine (put_int a hab w).mono ?_
      rintro e w1 ⟨rfl, hb1⟩
      rw [HP.out]
      go_wp2_with fail
      refine (put_int b hbb w1).mono ?_
      rintro e w2 ⟨rfl, hb2⟩
      rw [HQ.out]
      go_wp2_with fail
      refine (awake01 w2).mono ?_
      rintro e w3 ⟨rfl, hb3⟩
      go_wp2
      go_ret
      exact ⟨rfl, bt (bt hb1 hb2) hb3⟩
  · obtain ⟨m, rfl⟩ := Int.eq_ofNat_of_zero_le (show 0 ≤ a by omega)
    obtain ⟨n, rfl⟩ := Int.eq_ofNat_of_zero_le (show 0 ≤ b by omega)
    have hm : m ≤ 9223372036854775807 := by omega
    have hn : n ≤ 9223372036854775807 := by omega
    have hlaw := apart_law m n (by omega) (by omega)
    have hl1 := putL_len m
    have hl2 := putL_len n
    rw [← natB] at hlaw
    generalize hP : putL m = p at *
    generalize hQ : putL n = q at *
    have HP := Lib.hid hP
    have HQ := Lib.hid hQ
    clear hP hQ h0 hab hbb
    by_cases hle : p.length ≤ q.length
    · rw [decide_eq_true hle, Bool.true_and] at hlaw
      have HL := Lib.hid hlaw
      clear hlaw
      have s2 := fun w => run_to (P := Try.prog) w Try.underlying9 q (p.length : Int) p.length rfl hle
      have hle' : (p.length : Int) ≤ q.length := by omega
      go_enter Try.func5, Try.ntmps5
      go_wp2_with fail
      refine (put_any m hm w).mono ?_
      rintro e w1 ⟨rfl, hb1⟩
      rw [HP.out]
      go_wp2_with fail
      refine (put_any n hn w1).mono ?_
      rintro e w2 ⟨rfl, hb2⟩
      rw [HQ.out]
      have hlaw := HL.out
      go_wp2_with fail
      refine (awake01 w2).mono ?_
      rintro e w3 ⟨rfl, hb3⟩
      go_wp2
      go_ret
      exact ⟨rfl, bt (bt hb1 hb2) hb3⟩
    · have hd : decide (p.length ≤ q.length) = false := decide_eq_false hle
      rw [hd, Bool.false_and] at hlaw
      have HL := Lib.hid hlaw.symm
      clear hlaw
      have hle' : (q.length : Int) < (p.length : Int) := by omega
      have hdd : decide ((p.length : Int) ≤ (q.length : Int)) = false := decide_eq_false (by omega)
      clear hd hle hl1 hl2
      go_enter Try.func5, Try.ntmps5
      go_wp2_with fail
      refine (put_any m hm w).mono ?_
      rintro e w1 ⟨rfl, hb1⟩
      rw [HP.out]
      go_wp2_with fail
      refine (put_any n hn w1).mono ?_
      rintro e w2 ⟨rfl, hb2⟩
      rw [HQ.out]
      have hlaw := HL.out
      go_wp2_with fail
      refine (awake01 w2).mono ?_
      rintro e w3 ⟨rfl, hb3⟩
      go_wp2
      go_ret
      exact ⟨rfl, bt (bt hb1 hb2) hb3⟩
set_option maxHeartbeats 800000 in
set_option maxRecDepth 100000 in
theorem packOnce_walk (l : List UInt8) (hl : l.length ≤ 140737488351232) (w : World) :
    Calls Try.prog 6 #[.string ⟨l.toArray⟩] w fun e w' => e = .returned (.bool true) ∧ Below w.heap.size w w' := by
  obtain ⟨n, r, x, ht⟩ : ∃ n r e, takeL l = (n, r, e) := ⟨_, _, _, rfl⟩
  by_cases hx : x = 0
  · subst hx
    have hok := take_ok l n r ht
    have hn : n ≤ 9223372036854775807 := by omega
    have hlen := take_rest_len l
    rw [ht] at hlen
    simp only at hlen
    have hlp := putL_len n
    have heq := hok.2.1.symm
    have HT := Lib.hid ht
    generalize hP : putL n = p at *
    have HP := Lib.hid hP
    have heq2 : (p ++ r == l) = true := by simp [heq]
    clear ht hok heq hP
    go_enter Try.func6, Try.ntmps6
    go_wp2_with fail
    refine (take_any l (by omega) w).mono ?_
    rintro e w1 ⟨rfl, hb1⟩
    rw [HT.out]
    go_wp2_with fail
    refine (put_any n hn w1).mono ?_
    rintro e w2 ⟨rfl, hb2⟩
    rw [HP.out]
    go_wp2_with fail
    refine (awake01 w2).mono ?_
    rintro e w3 ⟨rfl, hb3⟩
    go_wp2
    go_ret
    exact ⟨rfl, bt (bt hb1 hb2) hb3⟩
  · have her := take_err l (by rw [ht]; exact hx)
    rw [ht] at her
    simp only at her
    obtain ⟨rfl, rfl, _⟩ := her
    have HT := Lib.hid ht
    have hne : ((x : Int) != 0) = true := by simp; omega
    clear ht hx
    go_enter Try.func6, Try.ntmps6
    go_wp2_with fail
    refine (take_any l (by omega) w).mono ?_
    rintro e w1 ⟨rfl, hb1⟩
    rw [HT.out]
    go_wp2_with fail
    refine (awake01 w1).mono ?_
    rintro e w2 ⟨rfl, hb2⟩
    go_wp2
    go_ret
    exact ⟨rfl, bt hb1 hb2⟩
set_option maxHeartbeats 800000 in
set_option maxRecDepth 100000 in
theorem packShort_walk (n : Int) (hn : (Lit.int .i64 n).wf = true) (k : Int) (hk : (Lit.int .i64 k).wf = true) (w : World) :
    Calls Try.prog 7 #[.int .i64 n, .int .i64 k] w fun e w' => e = .returned (.bool true) ∧ Below w.heap.size w w' := by
  have hnb := (wf_bounds hn).2
  have hkb := wf_bounds hk
  clear hn hk
  by_cases h0 : n < 0
  · go_enter Try.func7, Try.ntmps7
    go_wp2_with fail
    refine (put_neg n h0 w).mono ?_
    rintro e w1 ⟨rfl, rfl⟩
    go_wp2_with fail
    refine (awake01 w).mono ?_
    rintro e w2 ⟨rfl, hb2⟩
    go_wp2
    go_ret
    exact ⟨rfl, hb2⟩
  · obtain ⟨m, rfl⟩ := Int.eq_ofNat_of_zero_le (show 0 ≤ n by omega)
    have hm : m ≤ 9223372036854775807 := by omega
    have hl := putL_len m
    have hsh := fun j hj => put_short m j (by omega) hj
    generalize hP : putL m = p at *
    have HP := Lib.hid hP
    clear hP h0 hnb
    by_cases hkn : k < 0
    · clear hsh
      go_enter Try.func7, Try.ntmps7
      go_wp2_with fail
      refine (put_any m hm w).mono ?_
      rintro e w1 ⟨rfl, hb1⟩
      rw [HP.out]
      go_wp2_with fail
      refine (awake01 w1).mono ?_
      rintro e w2 ⟨rfl, hb2⟩
      go_wp2
      go_ret
      exact ⟨rfl, bt hb1 hb2⟩
    · obtain ⟨j, rfl⟩ := Int.eq_ofNat_of_zero_le (show 0 ≤ k by omega)
      by_cases hj : p.length ≤ j
      · clear hsh
        have hj : (p.length : Int) ≤ j := by omega
        go_enter Try.func7, Try.ntmps7
        go_wp2_with fail
        refine (put_any m hm w).mono ?_
        rintro e w1 ⟨rfl, hb1⟩
        rw [HP.out]
        go_wp2_with fail
        refine (awake01 w1).mono ?_
        rintro e w2 ⟨rfl, hb2⟩
        go_wp2
        go_ret
        exact ⟨rfl, bt hb1 hb2⟩
      · have hs := hsh j (by omega)
        have s2 := fun w => run_to (P := Try.prog) w Try.underlying9 p (j : Int) j rfl (by omega)
        have htl : (p.take j).length ≤ 9 := by simp; omega
        generalize p.take j = q at *
        have HS := Lib.hid hs
        have hj : ¬ ((p.length : Int) ≤ j) := by omega
        clear hs hsh
        go_enter Try.func7, Try.ntmps7
        go_wp2_with fail
        refine (put_any m hm w).mono ?_
        rintro e w1 ⟨rfl, hb1⟩
        rw [HP.out]
        go_wp2_with fail
        refine (take_any q (by omega) w1).mono ?_
        rintro e w2 ⟨rfl, hb2⟩
        rw [HS.out]
        go_wp2_with fail
        refine (awake01 w2).mono ?_
        rintro e w3 ⟨rfl, hb3⟩
        go_wp2
        go_ret
        exact ⟨rfl, bt (bt hb1 hb2) hb3⟩
end Go.Proofs.Ytolobpeckhkmpaa
