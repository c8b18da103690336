/- The walks through flags and texts, the program's and the document's. -/
import Derived.Test.YtolobpeckhkmpaaRef1W
import Derived.Outline
namespace Go.Proofs.Ytolobpeckhkmpaa
open Go.RowKit
attribute [local go_sem] ByteArray.mk_append_mk
theorem take_rest_len (l : List UInt8) : (takeL l).2.1.length ≤ l.length := by
  unfold takeL
  split
  · simp
  split
  · simp
  split
  · simp
  · simp

set_option maxHeartbeats 400000 in
set_option maxRecDepth 100000 in
theorem flag_any (on : Bool) (w : World) : Calls Try.prog 23 #[.bool on] w fun e w' => e = .returned (.string ⟨(flagL on).toArray⟩) ∧ Below w.heap.size w w' := by
  have kc := fun (w : World) (cap : Nat) (a : Int) => run_conv1 (P := Try.prog) w Try.underlying50 Try.underlying5 Try.underlying9 cap a
  cases on
  all_goals
    go_enter Try.func23, Try.ntmps23
    go_wp2
    go_ret
    first | exact ⟨rfl, Below.refl _ _⟩ | exact ⟨rfl, (Below.refl _ _).alloc (Nat.le_refl _) _⟩
set_option maxHeartbeats 400000 in
set_option maxRecDepth 100000 in
theorem takeflag_any (l : List UInt8) (hl : l.length ≤ 281474976710656) (w : World) :
    Calls Try.prog 19 #[.string ⟨l.toArray⟩] w fun e w' => e = .returned (.tuple #[.bool (takeFlagL l).1, .string ⟨(takeFlagL l).2.1.toArray⟩, .int .i64 (takeFlagL l).2.2]) ∧ Below w.heap.size w w' := by
  cases l with
  | nil =>
    go_enter Try.func19, Try.ntmps19
    go_wp2
    go_ret3
    exact ⟨rfl, Below.refl _ _⟩
  | cons b r =>
    obtain ⟨c, hc⟩ : ∃ c, b.toNat = c := ⟨_, rfl⟩
    have hix : ∀ w, (Instr.index 9 (.string ⟨(b :: r).toArray⟩) (.int .i64 0)).run Try.prog w = .ok (.int .u8 (c : Int)) w := fun w => run_at (P := Try.prog) w Try.underlying9 (b :: r) 0 0 c rfl (by simp) (by simpa using hc)
    have s1 : ∀ w, (Instr.slice 9 (.string ⟨(b :: r).toArray⟩) (some (.int .i64 1)) none none).run Try.prog w = .ok (.string ⟨r.toArray⟩) w := fun w => run_from (P := Try.prog) w Try.underlying9 (b :: r) 1 1 rfl (by simp)
    obtain ⟨z, hz⟩ : ∃ z, z = b :: r := ⟨_, rfl⟩
    have hne : z.isEmpty = false := by rw [hz]; rfl
    have hne2 : (z == []) = false := by rw [hz]; rfl
    have hne3 : ((z.length : Int) == 0) = false := by rw [hz]; simp; omega
    rw [← hz] at hix s1 hl ⊢
    have HZ := Lib.hid hz
    have HC := Lib.hid hc
    clear hz hc
    by_cases h1 : 1 < c
    · have hr : takeFlagL z = (false, [], 3) := by rw [HZ.out, takeFlagL, if_pos (by rw [HC.out]; exact h1)]
      have HR := Lib.hid hr
      clear hr
      go_enter Try.func19, Try.ntmps19
      go_wp2
      go_ret3
      exact ⟨by rw [HR.out]; rfl, Below.refl _ _⟩
    · have hr : takeFlagL z = (((c : Int) == 1), r, 0) := by
        rw [HZ.out, takeFlagL, if_neg (by rw [HC.out]; exact h1), HC.out]
        have : (c == 1) = ((c : Int) == 1) := by
          by_cases h : c = 1
          · subst h; rfl
          · have h2 : ¬ ((c : Int) = 1) := by omega
            rw [beq_eq_false_iff_ne.2 h, beq_eq_false_iff_ne.2 h2]
        rw [this]
      have HR := Lib.hid hr
      clear hr
      go_enter Try.func19, Try.ntmps19
      go_wp2
      go_quiet (fail)
      go_wp2
      go_ret3
      exact ⟨by rw [HR.out]; rfl, below_drewN (Below.refl _ _) _⟩
set_option maxHeartbeats 400000 in
set_option maxRecDepth 100000 in
theorem text_any (l : List UInt8) (hl : l.length ≤ 281474976710656) (w : World) : Calls Try.prog 21 #[.string ⟨l.toArray⟩] w fun e w' => e = .returned (.string ⟨(textL l).toArray⟩) ∧ Below w.heap.size w w' := by
  have hp := putL_len l.length
  have hx : textL l = putL l.length ++ l := rfl
  have HX := Lib.hid hx
  clear hx
  go_enter Try.func21, Try.ntmps21
  go_wp2_with fail
  refine (put_any l.length (by omega) w).mono ?_
  rintro e w1 ⟨rfl, hb1⟩
  go_wp2
  go_ret
  exact ⟨by rw [HX.out]; rfl, hb1⟩
set_option maxHeartbeats 400000 in
set_option maxRecDepth 100000 in
theorem taketext_any (l : List UInt8) (hl : l.length ≤ 281474976710656) (w : World) :
    Calls Try.prog 17 #[.string ⟨l.toArray⟩] w fun e w' => e = .returned (.tuple #[.string ⟨(takeTextL l).1.toArray⟩, .string ⟨(takeTextL l).2.1.toArray⟩, .int .i64 (takeTextL l).2.2]) ∧ Below w.heap.size w w' := by
  obtain ⟨n, r, e, ht⟩ : ∃ n r e, takeL l = (n, r, e) := ⟨_, _, _, rfl⟩
  have HT := Lib.hid ht
  have hr := take_rest_len l
  rw [ht] at hr
  simp only at hr
  by_cases he : e = 0
  · subst he
    have hnn := (take_ok l n r ht).1
    by_cases hn : r.length < n
    · have hq : takeTextL l = ([], [], 2) := by unfold takeTextL; rw [ht]; simp [hn]
      have HQ := Lib.hid hq
      clear hq ht hnn
      go_enter Try.func17, Try.ntmps17
      go_wp2_with fail
      refine (take_any l hl w).mono ?_
      rintro e w1 ⟨rfl, hb1⟩
      rw [HT.out]
      go_wp2
      go_ret3
      exact ⟨by rw [HQ.out]; rfl, hb1⟩
    · have hq : takeTextL l = (r.take n, r.drop n, 0) := by unfold takeTextL; rw [ht]; simp [hn]
      have HQ := Lib.hid hq
      have s1 := fun w => run_from (P := Try.prog) w Try.underlying9 r (n : Int) n rfl (by omega)
      have s2 := fun w => run_to (P := Try.prog) w Try.underlying9 r (n : Int) n rfl (by omega)
      clear hq ht hnn
      go_enter Try.func17, Try.ntmps17
      go_wp2_with fail
      refine (take_any l hl w).mono ?_
      rintro e w1 ⟨rfl, hb1⟩
      rw [HT.out]
      go_wp2
      go_quiet (fail)
      go_wp2
      go_ret3
      exact ⟨by rw [HQ.out]; rfl, below_drewN hb1 _⟩
  · have hq : takeTextL l = ([], [], e) := by unfold takeTextL; rw [ht]; simp [he]
    have HQ := Lib.hid hq
    have he' : (!((e : Int) == 0)) = true := by simp; omega
    have he'' : ((e : Int) != 0) = true := he'
    clear hq ht he
    go_enter Try.func17, Try.ntmps17
    go_wp2_with fail
    refine (take_any l hl w).mono ?_
    rintro e w1 ⟨rfl, hb1⟩
    rw [HT.out]
    go_wp2
    go_ret3
    exact ⟨by rw [HQ.out]; rfl, hb1⟩
set_option maxHeartbeats 400000 in
set_option maxRecDepth 100000 in
theorem refflag_any (on : Bool) (w : World) : Calls Try.prog 24 #[.bool on] w fun e w' => e = .returned (.string ⟨(flagL on).toArray⟩) ∧ Below w.heap.size w w' := by
  have kc := fun (w : World) (cap : Nat) (a : Int) => run_conv1 (P := Try.prog) w Try.underlying50 Try.underlying5 Try.underlying9 cap a
  cases on
  all_goals
    go_enter Try.func24, Try.ntmps24
    go_wp2
    go_ret
    first | exact ⟨rfl, Below.refl _ _⟩ | exact ⟨rfl, (Below.refl _ _).alloc (Nat.le_refl _) _⟩
set_option maxHeartbeats 400000 in
set_option maxRecDepth 100000 in
theorem reftakeflag_any (l : List UInt8) (hl : l.length ≤ 281474976710656) (w : World) :
    Calls Try.prog 20 #[.string ⟨l.toArray⟩] w fun e w' => e = .returned (.tuple #[.bool (takeFlagL l).1, .string ⟨(takeFlagL l).2.1.toArray⟩, .int .i64 (takeFlagL l).2.2]) ∧ Below w.heap.size w w' := by
  cases l with
  | nil =>
    go_enter Try.func20, Try.ntmps20
    go_wp2
    go_ret3
    exact ⟨rfl, Below.refl _ _⟩
  | cons b r =>
    obtain ⟨c, hc⟩ : ∃ c, b.toNat = c := ⟨_, rfl⟩
    have hix : ∀ w, (Instr.index 9 (.string ⟨(b :: r).toArray⟩) (.int .i64 0)).run Try.prog w = .ok (.int .u8 (c : Int)) w := fun w => run_at (P := Try.prog) w Try.underlying9 (b :: r) 0 0 c rfl (by simp) (by simpa using hc)
    have s1 : ∀ w, (Instr.slice 9 (.string ⟨(b :: r).toArray⟩) (some (.int .i64 1)) none none).run Try.prog w = .ok (.string ⟨r.toArray⟩) w := fun w => run_from (P := Try.prog) w Try.underlying9 (b :: r) 1 1 rfl (by simp)
    obtain ⟨z, hz⟩ : ∃ z, z = b :: r := ⟨_, rfl⟩
    have hne : z.isEmpty = false := by rw [hz]; rfl
    have hne2 : (z == []) = false := by rw [hz]; rfl
    have hne3 : ((z.length : Int) == 0) = false := by rw [hz]; simp; omega
    rw [← hz] at hix s1 hl ⊢
    have HZ := Lib.hid hz
    have HC := Lib.hid hc
    clear hz hc
    by_cases h1 : 1 < c
    · have hr : takeFlagL z = (false, [], 3) := by rw [HZ.out, takeFlagL, if_pos (by rw [HC.out]; exact h1)]
      have HR := Lib.hid hr
      clear hr
      go_enter Try.func20, Try.ntmps20
      go_wp2
      go_ret3
      exact ⟨by rw [HR.out]; rfl, Below.refl _ _⟩
    · have hr : takeFlagL z = (((c : Int) == 1), r, 0) := by
        rw [HZ.out, takeFlagL, if_neg (by rw [HC.out]; exact h1), HC.out]
        have : (c == 1) = ((c : Int) == 1) := by
          by_cases h : c = 1
          · subst h; rfl
          · have h2 : ¬ ((c : Int) = 1) := by omega
            rw [beq_eq_false_iff_ne.2 h, beq_eq_false_iff_ne.2 h2]
        rw [this]
      have HR := Lib.hid hr
      clear hr
      go_enter Try.func20, Try.ntmps20
      go_wp2
      go_quiet (fail)
      go_wp2
      go_ret3
      exact ⟨by rw [HR.out]; rfl, below_drewN (Below.refl _ _) _⟩
set_option maxHeartbeats 400000 in
set_option maxRecDepth 100000 in
theorem reftext_any (l : List UInt8) (hl : l.length ≤ 281474976710656) (w : World) : Calls Try.prog 22 #[.string ⟨l.toArray⟩] w fun e w' => e = .returned (.string ⟨(textL l).toArray⟩) ∧ Below w.heap.size w w' := by
  have hp := putL_len l.length
  have hx : textL l = putL l.length ++ l := rfl
  have HX := Lib.hid hx
  clear hx
  go_enter Try.func22, Try.ntmps22
  go_wp2_with fail
  refine (refput_any l.length (by omega) w).mono ?_
  rintro e w1 ⟨rfl, hb1⟩
  go_wp2
  go_ret
  exact ⟨by rw [HX.out]; rfl, hb1⟩
set_option maxHeartbeats 400000 in
set_option maxRecDepth 100000 in
theorem reftaketext_any (l : List UInt8) (hl : l.length ≤ 281474976710656) (w : World) :
    Calls Try.prog 18 #[.string ⟨l.toArray⟩] w fun e w' => e = .returned (.tuple #[.string ⟨(takeTextL l).1.toArray⟩, .string ⟨(takeTextL l).2.1.toArray⟩, .int .i64 (takeTextL l).2.2]) ∧ Below w.heap.size w w' := by
  obtain ⟨n, r, e, ht⟩ : ∃ n r e, takeL l = (n, r, e) := ⟨_, _, _, rfl⟩
  have HT := Lib.hid ht
  have hr := take_rest_len l
  rw [ht] at hr
  simp only at hr
  by_cases he : e = 0
  · subst he
    have hnn := (take_ok l n r ht).1
    by_cases hn : r.length < n
    · have hq : takeTextL l = ([], [], 2) := by unfold takeTextL; rw [ht]; simp [hn]
      have HQ := Lib.hid hq
      clear hq ht hnn
      go_enter Try.func18, Try.ntmps18
      go_wp2_with fail
      refine (reftake_any l hl w).mono ?_
      rintro e w1 ⟨rfl, hb1⟩
      rw [HT.out]
      go_wp2
      go_ret3
      exact ⟨by rw [HQ.out]; rfl, hb1⟩
    · have hq : takeTextL l = (r.take n, r.drop n, 0) := by unfold takeTextL; rw [ht]; simp [hn]
      have HQ := Lib.hid hq
      have s1 := fun w => run_from (P := Try.prog) w Try.underlying9 r (n : Int) n rfl (by omega)
      have s2 := fun w => run_to (P := Try.prog) w Try.underlying9 r (n : Int) n rfl (by omega)
      clear hq ht hnn
      go_enter Try.func18, Try.ntmps18
      go_wp2_with fail
      refine (reftake_any l hl w).mono ?_
      rintro e w1 ⟨rfl, hb1⟩
      rw [HT.out]
      go_wp2
      go_quiet (fail)
      go_wp2
      go_ret3
      exact ⟨by rw [HQ.out]; rfl, below_drewN hb1 _⟩
  · have hq : takeTextL l = ([], [], e) := by unfold takeTextL; rw [ht]; simp [he]
    have HQ := Lib.hid hq
    have he' : (!((e : Int) == 0)) = true := by simp; omega
    have he'' : ((e : Int) != 0) = true := he'
    clear hq ht he
    go_enter Try.func18, Try.ntmps18
    go_wp2_with fail
    refine (reftake_any l hl w).mono ?_
    rintro e w1 ⟨rfl, hb1⟩
    rw [HT.out]
    go_wp2
    go_ret3
    exact ⟨by rw [HQ.out]; rfl, hb1⟩
end Go.Proofs.Ytolobpeckhkmpaa
