/- The walks through the document's stamps: Right, Before, Later, Sooner. -/
import Derived.Test.YtkhamjghanjikaaDoorStampW
namespace Go.Proofs.YtkhamjghanjikaaDoor
open Go.RowKit
set_option maxHeartbeats 800000 in
set_option maxRecDepth 100000 in
theorem refright_any (a t n : Int) (w : World) : Calls Tryd.prog 10 #[stampV a t n] w fun e w' => e = .returned (.bool (rightB a t n)) ∧ Below w.heap.size w w' := by
  by_cases h0 : 0 ≤ a
  · by_cases h1 : a ≤ 1099511627776
    · by_cases h2 : 0 ≤ t
      · by_cases h3 : t ≤ 1048576
        · by_cases h4 : 0 ≤ n
          · by_cases h5 : n ≤ 255
            · have hv : rightB a t n = true := by unfold rightB withinB; simp; omega
              have HV := Lib.hid hv
              clear hv
              go_enter Tryd.func10, Tryd.ntmps10
              go_wp2
              go_ret
              exact ⟨by rw [HV.out]; rfl, bal (b0 w) _⟩
            · have hv : rightB a t n = false := by unfold rightB withinB; simp; omega
              have HV := Lib.hid hv
              clear hv
              go_enter Tryd.func10, Tryd.ntmps10
              go_wp2
              go_ret
              exact ⟨by rw [HV.out]; rfl, bal (b0 w) _⟩
          · have hv : rightB a t n = false := by unfold rightB withinB; simp; omega
            have HV := Lib.hid hv
            clear hv
            go_enter Tryd.func10, Tryd.ntmps10
            go_wp2
            go_ret
            exact ⟨by rw [HV.out]; rfl, bal (b0 w) _⟩
        · have hv : rightB a t n = false := by unfold rightB withinB; simp; omega
          have HV := Lib.hid hv
          clear hv
          go_enter Tryd.func10, Tryd.ntmps10
          go_wp2
          go_ret
          exact ⟨by rw [HV.out]; rfl, bal (b0 w) _⟩
      · have hv : rightB a t n = false := by unfold rightB withinB; simp; omega
        have HV := Lib.hid hv
        clear hv
        go_enter Tryd.func10, Tryd.ntmps10
        go_wp2
        go_ret
        exact ⟨by rw [HV.out]; rfl, bal (b0 w) _⟩
    · have hv : rightB a t n = false := by unfold rightB withinB; simp; omega
      have HV := Lib.hid hv
      clear hv
      go_enter Tryd.func10, Tryd.ntmps10
      go_wp2
      go_ret
      exact ⟨by rw [HV.out]; rfl, bal (b0 w) _⟩
  · have hv : rightB a t n = false := by unfold rightB withinB; simp; omega
    have HV := Lib.hid hv
    clear hv
    go_enter Tryd.func10, Tryd.ntmps10
    go_wp2
    go_ret
    exact ⟨by rw [HV.out]; rfl, bal (b0 w) _⟩
theorem before_iff (a t n a' t' n' : Int) : cmpS a t n a' t' n' < 0 ↔ (a < a' ∨ a = a' ∧ (t < t' ∨ t = t' ∧ n < n')) := by
  unfold cmpS cmpI
  repeat' split
  all_goals omega
theorem after_iff (a t n a' t' n' : Int) : 0 < cmpS a t n a' t' n' ↔ (a' < a ∨ a = a' ∧ (t' < t ∨ t = t' ∧ n' < n)) := by
  unfold cmpS cmpI
  repeat' split
  all_goals omega
set_option maxHeartbeats 800000 in
set_option maxRecDepth 100000 in
theorem before_any (a t n a' t' n' : Int) (w : World) : Calls Tryd.prog 17 #[stampV a t n, stampV a' t' n'] w fun e w' => e = .returned (.bool (decide (cmpS a t n a' t' n' < 0))) ∧ Below w.heap.size w w' := by
  have hi := before_iff a t n a' t' n'
  by_cases h1 : a = a'
  · subst h1
    have q1 : (a != a) = false := by simp
    by_cases h2 : t = t'
    · subst h2
      have q2 : (t != t) = false := by simp
      have hv : decide (cmpS a t n a t n' < 0) = decide (n < n') := by rw [decide_eq_decide, hi]; omega
      have HV := Lib.hid hv
      clear hv hi
      go_enter Tryd.func17, Tryd.ntmps17
      go_wp2
      go_ret
      exact ⟨by rw [HV.out]; rfl, bal (bal (b0 w) _) _⟩
    · have q2 : (t != t') = true := by simp [h2]
      have hv : decide (cmpS a t n a t' n' < 0) = decide (t < t') := by rw [decide_eq_decide, hi]; omega
      have HV := Lib.hid hv
      clear hv hi
      go_enter Tryd.func17, Tryd.ntmps17
      go_wp2
      go_ret
      exact ⟨by rw [HV.out]; rfl, bal (bal (b0 w) _) _⟩
  · have q1 : (a != a') = true := by simp [h1]
    have hv : decide (cmpS a t n a' t' n' < 0) = decide (a < a') := by rw [decide_eq_decide, hi]; omega
    have HV := Lib.hid hv
    clear hv hi
    go_enter Tryd.func17, Tryd.ntmps17
    go_wp2
    go_ret
    exact ⟨by rw [HV.out]; rfl, bal (bal (b0 w) _) _⟩
set_option maxHeartbeats 800000 in
set_option maxRecDepth 100000 in
theorem reflater_any (a t n a' t' n' : Int) (w : World) :
    Calls Tryd.prog 18 #[stampV a t n, stampV a' t' n'] w fun e w' => e = .returned (stampT (laterT a t n a' t' n')) ∧ Below w.heap.size w w' := by
  obtain ⟨c, hcB⟩ : ∃ c, decide (cmpS a t n a' t' n' < 0) = c := ⟨_, rfl⟩
  have HC := Lib.hid hcB
  clear hcB
  cases c
  · have hr : laterT a t n a' t' n' = (a, t, n) := by unfold laterT; have h := of_decide_eq_false HC.out; rw [if_neg h]
    have HR := Lib.hid hr
    clear hr
    go_enter Tryd.func18, Tryd.ntmps18
    go_wp2_with fail
    refine (before_any a t n a' t' n' _).mono ?_
    rintro e w1 ⟨rfl, hb⟩
    rw [HC.out]
    obtain ⟨hc, hf⟩ := bcell hb
    have hz := hb.size
    simp at hz
    have hB : Below w.heap.size w w1 := ((((Below.refl _ w).alloc (Nat.le_refl _) _).alloc (by simp) _).alloc (by simp; omega) _).trans (hb.mono (by simp; omega))
    go_wp2
    refine bodyPost_ret (v := stampV a t n) (by simp [results, Tryd.results18, go_sem, hc]) rfl ⟨by rw [HR.out], ?_⟩
    exact ((hB.setCell (by simp; omega) _).setCell (by simp; omega) _).setCell (by simp; omega) _
  · have hr : laterT a t n a' t' n' = (a', t', n') := by unfold laterT; have h := of_decide_eq_true HC.out; rw [if_pos h]
    have HR := Lib.hid hr
    clear hr
    go_enter Tryd.func18, Tryd.ntmps18
    go_wp2_with fail
    refine (before_any a t n a' t' n' _).mono ?_
    rintro e w1 ⟨rfl, hb⟩
    rw [HC.out]
    obtain ⟨hc, hf⟩ := bcell hb
    have hz := hb.size
    simp at hz
    have hB : Below w.heap.size w w1 := ((((Below.refl _ w).alloc (Nat.le_refl _) _).alloc (by simp) _).alloc (by simp; omega) _).trans (hb.mono (by simp; omega))
    go_wp2
    refine bodyPost_ret (v := stampV a' t' n') (by simp [results, Tryd.results18, go_sem, hc]) rfl ⟨by rw [HR.out], ?_⟩
    exact ((hB.setCell (by simp; omega) _).setCell (by simp; omega) _).setCell (by simp; omega) _
set_option maxHeartbeats 800000 in
set_option maxRecDepth 100000 in
theorem refsooner_any (a t n a' t' n' : Int) (w : World) :
    Calls Tryd.prog 20 #[stampV a t n, stampV a' t' n'] w fun e w' => e = .returned (stampT (soonerT a t n a' t' n')) ∧ Below w.heap.size w w' := by
  obtain ⟨c, hcB⟩ : ∃ c, decide (cmpS a' t' n' a t n < 0) = c := ⟨_, rfl⟩
  have HC := Lib.hid hcB
  clear hcB
  cases c
  · have hr : soonerT a t n a' t' n' = (a, t, n) := by unfold soonerT; have h := of_decide_eq_false HC.out; rw [if_neg (by rw [after_iff]; rw [before_iff] at h; omega)]
    have HR := Lib.hid hr
    clear hr
    go_enter Tryd.func20, Tryd.ntmps20
    go_wp2_with fail
    refine (before_any a' t' n' a t n _).mono ?_
    rintro e w1 ⟨rfl, hb⟩
    rw [HC.out]
    obtain ⟨hc, hf⟩ := bcell hb
    have hz := hb.size
    simp at hz
    have hB : Below w.heap.size w w1 := ((((Below.refl _ w).alloc (Nat.le_refl _) _).alloc (by simp) _).alloc (by simp; omega) _).trans (hb.mono (by simp; omega))
    go_wp2
    refine bodyPost_ret (v := stampV a t n) (by simp [results, Tryd.results20, go_sem, hc]) rfl ⟨by rw [HR.out], ?_⟩
    exact ((hB.setCell (by simp; omega) _).setCell (by simp; omega) _).setCell (by simp; omega) _
  · have hr : soonerT a t n a' t' n' = (a', t', n') := by unfold soonerT; have h := of_decide_eq_true HC.out; rw [if_pos (by rw [after_iff]; rw [before_iff] at h; omega)]
    have HR := Lib.hid hr
    clear hr
    go_enter Tryd.func20, Tryd.ntmps20
    go_wp2_with fail
    refine (before_any a' t' n' a t n _).mono ?_
    rintro e w1 ⟨rfl, hb⟩
    rw [HC.out]
    obtain ⟨hc, hf⟩ := bcell hb
    have hz := hb.size
    simp at hz
    have hB : Below w.heap.size w w1 := ((((Below.refl _ w).alloc (Nat.le_refl _) _).alloc (by simp) _).alloc (by simp; omega) _).trans (hb.mono (by simp; omega))
    go_wp2
    refine bodyPost_ret (v := stampV a' t' n') (by simp [results, Tryd.results20, go_sem, hc]) rfl ⟨by rw [HR.out], ?_⟩
    exact ((hB.setCell (by simp; omega) _).setCell (by simp; omega) _).setCell (by simp; omega) _
end Go.Proofs.YtkhamjghanjikaaDoor
