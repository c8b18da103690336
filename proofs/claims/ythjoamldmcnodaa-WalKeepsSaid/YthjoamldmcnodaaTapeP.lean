/- The plain laws of a tape's acts: what is right stays so, firm bytes stay, armed with n just n calls are done. No program in sight. -/
import Derived.Test.YthjoamldmcnodaaTape
namespace Go.Proofs.Ythjoamldmcnodaa
/-- act: 0, 1 Append, 2 Sync, 3 Arm, 4 Crash -/
def actT (t : Tp) (kd : Nat) (k : Int) (s : List UInt8) : Tp × Nat :=
  if kd = 2 then syncT t else if kd = 3 then (armT t k, 0) else if kd = 4 then (crashT t k, 0) else appendT t s
theorem spend_facts (t : Tp) (h : rightTp t = true) : (spendT t).1.f = t.f ∧ (spendT t).1.lo = t.lo ∧ rightTp (spendT t).1 = true := by
  obtain ⟨h1, h2, h3, h4⟩ := right_parts t h
  unfold spendT
  split
  · rename_i hh
    refine ⟨rfl, rfl, ?_⟩
    unfold rightTp at h ⊢
    simpa using h
  · split
    · rename_i h5 h6
      have h7 : t.n ≠ 0 := fun e => h5 ⟨h6, e⟩
      refine ⟨rfl, rfl, ?_⟩
      unfold rightTp
      simp [h6]
      omega
    · exact ⟨rfl, rfl, h⟩
theorem right_mk (t : Tp) (f lo : List UInt8) (h : rightTp t = true) (hl : f.length + lo.length ≤ 1048576) : rightTp { t with f := f, lo := lo } = true := by
  unfold rightTp at h ⊢
  simp at h ⊢
  exact ⟨hl, h.2⟩
theorem append_right (t : Tp) (s : List UInt8) (h : rightTp t = true) : rightTp (appendT t s).1 = true ∧ (appendT t s).1.f = t.f := by
  obtain ⟨s1, s2, s3⟩ := spend_facts t h
  unfold appendT
  split
  · exact ⟨h, rfl⟩
  · split
    · exact ⟨h, rfl⟩
    · split
      · rename_i h5 _
        refine ⟨?_, s1⟩
        have := right_mk (spendT t).1 (spendT t).1.f (t.lo ++ s) s3 (by rw [s1, List.length_append]; omega)
        exact this
      · exact ⟨s3, s1⟩
theorem sync_right (t : Tp) (h : rightTp t = true) : rightTp (syncT t).1 = true ∧ ∃ x, (syncT t).1.f = t.f ++ x := by
  obtain ⟨s1, s2, s3⟩ := spend_facts t h
  obtain ⟨h1, _⟩ := right_parts t h
  unfold syncT
  split
  · exact ⟨h, [], by simp⟩
  · split
    · exact ⟨right_mk (spendT t).1 (t.f ++ t.lo) [] s3 (by simp; omega), t.lo, rfl⟩
    · exact ⟨s3, [], by rw [s1]; simp⟩
theorem arm_right (t : Tp) (k : Int) (h : rightTp t = true) : rightTp (armT t k) = true ∧ (armT t k).f = t.f := by
  obtain ⟨h1, _⟩ := right_parts t h
  unfold armT
  rw [if_neg (by simp [h])]
  refine ⟨?_, rfl⟩
  unfold rightTp
  simp
  omega
theorem crash_facts (t : Tp) (k : Int) (h : rightTp t = true) : crashT t k = ⟨t.f ++ t.lo.take (min k.toNat t.lo.length), [], 0, false, false⟩ := by
  unfold crashT
  rw [if_neg (by simp [h])]
theorem crash_right (t : Tp) (k : Int) (h : rightTp t = true) : rightTp (crashT t k) = true := by
  obtain ⟨h1, _⟩ := right_parts t h
  rw [crash_facts t k h]
  unfold rightTp
  simp
  omega
theorem act_right (t : Tp) (kd : Nat) (k : Int) (s : List UInt8) (h : rightTp t = true) : rightTp (actT t kd k s).1 = true ∧ ∃ x, (actT t kd k s).1.f = t.f ++ x := by
  unfold actT
  split
  · exact sync_right t h
  · split
    · exact ⟨(arm_right t k h).1, [], by rw [(arm_right t k h).2]; simp⟩
    · split
      · refine ⟨crash_right t k h, ?_⟩
        rw [crash_facts t k h]
        exact ⟨_, rfl⟩
      · exact ⟨(append_right t s h).1, [], by rw [(append_right t s h).2]; simp⟩
/-- what the law of firm bytes asks of an act -/
theorem firm_act (t u : Tp) (kd : Nat) (k : Int) (s : List UInt8) (e : Nat) (h : rightTp t = true) (hu : actT t kd k s = (u, e)) :
    rightTp u = true ∧ t.f.length ≤ u.f.length ∧ u.f.take t.f.length = t.f ∧
      (kd = 4 → u.f.length ≤ t.f.length + t.lo.length ∧ (t.f ++ t.lo).take u.f.length = u.f ∧ u.lo = [] ∧ u.dn = false) := by
  have h1 := act_right t kd k s h
  rw [hu] at h1
  obtain ⟨h1, x, hx⟩ := h1
  simp only at h1 hx
  refine ⟨h1, by rw [hx]; simp, by rw [hx]; simp, fun h4 => ?_⟩
  subst h4
  have h5 : u = crashT t k := by
    unfold actT at hu
    simp at hu
    exact hu.1.symm
  rw [crash_facts t k h] at h5
  subst h5
  refine ⟨by simp; omega, ?_, rfl, rfl⟩
  simp only
  rw [List.length_append, List.take_length_add_append, List.length_take]
  congr 1
  rw [Nat.min_assoc, Nat.min_self]
/-- a tape that was armed with n, of whose calls m were done -/
def ArmInv (n m : Nat) (t : Tp) : Prop := rightTp t = true ∧ t.ar = true ∧ m ≤ n ∧ t.n = n - m ∧ (t.dn = true → m = n)
theorem arm_start (n : Nat) (hn : n ≤ 40) : ArmInv n 0 (armT ⟨[], [], 0, false, false⟩ n) := by
  have h : rightTp ⟨[], [], 0, false, false⟩ = true := by decide
  refine ⟨(arm_right _ _ h).1, ?_, Nat.zero_le _, ?_, ?_⟩
  · unfold armT; rw [if_neg (by simp [h])]; simp
  · unfold armT; rw [if_neg (by simp [h])]; simp; omega
  · unfold armT; rw [if_neg (by simp [h])]; simp
theorem spend_arm (n m : Nat) (t : Tp) (h : ArmInv n m t) (_hd : t.dn = false) : (m < n ∧ spendT t = ({ t with n := t.n - 1 }, true)) ∨ (m = n ∧ spendT t = ({ t with dn := true }, false)) := by
  obtain ⟨h1, h2, h3, h4, h5⟩ := h
  unfold spendT
  rcases Nat.lt_or_ge m n with h6 | h6
  · left
    rw [if_neg (by intro h; have := h.2; omega), if_pos h2]
    exact ⟨h6, rfl⟩
  · right
    rw [if_pos ⟨h2, by omega⟩]
    exact ⟨by omega, rfl⟩
/-- what the law of arming asks of an act that is an Append or a Sync -/
theorem arm_act (n m : Nat) (t u : Tp) (kd : Nat) (k : Int) (s : List UInt8) (e z : Nat) (h : ArmInv n m t) (hk : kd ≤ 2) (hz : t.f.length + t.lo.length ≤ z) (hs : z + s.length ≤ 1048576) (hu : actT t kd k s = (u, e)) :
    u.f.length + u.lo.length ≤ z + s.length ∧ ((e = 0 ∧ u.dn = false ∧ ArmInv n (m + 1) u) ∨ (e = 16 ∧ u.dn = true ∧ m = n ∧ ArmInv n m u)) := by
  have h0 := h
  obtain ⟨h1, h2, h3, h4, h5⟩ := h
  have hr := (act_right t kd k s h1).1
  rw [hu] at hr
  simp only at hr
  by_cases hd : t.dn = true
  · have hrd : readyT t = 16 := by unfold readyT; simp [h1, hd]
    have he : actT t kd k s = (t, 16) := by
      unfold actT syncT appendT
      rw [hrd]
      by_cases hk2 : kd = 2
      · simp [hk2]
      · simp [hk2, show kd ≠ 3 by omega, show kd ≠ 4 by omega]
    rw [hu] at he
    injection he with e1 e2
    subst e1 e2
    exact ⟨by omega, .inr ⟨rfl, hd, h5 hd, h0⟩⟩
  · have hd : t.dn = false := by simpa using hd
    have hrd : readyT t = 0 := by unfold readyT; simp [h1, hd]
    rcases spend_arm n m t h0 hd with ⟨h6, hsp⟩ | ⟨h6, hsp⟩
    · have he : ∃ f lo, actT t kd k s = (⟨f, lo, t.n - 1, t.ar, t.dn⟩, 0) ∧ f.length + lo.length ≤ t.f.length + t.lo.length + s.length := by
        unfold actT syncT appendT
        rw [hrd, hsp]
        by_cases hk2 : kd = 2
        · exact ⟨t.f ++ t.lo, [], by simp [hk2], by simp⟩
        · refine ⟨t.f, t.lo ++ s, ?_, by simp; omega⟩
          rw [if_neg hk2, if_neg (by omega), if_neg (by omega), if_neg (by simp), if_neg (by omega)]
          simp
      obtain ⟨f, lo, he, hl⟩ := he
      rw [hu] at he
      injection he with e1 e2
      subst e1 e2
      refine ⟨by simp only; omega, .inl ⟨rfl, hd, hr, h2, by omega, ?_, ?_⟩⟩
      · simp only
        omega
      · intro h
        simp only at h
        rw [hd] at h
        cases h
    · have he : actT t kd k s = ({ t with dn := true }, 16) := by
        unfold actT syncT appendT
        rw [hrd, hsp]
        by_cases hk2 : kd = 2
        · simp [hk2]
        · rw [if_neg hk2, if_neg (by omega), if_neg (by omega), if_neg (by simp), if_neg (by omega)]
          simp
      rw [hu] at he
      injection he with e1 e2
      subst e1 e2
      exact ⟨by simp only; omega, .inr ⟨rfl, rfl, h6, hr, h2, h3, h4, fun _ => h6⟩⟩
theorem crash_sync (t : Tp) (h : rightTp t = true) : (syncT (crashT t 0)).2 = 0 := by
  have h1 := crash_right t 0 h
  have h2 := crash_facts t 0 h
  generalize crashT t 0 = c at *
  unfold syncT
  have hrd : readyT c = 0 := by unfold readyT; rw [h1]; simp [h2]
  rw [hrd]
  have hsp : spendT c = (c, true) := by unfold spendT; simp [h2]
  rw [hsp]
  simp
end Go.Proofs.Ythjoamldmcnodaa
