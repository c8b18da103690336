/- The plain law of a log on a tape: put, renewed, opened; what is there behind a crash. No program in sight. -/
import Derived.Test.YthjoamldmcnodaaAll
import Derived.Test.YthjoamldmcnodaaTapeP
namespace Go.Proofs.Ythjoamldmcnodaa
def putW (t : Tp) (r : List UInt8) : Tp × Nat := if (appendT t (wrapL r)).2 ≠ 0 then appendT t (wrapL r) else syncT (appendT t (wrapL r)).1
def renewW (t : Tp) (r : List UInt8) : Tp × Nat := swapT t (wrapL r)
def usedL (l : List UInt8) : Nat := (wrapsL (allL l)).length
def openW (t : Tp) : Tp × List (List UInt8) × Nat :=
  if readyT t ≠ 0 then (t, [], readyT t)
  else if usedL (t.f ++ t.lo) < (t.f ++ t.lo).length then
    if (cutT t (usedL (t.f ++ t.lo))).2 ≠ 0 then ((cutT t (usedL (t.f ++ t.lo))).1, [], (cutT t (usedL (t.f ++ t.lo))).2)
    else ((cutT t (usedL (t.f ++ t.lo))).1, allL (t.f ++ t.lo), 0)
  else (t, allL (t.f ++ t.lo), 0)
theorem used_le (l : List UInt8) : usedL l ≤ l.length := by
  unfold usedL
  rw [← rest_len]
  omega
theorem append_ok (t : Tp) (s : List UInt8) (h : (appendT t s).2 = 0) : rightTp (appendT t s).1 = true := by
  by_cases hr : rightTp t = true
  · exact (append_right t s hr).1
  · exfalso
    have : rightTp t = false := by cases e : rightTp t <;> simp_all
    unfold appendT readyT at h
    simp [this] at h
theorem wrapL_le (r : List UInt8) : (wrapL r).length ≤ r.length + 13 := by
  rw [wrapL_len]
  have := putL_len r.length
  omega
/-- a tape that is neither down nor armed -/
theorem spend_free (t : Tp) (h : t.ar = false) : spendT t = (t, true) := by
  unfold spendT
  simp [h]
theorem ready_ok (t : Tp) (hr : rightTp t = true) (hd : t.dn = false) : readyT t = 0 := by
  unfold readyT
  simp [hr, hd]
theorem ready_down (t : Tp) (hr : rightTp t = true) (hd : t.dn = true) : readyT t = 16 := by
  unfold readyT
  simp [hr, hd]
theorem wraps_append (a b : List (List UInt8)) : wrapsL (a ++ b) = wrapsL a ++ wrapsL b := by
  unfold wrapsL
  rw [List.flatMap_append]
theorem wraps_one (b : List UInt8) : wrapsL [b] = wrapL b := by
  unfold wrapsL
  simp
/-- records that are whole, and what is left of one more -/
theorem open_torn (ls : List (List UInt8)) (b : List UInt8) (j : Nat) (hls : ∀ x ∈ ls, x.length ≤ 1048576) (hb : b.length ≤ 1048576) (hj : j < (wrapL b).length) :
    allL (wrapsL ls ++ (wrapL b).take j) = ls := by
  have h := all_cut ls b [] ((wrapsL ls).length + j) hls hb (by omega) (by omega)
  rw [List.append_nil] at h
  have e : (wrapsL ls ++ wrapL b).take ((wrapsL ls).length + j) = wrapsL ls ++ (wrapL b).take j := by
    rw [List.take_append, List.take_of_length_le (by omega)]
    congr 2
    omega
  rw [e] at h
  exact h.1
theorem allL_nil : allL [] = [] := (all_stop [] (by decide)).1
theorem open_whole (ls : List (List UInt8)) (hls : ∀ x ∈ ls, x.length ≤ 1048576) : allL (wrapsL ls) = ls := by
  have h := (all_wraps ls [] hls).1
  rw [List.append_nil, allL_nil, List.append_nil] at h
  exact h
/-- a log of whole records is opened as it is -/
theorem openW_whole (ls : List (List UInt8)) (n : Int) (ar : Bool) (hls : ∀ x ∈ ls, x.length ≤ 1048576) (hr : rightTp ⟨wrapsL ls, [], n, ar, false⟩ = true) :
    openW ⟨wrapsL ls, [], n, ar, false⟩ = (⟨wrapsL ls, [], n, ar, false⟩, ls, 0) := by
  unfold openW
  rw [if_neg (by rw [ready_ok _ hr rfl]; simp)]
  simp only [List.append_nil]
  have hu : usedL (wrapsL ls) = (wrapsL ls).length := by unfold usedL; rw [open_whole ls hls]
  rw [hu, if_neg (by omega), open_whole ls hls]
/-- a log with a torn record is cut -/
theorem openW_torn (ls : List (List UInt8)) (b : List UInt8) (j : Nat) (hls : ∀ x ∈ ls, x.length ≤ 1048576) (hb : b.length ≤ 1048576) (hj : j < (wrapL b).length)
    (hr : rightTp ⟨wrapsL ls ++ (wrapL b).take j, [], 0, false, false⟩ = true) :
    openW ⟨wrapsL ls ++ (wrapL b).take j, [], 0, false, false⟩ = (⟨wrapsL ls, [], 0, false, false⟩, ls, 0) := by
  unfold openW
  rw [if_neg (by rw [ready_ok _ hr rfl]; simp)]
  simp only [List.append_nil]
  have hu : usedL (wrapsL ls ++ (wrapL b).take j) = (wrapsL ls).length := by unfold usedL; rw [open_torn ls b j hls hb hj]
  rw [hu, open_torn ls b j hls hb hj]
  have hlen : (wrapsL ls ++ (wrapL b).take j).length = (wrapsL ls).length + j := by
    rw [List.length_append, List.length_take]
    omega
  rw [hlen]
  by_cases h0 : j = 0
  · subst h0
    rw [if_neg (by omega)]
    simp
  · rw [if_pos (by omega)]
    have hc : cutT ⟨wrapsL ls ++ (wrapL b).take j, [], 0, false, false⟩ ((wrapsL ls).length : Nat) = (⟨wrapsL ls, [], 0, false, false⟩, 0) := by
      unfold cutT
      rw [ready_ok _ hr rfl, if_neg (by omega), if_neg]
      · rw [spend_free _ rfl]
        simp
      · simp only [List.length_nil, hlen]
        omega
    rw [hc, if_neg (by simp)]
/-- a record that is put where there is power -/
theorem putW_free (ls : List (List UInt8)) (r : List UInt8) (hr : (wrapsL ls).length + (wrapL r).length ≤ 1048576) :
    putW ⟨wrapsL ls, [], 0, false, false⟩ r = (⟨wrapsL (ls ++ [r]), [], 0, false, false⟩, 0) := by
  have h1 : rightTp ⟨wrapsL ls, [], 0, false, false⟩ = true := by unfold rightTp; simp; omega
  have ha : appendT ⟨wrapsL ls, [], 0, false, false⟩ (wrapL r) = (⟨wrapsL ls, wrapL r, 0, false, false⟩, 0) := by
    unfold appendT
    rw [ready_ok _ h1 rfl, if_neg (by omega), if_neg (by simp; omega), spend_free _ rfl]
    simp
  have h2 : rightTp ⟨wrapsL ls, wrapL r, 0, false, false⟩ = true := by unfold rightTp; simp; omega
  unfold putW
  rw [ha, if_neg (by simp)]
  unfold syncT
  rw [ready_ok _ h2 rfl, if_neg (by omega), spend_free _ rfl]
  simp [wraps_append, wraps_one]
/-- how a tape stands to the records that are there: 'now', and perhaps one more that was cut off -/
structure WalInv (now : List (List UInt8)) (next : List UInt8) (cut : Bool) (t : Tp) : Prop where
  right : rightTp t = true
  down : t.dn = cut
  firm : t.f = wrapsL now
  loose : t.lo = [] ∨ (cut = true ∧ t.lo = wrapL next)
theorem spend_two (t : Tp) : spendT t = ({ t with dn := true }, false) ∨ ∃ m, spendT t = ({ t with n := m }, true) := by
  unfold spendT
  split
  · exact .inl rfl
  · split
    · exact .inr ⟨_, rfl⟩
    · exact .inr ⟨t.n, rfl⟩
theorem wal_put (now : List (List UInt8)) (next : List UInt8) (cut : Bool) (t u : Tp) (r : List UInt8) (e : Nat) (h : WalInv now next cut t) (hsz : (wrapsL now).length + (wrapL r).length ≤ 1048576)
    (hu : putW t r = (u, e)) :
    (cut = true ∧ e = 16 ∧ u = t) ∨ (cut = false ∧ e = 0 ∧ WalInv (now ++ [r]) next false u) ∨ (cut = false ∧ e = 16 ∧ WalInv now r true u) := by
  obtain ⟨hr, hd, hf, hl⟩ := h
  cases cut with
  | true =>
    left
    have ha : appendT t (wrapL r) = (t, 16) := by
      unfold appendT
      rw [ready_down t hr hd, if_pos (by omega)]
    unfold putW at hu
    rw [ha, if_pos (by simp)] at hu
    injection hu with h1 h2
    exact ⟨rfl, h2.symm, h1.symm⟩
  | false =>
    right
    have hlo : t.lo = [] := by
      rcases hl with hl | hl
      · exact hl
      · exact absurd hl.1 (by simp)
    obtain ⟨tf, tl, tn, ta, td⟩ := t
    simp only at hd hf hlo
    subst hd hlo hf
    have hfree : ¬ (1048576 < (wrapsL now).length + ([] : List UInt8).length + (wrapL r).length) := by simp; omega
    rcases spend_two ⟨wrapsL now, [], tn, ta, false⟩ with hs | ⟨m, hs⟩
    · right
      have ha : appendT ⟨wrapsL now, [], tn, ta, false⟩ (wrapL r) = (⟨wrapsL now, [], tn, ta, true⟩, 16) := by
        unfold appendT
        rw [ready_ok _ hr rfl, if_neg (by omega), if_neg hfree, hs]
        simp
      unfold putW at hu
      rw [ha, if_pos (by simp)] at hu
      injection hu with h1 h2
      refine ⟨rfl, h2.symm, ?_⟩
      subst h1
      exact ⟨by unfold rightTp at hr ⊢; simpa using hr, rfl, rfl, .inl rfl⟩
    · have ha : appendT ⟨wrapsL now, [], tn, ta, false⟩ (wrapL r) = (⟨wrapsL now, wrapL r, m, ta, false⟩, 0) := by
        unfold appendT
        rw [ready_ok _ hr rfl, if_neg (by omega), if_neg hfree, hs]
        simp
      have hr2 := append_ok ⟨wrapsL now, [], tn, ta, false⟩ (wrapL r) (by rw [ha])
      rw [ha] at hr2
      simp only at hr2
      unfold putW at hu
      rw [ha, if_neg (by simp)] at hu
      simp only at hu
      rcases spend_two ⟨wrapsL now, wrapL r, m, ta, false⟩ with hs2 | ⟨m2, hs2⟩
      · right
        unfold syncT at hu
        rw [ready_ok _ hr2 rfl, if_neg (by omega), hs2] at hu
        simp at hu
        refine ⟨rfl, hu.2.symm, ?_⟩
        rw [← hu.1]
        exact ⟨by unfold rightTp at hr2 ⊢; simpa using hr2, rfl, rfl, .inr ⟨rfl, rfl⟩⟩
      · left
        have hsy := sync_right _ hr2
        unfold syncT at hu hsy
        rw [ready_ok _ hr2 rfl, if_neg (by omega), hs2] at hu hsy
        simp at hu hsy
        refine ⟨rfl, hu.2.symm, ?_⟩
        rw [← hu.1]
        exact ⟨hsy, rfl, by simp [wraps_append, wraps_one], .inl rfl⟩
theorem wal_arm (now : List (List UInt8)) (next : List UInt8) (cut : Bool) (t : Tp) (k : Int) (h : WalInv now next cut t) : WalInv now next cut (armT t k) := by
  obtain ⟨hr, hd, hf, hl⟩ := h
  refine ⟨(arm_right t k hr).1, ?_, ?_, ?_⟩
  · unfold armT; rw [if_neg (by simp [hr])]; exact hd
  · unfold armT; rw [if_neg (by simp [hr])]; exact hf
  · unfold armT; rw [if_neg (by simp [hr])]; exact hl
/-- behind a crash: opened, the records are those, or that one more -/
theorem wal_crash (now : List (List UInt8)) (next : List UInt8) (cut : Bool) (t : Tp) (k : Int) (h : WalInv now next cut t) (hnow : ∀ x ∈ now, x.length ≤ 1048576) (hnext : next.length ≤ 1048576) :
    ∃ m u, openW (crashT t k) = (u, m, 0) ∧ (m = now ∨ (cut = true ∧ m = now ++ [next])) ∧ WalInv m next false u ∧ u.lo = [] := by
  obtain ⟨hr, hd, hf, hl⟩ := h
  have hcr := crash_right t k hr
  rw [crash_facts t k hr] at hcr ⊢
  rw [hf] at hcr ⊢
  have hsum := right_parts t hr
  rcases hl with hl | ⟨hc, hl⟩
  · rw [hl] at hcr ⊢
    simp only [List.take_nil, List.append_nil] at hcr ⊢
    rw [openW_whole now 0 false hnow hcr]
    exact ⟨now, _, rfl, .inl rfl, ⟨hcr, rfl, rfl, .inl rfl⟩, rfl⟩
  · rw [hl] at hcr ⊢
    generalize hj : min k.toNat (wrapL next).length = j at *
    have hjl : j ≤ (wrapL next).length := by omega
    by_cases hjw : j = (wrapL next).length
    · have e : wrapsL now ++ (wrapL next).take j = wrapsL (now ++ [next]) := by
        rw [hjw, List.take_length, wraps_append, wraps_one]
      rw [e] at hcr ⊢
      rw [openW_whole (now ++ [next]) 0 false (fun x hx => by
        rcases List.mem_append.1 hx with hx | hx
        · exact hnow x hx
        · simp at hx; subst hx; exact hnext) hcr]
      exact ⟨now ++ [next], _, rfl, .inr ⟨hc, rfl⟩, ⟨hcr, rfl, rfl, .inl rfl⟩, rfl⟩
    · rw [openW_torn now next j hnow hnext (by omega) hcr]
      refine ⟨now, _, rfl, .inl rfl, ⟨?_, rfl, rfl, .inl rfl⟩, rfl⟩
      unfold rightTp at hcr ⊢
      simp at hcr ⊢
      omega
theorem wal_start : WalInv [] [] false ⟨[], [], 0, false, false⟩ := ⟨by decide, rfl, rfl, .inl rfl⟩
/-- renewed where the power is armed -/
theorem renew_arm (ls : List (List UInt8)) (r : List UInt8) (n keep : Int) (hls : (wrapsL ls).length ≤ 1048576) (hsz : ∀ x ∈ ls, x.length ≤ 1048576) (hr : (wrapL r).length ≤ 1048576) (hr2 : r.length ≤ 1048576) :
    ∃ u, renewW (armT ⟨wrapsL ls, [], 0, false, false⟩ n) r = (u, if n = 0 then 16 else 0) ∧
      ∃ v, openW (crashT u keep) = (v, (if n = 0 then ls else [r]), 0) := by
  have h0 : rightTp ⟨wrapsL ls, [], 0, false, false⟩ = true := by unfold rightTp; simp; omega
  have hra := (arm_right ⟨wrapsL ls, [], 0, false, false⟩ n h0).1
  have ha : armT ⟨wrapsL ls, [], 0, false, false⟩ n = ⟨wrapsL ls, [], min (max n 0) 1099511627776, decide (0 ≤ n), false⟩ := by
    unfold armT; rw [if_neg (by simp [h0])]
  rw [ha] at hra ⊢
  unfold renewW swapT
  rw [ready_ok _ hra rfl, if_neg (by omega), if_neg (by omega)]
  by_cases hn : n = 0
  · subst hn
    have hs : spendT ⟨wrapsL ls, [], min (max 0 0) 1099511627776, decide ((0 : Int) ≤ 0), false⟩ = (⟨wrapsL ls, [], 0, true, true⟩, false) := by rfl
    rw [hs]
    simp only [Bool.false_eq_true, if_false, if_true]
    refine ⟨_, rfl, ?_⟩
    have hu : rightTp ⟨wrapsL ls, [], 0, true, true⟩ = true := by unfold rightTp; simp; omega
    rw [crash_facts _ _ hu]
    simp only [List.take_nil, List.append_nil]
    rw [openW_whole ls 0 false hsz h0]
    exact ⟨_, rfl⟩
  · rw [if_neg hn, if_neg hn]
    have hs : ∃ m b, spendT ⟨wrapsL ls, [], min (max n 0) 1099511627776, decide (0 ≤ n), false⟩ = (⟨wrapsL ls, [], m, b, false⟩, true) ∧ 0 ≤ m ∧ m ≤ 1099511627776 ∧ (b = true ∨ m = 0) := by
      by_cases h1 : 0 ≤ n
      · refine ⟨min (max n 0) 1099511627776 - 1, true, ?_, by omega, by omega, .inl rfl⟩
        unfold spendT
        simp only [h1, decide_true]
        rw [if_neg (by omega)]
        simp
      · refine ⟨0, false, ?_, by omega, by omega, .inr rfl⟩
        have : min (max n 0) 1099511627776 = 0 := by omega
        rw [this]
        unfold spendT
        simp [h1]
    obtain ⟨m, b, hs, m0, m1, mb⟩ := hs
    rw [hs]
    simp only [if_true]
    refine ⟨_, rfl, ?_⟩
    have hu : rightTp ⟨wrapL r, [], m, b, false⟩ = true := by
      unfold rightTp
      simp
      refine ⟨hr, m0, m1, ?_⟩
      rcases mb with mb | mb
      · exact .inl mb
      · exact .inr mb
    rw [crash_facts _ _ hu]
    simp only [List.take_nil, List.append_nil]
    have e : wrapL r = wrapsL [r] := (wraps_one r).symm
    rw [e]
    rw [openW_whole [r] 0 false (fun x hx => by simp at hx; subst hx; exact hr2) (by unfold rightTp; simp; rw [← e]; exact hr)]
    exact ⟨_, rfl⟩
end Go.Proofs.Ythjoamldmcnodaa
