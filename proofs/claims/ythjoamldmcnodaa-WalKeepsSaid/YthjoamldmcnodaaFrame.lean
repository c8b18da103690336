/- The plain law of frames: wrapped, taken, apart. No program in sight. -/
import Derived.Test.YthjoamldmcnodaaCrc
import Derived.Test.YthjoamldmcnodaaPack
namespace Go.Proofs.Ythjoamldmcnodaa
def wrapL (b : List UInt8) : List UInt8 := sealL (textL b)
/-- where the frame ends, if there is one -/
def frameEnd (l : List UInt8) : Nat := l.length - (takeL l).2.1.length + (takeL l).1 + 4
def frameTakeL (l : List UInt8) : List UInt8 × List UInt8 × Nat :=
  if (takeL l).2.2 ≠ 0 then ([], [], (takeL l).2.2)
  else if 1048576 < (takeL l).1 then ([], [], 3)
  else if (takeL l).2.1.length < (takeL l).1 + 4 then ([], [], 2)
  else if okSeal (l.take (frameEnd l)) then ((takeL l).2.1.take (takeL l).1, l.drop (frameEnd l), 0)
  else ([], [], 4)
theorem sealL_len (l : List UInt8) : (sealL l).length = l.length + 4 := by unfold sealL; simp [four_length]
theorem textL_len (l : List UInt8) : (textL l).length = (putL l.length).length + l.length := by unfold textL; simp
theorem wrapL_len (l : List UInt8) : (wrapL l).length = (putL l.length).length + l.length + 4 := by unfold wrapL; rw [sealL_len, textL_len]
theorem frame_facts (l : List UInt8) (n : Nat) (r : List UInt8) (h : takeL l = (n, r, 0)) (hr : n + 4 ≤ r.length) :
    ∃ p, l = p ++ r ∧ p = putL n ∧ frameEnd l = p.length + n + 4 ∧ frameEnd l ≤ l.length ∧ (l.take (frameEnd l)).length = frameEnd l ∧
      (l.take (frameEnd l)).take (frameEnd l - 4) = textL (r.take n) ∧ (wrapL (r.take n)).length = frameEnd l := by
  obtain ⟨_, hl, _, _⟩ := take_ok l n r h
  have he : frameEnd l = (putL n).length + n + 4 := by
    unfold frameEnd
    rw [h]
    simp only
    conv => lhs; rw [hl]
    simp
  have hlen : l.length = (putL n).length + r.length := by rw [hl]; simp
  have htn : (r.take n).length = n := by simp; omega
  refine ⟨putL n, hl, rfl, he, by omega, by simp; omega, ?_, by rw [wrapL_len, htn, he]⟩
  rw [List.take_take, he, Nat.min_eq_left (by omega)]
  unfold textL
  rw [htn]
  conv => lhs; rw [hl]
  rw [show (putL n).length + n + 4 - 4 = (putL n).length + n from by omega, List.take_append, List.take_of_length_le (by omega)]
  congr 1
  rw [show (putL n).length + n - (putL n).length = n from by omega]
theorem frame_ok (l : List UInt8) (n : Nat) (r : List UInt8) (h : takeL l = (n, r, 0)) (hr : n + 4 ≤ r.length) :
    okSeal (l.take (frameEnd l)) ↔ wrapL (r.take n) = l.take (frameEnd l) := by
  obtain ⟨p, hl, hp, he, hle, hlen, htake, hw⟩ := frame_facts l n r h hr
  unfold okSeal wrapL
  rw [hlen, htake]
theorem take_wrap (b more : List UInt8) (hb : b.length < 2 ^ 63) : takeL (wrapL b ++ more) = (b.length, b ++ (four (sumN (textL b)) ++ more), 0) := by
  unfold wrapL sealL
  rw [show textL b ++ four (sumN (textL b)) ++ more = putL b.length ++ (b ++ (four (sumN (textL b)) ++ more)) from by unfold textL; simp [List.append_assoc]]
  exact take_put _ _ hb
theorem frame_back (b more : List UInt8) (hb : b.length ≤ 1048576) : frameTakeL (wrapL b ++ more) = (b, more, 0) := by
  have h := take_wrap b more (by omega)
  have hr : b.length + 4 ≤ (b ++ (four (sumN (textL b)) ++ more)).length := by simp [four_length]
  obtain ⟨p, hl, hp, he, hle, hlen, htake, hw⟩ := frame_facts _ _ _ h hr
  have htb : (b ++ (four (sumN (textL b)) ++ more)).take b.length = b := by simp
  rw [htb] at hw htake
  have hte : (wrapL b ++ more).take (frameEnd (wrapL b ++ more)) = wrapL b := by rw [← hw]; simp
  have hok : okSeal ((wrapL b ++ more).take (frameEnd (wrapL b ++ more))) := by rw [hte]; exact okSeal_seal _
  have hde : (wrapL b ++ more).drop (frameEnd (wrapL b ++ more)) = more := by rw [← hw]; simp
  unfold frameTakeL
  rw [h]
  simp only [ne_eq, not_true_eq_false, if_false]
  rw [if_neg (by omega), if_neg (by omega), if_pos hok, htb, hde]
theorem wrap_begins (a b : List UInt8) (ha : a.length ≤ 1048576) (hb : b.length ≤ 1048576) :
    (decide ((wrapL a).length ≤ (wrapL b).length) && ((wrapL b).take (wrapL a).length == wrapL a)) = (a == b) := by
  by_cases h : a = b
  · subst h; simp
  · rw [beq_eq_false_iff_ne.2 h]
    have hne : (wrapL b).take (wrapL a).length ≠ wrapL a := by
      intro he
      have h1 := frame_back a ((wrapL b).drop (wrapL a).length) ha
      have h2 := List.take_append_drop (wrapL a).length (wrapL b)
      rw [he] at h2
      rw [h2] at h1
      have h3 := frame_back b [] hb
      rw [List.append_nil, h1] at h3
      simp at h3
      exact h h3.1
    rw [beq_eq_false_iff_ne.2 hne, Bool.and_false]
end Go.Proofs.Ythjoamldmcnodaa
