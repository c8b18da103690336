/- The plain law of FrameTurned: one byte behind the length turned: the frame is refused. -/
import Derived.Test.YtlghmjcpkpdhfaaFrame
namespace Go.Proofs.Ytlghmjcpkpdhfaa
theorem turned1 (pre post : List UInt8) (a b : UInt8) (hl : 4 ≤ pre.length + 1 + post.length) (h : okSeal (pre ++ [a] ++ post)) (hne : a ≠ b) : ¬ okSeal (pre ++ [b] ++ post) := by
  intro h2
  rw [okSeal_iff _ (by simp; omega)] at h h2
  rw [← h2] at h
  have hp : crcN 4294967295 pre < 2 ^ 32 := crcN_lt _ _ (by omega)
  simp only [crcN_append] at h
  have h3 := crcN_inj _ _ post (crcN_lt _ _ hp) (crcN_lt _ _ hp) h
  have h4 : crcN (crcN 4294967295 pre) [a, 0, 0, 0] = crcN (crcN 4294967295 pre) [b, 0, 0, 0] := by
    rw [show [a, 0, 0, 0] = [a] ++ [0, 0, 0] from rfl, show [b, 0, 0, 0] = [b] ++ [0, 0, 0] from rfl, crcN_append, crcN_append, h3]
  rw [crc4, crc4] at h4
  have h5 := tn_inj 32 _ _ (Nat.xor_lt_two_pow hp (le4_lt _ _ _ _)) (Nat.xor_lt_two_pow hp (le4_lt _ _ _ _)) h4
  have h6 : le4 a 0 0 0 = le4 b 0 0 0 := by
    have : crcN 4294967295 pre ^^^ (crcN 4294967295 pre ^^^ le4 a 0 0 0) = crcN 4294967295 pre ^^^ (crcN 4294967295 pre ^^^ le4 b 0 0 0) := by rw [h5]
    simpa [← Nat.xor_assoc] using this
  have h7 := congrArg (fun n => (four n).head?) h6
  simp only [four_le4] at h7
  exact hne (by simpa using h7)
theorem set_parts (l : List UInt8) (j : Nat) (v : UInt8) (hj : j < l.length) : l.set j v = l.take j ++ [v] ++ l.drop (j + 1) := by
  rw [List.set_eq_take_append_cons_drop, if_pos hj]
  simp
theorem get_parts (l : List UInt8) (j : Nat) (hj : j < l.length) : l = l.take j ++ [l[j]] ++ l.drop (j + 1) := by
  simp
theorem put_small (n : Nat) (h : n < 128) : putL n = [UInt8.ofNat n] := by
  unfold putL
  rw [putF, if_pos h]
theorem frame_turned (b more : List UInt8) (j : Nat) (v : UInt8) (hb : b.length ≤ 100) (hj1 : 1 ≤ j) (hj2 : j < (wrapL b).length) (hv : v ≠ (wrapL b)[j]) :
    frameTakeL ((wrapL b).set j v ++ more) = ([], [], 4) := by
  have hok := okSeal_seal (textL b)
  have hok' : okSeal (wrapL b) := hok
  have hlen := wrapL_len b
  rw [put_small _ (by omega)] at hlen
  simp at hlen
  have hno : ¬ okSeal ((wrapL b).set j v) := by
    rw [set_parts _ _ _ hj2]
    refine turned1 _ _ _ _ ?_ (by rw [← get_parts _ _ hj2]; exact hok') (Ne.symm hv)
    simp
    omega
  obtain ⟨rest, hrest⟩ : ∃ rest, wrapL b = UInt8.ofNat b.length :: rest := by
    unfold wrapL sealL textL
    rw [put_small _ (by omega)]
    exact ⟨_, rfl⟩
  rw [hrest] at hno hlen ⊢
  obtain ⟨i, rfl⟩ : ∃ i, j = i + 1 := ⟨j - 1, by omega⟩
  rw [List.set_cons_succ] at hno ⊢
  have hrl : (rest.set i v).length = b.length + 4 := by simp at hlen ⊢; omega
  generalize rest.set i v = r' at *
  have hc : (UInt8.ofNat b.length).toNat = b.length := by simp; omega
  have hend : endOf ((UInt8.ofNat b.length :: r') ++ more) = 0 := by
    simp only [List.cons_append, endOf]
    rw [if_pos (by omega)]
  have htk : takeL ((UInt8.ofNat b.length :: r') ++ more) = (b.length, r' ++ more, 0) := by
    unfold takeL
    rw [hend, if_neg (by simp), if_neg (by omega), if_neg (by omega)]
    simp [valL, hc]
    try omega
  unfold frameTakeL frameEnd
  rw [htk]
  simp only [ne_eq, not_true_eq_false, if_false]
  rw [if_neg (by omega), if_neg (by simp; omega)]
  have hl2 : ((UInt8.ofNat b.length :: r') ++ more).length - (r' ++ more).length + b.length + 4 = (UInt8.ofNat b.length :: r').length := by simp; omega
  rw [hl2, List.take_left, if_neg hno]
end Go.Proofs.Ytlghmjcpkpdhfaa
