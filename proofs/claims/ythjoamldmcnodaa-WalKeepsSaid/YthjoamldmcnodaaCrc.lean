/- The plain law of the check sum: what a step does, and that up to four turned bytes are found. No program in sight. -/
namespace Go.Proofs.Ythjoamldmcnodaa
def poly : Nat := 2197175160
def t1 (c : Nat) : Nat := (c / 2) ^^^ (if c % 2 = 1 then poly else 0)
def tn : Nat → Nat → Nat
  | 0, c => c
  | n + 1, c => tn n (t1 c)
def bstep (c b : Nat) : Nat := tn 8 (c ^^^ b)
def crcN (c : Nat) (l : List UInt8) : Nat := l.foldl (fun c b => bstep c b.toNat) c
def sumN (l : List UInt8) : Nat := 4294967295 ^^^ crcN 4294967295 l

theorem xor_div2 (x y : Nat) : (x ^^^ y) / 2 = (x / 2) ^^^ (y / 2) := Nat.xor_div_two
theorem xor_mod2 (x y : Nat) : (x ^^^ y) % 2 = (x % 2 + y % 2) % 2 := by
  have h := Nat.xor_mod_two_eq_one (a := x) (b := y)
  omega
theorem xor_zero_eq (x y : Nat) (h : x ^^^ y = 0) : x = y := by
  have h2 : (x ^^^ y) ^^^ y = y := by rw [h]; simp
  rw [Nat.xor_assoc, Nat.xor_self] at h2
  simpa using h2

theorem t1_xor (x y : Nat) : t1 (x ^^^ y) = t1 x ^^^ t1 y := by
  unfold t1
  rw [xor_div2, xor_mod2]
  rcases Nat.mod_two_eq_zero_or_one x with hx | hx <;> rcases Nat.mod_two_eq_zero_or_one y with hy | hy <;> simp [hx, hy]
  · simp [Nat.xor_assoc]
  · rw [Nat.xor_assoc, Nat.xor_assoc, Nat.xor_comm poly]
  · rw [Nat.xor_assoc]
    congr 1
    rw [Nat.xor_comm poly, Nat.xor_assoc, Nat.xor_self]; simp
theorem t1_lt (x : Nat) (h : x < 2 ^ 32) : t1 x < 2 ^ 32 := by
  unfold t1
  apply Nat.xor_lt_two_pow
  · omega
  · unfold poly; split <;> omega
theorem t1_inj0 (x : Nat) (h : x < 2 ^ 32) (h0 : t1 x = 0) : x = 0 := by
  unfold t1 at h0
  have h0 := xor_zero_eq _ _ h0
  unfold poly at h0
  split at h0 <;> omega
theorem tn_xor (n x y : Nat) : tn n (x ^^^ y) = tn n x ^^^ tn n y := by
  induction n generalizing x y with
  | zero => rfl
  | succ n ih => simp only [tn]; rw [t1_xor, ih]
theorem tn_lt (n x : Nat) (h : x < 2 ^ 32) : tn n x < 2 ^ 32 := by
  induction n generalizing x with
  | zero => exact h
  | succ n ih => simp only [tn]; exact ih _ (t1_lt x h)
theorem tn_inj0 (n x : Nat) (h : x < 2 ^ 32) (h0 : tn n x = 0) : x = 0 := by
  induction n generalizing x with
  | zero => exact h0
  | succ n ih => exact t1_inj0 x h (ih _ (t1_lt x h) h0)
theorem tn_inj (n x y : Nat) (hx : x < 2 ^ 32) (hy : y < 2 ^ 32) (h : tn n x = tn n y) : x = y := by
  have : x ^^^ y = 0 := by
    apply tn_inj0 n
    · exact Nat.xor_lt_two_pow hx hy
    · rw [tn_xor, h, Nat.xor_self]
  exact xor_zero_eq _ _ this
theorem tn_add (m n x : Nat) : tn (m + n) x = tn n (tn m x) := by
  induction m generalizing x with
  | zero => simp [tn]
  | succ m ih => rw [Nat.succ_add]; simp only [tn]; exact ih _
theorem tn_shift (n x : Nat) : tn n (2 ^ n * x) = x := by
  induction n generalizing x with
  | zero => simp [tn]
  | succ n ih =>
    simp only [tn]
    have : t1 (2 ^ (n + 1) * x) = 2 ^ n * x := by
      unfold t1
      have e : 2 ^ (n + 1) * x = 2 * (2 ^ n * x) := by rw [Nat.pow_succ]; rw [Nat.mul_comm (2 ^ n) 2, Nat.mul_assoc]
      rw [e]
      simp
    rw [this, ih]
theorem bstep_lt (c b : Nat) (h : c < 2 ^ 32) (hb : b < 256) : bstep c b < 2 ^ 32 :=
  tn_lt _ _ (Nat.xor_lt_two_pow h (by omega))
theorem bstep_inj (c d b : Nat) (hc : c < 2 ^ 32) (hd : d < 2 ^ 32) (hb : b < 256) (h : bstep c b = bstep d b) : c = d := by
  have := tn_inj 8 _ _ (Nat.xor_lt_two_pow hc (by omega)) (Nat.xor_lt_two_pow hd (by omega)) h
  have h2 : (c ^^^ b) ^^^ b = (d ^^^ b) ^^^ b := by rw [this]
  simpa [Nat.xor_assoc] using h2
theorem crcN_lt (c : Nat) (l : List UInt8) (h : c < 2 ^ 32) : crcN c l < 2 ^ 32 := by
  induction l generalizing c with
  | nil => exact h
  | cons b l ih => exact ih _ (bstep_lt c _ h (by have := b.toNat_lt; omega))
theorem crcN_inj (c d : Nat) (l : List UInt8) (hc : c < 2 ^ 32) (hd : d < 2 ^ 32) (h : crcN c l = crcN d l) : c = d := by
  induction l generalizing c d with
  | nil => exact h
  | cons b l ih =>
    have hb : b.toNat < 256 := by have := b.toNat_lt; omega
    exact bstep_inj c d _ hc hd hb (ih _ _ (bstep_lt c _ hc hb) (bstep_lt d _ hd hb) h)
theorem crcN_append (c : Nat) (a b : List UInt8) : crcN c (a ++ b) = crcN (crcN c a) b := by
  simp [crcN, List.foldl_append]
def le4 (b0 b1 b2 b3 : UInt8) : Nat := b0.toNat + 256 * b1.toNat + 65536 * b2.toNat + 16777216 * b3.toNat
theorem add_eq_xor (n a b : Nat) (h : a < 2 ^ n) : a + 2 ^ n * b = a ^^^ (2 ^ n * b) := by
  rw [Nat.add_comm, Nat.two_pow_add_eq_or_of_lt h]
  apply Nat.eq_of_testBit_eq
  intro i
  rw [Nat.testBit_or, Nat.testBit_xor, Nat.testBit_two_pow_mul]
  by_cases hi : n ≤ i
  · have : a.testBit i = false := Nat.testBit_lt_two_pow (Nat.lt_of_lt_of_le h (Nat.pow_le_pow_right (by omega) hi))
    simp [this]
  · simp [hi]
theorem crc4 (c : Nat) (b0 b1 b2 b3 : UInt8) : crcN c [b0, b1, b2, b3] = tn 32 (c ^^^ le4 b0 b1 b2 b3) := by
  have h0 := b0.toNat_lt; have h1 := b1.toNat_lt; have h2 := b2.toNat_lt; have h3 := b3.toNat_lt
  have e : le4 b0 b1 b2 b3 = b0.toNat ^^^ (2 ^ 8 * b1.toNat) ^^^ (2 ^ 16 * b2.toNat) ^^^ (2 ^ 24 * b3.toNat) := by
    unfold le4
    rw [← add_eq_xor 8 _ _ (by omega), ← add_eq_xor 16 _ _ (by omega), ← add_eq_xor 24 _ _ (by omega)]
  rw [e]
  have s1 : b1.toNat = tn 8 (2 ^ 8 * b1.toNat) := (tn_shift _ _).symm
  have s2 : b2.toNat = tn 16 (2 ^ 16 * b2.toNat) := (tn_shift _ _).symm
  have s3 : b3.toNat = tn 24 (2 ^ 24 * b3.toNat) := (tn_shift _ _).symm
  show bstep (bstep (bstep (bstep c b0.toNat) b1.toNat) b2.toNat) b3.toNat = _
  unfold bstep
  conv => lhs; rw [s1, s2, s3]
  rw [← tn_xor, ← tn_add, ← tn_xor, ← tn_add, ← tn_xor, ← tn_add]
  simp only [Nat.xor_assoc]

def four (n : Nat) : List UInt8 := [UInt8.ofNat (n % 256), UInt8.ofNat (n / 256 % 256), UInt8.ofNat (n / 65536 % 256), UInt8.ofNat (n / 16777216)]
def sealL (l : List UInt8) : List UInt8 := l ++ four (sumN l)
theorem ofNat_toNat (n : Nat) (h : n < 256) : (UInt8.ofNat n).toNat = n := by
  simp; omega
theorem le4_four (n : Nat) (h : n < 2 ^ 32) : le4 (UInt8.ofNat (n % 256)) (UInt8.ofNat (n / 256 % 256)) (UInt8.ofNat (n / 65536 % 256)) (UInt8.ofNat (n / 16777216)) = n := by
  unfold le4
  rw [ofNat_toNat _ (by omega), ofNat_toNat _ (by omega), ofNat_toNat _ (by omega), ofNat_toNat _ (by omega)]
  omega
theorem four_le4 (b0 b1 b2 b3 : UInt8) : four (le4 b0 b1 b2 b3) = [b0, b1, b2, b3] := by
  have h0 := b0.toNat_lt; have h1 := b1.toNat_lt; have h2 := b2.toNat_lt; have h3 := b3.toNat_lt
  unfold four le4
  have e0 : (b0.toNat + 256 * b1.toNat + 65536 * b2.toNat + 16777216 * b3.toNat) % 256 = b0.toNat := by omega
  have e1 : (b0.toNat + 256 * b1.toNat + 65536 * b2.toNat + 16777216 * b3.toNat) / 256 % 256 = b1.toNat := by omega
  have e2 : (b0.toNat + 256 * b1.toNat + 65536 * b2.toNat + 16777216 * b3.toNat) / 65536 % 256 = b2.toNat := by omega
  have e3 : (b0.toNat + 256 * b1.toNat + 65536 * b2.toNat + 16777216 * b3.toNat) / 16777216 = b3.toNat := by omega
  rw [e0, e1, e2, e3]
  simp
theorem le4_lt (b0 b1 b2 b3 : UInt8) : le4 b0 b1 b2 b3 < 2 ^ 32 := by
  have h0 := b0.toNat_lt; have h1 := b1.toNat_lt; have h2 := b2.toNat_lt; have h3 := b3.toNat_lt
  unfold le4; omega
theorem sumN_lt (l : List UInt8) : sumN l < 2 ^ 32 := Nat.xor_lt_two_pow (by omega) (crcN_lt _ _ (by omega))
theorem four_length (n : Nat) : (four n).length = 4 := rfl
theorem four_inj (m n : Nat) (hm : m < 2 ^ 32) (hn : n < 2 ^ 32) (h : four m = four n) : m = n := by
  unfold four at h
  injection h with a0 h
  injection h with a1 h
  injection h with a2 h
  injection h with a3 h
  rw [← le4_four m hm, ← le4_four n hn, a0, a1, a2, a3]
theorem residue (l : List UInt8) (x : Nat) (hx : x < 2 ^ 32) : crcN 4294967295 (l ++ four x) = tn 32 (crcN 4294967295 l ^^^ x) := by
  rw [crcN_append]
  unfold four
  rw [crc4, le4_four x hx]
theorem residue_iff (l : List UInt8) (x : Nat) (hx : x < 2 ^ 32) : crcN 4294967295 (l ++ four x) = tn 32 4294967295 ↔ x = sumN l := by
  rw [residue l x hx]
  have hc := crcN_lt 4294967295 l (by omega)
  constructor
  · intro h
    have h1 := tn_inj 32 _ _ (Nat.xor_lt_two_pow hc hx) (by omega) h
    unfold sumN
    generalize crcN 4294967295 l = c at h1
    rw [← h1, Nat.xor_comm c x, Nat.xor_assoc, Nat.xor_self]; simp
  · intro h
    subst h
    unfold sumN
    rw [Nat.xor_comm 4294967295, ← Nat.xor_assoc, Nat.xor_self]; simp
theorem compl_u32 (c : Nat) (h : c < 2 ^ 32) : 4294967295 ^^^ c = 4294967295 - c := by
  have h1 : (BitVec.allOnes 32 ^^^ BitVec.ofNat 32 c).toNat = 4294967295 ^^^ c := by
    rw [BitVec.toNat_xor, BitVec.toNat_ofNat, Nat.mod_eq_of_lt h]; rfl
  have h2 : BitVec.allOnes 32 ^^^ BitVec.ofNat 32 c = ~~~ (BitVec.ofNat 32 c) := by rw [BitVec.allOnes_xor]
  rw [← h1, h2, BitVec.toNat_not, BitVec.toNat_ofNat, Nat.mod_eq_of_lt h]
/-- the last four bytes are the sum of those ahead -/
def okSeal (t : List UInt8) : Prop := sealL (t.take (t.length - 4)) = t
theorem split4 (t : List UInt8) (h : 4 ≤ t.length) : ∃ l x, x < 2 ^ 32 ∧ t = l ++ four x ∧ t.take (t.length - 4) = l := by
  have h4 : (t.drop (t.length - 4)).length = 4 := by simp; omega
  match hd : t.drop (t.length - 4), h4 with
  | [b0, b1, b2, b3], _ =>
    refine ⟨t.take (t.length - 4), le4 b0 b1 b2 b3, le4_lt _ _ _ _, ?_, rfl⟩
    rw [four_le4, ← hd, List.take_append_drop]
theorem okSeal_iff (t : List UInt8) (h : 4 ≤ t.length) : okSeal t ↔ crcN 4294967295 t = tn 32 4294967295 := by
  obtain ⟨l, x, hx, ht, hl⟩ := split4 t h
  unfold okSeal
  rw [hl]
  conv => rhs; rw [ht]
  rw [residue_iff l x hx]
  conv => lhs; rw [ht]
  unfold sealL
  constructor
  · intro e
    exact (four_inj _ _ (sumN_lt l) hx (List.append_cancel_left e)).symm
  · intro e; rw [e]
theorem okSeal_seal (l : List UInt8) : okSeal (sealL l) := by
  unfold okSeal
  have : (sealL l).take ((sealL l).length - 4) = l := by unfold sealL; simp [four_length]
  rw [this]
instance (t : List UInt8) : Decidable (okSeal t) := by unfold okSeal; infer_instance
/-- what is opened: the bytes, the error -/
def openL (t : List UInt8) : List UInt8 × Nat := if t.length < 4 then ([], 2) else if okSeal t then (t.take (t.length - 4), 0) else ([], 4)
theorem okSeal_drop (t : List UInt8) : okSeal t ↔ t.drop (t.length - 4) = four (sumN (t.take (t.length - 4))) := by
  unfold okSeal sealL
  constructor
  · intro h
    have h2 : t.take (t.length - 4) ++ four (sumN (t.take (t.length - 4))) = t.take (t.length - 4) ++ t.drop (t.length - 4) := by rw [h, List.take_append_drop]
    exact (List.append_cancel_left h2).symm
  · intro h
    rw [← h, List.take_append_drop]
/-- a window of four bytes that is turned is found -/
theorem turned_bad (pre post : List UInt8) (a0 a1 a2 a3 b0 b1 b2 b3 : UInt8) (h : okSeal (pre ++ [a0, a1, a2, a3] ++ post)) (hne : [a0, a1, a2, a3] ≠ [b0, b1, b2, b3]) :
    ¬ okSeal (pre ++ [b0, b1, b2, b3] ++ post) := by
  intro h2
  rw [okSeal_iff _ (by simp; omega)] at h h2
  rw [← h2] at h
  have hp : crcN 4294967295 pre < 2 ^ 32 := crcN_lt _ _ (by omega)
  simp only [crcN_append] at h
  have h3 := crcN_inj _ _ post (crcN_lt _ _ hp) (crcN_lt _ _ hp) h
  rw [crc4, crc4] at h3
  have h4 := tn_inj 32 _ _ (Nat.xor_lt_two_pow hp (le4_lt _ _ _ _)) (Nat.xor_lt_two_pow hp (le4_lt _ _ _ _)) h3
  have h5 : le4 a0 a1 a2 a3 = le4 b0 b1 b2 b3 := by
    have : crcN 4294967295 pre ^^^ (crcN 4294967295 pre ^^^ le4 a0 a1 a2 a3) = crcN 4294967295 pre ^^^ (crcN 4294967295 pre ^^^ le4 b0 b1 b2 b3) := by rw [h4]
    simpa [← Nat.xor_assoc] using this
  apply hne
  rw [← four_le4, ← four_le4, h5]
theorem seal_inj (a b : List UInt8) (h : sealL a = sealL b) : a = b := by
  have ha : (sealL a).take ((sealL a).length - 4) = a := by unfold sealL; simp [four_length]
  have hb : (sealL b).take ((sealL b).length - 4) = b := by unfold sealL; simp [four_length]
  rw [← ha, ← hb, h]

/-- the document's way: the byte's bits are put in one by one -/
def dstep (b : Nat) : Nat → Nat → Nat → Nat
  | 0, _, c => c
  | n + 1, k, c => dstep b n (k + 1) ((c / 2) ^^^ (if (c + b / 2 ^ k) % 2 = 1 then poly else 0))
theorem dstep_tn (b : Nat) : ∀ n k c, n + k = 8 → b < 256 → dstep b n k c = tn n (c ^^^ b / 2 ^ k) := by
  intro n
  induction n with
  | zero =>
    intro k c hk hb
    have : b / 2 ^ k = 0 := Nat.div_eq_of_lt (by have : k = 8 := by omega
                                                 subst this; omega)
    simp [dstep, tn, this]
  | succ n ih =>
    intro k c hk hb
    simp only [dstep, tn]
    rw [ih (k + 1) _ (by omega) hb]
    congr 1
    unfold t1
    have e : (c ^^^ b / 2 ^ k) % 2 = (c + b / 2 ^ k) % 2 := by rw [xor_mod2]; omega
    have e2 : b / 2 ^ (k + 1) = b / 2 ^ k / 2 := by rw [Nat.pow_succ, Nat.div_div_eq_div_mul]
    rw [xor_div2, e, e2, Nat.xor_assoc, Nat.xor_assoc, Nat.xor_comm (b / 2 ^ k / 2)]
end Go.Proofs.Ythjoamldmcnodaa
