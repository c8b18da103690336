/- The plain law of numbers as bytes: written, taken, short, apart. No program in sight. -/
namespace Go.Proofs.Ythjoamldmcnodaa
/-- the bytes of a number, the lowest seven bits first -/
def putF : Nat → Nat → List UInt8
  | 0, _ => []
  | f + 1, n => if n < 128 then [UInt8.ofNat n] else UInt8.ofNat (n % 128 + 128) :: putF f (n / 128)
def putL (n : Nat) : List UInt8 := putF 9 n
/-- where the number ends -/
def endOf : List UInt8 → Nat
  | [] => 0
  | b :: l => if b.toNat < 128 then 0 else endOf l + 1
def valL : List UInt8 → Nat
  | [] => 0
  | b :: l => b.toNat % 128 + 128 * valL l
def byteAt (l : List UInt8) (k : Nat) : Nat := (l[k]?.getD 0).toNat
/-- number, rest, error -/
def takeL (l : List UInt8) : Nat × List UInt8 × Nat :=
  if endOf l = l.length then (0, [], 2)
  else if 8 < endOf l then (0, [], 3)
  else if 0 < endOf l ∧ byteAt l (endOf l) = 0 then (0, [], 3)
  else (valL (l.take (endOf l + 1)), l.drop (endOf l + 1), 0)

theorem endOf_le (l : List UInt8) : endOf l ≤ l.length := by
  induction l with
  | nil => simp [endOf]
  | cons b l ih => simp only [endOf]; split <;> simp <;> omega
theorem byteAt_lt (l : List UInt8) (k : Nat) : byteAt l k < 256 := by unfold byteAt; exact UInt8.toNat_lt _
theorem endOf_before (l : List UInt8) : ∀ j, j < endOf l → 128 ≤ byteAt l j := by
  induction l with
  | nil => intro j h; simp [endOf] at h
  | cons b l ih =>
    intro j h
    simp only [endOf] at h
    split at h
    · omega
    · cases j with
      | zero => simp [byteAt]; omega
      | succ j => have := ih j (by omega); simpa [byteAt] using this
theorem endOf_at (l : List UInt8) (h : endOf l < l.length) : byteAt l (endOf l) < 128 := by
  induction l with
  | nil => simp [endOf] at h
  | cons b l ih =>
    simp only [endOf] at h ⊢
    split
    · simpa [byteAt]
    · rw [if_neg (by assumption)] at h
      have := ih (by simpa using h)
      simpa [byteAt] using this
theorem endOf_ge (l : List UInt8) (k : Nat) (hk : k ≤ l.length) (h : ∀ j, j < k → 128 ≤ byteAt l j) : k ≤ endOf l := by
  apply Nat.le_of_not_lt
  intro hlt
  have h1 := endOf_at l (by omega)
  have := h _ hlt
  omega
theorem endOf_eq (l : List UInt8) (k : Nat) (hk : k < l.length) (h : ∀ j, j < k → 128 ≤ byteAt l j) (h2 : byteAt l k < 128) : endOf l = k := by
  have h1 := endOf_ge l k (by omega) h
  apply Nat.le_antisymm _ h1
  apply Nat.le_of_not_lt
  intro hlt
  have := endOf_before l k hlt
  omega
theorem endOf_all (l : List UInt8) (h : ∀ j, j < l.length → 128 ≤ byteAt l j) : endOf l = l.length :=
  Nat.le_antisymm (endOf_le l) (endOf_ge l _ (Nat.le_refl _) h)

theorem valL_append (a b : List UInt8) : valL (a ++ b) = valL a + 128 ^ a.length * valL b := by
  induction a with
  | nil => simp [valL]
  | cons x a ih => simp only [List.cons_append, valL, ih, List.length_cons, Nat.pow_succ, Nat.mul_add]; rw [Nat.mul_comm (128 ^ a.length) 128, Nat.mul_assoc]; omega
theorem valL_lt (l : List UInt8) : valL l < 128 ^ l.length := by
  induction l with
  | nil => simp [valL]
  | cons b l ih => simp only [valL, List.length_cons, Nat.pow_succ]; omega
theorem valL_snoc (l : List UInt8) (k : Nat) (hk : k < l.length) : valL (l.take (k + 1)) = valL (l.take k) + 128 ^ k * (byteAt l k % 128) := by
  rw [List.take_succ_eq_append_getElem hk, valL_append]
  simp [valL, byteAt, hk, Nat.min_eq_left (Nat.le_of_lt hk)]

theorem putF_len (f n : Nat) : (putF f n).length ≤ f := by
  induction f generalizing n with
  | zero => simp [putF]
  | succ f ih => simp only [putF]; split <;> simp; exact ih _
theorem putF_pos (f n : Nat) : 0 < (putF (f + 1) n).length := by
  simp only [putF]; split <;> simp
theorem ofNat_small (n : Nat) (h : n < 256) : (UInt8.ofNat n).toNat = n := by simp; omega
theorem putF_end (f n : Nat) (more : List UInt8) (h : n < 128 ^ (f + 1)) : endOf (putF (f + 1) n ++ more) + 1 = (putF (f + 1) n).length := by
  induction f generalizing n with
  | zero => simp [putF, h, endOf, ofNat_small n (by omega)]
  | succ f ih =>
    rw [putF]
    split
    · simp [endOf, ofNat_small n (by omega)]; assumption
    · simp only [List.cons_append, endOf, List.length_cons]
      rw [ofNat_small _ (by omega), if_neg (by omega), ih (n / 128) (by rw [Nat.pow_succ] at h; omega)]
theorem putF_val (f n : Nat) (h : n < 128 ^ (f + 1)) : valL (putF (f + 1) n) = n := by
  induction f generalizing n with
  | zero => simp [putF, h, valL, ofNat_small n (by omega)]
  | succ f ih =>
    rw [putF]
    split
    · simp only [valL]; rw [ofNat_small n (by omega)]; omega
    · simp only [valL]
      rw [ofNat_small _ (by omega), ih (n / 128) (by rw [Nat.pow_succ] at h; omega)]
      omega
/-- the last byte is zero just for the number 0 -/
theorem putF_last (f n : Nat) (more : List UInt8) (h : n < 128 ^ (f + 1)) : byteAt (putF (f + 1) n ++ more) (endOf (putF (f + 1) n ++ more)) = 0 → (putF (f + 1) n).length = 1 ∧ n = 0 := by
  induction f generalizing n with
  | zero =>
    rw [putF, if_pos (by omega)]
    simp only [List.cons_append, List.nil_append, endOf]
    rw [ofNat_small n (by omega), if_pos (by omega)]
    simp [byteAt]; omega
  | succ f ih =>
    rw [putF]
    split
    · simp only [List.cons_append, List.nil_append, endOf]
      rw [ofNat_small n (by omega), if_pos (by omega)]
      simp [byteAt]; omega
    · simp only [List.cons_append, endOf]
      rw [ofNat_small _ (by omega), if_neg (by omega)]
      intro h0
      have := ih (n / 128) (by rw [Nat.pow_succ] at h; omega) (by simpa [byteAt] using h0)
      omega
theorem take_put (n : Nat) (more : List UInt8) (h : n < 2 ^ 63) : takeL (putL n ++ more) = (n, more, 0) := by
  have h9 : n < 128 ^ (8 + 1) := by omega
  have he := putF_end 8 n more h9
  have hl : (putF 9 n).length ≤ 9 := putF_len 9 n
  have hz := putF_last 8 n more h9
  have hv := putF_val 8 n h9
  simp only [Nat.reduceAdd] at he hz hv
  unfold takeL putL
  rw [if_neg (by simp; omega), if_neg (by omega), if_neg (by intro hh; have := hz hh.2; omega)]
  rw [he]
  simp [hv]
/-- any bytes that end a number are its own, if the last isn't an idle zero -/
theorem put_val (l : List UInt8) : ∀ f, l ≠ [] → l.length ≤ f → (∀ j, j + 1 < l.length → 128 ≤ byteAt l j) → byteAt l (l.length - 1) < 128 → (1 < l.length → byteAt l (l.length - 1) ≠ 0) → putF f (valL l) = l := by
  induction l with
  | nil => intro f h; exact absurd rfl h
  | cons b l ih =>
    intro f _ hf hb hlast hz
    cases f with
    | zero => simp at hf
    | succ f =>
      cases l with
      | nil =>
        have : b.toNat < 128 := by simpa [byteAt] using hlast
        simp [putF, valL, Nat.mod_eq_of_lt this, this]
      | cons c l =>
        have h0 : 128 ≤ b.toNat := by have := hb 0 (by simp); simpa [byteAt] using this
        have hz' : byteAt (c :: l) ((c :: l).length - 1) ≠ 0 := by have := hz (by simp); simpa [byteAt] using this
        have hlast' : byteAt (c :: l) ((c :: l).length - 1) < 128 := by simpa [byteAt] using hlast
        have ih' := ih f (by simp) (by simpa using hf) (fun j hj => by have := hb (j + 1) (by simpa using hj); simpa [byteAt] using this) hlast' (fun _ => hz')
        have hpos : 0 < valL (c :: l) := by
          apply Nat.pos_of_ne_zero
          intro h0
          rw [h0] at ih'
          cases f with
          | zero => simp [putF] at ih'
          | succ f =>
            simp [putF] at ih'
            obtain ⟨e, e'⟩ := ih'
            subst e'
            apply hz'
            rw [← e]
            simp [byteAt]
        have hbl := b.toNat_lt
        rw [putF, if_neg (by rw [valL]; omega)]
        have e1 : valL (b :: c :: l) / 128 = valL (c :: l) := by rw [valL]; omega
        have e2 : valL (b :: c :: l) % 128 + 128 = b.toNat := by rw [valL]; omega
        rw [e1, e2, ih']
        simp
theorem byteAt_take (l : List UInt8) (m k : Nat) (h : k < m) : byteAt (l.take m) k = byteAt l k := by
  simp [byteAt, h]
theorem take_ok (l : List UInt8) (n : Nat) (r : List UInt8) (h : takeL l = (n, r, 0)) : n < 2 ^ 63 ∧ l = putL n ++ r ∧ n = valL (l.take (endOf l + 1)) ∧ r = l.drop (endOf l + 1) := by
  unfold takeL at h
  split at h
  · simp at h
  split at h
  · simp at h
  split at h
  · simp at h
  rename_i h1 h2 h3
  simp only [Prod.mk.injEq] at h
  obtain ⟨rfl, rfl, _⟩ := h
  have hle := endOf_le l
  have hlen : (l.take (endOf l + 1)).length = endOf l + 1 := by simp; omega
  refine ⟨?_, ?_, rfl, rfl⟩
  · have := valL_lt (l.take (endOf l + 1))
    rw [hlen] at this
    exact Nat.lt_of_lt_of_le this (Nat.le_trans (Nat.pow_le_pow_right (by omega) (show endOf l + 1 ≤ 9 by omega)) (by omega))
  · unfold putL
    rw [put_val (l.take (endOf l + 1)) 9 (by intro hn; rw [hn] at hlen; simp at hlen) (by omega)]
    · simp
    · intro j hj
      rw [byteAt_take _ _ _ (by omega)]
      exact endOf_before l j (by omega)
    · rw [byteAt_take _ _ _ (by omega), hlen]
      exact endOf_at l (by omega)
    · intro hgt
      rw [byteAt_take _ _ _ (by omega), hlen]
      simp only [Nat.add_sub_cancel]
      intro h0
      exact h3 ⟨by omega, h0⟩
theorem take_err (l : List UInt8) (h : (takeL l).2.2 ≠ 0) : (takeL l).1 = 0 ∧ (takeL l).2.1 = [] ∧ ((takeL l).2.2 = 2 ∨ (takeL l).2.2 = 3) := by
  unfold takeL at h ⊢
  split
  · simp
  split
  · simp
  split
  · simp
  · simp_all
theorem put_inj (m n : Nat) (hm : m < 2 ^ 63) (hn : n < 2 ^ 63) (a b : List UInt8) (h : putL m ++ a = putL n ++ b) : m = n ∧ a = b := by
  have h1 := take_put m a hm
  rw [h, take_put n b hn] at h1
  simp at h1
  exact ⟨h1.1.symm, h1.2.symm⟩
theorem put_short (n k : Nat) (h : n < 2 ^ 63) (hk : k < (putL n).length) : takeL ((putL n).take k) = (0, [], 2) := by
  have h9 : n < 128 ^ (8 + 1) := by omega
  have he := putF_end 8 n [] h9
  rw [List.append_nil] at he
  unfold takeL
  rw [if_pos]
  apply endOf_all
  intro j hj
  have hj' : j < k := by simp at hj; omega
  rw [byteAt_take _ _ _ hj']
  apply endOf_before
  unfold putL at hk ⊢
  simp only [Nat.reduceAdd] at he
  omega
/-- the digits to the base 128, the lowest first -/
def digF : Nat → Nat → List Nat
  | 0, _ => []
  | f + 1, n => if n < 128 then [n] else n % 128 :: digF f (n / 128)
theorem putF_dig (f n : Nat) : (putF f n).length = (digF f n).length := by
  induction f generalizing n with
  | zero => rfl
  | succ f ih => simp only [putF, digF]; split <;> simp [ih]
theorem putF_at (f n i : Nat) (hf : n < 128 ^ f) (h : i < (digF f n).length) : (putF f n)[i]? = some (UInt8.ofNat (((digF f n)[i]?.getD 0) + if i + 1 < (digF f n).length then 128 else 0)) := by
  induction f generalizing n i with
  | zero => simp [digF] at h
  | succ f ih =>
    simp only [putF, digF] at h ⊢
    by_cases hn : n < 128
    · simp only [if_pos hn] at h ⊢
      simp at h
      subst h
      simp
    · simp only [if_neg hn] at h ⊢
      have hf' : n / 128 < 128 ^ f := by rw [Nat.pow_succ] at hf; omega
      cases i with
      | zero =>
        have hp : 0 < (digF f (n / 128)).length := by
          cases f with
          | zero => simp at hf'; omega
          | succ f => simp only [digF]; split <;> simp
        simp only [List.length_cons, List.getElem?_cons_zero, Option.getD_some]
        rw [if_pos (by omega)]
      | succ i =>
        have := ih (n / 128) i hf' (by simpa using h)
        simpa using this
theorem digF_lt (f n : Nat) : ∀ x ∈ digF f n, x < 128 := by
  induction f generalizing n with
  | zero => simp [digF]
  | succ f ih =>
    intro x hx
    simp only [digF] at hx
    split at hx
    · simp at hx; omega
    · simp at hx
      rcases hx with h | h
      · omega
      · exact ih _ x h
def flagL (on : Bool) : List UInt8 := if on then [1] else [0]
def takeFlagL : List UInt8 → Bool × List UInt8 × Nat
  | [] => (false, [], 2)
  | b :: r => if 1 < b.toNat then (false, [], 3) else (b.toNat == 1, r, 0)
def textL (s : List UInt8) : List UInt8 := putL s.length ++ s
def takeTextL (l : List UInt8) : List UInt8 × List UInt8 × Nat :=
  if (takeL l).2.2 ≠ 0 then ([], [], (takeL l).2.2)
  else if (takeL l).2.1.length < (takeL l).1 then ([], [], 2)
  else ((takeL l).2.1.take (takeL l).1, (takeL l).2.1.drop (takeL l).1, 0)
theorem takeFlag_flag (on : Bool) (more : List UInt8) : takeFlagL (flagL on ++ more) = (on, more, 0) := by
  cases on <;> rfl
theorem takeText_text (s more : List UInt8) (h : s.length < 2 ^ 63) : takeTextL (textL s ++ more) = (s, more, 0) := by
  unfold takeTextL textL
  rw [List.append_assoc, take_put _ _ h]
  simp
theorem putL_len (n : Nat) : (putL n).length ≤ 9 := putF_len 9 n
theorem putL_pos (n : Nat) : 0 < (putL n).length := putF_pos 8 n
end Go.Proofs.Ythjoamldmcnodaa
