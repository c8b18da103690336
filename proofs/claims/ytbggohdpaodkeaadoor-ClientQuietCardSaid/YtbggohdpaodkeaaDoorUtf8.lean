/- The plain law of UTF-8: the letter at the beginning of bytes, as the model decodes it and as the document tells it. No program in sight. -/
import GoSem.Core.Utf8
namespace Go.Proofs.YtbggohdpaodkeaaDoor
/-- the byte at k, 0 behind the end -/
def ub (l : List UInt8) (k : Nat) : Nat := (l[k]?.getD 0).toNat
def contL (l : List UInt8) (k : Nat) : Bool := decide (k < l.length) && ub l k / 64 == 2
def okC (c : Nat) : Prop := (c < 55296 ∨ 57344 ≤ c) ∧ c ≤ 1114111
instance (c : Nat) : Decidable (okC c) := by unfold okC; infer_instance
def decG (b0 b1 b2 b3 : Nat) (c1 c2 c3 : Bool) : Nat × Nat :=
  if b0 < 128 then (b0, 1)
  else if b0 / 32 = 6 ∧ c1 = true then if 128 ≤ (b0 % 32) * 64 + b1 % 64 then ((b0 % 32) * 64 + b1 % 64, 2) else (65533, 1)
  else if b0 / 16 = 14 ∧ c1 = true ∧ c2 = true then
    if 2048 ≤ (b0 % 16) * 4096 + (b1 % 64) * 64 + b2 % 64 ∧ okC ((b0 % 16) * 4096 + (b1 % 64) * 64 + b2 % 64) then ((b0 % 16) * 4096 + (b1 % 64) * 64 + b2 % 64, 3) else (65533, 1)
  else if b0 / 8 = 30 ∧ c1 = true ∧ c2 = true ∧ c3 = true then
    if 65536 ≤ (b0 % 8) * 262144 + (b1 % 64) * 4096 + (b2 % 64) * 64 + b3 % 64 ∧ okC ((b0 % 8) * 262144 + (b1 % 64) * 4096 + (b2 % 64) * 64 + b3 % 64) then
      ((b0 % 8) * 262144 + (b1 % 64) * 4096 + (b2 % 64) * 64 + b3 % 64, 4) else (65533, 1)
  else (65533, 1)
/-- code point and width of the letter at the beginning: (65533, 1) where there is no UTF-8 -/
def decL (l : List UInt8) : Nat × Nat := decG (ub l 0) (ub l 1) (ub l 2) (ub l 3) (contL l 1) (contL l 2) (contL l 3)
theorem ub_lt (l : List UInt8) (k : Nat) : ub l k < 256 := UInt8.toNat_lt _
theorem ub_drop (l : List UInt8) (i k : Nat) : ub (l.drop i) k = ub l (i + k) := by unfold ub; rw [List.getElem?_drop]
theorem get_ub (l : List UInt8) (k : Nat) : ((⟨l.toArray⟩ : ByteArray).get! k).toNat = ub l k := by
  unfold ub ByteArray.get!
  simp
  rfl
theorem cont_ub (l : List UInt8) (i k : Nat) (hk : 0 < k) : (decide (i + k < (⟨l.toArray⟩ : ByteArray).size) && ((⟨l.toArray⟩ : ByteArray).get! (i + k)).toNat / 64 == 2) = contL (l.drop i) k := by
  have hz : (⟨l.toArray⟩ : ByteArray).size = l.length := by show l.toArray.size = _; simp
  unfold contL
  rw [get_ub, ub_drop, hz, List.length_drop]
  have : decide (i + k < l.length) = decide (k < l.length - i) := by
    rw [decide_eq_decide]; omega
  rw [this]
theorem valid_ok (c : Nat) : Utf8.valid (c : Int) = decide (okC c) := by
  unfold Utf8.valid
  rw [Bool.eq_iff_iff, decide_eq_true_eq]
  unfold okC
  simp only [Bool.or_eq_true, Bool.and_eq_true, decide_eq_true_eq]
  omega
theorem decode_eq (l : List UInt8) (i : Nat) : Utf8.decode ⟨l.toArray⟩ i = decL (l.drop i) := by
  unfold Utf8.decode decL decG Utf8.runeError
  simp only [cont_ub l i 1 (by omega), cont_ub l i 2 (by omega), cont_ub l i 3 (by omega)]
  simp only [get_ub, ← ub_drop, Bool.and_eq_true, beq_iff_eq, ge_iff_le, valid_ok, decide_eq_true_eq, and_assoc]
theorem decL_pos (l : List UInt8) : 1 ≤ (decL l).2 ∧ (decL l).2 ≤ 4 := by
  unfold decL decG
  repeat' split
  all_goals simp
theorem contL_lt {l : List UInt8} {k : Nat} (h : contL l k = true) : k < l.length ∧ 128 ≤ ub l k ∧ ub l k < 192 := by
  unfold contL at h
  simp at h
  refine ⟨h.1, ?_, ?_⟩ <;> omega
theorem contL_iff (l : List UInt8) (k : Nat) : contL l k = true ↔ k < l.length ∧ 128 ≤ ub l k ∧ ub l k < 192 := by
  refine ⟨contL_lt, fun h => ?_⟩
  unfold contL
  simp
  exact ⟨h.1, by omega⟩
theorem decL_le (l : List UInt8) (h : l ≠ []) : (decL l).2 ≤ l.length := by
  have h0 : 0 < l.length := List.length_pos_iff.2 h
  unfold decL decG
  repeat' split
  all_goals first | (simp; omega) | skip
  all_goals
    rename_i hh _
    simp only
    first
      | (have := (contL_lt hh.2.2.2).1; omega)
      | (have := (contL_lt hh.2.2).1; omega)
      | (have := (contL_lt hh.2).1; omega)
theorem decL_max (l : List UInt8) : (decL l).1 ≤ 1114111 := by
  have h0 := ub_lt l 0
  unfold decL decG
  repeat' split
  all_goals simp only
  all_goals first | omega | skip
  all_goals
    rename_i hh
    have := hh.2.2
    omega
/-- U+FFFD has three bytes, where it is one of the text's own -/
theorem decL_err (l : List UInt8) (h : (decL l).1 = 65533) : (decL l).2 = 1 ∨ (decL l).2 = 3 := by
  have h0 := ub_lt l 0
  revert h
  unfold decL decG
  repeat' split
  all_goals intro h
  all_goals dsimp only at h ⊢
  all_goals omega
/-- the document's letter -/
def letL (l : List UInt8) : Int × Nat := if decL l = (65533, 1) then (-1, 1) else ((decL l).1, (decL l).2)
def finR (a n least : Nat) : Int × Nat := if a < least ∨ 1114111 < a ∨ (55296 ≤ a ∧ a < 57344) then (-1, 1) else (a, n)
def letR (b0 b1 b2 b3 len : Nat) : Int × Nat :=
  if b0 < 128 then (b0, 1)
  else if 194 ≤ b0 ∧ b0 < 224 then if len < 2 then (-1, 1) else if b1 < 128 ∨ 191 < b1 then (-1, 1) else finR (64 * (b0 - 192) + b1 - 128) 2 128
  else if 224 ≤ b0 ∧ b0 < 240 then if len < 3 then (-1, 1) else if b1 < 128 ∨ 191 < b1 then (-1, 1) else if b2 < 128 ∨ 191 < b2 then (-1, 1) else finR (64 * (64 * (b0 - 224) + b1 - 128) + b2 - 128) 3 2048
  else if 240 ≤ b0 ∧ b0 < 245 then if len < 4 then (-1, 1) else if b1 < 128 ∨ 191 < b1 then (-1, 1) else if b2 < 128 ∨ 191 < b2 then (-1, 1) else if b3 < 128 ∨ 191 < b3 then (-1, 1) else
    finR (64 * (64 * (64 * (b0 - 240) + b1 - 128) + b2 - 128) + b3 - 128) 4 65536
  else (-1, 1)
theorem letL_of (l : List UInt8) (c n : Nat) (h : decL l = (c, n)) (hne : ¬ (c = 65533 ∧ n = 1)) : letL l = ((c : Int), n) := by
  unfold letL
  rw [h, if_neg (by intro e; injection e with e1 e2; exact hne ⟨e1, e2⟩)]
theorem letL_bad (l : List UInt8) (h : decL l = (65533, 1)) : letL l = (-1, 1) := by
  unfold letL; rw [if_pos h]
theorem dec_two (l : List UInt8) (h1 : 194 ≤ ub l 0) (h2 : ub l 0 < 224) (hc : contL l 1 = true) : decL l = ((ub l 0 % 32) * 64 + ub l 1 % 64, 2) := by
  unfold decL decG
  rw [if_neg (by omega), if_pos ⟨by omega, hc⟩, if_pos (by omega)]
theorem dec_bad2 (l : List UInt8) (h1 : 128 ≤ ub l 0) (h2 : ub l 0 < 224) (hc : ub l 0 < 194 ∨ contL l 1 = false) : decL l = (65533, 1) := by
  have hz : ∀ h : ub l 0 / 32 = 6 ∧ contL l 1 = true, ¬ 128 ≤ (ub l 0 % 32) * 64 + ub l 1 % 64 := by
    intro h
    rcases hc with hc | hc
    · omega
    · rw [hc] at h; simp at h
  unfold decL decG
  rw [if_neg (by omega)]
  split
  · rename_i h
    rw [if_neg (hz h)]
  · rw [if_neg (by omega), if_neg (by omega)]
theorem dec_three (l : List UInt8) (h1 : 224 ≤ ub l 0) (h2 : ub l 0 < 240) (hc : contL l 1 = true ∧ contL l 2 = true) :
    decL l = if 2048 ≤ (ub l 0 % 16) * 4096 + (ub l 1 % 64) * 64 + ub l 2 % 64 ∧ okC ((ub l 0 % 16) * 4096 + (ub l 1 % 64) * 64 + ub l 2 % 64) then ((ub l 0 % 16) * 4096 + (ub l 1 % 64) * 64 + ub l 2 % 64, 3) else (65533, 1) := by
  unfold decL decG
  rw [if_neg (by omega), if_neg (by omega), if_pos ⟨by omega, hc⟩]
theorem dec_bad3 (l : List UInt8) (h1 : 224 ≤ ub l 0) (h2 : ub l 0 < 240) (hc : ¬ (contL l 1 = true ∧ contL l 2 = true)) : decL l = (65533, 1) := by
  unfold decL decG
  rw [if_neg (by omega), if_neg (by omega), if_neg (fun h => hc h.2), if_neg (by omega)]
theorem dec_four (l : List UInt8) (h1 : 240 ≤ ub l 0) (h2 : ub l 0 < 248) (hc : contL l 1 = true ∧ contL l 2 = true ∧ contL l 3 = true) :
    decL l = if 65536 ≤ (ub l 0 % 8) * 262144 + (ub l 1 % 64) * 4096 + (ub l 2 % 64) * 64 + ub l 3 % 64 ∧ okC ((ub l 0 % 8) * 262144 + (ub l 1 % 64) * 4096 + (ub l 2 % 64) * 64 + ub l 3 % 64) then
      ((ub l 0 % 8) * 262144 + (ub l 1 % 64) * 4096 + (ub l 2 % 64) * 64 + ub l 3 % 64, 4) else (65533, 1) := by
  unfold decL decG
  rw [if_neg (by omega), if_neg (by omega), if_neg (by omega), if_pos ⟨by omega, hc⟩]
theorem dec_bad4 (l : List UInt8) (h1 : 240 ≤ ub l 0) (hc : ¬ (contL l 1 = true ∧ contL l 2 = true ∧ contL l 3 = true)) : decL l = (65533, 1) := by
  unfold decL decG
  rw [if_neg (by omega), if_neg (by have := ub_lt l 0; omega), if_neg (by omega), if_neg (fun h => hc h.2)]
theorem dec_high (l : List UInt8) (h1 : 245 ≤ ub l 0) : decL l = (65533, 1) := by
  by_cases hc : contL l 1 = true ∧ contL l 2 = true ∧ contL l 3 = true
  · by_cases h8 : ub l 0 < 248
    · rw [dec_four l (by omega) h8 hc, if_neg]
      intro h
      have := h.2.2
      omega
    · unfold decL decG
      have := ub_lt l 0
      rw [if_neg (by omega), if_neg (by omega), if_neg (by omega), if_neg (by omega)]
  · exact dec_bad4 l (by omega) hc
theorem fin_eq (l : List UInt8) (a c n least : Nat) (hac : a = c) (hn : n ≠ 1) (h : decL l = if least ≤ c ∧ okC c then (c, n) else (65533, 1)) : letL l = finR a n least := by
  subst hac
  unfold finR
  by_cases hh : least ≤ a ∧ okC a
  · rw [if_pos hh] at h
    rw [letL_of l a n h (by omega), if_neg]
    have h1 := hh.1
    have h2 := hh.2
    unfold okC at h2
    omega
  · rw [if_neg hh] at h
    rw [letL_bad l h, if_pos]
    unfold okC at hh
    omega
theorem letR_eq (l : List UInt8) : letL l = letR (ub l 0) (ub l 1) (ub l 2) (ub l 3) l.length := by
  unfold letR
  have b1 := contL_iff l 1
  have b2 := contL_iff l 2
  have b3 := contL_iff l 3
  by_cases h0 : ub l 0 < 128
  · rw [if_pos h0]
    exact letL_of l _ 1 (by unfold decL decG; rw [if_pos h0]) (by omega)
  · rw [if_neg h0]
    by_cases h2 : 194 ≤ ub l 0 ∧ ub l 0 < 224
    · rw [if_pos h2]
      by_cases hc : contL l 1 = true
      · have hk := b1.1 hc
        rw [if_neg (by omega), if_neg (by omega)]
        refine fin_eq l _ ((ub l 0 % 32) * 64 + ub l 1 % 64) 2 128 (by omega) (by omega) ?_
        rw [dec_two l h2.1 h2.2 hc, if_pos]
        unfold okC
        omega
      · have hbad := letL_bad l (dec_bad2 l (by omega) h2.2 (.inr (by simpa using hc)))
        have hk : ¬ (1 < l.length ∧ 128 ≤ ub l 1 ∧ ub l 1 < 192) := fun h => hc (b1.2 h)
        rw [hbad]
        by_cases hl : l.length < 2
        · rw [if_pos hl]
        · rw [if_neg hl, if_pos (by omega)]
    · rw [if_neg h2]
      by_cases h3 : 224 ≤ ub l 0 ∧ ub l 0 < 240
      · rw [if_pos h3]
        by_cases hc : contL l 1 = true ∧ contL l 2 = true
        · have hk1 := b1.1 hc.1
          have hk2 := b2.1 hc.2
          rw [if_neg (by omega), if_neg (by omega), if_neg (by omega)]
          exact fin_eq l _ ((ub l 0 % 16) * 4096 + (ub l 1 % 64) * 64 + ub l 2 % 64) 3 2048 (by omega) (by omega) (dec_three l h3.1 h3.2 hc)
        · rw [letL_bad l (dec_bad3 l h3.1 h3.2 hc)]
          rw [b1, b2] at hc
          by_cases hl : l.length < 3
          · rw [if_pos hl]
          · rw [if_neg hl]
            by_cases hd : ub l 1 < 128 ∨ 191 < ub l 1
            · rw [if_pos hd]
            · rw [if_neg hd, if_pos (by omega)]
      · rw [if_neg h3]
        by_cases h4 : 240 ≤ ub l 0 ∧ ub l 0 < 245
        · rw [if_pos h4]
          by_cases hc : contL l 1 = true ∧ contL l 2 = true ∧ contL l 3 = true
          · have hk1 := b1.1 hc.1
            have hk2 := b2.1 hc.2.1
            have hk3 := b3.1 hc.2.2
            rw [if_neg (by omega), if_neg (by omega), if_neg (by omega), if_neg (by omega)]
            exact fin_eq l _ ((ub l 0 % 8) * 262144 + (ub l 1 % 64) * 4096 + (ub l 2 % 64) * 64 + ub l 3 % 64) 4 65536 (by omega) (by omega) (dec_four l h4.1 (by omega) hc)
          · rw [letL_bad l (dec_bad4 l h4.1 hc)]
            rw [b1, b2, b3] at hc
            by_cases hl : l.length < 4
            · rw [if_pos hl]
            · rw [if_neg hl]
              by_cases hd : ub l 1 < 128 ∨ 191 < ub l 1
              · rw [if_pos hd]
              · rw [if_neg hd]
                by_cases he : ub l 2 < 128 ∨ 191 < ub l 2
                · rw [if_pos he]
                · rw [if_neg he, if_pos (by omega)]
        · rw [if_neg h4]
          by_cases h5 : 245 ≤ ub l 0
          · exact letL_bad l (dec_high l h5)
          · exact letL_bad l (dec_bad2 l (by omega) (by omega) (.inl (by omega)))
/-- is a letter plain? -/
def plainB (c n : Nat) : Bool := decide (33 ≤ c) && (decide (c < 127) || decide (159 < c)) && (!(c == 65533) || n == 3)
def plainR (c : Int) : Bool := decide (32 < c) && !(c == 127) && (decide (c < 128) || decide (159 < c))
theorem plain_eq (l : List UInt8) : plainB (decL l).1 (decL l).2 = plainR (letL l).1 := by
  unfold letL
  have he := decL_err l
  generalize decL l = d at *
  obtain ⟨c, n⟩ := d
  simp only at *
  unfold plainB plainR
  by_cases h : (c, n) = (65533, 1)
  · rw [if_pos h]
    injection h with h1 h2
    subst h1 h2
    rfl
  · rw [if_neg h]
    rw [Bool.eq_iff_iff]
    simp at h ⊢
    omega
end Go.Proofs.YtbggohdpaodkeaaDoor
