/- The plain law of keys, on: a letter's bytes are told by its code point; letters tell the key; the order of keys is that of their bytes. No program in sight. -/
import Derived.Test.YtbggohdpaodkeaaDoorKey
import Derived.Lib.RuneBytes
namespace Go.Proofs.YtbggohdpaodkeaaDoor
theorem take_one (l : List UInt8) (h : 0 < l.length) : l.take 1 = [UInt8.ofNat (ub l 0)] := by
  match l, h with
  | x :: r, _ => simp [ub]
theorem take_two (l : List UInt8) (h : 1 < l.length) : l.take 2 = [UInt8.ofNat (ub l 0), UInt8.ofNat (ub l 1)] := by
  match l, h with
  | x :: y :: r, _ => simp [ub]
theorem take_three (l : List UInt8) (h : 2 < l.length) : l.take 3 = [UInt8.ofNat (ub l 0), UInt8.ofNat (ub l 1), UInt8.ofNat (ub l 2)] := by
  match l, h with
  | x :: y :: z :: r, _ => simp [ub]
theorem take_four (l : List UInt8) (h : 3 < l.length) : l.take 4 = [UInt8.ofNat (ub l 0), UInt8.ofNat (ub l 1), UInt8.ofNat (ub l 2), UInt8.ofNat (ub l 3)] := by
  match l, h with
  | x :: y :: z :: t :: r, _ => simp [ub]
/-- the bytes of a letter are told by its code point, where there is UTF-8 -/
theorem take_enc (l : List UInt8) (hl : l ≠ []) (hne : decL l ≠ (65533, 1)) : l.take (decL l).2 = Lib.encodeRune (decL l).1 := by
  have h0 : 0 < l.length := List.length_pos_iff.2 hl
  have hb := ub_lt l 0
  revert hne
  unfold decL decG
  split
  · intro _
    rw [take_one l h0]
    simp only [Lib.encodeRune]
    rw [Lib.encodeRuneZ_one (by omega) (by omega)]
    simp
  · split
    · rename_i h2
      have hc1 := contL_lt h2.2
      split
      · intro _
        rw [take_two l hc1.1]
        simp only [Lib.encodeRune]
        rw [Lib.encodeRuneZ_two (by omega) (by omega)]
        simp only [List.map_cons, List.map_nil]
        rw [show ((192 : Int) + (((ub l 0 % 32) * 64 + ub l 1 % 64 : Nat) : Int) / 64).toNat = ub l 0 by omega, show ((128 : Int) + (((ub l 0 % 32) * 64 + ub l 1 % 64 : Nat) : Int) % 64).toNat = ub l 1 by omega]
      · intro h; exact absurd rfl h
    · split
      · rename_i h3
        have hc1 := contL_lt h3.2.1
        have hc2 := contL_lt h3.2.2
        split
        · rename_i h4
          intro _
          have hok := h4.2
          unfold okC at hok
          rw [take_three l hc2.1]
          simp only [Lib.encodeRune]
          rw [Lib.encodeRuneZ_three (by omega)]
          simp only [List.map_cons, List.map_nil]
          rw [show ((224 : Int) + (((ub l 0 % 16) * 4096 + (ub l 1 % 64) * 64 + ub l 2 % 64 : Nat) : Int) / 4096).toNat = ub l 0 by omega,
            show ((128 : Int) + (((ub l 0 % 16) * 4096 + (ub l 1 % 64) * 64 + ub l 2 % 64 : Nat) : Int) / 64 % 64).toNat = ub l 1 by omega,
            show ((128 : Int) + (((ub l 0 % 16) * 4096 + (ub l 1 % 64) * 64 + ub l 2 % 64 : Nat) : Int) % 64).toNat = ub l 2 by omega]
        · intro h; exact absurd rfl h
      · split
        · rename_i h3
          have hc1 := contL_lt h3.2.1
          have hc2 := contL_lt h3.2.2.1
          have hc3 := contL_lt h3.2.2.2
          split
          · rename_i h4
            intro _
            have hok := h4.2
            unfold okC at hok
            rw [take_four l hc3.1]
            simp only [Lib.encodeRune]
            rw [Lib.encodeRuneZ_four (by omega) (by omega)]
            simp only [List.map_cons, List.map_nil]
            rw [show ((240 : Int) + (((ub l 0 % 8) * 262144 + (ub l 1 % 64) * 4096 + (ub l 2 % 64) * 64 + ub l 3 % 64 : Nat) : Int) / 262144).toNat = ub l 0 by omega,
              show ((128 : Int) + (((ub l 0 % 8) * 262144 + (ub l 1 % 64) * 4096 + (ub l 2 % 64) * 64 + ub l 3 % 64 : Nat) : Int) / 4096 % 64).toNat = ub l 1 by omega,
              show ((128 : Int) + (((ub l 0 % 8) * 262144 + (ub l 1 % 64) * 4096 + (ub l 2 % 64) * 64 + ub l 3 % 64 : Nat) : Int) / 64 % 64).toNat = ub l 2 by omega,
              show ((128 : Int) + (((ub l 0 % 8) * 262144 + (ub l 1 % 64) * 4096 + (ub l 2 % 64) * 64 + ub l 3 % 64 : Nat) : Int) % 64).toNat = ub l 3 by omega]
          · intro h; exact absurd rfl h
        · intro h; exact absurd rfl h
theorem plainB_dec {l : List UInt8} (h : plainB (decL l).1 (decL l).2 = true) : decL l ≠ (65533, 1) := by
  intro e
  rw [e] at h
  simp [plainB] at h
/-- a key is the bytes of its letters -/
theorem letters_enc (l : List UInt8) (h : plainL l = true) : l = (lettersL l).flatMap (fun c : Nat => Lib.encodeRune (c : Int)) := by
  have : ∀ n (l : List UInt8), l.length ≤ n → plainL l = true → l = (lettersL l).flatMap (fun c : Nat => Lib.encodeRune (c : Int)) := by
    intro n
    induction n with
    | zero =>
      intro l hl _
      have : l = [] := List.eq_nil_of_length_eq_zero (by omega)
      subst this
      rfl
    | succ n ih =>
      intro l hl hp
      by_cases hn : l = []
      · subst hn; rfl
      · have hs := drop_shorter l hn
        rw [plain_cons l hn, Bool.and_eq_true] at hp
        rw [letters_cons l hn, List.flatMap_cons, ← ih _ (by omega) hp.2, ← take_enc l hn (plainB_dec hp.1), List.take_append_drop]
  exact this _ l (Nat.le_refl _) h
theorem letters_inj {a b : List UInt8} (ha : plainL a = true) (hb : plainL b = true) (h : lettersL a = lettersL b) : a = b := by
  rw [letters_enc a ha, letters_enc b hb, h]
theorem cmpL_zero {a b : List UInt8} (ha : plainL a = true) (hb : plainL b = true) : cmpL a b = 0 ↔ a = b := by
  unfold cmpL
  rw [cmpN_zero]
  exact ⟨fun h => letters_inj ha hb h, fun h => by rw [h]⟩
theorem cmpL_self (a : List UInt8) : cmpL a a = 0 := cmpN_self _
theorem cmpL_swap (a b : List UInt8) : cmpL b a = - cmpL a b := cmpN_swap _ _
theorem cmpL_range (a b : List UInt8) : cmpL a b = -1 ∨ cmpL a b = 0 ∨ cmpL a b = 1 := cmpN_range _ _
theorem cmpL_trans {a b c : List UInt8} (h1 : cmpL a b ≤ 0) (h2 : cmpL b c ≤ 0) : cmpL a c ≤ 0 := cmpN_trans _ _ _ h1 h2
theorem cmpL_trans_lt {a b c : List UInt8} (h1 : cmpL a b < 0) (h2 : cmpL b c ≤ 0) : cmpL a c < 0 := by
  rcases Int.lt_or_le (cmpL a c) 0 with h | h
  · exact h
  · exfalso
    have h3 : cmpL c a ≤ 0 := by rw [cmpL_swap a c]; omega
    have h4 := cmpL_trans h2 h3
    rw [cmpL_swap a b] at h4
    omega
theorem cmpL_trans_le {a b c : List UInt8} (h1 : cmpL a b ≤ 0) (h2 : cmpL b c < 0) : cmpL a c < 0 := by
  rcases Int.lt_or_le (cmpL a c) 0 with h | h
  · exact h
  · exfalso
    have h3 : cmpL c a ≤ 0 := by rw [cmpL_swap a c]; omega
    have h4 := cmpL_trans h3 h1
    rw [cmpL_swap b c] at h4
    omega
end Go.Proofs.YtbggohdpaodkeaaDoor
