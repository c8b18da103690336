/- The plain law of keys, on: the order of keys is that of their bytes. No program in sight. -/
import Derived.Test.YtclddkdchlcpeaaDoorKey2
import GoSem.Op.String
namespace Go.Proofs.YtclddkdchlcpeaaDoor
open Go.Op (bytesLess)
theorem less_cons (x y : Nat) (hx : x < 256) (hy : y < 256) (r s : List UInt8) : bytesLess (UInt8.ofNat x :: r) (UInt8.ofNat y :: s) = (decide (x < y) || (decide (x = y) && bytesLess r s)) := by
  have e1 : (decide (UInt8.ofNat x < UInt8.ofNat y)) = decide (x < y) := by
    rw [Bool.eq_iff_iff, decide_eq_true_iff, decide_eq_true_iff, UInt8.lt_iff_toNat_lt]
    simp
    omega
  have e2 : (UInt8.ofNat x == UInt8.ofNat y) = decide (x = y) := by
    rw [Bool.eq_iff_iff, beq_iff_eq, decide_eq_true_iff, ← UInt8.toNat_inj]
    simp
    omega
  show (decide (UInt8.ofNat x < UInt8.ofNat y) || (UInt8.ofNat x == UInt8.ofNat y && bytesLess r s)) = _
  rw [e1, e2]
theorem less_same (p r s : List UInt8) : bytesLess (p ++ r) (p ++ s) = bytesLess r s := by
  induction p with
  | nil => rfl
  | cons a p ih =>
    show (decide (a < a) || (a == a && bytesLess (p ++ r) (p ++ s))) = _
    rw [ih]
    simp
def encN (c : Nat) : List UInt8 :=
  if c < 128 then [UInt8.ofNat c]
  else if c < 2048 then [UInt8.ofNat (192 + c / 64), UInt8.ofNat (128 + c % 64)]
  else if c < 65536 then [UInt8.ofNat (224 + c / 4096), UInt8.ofNat (128 + c / 64 % 64), UInt8.ofNat (128 + c % 64)]
  else [UInt8.ofNat (240 + c / 262144), UInt8.ofNat (128 + c / 4096 % 64), UInt8.ofNat (128 + c / 64 % 64), UInt8.ofNat (128 + c % 64)]
theorem enc_N (c : Nat) (h : okC c) : Lib.encodeRune (c : Int) = encN c := by
  unfold okC at h
  unfold encN Lib.encodeRune
  split
  · rw [Lib.encodeRuneZ_one (by omega) (by omega)]
    rfl
  · split
    · rw [Lib.encodeRuneZ_two (by omega) (by omega)]
      simp only [List.map_cons, List.map_nil]
      rw [show ((192 : Int) + (c : Int) / 64).toNat = 192 + c / 64 by omega, show ((128 : Int) + (c : Int) % 64).toNat = 128 + c % 64 by omega]
    · split
      · rw [Lib.encodeRuneZ_three (by omega)]
        simp only [List.map_cons, List.map_nil]
        rw [show ((224 : Int) + (c : Int) / 4096).toNat = 224 + c / 4096 by omega, show ((128 : Int) + (c : Int) / 64 % 64).toNat = 128 + c / 64 % 64 by omega, show ((128 : Int) + (c : Int) % 64).toNat = 128 + c % 64 by omega]
      · rw [Lib.encodeRuneZ_four (by omega) (by omega)]
        simp only [List.map_cons, List.map_nil]
        rw [show ((240 : Int) + (c : Int) / 262144).toNat = 240 + c / 262144 by omega, show ((128 : Int) + (c : Int) / 4096 % 64).toNat = 128 + c / 4096 % 64 by omega, show ((128 : Int) + (c : Int) / 64 % 64).toNat = 128 + c / 64 % 64 by omega, show ((128 : Int) + (c : Int) % 64).toNat = 128 + c % 64 by omega]
theorem enc_less (c d : Nat) (hd : d ≤ 1114111) (h : c < d) (r s : List UInt8) : bytesLess (encN c ++ r) (encN d ++ s) = true ∧ bytesLess (encN d ++ s) (encN c ++ r) = false := by
  have e : ∃ q, bytesLess r s = q := ⟨_, rfl⟩
  obtain ⟨q, hq⟩ := e
  have e : ∃ q, bytesLess s r = q := ⟨_, rfl⟩
  obtain ⟨q', hq'⟩ := e
  unfold encN
  repeat' split
  all_goals (try (exfalso; omega))
  all_goals
    (simp only [List.cons_append, List.nil_append]; constructor <;> (repeat rw [less_cons _ _ (by omega) (by omega)]) <;> (try rw [hq]) <;> (try rw [hq']) <;> cases q <;> cases q' <;> simp <;> omega)
theorem dec_ok (l : List UInt8) : okC (decL l).1 := by
  unfold decL decG okC
  have := ub_lt l 0
  split
  · simp only; omega
  · split
    · split <;> (simp only; omega)
    · split
      · split
        · rename_i h; have h2 := h.2; unfold okC at h2; exact h2
        · simp only; omega
      · split
        · split
          · rename_i h; have h2 := h.2; unfold okC at h2; exact h2
          · simp only; omega
        · simp only; omega
theorem letters_ok (l : List UInt8) : ∀ c ∈ lettersL l, okC c := by
  have : ∀ n (l : List UInt8), l.length ≤ n → ∀ c ∈ lettersL l, okC c := by
    intro n
    induction n with
    | zero =>
      intro l hl c hc
      have : l = [] := List.eq_nil_of_length_eq_zero (by omega)
      subst this
      simp [letters_nil] at hc
    | succ n ih =>
      intro l hl c hc
      by_cases hn : l = []
      · subst hn; simp [letters_nil] at hc
      · have hs := drop_shorter l hn
        rw [letters_cons l hn] at hc
        rcases List.mem_cons.1 hc with h | h
        · rw [h]; exact dec_ok l
        · exact ih _ (by omega) c h
  exact this _ l (Nat.le_refl _)
theorem enc_ne (c : Nat) (s : List UInt8) : ∃ b r, encN c ++ s = b :: r := by
  unfold encN
  split
  · exact ⟨_, _, rfl⟩
  · split
    · exact ⟨_, _, rfl⟩
    · split <;> exact ⟨_, _, rfl⟩
theorem flat_less : ∀ (xs ys : List Nat), (∀ c ∈ xs, okC c) → (∀ c ∈ ys, okC c) → bytesLess (xs.flatMap encN) (ys.flatMap encN) = decide (cmpN xs ys < 0)
  | [], [], _, _ => rfl
  | [], y :: ys, _, _ => by
    obtain ⟨b, r, h⟩ := enc_ne y (ys.flatMap encN)
    rw [List.flatMap_cons, h]
    rfl
  | x :: xs, [], _, _ => by
    obtain ⟨b, r, h⟩ := enc_ne x (xs.flatMap encN)
    rw [List.flatMap_cons, h]
    rfl
  | x :: xs, y :: ys, hx, hy => by
    have h1 := (hx x (by simp)).2
    have h2 := (hy y (by simp)).2
    rw [List.flatMap_cons, List.flatMap_cons]
    unfold cmpN
    by_cases a : x < y
    · rw [if_pos a, (enc_less x y h2 a _ _).1]
      rfl
    · rw [if_neg a]
      by_cases b : y < x
      · rw [if_pos b, (enc_less y x h1 b _ _).2]
        rfl
      · have e : x = y := by omega
        subst e
        rw [if_neg b, less_same]
        exact flat_less xs ys (fun c h => hx c (by simp [h])) (fun c h => hy c (by simp [h]))
theorem flat_enc (xs : List Nat) (h : ∀ c ∈ xs, okC c) : xs.flatMap (fun c : Nat => Lib.encodeRune (c : Int)) = xs.flatMap encN := by
  induction xs with
  | nil => rfl
  | cons x xs ih => rw [List.flatMap_cons, List.flatMap_cons, enc_N x (h x (by simp)), ih fun c hc => h c (by simp [hc])]
/-- keys stand in the order of their bytes -/
theorem less_cmp {a b : List UInt8} (ha : plainL a = true) (hb : plainL b = true) : bytesLess a b = decide (cmpL a b < 0) := by
  have h1 := letters_enc a ha
  have h2 := letters_enc b hb
  rw [flat_enc _ (letters_ok a)] at h1
  rw [flat_enc _ (letters_ok b)] at h2
  unfold cmpL
  rw [← flat_less _ _ (letters_ok a) (letters_ok b), ← h1, ← h2]
end Go.Proofs.YtclddkdchlcpeaaDoor
