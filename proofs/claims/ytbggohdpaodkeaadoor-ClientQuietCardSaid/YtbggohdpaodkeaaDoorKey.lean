/- The plain law of keys: letters, the order, which texts are keys. No program in sight. -/
import Derived.Test.YtbggohdpaodkeaaDoorUtf8
namespace Go.Proofs.YtbggohdpaodkeaaDoor
/-- the letters of bytes: code points, 65533 where there is no UTF-8 -/
def lettersF : Nat → List UInt8 → List Nat
  | 0, _ => []
  | f + 1, l => if l = [] then [] else (decL l).1 :: lettersF f (l.drop (decL l).2)
def lettersL (l : List UInt8) : List Nat := lettersF l.length l
/-- are all letters plain? -/
def plainF : Nat → List UInt8 → Bool
  | 0, _ => true
  | f + 1, l => if l = [] then true else plainB (decL l).1 (decL l).2 && plainF f (l.drop (decL l).2)
def plainL (l : List UInt8) : Bool := plainF l.length l
def rightL (l : List UInt8) : Bool := plainL l && (decide (1 ≤ l.length) && decide (l.length ≤ 16))
def cmpN : List Nat → List Nat → Int
  | [], [] => 0
  | [], _ :: _ => -1
  | _ :: _, [] => 1
  | x :: a, y :: b => if x < y then -1 else if y < x then 1 else cmpN a b
def cmpL (a b : List UInt8) : Int := cmpN (lettersL a) (lettersL b)
theorem drop_shorter (l : List UInt8) (h : l ≠ []) : (l.drop (decL l).2).length < l.length := by
  have h1 := (decL_pos l).1
  have h2 : 0 < l.length := List.length_pos_iff.2 h
  rw [List.length_drop]
  omega
theorem lettersF_fuel : ∀ f g (l : List UInt8), l.length ≤ f → l.length ≤ g → lettersF f l = lettersF g l := by
  intro f
  induction f with
  | zero =>
    intro g l hf hg
    have : l = [] := List.eq_nil_of_length_eq_zero (by omega)
    subst this
    cases g <;> simp [lettersF]
  | succ f ih =>
    intro g l hf hg
    by_cases h : l = []
    · subst h
      cases g <;> simp [lettersF]
    · have hs := drop_shorter l h
      cases g with
      | zero => have := List.length_pos_iff.2 h; omega
      | succ g =>
        simp only [lettersF, if_neg h]
        rw [ih g _ (by omega) (by omega)]
theorem plainF_fuel : ∀ f g (l : List UInt8), l.length ≤ f → l.length ≤ g → plainF f l = plainF g l := by
  intro f
  induction f with
  | zero =>
    intro g l hf hg
    have : l = [] := List.eq_nil_of_length_eq_zero (by omega)
    subst this
    cases g <;> simp [plainF]
  | succ f ih =>
    intro g l hf hg
    by_cases h : l = []
    · subst h
      cases g <;> simp [plainF]
    · have hs := drop_shorter l h
      cases g with
      | zero => have := List.length_pos_iff.2 h; omega
      | succ g =>
        simp only [plainF, if_neg h]
        rw [ih g _ (by omega) (by omega)]
theorem letters_nil : lettersL [] = [] := rfl
theorem letters_cons (l : List UInt8) (h : l ≠ []) : lettersL l = (decL l).1 :: lettersL (l.drop (decL l).2) := by
  have hs := drop_shorter l h
  have hl : 0 < l.length := List.length_pos_iff.2 h
  unfold lettersL
  rw [lettersF_fuel l.length (l.length - 1 + 1) l (by omega) (by omega), lettersF, if_neg h, lettersF_fuel (l.length - 1) (l.drop (decL l).2).length _ (by omega) (by omega)]
theorem plain_nil : plainL [] = true := rfl
theorem plain_cons (l : List UInt8) (h : l ≠ []) : plainL l = (plainB (decL l).1 (decL l).2 && plainL (l.drop (decL l).2)) := by
  have hs := drop_shorter l h
  have hl : 0 < l.length := List.length_pos_iff.2 h
  unfold plainL
  rw [plainF_fuel l.length (l.length - 1 + 1) l (by omega) (by omega), plainF, if_neg h, plainF_fuel (l.length - 1) (l.drop (decL l).2).length _ (by omega) (by omega)]
theorem letters_len (l : List UInt8) : (lettersL l).length ≤ l.length := by
  have : ∀ n (l : List UInt8), l.length ≤ n → (lettersL l).length ≤ l.length := by
    intro n
    induction n with
    | zero =>
      intro l hl
      have : l = [] := List.eq_nil_of_length_eq_zero (by omega)
      subst this
      simp [letters_nil]
    | succ n ih =>
      intro l hl
      by_cases h : l = []
      · subst h; simp [letters_nil]
      · have hs := drop_shorter l h
        rw [letters_cons l h, List.length_cons]
        have := ih _ (by omega : (l.drop (decL l).2).length ≤ n)
        omega
  exact this _ l (Nat.le_refl _)
theorem cmpN_self (a : List Nat) : cmpN a a = 0 := by
  induction a with
  | nil => rfl
  | cons x a ih => simp [cmpN, ih]
theorem cmpN_swap (a b : List Nat) : cmpN b a = - cmpN a b := by
  induction a generalizing b with
  | nil => cases b <;> simp [cmpN]
  | cons x a ih =>
    cases b with
    | nil => simp [cmpN]
    | cons y b =>
      simp only [cmpN]
      by_cases h1 : x < y
      · rw [if_pos h1, if_neg (by omega), if_pos h1]; rfl
      · by_cases h2 : y < x
        · rw [if_neg h1, if_pos h2, if_pos h2, if_neg h1]
        · rw [if_neg h1, if_neg h2, if_neg h2, if_neg h1, ih]
theorem cmpN_range (a b : List Nat) : cmpN a b = -1 ∨ cmpN a b = 0 ∨ cmpN a b = 1 := by
  induction a generalizing b with
  | nil => cases b <;> simp [cmpN]
  | cons x a ih =>
    cases b with
    | nil => simp [cmpN]
    | cons y b =>
      simp only [cmpN]
      split
      · simp
      · split
        · simp
        · exact ih b
theorem cmpN_trans (a b c : List Nat) (h1 : cmpN a b ≤ 0) (h2 : cmpN b c ≤ 0) : cmpN a c ≤ 0 := by
  induction a generalizing b c with
  | nil => cases c <;> simp [cmpN]
  | cons x a ih =>
    cases b with
    | nil => simp [cmpN] at h1
    | cons y b =>
      cases c with
      | nil => simp [cmpN] at h2
      | cons z c =>
        simp only [cmpN] at *
        by_cases p : x < y
        · by_cases q : y < z
          · rw [if_pos (by omega)]; omega
          · by_cases r : z < y
            · rw [if_neg q, if_pos r] at h2; omega
            · rw [if_pos (by omega)]; omega
        · by_cases p2 : y < x
          · rw [if_neg p, if_pos p2] at h1; omega
          · rw [if_neg p, if_neg p2] at h1
            have : x = y := by omega
            subst this
            by_cases q : x < z
            · rw [if_pos q]; omega
            · by_cases r : z < x
              · rw [if_neg q, if_pos r] at h2; omega
              · rw [if_neg q, if_neg r] at h2 ⊢
                exact ih b c h1 h2
theorem cmpN_zero (a b : List Nat) : cmpN a b = 0 ↔ a = b := by
  constructor
  · intro h
    induction a generalizing b with
    | nil => cases b with
      | nil => rfl
      | cons y b => simp [cmpN] at h
    | cons x a ih =>
      cases b with
      | nil => simp [cmpN] at h
      | cons y b =>
        simp only [cmpN] at h
        by_cases p : x < y
        · rw [if_pos p] at h; omega
        · by_cases q : y < x
          · rw [if_neg p, if_pos q] at h; omega
          · rw [if_neg p, if_neg q] at h
            rw [ih b h, show x = y by omega]
  · rintro rfl
    exact cmpN_self a
end Go.Proofs.YtbggohdpaodkeaaDoor
