/- The plain law of keys' words: shown and read back. No program in sight. -/
import Derived.Test.YtclddkdchlcpeaaDoorKey2
namespace Go.Proofs.YtclddkdchlcpeaaDoor
def digL (n : Nat) : UInt8 := if n < 10 then UInt8.ofNat (48 + n) else UInt8.ofNat (55 + n)
def hexL (b : UInt8) : List UInt8 := [37, digL (b.toNat / 16), digL (b.toNat % 16)]
/-- the letter at the beginning, as a word has it -/
def oneL (l : List UInt8) : List UInt8 := if plainB (decL l).1 (decL l).2 && !((decL l).1 == 37) then l.take (decL l).2 else (l.take (decL l).2).flatMap hexL
def showF : Nat → List UInt8 → List UInt8
  | 0, _ => []
  | f + 1, l => if l = [] then [] else oneL l ++ showF f (l.drop (decL l).2)
def showT (l : List UInt8) : List UInt8 := showF l.length l
def showL (l : List UInt8) : List UInt8 := if l = [] then [37] else showT l
theorem showF_fuel : ∀ f g (l : List UInt8), l.length ≤ f → l.length ≤ g → showF f l = showF g l := by
  intro f
  induction f with
  | zero =>
    intro g l hf hg
    have : l = [] := List.eq_nil_of_length_eq_zero (by omega)
    subst this
    cases g <;> simp [showF]
  | succ f ih =>
    intro g l hf hg
    by_cases h : l = []
    · subst h
      cases g <;> simp [showF]
    · have hs := drop_shorter l h
      cases g with
      | zero => have := List.length_pos_iff.2 h; omega
      | succ g =>
        simp only [showF, if_neg h]
        rw [ih g _ (by omega) (by omega)]
theorem showT_nil : showT [] = [] := rfl
theorem showT_cons (l : List UInt8) (h : l ≠ []) : showT l = oneL l ++ showT (l.drop (decL l).2) := by
  have hs := drop_shorter l h
  have hl : 0 < l.length := List.length_pos_iff.2 h
  unfold showT
  rw [showF_fuel l.length (l.length - 1 + 1) l (by omega) (by omega), showF, if_neg h, showF_fuel (l.length - 1) (l.drop (decL l).2).length _ (by omega) (by omega)]
/-- of a digit to the base 16; 99: it is none -/
def valL (b : UInt8) : Nat := if 48 ≤ b.toNat ∧ b.toNat ≤ 57 then b.toNat - 48 else if 65 ≤ b.toNat ∧ b.toNat ≤ 70 then b.toNat - 55 else 99
theorem val_dig (n : Nat) (h : n < 16) : valL (digL n) = n := by
  unfold digL valL
  by_cases h1 : n < 10
  · have e : (UInt8.ofNat (48 + n)).toNat = 48 + n := by simp; omega
    rw [if_pos h1, e, if_pos (by omega)]
    omega
  · have e : (UInt8.ofNat (55 + n)).toNat = 55 + n := by simp; omega
    rw [if_neg h1, e, if_neg (by omega), if_pos (by omega)]
    omega
theorem val_lt (b : UInt8) (h : valL b ≠ 99) : valL b < 16 := by
  unfold valL at h ⊢
  split
  · omega
  · split
    · omega
    · rename_i h1 h2
      rw [if_neg h1, if_neg h2] at h
      exact absurd rfl h
/-- two digits to the base 16 -/
def hexAt : List UInt8 → Option (Nat × List UInt8)
  | h :: d :: t => if valL h = 99 ∨ valL d = 99 then none else some (16 * valL h + valL d, t)
  | _ => none
def parseF : Nat → List UInt8 → Option (List UInt8)
  | 0, _ => some []
  | f + 1, l => match l with
    | [] => some []
    | b :: r => if b ≠ 37 then (parseF f r).map (b :: ·) else match hexAt r with
      | none => none
      | some x => (parseF f x.2).map (UInt8.ofNat x.1 :: ·)
def parseL (w : List UInt8) : Option (List UInt8) := parseF w.length w
theorem parseF_succ (f : Nat) (b : UInt8) (r : List UInt8) : parseF (f + 1) (b :: r) = if b ≠ 37 then (parseF f r).map (b :: ·) else match hexAt r with | none => none | some x => (parseF f x.2).map (UInt8.ofNat x.1 :: ·) := rfl
theorem hexAt_len (r : List UInt8) (x : Nat × List UInt8) (h : hexAt r = some x) : x.2.length + 2 = r.length := by
  match r, h with
  | a :: d :: t, h =>
    simp only [hexAt] at h
    split at h
    · cases h
    · injection h with h; subst h; rfl
theorem parseF_fuel : ∀ f g (l : List UInt8), l.length ≤ f → l.length ≤ g → parseF f l = parseF g l := by
  intro f
  induction f with
  | zero =>
    intro g l hf hg
    have : l = [] := List.eq_nil_of_length_eq_zero (by omega)
    subst this
    cases g <;> rfl
  | succ f ih =>
    intro g l hf hg
    match l with
    | [] => cases g <;> rfl
    | b :: r =>
      simp only [List.length_cons] at hf hg
      cases g with
      | zero => omega
      | succ g =>
        show (if b ≠ 37 then _ else _) = (if b ≠ 37 then _ else _)
        by_cases hb : b ≠ 37
        · rw [if_pos hb, if_pos hb, ih g r (by omega) (by omega)]
        · rw [if_neg hb, if_neg hb]
          cases hx : hexAt r with
          | none => rfl
          | some x =>
            have := hexAt_len r x hx
            simp only
            rw [ih g x.2 (by omega) (by omega)]
theorem parse_nil : parseL [] = some [] := rfl
theorem parse_char (b : UInt8) (r : List UInt8) (h : b ≠ 37) : parseL (b :: r) = (parseL r).map (b :: ·) := by
  unfold parseL
  show (if b ≠ 37 then _ else _) = _
  rw [if_pos h]
theorem parse_hex (h d : UInt8) (t : List UInt8) : parseL (37 :: h :: d :: t) = if valL h = 99 ∨ valL d = 99 then none else (parseL t).map (UInt8.ofNat (16 * valL h + valL d) :: ·) := by
  unfold parseL
  simp only [List.length_cons]
  rw [parseF_succ, if_neg (by simp)]
  simp only [hexAt]
  by_cases hv : valL h = 99 ∨ valL d = 99
  · rw [if_pos hv, if_pos hv]
  · rw [if_neg hv, if_neg hv]
    simp only
    rw [parseF_fuel (t.length + 1 + 1) t.length t (by omega) (Nat.le_refl _)]
theorem parse_short (r : List UInt8) (h : r.length < 2) : parseL (37 :: r) = none := by
  unfold parseL
  rw [List.length_cons, parseF_succ, if_neg (by simp)]
  match r, h with
  | [], _ => rfl
  | [_], _ => rfl
theorem map_map_app (o : Option (List UInt8)) (a b : List UInt8) : (o.map (b ++ ·)).map (a ++ ·) = o.map ((a ++ b) ++ ·) := by
  cases o <;> simp
/-- bytes that are no sign of the word's own -/
theorem parse_plain (x r : List UInt8) (h : ∀ b ∈ x, b ≠ 37) : parseL (x ++ r) = (parseL r).map (x ++ ·) := by
  induction x with
  | nil => cases hp : parseL r <;> simp [hp]
  | cons b x ih =>
    rw [List.cons_append, parse_char b _ (h b List.mem_cons_self), ih fun c hc => h c (List.mem_cons_of_mem _ hc)]
    cases parseL r <;> simp
theorem parse_hexL (b : UInt8) (r : List UInt8) : parseL (hexL b ++ r) = (parseL r).map (b :: ·) := by
  have hb := UInt8.toNat_lt b
  unfold hexL
  simp only [List.cons_append, List.nil_append]
  rw [parse_hex, val_dig _ (by omega), val_dig _ (by omega), if_neg (by omega)]
  have e : UInt8.ofNat (16 * (b.toNat / 16) + b.toNat % 16) = b := by
    rw [show 16 * (b.toNat / 16) + b.toNat % 16 = b.toNat by omega]
    simp
  rw [e]
theorem parse_hexes (x r : List UInt8) : parseL (x.flatMap hexL ++ r) = (parseL r).map (x ++ ·) := by
  induction x with
  | nil => cases hp : parseL r <;> simp [hp]
  | cons b x ih =>
    rw [List.flatMap_cons, List.append_assoc, parse_hexL, ih]
    cases parseL r <;> simp
theorem encZ_bytes (r x : Int) (h : x ∈ Lib.encodeRuneZ r) : (x = r ∧ 0 ≤ r ∧ r ≤ 127) ∨ (128 ≤ x ∧ x < 256) := by
  unfold Lib.encodeRuneZ at h
  split at h
  · simp at h; omega
  · split at h
    · simp at h; omega
    · split at h
      · simp at h; omega
      · split at h
        · simp at h; omega
        · simp at h; omega
/-- a plain letter's bytes: no sign of a word's own, no blank -/
theorem plain_bytes (l : List UInt8) (hl : l ≠ []) (hp : plainB (decL l).1 (decL l).2 = true) (b : UInt8) (hb : b ∈ l.take (decL l).2) : (b.toNat = (decL l).1 ∨ 128 ≤ b.toNat) ∧ 32 < b.toNat := by
  rw [take_enc l hl (plainB_dec hp)] at hb
  have hc : 33 ≤ (decL l).1 := by
    unfold plainB at hp
    simp at hp
    omega
  unfold Lib.encodeRune at hb
  obtain ⟨x, hx, rfl⟩ := List.mem_map.1 hb
  rcases encZ_bytes _ _ hx with ⟨h1, h2, h3⟩ | ⟨h1, h2⟩
  · have e : (x.toNat.toUInt8).toNat = x.toNat := by
      show (UInt8.ofNat x.toNat).toNat = _
      simp; omega
    rw [e]
    omega
  · have e : (x.toNat.toUInt8).toNat = x.toNat := by
      show (UInt8.ofNat x.toNat).toNat = _
      simp; omega
    rw [e]
    omega
theorem one_parse (l r : List UInt8) (hl : l ≠ []) : parseL (oneL l ++ r) = (parseL r).map (l.take (decL l).2 ++ ·) := by
  unfold oneL
  split
  · rename_i h
    rw [Bool.and_eq_true] at h
    refine parse_plain _ _ fun b hb e => ?_
    have h1 := (plain_bytes l hl h.1 b hb).1
    have h2 := h.2
    simp at h2
    subst e
    have e37 : (37 : UInt8).toNat = 37 := rfl
    omega
  · exact parse_hexes _ _
theorem show_parse (l : List UInt8) : parseL (showT l) = some l := by
  have : ∀ n (l : List UInt8), l.length ≤ n → parseL (showT l) = some l := by
    intro n
    induction n with
    | zero =>
      intro l hl
      have : l = [] := List.eq_nil_of_length_eq_zero (by omega)
      subst this
      rfl
    | succ n ih =>
      intro l hl
      by_cases h : l = []
      · subst h; rfl
      · have hs := drop_shorter l h
        rw [showT_cons l h, one_parse l _ h, ih _ (by omega)]
        simp
  exact this _ l (Nat.le_refl _)
def readL (w : List UInt8) : Option (List UInt8) :=
  if w = [37] then some [] else match parseL w with
    | none => none
    | some s => if s ≠ [] ∧ showL s = w then some s else none
theorem read_show (s : List UInt8) : readL (showL s) = some s := by
  by_cases h : s = []
  · subst h
    simp [showL, readL]
  · have hs : showL s = showT s := by unfold showL; rw [if_neg h]
    have hp := show_parse s
    unfold readL
    rw [hs]
    have hne : showT s ≠ [37] := by
      intro e
      rw [e, parse_short [] (by simp)] at hp
      cases hp
    rw [if_neg hne, hp]
    simp only
    rw [if_pos ⟨h, hs⟩]
theorem show_inj {s t : List UInt8} (h : showL s = showL t) : s = t := by
  have h1 := read_show s
  rw [h, read_show] at h1
  exact (Option.some.inj h1).symm
theorem dig_gt (n : Nat) (h : n < 16) : 32 < (digL n).toNat := by
  unfold digL
  split
  · have e : (UInt8.ofNat (48 + n)).toNat = 48 + n := by simp; omega
    rw [e]; omega
  · have e : (UInt8.ofNat (55 + n)).toNat = 55 + n := by simp; omega
    rw [e]; omega
theorem one_bytes (l : List UInt8) (hl : l ≠ []) (b : UInt8) (hb : b ∈ oneL l) : 32 < b.toNat := by
  unfold oneL at hb
  split at hb
  · rename_i h
    rw [Bool.and_eq_true] at h
    exact (plain_bytes l hl h.1 b hb).2
  · obtain ⟨x, _, hx⟩ := List.mem_flatMap.1 hb
    have hx2 := UInt8.toNat_lt x
    unfold hexL at hx
    simp at hx
    rcases hx with rfl | rfl | rfl
    · decide
    · exact dig_gt _ (by omega)
    · exact dig_gt _ (by omega)
theorem showT_bytes (l : List UInt8) (b : UInt8) (hb : b ∈ showT l) : 32 < b.toNat := by
  have : ∀ n (l : List UInt8), l.length ≤ n → b ∈ showT l → 32 < b.toNat := by
    intro n
    induction n with
    | zero =>
      intro l hl hb
      have : l = [] := List.eq_nil_of_length_eq_zero (by omega)
      subst this
      cases hb
    | succ n ih =>
      intro l hl hb
      by_cases h : l = []
      · subst h; cases hb
      · have hs := drop_shorter l h
        rw [showT_cons l h] at hb
        rcases List.mem_append.1 hb with hb | hb
        · exact one_bytes l h b hb
        · exact ih _ (by omega) hb
  exact this _ l (Nat.le_refl _) hb
theorem show_bytes (l : List UInt8) (b : UInt8) (hb : b ∈ showL l) : 32 < b.toNat := by
  unfold showL at hb
  split at hb
  · simp at hb; subst hb; decide
  · exact showT_bytes l b hb
theorem hex_len (x : List UInt8) : (x.flatMap hexL).length = 3 * x.length := by
  induction x with
  | nil => rfl
  | cons b x ih => rw [List.flatMap_cons, List.length_append, ih]; simp [hexL]; omega
theorem one_len (l : List UInt8) (hl : l ≠ []) : 1 ≤ (oneL l).length ∧ (oneL l).length ≤ 3 * (decL l).2 := by
  have h1 := (decL_pos l).1
  have h2 := decL_le l hl
  unfold oneL
  split
  · rw [List.length_take]; omega
  · rw [hex_len, List.length_take]; omega
theorem showT_len (l : List UInt8) : l.length ≤ 3 * (showT l).length ∧ (showT l).length ≤ 3 * l.length := by
  have : ∀ n (l : List UInt8), l.length ≤ n → l.length ≤ 4 * (showT l).length ∧ (showT l).length ≤ 3 * l.length := by
    intro n
    induction n with
    | zero =>
      intro l hl
      have : l = [] := List.eq_nil_of_length_eq_zero (by omega)
      subst this
      simp [showT_nil]
    | succ n ih =>
      intro l hl
      by_cases h : l = []
      · subst h; simp [showT_nil]
      · have hs := drop_shorter l h
        have h1 := one_len l h
        have h2 := decL_le l h
        have h3 := (decL_pos l).2
        have h4 := ih _ (by omega : (l.drop (decL l).2).length ≤ n)
        rw [showT_cons l h, List.length_append]
        rw [List.length_drop] at h4
        omega
  have h := this _ l (Nat.le_refl _)
  refine ⟨?_, h.2⟩
  have h2 : l.length ≤ (showT l).length := by
    have : ∀ n (l : List UInt8), l.length ≤ n → l.length ≤ (showT l).length := by
      intro n
      induction n with
      | zero => intro l hl; omega
      | succ n ih =>
        intro l hl
        by_cases h : l = []
        · subst h; simp
        · have hs := drop_shorter l h
          have h2 := decL_le l h
          have h3 := (decL_pos l).1
          have h4 := ih _ (by omega : (l.drop (decL l).2).length ≤ n)
          rw [showT_cons l h, List.length_append]
          rw [List.length_drop] at h4
          have h5 : (decL l).2 ≤ (oneL l).length := by
            unfold oneL
            split
            · rw [List.length_take]; omega
            · rw [hex_len, List.length_take]; omega
          omega
    exact this _ l (Nat.le_refl _)
  omega
theorem showL_len (l : List UInt8) : 1 ≤ (showL l).length ∧ (showL l).length ≤ 3 * l.length + 1 := by
  unfold showL
  split
  · simp
  · rename_i h
    have h1 := showT_len l
    have h2 := List.length_pos_iff.2 h
    omega
end Go.Proofs.YtclddkdchlcpeaaDoor
