/- The plain law of UTF-8: the letter at the beginning of bytes, as the model decodes it and as the document tells it. No program in sight. The plain law of keys: letters, the order, which texts are keys. No program in sight. The plain law of keys, on: a letter's bytes are told by its code point; letters tell the key; the order of keys is that of their bytes. No program in sight. The plain law of spans. No program in sight. The plain law of numbers as bytes: written, taken, short, apart. No program in sight. Formats: what is written can be read, and nothing else reads so. No program in sight. Small lemmas that all walks use: bits on int, what a world keeps, results. Laws on a slice that the call itself fills: one element pushed, the bytes as a string. Slices that come in: what a walk knows of them; a string joined to a row of bytes that the call owns. A block whose cells are all known: what a walk wants of it, and how it stays. Slices of structs as arguments: opened element by element; how they are read in a round. Slices of spans, opened. Whole rows read and written by one law each. A stretch of a block that is known whole, written by one operation. Steps of a region that draws its order: whole blocks loaded and stored. Steps of a plain region, one by one; one link of a chain of '&&' without a parting of the ways. Places and leads, as rows. The structs of clients and of messages, as the walks see them: rows of cells. append of one struct; rows of spans that the call owns. append of several ints; append of nothing; rows of ints that the call owns. -/
import GoSem.Core.Utf8
import Derived.Lib.RuneBytes
import Derived.WalkKit
import Derived.WalkLawsBesides
import Derived.WalkSpells
import Derived.Lib.Hide
import Derived.Laws.BitsAllLaws
import Derived.Laws.BitsLemmas
import Derived.Below
import Derived.IntWalk
import Derived.Laws.BytesArg
import Derived.OpenShut
import Derived.Deep.AppendLies
import Derived.Laws.AppendOwn
import Derived.OwnWalk
import Derived.Lib.AppendStr
import Derived.Laws.Rows
import Derived.Deep.Draws
import Derived.ProofKit
import Derived.SizedLaws
import Derived.Lib.SmallJoins
import Derived.Deep.Slices
import Derived.Deep.Strs
import Derived.Laws.Tables
import Derived.Deep.WholeRow
import Derived.Deep.MidRow
import Derived.Deep.RegionHeld3
import Derived.Deep.Upon
set_option linter.unusedSimpArgs false
set_option linter.unusedVariables false
namespace Go.Proofs.YtkoligiilieboaaGreatDoor
/-- the byte at k, 0 behind the end -/
def ub (l : List UInt8) (k : Nat) : Nat := (l[k]?.getD 0).toNat
def contL (l : List UInt8) (k : Nat) : Bool := decide (k < l.length) && ub l k / 64 == 2
def okC (c : Nat) : Prop := (c < 55296 ∨ 57344 ≤ c) ∧ c ≤ 1114111
instance (c : Nat) : Decidable (okC c) := by unfold okC; infer_instance
def decG (b0 b1 b2 b3 : Nat) (c1 c2 c3 : Bool) : Nat × Nat :=
  if b0 < 128 then (b0, 1)
  else if b0 / 32 = 6 ∧ c1 = true then if 128 ≤ (b0 % 32) * 64 + b1 % 64 then ((b0 % 32) * 64 + b1 % 64, 2) else (65533, 1)
  else if b0 / 16 = 14 ∧ c1 = true ∧ c2 = true then
    if 2048 ≤ (b0 % 16) * 4096 + (b1 % 64) * 64 + b2 % 64 ∧ okC ((b0 % 16) * 4096 + (b1 % 64) * 64 + b2 % 64) then ((b0 % 16) * 4096 + (b1 % 64) * 64 + b2 % 64, 3) else (65533, 1)
  else if b0 / 8 = 30 ∧ c1 = true ∧ c2 = true ∧ c3 = true then
    if 65536 ≤ (b0 % 8) * 262144 + (b1 % 64) * 4096 + (b2 % 64) * 64 + b3 % 64 ∧ okC ((b0 % 8) * 262144 + (b1 % 64) * 4096 + (b2 % 64) * 64 + b3 % 64) then
      ((b0 % 8) * 262144 + (b1 % 64) * 4096 + (b2 % 64) * 64 + b3 % 64, 4) else (65533, 1)
  else (65533, 1)
/-- code point and width of the letter at the beginning: (65533, 1) where there is no UTF-8 -/
def decL (l : List UInt8) : Nat × Nat := decG (ub l 0) (ub l 1) (ub l 2) (ub l 3) (contL l 1) (contL l 2) (contL l 3)
theorem ub_lt (l : List UInt8) (k : Nat) : ub l k < 256 := UInt8.toNat_lt _
theorem ub_drop (l : List UInt8) (i k : Nat) : ub (l.drop i) k = ub l (i + k) := by unfold ub; rw [List.getElem?_drop]
theorem get_ub (l : List UInt8) (k : Nat) : ((⟨l.toArray⟩ : ByteArray).get! k).toNat = ub l k := by
  unfold ub ByteArray.get!
  simp
  rfl
theorem cont_ub (l : List UInt8) (i k : Nat) (hk : 0 < k) : (decide (i + k < (⟨l.toArray⟩ : ByteArray).size) && ((⟨l.toArray⟩ : ByteArray).get! (i + k)).toNat / 64 == 2) = contL (l.drop i) k := by
  have hz : (⟨l.toArray⟩ : ByteArray).size = l.length := by show l.toArray.size = _; simp
  unfold contL
  rw [get_ub, ub_drop, hz, List.length_drop]
  have : decide (i + k < l.length) = decide (k < l.length - i) := by
    rw [decide_eq_decide]; omega
  rw [this]
theorem valid_ok (c : Nat) : Utf8.valid (c : Int) = decide (okC c) := by
  unfold Utf8.valid
  rw [Bool.eq_iff_iff, decide_eq_true_eq]
  unfold okC
  simp only [Bool.or_eq_true, Bool.and_eq_true, decide_eq_true_eq]
  omega
theorem decode_eq (l : List UInt8) (i : Nat) : Utf8.decode ⟨l.toArray⟩ i = decL (l.drop i) := by
  unfold Utf8.decode decL decG Utf8.runeError
  simp only [cont_ub l i 1 (by omega), cont_ub l i 2 (by omega), cont_ub l i 3 (by omega)]
  simp only [get_ub, ← ub_drop, Bool.and_eq_true, beq_iff_eq, ge_iff_le, valid_ok, decide_eq_true_eq, and_assoc]
theorem decL_pos (l : List UInt8) : 1 ≤ (decL l).2 ∧ (decL l).2 ≤ 4 := by
  unfold decL decG
  repeat' split
  all_goals simp
theorem contL_lt {l : List UInt8} {k : Nat} (h : contL l k = true) : k < l.length ∧ 128 ≤ ub l k ∧ ub l k < 192 := by
  unfold contL at h
  simp at h
  refine ⟨h.1, ?_, ?_⟩ <;> omega
theorem contL_iff (l : List UInt8) (k : Nat) : contL l k = true ↔ k < l.length ∧ 128 ≤ ub l k ∧ ub l k < 192 := by
  refine ⟨contL_lt, fun h => ?_⟩
  unfold contL
  simp
  exact ⟨h.1, by omega⟩
theorem decL_le (l : List UInt8) (h : l ≠ []) : (decL l).2 ≤ l.length := by
  have h0 : 0 < l.length := List.length_pos_iff.2 h
  unfold decL decG
  repeat' split
  all_goals first | (simp; omega) | skip
  all_goals
    rename_i hh _
    simp only
    first
      | (have := (contL_lt hh.2.2.2).1; omega)
      | (have := (contL_lt hh.2.2).1; omega)
      | (have := (contL_lt hh.2).1; omega)
theorem decL_max (l : List UInt8) : (decL l).1 ≤ 1114111 := by
  have h0 := ub_lt l 0
  unfold decL decG
  repeat' split
  all_goals simp only
  all_goals first | omega | skip
  all_goals
    rename_i hh
    have := hh.2.2
    omega
/-- U+FFFD has three bytes, where it is one of the text's own -/
theorem decL_err (l : List UInt8) (h : (decL l).1 = 65533) : (decL l).2 = 1 ∨ (decL l).2 = 3 := by
  have h0 := ub_lt l 0
  revert h
  unfold decL decG
  repeat' split
  all_goals intro h
  all_goals dsimp only at h ⊢
  all_goals omega
/-- the document's letter -/
def letL (l : List UInt8) : Int × Nat := if decL l = (65533, 1) then (-1, 1) else ((decL l).1, (decL l).2)
def finR (a n least : Nat) : Int × Nat := if a < least ∨ 1114111 < a ∨ (55296 ≤ a ∧ a < 57344) then (-1, 1) else (a, n)
def letR (b0 b1 b2 b3 len : Nat) : Int × Nat :=
  if b0 < 128 then (b0, 1)
  else if 194 ≤ b0 ∧ b0 < 224 then if len < 2 then (-1, 1) else if b1 < 128 ∨ 191 < b1 then (-1, 1) else finR (64 * (b0 - 192) + b1 - 128) 2 128
  else if 224 ≤ b0 ∧ b0 < 240 then if len < 3 then (-1, 1) else if b1 < 128 ∨ 191 < b1 then (-1, 1) else if b2 < 128 ∨ 191 < b2 then (-1, 1) else finR (64 * (64 * (b0 - 224) + b1 - 128) + b2 - 128) 3 2048
  else if 240 ≤ b0 ∧ b0 < 245 then if len < 4 then (-1, 1) else if b1 < 128 ∨ 191 < b1 then (-1, 1) else if b2 < 128 ∨ 191 < b2 then (-1, 1) else if b3 < 128 ∨ 191 < b3 then (-1, 1) else
    finR (64 * (64 * (64 * (b0 - 240) + b1 - 128) + b2 - 128) + b3 - 128) 4 65536
  else (-1, 1)
theorem letL_of (l : List UInt8) (c n : Nat) (h : decL l = (c, n)) (hne : ¬ (c = 65533 ∧ n = 1)) : letL l = ((c : Int), n) := by
  unfold letL
  rw [h, if_neg (by intro e; injection e with e1 e2; exact hne ⟨e1, e2⟩)]
theorem letL_bad (l : List UInt8) (h : decL l = (65533, 1)) : letL l = (-1, 1) := by
  unfold letL; rw [if_pos h]
theorem dec_two (l : List UInt8) (h1 : 194 ≤ ub l 0) (h2 : ub l 0 < 224) (hc : contL l 1 = true) : decL l = ((ub l 0 % 32) * 64 + ub l 1 % 64, 2) := by
  unfold decL decG
  rw [if_neg (by omega), if_pos ⟨by omega, hc⟩, if_pos (by omega)]
theorem dec_bad2 (l : List UInt8) (h1 : 128 ≤ ub l 0) (h2 : ub l 0 < 224) (hc : ub l 0 < 194 ∨ contL l 1 = false) : decL l = (65533, 1) := by
  have hz : ∀ h : ub l 0 / 32 = 6 ∧ contL l 1 = true, ¬ 128 ≤ (ub l 0 % 32) * 64 + ub l 1 % 64 := by
    intro h
    rcases hc with hc | hc
    · omega
    · rw [hc] at h; simp at h
  unfold decL decG
  rw [if_neg (by omega)]
  split
  · rename_i h
    rw [if_neg (hz h)]
  · rw [if_neg (by omega), if_neg (by omega)]
theorem dec_three (l : List UInt8) (h1 : 224 ≤ ub l 0) (h2 : ub l 0 < 240) (hc : contL l 1 = true ∧ contL l 2 = true) :
    decL l = if 2048 ≤ (ub l 0 % 16) * 4096 + (ub l 1 % 64) * 64 + ub l 2 % 64 ∧ okC ((ub l 0 % 16) * 4096 + (ub l 1 % 64) * 64 + ub l 2 % 64) then ((ub l 0 % 16) * 4096 + (ub l 1 % 64) * 64 + ub l 2 % 64, 3) else (65533, 1) := by
  unfold decL decG
  rw [if_neg (by omega), if_neg (by omega), if_pos ⟨by omega, hc⟩]
theorem dec_bad3 (l : List UInt8) (h1 : 224 ≤ ub l 0) (h2 : ub l 0 < 240) (hc : ¬ (contL l 1 = true ∧ contL l 2 = true)) : decL l = (65533, 1) := by
  unfold decL decG
  rw [if_neg (by omega), if_neg (by omega), if_neg (fun h => hc h.2), if_neg (by omega)]
theorem dec_four (l : List UInt8) (h1 : 240 ≤ ub l 0) (h2 : ub l 0 < 248) (hc : contL l 1 = true ∧ contL l 2 = true ∧ contL l 3 = true) :
    decL l = if 65536 ≤ (ub l 0 % 8) * 262144 + (ub l 1 % 64) * 4096 + (ub l 2 % 64) * 64 + ub l 3 % 64 ∧ okC ((ub l 0 % 8) * 262144 + (ub l 1 % 64) * 4096 + (ub l 2 % 64) * 64 + ub l 3 % 64) then
      ((ub l 0 % 8) * 262144 + (ub l 1 % 64) * 4096 + (ub l 2 % 64) * 64 + ub l 3 % 64, 4) else (65533, 1) := by
  unfold decL decG
  rw [if_neg (by omega), if_neg (by omega), if_neg (by omega), if_pos ⟨by omega, hc⟩]
theorem dec_bad4 (l : List UInt8) (h1 : 240 ≤ ub l 0) (hc : ¬ (contL l 1 = true ∧ contL l 2 = true ∧ contL l 3 = true)) : decL l = (65533, 1) := by
  unfold decL decG
  rw [if_neg (by omega), if_neg (by have := ub_lt l 0; omega), if_neg (by omega), if_neg (fun h => hc h.2)]
theorem dec_high (l : List UInt8) (h1 : 245 ≤ ub l 0) : decL l = (65533, 1) := by
  by_cases hc : contL l 1 = true ∧ contL l 2 = true ∧ contL l 3 = true
  · by_cases h8 : ub l 0 < 248
    · rw [dec_four l (by omega) h8 hc, if_neg]
      intro h
      have := h.2.2
      omega
    · unfold decL decG
      have := ub_lt l 0
      rw [if_neg (by omega), if_neg (by omega), if_neg (by omega), if_neg (by omega)]
  · exact dec_bad4 l (by omega) hc
theorem fin_eq (l : List UInt8) (a c n least : Nat) (hac : a = c) (hn : n ≠ 1) (h : decL l = if least ≤ c ∧ okC c then (c, n) else (65533, 1)) : letL l = finR a n least := by
  subst hac
  unfold finR
  by_cases hh : least ≤ a ∧ okC a
  · rw [if_pos hh] at h
    rw [letL_of l a n h (by omega), if_neg]
    have h1 := hh.1
    have h2 := hh.2
    unfold okC at h2
    omega
  · rw [if_neg hh] at h
    rw [letL_bad l h, if_pos]
    unfold okC at hh
    omega
theorem letR_eq (l : List UInt8) : letL l = letR (ub l 0) (ub l 1) (ub l 2) (ub l 3) l.length := by
  unfold letR
  have b1 := contL_iff l 1
  have b2 := contL_iff l 2
  have b3 := contL_iff l 3
  by_cases h0 : ub l 0 < 128
  · rw [if_pos h0]
    exact letL_of l _ 1 (by unfold decL decG; rw [if_pos h0]) (by omega)
  · rw [if_neg h0]
    by_cases h2 : 194 ≤ ub l 0 ∧ ub l 0 < 224
    · rw [if_pos h2]
      by_cases hc : contL l 1 = true
      · have hk := b1.1 hc
        rw [if_neg (by omega), if_neg (by omega)]
        refine fin_eq l _ ((ub l 0 % 32) * 64 + ub l 1 % 64) 2 128 (by omega) (by omega) ?_
        rw [dec_two l h2.1 h2.2 hc, if_pos]
        unfold okC
        omega
      · have hbad := letL_bad l (dec_bad2 l (by omega) h2.2 (.inr (by simpa using hc)))
        have hk : ¬ (1 < l.length ∧ 128 ≤ ub l 1 ∧ ub l 1 < 192) := fun h => hc (b1.2 h)
        rw [hbad]
        by_cases hl : l.length < 2
        · rw [if_pos hl]
        · rw [if_neg hl, if_pos (by omega)]
    · rw [if_neg h2]
      by_cases h3 : 224 ≤ ub l 0 ∧ ub l 0 < 240
      · rw [if_pos h3]
        by_cases hc : contL l 1 = true ∧ contL l 2 = true
        · have hk1 := b1.1 hc.1
          have hk2 := b2.1 hc.2
          rw [if_neg (by omega), if_neg (by omega), if_neg (by omega)]
          exact fin_eq l _ ((ub l 0 % 16) * 4096 + (ub l 1 % 64) * 64 + ub l 2 % 64) 3 2048 (by omega) (by omega) (dec_three l h3.1 h3.2 hc)
        · rw [letL_bad l (dec_bad3 l h3.1 h3.2 hc)]
          rw [b1, b2] at hc
          by_cases hl : l.length < 3
          · rw [if_pos hl]
          · rw [if_neg hl]
            by_cases hd : ub l 1 < 128 ∨ 191 < ub l 1
            · rw [if_pos hd]
            · rw [if_neg hd, if_pos (by omega)]
      · rw [if_neg h3]
        by_cases h4 : 240 ≤ ub l 0 ∧ ub l 0 < 245
        · rw [if_pos h4]
          by_cases hc : contL l 1 = true ∧ contL l 2 = true ∧ contL l 3 = true
          · have hk1 := b1.1 hc.1
            have hk2 := b2.1 hc.2.1
            have hk3 := b3.1 hc.2.2
            rw [if_neg (by omega), if_neg (by omega), if_neg (by omega), if_neg (by omega)]
            exact fin_eq l _ ((ub l 0 % 8) * 262144 + (ub l 1 % 64) * 4096 + (ub l 2 % 64) * 64 + ub l 3 % 64) 4 65536 (by omega) (by omega) (dec_four l h4.1 (by omega) hc)
          · rw [letL_bad l (dec_bad4 l h4.1 hc)]
            rw [b1, b2, b3] at hc
            by_cases hl : l.length < 4
            · rw [if_pos hl]
            · rw [if_neg hl]
              by_cases hd : ub l 1 < 128 ∨ 191 < ub l 1
              · rw [if_pos hd]
              · rw [if_neg hd]
                by_cases he : ub l 2 < 128 ∨ 191 < ub l 2
                · rw [if_pos he]
                · rw [if_neg he, if_pos (by omega)]
        · rw [if_neg h4]
          by_cases h5 : 245 ≤ ub l 0
          · exact letL_bad l (dec_high l h5)
          · exact letL_bad l (dec_bad2 l (by omega) (by omega) (.inl (by omega)))
/-- is a letter plain? -/
def plainB (c n : Nat) : Bool := decide (33 ≤ c) && (decide (c < 127) || decide (159 < c)) && (!(c == 65533) || n == 3)
def plainR (c : Int) : Bool := decide (32 < c) && !(c == 127) && (decide (c < 128) || decide (159 < c))
theorem plain_eq (l : List UInt8) : plainB (decL l).1 (decL l).2 = plainR (letL l).1 := by
  unfold letL
  have he := decL_err l
  generalize decL l = d at *
  obtain ⟨c, n⟩ := d
  simp only at *
  unfold plainB plainR
  by_cases h : (c, n) = (65533, 1)
  · rw [if_pos h]
    injection h with h1 h2
    subst h1 h2
    rfl
  · rw [if_neg h]
    rw [Bool.eq_iff_iff]
    simp at h ⊢
    omega
end Go.Proofs.YtkoligiilieboaaGreatDoor
namespace Go.Proofs.YtkoligiilieboaaGreatDoor
/-- the letters of bytes: code points, 65533 where there is no UTF-8 -/
def lettersF : Nat → List UInt8 → List Nat
  | 0, _ => []
  | f + 1, l => if l = [] then [] else (decL l).1 :: lettersF f (l.drop (decL l).2)
def lettersL (l : List UInt8) : List Nat := lettersF l.length l
/-- are all letters plain? -/
def plainF : Nat → List UInt8 → Bool
  | 0, _ => true
  | f + 1, l => if l = [] then true else plainB (decL l).1 (decL l).2 && plainF f (l.drop (decL l).2)
def plainL (l : List UInt8) : Bool := plainF l.length l
def rightL (l : List UInt8) : Bool := plainL l && (decide (1 ≤ l.length) && decide (l.length ≤ 16))
def cmpN : List Nat → List Nat → Int
  | [], [] => 0
  | [], _ :: _ => -1
  | _ :: _, [] => 1
  | x :: a, y :: b => if x < y then -1 else if y < x then 1 else cmpN a b
def cmpL (a b : List UInt8) : Int := cmpN (lettersL a) (lettersL b)
theorem drop_shorter (l : List UInt8) (h : l ≠ []) : (l.drop (decL l).2).length < l.length := by
  have h1 := (decL_pos l).1
  have h2 : 0 < l.length := List.length_pos_iff.2 h
  rw [List.length_drop]
  omega
theorem lettersF_fuel : ∀ f g (l : List UInt8), l.length ≤ f → l.length ≤ g → lettersF f l = lettersF g l := by
  intro f
  induction f with
  | zero =>
    intro g l hf hg
    have : l = [] := List.eq_nil_of_length_eq_zero (by omega)
    subst this
    cases g <;> simp [lettersF]
  | succ f ih =>
    intro g l hf hg
    by_cases h : l = []
    · subst h
      cases g <;> simp [lettersF]
    · have hs := drop_shorter l h
      cases g with
      | zero => have := List.length_pos_iff.2 h; omega
      | succ g =>
        simp only [lettersF, if_neg h]
        rw [ih g _ (by omega) (by omega)]
theorem plainF_fuel : ∀ f g (l : List UInt8), l.length ≤ f → l.length ≤ g → plainF f l = plainF g l := by
  intro f
  induction f with
  | zero =>
    intro g l hf hg
    have : l = [] := List.eq_nil_of_length_eq_zero (by omega)
    subst this
    cases g <;> simp [plainF]
  | succ f ih =>
    intro g l hf hg
    by_cases h : l = []
    · subst h
      cases g <;> simp [plainF]
    · have hs := drop_shorter l h
      cases g with
      | zero => have := List.length_pos_iff.2 h; omega
      | succ g =>
        simp only [plainF, if_neg h]
        rw [ih g _ (by omega) (by omega)]
theorem letters_nil : lettersL [] = [] := rfl
theorem letters_cons (l : List UInt8) (h : l ≠ []) : lettersL l = (decL l).1 :: lettersL (l.drop (decL l).2) := by
  have hs := drop_shorter l h
  have hl : 0 < l.length := List.length_pos_iff.2 h
  unfold lettersL
  rw [lettersF_fuel l.length (l.length - 1 + 1) l (by omega) (by omega), lettersF, if_neg h, lettersF_fuel (l.length - 1) (l.drop (decL l).2).length _ (by omega) (by omega)]
theorem plain_nil : plainL [] = true := rfl
theorem plain_cons (l : List UInt8) (h : l ≠ []) : plainL l = (plainB (decL l).1 (decL l).2 && plainL (l.drop (decL l).2)) := by
  have hs := drop_shorter l h
  have hl : 0 < l.length := List.length_pos_iff.2 h
  unfold plainL
  rw [plainF_fuel l.length (l.length - 1 + 1) l (by omega) (by omega), plainF, if_neg h, plainF_fuel (l.length - 1) (l.drop (decL l).2).length _ (by omega) (by omega)]
theorem letters_len (l : List UInt8) : (lettersL l).length ≤ l.length := by
  have : ∀ n (l : List UInt8), l.length ≤ n → (lettersL l).length ≤ l.length := by
    intro n
    induction n with
    | zero =>
      intro l hl
      have : l = [] := List.eq_nil_of_length_eq_zero (by omega)
      subst this
      simp [letters_nil]
    | succ n ih =>
      intro l hl
      by_cases h : l = []
      · subst h; simp [letters_nil]
      · have hs := drop_shorter l h
        rw [letters_cons l h, List.length_cons]
        have := ih _ (by omega : (l.drop (decL l).2).length ≤ n)
        omega
  exact this _ l (Nat.le_refl _)
theorem cmpN_self (a : List Nat) : cmpN a a = 0 := by
  induction a with
  | nil => rfl
  | cons x a ih => simp [cmpN, ih]
theorem cmpN_swap (a b : List Nat) : cmpN b a = - cmpN a b := by
  induction a generalizing b with
  | nil => cases b <;> simp [cmpN]
  | cons x a ih =>
    cases b with
    | nil => simp [cmpN]
    | cons y b =>
      simp only [cmpN]
      by_cases h1 : x < y
      · rw [if_pos h1, if_neg (by omega), if_pos h1]; rfl
      · by_cases h2 : y < x
        · rw [if_neg h1, if_pos h2, if_pos h2, if_neg h1]
        · rw [if_neg h1, if_neg h2, if_neg h2, if_neg h1, ih]
theorem cmpN_range (a b : List Nat) : cmpN a b = -1 ∨ cmpN a b = 0 ∨ cmpN a b = 1 := by
  induction a generalizing b with
  | nil => cases b <;> simp [cmpN]
  | cons x a ih =>
    cases b with
    | nil => simp [cmpN]
    | cons y b =>
      simp only [cmpN]
      split
      · simp
      · split
        · simp
        · exact ih b
theorem cmpN_trans (a b c : List Nat) (h1 : cmpN a b ≤ 0) (h2 : cmpN b c ≤ 0) : cmpN a c ≤ 0 := by
  induction a generalizing b c with
  | nil => cases c <;> simp [cmpN]
  | cons x a ih =>
    cases b with
    | nil => simp [cmpN] at h1
    | cons y b =>
      cases c with
      | nil => simp [cmpN] at h2
      | cons z c =>
        simp only [cmpN] at *
        by_cases p : x < y
        · by_cases q : y < z
          · rw [if_pos (by omega)]; omega
          · by_cases r : z < y
            · rw [if_neg q, if_pos r] at h2; omega
            · rw [if_pos (by omega)]; omega
        · by_cases p2 : y < x
          · rw [if_neg p, if_pos p2] at h1; omega
          · rw [if_neg p, if_neg p2] at h1
            have : x = y := by omega
            subst this
            by_cases q : x < z
            · rw [if_pos q]; omega
            · by_cases r : z < x
              · rw [if_neg q, if_pos r] at h2; omega
              · rw [if_neg q, if_neg r] at h2 ⊢
                exact ih b c h1 h2
theorem cmpN_zero (a b : List Nat) : cmpN a b = 0 ↔ a = b := by
  constructor
  · intro h
    induction a generalizing b with
    | nil => cases b with
      | nil => rfl
      | cons y b => simp [cmpN] at h
    | cons x a ih =>
      cases b with
      | nil => simp [cmpN] at h
      | cons y b =>
        simp only [cmpN] at h
        by_cases p : x < y
        · rw [if_pos p] at h; omega
        · by_cases q : y < x
          · rw [if_neg p, if_pos q] at h; omega
          · rw [if_neg p, if_neg q] at h
            rw [ih b h, show x = y by omega]
  · rintro rfl
    exact cmpN_self a
end Go.Proofs.YtkoligiilieboaaGreatDoor
namespace Go.Proofs.YtkoligiilieboaaGreatDoor
theorem take_one (l : List UInt8) (h : 0 < l.length) : l.take 1 = [UInt8.ofNat (ub l 0)] := by
  match l, h with
  | x :: r, _ => simp [ub]
theorem take_two (l : List UInt8) (h : 1 < l.length) : l.take 2 = [UInt8.ofNat (ub l 0), UInt8.ofNat (ub l 1)] := by
  match l, h with
  | x :: y :: r, _ => simp [ub]
theorem take_three (l : List UInt8) (h : 2 < l.length) : l.take 3 = [UInt8.ofNat (ub l 0), UInt8.ofNat (ub l 1), UInt8.ofNat (ub l 2)] := by
  match l, h with
  | x :: y :: z :: r, _ => simp [ub]
theorem take_four (l : List UInt8) (h : 3 < l.length) : l.take 4 = [UInt8.ofNat (ub l 0), UInt8.ofNat (ub l 1), UInt8.ofNat (ub l 2), UInt8.ofNat (ub l 3)] := by
  match l, h with
  | x :: y :: z :: t :: r, _ => simp [ub]
/-- the bytes of a letter are told by its code point, where there is UTF-8 -/
theorem take_enc (l : List UInt8) (hl : l ≠ []) (hne : decL l ≠ (65533, 1)) : l.take (decL l).2 = Lib.encodeRune (decL l).1 := by
  have h0 : 0 < l.length := List.length_pos_iff.2 hl
  have hb := ub_lt l 0
  revert hne
  unfold decL decG
  split
  · intro _
    rw [take_one l h0]
    simp only [Lib.encodeRune]
    rw [Lib.encodeRuneZ_one (by omega) (by omega)]
    simp
  · split
    · rename_i h2
      have hc1 := contL_lt h2.2
      split
      · intro _
        rw [take_two l hc1.1]
        simp only [Lib.encodeRune]
        rw [Lib.encodeRuneZ_two (by omega) (by omega)]
        simp only [List.map_cons, List.map_nil]
        rw [show ((192 : Int) + (((ub l 0 % 32) * 64 + ub l 1 % 64 : Nat) : Int) / 64).toNat = ub l 0 by omega, show ((128 : Int) + (((ub l 0 % 32) * 64 + ub l 1 % 64 : Nat) : Int) % 64).toNat = ub l 1 by omega]
      · intro h; exact absurd rfl h
    · split
      · rename_i h3
        have hc1 := contL_lt h3.2.1
        have hc2 := contL_lt h3.2.2
        split
        · rename_i h4
          intro _
          have hok := h4.2
          unfold okC at hok
          rw [take_three l hc2.1]
          simp only [Lib.encodeRune]
          rw [Lib.encodeRuneZ_three (by omega)]
          simp only [List.map_cons, List.map_nil]
          rw [show ((224 : Int) + (((ub l 0 % 16) * 4096 + (ub l 1 % 64) * 64 + ub l 2 % 64 : Nat) : Int) / 4096).toNat = ub l 0 by omega,
            show ((128 : Int) + (((ub l 0 % 16) * 4096 + (ub l 1 % 64) * 64 + ub l 2 % 64 : Nat) : Int) / 64 % 64).toNat = ub l 1 by omega,
            show ((128 : Int) + (((ub l 0 % 16) * 4096 + (ub l 1 % 64) * 64 + ub l 2 % 64 : Nat) : Int) % 64).toNat = ub l 2 by omega]
        · intro h; exact absurd rfl h
      · split
        · rename_i h3
          have hc1 := contL_lt h3.2.1
          have hc2 := contL_lt h3.2.2.1
          have hc3 := contL_lt h3.2.2.2
          split
          · rename_i h4
            intro _
            have hok := h4.2
            unfold okC at hok
            rw [take_four l hc3.1]
            simp only [Lib.encodeRune]
            rw [Lib.encodeRuneZ_four (by omega) (by omega)]
            simp only [List.map_cons, List.map_nil]
            rw [show ((240 : Int) + (((ub l 0 % 8) * 262144 + (ub l 1 % 64) * 4096 + (ub l 2 % 64) * 64 + ub l 3 % 64 : Nat) : Int) / 262144).toNat = ub l 0 by omega,
              show ((128 : Int) + (((ub l 0 % 8) * 262144 + (ub l 1 % 64) * 4096 + (ub l 2 % 64) * 64 + ub l 3 % 64 : Nat) : Int) / 4096 % 64).toNat = ub l 1 by omega,
              show ((128 : Int) + (((ub l 0 % 8) * 262144 + (ub l 1 % 64) * 4096 + (ub l 2 % 64) * 64 + ub l 3 % 64 : Nat) : Int) / 64 % 64).toNat = ub l 2 by omega,
              show ((128 : Int) + (((ub l 0 % 8) * 262144 + (ub l 1 % 64) * 4096 + (ub l 2 % 64) * 64 + ub l 3 % 64 : Nat) : Int) % 64).toNat = ub l 3 by omega]
          · intro h; exact absurd rfl h
        · intro h; exact absurd rfl h
theorem plainB_dec {l : List UInt8} (h : plainB (decL l).1 (decL l).2 = true) : decL l ≠ (65533, 1) := by
  intro e
  rw [e] at h
  simp [plainB] at h
/-- a key is the bytes of its letters -/
theorem letters_enc (l : List UInt8) (h : plainL l = true) : l = (lettersL l).flatMap (fun c : Nat => Lib.encodeRune (c : Int)) := by
  have : ∀ n (l : List UInt8), l.length ≤ n → plainL l = true → l = (lettersL l).flatMap (fun c : Nat => Lib.encodeRune (c : Int)) := by
    intro n
    induction n with
    | zero =>
      intro l hl _
      have : l = [] := List.eq_nil_of_length_eq_zero (by omega)
      subst this
      rfl
    | succ n ih =>
      intro l hl hp
      by_cases hn : l = []
      · subst hn; rfl
      · have hs := drop_shorter l hn
        rw [plain_cons l hn, Bool.and_eq_true] at hp
        rw [letters_cons l hn, List.flatMap_cons, ← ih _ (by omega) hp.2, ← take_enc l hn (plainB_dec hp.1), List.take_append_drop]
  exact this _ l (Nat.le_refl _) h
theorem letters_inj {a b : List UInt8} (ha : plainL a = true) (hb : plainL b = true) (h : lettersL a = lettersL b) : a = b := by
  rw [letters_enc a ha, letters_enc b hb, h]
theorem cmpL_zero {a b : List UInt8} (ha : plainL a = true) (hb : plainL b = true) : cmpL a b = 0 ↔ a = b := by
  unfold cmpL
  rw [cmpN_zero]
  exact ⟨fun h => letters_inj ha hb h, fun h => by rw [h]⟩
theorem cmpL_self (a : List UInt8) : cmpL a a = 0 := cmpN_self _
theorem cmpL_swap (a b : List UInt8) : cmpL b a = - cmpL a b := cmpN_swap _ _
theorem cmpL_range (a b : List UInt8) : cmpL a b = -1 ∨ cmpL a b = 0 ∨ cmpL a b = 1 := cmpN_range _ _
theorem cmpL_trans {a b c : List UInt8} (h1 : cmpL a b ≤ 0) (h2 : cmpL b c ≤ 0) : cmpL a c ≤ 0 := cmpN_trans _ _ _ h1 h2
theorem cmpL_trans_lt {a b c : List UInt8} (h1 : cmpL a b < 0) (h2 : cmpL b c ≤ 0) : cmpL a c < 0 := by
  rcases Int.lt_or_le (cmpL a c) 0 with h | h
  · exact h
  · exfalso
    have h3 : cmpL c a ≤ 0 := by rw [cmpL_swap a c]; omega
    have h4 := cmpL_trans h2 h3
    rw [cmpL_swap a b] at h4
    omega
theorem cmpL_trans_le {a b c : List UInt8} (h1 : cmpL a b ≤ 0) (h2 : cmpL b c < 0) : cmpL a c < 0 := by
  rcases Int.lt_or_le (cmpL a c) 0 with h | h
  · exact h
  · exfalso
    have h3 : cmpL c a ≤ 0 := by rw [cmpL_swap a c]; omega
    have h4 := cmpL_trans h3 h1
    rw [cmpL_swap b c] at h4
    omega
end Go.Proofs.YtkoligiilieboaaGreatDoor
namespace Go.Proofs.YtkoligiilieboaaGreatDoor
structure Sp where
  lo : List UInt8
  hi : List UInt8
deriving DecidableEq
def zSp : Sp := ⟨[], []⟩
def rightSp (s : Sp) : Bool := (decide (s.lo = []) || rightL s.lo) && (decide (s.hi = []) || (rightL s.hi && decide (cmpL s.lo s.hi < 0)))
def hasSp (s : Sp) (k : List UInt8) : Bool := rightSp s && (rightL k && (decide (cmpL s.lo k ≤ 0) && (decide (s.hi = []) || decide (cmpL k s.hi < 0))))
def cutSp (s : Sp) (x : List UInt8) : Sp × Sp × Nat :=
  if rightSp s = false ∨ rightL x = false then (zSp, zSp, 1) else if x = s.lo ∨ hasSp s x = false then (zSp, zSp, 9) else (⟨s.lo, x⟩, ⟨x, s.hi⟩, 0)
def joinSp (a b : Sp) : Sp × Nat :=
  if rightSp a = false ∨ rightSp b = false then (zSp, 1) else if a.hi = [] ∨ a.hi ≠ b.lo then (zSp, 9) else (⟨a.lo, b.hi⟩, 0)
def aheadSp (lo hi : List UInt8) : Bool := decide (hi = []) || decide (cmpL lo hi < 0)
def meetSp (a b : Sp) : Bool := rightSp a && (rightSp b && (aheadSp a.lo b.hi && aheadSp b.lo a.hi))
def chainF (first : Bool) (last : List UInt8) : List Sp → Bool
  | [] => !first && decide (last = [])
  | s :: r => rightSp s && (decide (s.lo = last) && ((first || !decide (last = [])) && chainF false s.hi r))
def wholeSp (l : List Sp) : Bool := chainF true [] l
/- the document's answers -/
def refCutSp (s : Sp) (x : List UInt8) : Sp × Sp × Nat :=
  if rightSp s = false ∨ rightL x = false then (zSp, zSp, 1) else if rightSp ⟨s.lo, x⟩ = false ∨ rightSp ⟨x, s.hi⟩ = false then (zSp, zSp, 9) else (⟨s.lo, x⟩, ⟨x, s.hi⟩, 0)
def meetOf (a b : Sp) : Sp :=
  ⟨if 0 < cmpL b.lo a.lo then b.lo else a.lo, if b.hi ≠ [] ∧ (a.hi = [] ∨ cmpL b.hi a.hi < 0) then b.hi else a.hi⟩
def refMeetSp (a b : Sp) : Bool := rightSp a && (rightSp b && rightSp (meetOf a b))
def rwF (s : Sp) : List Sp → Bool
  | [] => decide (s = zSp)
  | t :: r => if (joinSp s t).2 ≠ 0 then false else rwF (joinSp s t).1 r
def refWholeSp : List Sp → Bool
  | [] => false
  | s :: r => rightSp s && rwF s r
theorem right_ne {k : List UInt8} (h : rightL k = true) : k ≠ [] ∧ plainL k = true ∧ k.length ≤ 16 := by
  unfold rightL at h
  simp only [Bool.and_eq_true, decide_eq_true_eq] at h
  exact ⟨fun e => by subst e; simp at h, h.1, h.2.2⟩
theorem rightSp_iff (s : Sp) : rightSp s = true ↔ (s.lo = [] ∨ rightL s.lo = true) ∧ (s.hi = [] ∨ (rightL s.hi = true ∧ cmpL s.lo s.hi < 0)) := by
  simp [rightSp]
theorem hasSp_iff (s : Sp) (k : List UInt8) : hasSp s k = true ↔ rightSp s = true ∧ rightL k = true ∧ cmpL s.lo k ≤ 0 ∧ (s.hi = [] ∨ cmpL k s.hi < 0) := by
  simp [hasSp]
theorem aheadSp_iff (lo hi : List UInt8) : aheadSp lo hi = true ↔ (hi = [] ∨ cmpL lo hi < 0) := by
  simp [aheadSp]
theorem meetSp_iff (a b : Sp) : meetSp a b = true ↔ rightSp a = true ∧ rightSp b = true ∧ (b.hi = [] ∨ cmpL a.lo b.hi < 0) ∧ (a.hi = [] ∨ cmpL b.lo a.hi < 0) := by
  simp [meetSp, aheadSp]
theorem lo_plain {s : Sp} (h : rightSp s = true) : plainL s.lo = true := by
  rcases ((rightSp_iff s).1 h).1 with e | e
  · rw [e]; rfl
  · exact (right_ne e).2.1
theorem lo_len {s : Sp} (h : rightSp s = true) : s.lo.length ≤ 16 := by
  rcases ((rightSp_iff s).1 h).1 with e | e
  · rw [e]; simp
  · exact (right_ne e).2.2
theorem hi_len {s : Sp} (h : rightSp s = true) : s.hi.length ≤ 16 := by
  rcases ((rightSp_iff s).1 h).2 with e | e
  · rw [e]; simp
  · exact (right_ne e.1).2.2
/-- both halves of a cut are right just if the place is inside -/
theorem halves (s : Sp) (x : List UInt8) (hs : rightSp s = true) (hx : rightL x = true) :
    (rightSp ⟨s.lo, x⟩ = true ∧ rightSp ⟨x, s.hi⟩ = true) ↔ (x ≠ s.lo ∧ hasSp s x = true) := by
  have hp := lo_plain hs
  obtain ⟨hxn, hxp, _⟩ := right_ne hx
  rw [rightSp_iff, rightSp_iff, hasSp_iff]
  obtain ⟨h1, h2⟩ := (rightSp_iff s).1 hs
  constructor
  · rintro ⟨⟨_, h4⟩, ⟨_, h6⟩⟩
    rcases h4 with h4 | h4
    · exact absurd h4 hxn
    · refine ⟨?_, hs, hx, by have := h4.2; simp only at this; omega, ?_⟩
      · intro e
        have := h4.2
        simp only at this
        rw [← e, cmpL_self] at this
        omega
      · rcases h6 with h6 | h6
        · exact .inl h6
        · exact .inr h6.2
  · rintro ⟨hne, _, _, h3, h4⟩
    refine ⟨⟨h1, .inr ⟨hx, ?_⟩⟩, ⟨.inr hx, ?_⟩⟩
    · have : cmpL s.lo x ≠ 0 := fun e => hne ((cmpL_zero hp hxp).1 e).symm
      simp only
      omega
    · simp only
      rcases h4 with h4 | h4
      · exact .inl h4
      · rcases h2 with h2 | h2
        · exact .inl h2
        · exact .inr ⟨h2.1, h4⟩
theorem refCut_eq (s : Sp) (x : List UInt8) : refCutSp s x = cutSp s x := by
  unfold refCutSp cutSp
  by_cases h : rightSp s = false ∨ rightL x = false
  · rw [if_pos h, if_pos h]
  · rw [if_neg h, if_neg h]
    have hs : rightSp s = true := by cases e : rightSp s <;> simp_all
    have hx : rightL x = true := by cases e : rightL x <;> simp_all
    have hh := halves s x hs hx
    by_cases h2 : x = s.lo ∨ hasSp s x = false
    · rw [if_pos h2, if_pos]
      have : ¬ (rightSp ⟨s.lo, x⟩ = true ∧ rightSp ⟨x, s.hi⟩ = true) := by
        rw [hh]
        rintro ⟨h3, h4⟩
        rcases h2 with h2 | h2
        · exact h3 h2
        · rw [h4] at h2; cases h2
      rcases e1 : rightSp ⟨s.lo, x⟩ with _ | _
      · exact .inl rfl
      · rcases e2 : rightSp ⟨x, s.hi⟩ with _ | _
        · exact .inr rfl
        · exact absurd ⟨e1, e2⟩ this
    · rw [if_neg h2, if_neg]
      have : rightSp ⟨s.lo, x⟩ = true ∧ rightSp ⟨x, s.hi⟩ = true := by
        rw [hh]
        refine ⟨fun e => h2 (.inl e), ?_⟩
        cases e : hasSp s x
        · exact absurd (.inr e) h2
        · rfl
      rw [this.1, this.2]
      simp
theorem meetOf_right (a b : Sp) (ha : rightSp a = true) (hb : rightSp b = true) : rightSp (meetOf a b) = (aheadSp a.lo b.hi && aheadSp b.lo a.hi) := by
  have ha1 := (rightSp_iff a).1 ha
  have hb1 := (rightSp_iff b).1 hb
  rw [Bool.eq_iff_iff, rightSp_iff, Bool.and_eq_true, aheadSp_iff, aheadSp_iff]
  have sw := cmpL_swap a.lo b.lo
  have sh := cmpL_swap a.hi b.hi
  -- the later lower end
  have hlo : ((meetOf a b).lo = [] ∨ rightL (meetOf a b).lo = true) := by
    unfold meetOf
    simp only
    split
    · exact hb1.1
    · exact ha1.1
  have l1 : cmpL a.lo (meetOf a b).lo ≤ 0 := by
    unfold meetOf
    simp only
    split
    · omega
    · rw [cmpL_self]; omega
  have l2 : cmpL b.lo (meetOf a b).lo ≤ 0 := by
    unfold meetOf
    simp only
    split
    · rw [cmpL_self]; omega
    · omega
  have l3 : (meetOf a b).lo = a.lo ∨ (meetOf a b).lo = b.lo := by
    unfold meetOf
    simp only
    split
    · exact .inr rfl
    · exact .inl rfl
  constructor
  · rintro ⟨_, h2⟩
    unfold meetOf at h2 l1 l2
    simp only at h2 l1 l2
    constructor
    · by_cases hbh : b.hi = []
      · exact .inl hbh
      · right
        by_cases hc : b.hi ≠ [] ∧ (a.hi = [] ∨ cmpL b.hi a.hi < 0)
        · rw [if_pos hc] at h2
          rcases h2 with h2 | h2
          · exact absurd h2 hbh
          · exact cmpL_trans_le l1 h2.2
        · rw [if_neg hc] at h2
          have hah : ¬ a.hi = [] := fun e => hc ⟨hbh, .inl e⟩
          have hge : ¬ cmpL b.hi a.hi < 0 := fun e => hc ⟨hbh, .inr e⟩
          rcases h2 with h2 | h2
          · exact absurd h2 hah
          · exact cmpL_trans_lt (cmpL_trans_le l1 h2.2) (by omega)
    · by_cases hah : a.hi = []
      · exact .inl hah
      · right
        by_cases hc : b.hi ≠ [] ∧ (a.hi = [] ∨ cmpL b.hi a.hi < 0)
        · rw [if_pos hc] at h2
          rcases h2 with h2 | h2
          · exact absurd h2 hc.1
          · have h3 : cmpL b.hi a.hi < 0 := by
              rcases hc.2 with h3 | h3
              · exact absurd h3 hah
              · exact h3
            exact cmpL_trans_lt (cmpL_trans_le l2 h2.2) (by omega)
        · rw [if_neg hc] at h2
          rcases h2 with h2 | h2
          · exact absurd h2 hah
          · exact cmpL_trans_le l2 h2.2
  · rintro ⟨h1, h2⟩
    refine ⟨hlo, ?_⟩
    have hh : ∀ hi, (hi = a.hi ∨ hi = b.hi) → hi ≠ [] → rightL hi = true ∧ cmpL (meetOf a b).lo hi < 0 := by
      rintro hi (rfl | rfl) hne
      · rcases ha1.2 with e | e
        · exact absurd e hne
        · refine ⟨e.1, ?_⟩
          rcases l3 with e3 | e3
          · rw [e3]; exact e.2
          · rw [e3]
            rcases h2 with h2 | h2
            · exact absurd h2 hne
            · exact h2
      · rcases hb1.2 with e | e
        · exact absurd e hne
        · refine ⟨e.1, ?_⟩
          rcases l3 with e3 | e3
          · rw [e3]
            rcases h1 with h1 | h1
            · exact absurd h1 hne
            · exact h1
          · rw [e3]; exact e.2
    by_cases hm : (meetOf a b).hi = []
    · exact .inl hm
    · right
      refine hh _ ?_ hm
      unfold meetOf
      simp only
      split
      · exact .inr rfl
      · exact .inl rfl
theorem refMeet_eq (a b : Sp) : refMeetSp a b = meetSp a b := by
  unfold refMeetSp meetSp
  cases ha : rightSp a
  · simp
  · cases hb : rightSp b
    · simp
    · simp only [Bool.true_and]
      exact meetOf_right a b ha hb
theorem meet_swap (a b : Sp) : meetSp b a = meetSp a b := by
  unfold meetSp
  cases rightSp a <;> cases rightSp b <;> cases aheadSp a.lo b.hi <;> cases aheadSp b.lo a.hi <;> rfl
theorem join_right {a b : Sp} (ha : rightSp a = true) (hb : rightSp b = true) (h1 : a.hi ≠ []) (h2 : a.hi = b.lo) : rightSp ⟨a.lo, b.hi⟩ = true := by
  have ha1 := (rightSp_iff a).1 ha
  have hb1 := (rightSp_iff b).1 hb
  rw [rightSp_iff]
  refine ⟨ha1.1, ?_⟩
  rcases hb1.2 with e | e
  · exact .inl e
  · right
    refine ⟨e.1, ?_⟩
    rcases ha1.2 with f | f
    · exact absurd f h1
    · have := e.2
      rw [← h2] at this
      exact cmpL_trans_lt f.2 (Int.le_of_lt this)
theorem rwF_eq (r : List Sp) : ∀ s, rightSp s = true → rwF s r = (decide (s.lo = []) && chainF false s.hi r) := by
  induction r with
  | nil =>
    intro s _
    obtain ⟨lo, hi⟩ := s
    simp [rwF, chainF, zSp]
  | cons t r ih =>
    intro s hs
    simp only [rwF, chainF]
    cases ht : rightSp t
    · simp [joinSp, ht]
    · by_cases h : s.hi = [] ∨ s.hi ≠ t.lo
      · have hj : (joinSp s t).2 ≠ 0 := by simp [joinSp, hs, ht, h]
        rw [if_pos hj]
        rcases h with h | h
        · simp [h]
        · have : ¬ t.lo = s.hi := fun e => h e.symm
          simp [this]
      · have hj : joinSp s t = (⟨s.lo, t.hi⟩, 0) := by simp [joinSp, hs, ht, h]
        rw [hj]
        have h1 : s.hi ≠ [] := fun e => h (.inl e)
        have h2 : s.hi = t.lo := Classical.byContradiction fun e => h (.inr e)
        rw [if_neg (by simp)]
        rw [ih _ (join_right hs ht h1 h2)]
        simp [h1, h2.symm]
theorem refWhole_eq (l : List Sp) : refWholeSp l = wholeSp l := by
  cases l with
  | nil => rfl
  | cons s r =>
    simp only [refWholeSp, wholeSp, chainF]
    cases hs : rightSp s
    · simp
    · rw [rwF_eq r s hs]
      simp
/- the laws -/
def countSp (k : List UInt8) : List Sp → Nat
  | [] => 0
  | s :: r => (if hasSp s k = true then 1 else 0) + countSp k r
theorem once_from (k : List UInt8) (hk : rightL k = true) (r : List Sp) : ∀ first last, chainF first last r = true → r ≠ [] → countSp k r = if cmpL last k ≤ 0 then 1 else 0 := by
  induction r with
  | nil => intro _ _ _ h; exact absurd rfl h
  | cons s r ih =>
    intro first last h _
    simp only [chainF, Bool.and_eq_true, decide_eq_true_eq] at h
    obtain ⟨hs, hlo, _, hr⟩ := h
    subst hlo
    simp only [countSp]
    have hs1 := (rightSp_iff s).1 hs
    by_cases hrn : r = []
    · subst hrn
      simp [chainF] at hr
      have : hasSp s k = true ↔ cmpL s.lo k ≤ 0 := by
        rw [hasSp_iff]
        simp [hs, hk, hr]
      simp only [countSp, Nat.add_zero, this]
    · have hhi : s.hi ≠ [] := by
        intro e
        cases r with
        | nil => exact hrn rfl
        | cons t r => simp [chainF, e] at hr
      rw [ih false s.hi hr hrn]
      have hlt : cmpL s.lo s.hi < 0 := by
        rcases hs1.2 with e | e
        · exact absurd e hhi
        · exact e.2
      have hsw := cmpL_swap k s.hi
      have : hasSp s k = true ↔ cmpL s.lo k ≤ 0 ∧ cmpL k s.hi < 0 := by
        rw [hasSp_iff]
        simp [hs, hk, hhi]
      by_cases h1 : cmpL s.hi k ≤ 0
      · have h2 : cmpL s.lo k ≤ 0 := by have := cmpL_trans_lt hlt h1; omega
        have h3 : ¬ hasSp s k = true := by rw [this]; omega
        rw [if_neg h3, if_pos h1, if_pos h2]
      · rw [if_neg h1]
        by_cases h2 : cmpL s.lo k ≤ 0
        · have h3 : hasSp s k = true := by rw [this]; omega
          rw [if_pos h3, if_pos h2]
        · have h3 : ¬ hasSp s k = true := by rw [this]; omega
          rw [if_neg h3, if_neg h2]
theorem cmpL_nil_right {k : List UInt8} (h : k ≠ []) : cmpL [] k = -1 := by
  unfold cmpL
  rw [letters_cons k h]
  rfl
theorem once (k : List UInt8) (l : List Sp) (hk : rightL k = true) (h : wholeSp l = true) : countSp k l = 1 := by
  have hne : l ≠ [] := by rintro rfl; simp [wholeSp, chainF] at h
  rw [once_from k hk l true [] h hne, cmpL_nil_right (right_ne hk).1]
  rfl
theorem meet_common (a b : Sp) (k : List UInt8) (ha : hasSp a k = true) (hb : hasSp b k = true) : meetSp a b = true := by
  rw [hasSp_iff] at ha hb
  rw [meetSp_iff]
  obtain ⟨a1, a2, a3, a4⟩ := ha
  obtain ⟨b1, b2, b3, b4⟩ := hb
  refine ⟨a1, b1, ?_, ?_⟩
  · rcases b4 with e | e
    · exact .inl e
    · exact .inr (cmpL_trans_le a3 e)
  · rcases a4 with e | e
    · exact .inl e
    · exact .inr (cmpL_trans_le b3 e)
theorem meet_self (a : Sp) : meetSp a a = rightSp a := by
  rw [Bool.eq_iff_iff, meetSp_iff]
  constructor
  · exact fun h => h.1
  · intro h
    have h2 := ((rightSp_iff a).1 h).2
    have h3 : a.hi = [] ∨ cmpL a.lo a.hi < 0 := by
      rcases h2 with e | e
      · exact .inl e
      · exact .inr e.2
    exact ⟨h, h, h3, h3⟩
/-- what a cut that was done is -/
structure CutDone (s : Sp) (x : List UInt8) : Prop where
  eq : cutSp s x = (⟨s.lo, x⟩, ⟨x, s.hi⟩, 0)
  a : rightSp ⟨s.lo, x⟩ = true
  b : rightSp ⟨x, s.hi⟩ = true
  s : rightSp s = true
  x : rightL x = true
theorem cut_cases (s : Sp) (x : List UInt8) : (∃ e, cutSp s x = (zSp, zSp, e) ∧ (e = 1 ∨ e = 9)) ∨ CutDone s x := by
  unfold cutSp
  by_cases h : rightSp s = false ∨ rightL x = false
  · exact .inl ⟨1, by rw [if_pos h], .inl rfl⟩
  · by_cases h2 : x = s.lo ∨ hasSp s x = false
    · exact .inl ⟨9, by rw [if_neg h, if_pos h2], .inr rfl⟩
    · right
      have hs : rightSp s = true := by cases e : rightSp s <;> simp_all
      have hx : rightL x = true := by cases e : rightL x <;> simp_all
      have hh := (halves s x hs hx).2 ⟨fun e => h2 (.inl e), by cases e : hasSp s x <;> simp_all⟩
      exact ⟨by unfold cutSp; rw [if_neg h, if_neg h2], hh.1, hh.2, hs, hx⟩
theorem CutDone.lt {s : Sp} {x : List UInt8} (h : CutDone s x) : cmpL s.lo x < 0 := by
  rcases ((rightSp_iff _).1 h.a).2 with e | e
  · exact absurd e (right_ne h.x).1
  · exact e.2
theorem CutDone.up {s : Sp} {x : List UInt8} (h : CutDone s x) : s.hi = [] ∨ cmpL x s.hi < 0 := by
  rcases ((rightSp_iff _).1 h.b).2 with e | e
  · exact .inl e
  · exact .inr e.2
theorem CutDone.all {s : Sp} {x : List UInt8} (h : CutDone s x) : s.hi = [] ∨ cmpL s.lo s.hi < 0 := by
  rcases h.up with e | e
  · exact .inl e
  · exact .inr (cmpL_trans_lt h.lt (by omega))
theorem CutDone.join {s : Sp} {x : List UInt8} (h : CutDone s x) : joinSp ⟨s.lo, x⟩ ⟨x, s.hi⟩ = (s, 0) := by
  unfold joinSp
  rw [h.a, h.b, if_neg (by simp), if_neg (by have := (right_ne h.x).1; simp [this])]
theorem CutDone.apart {s : Sp} {x : List UInt8} (h : CutDone s x) : meetSp ⟨s.lo, x⟩ ⟨x, s.hi⟩ = false := by
  cases e : meetSp ⟨s.lo, x⟩ ⟨x, s.hi⟩
  · rfl
  · exfalso
    rw [meetSp_iff] at e
    have := e.2.2.2
    simp only at this
    rcases this with f | f
    · exact (right_ne h.x).1 f
    · rw [cmpL_self] at f; omega
theorem CutDone.left {s : Sp} {x : List UInt8} (h : CutDone s x) : meetSp ⟨s.lo, x⟩ s = true := by
  rw [meetSp_iff]
  exact ⟨h.a, h.s, h.all, .inr h.lt⟩
theorem CutDone.right {s : Sp} {x : List UInt8} (h : CutDone s x) : meetSp s ⟨x, s.hi⟩ = true := by
  rw [meetSp_iff]
  exact ⟨h.s, h.b, h.all, h.up⟩
theorem CutDone.keys {s : Sp} {x : List UInt8} (h : CutDone s x) (k : List UInt8) :
    hasSp s k = (hasSp ⟨s.lo, x⟩ k || hasSp ⟨x, s.hi⟩ k) ∧ (hasSp ⟨s.lo, x⟩ k && hasSp ⟨x, s.hi⟩ k) = false := by
  cases hk : rightL k
  · simp [hasSp, hk]
  · have hxn := (right_ne h.x).1
    have e1 : hasSp s k = (decide (cmpL s.lo k ≤ 0) && (decide (s.hi = []) || decide (cmpL k s.hi < 0))) := by simp [hasSp, hk, h.s]
    have e2 : hasSp ⟨s.lo, x⟩ k = (decide (cmpL s.lo k ≤ 0) && decide (cmpL k x < 0)) := by simp [hasSp, hk, h.a, hxn]
    have e3 : hasSp ⟨x, s.hi⟩ k = (decide (cmpL x k ≤ 0) && (decide (s.hi = []) || decide (cmpL k s.hi < 0))) := by simp [hasSp, hk, h.b]
    rw [e1, e2, e3]
    have hsw := cmpL_swap k x
    have hlt := h.lt
    by_cases h1 : cmpL k x < 0
    · have h2 : ¬ cmpL x k ≤ 0 := by omega
      have h3 : (decide (s.hi = []) || decide (cmpL k s.hi < 0)) = true := by
        rcases h.up with e | e
        · simp [e]
        · have := cmpL_trans_lt h1 (show cmpL x s.hi ≤ 0 by omega)
          simp [this]
      rw [h3]
      simp [h1, h2]
    · have h2 : cmpL x k ≤ 0 := by omega
      have h3 : cmpL s.lo k ≤ 0 := by have := cmpL_trans_lt hlt h2; omega
      simp [h1, h2, h3]
end Go.Proofs.YtkoligiilieboaaGreatDoor
namespace Go.Proofs.YtkoligiilieboaaGreatDoor
/-- the bytes of a number, the lowest seven bits first -/
def putF : Nat → Nat → List UInt8
  | 0, _ => []
  | f + 1, n => if n < 128 then [UInt8.ofNat n] else UInt8.ofNat (n % 128 + 128) :: putF f (n / 128)
def putL (n : Nat) : List UInt8 := putF 9 n
/-- where the number ends -/
def endOf : List UInt8 → Nat
  | [] => 0
  | b :: l => if b.toNat < 128 then 0 else endOf l + 1
def valL : List UInt8 → Nat
  | [] => 0
  | b :: l => b.toNat % 128 + 128 * valL l
def byteAt (l : List UInt8) (k : Nat) : Nat := (l[k]?.getD 0).toNat
/-- number, rest, error -/
def takeL (l : List UInt8) : Nat × List UInt8 × Nat :=
  if endOf l = l.length then (0, [], 2)
  else if 8 < endOf l then (0, [], 3)
  else if 0 < endOf l ∧ byteAt l (endOf l) = 0 then (0, [], 3)
  else (valL (l.take (endOf l + 1)), l.drop (endOf l + 1), 0)

theorem endOf_le (l : List UInt8) : endOf l ≤ l.length := by
  induction l with
  | nil => simp [endOf]
  | cons b l ih => simp only [endOf]; split <;> simp <;> omega
theorem byteAt_lt (l : List UInt8) (k : Nat) : byteAt l k < 256 := by unfold byteAt; exact UInt8.toNat_lt _
theorem endOf_before (l : List UInt8) : ∀ j, j < endOf l → 128 ≤ byteAt l j := by
  induction l with
  | nil => intro j h; simp [endOf] at h
  | cons b l ih =>
    intro j h
    simp only [endOf] at h
    split at h
    · omega
    · cases j with
      | zero => simp [byteAt]; omega
      | succ j => have := ih j (by omega); simpa [byteAt] using this
theorem endOf_at (l : List UInt8) (h : endOf l < l.length) : byteAt l (endOf l) < 128 := by
  induction l with
  | nil => simp [endOf] at h
  | cons b l ih =>
    simp only [endOf] at h ⊢
    split
    · simpa [byteAt]
    · rw [if_neg (by assumption)] at h
      have := ih (by simpa using h)
      simpa [byteAt] using this
theorem endOf_ge (l : List UInt8) (k : Nat) (hk : k ≤ l.length) (h : ∀ j, j < k → 128 ≤ byteAt l j) : k ≤ endOf l := by
  apply Nat.le_of_not_lt
  intro hlt
  have h1 := endOf_at l (by omega)
  have := h _ hlt
  omega
theorem endOf_eq (l : List UInt8) (k : Nat) (hk : k < l.length) (h : ∀ j, j < k → 128 ≤ byteAt l j) (h2 : byteAt l k < 128) : endOf l = k := by
  have h1 := endOf_ge l k (by omega) h
  apply Nat.le_antisymm _ h1
  apply Nat.le_of_not_lt
  intro hlt
  have := endOf_before l k hlt
  omega
theorem endOf_all (l : List UInt8) (h : ∀ j, j < l.length → 128 ≤ byteAt l j) : endOf l = l.length :=
  Nat.le_antisymm (endOf_le l) (endOf_ge l _ (Nat.le_refl _) h)

theorem valL_append (a b : List UInt8) : valL (a ++ b) = valL a + 128 ^ a.length * valL b := by
  induction a with
  | nil => simp [valL]
  | cons x a ih => simp only [List.cons_append, valL, ih, List.length_cons, Nat.pow_succ, Nat.mul_add]; rw [Nat.mul_comm (128 ^ a.length) 128, Nat.mul_assoc]; omega
theorem valL_lt (l : List UInt8) : valL l < 128 ^ l.length := by
  induction l with
  | nil => simp [valL]
  | cons b l ih => simp only [valL, List.length_cons, Nat.pow_succ]; omega
theorem valL_snoc (l : List UInt8) (k : Nat) (hk : k < l.length) : valL (l.take (k + 1)) = valL (l.take k) + 128 ^ k * (byteAt l k % 128) := by
  rw [List.take_succ_eq_append_getElem hk, valL_append]
  simp [valL, byteAt, hk, Nat.min_eq_left (Nat.le_of_lt hk)]

theorem putF_len (f n : Nat) : (putF f n).length ≤ f := by
  induction f generalizing n with
  | zero => simp [putF]
  | succ f ih => simp only [putF]; split <;> simp; exact ih _
theorem putF_pos (f n : Nat) : 0 < (putF (f + 1) n).length := by
  simp only [putF]; split <;> simp
theorem ofNat_small (n : Nat) (h : n < 256) : (UInt8.ofNat n).toNat = n := by simp; omega
theorem putF_end (f n : Nat) (more : List UInt8) (h : n < 128 ^ (f + 1)) : endOf (putF (f + 1) n ++ more) + 1 = (putF (f + 1) n).length := by
  induction f generalizing n with
  | zero => simp [putF, h, endOf, ofNat_small n (by omega)]
  | succ f ih =>
    rw [putF]
    split
    · simp [endOf, ofNat_small n (by omega)]; assumption
    · simp only [List.cons_append, endOf, List.length_cons]
      rw [ofNat_small _ (by omega), if_neg (by omega), ih (n / 128) (by rw [Nat.pow_succ] at h; omega)]
theorem putF_val (f n : Nat) (h : n < 128 ^ (f + 1)) : valL (putF (f + 1) n) = n := by
  induction f generalizing n with
  | zero => simp [putF, h, valL, ofNat_small n (by omega)]
  | succ f ih =>
    rw [putF]
    split
    · simp only [valL]; rw [ofNat_small n (by omega)]; omega
    · simp only [valL]
      rw [ofNat_small _ (by omega), ih (n / 128) (by rw [Nat.pow_succ] at h; omega)]
      omega
/-- the last byte is zero just for the number 0 -/
theorem putF_last (f n : Nat) (more : List UInt8) (h : n < 128 ^ (f + 1)) : byteAt (putF (f + 1) n ++ more) (endOf (putF (f + 1) n ++ more)) = 0 → (putF (f + 1) n).length = 1 ∧ n = 0 := by
  induction f generalizing n with
  | zero =>
    rw [putF, if_pos (by omega)]
    simp only [List.cons_append, List.nil_append, endOf]
    rw [ofNat_small n (by omega), if_pos (by omega)]
    simp [byteAt]; omega
  | succ f ih =>
    rw [putF]
    split
    · simp only [List.cons_append, List.nil_append, endOf]
      rw [ofNat_small n (by omega), if_pos (by omega)]
      simp [byteAt]; omega
    · simp only [List.cons_append, endOf]
      rw [ofNat_small _ (by omega), if_neg (by omega)]
      intro h0
      have := ih (n / 128) (by rw [Nat.pow_succ] at h; omega) (by simpa [byteAt] using h0)
      omega
theorem take_put (n : Nat) (more : List UInt8) (h : n < 2 ^ 63) : takeL (putL n ++ more) = (n, more, 0) := by
  have h9 : n < 128 ^ (8 + 1) := by omega
  have he := putF_end 8 n more h9
  have hl : (putF 9 n).length ≤ 9 := putF_len 9 n
  have hz := putF_last 8 n more h9
  have hv := putF_val 8 n h9
  simp only [Nat.reduceAdd] at he hz hv
  unfold takeL putL
  rw [if_neg (by simp; omega), if_neg (by omega), if_neg (by intro hh; have := hz hh.2; omega)]
  rw [he]
  simp [hv]
/-- any bytes that end a number are its own, if the last isn't an idle zero -/
theorem put_val (l : List UInt8) : ∀ f, l ≠ [] → l.length ≤ f → (∀ j, j + 1 < l.length → 128 ≤ byteAt l j) → byteAt l (l.length - 1) < 128 → (1 < l.length → byteAt l (l.length - 1) ≠ 0) → putF f (valL l) = l := by
  induction l with
  | nil => intro f h; exact absurd rfl h
  | cons b l ih =>
    intro f _ hf hb hlast hz
    cases f with
    | zero => simp at hf
    | succ f =>
      cases l with
      | nil =>
        have : b.toNat < 128 := by simpa [byteAt] using hlast
        simp [putF, valL, Nat.mod_eq_of_lt this, this]
      | cons c l =>
        have h0 : 128 ≤ b.toNat := by have := hb 0 (by simp); simpa [byteAt] using this
        have hz' : byteAt (c :: l) ((c :: l).length - 1) ≠ 0 := by have := hz (by simp); simpa [byteAt] using this
        have hlast' : byteAt (c :: l) ((c :: l).length - 1) < 128 := by simpa [byteAt] using hlast
        have ih' := ih f (by simp) (by simpa using hf) (fun j hj => by have := hb (j + 1) (by simpa using hj); simpa [byteAt] using this) hlast' (fun _ => hz')
        have hpos : 0 < valL (c :: l) := by
          apply Nat.pos_of_ne_zero
          intro h0
          rw [h0] at ih'
          cases f with
          | zero => simp [putF] at ih'
          | succ f =>
            simp [putF] at ih'
            obtain ⟨e, e'⟩ := ih'
            subst e'
            apply hz'
            rw [← e]
            simp [byteAt]
        have hbl := b.toNat_lt
        rw [putF, if_neg (by rw [valL]; omega)]
        have e1 : valL (b :: c :: l) / 128 = valL (c :: l) := by rw [valL]; omega
        have e2 : valL (b :: c :: l) % 128 + 128 = b.toNat := by rw [valL]; omega
        rw [e1, e2, ih']
        simp
theorem byteAt_take (l : List UInt8) (m k : Nat) (h : k < m) : byteAt (l.take m) k = byteAt l k := by
  simp [byteAt, h]
theorem take_ok (l : List UInt8) (n : Nat) (r : List UInt8) (h : takeL l = (n, r, 0)) : n < 2 ^ 63 ∧ l = putL n ++ r ∧ n = valL (l.take (endOf l + 1)) ∧ r = l.drop (endOf l + 1) := by
  unfold takeL at h
  split at h
  · simp at h
  split at h
  · simp at h
  split at h
  · simp at h
  rename_i h1 h2 h3
  simp only [Prod.mk.injEq] at h
  obtain ⟨rfl, rfl, _⟩ := h
  have hle := endOf_le l
  have hlen : (l.take (endOf l + 1)).length = endOf l + 1 := by simp; omega
  refine ⟨?_, ?_, rfl, rfl⟩
  · have := valL_lt (l.take (endOf l + 1))
    rw [hlen] at this
    exact Nat.lt_of_lt_of_le this (Nat.le_trans (Nat.pow_le_pow_right (by omega) (show endOf l + 1 ≤ 9 by omega)) (by omega))
  · unfold putL
    rw [put_val (l.take (endOf l + 1)) 9 (by intro hn; rw [hn] at hlen; simp at hlen) (by omega)]
    · simp
    · intro j hj
      rw [byteAt_take _ _ _ (by omega)]
      exact endOf_before l j (by omega)
    · rw [byteAt_take _ _ _ (by omega), hlen]
      exact endOf_at l (by omega)
    · intro hgt
      rw [byteAt_take _ _ _ (by omega), hlen]
      simp only [Nat.add_sub_cancel]
      intro h0
      exact h3 ⟨by omega, h0⟩
theorem take_err (l : List UInt8) (h : (takeL l).2.2 ≠ 0) : (takeL l).1 = 0 ∧ (takeL l).2.1 = [] ∧ ((takeL l).2.2 = 2 ∨ (takeL l).2.2 = 3) := by
  unfold takeL at h ⊢
  split
  · simp
  split
  · simp
  split
  · simp
  · simp_all
theorem put_inj (m n : Nat) (hm : m < 2 ^ 63) (hn : n < 2 ^ 63) (a b : List UInt8) (h : putL m ++ a = putL n ++ b) : m = n ∧ a = b := by
  have h1 := take_put m a hm
  rw [h, take_put n b hn] at h1
  simp at h1
  exact ⟨h1.1.symm, h1.2.symm⟩
theorem put_short (n k : Nat) (h : n < 2 ^ 63) (hk : k < (putL n).length) : takeL ((putL n).take k) = (0, [], 2) := by
  have h9 : n < 128 ^ (8 + 1) := by omega
  have he := putF_end 8 n [] h9
  rw [List.append_nil] at he
  unfold takeL
  rw [if_pos]
  apply endOf_all
  intro j hj
  have hj' : j < k := by simp at hj; omega
  rw [byteAt_take _ _ _ hj']
  apply endOf_before
  unfold putL at hk ⊢
  simp only [Nat.reduceAdd] at he
  omega
/-- the digits to the base 128, the lowest first -/
def digF : Nat → Nat → List Nat
  | 0, _ => []
  | f + 1, n => if n < 128 then [n] else n % 128 :: digF f (n / 128)
theorem putF_dig (f n : Nat) : (putF f n).length = (digF f n).length := by
  induction f generalizing n with
  | zero => rfl
  | succ f ih => simp only [putF, digF]; split <;> simp [ih]
theorem putF_at (f n i : Nat) (hf : n < 128 ^ f) (h : i < (digF f n).length) : (putF f n)[i]? = some (UInt8.ofNat (((digF f n)[i]?.getD 0) + if i + 1 < (digF f n).length then 128 else 0)) := by
  induction f generalizing n i with
  | zero => simp [digF] at h
  | succ f ih =>
    simp only [putF, digF] at h ⊢
    by_cases hn : n < 128
    · simp only [if_pos hn] at h ⊢
      simp at h
      subst h
      simp
    · simp only [if_neg hn] at h ⊢
      have hf' : n / 128 < 128 ^ f := by rw [Nat.pow_succ] at hf; omega
      cases i with
      | zero =>
        have hp : 0 < (digF f (n / 128)).length := by
          cases f with
          | zero => simp at hf'; omega
          | succ f => simp only [digF]; split <;> simp
        simp only [List.length_cons, List.getElem?_cons_zero, Option.getD_some]
        rw [if_pos (by omega)]
      | succ i =>
        have := ih (n / 128) i hf' (by simpa using h)
        simpa using this
theorem digF_lt (f n : Nat) : ∀ x ∈ digF f n, x < 128 := by
  induction f generalizing n with
  | zero => simp [digF]
  | succ f ih =>
    intro x hx
    simp only [digF] at hx
    split at hx
    · simp at hx; omega
    · simp at hx
      rcases hx with h | h
      · omega
      · exact ih _ x h
def flagL (on : Bool) : List UInt8 := if on then [1] else [0]
def takeFlagL : List UInt8 → Bool × List UInt8 × Nat
  | [] => (false, [], 2)
  | b :: r => if 1 < b.toNat then (false, [], 3) else (b.toNat == 1, r, 0)
def textL (s : List UInt8) : List UInt8 := putL s.length ++ s
def takeTextL (l : List UInt8) : List UInt8 × List UInt8 × Nat :=
  if (takeL l).2.2 ≠ 0 then ([], [], (takeL l).2.2)
  else if (takeL l).2.1.length < (takeL l).1 then ([], [], 2)
  else ((takeL l).2.1.take (takeL l).1, (takeL l).2.1.drop (takeL l).1, 0)
theorem takeFlag_flag (on : Bool) (more : List UInt8) : takeFlagL (flagL on ++ more) = (on, more, 0) := by
  cases on <;> rfl
theorem takeText_text (s more : List UInt8) (h : s.length < 2 ^ 63) : takeTextL (textL s ++ more) = (s, more, 0) := by
  unfold takeTextL textL
  rw [List.append_assoc, take_put _ _ h]
  simp
theorem putL_len (n : Nat) : (putL n).length ≤ 9 := putF_len 9 n
theorem putL_pos (n : Nat) : 0 < (putL n).length := putF_pos 8 n
end Go.Proofs.YtkoligiilieboaaGreatDoor
namespace Go.Proofs.YtkoligiilieboaaGreatDoor
/-- what is left of bytes; bad: something was not there -/
structure RS where
  bad : Bool
  s : List UInt8
/-- a way to write, a way to read it -/
structure Fmt (α : Type) where
  enc : α → List UInt8
  ok : α → Prop
  rd : RS → α × RS
  fwd : ∀ v more, ok v → rd ⟨false, enc v ++ more⟩ = (v, ⟨false, more⟩)
  bwd : ∀ s v r, rd ⟨false, s⟩ = (v, r) → r.bad = false → s = enc v ++ r.s ∧ ok v
  bad : ∀ s, (rd ⟨true, s⟩).2.bad = true
  len : ∀ r, (rd r).2.s.length ≤ r.s.length
variable {α β : Type}
theorem Fmt.inj (f : Fmt α) {v u : α} {a b : List UInt8} (hv : f.ok v) (hu : f.ok u) (h : f.enc v ++ a = f.enc u ++ b) : v = u ∧ a = b := by
  have h1 := f.fwd v a hv
  rw [h, f.fwd u b hu] at h1
  injection h1 with h1 h2
  injection h2 with _ h2
  exact ⟨h1.symm, h2.symm⟩
/-- what reading says of all bytes -/
theorem Fmt.whole (f : Fmt α) (t : List UInt8) : (∃ v, f.rd ⟨false, t⟩ = (v, ⟨false, []⟩) ∧ t = f.enc v ∧ f.ok v) ∨ (∀ v, f.ok v → t ≠ f.enc v) ∧ ((f.rd ⟨false, t⟩).2.bad = true ∨ (f.rd ⟨false, t⟩).2.s ≠ []) := by
  obtain ⟨⟨v, ⟨b, s⟩⟩, h⟩ : ∃ x, f.rd ⟨false, t⟩ = x := ⟨_, rfl⟩
  by_cases hg : b = false ∧ s = []
  · obtain ⟨rfl, rfl⟩ := hg
    have := f.bwd t v _ h rfl
    simp only [List.append_nil] at this
    exact .inl ⟨v, h, this.1, this.2⟩
  · refine .inr ⟨fun u hu ht => ?_, ?_⟩
    · have := f.fwd u [] hu
      rw [List.append_nil, ← ht, h] at this
      injection this with _ h2
      injection h2 with h2 h3
      exact hg ⟨h2, h3⟩
    · rw [h]
      cases b
      · exact .inr fun hs => hg ⟨rfl, hs⟩
      · exact .inl rfl
/-- one behind the other -/
def Fmt.seq (f : Fmt α) (g : Fmt β) : Fmt (α × β) where
  enc v := f.enc v.1 ++ g.enc v.2
  ok v := f.ok v.1 ∧ g.ok v.2
  rd r := (((f.rd r).1, (g.rd (f.rd r).2).1), (g.rd (f.rd r).2).2)
  fwd v more h := by
    simp only [List.append_assoc]
    rw [f.fwd v.1 _ h.1]
    simp only
    rw [g.fwd v.2 _ h.2]
  bwd s v r h hb := by
    obtain ⟨⟨v1, ⟨b1, s1⟩⟩, h1⟩ : ∃ x, f.rd ⟨false, s⟩ = x := ⟨_, rfl⟩
    rw [h1] at h
    simp only at h
    obtain ⟨⟨v2, ⟨b2, s2⟩⟩, h2⟩ : ∃ x, g.rd ⟨b1, s1⟩ = x := ⟨_, rfl⟩
    rw [h2] at h
    simp only [Prod.mk.injEq] at h
    obtain ⟨rfl, rfl⟩ := h
    simp only at hb
    subst hb
    cases b1 with
    | true =>
      have := g.bad s1
      rw [h2] at this
      cases this
    | false =>
      obtain ⟨e1, o1⟩ := f.bwd s v1 _ h1 rfl
      obtain ⟨e2, o2⟩ := g.bwd s1 v2 _ h2 rfl
      simp only at e1 e2 ⊢
      exact ⟨by rw [e1, e2, List.append_assoc], o1, o2⟩
  bad s := by
    obtain ⟨⟨v1, ⟨b1, s1⟩⟩, h1⟩ : ∃ x, f.rd ⟨true, s⟩ = x := ⟨_, rfl⟩
    have hb := f.bad s
    rw [h1] at hb ⊢
    simp only at hb
    subst hb
    exact g.bad s1
  len r := Nat.le_trans (g.len _) (f.len _)
/-- the same under another name -/
def Fmt.as (f : Fmt α) (to : α → β) (back : β → α) (h1 : ∀ a, back (to a) = a) (h2 : ∀ b, to (back b) = b) : Fmt β where
  enc b := f.enc (back b)
  ok b := f.ok (back b)
  rd r := (to (f.rd r).1, (f.rd r).2)
  fwd v more h := by rw [f.fwd _ _ h]; simp only [h2]
  bwd s v r h hb := by
    simp only [Prod.mk.injEq] at h
    obtain ⟨rfl, rfl⟩ := h
    rw [h1]
    exact f.bwd s _ _ rfl hb
  bad s := f.bad s
  len r := f.len r
/-- n of them, as book's loop goes -/
def rdN (f : RS → α × RS) : Nat → RS → List α × RS
  | 0, r => ([], r)
  | k + 1, r => ((rdN f k r).1 ++ [(f (rdN f k r).2).1], (f (rdN f k r).2).2)
theorem rdN_len (f : RS → α × RS) (k : Nat) (r : RS) : (rdN f k r).1.length = k := by
  induction k with
  | zero => rfl
  | succ k ih => simp [rdN, ih]
theorem Fmt.rdN_slen (f : Fmt α) (k : Nat) (r : RS) : (rdN f.rd k r).2.s.length ≤ r.s.length := by
  induction k with
  | zero => exact Nat.le_refl _
  | succ k ih => exact Nat.le_trans (f.len _) ih
def encL (f : Fmt α) (l : List α) : List UInt8 := l.flatMap f.enc
theorem encL_cons (f : Fmt α) (x : α) (l : List α) : encL f (x :: l) = f.enc x ++ encL f l := List.flatMap_cons
theorem encL_app (f : Fmt α) (l m : List α) : encL f (l ++ m) = encL f l ++ encL f m := List.flatMap_append
theorem Fmt.rdN_fwd (f : Fmt α) (l : List α) (more : List UInt8) (h : ∀ x ∈ l, f.ok x) : rdN f.rd l.length ⟨false, encL f l ++ more⟩ = (l, ⟨false, more⟩) := by
  suffices hs : ∀ k, k ≤ l.length → rdN f.rd k ⟨false, encL f l ++ more⟩ = (l.take k, ⟨false, encL f (l.drop k) ++ more⟩) by
    have := hs l.length (Nat.le_refl _)
    simpa [encL] using this
  intro k
  induction k with
  | zero => intro _; simp [rdN]
  | succ k ih =>
    intro hk
    have hk2 : k < l.length := by omega
    simp only [rdN, ih (by omega)]
    rw [List.drop_eq_getElem_cons hk2]
    have e : encL f (l[k] :: l.drop (k + 1)) ++ more = f.enc l[k] ++ (encL f (l.drop (k + 1)) ++ more) := by rw [encL_cons, List.append_assoc]
    rw [e, f.fwd _ _ (h _ (List.getElem_mem hk2)), List.take_succ_eq_append_getElem hk2]
theorem Fmt.rdN_bad (f : Fmt α) (k : Nat) (s : List UInt8) : (rdN f.rd k ⟨true, s⟩).2.bad = true := by
  induction k with
  | zero => rfl
  | succ k ih =>
    simp only [rdN]
    obtain ⟨⟨v, ⟨b, s'⟩⟩, h⟩ : ∃ x, rdN f.rd k ⟨true, s⟩ = x := ⟨_, rfl⟩
    rw [h] at ih ⊢
    simp only at ih ⊢
    subst ih
    exact f.bad s'
theorem Fmt.rdN_bwd (f : Fmt α) (k : Nat) (s : List UInt8) (l : List α) (r : RS) (h : rdN f.rd k ⟨false, s⟩ = (l, r)) (hb : r.bad = false) : s = encL f l ++ r.s ∧ ∀ x ∈ l, f.ok x := by
  induction k generalizing l r with
  | zero =>
    simp only [rdN, Prod.mk.injEq] at h
    obtain ⟨rfl, rfl⟩ := h
    simp [encL]
  | succ k ih =>
    obtain ⟨⟨l1, ⟨b1, s1⟩⟩, h1⟩ : ∃ x, rdN f.rd k ⟨false, s⟩ = x := ⟨_, rfl⟩
    simp only [rdN, h1, Prod.mk.injEq] at h
    obtain ⟨rfl, rfl⟩ := h
    cases b1 with
    | true => rw [f.bad s1] at hb; cases hb
    | false =>
      obtain ⟨e1, o1⟩ := ih l1 _ h1 rfl
      obtain ⟨e2, o2⟩ := f.bwd s1 _ _ rfl hb
      simp only at e1
      refine ⟨?_, ?_⟩
      · rw [e1]
        conv => lhs; rw [e2]
        simp [encL]
      · intro x hx
        rcases List.mem_append.1 hx with hx | hx
        · exact o1 x hx
        · simp at hx; subst hx; exact o2
/-- n of them, as the document's loop goes: it stops where something was not there -/
def cdN (f : RS → α × RS) : Nat → RS → List α × RS
  | 0, r => ([], r)
  | k + 1, r => if (cdN f k r).2.bad = true then cdN f k r else ((cdN f k r).1 ++ [(f (cdN f k r).2).1], (f (cdN f k r).2).2)
theorem cdN_len (f : RS → α × RS) (k : Nat) (r : RS) : (cdN f k r).1.length ≤ k := by
  induction k with
  | zero => exact Nat.le_refl _
  | succ k ih =>
    unfold cdN
    split
    · omega
    · rw [List.length_append]; simp; exact ih
theorem cdN_stay (f : RS → α × RS) (k : Nat) (r : RS) (hb : (cdN f k r).2.bad = true) (n : Nat) (hn : k ≤ n) : cdN f n r = cdN f k r := by
  induction n with
  | zero => obtain rfl : k = 0 := by omega
            rfl
  | succ n ih =>
    rcases Nat.lt_or_ge n k with h | h
    · obtain rfl : k = n + 1 := by omega
      rfl
    · have e := ih h
      have : cdN f (n + 1) r = cdN f n r := by
        conv => lhs; unfold cdN
        rw [if_pos (by rw [e]; exact hb)]
      rw [this, e]
theorem Fmt.cdN_slen (f : Fmt α) (k : Nat) (r : RS) : (cdN f.rd k r).2.s.length ≤ r.s.length := by
  induction k with
  | zero => exact Nat.le_refl _
  | succ k ih =>
    unfold cdN
    split
    · exact ih
    · exact Nat.le_trans (f.len _) ih
theorem Fmt.cdN_eq (f : Fmt α) (k : Nat) (r : RS) (hb : (cdN f.rd k r).2.bad = false) : rdN f.rd k r = cdN f.rd k r := by
  induction k with
  | zero => rfl
  | succ k ih =>
    unfold cdN at hb ⊢
    split at hb
    · simp_all
    · rename_i h
      have := ih (by simpa using h)
      rw [if_neg h]
      simp only [rdN, this]
theorem Fmt.cdN_fwd (f : Fmt α) (l : List α) (more : List UInt8) (h : ∀ x ∈ l, f.ok x) : cdN f.rd l.length ⟨false, encL f l ++ more⟩ = (l, ⟨false, more⟩) := by
  suffices hs : ∀ k, k ≤ l.length → cdN f.rd k ⟨false, encL f l ++ more⟩ = (l.take k, ⟨false, encL f (l.drop k) ++ more⟩) by
    have := hs l.length (Nat.le_refl _)
    simpa [encL] using this
  intro k
  induction k with
  | zero => intro _; simp [cdN]
  | succ k ih =>
    intro hk
    have hk2 : k < l.length := by omega
    simp only [cdN, ih (by omega)]
    rw [List.drop_eq_getElem_cons hk2, if_neg (by simp)]
    have e : encL f (l[k] :: l.drop (k + 1)) ++ more = f.enc l[k] ++ (encL f (l.drop (k + 1)) ++ more) := by rw [encL_cons, List.append_assoc]
    rw [e, f.fwd _ _ (h _ (List.getElem_mem hk2)), List.take_succ_eq_append_getElem hk2]
/-- one thing off the beginning, as book reads it -/
def rdOne (tk : List UInt8 → α × List UInt8 × Nat) (z : α) (r : RS) : α × RS :=
  if r.bad = true ∨ (tk r.s).2.2 ≠ 0 then (z, ⟨true, r.s⟩) else ((tk r.s).1, ⟨false, (tk r.s).2.1⟩)
/-- one thing off the beginning, as the document reads it -/
def cdOne (tk : List UInt8 → α × List UInt8 × Nat) (r : RS) : α × RS :=
  ((tk r.s).1, ⟨r.bad || decide ((tk r.s).2.2 ≠ 0), (tk r.s).2.1⟩)
def Fmt.one (tk : List UInt8 → α × List UInt8 × Nat) (z : α) (enc : α → List UInt8) (ok : α → Prop) (fw : ∀ v more, ok v → tk (enc v ++ more) = (v, more, 0))
    (bw : ∀ s v r, tk s = (v, r, 0) → s = enc v ++ r ∧ ok v) : Fmt α where
  enc := enc
  ok := ok
  rd := rdOne tk z
  fwd v more h := by unfold rdOne; rw [fw v more h]; simp
  bwd s v r h hb := by
    unfold rdOne at h
    split at h
    · injection h with _ h; subst h; cases hb
    · rename_i hn
      injection h with h1 h2
      subst h1 h2
      have h0 : (tk s).2.2 = 0 := by simpa using hn
      exact bw s _ _ (by rw [← h0])
  bad s := by unfold rdOne; rw [if_pos (Or.inl rfl)]
  len r := by
    unfold rdOne
    split
    · exact Nat.le_refl _
    · rename_i hn
      have h0 : (tk r.s).2.2 = 0 := by simp at hn; exact hn.2
      have := (bw r.s _ _ (show tk r.s = ((tk r.s).1, (tk r.s).2.1, 0) by rw [← h0])).1
      have := congrArg List.length this
      simp at this ⊢
      omega
def Fmt.oneC (tk : List UInt8 → α × List UInt8 × Nat) (enc : α → List UInt8) (ok : α → Prop) (fw : ∀ v more, ok v → tk (enc v ++ more) = (v, more, 0))
    (bw : ∀ s v r, tk s = (v, r, 0) → s = enc v ++ r ∧ ok v) (er : ∀ s, (tk s).2.2 ≠ 0 → (tk s).2.1 = []) : Fmt α where
  enc := enc
  ok := ok
  rd := cdOne tk
  fwd v more h := by unfold cdOne; rw [fw v more h]; simp
  bwd s v r h hb := by
    unfold cdOne at h
    injection h with h1 h2
    subst h1 h2
    have h0 : (tk s).2.2 = 0 := by simpa using hb
    exact bw s _ _ (by rw [← h0])
  bad s := by unfold cdOne; simp
  len r := by
    unfold cdOne
    by_cases h0 : (tk r.s).2.2 = 0
    · have := (bw r.s _ _ (show tk r.s = ((tk r.s).1, (tk r.s).2.1, 0) by rw [← h0])).1
      have := congrArg List.length this
      simp at this ⊢
      omega
    · rw [er _ h0]; simp
end Go.Proofs.YtkoligiilieboaaGreatDoor
namespace Go.Proofs.YtkoligiilieboaaGreatDoor
open Go.RowKit
theorem ofInt_i64 (a : Nat) (ha : a < 9223372036854775808) : (BitVec.ofInt 64 (a : Int)).toNat = a := by
  rw [BitVec.ofInt_natCast, BitVec.toNat_ofNat]; exact Nat.mod_eq_of_lt (by omega)
theorem i64_and_nat (a b : Nat) (ha : a < 9223372036854775808) (hb : b < 9223372036854775808) : bits .and .i64 (a : Int) (b : Int) = ((a &&& b : Nat) : Int) := by
  have hx : a &&& b < 2 ^ 63 := Nat.and_lt_two_pow _ (by omega)
  show IntKind.i64.wrap ((BitVec.ofInt 64 (a : Int) &&& BitVec.ofInt 64 (b : Int)).toNat : Int) = _
  rw [BitVec.toNat_and, ofInt_i64 a ha, ofInt_i64 b hb, IntKind.wrap_i64]
  omega
theorem i64_or_nat (a b : Nat) (ha : a < 9223372036854775808) (hb : b < 9223372036854775808) : bits .or .i64 (a : Int) (b : Int) = ((a ||| b : Nat) : Int) := by
  have hx : a ||| b < 2 ^ 63 := Nat.or_lt_two_pow (by omega) (by omega)
  show IntKind.i64.wrap ((BitVec.ofInt 64 (a : Int) ||| BitVec.ofInt 64 (b : Int)).toNat : Int) = _
  rw [BitVec.toNat_or, ofInt_i64 a ha, ofInt_i64 b hb, IntKind.wrap_i64]
  omega
theorem i64_xor_nat (a b : Nat) (ha : a < 9223372036854775808) (hb : b < 9223372036854775808) : bits .xor .i64 (a : Int) (b : Int) = ((a ^^^ b : Nat) : Int) := by
  have hx : a ^^^ b < 2 ^ 63 := Nat.xor_lt_two_pow (by omega) (by omega)
  show IntKind.i64.wrap ((BitVec.ofInt 64 (a : Int) ^^^ BitVec.ofInt 64 (b : Int)).toNat : Int) = _
  rw [BitVec.toNat_xor, ofInt_i64 a ha, ofInt_i64 b hb, IntKind.wrap_i64]
  omega
theorem ret_int {k : IntKind} {a b : Int} (h : a = b) : Ending.returned (.int k a) = .returned (.int k b) := by rw [h]
theorem int_eq {k : IntKind} {a b : Int} (h : a = b) : Value.int k a = .int k b := by rw [h]
theorem ret_str {a b : ByteArray} (h : a = b) : Ending.returned (.string a) = .returned (.string b) := by rw [h]
theorem bcell {W w1 : World} (hb : Below W.heap.size W w1) : (∀ b o, b < W.heap.size → w1.cell? ⟨b, o, none⟩ = W.cell? ⟨b, o, none⟩) ∧ (∀ b o, b < W.heap.size → w1.frozen? ⟨b, o, none⟩ = W.frozen? ⟨b, o, none⟩) :=
  ⟨fun b o h => hb.cell (p := ⟨b, o, none⟩) h, fun b o h => hb.frozen (p := ⟨b, o, none⟩) h⟩
theorem results_tmp4 {fn : Func} {t u v x : Tmp} (h : fn.results = #[.tmp t, .tmp u, .tmp v, .tmp x]) (tmps : Array Value) (P : Program) (w : World) :
    (results fn tmps).run P w = .ok (.tuple #[tmps.getD t undef, tmps.getD u undef, tmps.getD v undef, tmps.getD x undef]) w := by simp [results, h]
theorem bt {w w1 w2 : World} (h1 : Below w.heap.size w w1) (h2 : Below w1.heap.size w1 w2) : Below w.heap.size w w2 := h1.trans (h2.mono h1.size)
theorem b0 (w : World) : Below w.heap.size w w := Below.refl _ _
theorem bal {w W : World} (h : Below w.heap.size w W) (o : Obj) : Below w.heap.size w (W.alloc o) := h.alloc h.size o
theorem bst {w W : World} (h : Below w.heap.size w W) {p : Addr} (hp : w.heap.size ≤ p.block) (u : Value) : Below w.heap.size w (W.setCell p u) := h.setCell hp u
theorem below_drewN {B : Nat} {a w : World} (h : Below B a w) (n : Nat) : Below B a (w.drewN n) := ⟨h.os, h.tape, h.output, h.size, h.block⟩
/-- a list of bytes as a string -/
abbrev strL (l : List UInt8) : Value := .string ⟨l.toArray⟩
theorem str_eq {a b : ByteArray} (h : a.data.toList = b.data.toList) : a = b := by
  cases a; cases b; simp at h; rw [h]
theorem ofList_toList (s : ByteArray) : (⟨s.data.toList.toArray⟩ : ByteArray) = s := by cases s; simp
theorem getL (s : ByteArray) (k : Nat) (h : k < s.size) : s.data.toList[k]? = some s[k] := by
  rw [List.getElem?_eq_getElem (by simpa using h)]; rfl
theorem take_snoc (s : ByteArray) (k : Nat) (h : k < s.size) : s.data.toList.take (k + 1) = s.data.toList.take k ++ [s[k]] := by
  rw [List.take_succ_eq_append_getElem (by simpa using h)]; rfl
theorem take_all (s : ByteArray) (k : Nat) (h : s.size ≤ k) : s.data.toList.take k = s.data.toList := List.take_of_length_le (by simpa using h)
section
variable {P : Program} (w : World) {t : TypeId} (ht : P.underlying t = some .string)
include ht
/-- s[k] of a string, the byte under a name of its own -/
theorem run_at (l : List UInt8) (i : Int) (k b : Nat) (hi : i = k) (hk : k < l.length) (hb : (l[k]?.getD 0).toNat = b) : (Instr.index t (.string ⟨l.toArray⟩) (.int .i64 i)).run P w = .ok (.int .u8 (b : Int)) w := by
  subst hi
  have hz : (⟨l.toArray⟩ : ByteArray).size = l.length := by show l.toArray.size = _; simp
  rw [run_index_string w t _ _ _ ht, dif_pos ⟨by omega, by rw [hz]; omega⟩]
  rw [← hb]
  have : (⟨l.toArray⟩ : ByteArray)[(k : Int).toNat]'(by rw [hz]; omega) = l[k] := by
    show l.toArray[(k : Int).toNat]'_ = _
    simp
  rw [this]
  simp [hk]
theorem run_from (l : List UInt8) (i : Int) (k : Nat) (hi : i = k) (hk : k ≤ l.length) : (Instr.slice t (.string ⟨l.toArray⟩) (some (.int .i64 i)) none none).run P w = .ok (.string ⟨(l.drop k).toArray⟩) w := by
  subst hi
  have hz : (⟨l.toArray⟩ : ByteArray).size = l.length := by show l.toArray.size = _; simp
  rw [run_slice_string_from_if w t _ _ _ ht, if_pos ⟨by omega, by rw [hz]; omega⟩, ByteArray.extract_mk, hz, Int.toNat_natCast, List.take_of_length_le (by simp)]
theorem run_to (l : List UInt8) (j : Int) (k : Nat) (hj : j = k) (hk : k ≤ l.length) : (Instr.slice t (.string ⟨l.toArray⟩) none (some (.int .i64 j)) none).run P w = .ok (.string ⟨(l.take k).toArray⟩) w := by
  subst hj
  have hz : (⟨l.toArray⟩ : ByteArray).size = l.length := by show l.toArray.size = _; simp
  rw [run_slice_string_to_if w t _ _ _ ht, if_pos ⟨by omega, by rw [hz]; omega⟩, ByteArray.extract_mk]
  simp
theorem run_mid (l : List UInt8) (i j : Int) (a k : Nat) (hi : i = a) (hj : j = k) (ha : a ≤ k) (hk : k ≤ l.length) : (Instr.slice t (.string ⟨l.toArray⟩) (some (.int .i64 i)) (some (.int .i64 j)) none).run P w = .ok (.string ⟨((l.drop a).take (k - a)).toArray⟩) w := by
  subst hi hj
  have hz : (⟨l.toArray⟩ : ByteArray).size = l.length := by show l.toArray.size = _; simp
  rw [run_slice_string w t _ _ _ _ _ ht (by omega) (by omega) (by rw [hz]; omega), ByteArray.extract_mk]
  simp
end
section
variable {P : Program} (w : World) {src dst e : TypeId} (hs : P.underlying src = some (.slice e)) (he : P.underlying e = some (.int .u8)) (hd : P.underlying dst = some .string)
include hs he hd
/-- string(b) of a row that was just made -/
theorem run_conv_new (xs : List Int) (len cap : Nat) (hlen : xs.length = len) :
    (convert src dst (.slice (some ⟨w.heap.size, 0, none⟩) len cap)).run P (w.alloc (.cells (xs.map (Value.int .u8)).toArray e)) =
      .ok (.string (strOfNums xs)) (w.alloc (.cells (xs.map (Value.int .u8)).toArray e)) := by
  refine run_convert_bytes_arg _ src e hs he _ 0 len cap xs hlen (fun i hi => ?_) dst hd
  rw [cell_of_row _ _ _ _ _ _ (heap_alloc_new w _)]
  simp [hlen, hi]
theorem run_conv1 (cap : Nat) (a : Int) :
    (convert src dst (.slice (some ⟨w.heap.size, 0, none⟩) 1 cap)).run P (w.alloc (.cells #[.int .u8 a] e)) =
      .ok (.string ⟨#[UInt8.ofNat a.toNat]⟩) (w.alloc (.cells #[.int .u8 a] e)) := run_conv_new w hs he hd [a] 1 cap rfl
theorem run_conv3 (cap : Nat) (a b c : Int) :
    (convert src dst (.slice (some ⟨w.heap.size, 0, none⟩) 3 cap)).run P (w.alloc (.cells #[.int .u8 a, .int .u8 b, .int .u8 c] e)) =
      .ok (.string ⟨#[UInt8.ofNat a.toNat, UInt8.ofNat b.toNat, UInt8.ofNat c.toNat]⟩) (w.alloc (.cells #[.int .u8 a, .int .u8 b, .int .u8 c] e)) := run_conv_new w hs he hd [a, b, c] 3 cap rfl
theorem run_conv4 (cap : Nat) (a b c d : Int) :
    (convert src dst (.slice (some ⟨w.heap.size, 0, none⟩) 4 cap)).run P (w.alloc (.cells #[.int .u8 a, .int .u8 b, .int .u8 c, .int .u8 d] e)) =
      .ok (.string ⟨#[UInt8.ofNat a.toNat, UInt8.ofNat b.toNat, UInt8.ofNat c.toNat, UInt8.ofNat d.toNat]⟩) (w.alloc (.cells #[.int .u8 a, .int .u8 b, .int .u8 c, .int .u8 d] e)) := run_conv_new w hs he hd [a, b, c, d] 4 cap rfl
end
end Go.Proofs.YtkoligiilieboaaGreatDoor
namespace Go.Proofs.YtkoligiilieboaaGreatDoor
open Go.RowKit
/-- a byte as a cell -/
def bv (b : UInt8) : Value := .int .u8 (b.toNat : Int)
theorem bv_ofNat (n : Nat) (h : n < 256) : bv (UInt8.ofNat n) = .int .u8 (n : Int) := by
  unfold bv
  have : (UInt8.ofNat n).toNat = n := by simp; omega
  rw [this]
theorem bv_one (b : UInt8) : (bv b).oneCell' = true := rfl
/-- an int as a cell -/
def iv (n : Nat) : Value := .int .i64 (n : Int)
section
variable {P : Program}
theorem below_of_grown {W w' : World} {base : Nat} {row : Option Nat} (hg : W.grownBy w' row) (hb : base ≤ W.heap.size) (hr : ∀ k, row = some k → base ≤ k) : Below base W w' :=
  (Below.refl _ _).grown hg hb hr
theorem wpList_push {ops : Array Oper} {rest : List Oper} {o : Oper} {a : Act} {Q : Exit → Act → World → Prop} (hgd : o.guard = none) (s x : Operand) (t : TypeId)
    (ho : o.op = .call { callee := .builtin .append, args := #[s, x], argTypes := #[t, t] })
    (base : Nat) (e : TypeId) (i : TypeInfo) (z : Value) (bytes : Nat) (ht : P.underlying t = some (.slice e)) (hi : P.info? e = some i) (hz : i.zero = some z)
    (hsize : i.size = 1) (hby : i.bytes = bytes) (hzs : z.cells.size = 1)
    (W : World) (v : Value) (n : Nat) (xs : List Value) (hs : a.eval s = v) (hown : W.ownsRow base e 1 v n xs)
    (u : Value) (hu : u.oneCell' = true) (c : Nat) (hx : a.eval x = .slice (some ⟨W.heap.size, 0, none⟩) 1 c)
    (h63 : n + 1 ≤ 9223372036854775807) (hbytes : (n + 1) * bytes ≤ 140737488355328) (hbase : base ≤ W.heap.size)
    (h : ∀ g cap w', w'.ownsRow base e 1 (.slice (some ⟨g, 0, none⟩) (n + 1) cap) (n + 1) (xs ++ [u]) → Below base W w' → wpList P ops Q rest (a.put o.dst (.slice (some ⟨g, 0, none⟩) (n + 1) cap)) w') :
    wpList P ops Q (o :: rest) a (W.alloc (.cells #[u] e)) := by
  refine wpList_append_lies (P := P) (W.alloc (.cells #[u] e)) hgd s x t ho base e i z 1 bytes ht hi hz hsize hby hzs (by omega) v n xs hs (hown.alloc _) ⟨W.heap.size, 0, none⟩ 1 c [u] hx rfl ?_ ?_ (by omega) (by unfold maxLen; omega) hbytes (by simp; omega) _ rfl ?_
  · intro j y hj
    match j, hj with
    | 0, hj =>
      simp at hj; subst hj
      have : (⟨W.heap.size, 0, none⟩ : Addr).add 0 = ⟨W.heap.size, 0, none⟩ := rfl
      rw [this, cell_of_row _ _ _ _ _ _ (heap_alloc_new W _)]
      rfl
  · intro y hy
    simp at hy; subst hy; exact hu
  · intro g cap w' hown' hg _ _
    refine h g cap w' hown' ?_
    refine ((Below.refl _ W).alloc hbase _).trans (below_of_grown hg (by simp; omega) ?_)
    intro k hk
    exact (hown.lt k hk).1
/-- a row that a literal has just made -/
theorem own_lit (W : World) (base : Nat) (e : TypeId) (us : List Value) (n : Nat) (hn : us.length = n) (hm : n ≤ 1000000) (hb : base ≤ W.heap.size) :
    (W.alloc (.cells us.toArray e)).ownsRow base e 1 (.slice (some ⟨W.heap.size, 0, none⟩) n n) n us := by
  refine ⟨by omega, .inr ⟨W.heap.size, n, us.toArray, rfl, hb, heap_alloc_new W _, Nat.le_refl _, by unfold maxLen; omega, by simp [hn], ?_⟩⟩
  simp [← hn]
/-- string(b) of a row that the call owns -/
theorem run_conv_own (w : World) {src dst e : TypeId} (hs : P.underlying src = some (.slice e)) (he : P.underlying e = some (.int .u8)) (hd : P.underlying dst = some .string)
    {base g n cap : Nat} {xs : List UInt8} (hown : w.ownsRow base e 1 (.slice (some ⟨g, 0, none⟩) n cap) n (xs.map bv)) :
    (convert src dst (.slice (some ⟨g, 0, none⟩) n cap)).run P w = .ok (.string ⟨xs.toArray⟩) w := by
  have hlen : xs.length = n := by have := hown.1; simpa using this
  have h := run_convert_bytes_arg w src e hs he g 0 n cap (xs.map fun b => (b.toNat : Int)) (by simpa using hlen) (fun i hi => by
    have hc := hown.cells (g := g) rfl i (bv (xs[i]'(by omega))) (by simp [hlen, hi])
    have ha : (⟨g, 0, none⟩ : Addr).add i = ⟨g, 0 + i, none⟩ := by unfold Addr.add; split <;> simp_all
    rw [ha] at hc
    rw [hc]
    simp [bv, hlen, hi]) dst hd
  rw [h]
  have hx : strOfNums (xs.map fun b => (b.toNat : Int)) = ⟨xs.toArray⟩ := by
    unfold strOfNums
    congr 2
    rw [List.map_map]
    conv => rhs; rw [← List.map_id xs]
    apply List.map_congr_left
    intro b _
    simp
  rw [hx]
end
end Go.Proofs.YtkoligiilieboaaGreatDoor
namespace Go.Proofs.YtkoligiilieboaaGreatDoor
open Go.RowKit
/-- a slice of n elements of s cells each, that reads as these cells and lies below block B -/
def Rd (w : World) (B s : Nat) (A : Option Addr) (n : Nat) (xs : List Value) : Prop :=
  xs.length = n * s ∧ (0 < n → ∃ b off, A = some ⟨b, off, none⟩ ∧ b < B ∧ ∀ j u, xs[j]? = some u → w.cell? ⟨b, off + j, none⟩ = some u)
theorem Rd.len1 {w : World} {B n : Nat} {A : Option Addr} {xs : List Value} (h : Rd w B 1 A n xs) : xs.length = n := by have := h.1; omega
theorem Rd.keep {w w' : World} {B s n : Nat} {A : Option Addr} {xs : List Value} (h : Rd w B s A n xs) (hk : ∀ b o, b < B → w'.cell? ⟨b, o, none⟩ = w.cell? ⟨b, o, none⟩) : Rd w' B s A n xs :=
  ⟨h.1, fun hn => by
    obtain ⟨b, off, e, hb, hc⟩ := h.2 hn
    exact ⟨b, off, e, hb, fun j u hu => (hk _ _ hb).trans (hc j u hu)⟩⟩
theorem Rd.below {w w' : World} {B B' s n : Nat} {A : Option Addr} {xs : List Value} (h : Rd w B s A n xs) (hb : Below B' w w') (hB : B ≤ B') : Rd w' B s A n xs :=
  h.keep fun b o hlt => hb.cell (p := ⟨b, o, none⟩) (by show b < B'; omega)
theorem Rd.more {w : World} {B B' s n : Nat} {A : Option Addr} {xs : List Value} (h : Rd w B s A n xs) (hB : B ≤ B') : Rd w B' s A n xs :=
  ⟨h.1, fun hn => by
    obtain ⟨b, off, e, hb, hc⟩ := h.2 hn
    exact ⟨b, off, e, by omega, hc⟩⟩
theorem Rd.nil (w : World) (B s : Nat) (A : Option Addr) : Rd w B s A 0 [] := ⟨by simp, fun h => by omega⟩
theorem Rd.of_own {w : World} {base s n c : Nat} {e : TypeId} {A : Option Addr} {xs : List Value} (h : w.ownsRow base e s (.slice A n c) n xs) : Rd w w.heap.size s A n xs := by
  refine ⟨h.1, fun hn => ?_⟩
  obtain ⟨g, cap, hv, _, hlt⟩ := h.form hn
  have hA : A = some ⟨g, 0, none⟩ := by injection hv
  subst hA
  refine ⟨g, 0, rfl, hlt, fun j u hu => ?_⟩
  have hc := h.cells (g := g) rfl j u hu
  have ha : (⟨g, 0, none⟩ : Addr).add j = ⟨g, 0 + j, none⟩ := by unfold Addr.add; split <;> simp_all
  rw [ha] at hc
  exact hc
theorem own_below {W w' : World} {base B s n : Nat} {e : TypeId} {v : Value} {xs : List Value} (h : W.ownsRow base e s v n xs) (hb : Below B W w') (hB : W.heap.size ≤ B) : w'.ownsRow base e s v n xs := by
  refine ⟨h.1, ?_⟩
  rcases h.2 with h0 | ⟨g, cap, cur, hv, hbg, hg, h1, h2, h3, h4⟩
  · exact .inl h0
  · refine .inr ⟨g, cap, cur, hv, hbg, ?_, h1, h2, h3, h4⟩
    have hlt : g < W.heap.size := by
      rcases Nat.lt_or_ge g W.heap.size with h5 | h5
      · exact h5
      · rw [Array.getElem?_eq_none h5] at hg; cases hg
    rw [hb.block g (by omega)]
    exact hg
theorem own_slice {W : World} {base s n : Nat} {e : TypeId} {v : Value} {xs : List Value} (h : W.ownsRow base e s v n xs) : ∃ A cap, v = .slice A n cap := by
  rcases h.2 with ⟨rfl, rfl⟩ | ⟨g, cap, cur, hv, _⟩
  · exact ⟨none, 0, rfl⟩
  · exact ⟨_, cap, hv⟩
theorem Rd.take {w : World} {B n : Nat} {A : Option Addr} {xs : List Value} (h : Rd w B 1 A n xs) (k : Nat) (hk : k ≤ n) : Rd w B 1 A k (xs.take k) := by
  have hl := h.len1
  refine ⟨by simp; omega, fun hn => ?_⟩
  obtain ⟨b, off, e, hb, hc⟩ := h.2 (by omega)
  refine ⟨b, off, e, hb, fun j u hu => hc j u ?_⟩
  rw [List.getElem?_take] at hu
  split at hu
  · exact hu
  · cases hu
theorem strCells_bv (l : List UInt8) : Lib.strCells ⟨l.toArray⟩ = l.map bv := by
  unfold Lib.strCells
  simp
  exact fun _ _ => rfl
theorem size_mk (l : List UInt8) : (⟨l.toArray⟩ : ByteArray).size = l.length := by show l.toArray.size = _; simp
section
variable {P : Program}
/-- append(b, s...) with s a string -/
theorem wpList_apstr {ops : Array Oper} {rest : List Oper} {o : Oper} {a : Act} {Q : Exit → Act → World → Prop} (hgd : o.guard = none) (sl x : Operand) (t u : TypeId)
    (ho : o.op = .call { callee := .builtin .append, args := #[sl, x], argTypes := #[t, u] })
    (base : Nat) (e : TypeId) (i : TypeInfo) (ht : P.underlying t = some (.slice e)) (hu : P.underlying u = some .string) (hi : P.info? e = some i) (hz : i.zero = some (.int .u8 0))
    (hsize : i.size = 1) (hby : i.bytes = 1)
    (w : World) (v : Value) (xs : List UInt8) (hs : a.eval sl = v) (hown : w.ownsRow base e 1 v xs.length (xs.map bv)) (s : List UInt8) (hx : a.eval x = .string ⟨s.toArray⟩)
    (hbytes : xs.length + s.length ≤ 140737488355328) (hbase : base ≤ w.heap.size)
    (h : ∀ v' w', w'.ownsRow base e 1 v' (xs ++ s).length ((xs ++ s).map bv) → Below base w w' → wpList P ops Q rest (a.put o.dst v') w') : wpList P ops Q (o :: rest) a w := by
  refine Lib.wpList_append_own_string (P := P) w hgd sl x t u ho base e i ht hu hi hz hsize hby v xs.length (xs.map bv) hs hown ⟨s.toArray⟩ hx (by rw [size_mk]; unfold maxLen; omega) (by rw [size_mk]; exact hbytes) hbase ?_
  intro v' w' hown' hg _
  refine h v' w' ?_ ?_
  · rw [strCells_bv, size_mk, ← List.map_append, ← List.length_append] at hown'
    exact hown'
  · exact below_of_grown hg hbase (fun k hk => (hown.lt k hk).1)
/-- string(b) of a row that the call owns, nil too -/
theorem run_conv_any (w : World) {src dst e : TypeId} (hs : P.underlying src = some (.slice e)) (he : P.underlying e = some (.int .u8)) (hd : P.underlying dst = some .string)
    {base n : Nat} {v : Value} {xs : List UInt8} (hown : w.ownsRow base e 1 v n (xs.map bv)) :
    (convert src dst v).run P w = .ok (.string ⟨xs.toArray⟩) w := by
  rcases hown.2 with ⟨hv, hn⟩ | ⟨g, cap, cur, hv, _⟩
  · subst hv
    subst hn
    have : xs = [] := by have := hown.1; simpa using this
    subst this
    simp [convert, run_underlying hs, run_underlying he, run_underlying hd]
    simp [Conv.bytesToString]
    rfl
  · subst hv
    exact run_conv_own w hs he hd hown
end
end Go.Proofs.YtkoligiilieboaaGreatDoor
namespace Go.Proofs.YtkoligiilieboaaGreatDoor
open Go.RowKit
def Blk (w : World) (g : Nat) (t : TypeId) (cs : Array Value) : Prop := w.heap[g]? = some (.cells cs t (0, 0))
section
variable {w w' : World} {g : Nat} {t : TypeId} {cs : Array Value}
theorem Blk.lt (h : Blk w g t cs) : g < w.heap.size := by
  rcases Nat.lt_or_ge g w.heap.size with h5 | h5
  · exact h5
  · unfold Blk at h; rw [Array.getElem?_eq_none h5] at h; cases h
theorem Blk.cell (h : Blk w g t cs) (i : Nat) : w.cell? ⟨g, i, none⟩ = cs[i]? := cell_of_row w g i cs t (0, 0) h
theorem Blk.frozen (h : Blk w g t cs) (i : Nat) : w.frozen? ⟨g, i, none⟩ = false := by
  unfold Blk at h
  simp [World.frozen?, h]
theorem Blk.new (w : World) (t : TypeId) (cs : Array Value) : Blk (w.alloc (.cells cs t)) w.heap.size t cs := heap_alloc_new w _
theorem Blk.new' (w : World) (t : TypeId) (cs : Array Value) (n : Nat) (h : n = w.heap.size) : Blk (w.alloc (.cells cs t)) n t cs := by subst h; exact heap_alloc_new w _
theorem Blk.drew (h : Blk w g t cs) : Blk w.drew g t cs := h
theorem Blk.drewN (h : Blk w g t cs) (n : Nat) : Blk (w.drewN n) g t cs := h
theorem Blk.alloc (h : Blk w g t cs) (o : Obj) : Blk (w.alloc o) g t cs := (Below.heap_alloc w o g h.lt).trans h
theorem Blk.set (h : Blk w g t cs) (i : Nat) (u : Value) : Blk (w.setCell ⟨g, i, none⟩ u) g t (cs.setIfInBounds i u) := by
  unfold Blk at h ⊢
  simp [World.setCell, Array.getElem?_modify, h]
theorem Blk.far (h : Blk w g t cs) {p : Addr} (hp : g ≠ p.block) (u : Value) : Blk (w.setCell p u) g t cs := (Below.heap_setCell w p u g hp).trans h
theorem Blk.below {B : Nat} (h : Blk w g t cs) (hb : Below B w w') (hg : g < B) : Blk w' g t cs := (hb.block g hg).trans h
theorem Blk.keep (h : Blk w g t cs) (hb : Below w.heap.size w w') : Blk w' g t cs := h.below hb h.lt
/-- the facts of a block of one to six cells, as the walk wants them -/
theorem Blk.c1 {c0 : Value} (h : Blk w g t #[c0]) : g < w.heap.size ∧ w.cell? ⟨g, 0, none⟩ = some c0 ∧ w.frozen? ⟨g, 0, none⟩ = false := ⟨h.lt, h.cell 0, h.frozen 0⟩
theorem Blk.c2 {c0 c1 : Value} (h : Blk w g t #[c0, c1]) : g < w.heap.size ∧ w.cell? ⟨g, 0, none⟩ = some c0 ∧ w.cell? ⟨g, 1, none⟩ = some c1 ∧ w.frozen? ⟨g, 0, none⟩ = false ∧ w.frozen? ⟨g, 1, none⟩ = false :=
  ⟨h.lt, h.cell 0, h.cell 1, h.frozen 0, h.frozen 1⟩
theorem Blk.c3 {c0 c1 c2 : Value} (h : Blk w g t #[c0, c1, c2]) : g < w.heap.size ∧ w.cell? ⟨g, 0, none⟩ = some c0 ∧ w.cell? ⟨g, 1, none⟩ = some c1 ∧ w.cell? ⟨g, 2, none⟩ = some c2 ∧
    w.frozen? ⟨g, 0, none⟩ = false ∧ w.frozen? ⟨g, 1, none⟩ = false ∧ w.frozen? ⟨g, 2, none⟩ = false := ⟨h.lt, h.cell 0, h.cell 1, h.cell 2, h.frozen 0, h.frozen 1, h.frozen 2⟩
theorem Blk.c5 {c0 c1 c2 c3 c4 : Value} (h : Blk w g t #[c0, c1, c2, c3, c4]) : g < w.heap.size ∧ w.cell? ⟨g, 0, none⟩ = some c0 ∧ w.cell? ⟨g, 1, none⟩ = some c1 ∧ w.cell? ⟨g, 2, none⟩ = some c2 ∧ w.cell? ⟨g, 3, none⟩ = some c3 ∧ w.cell? ⟨g, 4, none⟩ = some c4 ∧
    w.frozen? ⟨g, 0, none⟩ = false ∧ w.frozen? ⟨g, 1, none⟩ = false ∧ w.frozen? ⟨g, 2, none⟩ = false ∧ w.frozen? ⟨g, 3, none⟩ = false ∧ w.frozen? ⟨g, 4, none⟩ = false :=
  ⟨h.lt, h.cell 0, h.cell 1, h.cell 2, h.cell 3, h.cell 4, h.frozen 0, h.frozen 1, h.frozen 2, h.frozen 3, h.frozen 4⟩
end
end Go.Proofs.YtkoligiilieboaaGreatDoor
namespace Go.Proofs.YtkoligiilieboaaGreatDoor
open Go.ChangeShapes Go.WideShapes Go.ChangeAt Go.RowKit Go.Deep
/-- a slice of structs of s cells each: element k holds the cells 'cs xs[k]' -/
def RdR {α : Type} (cs : α → List Value) (s : Nat) (w : World) (B : Nat) (A : Option Addr) (xs : List α) : Prop :=
  0 < xs.length → ∃ b off, A = some ⟨b, off, none⟩ ∧ b < B ∧ ∀ k (h : k < xs.length) j u, (cs xs[k])[j]? = some u → w.cell? ⟨b, off + (k * s + j), none⟩ = some u
section
variable {α : Type} {cs : α → List Value} {s : Nat} {w w' : World} {B : Nat} {A : Option Addr} {xs : List α}
theorem RdR.keep (h : RdR cs s w B A xs) (hk : ∀ b o, b < B → w'.cell? ⟨b, o, none⟩ = w.cell? ⟨b, o, none⟩) : RdR cs s w' B A xs := fun hn => by
  obtain ⟨b, off, e, hb, hc⟩ := h hn
  exact ⟨b, off, e, hb, fun k hk2 j u hu => (hk _ _ hb).trans (hc k hk2 j u hu)⟩
theorem RdR.below {B' : Nat} (h : RdR cs s w B A xs) (hb : Below B' w w') (hB : B ≤ B') : RdR cs s w' B A xs := h.keep fun b o hlt => hb.cell (p := ⟨b, o, none⟩) (by show b < B'; omega)
theorem RdR.more {B' : Nat} (h : RdR cs s w B A xs) (hB : B ≤ B') : RdR cs s w B' A xs := fun hn => by
  obtain ⟨b, off, e, hb, hc⟩ := h hn
  exact ⟨b, off, e, by omega, hc⟩
end
theorem cell_lt2 {w : World} {a : Addr} {v : Value} (h : w.cell? a = some v) : a.block < w.heap.size := by
  unfold World.cell? at h
  rcases Nat.lt_or_ge a.block w.heap.size with h5 | h5
  · exact h5
  · rw [Array.getElem?_eq_none h5] at h; cases h
section
variable {H : Type} {enc : TypeId × Value → H} {P : Program} {w : World} {held : Bool}
theorem open_rows {α : Type} [Inhabited α] (cs : α → List Value) (s : Nat) (ok : α → Prop) {r : Reach} {b0 : Nat} {t e : TypeId} {v : Value} {d : DataW H} {p : List MemPlace} (ht : P.underlying t = some (.slice e)) (hc : P.cellsOf e = s) (hs : 0 < s)
    (hcs : ∀ x, (cs x).length = s)
    (hopen : ∀ (n : Nat) (l : List Value) (y : DataW H × List MemPlace), DataW.trod enc P w 0 (fun _ => true) held n e l = some y → ∃ x : α, l = cs x ∧ ok x)
    (hv : Value.okWide P w r b0 t v) (h : DataW.Trod enc P w 0 (fun _ => true) held t v d p) :
    ∃ (A : Option Addr) (n cap : Nat) (xs : List α), v = .slice A n cap ∧ xs.length = n ∧ n ≤ 9223372036854775807 ∧ n ≤ cap ∧ (∀ x ∈ xs, ok x) ∧ RdR cs s w w.heap.size A xs := by
  obtain ⟨A, n, cap, rfl⟩ := okWide_slice ht hv
  obtain ⟨fuel, hf⟩ := h
  rcases open_slice ht hf with ⟨hcs2, _⟩ | ⟨a, len, cap', m, fl, D, Pl, hcs2, _, hl, hm, hmm, _, hx⟩
  · simp [Value.cells] at hcs2
    obtain ⟨rfl, rfl, rfl⟩ := hcs2
    exact ⟨none, 0, 0, [], rfl, rfl, by omega, by omega, (fun x hx => by cases hx), fun h => absurd h (by simp)⟩
  · simp [Value.cells] at hcs2
    obtain ⟨rfl, rfl, rfl⟩ := hcs2
    simp only [if_true] at hmm
    have each : ∀ i, i < n → ∃ x : α, ok x ∧ ∀ j u, (cs x)[j]? = some u → w.cell? (a.add (i * s + j)) = some u := fun i hi => by
      obtain ⟨l, hc1, ht1⟩ := hx i (by omega)
      obtain ⟨x, hl2, ho⟩ := hopen _ _ _ ht1
      refine ⟨x, ho, fun j u hu => ?_⟩
      obtain ⟨_, hcl, hat⟩ := World.cells?_some hc1
      have hj : j < s := by
        have := (List.getElem?_eq_some_iff.1 hu).1
        rw [hcs x] at this
        exact this
      have h2 := hat j (by rw [hc]; exact hj)
      rw [hc, Go.Deep.add_add] at h2
      rw [h2, hl2]
      exact hu
    obtain ⟨X, hX⟩ := choose_lt each
    refine ⟨some a, n, cap, (List.range n).map X, rfl, by simp, by unfold maxLen at hm; omega, hl, fun x hx2 => ?_, fun hn => ?_⟩
    · obtain ⟨i, hi, rfl⟩ := List.mem_map.1 hx2
      exact (hX i (List.mem_range.1 hi)).1
    · have hn : 0 < n := by simpa using hn
      have h0 := (hX 0 hn).2 0
      have hlen := hcs (X 0)
      have hc0 := h0 _ (List.getElem?_eq_getElem (by omega))
      obtain ⟨b, off, spot⟩ := a
      have hspot : spot = none := by simpa [Addr.add] using World.cell?_spot hc0
      subst hspot
      refine ⟨b, off, rfl, ?_, fun k hk j u hu => ?_⟩
      · have := cell_lt2 hc0
        simpa [Addr.add] using this
      · have hk : k < n := by simpa using hk
        have h2 := (hX k hk).2 j u (by simpa using hu)
        have ha : (⟨b, off, none⟩ : Addr).add (k * s + j) = ⟨b, off + (k * s + j), none⟩ := by unfold Addr.add; split <;> simp_all
        rw [ha] at h2
        exact h2
end
end Go.Proofs.YtkoligiilieboaaGreatDoor
namespace Go.Proofs.YtkoligiilieboaaGreatDoor
open Go.ChangeShapes Go.WideShapes Go.ChangeAt Go.RowKit Go.Deep
instance : Inhabited Sp := ⟨zSp⟩
def spC (a : Sp) : List Value := [.string ⟨a.lo.toArray⟩, .string ⟨a.hi.toArray⟩]
def spOk (a : Sp) : Prop := a.lo.length ≤ 9223372036854775807 ∧ a.hi.length ≤ 9223372036854775807
section
variable {H : Type} {enc : TypeId × Value → H} {P : Program} {w : World} {held : Bool}
theorem open_spc {e ts : TypeId} {f0 f1 : Field} (hs : P.underlying e = some (.struct #[f0, f1])) (hst : P.underlying ts = some .string)
    (e0 : f0.type = ts ∧ f0.offset = 0) (e1 : f1.type = ts ∧ f1.offset = 1) (hc2 : P.cellsOf ts = 1) (hct : P.cellsOf e = 2)
    (n : Nat) (l : List Value) (y : DataW H × List MemPlace) (h : DataW.trod enc P w 0 (fun _ => true) held n e l = some y) : ∃ x : Sp, l = spC x ∧ spOk x := by
  obtain ⟨xs, m, _, _, hlen, hxs, hf⟩ := DataW.trod_struct hs h
  rw [hct] at hlen
  match l, hlen, xs, hxs with
  | [c0, c1], _, [y0, y1], _ =>
    have h0 := hf 0 f0 rfl
    have h1 := hf 1 f1 rfl
    rw [e0.1, e0.2, hc2] at h0
    rw [e1.1, e1.2, hc2] at h1
    obtain ⟨s0, hs0, _, ws0⟩ := DataW.trod_string hst h0
    obtain ⟨s1, hs1, _, ws1⟩ := DataW.trod_string hst h1
    simp at hs0 hs1
    refine ⟨⟨s0.data.toList, s1.data.toList⟩, ?_, ?_, ?_⟩
    · rw [hs0, hs1]
      unfold spC
      simp
    · unfold maxLen at ws0
      simpa using ws0
    · unfold maxLen at ws1
      simpa using ws1
end
end Go.Proofs.YtkoligiilieboaaGreatDoor
namespace Go.Proofs.YtkoligiilieboaaGreatDoor
open Go.RowKit
section
variable {P : Program} {w : World} {g : Nat} {t : TypeId} {cs : Array Value}
theorem addr_add (g o j : Nat) : (⟨g, o, none⟩ : Addr).add j = ⟨g, o + j, none⟩ := by unfold Addr.add; split <;> simp_all
/-- a stretch of a block that is known whole -/
theorem Blk.ld (h : Blk w g t cs) (o k : Nat) (out : List Value) (hl : out.length = k) (ho : (cs.toList.drop o).take k = out) : (loadCellsFrom ⟨g, o, none⟩ 0 k #[]).run P w = .ok out.toArray w := by
  subst hl
  have := run_loadCells_list (P := P) w ⟨g, o, none⟩ out (fun j v hv => by
    rw [addr_add, h.cell (o + j)]
    rw [← ho, List.getElem?_take] at hv
    split at hv
    · rw [List.getElem?_drop] at hv
      simpa using hv
    · cases hv)
  simpa [loadCells] using this
/-- a block that is known whole is written whole -/
theorem Blk.st (h : Blk w g t cs) (vs : List Value) (hl : vs.length = cs.size) (h1 : (vs.all (·.oneCell')) = true) : (storeCells ⟨g, 0, none⟩ vs 0).run P w = .ok () (w.setRow g vs.toArray) := by
  have := run_storeCells_from (P := P) g t vs 0 cs w h (by omega) (fun v hv => List.all_eq_true.1 h1 v hv)
  simpa using this
theorem Blk.row (h : Blk w g t cs) (vs : Array Value) : Blk (w.setRow g vs) g t vs := setRow_heap w g cs vs t (0, 0) h
theorem Blk.row_far (h : Blk w g t cs) {g' : Nat} (hg : g ≠ g') (vs : Array Value) : Blk (w.setRow g' vs) g t cs := (setRow_other w g' g vs hg).trans h
theorem below_row {B : Nat} {a : World} (h : Below B a w) (hg : B ≤ g) (vs : Array Value) : Below B a (w.setRow g vs) :=
  h.trans ⟨rfl, rfl, rfl, by simp [World.setRow], fun i hi => setRow_other w g i vs (by omega)⟩
theorem size_row (w : World) (g : Nat) (vs : Array Value) : (w.setRow g vs).heap.size = w.heap.size := by simp [World.setRow]
/-- a whole block is read by one operation, in a list of operations -/
theorem wpl_ld {ops : Array Oper} {rest : List Oper} {op : Oper} {a : Act} {Q : Exit → Act → World → Prop} (H : Blk w g t cs) (hgd : op.guard = none) (ty : TypeId) (x : Operand) (ho : op.op = .load ty x)
    (hx : a.eval x = .pointer (some ⟨g, 0, none⟩)) (d : TypeDesc) (hu : P.underlying ty = some d) (hd : (match d with | .struct _ | .array _ _ => true | _ => false) = true) (hi : (P.info? ty).map (·.size) = some cs.size)
    (h : wpList P ops Q rest (a.put op.dst (.agg cs)) w) : wpList P ops Q (op :: rest) a w :=
  wpList_load_row hgd ty x ho g hx t cs (0, 0) d H hu hd hi h
/-- a whole block is written by one operation; the world behind it gets a name -/
theorem wpl_st {ops : Array Oper} {rest : List Oper} {op : Oper} {a : Act} {Q : Exit → Act → World → Prop} (H : Blk w g t cs) (hgd : op.guard = none) (ty : TypeId) (x y : Operand) (ho : op.op = .store ty x y)
    (vs : Array Value) (hx : a.eval x = .pointer (some ⟨g, 0, none⟩)) (hy : a.eval y = .agg vs) (hs : vs.size = cs.size) (hi : (P.info? ty).map (·.size) = some vs.size) (h1 : vs.toList.all (·.oneCell') = true)
    (h : ∀ w', w' = w.setRow g vs → wpList P ops Q rest (a.put op.dst undef) w') : wpList P ops Q (op :: rest) a w :=
  wpList_plain hgd fun _ hK => by
    unfold Oper.wp execOp
    have hst : (storeVar ty ⟨g, 0, none⟩ (.agg vs)).run P w = .ok () (w.setRow g vs) := by
      have e := H.st (P := P) vs.toList (by simpa using hs) h1
      cases hq : P.info? ty with
      | none => simp [hq] at hi
      | some i =>
        have hz : i.size = vs.size := by simpa [hq] using hi
        simp [storeVar, Sem.run_bind, sizeOf, typeInfo, hq, hz, Value.cells, e]
    simp only [ho, hx, hy, Instr.storeAt, Instr.sureAddr, Sem.run_bind, Sem.run_pure, Result.andThen_ok, hst]
    exact hK _ _ (h _ rfl)
/-- a result that lies in a block that is known whole -/
theorem res_row {fn : Func} {p : Tmp} {ty : TypeId} {tmps : Array Value} (H : Blk w g t cs) (h : fn.results = #[.cell p ty]) (hp : tmps.getD p undef = .pointer (some ⟨g, 0, none⟩)) (d : TypeDesc)
    (hu : P.underlying ty = some d) (hd : (match d with | .struct _ | .array _ _ => true | _ => false) = true) (hi : (P.info? ty).map (·.size) = some cs.size) : (results fn tmps).run P w = .ok (.agg cs) w :=
  results_cell_row h tmps w g t cs (0, 0) d hp H hu hd hi
/-- the like, where a guard stands and holds -/
theorem wpl_ldg {ops : Array Oper} {rest : List Oper} {op : Oper} {a : Act} {Q : Exit → Act → World → Prop} (H : Blk w g t cs) (hgd : Region.wanted op (yielded ops a.tmps) = true) (ty : TypeId) (x : Operand) (ho : op.op = .load ty x)
    (hx : a.eval x = .pointer (some ⟨g, 0, none⟩)) (d : TypeDesc) (hu : P.underlying ty = some d) (hd : (match d with | .struct _ | .array _ _ => true | _ => false) = true) (hi : (P.info? ty).map (·.size) = some cs.size)
    (h : wpList P ops Q rest (a.put op.dst (.agg cs)) w) : wpList P ops Q (op :: rest) a w :=
  wpList_step fun K hK => by rw [if_pos hgd]; exact wp_load_row ty x ho g hx t cs (0, 0) d H hu hd hi (hK _ _ h)
/-- three results, of which the first and the third lie in blocks that are known whole -/
theorem res3 {fn : Func} {p q r : Tmp} {ty1 ty2 : TypeId} {tmps : Array Value} {g1 g2 : Nat} {t1 t2 : TypeId} {c1 c2 : Array Value} (H1 : Blk w g1 t1 c1) (H2 : Blk w g2 t2 c2) (h : fn.results = #[.cell p ty1, .tmp q, .cell r ty2])
    (hp : tmps.getD p undef = .pointer (some ⟨g1, 0, none⟩)) (hr : tmps.getD r undef = .pointer (some ⟨g2, 0, none⟩)) (v : Value) (hq : tmps.getD q undef = v) (d1 d2 : TypeDesc)
    (hu1 : P.underlying ty1 = some d1) (hd1 : (match d1 with | .struct _ | .array _ _ => true | _ => false) = true) (hi1 : (P.info? ty1).map (·.size) = some c1.size)
    (hu2 : P.underlying ty2 = some d2) (hd2 : (match d2 with | .struct _ | .array _ _ => true | _ => false) = true) (hi2 : (P.info? ty2).map (·.size) = some c2.size) :
    (results fn tmps).run P w = .ok (.tuple #[.agg c1, v, .agg c2]) w := by
  have hp' : tmps[p]?.getD undef = .pointer (some ⟨g1, 0, none⟩) := by simpa using hp
  have hr' : tmps[r]?.getD undef = .pointer (some ⟨g2, 0, none⟩) := by simpa using hr
  have hq' : tmps[q]?.getD undef = v := by simpa using hq
  simp [results, h, hp', hr', hq', asAddr, run_loadVar_row w g1 t1 ty1 c1 (0, 0) d1 H1 hu1 hd1 hi1, run_loadVar_row w g2 t2 ty2 c2 (0, 0) d2 H2 hu2 hd2 hi2]
end
end Go.Proofs.YtkoligiilieboaaGreatDoor
namespace Go.Proofs.YtkoligiilieboaaGreatDoor
open Go.RowKit
def putAll (cs : Array Value) (o : Nat) : List Value → Array Value
  | [] => cs
  | v :: r => putAll (cs.setIfInBounds o v) (o + 1) r
section
variable {P : Program} {w : World} {g : Nat} {t : TypeId} {cs : Array Value}
theorem Blk.setCells (vs : List Value) : ∀ (o : Nat) (cs : Array Value) (w : World), Blk w g t cs → Blk (w.setCells g o vs) g t (putAll cs o vs) := by
  induction vs with
  | nil => intro o cs w h; exact h
  | cons v r ih => intro o cs w h; exact ih (o + 1) _ _ (h.set o v)
theorem Blk.setCells_far (vs : List Value) {g' : Nat} (hg : g ≠ g') : ∀ (o : Nat) (w : World), Blk w g t cs → Blk (w.setCells g' o vs) g t cs := by
  induction vs with
  | nil => intro o w h; exact h
  | cons v r ih => intro o w h; exact ih (o + 1) _ (h.far (p := ⟨g', o, none⟩) hg v)
theorem below_setCells {B : Nat} {a : World} (vs : List Value) (hg : B ≤ g) : ∀ (o : Nat) (w : World), Below B a w → Below B a (w.setCells g o vs) := by
  induction vs with
  | nil => intro o w h; exact h
  | cons v r ih => intro o w h; exact ih (o + 1) _ (h.setCell (p := ⟨g, o, none⟩) hg v)
/-- a stretch of a block is written by one operation; the world behind it gets a name -/
theorem wpl_stm {ops : Array Oper} {rest : List Oper} {op : Oper} {a : Act} {Q : Exit → Act → World → Prop} (H : Blk w g t cs) (hgd : op.guard = none) (ty : TypeId) (x y : Operand) (ho : op.op = .store ty x y)
    (o : Nat) (vs : Array Value) (hx : a.eval x = .pointer (some ⟨g, o, none⟩)) (hy : a.eval y = .agg vs) (hs : o + vs.size ≤ cs.size) (hi : (P.info? ty).map (·.size) = some vs.size) (h1 : vs.all (·.oneCell') = true)
    (h : ∀ w', w' = w.setCells g o vs.toList → wpList P ops Q rest (a.put op.dst undef) w') : wpList P ops Q (op :: rest) a w := by
  refine wpList_store_mid hgd ty x y ho g o vs hx hy (fun j hj => ⟨?_, H.frozen _⟩) hi h1 (h _ rfl)
  rw [H.cell (o + j), Array.getElem?_eq_getElem (by omega)]
  rfl
end
end Go.Proofs.YtkoligiilieboaaGreatDoor
namespace Go.Proofs.YtkoligiilieboaaGreatDoor
open Go.RowKit
section
variable {P : Program} {g : Nat} {t : TypeId} {cs : Array Value}
/-- one operation is taken first: the slot that it fills is told, so that the state can be laid out behind it -/
theorem take_at {md : Region.Mode} {ops : Array Oper} {Q : Exit → Act → World → Prop} {S : World → Prop} {i : Nat} {oi : Oper} {v : Value} {fuel : Nat} {listed : Array Bool} {a : Act} {w : World} (d : Option Tmp) (hi : ops[i]? = some oi) (hd : oi.dst = d)
    (hs : Region.noSelect ops = true) (hf : Region.free md ops listed i = true) (hr : (Region.ready md ops listed).contains i = true)
    (hQ : ∀ c a w, Q (.panic c) (a.put oi.dst v) w → Q (.panic c) a w) (hy : YieldsIf P ops S oi v a) (hS : S w)
    (h : wpAnyH P md ops Q S fuel (listed.setIfInBounds i true) (a.put d v) w) : wpAnyH P md ops Q S (fuel + 1) listed a w := by
  subst hd
  exact wpAnyH_take hi hs hf hr hQ hy hS h
theorem yif_ld {ops : Array Oper} {S : World → Prop} {op : Oper} {a : Act} (hw : Region.wanted op (yielded ops a.tmps) = true) (ty : TypeId) (x : Operand) (ho : op.op = .load ty x)
    (hx : a.eval x = .pointer (some ⟨g, 0, none⟩)) (hS : ∀ w, S w → Blk w g t cs) (d : TypeDesc)
    (hu : P.underlying ty = some d) (hd : (match d with | .struct _ | .array _ _ => true | _ => false) = true) (hi : (P.info? ty).map (·.size) = some cs.size) : YieldsIf P ops S op (.agg cs) a :=
  .inl ⟨hw, fun w hw' => by
    unfold execOp
    simp only [ho, hx, Instr.loadAt, Instr.sureAddr, Sem.run_bind, Sem.run_pure, Result.andThen_ok, run_loadVar_row w g t ty cs (0, 0) d (hS w hw') hu hd hi]⟩
theorem wp_st {op : Oper} {a : Act} {w : World} {K : Act → World → Prop} {Q : Exit → Act → World → Prop} {E : Prop} {b : Bool} (H : Blk w g t cs) (hb : b = true) (ty : TypeId) (x y : Operand) (ho : op.op = .store ty x y)
    (vs : Array Value) (hx : a.eval x = .pointer (some ⟨g, 0, none⟩)) (hy : a.eval y = .agg vs) (hs : vs.size = cs.size) (hi : (P.info? ty).map (·.size) = some vs.size) (h1 : vs.toList.all (·.oneCell') = true)
    (h : ∀ w', w' = w.setRow g vs → K (a.put op.dst undef) w') : if b = true then op.wp P a w K Q else E := by
  rw [if_pos hb]
  have hst : (storeVar ty ⟨g, 0, none⟩ (.agg vs)).run P w = .ok () (w.setRow g vs) := by
    have e := H.st (P := P) vs.toList (by simpa using hs) h1
    cases hq : P.info? ty with
    | none => simp [hq] at hi
    | some i =>
      have hz : i.size = vs.size := by simpa [hq] using hi
      simp [storeVar, Sem.run_bind, sizeOf, typeInfo, hq, hz, Value.cells, e]
  unfold Oper.wp execOp
  simp only [ho, hx, hy, Instr.storeAt, Instr.sureAddr, Sem.run_bind, Sem.run_pure, Result.andThen_ok, hst]
  exact h _ rfl
theorem Blk.range {w : World} (h : Blk w g t cs) (o : Nat) (out : List Value) (ho : (cs.toList.drop o).take out.length = out) : w.rangeAt g o out := fun j v hv => by
  rw [h.cell (o + j)]
  rw [← ho, List.getElem?_take] at hv
  split at hv
  · rw [List.getElem?_drop] at hv
    simpa using hv
  · cases hv
end
end Go.Proofs.YtkoligiilieboaaGreatDoor
namespace Go.Proofs.YtkoligiilieboaaGreatDoor
open Go.RowKit
section
variable {P : Program} {ops : Array Oper} {Q : Exit → Act → World → Prop} {a : Act} {w : World} {rest : List Oper}
theorem wpl_take {o : Oper} {v : Value} (d : Option Tmp) (hd : o.dst = d) (hw : Region.wanted o (yielded ops a.tmps) = true) (hr : (execOp a.eval o).run P w = .ok (.value v) w) (h : wpList P ops Q rest (a.put d v) w) : wpList P ops Q (o :: rest) a w := by
  subst hd
  refine wpList_step fun K hK => ?_
  rw [if_pos hw]
  unfold Oper.wp
  rw [hr]
  exact hK _ _ h
theorem wpl_skip {o : Oper} (d : Option Tmp) (hd : o.dst = d) (hw : Region.wanted o (yielded ops a.tmps) = false) (h : wpList P ops Q rest (a.put d undef) w) : wpList P ops Q (o :: rest) a w := by
  subst hd
  refine wpList_step fun K hK => ?_
  rw [if_neg (by rw [hw]; exact Bool.false_ne_true)]
  exact hK _ _ h
/-- five operations under a guard, and the pick that joins them: both ways at once -/
theorem wpl_conj {o1 o2 o3 o4 o5 op : Oper} {d1 d2 d3 d4 d5 dp : Option Tmp} {u1 u2 u3 u4 : Value} (b c : Bool)
    (h1 : o1.dst = d1) (h2 : o2.dst = d2) (h3 : o3.dst = d3) (h4 : o4.dst = d4) (h5 : o5.dst = d5) (h6 : op.dst = dp)
    (g1 : Region.wanted o1 (yielded ops a.tmps) = b) (g2 : ∀ v1, Region.wanted o2 (yielded ops (a.put d1 v1).tmps) = b) (g3 : ∀ v1 v2, Region.wanted o3 (yielded ops ((a.put d1 v1).put d2 v2).tmps) = b)
    (g4 : ∀ v1 v2 v3, Region.wanted o4 (yielded ops (((a.put d1 v1).put d2 v2).put d3 v3).tmps) = b) (g5 : ∀ v1 v2 v3 v4, Region.wanted o5 (yielded ops ((((a.put d1 v1).put d2 v2).put d3 v3).put d4 v4).tmps) = b)
    (g6 : ∀ v1 v2 v3 v4 v5, Region.wanted op (yielded ops (((((a.put d1 v1).put d2 v2).put d3 v3).put d4 v4).put d5 v5).tmps) = true)
    (r1 : (execOp a.eval o1).run P w = .ok (.value u1) w) (r2 : (execOp (a.put d1 u1).eval o2).run P w = .ok (.value u2) w) (r3 : ∀ v2, (execOp ((a.put d1 u1).put d2 v2).eval o3).run P w = .ok (.value u3) w)
    (r4 : (execOp (((a.put d1 u1).put d2 u2).put d3 u3).eval o4).run P w = .ok (.value u4) w) (r5 : (execOp ((((a.put d1 u1).put d2 u2).put d3 u3).put d4 u4).eval o5).run P w = .ok (.value (.bool c)) w)
    (r6 : ∀ v1 v2 v3 v4, b = true → (execOp (((((a.put d1 v1).put d2 v2).put d3 v3).put d4 v4).put d5 (.bool c)).eval op).run P w = .ok (.value (.bool c)) w)
    (r7 : ∀ v1 v2 v3 v4 v5, b = false → (execOp (((((a.put d1 v1).put d2 v2).put d3 v3).put d4 v4).put d5 v5).eval op).run P w = .ok (.value (.bool false)) w)
    (h : ∀ v1 v2 v3 v4 v5, wpList P ops Q rest ((((((a.put d1 v1).put d2 v2).put d3 v3).put d4 v4).put d5 v5).put dp (.bool (b && c))) w) : wpList P ops Q (o1 :: o2 :: o3 :: o4 :: o5 :: op :: rest) a w := by
  cases b
  case false =>
    exact wpl_skip d1 h1 g1 (wpl_skip d2 h2 (g2 _) (wpl_skip d3 h3 (g3 _ _) (wpl_skip d4 h4 (g4 _ _ _) (wpl_skip d5 h5 (g5 _ _ _ _) (wpl_take dp h6 (g6 _ _ _ _ _) (r7 _ _ _ _ _ rfl) (h _ _ _ _ _))))))
  case true =>
    exact wpl_take d1 h1 g1 r1 (wpl_take d2 h2 (g2 _) r2 (wpl_take d3 h3 (g3 _ _) (r3 _) (wpl_take d4 h4 (g4 _ _ _) r4 (wpl_take d5 h5 (g5 _ _ _ _) r5 (wpl_take dp h6 (g6 _ _ _ _ _) (r6 _ _ _ _ rfl) (h _ _ _ _ _))))))
theorem ex_ldm {g : Nat} {t : TypeId} {cs : Array Value} {op : Oper} (H : Blk w g t cs) (ty : TypeId) (x : Operand) (ho : op.op = .load ty x) (o : Nat) (hx : a.eval x = .pointer (some ⟨g, o, none⟩)) (out : List Value) (hr : (cs.toList.drop o).take out.length = out) (d : TypeDesc)
    (hu : P.underlying ty = some d) (hd : d.isRow = true) (hi : (P.info? ty).map (·.size) = some out.length) : (execOp a.eval op).run P w = .ok (.value (.agg out.toArray)) w := by
  unfold execOp
  simp only [ho, hx, Instr.loadAt, Instr.sureAddr, Sem.run_bind, Sem.run_pure, Result.andThen_ok, run_loadVar_mid w g o ty out d (H.range o out hr) hu hd hi]
theorem ex_bin {op : Oper} (b : BinOp) (t u : TypeId) (x y : Operand) (ho : op.op = .binOp b t x y u) (X Y v : Value)
    (hx : a.eval x = X) (hy : a.eval y = Y) (hg : (eqGuard b t x y X Y).run P w = .ok () w) (hr : (Go.binOp b t X Y).run P w = .ok v w) : (execOp a.eval op).run P w = .ok (.value v) w := by
  unfold execOp
  simp only [ho, hx, hy, Sem.run_bind, hg, Result.andThen_ok, hr, Sem.run_pure]
theorem ex_pick {op : Oper} (x y z : Operand) (ho : op.op = .pick x y z) (b : Bool) (v : Value) (hx : a.eval x = .bool b) (hy : b = true → a.eval y = v) (hz : b = false → a.eval z = v) : (execOp a.eval op).run P w = .ok (.value v) w := by
  unfold execOp
  cases b
  · simp only [ho, hx, hz rfl]
    simp [go_sem]
  · simp only [ho, hx, hy rfl]
    simp [go_sem]
end
end Go.Proofs.YtkoligiilieboaaGreatDoor
namespace Go.Proofs.YtkoligiilieboaaGreatDoor
structure Pl where
  lo : List UInt8
  hi : List UInt8
  sh : Int
  ce : Int
  ep : Int
instance : Inhabited Pl := ⟨⟨[], [], 0, 0, 0⟩⟩
def plC (p : Pl) : List Value := [.string ⟨p.lo.toArray⟩, .string ⟨p.hi.toArray⟩, .int .i64 p.sh, .int .i64 p.ce, .int .i64 p.ep]
def plOk (p : Pl) : Prop := p.lo.length ≤ 9223372036854775807 ∧ p.hi.length ≤ 9223372036854775807
def ldC (n : Int) : List Value := [.int .i64 n]
theorem plc_cells {w : World} {B : Nat} {A : Option Addr} {ps : List Pl} (hR : RdR plC 5 w B A ps) (k : Nat) (hk : k < ps.length) :
    ∃ b off, A = some ⟨b, off, none⟩ ∧ b < B ∧ w.cell? ⟨b, off + k * 5, none⟩ = some (.string ⟨ps[k].lo.toArray⟩) ∧ w.cell? ⟨b, off + k * 5 + 1, none⟩ = some (.string ⟨ps[k].hi.toArray⟩) ∧
      w.cell? ⟨b, off + k * 5 + 2, none⟩ = some (.int .i64 ps[k].sh) ∧ w.cell? ⟨b, off + k * 5 + 3, none⟩ = some (.int .i64 ps[k].ce) ∧ w.cell? ⟨b, off + k * 5 + 4, none⟩ = some (.int .i64 ps[k].ep) := by
  obtain ⟨b, off, hA, hb, hc⟩ := hR (by omega)
  exact ⟨b, off, hA, hb, hc k hk 0 _ rfl, hc k hk 1 _ rfl, hc k hk 2 _ rfl, hc k hk 3 _ rfl, hc k hk 4 _ rfl⟩
theorem ldc_cells {w : World} {B : Nat} {A : Option Addr} {ls : List Int} (hR : RdR ldC 1 w B A ls) (k : Nat) (hk : k < ls.length) :
    ∃ b off, A = some ⟨b, off, none⟩ ∧ b < B ∧ w.cell? ⟨b, off + k, none⟩ = some (.int .i64 ls[k]) := by
  obtain ⟨b, off, hA, hb, hc⟩ := hR (by omega)
  exact ⟨b, off, hA, hb, by simpa using hc k hk 0 _ rfl⟩
end Go.Proofs.YtkoligiilieboaaGreatDoor
namespace Go.Proofs.YtkoligiilieboaaGreatDoor
structure Rq where
  cl : Int
  rq : Int
  kd : Int
  ky : List UInt8
  vl : List UInt8
  had : Bool
  old : List UInt8
  a : Int
  t : Int
  n : Int
  hi : List UInt8
  lim : Int
structure An where
  er : Int
  a : Int
  t : Int
  n : Int
  fd : Bool
  vl : List UInt8
  itA : Option Addr
  itn : Nat
  itc : Nat
  nx : List UInt8
  mo : Bool
structure Cli where
  id : Int
  nx : Int
  pA : Option Addr
  pn : Nat
  pc : Nat
  lA : Option Addr
  ln : Nat
  lc : Nat
  req : Rq
  op : Bool
  tr : Int
structure Ms where
  kind : Int
  frm : Int
  to : Int
  shard : Int
  epoch : Int
  move : Int
  lease : Int
  num : Int
  of : Int
  a : Int
  t : Int
  n : Int
  text : List UInt8
  req : Rq
  ans : An
  pA : Option Addr
  pn : Nat
  pc : Nat
  mA : Option Addr
  mn : Nat
  mc : Nat
abbrev rqA (r : Rq) : Array Value := #[.int .i64 r.cl, .int .i64 r.rq, .int .i64 r.kd, .string ⟨r.ky.toArray⟩, .string ⟨r.vl.toArray⟩, .bool r.had, .string ⟨r.old.toArray⟩, .int .i64 r.a, .int .i64 r.t, .int .i64 r.n, .string ⟨r.hi.toArray⟩, .int .i64 r.lim]
abbrev anA (r : An) : Array Value := #[.int .i64 r.er, .int .i64 r.a, .int .i64 r.t, .int .i64 r.n, .bool r.fd, .string ⟨r.vl.toArray⟩, .slice r.itA r.itn r.itc, .string ⟨r.nx.toArray⟩, .bool r.mo]
abbrev cliA (c : Cli) : Array Value := #[.int .i64 c.id, .int .i64 c.nx, .slice c.pA c.pn c.pc, .slice c.lA c.ln c.lc, .int .i64 c.req.cl, .int .i64 c.req.rq, .int .i64 c.req.kd, .string ⟨c.req.ky.toArray⟩, .string ⟨c.req.vl.toArray⟩, .bool c.req.had, .string ⟨c.req.old.toArray⟩, .int .i64 c.req.a, .int .i64 c.req.t, .int .i64 c.req.n, .string ⟨c.req.hi.toArray⟩, .int .i64 c.req.lim, .bool c.op, .int .i64 c.tr]
abbrev msA (m : Ms) : Array Value := #[.int .i64 m.kind, .int .i64 m.frm, .int .i64 m.to, .int .i64 m.shard, .int .i64 m.epoch, .int .i64 m.move, .int .i64 m.lease, .int .i64 m.num, .int .i64 m.of, .int .i64 m.a, .int .i64 m.t, .int .i64 m.n, .string ⟨m.text.toArray⟩, .int .i64 m.req.cl, .int .i64 m.req.rq, .int .i64 m.req.kd, .string ⟨m.req.ky.toArray⟩, .string ⟨m.req.vl.toArray⟩, .bool m.req.had, .string ⟨m.req.old.toArray⟩, .int .i64 m.req.a, .int .i64 m.req.t, .int .i64 m.req.n, .string ⟨m.req.hi.toArray⟩, .int .i64 m.req.lim, .int .i64 m.ans.er, .int .i64 m.ans.a, .int .i64 m.ans.t, .int .i64 m.ans.n, .bool m.ans.fd, .string ⟨m.ans.vl.toArray⟩, .slice m.ans.itA m.ans.itn m.ans.itc, .string ⟨m.ans.nx.toArray⟩, .bool m.ans.mo, .slice m.pA m.pn m.pc, .slice m.mA m.mn m.mc]
abbrev zcA : Array Value := #[.int .i64 0, .int .i64 0, .slice none 0 0, .slice none 0 0, .int .i64 0, .int .i64 0, .int .i64 0, .string ⟨#[]⟩, .string ⟨#[]⟩, .bool false, .string ⟨#[]⟩, .int .i64 0, .int .i64 0, .int .i64 0, .string ⟨#[]⟩, .int .i64 0, .bool false, .int .i64 0]
abbrev ztA : Array Value := #[.bool false, .int .i64 0, .int .i64 0, .int .i64 0, .string ⟨#[]⟩, .string ⟨#[]⟩, .bool false, .string ⟨#[]⟩, .int .i64 0, .int .i64 0, .int .i64 0, .string ⟨#[]⟩, .int .i64 0, .bool false, .int .i64 0, .int .i64 0, .int .i64 0, .int .i64 0, .bool false, .string ⟨#[]⟩, .slice none 0 0, .string ⟨#[]⟩, .bool false, .int .i64 0]
abbrev cliV (c : Cli) : Value := .agg (cliA c)
abbrev msV (m : Ms) : Value := .agg (msA m)
abbrev rqV (r : Rq) : Value := .agg (rqA r)
theorem Blk.cli {w : World} {g : Nat} {t : TypeId} {c : Cli} (h : Blk w g t (cliA c)) : g < w.heap.size ∧ w.cell? ⟨g, 0, none⟩ = some (.int .i64 c.id) ∧ w.cell? ⟨g, 1, none⟩ = some (.int .i64 c.nx) ∧ w.cell? ⟨g, 2, none⟩ = some (.slice c.pA c.pn c.pc) ∧ w.cell? ⟨g, 3, none⟩ = some (.slice c.lA c.ln c.lc) ∧ w.cell? ⟨g, 4, none⟩ = some (.int .i64 c.req.cl) ∧ w.cell? ⟨g, 5, none⟩ = some (.int .i64 c.req.rq) ∧ w.cell? ⟨g, 6, none⟩ = some (.int .i64 c.req.kd) ∧ w.cell? ⟨g, 7, none⟩ = some (.string ⟨c.req.ky.toArray⟩) ∧ w.cell? ⟨g, 8, none⟩ = some (.string ⟨c.req.vl.toArray⟩) ∧ w.cell? ⟨g, 9, none⟩ = some (.bool c.req.had) ∧ w.cell? ⟨g, 10, none⟩ = some (.string ⟨c.req.old.toArray⟩) ∧ w.cell? ⟨g, 11, none⟩ = some (.int .i64 c.req.a) ∧ w.cell? ⟨g, 12, none⟩ = some (.int .i64 c.req.t) ∧ w.cell? ⟨g, 13, none⟩ = some (.int .i64 c.req.n) ∧ w.cell? ⟨g, 14, none⟩ = some (.string ⟨c.req.hi.toArray⟩) ∧ w.cell? ⟨g, 15, none⟩ = some (.int .i64 c.req.lim) ∧ w.cell? ⟨g, 16, none⟩ = some (.bool c.op) ∧ w.cell? ⟨g, 17, none⟩ = some (.int .i64 c.tr) :=
  ⟨h.lt, h.cell 0, h.cell 1, h.cell 2, h.cell 3, h.cell 4, h.cell 5, h.cell 6, h.cell 7, h.cell 8, h.cell 9, h.cell 10, h.cell 11, h.cell 12, h.cell 13, h.cell 14, h.cell 15, h.cell 16, h.cell 17⟩
end Go.Proofs.YtkoligiilieboaaGreatDoor
namespace Go.Proofs.YtkoligiilieboaaGreatDoor
open Go.RowKit
section
variable {P : Program}
theorem wpList_pushR {ops : Array Oper} {rest : List Oper} {o : Oper} {a : Act} {Q : Exit → Act → World → Prop} (hgd : o.guard = none) (s x : Operand) (t : TypeId)
    (ho : o.op = .call { callee := .builtin .append, args := #[s, x], argTypes := #[t, t] })
    (base : Nat) (e : TypeId) (i : TypeInfo) (z : Value) (size bytes : Nat) (ht : P.underlying t = some (.slice e)) (hi : P.info? e = some i) (hz : i.zero = some z)
    (hsize : i.size = size) (hby : i.bytes = bytes) (hzs : z.cells.size = size) (h0 : 0 < size)
    (W : World) (v : Value) (n : Nat) (xs : List Value) (hs : a.eval s = v) (hown : W.ownsRow base e size v n xs)
    (us : List Value) (hlu : us.length = size) (hu : ∀ u ∈ us, u.oneCell' = true) (c : Nat) (hx : a.eval x = .slice (some ⟨W.heap.size, 0, none⟩) 1 c)
    (h63 : n + 1 ≤ 9223372036854775807) (hbytes : (n + 1) * bytes ≤ 140737488355328) (hbase : base ≤ W.heap.size)
    (h : ∀ g cap w', w'.ownsRow base e size (.slice (some ⟨g, 0, none⟩) (n + 1) cap) (n + 1) (xs ++ us) → Below base W w' → wpList P ops Q rest (a.put o.dst (.slice (some ⟨g, 0, none⟩) (n + 1) cap)) w') :
    wpList P ops Q (o :: rest) a (W.alloc (.cells us.toArray e)) := by
  refine wpList_append_lies (P := P) (W.alloc (.cells us.toArray e)) hgd s x t ho base e i z size bytes ht hi hz hsize hby hzs h0 v n xs hs (hown.alloc _) ⟨W.heap.size, 0, none⟩ 1 c us hx (by omega) ?_ hu (by omega) (by unfold maxLen; omega) hbytes (by simp; omega) _ rfl ?_
  · intro j y hj
    have : (⟨W.heap.size, 0, none⟩ : Addr).add j = ⟨W.heap.size, j, none⟩ := by unfold Addr.add; split <;> simp_all
    rw [this, cell_of_row _ _ _ _ _ _ (heap_alloc_new W _)]
    simpa using hj
  · intro g cap w' hown' hg _ _
    refine h g cap w' hown' ?_
    refine ((Below.refl _ W).alloc hbase _).trans (below_of_grown hg (by simp; omega) ?_)
    intro k hk
    exact (hown.lt k hk).1
end
def spF (l : List Sp) : List Value := l.flatMap spC
theorem spF_snoc (l : List Sp) (x : Sp) : spF (l ++ [x]) = spF l ++ spC x := by simp [spF]
theorem spF_at (l : List Sp) (k : Nat) (h : k < l.length) (j : Nat) (u : Value) (hu : (spC l[k])[j]? = some u) : (spF l)[k * 2 + j]? = some u := by
  induction l generalizing k with
  | nil => cases h
  | cons a r ih =>
    have hl : (spC a).length = 2 := rfl
    have hj : j < 2 := by
      have := (List.getElem?_eq_some_iff.1 hu).1
      have : (spC ((a :: r)[k])).length = 2 := rfl
      omega
    cases k with
    | zero =>
      rw [show spF (a :: r) = spC a ++ spF r from rfl, List.getElem?_append_left (by omega)]
      simpa using hu
    | succ k =>
      rw [show spF (a :: r) = spC a ++ spF r from rfl, List.getElem?_append_right (by omega), show (k + 1) * 2 + j - (spC a).length = k * 2 + j by omega]
      exact ih k (by simpa using h) (by simpa using hu)
theorem own_spans {w : World} {base : Nat} {e : TypeId} {A : Option Addr} {n c : Nat} {l : List Sp} (h : w.ownsRow base e 2 (.slice A n c) n (spF l)) (hn : l.length = n) : RdR spC 2 w w.heap.size A l := by
  intro h0
  have hr := Rd.of_own h
  obtain ⟨b, off, hA, hb, hc⟩ := hr.2 (by omega)
  exact ⟨b, off, hA, hb, fun k hk j u hu => hc (k * 2 + j) u (spF_at l k hk j u hu)⟩
theorem RdR.take {α : Type} {cs : α → List Value} {s : Nat} {w : World} {B : Nat} {A : Option Addr} {xs : List α} (h : RdR cs s w B A xs) (k : Nat) : RdR cs s w B A (xs.take k) := fun h0 => by
  obtain ⟨b, off, hA, hb, hc⟩ := h (by simp at h0; omega)
  exact ⟨b, off, hA, hb, fun i hi j u hu => hc i (by simp at hi; omega) j u (by simpa using hu)⟩
end Go.Proofs.YtkoligiilieboaaGreatDoor
namespace Go.Proofs.YtkoligiilieboaaGreatDoor
open Go.RowKit
section
variable {P : Program}
theorem wpList_pushM {ops : Array Oper} {rest : List Oper} {o : Oper} {a : Act} {Q : Exit → Act → World → Prop} (hgd : o.guard = none) (s x : Operand) (t : TypeId)
    (ho : o.op = .call { callee := .builtin .append, args := #[s, x], argTypes := #[t, t] })
    (base : Nat) (e : TypeId) (i : TypeInfo) (z : Value) (bytes : Nat) (ht : P.underlying t = some (.slice e)) (hi : P.info? e = some i) (hz : i.zero = some z)
    (hsize : i.size = 1) (hby : i.bytes = bytes) (hzs : z.cells.size = 1)
    (W : World) (v : Value) (n : Nat) (xs : List Value) (hs : a.eval s = v) (hown : W.ownsRow base e 1 v n xs)
    (us : List Value) (m : Nat) (hlu : us.length = m) (h0 : 0 < m) (hu : ∀ u ∈ us, u.oneCell' = true) (c : Nat) (hx : a.eval x = .slice (some ⟨W.heap.size, 0, none⟩) m c)
    (h63 : n + m ≤ 9223372036854775807) (hbytes : (n + m) * bytes ≤ 140737488355328) (hbase : base ≤ W.heap.size)
    (h : ∀ g cap w', w'.ownsRow base e 1 (.slice (some ⟨g, 0, none⟩) (n + m) cap) (n + m) (xs ++ us) → Below base W w' → wpList P ops Q rest (a.put o.dst (.slice (some ⟨g, 0, none⟩) (n + m) cap)) w') :
    wpList P ops Q (o :: rest) a (W.alloc (.cells us.toArray e)) := by
  refine wpList_append_lies (P := P) (W.alloc (.cells us.toArray e)) hgd s x t ho base e i z 1 bytes ht hi hz hsize hby hzs (by omega) v n xs hs (hown.alloc _) ⟨W.heap.size, 0, none⟩ m c us hx (by omega) ?_ hu h0 (by unfold maxLen; omega) hbytes (by simp; omega) _ rfl ?_
  · intro j y hj
    have : (⟨W.heap.size, 0, none⟩ : Addr).add j = ⟨W.heap.size, j, none⟩ := by unfold Addr.add; split <;> simp_all
    rw [this, cell_of_row _ _ _ _ _ _ (heap_alloc_new W _)]
    simpa using hj
  · intro g cap w' hown' hg _ _
    refine h g cap w' hown' ?_
    refine ((Below.refl _ W).alloc hbase _).trans (below_of_grown hg (by simp; omega) ?_)
    intro k hk
    exact (hown.lt k hk).1
/-- nothing is appended -/
theorem wpl_app0 {ops : Array Oper} {rest : List Oper} {o : Oper} {a : Act} {w : World} {Q : Exit → Act → World → Prop} (hgd : o.guard = none) (s x : Operand) (t : TypeId)
    (ho : o.op = .call { callee := .builtin .append, args := #[s, x], argTypes := #[t, t] })
    (e : TypeId) (i : TypeInfo) (ht : P.underlying t = some (.slice e)) (hi : P.info? e = some i)
    (A : Option Addr) (n c : Nat) (hle : n ≤ c) (B : Option Addr) (c' : Nat) (hs : a.eval s = .slice A n c) (hx : a.eval x = .slice B 0 c')
    (h : wpList P ops Q rest (a.put o.dst (.slice A n c)) w) : wpList P ops Q (o :: rest) a w :=
  wpList_plain hgd fun _ hK => by
    have hsrc : Src P i.size t (.slice B 0 c') 0 [] w := by
      cases B with
      | none => exact Src.ofNil w ht c'
      | some ad => exact Src.ofSlice w ht ad 0 c' [] (by simp) (by simp) (by simp)
    have hr := run_append_nothing (P := P) w t t o.type e i ht hi A n c hle (.slice B 0 c') hsrc
    unfold Oper.wp execOp
    simp only [ho, resolve, invoke, builtin, Sem.run_bind, Sem.run_pure, Result.andThen_ok, List.map_toArray, List.map_cons, List.map_nil, hs, hx, hr]
    exact hK _ _ h
end
def ivF (l : List Int) : List Value := l.map (Value.int .i64)
theorem ivF_one (l : List Int) : ∀ u ∈ ivF l, u.oneCell' = true := by
  intro u hu
  obtain ⟨x, _, rfl⟩ := List.mem_map.1 hu
  rfl
theorem own_i64s {w : World} {base : Nat} {e : TypeId} {A : Option Addr} {n c : Nat} {l : List Int} (h : w.ownsRow base e 1 (.slice A n c) n (ivF l)) : RdR ldC 1 w w.heap.size A l ∧ l.length = n ∧ n ≤ c := by
  have hn : l.length = n := by have := h.1; simpa [ivF] using this
  refine ⟨fun h0 => ?_, hn, ?_⟩
  · have hr := Rd.of_own h
    obtain ⟨b, off, hA, hb, hc⟩ := hr.2 (by omega)
    refine ⟨b, off, hA, hb, fun k hk j u hu => hc (k * 1 + j) u ?_⟩
    have hj : j = 0 := by
      have h1 := (List.getElem?_eq_some_iff.1 hu).1
      have h2 : (ldC l[k]).length = 1 := rfl
      omega
    subst hj
    simp only [ldC, List.getElem?_cons_zero, Option.some.injEq] at hu
    subst hu
    simp [ivF, hk]
  · rcases h.2 with ⟨hv, h0⟩ | ⟨g, cap, cur, hv, _, _, h1, _⟩
    · injection hv with _ _ h3; omega
    · injection hv with _ _ h3; omega
end Go.Proofs.YtkoligiilieboaaGreatDoor
