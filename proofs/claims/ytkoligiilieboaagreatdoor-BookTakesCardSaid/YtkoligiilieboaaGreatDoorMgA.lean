/- The plain law of UTF-8: the letter at the beginning of bytes, as the model decodes it and as the document tells it. No program in sight. The plain law of keys: letters, the order, which texts are keys. No program in sight. The plain law of keys, on: a letter's bytes are told by its code point; letters tell the key; the order of keys is that of their bytes. No program in sight. The plain law of spans. No program in sight. The plain law of numbers as bytes: written, taken, short, apart. No program in sight. Formats: what is written can be read, and nothing else reads so. No program in sight. Small lemmas that all walks use: bits on int, what a world keeps, results. Laws on a slice that the call itself fills: one element pushed, the bytes as a string. Slices that come in: what a walk knows of them; a string joined to a row of bytes that the call owns. A block whose cells are all known: what a walk wants of it, and how it stays. Slices of structs as arguments: opened element by element; how they are read in a round. Slices of spans, opened. Whole rows read and written by one law each. A stretch of a block that is known whole, written by one operation. Steps of a region that draws its order: whole blocks loaded and stored. Steps of a plain region, one by one; one link of a chain of '&&' without a parting of the ways. Places and leads, as rows. The structs of clients and of messages, as the walks see them: rows of cells. append of one struct; rows of spans that the call owns. append of several ints; append of nothing; rows of ints that the call owns. -/
import GoSem.Core.Utf8
import Derived.Lib.RuneBytes
import Derived.WalkKit
import Derived.WalkLawsBesides
import Derived.WalkSpells
import Derived.Lib.Hide
import Derived.Laws.BitsAllLaws
import Derived.Laws.BitsLemmas
import Derived.Below
import Derived.IntWalk
import Derived.Laws.BytesArg
import Derived.OpenShut
import Derived.Deep.AppendLies
import Derived.Laws.AppendOwn
import Derived.OwnWalk
import Derived.Lib.AppendStr
import Derived.Laws.Rows
import Derived.Deep.Draws
import Derived.ProofKit
import Derived.SizedLaws
import Derived.Lib.SmallJoins
import Derived.Deep.Slices
import Derived.Deep.Strs
import Derived.Laws.Tables
import Derived.Deep.WholeRow
import Derived.Deep.MidRow
import Derived.Deep.RegionHeld3
import Derived.Deep.Upon
set_option linter.unusedSimpArgs false
set_option linter.unusedVariables false
namespace Go.Proofs.YtkoligiilieboaaGreatDoor
def ub (l : List UInt8) (k : Nat) : Nat := (l[k]?.getD 0).toNat
def contL (l : List UInt8) (k : Nat) : Bool := decide (k < l.length) && ub l k / 64 == 2
def okC (c : Nat) : Prop := (c < 55296 ∨ 57344 ≤ c) ∧ c ≤ 1114111
instance (c : Nat) : Decidable (okC c) := by unfold okC; infer_instance
def decG (b0 b1 b2 b3 : Nat) (c1 c2 c3 : Bool) : Nat × Nat :=
  if b0 < 128 then (b0, 1)
  else if b0 / 32 = 6 ∧ c1 = true then if 128 ≤ (b0 % 32) * 64 + b1 % 64 then ((b0 % 32) * 64 + b1 % 64, 2) else (65533, 1)
  else if b0 / 16 = 14 ∧ c1 = true ∧ c2 = true then
    if 2048 ≤ (b0 % 16) * 4096 + (b1 % 64) * 64 + b2 % 64 ∧ okC ((b0 % 16) * 4096 + (b1 % 64) * 64 + b2 % 64) then ((b0 % 16) * 4096 + (b1 % 64) * 64 + b2 % 64, 3) else (65533, 1)
  else if b0 / 8 = 30 ∧ c1 = true ∧ c2 = true ∧ c3 = true then
    if 65536 ≤ (b0 % 8) * 262144 + (b1 % 64) * 4096 + (b2 % 64) * 64 + b3 % 64 ∧ okC ((b0 % 8) * 262144 + (b1 % 64) * 4096 + (b2 % 64) * 64 + b3 % 64) then
      ((b0 % 8) * 262144 + (b1 % 64) * 4096 + (b2 % 64) * 64 + b3 % 64, 4) else (65533, 1)
  else (65533, 1)
def decL (l : List UInt8) : Nat × Nat := decG (ub l 0) (ub l 1) (ub l 2) (ub l 3) (contL l 1) (contL l 2) (contL l 3)
theorem ub_lt (l : List UInt8) (k : Nat) : ub l k < 256 := UInt8.toNat_lt _
theorem ub_drop (l : List UInt8) (i k : Nat) : ub (l.drop i) k = ub l (i + k) := by unfold ub; rw [List.getElem?_drop]
theorem get_ub (l : List UInt8) (k : Nat) : ((⟨l.toArray⟩ : ByteArray).get! k).toNat = ub l k := by
  unfold ub ByteArray.get!
  simp
  rfl
theorem cont_ub (l : List UInt8) (i k : Nat) (hk : 0 < k) : (decide (i + k < (⟨l.toArray⟩ : ByteArray).size) && ((⟨l.toArray⟩ : ByteArray).get! (i + k)).toNat / 64 == 2) = contL (l.drop i) k := by
  have hz : (⟨l.toArray⟩ : ByteArray).size = l.length := by show l.toArray.size = _; simp
  unfold contL
  rw [get_ub, ub_drop, hz, List.length_drop]
  have : decide (i + k < l.length) = decide (k < l.length - i) := by
    rw [decide_eq_decide]; omega
  rw [this]
theorem valid_ok (c : Nat) : Utf8.valid (c : Int) = decide (okC c) := by
  unfold Utf8.valid
  rw [Bool.eq_iff_iff, decide_eq_true_eq]
  unfold okC
  simp only [Bool.or_eq_true, Bool.and_eq_true, decide_eq_true_eq]
  omega
theorem decode_eq (l : List UInt8) (i : Nat) : Utf8.decode ⟨l.toArray⟩ i = decL (l.drop i) := by
  unfold Utf8.decode decL decG Utf8.runeError
  simp only [cont_ub l i 1 (by omega), cont_ub l i 2 (by omega), cont_ub l i 3 (by omega)]
  simp only [get_ub, ← ub_drop, Bool.and_eq_true, beq_iff_eq, ge_iff_le, valid_ok, decide_eq_true_eq, and_assoc]
theorem decL_pos (l : List UInt8) : 1 ≤ (decL l).2 ∧ (decL l).2 ≤ 4 := by
  unfold decL decG
  repeat' split
  all_goals simp
theorem contL_lt {l : List UInt8} {k : Nat} (h : contL l k = true) : k < l.length ∧ 128 ≤ ub l k ∧ ub l k < 192 := by
  unfold contL at h
  simp at h
  refine ⟨h.1, ?_, ?_⟩ <;> omega
theorem contL_iff (l : List UInt8) (k : Nat) : contL l k = true ↔ k < l.length ∧ 128 ≤ ub l k ∧ ub l k < 192 := by
  refine ⟨contL_lt, fun h => ?_⟩
  unfold contL
  simp
  exact ⟨h.1, by omega⟩
theorem decL_le (l : List UInt8) (h : l ≠ []) : (decL l).2 ≤ l.length := by
  have h0 : 0 < l.length := List.length_pos_iff.2 h
  unfold decL decG
  repeat' split
  all_goals first | (simp; omega) | skip
  all_goals
    rename_i hh _
    simp only
    first
      | (have := (contL_lt hh.2.2.2).1; omega)
      | (have := (contL_lt hh.2.2).1; omega)
      | (have := (contL_lt hh.2).1; omega)
theorem decL_max (l : List UInt8) : (decL l).1 ≤ 1114111 := by
  have h0 := ub_lt l 0
  unfold decL decG
  repeat' split
  all_goals simp only
  all_goals first | omega | skip
  all_goals
    rename_i hh
    have := hh.2.2
    omega
theorem decL_err (l : List UInt8) (h : (decL l).1 = 65533) : (decL l).2 = 1 ∨ (decL l).2 = 3 := by
  have h0 := ub_lt l 0
  revert h
  unfold decL decG
  repeat' split
  all_goals intro h
  all_goals dsimp only at h ⊢
  all_goals omega
def letL (l : List UInt8) : Int × Nat := if decL l = (65533, 1) then (-1, 1) else ((decL l).1, (decL l).2)
def finR (a n least : Nat) : Int × Nat := if a < least ∨ 1114111 < a ∨ (55296 ≤ a ∧ a < 57344) then (-1, 1) else (a, n)
def letR (b0 b1 b2 b3 len : Nat) : Int × Nat :=
  if b0 < 128 then (b0, 1)
  else if 194 ≤ b0 ∧ b0 < 224 then if len < 2 then (-1, 1) else if b1 < 128 ∨ 191 < b1 then (-1, 1) else finR (64 * (b0 - 192) + b1 - 128) 2 128
  else if 224 ≤ b0 ∧ b0 < 240 then if len < 3 then (-1, 1) else if b1 < 128 ∨ 191 < b1 then (-1, 1) else if b2 < 128 ∨ 191 < b2 then (-1, 1) else finR (64 * (64 * (b0 - 224) + b1 - 128) + b2 - 128) 3 2048
  else if 240 ≤ b0 ∧ b0 < 245 then if len < 4 then (-1, 1) else if b1 < 128 ∨ 191 < b1 then (-1, 1) else if b2 < 128 ∨ 191 < b2 then (-1, 1) else if b3 < 128 ∨ 191 < b3 then (-1, 1) else
    finR (64 * (64 * (64 * (b0 - 240) + b1 - 128) + b2 - 128) + b3 - 128) 4 65536
  else (-1, 1)
theorem letL_of (l : List UInt8) (c n : Nat) (h : decL l = (c, n)) (hne : ¬ (c = 65533 ∧ n = 1)) : letL l = ((c : Int), n) := by
  unfold letL
  rw [h, if_neg (by intro e; injection e with e1 e2; exact hne ⟨e1, e2⟩)]
theorem letL_bad (l : List UInt8) (h : decL l = (65533, 1)) : letL l = (-1, 1) := by
  unfold letL; rw [if_pos h]
theorem dec_two (l : List UInt8) (h1 : 194 ≤ ub l 0) (h2 : ub l 0 < 224) (hc : contL l 1 = true) : decL l = ((ub l 0 % 32) * 64 + ub l 1 % 64, 2) := by
  unfold decL decG
  rw [if_neg (by omega), if_pos ⟨by omega, hc⟩, if_pos (by omega)]
theorem dec_bad2 (l : List UInt8) (h1 : 128 ≤ ub l 0) (h2 : ub l 0 < 224) (hc : ub l 0 < 194 ∨ contL l 1 = false) : decL l = (65533, 1) := by
  have hz : ∀ h : ub l 0 / 32 = 6 ∧ contL l 1 = true, ¬ 128 ≤ (ub l 0 % 32) * 64 + ub l 1 % 64 := by
    intro h
    rcases hc with hc | hc
    · omega
    · rw [hc] at h; simp at h
  unfold decL decG
  rw [if_neg (by omega)]
  split
  · rename_i h
    rw [if_neg (hz h)]
  · rw [if_neg (by omega), if_neg (by omega)]
theorem dec_three (l : List UInt8) (h1 : 224 ≤ ub l 0) (h2 : ub l 0 < 240) (hc : contL l 1 = true ∧ contL l 2 = true) :
    decL l = if 2048 ≤ (ub l 0 % 16) * 4096 + (ub l 1 % 64) * 64 + ub l 2 % 64 ∧ okC ((ub l 0 % 16) * 4096 + (ub l 1 % 64) * 64 + ub l 2 % 64) then ((ub l 0 % 16) * 4096 + (ub l 1 % 64) * 64 + ub l 2 % 64, 3) else (65533, 1) := by
  unfold decL decG
  rw [if_neg (by omega), if_neg (by omega), if_pos ⟨by omega, hc⟩]
theorem dec_bad3 (l : List UInt8) (h1 : 224 ≤ ub l 0) (h2 : ub l 0 < 240) (hc : ¬ (contL l 1 = true ∧ contL l 2 = true)) : decL l = (65533, 1) := by
  unfold decL decG
  rw [if_neg (by omega), if_neg (by omega), if_neg (fun h => hc h.2), if_neg (by omega)]
theorem dec_four (l : List UInt8) (h1 : 240 ≤ ub l 0) (h2 : ub l 0 < 248) (hc : contL l 1 = true ∧ contL l 2 = true ∧ contL l 3 = true) :
    decL l = if 65536 ≤ (ub l 0 % 8) * 262144 + (ub l 1 % 64) * 4096 + (ub l 2 % 64) * 64 + ub l 3 % 64 ∧ okC ((ub l 0 % 8) * 262144 + (ub l 1 % 64) * 4096 + (ub l 2 % 64) * 64 + ub l 3 % 64) then
      ((ub l 0 % 8) * 262144 + (ub l 1 % 64) * 4096 + (ub l 2 % 64) * 64 + ub l 3 % 64, 4) else (65533, 1) := by
  unfold decL decG
  rw [if_neg (by omega), if_neg (by omega), if_neg (by omega), if_pos ⟨by omega, hc⟩]
theorem dec_bad4 (l : List UInt8) (h1 : 240 ≤ ub l 0) (hc : ¬ (contL l 1 = true ∧ contL l 2 = true ∧ contL l 3 = true)) : decL l = (65533, 1) := by
  unfold decL decG
  rw [if_neg (by omega), if_neg (by have := ub_lt l 0; omega), if_neg (by omega), if_neg (fun h => hc h.2)]
theorem dec_high (l : List UInt8) (h1 : 245 ≤ ub l 0) : decL l = (65533, 1) := by
  by_cases hc : contL l 1 = true ∧ contL l 2 = true ∧ contL l 3 = true
  · by_cases h8 : ub l 0 < 248
    · rw [dec_four l (by omega) h8 hc, if_neg]
      intro h
      have := h.2.2
      omega
    · unfold decL decG
      have := ub_lt l 0
      rw [if_neg (by omega), if_neg (by omega), if_neg (by omega), if_neg (by omega)]
  · exact dec_bad4 l (by omega) hc
theorem fin_eq (l : List UInt8) (a c n least : Nat) (hac : a = c) (hn : n ≠ 1) (h : decL l = if least ≤ c ∧ okC c then (c, n) else (65533, 1)) : letL l = finR a n least := by
  subst hac
  unfold finR
  by_cases hh : least ≤ a ∧ okC a
  · rw [if_pos hh] at h
    rw [letL_of l a n h (by omega), if_neg]
    have h1 := hh.1
    have h2 := hh.2
    unfold okC at h2
    omega
  · rw [if_neg hh] at h
    rw [letL_bad l h, if_pos]
    unfold okC at hh
    omega
theorem letR_eq (l : List UInt8) : letL l = letR (ub l 0) (ub l 1) (ub l 2) (ub l 3) l.length := by
  unfold letR
  have b1 := contL_iff l 1
  have b2 := contL_iff l 2
  have b3 := contL_iff l 3
  by_cases h0 : ub l 0 < 128
  · rw [if_pos h0]
    exact letL_of l _ 1 (by unfold decL decG; rw [if_pos h0]) (by omega)
  · rw [if_neg h0]
    by_cases h2 : 194 ≤ ub l 0 ∧ ub l 0 < 224
    · rw [if_pos h2]
      by_cases hc : contL l 1 = true
      · have hk := b1.1 hc
        rw [if_neg (by omega), if_neg (by omega)]
        refine fin_eq l _ ((ub l 0 % 32) * 64 + ub l 1 % 64) 2 128 (by omega) (by omega) ?_
        rw [dec_two l h2.1 h2.2 hc, if_pos]
        unfold okC
        omega
      · have hbad := letL_bad l (dec_bad2 l (by omega) h2.2 (.inr (by simpa using hc)))
        have hk : ¬ (1 < l.length ∧ 128 ≤ ub l 1 ∧ ub l 1 < 192) := fun h => hc (b1.2 h)
        rw [hbad]
        by_cases hl : l.length < 2
        · rw [if_pos hl]
        · rw [if_neg hl, if_pos (by omega)]
    · rw [if_neg h2]
      by_cases h3 : 224 ≤ ub l 0 ∧ ub l 0 < 240
      · rw [if_pos h3]
        by_cases hc : contL l 1 = true ∧ contL l 2 = true
        · have hk1 := b1.1 hc.1
          have hk2 := b2.1 hc.2
          rw [if_neg (by omega), if_neg (by omega), if_neg (by omega)]
          exact fin_eq l _ ((ub l 0 % 16) * 4096 + (ub l 1 % 64) * 64 + ub l 2 % 64) 3 2048 (by omega) (by omega) (dec_three l h3.1 h3.2 hc)
        · rw [letL_bad l (dec_bad3 l h3.1 h3.2 hc)]
          rw [b1, b2] at hc
          by_cases hl : l.length < 3
          · rw [if_pos hl]
          · rw [if_neg hl]
            by_cases hd : ub l 1 < 128 ∨ 191 < ub l 1
            · rw [if_pos hd]
            · rw [if_neg hd, if_pos (by omega)]
      · rw [if_neg h3]
        by_cases h4 : 240 ≤ ub l 0 ∧ ub l 0 < 245
        · rw [if_pos h4]
          by_cases hc : contL l 1 = true ∧ contL l 2 = true ∧ contL l 3 = true
          · have hk1 := b1.1 hc.1
            have hk2 := b2.1 hc.2.1
            have hk3 := b3.1 hc.2.2
            rw [if_neg (by omega), if_neg (by omega), if_neg (by omega), if_neg (by omega)]
            exact fin_eq l _ ((ub l 0 % 8) * 262144 + (ub l 1 % 64) * 4096 + (ub l 2 % 64) * 64 + ub l 3 % 64) 4 65536 (by omega) (by omega) (dec_four l h4.1 (by omega) hc)
          · rw [letL_bad l (dec_bad4 l h4.1 hc)]
            rw [b1, b2, b3] at hc
            by_cases hl : l.length < 4
            · rw [if_pos hl]
            · rw [if_neg hl]
              by_cases hd : ub l 1 < 128 ∨ 191 < ub l 1
              · rw [if_pos hd]
              · rw [if_neg hd]
                by_cases he : ub l 2 < 128 ∨ 191 < ub l 2
                · rw [if_pos he]
                · rw [if_neg he, if_pos (by omega)]
        · rw [if_neg h4]
          by_cases h5 : 245 ≤ ub l 0
          · exact letL_bad l (dec_high l h5)
          · exact letL_bad l (dec_bad2 l (by omega) (by omega) (.inl (by omega)))
def plainB (c n : Nat) : Bool := decide (33 ≤ c) && (decide (c < 127) || decide (159 < c)) && (!(c == 65533) || n == 3)
def plainR (c : Int) : Bool := decide (32 < c) && !(c == 127) && (decide (c < 128) || decide (159 < c))
theorem plain_eq (l : List UInt8) : plainB (decL l).1 (decL l).2 = plainR (letL l).1 := by
  unfold letL
  have he := decL_err l
  generalize decL l = d at *
  obtain ⟨c, n⟩ := d
  simp only at *
  unfold plainB plainR
  by_cases h : (c, n) = (65533, 1)
  · rw [if_pos h]
    injection h with h1 h2
    subst h1 h2
    rfl
  · rw [if_neg h]
    rw [Bool.eq_iff_iff]
    simp at h ⊢
    omega
end Go.Proofs.YtkoligiilieboaaGreatDoor
namespace Go.Proofs.YtkoligiilieboaaGreatDoor
def lettersF : Nat → List UInt8 → List Nat
  | 0, _ => []
  | f + 1, l => if l = [] then [] else (decL l).1 :: lettersF f (l.drop (decL l).2)
def lettersL (l : List UInt8) : List Nat := lettersF l.length l
def plainF : Nat → List UInt8 → Bool
  | 0, _ => true
  | f + 1, l => if l = [] then true else plainB (decL l).1 (decL l).2 && plainF f (l.drop (decL l).2)
def plainL (l : List UInt8) : Bool := plainF l.length l
def rightL (l : List UInt8) : Bool := plainL l && (decide (1 ≤ l.length) && decide (l.length ≤ 16))
def cmpN : List Nat → List Nat → Int
  | [], [] => 0
  | [], _ :: _ => -1
  | _ :: _, [] => 1
  | x :: a, y :: b => if x < y then -1 else if y < x then 1 else cmpN a b
def cmpL (a b : List UInt8) : Int := cmpN (lettersL a) (lettersL b)
theorem drop_shorter (l : List UInt8) (h : l ≠ []) : (l.drop (decL l).2).length < l.length := by
  have h1 := (decL_pos l).1
  have h2 : 0 < l.length := List.length_pos_iff.2 h
  rw [List.length_drop]
  omega
theorem lettersF_fuel : ∀ f g (l : List UInt8), l.length ≤ f → l.length ≤ g → lettersF f l = lettersF g l := by
  intro f
  induction f with
  | zero =>
    intro g l hf hg
    have : l = [] := List.eq_nil_of_length_eq_zero (by omega)
    subst this
    cases g <;> simp [lettersF]
  | succ f ih =>
    intro g l hf hg
    by_cases h : l = []
    · subst h
      cases g <;> simp [lettersF]
    · have hs := drop_shorter l h
      cases g with
      | zero => have := List.length_pos_iff.2 h; omega
      | succ g =>
        simp only [lettersF, if_neg h]
        rw [ih g _ (by omega) (by omega)]
theorem plainF_fuel : ∀ f g (l : List UInt8), l.length ≤ f → l.length ≤ g → plainF f l = plainF g l := by
  intro f
  induction f with
  | zero =>
    intro g l hf hg
    have : l = [] := List.eq_nil_of_length_eq_zero (by omega)
    subst this
    cases g <;> simp [plainF]
  | succ f ih =>
    intro g l hf hg
    by_cases h : l = []
    · subst h
      cases g <;> simp [plainF]
    · have hs := drop_shorter l h
      cases g with
      | zero => have := List.length_pos_iff.2 h; omega
      | succ g =>
        simp only [plainF, if_neg h]
        rw [ih g _ (by omega) (by omega)]
theorem letters_nil : lettersL [] = [] := rfl
theorem letters_cons (l : List UInt8) (h : l ≠ []) : lettersL l = (decL l).1 :: lettersL (l.drop (decL l).2) := by
  have hs := drop_shorter l h
  have hl : 0 < l.length := List.length_pos_iff.2 h
  unfold lettersL
  rw [lettersF_fuel l.length (l.length - 1 + 1) l (by omega) (by omega), lettersF, if_neg h, lettersF_fuel (l.length - 1) (l.drop (decL l).2).length _ (by omega) (by omega)]
theorem plain_cons (l : List UInt8) (h : l ≠ []) : plainL l = (plainB (decL l).1 (decL l).2 && plainL (l.drop (decL l).2)) := by
  have hs := drop_shorter l h
  have hl : 0 < l.length := List.length_pos_iff.2 h
  unfold plainL
  rw [plainF_fuel l.length (l.length - 1 + 1) l (by omega) (by omega), plainF, if_neg h, plainF_fuel (l.length - 1) (l.drop (decL l).2).length _ (by omega) (by omega)]
theorem letters_len (l : List UInt8) : (lettersL l).length ≤ l.length := by
  have : ∀ n (l : List UInt8), l.length ≤ n → (lettersL l).length ≤ l.length := by
    intro n
    induction n with
    | zero =>
      intro l hl
      have : l = [] := List.eq_nil_of_length_eq_zero (by omega)
      subst this
      simp [letters_nil]
    | succ n ih =>
      intro l hl
      by_cases h : l = []
      · subst h; simp [letters_nil]
      · have hs := drop_shorter l h
        rw [letters_cons l h, List.length_cons]
        have := ih _ (by omega : (l.drop (decL l).2).length ≤ n)
        omega
  exact this _ l (Nat.le_refl _)
theorem cmpN_swap (a b : List Nat) : cmpN b a = - cmpN a b := by
  induction a generalizing b with
  | nil => cases b <;> simp [cmpN]
  | cons x a ih =>
    cases b with
    | nil => simp [cmpN]
    | cons y b =>
      simp only [cmpN]
      by_cases h1 : x < y
      · rw [if_pos h1, if_neg (by omega), if_pos h1]; rfl
      · by_cases h2 : y < x
        · rw [if_neg h1, if_pos h2, if_pos h2, if_neg h1]
        · rw [if_neg h1, if_neg h2, if_neg h2, if_neg h1, ih]
theorem cmpN_range (a b : List Nat) : cmpN a b = -1 ∨ cmpN a b = 0 ∨ cmpN a b = 1 := by
  induction a generalizing b with
  | nil => cases b <;> simp [cmpN]
  | cons x a ih =>
    cases b with
    | nil => simp [cmpN]
    | cons y b =>
      simp only [cmpN]
      split
      · simp
      · split
        · simp
        · exact ih b
end Go.Proofs.YtkoligiilieboaaGreatDoor
namespace Go.Proofs.YtkoligiilieboaaGreatDoor
theorem cmpL_swap (a b : List UInt8) : cmpL b a = - cmpL a b := cmpN_swap _ _
theorem cmpL_range (a b : List UInt8) : cmpL a b = -1 ∨ cmpL a b = 0 ∨ cmpL a b = 1 := cmpN_range _ _
end Go.Proofs.YtkoligiilieboaaGreatDoor
namespace Go.Proofs.YtkoligiilieboaaGreatDoor
structure Sp where
  lo : List UInt8
  hi : List UInt8
deriving DecidableEq
def zSp : Sp := ⟨[], []⟩
def rightSp (s : Sp) : Bool := (decide (s.lo = []) || rightL s.lo) && (decide (s.hi = []) || (rightL s.hi && decide (cmpL s.lo s.hi < 0)))
def hasSp (s : Sp) (k : List UInt8) : Bool := rightSp s && (rightL k && (decide (cmpL s.lo k ≤ 0) && (decide (s.hi = []) || decide (cmpL k s.hi < 0))))
/- the document's answers -/
theorem right_ne {k : List UInt8} (h : rightL k = true) : k ≠ [] ∧ plainL k = true ∧ k.length ≤ 16 := by
  unfold rightL at h
  simp only [Bool.and_eq_true, decide_eq_true_eq] at h
  exact ⟨fun e => by subst e; simp at h, h.1, h.2.2⟩
theorem rightSp_iff (s : Sp) : rightSp s = true ↔ (s.lo = [] ∨ rightL s.lo = true) ∧ (s.hi = [] ∨ (rightL s.hi = true ∧ cmpL s.lo s.hi < 0)) := by
  simp [rightSp]
theorem lo_len {s : Sp} (h : rightSp s = true) : s.lo.length ≤ 16 := by
  rcases ((rightSp_iff s).1 h).1 with e | e
  · rw [e]; simp
  · exact (right_ne e).2.2
theorem hi_len {s : Sp} (h : rightSp s = true) : s.hi.length ≤ 16 := by
  rcases ((rightSp_iff s).1 h).2 with e | e
  · rw [e]; simp
  · exact (right_ne e.1).2.2
/- the laws -/
end Go.Proofs.YtkoligiilieboaaGreatDoor
namespace Go.Proofs.YtkoligiilieboaaGreatDoor
def putF : Nat → Nat → List UInt8
  | 0, _ => []
  | f + 1, n => if n < 128 then [UInt8.ofNat n] else UInt8.ofNat (n % 128 + 128) :: putF f (n / 128)
def putL (n : Nat) : List UInt8 := putF 9 n
def endOf : List UInt8 → Nat
  | [] => 0
  | b :: l => if b.toNat < 128 then 0 else endOf l + 1
def valL : List UInt8 → Nat
  | [] => 0
  | b :: l => b.toNat % 128 + 128 * valL l
def byteAt (l : List UInt8) (k : Nat) : Nat := (l[k]?.getD 0).toNat
def takeL (l : List UInt8) : Nat × List UInt8 × Nat :=
  if endOf l = l.length then (0, [], 2)
  else if 8 < endOf l then (0, [], 3)
  else if 0 < endOf l ∧ byteAt l (endOf l) = 0 then (0, [], 3)
  else (valL (l.take (endOf l + 1)), l.drop (endOf l + 1), 0)
theorem endOf_le (l : List UInt8) : endOf l ≤ l.length := by
  induction l with
  | nil => simp [endOf]
  | cons b l ih => simp only [endOf]; split <;> simp <;> omega
theorem byteAt_lt (l : List UInt8) (k : Nat) : byteAt l k < 256 := by unfold byteAt; exact UInt8.toNat_lt _
theorem endOf_before (l : List UInt8) : ∀ j, j < endOf l → 128 ≤ byteAt l j := by
  induction l with
  | nil => intro j h; simp [endOf] at h
  | cons b l ih =>
    intro j h
    simp only [endOf] at h
    split at h
    · omega
    · cases j with
      | zero => simp [byteAt]; omega
      | succ j => have := ih j (by omega); simpa [byteAt] using this
theorem endOf_at (l : List UInt8) (h : endOf l < l.length) : byteAt l (endOf l) < 128 := by
  induction l with
  | nil => simp [endOf] at h
  | cons b l ih =>
    simp only [endOf] at h ⊢
    split
    · simpa [byteAt]
    · rw [if_neg (by assumption)] at h
      have := ih (by simpa using h)
      simpa [byteAt] using this
theorem endOf_ge (l : List UInt8) (k : Nat) (hk : k ≤ l.length) (h : ∀ j, j < k → 128 ≤ byteAt l j) : k ≤ endOf l := by
  apply Nat.le_of_not_lt
  intro hlt
  have h1 := endOf_at l (by omega)
  have := h _ hlt
  omega
theorem endOf_eq (l : List UInt8) (k : Nat) (hk : k < l.length) (h : ∀ j, j < k → 128 ≤ byteAt l j) (h2 : byteAt l k < 128) : endOf l = k := by
  have h1 := endOf_ge l k (by omega) h
  apply Nat.le_antisymm _ h1
  apply Nat.le_of_not_lt
  intro hlt
  have := endOf_before l k hlt
  omega
theorem endOf_all (l : List UInt8) (h : ∀ j, j < l.length → 128 ≤ byteAt l j) : endOf l = l.length :=
  Nat.le_antisymm (endOf_le l) (endOf_ge l _ (Nat.le_refl _) h)
theorem valL_append (a b : List UInt8) : valL (a ++ b) = valL a + 128 ^ a.length * valL b := by
  induction a with
  | nil => simp [valL]
  | cons x a ih => simp only [List.cons_append, valL, ih, List.length_cons, Nat.pow_succ, Nat.mul_add]; rw [Nat.mul_comm (128 ^ a.length) 128, Nat.mul_assoc]; omega
theorem valL_lt (l : List UInt8) : valL l < 128 ^ l.length := by
  induction l with
  | nil => simp [valL]
  | cons b l ih => simp only [valL, List.length_cons, Nat.pow_succ]; omega
theorem valL_snoc (l : List UInt8) (k : Nat) (hk : k < l.length) : valL (l.take (k + 1)) = valL (l.take k) + 128 ^ k * (byteAt l k % 128) := by
  rw [List.take_succ_eq_append_getElem hk, valL_append]
  simp [valL, byteAt, hk, Nat.min_eq_left (Nat.le_of_lt hk)]
theorem putF_len (f n : Nat) : (putF f n).length ≤ f := by
  induction f generalizing n with
  | zero => simp [putF]
  | succ f ih => simp only [putF]; split <;> simp; exact ih _
theorem putF_pos (f n : Nat) : 0 < (putF (f + 1) n).length := by
  simp only [putF]; split <;> simp
theorem ofNat_small (n : Nat) (h : n < 256) : (UInt8.ofNat n).toNat = n := by simp; omega
theorem putF_end (f n : Nat) (more : List UInt8) (h : n < 128 ^ (f + 1)) : endOf (putF (f + 1) n ++ more) + 1 = (putF (f + 1) n).length := by
  induction f generalizing n with
  | zero => simp [putF, h, endOf, ofNat_small n (by omega)]
  | succ f ih =>
    rw [putF]
    split
    · simp [endOf, ofNat_small n (by omega)]; assumption
    · simp only [List.cons_append, endOf, List.length_cons]
      rw [ofNat_small _ (by omega), if_neg (by omega), ih (n / 128) (by rw [Nat.pow_succ] at h; omega)]
theorem putF_val (f n : Nat) (h : n < 128 ^ (f + 1)) : valL (putF (f + 1) n) = n := by
  induction f generalizing n with
  | zero => simp [putF, h, valL, ofNat_small n (by omega)]
  | succ f ih =>
    rw [putF]
    split
    · simp only [valL]; rw [ofNat_small n (by omega)]; omega
    · simp only [valL]
      rw [ofNat_small _ (by omega), ih (n / 128) (by rw [Nat.pow_succ] at h; omega)]
      omega
theorem putF_last (f n : Nat) (more : List UInt8) (h : n < 128 ^ (f + 1)) : byteAt (putF (f + 1) n ++ more) (endOf (putF (f + 1) n ++ more)) = 0 → (putF (f + 1) n).length = 1 ∧ n = 0 := by
  induction f generalizing n with
  | zero =>
    rw [putF, if_pos (by omega)]
    simp only [List.cons_append, List.nil_append, endOf]
    rw [ofNat_small n (by omega), if_pos (by omega)]
    simp [byteAt]; omega
  | succ f ih =>
    rw [putF]
    split
    · simp only [List.cons_append, List.nil_append, endOf]
      rw [ofNat_small n (by omega), if_pos (by omega)]
      simp [byteAt]; omega
    · simp only [List.cons_append, endOf]
      rw [ofNat_small _ (by omega), if_neg (by omega)]
      intro h0
      have := ih (n / 128) (by rw [Nat.pow_succ] at h; omega) (by simpa [byteAt] using h0)
      omega
theorem take_put (n : Nat) (more : List UInt8) (h : n < 2 ^ 63) : takeL (putL n ++ more) = (n, more, 0) := by
  have h9 : n < 128 ^ (8 + 1) := by omega
  have he := putF_end 8 n more h9
  have hl : (putF 9 n).length ≤ 9 := putF_len 9 n
  have hz := putF_last 8 n more h9
  have hv := putF_val 8 n h9
  simp only [Nat.reduceAdd] at he hz hv
  unfold takeL putL
  rw [if_neg (by simp; omega), if_neg (by omega), if_neg (by intro hh; have := hz hh.2; omega)]
  rw [he]
  simp [hv]
theorem put_val (l : List UInt8) : ∀ f, l ≠ [] → l.length ≤ f → (∀ j, j + 1 < l.length → 128 ≤ byteAt l j) → byteAt l (l.length - 1) < 128 → (1 < l.length → byteAt l (l.length - 1) ≠ 0) → putF f (valL l) = l := by
  induction l with
  | nil => intro f h; exact absurd rfl h
  | cons b l ih =>
    intro f _ hf hb hlast hz
    cases f with
    | zero => simp at hf
    | succ f =>
      cases l with
      | nil =>
        have : b.toNat < 128 := by simpa [byteAt] using hlast
        simp [putF, valL, Nat.mod_eq_of_lt this, this]
      | cons c l =>
        have h0 : 128 ≤ b.toNat := by have := hb 0 (by simp); simpa [byteAt] using this
        have hz' : byteAt (c :: l) ((c :: l).length - 1) ≠ 0 := by have := hz (by simp); simpa [byteAt] using this
        have hlast' : byteAt (c :: l) ((c :: l).length - 1) < 128 := by simpa [byteAt] using hlast
        have ih' := ih f (by simp) (by simpa using hf) (fun j hj => by have := hb (j + 1) (by simpa using hj); simpa [byteAt] using this) hlast' (fun _ => hz')
        have hpos : 0 < valL (c :: l) := by
          apply Nat.pos_of_ne_zero
          intro h0
          rw [h0] at ih'
          cases f with
          | zero => simp [putF] at ih'
          | succ f =>
            simp [putF] at ih'
            obtain ⟨e, e'⟩ := ih'
            subst e'
            apply hz'
            rw [← e]
            simp [byteAt]
        have hbl := b.toNat_lt
        rw [putF, if_neg (by rw [valL]; omega)]
        have e1 : valL (b :: c :: l) / 128 = valL (c :: l) := by rw [valL]; omega
        have e2 : valL (b :: c :: l) % 128 + 128 = b.toNat := by rw [valL]; omega
        rw [e1, e2, ih']
        simp
theorem byteAt_take (l : List UInt8) (m k : Nat) (h : k < m) : byteAt (l.take m) k = byteAt l k := by
  simp [byteAt, h]
theorem take_ok (l : List UInt8) (n : Nat) (r : List UInt8) (h : takeL l = (n, r, 0)) : n < 2 ^ 63 ∧ l = putL n ++ r ∧ n = valL (l.take (endOf l + 1)) ∧ r = l.drop (endOf l + 1) := by
  unfold takeL at h
  split at h
  · simp at h
  split at h
  · simp at h
  split at h
  · simp at h
  rename_i h1 h2 h3
  simp only [Prod.mk.injEq] at h
  obtain ⟨rfl, rfl, _⟩ := h
  have hle := endOf_le l
  have hlen : (l.take (endOf l + 1)).length = endOf l + 1 := by simp; omega
  refine ⟨?_, ?_, rfl, rfl⟩
  · have := valL_lt (l.take (endOf l + 1))
    rw [hlen] at this
    exact Nat.lt_of_lt_of_le this (Nat.le_trans (Nat.pow_le_pow_right (by omega) (show endOf l + 1 ≤ 9 by omega)) (by omega))
  · unfold putL
    rw [put_val (l.take (endOf l + 1)) 9 (by intro hn; rw [hn] at hlen; simp at hlen) (by omega)]
    · simp
    · intro j hj
      rw [byteAt_take _ _ _ (by omega)]
      exact endOf_before l j (by omega)
    · rw [byteAt_take _ _ _ (by omega), hlen]
      exact endOf_at l (by omega)
    · intro hgt
      rw [byteAt_take _ _ _ (by omega), hlen]
      simp only [Nat.add_sub_cancel]
      intro h0
      exact h3 ⟨by omega, h0⟩
theorem take_err (l : List UInt8) (h : (takeL l).2.2 ≠ 0) : (takeL l).1 = 0 ∧ (takeL l).2.1 = [] ∧ ((takeL l).2.2 = 2 ∨ (takeL l).2.2 = 3) := by
  unfold takeL at h ⊢
  split
  · simp
  split
  · simp
  split
  · simp
  · simp_all
def digF : Nat → Nat → List Nat
  | 0, _ => []
  | f + 1, n => if n < 128 then [n] else n % 128 :: digF f (n / 128)
theorem putF_dig (f n : Nat) : (putF f n).length = (digF f n).length := by
  induction f generalizing n with
  | zero => rfl
  | succ f ih => simp only [putF, digF]; split <;> simp [ih]
theorem putF_at (f n i : Nat) (hf : n < 128 ^ f) (h : i < (digF f n).length) : (putF f n)[i]? = some (UInt8.ofNat (((digF f n)[i]?.getD 0) + if i + 1 < (digF f n).length then 128 else 0)) := by
  induction f generalizing n i with
  | zero => simp [digF] at h
  | succ f ih =>
    simp only [putF, digF] at h ⊢
    by_cases hn : n < 128
    · simp only [if_pos hn] at h ⊢
      simp at h
      subst h
      simp
    · simp only [if_neg hn] at h ⊢
      have hf' : n / 128 < 128 ^ f := by rw [Nat.pow_succ] at hf; omega
      cases i with
      | zero =>
        have hp : 0 < (digF f (n / 128)).length := by
          cases f with
          | zero => simp at hf'; omega
          | succ f => simp only [digF]; split <;> simp
        simp only [List.length_cons, List.getElem?_cons_zero, Option.getD_some]
        rw [if_pos (by omega)]
      | succ i =>
        have := ih (n / 128) i hf' (by simpa using h)
        simpa using this
theorem digF_lt (f n : Nat) : ∀ x ∈ digF f n, x < 128 := by
  induction f generalizing n with
  | zero => simp [digF]
  | succ f ih =>
    intro x hx
    simp only [digF] at hx
    split at hx
    · simp at hx; omega
    · simp at hx
      rcases hx with h | h
      · omega
      · exact ih _ x h
def flagL (on : Bool) : List UInt8 := if on then [1] else [0]
def takeFlagL : List UInt8 → Bool × List UInt8 × Nat
  | [] => (false, [], 2)
  | b :: r => if 1 < b.toNat then (false, [], 3) else (b.toNat == 1, r, 0)
def textL (s : List UInt8) : List UInt8 := putL s.length ++ s
def takeTextL (l : List UInt8) : List UInt8 × List UInt8 × Nat :=
  if (takeL l).2.2 ≠ 0 then ([], [], (takeL l).2.2)
  else if (takeL l).2.1.length < (takeL l).1 then ([], [], 2)
  else ((takeL l).2.1.take (takeL l).1, (takeL l).2.1.drop (takeL l).1, 0)
theorem takeFlag_flag (on : Bool) (more : List UInt8) : takeFlagL (flagL on ++ more) = (on, more, 0) := by
  cases on <;> rfl
theorem takeText_text (s more : List UInt8) (h : s.length < 2 ^ 63) : takeTextL (textL s ++ more) = (s, more, 0) := by
  unfold takeTextL textL
  rw [List.append_assoc, take_put _ _ h]
  simp
theorem putL_len (n : Nat) : (putL n).length ≤ 9 := putF_len 9 n
theorem putL_pos (n : Nat) : 0 < (putL n).length := putF_pos 8 n
end Go.Proofs.YtkoligiilieboaaGreatDoor
namespace Go.Proofs.YtkoligiilieboaaGreatDoor
structure RS where
  bad : Bool
  s : List UInt8
structure Fmt (α : Type) where
  enc : α → List UInt8
  ok : α → Prop
  rd : RS → α × RS
  fwd : ∀ v more, ok v → rd ⟨false, enc v ++ more⟩ = (v, ⟨false, more⟩)
  bwd : ∀ s v r, rd ⟨false, s⟩ = (v, r) → r.bad = false → s = enc v ++ r.s ∧ ok v
  bad : ∀ s, (rd ⟨true, s⟩).2.bad = true
  len : ∀ r, (rd r).2.s.length ≤ r.s.length
variable {α β : Type}
theorem Fmt.inj (f : Fmt α) {v u : α} {a b : List UInt8} (hv : f.ok v) (hu : f.ok u) (h : f.enc v ++ a = f.enc u ++ b) : v = u ∧ a = b := by
  have h1 := f.fwd v a hv
  rw [h, f.fwd u b hu] at h1
  injection h1 with h1 h2
  injection h2 with _ h2
  exact ⟨h1.symm, h2.symm⟩
def Fmt.seq (f : Fmt α) (g : Fmt β) : Fmt (α × β) where
  enc v := f.enc v.1 ++ g.enc v.2
  ok v := f.ok v.1 ∧ g.ok v.2
  rd r := (((f.rd r).1, (g.rd (f.rd r).2).1), (g.rd (f.rd r).2).2)
  fwd v more h := by
    simp only [List.append_assoc]
    rw [f.fwd v.1 _ h.1]
    simp only
    rw [g.fwd v.2 _ h.2]
  bwd s v r h hb := by
    obtain ⟨⟨v1, ⟨b1, s1⟩⟩, h1⟩ : ∃ x, f.rd ⟨false, s⟩ = x := ⟨_, rfl⟩
    rw [h1] at h
    simp only at h
    obtain ⟨⟨v2, ⟨b2, s2⟩⟩, h2⟩ : ∃ x, g.rd ⟨b1, s1⟩ = x := ⟨_, rfl⟩
    rw [h2] at h
    simp only [Prod.mk.injEq] at h
    obtain ⟨rfl, rfl⟩ := h
    simp only at hb
    subst hb
    cases b1 with
    | true =>
      have := g.bad s1
      rw [h2] at this
      cases this
    | false =>
      obtain ⟨e1, o1⟩ := f.bwd s v1 _ h1 rfl
      obtain ⟨e2, o2⟩ := g.bwd s1 v2 _ h2 rfl
      simp only at e1 e2 ⊢
      exact ⟨by rw [e1, e2, List.append_assoc], o1, o2⟩
  bad s := by
    obtain ⟨⟨v1, ⟨b1, s1⟩⟩, h1⟩ : ∃ x, f.rd ⟨true, s⟩ = x := ⟨_, rfl⟩
    have hb := f.bad s
    rw [h1] at hb ⊢
    simp only at hb
    subst hb
    exact g.bad s1
  len r := Nat.le_trans (g.len _) (f.len _)
def Fmt.as (f : Fmt α) (to : α → β) (back : β → α) (h1 : ∀ a, back (to a) = a) (h2 : ∀ b, to (back b) = b) : Fmt β where
  enc b := f.enc (back b)
  ok b := f.ok (back b)
  rd r := (to (f.rd r).1, (f.rd r).2)
  fwd v more h := by rw [f.fwd _ _ h]; simp only [h2]
  bwd s v r h hb := by
    simp only [Prod.mk.injEq] at h
    obtain ⟨rfl, rfl⟩ := h
    rw [h1]
    exact f.bwd s _ _ rfl hb
  bad s := f.bad s
  len r := f.len r
def rdN (f : RS → α × RS) : Nat → RS → List α × RS
  | 0, r => ([], r)
  | k + 1, r => ((rdN f k r).1 ++ [(f (rdN f k r).2).1], (f (rdN f k r).2).2)
theorem rdN_len (f : RS → α × RS) (k : Nat) (r : RS) : (rdN f k r).1.length = k := by
  induction k with
  | zero => rfl
  | succ k ih => simp [rdN, ih]
theorem Fmt.rdN_slen (f : Fmt α) (k : Nat) (r : RS) : (rdN f.rd k r).2.s.length ≤ r.s.length := by
  induction k with
  | zero => exact Nat.le_refl _
  | succ k ih => exact Nat.le_trans (f.len _) ih
def encL (f : Fmt α) (l : List α) : List UInt8 := l.flatMap f.enc
theorem encL_cons (f : Fmt α) (x : α) (l : List α) : encL f (x :: l) = f.enc x ++ encL f l := List.flatMap_cons
theorem Fmt.rdN_fwd (f : Fmt α) (l : List α) (more : List UInt8) (h : ∀ x ∈ l, f.ok x) : rdN f.rd l.length ⟨false, encL f l ++ more⟩ = (l, ⟨false, more⟩) := by
  suffices hs : ∀ k, k ≤ l.length → rdN f.rd k ⟨false, encL f l ++ more⟩ = (l.take k, ⟨false, encL f (l.drop k) ++ more⟩) by
    have := hs l.length (Nat.le_refl _)
    simpa [encL] using this
  intro k
  induction k with
  | zero => intro _; simp [rdN]
  | succ k ih =>
    intro hk
    have hk2 : k < l.length := by omega
    simp only [rdN, ih (by omega)]
    rw [List.drop_eq_getElem_cons hk2]
    have e : encL f (l[k] :: l.drop (k + 1)) ++ more = f.enc l[k] ++ (encL f (l.drop (k + 1)) ++ more) := by rw [encL_cons, List.append_assoc]
    rw [e, f.fwd _ _ (h _ (List.getElem_mem hk2)), List.take_succ_eq_append_getElem hk2]
theorem Fmt.rdN_bad (f : Fmt α) (k : Nat) (s : List UInt8) : (rdN f.rd k ⟨true, s⟩).2.bad = true := by
  induction k with
  | zero => rfl
  | succ k ih =>
    simp only [rdN]
    obtain ⟨⟨v, ⟨b, s'⟩⟩, h⟩ : ∃ x, rdN f.rd k ⟨true, s⟩ = x := ⟨_, rfl⟩
    rw [h] at ih ⊢
    simp only at ih ⊢
    subst ih
    exact f.bad s'
theorem Fmt.rdN_bwd (f : Fmt α) (k : Nat) (s : List UInt8) (l : List α) (r : RS) (h : rdN f.rd k ⟨false, s⟩ = (l, r)) (hb : r.bad = false) : s = encL f l ++ r.s ∧ ∀ x ∈ l, f.ok x := by
  induction k generalizing l r with
  | zero =>
    simp only [rdN, Prod.mk.injEq] at h
    obtain ⟨rfl, rfl⟩ := h
    simp [encL]
  | succ k ih =>
    obtain ⟨⟨l1, ⟨b1, s1⟩⟩, h1⟩ : ∃ x, rdN f.rd k ⟨false, s⟩ = x := ⟨_, rfl⟩
    simp only [rdN, h1, Prod.mk.injEq] at h
    obtain ⟨rfl, rfl⟩ := h
    cases b1 with
    | true => rw [f.bad s1] at hb; cases hb
    | false =>
      obtain ⟨e1, o1⟩ := ih l1 _ h1 rfl
      obtain ⟨e2, o2⟩ := f.bwd s1 _ _ rfl hb
      simp only at e1
      refine ⟨?_, ?_⟩
      · rw [e1]
        conv => lhs; rw [e2]
        simp [encL]
      · intro x hx
        rcases List.mem_append.1 hx with hx | hx
        · exact o1 x hx
        · simp at hx; subst hx; exact o2
def cdN (f : RS → α × RS) : Nat → RS → List α × RS
  | 0, r => ([], r)
  | k + 1, r => if (cdN f k r).2.bad = true then cdN f k r else ((cdN f k r).1 ++ [(f (cdN f k r).2).1], (f (cdN f k r).2).2)
theorem cdN_stay (f : RS → α × RS) (k : Nat) (r : RS) (hb : (cdN f k r).2.bad = true) (n : Nat) (hn : k ≤ n) : cdN f n r = cdN f k r := by
  induction n with
  | zero => obtain rfl : k = 0 := by omega
            rfl
  | succ n ih =>
    rcases Nat.lt_or_ge n k with h | h
    · obtain rfl : k = n + 1 := by omega
      rfl
    · have e := ih h
      have : cdN f (n + 1) r = cdN f n r := by
        conv => lhs; unfold cdN
        rw [if_pos (by rw [e]; exact hb)]
      rw [this, e]
theorem Fmt.cdN_slen (f : Fmt α) (k : Nat) (r : RS) : (cdN f.rd k r).2.s.length ≤ r.s.length := by
  induction k with
  | zero => exact Nat.le_refl _
  | succ k ih =>
    unfold cdN
    split
    · exact ih
    · exact Nat.le_trans (f.len _) ih
theorem Fmt.cdN_eq (f : Fmt α) (k : Nat) (r : RS) (hb : (cdN f.rd k r).2.bad = false) : rdN f.rd k r = cdN f.rd k r := by
  induction k with
  | zero => rfl
  | succ k ih =>
    unfold cdN at hb ⊢
    split at hb
    · simp_all
    · rename_i h
      have := ih (by simpa using h)
      rw [if_neg h]
      simp only [rdN, this]
theorem Fmt.cdN_fwd (f : Fmt α) (l : List α) (more : List UInt8) (h : ∀ x ∈ l, f.ok x) : cdN f.rd l.length ⟨false, encL f l ++ more⟩ = (l, ⟨false, more⟩) := by
  suffices hs : ∀ k, k ≤ l.length → cdN f.rd k ⟨false, encL f l ++ more⟩ = (l.take k, ⟨false, encL f (l.drop k) ++ more⟩) by
    have := hs l.length (Nat.le_refl _)
    simpa [encL] using this
  intro k
  induction k with
  | zero => intro _; simp [cdN]
  | succ k ih =>
    intro hk
    have hk2 : k < l.length := by omega
    simp only [cdN, ih (by omega)]
    rw [List.drop_eq_getElem_cons hk2, if_neg (by simp)]
    have e : encL f (l[k] :: l.drop (k + 1)) ++ more = f.enc l[k] ++ (encL f (l.drop (k + 1)) ++ more) := by rw [encL_cons, List.append_assoc]
    rw [e, f.fwd _ _ (h _ (List.getElem_mem hk2)), List.take_succ_eq_append_getElem hk2]
def rdOne (tk : List UInt8 → α × List UInt8 × Nat) (z : α) (r : RS) : α × RS :=
  if r.bad = true ∨ (tk r.s).2.2 ≠ 0 then (z, ⟨true, r.s⟩) else ((tk r.s).1, ⟨false, (tk r.s).2.1⟩)
def cdOne (tk : List UInt8 → α × List UInt8 × Nat) (r : RS) : α × RS :=
  ((tk r.s).1, ⟨r.bad || decide ((tk r.s).2.2 ≠ 0), (tk r.s).2.1⟩)
def Fmt.one (tk : List UInt8 → α × List UInt8 × Nat) (z : α) (enc : α → List UInt8) (ok : α → Prop) (fw : ∀ v more, ok v → tk (enc v ++ more) = (v, more, 0))
    (bw : ∀ s v r, tk s = (v, r, 0) → s = enc v ++ r ∧ ok v) : Fmt α where
  enc := enc
  ok := ok
  rd := rdOne tk z
  fwd v more h := by unfold rdOne; rw [fw v more h]; simp
  bwd s v r h hb := by
    unfold rdOne at h
    split at h
    · injection h with _ h; subst h; cases hb
    · rename_i hn
      injection h with h1 h2
      subst h1 h2
      have h0 : (tk s).2.2 = 0 := by simpa using hn
      exact bw s _ _ (by rw [← h0])
  bad s := by unfold rdOne; rw [if_pos (Or.inl rfl)]
  len r := by
    unfold rdOne
    split
    · exact Nat.le_refl _
    · rename_i hn
      have h0 : (tk r.s).2.2 = 0 := by simp at hn; exact hn.2
      have := (bw r.s _ _ (show tk r.s = ((tk r.s).1, (tk r.s).2.1, 0) by rw [← h0])).1
      have := congrArg List.length this
      simp at this ⊢
      omega
def Fmt.oneC (tk : List UInt8 → α × List UInt8 × Nat) (enc : α → List UInt8) (ok : α → Prop) (fw : ∀ v more, ok v → tk (enc v ++ more) = (v, more, 0))
    (bw : ∀ s v r, tk s = (v, r, 0) → s = enc v ++ r ∧ ok v) (er : ∀ s, (tk s).2.2 ≠ 0 → (tk s).2.1 = []) : Fmt α where
  enc := enc
  ok := ok
  rd := cdOne tk
  fwd v more h := by unfold cdOne; rw [fw v more h]; simp
  bwd s v r h hb := by
    unfold cdOne at h
    injection h with h1 h2
    subst h1 h2
    have h0 : (tk s).2.2 = 0 := by simpa using hb
    exact bw s _ _ (by rw [← h0])
  bad s := by unfold cdOne; simp
  len r := by
    unfold cdOne
    by_cases h0 : (tk r.s).2.2 = 0
    · have := (bw r.s _ _ (show tk r.s = ((tk r.s).1, (tk r.s).2.1, 0) by rw [← h0])).1
      have := congrArg List.length this
      simp at this ⊢
      omega
    · rw [er _ h0]; simp
end Go.Proofs.YtkoligiilieboaaGreatDoor
namespace Go.Proofs.YtkoligiilieboaaGreatDoor
open Go.RowKit
theorem ofInt_i64 (a : Nat) (ha : a < 9223372036854775808) : (BitVec.ofInt 64 (a : Int)).toNat = a := by
  rw [BitVec.ofInt_natCast, BitVec.toNat_ofNat]; exact Nat.mod_eq_of_lt (by omega)
theorem i64_or_nat (a b : Nat) (ha : a < 9223372036854775808) (hb : b < 9223372036854775808) : bits .or .i64 (a : Int) (b : Int) = ((a ||| b : Nat) : Int) := by
  have hx : a ||| b < 2 ^ 63 := Nat.or_lt_two_pow (by omega) (by omega)
  show IntKind.i64.wrap ((BitVec.ofInt 64 (a : Int) ||| BitVec.ofInt 64 (b : Int)).toNat : Int) = _
  rw [BitVec.toNat_or, ofInt_i64 a ha, ofInt_i64 b hb, IntKind.wrap_i64]
  omega
theorem int_eq {k : IntKind} {a b : Int} (h : a = b) : Value.int k a = .int k b := by rw [h]
theorem bt {w w1 w2 : World} (h1 : Below w.heap.size w w1) (h2 : Below w1.heap.size w1 w2) : Below w.heap.size w w2 := h1.trans (h2.mono h1.size)
theorem b0 (w : World) : Below w.heap.size w w := Below.refl _ _
theorem bal {w W : World} (h : Below w.heap.size w W) (o : Obj) : Below w.heap.size w (W.alloc o) := h.alloc h.size o
theorem bst {w W : World} (h : Below w.heap.size w W) {p : Addr} (hp : w.heap.size ≤ p.block) (u : Value) : Below w.heap.size w (W.setCell p u) := h.setCell hp u
theorem below_drewN {B : Nat} {a w : World} (h : Below B a w) (n : Nat) : Below B a (w.drewN n) := ⟨h.os, h.tape, h.output, h.size, h.block⟩
section
variable {P : Program} (w : World) {t : TypeId} (ht : P.underlying t = some .string)
include ht
theorem run_at (l : List UInt8) (i : Int) (k b : Nat) (hi : i = k) (hk : k < l.length) (hb : (l[k]?.getD 0).toNat = b) : (Instr.index t (.string ⟨l.toArray⟩) (.int .i64 i)).run P w = .ok (.int .u8 (b : Int)) w := by
  subst hi
  have hz : (⟨l.toArray⟩ : ByteArray).size = l.length := by show l.toArray.size = _; simp
  rw [run_index_string w t _ _ _ ht, dif_pos ⟨by omega, by rw [hz]; omega⟩]
  rw [← hb]
  have : (⟨l.toArray⟩ : ByteArray)[(k : Int).toNat]'(by rw [hz]; omega) = l[k] := by
    show l.toArray[(k : Int).toNat]'_ = _
    simp
  rw [this]
  simp [hk]
theorem run_from (l : List UInt8) (i : Int) (k : Nat) (hi : i = k) (hk : k ≤ l.length) : (Instr.slice t (.string ⟨l.toArray⟩) (some (.int .i64 i)) none none).run P w = .ok (.string ⟨(l.drop k).toArray⟩) w := by
  subst hi
  have hz : (⟨l.toArray⟩ : ByteArray).size = l.length := by show l.toArray.size = _; simp
  rw [run_slice_string_from_if w t _ _ _ ht, if_pos ⟨by omega, by rw [hz]; omega⟩, ByteArray.extract_mk, hz, Int.toNat_natCast, List.take_of_length_le (by simp)]
theorem run_to (l : List UInt8) (j : Int) (k : Nat) (hj : j = k) (hk : k ≤ l.length) : (Instr.slice t (.string ⟨l.toArray⟩) none (some (.int .i64 j)) none).run P w = .ok (.string ⟨(l.take k).toArray⟩) w := by
  subst hj
  have hz : (⟨l.toArray⟩ : ByteArray).size = l.length := by show l.toArray.size = _; simp
  rw [run_slice_string_to_if w t _ _ _ ht, if_pos ⟨by omega, by rw [hz]; omega⟩, ByteArray.extract_mk]
  simp
end
section
variable {P : Program} (w : World) {src dst e : TypeId} (hs : P.underlying src = some (.slice e)) (he : P.underlying e = some (.int .u8)) (hd : P.underlying dst = some .string)
include hs he hd
theorem run_conv_new (xs : List Int) (len cap : Nat) (hlen : xs.length = len) :
    (convert src dst (.slice (some ⟨w.heap.size, 0, none⟩) len cap)).run P (w.alloc (.cells (xs.map (Value.int .u8)).toArray e)) =
      .ok (.string (strOfNums xs)) (w.alloc (.cells (xs.map (Value.int .u8)).toArray e)) := by
  refine run_convert_bytes_arg _ src e hs he _ 0 len cap xs hlen (fun i hi => ?_) dst hd
  rw [cell_of_row _ _ _ _ _ _ (heap_alloc_new w _)]
  simp [hlen, hi]
theorem run_conv1 (cap : Nat) (a : Int) :
    (convert src dst (.slice (some ⟨w.heap.size, 0, none⟩) 1 cap)).run P (w.alloc (.cells #[.int .u8 a] e)) =
      .ok (.string ⟨#[UInt8.ofNat a.toNat]⟩) (w.alloc (.cells #[.int .u8 a] e)) := run_conv_new w hs he hd [a] 1 cap rfl
end
end Go.Proofs.YtkoligiilieboaaGreatDoor
namespace Go.Proofs.YtkoligiilieboaaGreatDoor
open Go.RowKit
def bv (b : UInt8) : Value := .int .u8 (b.toNat : Int)
theorem bv_ofNat (n : Nat) (h : n < 256) : bv (UInt8.ofNat n) = .int .u8 (n : Int) := by
  unfold bv
  have : (UInt8.ofNat n).toNat = n := by simp; omega
  rw [this]
def iv (n : Nat) : Value := .int .i64 (n : Int)
section
variable {P : Program}
theorem below_of_grown {W w' : World} {base : Nat} {row : Option Nat} (hg : W.grownBy w' row) (hb : base ≤ W.heap.size) (hr : ∀ k, row = some k → base ≤ k) : Below base W w' :=
  (Below.refl _ _).grown hg hb hr
theorem wpList_push {ops : Array Oper} {rest : List Oper} {o : Oper} {a : Act} {Q : Exit → Act → World → Prop} (hgd : o.guard = none) (s x : Operand) (t : TypeId)
    (ho : o.op = .call { callee := .builtin .append, args := #[s, x], argTypes := #[t, t] })
    (base : Nat) (e : TypeId) (i : TypeInfo) (z : Value) (bytes : Nat) (ht : P.underlying t = some (.slice e)) (hi : P.info? e = some i) (hz : i.zero = some z)
    (hsize : i.size = 1) (hby : i.bytes = bytes) (hzs : z.cells.size = 1)
    (W : World) (v : Value) (n : Nat) (xs : List Value) (hs : a.eval s = v) (hown : W.ownsRow base e 1 v n xs)
    (u : Value) (hu : u.oneCell' = true) (c : Nat) (hx : a.eval x = .slice (some ⟨W.heap.size, 0, none⟩) 1 c)
    (h63 : n + 1 ≤ 9223372036854775807) (hbytes : (n + 1) * bytes ≤ 140737488355328) (hbase : base ≤ W.heap.size)
    (h : ∀ g cap w', w'.ownsRow base e 1 (.slice (some ⟨g, 0, none⟩) (n + 1) cap) (n + 1) (xs ++ [u]) → Below base W w' → wpList P ops Q rest (a.put o.dst (.slice (some ⟨g, 0, none⟩) (n + 1) cap)) w') :
    wpList P ops Q (o :: rest) a (W.alloc (.cells #[u] e)) := by
  refine wpList_append_lies (P := P) (W.alloc (.cells #[u] e)) hgd s x t ho base e i z 1 bytes ht hi hz hsize hby hzs (by omega) v n xs hs (hown.alloc _) ⟨W.heap.size, 0, none⟩ 1 c [u] hx rfl ?_ ?_ (by omega) (by unfold maxLen; omega) hbytes (by simp; omega) _ rfl ?_
  · intro j y hj
    match j, hj with
    | 0, hj =>
      simp at hj; subst hj
      have : (⟨W.heap.size, 0, none⟩ : Addr).add 0 = ⟨W.heap.size, 0, none⟩ := rfl
      rw [this, cell_of_row _ _ _ _ _ _ (heap_alloc_new W _)]
      rfl
  · intro y hy
    simp at hy; subst hy; exact hu
  · intro g cap w' hown' hg _ _
    refine h g cap w' hown' ?_
    refine ((Below.refl _ W).alloc hbase _).trans (below_of_grown hg (by simp; omega) ?_)
    intro k hk
    exact (hown.lt k hk).1
theorem own_lit (W : World) (base : Nat) (e : TypeId) (us : List Value) (n : Nat) (hn : us.length = n) (hm : n ≤ 1000000) (hb : base ≤ W.heap.size) :
    (W.alloc (.cells us.toArray e)).ownsRow base e 1 (.slice (some ⟨W.heap.size, 0, none⟩) n n) n us := by
  refine ⟨by omega, .inr ⟨W.heap.size, n, us.toArray, rfl, hb, heap_alloc_new W _, Nat.le_refl _, by unfold maxLen; omega, by simp [hn], ?_⟩⟩
  simp [← hn]
theorem run_conv_own (w : World) {src dst e : TypeId} (hs : P.underlying src = some (.slice e)) (he : P.underlying e = some (.int .u8)) (hd : P.underlying dst = some .string)
    {base g n cap : Nat} {xs : List UInt8} (hown : w.ownsRow base e 1 (.slice (some ⟨g, 0, none⟩) n cap) n (xs.map bv)) :
    (convert src dst (.slice (some ⟨g, 0, none⟩) n cap)).run P w = .ok (.string ⟨xs.toArray⟩) w := by
  have hlen : xs.length = n := by have := hown.1; simpa using this
  have h := run_convert_bytes_arg w src e hs he g 0 n cap (xs.map fun b => (b.toNat : Int)) (by simpa using hlen) (fun i hi => by
    have hc := hown.cells (g := g) rfl i (bv (xs[i]'(by omega))) (by simp [hlen, hi])
    have ha : (⟨g, 0, none⟩ : Addr).add i = ⟨g, 0 + i, none⟩ := by unfold Addr.add; split <;> simp_all
    rw [ha] at hc
    rw [hc]
    simp [bv, hlen, hi]) dst hd
  rw [h]
  have hx : strOfNums (xs.map fun b => (b.toNat : Int)) = ⟨xs.toArray⟩ := by
    unfold strOfNums
    congr 2
    rw [List.map_map]
    conv => rhs; rw [← List.map_id xs]
    apply List.map_congr_left
    intro b _
    simp
  rw [hx]
end
end Go.Proofs.YtkoligiilieboaaGreatDoor
namespace Go.Proofs.YtkoligiilieboaaGreatDoor
open Go.RowKit
def Rd (w : World) (B s : Nat) (A : Option Addr) (n : Nat) (xs : List Value) : Prop :=
  xs.length = n * s ∧ (0 < n → ∃ b off, A = some ⟨b, off, none⟩ ∧ b < B ∧ ∀ j u, xs[j]? = some u → w.cell? ⟨b, off + j, none⟩ = some u)
theorem Rd.len1 {w : World} {B n : Nat} {A : Option Addr} {xs : List Value} (h : Rd w B 1 A n xs) : xs.length = n := by have := h.1; omega
theorem Rd.keep {w w' : World} {B s n : Nat} {A : Option Addr} {xs : List Value} (h : Rd w B s A n xs) (hk : ∀ b o, b < B → w'.cell? ⟨b, o, none⟩ = w.cell? ⟨b, o, none⟩) : Rd w' B s A n xs :=
  ⟨h.1, fun hn => by
    obtain ⟨b, off, e, hb, hc⟩ := h.2 hn
    exact ⟨b, off, e, hb, fun j u hu => (hk _ _ hb).trans (hc j u hu)⟩⟩
theorem Rd.below {w w' : World} {B B' s n : Nat} {A : Option Addr} {xs : List Value} (h : Rd w B s A n xs) (hb : Below B' w w') (hB : B ≤ B') : Rd w' B s A n xs :=
  h.keep fun b o hlt => hb.cell (p := ⟨b, o, none⟩) (by show b < B'; omega)
theorem Rd.more {w : World} {B B' s n : Nat} {A : Option Addr} {xs : List Value} (h : Rd w B s A n xs) (hB : B ≤ B') : Rd w B' s A n xs :=
  ⟨h.1, fun hn => by
    obtain ⟨b, off, e, hb, hc⟩ := h.2 hn
    exact ⟨b, off, e, by omega, hc⟩⟩
theorem Rd.nil (w : World) (B s : Nat) (A : Option Addr) : Rd w B s A 0 [] := ⟨by simp, fun h => by omega⟩
theorem Rd.of_own {w : World} {base s n c : Nat} {e : TypeId} {A : Option Addr} {xs : List Value} (h : w.ownsRow base e s (.slice A n c) n xs) : Rd w w.heap.size s A n xs := by
  refine ⟨h.1, fun hn => ?_⟩
  obtain ⟨g, cap, hv, _, hlt⟩ := h.form hn
  have hA : A = some ⟨g, 0, none⟩ := by injection hv
  subst hA
  refine ⟨g, 0, rfl, hlt, fun j u hu => ?_⟩
  have hc := h.cells (g := g) rfl j u hu
  have ha : (⟨g, 0, none⟩ : Addr).add j = ⟨g, 0 + j, none⟩ := by unfold Addr.add; split <;> simp_all
  rw [ha] at hc
  exact hc
theorem own_below {W w' : World} {base B s n : Nat} {e : TypeId} {v : Value} {xs : List Value} (h : W.ownsRow base e s v n xs) (hb : Below B W w') (hB : W.heap.size ≤ B) : w'.ownsRow base e s v n xs := by
  refine ⟨h.1, ?_⟩
  rcases h.2 with h0 | ⟨g, cap, cur, hv, hbg, hg, h1, h2, h3, h4⟩
  · exact .inl h0
  · refine .inr ⟨g, cap, cur, hv, hbg, ?_, h1, h2, h3, h4⟩
    have hlt : g < W.heap.size := by
      rcases Nat.lt_or_ge g W.heap.size with h5 | h5
      · exact h5
      · rw [Array.getElem?_eq_none h5] at hg; cases hg
    rw [hb.block g (by omega)]
    exact hg
theorem own_slice {W : World} {base s n : Nat} {e : TypeId} {v : Value} {xs : List Value} (h : W.ownsRow base e s v n xs) : ∃ A cap, v = .slice A n cap := by
  rcases h.2 with ⟨rfl, rfl⟩ | ⟨g, cap, cur, hv, _⟩
  · exact ⟨none, 0, rfl⟩
  · exact ⟨_, cap, hv⟩
theorem Rd.take {w : World} {B n : Nat} {A : Option Addr} {xs : List Value} (h : Rd w B 1 A n xs) (k : Nat) (hk : k ≤ n) : Rd w B 1 A k (xs.take k) := by
  have hl := h.len1
  refine ⟨by simp; omega, fun hn => ?_⟩
  obtain ⟨b, off, e, hb, hc⟩ := h.2 (by omega)
  refine ⟨b, off, e, hb, fun j u hu => hc j u ?_⟩
  rw [List.getElem?_take] at hu
  split at hu
  · exact hu
  · cases hu
theorem strCells_bv (l : List UInt8) : Lib.strCells ⟨l.toArray⟩ = l.map bv := by
  unfold Lib.strCells
  simp
  exact fun _ _ => rfl
theorem size_mk (l : List UInt8) : (⟨l.toArray⟩ : ByteArray).size = l.length := by show l.toArray.size = _; simp
section
variable {P : Program}
theorem wpList_apstr {ops : Array Oper} {rest : List Oper} {o : Oper} {a : Act} {Q : Exit → Act → World → Prop} (hgd : o.guard = none) (sl x : Operand) (t u : TypeId)
    (ho : o.op = .call { callee := .builtin .append, args := #[sl, x], argTypes := #[t, u] })
    (base : Nat) (e : TypeId) (i : TypeInfo) (ht : P.underlying t = some (.slice e)) (hu : P.underlying u = some .string) (hi : P.info? e = some i) (hz : i.zero = some (.int .u8 0))
    (hsize : i.size = 1) (hby : i.bytes = 1)
    (w : World) (v : Value) (xs : List UInt8) (hs : a.eval sl = v) (hown : w.ownsRow base e 1 v xs.length (xs.map bv)) (s : List UInt8) (hx : a.eval x = .string ⟨s.toArray⟩)
    (hbytes : xs.length + s.length ≤ 140737488355328) (hbase : base ≤ w.heap.size)
    (h : ∀ v' w', w'.ownsRow base e 1 v' (xs ++ s).length ((xs ++ s).map bv) → Below base w w' → wpList P ops Q rest (a.put o.dst v') w') : wpList P ops Q (o :: rest) a w := by
  refine Lib.wpList_append_own_string (P := P) w hgd sl x t u ho base e i ht hu hi hz hsize hby v xs.length (xs.map bv) hs hown ⟨s.toArray⟩ hx (by rw [size_mk]; unfold maxLen; omega) (by rw [size_mk]; exact hbytes) hbase ?_
  intro v' w' hown' hg _
  refine h v' w' ?_ ?_
  · rw [strCells_bv, size_mk, ← List.map_append, ← List.length_append] at hown'
    exact hown'
  · exact below_of_grown hg hbase (fun k hk => (hown.lt k hk).1)
theorem run_conv_any (w : World) {src dst e : TypeId} (hs : P.underlying src = some (.slice e)) (he : P.underlying e = some (.int .u8)) (hd : P.underlying dst = some .string)
    {base n : Nat} {v : Value} {xs : List UInt8} (hown : w.ownsRow base e 1 v n (xs.map bv)) :
    (convert src dst v).run P w = .ok (.string ⟨xs.toArray⟩) w := by
  rcases hown.2 with ⟨hv, hn⟩ | ⟨g, cap, cur, hv, _⟩
  · subst hv
    subst hn
    have : xs = [] := by have := hown.1; simpa using this
    subst this
    simp [convert, run_underlying hs, run_underlying he, run_underlying hd]
    simp [Conv.bytesToString]
    rfl
  · subst hv
    exact run_conv_own w hs he hd hown
end
end Go.Proofs.YtkoligiilieboaaGreatDoor
namespace Go.Proofs.YtkoligiilieboaaGreatDoor
open Go.RowKit
def Blk (w : World) (g : Nat) (t : TypeId) (cs : Array Value) : Prop := w.heap[g]? = some (.cells cs t (0, 0))
section
variable {w w' : World} {g : Nat} {t : TypeId} {cs : Array Value}
theorem Blk.lt (h : Blk w g t cs) : g < w.heap.size := by
  rcases Nat.lt_or_ge g w.heap.size with h5 | h5
  · exact h5
  · unfold Blk at h; rw [Array.getElem?_eq_none h5] at h; cases h
theorem Blk.cell (h : Blk w g t cs) (i : Nat) : w.cell? ⟨g, i, none⟩ = cs[i]? := cell_of_row w g i cs t (0, 0) h
theorem Blk.frozen (h : Blk w g t cs) (i : Nat) : w.frozen? ⟨g, i, none⟩ = false := by
  unfold Blk at h
  simp [World.frozen?, h]
theorem Blk.new (w : World) (t : TypeId) (cs : Array Value) : Blk (w.alloc (.cells cs t)) w.heap.size t cs := heap_alloc_new w _
theorem Blk.new' (w : World) (t : TypeId) (cs : Array Value) (n : Nat) (h : n = w.heap.size) : Blk (w.alloc (.cells cs t)) n t cs := by subst h; exact heap_alloc_new w _
theorem Blk.drew (h : Blk w g t cs) : Blk w.drew g t cs := h
theorem Blk.drewN (h : Blk w g t cs) (n : Nat) : Blk (w.drewN n) g t cs := h
theorem Blk.alloc (h : Blk w g t cs) (o : Obj) : Blk (w.alloc o) g t cs := (Below.heap_alloc w o g h.lt).trans h
theorem Blk.set (h : Blk w g t cs) (i : Nat) (u : Value) : Blk (w.setCell ⟨g, i, none⟩ u) g t (cs.setIfInBounds i u) := by
  unfold Blk at h ⊢
  simp [World.setCell, Array.getElem?_modify, h]
theorem Blk.far (h : Blk w g t cs) {p : Addr} (hp : g ≠ p.block) (u : Value) : Blk (w.setCell p u) g t cs := (Below.heap_setCell w p u g hp).trans h
theorem Blk.below {B : Nat} (h : Blk w g t cs) (hb : Below B w w') (hg : g < B) : Blk w' g t cs := (hb.block g hg).trans h
theorem Blk.keep (h : Blk w g t cs) (hb : Below w.heap.size w w') : Blk w' g t cs := h.below hb h.lt
theorem Blk.c1 {c0 : Value} (h : Blk w g t #[c0]) : g < w.heap.size ∧ w.cell? ⟨g, 0, none⟩ = some c0 ∧ w.frozen? ⟨g, 0, none⟩ = false := ⟨h.lt, h.cell 0, h.frozen 0⟩
theorem Blk.c2 {c0 c1 : Value} (h : Blk w g t #[c0, c1]) : g < w.heap.size ∧ w.cell? ⟨g, 0, none⟩ = some c0 ∧ w.cell? ⟨g, 1, none⟩ = some c1 ∧ w.frozen? ⟨g, 0, none⟩ = false ∧ w.frozen? ⟨g, 1, none⟩ = false :=
  ⟨h.lt, h.cell 0, h.cell 1, h.frozen 0, h.frozen 1⟩
theorem Blk.c3 {c0 c1 c2 : Value} (h : Blk w g t #[c0, c1, c2]) : g < w.heap.size ∧ w.cell? ⟨g, 0, none⟩ = some c0 ∧ w.cell? ⟨g, 1, none⟩ = some c1 ∧ w.cell? ⟨g, 2, none⟩ = some c2 ∧
    w.frozen? ⟨g, 0, none⟩ = false ∧ w.frozen? ⟨g, 1, none⟩ = false ∧ w.frozen? ⟨g, 2, none⟩ = false := ⟨h.lt, h.cell 0, h.cell 1, h.cell 2, h.frozen 0, h.frozen 1, h.frozen 2⟩
theorem Blk.c5 {c0 c1 c2 c3 c4 : Value} (h : Blk w g t #[c0, c1, c2, c3, c4]) : g < w.heap.size ∧ w.cell? ⟨g, 0, none⟩ = some c0 ∧ w.cell? ⟨g, 1, none⟩ = some c1 ∧ w.cell? ⟨g, 2, none⟩ = some c2 ∧ w.cell? ⟨g, 3, none⟩ = some c3 ∧ w.cell? ⟨g, 4, none⟩ = some c4 ∧
    w.frozen? ⟨g, 0, none⟩ = false ∧ w.frozen? ⟨g, 1, none⟩ = false ∧ w.frozen? ⟨g, 2, none⟩ = false ∧ w.frozen? ⟨g, 3, none⟩ = false ∧ w.frozen? ⟨g, 4, none⟩ = false :=
  ⟨h.lt, h.cell 0, h.cell 1, h.cell 2, h.cell 3, h.cell 4, h.frozen 0, h.frozen 1, h.frozen 2, h.frozen 3, h.frozen 4⟩
end
end Go.Proofs.YtkoligiilieboaaGreatDoor
namespace Go.Proofs.YtkoligiilieboaaGreatDoor
open Go.ChangeShapes Go.WideShapes Go.ChangeAt Go.RowKit Go.Deep
def RdR {α : Type} (cs : α → List Value) (s : Nat) (w : World) (B : Nat) (A : Option Addr) (xs : List α) : Prop :=
  0 < xs.length → ∃ b off, A = some ⟨b, off, none⟩ ∧ b < B ∧ ∀ k (h : k < xs.length) j u, (cs xs[k])[j]? = some u → w.cell? ⟨b, off + (k * s + j), none⟩ = some u
section
variable {α : Type} {cs : α → List Value} {s : Nat} {w w' : World} {B : Nat} {A : Option Addr} {xs : List α}
theorem RdR.keep (h : RdR cs s w B A xs) (hk : ∀ b o, b < B → w'.cell? ⟨b, o, none⟩ = w.cell? ⟨b, o, none⟩) : RdR cs s w' B A xs := fun hn => by
  obtain ⟨b, off, e, hb, hc⟩ := h hn
  exact ⟨b, off, e, hb, fun k hk2 j u hu => (hk _ _ hb).trans (hc k hk2 j u hu)⟩
theorem RdR.below {B' : Nat} (h : RdR cs s w B A xs) (hb : Below B' w w') (hB : B ≤ B') : RdR cs s w' B A xs := h.keep fun b o hlt => hb.cell (p := ⟨b, o, none⟩) (by show b < B'; omega)
theorem RdR.more {B' : Nat} (h : RdR cs s w B A xs) (hB : B ≤ B') : RdR cs s w B' A xs := fun hn => by
  obtain ⟨b, off, e, hb, hc⟩ := h hn
  exact ⟨b, off, e, by omega, hc⟩
end
section
variable {H : Type} {enc : TypeId × Value → H} {P : Program} {w : World} {held : Bool}
end
end Go.Proofs.YtkoligiilieboaaGreatDoor
namespace Go.Proofs.YtkoligiilieboaaGreatDoor
open Go.ChangeShapes Go.WideShapes Go.ChangeAt Go.RowKit Go.Deep
instance : Inhabited Sp := ⟨zSp⟩
section
variable {H : Type} {enc : TypeId × Value → H} {P : Program} {w : World} {held : Bool}
end
end Go.Proofs.YtkoligiilieboaaGreatDoor
namespace Go.Proofs.YtkoligiilieboaaGreatDoor
open Go.RowKit
section
variable {P : Program} {w : World} {g : Nat} {t : TypeId} {cs : Array Value}
theorem addr_add (g o j : Nat) : (⟨g, o, none⟩ : Addr).add j = ⟨g, o + j, none⟩ := by unfold Addr.add; split <;> simp_all
theorem Blk.st (h : Blk w g t cs) (vs : List Value) (hl : vs.length = cs.size) (h1 : (vs.all (·.oneCell')) = true) : (storeCells ⟨g, 0, none⟩ vs 0).run P w = .ok () (w.setRow g vs.toArray) := by
  have := run_storeCells_from (P := P) g t vs 0 cs w h (by omega) (fun v hv => List.all_eq_true.1 h1 v hv)
  simpa using this
theorem Blk.row (h : Blk w g t cs) (vs : Array Value) : Blk (w.setRow g vs) g t vs := setRow_heap w g cs vs t (0, 0) h
theorem Blk.row_far (h : Blk w g t cs) {g' : Nat} (hg : g ≠ g') (vs : Array Value) : Blk (w.setRow g' vs) g t cs := (setRow_other w g' g vs hg).trans h
theorem below_row {B : Nat} {a : World} (h : Below B a w) (hg : B ≤ g) (vs : Array Value) : Below B a (w.setRow g vs) :=
  h.trans ⟨rfl, rfl, rfl, by simp [World.setRow], fun i hi => setRow_other w g i vs (by omega)⟩
theorem wpl_ld {ops : Array Oper} {rest : List Oper} {op : Oper} {a : Act} {Q : Exit → Act → World → Prop} (H : Blk w g t cs) (hgd : op.guard = none) (ty : TypeId) (x : Operand) (ho : op.op = .load ty x)
    (hx : a.eval x = .pointer (some ⟨g, 0, none⟩)) (d : TypeDesc) (hu : P.underlying ty = some d) (hd : (match d with | .struct _ | .array _ _ => true | _ => false) = true) (hi : (P.info? ty).map (·.size) = some cs.size)
    (h : wpList P ops Q rest (a.put op.dst (.agg cs)) w) : wpList P ops Q (op :: rest) a w :=
  wpList_load_row hgd ty x ho g hx t cs (0, 0) d H hu hd hi h
theorem wpl_st {ops : Array Oper} {rest : List Oper} {op : Oper} {a : Act} {Q : Exit → Act → World → Prop} (H : Blk w g t cs) (hgd : op.guard = none) (ty : TypeId) (x y : Operand) (ho : op.op = .store ty x y)
    (vs : Array Value) (hx : a.eval x = .pointer (some ⟨g, 0, none⟩)) (hy : a.eval y = .agg vs) (hs : vs.size = cs.size) (hi : (P.info? ty).map (·.size) = some vs.size) (h1 : vs.toList.all (·.oneCell') = true)
    (h : ∀ w', w' = w.setRow g vs → wpList P ops Q rest (a.put op.dst undef) w') : wpList P ops Q (op :: rest) a w :=
  wpList_plain hgd fun _ hK => by
    unfold Oper.wp execOp
    have hst : (storeVar ty ⟨g, 0, none⟩ (.agg vs)).run P w = .ok () (w.setRow g vs) := by
      have e := H.st (P := P) vs.toList (by simpa using hs) h1
      cases hq : P.info? ty with
      | none => simp [hq] at hi
      | some i =>
        have hz : i.size = vs.size := by simpa [hq] using hi
        simp [storeVar, Sem.run_bind, sizeOf, typeInfo, hq, hz, Value.cells, e]
    simp only [ho, hx, hy, Instr.storeAt, Instr.sureAddr, Sem.run_bind, Sem.run_pure, Result.andThen_ok, hst]
    exact hK _ _ (h _ rfl)
theorem res_row {fn : Func} {p : Tmp} {ty : TypeId} {tmps : Array Value} (H : Blk w g t cs) (h : fn.results = #[.cell p ty]) (hp : tmps.getD p undef = .pointer (some ⟨g, 0, none⟩)) (d : TypeDesc)
    (hu : P.underlying ty = some d) (hd : (match d with | .struct _ | .array _ _ => true | _ => false) = true) (hi : (P.info? ty).map (·.size) = some cs.size) : (results fn tmps).run P w = .ok (.agg cs) w :=
  results_cell_row h tmps w g t cs (0, 0) d hp H hu hd hi
theorem wpl_ldg {ops : Array Oper} {rest : List Oper} {op : Oper} {a : Act} {Q : Exit → Act → World → Prop} (H : Blk w g t cs) (hgd : Region.wanted op (yielded ops a.tmps) = true) (ty : TypeId) (x : Operand) (ho : op.op = .load ty x)
    (hx : a.eval x = .pointer (some ⟨g, 0, none⟩)) (d : TypeDesc) (hu : P.underlying ty = some d) (hd : (match d with | .struct _ | .array _ _ => true | _ => false) = true) (hi : (P.info? ty).map (·.size) = some cs.size)
    (h : wpList P ops Q rest (a.put op.dst (.agg cs)) w) : wpList P ops Q (op :: rest) a w :=
  wpList_step fun K hK => by rw [if_pos hgd]; exact wp_load_row ty x ho g hx t cs (0, 0) d H hu hd hi (hK _ _ h)
end
end Go.Proofs.YtkoligiilieboaaGreatDoor
namespace Go.Proofs.YtkoligiilieboaaGreatDoor
open Go.RowKit
def putAll (cs : Array Value) (o : Nat) : List Value → Array Value
  | [] => cs
  | v :: r => putAll (cs.setIfInBounds o v) (o + 1) r
section
variable {P : Program} {w : World} {g : Nat} {t : TypeId} {cs : Array Value}
theorem Blk.setCells (vs : List Value) : ∀ (o : Nat) (cs : Array Value) (w : World), Blk w g t cs → Blk (w.setCells g o vs) g t (putAll cs o vs) := by
  induction vs with
  | nil => intro o cs w h; exact h
  | cons v r ih => intro o cs w h; exact ih (o + 1) _ _ (h.set o v)
theorem Blk.setCells_far (vs : List Value) {g' : Nat} (hg : g ≠ g') : ∀ (o : Nat) (w : World), Blk w g t cs → Blk (w.setCells g' o vs) g t cs := by
  induction vs with
  | nil => intro o w h; exact h
  | cons v r ih => intro o w h; exact ih (o + 1) _ (h.far (p := ⟨g', o, none⟩) hg v)
theorem below_setCells {B : Nat} {a : World} (vs : List Value) (hg : B ≤ g) : ∀ (o : Nat) (w : World), Below B a w → Below B a (w.setCells g o vs) := by
  induction vs with
  | nil => intro o w h; exact h
  | cons v r ih => intro o w h; exact ih (o + 1) _ (h.setCell (p := ⟨g, o, none⟩) hg v)
theorem wpl_stm {ops : Array Oper} {rest : List Oper} {op : Oper} {a : Act} {Q : Exit → Act → World → Prop} (H : Blk w g t cs) (hgd : op.guard = none) (ty : TypeId) (x y : Operand) (ho : op.op = .store ty x y)
    (o : Nat) (vs : Array Value) (hx : a.eval x = .pointer (some ⟨g, o, none⟩)) (hy : a.eval y = .agg vs) (hs : o + vs.size ≤ cs.size) (hi : (P.info? ty).map (·.size) = some vs.size) (h1 : vs.all (·.oneCell') = true)
    (h : ∀ w', w' = w.setCells g o vs.toList → wpList P ops Q rest (a.put op.dst undef) w') : wpList P ops Q (op :: rest) a w := by
  refine wpList_store_mid hgd ty x y ho g o vs hx hy (fun j hj => ⟨?_, H.frozen _⟩) hi h1 (h _ rfl)
  rw [H.cell (o + j), Array.getElem?_eq_getElem (by omega)]
  rfl
end
end Go.Proofs.YtkoligiilieboaaGreatDoor
namespace Go.Proofs.YtkoligiilieboaaGreatDoor
open Go.RowKit
section
variable {P : Program} {g : Nat} {t : TypeId} {cs : Array Value}
theorem take_at {md : Region.Mode} {ops : Array Oper} {Q : Exit → Act → World → Prop} {S : World → Prop} {i : Nat} {oi : Oper} {v : Value} {fuel : Nat} {listed : Array Bool} {a : Act} {w : World} (d : Option Tmp) (hi : ops[i]? = some oi) (hd : oi.dst = d)
    (hs : Region.noSelect ops = true) (hf : Region.free md ops listed i = true) (hr : (Region.ready md ops listed).contains i = true)
    (hQ : ∀ c a w, Q (.panic c) (a.put oi.dst v) w → Q (.panic c) a w) (hy : YieldsIf P ops S oi v a) (hS : S w)
    (h : wpAnyH P md ops Q S fuel (listed.setIfInBounds i true) (a.put d v) w) : wpAnyH P md ops Q S (fuel + 1) listed a w := by
  subst hd
  exact wpAnyH_take hi hs hf hr hQ hy hS h
theorem aset {α : Type} : (∀ (l : List α) (i : Nat) (x : α), l.toArray.setIfInBounds i x = (l.set i x).toArray) ∧ (∀ (a x : α) (l : List α), (a :: l).set 0 x = x :: l) ∧ ∀ (a x : α) (l : List α) (n : Nat), (a :: l).set (n + 1) x = a :: l.set n x :=
  ⟨fun _ _ _ => List.setIfInBounds_toArray .., fun _ _ _ => rfl, fun _ _ _ _ => rfl⟩
theorem tk {md : Region.Mode} {ops : Array Oper} {Q : Exit → Act → World → Prop} {S : World → Prop} (i : Nat) {oi : Oper} (v : Value) {fuel : Nat} {listed : Array Bool} {a : Act} {w : World} (d : Tmp) (hi : ops[i]? = some oi) (hd : oi.dst = some d)
    (hk : (Region.noSelect ops && Region.free md ops listed i && (Region.ready md ops listed).contains i) = true) (hQ : ∀ c a w, Q (.panic c) (a.put oi.dst v) w → Q (.panic c) a w)
    (hy : YieldsIf P ops S oi v a) (hS : S w) (h : wpAnyH P md ops Q S fuel (listed.setIfInBounds i true) (a.put (some d) v) w) : wpAnyH P md ops Q S (fuel + 1) listed a w := by
  rw [Bool.and_eq_true, Bool.and_eq_true] at hk
  exact take_at (some d) hi hd hk.1.1 hk.1.2 hk.2 hQ hy hS h
theorem yif_ld {ops : Array Oper} {S : World → Prop} {op : Oper} {a : Act} (hw : Region.wanted op (yielded ops a.tmps) = true) (ty : TypeId) (x : Operand) (ho : op.op = .load ty x)
    (hx : a.eval x = .pointer (some ⟨g, 0, none⟩)) (hS : ∀ w, S w → Blk w g t cs) (d : TypeDesc)
    (hu : P.underlying ty = some d) (hd : (match d with | .struct _ | .array _ _ => true | _ => false) = true) (hi : (P.info? ty).map (·.size) = some cs.size) : YieldsIf P ops S op (.agg cs) a :=
  .inl ⟨hw, fun w hw' => by
    unfold execOp
    simp only [ho, hx, Instr.loadAt, Instr.sureAddr, Sem.run_bind, Sem.run_pure, Result.andThen_ok, run_loadVar_row w g t ty cs (0, 0) d (hS w hw') hu hd hi]⟩
theorem wp_st {op : Oper} {a : Act} {w : World} {K : Act → World → Prop} {Q : Exit → Act → World → Prop} {E : Prop} {b : Bool} (H : Blk w g t cs) (hb : b = true) (ty : TypeId) (x y : Operand) (ho : op.op = .store ty x y)
    (vs : Array Value) (hx : a.eval x = .pointer (some ⟨g, 0, none⟩)) (hy : a.eval y = .agg vs) (hs : vs.size = cs.size) (hi : (P.info? ty).map (·.size) = some vs.size) (h1 : vs.toList.all (·.oneCell') = true)
    (h : ∀ w', w' = w.setRow g vs → K (a.put op.dst undef) w') : if b = true then op.wp P a w K Q else E := by
  rw [if_pos hb]
  have hst : (storeVar ty ⟨g, 0, none⟩ (.agg vs)).run P w = .ok () (w.setRow g vs) := by
    have e := H.st (P := P) vs.toList (by simpa using hs) h1
    cases hq : P.info? ty with
    | none => simp [hq] at hi
    | some i =>
      have hz : i.size = vs.size := by simpa [hq] using hi
      simp [storeVar, Sem.run_bind, sizeOf, typeInfo, hq, hz, Value.cells, e]
  unfold Oper.wp execOp
  simp only [ho, hx, hy, Instr.storeAt, Instr.sureAddr, Sem.run_bind, Sem.run_pure, Result.andThen_ok, hst]
  exact h _ rfl
theorem Blk.range {w : World} (h : Blk w g t cs) (o : Nat) (out : List Value) (ho : (cs.toList.drop o).take out.length = out) : w.rangeAt g o out := fun j v hv => by
  rw [h.cell (o + j)]
  rw [← ho, List.getElem?_take] at hv
  split at hv
  · rw [List.getElem?_drop] at hv
    simpa using hv
  · cases hv
end
end Go.Proofs.YtkoligiilieboaaGreatDoor
namespace Go.Proofs.YtkoligiilieboaaGreatDoor
open Go.RowKit
section
variable {P : Program} {ops : Array Oper} {Q : Exit → Act → World → Prop} {a : Act} {w : World} {rest : List Oper}
theorem wpl_take {o : Oper} {v : Value} (d : Option Tmp) (hd : o.dst = d) (hw : Region.wanted o (yielded ops a.tmps) = true) (hr : (execOp a.eval o).run P w = .ok (.value v) w) (h : wpList P ops Q rest (a.put d v) w) : wpList P ops Q (o :: rest) a w := by
  subst hd
  refine wpList_step fun K hK => ?_
  rw [if_pos hw]
  unfold Oper.wp
  rw [hr]
  exact hK _ _ h
theorem wpl_skip {o : Oper} (d : Option Tmp) (hd : o.dst = d) (hw : Region.wanted o (yielded ops a.tmps) = false) (h : wpList P ops Q rest (a.put d undef) w) : wpList P ops Q (o :: rest) a w := by
  subst hd
  refine wpList_step fun K hK => ?_
  rw [if_neg (by rw [hw]; exact Bool.false_ne_true)]
  exact hK _ _ h
theorem wpl_conj {o1 o2 o3 o4 o5 op : Oper} {d1 d2 d3 d4 d5 dp : Option Tmp} {u1 u2 u3 u4 : Value} (b c : Bool)
    (h1 : o1.dst = d1) (h2 : o2.dst = d2) (h3 : o3.dst = d3) (h4 : o4.dst = d4) (h5 : o5.dst = d5) (h6 : op.dst = dp)
    (g1 : Region.wanted o1 (yielded ops a.tmps) = b) (g2 : ∀ v1, Region.wanted o2 (yielded ops (a.put d1 v1).tmps) = b) (g3 : ∀ v1 v2, Region.wanted o3 (yielded ops ((a.put d1 v1).put d2 v2).tmps) = b)
    (g4 : ∀ v1 v2 v3, Region.wanted o4 (yielded ops (((a.put d1 v1).put d2 v2).put d3 v3).tmps) = b) (g5 : ∀ v1 v2 v3 v4, Region.wanted o5 (yielded ops ((((a.put d1 v1).put d2 v2).put d3 v3).put d4 v4).tmps) = b)
    (g6 : ∀ v1 v2 v3 v4 v5, Region.wanted op (yielded ops (((((a.put d1 v1).put d2 v2).put d3 v3).put d4 v4).put d5 v5).tmps) = true)
    (r1 : (execOp a.eval o1).run P w = .ok (.value u1) w) (r2 : (execOp (a.put d1 u1).eval o2).run P w = .ok (.value u2) w) (r3 : ∀ v2, (execOp ((a.put d1 u1).put d2 v2).eval o3).run P w = .ok (.value u3) w)
    (r4 : (execOp (((a.put d1 u1).put d2 u2).put d3 u3).eval o4).run P w = .ok (.value u4) w) (r5 : (execOp ((((a.put d1 u1).put d2 u2).put d3 u3).put d4 u4).eval o5).run P w = .ok (.value (.bool c)) w)
    (r6 : ∀ v1 v2 v3 v4, b = true → (execOp (((((a.put d1 v1).put d2 v2).put d3 v3).put d4 v4).put d5 (.bool c)).eval op).run P w = .ok (.value (.bool c)) w)
    (r7 : ∀ v1 v2 v3 v4 v5, b = false → (execOp (((((a.put d1 v1).put d2 v2).put d3 v3).put d4 v4).put d5 v5).eval op).run P w = .ok (.value (.bool false)) w)
    (h : ∀ v1 v2 v3 v4 v5, wpList P ops Q rest ((((((a.put d1 v1).put d2 v2).put d3 v3).put d4 v4).put d5 v5).put dp (.bool (b && c))) w) : wpList P ops Q (o1 :: o2 :: o3 :: o4 :: o5 :: op :: rest) a w := by
  cases b
  case false =>
    exact wpl_skip d1 h1 g1 (wpl_skip d2 h2 (g2 _) (wpl_skip d3 h3 (g3 _ _) (wpl_skip d4 h4 (g4 _ _ _) (wpl_skip d5 h5 (g5 _ _ _ _) (wpl_take dp h6 (g6 _ _ _ _ _) (r7 _ _ _ _ _ rfl) (h _ _ _ _ _))))))
  case true =>
    exact wpl_take d1 h1 g1 r1 (wpl_take d2 h2 (g2 _) r2 (wpl_take d3 h3 (g3 _ _) (r3 _) (wpl_take d4 h4 (g4 _ _ _) r4 (wpl_take d5 h5 (g5 _ _ _ _) r5 (wpl_take dp h6 (g6 _ _ _ _ _) (r6 _ _ _ _ rfl) (h _ _ _ _ _))))))
theorem ex_ldm {g : Nat} {t : TypeId} {cs : Array Value} {op : Oper} (H : Blk w g t cs) (ty : TypeId) (x : Operand) (ho : op.op = .load ty x) (o : Nat) (hx : a.eval x = .pointer (some ⟨g, o, none⟩)) (out : List Value) (hr : (cs.toList.drop o).take out.length = out) (d : TypeDesc)
    (hu : P.underlying ty = some d) (hd : d.isRow = true) (hi : (P.info? ty).map (·.size) = some out.length) : (execOp a.eval op).run P w = .ok (.value (.agg out.toArray)) w := by
  unfold execOp
  simp only [ho, hx, Instr.loadAt, Instr.sureAddr, Sem.run_bind, Sem.run_pure, Result.andThen_ok, run_loadVar_mid w g o ty out d (H.range o out hr) hu hd hi]
theorem ex_bin {op : Oper} (b : BinOp) (t u : TypeId) (x y : Operand) (ho : op.op = .binOp b t x y u) (X Y v : Value)
    (hx : a.eval x = X) (hy : a.eval y = Y) (hg : (eqGuard b t x y X Y).run P w = .ok () w) (hr : (Go.binOp b t X Y).run P w = .ok v w) : (execOp a.eval op).run P w = .ok (.value v) w := by
  unfold execOp
  simp only [ho, hx, hy, Sem.run_bind, hg, Result.andThen_ok, hr, Sem.run_pure]
theorem ex_pick {op : Oper} (x y z : Operand) (ho : op.op = .pick x y z) (b : Bool) (v : Value) (hx : a.eval x = .bool b) (hy : b = true → a.eval y = v) (hz : b = false → a.eval z = v) : (execOp a.eval op).run P w = .ok (.value v) w := by
  unfold execOp
  cases b
  · simp only [ho, hx, hz rfl]
    simp [go_sem]
  · simp only [ho, hx, hy rfl]
    simp [go_sem]
end
end Go.Proofs.YtkoligiilieboaaGreatDoor
namespace Go.Proofs.YtkoligiilieboaaGreatDoor
structure Pl where
  lo : List UInt8
  hi : List UInt8
  sh : Int
  ce : Int
  ep : Int
instance : Inhabited Pl := ⟨⟨[], [], 0, 0, 0⟩⟩
def plC (p : Pl) : List Value := [.string ⟨p.lo.toArray⟩, .string ⟨p.hi.toArray⟩, .int .i64 p.sh, .int .i64 p.ce, .int .i64 p.ep]
def ldC (n : Int) : List Value := [.int .i64 n]
theorem plc_cells {w : World} {B : Nat} {A : Option Addr} {ps : List Pl} (hR : RdR plC 5 w B A ps) (k : Nat) (hk : k < ps.length) :
    ∃ b off, A = some ⟨b, off, none⟩ ∧ b < B ∧ w.cell? ⟨b, off + k * 5, none⟩ = some (.string ⟨ps[k].lo.toArray⟩) ∧ w.cell? ⟨b, off + k * 5 + 1, none⟩ = some (.string ⟨ps[k].hi.toArray⟩) ∧
      w.cell? ⟨b, off + k * 5 + 2, none⟩ = some (.int .i64 ps[k].sh) ∧ w.cell? ⟨b, off + k * 5 + 3, none⟩ = some (.int .i64 ps[k].ce) ∧ w.cell? ⟨b, off + k * 5 + 4, none⟩ = some (.int .i64 ps[k].ep) := by
  obtain ⟨b, off, hA, hb, hc⟩ := hR (by omega)
  exact ⟨b, off, hA, hb, hc k hk 0 _ rfl, hc k hk 1 _ rfl, hc k hk 2 _ rfl, hc k hk 3 _ rfl, hc k hk 4 _ rfl⟩
theorem ldc_cells {w : World} {B : Nat} {A : Option Addr} {ls : List Int} (hR : RdR ldC 1 w B A ls) (k : Nat) (hk : k < ls.length) :
    ∃ b off, A = some ⟨b, off, none⟩ ∧ b < B ∧ w.cell? ⟨b, off + k, none⟩ = some (.int .i64 ls[k]) := by
  obtain ⟨b, off, hA, hb, hc⟩ := hR (by omega)
  exact ⟨b, off, hA, hb, by simpa using hc k hk 0 _ rfl⟩
end Go.Proofs.YtkoligiilieboaaGreatDoor
namespace Go.Proofs.YtkoligiilieboaaGreatDoor
structure Rq where
  cl : Int
  rq : Int
  kd : Int
  ky : List UInt8
  vl : List UInt8
  had : Bool
  old : List UInt8
  a : Int
  t : Int
  n : Int
  hi : List UInt8
  lim : Int
structure An where
  er : Int
  a : Int
  t : Int
  n : Int
  fd : Bool
  vl : List UInt8
  itA : Option Addr
  itn : Nat
  itc : Nat
  nx : List UInt8
  mo : Bool
structure Ms where
  kind : Int
  frm : Int
  to : Int
  shard : Int
  epoch : Int
  move : Int
  lease : Int
  num : Int
  of : Int
  a : Int
  t : Int
  n : Int
  text : List UInt8
  req : Rq
  ans : An
  pA : Option Addr
  pn : Nat
  pc : Nat
  mA : Option Addr
  mn : Nat
  mc : Nat
abbrev rqA (r : Rq) : Array Value := #[.int .i64 r.cl, .int .i64 r.rq, .int .i64 r.kd, .string ⟨r.ky.toArray⟩, .string ⟨r.vl.toArray⟩, .bool r.had, .string ⟨r.old.toArray⟩, .int .i64 r.a, .int .i64 r.t, .int .i64 r.n, .string ⟨r.hi.toArray⟩, .int .i64 r.lim]
abbrev anA (r : An) : Array Value := #[.int .i64 r.er, .int .i64 r.a, .int .i64 r.t, .int .i64 r.n, .bool r.fd, .string ⟨r.vl.toArray⟩, .slice r.itA r.itn r.itc, .string ⟨r.nx.toArray⟩, .bool r.mo]
abbrev msA (m : Ms) : Array Value := #[.int .i64 m.kind, .int .i64 m.frm, .int .i64 m.to, .int .i64 m.shard, .int .i64 m.epoch, .int .i64 m.move, .int .i64 m.lease, .int .i64 m.num, .int .i64 m.of, .int .i64 m.a, .int .i64 m.t, .int .i64 m.n, .string ⟨m.text.toArray⟩, .int .i64 m.req.cl, .int .i64 m.req.rq, .int .i64 m.req.kd, .string ⟨m.req.ky.toArray⟩, .string ⟨m.req.vl.toArray⟩, .bool m.req.had, .string ⟨m.req.old.toArray⟩, .int .i64 m.req.a, .int .i64 m.req.t, .int .i64 m.req.n, .string ⟨m.req.hi.toArray⟩, .int .i64 m.req.lim, .int .i64 m.ans.er, .int .i64 m.ans.a, .int .i64 m.ans.t, .int .i64 m.ans.n, .bool m.ans.fd, .string ⟨m.ans.vl.toArray⟩, .slice m.ans.itA m.ans.itn m.ans.itc, .string ⟨m.ans.nx.toArray⟩, .bool m.ans.mo, .slice m.pA m.pn m.pc, .slice m.mA m.mn m.mc]
abbrev msV (m : Ms) : Value := .agg (msA m)
end Go.Proofs.YtkoligiilieboaaGreatDoor
namespace Go.Proofs.YtkoligiilieboaaGreatDoor
open Go.RowKit
section
variable {P : Program}
end
theorem RdR.take {α : Type} {cs : α → List Value} {s : Nat} {w : World} {B : Nat} {A : Option Addr} {xs : List α} (h : RdR cs s w B A xs) (k : Nat) : RdR cs s w B A (xs.take k) := fun h0 => by
  obtain ⟨b, off, hA, hb, hc⟩ := h (by simp at h0; omega)
  exact ⟨b, off, hA, hb, fun i hi j u hu => hc i (by simp at hi; omega) j u (by simpa using hu)⟩
end Go.Proofs.YtkoligiilieboaaGreatDoor
namespace Go.Proofs.YtkoligiilieboaaGreatDoor
open Go.RowKit
section
variable {P : Program}
theorem wpList_pushM {ops : Array Oper} {rest : List Oper} {o : Oper} {a : Act} {Q : Exit → Act → World → Prop} (hgd : o.guard = none) (s x : Operand) (t : TypeId)
    (ho : o.op = .call { callee := .builtin .append, args := #[s, x], argTypes := #[t, t] })
    (base : Nat) (e : TypeId) (i : TypeInfo) (z : Value) (bytes : Nat) (ht : P.underlying t = some (.slice e)) (hi : P.info? e = some i) (hz : i.zero = some z)
    (hsize : i.size = 1) (hby : i.bytes = bytes) (hzs : z.cells.size = 1)
    (W : World) (v : Value) (n : Nat) (xs : List Value) (hs : a.eval s = v) (hown : W.ownsRow base e 1 v n xs)
    (us : List Value) (m : Nat) (hlu : us.length = m) (h0 : 0 < m) (hu : ∀ u ∈ us, u.oneCell' = true) (c : Nat) (hx : a.eval x = .slice (some ⟨W.heap.size, 0, none⟩) m c)
    (h63 : n + m ≤ 9223372036854775807) (hbytes : (n + m) * bytes ≤ 140737488355328) (hbase : base ≤ W.heap.size)
    (h : ∀ g cap w', w'.ownsRow base e 1 (.slice (some ⟨g, 0, none⟩) (n + m) cap) (n + m) (xs ++ us) → Below base W w' → wpList P ops Q rest (a.put o.dst (.slice (some ⟨g, 0, none⟩) (n + m) cap)) w') :
    wpList P ops Q (o :: rest) a (W.alloc (.cells us.toArray e)) := by
  refine wpList_append_lies (P := P) (W.alloc (.cells us.toArray e)) hgd s x t ho base e i z 1 bytes ht hi hz hsize hby hzs (by omega) v n xs hs (hown.alloc _) ⟨W.heap.size, 0, none⟩ m c us hx (by omega) ?_ hu h0 (by unfold maxLen; omega) hbytes (by simp; omega) _ rfl ?_
  · intro j y hj
    have : (⟨W.heap.size, 0, none⟩ : Addr).add j = ⟨W.heap.size, j, none⟩ := by unfold Addr.add; split <;> simp_all
    rw [this, cell_of_row _ _ _ _ _ _ (heap_alloc_new W _)]
    simpa using hj
  · intro g cap w' hown' hg _ _
    refine h g cap w' hown' ?_
    refine ((Below.refl _ W).alloc hbase _).trans (below_of_grown hg (by simp; omega) ?_)
    intro k hk
    exact (hown.lt k hk).1
theorem wpl_app0 {ops : Array Oper} {rest : List Oper} {o : Oper} {a : Act} {w : World} {Q : Exit → Act → World → Prop} (hgd : o.guard = none) (s x : Operand) (t : TypeId)
    (ho : o.op = .call { callee := .builtin .append, args := #[s, x], argTypes := #[t, t] })
    (e : TypeId) (i : TypeInfo) (ht : P.underlying t = some (.slice e)) (hi : P.info? e = some i)
    (A : Option Addr) (n c : Nat) (hle : n ≤ c) (B : Option Addr) (c' : Nat) (hs : a.eval s = .slice A n c) (hx : a.eval x = .slice B 0 c')
    (h : wpList P ops Q rest (a.put o.dst (.slice A n c)) w) : wpList P ops Q (o :: rest) a w :=
  wpList_plain hgd fun _ hK => by
    have hsrc : Src P i.size t (.slice B 0 c') 0 [] w := by
      cases B with
      | none => exact Src.ofNil w ht c'
      | some ad => exact Src.ofSlice w ht ad 0 c' [] (by simp) (by simp) (by simp)
    have hr := run_append_nothing (P := P) w t t o.type e i ht hi A n c hle (.slice B 0 c') hsrc
    unfold Oper.wp execOp
    simp only [ho, resolve, invoke, builtin, Sem.run_bind, Sem.run_pure, Result.andThen_ok, List.map_toArray, List.map_cons, List.map_nil, hs, hx, hr]
    exact hK _ _ h
end
def ivF (l : List Int) : List Value := l.map (Value.int .i64)
theorem ivF_one (l : List Int) : ∀ u ∈ ivF l, u.oneCell' = true := by
  intro u hu
  obtain ⟨x, _, rfl⟩ := List.mem_map.1 hu
  rfl
theorem own_i64s {w : World} {base : Nat} {e : TypeId} {A : Option Addr} {n c : Nat} {l : List Int} (h : w.ownsRow base e 1 (.slice A n c) n (ivF l)) : RdR ldC 1 w w.heap.size A l ∧ l.length = n ∧ n ≤ c := by
  have hn : l.length = n := by have := h.1; simpa [ivF] using this
  refine ⟨fun h0 => ?_, hn, ?_⟩
  · have hr := Rd.of_own h
    obtain ⟨b, off, hA, hb, hc⟩ := hr.2 (by omega)
    refine ⟨b, off, hA, hb, fun k hk j u hu => hc (k * 1 + j) u ?_⟩
    have hj : j = 0 := by
      have h1 := (List.getElem?_eq_some_iff.1 hu).1
      have h2 : (ldC l[k]).length = 1 := rfl
      omega
    subst hj
    simp only [ldC, List.getElem?_cons_zero, Option.some.injEq] at hu
    subst hu
    simp [ivF, hk]
  · rcases h.2 with ⟨hv, h0⟩ | ⟨g, cap, cur, hv, _, _, h1, _⟩
    · injection hv with _ _ h3; omega
    · injection hv with _ _ h3; omega
end Go.Proofs.YtkoligiilieboaaGreatDoor
