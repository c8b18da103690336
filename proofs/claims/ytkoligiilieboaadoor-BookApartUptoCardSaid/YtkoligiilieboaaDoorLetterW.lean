/- The walk of the document's Letter, and of its Plain. -/
import Derived.Test.YtkoligiilieboaaDoorProg
import Derived.Test.YtkoligiilieboaaDoorMgA
import Derived.Deep.QuietTactic
import Derived.BigQuiet
import Derived.Outline
namespace Go.Proofs.YtkoligiilieboaaDoor
open Go.RowKit
/-- the code point so far: the first byte's part, and six bits a byte -/
def accN (l : List UInt8) (a0 : Nat) : Nat → Nat
  | 0 => a0
  | k + 1 => if k = 0 then a0 else 64 * accN l a0 k + ub l k - 128
def okAt (b : Nat) : Prop := 128 ≤ b ∧ b ≤ 191
theorem let_ascii (l : List UInt8) (h : ub l 0 < 128) : letL l = ((ub l 0 : Int), 1) := by
  rw [letR_eq]; unfold letR; rw [if_pos h]
theorem let_high (l : List UInt8) (h : 128 ≤ ub l 0) (h' : ub l 0 < 194 ∨ 245 ≤ ub l 0) : letL l = (-1, 1) := by
  rw [letR_eq]; unfold letR
  rw [if_neg (by omega), if_neg (by omega), if_neg (by omega), if_neg (by omega)]
theorem let_short2 (l : List UInt8) (h1 : 194 ≤ ub l 0) (h2 : ub l 0 < 224) (h : l.length < 2) : letL l = (-1, 1) := by
  rw [letR_eq]; unfold letR
  rw [if_neg (by omega), if_pos (by omega), if_pos h]
theorem let_bad2 (l : List UInt8) (h1 : 194 ≤ ub l 0) (h2 : ub l 0 < 224) (h : 2 ≤ l.length) (j : Nat) (hj1 : 1 ≤ j) (hj2 : j < 2) (hb : ub l j < 128 ∨ 191 < ub l j) : letL l = (-1, 1) := by
  rw [letR_eq]; unfold letR
  rw [if_neg (by omega), if_pos (by omega), if_neg (by omega)]
  have hj : j = 1 := by omega
  subst hj
  all_goals
    repeat' split
  all_goals first | rfl | (exfalso; omega)
theorem let_fin2 (l : List UInt8) (h1 : 194 ≤ ub l 0) (h2 : ub l 0 < 224) (h : 2 ≤ l.length) (hall : ∀ j, 1 ≤ j → j < 2 → okAt (ub l j)) : letL l = finR (accN l (ub l 0 - 192) 2) 2 128 := by
  rw [letR_eq]; unfold letR
  have k1 := hall 1 (by omega) (by omega)
  unfold okAt at k1
  rw [if_neg (by omega), if_pos (by omega), if_neg (by omega), if_neg (by omega)]
  simp [accN]
theorem let_short3 (l : List UInt8) (h1 : 224 ≤ ub l 0) (h2 : ub l 0 < 240) (h : l.length < 3) : letL l = (-1, 1) := by
  rw [letR_eq]; unfold letR
  rw [if_neg (by omega), if_neg (by omega), if_pos (by omega), if_pos h]
theorem let_bad3 (l : List UInt8) (h1 : 224 ≤ ub l 0) (h2 : ub l 0 < 240) (h : 3 ≤ l.length) (j : Nat) (hj1 : 1 ≤ j) (hj2 : j < 3) (hb : ub l j < 128 ∨ 191 < ub l j) : letL l = (-1, 1) := by
  rw [letR_eq]; unfold letR
  rw [if_neg (by omega), if_neg (by omega), if_pos (by omega), if_neg (by omega)]
  have hj : j = 1 ∨ j = 2 := by omega
  rcases hj with rfl | rfl
  all_goals
    repeat' split
  all_goals first | rfl | (exfalso; omega)
theorem let_fin3 (l : List UInt8) (h1 : 224 ≤ ub l 0) (h2 : ub l 0 < 240) (h : 3 ≤ l.length) (hall : ∀ j, 1 ≤ j → j < 3 → okAt (ub l j)) : letL l = finR (accN l (ub l 0 - 224) 3) 3 2048 := by
  rw [letR_eq]; unfold letR
  have k1 := hall 1 (by omega) (by omega)
  have k2 := hall 2 (by omega) (by omega)
  unfold okAt at k1 k2
  rw [if_neg (by omega), if_neg (by omega), if_pos (by omega), if_neg (by omega), if_neg (by omega), if_neg (by omega)]
  simp [accN]
theorem let_short4 (l : List UInt8) (h1 : 240 ≤ ub l 0) (h2 : ub l 0 < 245) (h : l.length < 4) : letL l = (-1, 1) := by
  rw [letR_eq]; unfold letR
  rw [if_neg (by omega), if_neg (by omega), if_neg (by omega), if_pos (by omega), if_pos h]
theorem let_bad4 (l : List UInt8) (h1 : 240 ≤ ub l 0) (h2 : ub l 0 < 245) (h : 4 ≤ l.length) (j : Nat) (hj1 : 1 ≤ j) (hj2 : j < 4) (hb : ub l j < 128 ∨ 191 < ub l j) : letL l = (-1, 1) := by
  rw [letR_eq]; unfold letR
  rw [if_neg (by omega), if_neg (by omega), if_neg (by omega), if_pos (by omega), if_neg (by omega)]
  have hj : j = 1 ∨ j = 2 ∨ j = 3 := by omega
  rcases hj with rfl | rfl | rfl
  all_goals
    repeat' split
  all_goals first | rfl | (exfalso; omega)
theorem let_fin4 (l : List UInt8) (h1 : 240 ≤ ub l 0) (h2 : ub l 0 < 245) (h : 4 ≤ l.length) (hall : ∀ j, 1 ≤ j → j < 4 → okAt (ub l j)) : letL l = finR (accN l (ub l 0 - 240) 4) 4 65536 := by
  rw [letR_eq]; unfold letR
  have k1 := hall 1 (by omega) (by omega)
  have k2 := hall 2 (by omega) (by omega)
  have k3 := hall 3 (by omega) (by omega)
  unfold okAt at k1 k2 k3
  rw [if_neg (by omega), if_neg (by omega), if_neg (by omega), if_pos (by omega), if_neg (by omega), if_neg (by omega), if_neg (by omega), if_neg (by omega)]
  simp [accN]
def LetRel (l : List UInt8) (a0 n : Nat) (a i : Value) : Prop :=
  ∃ k c : Nat, a = .int .i64 c ∧ i = .int .i64 k ∧ 1 ≤ k ∧ k ≤ n ∧ c = accN l a0 k ∧ (∀ j, 1 ≤ j → j < k → okAt (ub l j)) ∧ ((k = 1 ∧ c < 32) ∨ (k = 2 ∧ c < 2048) ∨ (k = 3 ∧ c < 131072) ∨ (k = 4 ∧ c < 8388608))
def LetRelW (l : List UInt8) (a0 n : Nat) (w : World) (a i : Value) (wr : World) : Prop := w = wr ∧ LetRel l a0 n a i
theorem ok_snoc (l : List UInt8) (k : Nat) (h : ∀ j, 1 ≤ j → j < k → okAt (ub l j)) (hb : okAt (ub l k)) : ∀ j, 1 ≤ j → j < k + 1 → okAt (ub l j) := by
  intro j j1 j2
  rcases Nat.lt_or_ge j k with h1 | h1
  · exact h j j1 h1
  · have : j = k := by omega
    subst this; exact hb
theorem acc_succ (l : List UInt8) (a0 k : Nat) (h : 1 ≤ k) : accN l a0 (k + 1) = 64 * accN l a0 k + ub l k - 128 := by
  show (if k = 0 then a0 else _) = _
  rw [if_neg (by omega)]
end Go.Proofs.YtkoligiilieboaaDoor
