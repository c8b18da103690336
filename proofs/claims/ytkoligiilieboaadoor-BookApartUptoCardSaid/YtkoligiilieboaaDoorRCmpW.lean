/- The walk of the document's Compare of keys. -/
import Derived.Test.YtkoligiilieboaaDoorKRightW
import Derived.Deep.QuietTactic
import Derived.BigQuiet
namespace Go.Proofs.YtkoligiilieboaaDoor
open Go.RowKit
attribute [local go_sem] ByteArray.mk_append_mk ByteArray.extract_mk
theorem cmpN_step (xs ys : List Nat) (k : Nat) (ha : k < xs.length) (hb : k < ys.length) :
    cmpN (xs.drop k) (ys.drop k) = if xs[k] < ys[k] then -1 else if ys[k] < xs[k] then 1 else cmpN (xs.drop (k + 1)) (ys.drop (k + 1)) := by
  rw [List.drop_eq_getElem_cons ha, List.drop_eq_getElem_cons hb]
  rfl
theorem cmpN_end (xs ys : List Nat) (k : Nat) (h : k = xs.length ∨ k = ys.length) (h1 : k ≤ xs.length) (h2 : k ≤ ys.length) :
    cmpN (xs.drop k) (ys.drop k) = if xs.length < ys.length then -1 else if ys.length < xs.length then 1 else 0 := by
  rcases h with h | h
  · subst h
    rw [List.drop_length]
    by_cases h3 : xs.length < ys.length
    · rw [if_pos h3, List.drop_eq_getElem_cons h3]; rfl
    · have : ys.drop xs.length = [] := List.drop_eq_nil_of_le (by omega)
      rw [this, if_neg h3, if_neg (by omega)]; rfl
  · subst h
    rw [List.drop_length]
    by_cases h3 : ys.length < xs.length
    · rw [if_neg (by omega), if_pos h3, List.drop_eq_getElem_cons h3]; rfl
    · have : xs.drop ys.length = [] := List.drop_eq_nil_of_le (by omega)
      rw [this, if_neg (by omega), if_neg h3]; rfl
def CRel (xs ys : List Nat) (w : World) (i : Value) (wr : World) : Prop :=
  ∃ k : Nat, i = .int .i64 k ∧ k ≤ xs.length ∧ k ≤ ys.length ∧ cmpN xs ys = cmpN (xs.drop k) (ys.drop k) ∧ Below w.heap.size w wr
end Go.Proofs.YtkoligiilieboaaDoor
