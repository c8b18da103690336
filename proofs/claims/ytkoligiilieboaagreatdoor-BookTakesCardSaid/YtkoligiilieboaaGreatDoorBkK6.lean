/- The document's Small: whether a cell is short enough. -/
import Derived.Test.YtkoligiilieboaaGreatDoorBkK5
set_option linter.unusedSimpArgs false
set_option linter.unusedVariables false
namespace Go.Proofs.YtkoligiilieboaaGreatDoor
open Go.RowKit
attribute [local go_sem] ByteArray.mk_append_mk ByteArray.extract_mk
attribute [local go_sem ↓] Go.wp_at_zero Go.wp_at_succ
theorem all_take_succ {α : Type} {l : List α} {p : α → Bool} {k : Nat} (hk : k < l.length) (h : (l.take k).all p = true) (h1 : p l[k] = true) : (l.take (k + 1)).all p = true := by
 rw [List.take_succ_eq_append_getElem hk, List.all_append, h]
 simp [h1]
theorem all_at_false {α : Type} {l : List α} {p : α → Bool} {k : Nat} (hk : k < l.length) (h1 : p l[k] = false) : l.all p = false := List.all_eq_false.2 ⟨l[k], List.getElem_mem hk, by simp [h1]⟩
theorem all_full {α : Type} {l : List α} {p : α → Bool} {k : Nat} (hk : l.length ≤ k) (h : (l.take k).all p = true) : l.all p = true := by rwa [List.take_of_length_le hk] at h
end Go.Proofs.YtkoligiilieboaaGreatDoor
