/- book.PutCell: a cell as bytes. -/
import Derived.Test.YtkoligiilieboaaGreatDoorBkZ
set_option linter.unusedSimpArgs false
set_option linter.unusedVariables false
namespace Go.Proofs.YtkoligiilieboaaGreatDoor
open Go.RowKit
attribute [local go_sem] ByteArray.mk_append_mk ByteArray.extract_mk
attribute [local go_sem ↓] Go.wp_at_zero Go.wp_at_succ
theorem ssBy_len (l : List Sh) (h : ∀ s ∈ l, (shBy s).length ≤ 300000) : (l.flatMap shBy).length ≤ 300000 * l.length := by
 induction l with
 | nil => simp
 | cons e l ih =>
  have h1 := ih fun x hx => h x (List.mem_cons_of_mem _ hx)
  have h2 := h e List.mem_cons_self
  simp only [List.flatMap_cons, List.length_append, List.length_cons]
  omega
end Go.Proofs.YtkoligiilieboaaGreatDoor
