/- The tables of UTF-8, as the rows list them, are what the shelf's contracts ask for. -/
import Derived.Test.YtkoligiilieboaaGreatDoorShelf09
import Derived.Test.YtkoligiilieboaaGreatDoorRows
import Derived.Lib.LaidU8
import Derived.PinnedBridge
import Derived.LaidSub
set_option linter.unusedSimpArgs false
set_option linter.unusedVariables false
namespace Go.Proofs.YtkoligiilieboaaGreatDoor
open Go.Shelf Go.Lib
theorem u8x : U8Extra Tryz.prog Tryz.lays260_ren := ⟨by kernel_rfl, by kernel_rfl, by kernel_rfl, by kernel_rfl, by kernel_rfl, by kernel_rfl, by kernel_rfl⟩
theorem acc_eq : (Rows.laid_unicode_utf8_acceptRanges : DataW Unit) = acceptData := by kernel_rfl
theorem tabs_met {w : World} (h : laidMetH Tryz.prog [("unicode/utf8.acceptRanges", Rows.laid_unicode_utf8_acceptRanges), ("unicode/utf8.first", Rows.laid_unicode_utf8_first)] w) : Go.Lib.Utf8Tabs 0 1 w := by
 have e : ([("unicode/utf8.acceptRanges", (Rows.laid_unicode_utf8_acceptRanges : DataW Unit)), ("unicode/utf8.first", Rows.laid_unicode_utf8_first)].filter fun x => x.2.handleName?.isSome) = [] := by kernel_rfl
 unfold laidMetH at h
 rw [e] at h
 have h1 := laidMet.reads h (n := "unicode/utf8.first") (d := Rows.laid_unicode_utf8_first) (by simp)
 have h2 := laidMet.reads h (n := "unicode/utf8.acceptRanges") (d := Rows.laid_unicode_utf8_acceptRanges) (by simp)
 rw [show Rows.laid_unicode_utf8_first = Go.Pinned.utf8First from rfl, Pinned.utf8First_eq] at h1
 rw [acc_eq] at h2
 exact utf8Tabs_of_reads Tryz.lays260 u8x h1 h2
end Go.Proofs.YtkoligiilieboaaGreatDoor
