/- What the rows list of the library's variables is what the walks of stamps' words ask for. -/
import Derived.Test.YtkhamjghanjikaaDoorLib5W
import Derived.Test.YtkhamjghanjikaaDoorRows
import Derived.Lib.LaidU8
import Derived.PinnedBridge
import Derived.LaidSub
import Derived.Stop.LaidErr
import Derived.LaidLaws
namespace Go.Proofs.YtkhamjghanjikaaDoor
open Go.Shelf Go.Lib
theorem errRow (u : TypeId) (h : Tryd.prog.typeName? 3 u = some "*errors.errorString") : u = 104 :=
  typeName_ptr_named (nm := "errors.errorString") (by kernel_rfl) (by kernel_rfl) (by decide) u h
theorem pow_eq : (Rows.laid_internal_strconv_uint64pow10 : DataW Unit) = Lib.tabData .u64 Lib.pow10Tab := by kernel_rfl
theorem laid5_met {w : World} (h : laidMetH Tryd.prog [("math/bits.deBruijn32tab", Rows.laid_math_bits_deBruijn32tab), ("math/bits.deBruijn64tab", Rows.laid_math_bits_deBruijn64tab), ("internal/strconv.uint64pow10", Rows.laid_internal_strconv_uint64pow10), ("unicode/utf8.acceptRanges", Rows.laid_unicode_utf8_acceptRanges), ("strconv.ErrRange", Rows.laid_strconv_ErrRange), ("strconv.ErrSyntax", Rows.laid_strconv_ErrSyntax), ("unicode/utf8.first", Rows.laid_unicode_utf8_first)] w)
    (hs : w.ShapedOpen Tryd.prog) : Laid5 w := by
  rw [MakeChecks.laidMetH_plain _ _ _ (by kernel_rfl)] at h
  have h2 := h.tail.tail
  rw [pow_eq] at h2
  have h4 := h.tail.tail.tail.tail
  have h5 := h4.tail
  obtain ⟨a, _, hr, _⟩ := laid_sentinel (nm := "*errors.errorString") h4 (g := 1) (by kernel_rfl) (by kernel_rfl) Tryd.underlying49 errRow Tryd.underlying104 Tryd.underlying106 rfl rfl Tryd.underlying9 (by kernel_rfl) (by kernel_rfl)
  obtain ⟨b, _, hy, _⟩ := laid_sentinel (nm := "*errors.errorString") h5 (g := 0) (by kernel_rfl) (by kernel_rfl) Tryd.underlying49 errRow Tryd.underlying104 Tryd.underlying106 rfl rfl Tryd.underlying9 (by kernel_rfl) (by kernel_rfl)
  obtain ⟨m, hm⟩ := Tryd.laysM146.s1_3 w hs
  refine ⟨Lib.tabIs_of_head (g := 2) (n := 20) (by kernel_rfl) (by kernel_rfl) Tryd.underlying98 Tryd.underlying82 (by kernel_rfl) (by kernel_rfl) h2, ⟨_, _, hy⟩, ⟨_, _, hr⟩, ?_, m, hm⟩
  rcases Nat.lt_or_ge 3 w.heap.size with h' | h'
  · exact h'
  · have hm2 : w.cell? ⟨3, 0, none⟩ = some (.int .i64 m) := hm
    simp [World.cell?, Array.getElem?_eq_none h'] at hm2
end Go.Proofs.YtkhamjghanjikaaDoor
