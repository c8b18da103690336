/- The library's functions that stamps' words call: Itoa, Atoi, Split, as this program's walks take them. -/
import Derived.Test.YtkhamjghanjikaaDoorShelf05
import Derived.Test.YtkhamjghanjikaaDoorBase
import Derived.Test.YtkhamjghanjikaaDoorWord
import Derived.Lib.SmallJoins
namespace Go.Proofs.YtkhamjghanjikaaDoor
open Go.RowKit
/-- what the library's variables hold -/
def Laid5 (w : World) : Prop :=
  Lib.TabIs Tryd.prog w "internal/strconv.uint64pow10" .u64 Lib.pow10Tab ∧ (∃ tp p, w.var? Tryd.prog "strconv.ErrSyntax" = some #[.iface tp p]) ∧ (∃ tp p, w.var? Tryd.prog "strconv.ErrRange" = some #[.iface tp p]) ∧
    (3 < w.heap.size ∧ ∃ m, w.cell? ⟨3, 0, none⟩ = some (.int .i64 m))
theorem laid5_keep {w w' : World} (h : Laid5 w) (hb : Below w.heap.size w w') : Laid5 w' := by
  obtain ⟨h1, ⟨t2, p2, h2⟩, ⟨t3, p3, h3⟩, hl, m, hm⟩ := h
  refine ⟨Joins.tab_stays (g := 2) (by kernel_rfl) h1 hb (Nat.le_refl _), ⟨t2, p2, Joins.var_stays (g := 0) (by kernel_rfl) h2 hb (Nat.le_refl _)⟩, ⟨t3, p3, Joins.var_stays (g := 1) (by kernel_rfl) h3 hb (Nat.le_refl _)⟩, ?_, m, ?_⟩
  · have := hb.size; omega
  · rw [← hm]; exact hb.cell (p := ⟨3, 0, none⟩) hl
theorem below_grow (w : World) (k : Nat) (os : Array Obj) : Below w.heap.size w (Sort.grow (w.drewN k) os) := by
  refine ⟨rfl, rfl, rfl, ?_, fun i hi => ?_⟩
  · show w.heap.size ≤ (w.heap ++ os).size
    rw [Array.size_append]; omega
  · show (w.heap ++ os)[i]? = w.heap[i]?
    exact Array.getElem?_append_left hi
theorem itoa_any (u : Nat) (hu : u ≤ 9223372036854775807) (w : World) (hL : Laid5 w) :
    Calls Tryd.prog 26 #[.int .i64 (u : Int)] w fun e w' => e = .returned (.string ⟨(Lib.decDigits u).toArray⟩) ∧ Below w.heap.size w w' := by
  refine (Tryd.strconv_Itoa (u : Int) (by omega) (by omega) w hL.1).mono ?_
  rintro e w' ⟨rfl, k, os, rfl⟩
  exact ⟨by rw [Lib.itoa_nonneg], below_grow w k os⟩
theorem below_bytes (w : World) (e : TypeId) (s : ByteArray) : Below w.heap.size w (Lib.bytesWorld w e s) := by
  unfold Lib.bytesWorld
  refine (bal (Below.drew (b0 w)) (.cells (Lib.bytesCells w e s) e)).trans ?_
  refine ⟨?_, ?_, ?_, ?_, fun i hi => ?_⟩
  all_goals unfold World.freeze
  · split <;> rfl
  · split <;> rfl
  · split <;> rfl
  · split <;> simp
  · split
    · rfl
    · simp only [Array.getElem?_modify]
      rw [if_neg (by omega)]
/-- the error is left aside -/
def AtoiOut (p : List UInt8) (w : World) (e : Ending) (w' : World) : Prop := ∃ ev, e = .returned (.tuple #[.int .i64 (atoiV p), ev]) ∧ Below w.heap.size w w'
theorem atoi_any (p : List UInt8) (hp : p.length ≤ 281474976710656) (w : World) (hL : Laid5 w) :
    Calls Tryd.prog 28 #[.string ⟨p.toArray⟩] w (AtoiOut p w) := by
  have hz : (⟨p.toArray⟩ : ByteArray).size = p.length := by show p.toArray.size = _; simp
  obtain ⟨_, ⟨t2, p2, h2⟩, ⟨t3, p3, h3⟩, _⟩ := hL
  by_cases h1 : ∃ v, Lib.atoiAll p = .ok v
  · obtain ⟨v, ha⟩ := h1
    refine (Tryd.strconv_Atoi_ok ⟨p.toArray⟩ (by rw [hz]; omega) v ha w).mono ?_
    rintro e w' ⟨rfl, hw⟩
    refine ⟨_, by unfold atoiV; rw [ha], ?_⟩
    rcases hw with rfl | ⟨t, rfl⟩
    · exact b0 _
    · exact below_bytes w _ t
  · by_cases ha : Lib.atoiAll p = .range
    · refine (Any.strconv_Atoi_range_var Tryd.laysC172 ⟨p.toArray⟩ (by rw [hz]; omega) ha t3 p3 w h3).mono ?_
      rintro e w' ⟨N, rfl, _, _, hb⟩
      exact ⟨_, by unfold atoiV; rw [ha], hb⟩
    · have hs : Lib.atoiAll p = Lib.atoiAll [] := by
        cases hx : Lib.atoiAll p with
        | ok v => exact absurd ⟨v, hx⟩ h1
        | range => exact absurd hx ha
        | _ => rfl
      refine (Any.strconv_Atoi_syntax_var Tryd.laysC172 ⟨p.toArray⟩ (by rw [hz]; omega) hs t2 p2 w h2).mono ?_
      rintro e w' ⟨N, rfl, _, _, hb⟩
      exact ⟨_, by unfold atoiV; rw [hs]; rfl, hb⟩
theorem split_any (l : List UInt8) (hl : l.length ≤ 1099511627) (w : World) (hL : Laid5 w) :
    Calls Tryd.prog 27 #[.string ⟨l.toArray⟩, .string ⟨#[46]⟩] w fun e w' => e = .returned (.slice (some ⟨w.heap.size, 0, none⟩) (splitL l).length (splitL l).length) ∧ w' = w.alloc (.cells ((splitL l).map strL).toArray 9) := by
  have hz : (⟨l.toArray⟩ : ByteArray).size = l.length := by show l.toArray.size = _; simp
  obtain ⟨_, _, _, _, m, hm⟩ := hL
  refine (Tryd.strings_Split ⟨l.toArray⟩ ⟨#[46]⟩ m w (by rw [hz]; omega) hm (by decide)).mono ?_
  rintro e w' ⟨rfl, rfl⟩
  refine ⟨by rw [split_len], ?_⟩
  have h := split_lib _ l rfl
  rw [← h, List.map_map]
  congr 4
end Go.Proofs.YtkhamjghanjikaaDoor
