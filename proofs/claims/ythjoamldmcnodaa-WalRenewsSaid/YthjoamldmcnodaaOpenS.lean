/- Slices as arguments, opened: of ints, of strings. -/
import Derived.Test.YthjoamldmcnodaaSl
import Derived.ProofKit
import Derived.SizedLaws
import Derived.Lib.SmallJoins
import Derived.Deep.Strs
import Derived.ChangeSlices
namespace Go.Proofs.Ythjoamldmcnodaa
open Go.ChangeShapes Go.WideShapes Go.ChangeAt Go.RowKit Go.Deep
theorem cell_lt {w : World} {a : Addr} {v : Value} (h : w.cell? a = some v) : a.block < w.heap.size := by
  unfold World.cell? at h
  rcases Nat.lt_or_ge a.block w.heap.size with h5 | h5
  · exact h5
  · rw [Array.getElem?_eq_none h5] at h; cases h
/-- cells at an address: it is a plain one, below the heap's end -/
theorem rd_of {w : World} {a : Addr} {n s : Nat} {xs : List Value} (hl : xs.length = n * s) (hs : 0 < s) (hc : ∀ j u, xs[j]? = some u → w.cell? (a.add j) = some u) : Rd w w.heap.size s (some a) n xs := by
  refine ⟨hl, fun hn => ?_⟩
  obtain ⟨b, off, spot⟩ := a
  have h0 : 0 < xs.length := by rw [hl]; exact Nat.mul_pos hn hs
  have hc0 := hc 0 xs[0] (by simp [h0])
  have hspot : spot = none := by simpa [Addr.add] using World.cell?_spot hc0
  subst hspot
  refine ⟨b, off, rfl, ?_, fun j u hu => ?_⟩
  · have := cell_lt hc0
    simpa [Addr.add] using this
  · have h := hc j u hu
    have ha : (⟨b, off, none⟩ : Addr).add j = ⟨b, off + j, none⟩ := by unfold Addr.add; split <;> simp_all
    rw [ha] at h
    exact h
section
variable {H : Type} {enc : TypeId × Value → H} {P : Program} {w : World} {held : Bool}
theorem open_ints_rd {r : Reach} {b0 : Nat} {t e : TypeId} {k : IntKind} {v : Value} {d : DataW H} {p : List MemPlace} (ht : P.underlying t = some (.slice e)) (he : P.underlying e = some (.int k)) (hc : P.cellsOf e = 1)
    (hv : Value.okWide P w r b0 t v) (h : DataW.Trod enc P w 0 (fun _ => true) held t v d p) :
    ∃ (A : Option Addr) (n cap : Nat) (zs : List Int), v = .slice A n cap ∧ zs.length = n ∧ n ≤ 9223372036854775807 ∧ (∀ z ∈ zs, (Lit.int k z).wf = true) ∧ Rd w w.heap.size 1 A n (zs.map (Value.int k)) := by
  obtain ⟨A, n, cap, rfl⟩ := okWide_slice ht hv
  obtain ⟨fuel, hf⟩ := h
  rcases open_ints ht he hc hf with ⟨hcs, _⟩ | ⟨a, len, cap', zs, hcs, _, hl, hm, hz, _, hcell, hwz⟩
  · simp [Value.cells] at hcs
    obtain ⟨rfl, rfl, rfl⟩ := hcs
    exact ⟨none, 0, 0, [], rfl, rfl, by omega, (fun z hz => by cases hz), Rd.nil _ _ _ _⟩
  · simp [Value.cells] at hcs
    obtain ⟨rfl, rfl, rfl⟩ := hcs
    simp only [if_true] at hz
    have hlt : (zs.take n).length = n := by simp; omega
    refine ⟨some a, n, cap, zs.take n, rfl, hlt, by unfold maxLen at hm; omega, fun z hz => hwz z (List.mem_of_mem_take hz), rd_of (by simp; omega) (by omega) ?_⟩
    intro j u hu
    have hjl : j < n := by
      have := (List.getElem?_eq_some_iff.1 hu).1
      simp at this
      omega
    have := hcell j (by omega)
    rw [this]
    rw [List.getElem?_map, List.getElem?_take, if_pos hjl, List.getElem?_eq_getElem (by omega)] at hu
    simp at hu
    rw [← hu]
    simp [show j < zs.length by omega]
theorem open_strs_rd {r : Reach} {b0 : Nat} {t e : TypeId} {v : Value} {d : DataW H} {p : List MemPlace} (ht : P.underlying t = some (.slice e)) (he : P.underlying e = some .string) (hc : P.cellsOf e = 1)
    (hv : Value.okWide P w r b0 t v) (h : DataW.Trod enc P w 0 (fun _ => true) held t v d p) :
    ∃ (A : Option Addr) (n cap : Nat) (ls : List (List UInt8)), v = .slice A n cap ∧ ls.length = n ∧ n ≤ 9223372036854775807 ∧ n ≤ cap ∧ (∀ l ∈ ls, l.length ≤ 9223372036854775807) ∧ Rd w w.heap.size 1 A n (ls.map strL) := by
  obtain ⟨A, n, cap, rfl⟩ := okWide_slice ht hv
  obtain ⟨fuel, hf⟩ := h
  rcases open_strs ht he hc hf with ⟨hcs, _⟩ | ⟨a, len, cap', m, Sx, hcs, _, hl, hm, hmm, _, hcell⟩
  · simp [Value.cells] at hcs
    obtain ⟨rfl, rfl, rfl⟩ := hcs
    exact ⟨none, 0, 0, [], rfl, rfl, by omega, by omega, (fun z hz => by cases hz), Rd.nil _ _ _ _⟩
  · simp [Value.cells] at hcs
    obtain ⟨rfl, rfl, rfl⟩ := hcs
    simp only [if_true] at hmm
    refine ⟨some a, n, cap, (List.range n).map fun i => (Sx i).data.toList, rfl, by simp, by unfold maxLen at hm; omega, hl, fun l hl2 => ?_, rd_of (by simp) (by omega) ?_⟩
    · obtain ⟨i, hi, rfl⟩ := List.mem_map.1 hl2
      have := (hcell i (by have := List.mem_range.1 hi; omega)).2
      unfold maxLen at this
      simpa using this
    · intro j u hu
      have hjl : j < n := by
        have := (List.getElem?_eq_some_iff.1 hu).1
        simp at this
        omega
      rw [(hcell j (by omega)).1]
      simp [hjl] at hu
      rw [← hu]
end
end Go.Proofs.Ythjoamldmcnodaa
