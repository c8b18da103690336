/- Slices of structs as arguments: opened element by element; how they are read in a round. -/
import Derived.Test.YtbggohdpaodkeaaDoorBase
import Derived.ProofKit
import Derived.SizedLaws
import Derived.Lib.SmallJoins
import Derived.Deep.Slices
import Derived.Deep.Strs
namespace Go.Proofs.YtbggohdpaodkeaaDoor
open Go.ChangeShapes Go.WideShapes Go.ChangeAt Go.RowKit Go.Deep
/-- a slice of structs of s cells each: element k holds the cells 'cs xs[k]' -/
def RdR {α : Type} (cs : α → List Value) (s : Nat) (w : World) (B : Nat) (A : Option Addr) (xs : List α) : Prop :=
  0 < xs.length → ∃ b off, A = some ⟨b, off, none⟩ ∧ b < B ∧ ∀ k (h : k < xs.length) j u, (cs xs[k])[j]? = some u → w.cell? ⟨b, off + (k * s + j), none⟩ = some u
section
variable {α : Type} {cs : α → List Value} {s : Nat} {w w' : World} {B : Nat} {A : Option Addr} {xs : List α}
theorem RdR.keep (h : RdR cs s w B A xs) (hk : ∀ b o, b < B → w'.cell? ⟨b, o, none⟩ = w.cell? ⟨b, o, none⟩) : RdR cs s w' B A xs := fun hn => by
  obtain ⟨b, off, e, hb, hc⟩ := h hn
  exact ⟨b, off, e, hb, fun k hk2 j u hu => (hk _ _ hb).trans (hc k hk2 j u hu)⟩
theorem RdR.below {B' : Nat} (h : RdR cs s w B A xs) (hb : Below B' w w') (hB : B ≤ B') : RdR cs s w' B A xs := h.keep fun b o hlt => hb.cell (p := ⟨b, o, none⟩) (by show b < B'; omega)
theorem RdR.more {B' : Nat} (h : RdR cs s w B A xs) (hB : B ≤ B') : RdR cs s w B' A xs := fun hn => by
  obtain ⟨b, off, e, hb, hc⟩ := h hn
  exact ⟨b, off, e, by omega, hc⟩
end
theorem cell_lt2 {w : World} {a : Addr} {v : Value} (h : w.cell? a = some v) : a.block < w.heap.size := by
  unfold World.cell? at h
  rcases Nat.lt_or_ge a.block w.heap.size with h5 | h5
  · exact h5
  · rw [Array.getElem?_eq_none h5] at h; cases h
section
variable {H : Type} {enc : TypeId × Value → H} {P : Program} {w : World} {held : Bool}
theorem open_rows {α : Type} [Inhabited α] (cs : α → List Value) (s : Nat) (ok : α → Prop) {r : Reach} {b0 : Nat} {t e : TypeId} {v : Value} {d : DataW H} {p : List MemPlace} (ht : P.underlying t = some (.slice e)) (hc : P.cellsOf e = s) (hs : 0 < s)
    (hcs : ∀ x, (cs x).length = s)
    (hopen : ∀ (n : Nat) (l : List Value) (y : DataW H × List MemPlace), DataW.trod enc P w 0 (fun _ => true) held n e l = some y → ∃ x : α, l = cs x ∧ ok x)
    (hv : Value.okWide P w r b0 t v) (h : DataW.Trod enc P w 0 (fun _ => true) held t v d p) :
    ∃ (A : Option Addr) (n cap : Nat) (xs : List α), v = .slice A n cap ∧ xs.length = n ∧ n ≤ 9223372036854775807 ∧ n ≤ cap ∧ (∀ x ∈ xs, ok x) ∧ RdR cs s w w.heap.size A xs := by
  obtain ⟨A, n, cap, rfl⟩ := okWide_slice ht hv
  obtain ⟨fuel, hf⟩ := h
  rcases open_slice ht hf with ⟨hcs2, _⟩ | ⟨a, len, cap', m, fl, D, Pl, hcs2, _, hl, hm, hmm, _, hx⟩
  · simp [Value.cells] at hcs2
    obtain ⟨rfl, rfl, rfl⟩ := hcs2
    exact ⟨none, 0, 0, [], rfl, rfl, by omega, by omega, (fun x hx => by cases hx), fun h => absurd h (by simp)⟩
  · simp [Value.cells] at hcs2
    obtain ⟨rfl, rfl, rfl⟩ := hcs2
    simp only [if_true] at hmm
    have each : ∀ i, i < n → ∃ x : α, ok x ∧ ∀ j u, (cs x)[j]? = some u → w.cell? (a.add (i * s + j)) = some u := fun i hi => by
      obtain ⟨l, hc1, ht1⟩ := hx i (by omega)
      obtain ⟨x, hl2, ho⟩ := hopen _ _ _ ht1
      refine ⟨x, ho, fun j u hu => ?_⟩
      obtain ⟨_, hcl, hat⟩ := World.cells?_some hc1
      have hj : j < s := by
        have := (List.getElem?_eq_some_iff.1 hu).1
        rw [hcs x] at this
        exact this
      have h2 := hat j (by rw [hc]; exact hj)
      rw [hc, Go.Deep.add_add] at h2
      rw [h2, hl2]
      exact hu
    obtain ⟨X, hX⟩ := choose_lt each
    refine ⟨some a, n, cap, (List.range n).map X, rfl, by simp, by unfold maxLen at hm; omega, hl, fun x hx2 => ?_, fun hn => ?_⟩
    · obtain ⟨i, hi, rfl⟩ := List.mem_map.1 hx2
      exact (hX i (List.mem_range.1 hi)).1
    · have hn : 0 < n := by simpa using hn
      have h0 := (hX 0 hn).2 0
      have hlen := hcs (X 0)
      have hc0 := h0 _ (List.getElem?_eq_getElem (by omega))
      obtain ⟨b, off, spot⟩ := a
      have hspot : spot = none := by simpa [Addr.add] using World.cell?_spot hc0
      subst hspot
      refine ⟨b, off, rfl, ?_, fun k hk j u hu => ?_⟩
      · have := cell_lt2 hc0
        simpa [Addr.add] using this
      · have hk : k < n := by simpa using hk
        have h2 := (hX k hk).2 j u (by simpa using hu)
        have ha : (⟨b, off, none⟩ : Addr).add (k * s + j) = ⟨b, off + (k * s + j), none⟩ := by unfold Addr.add; split <;> simp_all
        rw [ha] at h2
        exact h2
end
end Go.Proofs.YtbggohdpaodkeaaDoor
