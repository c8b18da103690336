/- client.Hear of a client that has nothing pending: what stays. -/
import Derived.Test.YtbggohdpaodkeaaDoorCliT
import Derived.Deep.RegionHeld3
namespace Go.Proofs.YtbggohdpaodkeaaDoor
open Go.RowKit
attribute [local go_sem] ByteArray.mk_append_mk ByteArray.extract_mk
attribute [local go_sem ↓] Go.wp_at_zero Go.wp_at_succ
theorem plF_at (l : List Pl) (j : Nat) (u : Value) (hu : (l.flatMap plC)[j]? = some u) : ∃ k i, ∃ h : k < l.length, j = k * 5 + i ∧ (plC l[k])[i]? = some u := by
  induction l generalizing j with
  | nil => simp at hu
  | cons a r ih =>
    have hl : (plC a).length = 5 := rfl
    rw [List.flatMap_cons] at hu
    rcases Nat.lt_or_ge j 5 with h | h
    · rw [List.getElem?_append_left (by omega)] at hu
      exact ⟨0, j, by simp, by omega, hu⟩
    · rw [List.getElem?_append_right (by omega)] at hu
      obtain ⟨k, i, hk, hj, hu2⟩ := ih _ hu
      exact ⟨k + 1, i, by simpa using hk, by omega, hu2⟩
/-- but for places and leads the same -/
def SameQ (c d : Cli) : Prop := d.id = c.id ∧ d.nx = c.nx ∧ d.req = c.req ∧ d.op = c.op ∧ d.tr = c.tr
/-- what stands as long as Hear goes on -/
structure HSt (c : Cli) (m : Ms) (w W : World) : Prop where
  below : Below w.heap.size w W
  cli : ∃ d, SameQ c d ∧ Blk W w.heap.size 29 (cliA d)
  ms : Blk W (w.heap.size + 1) 35 (msA m)
  zc : Blk W (w.heap.size + 1 + 1) 29 zcA
  zt : Blk W (w.heap.size + 1 + 1 + 1) 41 ztA
theorem HSt.keep {c : Cli} {m : Ms} {w W W' : World} (h : HSt c m w W) (hb : Below W.heap.size W W') : HSt c m w W' := by
  obtain ⟨h1, ⟨d, hd, h2⟩, h3, h4, h5⟩ := h
  exact ⟨bt h1 hb, ⟨d, hd, h2.keep hb⟩, h3.keep hb, h4.keep hb, h5.keep hb⟩
theorem HSt.drew {c : Cli} {m : Ms} {w W : World} (h : HSt c m w W) : HSt c m w W.drew := by
  obtain ⟨h1, ⟨d, hd, h2⟩, h3, h4, h5⟩ := h
  exact ⟨h1.drew, ⟨d, hd, h2.drew⟩, h3.drew, h4.drew, h5.drew⟩
theorem HSt.drewN {c : Cli} {m : Ms} {w W : World} (h : HSt c m w W) (n : Nat) : HSt c m w (W.drewN n) := by
  obtain ⟨h1, ⟨d, hd, h2⟩, h3, h4, h5⟩ := h
  exact ⟨below_drewN h1 n, ⟨d, hd, h2.drewN n⟩, h3.drewN n, h4.drewN n, h5.drewN n⟩
theorem HSt.st2 {c : Cli} {m : Ms} {w W : World} (h : HSt c m w W) (A : Option Addr) (n k : Nat) : HSt c m w (W.setCell ⟨w.heap.size, 2, none⟩ (.slice A n k)) := by
  obtain ⟨h1, ⟨d, ⟨e1, e2, e3, e4, e5⟩, h2⟩, h3, h4, h5⟩ := h
  refine ⟨bst h1 (Nat.le_refl _) _, ⟨{ d with pA := A, pn := n, pc := k }, ⟨e1, e2, e3, e4, e5⟩, h2.set 2 (.slice A n k)⟩, h3.far (by show _ ≠ w.heap.size; omega) _, h4.far (by show _ ≠ w.heap.size; omega) _, h5.far (by show _ ≠ w.heap.size; omega) _⟩
theorem HSt.st3 {c : Cli} {m : Ms} {w W : World} (h : HSt c m w W) (A : Option Addr) (n k : Nat) : HSt c m w (W.setCell ⟨w.heap.size, 3, none⟩ (.slice A n k)) := by
  obtain ⟨h1, ⟨d, ⟨e1, e2, e3, e4, e5⟩, h2⟩, h3, h4, h5⟩ := h
  refine ⟨bst h1 (Nat.le_refl _) _, ⟨{ d with lA := A, ln := n, lc := k }, ⟨e1, e2, e3, e4, e5⟩, h2.set 3 (.slice A n k)⟩, h3.far (by show _ ≠ w.heap.size; omega) _, h4.far (by show _ ≠ w.heap.size; omega) _, h5.far (by show _ ≠ w.heap.size; omega) _⟩
theorem HSt.two {c : Cli} {m : Ms} {w W : World} (h : HSt c m w W) : ∃ u2 u3, W.cell? ⟨w.heap.size, 2, none⟩ = some u2 ∧ W.cell? ⟨w.heap.size, 3, none⟩ = some u3 ∧ W.frozen? ⟨w.heap.size, 2, none⟩ = false ∧ W.frozen? ⟨w.heap.size, 3, none⟩ = false := by
  obtain ⟨d, hd, h2⟩ := h.cli
  exact ⟨_, _, h2.cell 2, h2.cell 3, h2.frozen 2, h2.frozen 3⟩
theorem HSt.name {c : Cli} {m : Ms} {w W : World} {P : Program} {C : Code} {Q : Exit → Act → World → Prop} {a : Act} (h : HSt c m w W) (k : ∀ W', HSt c m w W' → C.wp P Q a W') : C.wp P Q a W := k W h
theorem HSt.clp {c : Cli} {m : Ms} {w W : World} {ps : List Pl} {ls : List Int} (h : HSt c m w W) (hM : MsIn m ps ls w) (hp : 0 < ps.length) : Calls Tryd.prog 18 #[.slice m.pA m.pn m.pc] W (SomeSlice W) := by
  obtain ⟨b, off, hA, _, hc⟩ := hM.rp.below h.below (Nat.le_refl _) hp
  have hn := hM.pn
  have h40 := hM.p40
  rw [hA]
  refine clone_places b off m.pn m.pc (ps.flatMap plC) W ?_ h40 ?_ ?_
  · rw [← hn]
    clear hc hp hA hM hn
    induction ps with
    | nil => rfl
    | cons x r ih => rw [List.flatMap_cons, List.length_append, ih]; simp [plC]; omega
  · intro j u hu
    obtain ⟨k, i, hk, hj, hu2⟩ := plF_at ps j u hu
    rw [hj]
    exact hc k hk i u hu2
  · intro u hu
    obtain ⟨x, _, hx⟩ := List.mem_flatMap.1 hu
    simp [plC] at hx
    rcases hx with rfl | rfl | rfl | rfl | rfl <;> rfl
theorem HSt.cli_ {c : Cli} {m : Ms} {w W : World} {ps : List Pl} {ls : List Int} (h : HSt c m w W) (hM : MsIn m ps ls w) (hl : 0 < ls.length) : Calls Tryd.prog 19 #[.slice m.mA m.mn m.mc] W (SomeSlice W) := by
  obtain ⟨b, off, hA, _, hc⟩ := hM.rl.below h.below (Nat.le_refl _) hl
  have hn := hM.ln
  have h40 := hM.l40
  rw [hA]
  refine clone_ints b off m.mn m.mc (ivF ls) W (by simp [ivF]; omega) h40 ?_ (ivF_one _)
  intro j u hu
  obtain ⟨hj, hu2⟩ := List.getElem?_eq_some_iff.1 hu
  have hj2 : j < ls.length := by simpa [ivF] using hj
  have := hc j hj2 0 u (by rw [← hu2]; simp [ivF, ldC])
  simpa using this
def HearPost (c : Cli) (w : World) (e : Ending) (w' : World) : Prop :=
  ∃ d, SameQ c d ∧ e = .returned (.tuple #[cliV d, .slice none 0 0, .agg ztA]) ∧ Below w.heap.size w w'
end Go.Proofs.YtbggohdpaodkeaaDoor
