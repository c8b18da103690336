/- The plain law of raising. -/
import Derived.Test.YtpdjfmdbpnpkfaaClock2W
namespace Go.Proofs.Ytpdjfmdbpnpkfaa
open Go.RowKit
theorem rise_cases (a t n a' t' : Int) : (riseT a t n a' t' = (a', t', n) ∧ (a < a' ∨ a = a' ∧ t < t')) ∨ (riseT a t n a' t' = (a, t, n) ∧ (a' < a ∨ a' = a ∧ t' ≤ t)) := by
  unfold riseT
  by_cases h1 : a < a'
  · exact .inl ⟨if_pos h1, .inl h1⟩
  · rw [if_neg h1]
    by_cases h2 : a = a' ∧ t < t'
    · exact .inl ⟨if_pos h2, .inr h2⟩
    · exact .inr ⟨if_neg h2, by omega⟩
theorem cmp_node (a t n a' t' n' : Int) : cmpS a t n a' t' n' < 0 ↔ (a < a' ∨ a = a' ∧ (t < t' ∨ t = t' ∧ n < n')) := by
  unfold cmpS cmpI
  by_cases h1 : a < a' <;> by_cases h2 : a' < a <;> by_cases h3 : t < t' <;> by_cases h4 : t' < t <;> by_cases h5 : n < n' <;> by_cases h6 : n' < n <;> simp [h1, h2, h3, h4, h5, h6] <;> omega
theorem cmp_pos (a t n a' t' n' : Int) : 0 < cmpS a t n a' t' n' ↔ (a' < a ∨ a = a' ∧ (t' < t ∨ t = t' ∧ n' < n)) := by
  unfold cmpS cmpI
  by_cases h1 : a < a' <;> by_cases h2 : a' < a <;> by_cases h3 : t < t' <;> by_cases h4 : t' < t <;> by_cases h5 : n < n' <;> by_cases h6 : n' < n <;> simp [h1, h2, h3, h4, h5, h6] <;> omega
theorem later_rise (a t n a' t' : Int) : laterT a t n a' t' n = riseT a t n a' t' := by
  unfold laterT
  rcases rise_cases a t n a' t' with ⟨h, h2⟩ | ⟨h, h2⟩
  · rw [h, if_pos ((cmp_node ..).2 (by omega))]
  · rw [h, if_neg (fun hh => by have := (cmp_node ..).1 hh; omega)]
theorem raise_rise (a t n a' t' n' : Int) (h : (rightB a t n && rightB a' t' n') = true) : raiseT a t n a' t' n' = (riseT a t n a' t', 0) := by
  unfold raiseT
  rw [h, if_neg (by simp), later_rise]
theorem raise_no (a t n a' t' n' : Int) (h : (rightB a t n && rightB a' t' n') = false) : raiseT a t n a' t' n' = ((0, 0, 0), 1) := by
  unfold raiseT
  rw [h, if_pos rfl]
theorem hear_ref (a t n x a' t' n' : Int) : hearT a t n x a' t' n' = refHearT a t n x a' t' n' := by
  unfold hearT refHearT
  by_cases h1 : (rightB a t n && withinB x 1099511627776) = false
  · rw [if_pos h1, if_pos h1]
  · rw [if_neg h1, if_neg h1]
    by_cases h2 : rightB a' t' n' = false
    · rw [if_pos h2, if_pos h2]
    · rw [if_neg h2, if_neg h2]
      by_cases h3 : x < a' - 1000
      · rw [if_pos h3, if_pos (by omega)]
      · rw [if_neg h3, if_neg (by omega), raise_rise]
        simp at h1 h2
        rw [h1.1, h2, Bool.and_self]
theorem hear_far (a t n x a' t' n' : Int) (p1 p2 p3 e : Int) (h : hearT a t n x a' t' n' = ((p1, p2, p3), e)) :
    (e ≠ 0 → p1 = 0 ∧ p2 = 0 ∧ p3 = 0) ∧ (e = 0 → 0 ≤ x ∧ x ≤ 1099511627776 ∧ a' ≤ x + 1000 ∧ ((p1 = a ∧ p2 = t ∧ p3 = n) ∨ p1 ≤ x + 1000) ∧ 0 ≤ cmpS p1 p2 p3 a t n) := by
  unfold hearT at h
  by_cases h1 : (rightB a t n && withinB x 1099511627776) = false
  · rw [if_pos h1] at h
    simp at h
    omega
  · rw [if_neg h1] at h
    by_cases h2 : rightB a' t' n' = false
    · rw [if_pos h2] at h
      simp at h
      omega
    · rw [if_neg h2] at h
      by_cases h3 : x < a' - 1000
      · rw [if_pos h3] at h
        simp at h
        omega
      · simp at h1 h2
        rw [if_neg h3, raise_rise _ _ _ _ _ _ (by rw [h1.1, h2, Bool.and_self])] at h
        have hw := within_bounds x _ h1.2
        refine ⟨fun he => absurd (by simpa using (Prod.mk.inj h).2.symm) he, fun _ => ⟨hw.1, hw.2, by omega, ?_⟩⟩
        rcases rise_cases a t n a' t' with ⟨hr, h4⟩ | ⟨hr, h4⟩
        · rw [hr] at h
          simp at h
          obtain ⟨⟨rfl, rfl, rfl⟩, _⟩ := h
          refine ⟨.inr (by omega), ?_⟩
          have := (cmp_node a' t' n a t n)
          omega
        · rw [hr] at h
          simp at h
          obtain ⟨⟨rfl, rfl, rfl⟩, _⟩ := h
          refine ⟨.inl ⟨rfl, rfl, rfl⟩, ?_⟩
          have := (cmp_node a t n a t n)
          omega
theorem raise_ok (a t n a' t' n' : Int) (p : Int × Int × Int) (h : raiseT a t n a' t' n' = (p, 0)) : rightB a t n = true ∧ rightB a' t' n' = true ∧ p = riseT a t n a' t' := by
  by_cases hb : (rightB a t n && rightB a' t' n') = true
  · rw [raise_rise _ _ _ _ _ _ hb] at h
    simp at hb
    exact ⟨hb.1, hb.2, (Prod.mk.inj h).1.symm⟩
  · rw [raise_no _ _ _ _ _ _ (by simpa using hb)] at h
    simp at h
theorem right_iff (a t n : Int) : rightB a t n = true ↔ (0 ≤ a ∧ a ≤ 1099511627776 ∧ 0 ≤ t ∧ t ≤ 1048576 ∧ 0 ≤ n ∧ n ≤ 255) := by
  unfold rightB withinB
  simp
  omega
theorem joins (a t n a1 t1 n1 a2 t2 n2 : Int) (x1 x2 x3 y1 y2 y3 u1 u2 u3 v1 v2 v3 z1 z2 z3 i : Int)
    (hx : raiseT a t n a1 t1 n1 = ((x1, x2, x3), 0)) (hy : raiseT x1 x2 x3 a2 t2 n2 = ((y1, y2, y3), 0))
    (hu : raiseT a t n a2 t2 n2 = ((u1, u2, u3), 0)) (hv : raiseT u1 u2 u3 a1 t1 n1 = ((v1, v2, v3), 0))
    (hz : raiseT y1 y2 y3 a1 t1 n1 = ((z1, z2, z3), i)) : v1 = y1 ∧ v2 = y2 ∧ v3 = y3 ∧ z1 = y1 ∧ z2 = y2 ∧ z3 = y3 ∧ i = 0 := by
  obtain ⟨_, ra, ex⟩ := raise_ok _ _ _ _ _ _ _ hx
  obtain ⟨rx, rb, ey⟩ := raise_ok _ _ _ _ _ _ _ hy
  obtain ⟨_, _, eu⟩ := raise_ok _ _ _ _ _ _ _ hu
  obtain ⟨_, _, ev⟩ := raise_ok _ _ _ _ _ _ _ hv
  have ry : rightB y1 y2 y3 = true := by
    rw [right_iff] at rx rb ⊢
    rcases rise_cases x1 x2 x3 a2 t2 with ⟨hr, _⟩ | ⟨hr, _⟩ <;> rw [hr] at ey <;> simp at ey <;> omega
  rw [raise_rise _ _ _ _ _ _ (by rw [ry, ra, Bool.and_self])] at hz
  obtain ⟨ez, hi⟩ := Prod.mk.inj hz
  clear hx hy hu hv hz rx rb ry ra
  rcases rise_cases a t n a1 t1 with ⟨hr, c1⟩ | ⟨hr, c1⟩ <;> rw [hr] at ex <;> clear hr <;> simp at ex <;>
  rcases rise_cases x1 x2 x3 a2 t2 with ⟨hr, c2⟩ | ⟨hr, c2⟩ <;> rw [hr] at ey <;> clear hr <;> simp at ey <;>
  rcases rise_cases a t n a2 t2 with ⟨hr, c3⟩ | ⟨hr, c3⟩ <;> rw [hr] at eu <;> clear hr <;> simp at eu <;>
  rcases rise_cases u1 u2 u3 a1 t1 with ⟨hr, c4⟩ | ⟨hr, c4⟩ <;> rw [hr] at ev <;> clear hr <;> simp at ev <;>
  rcases rise_cases y1 y2 y3 a1 t1 with ⟨hr, c5⟩ | ⟨hr, c5⟩ <;> rw [hr] at ez <;> clear hr <;> simp at ez <;> omega
theorem nine_keep {w w1 w' : World} {b1 b2 b3 : Nat} {c0 c1 c2 c3 c4 c5 c6 c7 c8 : Value}
    (h : b1 < w1.heap.size ∧ b2 < w1.heap.size ∧ b3 < w1.heap.size ∧ w1.cell? ⟨b1, 0, none⟩ = some c0 ∧ w1.cell? ⟨b1, 1, none⟩ = some c1 ∧ w1.cell? ⟨b1, 2, none⟩ = some c2 ∧
      w1.cell? ⟨b2, 0, none⟩ = some c3 ∧ w1.cell? ⟨b2, 1, none⟩ = some c4 ∧ w1.cell? ⟨b2, 2, none⟩ = some c5 ∧ w1.cell? ⟨b3, 0, none⟩ = some c6 ∧ w1.cell? ⟨b3, 1, none⟩ = some c7 ∧ w1.cell? ⟨b3, 2, none⟩ = some c8 ∧ Below w.heap.size w w1)
    (hb : Below w1.heap.size w1 w') :
    b1 < w'.heap.size ∧ b2 < w'.heap.size ∧ b3 < w'.heap.size ∧ w'.cell? ⟨b1, 0, none⟩ = some c0 ∧ w'.cell? ⟨b1, 1, none⟩ = some c1 ∧ w'.cell? ⟨b1, 2, none⟩ = some c2 ∧
      w'.cell? ⟨b2, 0, none⟩ = some c3 ∧ w'.cell? ⟨b2, 1, none⟩ = some c4 ∧ w'.cell? ⟨b2, 2, none⟩ = some c5 ∧ w'.cell? ⟨b3, 0, none⟩ = some c6 ∧ w'.cell? ⟨b3, 1, none⟩ = some c7 ∧ w'.cell? ⟨b3, 2, none⟩ = some c8 ∧ Below w.heap.size w w' := by
  obtain ⟨l1, l2, l3, h0, h1, h2, h3, h4, h5, h6, h7, h8, hB⟩ := h
  obtain ⟨hc, _⟩ := bcell hb
  have hz := hb.size
  exact ⟨by omega, by omega, by omega, by rw [hc _ _ l1, h0], by rw [hc _ _ l1, h1], by rw [hc _ _ l1, h2], by rw [hc _ _ l2, h3], by rw [hc _ _ l2, h4], by rw [hc _ _ l2, h5],
    by rw [hc _ _ l3, h6], by rw [hc _ _ l3, h7], by rw [hc _ _ l3, h8], bt hB hb⟩
end Go.Proofs.Ytpdjfmdbpnpkfaa
