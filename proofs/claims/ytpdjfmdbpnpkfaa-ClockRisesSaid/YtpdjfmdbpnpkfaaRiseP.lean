/- The plain law of ClockRises: what a clock gives is later than all that it gave or heard. -/
import Derived.Test.YtpdjfmdbpnpkfaaRise
namespace Go.Proofs.Ytpdjfmdbpnpkfaa
/-- the latest stamp that was given or heard is no later, by wall and tick, than the clock -/
def Under (x y a t : Int) : Prop := x < a ∨ (x = a ∧ y ≤ t)
theorem hear_raise (a t n wl a' t' n' : Int) (p : Int × Int × Int) (h : hearT a t n wl a' t' n' = (p, 0)) : raiseT a t n a' t' n' = (p, 0) := by
  unfold hearT at h
  split at h
  · injection h with _ h; omega
  · split at h
    · injection h with _ h; omega
    · split at h
      · injection h with _ h; omega
      · exact h
theorem hear_under (a t n wl a' t' n' x y z p1 p2 p3 q1 q2 q3 : Int) (hu : Under x y a t) (h : hearT a t n wl a' t' n' = ((p1, p2, p3), 0)) (hq : laterT x y z a' t' n' = (q1, q2, q3)) :
    p3 = n ∧ Under q1 q2 p1 p2 := by
  obtain ⟨_, _, hp⟩ := raise_ok a t n a' t' n' _ (hear_raise _ _ _ _ _ _ _ _ h)
  have hl : laterT x y z a' t' n' = (a', t', n') ∧ (x < a' ∨ x = a' ∧ y ≤ t') ∨ laterT x y z a' t' n' = (x, y, z) := by
    unfold laterT
    split
    · rename_i hh
      rw [cmp_node] at hh
      left
      exact ⟨rfl, by omega⟩
    · exact .inr rfl
  unfold Under at *
  rcases rise_cases a t n a' t' with ⟨hr, hc⟩ | ⟨hr, hc⟩ <;> rw [hr] at hp <;> simp at hp <;> obtain ⟨rfl, rfl, rfl⟩ := hp <;>
  rcases hl with ⟨hl, _⟩ | hl <;> rw [hl] at hq <;> simp at hq <;> obtain ⟨rfl, rfl, rfl⟩ := hq <;> refine ⟨rfl, ?_⟩ <;> omega
theorem now_later (a t n wl x y z p1 p2 p3 : Int) (hu : Under x y a t) (h : nowT a t n wl = ((p1, p2, p3), 0)) :
    p3 = n ∧ rightB p1 p2 p3 = true ∧ 0 < cmpS p1 p2 p3 x y z ∧ Under p1 p2 p1 p2 := by
  unfold Under at *
  rw [cmp_pos, right_iff]
  unfold nowT at h
  split at h
  · injection h with _ h; omega
  · rename_i hr
    have hr : (rightB a t n && withinB wl 1099511627776) = true := by simpa using hr
    rw [Bool.and_eq_true] at hr
    have h1 := (right_iff a t n).1 hr.1
    have h2 := within_bounds _ _ hr.2
    split at h
    · injection h with h _
      injection h with e1 h
      injection h with e2 e3
      subst e1 e2 e3
      refine ⟨rfl, ?_, ?_, ?_⟩ <;> omega
    · split at h
      · injection h with _ h; omega
      · injection h with h _
        injection h with e1 h
        injection h with e2 e3
        subst e1 e2 e3
        refine ⟨rfl, ?_, ?_, ?_⟩ <;> omega
theorem new_node (n a t m e : Int) (h : newT n = ((a, t, m), e)) : (e = 1 ∧ a = 0 ∧ t = 0 ∧ m = 0) ∨ (e = 0 ∧ a = 0 ∧ t = 0 ∧ n = m) := by
  unfold newT at h
  split at h
  all_goals
    injection h with h e1
    injection h with e2 h
    injection h with e3 e4
    subst e1 e2 e3 e4
    simp
end Go.Proofs.Ytpdjfmdbpnpkfaa
