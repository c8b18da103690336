/- The plain law of frames one behind the other: all that stand at the beginning, and what is left. No program in sight. -/
import Derived.Test.YthjoamldmcnodaaFrame
namespace Go.Proofs.Ythjoamldmcnodaa
/-- a frame that is taken is the wrapped body, and what stands behind it -/
theorem frame_some (l b r : List UInt8) (h : frameTakeL l = (b, r, 0)) : l = wrapL b ++ r ∧ b.length ≤ 1048576 := by
  unfold frameTakeL at h
  split at h
  · rename_i hne
    injection h with _ h
    injection h with _ h
    exact absurd h hne
  · rename_i he
    have he : (takeL l).2.2 = 0 := by omega
    split at h
    · injection h with _ h; injection h with _ h; omega
    · rename_i h1
      split at h
      · injection h with _ h; injection h with _ h; omega
      · rename_i h2
        split at h
        · rename_i h3
          injection h with hb h
          injection h with hr _
          generalize hn : (takeL l).1 = n at *
          generalize hx : (takeL l).2.1 = x at *
          have ht : takeL l = (n, x, 0) := by rw [← hn, ← hx, ← he]
          have h4 := (frame_ok l n x ht (by omega)).1 h3
          rw [← hr, ← hb, h4, List.take_append_drop]
          exact ⟨rfl, by simp; omega⟩
        · injection h with _ h; injection h with _ h; omega
theorem frame_err (l : List UInt8) (h : (frameTakeL l).2.2 ≠ 0) : (frameTakeL l).1 = [] ∧ (frameTakeL l).2.1 = [] := by
  revert h
  unfold frameTakeL
  repeat' split
  all_goals simp
def allF : Nat → List UInt8 → List (List UInt8)
  | 0, _ => []
  | f + 1, l => if (frameTakeL l).2.2 = 0 then (frameTakeL l).1 :: allF f (frameTakeL l).2.1 else []
def restF : Nat → List UInt8 → List UInt8
  | 0, l => l
  | f + 1, l => if (frameTakeL l).2.2 = 0 then restF f (frameTakeL l).2.1 else l
/-- the bodies of the frames at the beginning; what stands behind these -/
def allL (l : List UInt8) : List (List UInt8) := allF (l.length + 1) l
def restL (l : List UInt8) : List UInt8 := restF (l.length + 1) l
theorem wrapL_pos (b : List UInt8) : 5 ≤ (wrapL b).length := by
  have := wrapL_len b
  have := putL_pos b.length
  omega
theorem allF_fuel : ∀ f g (l : List UInt8), l.length < f → l.length < g → allF f l = allF g l ∧ restF f l = restF g l := by
  intro f
  induction f with
  | zero => intro g l h; omega
  | succ f ih =>
    intro g l hf hg
    cases g with
    | zero => omega
    | succ g =>
      simp only [allF, restF]
      by_cases he : (frameTakeL l).2.2 = 0
      · rw [if_pos he, if_pos he, if_pos he, if_pos he]
        have hs := (frame_some l (frameTakeL l).1 (frameTakeL l).2.1 (by rw [← he])).1
        have hl := congrArg List.length hs
        rw [List.length_append] at hl
        have hw := wrapL_pos (frameTakeL l).1
        have h := ih g (frameTakeL l).2.1 (by omega) (by omega)
        exact ⟨by rw [h.1], h.2⟩
      · rw [if_neg he, if_neg he, if_neg he, if_neg he]
        exact ⟨rfl, rfl⟩
theorem all_step (l b r : List UInt8) (h : frameTakeL l = (b, r, 0)) : allL l = b :: allL r ∧ restL l = restL r := by
  have hs := (frame_some l b r h).1
  have hl := congrArg List.length hs
  rw [List.length_append] at hl
  have hw := wrapL_pos b
  have hf := allF_fuel l.length (r.length + 1) r (by omega) (by omega)
  unfold allL restL
  rw [allF, restF, h]
  simp only [if_true]
  rw [hf.1, hf.2]
  exact ⟨rfl, rfl⟩
theorem all_stop (l : List UInt8) (h : (frameTakeL l).2.2 ≠ 0) : allL l = [] ∧ restL l = l := by
  unfold allL restL
  rw [allF, restF, if_neg h, if_neg h]
  exact ⟨rfl, rfl⟩
theorem all_wrap (b l : List UInt8) (hb : b.length ≤ 1048576) : allL (wrapL b ++ l) = b :: allL l ∧ restL (wrapL b ++ l) = restL l := all_step _ b l (frame_back b l hb)
def wrapsL (ls : List (List UInt8)) : List UInt8 := ls.flatMap wrapL
theorem all_wraps (ls : List (List UInt8)) (l : List UInt8) (h : ∀ b ∈ ls, b.length ≤ 1048576) : allL (wrapsL ls ++ l) = ls ++ allL l ∧ restL (wrapsL ls ++ l) = restL l := by
  induction ls with
  | nil => exact ⟨rfl, rfl⟩
  | cons b ls ih =>
    have h1 := ih (fun x hx => h x (List.mem_cons_of_mem _ hx))
    have h2 := all_wrap b (wrapsL ls ++ l) (h b List.mem_cons_self)
    unfold wrapsL at *
    rw [List.flatMap_cons, List.append_assoc, h2.1, h2.2, h1.1, h1.2]
    exact ⟨rfl, rfl⟩
/-- whatever bytes stand there are the frames that are told, and what is left -/
theorem all_eq : ∀ n (l : List UInt8), l.length ≤ n → l = wrapsL (allL l) ++ restL l ∧ ∀ b ∈ allL l, b.length ≤ 1048576 := by
  intro n
  induction n with
  | zero =>
    intro l hl
    have : l = [] := List.eq_nil_of_length_eq_zero (by omega)
    subst this
    have h : (frameTakeL []).2.2 ≠ 0 := by decide
    rw [(all_stop [] h).1, (all_stop [] h).2]
    exact ⟨rfl, fun b hb => by cases hb⟩
  | succ n ih =>
    intro l hl
    by_cases he : (frameTakeL l).2.2 = 0
    · have hq : frameTakeL l = ((frameTakeL l).1, (frameTakeL l).2.1, 0) := by rw [← he]
      generalize (frameTakeL l).1 = b at hq
      generalize (frameTakeL l).2.1 = r at hq
      have hs := frame_some l b r hq
      have hlen := congrArg List.length hs.1
      rw [List.length_append] at hlen
      have hw := wrapL_pos b
      have h1 := ih r (by omega)
      rw [(all_step l b r hq).1, (all_step l b r hq).2]
      refine ⟨?_, fun x hx => ?_⟩
      · unfold wrapsL at *
        rw [List.flatMap_cons, List.append_assoc, ← h1.1]
        exact hs.1
      · rcases List.mem_cons.1 hx with rfl | hx
        · exact hs.2
        · exact h1.2 x hx
    · rw [(all_stop l he).1, (all_stop l he).2]
      exact ⟨rfl, fun b hb => by cases hb⟩
theorem rest_le (l : List UInt8) : (restL l).length ≤ l.length := by
  have h := (all_eq l.length l (Nat.le_refl _)).1
  have := congrArg List.length h
  rw [List.length_append] at this
  omega
theorem rest_len (l : List UInt8) : l.length - (restL l).length = (wrapsL (allL l)).length := by
  have h := (all_eq l.length l (Nat.le_refl _)).1
  have := congrArg List.length h
  rw [List.length_append] at this
  omega
theorem all_count (l : List UInt8) : 5 * (allL l).length ≤ l.length := by
  have h := rest_len l
  have hw : ∀ ls : List (List UInt8), 5 * ls.length ≤ (wrapsL ls).length := by
    intro ls
    induction ls with
    | nil => simp
    | cons b ls ih =>
      have := wrapL_pos b
      unfold wrapsL at *
      rw [List.flatMap_cons, List.length_append, List.length_cons]
      omega
    
  have := hw (allL l)
  omega
/-- a frame that is cut off is none -/
theorem frame_cut (b : List UInt8) (k : Nat) (hb : b.length ≤ 1048576) (hk : k < (wrapL b).length) : (frameTakeL ((wrapL b).take k)).2.2 ≠ 0 := by
  intro he
  have hq : frameTakeL ((wrapL b).take k) = ((frameTakeL ((wrapL b).take k)).1, (frameTakeL ((wrapL b).take k)).2.1, 0) := by rw [← he]
  generalize (frameTakeL ((wrapL b).take k)).1 = c at hq
  generalize (frameTakeL ((wrapL b).take k)).2.1 = r at hq
  obtain ⟨hs, hc⟩ := frame_some _ c r hq
  have h1 : wrapL b = wrapL c ++ (r ++ (wrapL b).drop k) := by
    rw [← List.append_assoc, ← hs, List.take_append_drop]
  have h2 := frame_back c (r ++ (wrapL b).drop k) hc
  have h3 := frame_back b [] hb
  rw [List.append_nil] at h3
  rw [← h1, h3] at h2
  injection h2 with h4 h5
  subst h4
  have h6 := congrArg List.length hs
  rw [List.length_append, List.length_take] at h6
  omega
/-- frames that are cut off somewhere: those that are whole are told -/
theorem all_cut (ls : List (List UInt8)) (b more : List UInt8) (k : Nat) (h : ∀ x ∈ ls, x.length ≤ 1048576) (hb : b.length ≤ 1048576) (h1 : (wrapsL ls).length ≤ k) (h2 : k < (wrapsL ls).length + (wrapL b).length) :
    allL ((wrapsL ls ++ (wrapL b ++ more)).take k) = ls ∧ restL ((wrapsL ls ++ (wrapL b ++ more)).take k) = (wrapL b).take (k - (wrapsL ls).length) := by
  have he : (wrapsL ls ++ (wrapL b ++ more)).take k = wrapsL ls ++ (wrapL b).take (k - (wrapsL ls).length) := by
    rw [List.take_append, List.take_of_length_le h1, List.take_append_of_le_length (by omega)]
  have hs := all_stop _ (frame_cut b (k - (wrapsL ls).length) hb (by omega))
  have ha := all_wraps ls ((wrapL b).take (k - (wrapsL ls).length)) h
  rw [he, ha.1, ha.2, hs.1, hs.2]
  simp
end Go.Proofs.Ythjoamldmcnodaa
