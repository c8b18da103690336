/- The plain law of spans. No program in sight. -/
import Derived.Test.YtbggohdpaodkeaaDoorKey2
namespace Go.Proofs.YtbggohdpaodkeaaDoor
structure Sp where
  lo : List UInt8
  hi : List UInt8
deriving DecidableEq
def zSp : Sp := ⟨[], []⟩
def rightSp (s : Sp) : Bool := (decide (s.lo = []) || rightL s.lo) && (decide (s.hi = []) || (rightL s.hi && decide (cmpL s.lo s.hi < 0)))
def hasSp (s : Sp) (k : List UInt8) : Bool := rightSp s && (rightL k && (decide (cmpL s.lo k ≤ 0) && (decide (s.hi = []) || decide (cmpL k s.hi < 0))))
def cutSp (s : Sp) (x : List UInt8) : Sp × Sp × Nat :=
  if rightSp s = false ∨ rightL x = false then (zSp, zSp, 1) else if x = s.lo ∨ hasSp s x = false then (zSp, zSp, 9) else (⟨s.lo, x⟩, ⟨x, s.hi⟩, 0)
def joinSp (a b : Sp) : Sp × Nat :=
  if rightSp a = false ∨ rightSp b = false then (zSp, 1) else if a.hi = [] ∨ a.hi ≠ b.lo then (zSp, 9) else (⟨a.lo, b.hi⟩, 0)
def aheadSp (lo hi : List UInt8) : Bool := decide (hi = []) || decide (cmpL lo hi < 0)
def meetSp (a b : Sp) : Bool := rightSp a && (rightSp b && (aheadSp a.lo b.hi && aheadSp b.lo a.hi))
def chainF (first : Bool) (last : List UInt8) : List Sp → Bool
  | [] => !first && decide (last = [])
  | s :: r => rightSp s && (decide (s.lo = last) && ((first || !decide (last = [])) && chainF false s.hi r))
def wholeSp (l : List Sp) : Bool := chainF true [] l
/- the document's answers -/
def refCutSp (s : Sp) (x : List UInt8) : Sp × Sp × Nat :=
  if rightSp s = false ∨ rightL x = false then (zSp, zSp, 1) else if rightSp ⟨s.lo, x⟩ = false ∨ rightSp ⟨x, s.hi⟩ = false then (zSp, zSp, 9) else (⟨s.lo, x⟩, ⟨x, s.hi⟩, 0)
def meetOf (a b : Sp) : Sp :=
  ⟨if 0 < cmpL b.lo a.lo then b.lo else a.lo, if b.hi ≠ [] ∧ (a.hi = [] ∨ cmpL b.hi a.hi < 0) then b.hi else a.hi⟩
def refMeetSp (a b : Sp) : Bool := rightSp a && (rightSp b && rightSp (meetOf a b))
def rwF (s : Sp) : List Sp → Bool
  | [] => decide (s = zSp)
  | t :: r => if (joinSp s t).2 ≠ 0 then false else rwF (joinSp s t).1 r
def refWholeSp : List Sp → Bool
  | [] => false
  | s :: r => rightSp s && rwF s r
theorem right_ne {k : List UInt8} (h : rightL k = true) : k ≠ [] ∧ plainL k = true ∧ k.length ≤ 16 := by
  unfold rightL at h
  simp only [Bool.and_eq_true, decide_eq_true_eq] at h
  exact ⟨fun e => by subst e; simp at h, h.1, h.2.2⟩
theorem rightSp_iff (s : Sp) : rightSp s = true ↔ (s.lo = [] ∨ rightL s.lo = true) ∧ (s.hi = [] ∨ (rightL s.hi = true ∧ cmpL s.lo s.hi < 0)) := by
  simp [rightSp]
theorem hasSp_iff (s : Sp) (k : List UInt8) : hasSp s k = true ↔ rightSp s = true ∧ rightL k = true ∧ cmpL s.lo k ≤ 0 ∧ (s.hi = [] ∨ cmpL k s.hi < 0) := by
  simp [hasSp]
theorem aheadSp_iff (lo hi : List UInt8) : aheadSp lo hi = true ↔ (hi = [] ∨ cmpL lo hi < 0) := by
  simp [aheadSp]
theorem meetSp_iff (a b : Sp) : meetSp a b = true ↔ rightSp a = true ∧ rightSp b = true ∧ (b.hi = [] ∨ cmpL a.lo b.hi < 0) ∧ (a.hi = [] ∨ cmpL b.lo a.hi < 0) := by
  simp [meetSp, aheadSp]
theorem lo_plain {s : Sp} (h : rightSp s = true) : plainL s.lo = true := by
  rcases ((rightSp_iff s).1 h).1 with e | e
  · rw [e]; rfl
  · exact (right_ne e).2.1
theorem lo_len {s : Sp} (h : rightSp s = true) : s.lo.length ≤ 16 := by
  rcases ((rightSp_iff s).1 h).1 with e | e
  · rw [e]; simp
  · exact (right_ne e).2.2
theorem hi_len {s : Sp} (h : rightSp s = true) : s.hi.length ≤ 16 := by
  rcases ((rightSp_iff s).1 h).2 with e | e
  · rw [e]; simp
  · exact (right_ne e.1).2.2
/-- both halves of a cut are right just if the place is inside -/
theorem halves (s : Sp) (x : List UInt8) (hs : rightSp s = true) (hx : rightL x = true) :
    (rightSp ⟨s.lo, x⟩ = true ∧ rightSp ⟨x, s.hi⟩ = true) ↔ (x ≠ s.lo ∧ hasSp s x = true) := by
  have hp := lo_plain hs
  obtain ⟨hxn, hxp, _⟩ := right_ne hx
  rw [rightSp_iff, rightSp_iff, hasSp_iff]
  obtain ⟨h1, h2⟩ := (rightSp_iff s).1 hs
  constructor
  · rintro ⟨⟨_, h4⟩, ⟨_, h6⟩⟩
    rcases h4 with h4 | h4
    · exact absurd h4 hxn
    · refine ⟨?_, hs, hx, by have := h4.2; simp only at this; omega, ?_⟩
      · intro e
        have := h4.2
        simp only at this
        rw [← e, cmpL_self] at this
        omega
      · rcases h6 with h6 | h6
        · exact .inl h6
        · exact .inr h6.2
  · rintro ⟨hne, _, _, h3, h4⟩
    refine ⟨⟨h1, .inr ⟨hx, ?_⟩⟩, ⟨.inr hx, ?_⟩⟩
    · have : cmpL s.lo x ≠ 0 := fun e => hne ((cmpL_zero hp hxp).1 e).symm
      simp only
      omega
    · simp only
      rcases h4 with h4 | h4
      · exact .inl h4
      · rcases h2 with h2 | h2
        · exact .inl h2
        · exact .inr ⟨h2.1, h4⟩
theorem refCut_eq (s : Sp) (x : List UInt8) : refCutSp s x = cutSp s x := by
  unfold refCutSp cutSp
  by_cases h : rightSp s = false ∨ rightL x = false
  · rw [if_pos h, if_pos h]
  · rw [if_neg h, if_neg h]
    have hs : rightSp s = true := by cases e : rightSp s <;> simp_all
    have hx : rightL x = true := by cases e : rightL x <;> simp_all
    have hh := halves s x hs hx
    by_cases h2 : x = s.lo ∨ hasSp s x = false
    · rw [if_pos h2, if_pos]
      have : ¬ (rightSp ⟨s.lo, x⟩ = true ∧ rightSp ⟨x, s.hi⟩ = true) := by
        rw [hh]
        rintro ⟨h3, h4⟩
        rcases h2 with h2 | h2
        · exact h3 h2
        · rw [h4] at h2; cases h2
      rcases e1 : rightSp ⟨s.lo, x⟩ with _ | _
      · exact .inl rfl
      · rcases e2 : rightSp ⟨x, s.hi⟩ with _ | _
        · exact .inr rfl
        · exact absurd ⟨e1, e2⟩ this
    · rw [if_neg h2, if_neg]
      have : rightSp ⟨s.lo, x⟩ = true ∧ rightSp ⟨x, s.hi⟩ = true := by
        rw [hh]
        refine ⟨fun e => h2 (.inl e), ?_⟩
        cases e : hasSp s x
        · exact absurd (.inr e) h2
        · rfl
      rw [this.1, this.2]
      simp
theorem meetOf_right (a b : Sp) (ha : rightSp a = true) (hb : rightSp b = true) : rightSp (meetOf a b) = (aheadSp a.lo b.hi && aheadSp b.lo a.hi) := by
  have ha1 := (rightSp_iff a).1 ha
  have hb1 := (rightSp_iff b).1 hb
  rw [Bool.eq_iff_iff, rightSp_iff, Bool.and_eq_true, aheadSp_iff, aheadSp_iff]
  have sw := cmpL_swap a.lo b.lo
  have sh := cmpL_swap a.hi b.hi
  -- the later lower end
  have hlo : ((meetOf a b).lo = [] ∨ rightL (meetOf a b).lo = true) := by
    unfold meetOf
    simp only
    split
    · exact hb1.1
    · exact ha1.1
  have l1 : cmpL a.lo (meetOf a b).lo ≤ 0 := by
    unfold meetOf
    simp only
    split
    · omega
    · rw [cmpL_self]; omega
  have l2 : cmpL b.lo (meetOf a b).lo ≤ 0 := by
    unfold meetOf
    simp only
    split
    · rw [cmpL_self]; omega
    · omega
  have l3 : (meetOf a b).lo = a.lo ∨ (meetOf a b).lo = b.lo := by
    unfold meetOf
    simp only
    split
    · exact .inr rfl
    · exact .inl rfl
  constructor
  · rintro ⟨_, h2⟩
    unfold meetOf at h2 l1 l2
    simp only at h2 l1 l2
    constructor
    · by_cases hbh : b.hi = []
      · exact .inl hbh
      · right
        by_cases hc : b.hi ≠ [] ∧ (a.hi = [] ∨ cmpL b.hi a.hi < 0)
        · rw [if_pos hc] at h2
          rcases h2 with h2 | h2
          · exact absurd h2 hbh
          · exact cmpL_trans_le l1 h2.2
        · rw [if_neg hc] at h2
          have hah : ¬ a.hi = [] := fun e => hc ⟨hbh, .inl e⟩
          have hge : ¬ cmpL b.hi a.hi < 0 := fun e => hc ⟨hbh, .inr e⟩
          rcases h2 with h2 | h2
          · exact absurd h2 hah
          · exact cmpL_trans_lt (cmpL_trans_le l1 h2.2) (by omega)
    · by_cases hah : a.hi = []
      · exact .inl hah
      · right
        by_cases hc : b.hi ≠ [] ∧ (a.hi = [] ∨ cmpL b.hi a.hi < 0)
        · rw [if_pos hc] at h2
          rcases h2 with h2 | h2
          · exact absurd h2 hc.1
          · have h3 : cmpL b.hi a.hi < 0 := by
              rcases hc.2 with h3 | h3
              · exact absurd h3 hah
              · exact h3
            exact cmpL_trans_lt (cmpL_trans_le l2 h2.2) (by omega)
        · rw [if_neg hc] at h2
          rcases h2 with h2 | h2
          · exact absurd h2 hah
          · exact cmpL_trans_le l2 h2.2
  · rintro ⟨h1, h2⟩
    refine ⟨hlo, ?_⟩
    have hh : ∀ hi, (hi = a.hi ∨ hi = b.hi) → hi ≠ [] → rightL hi = true ∧ cmpL (meetOf a b).lo hi < 0 := by
      rintro hi (rfl | rfl) hne
      · rcases ha1.2 with e | e
        · exact absurd e hne
        · refine ⟨e.1, ?_⟩
          rcases l3 with e3 | e3
          · rw [e3]; exact e.2
          · rw [e3]
            rcases h2 with h2 | h2
            · exact absurd h2 hne
            · exact h2
      · rcases hb1.2 with e | e
        · exact absurd e hne
        · refine ⟨e.1, ?_⟩
          rcases l3 with e3 | e3
          · rw [e3]
            rcases h1 with h1 | h1
            · exact absurd h1 hne
            · exact h1
          · rw [e3]; exact e.2
    by_cases hm : (meetOf a b).hi = []
    · exact .inl hm
    · right
      refine hh _ ?_ hm
      unfold meetOf
      simp only
      split
      · exact .inr rfl
      · exact .inl rfl
theorem refMeet_eq (a b : Sp) : refMeetSp a b = meetSp a b := by
  unfold refMeetSp meetSp
  cases ha : rightSp a
  · simp
  · cases hb : rightSp b
    · simp
    · simp only [Bool.true_and]
      exact meetOf_right a b ha hb
theorem meet_swap (a b : Sp) : meetSp b a = meetSp a b := by
  unfold meetSp
  cases rightSp a <;> cases rightSp b <;> cases aheadSp a.lo b.hi <;> cases aheadSp b.lo a.hi <;> rfl
theorem join_right {a b : Sp} (ha : rightSp a = true) (hb : rightSp b = true) (h1 : a.hi ≠ []) (h2 : a.hi = b.lo) : rightSp ⟨a.lo, b.hi⟩ = true := by
  have ha1 := (rightSp_iff a).1 ha
  have hb1 := (rightSp_iff b).1 hb
  rw [rightSp_iff]
  refine ⟨ha1.1, ?_⟩
  rcases hb1.2 with e | e
  · exact .inl e
  · right
    refine ⟨e.1, ?_⟩
    rcases ha1.2 with f | f
    · exact absurd f h1
    · have := e.2
      rw [← h2] at this
      exact cmpL_trans_lt f.2 (Int.le_of_lt this)
theorem rwF_eq (r : List Sp) : ∀ s, rightSp s = true → rwF s r = (decide (s.lo = []) && chainF false s.hi r) := by
  induction r with
  | nil =>
    intro s _
    obtain ⟨lo, hi⟩ := s
    simp [rwF, chainF, zSp]
  | cons t r ih =>
    intro s hs
    simp only [rwF, chainF]
    cases ht : rightSp t
    · simp [joinSp, ht]
    · by_cases h : s.hi = [] ∨ s.hi ≠ t.lo
      · have hj : (joinSp s t).2 ≠ 0 := by simp [joinSp, hs, ht, h]
        rw [if_pos hj]
        rcases h with h | h
        · simp [h]
        · have : ¬ t.lo = s.hi := fun e => h e.symm
          simp [this]
      · have hj : joinSp s t = (⟨s.lo, t.hi⟩, 0) := by simp [joinSp, hs, ht, h]
        rw [hj]
        have h1 : s.hi ≠ [] := fun e => h (.inl e)
        have h2 : s.hi = t.lo := Classical.byContradiction fun e => h (.inr e)
        rw [if_neg (by simp)]
        rw [ih _ (join_right hs ht h1 h2)]
        simp [h1, h2.symm]
theorem refWhole_eq (l : List Sp) : refWholeSp l = wholeSp l := by
  cases l with
  | nil => rfl
  | cons s r =>
    simp only [refWholeSp, wholeSp, chainF]
    cases hs : rightSp s
    · simp
    · rw [rwF_eq r s hs]
      simp
/- the laws -/
def countSp (k : List UInt8) : List Sp → Nat
  | [] => 0
  | s :: r => (if hasSp s k = true then 1 else 0) + countSp k r
theorem once_from (k : List UInt8) (hk : rightL k = true) (r : List Sp) : ∀ first last, chainF first last r = true → r ≠ [] → countSp k r = if cmpL last k ≤ 0 then 1 else 0 := by
  induction r with
  | nil => intro _ _ _ h; exact absurd rfl h
  | cons s r ih =>
    intro first last h _
    simp only [chainF, Bool.and_eq_true, decide_eq_true_eq] at h
    obtain ⟨hs, hlo, _, hr⟩ := h
    subst hlo
    simp only [countSp]
    have hs1 := (rightSp_iff s).1 hs
    by_cases hrn : r = []
    · subst hrn
      simp [chainF] at hr
      have : hasSp s k = true ↔ cmpL s.lo k ≤ 0 := by
        rw [hasSp_iff]
        simp [hs, hk, hr]
      simp only [countSp, Nat.add_zero, this]
    · have hhi : s.hi ≠ [] := by
        intro e
        cases r with
        | nil => exact hrn rfl
        | cons t r => simp [chainF, e] at hr
      rw [ih false s.hi hr hrn]
      have hlt : cmpL s.lo s.hi < 0 := by
        rcases hs1.2 with e | e
        · exact absurd e hhi
        · exact e.2
      have hsw := cmpL_swap k s.hi
      have : hasSp s k = true ↔ cmpL s.lo k ≤ 0 ∧ cmpL k s.hi < 0 := by
        rw [hasSp_iff]
        simp [hs, hk, hhi]
      by_cases h1 : cmpL s.hi k ≤ 0
      · have h2 : cmpL s.lo k ≤ 0 := by have := cmpL_trans_lt hlt h1; omega
        have h3 : ¬ hasSp s k = true := by rw [this]; omega
        rw [if_neg h3, if_pos h1, if_pos h2]
      · rw [if_neg h1]
        by_cases h2 : cmpL s.lo k ≤ 0
        · have h3 : hasSp s k = true := by rw [this]; omega
          rw [if_pos h3, if_pos h2]
        · have h3 : ¬ hasSp s k = true := by rw [this]; omega
          rw [if_neg h3, if_neg h2]
theorem cmpL_nil_right {k : List UInt8} (h : k ≠ []) : cmpL [] k = -1 := by
  unfold cmpL
  rw [letters_cons k h]
  rfl
theorem once (k : List UInt8) (l : List Sp) (hk : rightL k = true) (h : wholeSp l = true) : countSp k l = 1 := by
  have hne : l ≠ [] := by rintro rfl; simp [wholeSp, chainF] at h
  rw [once_from k hk l true [] h hne, cmpL_nil_right (right_ne hk).1]
  rfl
theorem meet_common (a b : Sp) (k : List UInt8) (ha : hasSp a k = true) (hb : hasSp b k = true) : meetSp a b = true := by
  rw [hasSp_iff] at ha hb
  rw [meetSp_iff]
  obtain ⟨a1, a2, a3, a4⟩ := ha
  obtain ⟨b1, b2, b3, b4⟩ := hb
  refine ⟨a1, b1, ?_, ?_⟩
  · rcases b4 with e | e
    · exact .inl e
    · exact .inr (cmpL_trans_le a3 e)
  · rcases a4 with e | e
    · exact .inl e
    · exact .inr (cmpL_trans_le b3 e)
theorem meet_self (a : Sp) : meetSp a a = rightSp a := by
  rw [Bool.eq_iff_iff, meetSp_iff]
  constructor
  · exact fun h => h.1
  · intro h
    have h2 := ((rightSp_iff a).1 h).2
    have h3 : a.hi = [] ∨ cmpL a.lo a.hi < 0 := by
      rcases h2 with e | e
      · exact .inl e
      · exact .inr e.2
    exact ⟨h, h, h3, h3⟩
/-- what a cut that was done is -/
structure CutDone (s : Sp) (x : List UInt8) : Prop where
  eq : cutSp s x = (⟨s.lo, x⟩, ⟨x, s.hi⟩, 0)
  a : rightSp ⟨s.lo, x⟩ = true
  b : rightSp ⟨x, s.hi⟩ = true
  s : rightSp s = true
  x : rightL x = true
theorem cut_cases (s : Sp) (x : List UInt8) : (∃ e, cutSp s x = (zSp, zSp, e) ∧ (e = 1 ∨ e = 9)) ∨ CutDone s x := by
  unfold cutSp
  by_cases h : rightSp s = false ∨ rightL x = false
  · exact .inl ⟨1, by rw [if_pos h], .inl rfl⟩
  · by_cases h2 : x = s.lo ∨ hasSp s x = false
    · exact .inl ⟨9, by rw [if_neg h, if_pos h2], .inr rfl⟩
    · right
      have hs : rightSp s = true := by cases e : rightSp s <;> simp_all
      have hx : rightL x = true := by cases e : rightL x <;> simp_all
      have hh := (halves s x hs hx).2 ⟨fun e => h2 (.inl e), by cases e : hasSp s x <;> simp_all⟩
      exact ⟨by unfold cutSp; rw [if_neg h, if_neg h2], hh.1, hh.2, hs, hx⟩
theorem CutDone.lt {s : Sp} {x : List UInt8} (h : CutDone s x) : cmpL s.lo x < 0 := by
  rcases ((rightSp_iff _).1 h.a).2 with e | e
  · exact absurd e (right_ne h.x).1
  · exact e.2
theorem CutDone.up {s : Sp} {x : List UInt8} (h : CutDone s x) : s.hi = [] ∨ cmpL x s.hi < 0 := by
  rcases ((rightSp_iff _).1 h.b).2 with e | e
  · exact .inl e
  · exact .inr e.2
theorem CutDone.all {s : Sp} {x : List UInt8} (h : CutDone s x) : s.hi = [] ∨ cmpL s.lo s.hi < 0 := by
  rcases h.up with e | e
  · exact .inl e
  · exact .inr (cmpL_trans_lt h.lt (by omega))
theorem CutDone.join {s : Sp} {x : List UInt8} (h : CutDone s x) : joinSp ⟨s.lo, x⟩ ⟨x, s.hi⟩ = (s, 0) := by
  unfold joinSp
  rw [h.a, h.b, if_neg (by simp), if_neg (by have := (right_ne h.x).1; simp [this])]
theorem CutDone.apart {s : Sp} {x : List UInt8} (h : CutDone s x) : meetSp ⟨s.lo, x⟩ ⟨x, s.hi⟩ = false := by
  cases e : meetSp ⟨s.lo, x⟩ ⟨x, s.hi⟩
  · rfl
  · exfalso
    rw [meetSp_iff] at e
    have := e.2.2.2
    simp only at this
    rcases this with f | f
    · exact (right_ne h.x).1 f
    · rw [cmpL_self] at f; omega
theorem CutDone.left {s : Sp} {x : List UInt8} (h : CutDone s x) : meetSp ⟨s.lo, x⟩ s = true := by
  rw [meetSp_iff]
  exact ⟨h.a, h.s, h.all, .inr h.lt⟩
theorem CutDone.right {s : Sp} {x : List UInt8} (h : CutDone s x) : meetSp s ⟨x, s.hi⟩ = true := by
  rw [meetSp_iff]
  exact ⟨h.s, h.b, h.all, h.up⟩
theorem CutDone.keys {s : Sp} {x : List UInt8} (h : CutDone s x) (k : List UInt8) :
    hasSp s k = (hasSp ⟨s.lo, x⟩ k || hasSp ⟨x, s.hi⟩ k) ∧ (hasSp ⟨s.lo, x⟩ k && hasSp ⟨x, s.hi⟩ k) = false := by
  cases hk : rightL k
  · simp [hasSp, hk]
  · have hxn := (right_ne h.x).1
    have e1 : hasSp s k = (decide (cmpL s.lo k ≤ 0) && (decide (s.hi = []) || decide (cmpL k s.hi < 0))) := by simp [hasSp, hk, h.s]
    have e2 : hasSp ⟨s.lo, x⟩ k = (decide (cmpL s.lo k ≤ 0) && decide (cmpL k x < 0)) := by simp [hasSp, hk, h.a, hxn]
    have e3 : hasSp ⟨x, s.hi⟩ k = (decide (cmpL x k ≤ 0) && (decide (s.hi = []) || decide (cmpL k s.hi < 0))) := by simp [hasSp, hk, h.b]
    rw [e1, e2, e3]
    have hsw := cmpL_swap k x
    have hlt := h.lt
    by_cases h1 : cmpL k x < 0
    · have h2 : ¬ cmpL x k ≤ 0 := by omega
      have h3 : (decide (s.hi = []) || decide (cmpL k s.hi < 0)) = true := by
        rcases h.up with e | e
        · simp [e]
        · have := cmpL_trans_lt h1 (show cmpL x s.hi ≤ 0 by omega)
          simp [this]
      rw [h3]
      simp [h1, h2]
    · have h2 : cmpL x k ≤ 0 := by omega
      have h3 : cmpL s.lo k ≤ 0 := by have := cmpL_trans_lt hlt h2; omega
      simp [h1, h2, h3]
end Go.Proofs.YtbggohdpaodkeaaDoor
