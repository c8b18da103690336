/- The formats of shards and cells, as book and as the document read them. -/
import Derived.Test.YtkoligiilieboaaGreatDoorMgC
set_option linter.unusedSimpArgs false
set_option linter.unusedVariables false
namespace Go.Proofs.YtkoligiilieboaaGreatDoor
open Go.RowKit
variable {α β : Type}
theorem seqC_eq {f : Fmt α} {g : Fmt β} {r r1 r2 : RS} {v : α} {u : β} (h1 : f.rd r = (v, r1)) (h2 : g.rd r1 = (u, r2)) : (f.seq g).rd r = ((v, u), r2) := seq_eq h1 h2
/-! the document's readers -/
theorem takeN_er {s : List UInt8} (h : (takeN s).2.2 ≠ 0) : (takeN s).2.1 = [] := (take_err s h).2.1
theorem takeText_er {s : List UInt8} (h : (takeTextL s).2.2 ≠ 0) : (takeTextL s).2.1 = [] := by
  unfold takeTextL at *
  split at h <;> rename_i g1
  · rw [if_pos g1]
  · split at h <;> rename_i g2
    · rw [if_neg g1, if_pos g2]
    · exact absurd rfl h
theorem takeFlag_er {s : List UInt8} (h : (takeFlagL s).2.2 ≠ 0) : (takeFlagL s).2.1 = [] := by
  cases s with
  | nil => rfl
  | cons b r =>
    show (if 1 < b.toNat then ((false, [], 3) : Bool × List UInt8 × Nat) else (b.toNat == 1, r, 0)).2.1 = []
    have h : (if 1 < b.toNat then ((false, [], 3) : Bool × List UInt8 × Nat) else (b.toNat == 1, r, 0)).2.2 ≠ 0 := h
    split at h <;> rename_i g
    · rw [if_pos g]
    · exact absurd rfl h
theorem takeStamp_er {s : List UInt8} (h : (takeStampL s).2.2 ≠ 0) : (takeStampL s).2.1 = [] := by
  unfold takeStampL at *
  split at h <;> rename_i g1
  · rw [if_pos g1]
  · split at h <;> rename_i g2
    · rw [if_neg g1, if_pos g2]
    · split at h <;> rename_i g3
      · rw [if_neg g1, if_neg g2, if_pos g3]
      · split at h <;> rename_i g4
        · rw [if_neg g1, if_neg g2, if_neg g3, if_pos g4]
        · exact absurd rfl h
def cNum : Fmt Int := Fmt.oneC takeN (fun z => (putI z).1) (fun z => 0 ≤ z ∧ z < 9223372036854775808) (fun _ more h => takeN_put more h.1 h.2) (fun _ _ _ h => ⟨(takeN_ok h).1, (takeN_ok h).2⟩) (fun _ h => takeN_er h)
def cText : Fmt (List UInt8) := Fmt.oneC takeTextL textL (fun l => l.length < 9223372036854775808) (fun v more h => takeText_text v more (by omega)) (fun _ _ _ h => takeText_ok h) (fun _ h => takeText_er h)
def cFlag : Fmt Bool := Fmt.oneC takeFlagL flagL (fun _ => True) (fun v more _ => takeFlag_flag v more) (fun _ _ _ h => takeFlag_ok h) (fun _ h => takeFlag_er h)
def cStamp : Fmt Stm := Fmt.oneC takeStampL stampB (fun v => rightB v.1 v.2.1 v.2.2 = true) (fun _ more h => takeStamp_put more h) (fun _ _ _ h => takeStamp_ok h) (fun _ h => takeStamp_er h)
theorem cdN_bad (f : RS → α × RS) (k : Nat) (s : List UInt8) : cdN f k ⟨true, s⟩ = ([], ⟨true, s⟩) := by
  induction k with
  | zero => rfl
  | succ k ih => unfold cdN; rw [ih]; rfl
def cList (f : Fmt α) : Fmt (List α) where
  enc l := (putI (l.length : Int)).1 ++ encL f l
  ok l := l.length < 9223372036854775808 ∧ ∀ x ∈ l, f.ok x
  rd r := cdN f.rd (cNum.rd r).1.toNat (cNum.rd r).2
  fwd l more h := by
    have h1 : cNum.rd ⟨false, (putI (l.length : Int)).1 ++ encL f l ++ more⟩ = ((l.length : Int), ⟨false, encL f l ++ more⟩) := by
      rw [List.append_assoc]
      exact cNum.fwd (l.length : Int) _ ⟨by omega, by omega⟩
    rw [h1]
    exact f.cdN_fwd l more h.2
  bwd s l r h hb := by
    obtain ⟨⟨c, ⟨cb, cs⟩⟩, hc⟩ : ∃ x, cNum.rd ⟨false, s⟩ = x := ⟨_, rfl⟩
    rw [hc] at h
    simp only at h
    cases cb with
    | true =>
      rw [cdN_bad] at h
      injection h with _ h
      subst h
      cases hb
    | false =>
      have e := f.cdN_eq c.toNat ⟨false, cs⟩ (by rw [h]; exact hb)
      rw [h] at e
      obtain ⟨e2, o2⟩ := f.rdN_bwd _ _ _ _ e hb
      have hl := rdN_len f.rd c.toNat ⟨false, cs⟩
      rw [e] at hl
      simp only at hl
      obtain ⟨e1, p1, p2⟩ := cNum.bwd s c _ hc rfl
      simp only at e1
      refine ⟨?_, by omega, o2⟩
      rw [show ((l.length : Nat) : Int) = c by omega, List.append_assoc, ← e2]
      exact e1
  bad s := by
    obtain ⟨⟨c, ⟨cb, cs⟩⟩, hc⟩ : ∃ x, cNum.rd ⟨true, s⟩ = x := ⟨_, rfl⟩
    have := cNum.bad s
    rw [hc] at this ⊢
    simp only at this
    subst this
    rw [cdN_bad]
  len r := Nat.le_trans (f.cdN_slen _ _) (cNum.len r)
theorem clist_eq {f : Fmt α} {r r1 r2 : RS} {c : Int} {l : List α} (h1 : cNum.rd r = (c, r1)) (h2 : cdN f.rd c.toNat r1 = (l, r2)) : (cList f).rd r = (l, r2) := by
  show cdN f.rd (cNum.rd r).1.toNat (cNum.rd r).2 = _
  rw [h1]
  exact h2
/-! shards -/
def mkVs (p : Stm × Bool × List UInt8) : Vs := ⟨p.1.1, p.1.2.1, p.1.2.2, p.2.1, p.2.2⟩
def ofVs (v : Vs) : Stm × Bool × List UInt8 := ((v.a, v.t, v.n), v.gone, v.val)
def fVs : Fmt Vs := (fStamp.seq (fFlag.seq fText)).as mkVs ofVs (fun _ => rfl) (fun _ => rfl)
theorem fVs_pos (v : Vs) (_ : fVs.ok v) : 0 < (fVs.enc v).length := by
  have := textL_pos v.val
  show 0 < (stampB (v.a, v.t, v.n) ++ (flagL v.gone ++ textL v.val)).length
  simp only [List.length_append]
  omega
def fEn : Fmt EnL := fText.seq (fList fVs fVs_pos)
theorem fEn_pos (v : EnL) (_ : fEn.ok v) : 0 < (fEn.enc v).length := by
  have := textL_pos v.1
  show 0 < (textL v.1 ++ _).length
  rw [List.length_append]
  omega
def fDn : Fmt DnF := fNum.seq (fNum.seq (fNum.seq (fStamp.seq (fFlag.seq fText))))
theorem fDn_pos (v : DnF) (_ : fDn.ok v) : 0 < (fDn.enc v).length := by
  have := textL_pos v.2.2.2.2.2
  show 0 < ((putI v.1).1 ++ ((putI v.2.1).1 ++ ((putI v.2.2.1).1 ++ (stampB v.2.2.2.1 ++ (flagL v.2.2.2.2.1 ++ textL v.2.2.2.2.2))))).length
  simp only [List.length_append]
  omega
def fShH : Fmt ShH := fNum.seq (fNum.seq (fNum.seq (fNum.seq (fNum.seq (fNum.seq (fNum.seq (fText.seq (fText.seq (fStamp.seq fStamp)))))))))
abbrev ShF := ShH × List EnL × List DnF
abbrev CeF := Stp × Int × List ShF
def fSh : Fmt ShF := fShH.seq ((fList fEn fEn_pos).seq (fList fDn fDn_pos))
theorem fSh_pos (v : ShF) (h : fSh.ok v) : 0 < (fSh.enc v).length := by
  have := putI_pos (show (0 : Int) ≤ v.1.1 from h.1.1.1)
  show 0 < (((putI v.1.1).1 ++ _) ++ _).length
  simp only [List.length_append]
  omega
def fCe : Fmt CeF := fStamp.seq (fNum.seq (fList fSh fSh_pos))
def cVs : Fmt Vs := (cStamp.seq (cFlag.seq cText)).as mkVs ofVs (fun _ => rfl) (fun _ => rfl)
def cEn : Fmt EnL := cText.seq (cList cVs)
def cDn : Fmt DnF := cNum.seq (cNum.seq (cNum.seq (cStamp.seq (cFlag.seq cText))))
def cShH : Fmt ShH := cNum.seq (cNum.seq (cNum.seq (cNum.seq (cNum.seq (cNum.seq (cNum.seq (cText.seq (cText.seq (cStamp.seq cStamp)))))))))
def cSh : Fmt ShF := cShH.seq ((cList cEn).seq (cList cDn))
def cCe : Fmt CeF := cStamp.seq (cNum.seq (cList cSh))
theorem cSh_enc (v : ShF) : cSh.enc v = fSh.enc v := rfl
theorem cCe_enc (v : CeF) : cCe.enc v = fCe.enc v := rfl
/-! what is held, as a format sees it -/
def shF (s : Sh) : ShF := (shH s, s.es.map enL, s.ds.map dnF)
def ceF (c : Ce) : CeF := ((c.ta, c.tt, c.tn), c.drop, c.ss.map shF)
def plainSh (s : Sh) : Prop := ∀ d ∈ s.ds, d.ans.itn = 0 ∧ d.its = [] ∧ d.ans.nx = [] ∧ d.ans.mo = false
theorem map_ext2 {γ : Type} {f : α → γ} {g : β → γ} {l : List α} {m : List β} (h : l.map f = m.map g) {δ : Type} {f' : α → δ} {g' : β → δ} (hfg : ∀ x ∈ l, ∀ y ∈ m, f x = g y → f' x = g' y) : l.map f' = m.map g' := by
  induction l generalizing m with
  | nil => cases m with
    | nil => rfl
    | cons y m => simp at h
  | cons x l ih => cases m with
    | nil => simp at h
    | cons y m =>
      simp only [List.map_cons, List.cons.injEq] at h ⊢
      exact ⟨hfg x List.mem_cons_self y List.mem_cons_self h.1, ih h.2 fun a ha b hb => hfg a (List.mem_cons_of_mem _ ha) b (List.mem_cons_of_mem _ hb)⟩
theorem shL_of_F {s u : Sh} (hs : plainSh s) (hu : plainSh u) (h : shF s = shF u) : shL s = shL u := by
  unfold shF at h
  simp only [Prod.mk.injEq] at h
  obtain ⟨h1, h2, h3⟩ := h
  unfold shL
  rw [h1, h2, map_ext2 h3 (f' := dnL) (g' := dnL) fun x hx y hy e => ?_]
  obtain ⟨_, a2, a3, a4⟩ := hs x hx
  obtain ⟨_, b2, b3, b4⟩ := hu y hy
  unfold dnL
  rw [e, a2, a3, a4, b2, b3, b4]
def plainCe (c : Ce) : Prop := ∀ s ∈ c.ss, plainSh s
theorem ceL_of_F {c d : Ce} (hc : plainCe c) (hd : plainCe d) (h : ceF c = ceF d) : ceL c = ceL d := by
  unfold ceF at h
  simp only [Prod.mk.injEq] at h
  obtain ⟨⟨h1, h2, h3⟩, h4, h5⟩ := h
  unfold ceL
  rw [h1, h2, h3, h4, map_ext2 h5 (f' := shL) (g' := shL) fun x hx y hy e => shL_of_F (hc x hx) (hd y hy) e]
end Go.Proofs.YtkoligiilieboaaGreatDoor
