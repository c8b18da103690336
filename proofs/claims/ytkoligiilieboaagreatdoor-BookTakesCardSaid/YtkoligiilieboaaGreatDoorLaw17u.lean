/- What book and the document answer, told the same bytes: both the same, or both nothing. -/
import Derived.Test.YtkoligiilieboaaGreatDoorDc3
import Derived.Test.YtkoligiilieboaaGreatDoorDc4
import Derived.Test.YtkoligiilieboaaGreatDoorDr6
import Derived.Test.YtkoligiilieboaaGreatDoorMgE
set_option linter.unusedSimpArgs false
set_option linter.unusedVariables false
namespace Go.Proofs.YtkoligiilieboaaGreatDoor
open Go.RowKit
attribute [local go_sem] ByteArray.mk_append_mk ByteArray.extract_mk
attribute [local go_sem ↓] Go.wp_at_zero Go.wp_at_succ
def zSh : Sh := ⟨0, 0, [], [], 0, none, 0, 0, 0, 0, 0, 0, 0, 0, none, 0, 0, 0, 0, 0, 0, [], []⟩
theorem zSh_in (w : World) (B : Nat) : ShIn w B zSh := ⟨rfl, Nat.le_refl _, Nat.zero_le _, fun h => absurd h (by simp [zSh]), (fun e he => by cases he), rfl, Nat.le_refl _, Nat.zero_le _, fun h => absurd h (by simp [zSh]), (fun e he => by cases he)⟩
def ShSum (t : List UInt8) (s : Sh) (en : Int) : Prop := plainSh s ∧ ((en = 0 ∧ fSh.rd ⟨false, t⟩ = (shF s, ⟨false, []⟩) ∧ shB s = true) ∨ (en = 3 ∧ s = zSh ∧ ∃ s' r, fSh.rd ⟨false, t⟩ = (shF s', r) ∧ plainSh s' ∧ (r.bad = true ∨ r.s ≠ [] ∨ shB s' = false)))
def DShSum (t : List UInt8) (u : Sh) (ok : Bool) : Prop := plainSh u ∧ ((ok = true ∧ t = shBy u ∧ fSh.enc (shF u) = shBy u ∧ shB u = true) ∨ (ok = false ∧ u = zSh ∧ ∃ s' r, cSh.rd ⟨false, t⟩ = (shF s', r) ∧ fSh.enc (shF s') = shBy s' ∧ plainSh s' ∧ (r.bad = true ∨ shB s' = false ∨ shBy s' ≠ t)))
theorem sh_sum {t : List UInt8} {w w' : World} {e : Ending} (h : TakeShardPost t w e w') : ∃ s en, e = .returned (.tuple #[shV s, .int .i64 en]) ∧ ShIn w' w'.heap.size s ∧ ShSum t s en ∧ Below w.heap.size w w' := by
  rcases h with ⟨s, he, h1, h2, h3, h4, h5⟩ | ⟨he, h1, h5⟩
  · exact ⟨s, 0, he, h3, ⟨h4, .inl ⟨rfl, h1, h2⟩⟩, h5⟩
  · exact ⟨zSh, 3, he, zSh_in _ _, ⟨(fun d hd => by cases hd), .inr ⟨rfl, rfl, h1⟩⟩, h5⟩
theorem dsh_sum {t : List UInt8} {w w' : World} {e : Ending} (h : DTakeShardPost t w e w') : ∃ s ok, e = .returned (.tuple #[shV s, .bool ok]) ∧ ShIn w' w'.heap.size s ∧ DShSum t s ok ∧ Below w.heap.size w w' := by
  rcases h with ⟨s, he, h1, h2, h3, h4, h5, h6⟩ | ⟨he, h1, h5⟩
  · exact ⟨s, true, he, h4, ⟨h5, .inl ⟨rfl, h1, h2, h3⟩⟩, h6⟩
  · exact ⟨zSh, false, he, zSh_in _ _, ⟨(fun d hd => by cases hd), .inr ⟨rfl, rfl, h1⟩⟩, h5⟩
theorem sh_joint {t : List UInt8} {s u : Sh} {en : Int} {ok : Bool} (h : ShSum t s en) (k : DShSum t u ok) : shL s = shL u ∧ (en = 0 ∧ ok = true ∨ en = 3 ∧ ok = false) := by
  obtain ⟨ps, h⟩ := h
  obtain ⟨pu, k⟩ := k
  rcases h with ⟨rfl, h1, h2⟩ | ⟨rfl, rfl, s', r, h1, p', h2⟩ <;> rcases k with ⟨rfl, k1, k2, k3⟩ | ⟨rfl, rfl, u', q, k1, k2, q', k3⟩
  · have h3 := fSh.fwd _ [] (shard_ok k3)
    rw [List.append_nil, k2, ← k1, h1] at h3
    injection h3 with h3 _
    exact ⟨shL_of_F ps pu h3, .inl ⟨rfl, rfl⟩⟩
  · exfalso
    obtain ⟨e1, e2⟩ := fSh.bwd _ _ _ h1 rfl
    have e1 : t = fSh.enc (shF s) ++ [] := e1
    rw [List.append_nil] at e1
    have h3 := cSh.fwd (shF s) [] (shard_ok h2)
    rw [List.append_nil, cSh_enc, ← e1, k1] at h3
    injection h3 with h3 h4
    subst h4
    rcases k3 with k3 | k3 | k3
    · cases k3
    · rw [shB_congr q' ps h3, h2] at k3
      cases k3
    · exact k3 (by rw [← k2, h3, ← e1])
  · exfalso
    have h3 := fSh.fwd _ [] (shard_ok k3)
    rw [List.append_nil, k2, ← k1, h1] at h3
    injection h3 with h3 h4
    subst h4
    rcases h2 with h2 | h2 | h2
    · cases h2
    · exact h2 rfl
    · rw [shB_congr p' pu h3, k3] at h2
      cases h2
  · exact ⟨rfl, .inr ⟨rfl, rfl⟩⟩
def zCe : Ce := ⟨none, 0, 0, 0, 0, 0, 0, []⟩
theorem zCe_in (w : World) (B : Nat) : CeIn w B zCe := ⟨rfl, Nat.le_refl _, Nat.zero_le _, fun h => absurd h (by simp [zCe]), (fun e he => by cases he)⟩
def CeSum (t : List UInt8) (s : Ce) (en : Int) : Prop := plainCe s ∧ ((en = 0 ∧ fCe.rd ⟨false, t⟩ = (ceF s, ⟨false, []⟩) ∧ ceB s = true) ∨ (en = 3 ∧ s = zCe ∧ ∃ s' r, fCe.rd ⟨false, t⟩ = (ceF s', r) ∧ plainCe s' ∧ (r.bad = true ∨ r.s ≠ [] ∨ ceB s' = false)))
def DCeSum (t : List UInt8) (u : Ce) (ok : Bool) : Prop := plainCe u ∧ ((ok = true ∧ t = ceBy u ∧ fCe.enc (ceF u) = ceBy u ∧ ceB u = true) ∨ (ok = false ∧ u = zCe ∧ ∃ s' r, cCe.rd ⟨false, t⟩ = (ceF s', r) ∧ fCe.enc (ceF s') = ceBy s' ∧ plainCe s' ∧ (r.bad = true ∨ ceB s' = false ∨ ceBy s' ≠ t)))
theorem ce_sum {t : List UInt8} {w w' : World} {e : Ending} (h : TakeCellPost t w e w') : ∃ s en, e = .returned (.tuple #[ceV s, .int .i64 en]) ∧ CeIn w' w'.heap.size s ∧ CeSum t s en ∧ Below w.heap.size w w' := by
  rcases h with ⟨s, he, h1, h2, h3, h4, h5⟩ | ⟨he, h1, h5⟩
  · exact ⟨s, 0, he, h3, ⟨h4, .inl ⟨rfl, h1, h2⟩⟩, h5⟩
  · exact ⟨zCe, 3, he, zCe_in _ _, ⟨(fun d hd => by cases hd), .inr ⟨rfl, rfl, h1⟩⟩, h5⟩
theorem dce_sum {t : List UInt8} {w w' : World} {e : Ending} (h : DTakeCellPost t w e w') : ∃ s ok, e = .returned (.tuple #[ceV s, .bool ok]) ∧ CeIn w' w'.heap.size s ∧ DCeSum t s ok ∧ Below w.heap.size w w' := by
  rcases h with ⟨s, he, h1, h2, h3, h4, h5, h6⟩ | ⟨he, h1, h5⟩
  · exact ⟨s, true, he, h4, ⟨h5, .inl ⟨rfl, h1, h2, h3⟩⟩, h6⟩
  · exact ⟨zCe, false, he, zCe_in _ _, ⟨(fun d hd => by cases hd), .inr ⟨rfl, rfl, h1⟩⟩, h5⟩
theorem ce_joint {t : List UInt8} {s u : Ce} {en : Int} {ok : Bool} (h : CeSum t s en) (k : DCeSum t u ok) : ceL s = ceL u ∧ (en = 0 ∧ ok = true ∨ en = 3 ∧ ok = false) := by
  obtain ⟨ps, h⟩ := h
  obtain ⟨pu, k⟩ := k
  rcases h with ⟨rfl, h1, h2⟩ | ⟨rfl, rfl, s', r, h1, p', h2⟩ <;> rcases k with ⟨rfl, k1, k2, k3⟩ | ⟨rfl, rfl, u', q, k1, k2, q', k3⟩
  · have h3 := fCe.fwd _ [] (cell_ok k3)
    rw [List.append_nil, k2, ← k1, h1] at h3
    injection h3 with h3 _
    exact ⟨ceL_of_F ps pu h3, .inl ⟨rfl, rfl⟩⟩
  · exfalso
    obtain ⟨e1, e2⟩ := fCe.bwd _ _ _ h1 rfl
    have e1 : t = fCe.enc (ceF s) ++ [] := e1
    rw [List.append_nil] at e1
    have h3 := cCe.fwd (ceF s) [] (cell_ok h2)
    rw [List.append_nil, cCe_enc, ← e1, k1] at h3
    injection h3 with h3 h4
    subst h4
    rcases k3 with k3 | k3 | k3
    · cases k3
    · rw [ceB_congr q' ps h3, h2] at k3
      cases k3
    · exact k3 (by rw [← k2, h3, ← e1])
  · exfalso
    have h3 := fCe.fwd _ [] (cell_ok k3)
    rw [List.append_nil, k2, ← k1, h1] at h3
    injection h3 with h3 h4
    subst h4
    rcases h2 with h2 | h2 | h2
    · cases h2
    · exact h2 rfl
    · rw [ceB_congr p' pu h3, k3] at h2
      cases h2
  · exact ⟨rfl, .inr ⟨rfl, rfl⟩⟩
def zMs : Ms := ⟨0, 0, 0, 0, 0, 0, 0, 0, 0, 0, 0, 0, [], ⟨0, 0, 0, [], [], false, [], 0, 0, 0, [], 0⟩, ⟨0, 0, 0, 0, false, [], none, 0, 0, [], false⟩, none, 0, 0, none, 0, 0⟩
theorem zMs_in (w : World) : MsgIn zMs [] [] [] w :=
  ⟨rfl, rfl, rfl, Nat.le_refl _, Nat.le_refl _, Nat.le_refl _, Nat.zero_le _, Nat.zero_le _, Nat.zero_le _, fun h => absurd h (by simp), fun h => absurd h (by simp), fun h => absurd h (by simp)⟩
structure Lens (m : Ms) (its : List It) (ps : List Pl) (ls : List Int) : Prop where
  ni : its.length = m.ans.itn
  np : ps.length = m.pn
  nl : ls.length = m.mn
def MsSum (t : List UInt8) (m : Ms) (its : List It) (ps : List Pl) (ls : List Int) (en : Int) : Prop := Lens m its ps ls ∧ ((en = 0 ∧ fMsg.rd ⟨false, t⟩ = (tupM m its ps ls, ⟨false, []⟩) ∧ rightM m ps ls = true) ∨ (en = 3 ∧ m = zMs ∧ its = [] ∧ ps = [] ∧ ls = [] ∧ ∃ n jts qs ks r, fMsg.rd ⟨false, t⟩ = (tupM n jts qs ks, r) ∧ Lens n jts qs ks ∧ (r.bad = true ∨ r.s ≠ [] ∨ rightM n qs ks = false)))
def DMsSum (t : List UInt8) (m : Ms) (its : List It) (ps : List Pl) (ls : List Int) (ok : Bool) : Prop := Lens m its ps ls ∧ ((ok = true ∧ (∃ r, cMsg.rd ⟨false, t⟩ = (tupM m its ps ls, r) ∧ r.bad = false) ∧ rightM m ps ls = true ∧ msgB m its ps ls = t) ∨ (ok = false ∧ m = zMs ∧ its = [] ∧ ps = [] ∧ ls = [] ∧ ∃ n jts qs ks r, cMsg.rd ⟨false, t⟩ = (tupM n jts qs ks, r) ∧ Lens n jts qs ks ∧ (r.bad = true ∨ rightM n qs ks = false ∨ msgB n jts qs ks ≠ t)))
theorem ms_sum {t : List UInt8} {w w' : World} {e : Ending} (h : TakeMsgPost t w e w') : ∃ m its ps ls en, e = .returned (.tuple #[msV m, .int .i64 en]) ∧ MsgIn m its ps ls w' ∧ MsSum t m its ps ls en ∧ Below w.heap.size w w' := by
  rcases h with ⟨m, its, ps, ls, he, h1, h2, h3, h4⟩ | ⟨he, n, jts, qs, ks, r, h1, i1, i2, i3, h2, h4⟩
  · exact ⟨m, its, ps, ls, 0, he, h3, ⟨⟨h3.ni, h3.np, h3.nl⟩, .inl ⟨rfl, h1, h2⟩⟩, h4⟩
  · exact ⟨zMs, [], [], [], 3, he, zMs_in _, ⟨⟨rfl, rfl, rfl⟩, .inr ⟨rfl, rfl, rfl, rfl, rfl, n, jts, qs, ks, r, h1, ⟨i1, i2, i3⟩, h2⟩⟩, h4⟩
theorem dms_sum {t : List UInt8} {w w' : World} {e : Ending} (h : DTakeMsgPost t w e w') : ∃ m its ps ls ok, e = .returned (.tuple #[msV m, .bool ok]) ∧ MsgIn m its ps ls w' ∧ DMsSum t m its ps ls ok ∧ Below w.heap.size w w' := by
  rcases h with ⟨m, its, ps, ls, r, he, h1, h2, h3, h4, h5, h6⟩ | ⟨he, ⟨n, jts, qs, ks, r, h1, i1, i2, i3, h2⟩, h4⟩
  · exact ⟨m, its, ps, ls, true, he, h5, ⟨⟨h5.ni, h5.np, h5.nl⟩, .inl ⟨rfl, ⟨r, h1, h2⟩, h3, h4⟩⟩, h6⟩
  · exact ⟨zMs, [], [], [], false, he, zMs_in _, ⟨⟨rfl, rfl, rfl⟩, .inr ⟨rfl, rfl, rfl, rfl, rfl, n, jts, qs, ks, r, h1, ⟨i1, i2, i3⟩, h2⟩⟩, h4⟩
theorem ms_joint {t : List UInt8} {m n : Ms} {its jts : List It} {ps qs : List Pl} {ls ks : List Int} {en : Int} {ok : Bool} (h : MsSum t m its ps ls en) (k : DMsSum t n jts qs ks ok) : tupM m its ps ls = tupM n jts qs ks ∧ (en = 0 ∧ ok = true ∨ en = 3 ∧ ok = false) := by
  obtain ⟨a, h⟩ := h
  obtain ⟨b, k⟩ := k
  rcases h with ⟨rfl, h1, h2⟩ | ⟨rfl, rfl, rfl, rfl, rfl, m', its', ps', ls', r, h1, a', h2⟩ <;> rcases k with ⟨rfl, ⟨q, k1, k0⟩, k3, k2⟩ | ⟨rfl, rfl, rfl, rfl, rfl, n', jts', qs', ks', q, k1, b', k3⟩
  · have hok := (cMsg.bwd _ _ _ k1 k0).2
    rw [cMsg_ok] at hok
    have h3 := fMsg.fwd _ [] hok
    rw [List.append_nil, msg_enc n jts qs ks b.ni b.np b.nl, k2, h1] at h3
    injection h3 with h3 _
    exact ⟨h3, .inl ⟨rfl, rfl⟩⟩
  · exfalso
    obtain ⟨e1, e2⟩ := fMsg.bwd _ _ _ h1 rfl
    have e1 : t = fMsg.enc (tupM m its ps ls) ++ [] := e1
    rw [List.append_nil] at e1
    have hok : cMsg.ok (tupM m its ps ls) := by rw [cMsg_ok]; exact e2
    have h3 := cMsg.fwd _ [] hok
    rw [List.append_nil, cMsg_enc, ← e1, k1] at h3
    injection h3 with h3 h4
    subst h4
    rcases k3 with k3 | k3 | k3
    · cases k3
    · rw [rightM_congr h3 b'.ni b'.np b'.nl a.ni a.np a.nl, h2] at k3
      cases k3
    · exact k3 (by rw [← msg_enc _ _ _ _ b'.ni b'.np b'.nl, h3, ← e1])
  · exfalso
    have hok := (cMsg.bwd _ _ _ k1 k0).2
    rw [cMsg_ok] at hok
    have h3 := fMsg.fwd _ [] hok
    rw [List.append_nil, msg_enc n jts qs ks b.ni b.np b.nl, k2, h1] at h3
    injection h3 with h3 h4
    subst h4
    rcases h2 with h2 | h2 | h2
    · cases h2
    · exact h2 rfl
    · rw [rightM_congr h3 a'.ni a'.np a'.nl b.ni b.np b.nl, k3] at h2
      cases h2
  · exact ⟨rfl, .inr ⟨rfl, rfl⟩⟩
end Go.Proofs.YtkoligiilieboaaGreatDoor
