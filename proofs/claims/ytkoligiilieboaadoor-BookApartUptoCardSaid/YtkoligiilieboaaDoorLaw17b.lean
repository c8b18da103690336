/- The plain part of the law BookApart: bytes tell messages and cells apart; bytes with more behind them are none. -/
import Derived.Test.YtkoligiilieboaaDoorMgE
import Derived.Test.YtkoligiilieboaaDoorBkI3
import Derived.Test.YtkoligiilieboaaDoorBkK6
namespace Go.Proofs.YtkoligiilieboaaDoor
open Go.RowKit
def zM : Ms := ⟨0, 0, 0, 0, 0, 0, 0, 0, 0, 0, 0, 0, [], ⟨0, 0, 0, [], [], false, [], 0, 0, 0, [], 0⟩, ⟨0, 0, 0, 0, false, [], none, 0, 0, [], false⟩, none, 0, 0, none, 0, 0⟩
theorem zM_eq : zmA = msA zM := by kernel_rfl
def zC : Ce := ⟨none, 0, 0, 0, 0, 0, 0, []⟩
theorem zC_eq : z5A = ceA zC := by kernel_rfl
theorem took_more {m : Ms} {its : List It} {ps : List Pl} {ls : List Int} {more : List UInt8} {w w' : World} {e : Ending} (hr : rightM m ps ls = true) (hi : its.length = m.ans.itn) (hp : ps.length = m.pn) (hl : ls.length = m.mn) (hZ : SzM m its ps)
    (h : TakeMsgPost (msgB m its ps ls ++ more) w e w') : ∃ (X : Ms) (z : Int), e = .returned (.tuple #[msV X, .int .i64 z]) ∧ ((z = 0 ∧ more = []) ∨ (z = 3 ∧ more ≠ [])) ∧ Below w.heap.size w w' := by
  have hb := fMsg.fwd _ more (msg_ok m its ps ls hr hi hp hl hZ)
  rw [msg_enc m its ps ls hi hp hl] at hb
  rcases h with ⟨n, jts, qs, ks, he, h1, _, h3, h4⟩ | ⟨he, n, jts, qs, ks, r, h1, i1, i2, i3, h5, h4⟩
  · rw [hb] at h1
    injection h1 with h1 h2
    injection h2 with _ h2
    exact ⟨n, 0, he, .inl ⟨rfl, h2⟩, h4⟩
  · rw [hb] at h1
    injection h1 with h1 h2
    subst h2
    refine ⟨zM, 3, by rw [he, zM_eq], .inr ⟨rfl, ?_⟩, h4⟩
    rcases h5 with h5 | h5 | h5
    · cases h5
    · exact h5
    · rw [← rightM_congr h1 hi hp hl i1 i2 i3, hr] at h5
      cases h5
theorem msg_inj {m n : Ms} {its jts : List It} {ps qs : List Pl} {ls ks : List Int} (hr : rightM m ps ls = true) (hr' : rightM n qs ks = true) (hi : its.length = m.ans.itn) (hp : ps.length = m.pn) (hl : ls.length = m.mn) (hi' : jts.length = n.ans.itn) (hp' : qs.length = n.pn) (hl' : ks.length = n.mn)
    (hZ : SzM m its ps) (hZ' : SzM n jts qs) : msgB m its ps ls = msgB n jts qs ks ↔ tupM m its ps ls = tupM n jts qs ks := by
  rw [← msg_enc m its ps ls hi hp hl, ← msg_enc n jts qs ks hi' hp' hl']
  constructor
  · intro h
    exact (fMsg.inj (msg_ok m its ps ls hr hi hp hl hZ) (msg_ok n jts qs ks hr' hi' hp' hl' hZ') (a := []) (b := []) (by rw [h])).1
  · intro h
    rw [h]
theorem took_cmore {c : Ce} {more : List UInt8} {w w' w0 : World} {B : Nat} {e : Ending} (hr : ceB c = true) (hc : CeIn w0 B c) (h : TakeCellPost (ceBy c ++ more) w e w') :
    ∃ (X : Ce) (z : Int), e = .returned (.tuple #[ceV X, .int .i64 z]) ∧ ((z = 0 ∧ more = []) ∨ (z = 3 ∧ more ≠ [])) ∧ Below w.heap.size w w' := by
  have hb := fCe.fwd _ more (cell_ok hr)
  rw [cell_enc hc] at hb
  rcases h with ⟨x, he, h1, _, _, _, h4⟩ | ⟨he, ⟨x, r, h1, hpl, h5⟩, h4⟩
  · rw [hb] at h1
    injection h1 with h1 h2
    injection h2 with _ h2
    exact ⟨x, 0, he, .inl ⟨rfl, h2⟩, h4⟩
  · rw [hb] at h1
    injection h1 with h1 h2
    subst h2
    refine ⟨zC, 3, by rw [he, zC_eq], .inr ⟨rfl, ?_⟩, h4⟩
    rcases h5 with h5 | h5 | h5
    · cases h5
    · exact h5
    · rw [← ceB_congr (ce_plain hc hr) hpl h1, hr] at h5
      cases h5
theorem ce_inj {c d : Ce} {w w' : World} {B B' : Nat} (hc : CeIn w B c) (hd : CeIn w' B' d) (hr : ceB c = true) (hr' : ceB d = true) : ceBy c = ceBy d ↔ ceL c = ceL d := by
  rw [← cell_enc hc, ← cell_enc hd]
  constructor
  · intro h
    exact ceL_of_F (ce_plain hc hr) (ce_plain hd hr') (fCe.inj (cell_ok hr) (cell_ok hr') (a := []) (b := []) (by rw [h])).1
  · intro h
    rw [ceF_of_L h]
theorem ceBy_len {c : Ce} {w : World} {B : Nat} (hc : CeIn w B c) (hr : ceB c = true) : (ceBy c).length ≤ 2400100 := by
  obtain ⟨h8, _, _, hs⟩ := ceB_parts hr
  have h1 := ssBy_len c.ss fun s hx => shBy_len (hc.ss s hx) (hs s hx)
  have h2 := stamps1 (c.ta, c.tt, c.tn)
  have h3 := numsB_len [c.drop, (c.sn : Int)]
  simp only [List.length_cons, List.length_nil] at h3
  unfold ceBy
  simp only [List.length_append]
  omega
theorem ce_wt {w : World} {c : Ce} {N : Nat} (hc : CeIn w w.heap.size c) (h : wtCe c ≤ N) (hN : N ≤ 1099511627776) : CeOk w w.heap.size c := ⟨hc, fun s hs => by
  have h1 : wtSh s ≤ wtCe c := mem_sum wtSh hs
  unfold wtSh at h1
  refine ⟨hc.ss s hs, by omega, by omega, fun e he => ?_⟩
  have h2 : wtEn e ≤ (s.es.map wtEn).sum := mem_sum wtEn he
  have h3 : e.key.length ≤ wtEn e := by unfold wtEn; omega
  omega⟩
/-- what stands in the law's walk: two messages, two cells -/
structure L4 (w : World) (g0 g1 g2 g3 : Nat) (m n : Ms) (its jts : List It) (ps qs : List Pl) (ls ks : List Int) (c d : Ce) (W : World) : Prop where
  below : Below w.heap.size w W
  ba : Blk W g0 33 (msA m)
  bb : Blk W g1 33 (msA n)
  bc : Blk W g2 44 (ceA c)
  bd : Blk W g3 44 (ceA d)
  mi : MsgIn m its ps ls W
  ni : MsgIn n jts qs ks W
  ci : CeOk W W.heap.size c
  di : CeOk W W.heap.size d
  tab : Go.Lib.Utf8Tabs 0 1 W
section
variable {w W W' : World} {g0 g1 g2 g3 : Nat} {m n : Ms} {its jts : List It} {ps qs : List Pl} {ls ks : List Int} {c d : Ce}
theorem L4.keep (h : L4 w g0 g1 g2 g3 m n its jts ps qs ls ks c d W) (e : Below W.heap.size W W') : L4 w g0 g1 g2 g3 m n its jts ps qs ls ks c d W' :=
  ⟨bt h.below e, h.ba.keep e, h.bb.keep e, h.bc.keep e, h.bd.keep e, h.mi.keep e, h.ni.keep e, h.ci.kept e, h.di.kept e, Utf8Tabs_below h.tab e⟩
theorem L4.new (hM : MsgIn m its ps ls w) (hN : MsgIn n jts qs ks w) (hC : CeOk w w.heap.size c) (hD : CeOk w w.heap.size d) (hT : Go.Lib.Utf8Tabs 0 1 w) :
    L4 w w.heap.size (w.heap.size + 1) (w.heap.size + 1 + 1) (w.heap.size + 1 + 1 + 1) m n its jts ps qs ls ks c d ((((w.alloc (.cells (msA m) 33)).alloc (.cells (msA n) 33)).alloc (.cells (ceA c) 44)).alloc (.cells (ceA d) 44)) := by
  have hb : Below w.heap.size w ((((w.alloc (.cells (msA m) 33)).alloc (.cells (msA n) 33)).alloc (.cells (ceA c) 44)).alloc (.cells (ceA d) 44)) := bal (bal (bal (bal (b0 w) _) _) _) _
  exact ⟨hb, (((Blk.new w _ _).alloc _).alloc _).alloc _, ((Blk.new' _ _ _ _ (by simp)).alloc _).alloc _, (Blk.new' _ _ _ _ (by simp)).alloc _, Blk.new' _ _ _ _ (by simp), hM.keep hb, hN.keep hb, hC.kept hb, hD.kept hb, Utf8Tabs_below hT hb⟩
end
end Go.Proofs.YtkoligiilieboaaDoor
