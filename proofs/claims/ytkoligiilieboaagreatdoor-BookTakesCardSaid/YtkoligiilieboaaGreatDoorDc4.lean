/- The document's TakeMsg. -/
import Derived.Test.YtkoligiilieboaaGreatDoorDc2
import Derived.Test.YtkoligiilieboaaGreatDoorBkE
import Derived.Test.YtkoligiilieboaaGreatDoorBkS
import Derived.Test.YtkoligiilieboaaGreatDoorMgC
import Derived.Deep.RegionLaw
import Derived.Deep.AppendLies
set_option linter.unusedSimpArgs false
set_option linter.unusedVariables false
namespace Go.Proofs.YtkoligiilieboaaGreatDoor
open Go.RowKit
attribute [local go_sem] ByteArray.mk_append_mk ByteArray.extract_mk
attribute [local go_sem ↓] Go.wp_at_zero Go.wp_at_succ
def cItem : Fmt It := (cText.seq cText).as (fun p => ⟨p.1, p.2⟩) (fun x => (x.ky, x.vl)) (fun _ => rfl) (fun _ => rfl)
def cPlace : Fmt Pl := (cText.seq (cText.seq (cNum.seq (cNum.seq cNum)))).as (fun p => ⟨p.1, p.2.1, p.2.2.1, p.2.2.2.1, p.2.2.2.2⟩) (fun x => (x.lo, x.hi, x.sh, x.ce, x.ep)) (fun _ => rfl) (fun _ => rfl)
theorem cItem_pos (v : It) (h : cItem.ok v) : 0 < (cItem.enc v).length := fItem_pos v h
theorem cPlace_pos (v : Pl) (h : cPlace.ok v) : 0 < (cPlace.enc v).length := fPlace_pos v h
theorem cNum_pos (v : Int) (h : cNum.ok v) : 0 < (cNum.enc v).length := putI_pos h.1
theorem cItem_eq {r ra rb : RS} {x y : List UInt8} (h1 : cText.rd r = (x, ra)) (h2 : cText.rd ra = (y, rb)) : cItem.rd r = (⟨x, y⟩, rb) := by
  show (_, _) = _
  have h : (cText.seq cText).rd r = ((x, y), rb) := seqC_eq h1 h2
  rw [h]
theorem cPlace_eq {r ra rb rc rd re : RS} {x y : List UInt8} {p q u : Int} (h1 : cText.rd r = (x, ra)) (h2 : cText.rd ra = (y, rb)) (h3 : cNum.rd rb = (p, rc)) (h4 : cNum.rd rc = (q, rd)) (h5 : cNum.rd rd = (u, re)) : cPlace.rd r = (⟨x, y, p, q, u⟩, re) := by
  show (_, _) = _
  have h : (cText.seq (cText.seq (cNum.seq (cNum.seq cNum)))).rd r = ((x, y, p, q, u), re) := seqC_eq h1 (seqC_eq h2 (seqC_eq h3 (seqC_eq h4 h5)))
  rw [h]
def cMsg := cNum.seq (cNum.seq (cNum.seq (cNum.seq (cNum.seq (cNum.seq (cNum.seq (cNum.seq (cNum.seq (cStamp.seq (cText.seq (cNum.seq (cNum.seq (cNum.seq (cText.seq (cText.seq (cFlag.seq (cText.seq (cStamp.seq (cText.seq (cNum.seq (cNum.seq (cStamp.seq (cFlag.seq (cText.seq ((cList cItem).seq (cText.seq (cFlag.seq ((cList cPlace).seq (cList cNum)))))))))))))))))))))))))))))
theorem cMsg_enc (m : Ms) (its : List It) (ps : List Pl) (ls : List Int) : cMsg.enc (tupM m its ps ls) = fMsg.enc (tupM m its ps ls) := rfl
theorem cMsg_ok (m : Ms) (its : List It) (ps : List Pl) (ls : List Int) : cMsg.ok (tupM m its ps ls) = fMsg.ok (tupM m its ps ls) := rfl
theorem textL_gem (l : List UInt8) : l.length ≤ (textL l).length := by unfold textL; rw [List.length_append]; omega
theorem hd_le {a b : List UInt8} {N : Nat} (h : (a ++ b).length ≤ N) : a.length ≤ N := by rw [List.length_append] at h; omega
theorem tl_le {a b : List UInt8} {N : Nat} (h : (a ++ b).length ≤ N) : b.length ≤ N := by rw [List.length_append] at h; omega
theorem encL_mem {α : Type} (f : Fmt α) {l : List α} {x : α} (h : x ∈ l) : (f.enc x).length ≤ (encL f l).length := by
  induction l with
  | nil => cases h
  | cons y l ih =>
    rw [encL_cons, List.length_append]
    rcases List.mem_cons.1 h with rfl | h
    · omega
    · have := ih h; omega
theorem msg_sizes {m : Ms} {its : List It} {ps : List Pl} {ls : List Int} (h : (fMsg.enc (tupM m its ps ls)).length ≤ 2097152) : SzM m its ps := by
  rw [msg_enc0] at h
  have g10 := (tl_le (tl_le (tl_le (tl_le (tl_le (tl_le (tl_le (tl_le (tl_le (tl_le h))))))))))
  have g14 := (tl_le (tl_le (tl_le (tl_le g10))))
  have g15 := (tl_le g14)
  have g17 := (tl_le (tl_le g15))
  have g19 := (tl_le (tl_le g17))
  have g24 := (tl_le (tl_le (tl_le (tl_le (tl_le g19)))))
  have g25 := (tl_le g24)
  have g26 := (tl_le g25)
  have g28 := (tl_le (tl_le g26))
  have hi : ((putI (its.length : Int)).1 ++ encL fItem its).length ≤ 2097152 := hd_le g25
  have hp : ((putI (ps.length : Int)).1 ++ encL fPlace ps).length ≤ 2097152 := hd_le g28
  refine ⟨Nat.le_trans (textL_gem _) (hd_le g10), Nat.le_trans (textL_gem _) (hd_le g14), Nat.le_trans (textL_gem _) (hd_le g15), Nat.le_trans (textL_gem _) (hd_le g17), Nat.le_trans (textL_gem _) (hd_le g19), Nat.le_trans (textL_gem _) (hd_le g24), Nat.le_trans (textL_gem _) (hd_le g26), fun x hx => ?_, fun x hx => ?_⟩
  · have b : (textL x.ky ++ textL x.vl).length ≤ 2097152 := Nat.le_trans (encL_mem fItem hx) (tl_le hi)
    exact ⟨Nat.le_trans (textL_gem _) (hd_le b), Nat.le_trans (textL_gem _) (tl_le b)⟩
  · have b : (textL x.lo ++ (textL x.hi ++ ((putI x.sh).1 ++ ((putI x.ce).1 ++ (putI x.ep).1)))).length ≤ 2097152 := Nat.le_trans (encL_mem fPlace hx) (tl_le hp)
    exact ⟨Nat.le_trans (textL_gem _) (hd_le b), Nat.le_trans (textL_gem _) (hd_le (tl_le b))⟩
def sl9 (m : Ms) := (m.ans.itA, m.ans.itn, m.ans.itc, m.pA, m.pn, m.pc, m.mA, m.mn, m.mc)
structure DMg (w : World) (gz gr gm : Nat) (m : Ms) (its : List It) (ps : List Pl) (ls : List Int) (r : RS) (W : World) : Prop where
  below : Below w.heap.size w W
  l0 : w.heap.size ≤ gz
  l1 : gz < gr
  l2 : gr < gm
  bz : Blk W gz 51 zmA
  br : Blk W gr 74 (rsA r)
  bm : Blk W gm 51 (msA m)
  oi : W.ownsRow w.heap.size 79 2 (.slice m.ans.itA m.ans.itn m.ans.itc) m.ans.itn (itF its)
  op : W.ownsRow w.heap.size 81 5 (.slice m.pA m.pn m.pc) m.pn (plF ps)
  om : W.ownsRow w.heap.size 3 1 (.slice m.mA m.mn m.mc) m.mn (ivF ls)
  ni : its.length = m.ans.itn
  np : ps.length = m.pn
  nl : ls.length = m.mn
  bi : m.ans.itn ≤ 5000
  bp : m.pn ≤ 5000
  bl : m.mn ≤ 5000
def Off3 (m : Ms) (b : Nat) : Prop := (∀ g, (Value.slice m.ans.itA m.ans.itn m.ans.itc).ownBlock = some g → g ≠ b) ∧ (∀ g, (Value.slice m.pA m.pn m.pc).ownBlock = some g → g ≠ b) ∧ (∀ g, (Value.slice m.mA m.mn m.mc).ownBlock = some g → g ≠ b)
section
variable {w W W' : World} {gz gr gm : Nat} {m m' : Ms} {its jts : List It} {ps qs : List Pl} {ls ks : List Int} {r r' : RS}
theorem DMg.inn (h : DMg w gz gr gm m its ps ls r W) : MsgIn m its ps ls W :=
  ⟨h.ni, h.np, h.nl, own_cap h.oi, own_cap h.op, own_cap h.om, by have := h.bi; omega, by have := h.bp; omega, by have := h.bl; omega, own_rdr itC 2 (fun _ => rfl) h.oi h.ni, own_rdr plC 5 (fun _ => rfl) h.op h.np, (own_i64s h.om).1⟩
theorem DMg.off (h : DMg w gz gr gm m its ps ls r W) : Off3 m W.heap.size :=
  ⟨fun g hg => by have := (h.oi.lt g hg).2; omega, fun g hg => by have := (h.op.lt g hg).2; omega, fun g hg => by have := (h.om.lt g hg).2; omega⟩
theorem DMg.call (h : DMg w gz gr gm m its ps ls r W) (hB : Blk W' gr 74 (rsA r')) (hk : Kr gr W W') : DMg w gz gr gm m its ps ls r' W' :=
  { h with
    below := h.below.trans (hk.below.mono (by have := h.l0; have := h.l1; omega))
    bz := hk.kept _ _ _ (by have := h.l1; omega) h.bz
    br := hB
    bm := hk.kept _ _ _ (by have := h.l2; omega) h.bm
    oi := own_kept h.oi hk.kept h.br (by decide)
    op := own_kept h.op hk.kept h.br (by decide)
    om := own_kept h.om hk.kept h.br (by decide) }
theorem DMg.keep (h : DMg w gz gr gm m its ps ls r W) (d : Below W.heap.size W W') : DMg w gz gr gm m its ps ls r W' :=
  { h with
    below := h.below.trans (d.mono h.below.size)
    bz := h.bz.keep d
    br := h.br.keep d
    bm := h.bm.keep d
    oi := own_below h.oi d (Nat.le_refl _)
    op := own_below h.op d (Nat.le_refl _)
    om := own_below h.om d (Nat.le_refl _) }
theorem DMg.alloc (h : DMg w gz gr gm m its ps ls r W) (o : Obj) : DMg w gz gr gm m its ps ls r (W.alloc o) :=
  { h with below := h.below.alloc h.below.size o, bz := h.bz.alloc o, br := h.br.alloc o, bm := h.bm.alloc o, oi := h.oi.alloc o, op := h.op.alloc o, om := h.om.alloc o }
theorem DMg.drew (h : DMg w gz gr gm m its ps ls r W) : DMg w gz gr gm m its ps ls r W.drew :=
  { h with below := h.below.drew, bz := h.bz.drew, br := h.br.drew, bm := h.bm.drew }
theorem DMg.setm (h : DMg w gz gr gm m its ps ls r W) (i : Nat) (v : Value) (e : (msA m).setIfInBounds i v = msA m') (e1 : sl9 m' = sl9 m) : DMg w gz gr gm m' its ps ls r (W.setCell ⟨gm, i, none⟩ v) := by
  have B := h.bm.set i v
  rw [e] at B
  have l0 := h.l0
  have l1 := h.l1
  have l2 := h.l2
  have oi := own_setT (p := ⟨gm, i, none⟩) h.oi v h.bm (by decide)
  have op := own_setT (p := ⟨gm, i, none⟩) h.op v h.bm (by decide)
  have om := own_setT (p := ⟨gm, i, none⟩) h.om v h.bm (by decide)
  have ni := h.ni
  have np := h.np
  have nl := h.nl
  have bi := h.bi
  have bp := h.bp
  have bl := h.bl
  simp only [sl9, Prod.mk.injEq] at e1
  obtain ⟨e1, e2, e3, e4, e5, e6, e7, e8, e9⟩ := e1
  rw [← e1, ← e2, ← e3] at oi
  rw [← e4, ← e5, ← e6] at op
  rw [← e7, ← e8, ← e9] at om
  rw [← e2] at ni bi
  rw [← e5] at np bp
  rw [← e8] at nl bl
  exact ⟨bst h.below (by show w.heap.size ≤ gm; omega) _, l0, l1, l2, h.bz.far (by show gz ≠ gm; omega) _, h.br.far (by show gr ≠ gm; omega) _, B, oi, op, om, ni, np, nl, bi, bp, bl⟩
theorem DMg.set3 (h : DMg w gz gr gm m its ps ls r W) (i : Nat) (u v x : Value) {m1 m2 : Ms} (e : (msA m).setIfInBounds i u = msA m1) (e1 : sl9 m1 = sl9 m) (f : (msA m1).setIfInBounds (i + 1) v = msA m2) (f1 : sl9 m2 = sl9 m1) (g : (msA m2).setIfInBounds (i + 2) x = msA m') (g1 : sl9 m' = sl9 m2) :
    DMg w gz gr gm m' its ps ls r (((W.setCell ⟨gm, i, none⟩ u).setCell ⟨gm, i + 1, none⟩ v).setCell ⟨gm, i + 2, none⟩ x) := ((h.setm i u e e1).setm (i + 1) v f f1).setm (i + 2) x g g1
theorem DMg.setx {b : Nat} (h : DMg w gz gr gm m its ps ls r W) (hb : gm < b) (ho : Off3 m b) (i : Nat) (v : Value) : DMg w gz gr gm m its ps ls r (W.setCell ⟨b, i, none⟩ v) :=
  { h with
    below := bst h.below (by have := h.l0; have := h.l1; have := h.l2; show w.heap.size ≤ b; omega) _
    bz := h.bz.far (by have := h.l1; have := h.l2; show gz ≠ b; omega) _
    br := h.br.far (by have := h.l2; show gr ≠ b; omega) _
    bm := h.bm.far (by show gm ≠ b; omega) _
    oi := own_setN (p := ⟨b, i, none⟩) h.oi v ho.1
    op := own_setN (p := ⟨b, i, none⟩) h.op v ho.2.1
    om := own_setN (p := ⟨b, i, none⟩) h.om v ho.2.2 }
theorem DMg.pushI (h : DMg w gz gr gm m its ps ls r W) (hb : Below w.heap.size W W') (hk : ∀ g T cs, T ≠ 79 → Blk W g T cs → Blk W' g T cs) {A : Option Addr} {n c : Nat} (hown : W'.ownsRow w.heap.size 79 2 (.slice A n c) n (itF jts)) (hn : jts.length = n) (h5 : n ≤ 5000) (em : m' = { m with ans := { m.ans with itA := A, itn := n, itc := c } }) :
    DMg w gz gr gm m' jts ps ls r (W'.setCell ⟨gm, 31, none⟩ (.slice A n c)) := by
  subst em
  have B := hk _ _ _ (by decide) h.bm
  have l0 := h.l0
  have l1 := h.l1
  have l2 := h.l2
  exact { h with
    below := bst (h.below.trans hb) (by show w.heap.size ≤ gm; omega) _
    bz := (hk _ _ _ (by decide) h.bz).far (by show gz ≠ gm; omega) _
    br := (hk _ _ _ (by decide) h.br).far (by show gr ≠ gm; omega) _
    bm := B.set 31 _
    oi := own_setT (p := ⟨gm, 31, none⟩) hown _ B (by decide)
    op := own_setT (p := ⟨gm, 31, none⟩) (own_keptT h.op hk (by decide)) _ B (by decide)
    om := own_setT (p := ⟨gm, 31, none⟩) (own_keptT h.om hk (by decide)) _ B (by decide)
    ni := hn
    bi := h5 }
theorem DMg.pushP (h : DMg w gz gr gm m its ps ls r W) (hb : Below w.heap.size W W') (hk : ∀ g T cs, T ≠ 81 → Blk W g T cs → Blk W' g T cs) {A : Option Addr} {n c : Nat} (hown : W'.ownsRow w.heap.size 81 5 (.slice A n c) n (plF qs)) (hn : qs.length = n) (h5 : n ≤ 5000) (em : m' = { m with pA := A, pn := n, pc := c }) :
    DMg w gz gr gm m' its qs ls r (W'.setCell ⟨gm, 34, none⟩ (.slice A n c)) := by
  subst em
  have B := hk _ _ _ (by decide) h.bm
  have l0 := h.l0
  have l1 := h.l1
  have l2 := h.l2
  exact { h with
    below := bst (h.below.trans hb) (by show w.heap.size ≤ gm; omega) _
    bz := (hk _ _ _ (by decide) h.bz).far (by show gz ≠ gm; omega) _
    br := (hk _ _ _ (by decide) h.br).far (by show gr ≠ gm; omega) _
    bm := B.set 34 _
    oi := own_setT (p := ⟨gm, 34, none⟩) (own_keptT h.oi hk (by decide)) _ B (by decide)
    op := own_setT (p := ⟨gm, 34, none⟩) hown _ B (by decide)
    om := own_setT (p := ⟨gm, 34, none⟩) (own_keptT h.om hk (by decide)) _ B (by decide)
    np := hn
    bp := h5 }
theorem DMg.pushL (h : DMg w gz gr gm m its ps ls r W) (hb : Below w.heap.size W W') (hk : ∀ g T cs, T ≠ 3 → Blk W g T cs → Blk W' g T cs) {A : Option Addr} {n c : Nat} (hown : W'.ownsRow w.heap.size 3 1 (.slice A n c) n (ivF ks)) (hn : ks.length = n) (h5 : n ≤ 5000) (em : m' = { m with mA := A, mn := n, mc := c }) :
    DMg w gz gr gm m' its ps ks r (W'.setCell ⟨gm, 35, none⟩ (.slice A n c)) := by
  subst em
  have B := hk _ _ _ (by decide) h.bm
  have l0 := h.l0
  have l1 := h.l1
  have l2 := h.l2
  exact { h with
    below := bst (h.below.trans hb) (by show w.heap.size ≤ gm; omega) _
    bz := (hk _ _ _ (by decide) h.bz).far (by show gz ≠ gm; omega) _
    br := (hk _ _ _ (by decide) h.br).far (by show gr ≠ gm; omega) _
    bm := B.set 35 _
    oi := own_setT (p := ⟨gm, 35, none⟩) (own_keptT h.oi hk (by decide)) _ B (by decide)
    op := own_setT (p := ⟨gm, 35, none⟩) (own_keptT h.op hk (by decide)) _ B (by decide)
    om := own_setT (p := ⟨gm, 35, none⟩) hown _ B (by decide)
    nl := hn
    bl := h5 }
end
def DTakeMsgPost (t : List UInt8) (w : World) (e : Ending) (w' : World) : Prop :=
  (∃ m its ps ls r, e = .returned (.tuple #[msV m, .bool true]) ∧ cMsg.rd ⟨false, t⟩ = (tupM m its ps ls, r) ∧ r.bad = false ∧ rightM m ps ls = true ∧ msgB m its ps ls = t ∧ MsgIn m its ps ls w' ∧ Below w.heap.size w w') ∨
  (e = .returned (.tuple #[.agg zmA, .bool false]) ∧ (∃ m its ps ls r, cMsg.rd ⟨false, t⟩ = (tupM m its ps ls, r) ∧ its.length = m.ans.itn ∧ ps.length = m.pn ∧ ls.length = m.mn ∧ (r.bad = true ∨ rightM m ps ls = false ∨ msgB m its ps ls ≠ t)) ∧ Below w.heap.size w w')
set_option maxHeartbeats 64000000 in
set_option maxRecDepth 100000 in
theorem dtakemsg_any (t : List UInt8) (hl : t.length ≤ 4096) (w : World) :
    Calls Tryz.prog 11 #[.string ⟨t.toArray⟩] w (DTakeMsgPost t w) := by
  have hho : zmA.toList.all (·.oneCell') = true := (by with_unfolding_all rfl)
  go_enter Tryz.func11, Tryz.ntmps11
  go_upto_region 2 with (fail)
  have bz0 : Blk ((w.alloc (.cells zmA 51)).alloc (.cells (rsA ⟨false, t⟩) 74)) w.heap.size 51 zmA := (Blk.new w _ _).alloc _
  have br0 : Blk ((w.alloc (.cells zmA 51)).alloc (.cells (rsA ⟨false, t⟩) 74)) (w.heap.size + 1) 74 (rsA ⟨false, t⟩) := Blk.new' _ _ _ _ (by simp)
  have hb0 : Below w.heap.size w ((w.alloc (.cells zmA 51)).alloc (.cells (rsA ⟨false, t⟩) 74)) := bal (bal (b0 w) _) _
  generalize (w.alloc (.cells zmA 51)).alloc (.cells (rsA ⟨false, t⟩) 74) = W0 at *
  generalize hg1 : w.heap.size + 1 = gr at *
  obtain ⟨n0, r1, e1⟩ : ∃ x r, cNum.rd ⟨false, t⟩ = (x, r) := ⟨_, _, rfl⟩
  have hl1 := cnum_sl e1 hl
  have E1 := Lib.hid e1
  clear e1
  go_wp2_with fail
  refine (cnum_c gr ⟨false, t⟩ n0 r1 _ E1.out br0 (Nat.le_trans hl (by omega))).mono ?_
  rintro e w1 ⟨rfl, br1, hk⟩
  have bz1 := hk.kept _ _ _ (by omega) bz0
  have hb1 := hb0.trans (hk.below.mono (by omega))
  clear hk br0 bz0 hb0
  have G : Blk (w1.alloc (.cells zmA 51)) w1.heap.size 51 zmA := Blk.new w1 _ _
  have hgz1 := bz1.lt
  have hgr1 := br1.lt
  have D : ∀ w', w' = (w1.alloc (.cells zmA 51)).setRow w1.heap.size (msA ⟨n0, 0, 0, 0, 0, 0, 0, 0, 0, 0, 0, 0, [], ⟨0, 0, 0, [], [], false, [], 0, 0, 0, [], 0⟩, ⟨0, 0, 0, 0, false, [], none, 0, 0, [], false⟩, none, 0, 0, none, 0, 0⟩) → DMg w w.heap.size gr w1.heap.size ⟨n0, 0, 0, 0, 0, 0, 0, 0, 0, 0, 0, 0, [], ⟨0, 0, 0, [], [], false, [], 0, 0, 0, [], 0⟩, ⟨0, 0, 0, 0, false, [], none, 0, 0, [], false⟩, none, 0, 0, none, 0, 0⟩ [] [] [] r1 w' := by
    rintro _ rfl
    have b2 := below_row (bal hb1 (.cells zmA 51)) hb1.size (msA ⟨n0, 0, 0, 0, 0, 0, 0, 0, 0, 0, 0, 0, [], ⟨0, 0, 0, [], [], false, [], 0, 0, 0, [], 0⟩, ⟨0, 0, 0, 0, false, [], none, 0, 0, [], false⟩, none, 0, 0, none, 0, 0⟩)
    exact ⟨b2, Nat.le_refl _, by omega, hgr1, (bz1.alloc _).row_far (by omega) _, (br1.alloc _).row_far (by omega) _, G.row _, World.ownsRow_nil _ _ _ _, World.ownsRow_nil _ _ _ _, World.ownsRow_nil _ _ _ _, rfl, rfl, rfl, Nat.zero_le _, Nat.zero_le _, Nat.zero_le _⟩
  go_wp2_with (with_reducible refine wpl_st G (by with_unfolding_all rfl) _ _ _ (by with_unfolding_all rfl) (msA ⟨n0, 0, 0, 0, 0, 0, 0, 0, 0, 0, 0, 0, [], ⟨0, 0, 0, [], [], false, [], 0, 0, 0, [], 0⟩, ⟨0, 0, 0, 0, false, [], none, 0, 0, [], false⟩, none, 0, 0, none, 0, 0⟩) (by with_unfolding_all rfl) (by with_unfolding_all rfl) (by with_unfolding_all rfl) (by with_unfolding_all rfl) (by with_unfolding_all rfl) ?_; refine Classical.byContradiction fun hno => ?_)
  refine hno ?_
  clear hno
  intro w2 e2
  have S1 := D w2 e2
  clear e2 D G bz1 br1 hb1 hgz1 hgr1
  generalize w1.heap.size = gm at *
  generalize hgz : w.heap.size = gz at *
  clear hg1
  obtain ⟨n1, r2, e2⟩ : ∃ n1 r, cNum.rd r1 = (n1, r) := ⟨_, _, rfl⟩
  have hl2 := cnum_sl e2 hl1
  have E2 := Lib.hid e2
  clear e2
  go_wp2_with fail
  refine (cnum_c gr r1 n1 r2 _ E2.out S1.br (Nat.le_trans hl1 (by omega))).mono ?_
  rintro e w2 ⟨rfl, hB, hk⟩
  have S2 := S1.call hB hk
  clear hB hk S1 hl1
  have c1 : w2.cell? ⟨gm, 1, none⟩ = some (.int .i64 0) := S2.bm.cell 1
  have f1 := S2.bm.frozen 1
  have gml := S2.bm.lt
  obtain ⟨n2, r3, e3⟩ : ∃ n2 r, cNum.rd r2 = (n2, r) := ⟨_, _, rfl⟩
  have hl3 := cnum_sl e3 hl2
  have E3 := Lib.hid e3
  clear e3
  go_wp2_with fail
  clear c1 f1 gml
  have T3 : DMg w gz gr gm ⟨n0, n1, 0, 0, 0, 0, 0, 0, 0, 0, 0, 0, [], ⟨0, 0, 0, [], [], false, [], 0, 0, 0, [], 0⟩, ⟨0, 0, 0, 0, false, [], none, 0, 0, [], false⟩, none, 0, 0, none, 0, 0⟩ [] [] [] r2 (w2.setCell ⟨gm, 1, none⟩ (.int .i64 n1)) := S2.setm 1 (.int .i64 n1) rfl rfl
  clear S2
  refine (cnum_c gr r2 n2 r3 _ E3.out T3.br (Nat.le_trans hl2 (by omega))).mono ?_
  rintro e w3 ⟨rfl, hB, hk⟩
  have S3 := T3.call hB hk
  clear hB hk T3 hl2
  have c2 : w3.cell? ⟨gm, 2, none⟩ = some (.int .i64 0) := S3.bm.cell 2
  have f2 := S3.bm.frozen 2
  have gml := S3.bm.lt
  obtain ⟨n3, r4, e4⟩ : ∃ n3 r, cNum.rd r3 = (n3, r) := ⟨_, _, rfl⟩
  have hl4 := cnum_sl e4 hl3
  have E4 := Lib.hid e4
  clear e4
  go_wp2_with fail
  clear c2 f2 gml
  have T4 : DMg w gz gr gm ⟨n0, n1, n2, 0, 0, 0, 0, 0, 0, 0, 0, 0, [], ⟨0, 0, 0, [], [], false, [], 0, 0, 0, [], 0⟩, ⟨0, 0, 0, 0, false, [], none, 0, 0, [], false⟩, none, 0, 0, none, 0, 0⟩ [] [] [] r3 (w3.setCell ⟨gm, 2, none⟩ (.int .i64 n2)) := S3.setm 2 (.int .i64 n2) rfl rfl
  clear S3
  refine (cnum_c gr r3 n3 r4 _ E4.out T4.br (Nat.le_trans hl3 (by omega))).mono ?_
  rintro e w4 ⟨rfl, hB, hk⟩
  have S4 := T4.call hB hk
  clear hB hk T4 hl3
  have c3 : w4.cell? ⟨gm, 3, none⟩ = some (.int .i64 0) := S4.bm.cell 3
  have f3 := S4.bm.frozen 3
  have gml := S4.bm.lt
  obtain ⟨n4, r5, e5⟩ : ∃ n4 r, cNum.rd r4 = (n4, r) := ⟨_, _, rfl⟩
  have hl5 := cnum_sl e5 hl4
  have E5 := Lib.hid e5
  clear e5
  go_wp2_with fail
  clear c3 f3 gml
  have T5 : DMg w gz gr gm ⟨n0, n1, n2, n3, 0, 0, 0, 0, 0, 0, 0, 0, [], ⟨0, 0, 0, [], [], false, [], 0, 0, 0, [], 0⟩, ⟨0, 0, 0, 0, false, [], none, 0, 0, [], false⟩, none, 0, 0, none, 0, 0⟩ [] [] [] r4 (w4.setCell ⟨gm, 3, none⟩ (.int .i64 n3)) := S4.setm 3 (.int .i64 n3) rfl rfl
  clear S4
  refine (cnum_c gr r4 n4 r5 _ E5.out T5.br (Nat.le_trans hl4 (by omega))).mono ?_
  rintro e w5 ⟨rfl, hB, hk⟩
  have S5 := T5.call hB hk
  clear hB hk T5 hl4
  have c4 : w5.cell? ⟨gm, 4, none⟩ = some (.int .i64 0) := S5.bm.cell 4
  have f4 := S5.bm.frozen 4
  have gml := S5.bm.lt
  obtain ⟨n5, r6, e6⟩ : ∃ n5 r, cNum.rd r5 = (n5, r) := ⟨_, _, rfl⟩
  have hl6 := cnum_sl e6 hl5
  have E6 := Lib.hid e6
  clear e6
  go_wp2_with fail
  clear c4 f4 gml
  have T6 : DMg w gz gr gm ⟨n0, n1, n2, n3, n4, 0, 0, 0, 0, 0, 0, 0, [], ⟨0, 0, 0, [], [], false, [], 0, 0, 0, [], 0⟩, ⟨0, 0, 0, 0, false, [], none, 0, 0, [], false⟩, none, 0, 0, none, 0, 0⟩ [] [] [] r5 (w5.setCell ⟨gm, 4, none⟩ (.int .i64 n4)) := S5.setm 4 (.int .i64 n4) rfl rfl
  clear S5
  refine (cnum_c gr r5 n5 r6 _ E6.out T6.br (Nat.le_trans hl5 (by omega))).mono ?_
  rintro e w6 ⟨rfl, hB, hk⟩
  have S6 := T6.call hB hk
  clear hB hk T6 hl5
  have c5 : w6.cell? ⟨gm, 5, none⟩ = some (.int .i64 0) := S6.bm.cell 5
  have f5 := S6.bm.frozen 5
  have gml := S6.bm.lt
  obtain ⟨n6, r7, e7⟩ : ∃ n6 r, cNum.rd r6 = (n6, r) := ⟨_, _, rfl⟩
  have hl7 := cnum_sl e7 hl6
  have E7 := Lib.hid e7
  clear e7
  go_wp2_with fail
  clear c5 f5 gml
  have T7 : DMg w gz gr gm ⟨n0, n1, n2, n3, n4, n5, 0, 0, 0, 0, 0, 0, [], ⟨0, 0, 0, [], [], false, [], 0, 0, 0, [], 0⟩, ⟨0, 0, 0, 0, false, [], none, 0, 0, [], false⟩, none, 0, 0, none, 0, 0⟩ [] [] [] r6 (w6.setCell ⟨gm, 5, none⟩ (.int .i64 n5)) := S6.setm 5 (.int .i64 n5) rfl rfl
  clear S6
  refine (cnum_c gr r6 n6 r7 _ E7.out T7.br (Nat.le_trans hl6 (by omega))).mono ?_
  rintro e w7 ⟨rfl, hB, hk⟩
  have S7 := T7.call hB hk
  clear hB hk T7 hl6
  have c6 : w7.cell? ⟨gm, 6, none⟩ = some (.int .i64 0) := S7.bm.cell 6
  have f6 := S7.bm.frozen 6
  have gml := S7.bm.lt
  obtain ⟨n7, r8, e8⟩ : ∃ n7 r, cNum.rd r7 = (n7, r) := ⟨_, _, rfl⟩
  have hl8 := cnum_sl e8 hl7
  have E8 := Lib.hid e8
  clear e8
  go_wp2_with fail
  clear c6 f6 gml
  have T8 : DMg w gz gr gm ⟨n0, n1, n2, n3, n4, n5, n6, 0, 0, 0, 0, 0, [], ⟨0, 0, 0, [], [], false, [], 0, 0, 0, [], 0⟩, ⟨0, 0, 0, 0, false, [], none, 0, 0, [], false⟩, none, 0, 0, none, 0, 0⟩ [] [] [] r7 (w7.setCell ⟨gm, 6, none⟩ (.int .i64 n6)) := S7.setm 6 (.int .i64 n6) rfl rfl
  clear S7
  refine (cnum_c gr r7 n7 r8 _ E8.out T8.br (Nat.le_trans hl7 (by omega))).mono ?_
  rintro e w8 ⟨rfl, hB, hk⟩
  have S8 := T8.call hB hk
  clear hB hk T8 hl7
  have c7 : w8.cell? ⟨gm, 7, none⟩ = some (.int .i64 0) := S8.bm.cell 7
  have f7 := S8.bm.frozen 7
  have gml := S8.bm.lt
  obtain ⟨n8, r9, e9⟩ : ∃ n8 r, cNum.rd r8 = (n8, r) := ⟨_, _, rfl⟩
  have hl9 := cnum_sl e9 hl8
  have E9 := Lib.hid e9
  clear e9
  go_wp2_with fail
  clear c7 f7 gml
  have T9 : DMg w gz gr gm ⟨n0, n1, n2, n3, n4, n5, n6, n7, 0, 0, 0, 0, [], ⟨0, 0, 0, [], [], false, [], 0, 0, 0, [], 0⟩, ⟨0, 0, 0, 0, false, [], none, 0, 0, [], false⟩, none, 0, 0, none, 0, 0⟩ [] [] [] r8 (w8.setCell ⟨gm, 7, none⟩ (.int .i64 n7)) := S8.setm 7 (.int .i64 n7) rfl rfl
  clear S8
  refine (cnum_c gr r8 n8 r9 _ E9.out T9.br (Nat.le_trans hl8 (by omega))).mono ?_
  rintro e w9 ⟨rfl, hB, hk⟩
  have S9 := T9.call hB hk
  clear hB hk T9 hl8
  have c8 : w9.cell? ⟨gm, 8, none⟩ = some (.int .i64 0) := S9.bm.cell 8
  have f8 := S9.bm.frozen 8
  have gml := S9.bm.lt
  obtain ⟨s0a, s0t, s0n, r10, e10⟩ : ∃ s0a s0t s0n r, cStamp.rd r9 = ((s0a, s0t, s0n), r) := ⟨_, _, _, _, rfl⟩
  have hl10 := cstamp_sl e10 hl9
  have E10 := Lib.hid e10
  clear e10
  go_wp2_with fail
  clear c8 f8 gml
  have T10 : DMg w gz gr gm ⟨n0, n1, n2, n3, n4, n5, n6, n7, n8, 0, 0, 0, [], ⟨0, 0, 0, [], [], false, [], 0, 0, 0, [], 0⟩, ⟨0, 0, 0, 0, false, [], none, 0, 0, [], false⟩, none, 0, 0, none, 0, 0⟩ [] [] [] r9 (w9.setCell ⟨gm, 8, none⟩ (.int .i64 n8)) := S9.setm 8 (.int .i64 n8) rfl rfl
  clear S9
  refine (cstamp_c gr r9 s0a s0t s0n r10 _ E10.out T10.br (Nat.le_trans hl9 (by omega))).mono ?_
  rintro e w10 ⟨rfl, hB, hk⟩
  have S10 := T10.call hB hk
  clear hB hk T10 hl9
  have c9 : w10.cell? ⟨gm, 9, none⟩ = some (.int .i64 0) := S10.bm.cell 9
  have f9 := S10.bm.frozen 9
  have c10 : w10.cell? ⟨gm, 10, none⟩ = some (.int .i64 0) := S10.bm.cell 10
  have f10 := S10.bm.frozen 10
  have c11 : w10.cell? ⟨gm, 11, none⟩ = some (.int .i64 0) := S10.bm.cell 11
  have f11 := S10.bm.frozen 11
  have gml := S10.bm.lt
  obtain ⟨x0, r11, e11⟩ : ∃ x0 r, cText.rd r10 = (x0, r) := ⟨_, _, rfl⟩
  have hl11 := ctext_sl e11 hl10
  have E11 := Lib.hid e11
  clear e11
  go_wp2_with fail
  clear c9 f9 c10 f10 c11 f11 gml
  have T11 : DMg w gz gr gm ⟨n0, n1, n2, n3, n4, n5, n6, n7, n8, s0a, s0t, s0n, [], ⟨0, 0, 0, [], [], false, [], 0, 0, 0, [], 0⟩, ⟨0, 0, 0, 0, false, [], none, 0, 0, [], false⟩, none, 0, 0, none, 0, 0⟩ [] [] [] r10 (((w10.setCell ⟨gm, 9, none⟩ (.int .i64 s0a)).setCell ⟨gm, 10, none⟩ (.int .i64 s0t)).setCell ⟨gm, 11, none⟩ (.int .i64 s0n)) := S10.set3 9 (.int .i64 s0a) (.int .i64 s0t) (.int .i64 s0n) (m1 := ⟨n0, n1, n2, n3, n4, n5, n6, n7, n8, s0a, 0, 0, [], ⟨0, 0, 0, [], [], false, [], 0, 0, 0, [], 0⟩, ⟨0, 0, 0, 0, false, [], none, 0, 0, [], false⟩, none, 0, 0, none, 0, 0⟩) (m2 := ⟨n0, n1, n2, n3, n4, n5, n6, n7, n8, s0a, s0t, 0, [], ⟨0, 0, 0, [], [], false, [], 0, 0, 0, [], 0⟩, ⟨0, 0, 0, 0, false, [], none, 0, 0, [], false⟩, none, 0, 0, none, 0, 0⟩) rfl rfl rfl rfl rfl rfl
  clear S10
  refine (ctext_c gr r10 x0 r11 _ E11.out T11.br (Nat.le_trans hl10 (by omega))).mono ?_
  rintro e w11 ⟨rfl, hB, hk⟩
  have S11 := T11.call hB hk
  clear hB hk T11 hl10
  have c12 : w11.cell? ⟨gm, 12, none⟩ = some (.string ⟨#[]⟩) := S11.bm.cell 12
  have f12 := S11.bm.frozen 12
  have gml := S11.bm.lt
  obtain ⟨n9, r12, e12⟩ : ∃ n9 r, cNum.rd r11 = (n9, r) := ⟨_, _, rfl⟩
  have hl12 := cnum_sl e12 hl11
  have E12 := Lib.hid e12
  clear e12
  go_wp2_with fail
  clear c12 f12 gml
  have T12 : DMg w gz gr gm ⟨n0, n1, n2, n3, n4, n5, n6, n7, n8, s0a, s0t, s0n, x0, ⟨0, 0, 0, [], [], false, [], 0, 0, 0, [], 0⟩, ⟨0, 0, 0, 0, false, [], none, 0, 0, [], false⟩, none, 0, 0, none, 0, 0⟩ [] [] [] r11 (w11.setCell ⟨gm, 12, none⟩ (.string ⟨x0.toArray⟩)) := S11.setm 12 (.string ⟨x0.toArray⟩) rfl rfl
  clear S11
  refine (cnum_c gr r11 n9 r12 _ E12.out T12.br (Nat.le_trans hl11 (by omega))).mono ?_
  rintro e w12 ⟨rfl, hB, hk⟩
  have S12 := T12.call hB hk
  clear hB hk T12 hl11
  have c13 : w12.cell? ⟨gm, 13, none⟩ = some (.int .i64 0) := S12.bm.cell 13
  have f13 := S12.bm.frozen 13
  have gml := S12.bm.lt
  obtain ⟨n10, r13, e13⟩ : ∃ n10 r, cNum.rd r12 = (n10, r) := ⟨_, _, rfl⟩
  have hl13 := cnum_sl e13 hl12
  have E13 := Lib.hid e13
  clear e13
  go_wp2_with fail
  clear c13 f13 gml
  have T13 : DMg w gz gr gm ⟨n0, n1, n2, n3, n4, n5, n6, n7, n8, s0a, s0t, s0n, x0, ⟨n9, 0, 0, [], [], false, [], 0, 0, 0, [], 0⟩, ⟨0, 0, 0, 0, false, [], none, 0, 0, [], false⟩, none, 0, 0, none, 0, 0⟩ [] [] [] r12 (w12.setCell ⟨gm, 13, none⟩ (.int .i64 n9)) := S12.setm 13 (.int .i64 n9) rfl rfl
  clear S12
  refine (cnum_c gr r12 n10 r13 _ E13.out T13.br (Nat.le_trans hl12 (by omega))).mono ?_
  rintro e w13 ⟨rfl, hB, hk⟩
  have S13 := T13.call hB hk
  clear hB hk T13 hl12
  have c14 : w13.cell? ⟨gm, 14, none⟩ = some (.int .i64 0) := S13.bm.cell 14
  have f14 := S13.bm.frozen 14
  have gml := S13.bm.lt
  obtain ⟨n11, r14, e14⟩ : ∃ n11 r, cNum.rd r13 = (n11, r) := ⟨_, _, rfl⟩
  have hl14 := cnum_sl e14 hl13
  have E14 := Lib.hid e14
  clear e14
  go_wp2_with fail
  clear c14 f14 gml
  have T14 : DMg w gz gr gm ⟨n0, n1, n2, n3, n4, n5, n6, n7, n8, s0a, s0t, s0n, x0, ⟨n9, n10, 0, [], [], false, [], 0, 0, 0, [], 0⟩, ⟨0, 0, 0, 0, false, [], none, 0, 0, [], false⟩, none, 0, 0, none, 0, 0⟩ [] [] [] r13 (w13.setCell ⟨gm, 14, none⟩ (.int .i64 n10)) := S13.setm 14 (.int .i64 n10) rfl rfl
  clear S13
  refine (cnum_c gr r13 n11 r14 _ E14.out T14.br (Nat.le_trans hl13 (by omega))).mono ?_
  rintro e w14 ⟨rfl, hB, hk⟩
  have S14 := T14.call hB hk
  clear hB hk T14 hl13
  have c15 : w14.cell? ⟨gm, 15, none⟩ = some (.int .i64 0) := S14.bm.cell 15
  have f15 := S14.bm.frozen 15
  have gml := S14.bm.lt
  obtain ⟨x1, r15, e15⟩ : ∃ x1 r, cText.rd r14 = (x1, r) := ⟨_, _, rfl⟩
  have hl15 := ctext_sl e15 hl14
  have E15 := Lib.hid e15
  clear e15
  go_wp2_with fail
  clear c15 f15 gml
  have T15 : DMg w gz gr gm ⟨n0, n1, n2, n3, n4, n5, n6, n7, n8, s0a, s0t, s0n, x0, ⟨n9, n10, n11, [], [], false, [], 0, 0, 0, [], 0⟩, ⟨0, 0, 0, 0, false, [], none, 0, 0, [], false⟩, none, 0, 0, none, 0, 0⟩ [] [] [] r14 (w14.setCell ⟨gm, 15, none⟩ (.int .i64 n11)) := S14.setm 15 (.int .i64 n11) rfl rfl
  clear S14
  refine (ctext_c gr r14 x1 r15 _ E15.out T15.br (Nat.le_trans hl14 (by omega))).mono ?_
  rintro e w15 ⟨rfl, hB, hk⟩
  have S15 := T15.call hB hk
  clear hB hk T15 hl14
  have c16 : w15.cell? ⟨gm, 16, none⟩ = some (.string ⟨#[]⟩) := S15.bm.cell 16
  have f16 := S15.bm.frozen 16
  have gml := S15.bm.lt
  obtain ⟨x2, r16, e16⟩ : ∃ x2 r, cText.rd r15 = (x2, r) := ⟨_, _, rfl⟩
  have hl16 := ctext_sl e16 hl15
  have E16 := Lib.hid e16
  clear e16
  go_wp2_with fail
  clear c16 f16 gml
  have T16 : DMg w gz gr gm ⟨n0, n1, n2, n3, n4, n5, n6, n7, n8, s0a, s0t, s0n, x0, ⟨n9, n10, n11, x1, [], false, [], 0, 0, 0, [], 0⟩, ⟨0, 0, 0, 0, false, [], none, 0, 0, [], false⟩, none, 0, 0, none, 0, 0⟩ [] [] [] r15 (w15.setCell ⟨gm, 16, none⟩ (.string ⟨x1.toArray⟩)) := S15.setm 16 (.string ⟨x1.toArray⟩) rfl rfl
  clear S15
  refine (ctext_c gr r15 x2 r16 _ E16.out T16.br (Nat.le_trans hl15 (by omega))).mono ?_
  rintro e w16 ⟨rfl, hB, hk⟩
  have S16 := T16.call hB hk
  clear hB hk T16 hl15
  have c17 : w16.cell? ⟨gm, 17, none⟩ = some (.string ⟨#[]⟩) := S16.bm.cell 17
  have f17 := S16.bm.frozen 17
  have gml := S16.bm.lt
  obtain ⟨b0, r17, e17⟩ : ∃ b0 r, cFlag.rd r16 = (b0, r) := ⟨_, _, rfl⟩
  have hl17 := cflag_sl e17 hl16
  have E17 := Lib.hid e17
  clear e17
  go_wp2_with fail
  clear c17 f17 gml
  have T17 : DMg w gz gr gm ⟨n0, n1, n2, n3, n4, n5, n6, n7, n8, s0a, s0t, s0n, x0, ⟨n9, n10, n11, x1, x2, false, [], 0, 0, 0, [], 0⟩, ⟨0, 0, 0, 0, false, [], none, 0, 0, [], false⟩, none, 0, 0, none, 0, 0⟩ [] [] [] r16 (w16.setCell ⟨gm, 17, none⟩ (.string ⟨x2.toArray⟩)) := S16.setm 17 (.string ⟨x2.toArray⟩) rfl rfl
  clear S16
  refine (cflag_c gr r16 b0 r17 _ E17.out T17.br (Nat.le_trans hl16 (by omega))).mono ?_
  rintro e w17 ⟨rfl, hB, hk⟩
  have S17 := T17.call hB hk
  clear hB hk T17 hl16
  have c18 : w17.cell? ⟨gm, 18, none⟩ = some (.bool false) := S17.bm.cell 18
  have f18 := S17.bm.frozen 18
  have gml := S17.bm.lt
  obtain ⟨x3, r18, e18⟩ : ∃ x3 r, cText.rd r17 = (x3, r) := ⟨_, _, rfl⟩
  have hl18 := ctext_sl e18 hl17
  have E18 := Lib.hid e18
  clear e18
  go_wp2_with fail
  clear c18 f18 gml
  have T18 : DMg w gz gr gm ⟨n0, n1, n2, n3, n4, n5, n6, n7, n8, s0a, s0t, s0n, x0, ⟨n9, n10, n11, x1, x2, b0, [], 0, 0, 0, [], 0⟩, ⟨0, 0, 0, 0, false, [], none, 0, 0, [], false⟩, none, 0, 0, none, 0, 0⟩ [] [] [] r17 (w17.setCell ⟨gm, 18, none⟩ (.bool b0)) := S17.setm 18 (.bool b0) rfl rfl
  clear S17
  refine (ctext_c gr r17 x3 r18 _ E18.out T18.br (Nat.le_trans hl17 (by omega))).mono ?_
  rintro e w18 ⟨rfl, hB, hk⟩
  have S18 := T18.call hB hk
  clear hB hk T18 hl17
  have c19 : w18.cell? ⟨gm, 19, none⟩ = some (.string ⟨#[]⟩) := S18.bm.cell 19
  have f19 := S18.bm.frozen 19
  have gml := S18.bm.lt
  obtain ⟨s1a, s1t, s1n, r19, e19⟩ : ∃ s1a s1t s1n r, cStamp.rd r18 = ((s1a, s1t, s1n), r) := ⟨_, _, _, _, rfl⟩
  have hl19 := cstamp_sl e19 hl18
  have E19 := Lib.hid e19
  clear e19
  go_wp2_with fail
  clear c19 f19 gml
  have T19 : DMg w gz gr gm ⟨n0, n1, n2, n3, n4, n5, n6, n7, n8, s0a, s0t, s0n, x0, ⟨n9, n10, n11, x1, x2, b0, x3, 0, 0, 0, [], 0⟩, ⟨0, 0, 0, 0, false, [], none, 0, 0, [], false⟩, none, 0, 0, none, 0, 0⟩ [] [] [] r18 (w18.setCell ⟨gm, 19, none⟩ (.string ⟨x3.toArray⟩)) := S18.setm 19 (.string ⟨x3.toArray⟩) rfl rfl
  clear S18
  refine (cstamp_c gr r18 s1a s1t s1n r19 _ E19.out T19.br (Nat.le_trans hl18 (by omega))).mono ?_
  rintro e w19 ⟨rfl, hB, hk⟩
  have S19 := T19.call hB hk
  clear hB hk T19 hl18
  have c20 : w19.cell? ⟨gm, 20, none⟩ = some (.int .i64 0) := S19.bm.cell 20
  have f20 := S19.bm.frozen 20
  have c21 : w19.cell? ⟨gm, 21, none⟩ = some (.int .i64 0) := S19.bm.cell 21
  have f21 := S19.bm.frozen 21
  have c22 : w19.cell? ⟨gm, 22, none⟩ = some (.int .i64 0) := S19.bm.cell 22
  have f22 := S19.bm.frozen 22
  have gml := S19.bm.lt
  obtain ⟨x4, r20, e20⟩ : ∃ x4 r, cText.rd r19 = (x4, r) := ⟨_, _, rfl⟩
  have hl20 := ctext_sl e20 hl19
  have E20 := Lib.hid e20
  clear e20
  go_wp2_with fail
  clear c20 f20 c21 f21 c22 f22 gml
  have T20 : DMg w gz gr gm ⟨n0, n1, n2, n3, n4, n5, n6, n7, n8, s0a, s0t, s0n, x0, ⟨n9, n10, n11, x1, x2, b0, x3, s1a, s1t, s1n, [], 0⟩, ⟨0, 0, 0, 0, false, [], none, 0, 0, [], false⟩, none, 0, 0, none, 0, 0⟩ [] [] [] r19 (((w19.setCell ⟨gm, 20, none⟩ (.int .i64 s1a)).setCell ⟨gm, 21, none⟩ (.int .i64 s1t)).setCell ⟨gm, 22, none⟩ (.int .i64 s1n)) := S19.set3 20 (.int .i64 s1a) (.int .i64 s1t) (.int .i64 s1n) (m1 := ⟨n0, n1, n2, n3, n4, n5, n6, n7, n8, s0a, s0t, s0n, x0, ⟨n9, n10, n11, x1, x2, b0, x3, s1a, 0, 0, [], 0⟩, ⟨0, 0, 0, 0, false, [], none, 0, 0, [], false⟩, none, 0, 0, none, 0, 0⟩) (m2 := ⟨n0, n1, n2, n3, n4, n5, n6, n7, n8, s0a, s0t, s0n, x0, ⟨n9, n10, n11, x1, x2, b0, x3, s1a, s1t, 0, [], 0⟩, ⟨0, 0, 0, 0, false, [], none, 0, 0, [], false⟩, none, 0, 0, none, 0, 0⟩) rfl rfl rfl rfl rfl rfl
  clear S19
  refine (ctext_c gr r19 x4 r20 _ E20.out T20.br (Nat.le_trans hl19 (by omega))).mono ?_
  rintro e w20 ⟨rfl, hB, hk⟩
  have S20 := T20.call hB hk
  clear hB hk T20 hl19
  have c23 : w20.cell? ⟨gm, 23, none⟩ = some (.string ⟨#[]⟩) := S20.bm.cell 23
  have f23 := S20.bm.frozen 23
  have gml := S20.bm.lt
  obtain ⟨n12, r21, e21⟩ : ∃ n12 r, cNum.rd r20 = (n12, r) := ⟨_, _, rfl⟩
  have hl21 := cnum_sl e21 hl20
  have E21 := Lib.hid e21
  clear e21
  go_wp2_with fail
  clear c23 f23 gml
  have T21 : DMg w gz gr gm ⟨n0, n1, n2, n3, n4, n5, n6, n7, n8, s0a, s0t, s0n, x0, ⟨n9, n10, n11, x1, x2, b0, x3, s1a, s1t, s1n, x4, 0⟩, ⟨0, 0, 0, 0, false, [], none, 0, 0, [], false⟩, none, 0, 0, none, 0, 0⟩ [] [] [] r20 (w20.setCell ⟨gm, 23, none⟩ (.string ⟨x4.toArray⟩)) := S20.setm 23 (.string ⟨x4.toArray⟩) rfl rfl
  clear S20
  refine (cnum_c gr r20 n12 r21 _ E21.out T21.br (Nat.le_trans hl20 (by omega))).mono ?_
  rintro e w21 ⟨rfl, hB, hk⟩
  have S21 := T21.call hB hk
  clear hB hk T21 hl20
  have c24 : w21.cell? ⟨gm, 24, none⟩ = some (.int .i64 0) := S21.bm.cell 24
  have f24 := S21.bm.frozen 24
  have gml := S21.bm.lt
  obtain ⟨n13, r22, e22⟩ : ∃ n13 r, cNum.rd r21 = (n13, r) := ⟨_, _, rfl⟩
  have hl22 := cnum_sl e22 hl21
  have E22 := Lib.hid e22
  clear e22
  go_wp2_with fail
  clear c24 f24 gml
  have T22 : DMg w gz gr gm ⟨n0, n1, n2, n3, n4, n5, n6, n7, n8, s0a, s0t, s0n, x0, ⟨n9, n10, n11, x1, x2, b0, x3, s1a, s1t, s1n, x4, n12⟩, ⟨0, 0, 0, 0, false, [], none, 0, 0, [], false⟩, none, 0, 0, none, 0, 0⟩ [] [] [] r21 (w21.setCell ⟨gm, 24, none⟩ (.int .i64 n12)) := S21.setm 24 (.int .i64 n12) rfl rfl
  clear S21
  refine (cnum_c gr r21 n13 r22 _ E22.out T22.br (Nat.le_trans hl21 (by omega))).mono ?_
  rintro e w22 ⟨rfl, hB, hk⟩
  have S22 := T22.call hB hk
  clear hB hk T22 hl21
  have c25 : w22.cell? ⟨gm, 25, none⟩ = some (.int .i64 0) := S22.bm.cell 25
  have f25 := S22.bm.frozen 25
  have gml := S22.bm.lt
  obtain ⟨s2a, s2t, s2n, r23, e23⟩ : ∃ s2a s2t s2n r, cStamp.rd r22 = ((s2a, s2t, s2n), r) := ⟨_, _, _, _, rfl⟩
  have hl23 := cstamp_sl e23 hl22
  have E23 := Lib.hid e23
  clear e23
  go_wp2_with fail
  clear c25 f25 gml
  have T23 : DMg w gz gr gm ⟨n0, n1, n2, n3, n4, n5, n6, n7, n8, s0a, s0t, s0n, x0, ⟨n9, n10, n11, x1, x2, b0, x3, s1a, s1t, s1n, x4, n12⟩, ⟨n13, 0, 0, 0, false, [], none, 0, 0, [], false⟩, none, 0, 0, none, 0, 0⟩ [] [] [] r22 (w22.setCell ⟨gm, 25, none⟩ (.int .i64 n13)) := S22.setm 25 (.int .i64 n13) rfl rfl
  clear S22
  refine (cstamp_c gr r22 s2a s2t s2n r23 _ E23.out T23.br (Nat.le_trans hl22 (by omega))).mono ?_
  rintro e w23 ⟨rfl, hB, hk⟩
  have S23 := T23.call hB hk
  clear hB hk T23 hl22
  have c26 : w23.cell? ⟨gm, 26, none⟩ = some (.int .i64 0) := S23.bm.cell 26
  have f26 := S23.bm.frozen 26
  have c27 : w23.cell? ⟨gm, 27, none⟩ = some (.int .i64 0) := S23.bm.cell 27
  have f27 := S23.bm.frozen 27
  have c28 : w23.cell? ⟨gm, 28, none⟩ = some (.int .i64 0) := S23.bm.cell 28
  have f28 := S23.bm.frozen 28
  have gml := S23.bm.lt
  obtain ⟨b1, r24, e24⟩ : ∃ b1 r, cFlag.rd r23 = (b1, r) := ⟨_, _, rfl⟩
  have hl24 := cflag_sl e24 hl23
  have E24 := Lib.hid e24
  clear e24
  go_wp2_with fail
  clear c26 f26 c27 f27 c28 f28 gml
  have T24 : DMg w gz gr gm ⟨n0, n1, n2, n3, n4, n5, n6, n7, n8, s0a, s0t, s0n, x0, ⟨n9, n10, n11, x1, x2, b0, x3, s1a, s1t, s1n, x4, n12⟩, ⟨n13, s2a, s2t, s2n, false, [], none, 0, 0, [], false⟩, none, 0, 0, none, 0, 0⟩ [] [] [] r23 (((w23.setCell ⟨gm, 26, none⟩ (.int .i64 s2a)).setCell ⟨gm, 27, none⟩ (.int .i64 s2t)).setCell ⟨gm, 28, none⟩ (.int .i64 s2n)) := S23.set3 26 (.int .i64 s2a) (.int .i64 s2t) (.int .i64 s2n) (m1 := ⟨n0, n1, n2, n3, n4, n5, n6, n7, n8, s0a, s0t, s0n, x0, ⟨n9, n10, n11, x1, x2, b0, x3, s1a, s1t, s1n, x4, n12⟩, ⟨n13, s2a, 0, 0, false, [], none, 0, 0, [], false⟩, none, 0, 0, none, 0, 0⟩) (m2 := ⟨n0, n1, n2, n3, n4, n5, n6, n7, n8, s0a, s0t, s0n, x0, ⟨n9, n10, n11, x1, x2, b0, x3, s1a, s1t, s1n, x4, n12⟩, ⟨n13, s2a, s2t, 0, false, [], none, 0, 0, [], false⟩, none, 0, 0, none, 0, 0⟩) rfl rfl rfl rfl rfl rfl
  clear S23
  refine (cflag_c gr r23 b1 r24 _ E24.out T24.br (Nat.le_trans hl23 (by omega))).mono ?_
  rintro e w24 ⟨rfl, hB, hk⟩
  have S24 := T24.call hB hk
  clear hB hk T24 hl23
  have c29 : w24.cell? ⟨gm, 29, none⟩ = some (.bool false) := S24.bm.cell 29
  have f29 := S24.bm.frozen 29
  have gml := S24.bm.lt
  obtain ⟨x5, r25, e25⟩ : ∃ x5 r, cText.rd r24 = (x5, r) := ⟨_, _, rfl⟩
  have hl25 := ctext_sl e25 hl24
  have E25 := Lib.hid e25
  clear e25
  go_wp2_with fail
  clear c29 f29 gml
  have T25 : DMg w gz gr gm ⟨n0, n1, n2, n3, n4, n5, n6, n7, n8, s0a, s0t, s0n, x0, ⟨n9, n10, n11, x1, x2, b0, x3, s1a, s1t, s1n, x4, n12⟩, ⟨n13, s2a, s2t, s2n, b1, [], none, 0, 0, [], false⟩, none, 0, 0, none, 0, 0⟩ [] [] [] r24 (w24.setCell ⟨gm, 29, none⟩ (.bool b1)) := S24.setm 29 (.bool b1) rfl rfl
  clear S24
  refine (ctext_c gr r24 x5 r25 _ E25.out T25.br (Nat.le_trans hl24 (by omega))).mono ?_
  rintro e w25 ⟨rfl, hB, hk⟩
  have S25 := T25.call hB hk
  clear hB hk T25 hl24
  have c30 : w25.cell? ⟨gm, 30, none⟩ = some (.string ⟨#[]⟩) := S25.bm.cell 30
  have f30 := S25.bm.frozen 30
  have gml := S25.bm.lt
  obtain ⟨c0, r26, e26⟩ : ∃ c0 r, cNum.rd r25 = (c0, r) := ⟨_, _, rfl⟩
  have hl26 := cnum_sl e26 hl25
  have E26 := Lib.hid e26
  clear e26
  go_wp2_with fail
  clear c30 f30 gml
  have T26 : DMg w gz gr gm ⟨n0, n1, n2, n3, n4, n5, n6, n7, n8, s0a, s0t, s0n, x0, ⟨n9, n10, n11, x1, x2, b0, x3, s1a, s1t, s1n, x4, n12⟩, ⟨n13, s2a, s2t, s2n, b1, x5, none, 0, 0, [], false⟩, none, 0, 0, none, 0, 0⟩ [] [] [] r25 (w25.setCell ⟨gm, 30, none⟩ (.string ⟨x5.toArray⟩)) := S25.setm 30 (.string ⟨x5.toArray⟩) rfl rfl
  clear S25
  refine (cnum_c gr r25 c0 r26 _ E26.out T26.br (Nat.le_trans hl25 (by omega))).mono ?_
  rintro e w26 ⟨rfl, hB, hk⟩
  have S26 := T26.call hB hk
  clear hB hk T26 hl25
  go_wp2_with fail
  go_loopw [7] (fun i wr => ∃ (k : Nat) (A : Option Addr) (c : Nat) (xs : List It) (rr : RS), i = .int .i64 k ∧ (k : Int) ≤ c0.toNat ∧ DMg w gz gr gm ⟨n0, n1, n2, n3, n4, n5, n6, n7, n8, s0a, s0t, s0n, x0, ⟨n9, n10, n11, x1, x2, b0, x3, s1a, s1t, s1n, x4, n12⟩, ⟨n13, s2a, s2t, s2n, b1, x5, A, k, c, [], false⟩, none, 0, 0, none, 0, 0⟩ xs [] [] rr wr ∧ cdN cItem.rd k r26 = (xs, rr) ∧ Far k rr 4096) (fun i _ => c0.toNat - (intOf i).toNat)
  case atStart => exact ⟨0, none, 0, [], r26, rfl, by omega, S26, rfl, Far.zero hl26⟩
  case round =>
    clear S26
    obtain ⟨k, A0, cap0, its, rr, rfl, hk, hS, hrd, hfar⟩ := hrel
    have i0 : (0 : Int) ≤ (k : Int) := by omega
    have HRD := Lib.hid hrd
    clear hrd
    obtain ⟨bd, rs⟩ := rr
    have HFAR := Lib.hid hfar
    have hk26 := hfar.le
    clear hfar
    go_upto_region 29 with (fail)
    go_cut [115] from 106 to 114 (fun c wx => c = .bool (decide ((k : Int) < c0) && !bd) ∧ wr = wx)
    case first =>
      have z1 : wr.cell? ⟨gr, 1, none⟩ = some (.bool bd) := hS.br.cell 1
      have zl := hS.br.lt
      by_cases hlt : (k : Int) < c0
      case neg =>
        go_wp2_with fail
        go_meet
        exact ⟨by rw [show decide ((k : Int) < c0) = false from decide_eq_false (by omega)]; rfl, rfl⟩
      case pos =>
      cases bd
      case false =>
        go_wp2_with fail
        go_meet
        exact ⟨by rw [show decide ((k : Int) < c0) = true from decide_eq_true (by omega)]; rfl, rfl⟩
      case true =>
        go_wp2_with fail
        go_meet
        exact ⟨by simp, rfl⟩
    case rest =>
    obtain ⟨rfl, rfl⟩ := hcut
    obtain ⟨cb, hcb⟩ : ∃ q, (decide ((k : Int) < c0) && !bd) = q := ⟨_, rfl⟩
    rw [hcb]
    have HCB := Lib.hid hcb
    clear hcb
    cases cb
    case true =>
      have hcc := HCB.out
      simp only [Bool.and_eq_true, decide_eq_true_eq, Bool.not_eq_true'] at hcc
      obtain ⟨hlt, rfl⟩ := hcc
      have hkN := HFAR.out.go rfl
      simp only at hkN
      have hlr := HFAR.out.len
      simp only at hlr
      clear HCB
      obtain ⟨ii, hii, hiz, his, hib⟩ := info_parts infoIt
      obtain ⟨x, ra, ea⟩ : ∃ x r, cText.rd ⟨false, rs⟩ = (x, r) := ⟨_, _, rfl⟩
      have hla := ctext_sl ea hlr
      obtain ⟨y, rb, eb⟩ : ∃ x r, cText.rd ra = (x, r) := ⟨_, _, rfl⟩
      have HX := Lib.hid (cItem_eq ea eb)
      have EA := Lib.hid ea
      have EB := Lib.hid eb
      clear ea eb
      go_wp2_with fail
      refine (ctext_c gr ⟨false, rs⟩ x ra _ EA.out hS.br (Nat.le_trans hlr (by omega))).mono ?_
      rintro e wa ⟨rfl, hB, hkk⟩
      have Sa := hS.call hB hkk
      clear hB hkk hS
      have hoff := Sa.off
      have hgm := Sa.bm.lt
      have hgr2 := Sa.l2
      go_wp2_with fail
      have Sp := Sa.alloc (.cells #[.string ⟨x.toArray⟩, .string ⟨#[]⟩] 79)
      have Bp : Blk (wa.alloc (.cells #[.string ⟨x.toArray⟩, .string ⟨#[]⟩] 79)) wa.heap.size 79 #[.string ⟨x.toArray⟩, .string ⟨#[]⟩] := Blk.new wa _ _
      generalize (wa.alloc (.cells #[.string ⟨x.toArray⟩, .string ⟨#[]⟩] 79)) = wp at *
      generalize wa.heap.size = gp at *
      clear Sa
      have hnr : gp ≠ gr := by omega
      refine (ctext_c gr ra y rb _ EB.out Sp.br (Nat.le_trans hla (by omega))).mono ?_
      rintro e u0 ⟨rfl, hB, hkk⟩
      have Sx := Sp.call hB hkk
      have Bx := hkk.kept _ _ _ hnr Bp
      clear hB hkk Sp Bp
      have v1 : u0.cell? ⟨gp, 1, none⟩ = some (.string ⟨#[]⟩) := Bx.cell 1
      have y1 := Bx.frozen 1
      have gpl := Bx.lt
      go_upto_region 33 with (fail)
      clear v1 y1 gpl
      have S_0 := Sx.setx hgm hoff 1 (.string ⟨y.toArray⟩)
      have B_0 : Blk (u0.setCell ⟨gp, 1, none⟩ (.string ⟨y.toArray⟩)) gp 79 #[.string ⟨x.toArray⟩, .string ⟨y.toArray⟩] := Bx.set 1 _
      clear Sx Bx
      generalize u0.setCell ⟨gp, 1, none⟩ (.string ⟨y.toArray⟩) = wf0 at *
      have v0 : wf0.cell? ⟨gp, 0, none⟩ = some (.string ⟨x.toArray⟩) := B_0.cell 0
      have v1 : wf0.cell? ⟨gp, 1, none⟩ = some (.string ⟨y.toArray⟩) := B_0.cell 1
      have gpl := B_0.lt
      have c31 : wf0.cell? ⟨gm, 31, none⟩ = some (.slice A0 k cap0) := S_0.bm.cell 31
      have f31 := S_0.bm.frozen 31
      have gml := S_0.bm.lt
      have Ow : wf0.ownsRow w.heap.size 79 2 (.slice A0 k cap0) k (itF its) := S_0.oi
      go_wp2_with (at_builtin; refine wpl_pushR (by rfl) _ _ _ (by rfl) w.heap.size 79 ii _ 2 32 Tryz.underlying45 hii hiz his hib (by rfl) (by decide) wf0 _ k (itF its) (by rfl) Ow [.string ⟨x.toArray⟩, .string ⟨y.toArray⟩] rfl ?hu31 1 (by rfl) ?h6331 ?hby31 ?hba31 ?_; (focus (simp [Value.oneCell'])); (focus omega); (focus omega); (focus (exact S_0.below.size)); intro gN capN w3 hownN hbN hkN; have d31 : w3.cell? ⟨gm, 31, none⟩ = some (.slice A0 k cap0) := (hkN _ _ _ (by decide) S_0.bm).cell 31; have g31 := (hkN _ _ _ (by decide) S_0.bm).frozen 31; have gl31 := (hkN _ _ _ (by decide) S_0.bm).lt)
      go_roundw
      case rel =>
        refine ⟨k + 1, _, _, its ++ [⟨x, y⟩], rb, by go_num, by omega, S_0.pushI hbN hkN (by rw [itF_snoc]; exact hownN) (by have := S_0.ni; simp only [List.length_append, List.length_cons, List.length_nil]; simp only at this; omega) (by omega) rfl, cdN_succ _ _ _ _ _ _ _ HRD.out rfl HX.out, HFAR.out.succ cItem_pos HX.out⟩
      case measure => simp [intOf]; omega
    case false =>
      have hcc := HCB.out
      have hend : k = c0.toNat ∨ bd = true := by
        cases bd with
        | true => exact .inr rfl
        | false =>
          have : ¬ (k : Int) < c0 := by simpa using hcc
          exact .inl (by omega)
      have HRI := Lib.hid (cdN_end cItem.rd k c0.toNat r26 ⟨bd, rs⟩ _ HRD.out (by omega) hend)
      have hlI := HFAR.out.len
      simp only at hlI
      clear hcc HCB hend HRD HFAR
      obtain ⟨rI, hrI⟩ : ∃ r, (⟨bd, rs⟩ : RS) = r := ⟨_, rfl⟩
      have hlI : rI.s.length ≤ 4096 := by rw [← hrI]; exact hlI
      rw [hrI] at hS HRI
      clear hrI
      obtain ⟨kI, hh⟩ : ∃ x, x = k := ⟨_, rfl⟩
      subst hh
      obtain ⟨AI, hh⟩ : ∃ x, x = A0 := ⟨_, rfl⟩
      subst hh
      obtain ⟨cI, hh⟩ : ∃ x, x = cap0 := ⟨_, rfl⟩
      subst hh
      have SI := hS
      clear hS i0 hk hk26
      obtain ⟨x6, r27, e27⟩ : ∃ x6 r, cText.rd rI = (x6, r) := ⟨_, _, rfl⟩
      have hl27 := ctext_sl e27 hlI
      have E27 := Lib.hid e27
      clear e27
      go_wp2_with fail
      refine (ctext_c gr rI x6 r27 _ E27.out SI.br (Nat.le_trans hlI (by omega))).mono ?_
      rintro e w27 ⟨rfl, hB, hk⟩
      have S27 := SI.call hB hk
      clear hB hk SI hlI
      have c32 : w27.cell? ⟨gm, 32, none⟩ = some (.string ⟨#[]⟩) := S27.bm.cell 32
      have f32 := S27.bm.frozen 32
      have gml := S27.bm.lt
      obtain ⟨b2, r28, e28⟩ : ∃ b2 r, cFlag.rd r27 = (b2, r) := ⟨_, _, rfl⟩
      have hl28 := cflag_sl e28 hl27
      have E28 := Lib.hid e28
      clear e28
      go_wp2_with fail
      clear c32 f32 gml
      have T28 : DMg w gz gr gm ⟨n0, n1, n2, n3, n4, n5, n6, n7, n8, s0a, s0t, s0n, x0, ⟨n9, n10, n11, x1, x2, b0, x3, s1a, s1t, s1n, x4, n12⟩, ⟨n13, s2a, s2t, s2n, b1, x5, AI, kI, cI, x6, false⟩, none, 0, 0, none, 0, 0⟩ its [] [] r27 (w27.setCell ⟨gm, 32, none⟩ (.string ⟨x6.toArray⟩)) := S27.setm 32 (.string ⟨x6.toArray⟩) rfl rfl
      clear S27
      refine (cflag_c gr r27 b2 r28 _ E28.out T28.br (Nat.le_trans hl27 (by omega))).mono ?_
      rintro e w28 ⟨rfl, hB, hk⟩
      have S28 := T28.call hB hk
      clear hB hk T28 hl27
      have c33 : w28.cell? ⟨gm, 33, none⟩ = some (.bool false) := S28.bm.cell 33
      have f33 := S28.bm.frozen 33
      have gml := S28.bm.lt
      obtain ⟨c1, r29, e29⟩ : ∃ c1 r, cNum.rd r28 = (c1, r) := ⟨_, _, rfl⟩
      have hl29 := cnum_sl e29 hl28
      have E29 := Lib.hid e29
      clear e29
      go_wp2_with fail
      clear c33 f33 gml
      have T29 : DMg w gz gr gm ⟨n0, n1, n2, n3, n4, n5, n6, n7, n8, s0a, s0t, s0n, x0, ⟨n9, n10, n11, x1, x2, b0, x3, s1a, s1t, s1n, x4, n12⟩, ⟨n13, s2a, s2t, s2n, b1, x5, AI, kI, cI, x6, b2⟩, none, 0, 0, none, 0, 0⟩ its [] [] r28 (w28.setCell ⟨gm, 33, none⟩ (.bool b2)) := S28.setm 33 (.bool b2) rfl rfl
      clear S28
      refine (cnum_c gr r28 c1 r29 _ E29.out T29.br (Nat.le_trans hl28 (by omega))).mono ?_
      rintro e w29 ⟨rfl, hB, hk⟩
      have S29 := T29.call hB hk
      clear hB hk T29 hl28
      go_wp2_with fail
      go_loopw [9] (fun i wr => ∃ (k : Nat) (A : Option Addr) (c : Nat) (xs : List Pl) (rr : RS), i = .int .i64 k ∧ (k : Int) ≤ c1.toNat ∧ DMg w gz gr gm ⟨n0, n1, n2, n3, n4, n5, n6, n7, n8, s0a, s0t, s0n, x0, ⟨n9, n10, n11, x1, x2, b0, x3, s1a, s1t, s1n, x4, n12⟩, ⟨n13, s2a, s2t, s2n, b1, x5, AI, kI, cI, x6, b2⟩, A, k, c, none, 0, 0⟩ its xs [] rr wr ∧ cdN cPlace.rd k r29 = (xs, rr) ∧ Far k rr 4096) (fun i _ => c1.toNat - (intOf i).toNat)
      case atStart => exact ⟨0, none, 0, [], r29, rfl, by omega, S29, rfl, Far.zero hl29⟩
      case round =>
        clear S29
        obtain ⟨k, A0, cap0, pls, rr, rfl, hk, hS, hrd, hfar⟩ := hrel
        have i0 : (0 : Int) ≤ (k : Int) := by omega
        have HRD := Lib.hid hrd
        clear hrd
        obtain ⟨bd, rs⟩ := rr
        have HFAR := Lib.hid hfar
        have hk26 := hfar.le
        clear hfar
        go_upto_region 38 with (fail)
        go_cut [151] from 142 to 150 (fun c wx => c = .bool (decide ((k : Int) < c1) && !bd) ∧ wr = wx)
        case first =>
          have z1 : wr.cell? ⟨gr, 1, none⟩ = some (.bool bd) := hS.br.cell 1
          have zl := hS.br.lt
          by_cases hlt : (k : Int) < c1
          case neg =>
            go_wp2_with fail
            go_meet
            exact ⟨by rw [show decide ((k : Int) < c1) = false from decide_eq_false (by omega)]; rfl, rfl⟩
          case pos =>
          cases bd
          case false =>
            go_wp2_with fail
            go_meet
            exact ⟨by rw [show decide ((k : Int) < c1) = true from decide_eq_true (by omega)]; rfl, rfl⟩
          case true =>
            go_wp2_with fail
            go_meet
            exact ⟨by simp, rfl⟩
        case rest =>
        obtain ⟨rfl, rfl⟩ := hcut
        obtain ⟨cb, hcb⟩ : ∃ q, (decide ((k : Int) < c1) && !bd) = q := ⟨_, rfl⟩
        rw [hcb]
        have HCB := Lib.hid hcb
        clear hcb
        cases cb
        case true =>
          have hcc := HCB.out
          simp only [Bool.and_eq_true, decide_eq_true_eq, Bool.not_eq_true'] at hcc
          obtain ⟨hlt, rfl⟩ := hcc
          have hkN := HFAR.out.go rfl
          simp only at hkN
          have hlr := HFAR.out.len
          simp only at hlr
          clear HCB
          obtain ⟨ii, hii, hiz, his, hib⟩ := info_parts infoPl
          obtain ⟨x, ra, ea⟩ : ∃ x r, cText.rd ⟨false, rs⟩ = (x, r) := ⟨_, _, rfl⟩
          have hla := ctext_sl ea hlr
          obtain ⟨y, rb, eb⟩ : ∃ x r, cText.rd ra = (x, r) := ⟨_, _, rfl⟩
          have hlb := ctext_sl eb hla
          obtain ⟨p1, rc, ec⟩ : ∃ x r, cNum.rd rb = (x, r) := ⟨_, _, rfl⟩
          have hlc := cnum_sl ec hlb
          obtain ⟨p2, rd, ed⟩ : ∃ x r, cNum.rd rc = (x, r) := ⟨_, _, rfl⟩
          have hld := cnum_sl ed hlc
          obtain ⟨p3, re, ee⟩ : ∃ x r, cNum.rd rd = (x, r) := ⟨_, _, rfl⟩
          have HX := Lib.hid (cPlace_eq ea eb ec ed ee)
          have EA := Lib.hid ea
          have EB := Lib.hid eb
          have EC := Lib.hid ec
          have ED := Lib.hid ed
          have EE := Lib.hid ee
          clear ea eb ec ed ee
          go_wp2_with fail
          refine (ctext_c gr ⟨false, rs⟩ x ra _ EA.out hS.br (Nat.le_trans hlr (by omega))).mono ?_
          rintro e wa ⟨rfl, hB, hkk⟩
          have Sa := hS.call hB hkk
          clear hB hkk hS
          have hoff := Sa.off
          have hgm := Sa.bm.lt
          have hgr2 := Sa.l2
          go_wp2_with fail
          have Sp := Sa.alloc (.cells #[.string ⟨x.toArray⟩, .string ⟨#[]⟩, .int .i64 0, .int .i64 0, .int .i64 0] 81)
          have Bp : Blk (wa.alloc (.cells #[.string ⟨x.toArray⟩, .string ⟨#[]⟩, .int .i64 0, .int .i64 0, .int .i64 0] 81)) wa.heap.size 81 #[.string ⟨x.toArray⟩, .string ⟨#[]⟩, .int .i64 0, .int .i64 0, .int .i64 0] := Blk.new wa _ _
          generalize (wa.alloc (.cells #[.string ⟨x.toArray⟩, .string ⟨#[]⟩, .int .i64 0, .int .i64 0, .int .i64 0] 81)) = wp at *
          generalize wa.heap.size = gp at *
          clear Sa
          have hnr : gp ≠ gr := by omega
          refine (ctext_c gr ra y rb _ EB.out Sp.br (Nat.le_trans hla (by omega))).mono ?_
          rintro e u0 ⟨rfl, hB, hkk⟩
          have Sx := Sp.call hB hkk
          have Bx := hkk.kept _ _ _ hnr Bp
          clear hB hkk Sp Bp
          have v1 : u0.cell? ⟨gp, 1, none⟩ = some (.string ⟨#[]⟩) := Bx.cell 1
          have y1 := Bx.frozen 1
          have gpl := Bx.lt
          go_upto_region 42 with (fail)
          clear v1 y1 gpl
          have S_0 := Sx.setx hgm hoff 1 (.string ⟨y.toArray⟩)
          have B_0 : Blk (u0.setCell ⟨gp, 1, none⟩ (.string ⟨y.toArray⟩)) gp 81 #[.string ⟨x.toArray⟩, .string ⟨y.toArray⟩, .int .i64 0, .int .i64 0, .int .i64 0] := Bx.set 1 _
          clear Sx Bx
          generalize u0.setCell ⟨gp, 1, none⟩ (.string ⟨y.toArray⟩) = wf0 at *
          go_wp2_with fail
          refine (cnum_c gr rb p1 rc _ EC.out S_0.br (Nat.le_trans hlb (by omega))).mono ?_
          rintro e u1 ⟨rfl, hB, hkk⟩
          have Sx := S_0.call hB hkk
          have Bx := hkk.kept _ _ _ hnr B_0
          clear hB hkk S_0 B_0
          have v2 : u1.cell? ⟨gp, 2, none⟩ = some (.int .i64 0) := Bx.cell 2
          have y2 := Bx.frozen 2
          have gpl := Bx.lt
          go_upto_region 43 with (fail)
          clear v2 y2 gpl
          have S_1 := Sx.setx hgm hoff 2 (.int .i64 p1)
          have B_1 : Blk (u1.setCell ⟨gp, 2, none⟩ (.int .i64 p1)) gp 81 #[.string ⟨x.toArray⟩, .string ⟨y.toArray⟩, .int .i64 p1, .int .i64 0, .int .i64 0] := Bx.set 2 _
          clear Sx Bx
          generalize u1.setCell ⟨gp, 2, none⟩ (.int .i64 p1) = wf1 at *
          go_wp2_with fail
          refine (cnum_c gr rc p2 rd _ ED.out S_1.br (Nat.le_trans hlc (by omega))).mono ?_
          rintro e u2 ⟨rfl, hB, hkk⟩
          have Sx := S_1.call hB hkk
          have Bx := hkk.kept _ _ _ hnr B_1
          clear hB hkk S_1 B_1
          have v3 : u2.cell? ⟨gp, 3, none⟩ = some (.int .i64 0) := Bx.cell 3
          have y3 := Bx.frozen 3
          have gpl := Bx.lt
          go_upto_region 44 with (fail)
          clear v3 y3 gpl
          have S_2 := Sx.setx hgm hoff 3 (.int .i64 p2)
          have B_2 : Blk (u2.setCell ⟨gp, 3, none⟩ (.int .i64 p2)) gp 81 #[.string ⟨x.toArray⟩, .string ⟨y.toArray⟩, .int .i64 p1, .int .i64 p2, .int .i64 0] := Bx.set 3 _
          clear Sx Bx
          generalize u2.setCell ⟨gp, 3, none⟩ (.int .i64 p2) = wf2 at *
          go_wp2_with fail
          refine (cnum_c gr rd p3 re _ EE.out S_2.br (Nat.le_trans hld (by omega))).mono ?_
          rintro e u3 ⟨rfl, hB, hkk⟩
          have Sx := S_2.call hB hkk
          have Bx := hkk.kept _ _ _ hnr B_2
          clear hB hkk S_2 B_2
          have v4 : u3.cell? ⟨gp, 4, none⟩ = some (.int .i64 0) := Bx.cell 4
          have y4 := Bx.frozen 4
          have gpl := Bx.lt
          go_upto_region 45 with (fail)
          clear v4 y4 gpl
          have S_3 := Sx.setx hgm hoff 4 (.int .i64 p3)
          have B_3 : Blk (u3.setCell ⟨gp, 4, none⟩ (.int .i64 p3)) gp 81 #[.string ⟨x.toArray⟩, .string ⟨y.toArray⟩, .int .i64 p1, .int .i64 p2, .int .i64 p3] := Bx.set 4 _
          clear Sx Bx
          generalize u3.setCell ⟨gp, 4, none⟩ (.int .i64 p3) = wf3 at *
          have v0 : wf3.cell? ⟨gp, 0, none⟩ = some (.string ⟨x.toArray⟩) := B_3.cell 0
          have v1 : wf3.cell? ⟨gp, 1, none⟩ = some (.string ⟨y.toArray⟩) := B_3.cell 1
          have v2 : wf3.cell? ⟨gp, 2, none⟩ = some (.int .i64 p1) := B_3.cell 2
          have v3 : wf3.cell? ⟨gp, 3, none⟩ = some (.int .i64 p2) := B_3.cell 3
          have v4 : wf3.cell? ⟨gp, 4, none⟩ = some (.int .i64 p3) := B_3.cell 4
          have gpl := B_3.lt
          have c34 : wf3.cell? ⟨gm, 34, none⟩ = some (.slice A0 k cap0) := S_3.bm.cell 34
          have f34 := S_3.bm.frozen 34
          have gml := S_3.bm.lt
          have Ow : wf3.ownsRow w.heap.size 81 5 (.slice A0 k cap0) k (plF pls) := S_3.op
          go_wp2_with (at_builtin; refine wpl_pushR (by rfl) _ _ _ (by rfl) w.heap.size 81 ii _ 5 56 Tryz.underlying48 hii hiz his hib (by rfl) (by decide) wf3 _ k (plF pls) (by rfl) Ow [.string ⟨x.toArray⟩, .string ⟨y.toArray⟩, .int .i64 p1, .int .i64 p2, .int .i64 p3] rfl ?hu34 1 (by rfl) ?h6334 ?hby34 ?hba34 ?_; (focus (simp [Value.oneCell'])); (focus omega); (focus omega); (focus (exact S_3.below.size)); intro gN capN w3 hownN hbN hkN; have d34 : w3.cell? ⟨gm, 34, none⟩ = some (.slice A0 k cap0) := (hkN _ _ _ (by decide) S_3.bm).cell 34; have g34 := (hkN _ _ _ (by decide) S_3.bm).frozen 34; have gl34 := (hkN _ _ _ (by decide) S_3.bm).lt)
          go_roundw
          case rel =>
            refine ⟨k + 1, _, _, pls ++ [⟨x, y, p1, p2, p3⟩], re, by go_num, by omega, S_3.pushP hbN hkN (by rw [plF_snoc]; exact hownN) (by have := S_3.np; simp only [List.length_append, List.length_cons, List.length_nil]; simp only at this; omega) (by omega) rfl, cdN_succ _ _ _ _ _ _ _ HRD.out rfl HX.out, HFAR.out.succ cPlace_pos HX.out⟩
          case measure => simp [intOf]; omega
        case false =>
          have hcc := HCB.out
          have hend : k = c1.toNat ∨ bd = true := by
            cases bd with
            | true => exact .inr rfl
            | false =>
              have : ¬ (k : Int) < c1 := by simpa using hcc
              exact .inl (by omega)
          have HRP := Lib.hid (cdN_end cPlace.rd k c1.toNat r29 ⟨bd, rs⟩ _ HRD.out (by omega) hend)
          have hlP := HFAR.out.len
          simp only at hlP
          clear hcc HCB hend HRD HFAR
          obtain ⟨rP, hrP⟩ : ∃ r, (⟨bd, rs⟩ : RS) = r := ⟨_, rfl⟩
          have hlP : rP.s.length ≤ 4096 := by rw [← hrP]; exact hlP
          rw [hrP] at hS HRP
          clear hrP
          obtain ⟨kP, hh⟩ : ∃ x, x = k := ⟨_, rfl⟩
          subst hh
          obtain ⟨AP, hh⟩ : ∃ x, x = A0 := ⟨_, rfl⟩
          subst hh
          obtain ⟨cP, hh⟩ : ∃ x, x = cap0 := ⟨_, rfl⟩
          subst hh
          have SP := hS
          clear hS i0 hk hk26
          obtain ⟨c2, r30, e30⟩ : ∃ c2 r, cNum.rd rP = (c2, r) := ⟨_, _, rfl⟩
          have hl30 := cnum_sl e30 hlP
          have E30 := Lib.hid e30
          clear e30
          go_wp2_with fail
          refine (cnum_c gr rP c2 r30 _ E30.out SP.br (Nat.le_trans hlP (by omega))).mono ?_
          rintro e w30 ⟨rfl, hB, hk⟩
          have S30 := SP.call hB hk
          clear hB hk SP hlP
          go_wp2_with fail
          go_loopw [11] (fun i wr => ∃ (k : Nat) (A : Option Addr) (c : Nat) (xs : List Int) (rr : RS), i = .int .i64 k ∧ (k : Int) ≤ c2.toNat ∧ DMg w gz gr gm ⟨n0, n1, n2, n3, n4, n5, n6, n7, n8, s0a, s0t, s0n, x0, ⟨n9, n10, n11, x1, x2, b0, x3, s1a, s1t, s1n, x4, n12⟩, ⟨n13, s2a, s2t, s2n, b1, x5, AI, kI, cI, x6, b2⟩, AP, kP, cP, A, k, c⟩ its pls xs rr wr ∧ cdN cNum.rd k r30 = (xs, rr) ∧ Far k rr 4096) (fun i _ => c2.toNat - (intOf i).toNat)
          case atStart => exact ⟨0, none, 0, [], r30, rfl, by omega, S30, rfl, Far.zero hl30⟩
          case round =>
            clear S30
            obtain ⟨k, A0, cap0, mbs, rr, rfl, hk, hS, hrd, hfar⟩ := hrel
            have i0 : (0 : Int) ≤ (k : Int) := by omega
            have HRD := Lib.hid hrd
            clear hrd
            obtain ⟨bd, rs⟩ := rr
            have HFAR := Lib.hid hfar
            have hk26 := hfar.le
            clear hfar
            go_upto_region 48 with (fail)
            go_cut [188] from 179 to 187 (fun c wx => c = .bool (decide ((k : Int) < c2) && !bd) ∧ wr = wx)
            case first =>
              have z1 : wr.cell? ⟨gr, 1, none⟩ = some (.bool bd) := hS.br.cell 1
              have zl := hS.br.lt
              by_cases hlt : (k : Int) < c2
              case neg =>
                go_wp2_with fail
                go_meet
                exact ⟨by rw [show decide ((k : Int) < c2) = false from decide_eq_false (by omega)]; rfl, rfl⟩
              case pos =>
              cases bd
              case false =>
                go_wp2_with fail
                go_meet
                exact ⟨by rw [show decide ((k : Int) < c2) = true from decide_eq_true (by omega)]; rfl, rfl⟩
              case true =>
                go_wp2_with fail
                go_meet
                exact ⟨by simp, rfl⟩
            case rest =>
            obtain ⟨rfl, rfl⟩ := hcut
            obtain ⟨cb, hcb⟩ : ∃ q, (decide ((k : Int) < c2) && !bd) = q := ⟨_, rfl⟩
            rw [hcb]
            have HCB := Lib.hid hcb
            clear hcb
            cases cb
            case true =>
              have hcc := HCB.out
              simp only [Bool.and_eq_true, decide_eq_true_eq, Bool.not_eq_true'] at hcc
              obtain ⟨hlt, rfl⟩ := hcc
              have hkN := HFAR.out.go rfl
              simp only at hkN
              have hlr := HFAR.out.len
              simp only at hlr
              clear HCB
              obtain ⟨ii, hii, hiz, his, hib⟩ := info_parts infoI0
              obtain ⟨x, ra, ea⟩ : ∃ x r, cNum.rd ⟨false, rs⟩ = (x, r) := ⟨_, _, rfl⟩
              have HX := Lib.hid ea
              clear ea
              have c35 : wr.cell? ⟨gm, 35, none⟩ = some (.slice A0 k cap0) := hS.bm.cell 35
              have f35 := hS.bm.frozen 35
              have gl35 := hS.bm.lt
              go_wp2_with fail
              go_region_law (first
                | (go_simp; go_at_call 31; refine (cnum_c gr ⟨false, rs⟩ x ra _ HX.out hS.drew.br (Nat.le_trans hlr (by omega))).mono ?_; rintro e wb ⟨rfl, hB1, hk1⟩; have Sb := hS.drew.call hB1 hk1; have cb35 : wb.cell? ⟨gm, 35, none⟩ = some (.slice A0 k cap0) := Sb.bm.cell 35; have fb35 := Sb.bm.frozen 35; have gb35 := Sb.bm.lt; have Ob : wb.ownsRow w.heap.size 3 1 (.slice A0 k cap0) k (ivF mbs) := Sb.om; clear hB1 hk1)
                | (refine step_pushR (by rfl) _ _ _ (by rfl) w.heap.size 3 ii _ 1 8 Tryz.underlying49 hii hiz his hib (by rfl) (by decide) wb _ k (ivF mbs) (by rfl) Ob [.int .i64 x] rfl ?qhu 1 (by rfl) ?qh63 ?qhby ?qhba ?_; (case qhu => simp [Value.oneCell']); (case qh63 => omega); (case qhby => omega); (case qhba => exact Sb.below.size); intro gN capN w3 hownN hbN hkN; have d35 : w3.cell? ⟨gm, 35, none⟩ = some (.slice A0 k cap0) := (hkN _ _ _ (by decide) Sb.bm).cell 35; have g35 := (hkN _ _ _ (by decide) Sb.bm).frozen 35; have gl335 := (hkN _ _ _ (by decide) Sb.bm).lt))
              all_goals
                go_wp2_with fail
                go_roundw
                case rel =>
                  refine ⟨k + 1, _, _, mbs ++ [x], ra, by go_num, by omega, Sb.pushL hbN hkN (by rw [show ivF (mbs ++ [x]) = ivF mbs ++ [.int .i64 x] by simp [ivF]]; exact hownN) (by have := Sb.nl; simp only [List.length_append, List.length_cons, List.length_nil]; simp only at this; omega) (by omega) rfl, cdN_succ _ _ _ _ _ _ _ HRD.out rfl HX.out, HFAR.out.succ cNum_pos HX.out⟩
                case measure => simp [intOf]; omega
            case false =>
              have hcc := HCB.out
              have hend : k = c2.toNat ∨ bd = true := by
                cases bd with
                | true => exact .inr rfl
                | false =>
                  have : ¬ (k : Int) < c2 := by simpa using hcc
                  exact .inl (by omega)
              have HRM := Lib.hid (cdN_end cNum.rd k c2.toNat r30 ⟨bd, rs⟩ _ HRD.out (by omega) hend)
              have hlM := HFAR.out.len
              simp only at hlM
              clear hcc HCB hend HRD HFAR
              obtain ⟨rM, hrM⟩ : ∃ r, (⟨bd, rs⟩ : RS) = r := ⟨_, rfl⟩
              have hlM : rM.s.length ≤ 4096 := by rw [← hrM]; exact hlM
              rw [hrM] at hS HRM
              clear hrM
              obtain ⟨kM, hh⟩ : ∃ x, x = k := ⟨_, rfl⟩
              subst hh
              obtain ⟨AM, hh⟩ : ∃ x, x = A0 := ⟨_, rfl⟩
              subst hh
              obtain ⟨cM, hh⟩ : ∃ x, x = cap0 := ⟨_, rfl⟩
              subst hh
              have SM := hS
              clear hS i0 hk hk26
              have hread : cMsg.rd ⟨false, t⟩ = (tupM ⟨n0, n1, n2, n3, n4, n5, n6, n7, n8, s0a, s0t, s0n, x0, ⟨n9, n10, n11, x1, x2, b0, x3, s1a, s1t, s1n, x4, n12⟩, ⟨n13, s2a, s2t, s2n, b1, x5, AI, kI, cI, x6, b2⟩, AP, kP, cP, AM, kM, cM⟩ its pls mbs, rM) := (seqC_eq (f := cNum) E1.out (seqC_eq (f := cNum) E2.out (seqC_eq (f := cNum) E3.out (seqC_eq (f := cNum) E4.out (seqC_eq (f := cNum) E5.out (seqC_eq (f := cNum) E6.out (seqC_eq (f := cNum) E7.out (seqC_eq (f := cNum) E8.out (seqC_eq (f := cNum) E9.out (seqC_eq (f := cStamp) E10.out (seqC_eq (f := cText) E11.out (seqC_eq (f := cNum) E12.out (seqC_eq (f := cNum) E13.out (seqC_eq (f := cNum) E14.out (seqC_eq (f := cText) E15.out (seqC_eq (f := cText) E16.out (seqC_eq (f := cFlag) E17.out (seqC_eq (f := cText) E18.out (seqC_eq (f := cStamp) E19.out (seqC_eq (f := cText) E20.out (seqC_eq (f := cNum) E21.out (seqC_eq (f := cNum) E22.out (seqC_eq (f := cStamp) E23.out (seqC_eq (f := cFlag) E24.out (seqC_eq (f := cText) E25.out (seqC_eq (f := (cList cItem)) (clist_eq E26.out HRI.out) (seqC_eq (f := cText) E27.out (seqC_eq (f := cFlag) E28.out (seqC_eq (f := (cList cPlace)) (g := cList cNum) (clist_eq E29.out HRP.out) (clist_eq E30.out HRM.out))))))))))))))))))))))))))))))
              have HREAD := Lib.hid hread
              clear hread HRI HRP HRM E1 E2 E3 E4 E5 E6 E7 E8 E9 E10 E11 E12 E13 E14 E15 E16 E17 E18 E19 E20 E21 E22 E23 E24 E25 E26 E27 E28 E29 E30
              obtain ⟨mm, hmm⟩ : ∃ mm, (⟨n0, n1, n2, n3, n4, n5, n6, n7, n8, s0a, s0t, s0n, x0, ⟨n9, n10, n11, x1, x2, b0, x3, s1a, s1t, s1n, x4, n12⟩, ⟨n13, s2a, s2t, s2n, b1, x5, AI, kI, cI, x6, b2⟩, AP, kP, cP, AM, kM, cM⟩ : Ms) = mm := ⟨_, rfl⟩
              rw [hmm] at HREAD SM
              clear hmm
              have henc := msg_enc mm its pls mbs SM.ni SM.np SM.nl
              have hsz : rM.bad = false → SzM mm its pls := fun h => by
                have h1 := cMsg.bwd t _ _ HREAD.out h
                rw [cMsg_enc] at h1
                have h2 := congrArg List.length h1.1
                rw [List.length_append] at h2
                exact msg_sizes (ls := mbs) (by omega)
              have HSZ := Lib.hid hsz
              have HENC := Lib.hid henc
              clear hsz henc
              obtain ⟨bd, rs⟩ := rM
              have hMI := SM.inn
              have z1 : wr.cell? ⟨gr, 1, none⟩ = some (.bool bd) := SM.br.cell 1
              have zl := SM.br.lt
              have hom : (msA mm).toList.all (·.oneCell') = true := (by with_unfolding_all rfl)
              cases bd
              case true =>
                have D : ∀ w', w' = wr.setRow gz zmA → Below w.heap.size w w' ∧ Blk w' gz 51 zmA := by
                  rintro _ rfl
                  exact ⟨below_row SM.below SM.l0 _, SM.bz.row _⟩
                go_wp2_with (with_reducible refine wpl_st SM.bz (by with_unfolding_all rfl) 51 _ _ (by with_unfolding_all rfl) zmA (by with_unfolding_all rfl) (by with_unfolding_all rfl) (by with_unfolding_all rfl) (by with_unfolding_all rfl) hho ?_; refine Classical.byContradiction fun hno => ?_)
                refine hno ?_
                clear hno
                intro wz ez
                obtain ⟨bz, Fz⟩ := D wz ez
                clear ez D
                go_wp2_with fail
                exact bodyPost_ret (res2c Fz rfl rfl _ rfl _ Tryz.underlying51 rfl rfl) rfl (Or.inr ⟨rfl, ⟨mm, its, pls, mbs, _, HREAD.out, SM.ni, SM.np, SM.nl, Or.inl rfl⟩, bz⟩)
              case false =>
              have hZ := HSZ.out rfl
              go_wp2_with (with_reducible refine wpl_ldg SM.bm (by with_unfolding_all rfl) 51 _ (by with_unfolding_all rfl) (by with_unfolding_all rfl) _ Tryz.underlying51 (by with_unfolding_all rfl) (by with_unfolding_all rfl) ?_)
              refine (refrightmsg_any mm its pls mbs wr hMI).mono ?_
              rintro e W3 ⟨rfl, d3⟩
              have S3 := SM.keep d3
              clear z1 zl d3
              cases hr : rightM mm pls mbs
              case false =>
                have HR := Lib.hid hr
                clear hr
                have D : ∀ w', w' = W3.setRow gz zmA → Below w.heap.size w w' ∧ Blk w' gz 51 zmA := by
                  rintro _ rfl
                  exact ⟨below_row S3.below S3.l0 _, S3.bz.row _⟩
                go_wp2_with (with_reducible refine wpl_st S3.bz (by with_unfolding_all rfl) 51 _ _ (by with_unfolding_all rfl) zmA (by with_unfolding_all rfl) (by with_unfolding_all rfl) (by with_unfolding_all rfl) (by with_unfolding_all rfl) hho ?_; refine Classical.byContradiction fun hno => ?_)
                refine hno ?_
                clear hno
                intro wz ez
                obtain ⟨bz, Fz⟩ := D wz ez
                clear ez D
                go_wp2_with fail
                exact bodyPost_ret (res2c Fz rfl rfl _ rfl _ Tryz.underlying51 rfl rfl) rfl (Or.inr ⟨rfl, ⟨mm, its, pls, mbs, _, HREAD.out, SM.ni, SM.np, SM.nl, Or.inr (Or.inl HR.out)⟩, bz⟩)
              case true =>
                have HR := Lib.hid hr
                clear hr
                go_wp2_with (with_reducible refine wpl_ldg S3.bm (by with_unfolding_all rfl) 51 _ (by with_unfolding_all rfl) (by with_unfolding_all rfl) _ Tryz.underlying51 (by with_unfolding_all rfl) (by with_unfolding_all rfl) ?_)
                refine (dmsg_any mm its pls mbs W3 S3.inn HR.out hZ).mono ?_
                rintro e W4 ⟨rfl, d4⟩
                have S4 := S3.keep d4
                clear S3 d4
                obtain ⟨x, hx⟩ : ∃ x, msgB mm its pls mbs = x := ⟨_, rfl⟩
                rw [hx]
                have HXX := Lib.hid hx
                clear hx
                by_cases hst : x = t
                case neg =>
                  have p1 : (x == t) = false := by simp [hst]
                  have p2 : (x != t) = true := by simp [hst]
                  have HST := Lib.hid hst
                  clear hst
                  have D : ∀ w', w' = W4.setRow gz zmA → Below w.heap.size w w' ∧ Blk w' gz 51 zmA := by
                    rintro _ rfl
                    exact ⟨below_row S4.below S4.l0 _, S4.bz.row _⟩
                  go_wp2_with (with_reducible refine wpl_st S4.bz (by with_unfolding_all rfl) 51 _ _ (by with_unfolding_all rfl) zmA (by with_unfolding_all rfl) (by with_unfolding_all rfl) (by with_unfolding_all rfl) (by with_unfolding_all rfl) hho ?_; refine Classical.byContradiction fun hno => ?_)
                  refine hno ?_
                  clear hno
                  intro wz ez
                  obtain ⟨bz, Fz⟩ := D wz ez
                  clear ez D
                  go_wp2_with fail
                  exact bodyPost_ret (res2c Fz rfl rfl _ rfl _ Tryz.underlying51 rfl rfl) rfl (Or.inr ⟨rfl, ⟨mm, its, pls, mbs, _, HREAD.out, SM.ni, SM.np, SM.nl, Or.inr (Or.inr (by rw [HXX.out]; exact HST.out))⟩, bz⟩)
                case pos =>
                  have p1 : (x == t) = true := by simp [hst]
                  have p2 : (x != t) = false := by simp [hst]
                  have HST := Lib.hid hst
                  clear hst
                  have D : ∀ w', w' = W4.setRow gz (msA mm) → Below w.heap.size w w' ∧ Blk w' gz 51 (msA mm) ∧ MsgIn mm its pls mbs w' := by
                    rintro _ rfl
                    exact ⟨below_row S4.below S4.l0 _, S4.bz.row _, ⟨S4.ni, S4.np, S4.nl, own_cap S4.oi, own_cap S4.op, own_cap S4.om, by have := S4.bi; omega, by have := S4.bp; omega, by have := S4.bl; omega, own_rdr itC 2 (fun _ => rfl) (own_rowT S4.oi S4.bz (by decide) _) S4.ni, own_rdr plC 5 (fun _ => rfl) (own_rowT S4.op S4.bz (by decide) _) S4.np, (own_i64s (own_rowT S4.om S4.bz (by decide) _)).1⟩⟩
                  go_wp2_with (first | (with_reducible refine wpl_ld S4.bm (by with_unfolding_all rfl) 51 _ (by with_unfolding_all rfl) (by with_unfolding_all rfl) _ Tryz.underlying51 (by with_unfolding_all rfl) (by with_unfolding_all rfl) ?_) | (with_reducible refine wpl_st S4.bz (by with_unfolding_all rfl) 51 _ _ (by with_unfolding_all rfl) (msA mm) (by with_unfolding_all rfl) (by with_unfolding_all rfl) (by with_unfolding_all rfl) (by with_unfolding_all rfl) hom ?_; refine Classical.byContradiction fun hno => ?_))
                  refine hno ?_
                  clear hno
                  intro wz ez
                  obtain ⟨bz, Fz, hMz⟩ := D wz ez
                  clear ez D
                  go_wp2_with fail
                  exact bodyPost_ret (res2c Fz rfl rfl _ rfl _ Tryz.underlying51 rfl rfl) rfl (Or.inl ⟨mm, its, pls, mbs, _, rfl, HREAD.out, rfl, HR.out, by rw [HXX.out]; exact HST.out, hMz, bz⟩)
end Go.Proofs.YtkoligiilieboaaGreatDoor
