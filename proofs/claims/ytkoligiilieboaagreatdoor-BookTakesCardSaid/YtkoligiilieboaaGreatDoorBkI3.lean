/- book.TakeCell: the cell that bytes are. -/
import Derived.Test.YtkoligiilieboaaGreatDoorBkI2
import Derived.Test.YtkoligiilieboaaGreatDoorMgE
set_option linter.unusedSimpArgs false
set_option linter.unusedVariables false
namespace Go.Proofs.YtkoligiilieboaaGreatDoor
open Go.RowKit
attribute [local go_sem] ByteArray.mk_append_mk ByteArray.extract_mk
attribute [local go_sem ↓] Go.wp_at_zero Go.wp_at_succ
structure CB (w : World) (gz gr gc : Nat) (cc : Array Value) (r : RS) (W : World) : Prop where
 below : Below w.heap.size w W
 l0 : w.heap.size ≤ gz
 l1 : gz < gr
 l2 : gr < gc
 bz : Blk W gz 38 z5A
 br : Blk W gr 70 (rsA r)
 bc : Blk W gc 38 cc
section
variable {w W W' : World} {gz gr gc : Nat} {cc : Array Value} {r r' : RS}
theorem CB.call (h : CB w gz gr gc cc r W) (hB : Blk W' gr 70 (rsA r')) (hk : Kr gr W W') : CB w gz gr gc cc r' W' :=
 { h with below := h.below.trans (hk.below.mono (by have := h.l0; have := h.l1; omega)), bz := hk.kept _ _ _ (by have := h.l1; omega) h.bz, br := hB, bc := hk.kept _ _ _ (by have := h.l2; omega) h.bc }
theorem CB.setc (h : CB w gz gr gc cc r W) (i : Nat) (v : Value) : CB w gz gr gc (cc.setIfInBounds i v) r (W.setCell ⟨gc, i, none⟩ v) :=
 { h with
  below := bst h.below (by have := h.l0; have := h.l1; have := h.l2; show w.heap.size ≤ gc; omega) _
  bz := h.bz.far (by have := h.l1; have := h.l2; show gz ≠ gc; omega) _
  br := h.br.far (by have := h.l2; show gr ≠ gc; omega) _
  bc := h.bc.set i v }
theorem CB.drew (h : CB w gz gr gc cc r W) : CB w gz gr gc cc r W.drew := { h with below := h.below.drew, bz := h.bz.drew, br := h.br.drew, bc := h.bc.drew }
theorem CB.grow {e : TypeId} (h : CB w gz gr gc cc r W) (hb : Below w.heap.size W W') (hk : ∀ g T cs, T ≠ e → Blk W g T cs → Blk W' g T cs) (h1 : 38 ≠ e) (h2 : 70 ≠ e) : CB w gz gr gc cc r W' :=
 { h with below := h.below.trans hb, bz := hk _ _ _ h1 h.bz, br := hk _ _ _ h2 h.br, bc := hk _ _ _ h1 h.bc }
theorem CB.keep (h : CB w gz gr gc cc r W) (d : Below W.heap.size W W') : CB w gz gr gc cc r W' := { h with below := h.below.trans (d.mono h.below.size), bz := h.bz.keep d, br := h.br.keep d, bc := h.bc.keep d }
theorem CB.rowz (h : CB w gz gr gc cc r W) (vs : Array Value) : Below w.heap.size w (W.setRow gz vs) ∧ Blk (W.setRow gz vs) gz 38 vs :=
 ⟨below_row h.below h.l0 vs, h.bz.row vs⟩
end
def OwnSs (B : Nat) (ss : List Sh) (W : World) : Prop := ∀ s ∈ ss, OwnSh B s W
section
variable {W W' : World} {B g : Nat} {ss : List Sh} {T : TypeId} {cs : Array Value}
theorem OwnSs.kept (h : OwnSs B ss W) (hk : ∀ i T cs, i ≠ g → Blk W i T cs → Blk W' i T cs) (hB : Blk W g T cs) (h1 : T ≠ 105) (h2 : T ≠ 100) (h3 : T ≠ 108) : OwnSs B ss W' := fun s hs => (h s hs).kept hk hB h1 h2 h3
theorem OwnSs.keptT {e1 : TypeId} (h : OwnSs B ss W) (hk : ∀ i T cs, T ≠ e1 → Blk W i T cs → Blk W' i T cs) (h1 : 105 ≠ e1) (h2 : 100 ≠ e1) (h3 : 108 ≠ e1) : OwnSs B ss W' := fun s hs => (h s hs).keptT hk h1 h2 h3
theorem OwnSs.setT (h : OwnSs B ss W) {p : Addr} (u : Value) (hB : Blk W p.block T cs) (h1 : T ≠ 105) (h2 : T ≠ 100) (h3 : T ≠ 108) : OwnSs B ss (W.setCell p u) := fun s hs => (h s hs).setT u hB h1 h2 h3
theorem OwnSs.rowT (h : OwnSs B ss W) (hB : Blk W g T cs) (h1 : T ≠ 105) (h2 : T ≠ 100) (h3 : T ≠ 108) (vs : Array Value) : OwnSs B ss (W.setRow g vs) := fun s hs => (h s hs).rowT hB h1 h2 h3 vs
theorem OwnSs.below (h : OwnSs B ss W) {b : Nat} (hb : Below b W W') (hs : W.heap.size ≤ b) : OwnSs B ss W' := fun s hs2 => (h s hs2).below hb hs
theorem OwnSs.drew (h : OwnSs B ss W) : OwnSs B ss W.drew := fun s hs => ⟨(h s hs).er, (h s hs).el, (h s hs).eb, (h s hs).ch, (h s hs).dr, (h s hs).dl, (h s hs).db, (h s hs).pl⟩
theorem OwnSs.nil : OwnSs B [] W := fun e he => by cases he
theorem OwnSs.snoc (h : OwnSs B ss W) {x : Sh} (hx : OwnSh B x W) : OwnSs B (ss ++ [x]) W := fun e he => by
 rcases List.mem_append.1 he with he | he
 · exact h e he
 · simp at he; subst he; exact hx
end
theorem own_ce {W : World} {B : Nat} {c : Ce} (h : W.ownsRow B 30 17 (.slice c.sA c.sn c.sc) c.sn (shsF c.ss)) (hl : c.ss.length = c.sn) (hb : c.sn ≤ 4194304) (hs : OwnSs B c.ss W) : CeIn W W.heap.size c :=
 ⟨hl, own_cap h, by omega, own_rdr shC 17 (fun _ => rfl) h hl, fun s hx => (hs s hx).inn⟩
/-! how long the texts are -/
theorem len_mem {α β : Type} {f : α → List β} {l : List α} {x : α} (h : x ∈ l) : (f x).length ≤ (l.flatMap f).length := by
 induction l with
 | nil => cases h
 | cons y l ih =>
  rw [List.flatMap_cons, List.length_append]
  rcases List.mem_cons.1 h with rfl | h
  · omega
  · have := ih h; omega
theorem textL_ge (l : List UInt8) : l.length ≤ (textL l).length := by
 unfold textL
 rw [List.length_append]
 omega
theorem sh_sizes {s : Sh} {N : Nat} (h : (shBy s).length ≤ N) : s.lo.length ≤ N ∧ s.hi.length ≤ N ∧ ∀ e ∈ s.es, e.key.length ≤ N := by
 have h1 : (textsB [s.lo, s.hi]).length = (textL s.lo).length + (textL s.hi).length := by simp [textsB]
 have h2 := textL_ge s.lo
 have h3 := textL_ge s.hi
 have h4 : (textsB [s.lo, s.hi]).length ≤ (shBy s).length := by
  unfold shBy
  simp only [List.length_append]
  omega
 have h5 : (esBy s.es).length ≤ (shBy s).length := by
  unfold shBy
  simp only [List.length_append]
  omega
 refine ⟨by omega, by omega, fun e he => ?_⟩
 have h6 : (enBy e).length ≤ (esBy s.es).length := len_mem he
 have h7 := textL_ge e.key
 have h8 : (textL e.key).length ≤ (enBy e).length := by
  unfold enBy
  simp [textsB]
  try omega
 omega
theorem ce_sizes {c : Ce} {N : Nat} (h : (ceBy c).length ≤ N) : ∀ s ∈ c.ss, s.lo.length ≤ N ∧ s.hi.length ≤ N ∧ ∀ e ∈ s.es, e.key.length ≤ N := fun s hs => by
 have h1 : (shBy s).length ≤ (c.ss.flatMap shBy).length := len_mem hs
 refine sh_sizes ?_
 unfold ceBy at h
 simp only [List.length_append] at h
 omega
theorem ce_okN {w : World} {c : Ce} {N : Nat} (hc : CeIn w w.heap.size c) (h : (ceBy c).length ≤ N) (hN : N ≤ 1099511627776) : CeOk w w.heap.size c := ⟨hc, fun s hs => by
 obtain ⟨h1, h2, h3⟩ := ce_sizes h s hs
 exact ⟨hc.ss s hs, by omega, by omega, fun e he => by have := h3 e he; omega⟩⟩
theorem rCe_eq {r r1 r2 r3 r4 : RS} {a t n d c : Int} {k : Nat} {l : List ShF} (h1 : rStamp r = ((a, t, n), r1)) (h2 : rNum r1 = (d, r2)) (h3 : rCount r2 = (c, r3)) (hk : (k : Int) = c) (h4 : rdN fSh.rd k r3 = (l, r4)) : fCe.rd r = (((a, t, n), d, l), r4) :=
 seq_eq (f := fStamp) h1 (seq_eq (f := fNum) (g := fList fSh fSh_pos) h2 (list_eq h3 hk h4))
def TakeCellPost (t : List UInt8) (w : World) (e : Ending) (w' : World) : Prop :=
 (∃ c, e = .returned (.tuple #[ceV c, .int .i64 0]) ∧ fCe.rd ⟨false, t⟩ = (ceF c, ⟨false, []⟩) ∧ ceB c = true ∧ CeIn w' w'.heap.size c ∧ plainCe c ∧ Below w.heap.size w w') ∨
 (e = .returned (.tuple #[.agg z5A, .int .i64 3]) ∧ (∃ c r, fCe.rd ⟨false, t⟩ = (ceF c, r) ∧ plainCe c ∧ (r.bad = true ∨ r.s ≠ [] ∨ ceB c = false)) ∧ Below w.heap.size w w')
set_option maxHeartbeats 64000000 in
set_option maxRecDepth 100000 in
theorem takecell_any (t : List UInt8) (N : Nat) (hN : N ≤ 4194304) (hN2 : t.length ≤ N) (w : World) (hT : Go.Lib.Utf8Tabs 0 1 w) :
  Calls Tryz.prog 8 #[.string ⟨t.toArray⟩] w (TakeCellPost t w) := by
 have hho : z5A.toList.all (·.oneCell') = true := (by with_unfolding_all rfl)
 go_enter Tryz.func8, Tryz.ntmps8
 go_upto_region 2 with (fail)
 have bz0 : Blk ((w.alloc (.cells z5A 38)).alloc (.cells (rsA ⟨false, t⟩) 70)) w.heap.size 38 z5A := (Blk.new w _ _).alloc _
 have br0 : Blk ((w.alloc (.cells z5A 38)).alloc (.cells (rsA ⟨false, t⟩) 70)) (w.heap.size + 1) 70 (rsA ⟨false, t⟩) := Blk.new' _ _ _ _ (by simp)
 have hb0 : Below w.heap.size w ((w.alloc (.cells z5A 38)).alloc (.cells (rsA ⟨false, t⟩) 70)) := bal (bal (b0 w) _) _
 generalize (w.alloc (.cells z5A 38)).alloc (.cells (rsA ⟨false, t⟩) 70) = W0 at *
 generalize hg1 : w.heap.size + 1 = gr at *
 generalize hg0 : w.heap.size = gz at *
 obtain ⟨ta, tt, tn, r1, e1⟩ : ∃ a b c r, rStamp ⟨false, t⟩ = ((a, b, c), r) := ⟨_, _, _, _, rfl⟩
 have hl1 := rStamp_sl e1 hN2
 obtain ⟨dr, r2, e2⟩ : ∃ x r, rNum r1 = (x, r) := ⟨_, _, rfl⟩
 have hl2 := rNum_sl e2 hl1
 obtain ⟨c0, r3, e3⟩ : ∃ x r, rCount r2 = (x, r) := ⟨_, _, rfl⟩
 obtain ⟨hl3, hc00, hc01⟩ := rCount_sl e3 hl2
 have E1 := Lib.hid e1
 have E2 := Lib.hid e2
 have E3 := Lib.hid e3
 clear e1 e2 e3
 go_wp2_with fail
 refine (rstamp_c gr ⟨false, t⟩ ta tt tn r1 _ E1.out br0 (Nat.le_trans hN2 (by omega))).mono ?_
 rintro e w1 ⟨rfl, br1, hk⟩
 have bz1 := hk.kept _ _ _ (by omega) bz0
 have hb1 := hb0.trans (hk.below.mono (by omega))
 clear hk br0 bz0 hb0
 go_wp2_with fail
 refine (rnum_c gr r1 dr r2 _ E2.out br1 (Nat.le_trans hl1 (by omega))).mono ?_
 rintro e w2 ⟨rfl, br2, hk⟩
 have bz2 := hk.kept _ _ _ (by omega) bz1
 have hb2 := hb1.trans (hk.below.mono (by omega))
 clear hk br1 bz1 hb1
 go_wp2_with fail
 have S3 : CB w gz gr w2.heap.size #[.slice none 0 0, .int .i64 ta, .int .i64 tt, .int .i64 tn, .int .i64 dr] r2 (w2.alloc (.cells #[.slice none 0 0, .int .i64 ta, .int .i64 tt, .int .i64 tn, .int .i64 dr] 38)) :=
  ⟨by rw [hg0]; exact hb2.alloc (by have := hb2.size; omega) _, by omega, by omega, br2.lt, bz2.alloc _, br2.alloc _, Blk.new w2 _ _⟩
 clear br2 bz2 hb2
 generalize w2.alloc (.cells #[.slice none 0 0, .int .i64 ta, .int .i64 tt, .int .i64 tn, .int .i64 dr] 38) = W3 at *
 generalize w2.heap.size = gc at *
 refine (rlist_c gr r2 c0 r3 _ E3.out S3.br (Nat.le_trans hl2 (by omega))).mono ?_
 rintro e w3 ⟨rfl, br3, hk⟩
 have S4 := S3.call br3 hk
 clear br3 hk S3
 go_wp2_with fail
 go_loopw [16] (fun i wr => ∃ (k : Nat) (v : Value) (ss : List Sh) (rr : RS), i = .int .i64 k ∧ (k : Int) ≤ c0 ∧ CB w gz gr gc #[v, .int .i64 ta, .int .i64 tt, .int .i64 tn, .int .i64 dr] rr wr ∧ wr.ownsRow gz 30 17 v k (shsF ss) ∧ OwnSs gz ss wr ∧ ss.length = k ∧ rdN fSh.rd k r3 = (ss.map shF, rr) ∧ rr.s.length ≤ N) (fun i _ => c0.toNat - (intOf i).toNat)
 case atStart => exact ⟨0, _, [], r3, rfl, hc00, S4, World.ownsRow_nil _ _ _ _, OwnSs.nil, rfl, rfl, hl3⟩
 case round =>
  clear S4
  obtain ⟨k, v, ss, rr, rfl, hk, hS, hown, hss, hlen, hrd, hlr⟩ := hrel
  have i0 : (0 : Int) ≤ (k : Int) := by omega
  have HRD := Lib.hid hrd
  clear hrd
  obtain ⟨A0, cap0, rfl⟩ := own_slice hown
  by_cases hlt : (k : Int) < c0
  case pos =>
   obtain ⟨ii, hii, hiz, his, hib⟩ := info_parts infoSh
   have hk26 : k ≤ 4194304 := by omega
   have c6 : wr.cell? ⟨gc, 0, none⟩ = some (.slice A0 k cap0) := hS.bc.cell 0
   have f6 := hS.bc.frozen 0
   have gl6 := hS.bc.lt
   have hgw : gz ≤ wr.heap.size := by have := hS.below.size; omega
   go_wp2_with fail
   go_region_law (first
    | (go_simp; go_at_call 23; refine (rshd_any gr rr N hN hlr _ hS.drew.br).mono ?_; rintro e wa ⟨x, ra, rfl, hrx, hla, hB1, hk1, hO1⟩; have HX := Lib.hid hrx; have Sa := hS.drew.call hB1 hk1; have Oa := own_kept (w := wr.drew) hown hk1.kept hS.drew.br (by decide); have Qa := OwnSs.kept (W := wr.drew) hss.drew hk1.kept hS.drew.br (by decide) (by decide) (by decide); have Xa := hO1.base (B' := gz) hgw; have ca6 : wa.cell? ⟨gc, 0, none⟩ = some (.slice A0 k cap0) := Sa.bc.cell 0; have fa6 := Sa.bc.frozen 0; have ga6 := Sa.bc.lt; clear hB1 hk1 hO1 hrx)
    | (refine step_pushR (by rfl) _ _ _ (by rfl) gz 30 ii _ 17 184 Tryz.underlying36 hii hiz his hib (by rfl) (by decide) wa _ k (shsF ss) (by rfl) Oa (shC x) rfl ?hu 1 (by rfl) ?h63 ?hby ?hba ?_; (case hu => simp [shC, Value.oneCell']); (case h63 => omega); (case hby => omega); (case hba => have := Sa.below.size; omega); intro gN capN wN hownN hbN hkN; have SN := Sa.grow (by rw [hg0]; exact hbN) hkN (by decide) (by decide); have QN := OwnSs.keptT Qa hkN (by decide) (by decide) (by decide); have XN := Xa.keptT hkN (by decide) (by decide) (by decide); have d6 : wN.cell? ⟨gc, 0, none⟩ = some (.slice A0 k cap0) := SN.bc.cell 0; have g6 := SN.bc.frozen 0; have gl36 := SN.bc.lt))
   all_goals
    go_wp2_with fail
    go_roundw
    case rel =>
     refine ⟨k + 1, _, ss ++ [x], ra, by go_num, by omega, SN.setc 0 _, ?_, OwnSs.snoc (OwnSs.setT (p := ⟨gc, 0, none⟩) QN _ SN.bc (by decide) (by decide) (by decide)) (XN.setT (p := ⟨gc, 0, none⟩) _ SN.bc (by decide) (by decide) (by decide)), by simp [hlen], ?_, hla⟩
     · rw [shsF_snoc]; exact own_setT (p := ⟨gc, 0, none⟩) hownN _ SN.bc (by decide)
     · rw [List.map_append]; exact rdN_succ _ _ _ _ _ _ _ HRD.out HX.out
    case measure => simp [intOf]; omega
  case neg =>
   have hke : (k : Int) = c0 := by omega
   have hread : fCe.rd ⟨false, t⟩ = (ceF ⟨A0, k, cap0, ta, tt, tn, dr, ss⟩, rr) := rCe_eq E1.out E2.out E3.out hke HRD.out
   have HREAD := Lib.hid hread
   have hpl : plainCe ⟨A0, k, cap0, ta, tt, tn, dr, ss⟩ := fun s hs => (hss s hs).pl
   have HPL := Lib.hid hpl
   have hMF : ∀ W' : World, W'.ownsRow gz 30 17 (.slice A0 k cap0) k (shsF ss) → OwnSs gz ss W' → CeIn W' W'.heap.size ⟨A0, k, cap0, ta, tt, tn, dr, ss⟩ := fun W' a b => own_ce (c := ⟨A0, k, cap0, ta, tt, tn, dr, ss⟩) a hlen (by show k ≤ 4194304; omega) b
   have hsz : rr = ⟨false, []⟩ → (ceBy ⟨A0, k, cap0, ta, tt, tn, dr, ss⟩).length ≤ N := fun h => by
    have h1 := fCe.bwd t _ _ hread (by rw [h])
    rw [cell_enc (hMF wr hown hss), h] at h1
    have h2 := congrArg List.length h1.1
    simp at h2
    omega
   have HSZ := Lib.hid hsz
   clear hread hsz hpl HRD E1 E2 E3 hk i0
   have SM : CB w gz gr gc (ceA ⟨A0, k, cap0, ta, tt, tn, dr, ss⟩) rr wr := hS
   clear hS
   obtain ⟨mm, hmm⟩ : ∃ mm, (⟨A0, k, cap0, ta, tt, tn, dr, ss⟩ : Ce) = mm := ⟨_, rfl⟩
   rw [hmm] at HREAD HPL HSZ hMF SM
   have hss2 : mm.ss = ss := by rw [← hmm]
   clear hmm
   obtain ⟨bd, rs⟩ := rr
   have z0 : wr.cell? ⟨gr, 0, none⟩ = some (.string ⟨rs.toArray⟩) := SM.br.cell 0
   have z1 : wr.cell? ⟨gr, 1, none⟩ = some (.bool bd) := SM.br.cell 1
   have zl := SM.br.lt
   cases bd
   case true =>
    have D : ∀ w', w' = wr.setRow gz z5A → Below w.heap.size w w' ∧ Blk w' gz 38 z5A := by
     rintro _ rfl
     exact SM.rowz z5A
    go_wp2_with (with_reducible refine wpl_st SM.bz (by with_unfolding_all rfl) 38 _ _ (by with_unfolding_all rfl) z5A (by with_unfolding_all rfl) (by with_unfolding_all rfl) (by with_unfolding_all rfl) (by with_unfolding_all rfl) hho ?_; refine Classical.byContradiction fun hno => ?_)
    refine hno ?_
    clear hno
    intro wz ez
    obtain ⟨bz, Fz⟩ := D wz ez
    clear ez D
    go_wp2_with fail
    exact bodyPost_ret (res2c Fz rfl rfl _ rfl _ Tryz.underlying38 rfl rfl) rfl (Or.inr ⟨rfl, ⟨mm, _, HREAD.out, HPL.out, Or.inl rfl⟩, bz⟩)
   case false =>
   by_cases hrs : rs = []
   case neg =>
    have hie := is_ne hrs
    have HRS := Lib.hid hrs
    clear hrs
    have D : ∀ w', w' = wr.setRow gz z5A → Below w.heap.size w w' ∧ Blk w' gz 38 z5A := by
     rintro _ rfl
     exact SM.rowz z5A
    go_wp2_with (with_reducible refine wpl_st SM.bz (by with_unfolding_all rfl) 38 _ _ (by with_unfolding_all rfl) z5A (by with_unfolding_all rfl) (by with_unfolding_all rfl) (by with_unfolding_all rfl) (by with_unfolding_all rfl) hho ?_; refine Classical.byContradiction fun hno => ?_)
    refine hno ?_
    clear hno
    intro wz ez
    obtain ⟨bz, Fz⟩ := D wz ez
    clear ez D
    go_wp2_with fail
    exact bodyPost_ret (res2c Fz rfl rfl _ rfl _ Tryz.underlying38 rfl rfl) rfl (Or.inr ⟨rfl, ⟨mm, _, HREAD.out, HPL.out, Or.inr (Or.inl HRS.out)⟩, bz⟩)
   case pos =>
   subst hrs
   have hCI := hMF wr hown hss
   go_wp2_with (with_reducible refine wpl_ldg SM.bc (by with_unfolding_all rfl) 38 _ (by with_unfolding_all rfl) (by with_unfolding_all rfl) _ Tryz.underlying38 (by with_unfolding_all rfl) (by with_unfolding_all rfl) ?_)
   refine (cright_any mm wr (ce_okN hCI (HSZ.out (by first | trivial | rfl)) (by omega)) (Utf8Tabs_below hT SM.below)).mono ?_
   rintro e W3 ⟨rfl, d3⟩
   have S3 := SM.keep d3
   have O3 := own_below hown d3 (Nat.le_refl _)
   have Q3 := OwnSs.below hss d3 (Nat.le_refl _)
   clear z0 z1 zl SM hown hss hCI d3
   cases hr : ceB mm
   case false =>
    have HR := Lib.hid hr
    clear hr
    have D : ∀ w', w' = W3.setRow gz z5A → Below w.heap.size w w' ∧ Blk w' gz 38 z5A := by
     rintro _ rfl
     exact S3.rowz z5A
    go_wp2_with (with_reducible refine wpl_st S3.bz (by with_unfolding_all rfl) 38 _ _ (by with_unfolding_all rfl) z5A (by with_unfolding_all rfl) (by with_unfolding_all rfl) (by with_unfolding_all rfl) (by with_unfolding_all rfl) hho ?_; refine Classical.byContradiction fun hno => ?_)
    refine hno ?_
    clear hno
    intro wz ez
    obtain ⟨bz, Fz⟩ := D wz ez
    clear ez D
    go_wp2_with fail
    exact bodyPost_ret (res2c Fz rfl rfl _ rfl _ Tryz.underlying38 rfl rfl) rfl (Or.inr ⟨rfl, ⟨mm, _, HREAD.out, HPL.out, Or.inr (Or.inr HR.out)⟩, bz⟩)
   case true =>
    have HR := Lib.hid hr
    clear hr
    have hom : (ceA mm).toList.all (·.oneCell') = true := (by with_unfolding_all rfl)
    have D : ∀ w', w' = W3.setRow gz (ceA mm) → Below w.heap.size w w' ∧ Blk w' gz 38 (ceA mm) ∧ CeIn w' w'.heap.size mm := by
     rintro _ rfl
     exact ⟨(S3.rowz _).1, (S3.rowz _).2, hMF _ (own_rowT O3 S3.bz (by decide) _) (Q3.rowT S3.bz (by decide) (by decide) (by decide) _)⟩
    go_wp2_with (first | (with_reducible refine wpl_ld S3.bc (by with_unfolding_all rfl) 38 _ (by with_unfolding_all rfl) (by with_unfolding_all rfl) _ Tryz.underlying38 (by with_unfolding_all rfl) (by with_unfolding_all rfl) ?_) | (with_reducible refine wpl_st S3.bz (by with_unfolding_all rfl) 38 _ _ (by with_unfolding_all rfl) (ceA mm) (by with_unfolding_all rfl) (by with_unfolding_all rfl) (by with_unfolding_all rfl) (by with_unfolding_all rfl) hom ?_; refine Classical.byContradiction fun hno => ?_))
    refine hno ?_
    clear hno
    intro wz ez
    obtain ⟨bz, Fz, hMz⟩ := D wz ez
    clear ez D
    go_wp2_with fail
    exact bodyPost_ret (res2c Fz rfl rfl _ rfl _ Tryz.underlying38 rfl rfl) rfl (Or.inl ⟨mm, rfl, HREAD.out, HR.out, hMz, HPL.out, bz⟩)
end Go.Proofs.YtkoligiilieboaaGreatDoor
