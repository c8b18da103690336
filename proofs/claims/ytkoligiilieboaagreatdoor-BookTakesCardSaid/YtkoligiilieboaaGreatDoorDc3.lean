/- The document's TakeShard, TakeCell. -/
import Derived.Test.YtkoligiilieboaaGreatDoorDc2
import Derived.Test.YtkoligiilieboaaGreatDoorDr5
import Derived.Test.YtkoligiilieboaaGreatDoorBkI3
import Derived.Deep.RegionLaw
import Derived.Deep.AppendLies
set_option linter.unusedSimpArgs false
set_option linter.unusedVariables false
namespace Go.Proofs.YtkoligiilieboaaGreatDoor
open Go.RowKit
attribute [local go_sem] ByteArray.mk_append_mk ByteArray.extract_mk
attribute [local go_sem ↓] Go.wp_at_zero Go.wp_at_succ
def DTakeShardPost (t : List UInt8) (w : World) (e : Ending) (w' : World) : Prop :=
 (∃ s, e = .returned (.tuple #[shV s, .bool true]) ∧ t = shBy s ∧ fSh.enc (shF s) = shBy s ∧ shB s = true ∧ ShIn w' w'.heap.size s ∧ plainSh s ∧ Below w.heap.size w w') ∨
 (e = .returned (.tuple #[.agg zsA, .bool false]) ∧ (∃ s r, cSh.rd ⟨false, t⟩ = (shF s, r) ∧ fSh.enc (shF s) = shBy s ∧ plainSh s ∧ (r.bad = true ∨ shB s = false ∨ shBy s ≠ t)) ∧ Below w.heap.size w w')
def DTakeCellPost (t : List UInt8) (w : World) (e : Ending) (w' : World) : Prop :=
 (∃ c, e = .returned (.tuple #[ceV c, .bool true]) ∧ t = ceBy c ∧ fCe.enc (ceF c) = ceBy c ∧ ceB c = true ∧ CeIn w' w'.heap.size c ∧ plainCe c ∧ Below w.heap.size w w') ∨
 (e = .returned (.tuple #[.agg z5A, .bool false]) ∧ (∃ c r, cCe.rd ⟨false, t⟩ = (ceF c, r) ∧ fCe.enc (ceF c) = ceBy c ∧ plainCe c ∧ (r.bad = true ∨ ceB c = false ∨ ceBy c ≠ t)) ∧ Below w.heap.size w w')
set_option maxHeartbeats 25600000 in
set_option maxRecDepth 100000 in
theorem dtakeshard_any (t : List UInt8) (hl : t.length ≤ 4096) (w : World) :
  Calls Tryz.prog 7 #[.string ⟨t.toArray⟩] w (DTakeShardPost t w) := by
 have hho : zsA.toList.all (·.oneCell') = true := (by with_unfolding_all rfl)
 go_enter Tryz.func7, Tryz.ntmps7
 go_upto_region 2 with (fail)
 have bz0 : Blk ((w.alloc (.cells zsA 30)).alloc (.cells (rsA ⟨false, t⟩) 74)) w.heap.size 30 zsA := (Blk.new w _ _).alloc _
 have br0 : Blk ((w.alloc (.cells zsA 30)).alloc (.cells (rsA ⟨false, t⟩) 74)) (w.heap.size + 1) 74 (rsA ⟨false, t⟩) := Blk.new' _ _ _ _ (by simp)
 have hb0 : Below w.heap.size w ((w.alloc (.cells zsA 30)).alloc (.cells (rsA ⟨false, t⟩) 74)) := bal (bal (b0 w) _) _
 generalize (w.alloc (.cells zsA 30)).alloc (.cells (rsA ⟨false, t⟩) 74) = W0 at *
 generalize hg1 : w.heap.size + 1 = gr at *
 go_wp2_with fail
 refine (cshd_any gr ⟨false, t⟩ 4096 (by decide) hl _ br0).mono ?_
 rintro e w1 ⟨mm, rr, rfl, hread, hlr, br1, hk, hO1⟩
 have bz1 := hk.kept _ _ _ (by omega) bz0
 have hb1 := hb0.trans (hk.below.mono (by omega))
 have hO := hO1.base (B' := w.heap.size) hb0.size
 have henc : fSh.enc (shF mm) = shBy mm := shard_enc hO.inn
 have hsz : rr.bad = false → (shBy mm).length ≤ 4096 := fun h => by
  have h1 := cSh.bwd t _ _ hread h
  rw [cSh_enc, henc] at h1
  have h2 := congrArg List.length h1.1
  rw [List.length_append] at h2
  omega
 have HREAD := Lib.hid hread
 have HPL := Lib.hid hO.pl
 have HENC := Lib.hid henc
 have HSZ := Lib.hid hsz
 clear hk br0 bz0 hb0 hO1 hread hsz henc
 have G : Blk (w1.alloc (.cells zsA 30)) w1.heap.size 30 zsA := Blk.new w1 _ _
 have hgr := br1.lt
 have hgz := bz1.lt
 have D : ∀ w', w' = (w1.alloc (.cells zsA 30)).setRow w1.heap.size (shA mm) → Below w.heap.size w w' ∧ Blk w' w.heap.size 30 zsA ∧ Blk w' gr 74 (rsA rr) ∧ Blk w' w1.heap.size 30 (shA mm) ∧ OwnSh w.heap.size mm w' := by
  rintro _ rfl
  have d : Below w1.heap.size w1 ((w1.alloc (.cells zsA 30)).setRow w1.heap.size (shA mm)) := below_row (bal (b0 w1) _) (Nat.le_refl _) _
  exact ⟨hb1.trans (d.mono hb1.size), bz1.keep d, br1.keep d, G.row _, hO.below d (Nat.le_refl _)⟩
 have hom : (shA mm).toList.all (·.oneCell') = true := (by with_unfolding_all rfl)
 go_wp2_with (with_reducible refine wpl_st G (by with_unfolding_all rfl) 30 _ _ (by with_unfolding_all rfl) (shA mm) (by with_unfolding_all rfl) (by with_unfolding_all rfl) (by with_unfolding_all rfl) (by with_unfolding_all rfl) hom ?_; refine Classical.byContradiction fun hno => ?_)
 refine hno ?_
 clear hno
 intro w2 e2
 obtain ⟨hb2, bz2, br2, bs2, hO2⟩ := D w2 e2
 clear e2 D G hO hb1 bz1 br1 hgr hgz
 generalize w1.heap.size = gs at *
 obtain ⟨bd, rs⟩ := rr
 have z1 : w2.cell? ⟨gr, 1, none⟩ = some (.bool bd) := br2.cell 1
 have zl := br2.lt
 cases bd
 case true =>
  have D : ∀ w', w' = w2.setRow w.heap.size zsA → Below w.heap.size w w' ∧ Blk w' w.heap.size 30 zsA := by
   rintro _ rfl
   exact ⟨below_row hb2 (Nat.le_refl _) _, bz2.row _⟩
  go_wp2_with (with_reducible refine wpl_st bz2 (by with_unfolding_all rfl) 30 _ _ (by with_unfolding_all rfl) zsA (by with_unfolding_all rfl) (by with_unfolding_all rfl) (by with_unfolding_all rfl) (by with_unfolding_all rfl) hho ?_; refine Classical.byContradiction fun hno => ?_)
  refine hno ?_
  clear hno
  intro wz ez
  obtain ⟨bz, Fz⟩ := D wz ez
  clear ez D
  go_wp2_with fail
  exact bodyPost_ret (res2c Fz rfl rfl _ rfl _ Tryz.underlying30 rfl rfl) rfl (Or.inr ⟨rfl, ⟨mm, _, HREAD.out, HENC.out, HPL.out, Or.inl rfl⟩, bz⟩)
 case false =>
 have hsz := HSZ.out (by first | trivial | rfl)
 obtain ⟨s1, s2, s3⟩ := sh_sizes hsz
 go_wp2_with (with_reducible refine wpl_ldg bs2 (by with_unfolding_all rfl) 30 _ (by with_unfolding_all rfl) (by with_unfolding_all rfl) _ Tryz.underlying30 (by with_unfolding_all rfl) (by with_unfolding_all rfl) ?_)
 refine (drsh_any mm w2 ⟨hO2.inn, by omega, by omega, fun x hx => by have := s3 x hx; omega⟩).mono ?_
 rintro e W3 ⟨rfl, d3⟩
 have hb3 := bt hb2 d3
 have bz3 := bz2.keep d3
 have bs3 := bs2.keep d3
 have hO3 := hO2.below d3 (Nat.le_refl _)
 clear hO2
 clear z1 zl hb2 bz2 bs2 br2 d3 hsz
 cases hr : shB mm
 case false =>
  have HR := Lib.hid hr
  clear hr
  have D : ∀ w', w' = W3.setRow w.heap.size zsA → Below w.heap.size w w' ∧ Blk w' w.heap.size 30 zsA := by
   rintro _ rfl
   exact ⟨below_row hb3 (Nat.le_refl _) _, bz3.row _⟩
  go_wp2_with (with_reducible refine wpl_st bz3 (by with_unfolding_all rfl) 30 _ _ (by with_unfolding_all rfl) zsA (by with_unfolding_all rfl) (by with_unfolding_all rfl) (by with_unfolding_all rfl) (by with_unfolding_all rfl) hho ?_; refine Classical.byContradiction fun hno => ?_)
  refine hno ?_
  clear hno
  intro wz ez
  obtain ⟨bz, Fz⟩ := D wz ez
  clear ez D
  go_wp2_with fail
  exact bodyPost_ret (res2c Fz rfl rfl _ rfl _ Tryz.underlying30 rfl rfl) rfl (Or.inr ⟨rfl, ⟨mm, _, HREAD.out, HENC.out, HPL.out, Or.inr (Or.inl HR.out)⟩, bz⟩)
 case true =>
  have HR := Lib.hid hr
  clear hr
  go_wp2_with (with_reducible refine wpl_ldg bs3 (by with_unfolding_all rfl) 30 _ (by with_unfolding_all rfl) (by with_unfolding_all rfl) _ Tryz.underlying30 (by with_unfolding_all rfl) (by with_unfolding_all rfl) ?_)
  refine (dshard_any mm W3 hO3.inn HR.out).mono ?_
  rintro e W4 ⟨rfl, d4⟩
  have hb4 := bt hb3 d4
  have bz4 := bz3.keep d4
  have bs4 := bs3.keep d4
  have hO4 := hO3.below d4 (Nat.le_refl _)
  clear hO3
  clear hb3 bz3 bs3 d4
  obtain ⟨x, hx⟩ : ∃ x, shBy mm = x := ⟨_, rfl⟩
  rw [hx]
  have HX := Lib.hid hx
  clear hx
  by_cases hst : x = t
  case neg =>
   have p1 : (x == t) = false := by simp [hst]
   have p2 : (x != t) = true := by simp [hst]
   have HST := Lib.hid hst
   clear hst
   have D : ∀ w', w' = W4.setRow w.heap.size zsA → Below w.heap.size w w' ∧ Blk w' w.heap.size 30 zsA := by
    rintro _ rfl
    exact ⟨below_row hb4 (Nat.le_refl _) _, bz4.row _⟩
   go_wp2_with (with_reducible refine wpl_st bz4 (by with_unfolding_all rfl) 30 _ _ (by with_unfolding_all rfl) zsA (by with_unfolding_all rfl) (by with_unfolding_all rfl) (by with_unfolding_all rfl) (by with_unfolding_all rfl) hho ?_; refine Classical.byContradiction fun hno => ?_)
   refine hno ?_
   clear hno
   intro wz ez
   obtain ⟨bz, Fz⟩ := D wz ez
   clear ez D
   go_wp2_with fail
   exact bodyPost_ret (res2c Fz rfl rfl _ rfl _ Tryz.underlying30 rfl rfl) rfl (Or.inr ⟨rfl, ⟨mm, _, HREAD.out, HENC.out, HPL.out, Or.inr (Or.inr (by rw [HX.out]; exact HST.out))⟩, bz⟩)
  case pos =>
   have p1 : (x == t) = true := by simp [hst]
   have p2 : (x != t) = false := by simp [hst]
   have HST := Lib.hid hst
   clear hst
   have D : ∀ w', w' = W4.setRow w.heap.size (shA mm) → Below w.heap.size w w' ∧ Blk w' w.heap.size 30 (shA mm) ∧ ShIn w' w'.heap.size mm := by
    rintro _ rfl
    exact ⟨below_row hb4 (Nat.le_refl _) _, bz4.row _, (hO4.rowT bz4 (by decide) (by decide) (by decide) _).inn⟩
   go_wp2_with (first | (with_reducible refine wpl_ld bs4 (by with_unfolding_all rfl) 30 _ (by with_unfolding_all rfl) (by with_unfolding_all rfl) _ Tryz.underlying30 (by with_unfolding_all rfl) (by with_unfolding_all rfl) ?_) | (with_reducible refine wpl_st bz4 (by with_unfolding_all rfl) 30 _ _ (by with_unfolding_all rfl) (shA mm) (by with_unfolding_all rfl) (by with_unfolding_all rfl) (by with_unfolding_all rfl) (by with_unfolding_all rfl) hom ?_; refine Classical.byContradiction fun hno => ?_))
   refine hno ?_
   clear hno
   intro wz ez
   obtain ⟨bz, Fz, hMz⟩ := D wz ez
   clear ez D
   go_wp2_with fail
   exact bodyPost_ret (res2c Fz rfl rfl _ rfl _ Tryz.underlying30 rfl rfl) rfl (Or.inl ⟨mm, rfl, by rw [HX.out]; exact HST.out.symm, HENC.out, HR.out, hMz, HPL.out, bz⟩)
structure CC (w : World) (gz gr gc : Nat) (cc : Array Value) (r : RS) (W : World) : Prop where
 below : Below w.heap.size w W
 l0 : w.heap.size ≤ gz
 l1 : gz < gr
 l2 : gr < gc
 bz : Blk W gz 38 z5A
 br : Blk W gr 74 (rsA r)
 bc : Blk W gc 38 cc
section
variable {w W W' : World} {gz gr gc : Nat} {cc : Array Value} {r r' : RS}
theorem CC.call (h : CC w gz gr gc cc r W) (hB : Blk W' gr 74 (rsA r')) (hk : Kr gr W W') : CC w gz gr gc cc r' W' :=
 { h with below := h.below.trans (hk.below.mono (by have := h.l0; have := h.l1; omega)), bz := hk.kept _ _ _ (by have := h.l1; omega) h.bz, br := hB, bc := hk.kept _ _ _ (by have := h.l2; omega) h.bc }
theorem CC.setc (h : CC w gz gr gc cc r W) (i : Nat) (v : Value) : CC w gz gr gc (cc.setIfInBounds i v) r (W.setCell ⟨gc, i, none⟩ v) :=
 { h with
  below := bst h.below (by have := h.l0; have := h.l1; have := h.l2; show w.heap.size ≤ gc; omega) _
  bz := h.bz.far (by have := h.l1; have := h.l2; show gz ≠ gc; omega) _
  br := h.br.far (by have := h.l2; show gr ≠ gc; omega) _
  bc := h.bc.set i v }
theorem CC.drew (h : CC w gz gr gc cc r W) : CC w gz gr gc cc r W.drew := { h with below := h.below.drew, bz := h.bz.drew, br := h.br.drew, bc := h.bc.drew }
theorem CC.grow {e : TypeId} (h : CC w gz gr gc cc r W) (hb : Below w.heap.size W W') (hk : ∀ g T cs, T ≠ e → Blk W g T cs → Blk W' g T cs) (h1 : 38 ≠ e) (h2 : 74 ≠ e) : CC w gz gr gc cc r W' :=
 { h with below := h.below.trans hb, bz := hk _ _ _ h1 h.bz, br := hk _ _ _ h2 h.br, bc := hk _ _ _ h1 h.bc }
end
theorem cCe_eq {r r1 r2 r3 r4 : RS} {a t n d c : Int} {l : List ShF} (h1 : cStamp.rd r = ((a, t, n), r1)) (h2 : cNum.rd r1 = (d, r2)) (h3 : cNum.rd r2 = (c, r3)) (h4 : cdN cSh.rd c.toNat r3 = (l, r4)) : cCe.rd r = (((a, t, n), d, l), r4) :=
 seqC_eq (f := cStamp) h1 (seqC_eq (f := cNum) (g := cList cSh) h2 (clist_eq h3 h4))
set_option maxHeartbeats 64000000 in
set_option maxRecDepth 100000 in
theorem dtakecell_any (t : List UInt8) (hl : t.length ≤ 4096) (w : World) :
  Calls Tryz.prog 9 #[.string ⟨t.toArray⟩] w (DTakeCellPost t w) := by
 have hho : z5A.toList.all (·.oneCell') = true := (by with_unfolding_all rfl)
 go_enter Tryz.func9, Tryz.ntmps9
 go_upto_region 2 with (fail)
 have bz0 : Blk ((w.alloc (.cells z5A 38)).alloc (.cells (rsA ⟨false, t⟩) 74)) w.heap.size 38 z5A := (Blk.new w _ _).alloc _
 have br0 : Blk ((w.alloc (.cells z5A 38)).alloc (.cells (rsA ⟨false, t⟩) 74)) (w.heap.size + 1) 74 (rsA ⟨false, t⟩) := Blk.new' _ _ _ _ (by simp)
 have hb0 : Below w.heap.size w ((w.alloc (.cells z5A 38)).alloc (.cells (rsA ⟨false, t⟩) 74)) := bal (bal (b0 w) _) _
 generalize (w.alloc (.cells z5A 38)).alloc (.cells (rsA ⟨false, t⟩) 74) = W0 at *
 generalize hg1 : w.heap.size + 1 = gr at *
 obtain ⟨ta, tt, tn, r1, e1⟩ : ∃ a b c r, cStamp.rd ⟨false, t⟩ = ((a, b, c), r) := ⟨_, _, _, _, rfl⟩
 have hl1 := cstamp_sl e1 hl
 obtain ⟨dr, r2, e2⟩ : ∃ x r, cNum.rd r1 = (x, r) := ⟨_, _, rfl⟩
 have hl2 := cnum_sl e2 hl1
 obtain ⟨c0, r3, e3⟩ : ∃ x r, cNum.rd r2 = (x, r) := ⟨_, _, rfl⟩
 have hl3 := cnum_sl e3 hl2
 have E1 := Lib.hid e1
 have E2 := Lib.hid e2
 have E3 := Lib.hid e3
 clear e1 e2 e3
 go_wp2_with fail
 refine (cstamp_c gr ⟨false, t⟩ ta tt tn r1 _ E1.out br0 (Nat.le_trans hl (by omega))).mono ?_
 rintro e w1 ⟨rfl, br1, hk⟩
 have bz1 := hk.kept _ _ _ (by omega) bz0
 have hb1 := hb0.trans (hk.below.mono (by omega))
 clear hk br0 bz0 hb0
 have hgr := br1.lt
 go_wp2_with fail
 have S2 : CC w w.heap.size gr w1.heap.size #[.slice none 0 0, .int .i64 ta, .int .i64 tt, .int .i64 tn, .int .i64 0] r1 (w1.alloc (.cells #[.slice none 0 0, .int .i64 ta, .int .i64 tt, .int .i64 tn, .int .i64 0] 38)) :=
  ⟨hb1.alloc (by have := hb1.size; omega) _, Nat.le_refl _, by omega, hgr, bz1.alloc _, br1.alloc _, Blk.new w1 _ _⟩
 clear br1 bz1 hb1 hgr
 generalize w1.alloc (.cells #[.slice none 0 0, .int .i64 ta, .int .i64 tt, .int .i64 tn, .int .i64 0] 38) = W2 at *
 generalize w1.heap.size = gc at *
 refine (cnum_c gr r1 dr r2 _ E2.out S2.br (Nat.le_trans hl1 (by omega))).mono ?_
 rintro e w2 ⟨rfl, br2, hk⟩
 have S3 := S2.call br2 hk
 clear hk br2 S2
 have c4 : w2.cell? ⟨gc, 4, none⟩ = some (.int .i64 0) := S3.bc.cell 4
 have f4 := S3.bc.frozen 4
 have gcl := S3.bc.lt
 go_wp2_with fail
 have S4 : CC w w.heap.size gr gc #[.slice none 0 0, .int .i64 ta, .int .i64 tt, .int .i64 tn, .int .i64 dr] r2 (w2.setCell ⟨gc, 4, none⟩ (.int .i64 dr)) := S3.setc 4 (.int .i64 dr)
 clear c4 f4 gcl S3
 refine (cnum_c gr r2 c0 r3 _ E3.out S4.br (Nat.le_trans hl2 (by omega))).mono ?_
 rintro e w3 ⟨rfl, br3, hk⟩
 have S5 := S4.call br3 hk
 clear br3 hk S4
 go_wp2_with fail
 generalize hgz : w.heap.size = gz at *
 go_loopw [7] (fun i wr => ∃ (k : Nat) (v : Value) (ss : List Sh) (rr : RS), i = .int .i64 k ∧ (k : Int) ≤ c0.toNat ∧ CC w gz gr gc #[v, .int .i64 ta, .int .i64 tt, .int .i64 tn, .int .i64 dr] rr wr ∧ wr.ownsRow gz 30 17 v k (shsF ss) ∧ OwnSs gz ss wr ∧ ss.length = k ∧ cdN cSh.rd k r3 = (ss.map shF, rr) ∧ Far k rr 4096) (fun i _ => c0.toNat - (intOf i).toNat)
 case atStart => exact ⟨0, _, [], r3, rfl, by omega, S5, World.ownsRow_nil _ _ _ _, OwnSs.nil, rfl, rfl, Far.zero hl3⟩
 case round =>
  clear S5
  obtain ⟨k, v, ss, rr, rfl, hk, hS, hown, hss, hlen, hrd, hfar⟩ := hrel
  have i0 : (0 : Int) ≤ (k : Int) := by omega
  have HRD := Lib.hid hrd
  clear hrd
  obtain ⟨A0, cap0, rfl⟩ := own_slice hown
  obtain ⟨bd, rs⟩ := rr
  have HFAR := Lib.hid hfar
  have hk26 := hfar.le
  clear hfar
  go_upto_region 6 with (fail)
  go_cut [28] from 19 to 27 (fun c wx => c = .bool (decide ((k : Int) < c0) && !bd) ∧ wr = wx)
  case first =>
   have z1 : wr.cell? ⟨gr, 1, none⟩ = some (.bool bd) := hS.br.cell 1
   have zl := hS.br.lt
   by_cases hlt : (k : Int) < c0
   case neg =>
    go_wp2_with fail
    go_meet
    exact ⟨by rw [show decide ((k : Int) < c0) = false from decide_eq_false (by omega)]; rfl, rfl⟩
   case pos =>
   cases bd
   case false =>
    go_wp2_with fail
    go_meet
    exact ⟨by rw [show decide ((k : Int) < c0) = true from decide_eq_true (by omega)]; rfl, rfl⟩
   case true =>
    go_wp2_with fail
    go_meet
    exact ⟨by simp, rfl⟩
  case rest =>
  obtain ⟨rfl, rfl⟩ := hcut
  obtain ⟨cb, hcb⟩ : ∃ q, (decide ((k : Int) < c0) && !bd) = q := ⟨_, rfl⟩
  rw [hcb]
  have HCB := Lib.hid hcb
  clear hcb
  cases cb
  case true =>
   have hcc := HCB.out
   simp only [Bool.and_eq_true, decide_eq_true_eq, Bool.not_eq_true'] at hcc
   obtain ⟨hlt, rfl⟩ := hcc
   have hkN := HFAR.out.go rfl
   simp only at hkN
   have hlr := HFAR.out.len
   simp only at hlr
   clear HCB
   obtain ⟨ii, hii, hiz, his, hib⟩ := info_parts infoSh
   have c6 : wr.cell? ⟨gc, 0, none⟩ = some (.slice A0 k cap0) := hS.bc.cell 0
   have f6 := hS.bc.frozen 0
   have gl6 := hS.bc.lt
   have hgw : gz ≤ wr.heap.size := by have := hS.below.size; omega
   go_wp2_with fail
   go_region_law (first
    | (go_simp; go_at_call 25; refine (cshd_any gr ⟨false, rs⟩ 4096 (by decide) hlr _ hS.drew.br).mono ?_; rintro e wa ⟨x, ra, rfl, hrx, hla, hB1, hk1, hO1⟩; have HX := Lib.hid hrx; have Sa := hS.drew.call hB1 hk1; have Oa := own_kept (w := wr.drew) hown hk1.kept hS.drew.br (by decide); have Qa := OwnSs.kept (W := wr.drew) hss.drew hk1.kept hS.drew.br (by decide) (by decide) (by decide); have Xa := hO1.base (B' := gz) hgw; have ca6 : wa.cell? ⟨gc, 0, none⟩ = some (.slice A0 k cap0) := Sa.bc.cell 0; have fa6 := Sa.bc.frozen 0; have ga6 := Sa.bc.lt; clear hB1 hk1 hO1 hrx)
    | (refine step_pushR (by rfl) _ _ _ (by rfl) gz 30 ii _ 17 184 Tryz.underlying36 hii hiz his hib (by rfl) (by decide) wa _ k (shsF ss) (by rfl) Oa (shC x) rfl ?hu 1 (by rfl) ?h63 ?hby ?hba ?_; (case hu => simp [shC, Value.oneCell']); (case h63 => omega); (case hby => omega); (case hba => have := Sa.below.size; omega); intro gN capN wN hownN hbN hkN2; have SN := Sa.grow (by rw [hgz]; exact hbN) hkN2 (by decide) (by decide); have QN := OwnSs.keptT Qa hkN2 (by decide) (by decide) (by decide); have XN := Xa.keptT hkN2 (by decide) (by decide) (by decide); have d6 : wN.cell? ⟨gc, 0, none⟩ = some (.slice A0 k cap0) := SN.bc.cell 0; have g6 := SN.bc.frozen 0; have gl36 := SN.bc.lt))
   all_goals
    go_wp2_with fail
    go_roundw
    case rel =>
     refine ⟨k + 1, _, ss ++ [x], ra, by go_num, by omega, SN.setc 0 _, ?_, OwnSs.snoc (OwnSs.setT (p := ⟨gc, 0, none⟩) QN _ SN.bc (by decide) (by decide) (by decide)) (XN.setT (p := ⟨gc, 0, none⟩) _ SN.bc (by decide) (by decide) (by decide)), by simp [hlen], ?_, HFAR.out.succ cSh_pos HX.out⟩
     · rw [shsF_snoc]; exact own_setT (p := ⟨gc, 0, none⟩) hownN _ SN.bc (by decide)
     · rw [List.map_append]; exact cdN_succ _ _ _ _ _ _ _ HRD.out rfl HX.out
    case measure => simp [intOf]; omega
  case false =>
   have hcc := HCB.out
   have hend : k = c0.toNat ∨ bd = true := by
    cases bd with
    | true => exact .inr rfl
    | false =>
     have : ¬ (k : Int) < c0 := by simpa using hcc
     exact .inl (by omega)
   have hend2 := cdN_end cSh.rd k c0.toNat r3 ⟨bd, rs⟩ _ HRD.out (by omega) hend
   have hread : cCe.rd ⟨false, t⟩ = (ceF ⟨A0, k, cap0, ta, tt, tn, dr, ss⟩, ⟨bd, rs⟩) := cCe_eq E1.out E2.out E3.out hend2
   have HREAD := Lib.hid hread
   have hpl : plainCe ⟨A0, k, cap0, ta, tt, tn, dr, ss⟩ := fun s hs => (hss s hs).pl
   have HPL := Lib.hid hpl
   have hMF : ∀ W' : World, W'.ownsRow gz 30 17 (.slice A0 k cap0) k (shsF ss) → OwnSs gz ss W' → CeIn W' W'.heap.size ⟨A0, k, cap0, ta, tt, tn, dr, ss⟩ := fun W' a b => own_ce (c := ⟨A0, k, cap0, ta, tt, tn, dr, ss⟩) a hlen (by show k ≤ 4194304; omega) b
   have henc : fCe.enc (ceF ⟨A0, k, cap0, ta, tt, tn, dr, ss⟩) = ceBy ⟨A0, k, cap0, ta, tt, tn, dr, ss⟩ := cell_enc (hMF wr hown hss)
   have HENC := Lib.hid henc
   have hsz : bd = false → (ceBy ⟨A0, k, cap0, ta, tt, tn, dr, ss⟩).length ≤ 4096 := fun h => by
    have h1 := cCe.bwd t _ _ hread h
    rw [cCe_enc, henc] at h1
    have h2 := congrArg List.length h1.1
    rw [List.length_append] at h2
    omega
   have HSZ := Lib.hid hsz
   clear hread hsz hpl HRD E1 E2 E3 hk i0 hcc HCB hend hend2 HFAR henc
   have SM : CC w gz gr gc (ceA ⟨A0, k, cap0, ta, tt, tn, dr, ss⟩) ⟨bd, rs⟩ wr := hS
   clear hS
   obtain ⟨mm, hmm⟩ : ∃ mm, (⟨A0, k, cap0, ta, tt, tn, dr, ss⟩ : Ce) = mm := ⟨_, rfl⟩
   rw [hmm] at HREAD HPL HSZ HENC hMF SM
   clear hmm
   skip
   have hb2 := SM.below
   have bz2 := SM.bz
   have br2 := SM.br
   have bs2 := SM.bc
   have hom : (ceA mm).toList.all (·.oneCell') = true := (by with_unfolding_all rfl)
   have z1 : wr.cell? ⟨gr, 1, none⟩ = some (.bool bd) := br2.cell 1
   have zl := br2.lt
   clear SM
   obtain ⟨w2, hw2⟩ : ∃ x, x = wr := ⟨_, rfl⟩
   subst hw2
   subst hgz
   cases bd
   case true =>
    have D : ∀ w', w' = w2.setRow w.heap.size z5A → Below w.heap.size w w' ∧ Blk w' w.heap.size 38 z5A := by
     rintro _ rfl
     exact ⟨below_row hb2 (Nat.le_refl _) _, bz2.row _⟩
    go_wp2_with (with_reducible refine wpl_st bz2 (by with_unfolding_all rfl) 38 _ _ (by with_unfolding_all rfl) z5A (by with_unfolding_all rfl) (by with_unfolding_all rfl) (by with_unfolding_all rfl) (by with_unfolding_all rfl) hho ?_; refine Classical.byContradiction fun hno => ?_)
    refine hno ?_
    clear hno
    intro wz ez
    obtain ⟨bz, Fz⟩ := D wz ez
    clear ez D
    go_wp2_with fail
    exact bodyPost_ret (res2c Fz rfl rfl _ rfl _ Tryz.underlying38 rfl rfl) rfl (Or.inr ⟨rfl, ⟨mm, _, HREAD.out, HENC.out, HPL.out, Or.inl rfl⟩, bz⟩)
   case false =>
   have hsz := HSZ.out (by first | trivial | rfl)
   have hCI := hMF w2 hown hss
   have hsm : CeSm w2 w2.heap.size mm := ⟨hCI, fun s hs => by obtain ⟨h1, h2, h3⟩ := ce_sizes hsz s hs; exact ⟨hCI.ss s hs, by omega, by omega, fun e he => by have := h3 e he; omega⟩⟩
   go_wp2_with (with_reducible refine wpl_ldg bs2 (by with_unfolding_all rfl) 38 _ (by with_unfolding_all rfl) (by with_unfolding_all rfl) _ Tryz.underlying38 (by with_unfolding_all rfl) (by with_unfolding_all rfl) ?_)
   refine (drce_any mm w2 hsm).mono ?_
   rintro e W3 ⟨rfl, d3⟩
   have hb3 := bt hb2 d3
   have bz3 := bz2.keep d3
   have bs3 := bs2.keep d3
   have hown3 := own_below hown d3 (Nat.le_refl _)
   have hss3 := OwnSs.below hss d3 (Nat.le_refl _)
   clear z1 zl hb2 bz2 bs2 br2 d3 hsz hown hss hCI hsm
   cases hr : ceB mm
   case false =>
    have HR := Lib.hid hr
    clear hr
    have D : ∀ w', w' = W3.setRow w.heap.size z5A → Below w.heap.size w w' ∧ Blk w' w.heap.size 38 z5A := by
     rintro _ rfl
     exact ⟨below_row hb3 (Nat.le_refl _) _, bz3.row _⟩
    go_wp2_with (with_reducible refine wpl_st bz3 (by with_unfolding_all rfl) 38 _ _ (by with_unfolding_all rfl) z5A (by with_unfolding_all rfl) (by with_unfolding_all rfl) (by with_unfolding_all rfl) (by with_unfolding_all rfl) hho ?_; refine Classical.byContradiction fun hno => ?_)
    refine hno ?_
    clear hno
    intro wz ez
    obtain ⟨bz, Fz⟩ := D wz ez
    clear ez D
    go_wp2_with fail
    exact bodyPost_ret (res2c Fz rfl rfl _ rfl _ Tryz.underlying38 rfl rfl) rfl (Or.inr ⟨rfl, ⟨mm, _, HREAD.out, HENC.out, HPL.out, Or.inr (Or.inl HR.out)⟩, bz⟩)
   case true =>
    have HR := Lib.hid hr
    clear hr
    go_wp2_with (with_reducible refine wpl_ldg bs3 (by with_unfolding_all rfl) 38 _ (by with_unfolding_all rfl) (by with_unfolding_all rfl) _ Tryz.underlying38 (by with_unfolding_all rfl) (by with_unfolding_all rfl) ?_)
    refine (dcell_any mm W3 (hMF W3 hown3 hss3) HR.out).mono ?_
    rintro e W4 ⟨rfl, d4⟩
    have hb4 := bt hb3 d4
    have bz4 := bz3.keep d4
    have bs4 := bs3.keep d4
    have hown4 := own_below hown3 d4 (Nat.le_refl _)
    have hss4 := OwnSs.below hss3 d4 (Nat.le_refl _)
    clear hb3 bz3 bs3 d4 hown3 hss3
    obtain ⟨x, hx⟩ : ∃ x, ceBy mm = x := ⟨_, rfl⟩
    rw [hx]
    have HX := Lib.hid hx
    clear hx
    by_cases hst : x = t
    case neg =>
     have p1 : (x == t) = false := by simp [hst]
     have p2 : (x != t) = true := by simp [hst]
     have HST := Lib.hid hst
     clear hst
     have D : ∀ w', w' = W4.setRow w.heap.size z5A → Below w.heap.size w w' ∧ Blk w' w.heap.size 38 z5A := by
      rintro _ rfl
      exact ⟨below_row hb4 (Nat.le_refl _) _, bz4.row _⟩
     go_wp2_with (with_reducible refine wpl_st bz4 (by with_unfolding_all rfl) 38 _ _ (by with_unfolding_all rfl) z5A (by with_unfolding_all rfl) (by with_unfolding_all rfl) (by with_unfolding_all rfl) (by with_unfolding_all rfl) hho ?_; refine Classical.byContradiction fun hno => ?_)
     refine hno ?_
     clear hno
     intro wz ez
     obtain ⟨bz, Fz⟩ := D wz ez
     clear ez D
     go_wp2_with fail
     exact bodyPost_ret (res2c Fz rfl rfl _ rfl _ Tryz.underlying38 rfl rfl) rfl (Or.inr ⟨rfl, ⟨mm, _, HREAD.out, HENC.out, HPL.out, Or.inr (Or.inr (by rw [HX.out]; exact HST.out))⟩, bz⟩)
    case pos =>
     have p1 : (x == t) = true := by simp [hst]
     have p2 : (x != t) = false := by simp [hst]
     have HST := Lib.hid hst
     clear hst
     have D : ∀ w', w' = W4.setRow w.heap.size (ceA mm) → Below w.heap.size w w' ∧ Blk w' w.heap.size 38 (ceA mm) ∧ CeIn w' w'.heap.size mm := by
      rintro _ rfl
      exact ⟨below_row hb4 (Nat.le_refl _) _, bz4.row _, hMF _ (own_rowT hown4 bz4 (by decide) _) (hss4.rowT bz4 (by decide) (by decide) (by decide) _)⟩
     go_wp2_with (first | (with_reducible refine wpl_ld bs4 (by with_unfolding_all rfl) 38 _ (by with_unfolding_all rfl) (by with_unfolding_all rfl) _ Tryz.underlying38 (by with_unfolding_all rfl) (by with_unfolding_all rfl) ?_) | (with_reducible refine wpl_st bz4 (by with_unfolding_all rfl) 38 _ _ (by with_unfolding_all rfl) (ceA mm) (by with_unfolding_all rfl) (by with_unfolding_all rfl) (by with_unfolding_all rfl) (by with_unfolding_all rfl) hom ?_; refine Classical.byContradiction fun hno => ?_))
     refine hno ?_
     clear hno
     intro wz ez
     obtain ⟨bz, Fz, hMz⟩ := D wz ez
     clear ez D
     go_wp2_with fail
     exact bodyPost_ret (res2c Fz rfl rfl _ rfl _ Tryz.underlying38 rfl rfl) rfl (Or.inl ⟨mm, rfl, by rw [HX.out]; exact HST.out.symm, HENC.out, HR.out, hMz, HPL.out, bz⟩)
end Go.Proofs.YtkoligiilieboaaGreatDoor
