/- The document's cursor reads a shard. -/
import Derived.Test.YtkoligiilieboaaGreatDoorDc1
import Derived.Test.YtkoligiilieboaaGreatDoorBkI
import Derived.Deep.CutRange
set_option linter.unusedSimpArgs false
set_option linter.unusedVariables false
namespace Go.Proofs.YtkoligiilieboaaGreatDoor
open Go.RowKit
attribute [local go_sem] ByteArray.mk_append_mk ByteArray.extract_mk
attribute [local go_sem ↓] Go.wp_at_zero Go.wp_at_succ
theorem cdN_succ {α : Type} (f : RS → α × RS) (k : Nat) (r rr r' : RS) (xs : List α) (x : α) (h : cdN f k r = (xs, rr)) (hb : rr.bad = false) (hx : f rr = (x, r')) : cdN f (k + 1) r = (xs ++ [x], r') := by
  unfold cdN
  rw [h]
  simp only [hb, hx]
  rfl
theorem cdN_end {α : Type} (f : RS → α × RS) (k n : Nat) (r rr : RS) (xs : List α) (h : cdN f k r = (xs, rr)) (hk : k ≤ n) (he : k = n ∨ rr.bad = true) : cdN f n r = (xs, rr) := by
  rcases he with rfl | he
  · exact h
  · rw [cdN_stay f k r (by rw [h]; exact he) n hk, h]
structure Far (k : Nat) (rr : RS) (N : Nat) : Prop where
  go : rr.bad = false → k + rr.s.length ≤ N
  le : k ≤ N + 1
  len : rr.s.length ≤ N
theorem Far.zero {rr : RS} {N : Nat} (h : rr.s.length ≤ N) : Far 0 rr N := ⟨fun _ => by omega, by omega, h⟩
theorem Far.succ {α : Type} {f : Fmt α} (hp : ∀ v, f.ok v → 0 < (f.enc v).length) {k : Nat} {s : List UInt8} {r' : RS} {x : α} {N : Nat} (h : Far k ⟨false, s⟩ N) (hx : f.rd ⟨false, s⟩ = (x, r')) : Far (k + 1) r' N := by
  have h1 := h.go rfl
  simp only at h1
  have hl := f.len ⟨false, s⟩
  rw [hx] at hl
  simp only at hl
  refine ⟨fun hb => ?_, by omega, by omega⟩
  obtain ⟨e1, e2⟩ := f.bwd s x r' hx hb
  have h3 := congrArg List.length e1
  rw [List.length_append] at h3
  have := hp x e2
  omega
theorem cVs_pos (v : Vs) (h : cVs.ok v) : 0 < (cVs.enc v).length := fVs_pos v h
theorem cEn_pos (v : EnL) (h : cEn.ok v) : 0 < (cEn.enc v).length := fEn_pos v h
theorem cDn_pos (v : DnF) (h : cDn.ok v) : 0 < (cDn.enc v).length := fDn_pos v h
theorem cSh_pos (v : ShF) (h : cSh.ok v) : 0 < (cSh.enc v).length := fSh_pos v h
theorem cVs_eq {r ra rb rc : RS} {a t n : Int} {b : Bool} {v : List UInt8} (h1 : cStamp.rd r = ((a, t, n), ra)) (h2 : cFlag.rd ra = (b, rb)) (h3 : cText.rd rb = (v, rc)) : cVs.rd r = (⟨a, t, n, b, v⟩, rc) := by
  show (mkVs _, _) = _
  have h : (cStamp.seq (cFlag.seq cText)).rd r = (((a, t, n), b, v), rc) := seqC_eq h1 (seqC_eq h2 h3)
  rw [h]
  rfl
theorem cEn_eq {r ra rb rc : RS} {k : List UInt8} {c : Int} {vs : List Vs} (h1 : cText.rd r = (k, ra)) (h2 : cNum.rd ra = (c, rb)) (h3 : cdN cVs.rd c.toNat rb = (vs, rc)) : cEn.rd r = ((k, vs), rc) :=
  seqC_eq (f := cText) (g := cList cVs) h1 (clist_eq h2 h3)
theorem cDn_eq {r r1 r2 r3 r4 r5 r6 : RS} {c q e a t n : Int} {b : Bool} {v : List UInt8} (h1 : cNum.rd r = (c, r1)) (h2 : cNum.rd r1 = (q, r2)) (h3 : cNum.rd r2 = (e, r3)) (h4 : cStamp.rd r3 = ((a, t, n), r4)) (h5 : cFlag.rd r4 = (b, r5)) (h6 : cText.rd r5 = (v, r6)) : cDn.rd r = ((c, q, e, (a, t, n), b, v), r6) :=
  seqC_eq (f := cNum) h1 (seqC_eq (f := cNum) h2 (seqC_eq (f := cNum) h3 (seqC_eq (f := cStamp) h4 (seqC_eq (f := cFlag) (g := cText) h5 h6))))
structure RC (w : World) (gr gz gs : Nat) (sc : Array Value) (r : RS) (W : World) : Prop where
  kr : Kr gr w W
  lr : gr < w.heap.size
  lz : w.heap.size ≤ gz
  ls : gz < gs
  br : Blk W gr 74 (rsA r)
  bz : Blk W gz 30 zsA
  bs : Blk W gs 30 sc
section
variable {w W W' : World} {gr gz gs : Nat} {sc : Array Value} {r r' : RS}
theorem RC.nz (h : RC w gr gz gs sc r W) : gz ≠ gr := by have := h.lr; have := h.lz; omega
theorem RC.ns (h : RC w gr gz gs sc r W) : gs ≠ gr := by have := h.lr; have := h.lz; have := h.ls; omega
theorem RC.glt (h : RC w gr gz gs sc r W) : gr < W.heap.size := h.br.lt
theorem RC.call (h : RC w gr gz gs sc r W) (hB : Blk W' gr 74 (rsA r')) (hk : Kr gr W W') : RC w gr gz gs sc r' W' :=
  ⟨h.kr.trans hk, h.lr, h.lz, h.ls, hB, hk.kept _ _ _ h.nz h.bz, hk.kept _ _ _ h.ns h.bs⟩
theorem RC.sets (h : RC w gr gz gs sc r W) (i : Nat) (v : Value) : RC w gr gz gs (sc.setIfInBounds i v) r (W.setCell ⟨gs, i, none⟩ v) :=
  ⟨h.kr.far h.lr (by have := h.lz; have := h.ls; omega) i v, h.lr, h.lz, h.ls, h.br.far (p := ⟨gs, i, none⟩) (by have := h.ns; show gr ≠ gs; omega) v, h.bz.far (p := ⟨gs, i, none⟩) (by have := h.ls; show gz ≠ gs; omega) v, h.bs.set i v⟩
theorem RC.grow {e : TypeId} (h : RC w gr gz gs sc r W) (hb : Below w.heap.size W W') (hk : ∀ g T cs, T ≠ e → Blk W g T cs → Blk W' g T cs) (h1 : 30 ≠ e) (h2 : 74 ≠ e) : RC w gr gz gs sc r W' :=
  ⟨h.kr.grow h.lr hb, h.lr, h.lz, h.ls, hk _ _ _ h2 h.br, hk _ _ _ h1 h.bz, hk _ _ _ h1 h.bs⟩
end
def CShPost (gr : Nat) (r : RS) (N : Nat) (w : World) (e : Ending) (w' : World) : Prop :=
  ∃ (s : Sh) (r' : RS), e = .returned (shV s) ∧ cSh.rd r = (shF s, r') ∧ r'.s.length ≤ N ∧ Blk w' gr 74 (rsA r') ∧ Kr gr w w' ∧ OwnSh w.heap.size s w'
set_option maxHeartbeats 64000000 in
set_option maxRecDepth 100000 in
theorem cshd_any (gr : Nat) (r0 : RS) (N : Nat) (hN : N ≤ 4194303) (hN2 : r0.s.length ≤ N) (w : World) (hB0 : Blk w gr 74 (rsA r0)) :
    Calls Tryz.prog 25 #[.pointer (some ⟨gr, 0, none⟩)] w (CShPost gr r0 N w) := by
  have hgr := hB0.lt
  go_enter Tryz.func25, Tryz.ntmps25
  go_upto_region 1 with (fail)
  have bz0 : Blk (w.alloc (.cells zsA 30)) w.heap.size 30 zsA := Blk.new w _ _
  have br0 := hB0.alloc (.cells zsA 30)
  have k0 := (Kr.refl (g := gr) (w := w)).alloc hgr (.cells zsA 30)
  generalize (w.alloc (.cells zsA 30)) = W0 at *
  generalize hg0 : w.heap.size = gz at *
  obtain ⟨n0, r1, e1⟩ : ∃ x r, cNum.rd r0 = (x, r) := ⟨_, _, rfl⟩
  have hl1 := cnum_sl e1 hN2
  have E1 := Lib.hid e1
  clear e1 hB0
  go_wp2_with fail
  refine (cnum_c gr r0 n0 r1 _ E1.out br0 (Nat.le_trans hN2 (by omega))).mono ?_
  rintro e w1 ⟨rfl, br1, hk⟩
  have k1 := k0.trans hk
  have bz1 := hk.kept _ _ _ (by omega) bz0
  clear hk k0 bz0 br0
  have G : Blk (w1.alloc (.cells zsA 30)) w1.heap.size 30 zsA := Blk.new w1 _ _
  have hgz1 := bz1.lt
  have hgr1 := br1.lt
  have D : ∀ w', w' = (w1.alloc (.cells zsA 30)).setRow w1.heap.size #[.int .i64 n0, .int .i64 0, .string ⟨#[]⟩, .string ⟨#[]⟩, .int .i64 0, .slice none 0 0, .int .i64 0, .int .i64 0, .int .i64 0, .int .i64 0, .int .i64 0, .int .i64 0, .slice none 0 0, .int .i64 0, .int .i64 0, .int .i64 0, .int .i64 0] → RC w gr gz w1.heap.size #[.int .i64 n0, .int .i64 0, .string ⟨#[]⟩, .string ⟨#[]⟩, .int .i64 0, .slice none 0 0, .int .i64 0, .int .i64 0, .int .i64 0, .int .i64 0, .int .i64 0, .int .i64 0, .slice none 0 0, .int .i64 0, .int .i64 0, .int .i64 0, .int .i64 0] r1 w' := by
    rintro _ rfl
    exact ⟨(k1.alloc (by omega) _).row (by omega) (by have := k1.size; omega) _, by omega, by omega, hgz1, (br1.alloc _).row_far (by omega) _, (bz1.alloc _).row_far (by omega) _, G.row _⟩
  go_wp2_with (with_reducible refine wpl_st G (by with_unfolding_all rfl) _ _ _ (by with_unfolding_all rfl) #[.int .i64 n0, .int .i64 0, .string ⟨#[]⟩, .string ⟨#[]⟩, .int .i64 0, .slice none 0 0, .int .i64 0, .int .i64 0, .int .i64 0, .int .i64 0, .int .i64 0, .int .i64 0, .slice none 0 0, .int .i64 0, .int .i64 0, .int .i64 0, .int .i64 0] (by with_unfolding_all rfl) (by with_unfolding_all rfl) (by with_unfolding_all rfl) (by with_unfolding_all rfl) (by with_unfolding_all rfl) ?_; refine Classical.byContradiction fun hno => ?_)
  refine hno ?_
  clear hno
  intro w2 e2
  have S1 := D w2 e2
  clear e2 D G bz1 br1 k1 hgz1 hgr1
  generalize w1.heap.size = gs at *
  obtain ⟨n1, r3, e3⟩ : ∃ n1 r, cNum.rd r1 = (n1, r) := ⟨_, _, rfl⟩
  have hl3 := cnum_sl e3 hl1
  have E3 := Lib.hid e3
  clear e3
  go_wp2_with fail
  refine (cnum_c gr r1 n1 r3 _ E3.out S1.br (Nat.le_trans hl1 (by omega))).mono ?_
  rintro e w3 ⟨rfl, hB, hk⟩
  have S3 : RC w gr gz gs #[.int .i64 n0, .int .i64 0, .string ⟨#[]⟩, .string ⟨#[]⟩, .int .i64 0, .slice none 0 0, .int .i64 0, .int .i64 0, .int .i64 0, .int .i64 0, .int .i64 0, .int .i64 0, .slice none 0 0, .int .i64 0, .int .i64 0, .int .i64 0, .int .i64 0] r3 w3 := S1.call hB hk
  clear hB hk S1
  clear hl1
  have c1 : w3.cell? ⟨gs, 1, none⟩ = some (.int .i64 0) := S3.bs.cell 1
  have f1 := S3.bs.frozen 1
  have gsl := S3.bs.lt
  obtain ⟨n2, r4, e4⟩ : ∃ n2 r, cNum.rd r3 = (n2, r) := ⟨_, _, rfl⟩
  have hl4 := cnum_sl e4 hl3
  have E4 := Lib.hid e4
  clear e4
  go_wp2_with fail
  clear c1 f1 gsl
  have T4 : RC w gr gz gs #[.int .i64 n0, .int .i64 n1, .string ⟨#[]⟩, .string ⟨#[]⟩, .int .i64 0, .slice none 0 0, .int .i64 0, .int .i64 0, .int .i64 0, .int .i64 0, .int .i64 0, .int .i64 0, .slice none 0 0, .int .i64 0, .int .i64 0, .int .i64 0, .int .i64 0] r3 (w3.setCell ⟨gs, 1, none⟩ (.int .i64 n1)) := (S3).sets 1 (.int .i64 n1)
  clear S3
  refine (cnum_c gr r3 n2 r4 _ E4.out T4.br (Nat.le_trans hl3 (by omega))).mono ?_
  rintro e w4 ⟨rfl, hB, hk⟩
  have S4 : RC w gr gz gs #[.int .i64 n0, .int .i64 n1, .string ⟨#[]⟩, .string ⟨#[]⟩, .int .i64 0, .slice none 0 0, .int .i64 0, .int .i64 0, .int .i64 0, .int .i64 0, .int .i64 0, .int .i64 0, .slice none 0 0, .int .i64 0, .int .i64 0, .int .i64 0, .int .i64 0] r4 w4 := T4.call hB hk
  clear hB hk T4
  clear hl3
  have c4 : w4.cell? ⟨gs, 4, none⟩ = some (.int .i64 0) := S4.bs.cell 4
  have f4 := S4.bs.frozen 4
  have gsl := S4.bs.lt
  obtain ⟨n3, r5, e5⟩ : ∃ n3 r, cNum.rd r4 = (n3, r) := ⟨_, _, rfl⟩
  have hl5 := cnum_sl e5 hl4
  have E5 := Lib.hid e5
  clear e5
  go_wp2_with fail
  clear c4 f4 gsl
  have T5 : RC w gr gz gs #[.int .i64 n0, .int .i64 n1, .string ⟨#[]⟩, .string ⟨#[]⟩, .int .i64 n2, .slice none 0 0, .int .i64 0, .int .i64 0, .int .i64 0, .int .i64 0, .int .i64 0, .int .i64 0, .slice none 0 0, .int .i64 0, .int .i64 0, .int .i64 0, .int .i64 0] r4 (w4.setCell ⟨gs, 4, none⟩ (.int .i64 n2)) := (S4).sets 4 (.int .i64 n2)
  clear S4
  refine (cnum_c gr r4 n3 r5 _ E5.out T5.br (Nat.le_trans hl4 (by omega))).mono ?_
  rintro e w5 ⟨rfl, hB, hk⟩
  have S5 : RC w gr gz gs #[.int .i64 n0, .int .i64 n1, .string ⟨#[]⟩, .string ⟨#[]⟩, .int .i64 n2, .slice none 0 0, .int .i64 0, .int .i64 0, .int .i64 0, .int .i64 0, .int .i64 0, .int .i64 0, .slice none 0 0, .int .i64 0, .int .i64 0, .int .i64 0, .int .i64 0] r5 w5 := T5.call hB hk
  clear hB hk T5
  clear hl4
  have c13 : w5.cell? ⟨gs, 13, none⟩ = some (.int .i64 0) := S5.bs.cell 13
  have f13 := S5.bs.frozen 13
  have gsl := S5.bs.lt
  obtain ⟨n4, r6, e6⟩ : ∃ n4 r, cNum.rd r5 = (n4, r) := ⟨_, _, rfl⟩
  have hl6 := cnum_sl e6 hl5
  have E6 := Lib.hid e6
  clear e6
  go_wp2_with fail
  clear c13 f13 gsl
  have T6 : RC w gr gz gs #[.int .i64 n0, .int .i64 n1, .string ⟨#[]⟩, .string ⟨#[]⟩, .int .i64 n2, .slice none 0 0, .int .i64 0, .int .i64 0, .int .i64 0, .int .i64 0, .int .i64 0, .int .i64 0, .slice none 0 0, .int .i64 n3, .int .i64 0, .int .i64 0, .int .i64 0] r5 (w5.setCell ⟨gs, 13, none⟩ (.int .i64 n3)) := (S5).sets 13 (.int .i64 n3)
  clear S5
  refine (cnum_c gr r5 n4 r6 _ E6.out T6.br (Nat.le_trans hl5 (by omega))).mono ?_
  rintro e w6 ⟨rfl, hB, hk⟩
  have S6 : RC w gr gz gs #[.int .i64 n0, .int .i64 n1, .string ⟨#[]⟩, .string ⟨#[]⟩, .int .i64 n2, .slice none 0 0, .int .i64 0, .int .i64 0, .int .i64 0, .int .i64 0, .int .i64 0, .int .i64 0, .slice none 0 0, .int .i64 n3, .int .i64 0, .int .i64 0, .int .i64 0] r6 w6 := T6.call hB hk
  clear hB hk T6
  clear hl5
  have c14 : w6.cell? ⟨gs, 14, none⟩ = some (.int .i64 0) := S6.bs.cell 14
  have f14 := S6.bs.frozen 14
  have gsl := S6.bs.lt
  obtain ⟨n5, r7, e7⟩ : ∃ n5 r, cNum.rd r6 = (n5, r) := ⟨_, _, rfl⟩
  have hl7 := cnum_sl e7 hl6
  have E7 := Lib.hid e7
  clear e7
  go_wp2_with fail
  clear c14 f14 gsl
  have T7 : RC w gr gz gs #[.int .i64 n0, .int .i64 n1, .string ⟨#[]⟩, .string ⟨#[]⟩, .int .i64 n2, .slice none 0 0, .int .i64 0, .int .i64 0, .int .i64 0, .int .i64 0, .int .i64 0, .int .i64 0, .slice none 0 0, .int .i64 n3, .int .i64 n4, .int .i64 0, .int .i64 0] r6 (w6.setCell ⟨gs, 14, none⟩ (.int .i64 n4)) := (S6).sets 14 (.int .i64 n4)
  clear S6
  refine (cnum_c gr r6 n5 r7 _ E7.out T7.br (Nat.le_trans hl6 (by omega))).mono ?_
  rintro e w7 ⟨rfl, hB, hk⟩
  have S7 : RC w gr gz gs #[.int .i64 n0, .int .i64 n1, .string ⟨#[]⟩, .string ⟨#[]⟩, .int .i64 n2, .slice none 0 0, .int .i64 0, .int .i64 0, .int .i64 0, .int .i64 0, .int .i64 0, .int .i64 0, .slice none 0 0, .int .i64 n3, .int .i64 n4, .int .i64 0, .int .i64 0] r7 w7 := T7.call hB hk
  clear hB hk T7
  clear hl6
  have c15 : w7.cell? ⟨gs, 15, none⟩ = some (.int .i64 0) := S7.bs.cell 15
  have f15 := S7.bs.frozen 15
  have gsl := S7.bs.lt
  obtain ⟨n6, r8, e8⟩ : ∃ n6 r, cNum.rd r7 = (n6, r) := ⟨_, _, rfl⟩
  have hl8 := cnum_sl e8 hl7
  have E8 := Lib.hid e8
  clear e8
  go_wp2_with fail
  clear c15 f15 gsl
  have T8 : RC w gr gz gs #[.int .i64 n0, .int .i64 n1, .string ⟨#[]⟩, .string ⟨#[]⟩, .int .i64 n2, .slice none 0 0, .int .i64 0, .int .i64 0, .int .i64 0, .int .i64 0, .int .i64 0, .int .i64 0, .slice none 0 0, .int .i64 n3, .int .i64 n4, .int .i64 n5, .int .i64 0] r7 (w7.setCell ⟨gs, 15, none⟩ (.int .i64 n5)) := (S7).sets 15 (.int .i64 n5)
  clear S7
  refine (cnum_c gr r7 n6 r8 _ E8.out T8.br (Nat.le_trans hl7 (by omega))).mono ?_
  rintro e w8 ⟨rfl, hB, hk⟩
  have S8 : RC w gr gz gs #[.int .i64 n0, .int .i64 n1, .string ⟨#[]⟩, .string ⟨#[]⟩, .int .i64 n2, .slice none 0 0, .int .i64 0, .int .i64 0, .int .i64 0, .int .i64 0, .int .i64 0, .int .i64 0, .slice none 0 0, .int .i64 n3, .int .i64 n4, .int .i64 n5, .int .i64 0] r8 w8 := T8.call hB hk
  clear hB hk T8
  clear hl7
  have c16 : w8.cell? ⟨gs, 16, none⟩ = some (.int .i64 0) := S8.bs.cell 16
  have f16 := S8.bs.frozen 16
  have gsl := S8.bs.lt
  obtain ⟨lo, r9, e9⟩ : ∃ lo r, cText.rd r8 = (lo, r) := ⟨_, _, rfl⟩
  have hl9 := ctext_sl e9 hl8
  have E9 := Lib.hid e9
  clear e9
  go_wp2_with fail
  clear c16 f16 gsl
  have T9 : RC w gr gz gs #[.int .i64 n0, .int .i64 n1, .string ⟨#[]⟩, .string ⟨#[]⟩, .int .i64 n2, .slice none 0 0, .int .i64 0, .int .i64 0, .int .i64 0, .int .i64 0, .int .i64 0, .int .i64 0, .slice none 0 0, .int .i64 n3, .int .i64 n4, .int .i64 n5, .int .i64 n6] r8 (w8.setCell ⟨gs, 16, none⟩ (.int .i64 n6)) := (S8).sets 16 (.int .i64 n6)
  clear S8
  refine (ctext_c gr r8 lo r9 _ E9.out T9.br (Nat.le_trans hl8 (by omega))).mono ?_
  rintro e w9 ⟨rfl, hB, hk⟩
  have S9 : RC w gr gz gs #[.int .i64 n0, .int .i64 n1, .string ⟨#[]⟩, .string ⟨#[]⟩, .int .i64 n2, .slice none 0 0, .int .i64 0, .int .i64 0, .int .i64 0, .int .i64 0, .int .i64 0, .int .i64 0, .slice none 0 0, .int .i64 n3, .int .i64 n4, .int .i64 n5, .int .i64 n6] r9 w9 := T9.call hB hk
  clear hB hk T9
  clear hl8
  have c2 : w9.cell? ⟨gs, 2, none⟩ = some (.string ⟨#[]⟩) := S9.bs.cell 2
  have f2 := S9.bs.frozen 2
  have gsl := S9.bs.lt
  obtain ⟨hi, r10, e10⟩ : ∃ hi r, cText.rd r9 = (hi, r) := ⟨_, _, rfl⟩
  have hl10 := ctext_sl e10 hl9
  have E10 := Lib.hid e10
  clear e10
  go_wp2_with fail
  clear c2 f2 gsl
  have T10 : RC w gr gz gs #[.int .i64 n0, .int .i64 n1, .string ⟨lo.toArray⟩, .string ⟨#[]⟩, .int .i64 n2, .slice none 0 0, .int .i64 0, .int .i64 0, .int .i64 0, .int .i64 0, .int .i64 0, .int .i64 0, .slice none 0 0, .int .i64 n3, .int .i64 n4, .int .i64 n5, .int .i64 n6] r9 (w9.setCell ⟨gs, 2, none⟩ (.string ⟨lo.toArray⟩)) := (S9).sets 2 (.string ⟨lo.toArray⟩)
  clear S9
  refine (ctext_c gr r9 hi r10 _ E10.out T10.br (Nat.le_trans hl9 (by omega))).mono ?_
  rintro e w10 ⟨rfl, hB, hk⟩
  have S10 : RC w gr gz gs #[.int .i64 n0, .int .i64 n1, .string ⟨lo.toArray⟩, .string ⟨#[]⟩, .int .i64 n2, .slice none 0 0, .int .i64 0, .int .i64 0, .int .i64 0, .int .i64 0, .int .i64 0, .int .i64 0, .slice none 0 0, .int .i64 n3, .int .i64 n4, .int .i64 n5, .int .i64 n6] r10 w10 := T10.call hB hk
  clear hB hk T10
  clear hl9
  have c3 : w10.cell? ⟨gs, 3, none⟩ = some (.string ⟨#[]⟩) := S10.bs.cell 3
  have f3 := S10.bs.frozen 3
  have gsl := S10.bs.lt
  obtain ⟨ma, mt, mn, r11, e11⟩ : ∃ ma mt mn r, cStamp.rd r10 = ((ma, mt, mn), r) := ⟨_, _, _, _, rfl⟩
  have hl11 := cstamp_sl e11 hl10
  have E11 := Lib.hid e11
  clear e11
  go_wp2_with fail
  clear c3 f3 gsl
  have T11 : RC w gr gz gs #[.int .i64 n0, .int .i64 n1, .string ⟨lo.toArray⟩, .string ⟨hi.toArray⟩, .int .i64 n2, .slice none 0 0, .int .i64 0, .int .i64 0, .int .i64 0, .int .i64 0, .int .i64 0, .int .i64 0, .slice none 0 0, .int .i64 n3, .int .i64 n4, .int .i64 n5, .int .i64 n6] r10 (w10.setCell ⟨gs, 3, none⟩ (.string ⟨hi.toArray⟩)) := (S10).sets 3 (.string ⟨hi.toArray⟩)
  clear S10
  refine (cstamp_c gr r10 ma mt mn r11 _ E11.out T11.br (Nat.le_trans hl10 (by omega))).mono ?_
  rintro e w11 ⟨rfl, hB, hk⟩
  have S11 : RC w gr gz gs #[.int .i64 n0, .int .i64 n1, .string ⟨lo.toArray⟩, .string ⟨hi.toArray⟩, .int .i64 n2, .slice none 0 0, .int .i64 0, .int .i64 0, .int .i64 0, .int .i64 0, .int .i64 0, .int .i64 0, .slice none 0 0, .int .i64 n3, .int .i64 n4, .int .i64 n5, .int .i64 n6] r11 w11 := T11.call hB hk
  clear hB hk T11
  clear hl10
  have c6 : w11.cell? ⟨gs, 6, none⟩ = some (.int .i64 0) := S11.bs.cell 6
  have f6 := S11.bs.frozen 6
  have c7 : w11.cell? ⟨gs, 7, none⟩ = some (.int .i64 0) := S11.bs.cell 7
  have f7 := S11.bs.frozen 7
  have c8 : w11.cell? ⟨gs, 8, none⟩ = some (.int .i64 0) := S11.bs.cell 8
  have f8 := S11.bs.frozen 8
  have gsl := S11.bs.lt
  obtain ⟨ta, tt, tn, r12, e12⟩ : ∃ ta tt tn r, cStamp.rd r11 = ((ta, tt, tn), r) := ⟨_, _, _, _, rfl⟩
  have hl12 := cstamp_sl e12 hl11
  have E12 := Lib.hid e12
  clear e12
  go_wp2_with fail
  clear c6 f6 c7 f7 c8 f8 gsl
  have T12 : RC w gr gz gs #[.int .i64 n0, .int .i64 n1, .string ⟨lo.toArray⟩, .string ⟨hi.toArray⟩, .int .i64 n2, .slice none 0 0, .int .i64 ma, .int .i64 mt, .int .i64 mn, .int .i64 0, .int .i64 0, .int .i64 0, .slice none 0 0, .int .i64 n3, .int .i64 n4, .int .i64 n5, .int .i64 n6] r11 (((w11.setCell ⟨gs, 6, none⟩ (.int .i64 ma)).setCell ⟨gs, 7, none⟩ (.int .i64 mt)).setCell ⟨gs, 8, none⟩ (.int .i64 mn)) := (((S11).sets 6 (.int .i64 ma)).sets 7 (.int .i64 mt)).sets 8 (.int .i64 mn)
  clear S11
  refine (cstamp_c gr r11 ta tt tn r12 _ E12.out T12.br (Nat.le_trans hl11 (by omega))).mono ?_
  rintro e w12 ⟨rfl, hB, hk⟩
  have S12 : RC w gr gz gs #[.int .i64 n0, .int .i64 n1, .string ⟨lo.toArray⟩, .string ⟨hi.toArray⟩, .int .i64 n2, .slice none 0 0, .int .i64 ma, .int .i64 mt, .int .i64 mn, .int .i64 0, .int .i64 0, .int .i64 0, .slice none 0 0, .int .i64 n3, .int .i64 n4, .int .i64 n5, .int .i64 n6] r12 w12 := T12.call hB hk
  clear hB hk T12
  clear hl11
  have c9 : w12.cell? ⟨gs, 9, none⟩ = some (.int .i64 0) := S12.bs.cell 9
  have f9 := S12.bs.frozen 9
  have c10 : w12.cell? ⟨gs, 10, none⟩ = some (.int .i64 0) := S12.bs.cell 10
  have f10 := S12.bs.frozen 10
  have c11 : w12.cell? ⟨gs, 11, none⟩ = some (.int .i64 0) := S12.bs.cell 11
  have f11 := S12.bs.frozen 11
  have gsl := S12.bs.lt
  obtain ⟨c0, r13, e13⟩ : ∃ c0 r, cNum.rd r12 = (c0, r) := ⟨_, _, rfl⟩
  have hl13 := cnum_sl e13 hl12
  have E13 := Lib.hid e13
  clear e13
  go_wp2_with fail
  clear c9 f9 c10 f10 c11 f11 gsl
  have T13 : RC w gr gz gs #[.int .i64 n0, .int .i64 n1, .string ⟨lo.toArray⟩, .string ⟨hi.toArray⟩, .int .i64 n2, .slice none 0 0, .int .i64 ma, .int .i64 mt, .int .i64 mn, .int .i64 ta, .int .i64 tt, .int .i64 tn, .slice none 0 0, .int .i64 n3, .int .i64 n4, .int .i64 n5, .int .i64 n6] r12 (((w12.setCell ⟨gs, 9, none⟩ (.int .i64 ta)).setCell ⟨gs, 10, none⟩ (.int .i64 tt)).setCell ⟨gs, 11, none⟩ (.int .i64 tn)) := (((S12).sets 9 (.int .i64 ta)).sets 10 (.int .i64 tt)).sets 11 (.int .i64 tn)
  clear S12
  refine (cnum_c gr r12 c0 r13 _ E13.out T13.br (Nat.le_trans hl12 (by omega))).mono ?_
  rintro e w13 ⟨rfl, hB, hk⟩
  have S13 : RC w gr gz gs #[.int .i64 n0, .int .i64 n1, .string ⟨lo.toArray⟩, .string ⟨hi.toArray⟩, .int .i64 n2, .slice none 0 0, .int .i64 ma, .int .i64 mt, .int .i64 mn, .int .i64 ta, .int .i64 tt, .int .i64 tn, .slice none 0 0, .int .i64 n3, .int .i64 n4, .int .i64 n5, .int .i64 n6] r13 w13 := T13.call hB hk
  clear hB hk T13
  clear hl12
  go_wp2_with fail
  go_loopw [5] (fun i wr => ∃ (k : Nat) (v : Value) (es : List En) (rr : RS), i = .int .i64 k ∧ (k : Int) ≤ c0.toNat ∧ RC w gr gz gs #[.int .i64 n0, .int .i64 n1, .string ⟨lo.toArray⟩, .string ⟨hi.toArray⟩, .int .i64 n2, v, .int .i64 ma, .int .i64 mt, .int .i64 mn, .int .i64 ta, .int .i64 tt, .int .i64 tn, .slice none 0 0, .int .i64 n3, .int .i64 n4, .int .i64 n5, .int .i64 n6] rr wr ∧ wr.ownsRow gz 100 2 v k (esF es) ∧ OwnCh gz es wr ∧ es.length = k ∧ cdN cEn.rd k r13 = (es.map enL, rr) ∧ Far k rr N) (fun i _ => c0.toNat - (intOf i).toNat)
  case atStart => exact ⟨0, _, [], r13, rfl, by omega, S13, World.ownsRow_nil _ _ _ _, OwnCh.nil, rfl, rfl, Far.zero hl13⟩
  case round =>
    clear S13
    obtain ⟨k, v, es, rr, rfl, hk, hS, hown, hch, hlen, hrd, hfar⟩ := hrel
    have i0 : (0 : Int) ≤ (k : Int) := by omega
    have HRD := Lib.hid hrd
    clear hrd
    obtain ⟨A0, cap0, rfl⟩ := own_slice hown
    obtain ⟨bd, rs⟩ := rr
    have HFAR := Lib.hid hfar
    have hk26 := hfar.le
    clear hfar
    go_upto_region 14 with (fail)
    go_cut [58] from 49 to 57 (fun c wx => c = .bool (decide ((k : Int) < c0) && !bd) ∧ wr = wx)
    case first =>
      have z1 : wr.cell? ⟨gr, 1, none⟩ = some (.bool bd) := hS.br.cell 1
      have zl := hS.br.lt
      by_cases hlt : (k : Int) < c0
      case neg =>
        go_wp2_with fail
        go_meet
        exact ⟨by rw [show decide ((k : Int) < c0) = false from decide_eq_false (by omega)]; rfl, rfl⟩
      case pos =>
      cases bd
      case false =>
        go_wp2_with fail
        go_meet
        exact ⟨by rw [show decide ((k : Int) < c0) = true from decide_eq_true (by omega)]; rfl, rfl⟩
      case true =>
        go_wp2_with fail
        go_meet
        exact ⟨by simp, rfl⟩
    case rest =>
    obtain ⟨rfl, rfl⟩ := hcut
    obtain ⟨cb, hcb⟩ : ∃ q, (decide ((k : Int) < c0) && !bd) = q := ⟨_, rfl⟩
    rw [hcb]
    have HCB := Lib.hid hcb
    clear hcb
    cases cb
    case true =>
      have hcc := HCB.out
      simp only [Bool.and_eq_true, decide_eq_true_eq, Bool.not_eq_true'] at hcc
      obtain ⟨hlt, rfl⟩ := hcc
      have hkN := HFAR.out.go rfl
      simp only at hkN
      have hlr := HFAR.out.len
      simp only at hlr
      clear HCB
      obtain ⟨ii, hii, hiz, his, hib⟩ := info_parts infoVs
      obtain ⟨ie, hie, hez, hes, heb⟩ := info_parts infoEn
      obtain ⟨ky, ra, ea⟩ : ∃ x r, cText.rd ⟨false, rs⟩ = (x, r) := ⟨_, _, rfl⟩
      have hla := ctext_sl ea hlr
      obtain ⟨c2, rb, eb⟩ : ∃ x r, cNum.rd ra = (x, r) := ⟨_, _, rfl⟩
      have hlb := cnum_sl eb hla
      have EA := Lib.hid ea
      have EB := Lib.hid eb
      clear ea eb
      go_wp2_with fail
      refine (ctext_c gr ⟨false, rs⟩ ky ra _ EA.out hS.br (Nat.le_trans hlr (by omega))).mono ?_
      rintro e wt ⟨rfl, hB, hkk⟩
      have St := hS.call hB hkk
      have Ot := own_kept hown hkk.kept hS.br (by decide)
      have Ct := OwnCh.kept hch hkk.kept hS.br (by decide)
      clear hB hkk hS hown hch
      have hgt := St.glt
      have hbt : gz ≤ wt.heap.size := by have := St.kr.size; omega
      go_wp2_with fail
      have KB : Kr gr wt (wt.alloc (.cells #[.string ⟨ky.toArray⟩, .slice none 0 0] 100)) := Kr.refl.alloc hgt _
      have BE : Blk (wt.alloc (.cells #[.string ⟨ky.toArray⟩, .slice none 0 0] 100)) wt.heap.size 100 #[.string ⟨ky.toArray⟩, .slice none 0 0] := Blk.new wt _ _
      have BR := St.br.alloc (.cells #[.string ⟨ky.toArray⟩, .slice none 0 0] 100)
      refine (cnum_c gr ra c2 rb _ EB.out BR (Nat.le_trans hla (by omega))).mono ?_
      rintro e w2 ⟨rfl, BR2, hkk⟩
      have K2 := KB.trans hkk
      have hne : wt.heap.size ≠ gr := by omega
      have BE2 := hkk.kept _ _ _ hne BE
      clear KB BE BR hkk
      go_wp2_with fail
      go_loopw [8] (fun i wr => ∃ (j : Nat) (v : Value) (vs : List Vs) (rx : RS), i = .int .i64 j ∧ (j : Int) ≤ c2.toNat ∧ Kr gr wt wr ∧ Blk wr gr 74 (rsA rx) ∧ Blk wr wt.heap.size 100 #[.string ⟨ky.toArray⟩, v] ∧ wr.ownsRow wt.heap.size 105 5 v j (vsF vs) ∧ vs.length = j ∧ cdN cVs.rd j rb = (vs, rx) ∧ Far j rx N) (fun i _ => c2.toNat - (intOf i).toNat)
      case atStart => exact ⟨0, _, [], rb, rfl, by omega, K2, BR2, BE2, World.ownsRow_nil _ _ _ _, rfl, rfl, Far.zero hlb⟩
      case round =>
        clear K2 BR2 BE2
        obtain ⟨j, v2, vs, rx, rfl, hj, KW2, BR, BE, hown2, hlen2, hrd2, hfar2⟩ := hrel
        have j0 : (0 : Int) ≤ (j : Int) := by omega
        have HRV := Lib.hid hrd2
        clear hrd2
        obtain ⟨A1, cap1, rfl⟩ := own_slice hown2
        obtain ⟨bd, rs2⟩ := rx
        have HF2 := Lib.hid hfar2
        have hj26 := hfar2.le
        clear hfar2
        go_upto_region 19 with (fail)
        go_cut [75] from 66 to 74 (fun c wx => c = .bool (decide ((j : Int) < c2) && !bd) ∧ wr = wx)
        case first =>
          have z1 : wr.cell? ⟨gr, 1, none⟩ = some (.bool bd) := BR.cell 1
          have zl := BR.lt
          by_cases hlt : (j : Int) < c2
          case neg =>
            go_wp2_with fail
            go_meet
            exact ⟨by rw [show decide ((j : Int) < c2) = false from decide_eq_false (by omega)]; rfl, rfl⟩
          case pos =>
          cases bd
          case false =>
            go_wp2_with fail
            go_meet
            exact ⟨by rw [show decide ((j : Int) < c2) = true from decide_eq_true (by omega)]; rfl, rfl⟩
          case true =>
            go_wp2_with fail
            go_meet
            exact ⟨by simp, rfl⟩
        case rest =>
        obtain ⟨rfl, rfl⟩ := hcut
        obtain ⟨cb, hcb⟩ : ∃ q, (decide ((j : Int) < c2) && !bd) = q := ⟨_, rfl⟩
        rw [hcb]
        have HCB := Lib.hid hcb
        clear hcb
        cases cb
        case true =>
          have hcc := HCB.out
          simp only [Bool.and_eq_true, decide_eq_true_eq, Bool.not_eq_true'] at hcc
          obtain ⟨hjt, rfl⟩ := hcc
          have hjN := HF2.out.go rfl
          simp only at hjN
          have hlx := HF2.out.len
          simp only at hlx
          clear HCB
          obtain ⟨sa, st, sn, rc, ec⟩ : ∃ a t n r, cStamp.rd ⟨false, rs2⟩ = ((a, t, n), r) := ⟨_, _, _, _, rfl⟩
          have hlc := cstamp_sl ec hlx
          obtain ⟨go, rd, ed⟩ : ∃ x r, cFlag.rd rc = (x, r) := ⟨_, _, rfl⟩
          have hld := cflag_sl ed hlc
          obtain ⟨vl, re, ee⟩ : ∃ x r, cText.rd rd = (x, r) := ⟨_, _, rfl⟩
          have hx := cVs_eq ec ed ee
          have HX := Lib.hid hx
          have EC := Lib.hid ec
          have ED := Lib.hid ed
          have EE := Lib.hid ee
          clear ec ed ee hx
          have hgw := BR.lt
          have hwt := KW2.size
          go_wp2_with fail
          refine (cstamp_c gr ⟨false, rs2⟩ sa st sn rc _ EC.out BR (Nat.le_trans hlx (by omega))).mono ?_
          rintro e wa ⟨rfl, Ra, Ka⟩
          go_wp2_with fail
          have hwa := Ka.size
          have Kb := Ka.alloc hgw (.cells #[.int .i64 sa, .int .i64 st, .int .i64 sn, .bool false, .string ⟨#[]⟩] 105)
          have Rb := Ra.alloc (.cells #[.int .i64 sa, .int .i64 st, .int .i64 sn, .bool false, .string ⟨#[]⟩] 105)
          have Gb : Blk (wa.alloc (.cells #[.int .i64 sa, .int .i64 st, .int .i64 sn, .bool false, .string ⟨#[]⟩] 105)) wa.heap.size 105 #[.int .i64 sa, .int .i64 st, .int .i64 sn, .bool false, .string ⟨#[]⟩] := Blk.new wa _ _
          have hnv : wa.heap.size ≠ gr := by omega
          generalize wa.alloc (.cells #[.int .i64 sa, .int .i64 st, .int .i64 sn, .bool false, .string ⟨#[]⟩] 105) = wb at *
          generalize wa.heap.size = gv at *
          clear Ka Ra
          refine (cflag_c gr rc go rd _ ED.out Rb (Nat.le_trans hlc (by omega))).mono ?_
          rintro e wc ⟨rfl, Rc, hkc⟩
          have Kc := Kb.trans hkc
          have Gc := hkc.kept _ _ _ hnv Gb
          clear hkc Kb Rb Gb
          have v3 : wc.cell? ⟨gv, 3, none⟩ = some (.bool false) := Gc.cell 3
          have y3 := Gc.frozen 3
          have gvl := Gc.lt
          go_wp2_with fail
          clear v3 y3 gvl
          have Kd := Kc.far hgw (by omega : wr.heap.size ≤ gv) 3 (.bool go)
          have Rd := Rc.far (p := ⟨gv, 3, none⟩) (fun h => hnv h.symm) (.bool go)
          have Gd := Gc.set 3 (.bool go)
          clear Kc Rc Gc
          generalize wc.setCell ⟨gv, 3, none⟩ (.bool go) = wd at *
          refine (ctext_c gr rd vl re _ EE.out Rd (Nat.le_trans hld (by omega))).mono ?_
          rintro e we ⟨rfl, Re, hke⟩
          have Ke := Kd.trans hke
          have Ge := hke.kept _ _ _ hnv Gd
          clear hke Kd Rd Gd
          have v4 : we.cell? ⟨gv, 4, none⟩ = some (.string ⟨#[]⟩) := Ge.cell 4
          have y4 := Ge.frozen 4
          have gvl := Ge.lt
          go_upto_region 24 with (fail)
          clear v4 y4 gvl
          have Kf := Ke.far hgw (by omega : wr.heap.size ≤ gv) 4 (.string ⟨vl.toArray⟩)
          have Rf := Re.far (p := ⟨gv, 4, none⟩) (fun h => hnv h.symm) (.string ⟨vl.toArray⟩)
          have Gf := Ge.set 4 (.string ⟨vl.toArray⟩)
          clear Ke Re Ge
          generalize we.setCell ⟨gv, 4, none⟩ (.string ⟨vl.toArray⟩) = wf at *
          have Of := own_kept hown2 Kf.kept BR (by decide)
          have Ef := Kf.kept _ _ _ hne BE
          have c1 : wf.cell? ⟨wt.heap.size, 1, none⟩ = some (.slice A1 j cap1) := Ef.cell 1
          have f1 := Ef.frozen 1
          have g1 := Ef.lt
          have gvl := Gf.lt
          have v0 : wf.cell? ⟨gv, 0, none⟩ = some (.int .i64 sa) := Gf.cell 0
          have v1 : wf.cell? ⟨gv, 1, none⟩ = some (.int .i64 st) := Gf.cell 1
          have v2 : wf.cell? ⟨gv, 2, none⟩ = some (.int .i64 sn) := Gf.cell 2
          have v3 : wf.cell? ⟨gv, 3, none⟩ = some (.bool go) := Gf.cell 3
          have v4 : wf.cell? ⟨gv, 4, none⟩ = some (.string ⟨vl.toArray⟩) := Gf.cell 4
          have hwf := Kf.size
          go_wp2_with (at_builtin; refine wpl_pushR (by rfl) _ _ _ (by rfl) wt.heap.size 105 ii _ 5 48 Tryz.underlying98 hii hiz his hib (by rfl) (by decide) wf _ j (vsF vs) (by rfl) Of [.int .i64 sa, .int .i64 st, .int .i64 sn, .bool go, .string ⟨vl.toArray⟩] rfl ?hu 1 (by rfl) ?h63 ?hby ?hba ?_; (focus (simp [Value.oneCell'])); (focus omega); (focus omega); (focus omega); intro gN capN w3 hownN hbN hkN2; have K3 := (KW2.trans Kf).grow hgt hbN; have R3 := Rf.below hbN hgt; have E3 := hkN2 _ _ _ (by decide) Ef; have d1 : w3.cell? ⟨wt.heap.size, 1, none⟩ = some (.slice A1 j cap1) := E3.cell 1; have fd1 := E3.frozen 1; have gd1 := E3.lt)
          go_roundw
          case rel =>
            refine ⟨j + 1, _, vs ++ [⟨sa, st, sn, go, vl⟩], re, by go_num, by omega, K3.far hgt (Nat.le_refl _) 1 _, R3.far (p := ⟨wt.heap.size, 1, none⟩) (fun h => hne h.symm) _, E3.set 1 _, ?_, by simp [hlen2], cdN_succ _ _ _ _ _ _ _ HRV.out rfl HX.out, HF2.out.succ cVs_pos HX.out⟩
            rw [vsF_snoc]
            exact own_setT (p := ⟨wt.heap.size, 1, none⟩) hownN _ E3 (by decide)
          case measure => simp [intOf]; omega
        case false =>
          have hcc := HCB.out
          have hend : j = c2.toNat ∨ bd = true := by
            cases bd with
            | true => exact .inr rfl
            | false =>
              have : ¬ (j : Int) < c2 := by simpa using hcc
              exact .inl (by omega)
          have HVE := Lib.hid (cdN_end cVs.rd j c2.toNat rb ⟨bd, rs2⟩ vs HRV.out (by omega) hend)
          clear hcc HCB hend
          have S5 := St.call BR KW2
          have O5 := own_kept Ot KW2.kept St.br (by decide)
          have C5 := OwnCh.kept Ct KW2.kept St.br (by decide)
          have HEn := Lib.hid (cEn_eq EA.out EB.out HVE.out)
          have N5 := own_base (base' := gz) hown2 hbt
          have hlx := HF2.out.len
          clear St Ot Ct KW2 hown2
          have y0 : wr.cell? ⟨wt.heap.size, 0, none⟩ = some (.string ⟨ky.toArray⟩) := BE.cell 0
          have y1 : wr.cell? ⟨wt.heap.size, 1, none⟩ = some (.slice A1 j cap1) := BE.cell 1
          have gl := BE.lt
          have c5 : wr.cell? ⟨gs, 5, none⟩ = some (.slice A0 k cap0) := S5.bs.cell 5
          have f5 := S5.bs.frozen 5
          have gsl := S5.bs.lt
          have hgzw : gz ≤ wr.heap.size := by have := S5.kr.size; omega
          go_wp2_with (at_builtin; refine wpl_pushR (by rfl) _ _ _ (by rfl) gz 100 ie _ 2 40 Tryz.underlying25 hie hez hes heb (by rfl) (by decide) wr _ k (esF es) (by rfl) O5 [.string ⟨ky.toArray⟩, .slice A1 j cap1] rfl ?hu3 1 (by rfl) ?h633 ?hby3 ?hba3 ?_; (focus (simp [Value.oneCell'])); (focus omega); (focus omega); (focus omega); intro gN capN w3 hownN hbN hkN2; have S6 := S5.grow (by rw [hg0]; exact hbN) hkN2 (by decide) (by decide); have C6 := OwnCh.keptT C5 hkN2 (by decide); have N6 := own_keptT N5 hkN2 (by decide); have d5 : w3.cell? ⟨gs, 5, none⟩ = some (.slice A0 k cap0) := S6.bs.cell 5; have g5 := S6.bs.frozen 5; have gl5 := S6.bs.lt)
          go_roundw
          case rel =>
            refine ⟨k + 1, _, es ++ [⟨ky, A1, j, cap1, vs⟩], ⟨bd, rs2⟩, by go_num, by omega, S6.sets 5 _, ?_, OwnCh.snoc (OwnCh.setT (p := ⟨gs, 5, none⟩) C6 _ S6.bs (by decide)) (own_setT (p := ⟨gs, 5, none⟩) N6 _ S6.bs (by decide)) hlen2 (by show j ≤ 4194304; omega), by simp [hlen], ?_, HFAR.out.succ cEn_pos HEn.out⟩
            · rw [esF_snoc]; exact own_setT (p := ⟨gs, 5, none⟩) hownN _ S6.bs (by decide)
            · rw [List.map_append]; exact cdN_succ _ _ _ _ _ _ _ HRD.out rfl HEn.out
          case measure => simp [intOf]; omega
    case false =>
      have hcc := HCB.out
      have hend : k = c0.toNat ∨ bd = true := by
        cases bd with
        | true => exact .inr rfl
        | false =>
          have : ¬ (k : Int) < c0 := by simpa using hcc
          exact .inl (by omega)
      have HRE := Lib.hid (cdN_end cEn.rd k c0.toNat r13 ⟨bd, rs⟩ _ HRD.out (by omega) hend)
      have hlE := HFAR.out.len
      simp only at hlE
      clear hcc HCB hend HRD HFAR
      obtain ⟨rE, hrE⟩ : ∃ r, (⟨bd, rs⟩ : RS) = r := ⟨_, rfl⟩
      have hlE : rE.s.length ≤ N := by rw [← hrE]; exact hlE
      rw [hrE] at hS HRE
      clear hrE
      obtain ⟨kE, hh⟩ : ∃ x, x = k := ⟨_, rfl⟩
      subst hh
      obtain ⟨AE, hh⟩ : ∃ x, x = A0 := ⟨_, rfl⟩
      subst hh
      obtain ⟨cE, hh⟩ : ∃ x, x = cap0 := ⟨_, rfl⟩
      subst hh
      have SE := hS
      have OE := hown
      have CE := hch
      have hlenE := hlen
      clear hS hown hch hlen i0 hk
      obtain ⟨c1, r14, e14⟩ : ∃ c1 r, cNum.rd rE = (c1, r) := ⟨_, _, rfl⟩
      have hl14 := cnum_sl e14 hlE
      have E14 := Lib.hid e14
      clear e14
      go_wp2_with fail
      refine (cnum_c gr rE c1 r14 _ E14.out SE.br (Nat.le_trans hlE (by omega))).mono ?_
      rintro e w14 ⟨rfl, hB, hk⟩
      have OEs := own_kept OE hk.kept SE.br (by decide)
      clear OE
      have OE := OEs
      clear OEs
      have CEs := OwnCh.kept CE hk.kept SE.br (by decide)
      clear CE
      have CE := CEs
      clear CEs
      have S14 : RC w gr gz gs #[.int .i64 n0, .int .i64 n1, .string ⟨lo.toArray⟩, .string ⟨hi.toArray⟩, .int .i64 n2, .slice AE kE cE, .int .i64 ma, .int .i64 mt, .int .i64 mn, .int .i64 ta, .int .i64 tt, .int .i64 tn, .slice none 0 0, .int .i64 n3, .int .i64 n4, .int .i64 n5, .int .i64 n6] r14 w14 := SE.call hB hk
      clear hB hk SE
      clear hlE
      go_wp2_with fail
      go_loopw [10] (fun i wr => ∃ (k : Nat) (v : Value) (ds : List Dn) (rr : RS), i = .int .i64 k ∧ (k : Int) ≤ c1.toNat ∧ RC w gr gz gs #[.int .i64 n0, .int .i64 n1, .string ⟨lo.toArray⟩, .string ⟨hi.toArray⟩, .int .i64 n2, .slice AE kE cE, .int .i64 ma, .int .i64 mt, .int .i64 mn, .int .i64 ta, .int .i64 tt, .int .i64 tn, v, .int .i64 n3, .int .i64 n4, .int .i64 n5, .int .i64 n6] rr wr ∧ wr.ownsRow gz 100 2 (.slice AE kE cE) kE (esF es) ∧ OwnCh gz es wr ∧ wr.ownsRow gz 108 11 v k (dsF ds) ∧ ds.length = k ∧ (∀ d ∈ ds, d.ans.itn = 0 ∧ d.its = [] ∧ d.ans.nx = [] ∧ d.ans.mo = false) ∧ cdN cDn.rd k r14 = (ds.map dnF, rr) ∧ Far k rr N) (fun i _ => c1.toNat - (intOf i).toNat)
      case atStart => exact ⟨0, _, [], r14, rfl, by omega, S14, OE, CE, World.ownsRow_nil _ _ _ _, rfl, (fun d hd => by cases hd), rfl, Far.zero hl14⟩
      case round =>
        clear S14 OE CE
        obtain ⟨k, v, ds, rr, rfl, hk, hS, OE, CE, hown, hlen, hpl, hrd, hfar⟩ := hrel
        have i0 : (0 : Int) ≤ (k : Int) := by omega
        have HRD := Lib.hid hrd
        have HPL := Lib.hid hpl
        clear hrd hpl
        obtain ⟨A0, cap0, rfl⟩ := own_slice hown
        obtain ⟨bd, rs⟩ := rr
        have HFAR := Lib.hid hfar
        have hk26 := hfar.le
        clear hfar
        go_upto_region 28 with (fail)
        go_cut [110] from 101 to 109 (fun c wx => c = .bool (decide ((k : Int) < c1) && !bd) ∧ wr = wx)
        case first =>
          have z1 : wr.cell? ⟨gr, 1, none⟩ = some (.bool bd) := hS.br.cell 1
          have zl := hS.br.lt
          by_cases hlt : (k : Int) < c1
          case neg =>
            go_wp2_with fail
            go_meet
            exact ⟨by rw [show decide ((k : Int) < c1) = false from decide_eq_false (by omega)]; rfl, rfl⟩
          case pos =>
          cases bd
          case false =>
            go_wp2_with fail
            go_meet
            exact ⟨by rw [show decide ((k : Int) < c1) = true from decide_eq_true (by omega)]; rfl, rfl⟩
          case true =>
            go_wp2_with fail
            go_meet
            exact ⟨by simp, rfl⟩
        case rest =>
        obtain ⟨rfl, rfl⟩ := hcut
        obtain ⟨cb, hcb⟩ : ∃ q, (decide ((k : Int) < c1) && !bd) = q := ⟨_, rfl⟩
        rw [hcb]
        have HCB := Lib.hid hcb
        clear hcb
        cases cb
        case true =>
          have hcc := HCB.out
          simp only [Bool.and_eq_true, decide_eq_true_eq, Bool.not_eq_true'] at hcc
          obtain ⟨hlt, rfl⟩ := hcc
          have hkN := HFAR.out.go rfl
          simp only at hkN
          have hlr := HFAR.out.len
          simp only at hlr
          clear HCB
          obtain ⟨ii, hii, hiz, his, hib⟩ := info_parts infoDn
          obtain ⟨q0, ra, era⟩ : ∃ x r, cNum.rd ⟨false, rs⟩ = (x, r) := ⟨_, _, rfl⟩
          have hlra := cnum_sl era hlr
          obtain ⟨q1, rb, erb⟩ : ∃ x r, cNum.rd ra = (x, r) := ⟨_, _, rfl⟩
          have hlrb := cnum_sl erb hlra
          obtain ⟨q2, rc, erc⟩ : ∃ x r, cNum.rd rb = (x, r) := ⟨_, _, rfl⟩
          have hlrc := cnum_sl erc hlrb
          obtain ⟨sa, st, sn, rd, erd⟩ : ∃ a t n r, cStamp.rd rc = ((a, t, n), r) := ⟨_, _, _, _, rfl⟩
          have hlrd := cstamp_sl erd hlrc
          obtain ⟨fo, re, ere⟩ : ∃ x r, cFlag.rd rd = (x, r) := ⟨_, _, rfl⟩
          have hlre := cflag_sl ere hlrd
          obtain ⟨vl, rf, erf⟩ : ∃ x r, cText.rd re = (x, r) := ⟨_, _, rfl⟩
          have hlrf := ctext_sl erf hlre
          have HX := Lib.hid (cDn_eq era erb erc erd ere erf)
          have Era := Lib.hid era
          have Erb := Lib.hid erb
          have Erc := Lib.hid erc
          have Erd := Lib.hid erd
          have Ere := Lib.hid ere
          have Erf := Lib.hid erf
          clear era erb erc erd ere erf
          have hgw := hS.glt
          have hws : gz ≤ wr.heap.size := by have := hS.kr.size; omega
          go_wp2_with fail
          refine (cnum_c gr ⟨false, rs⟩ q0 ra _ Era.out hS.br (Nat.le_trans hlr (by omega))).mono ?_
          rintro e wa ⟨rfl, R0, K0⟩
          have hwa := K0.size
          have hga := R0.lt
          have hnd : wa.heap.size ≠ gr := by omega
          have G : Blk (wa.alloc (.cells zdA 108)) wa.heap.size 108 zdA := Blk.new wa _ _
          have D : ∀ w', w' = (wa.alloc (.cells zdA 108)).setRow wa.heap.size #[.int .i64 q0, .int .i64 0, .int .i64 0, .int .i64 0, .int .i64 0, .int .i64 0, .bool false, .string ⟨#[]⟩, .slice none 0 0, .string ⟨#[]⟩, .bool false] → Kr gr wr w' ∧ Blk w' gr 74 (rsA ra) ∧ Blk w' wa.heap.size 108 #[.int .i64 q0, .int .i64 0, .int .i64 0, .int .i64 0, .int .i64 0, .int .i64 0, .bool false, .string ⟨#[]⟩, .slice none 0 0, .string ⟨#[]⟩, .bool false] := by
            rintro _ rfl
            exact ⟨(K0.alloc hgw _).row hgw hwa _, (R0.alloc _).row_far (fun h => hnd h.symm) _, G.row _⟩
          go_wp2_with (with_reducible refine wpl_st G (by with_unfolding_all rfl) _ _ _ (by with_unfolding_all rfl) #[.int .i64 q0, .int .i64 0, .int .i64 0, .int .i64 0, .int .i64 0, .int .i64 0, .bool false, .string ⟨#[]⟩, .slice none 0 0, .string ⟨#[]⟩, .bool false] (by with_unfolding_all rfl) (by with_unfolding_all rfl) (by with_unfolding_all rfl) (by with_unfolding_all rfl) (by with_unfolding_all rfl) ?_; refine Classical.byContradiction fun hno => ?_)
          refine hno ?_
          clear hno
          intro w3 e3
          obtain ⟨K1, R1, G1⟩ := D w3 e3
          clear e3 D G K0 R0 hga
          have hwg : wr.heap.size ≤ wa.heap.size := hwa
          generalize wa.heap.size = gd at *
          go_wp2_with fail
          refine (cnum_c gr ra q1 rb _ Erb.out R1 (Nat.le_trans hlra (by omega))).mono ?_
          rintro e u1 ⟨rfl, Rx, hkx⟩
          have Kx := K1.trans hkx
          have Gx := hkx.kept _ _ _ hnd G1
          clear hkx K1 R1 G1
          have v1 : u1.cell? ⟨gd, 1, none⟩ = some (.int .i64 0) := Gx.cell 1
          have y1 := Gx.frozen 1
          have gdl := Gx.lt
          go_upto_region 32 with (fail)
          have K2 := (Kx).far hgw hwg 1 (.int .i64 q1)
          have R2 := (Rx).far (p := ⟨gd, 1, none⟩) (fun h => hnd h.symm) (.int .i64 q1)
          have G2 : Blk (u1.setCell ⟨gd, 1, none⟩ (.int .i64 q1)) gd 108 #[.int .i64 q0, .int .i64 q1, .int .i64 0, .int .i64 0, .int .i64 0, .int .i64 0, .bool false, .string ⟨#[]⟩, .slice none 0 0, .string ⟨#[]⟩, .bool false] := (Gx).set 1 (.int .i64 q1)
          clear Kx Rx Gx gdl v1 y1
          generalize (u1.setCell ⟨gd, 1, none⟩ (.int .i64 q1)) = W2 at *
          go_wp2_with fail
          refine (cnum_c gr rb q2 rc _ Erc.out R2 (Nat.le_trans hlrb (by omega))).mono ?_
          rintro e u2 ⟨rfl, Rx, hkx⟩
          have Kx := K2.trans hkx
          have Gx := hkx.kept _ _ _ hnd G2
          clear hkx K2 R2 G2
          have v2 : u2.cell? ⟨gd, 2, none⟩ = some (.int .i64 0) := Gx.cell 2
          have y2 := Gx.frozen 2
          have gdl := Gx.lt
          go_upto_region 33 with (fail)
          have K3 := (Kx).far hgw hwg 2 (.int .i64 q2)
          have R3 := (Rx).far (p := ⟨gd, 2, none⟩) (fun h => hnd h.symm) (.int .i64 q2)
          have G3 : Blk (u2.setCell ⟨gd, 2, none⟩ (.int .i64 q2)) gd 108 #[.int .i64 q0, .int .i64 q1, .int .i64 q2, .int .i64 0, .int .i64 0, .int .i64 0, .bool false, .string ⟨#[]⟩, .slice none 0 0, .string ⟨#[]⟩, .bool false] := (Gx).set 2 (.int .i64 q2)
          clear Kx Rx Gx gdl v2 y2
          generalize (u2.setCell ⟨gd, 2, none⟩ (.int .i64 q2)) = W3 at *
          go_wp2_with fail
          refine (cstamp_c gr rc sa st sn rd _ Erd.out R3 (Nat.le_trans hlrc (by omega))).mono ?_
          rintro e u3 ⟨rfl, Rx, hkx⟩
          have Kx := K3.trans hkx
          have Gx := hkx.kept _ _ _ hnd G3
          clear hkx K3 R3 G3
          have v3 : u3.cell? ⟨gd, 3, none⟩ = some (.int .i64 0) := Gx.cell 3
          have y3 := Gx.frozen 3
          have v4 : u3.cell? ⟨gd, 4, none⟩ = some (.int .i64 0) := Gx.cell 4
          have y4 := Gx.frozen 4
          have v5 : u3.cell? ⟨gd, 5, none⟩ = some (.int .i64 0) := Gx.cell 5
          have y5 := Gx.frozen 5
          have gdl := Gx.lt
          go_upto_region 34 with (fail)
          have K4 := (((Kx).far hgw hwg 3 (.int .i64 sa)).far hgw hwg 4 (.int .i64 st)).far hgw hwg 5 (.int .i64 sn)
          have R4 := (((Rx).far (p := ⟨gd, 3, none⟩) (fun h => hnd h.symm) (.int .i64 sa)).far (p := ⟨gd, 4, none⟩) (fun h => hnd h.symm) (.int .i64 st)).far (p := ⟨gd, 5, none⟩) (fun h => hnd h.symm) (.int .i64 sn)
          have G4 : Blk (((u3.setCell ⟨gd, 3, none⟩ (.int .i64 sa)).setCell ⟨gd, 4, none⟩ (.int .i64 st)).setCell ⟨gd, 5, none⟩ (.int .i64 sn)) gd 108 #[.int .i64 q0, .int .i64 q1, .int .i64 q2, .int .i64 sa, .int .i64 st, .int .i64 sn, .bool false, .string ⟨#[]⟩, .slice none 0 0, .string ⟨#[]⟩, .bool false] := (((Gx).set 3 (.int .i64 sa)).set 4 (.int .i64 st)).set 5 (.int .i64 sn)
          clear Kx Rx Gx gdl v3 y3 v4 y4 v5 y5
          generalize (((u3.setCell ⟨gd, 3, none⟩ (.int .i64 sa)).setCell ⟨gd, 4, none⟩ (.int .i64 st)).setCell ⟨gd, 5, none⟩ (.int .i64 sn)) = W4 at *
          go_wp2_with fail
          refine (cflag_c gr rd fo re _ Ere.out R4 (Nat.le_trans hlrd (by omega))).mono ?_
          rintro e u4 ⟨rfl, Rx, hkx⟩
          have Kx := K4.trans hkx
          have Gx := hkx.kept _ _ _ hnd G4
          clear hkx K4 R4 G4
          have v6 : u4.cell? ⟨gd, 6, none⟩ = some (.bool false) := Gx.cell 6
          have y6 := Gx.frozen 6
          have gdl := Gx.lt
          go_upto_region 35 with (fail)
          have K5 := (Kx).far hgw hwg 6 (.bool fo)
          have R5 := (Rx).far (p := ⟨gd, 6, none⟩) (fun h => hnd h.symm) (.bool fo)
          have G5 : Blk (u4.setCell ⟨gd, 6, none⟩ (.bool fo)) gd 108 #[.int .i64 q0, .int .i64 q1, .int .i64 q2, .int .i64 sa, .int .i64 st, .int .i64 sn, .bool fo, .string ⟨#[]⟩, .slice none 0 0, .string ⟨#[]⟩, .bool false] := (Gx).set 6 (.bool fo)
          clear Kx Rx Gx gdl v6 y6
          generalize (u4.setCell ⟨gd, 6, none⟩ (.bool fo)) = W5 at *
          go_wp2_with fail
          refine (ctext_c gr re vl rf _ Erf.out R5 (Nat.le_trans hlre (by omega))).mono ?_
          rintro e u5 ⟨rfl, Rx, hkx⟩
          have Kx := K5.trans hkx
          have Gx := hkx.kept _ _ _ hnd G5
          clear hkx K5 R5 G5
          have v7 : u5.cell? ⟨gd, 7, none⟩ = some (.string ⟨#[]⟩) := Gx.cell 7
          have y7 := Gx.frozen 7
          have gdl := Gx.lt
          go_upto_region 36 with (fail)
          have K6 := (Kx).far hgw hwg 7 (.string ⟨vl.toArray⟩)
          have R6 := (Rx).far (p := ⟨gd, 7, none⟩) (fun h => hnd h.symm) (.string ⟨vl.toArray⟩)
          have G6 : Blk (u5.setCell ⟨gd, 7, none⟩ (.string ⟨vl.toArray⟩)) gd 108 #[.int .i64 q0, .int .i64 q1, .int .i64 q2, .int .i64 sa, .int .i64 st, .int .i64 sn, .bool fo, .string ⟨vl.toArray⟩, .slice none 0 0, .string ⟨#[]⟩, .bool false] := (Gx).set 7 (.string ⟨vl.toArray⟩)
          clear Kx Rx Gx gdl v7 y7
          generalize (u5.setCell ⟨gd, 7, none⟩ (.string ⟨vl.toArray⟩)) = W6 at *
          have S9 := hS.call R6 K6
          have OEs := own_kept OE K6.kept hS.br (by decide)
          clear OE
          have OE := OEs
          clear OEs
          have CEs := OwnCh.kept CE K6.kept hS.br (by decide)
          clear CE
          have CE := CEs
          clear CEs
          have howns := own_kept hown K6.kept hS.br (by decide)
          clear hown
          have hown := howns
          clear howns
          clear hS K6 R6
          have c12 : W6.cell? ⟨gs, 12, none⟩ = some (.slice A0 k cap0) := S9.bs.cell 12
          have f12 := S9.bs.frozen 12
          have gsl := S9.bs.lt
          have hgzw : gz ≤ W6.heap.size := by have := S9.kr.size; omega
          go_wp2_with (first | (with_reducible refine wpl_ld G6 (by with_unfolding_all rfl) 108 _ (by with_unfolding_all rfl) (by with_unfolding_all rfl) _ Tryz.underlying108 (by with_unfolding_all rfl) (by with_unfolding_all rfl) ?_) | (at_builtin; refine wpl_pushR (by rfl) _ _ _ (by rfl) gz 108 ii _ 11 120 Tryz.underlying28 hii hiz his hib (by rfl) (by decide) W6 _ k (dsF ds) (by rfl) hown [.int .i64 q0, .int .i64 q1, .int .i64 q2, .int .i64 sa, .int .i64 st, .int .i64 sn, .bool fo, .string ⟨vl.toArray⟩, .slice none 0 0, .string ⟨#[]⟩, .bool false] rfl ?hu2 1 (by rfl) ?h632 ?hby2 ?hba2 ?_; (focus (simp [Value.oneCell'])); (focus omega); (focus omega); (focus omega); intro gN capN wN hownN hbN hkN2; have S6 := S9.grow (by rw [hg0]; exact hbN) hkN2 (by decide) (by decide); have C6 := OwnCh.keptT CE hkN2 (by decide); have N6 := own_keptT OE hkN2 (by decide); have d12 : wN.cell? ⟨gs, 12, none⟩ = some (.slice A0 k cap0) := S6.bs.cell 12; have g12 := S6.bs.frozen 12; have gl12 := S6.bs.lt))
          go_roundw
          case rel =>
            refine ⟨k + 1, _, ds ++ [⟨q0, q1, ⟨q2, sa, st, sn, fo, vl, none, 0, 0, [], false⟩, []⟩], rf, by go_num, by omega, S6.sets 12 _, own_setT (p := ⟨gs, 12, none⟩) N6 _ S6.bs (by decide), OwnCh.setT (p := ⟨gs, 12, none⟩) C6 _ S6.bs (by decide), ?_, by simp [hlen], ?_, ?_, HFAR.out.succ cDn_pos HX.out⟩
            · rw [dsF_snoc]; exact own_setT (p := ⟨gs, 12, none⟩) hownN _ S6.bs (by decide)
            · intro d hd
              rcases List.mem_append.1 hd with hd | hd
              · exact HPL.out d hd
              · simp at hd; subst hd; exact ⟨rfl, rfl, rfl, rfl⟩
            · rw [List.map_append]; exact cdN_succ _ _ _ _ _ _ _ HRD.out rfl HX.out
          case measure => simp [intOf]; omega
        case false =>
          have hcc := HCB.out
          have hend : k = c1.toNat ∨ bd = true := by
            cases bd with
            | true => exact .inr rfl
            | false =>
              have : ¬ (k : Int) < c1 := by simpa using hcc
              exact .inl (by omega)
          have HRDE := Lib.hid (cdN_end cDn.rd k c1.toNat r14 ⟨bd, rs⟩ _ HRD.out (by omega) hend)
          have hlD := HFAR.out.len
          simp only at hlD
          clear hcc HCB hend HRD HFAR
          obtain ⟨rD, hrD⟩ : ∃ r, (⟨bd, rs⟩ : RS) = r := ⟨_, rfl⟩
          have hlD : rD.s.length ≤ N := by rw [← hrD]; exact hlD
          rw [hrD] at hS HRDE
          clear hrD
          obtain ⟨kD, hh⟩ : ∃ x, x = k := ⟨_, rfl⟩
          subst hh
          obtain ⟨AD, hh⟩ : ∃ x, x = A0 := ⟨_, rfl⟩
          subst hh
          obtain ⟨cD, hh⟩ : ∃ x, x = cap0 := ⟨_, rfl⟩
          subst hh
          have h1 : cShH.rd r0 = (shH (⟨n0, n1, lo, hi, n2, AE, kE, cE, ma, mt, mn, ta, tt, tn, AD, kD, cD, n3, n4, n5, n6, es, ds⟩ : Sh), _) := seqC_eq (f := cNum) E1.out (seqC_eq (f := cNum) E3.out (seqC_eq (f := cNum) E4.out (seqC_eq (f := cNum) E5.out (seqC_eq (f := cNum) E6.out (seqC_eq (f := cNum) E7.out (seqC_eq (f := cNum) E8.out (seqC_eq (f := cText) E9.out (seqC_eq (f := cText) E10.out (seqC_eq (f := cStamp) E11.out E12.out)))))))))
          have h2 : cSh.rd r0 = (shF (⟨n0, n1, lo, hi, n2, AE, kE, cE, ma, mt, mn, ta, tt, tn, AD, kD, cD, n3, n4, n5, n6, es, ds⟩ : Sh), rD) := seqC_eq (f := cShH) h1 (seqC_eq (f := cList cEn) (g := cList cDn) (clist_eq E13.out HRE.out) (clist_eq E14.out HRDE.out))
          have HREAD := Lib.hid h2
          clear h1 h2 E1 E3 E4 E5 E6 E7 E8 E9 E10 E11 E12 E13 E14 HRE HRDE
          have hO : OwnSh gz (⟨n0, n1, lo, hi, n2, AE, kE, cE, ma, mt, mn, ta, tt, tn, AD, kD, cD, n3, n4, n5, n6, es, ds⟩ : Sh) wr := ⟨OE, hlenE, by show kE ≤ 4194304; omega, CE, hown, hlen, by show kD ≤ 4194304; omega, HPL.out⟩
          clear OE CE hown hlen hlenE HPL
          have hSs : RC w gr gz gs (shA (⟨n0, n1, lo, hi, n2, AE, kE, cE, ma, mt, mn, ta, tt, tn, AD, kD, cD, n3, n4, n5, n6, es, ds⟩ : Sh)) rD wr := hS
          clear hS
          obtain ⟨mm, hmm⟩ : ∃ mm, (⟨n0, n1, lo, hi, n2, AE, kE, cE, ma, mt, mn, ta, tt, tn, AD, kD, cD, n3, n4, n5, n6, es, ds⟩ : Sh) = mm := ⟨_, rfl⟩
          rw [hmm] at HREAD hO hSs
          clear hmm
          have hom : (shA mm).toList.all (·.oneCell') = true := (by with_unfolding_all rfl)
          have D : ∀ w', w' = wr.setRow gz (shA mm) → Blk w' gz 30 (shA mm) ∧ Blk w' gr 74 (rsA rD) ∧ Kr gr w w' ∧ OwnSh gz mm w' := by
            rintro _ rfl
            exact ⟨hSs.bz.row _, hSs.br.row_far (fun h => hSs.nz h.symm) _, hSs.kr.row hSs.lr hSs.lz _, hO.rowT hSs.bz (by decide) (by decide) (by decide) _⟩
          go_wp2_with (first | (with_reducible refine wpl_ld hSs.bs (by with_unfolding_all rfl) 30 _ (by with_unfolding_all rfl) (by with_unfolding_all rfl) _ Tryz.underlying30 (by with_unfolding_all rfl) (by with_unfolding_all rfl) ?_) | (with_reducible refine wpl_st hSs.bz (by with_unfolding_all rfl) 30 _ _ (by with_unfolding_all rfl) (shA mm) (by with_unfolding_all rfl) (by with_unfolding_all rfl) (by with_unfolding_all rfl) (by with_unfolding_all rfl) hom ?_; refine Classical.byContradiction fun hno => ?_))
          refine hno ?_
          clear hno
          intro wz ez
          obtain ⟨Fz, Rz, Kz, Oz⟩ := D wz ez
          clear ez D
          go_wp2_with fail
          exact bodyPost_ret (res_row Fz rfl rfl _ Tryz.underlying30 rfl rfl) rfl ⟨mm, rD, rfl, HREAD.out, hlD, Rz, Kz, by rw [hg0]; exact Oz⟩
end Go.Proofs.YtkoligiilieboaaGreatDoor
