/- engine.RightShard, engine.upto: whether a shard is right, whether no version is later. -/
import Derived.Test.YtkoligiilieboaaGreatDoorBkY2
import Derived.Test.YtkoligiilieboaaGreatDoorMgC
set_option linter.unusedSimpArgs false
set_option linter.unusedVariables false
namespace Go.Proofs.YtkoligiilieboaaGreatDoor
open Go.RowKit
attribute [local go_sem] ByteArray.mk_append_mk ByteArray.extract_mk
attribute [local go_sem ↓] Go.wp_at_zero Go.wp_at_succ
theorem from_lit (least : Int) (zs : List Int) (n : Nat) (hz : zs.length = n) (h : n ≤ 1000) (W : World) (g : Nat) (hg : g < W.heap.size) :
  Calls Tryz.prog 61 #[.int .i64 least, .slice (some ⟨W.heap.size, 0, none⟩) n n] (W.alloc (.cells (ivF zs).toArray 3)) fun e w' => e = .returned (.bool (!(zs.any (outB least)))) ∧ Below W.heap.size W w' := by
 subst hz
 refine (from_any least (some ⟨W.heap.size, 0, none⟩) zs.length zs (by omega) _ (lit_nums (base := 0) (gw := g) zs _ rfl hg _ Kp.refl)).mono ?_
 rintro e w1 ⟨rfl, d1⟩
 exact ⟨rfl, bt (bal (b0 W) _) d1⟩
theorem any_cg {α : Type} {l : List α} {p q : α → Bool} (h : ∀ x ∈ l, p x = q x) : l.any p = l.any q := by
 rw [Bool.eq_iff_iff, List.any_eq_true, List.any_eq_true]
 exact ⟨fun ⟨x, hx, h1⟩ => ⟨x, hx, (h x hx).symm.trans h1⟩, fun ⟨x, hx, h1⟩ => ⟨x, hx, (h x hx).trans h1⟩⟩
theorem any_one2 (a b : Int) : (!(([a, b] : List Int).any (outB 1))) = (oneB a && oneB b) := by
 simp only [List.any_cons, List.any_nil, Bool.or_false, Bool.not_or, outB_one]
 rfl
theorem any_nought4 (a b c d : Int) : (!(([a, b, c, d] : List Int).any (outB 0))) = (fitsB a && (fitsB b && (fitsB c && fitsB d))) := by
 simp only [List.any_cons, List.any_nil, Bool.or_false, Bool.not_or, outB_zero]
theorem any_nought1 (a : Int) : (!(([a] : List Int).any (outB 0))) = fitsB a := by
 simp only [List.any_cons, List.any_nil, Bool.or_false, outB_zero]
structure ShOk (w : World) (B : Nat) (s : Sh) : Prop where
 inn : ShIn w B s
 lo : s.lo.length ≤ 1099511627776
 hi : s.hi.length ≤ 1099511627776
 keys : ∀ e ∈ s.es, e.key.length ≤ 1099511627776
theorem ShOk.below {w w' : World} {B B' : Nat} {s : Sh} (h : ShOk w B s) (hb : Below B' w w') (hB : B ≤ B') : ShOk w' B s := { h with inn := h.inn.below hb hB }
theorem ShOk.more {w : World} {B B' : Nat} {s : Sh} (h : ShOk w B s) (hB : B ≤ B') : ShOk w B' s := { h with inn := h.inn.more hB }
theorem ShOk.kept {w w' : World} {s : Sh} (h : ShOk w w.heap.size s) (hb : Below w.heap.size w w') : ShOk w' w'.heap.size s := (h.below hb (Nat.le_refl _)).more hb.size
theorem EnIn.kept {w w' : World} {s : En} (h : EnIn w w.heap.size s) (hb : Below w.heap.size w w') : EnIn w' w'.heap.size s := (h.below hb (Nat.le_refl _)).more hb.size
theorem RdR.kept {α : Type} {cs : α → List Value} {n : Nat} {w w' : World} {A : Option Addr} {xs : List α} (h : RdR cs n w w.heap.size A xs) (hb : Below w.heap.size w w') : RdR cs n w' w'.heap.size A xs := RdR.more (h.below hb (Nat.le_refl _)) hb.size
set_option maxHeartbeats 6400000 in
set_option maxRecDepth 100000 in
theorem rshard_any (s : Sh) (w : World) (hI : ShOk w w.heap.size s) (hT : Go.Lib.Utf8Tabs 0 1 w) :
  Calls Tryz.prog 24 #[shV s] w fun e w' => e = .returned (.bool (shB s)) ∧ Below w.heap.size w w' := by
 obtain ⟨r, hr⟩ : ∃ r, shB s = r := ⟨_, rfl⟩
 rw [hr]
 have HV := Lib.hid hr
 clear hr
 have B0 : Blk (w.alloc (.cells (shA s) 30)) w.heap.size 30 (shA s) := Blk.new w _ _
 have hb0 : Below w.heap.size w (w.alloc (.cells (shA s) 30)) := bal (b0 w) _
 go_enter Tryz.func24, Tryz.ntmps24
 go_upto_region 1 with (fail)
 generalize w.alloc (.cells (shA s) 30) = W0 at *
 have I0 := hI.kept hb0
 have T0 := Utf8Tabs_below hT hb0
 clear hI hT
 have c0 : W0.cell? ⟨w.heap.size, 0, none⟩ = some (.int .i64 s.id) := B0.cell 0
 have c1 : W0.cell? ⟨w.heap.size, 1, none⟩ = some (.int .i64 s.epoch) := B0.cell 1
 have gl := B0.lt
 go_wp2_with fail
 refine (from_lit 1 [s.id, s.epoch] 2 rfl (by omega) W0 w.heap.size B0.lt).mono ?_
 rintro ex v1 ⟨rfl, d1⟩
 have B1 := B0.keep d1
 have hb1 := bt hb0 d1
 have I1 := I0.kept d1
 have T1 := Utf8Tabs_below T0 d1
 clear d1 B0 hb0 I0 T0 gl c0 c1
 rw [any_one2]
 have c13 : v1.cell? ⟨w.heap.size, 13, none⟩ = some (.int .i64 s.hold) := B1.cell 13
 have c14 : v1.cell? ⟨w.heap.size, 14, none⟩ = some (.int .i64 s.seen) := B1.cell 14
 have c15 : v1.cell? ⟨w.heap.size, 15, none⟩ = some (.int .i64 s.move) := B1.cell 15
 have c16 : v1.cell? ⟨w.heap.size, 16, none⟩ = some (.int .i64 s.closed) := B1.cell 16
 have c4 : v1.cell? ⟨w.heap.size, 4, none⟩ = some (.int .i64 s.phase) := B1.cell 4
 have gl := B1.lt
 obtain ⟨q1, hq1⟩ : ∃ b, (oneB s.id && oneB s.epoch) = b := ⟨_, rfl⟩
 rw [hq1]
 have Hq1 := Lib.hid hq1
 clear hq1
 cases q1
 case false =>
  have hv : r = false := by rw [← HV.out]; rw [shB, numB, Hq1.out]; rfl
  subst hv
  go_wp2
  go_ret
  exact ⟨by kernel_rfl, hb1⟩
 case true =>
 go_wp2_with fail
 refine (from_lit 0 [s.hold, s.seen, s.move, s.closed] 4 rfl (by omega) v1 w.heap.size B1.lt).mono ?_
 rintro ex v2 ⟨rfl, d2⟩
 have B2 := B1.keep d2
 have hb2 := bt hb1 d2
 have I2 := I1.kept d2
 have T2 := Utf8Tabs_below T1 d2
 clear d2 B1 hb1 I1 T1 gl c13 c14 c15 c16 c4
 rw [any_nought4]
 have c4 : v2.cell? ⟨w.heap.size, 4, none⟩ = some (.int .i64 s.phase) := B2.cell 4
 have gl := B2.lt
 obtain ⟨q2, hq2⟩ : ∃ b, (fitsB s.hold && (fitsB s.seen && (fitsB s.move && fitsB s.closed))) = b := ⟨_, rfl⟩
 rw [hq2]
 have Hq2 := Lib.hid hq2
 clear hq2
 cases q2
 case false =>
  have hv : r = false := by rw [← HV.out]; rw [shB, numB, Hq1.out, Hq2.out]; rfl
  subst hv
  go_wp2
  go_ret
  exact ⟨by kernel_rfl, hb2⟩
 case true =>
 by_cases p0 : 1 ≤ s.phase
 case neg =>
  have hv : r = false := by rw [← HV.out, shB, numB]; simp [p0]
  subst hv
  have p0' : s.phase < 1 := by omega
  go_wp2
  go_ret
  exact ⟨by kernel_rfl, hb2⟩
 case pos =>
 by_cases p1 : s.phase ≤ 3
 case neg =>
  have hv : r = false := by rw [← HV.out, shB, numB]; simp [p1]
  subst hv
  have p1' : 3 < s.phase := by omega
  go_wp2
  go_ret
  exact ⟨by kernel_rfl, hb2⟩
 case pos =>
 have p0' : ¬ s.phase < 1 := by omega
 have p1' : ¬ 3 < s.phase := by omega
 have hnum : numB s = true := by rw [numB, Hq1.out, Hq2.out, decide_eq_true p0, decide_eq_true p1]; rfl
 have HN := Lib.hid hnum
 clear hnum
 clear c4 gl
 have c4 : v2.cell? ⟨w.heap.size, 4, none⟩ = some (.int .i64 s.phase) := B2.cell 4
 have c2 : v2.cell? ⟨w.heap.size, 2, none⟩ = some (.string ⟨s.lo.toArray⟩) := B2.cell 2
 have c3 : v2.cell? ⟨w.heap.size, 3, none⟩ = some (.string ⟨s.hi.toArray⟩) := B2.cell 3
 have gl := B2.lt
 go_wp2_with fail
 refine (spright_any s.lo s.hi (Nat.le_trans I2.lo (by decide)) (Nat.le_trans I2.hi (by decide)) v2 T2).mono ?_
 rintro ex v3 ⟨rfl, d3⟩
 have B3 := B2.keep d3
 have hb3 := bt hb2 d3
 have I3 := I2.kept d3
 have T3 := Utf8Tabs_below T2 d3
 clear d3 B2 hb2 I2 T2 gl c4 c2 c3
 have c5 : v3.cell? ⟨w.heap.size, 5, none⟩ = some (.slice s.eA s.en s.ec) := B3.cell 5
 have gl := B3.lt
 obtain ⟨q3, hq3⟩ : ∃ b, rightSp ⟨s.lo, s.hi⟩ = b := ⟨_, rfl⟩
 rw [hq3]
 have Hq3 := Lib.hid hq3
 clear hq3
 cases q3
 case false =>
  have hv : r = false := by rw [← HV.out]; rw [shB, HN.out, Hq3.out]; rfl
  subst hv
  go_wp2
  go_ret
  exact ⟨by kernel_rfl, hb3⟩
 case true =>
 go_wp2_with fail
 refine (ixright_any s.eA s.en s.ec s.es I3.inn.elen I3.inn.e63 v3 I3.inn.erow (fun e he => ⟨I3.inn.es e he, I3.keys e he⟩) T3).mono ?_
 rintro ex v4 ⟨rfl, d4⟩
 have B4 := B3.keep d4
 have hb4 := bt hb3 d4
 have I4 := I3.kept d4
 have T4 := Utf8Tabs_below T3 d4
 clear d4 B3 hb3 I3 T3 gl c5
 have c6 : v4.cell? ⟨w.heap.size, 6, none⟩ = some (.int .i64 s.ma) := B4.cell 6
 have c7 : v4.cell? ⟨w.heap.size, 7, none⟩ = some (.int .i64 s.mt) := B4.cell 7
 have c8 : v4.cell? ⟨w.heap.size, 8, none⟩ = some (.int .i64 s.mn) := B4.cell 8
 have gl := B4.lt
 obtain ⟨q4, hq4⟩ : ∃ b, ixB s.es = b := ⟨_, rfl⟩
 rw [hq4]
 have Hq4 := Lib.hid hq4
 clear hq4
 cases q4
 case false =>
  have hv : r = false := by rw [← HV.out]; rw [shB, HN.out, Hq3.out, Hq4.out]; rfl
  subst hv
  go_wp2
  go_ret
  exact ⟨by kernel_rfl, hb4⟩
 case true =>
 go_wp2_with fail
 refine (right_any s.ma s.mt s.mn v4).mono ?_
 rintro ex v5 ⟨rfl, d5⟩
 have B5 := B4.keep d5
 have hb5 := bt hb4 d5
 have I5 := I4.kept d5
 have T5 := Utf8Tabs_below T4 d5
 clear d5 B4 hb4 I4 T4 gl c6 c7 c8
 have c9 : v5.cell? ⟨w.heap.size, 9, none⟩ = some (.int .i64 s.ta) := B5.cell 9
 have c10 : v5.cell? ⟨w.heap.size, 10, none⟩ = some (.int .i64 s.tt) := B5.cell 10
 have c11 : v5.cell? ⟨w.heap.size, 11, none⟩ = some (.int .i64 s.tn) := B5.cell 11
 have gl := B5.lt
 obtain ⟨q5, hq5⟩ : ∃ b, rightB s.ma s.mt s.mn = b := ⟨_, rfl⟩
 rw [hq5]
 have Hq5 := Lib.hid hq5
 clear hq5
 cases q5
 case false =>
  have hv : r = false := by rw [← HV.out]; rw [shB, HN.out, Hq3.out, Hq4.out, Hq5.out]; rfl
  subst hv
  go_wp2
  go_ret
  exact ⟨by kernel_rfl, hb5⟩
 case true =>
 go_wp2_with fail
 refine (right_any s.ta s.tt s.tn v5).mono ?_
 rintro ex v6 ⟨rfl, d6⟩
 have B6 := B5.keep d6
 have hb6 := bt hb5 d6
 have I6 := I5.kept d6
 have T6 := Utf8Tabs_below T5 d6
 clear d6 B5 hb5 I5 T5 gl c9 c10 c11
 have c12 : v6.cell? ⟨w.heap.size, 12, none⟩ = some (.slice s.dA s.dn s.dc) := B6.cell 12
 have gl := B6.lt
 obtain ⟨q6, hq6⟩ : ∃ b, rightB s.ta s.tt s.tn = b := ⟨_, rfl⟩
 rw [hq6]
 have Hq6 := Lib.hid hq6
 clear hq6
 cases q6
 case false =>
  have hv : r = false := by rw [← HV.out]; rw [shB, HN.out, Hq3.out, Hq4.out, Hq5.out, Hq6.out]; rfl
  subst hv
  go_wp2
  go_ret
  exact ⟨by kernel_rfl, hb6⟩
 case true =>
 go_wp2_with fail
 refine (ddright_any s.dA s.dn s.dc s.ds I6.inn.dlen I6.inn.d63 v6 I6.inn.drow).mono ?_
 rintro ex v7 ⟨rfl, d7⟩
 have B7 := B6.keep d7
 have hb7 := bt hb6 d7
 have I7 := I6.kept d7
 have T7 := Utf8Tabs_below T6 d7
 clear d7 B6 hb6 I6 T6 gl c12
 have c5 : v7.cell? ⟨w.heap.size, 5, none⟩ = some (.slice s.eA s.en s.ec) := B7.cell 5
 have gl := B7.lt
 obtain ⟨q7, hq7⟩ : ∃ b, ddB s.ds = b := ⟨_, rfl⟩
 rw [hq7]
 have Hq7 := Lib.hid hq7
 clear hq7
 cases q7
 case false =>
  have hv : r = false := by rw [← HV.out]; rw [shB, HN.out, Hq3.out, Hq4.out, Hq5.out, Hq6.out, Hq7.out]; rfl
  subst hv
  go_wp2
  go_ret
  exact ⟨by kernel_rfl, hb7⟩
 case true =>
 go_wp2_with fail
 refine (hase1_any (fun e => !hasSp ⟨s.lo, s.hi⟩ e.key) s.eA s.en s.ec s.es I7.inn.elen I7.inn.e63 w.heap.size v7 I7.inn.erow (fun x hx V hV => rs1_any x s (Nat.le_trans I7.lo (by decide)) (Nat.le_trans I7.hi (by decide)) (Nat.le_trans (I7.keys x hx) (by decide)) w.heap.size V (B7.keep hV) (Utf8Tabs_below T7 hV))).mono ?_
 rintro ex v8 ⟨rfl, d8⟩
 have B8 := B7.keep d8
 have hb8 := bt hb7 d8
 have I8 := I7.kept d8
 have T8 := Utf8Tabs_below T7 d8
 clear d8 B7 hb7 I7 T7 gl c5
 obtain ⟨q8, hq8⟩ : ∃ b, s.es.any (fun e => !hasSp ⟨s.lo, s.hi⟩ e.key) = b := ⟨_, rfl⟩
 rw [hq8]
 have hv : r = !q8 := by rw [← HV.out, shB, HN.out, Hq3.out, Hq4.out, Hq5.out, Hq6.out, Hq7.out, ← hq8, hasB, List.not_any_eq_all_not]; simp
 subst hv
 clear hq8
 cases q8
 case false =>
  go_wp2
  go_ret
  exact ⟨by kernel_rfl, hb8⟩
 case true =>
  go_wp2
  go_ret
  exact ⟨by kernel_rfl, hb8⟩
set_option maxHeartbeats 3200000 in
set_option maxRecDepth 100000 in
theorem upto_any (s : Sh) (a t n : Int) (w : World) (hI : ShIn w w.heap.size s) (h0 : ixB s.es = true) :
  Calls Tryz.prog 71 #[shV s, stampV a t n] w fun e w' => e = .returned (.bool (upB s a t n)) ∧ Below w.heap.size w w' := by
 have hup : s.es.any (upE a t n) = !upB s a t n := by
  unfold upB
  rw [List.not_all_eq_any_not]
  refine any_cg fun x hx => ?_
  have hx1 : enB x = true := rowB_mem (by unfold ixB at h0; exact (Bool.and_eq_true_iff.1 h0).2) hx
  unfold enB at hx1
  simp only [Bool.and_eq_true, decide_eq_true_eq] at hx1
  obtain ⟨_, hc, hl⟩ := hx1
  unfold chB at hc
  have hc2 := (Bool.and_eq_true_iff.1 hc).2
  rw [chain_last hc2 hl]
  unfold upE
  rw [List.getElem?_eq_getElem (by omega)]
  simp only
  by_cases hh : cmpS x.vs[x.vs.length - 1].a x.vs[x.vs.length - 1].t x.vs[x.vs.length - 1].n a t n ≤ 0
  · rw [decide_eq_true hh, decide_eq_false (by omega)]; rfl
  · rw [decide_eq_false hh, decide_eq_true (by omega)]; rfl
 have hne : ∀ x ∈ s.es, 0 < x.vs.length := fun x hx => by
  have hx1 : enB x = true := rowB_mem (by unfold ixB at h0; exact (Bool.and_eq_true_iff.1 h0).2) hx
  unfold enB at hx1
  simp only [Bool.and_eq_true, decide_eq_true_eq] at hx1
  exact hx1.2.2
 obtain ⟨q, hq⟩ : ∃ q, upB s a t n = q := ⟨_, rfl⟩
 rw [hq] at hup ⊢
 have HU := Lib.hid hup
 clear hq hup h0
 have B0 : Blk (w.alloc (.cells (shA s) 30)) w.heap.size 30 (shA s) := Blk.new w _ _
 have hb0 : Below w.heap.size w (w.alloc (.cells (shA s) 30)) := bal (b0 w) _
 have B1 : Blk ((w.alloc (.cells (shA s) 30)).alloc (.cells #[.int .i64 a, .int .i64 t, .int .i64 n] 27)) (w.heap.size + 1) 27 #[.int .i64 a, .int .i64 t, .int .i64 n] := Blk.new' _ _ _ _ (by simp)
 have hb1 : Below w.heap.size w ((w.alloc (.cells (shA s) 30)).alloc (.cells #[.int .i64 a, .int .i64 t, .int .i64 n] 27)) := bal hb0 _
 have B2 := B0.alloc (.cells #[.int .i64 a, .int .i64 t, .int .i64 n] 27)
 have hL := hI.erow.kept hb1
 have hE := fun x hx => EnIn.kept (hI.es x hx) hb1
 have hlen := hI.elen
 have h63 := hI.e63
 go_enter Tryz.func71, Tryz.ntmps71
 go_upto_region 1 with (fail)
 clear B0 hb0 hI
 generalize (w.alloc (.cells (shA s) 30)).alloc (.cells #[.int .i64 a, .int .i64 t, .int .i64 n] 27) = W at *
 have c5 : W.cell? ⟨w.heap.size, 5, none⟩ = some (.slice s.eA s.en s.ec) := B2.cell 5
 have gl := B2.lt
 have gl2 := B1.lt
 go_wp2_with fail
 refine (hase2_any (upE a t n) s.eA s.en s.ec s.es hlen h63 (w.heap.size + 1) W hL (fun x hx V hV => up1_any x a t n _ V (B1.keep hV) ((hE x hx).kept hV) (hne x hx))).mono ?_
 rintro ex v1 ⟨rfl, d1⟩
 rw [HU.out]
 have hb2 := bt hb1 d1
 clear HU
 cases q
 case false =>
  go_wp2
  go_ret
  exact ⟨by kernel_rfl, hb2⟩
 case true =>
  go_wp2
  go_ret
  exact ⟨by kernel_rfl, hb2⟩
end Go.Proofs.YtkoligiilieboaaGreatDoor
