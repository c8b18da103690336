/- The document's RightShard, Upto, Right of cells. -/
import Derived.Test.YtkoligiilieboaaGreatDoorDr2
import Derived.Test.YtkoligiilieboaaGreatDoorBkK6
set_option linter.unusedSimpArgs false
set_option linter.unusedVariables false
namespace Go.Proofs.YtkoligiilieboaaGreatDoor
open Go.RowKit
attribute [local go_sem] ByteArray.mk_append_mk ByteArray.extract_mk
attribute [local go_sem ↓] Go.wp_at_zero Go.wp_at_succ
structure ShSm (w : World) (B : Nat) (s : Sh) : Prop where
 inn : ShIn w B s
 lo : s.lo.length ≤ 1000000
 hi : s.hi.length ≤ 1000000
 keys : ∀ e ∈ s.es, e.key.length ≤ 1000000
theorem ShSm.kept {w w' : World} {s : Sh} (h : ShSm w w.heap.size s) (hb : Below w.heap.size w w') : ShSm w' w'.heap.size s := { h with inn := (h.inn.below hb (Nat.le_refl _)).more hb.size }
theorem ShIn.kept {w w' : World} {s : Sh} (h : ShIn w w.heap.size s) (hb : Below w.heap.size w w') : ShIn w' w'.heap.size s := (h.below hb (Nat.le_refl _)).more hb.size
theorem CeIn.kept {w w' : World} {s : Ce} (h : CeIn w w.heap.size s) (hb : Below w.heap.size w w') : CeIn w' w'.heap.size s := (h.below hb (Nat.le_refl _)).more hb.size
set_option maxHeartbeats 12800000 in
set_option maxRecDepth 100000 in
theorem drsh_any (s : Sh) (w : World) (hI : ShSm w w.heap.size s) :
  Calls Tryz.prog 17 #[shV s] w fun e w' => e = .returned (.bool (shB s)) ∧ Below w.heap.size w w' := by
 obtain ⟨r, hr⟩ : ∃ r, shB s = r := ⟨_, rfl⟩
 rw [hr]
 have HV := Lib.hid hr
 clear hr
 have B0 : Blk (w.alloc (.cells (shA s) 30)) w.heap.size 30 (shA s) := Blk.new w _ _
 have hb0 : Below w.heap.size w (w.alloc (.cells (shA s) 30)) := bal (b0 w) _
 go_enter Tryz.func17, Tryz.ntmps17
 go_upto_region 1 with (fail)
 generalize w.alloc (.cells (shA s) 30) = W0 at *
 have I0 := hI.kept hb0
 clear hI
 have c0 : W0.cell? ⟨w.heap.size, 0, none⟩ = some (.int .i64 s.id) := B0.cell 0
 have c1 : W0.cell? ⟨w.heap.size, 1, none⟩ = some (.int .i64 s.epoch) := B0.cell 1
 have c13 : W0.cell? ⟨w.heap.size, 13, none⟩ = some (.int .i64 s.hold) := B0.cell 13
 have c14 : W0.cell? ⟨w.heap.size, 14, none⟩ = some (.int .i64 s.seen) := B0.cell 14
 have c15 : W0.cell? ⟨w.heap.size, 15, none⟩ = some (.int .i64 s.move) := B0.cell 15
 have c16 : W0.cell? ⟨w.heap.size, 16, none⟩ = some (.int .i64 s.closed) := B0.cell 16
 have gl := B0.lt
 go_wp2_with fail
 refine (rone_any s.id _).mono ?_
 rintro ex v ⟨rfl, rfl⟩
 obtain ⟨q1, hq1⟩ : ∃ b, oneB s.id = b := ⟨_, rfl⟩
 rw [hq1]
 have Hq1 := Lib.hid hq1
 clear hq1
 cases q1
 case false =>
  have hv : r = false := by rw [← HV.out]; rw [shB, numB, Hq1.out]; simp
  subst hv
  go_wp2
  go_ret
  exact ⟨by kernel_rfl, hb0⟩
 case true =>
 go_wp2_with fail
 refine (rone_any s.epoch _).mono ?_
 rintro ex v ⟨rfl, rfl⟩
 obtain ⟨q2, hq2⟩ : ∃ b, oneB s.epoch = b := ⟨_, rfl⟩
 rw [hq2]
 have Hq2 := Lib.hid hq2
 clear hq2
 cases q2
 case false =>
  have hv : r = false := by rw [← HV.out]; rw [shB, numB, Hq2.out]; simp
  subst hv
  go_wp2
  go_ret
  exact ⟨by kernel_rfl, hb0⟩
 case true =>
 go_wp2_with fail
 refine (rnought_any s.hold _).mono ?_
 rintro ex v ⟨rfl, rfl⟩
 obtain ⟨q3, hq3⟩ : ∃ b, fitsB s.hold = b := ⟨_, rfl⟩
 rw [hq3]
 have Hq3 := Lib.hid hq3
 clear hq3
 cases q3
 case false =>
  have hv : r = false := by rw [← HV.out]; rw [shB, numB, Hq3.out]; simp
  subst hv
  go_wp2
  go_ret
  exact ⟨by kernel_rfl, hb0⟩
 case true =>
 go_wp2_with fail
 refine (rnought_any s.seen _).mono ?_
 rintro ex v ⟨rfl, rfl⟩
 obtain ⟨q4, hq4⟩ : ∃ b, fitsB s.seen = b := ⟨_, rfl⟩
 rw [hq4]
 have Hq4 := Lib.hid hq4
 clear hq4
 cases q4
 case false =>
  have hv : r = false := by rw [← HV.out]; rw [shB, numB, Hq4.out]; simp
  subst hv
  go_wp2
  go_ret
  exact ⟨by kernel_rfl, hb0⟩
 case true =>
 go_wp2_with fail
 refine (rnought_any s.move _).mono ?_
 rintro ex v ⟨rfl, rfl⟩
 obtain ⟨q5, hq5⟩ : ∃ b, fitsB s.move = b := ⟨_, rfl⟩
 rw [hq5]
 have Hq5 := Lib.hid hq5
 clear hq5
 cases q5
 case false =>
  have hv : r = false := by rw [← HV.out]; rw [shB, numB, Hq5.out]; simp
  subst hv
  go_wp2
  go_ret
  exact ⟨by kernel_rfl, hb0⟩
 case true =>
 go_wp2_with fail
 refine (rnought_any s.closed _).mono ?_
 rintro ex v ⟨rfl, rfl⟩
 obtain ⟨q6, hq6⟩ : ∃ b, fitsB s.closed = b := ⟨_, rfl⟩
 rw [hq6]
 have Hq6 := Lib.hid hq6
 clear hq6
 cases q6
 case false =>
  have hv : r = false := by rw [← HV.out]; rw [shB, numB, Hq6.out]; simp
  subst hv
  go_wp2
  go_ret
  exact ⟨by kernel_rfl, hb0⟩
 case true =>
 clear c0 c1 c13 c14 c15 c16 gl
 have c4 : W0.cell? ⟨w.heap.size, 4, none⟩ = some (.int .i64 s.phase) := B0.cell 4
 have c2 : W0.cell? ⟨w.heap.size, 2, none⟩ = some (.string ⟨s.lo.toArray⟩) := B0.cell 2
 have c3 : W0.cell? ⟨w.heap.size, 3, none⟩ = some (.string ⟨s.hi.toArray⟩) := B0.cell 3
 have gl := B0.lt
 by_cases hp : 1 ≤ s.phase ∧ s.phase ≤ 3
 case neg =>
  have hv : r = false := by rw [← HV.out, shB, numB]; simp; intro _ _ _ _ _ _ h1 h2; exact absurd ⟨h1, h2⟩ hp
  subst hv
  have p1 : (s.phase != 1) = true := by simp; omega
  have p2 : (s.phase != 2) = true := by simp; omega
  have p3 : (s.phase != 3) = true := by simp; omega
  have r1 : (s.phase == 1) = false := by simp; omega
  have r2 : (s.phase == 2) = false := by simp; omega
  have r3 : (s.phase == 3) = false := by simp; omega
  clear hp
  go_wp2
  go_ret
  exact ⟨by kernel_rfl, hb0⟩
 case pos =>
 have hnum : numB s = true := by rw [numB, Hq1.out, Hq2.out, Hq3.out, Hq4.out, Hq5.out, Hq6.out, decide_eq_true hp.1, decide_eq_true hp.2]; rfl
 have HN := Lib.hid hnum
 obtain ⟨ph, hph⟩ : ∃ ph, s.phase = ph := ⟨_, rfl⟩
 rw [hph] at c4 hp
 clear hph hnum
 have h3 : ph = 1 ∨ ph = 2 ∨ ph = 3 := by omega
 clear hp
 rcases h3 with rfl | rfl | rfl
 ·
  go_wp2_with fail
  refine (refspright_any s.lo s.hi (Nat.le_trans I0.lo (by decide)) (Nat.le_trans I0.hi (by decide)) W0).mono ?_
  rintro ex v1 ⟨rfl, d1⟩
  have B1 := B0.keep d1
  have hb1 := bt hb0 d1
  have I1 := I0.kept d1
  clear d1 B0 hb0 I0 gl c4 c2 c3
  have c5 : v1.cell? ⟨w.heap.size, 5, none⟩ = some (.slice s.eA s.en s.ec) := B1.cell 5
  have gl := B1.lt
  obtain ⟨a1, ha1⟩ : ∃ b, rightSp ⟨s.lo, s.hi⟩ = b := ⟨_, rfl⟩
  rw [ha1]
  have Ha1 := Lib.hid ha1
  clear ha1
  cases a1
  case false =>
   have hv : r = false := by rw [← HV.out]; rw [shB, HN.out, Ha1.out]; rfl
   subst hv
   go_wp2
   go_ret
   exact ⟨by kernel_rfl, hb1⟩
  case true =>
  go_wp2_with fail
  refine (rix_any s.eA s.en s.ec s.es I1.inn.elen I1.inn.e63 v1 I1.inn.erow (fun e he => ⟨I1.inn.es e he, I1.keys e he⟩)).mono ?_
  rintro ex v2 ⟨rfl, d2⟩
  have B2 := B1.keep d2
  have hb2 := bt hb1 d2
  have I2 := I1.kept d2
  clear d2 B1 hb1 I1 gl c5
  have c6 : v2.cell? ⟨w.heap.size, 6, none⟩ = some (.int .i64 s.ma) := B2.cell 6
  have c7 : v2.cell? ⟨w.heap.size, 7, none⟩ = some (.int .i64 s.mt) := B2.cell 7
  have c8 : v2.cell? ⟨w.heap.size, 8, none⟩ = some (.int .i64 s.mn) := B2.cell 8
  have gl := B2.lt
  obtain ⟨a2, ha2⟩ : ∃ b, ixB s.es = b := ⟨_, rfl⟩
  rw [ha2]
  have Ha2 := Lib.hid ha2
  clear ha2
  cases a2
  case false =>
   have hv : r = false := by rw [← HV.out]; rw [shB, HN.out, Ha1.out, Ha2.out]; rfl
   subst hv
   go_wp2
   go_ret
   exact ⟨by kernel_rfl, hb2⟩
  case true =>
  go_wp2_with fail
  refine (refright_any s.ma s.mt s.mn v2).mono ?_
  rintro ex v3 ⟨rfl, d3⟩
  have B3 := B2.keep d3
  have hb3 := bt hb2 d3
  have I3 := I2.kept d3
  clear d3 B2 hb2 I2 gl c6 c7 c8
  have c9 : v3.cell? ⟨w.heap.size, 9, none⟩ = some (.int .i64 s.ta) := B3.cell 9
  have c10 : v3.cell? ⟨w.heap.size, 10, none⟩ = some (.int .i64 s.tt) := B3.cell 10
  have c11 : v3.cell? ⟨w.heap.size, 11, none⟩ = some (.int .i64 s.tn) := B3.cell 11
  have gl := B3.lt
  obtain ⟨a3, ha3⟩ : ∃ b, rightB s.ma s.mt s.mn = b := ⟨_, rfl⟩
  rw [ha3]
  have Ha3 := Lib.hid ha3
  clear ha3
  cases a3
  case false =>
   have hv : r = false := by rw [← HV.out]; rw [shB, HN.out, Ha1.out, Ha2.out, Ha3.out]; rfl
   subst hv
   go_wp2
   go_ret
   exact ⟨by kernel_rfl, hb3⟩
  case true =>
  go_wp2_with fail
  refine (refright_any s.ta s.tt s.tn v3).mono ?_
  rintro ex v4 ⟨rfl, d4⟩
  have B4 := B3.keep d4
  have hb4 := bt hb3 d4
  have I4 := I3.kept d4
  clear d4 B3 hb3 I3 gl c9 c10 c11
  have c12 : v4.cell? ⟨w.heap.size, 12, none⟩ = some (.slice s.dA s.dn s.dc) := B4.cell 12
  have gl := B4.lt
  obtain ⟨a4, ha4⟩ : ∃ b, rightB s.ta s.tt s.tn = b := ⟨_, rfl⟩
  rw [ha4]
  have Ha4 := Lib.hid ha4
  clear ha4
  cases a4
  case false =>
   have hv : r = false := by rw [← HV.out]; rw [shB, HN.out, Ha1.out, Ha2.out, Ha3.out, Ha4.out]; rfl
   subst hv
   go_wp2
   go_ret
   exact ⟨by kernel_rfl, hb4⟩
  case true =>
  go_wp2_with fail
  refine (rdd_any s.dA s.dn s.dc s.ds I4.inn.dlen I4.inn.d63 v4 I4.inn.drow).mono ?_
  rintro ex v5 ⟨rfl, d5⟩
  have B5 := B4.keep d5
  have hb5 := bt hb4 d5
  have I5 := I4.kept d5
  clear d5 B4 hb4 I4 gl c12
  have c5 : v5.cell? ⟨w.heap.size, 5, none⟩ = some (.slice s.eA s.en s.ec) := B5.cell 5
  have gl := B5.lt
  obtain ⟨a5, ha5⟩ : ∃ b, ddB s.ds = b := ⟨_, rfl⟩
  rw [ha5]
  have Ha5 := Lib.hid ha5
  clear ha5
  cases a5
  case false =>
   have hv : r = false := by rw [← HV.out]; rw [shB, HN.out, Ha1.out, Ha2.out, Ha3.out, Ha4.out, Ha5.out]; rfl
   subst hv
   go_wp2
   go_ret
   exact ⟨by kernel_rfl, hb5⟩
  case true =>
  have HI := Lib.hid I5
  have helen := I5.inn.elen
  have he63 := I5.inn.e63
  have hr2 : r = s.es.all (fun e => hasSp ⟨s.lo, s.hi⟩ e.key) := by rw [← HV.out, shB, HN.out, Ha1.out, Ha2.out, Ha3.out, Ha4.out, Ha5.out]; rfl
  have HR2 := Lib.hid hr2
  clear hr2
  clear I5
  go_wp2_with fail
  clear gl c5
  go_loopw [3] (fun i wr => ∃ k : Nat, i = .int .i64 k ∧ k ≤ s.en ∧ (s.es.take k).all (fun e => hasSp ⟨s.lo, s.hi⟩ e.key) = true ∧ Below v5.heap.size v5 wr) (fun i _ => s.en - (intOf i).toNat)
  case atStart => exact ⟨0, rfl, Nat.zero_le _, rfl, Below.refl _ _⟩
  case round =>
   obtain ⟨k, rfl, hk, ht, hbl⟩ := hrel
   have i0 : (0 : Int) ≤ (k : Int) := by omega
   have HT := Lib.hid ht
   have BL := B5.keep hbl
   have IL := HI.out.kept hbl
   clear ht
   have c5 : wr.cell? ⟨w.heap.size, 5, none⟩ = some (.slice s.eA s.en s.ec) := BL.cell 5
   have gl := BL.lt
   by_cases hlt : k < s.en
   case pos =>
    have i1 : (k : Int) < (s.en : Int) := by omega
    obtain ⟨b, off, hA, hbB, rx⟩ := IL.inn.erow.at k (by omega)
    have HA := Lib.hid hA
    clear hA
    have hs := fun (h : (fun e : En => hasSp ⟨s.lo, s.hi⟩ e.key) (s.es[k]'(by omega)) = true) => all_take_succ (by omega) HT.out h
    have hf := fun (h : (fun e : En => hasSp ⟨s.lo, s.hi⟩ e.key) (s.es[k]'(by omega)) = false) => all_at_false (p := fun e : En => hasSp ⟨s.lo, s.hi⟩ e.key) (l := s.es) (k := k) (by omega) h
    have hkx := IL.keys (s.es[k]'(by omega)) (List.getElem_mem (by omega))
    obtain ⟨x, hxk⟩ : ∃ x, s.es[k]'(by omega) = x := ⟨_, rfl⟩
    rw [hxk] at rx hkx
    simp only [hxk] at hs hf
    have HS := Lib.hid hs
    have HF := Lib.hid hf
    have RX := Lib.hid rx
    clear hxk hs hf rx
    go_wp2_with fail
    clear c5
    refine wp_region_held_drew (S := (fun W' => OneB wr w.heap.size 30 (shA s) W')) (by kernel_rfl) ⟨(Below.refl _ wr).drew, BL.drew⟩ (fun hH => ?_)
    refine tk 0 (.pointer (some ⟨w.heap.size, 2, none⟩)) 88 rfl rfl (by kernel_rfl) (fun _ _ _ h => h) (.inl ⟨by rfl, by intro W' hS; go_simp⟩) hH ?_
    try simp only [Act.put, aset]
    refine tk 1 (.agg #[.string ⟨s.lo.toArray⟩, .string ⟨s.hi.toArray⟩]) 89 rfl rfl (by kernel_rfl) (fun _ _ _ h => h) (yieldsIf_load_mid (by rfl) 24 _ rfl (w.heap.size) (2) (by rfl) [.string ⟨s.lo.toArray⟩, .string ⟨s.hi.toArray⟩] _ (fun _ h => Blk.range h.b 2 _ (by rfl)) Tryz.underlying24 (by with_unfolding_all rfl) (by with_unfolding_all rfl)) hH ?_
    try simp only [Act.put, aset]
    refine tk 2 (.pointer (some ⟨w.heap.size, 5, none⟩)) 90 rfl rfl (by kernel_rfl) (fun _ _ _ h => h) (.inl ⟨by rfl, by intro W' hS; go_simp⟩) hH ?_
    try simp only [Act.put, aset]
    refine tk 3 (.slice (some ⟨b, off, none⟩) s.en s.ec) 91 rfl rfl (by kernel_rfl) (fun _ _ _ h => h) (.inl ⟨by rfl, by intro W' hS; have hc : W'.cell? ⟨w.heap.size, 5, none⟩ = some (.slice (some ⟨b, off, none⟩) s.en s.ec) := (hS.b.cell 5).trans (by rw [← HA.out]; rfl); go_simp⟩) hH ?_
    try simp only [Act.put, aset]
    refine tk 4 (.int .i64 k) 92 rfl rfl (by kernel_rfl) (fun _ _ _ h => h) (.inl ⟨by rfl, by intro W' hS; go_simp⟩) hH ?_
    try simp only [Act.put, aset]
    refine tk 5 (.pointer (some ⟨b, off + k * 2, none⟩)) 93 rfl rfl (by kernel_rfl) (fun _ _ _ h => h) (.inl ⟨by rfl, by intro W' hS; go_simp⟩) hH ?_
    try simp only [Act.put, aset]
    refine tk 6 (.pointer (some ⟨b, off + k * 2, none⟩)) 94 rfl rfl (by kernel_rfl) (fun _ _ _ h => h) (.inl ⟨by rfl, by intro W' hS; go_simp⟩) hH ?_
    try simp only [Act.put, aset]
    refine tk 7 (.string ⟨x.key.toArray⟩) 95 rfl rfl (by kernel_rfl) (fun _ _ _ h => h) (.inl ⟨by rfl, by intro W' hS; have hc : W'.cell? ⟨b, off + k * 2, none⟩ = some (.string ⟨x.key.toArray⟩) := rng0 (rng_below RX.out hS.below hbB); go_simp⟩) hH ?_
    try simp only [Act.put, aset]
    refine wpAnyH_ready (rs := [8]) (by kernel_rfl) (by simp) ?_
    refine AllReadyH.cons rfl (fun K hK => ?_) AllReadyH.nil
    go_simp
    refine (refsphas_any s.lo s.hi (Nat.le_trans HI.out.lo (by decide)) (Nat.le_trans HI.out.hi (by decide)) x.key (Nat.le_trans hkx (by decide)) _).mono ?_
    rintro ex w9 ⟨rfl, d9⟩
    have S9 := hH.call d9
    clear hH d9
    obtain ⟨q, hq⟩ : ∃ q, hasSp ⟨s.lo, s.hi⟩ x.key = q := ⟨_, rfl⟩
    rw [hq]
    have HQ := Lib.hid hq
    clear hq
    cases q
    case false =>
     refine hK.out _ _ S9 (fun hH => ?_)
     clear hK K
     try simp only [Act.put, aset]
     refine tk 9 (.bool true) 97 rfl rfl (by kernel_rfl) (fun _ _ _ h => h) (.inl ⟨by rfl, by intro W' hS; go_simp⟩) hH ?_
     try simp only [Act.put, aset]
     refine wpAnyH_done (by kernel_rfl) ?_ _
     have hv : r = false := by rw [HR2.out]; exact HF.out HQ.out
     subst hv
     go_wp2
     go_ret
     exact ⟨by kernel_rfl, bt hb5 (hbl.trans (hH.below.mono hbl.size))⟩
    case true =>
     refine hK.out _ _ S9 (fun hH => ?_)
     clear hK K
     try simp only [Act.put, aset]
     refine tk 9 (.bool false) 97 rfl rfl (by kernel_rfl) (fun _ _ _ h => h) (.inl ⟨by rfl, by intro W' hS; go_simp⟩) hH ?_
     try simp only [Act.put, aset]
     refine wpAnyH_done (by kernel_rfl) ?_ _
     go_wp2_with fail
     go_roundw
     case rel => exact ⟨k + 1, by go_num, by omega, HS.out HQ.out, hbl.trans (hH.below.mono hbl.size)⟩
     case measure => simp [intOf]; omega
   case neg =>
    have hv : r = true := by rw [HR2.out]; exact all_full (k := k) (by omega) HT.out
    subst hv
    go_wp2
    go_ret
    exact ⟨by kernel_rfl, bt hb5 hbl⟩
 ·
  go_wp2_with fail
  refine (refspright_any s.lo s.hi (Nat.le_trans I0.lo (by decide)) (Nat.le_trans I0.hi (by decide)) W0).mono ?_
  rintro ex v1 ⟨rfl, d1⟩
  have B1 := B0.keep d1
  have hb1 := bt hb0 d1
  have I1 := I0.kept d1
  clear d1 B0 hb0 I0 gl c4 c2 c3
  have c5 : v1.cell? ⟨w.heap.size, 5, none⟩ = some (.slice s.eA s.en s.ec) := B1.cell 5
  have gl := B1.lt
  obtain ⟨a1, ha1⟩ : ∃ b, rightSp ⟨s.lo, s.hi⟩ = b := ⟨_, rfl⟩
  rw [ha1]
  have Ha1 := Lib.hid ha1
  clear ha1
  cases a1
  case false =>
   have hv : r = false := by rw [← HV.out]; rw [shB, HN.out, Ha1.out]; rfl
   subst hv
   go_wp2
   go_ret
   exact ⟨by kernel_rfl, hb1⟩
  case true =>
  go_wp2_with fail
  refine (rix_any s.eA s.en s.ec s.es I1.inn.elen I1.inn.e63 v1 I1.inn.erow (fun e he => ⟨I1.inn.es e he, I1.keys e he⟩)).mono ?_
  rintro ex v2 ⟨rfl, d2⟩
  have B2 := B1.keep d2
  have hb2 := bt hb1 d2
  have I2 := I1.kept d2
  clear d2 B1 hb1 I1 gl c5
  have c6 : v2.cell? ⟨w.heap.size, 6, none⟩ = some (.int .i64 s.ma) := B2.cell 6
  have c7 : v2.cell? ⟨w.heap.size, 7, none⟩ = some (.int .i64 s.mt) := B2.cell 7
  have c8 : v2.cell? ⟨w.heap.size, 8, none⟩ = some (.int .i64 s.mn) := B2.cell 8
  have gl := B2.lt
  obtain ⟨a2, ha2⟩ : ∃ b, ixB s.es = b := ⟨_, rfl⟩
  rw [ha2]
  have Ha2 := Lib.hid ha2
  clear ha2
  cases a2
  case false =>
   have hv : r = false := by rw [← HV.out]; rw [shB, HN.out, Ha1.out, Ha2.out]; rfl
   subst hv
   go_wp2
   go_ret
   exact ⟨by kernel_rfl, hb2⟩
  case true =>
  go_wp2_with fail
  refine (refright_any s.ma s.mt s.mn v2).mono ?_
  rintro ex v3 ⟨rfl, d3⟩
  have B3 := B2.keep d3
  have hb3 := bt hb2 d3
  have I3 := I2.kept d3
  clear d3 B2 hb2 I2 gl c6 c7 c8
  have c9 : v3.cell? ⟨w.heap.size, 9, none⟩ = some (.int .i64 s.ta) := B3.cell 9
  have c10 : v3.cell? ⟨w.heap.size, 10, none⟩ = some (.int .i64 s.tt) := B3.cell 10
  have c11 : v3.cell? ⟨w.heap.size, 11, none⟩ = some (.int .i64 s.tn) := B3.cell 11
  have gl := B3.lt
  obtain ⟨a3, ha3⟩ : ∃ b, rightB s.ma s.mt s.mn = b := ⟨_, rfl⟩
  rw [ha3]
  have Ha3 := Lib.hid ha3
  clear ha3
  cases a3
  case false =>
   have hv : r = false := by rw [← HV.out]; rw [shB, HN.out, Ha1.out, Ha2.out, Ha3.out]; rfl
   subst hv
   go_wp2
   go_ret
   exact ⟨by kernel_rfl, hb3⟩
  case true =>
  go_wp2_with fail
  refine (refright_any s.ta s.tt s.tn v3).mono ?_
  rintro ex v4 ⟨rfl, d4⟩
  have B4 := B3.keep d4
  have hb4 := bt hb3 d4
  have I4 := I3.kept d4
  clear d4 B3 hb3 I3 gl c9 c10 c11
  have c12 : v4.cell? ⟨w.heap.size, 12, none⟩ = some (.slice s.dA s.dn s.dc) := B4.cell 12
  have gl := B4.lt
  obtain ⟨a4, ha4⟩ : ∃ b, rightB s.ta s.tt s.tn = b := ⟨_, rfl⟩
  rw [ha4]
  have Ha4 := Lib.hid ha4
  clear ha4
  cases a4
  case false =>
   have hv : r = false := by rw [← HV.out]; rw [shB, HN.out, Ha1.out, Ha2.out, Ha3.out, Ha4.out]; rfl
   subst hv
   go_wp2
   go_ret
   exact ⟨by kernel_rfl, hb4⟩
  case true =>
  go_wp2_with fail
  refine (rdd_any s.dA s.dn s.dc s.ds I4.inn.dlen I4.inn.d63 v4 I4.inn.drow).mono ?_
  rintro ex v5 ⟨rfl, d5⟩
  have B5 := B4.keep d5
  have hb5 := bt hb4 d5
  have I5 := I4.kept d5
  clear d5 B4 hb4 I4 gl c12
  have c5 : v5.cell? ⟨w.heap.size, 5, none⟩ = some (.slice s.eA s.en s.ec) := B5.cell 5
  have gl := B5.lt
  obtain ⟨a5, ha5⟩ : ∃ b, ddB s.ds = b := ⟨_, rfl⟩
  rw [ha5]
  have Ha5 := Lib.hid ha5
  clear ha5
  cases a5
  case false =>
   have hv : r = false := by rw [← HV.out]; rw [shB, HN.out, Ha1.out, Ha2.out, Ha3.out, Ha4.out, Ha5.out]; rfl
   subst hv
   go_wp2
   go_ret
   exact ⟨by kernel_rfl, hb5⟩
  case true =>
  have HI := Lib.hid I5
  have helen := I5.inn.elen
  have he63 := I5.inn.e63
  have hr2 : r = s.es.all (fun e => hasSp ⟨s.lo, s.hi⟩ e.key) := by rw [← HV.out, shB, HN.out, Ha1.out, Ha2.out, Ha3.out, Ha4.out, Ha5.out]; rfl
  have HR2 := Lib.hid hr2
  clear hr2
  clear I5
  go_wp2_with fail
  clear gl c5
  go_loopw [3] (fun i wr => ∃ k : Nat, i = .int .i64 k ∧ k ≤ s.en ∧ (s.es.take k).all (fun e => hasSp ⟨s.lo, s.hi⟩ e.key) = true ∧ Below v5.heap.size v5 wr) (fun i _ => s.en - (intOf i).toNat)
  case atStart => exact ⟨0, rfl, Nat.zero_le _, rfl, Below.refl _ _⟩
  case round =>
   obtain ⟨k, rfl, hk, ht, hbl⟩ := hrel
   have i0 : (0 : Int) ≤ (k : Int) := by omega
   have HT := Lib.hid ht
   have BL := B5.keep hbl
   have IL := HI.out.kept hbl
   clear ht
   have c5 : wr.cell? ⟨w.heap.size, 5, none⟩ = some (.slice s.eA s.en s.ec) := BL.cell 5
   have gl := BL.lt
   by_cases hlt : k < s.en
   case pos =>
    have i1 : (k : Int) < (s.en : Int) := by omega
    obtain ⟨b, off, hA, hbB, rx⟩ := IL.inn.erow.at k (by omega)
    have HA := Lib.hid hA
    clear hA
    have hs := fun (h : (fun e : En => hasSp ⟨s.lo, s.hi⟩ e.key) (s.es[k]'(by omega)) = true) => all_take_succ (by omega) HT.out h
    have hf := fun (h : (fun e : En => hasSp ⟨s.lo, s.hi⟩ e.key) (s.es[k]'(by omega)) = false) => all_at_false (p := fun e : En => hasSp ⟨s.lo, s.hi⟩ e.key) (l := s.es) (k := k) (by omega) h
    have hkx := IL.keys (s.es[k]'(by omega)) (List.getElem_mem (by omega))
    obtain ⟨x, hxk⟩ : ∃ x, s.es[k]'(by omega) = x := ⟨_, rfl⟩
    rw [hxk] at rx hkx
    simp only [hxk] at hs hf
    have HS := Lib.hid hs
    have HF := Lib.hid hf
    have RX := Lib.hid rx
    clear hxk hs hf rx
    go_wp2_with fail
    clear c5
    refine wp_region_held_drew (S := (fun W' => OneB wr w.heap.size 30 (shA s) W')) (by kernel_rfl) ⟨(Below.refl _ wr).drew, BL.drew⟩ (fun hH => ?_)
    refine tk 0 (.pointer (some ⟨w.heap.size, 2, none⟩)) 88 rfl rfl (by kernel_rfl) (fun _ _ _ h => h) (.inl ⟨by rfl, by intro W' hS; go_simp⟩) hH ?_
    try simp only [Act.put, aset]
    refine tk 1 (.agg #[.string ⟨s.lo.toArray⟩, .string ⟨s.hi.toArray⟩]) 89 rfl rfl (by kernel_rfl) (fun _ _ _ h => h) (yieldsIf_load_mid (by rfl) 24 _ rfl (w.heap.size) (2) (by rfl) [.string ⟨s.lo.toArray⟩, .string ⟨s.hi.toArray⟩] _ (fun _ h => Blk.range h.b 2 _ (by rfl)) Tryz.underlying24 (by with_unfolding_all rfl) (by with_unfolding_all rfl)) hH ?_
    try simp only [Act.put, aset]
    refine tk 2 (.pointer (some ⟨w.heap.size, 5, none⟩)) 90 rfl rfl (by kernel_rfl) (fun _ _ _ h => h) (.inl ⟨by rfl, by intro W' hS; go_simp⟩) hH ?_
    try simp only [Act.put, aset]
    refine tk 3 (.slice (some ⟨b, off, none⟩) s.en s.ec) 91 rfl rfl (by kernel_rfl) (fun _ _ _ h => h) (.inl ⟨by rfl, by intro W' hS; have hc : W'.cell? ⟨w.heap.size, 5, none⟩ = some (.slice (some ⟨b, off, none⟩) s.en s.ec) := (hS.b.cell 5).trans (by rw [← HA.out]; rfl); go_simp⟩) hH ?_
    try simp only [Act.put, aset]
    refine tk 4 (.int .i64 k) 92 rfl rfl (by kernel_rfl) (fun _ _ _ h => h) (.inl ⟨by rfl, by intro W' hS; go_simp⟩) hH ?_
    try simp only [Act.put, aset]
    refine tk 5 (.pointer (some ⟨b, off + k * 2, none⟩)) 93 rfl rfl (by kernel_rfl) (fun _ _ _ h => h) (.inl ⟨by rfl, by intro W' hS; go_simp⟩) hH ?_
    try simp only [Act.put, aset]
    refine tk 6 (.pointer (some ⟨b, off + k * 2, none⟩)) 94 rfl rfl (by kernel_rfl) (fun _ _ _ h => h) (.inl ⟨by rfl, by intro W' hS; go_simp⟩) hH ?_
    try simp only [Act.put, aset]
    refine tk 7 (.string ⟨x.key.toArray⟩) 95 rfl rfl (by kernel_rfl) (fun _ _ _ h => h) (.inl ⟨by rfl, by intro W' hS; have hc : W'.cell? ⟨b, off + k * 2, none⟩ = some (.string ⟨x.key.toArray⟩) := rng0 (rng_below RX.out hS.below hbB); go_simp⟩) hH ?_
    try simp only [Act.put, aset]
    refine wpAnyH_ready (rs := [8]) (by kernel_rfl) (by simp) ?_
    refine AllReadyH.cons rfl (fun K hK => ?_) AllReadyH.nil
    go_simp
    refine (refsphas_any s.lo s.hi (Nat.le_trans HI.out.lo (by decide)) (Nat.le_trans HI.out.hi (by decide)) x.key (Nat.le_trans hkx (by decide)) _).mono ?_
    rintro ex w9 ⟨rfl, d9⟩
    have S9 := hH.call d9
    clear hH d9
    obtain ⟨q, hq⟩ : ∃ q, hasSp ⟨s.lo, s.hi⟩ x.key = q := ⟨_, rfl⟩
    rw [hq]
    have HQ := Lib.hid hq
    clear hq
    cases q
    case false =>
     refine hK.out _ _ S9 (fun hH => ?_)
     clear hK K
     try simp only [Act.put, aset]
     refine tk 9 (.bool true) 97 rfl rfl (by kernel_rfl) (fun _ _ _ h => h) (.inl ⟨by rfl, by intro W' hS; go_simp⟩) hH ?_
     try simp only [Act.put, aset]
     refine wpAnyH_done (by kernel_rfl) ?_ _
     have hv : r = false := by rw [HR2.out]; exact HF.out HQ.out
     subst hv
     go_wp2
     go_ret
     exact ⟨by kernel_rfl, bt hb5 (hbl.trans (hH.below.mono hbl.size))⟩
    case true =>
     refine hK.out _ _ S9 (fun hH => ?_)
     clear hK K
     try simp only [Act.put, aset]
     refine tk 9 (.bool false) 97 rfl rfl (by kernel_rfl) (fun _ _ _ h => h) (.inl ⟨by rfl, by intro W' hS; go_simp⟩) hH ?_
     try simp only [Act.put, aset]
     refine wpAnyH_done (by kernel_rfl) ?_ _
     go_wp2_with fail
     go_roundw
     case rel => exact ⟨k + 1, by go_num, by omega, HS.out HQ.out, hbl.trans (hH.below.mono hbl.size)⟩
     case measure => simp [intOf]; omega
   case neg =>
    have hv : r = true := by rw [HR2.out]; exact all_full (k := k) (by omega) HT.out
    subst hv
    go_wp2
    go_ret
    exact ⟨by kernel_rfl, bt hb5 hbl⟩
 ·
  go_wp2_with fail
  refine (refspright_any s.lo s.hi (Nat.le_trans I0.lo (by decide)) (Nat.le_trans I0.hi (by decide)) W0).mono ?_
  rintro ex v1 ⟨rfl, d1⟩
  have B1 := B0.keep d1
  have hb1 := bt hb0 d1
  have I1 := I0.kept d1
  clear d1 B0 hb0 I0 gl c4 c2 c3
  have c5 : v1.cell? ⟨w.heap.size, 5, none⟩ = some (.slice s.eA s.en s.ec) := B1.cell 5
  have gl := B1.lt
  obtain ⟨a1, ha1⟩ : ∃ b, rightSp ⟨s.lo, s.hi⟩ = b := ⟨_, rfl⟩
  rw [ha1]
  have Ha1 := Lib.hid ha1
  clear ha1
  cases a1
  case false =>
   have hv : r = false := by rw [← HV.out]; rw [shB, HN.out, Ha1.out]; rfl
   subst hv
   go_wp2
   go_ret
   exact ⟨by kernel_rfl, hb1⟩
  case true =>
  go_wp2_with fail
  refine (rix_any s.eA s.en s.ec s.es I1.inn.elen I1.inn.e63 v1 I1.inn.erow (fun e he => ⟨I1.inn.es e he, I1.keys e he⟩)).mono ?_
  rintro ex v2 ⟨rfl, d2⟩
  have B2 := B1.keep d2
  have hb2 := bt hb1 d2
  have I2 := I1.kept d2
  clear d2 B1 hb1 I1 gl c5
  have c6 : v2.cell? ⟨w.heap.size, 6, none⟩ = some (.int .i64 s.ma) := B2.cell 6
  have c7 : v2.cell? ⟨w.heap.size, 7, none⟩ = some (.int .i64 s.mt) := B2.cell 7
  have c8 : v2.cell? ⟨w.heap.size, 8, none⟩ = some (.int .i64 s.mn) := B2.cell 8
  have gl := B2.lt
  obtain ⟨a2, ha2⟩ : ∃ b, ixB s.es = b := ⟨_, rfl⟩
  rw [ha2]
  have Ha2 := Lib.hid ha2
  clear ha2
  cases a2
  case false =>
   have hv : r = false := by rw [← HV.out]; rw [shB, HN.out, Ha1.out, Ha2.out]; rfl
   subst hv
   go_wp2
   go_ret
   exact ⟨by kernel_rfl, hb2⟩
  case true =>
  go_wp2_with fail
  refine (refright_any s.ma s.mt s.mn v2).mono ?_
  rintro ex v3 ⟨rfl, d3⟩
  have B3 := B2.keep d3
  have hb3 := bt hb2 d3
  have I3 := I2.kept d3
  clear d3 B2 hb2 I2 gl c6 c7 c8
  have c9 : v3.cell? ⟨w.heap.size, 9, none⟩ = some (.int .i64 s.ta) := B3.cell 9
  have c10 : v3.cell? ⟨w.heap.size, 10, none⟩ = some (.int .i64 s.tt) := B3.cell 10
  have c11 : v3.cell? ⟨w.heap.size, 11, none⟩ = some (.int .i64 s.tn) := B3.cell 11
  have gl := B3.lt
  obtain ⟨a3, ha3⟩ : ∃ b, rightB s.ma s.mt s.mn = b := ⟨_, rfl⟩
  rw [ha3]
  have Ha3 := Lib.hid ha3
  clear ha3
  cases a3
  case false =>
   have hv : r = false := by rw [← HV.out]; rw [shB, HN.out, Ha1.out, Ha2.out, Ha3.out]; rfl
   subst hv
   go_wp2
   go_ret
   exact ⟨by kernel_rfl, hb3⟩
  case true =>
  go_wp2_with fail
  refine (refright_any s.ta s.tt s.tn v3).mono ?_
  rintro ex v4 ⟨rfl, d4⟩
  have B4 := B3.keep d4
  have hb4 := bt hb3 d4
  have I4 := I3.kept d4
  clear d4 B3 hb3 I3 gl c9 c10 c11
  have c12 : v4.cell? ⟨w.heap.size, 12, none⟩ = some (.slice s.dA s.dn s.dc) := B4.cell 12
  have gl := B4.lt
  obtain ⟨a4, ha4⟩ : ∃ b, rightB s.ta s.tt s.tn = b := ⟨_, rfl⟩
  rw [ha4]
  have Ha4 := Lib.hid ha4
  clear ha4
  cases a4
  case false =>
   have hv : r = false := by rw [← HV.out]; rw [shB, HN.out, Ha1.out, Ha2.out, Ha3.out, Ha4.out]; rfl
   subst hv
   go_wp2
   go_ret
   exact ⟨by kernel_rfl, hb4⟩
  case true =>
  go_wp2_with fail
  refine (rdd_any s.dA s.dn s.dc s.ds I4.inn.dlen I4.inn.d63 v4 I4.inn.drow).mono ?_
  rintro ex v5 ⟨rfl, d5⟩
  have B5 := B4.keep d5
  have hb5 := bt hb4 d5
  have I5 := I4.kept d5
  clear d5 B4 hb4 I4 gl c12
  have c5 : v5.cell? ⟨w.heap.size, 5, none⟩ = some (.slice s.eA s.en s.ec) := B5.cell 5
  have gl := B5.lt
  obtain ⟨a5, ha5⟩ : ∃ b, ddB s.ds = b := ⟨_, rfl⟩
  rw [ha5]
  have Ha5 := Lib.hid ha5
  clear ha5
  cases a5
  case false =>
   have hv : r = false := by rw [← HV.out]; rw [shB, HN.out, Ha1.out, Ha2.out, Ha3.out, Ha4.out, Ha5.out]; rfl
   subst hv
   go_wp2
   go_ret
   exact ⟨by kernel_rfl, hb5⟩
  case true =>
  have HI := Lib.hid I5
  have helen := I5.inn.elen
  have he63 := I5.inn.e63
  have hr2 : r = s.es.all (fun e => hasSp ⟨s.lo, s.hi⟩ e.key) := by rw [← HV.out, shB, HN.out, Ha1.out, Ha2.out, Ha3.out, Ha4.out, Ha5.out]; rfl
  have HR2 := Lib.hid hr2
  clear hr2
  clear I5
  go_wp2_with fail
  clear gl c5
  go_loopw [3] (fun i wr => ∃ k : Nat, i = .int .i64 k ∧ k ≤ s.en ∧ (s.es.take k).all (fun e => hasSp ⟨s.lo, s.hi⟩ e.key) = true ∧ Below v5.heap.size v5 wr) (fun i _ => s.en - (intOf i).toNat)
  case atStart => exact ⟨0, rfl, Nat.zero_le _, rfl, Below.refl _ _⟩
  case round =>
   obtain ⟨k, rfl, hk, ht, hbl⟩ := hrel
   have i0 : (0 : Int) ≤ (k : Int) := by omega
   have HT := Lib.hid ht
   have BL := B5.keep hbl
   have IL := HI.out.kept hbl
   clear ht
   have c5 : wr.cell? ⟨w.heap.size, 5, none⟩ = some (.slice s.eA s.en s.ec) := BL.cell 5
   have gl := BL.lt
   by_cases hlt : k < s.en
   case pos =>
    have i1 : (k : Int) < (s.en : Int) := by omega
    obtain ⟨b, off, hA, hbB, rx⟩ := IL.inn.erow.at k (by omega)
    have HA := Lib.hid hA
    clear hA
    have hs := fun (h : (fun e : En => hasSp ⟨s.lo, s.hi⟩ e.key) (s.es[k]'(by omega)) = true) => all_take_succ (by omega) HT.out h
    have hf := fun (h : (fun e : En => hasSp ⟨s.lo, s.hi⟩ e.key) (s.es[k]'(by omega)) = false) => all_at_false (p := fun e : En => hasSp ⟨s.lo, s.hi⟩ e.key) (l := s.es) (k := k) (by omega) h
    have hkx := IL.keys (s.es[k]'(by omega)) (List.getElem_mem (by omega))
    obtain ⟨x, hxk⟩ : ∃ x, s.es[k]'(by omega) = x := ⟨_, rfl⟩
    rw [hxk] at rx hkx
    simp only [hxk] at hs hf
    have HS := Lib.hid hs
    have HF := Lib.hid hf
    have RX := Lib.hid rx
    clear hxk hs hf rx
    go_wp2_with fail
    clear c5
    refine wp_region_held_drew (S := (fun W' => OneB wr w.heap.size 30 (shA s) W')) (by kernel_rfl) ⟨(Below.refl _ wr).drew, BL.drew⟩ (fun hH => ?_)
    refine tk 0 (.pointer (some ⟨w.heap.size, 2, none⟩)) 88 rfl rfl (by kernel_rfl) (fun _ _ _ h => h) (.inl ⟨by rfl, by intro W' hS; go_simp⟩) hH ?_
    try simp only [Act.put, aset]
    refine tk 1 (.agg #[.string ⟨s.lo.toArray⟩, .string ⟨s.hi.toArray⟩]) 89 rfl rfl (by kernel_rfl) (fun _ _ _ h => h) (yieldsIf_load_mid (by rfl) 24 _ rfl (w.heap.size) (2) (by rfl) [.string ⟨s.lo.toArray⟩, .string ⟨s.hi.toArray⟩] _ (fun _ h => Blk.range h.b 2 _ (by rfl)) Tryz.underlying24 (by with_unfolding_all rfl) (by with_unfolding_all rfl)) hH ?_
    try simp only [Act.put, aset]
    refine tk 2 (.pointer (some ⟨w.heap.size, 5, none⟩)) 90 rfl rfl (by kernel_rfl) (fun _ _ _ h => h) (.inl ⟨by rfl, by intro W' hS; go_simp⟩) hH ?_
    try simp only [Act.put, aset]
    refine tk 3 (.slice (some ⟨b, off, none⟩) s.en s.ec) 91 rfl rfl (by kernel_rfl) (fun _ _ _ h => h) (.inl ⟨by rfl, by intro W' hS; have hc : W'.cell? ⟨w.heap.size, 5, none⟩ = some (.slice (some ⟨b, off, none⟩) s.en s.ec) := (hS.b.cell 5).trans (by rw [← HA.out]; rfl); go_simp⟩) hH ?_
    try simp only [Act.put, aset]
    refine tk 4 (.int .i64 k) 92 rfl rfl (by kernel_rfl) (fun _ _ _ h => h) (.inl ⟨by rfl, by intro W' hS; go_simp⟩) hH ?_
    try simp only [Act.put, aset]
    refine tk 5 (.pointer (some ⟨b, off + k * 2, none⟩)) 93 rfl rfl (by kernel_rfl) (fun _ _ _ h => h) (.inl ⟨by rfl, by intro W' hS; go_simp⟩) hH ?_
    try simp only [Act.put, aset]
    refine tk 6 (.pointer (some ⟨b, off + k * 2, none⟩)) 94 rfl rfl (by kernel_rfl) (fun _ _ _ h => h) (.inl ⟨by rfl, by intro W' hS; go_simp⟩) hH ?_
    try simp only [Act.put, aset]
    refine tk 7 (.string ⟨x.key.toArray⟩) 95 rfl rfl (by kernel_rfl) (fun _ _ _ h => h) (.inl ⟨by rfl, by intro W' hS; have hc : W'.cell? ⟨b, off + k * 2, none⟩ = some (.string ⟨x.key.toArray⟩) := rng0 (rng_below RX.out hS.below hbB); go_simp⟩) hH ?_
    try simp only [Act.put, aset]
    refine wpAnyH_ready (rs := [8]) (by kernel_rfl) (by simp) ?_
    refine AllReadyH.cons rfl (fun K hK => ?_) AllReadyH.nil
    go_simp
    refine (refsphas_any s.lo s.hi (Nat.le_trans HI.out.lo (by decide)) (Nat.le_trans HI.out.hi (by decide)) x.key (Nat.le_trans hkx (by decide)) _).mono ?_
    rintro ex w9 ⟨rfl, d9⟩
    have S9 := hH.call d9
    clear hH d9
    obtain ⟨q, hq⟩ : ∃ q, hasSp ⟨s.lo, s.hi⟩ x.key = q := ⟨_, rfl⟩
    rw [hq]
    have HQ := Lib.hid hq
    clear hq
    cases q
    case false =>
     refine hK.out _ _ S9 (fun hH => ?_)
     clear hK K
     try simp only [Act.put, aset]
     refine tk 9 (.bool true) 97 rfl rfl (by kernel_rfl) (fun _ _ _ h => h) (.inl ⟨by rfl, by intro W' hS; go_simp⟩) hH ?_
     try simp only [Act.put, aset]
     refine wpAnyH_done (by kernel_rfl) ?_ _
     have hv : r = false := by rw [HR2.out]; exact HF.out HQ.out
     subst hv
     go_wp2
     go_ret
     exact ⟨by kernel_rfl, bt hb5 (hbl.trans (hH.below.mono hbl.size))⟩
    case true =>
     refine hK.out _ _ S9 (fun hH => ?_)
     clear hK K
     try simp only [Act.put, aset]
     refine tk 9 (.bool false) 97 rfl rfl (by kernel_rfl) (fun _ _ _ h => h) (.inl ⟨by rfl, by intro W' hS; go_simp⟩) hH ?_
     try simp only [Act.put, aset]
     refine wpAnyH_done (by kernel_rfl) ?_ _
     go_wp2_with fail
     go_roundw
     case rel => exact ⟨k + 1, by go_num, by omega, HS.out HQ.out, hbl.trans (hH.below.mono hbl.size)⟩
     case measure => simp [intOf]; omega
   case neg =>
    have hv : r = true := by rw [HR2.out]; exact all_full (k := k) (by omega) HT.out
    subst hv
    go_wp2
    go_ret
    exact ⟨by kernel_rfl, bt hb5 hbl⟩
def upV (a t n : Int) (v : Vs) : Bool := !decide (cmpS a t n v.a v.t v.n < 0)
set_option maxHeartbeats 12800000 in
set_option maxRecDepth 100000 in
theorem dupto_any (s : Sh) (a t n : Int) (w : World) (hI : ShIn w w.heap.size s) :
  Calls Tryz.prog 58 #[shV s, stampV a t n] w fun e w' => e = .returned (.bool (upB s a t n)) ∧ Below w.heap.size w w' := by
 obtain ⟨r, hr⟩ : ∃ r, upB s a t n = r := ⟨_, rfl⟩
 rw [hr]
 have hr2 : r = s.es.all (fun e => e.vs.all (upV a t n)) := hr.symm
 have HV := Lib.hid hr2
 clear hr hr2
 have B0 : Blk (w.alloc (.cells (shA s) 30)) w.heap.size 30 (shA s) := Blk.new w _ _
 have hb0 : Below w.heap.size w (w.alloc (.cells (shA s) 30)) := bal (b0 w) _
 have B1 : Blk ((w.alloc (.cells (shA s) 30)).alloc (.cells #[.int .i64 a, .int .i64 t, .int .i64 n] 27)) (w.heap.size + 1) 27 #[.int .i64 a, .int .i64 t, .int .i64 n] := Blk.new' _ _ _ _ (by simp)
 have hb1 : Below w.heap.size w ((w.alloc (.cells (shA s) 30)).alloc (.cells #[.int .i64 a, .int .i64 t, .int .i64 n] 27)) := bal hb0 _
 have B2 := B0.alloc (.cells #[.int .i64 a, .int .i64 t, .int .i64 n] 27)
 have I1 := hI.kept hb1
 have hlen := hI.elen
 have h63 := hI.e63
 go_enter Tryz.func58, Tryz.ntmps58
 go_upto_region 1 with (fail)
 clear B0 hb0 hI
 generalize (w.alloc (.cells (shA s) 30)).alloc (.cells #[.int .i64 a, .int .i64 t, .int .i64 n] 27) = W at *
 generalize hg1 : w.heap.size + 1 = g1 at *
 have HI := Lib.hid I1
 clear I1
 have c5 : W.cell? ⟨w.heap.size, 5, none⟩ = some (.slice s.eA s.en s.ec) := B2.cell 5
 have gl := B2.lt
 go_wp2_with fail
 clear c5 gl
 go_loopw [5] (fun i wr => ∃ k : Nat, i = .int .i64 k ∧ k ≤ s.en ∧ (s.es.take k).all (fun e => e.vs.all (upV a t n)) = true ∧ Below W.heap.size W wr) (fun i _ => s.en - (intOf i).toNat)
 case atStart => exact ⟨0, rfl, Nat.zero_le _, rfl, Below.refl _ _⟩
 case round =>
  obtain ⟨k, rfl, hk, ht, hbl⟩ := hrel
  have i0 : (0 : Int) ≤ (k : Int) := by omega
  have HT := Lib.hid ht
  clear ht
  have BL := B2.keep hbl
  have c5 : wr.cell? ⟨w.heap.size, 5, none⟩ = some (.slice s.eA s.en s.ec) := BL.cell 5
  have gl := BL.lt
  by_cases hlt : k < s.en
  case pos =>
   have i1 : (k : Int) < (s.en : Int) := by omega
   have IL := HI.out.kept hbl
   obtain ⟨b, off, hA, hbB, rx⟩ := IL.erow.at k (by omega)
   have HA := Lib.hid hA
   have hin := IL.es (s.es[k]'(by omega)) (List.getElem_mem (by omega))
   have hs := fun (h : (fun e : En => e.vs.all (upV a t n)) (s.es[k]'(by omega)) = true) => all_take_succ (by omega) HT.out h
   have hf := fun (h : (fun e : En => e.vs.all (upV a t n)) (s.es[k]'(by omega)) = false) => all_at_false (p := fun e : En => e.vs.all (upV a t n)) (l := s.es) (k := k) (by omega) h
   obtain ⟨x, hxk⟩ : ∃ x, s.es[k]'(by omega) = x := ⟨_, rfl⟩
   rw [hxk] at rx hin
   simp only [hxk] at hs hf
   have HS := Lib.hid hs
   have HF := Lib.hid hf
   have RX := Lib.hid rx
   have HIN := Lib.hid hin
   have hvl := hin.len
   have hv63 := hin.m63
   clear hxk hs hf rx hin IL hA
   have x1 : wr.cell? ⟨b, off + k * 2 + 1, none⟩ = some (.slice x.A x.n x.c) := rng1 RX.out
   have c5' : wr.cell? ⟨w.heap.size, 5, none⟩ = some (.slice (some ⟨b, off, none⟩) s.en s.ec) := by rw [c5, HA.out]
   clear c5
   go_wp2_with fail
   clear c5' x1 gl
   obtain ⟨wo, hh⟩ : ∃ x, x = wr := ⟨_, rfl⟩
   subst hh
   go_loopw [6] (fun i wr' => ∃ j : Nat, i = .int .i64 j ∧ j ≤ x.n ∧ (x.vs.take j).all (upV a t n) = true ∧ Below wo.heap.size wo wr') (fun i _ => x.n - (intOf i).toNat)
   case atStart => exact ⟨0, rfl, Nat.zero_le _, rfl, Below.refl _ _⟩
   case round =>
    obtain ⟨j, rfl, hj, ht, hbm⟩ := hrel
    have j0 : (0 : Int) ≤ (j : Int) := by omega
    have HU := Lib.hid ht
    clear ht
    have BM := BL.keep hbm
    have B1M := (B1.keep hbl).keep hbm
    have c5 : wr.cell? ⟨w.heap.size, 5, none⟩ = some (.slice (some ⟨b, off, none⟩) s.en s.ec) := (BM.cell 5).trans (by rw [← HA.out]; rfl)
    have gl := BM.lt
    have x1 : wr.cell? ⟨b, off + k * 2 + 1, none⟩ = some (.slice x.A x.n x.c) := rng1 (rng_below RX.out hbm hbB)
    by_cases hjt : j < x.n
    case pos =>
     have j1 : (j : Int) < (x.n : Int) := by omega
     obtain ⟨b2, off2, hA2, hbB2, rv⟩ := (HIN.out.kept hbm).row.at j (by omega)
     have HA2 := Lib.hid hA2
     have hs := fun (h : upV a t n (x.vs[j]'(by omega)) = true) => all_take_succ (by omega) HU.out h
     have hf := fun (h : upV a t n (x.vs[j]'(by omega)) = false) => all_at_false (by omega) h
     obtain ⟨v, hvk⟩ : ∃ v, x.vs[j]'(by omega) = v := ⟨_, rfl⟩
     rw [hvk] at rv hs hf
     have HS2 := Lib.hid hs
     have HF2 := Lib.hid hf
     have RV := Lib.hid rv
     clear hvk hs hf rv hA2
     go_wp2_with fail
     clear c5 x1 gl
     refine wp_region_held_drew (S := (fun W' => Below wr.heap.size wr W' ∧ Blk W' w.heap.size 30 (shA s) ∧ Blk W' g1 27 #[.int .i64 a, .int .i64 t, .int .i64 n])) (by kernel_rfl) ⟨(Below.refl _ wr).drew, BM.drew, B1M.drew⟩ (fun hH => ?_)
     refine tk 0 (stampV a t n) 25 rfl rfl (by kernel_rfl) (fun _ _ _ h => h) (yif_ld (by rfl) 27 _ rfl (by rfl) (fun _ h => h.2.2) _ Tryz.underlying27 (by with_unfolding_all rfl) (by with_unfolding_all rfl)) hH ?_
     try simp only [Act.put, aset]
     refine tk 1 (.pointer (some ⟨w.heap.size, 5, none⟩)) 26 rfl rfl (by kernel_rfl) (fun _ _ _ h => h) (.inl ⟨by rfl, by intro W' hS; go_simp⟩) hH ?_
     try simp only [Act.put, aset]
     refine tk 2 (.slice (some ⟨b, off, none⟩) s.en s.ec) 27 rfl rfl (by kernel_rfl) (fun _ _ _ h => h) (.inl ⟨by rfl, by intro W' hS; have hc : W'.cell? ⟨w.heap.size, 5, none⟩ = some (.slice (some ⟨b, off, none⟩) s.en s.ec) := (hS.2.1.cell 5).trans (by rw [← HA.out]; rfl); go_simp⟩) hH ?_
     try simp only [Act.put, aset]
     refine tk 3 (.int .i64 k) 28 rfl rfl (by kernel_rfl) (fun _ _ _ h => h) (.inl ⟨by rfl, by intro W' hS; go_simp⟩) hH ?_
     try simp only [Act.put, aset]
     refine tk 4 (.pointer (some ⟨b, off + k * 2, none⟩)) 29 rfl rfl (by kernel_rfl) (fun _ _ _ h => h) (.inl ⟨by rfl, by intro W' hS; go_simp⟩) hH ?_
     try simp only [Act.put, aset]
     refine tk 5 (.pointer (some ⟨b, off + k * 2 + 1, none⟩)) 30 rfl rfl (by kernel_rfl) (fun _ _ _ h => h) (.inl ⟨by rfl, by intro W' hS; go_simp⟩) hH ?_
     try simp only [Act.put, aset]
     refine tk 6 (.slice (some ⟨b2, off2, none⟩) x.n x.c) 31 rfl rfl (by kernel_rfl) (fun _ _ _ h => h) (.inl ⟨by rfl, by intro W' hS; have hc : W'.cell? ⟨b, off + k * 2 + 1, none⟩ = some (.slice (some ⟨b2, off2, none⟩) x.n x.c) := (rng1 (rng_below (rng_below RX.out hbm hbB) hS.1 (Nat.lt_of_lt_of_le hbB hbm.size))).trans (by rw [← HA2.out]); go_simp⟩) hH ?_
     try simp only [Act.put, aset]
     refine tk 7 (.int .i64 j) 32 rfl rfl (by kernel_rfl) (fun _ _ _ h => h) (.inl ⟨by rfl, by intro W' hS; go_simp⟩) hH ?_
     try simp only [Act.put, aset]
     refine tk 8 (.pointer (some ⟨b2, off2 + j * 5, none⟩)) 33 rfl rfl (by kernel_rfl) (fun _ _ _ h => h) (.inl ⟨by rfl, by intro W' hS; go_simp⟩) hH ?_
     try simp only [Act.put, aset]
     refine tk 9 (.pointer (some ⟨b2, off2 + j * 5, none⟩)) 34 rfl rfl (by kernel_rfl) (fun _ _ _ h => h) (.inl ⟨by rfl, by intro W' hS; go_simp⟩) hH ?_
     try simp only [Act.put, aset]
     refine tk 10 (stampV v.a v.t v.n) 35 rfl rfl (by kernel_rfl) (fun _ _ _ h => h) (yieldsIf_load_mid (by rfl) 27 _ rfl (b2) (off2 + j * 5) (by rfl) [.int .i64 v.a, .int .i64 v.t, .int .i64 v.n] _ (fun _ h => (rng_pre (more := [.bool v.gone, .string ⟨v.val.toArray⟩]) (rng_below RV.out h.1 hbB2))) Tryz.underlying27 (by with_unfolding_all rfl) (by with_unfolding_all rfl)) hH ?_
     try simp only [Act.put, aset]
     refine wpAnyH_ready (rs := [11]) (by kernel_rfl) (by simp) ?_
     refine AllReadyH.cons rfl (fun K hK => ?_) AllReadyH.nil
     go_simp
     refine (before_any a t n v.a v.t v.n _).mono ?_
     rintro ex w9 ⟨rfl, d9⟩
     have S9 : Below wr.heap.size wr w9 ∧ Blk w9 w.heap.size 30 (shA s) ∧ Blk w9 g1 27 #[.int .i64 a, .int .i64 t, .int .i64 n] := ⟨bt hH.1 d9, hH.2.1.keep d9, hH.2.2.keep d9⟩
     clear hH d9
     obtain ⟨q, hq⟩ : ∃ q, decide (cmpS a t n v.a v.t v.n < 0) = q := ⟨_, rfl⟩
     rw [hq]
     have HQ := Lib.hid (show upV a t n v = !q by rw [← hq]; rfl)
     clear hq
     cases q
     case false =>
      refine hK.out _ _ S9 (fun hH => ?_)
      clear hK K
      try simp only [Act.put, aset]
      refine wpAnyH_done (by kernel_rfl) ?_ _
      go_wp2_with fail
      go_roundw
      case rel => exact ⟨j + 1, by go_num, by omega, HS2.out HQ.out, hbm.trans (hH.1.mono hbm.size)⟩
      case measure => simp [intOf]; omega
     case true =>
      refine hK.out _ _ S9 (fun hH => ?_)
      clear hK K
      try simp only [Act.put, aset]
      refine wpAnyH_done (by kernel_rfl) ?_ _
      have hv : r = false := by rw [HV.out]; exact HF.out (HF2.out HQ.out)
      subst hv
      go_wp2
      go_ret
      exact ⟨by kernel_rfl, bt hb1 (hbl.trans ((hbm.trans (hH.1.mono hbm.size)).mono hbl.size))⟩
    case neg =>
     have HX := Lib.hid (HS.out (all_full (k := j) (by omega) HU.out))
     go_wp2_with fail
     go_roundw
     case rel => exact ⟨k + 1, by go_num, by omega, HX.out, hbl.trans (hbm.mono hbl.size)⟩
     case measure => simp [intOf]; omega
  case neg =>
   have hv : r = true := by rw [HV.out]; exact all_full (k := k) (by omega) HT.out
   subst hv
   go_wp2
   go_ret
   exact ⟨by kernel_rfl, bt hb1 hbl⟩
end Go.Proofs.YtkoligiilieboaaGreatDoor
