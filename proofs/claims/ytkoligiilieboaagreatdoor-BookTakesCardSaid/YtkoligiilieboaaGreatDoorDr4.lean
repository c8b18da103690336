/- The document's Right of cells. -/
import Derived.Test.YtkoligiilieboaaGreatDoorDr3
set_option linter.unusedSimpArgs false
set_option linter.unusedVariables false
namespace Go.Proofs.YtkoligiilieboaaGreatDoor
open Go.RowKit
attribute [local go_sem] ByteArray.mk_append_mk ByteArray.extract_mk
attribute [local go_sem ↓] Go.wp_at_zero Go.wp_at_succ
structure CeSm (w : World) (B : Nat) (c : Ce) : Prop where
 inn : CeIn w B c
 sms : ∀ s ∈ c.ss, ShSm w B s
theorem CeSm.kept {w w' : World} {c : Ce} (h : CeSm w w.heap.size c) (hb : Below w.heap.size w w') : CeSm w' w'.heap.size c := ⟨h.inn.kept hb, fun s hs => (h.sms s hs).kept hb⟩
theorem CeSm.ok {w : World} {c : Ce} (h : CeSm w w.heap.size c) : CeOk w w.heap.size c := ⟨h.inn, fun s hs => ⟨(h.sms s hs).inn, Nat.le_trans (h.sms s hs).lo (by decide), Nat.le_trans (h.sms s hs).hi (by decide), fun x hx => Nat.le_trans ((h.sms s hs).keys x hx) (by decide)⟩⟩
theorem rng_id {w : World} {b o : Nat} {s : Sh} (h : w.rangeAt b o (shC s)) : w.cell? ⟨b, o, none⟩ = some (.int .i64 s.id) := h 0 _ rfl
theorem run_gtr_int {P : Program} (t : TypeId) (i j : Int) (w : World) : (Go.binOp .gtr t (.int .i64 i) (.int .i64 j)).run P w = .ok (.bool (decide (j < i))) w := by
 simp [Go.binOp, Op.intCmp, go_sem]
set_option maxHeartbeats 12800000 in
set_option maxRecDepth 100000 in
theorem drce_any (c : Ce) (w : World) (hI : CeSm w w.heap.size c) :
  Calls Tryz.prog 20 #[ceV c] w fun e w' => e = .returned (.bool (ceB c)) ∧ Below w.heap.size w w' := by
 obtain ⟨r, hr⟩ : ∃ r, ceB c = r := ⟨_, rfl⟩
 rw [hr]
 have B0 : Blk (w.alloc (.cells (ceA c) 38)) w.heap.size 38 (ceA c) := Blk.new w _ _
 have hb0 : Below w.heap.size w (w.alloc (.cells (ceA c) 38)) := bal (b0 w) _
 have hsn := hI.inn.len
 have h63 := hI.inn.m63
 go_enter Tryz.func20, Tryz.ntmps20
 go_upto_region 1 with (fail)
 generalize w.alloc (.cells (ceA c) 38) = W0 at *
 obtain ⟨f, hf⟩ : ∃ f : Sh → Bool, (fun s => upB s c.ta c.tt c.tn) = f := ⟨_, rfl⟩
 have hff : ∀ s, upB s c.ta c.tt c.tn = f s := fun s => by rw [← hf]
 have hrow0 : r = ((decide (c.ss.length ≤ 8) && (rightB c.ta c.tt c.tn && fitsB c.drop)) && rowB (fun s => shB s && f s) slt c.ss) := by rw [← hr, ← hf]; rfl
 have HF := Lib.hid hff
 have HR := Lib.hid hrow0
 have HI := Lib.hid hI
 clear hf hff hrow0 hr hI
 have c0 : W0.cell? ⟨w.heap.size, 0, none⟩ = some (.slice c.sA c.sn c.sc) := B0.cell 0
 have c1 : W0.cell? ⟨w.heap.size, 1, none⟩ = some (.int .i64 c.ta) := B0.cell 1
 have c2 : W0.cell? ⟨w.heap.size, 2, none⟩ = some (.int .i64 c.tt) := B0.cell 2
 have c3 : W0.cell? ⟨w.heap.size, 3, none⟩ = some (.int .i64 c.tn) := B0.cell 3
 have gl := B0.lt
 by_cases h8 : c.sn ≤ 8
 case neg =>
  have h9 : (8 : Int) < (c.sn : Int) := by omega
  have hv : r = false := by rw [HR.out, hsn, decide_eq_false h8]; rfl
  subst hv
  go_wp2
  go_ret
  exact ⟨by kernel_rfl, hb0⟩
 case pos =>
 have h9 : ¬ (8 : Int) < (c.sn : Int) := by omega
 go_wp2_with fail
 refine (refright_any c.ta c.tt c.tn _).mono ?_
 rintro ex w1 ⟨rfl, d1⟩
 have B1 := B0.keep d1
 have hb1 := bt hb0 d1
 clear d1 B0 hb0 c0 c1 c2 c3 gl
 cases hq : rightB c.ta c.tt c.tn
 case false =>
  have hv : r = false := by rw [HR.out, hq]; simp
  subst hv
  clear hq
  go_wp2
  go_ret
  exact ⟨by kernel_rfl, hb1⟩
 case true =>
 have HQ1 := Lib.hid hq
 clear hq
 have c4 : w1.cell? ⟨w.heap.size, 4, none⟩ = some (.int .i64 c.drop) := B1.cell 4
 have gl := B1.lt
 go_wp2_with fail
 refine (rnought_any c.drop _).mono ?_
 rintro ex w2 ⟨rfl, rfl⟩
 cases hq : fitsB c.drop
 case false =>
  have hv : r = false := by rw [HR.out, hq]; simp
  subst hv
  clear hq
  go_wp2
  go_ret
  exact ⟨by kernel_rfl, hb1⟩
 case true =>
 have hr2 : r = rowB (fun s => shB s && f s) slt c.ss := by rw [HR.out, HQ1.out, hq, hsn, decide_eq_true h8]; rfl
 have HV := Lib.hid hr2
 clear hq hr2
 have c0 : w1.cell? ⟨w.heap.size, 0, none⟩ = some (.slice c.sA c.sn c.sc) := B1.cell 0
 go_wp2_with fail
 clear c0 c4 gl h9
 go_loopw [3] (fun i wr => ∃ k : Nat, i = .int .i64 k ∧ k ≤ c.sn ∧ (∀ j, j < k → stepB (fun s => shB s && f s) slt c.ss j = true) ∧ Below w.heap.size w wr ∧ Blk wr w.heap.size 38 (ceA c)) (fun i _ => c.sn - (intOf i).toNat)
 case atStart => exact ⟨0, rfl, Nat.zero_le _, (fun j hj => absurd hj (Nat.not_lt_zero _)), hb1, B1⟩
 case round =>
  clear hb1 B1
  obtain ⟨k, rfl, hk, ht, hb, B1⟩ := hrel
  have i0 : (0 : Int) ≤ (k : Int) := by omega
  have HT := Lib.hid ht
  clear ht
  have c0 : wr.cell? ⟨w.heap.size, 0, none⟩ = some (.slice c.sA c.sn c.sc) := B1.cell 0
  have gl := B1.lt
  by_cases hlt : k < c.sn
  case pos =>
   have i1 : (k : Int) < (c.sn : Int) := by omega
   have hs0 := step_sh (ss := c.ss) (f := f) (k := k) (by omega)
   have hf := fun (h : stepB (fun s => shB s && f s) slt c.ss k = false) => (rowB_false (ok := (fun s => shB s && f s)) (lt := slt) (l := c.ss) (by omega) h)
   have hsm := HI.out.sms (c.ss[k]'(by omega)) (List.getElem_mem (by omega))
   obtain ⟨b, off, hA, hbB, rx⟩ := HI.out.inn.row.at k (by omega)
   obtain ⟨x, hxk⟩ : ∃ x, c.ss[k]'(by omega) = x := ⟨_, rfl⟩
   simp only [hxk] at hs0 hsm rx
   have HA := Lib.hid hA
   have HS := Lib.hid hs0
   have HX := Lib.hid hf
   have HO := Lib.hid hsm
   have RX := Lib.hid rx
   clear hxk hs0 hf hsm rx
   go_wp2_with fail
   clear c0
   by_cases hk0 : k = 0
   case pos =>
    have HB0 := Lib.hid (show decide ((0 : Int) < (k : Int)) = false by rw [hk0]; rfl)
    have hlast : lastS c.ss k = 0 := by rw [hk0]; rfl
    clear hA hk0
    by_cases h0 : 0 < x.id
    case pos =>
     have HLT := Lib.hid (show decide (lastS c.ss k < x.id) = true by rw [hlast]; exact decide_eq_true h0)
     clear hlast
     refine wp_region_held_drew (S := (fun W' => OneB w w.heap.size 38 (ceA c) W')) (by kernel_rfl) ⟨hb.drew, B1.drew⟩ (fun hH => ?_)
     refine tk 0 (.pointer (some ⟨w.heap.size, 0, none⟩)) 27 rfl rfl (by kernel_rfl) (fun _ _ _ h => h) (.inl ⟨by rfl, by intro W' hS; go_simp⟩) hH ?_
     try simp only [Act.put, aset]
     refine tk 1 (.slice (some ⟨b, off, none⟩) c.sn c.sc) 28 rfl rfl (by kernel_rfl) (fun _ _ _ h => h) (.inl ⟨by rfl, by intro W' hS; have hc : W'.cell? ⟨w.heap.size, 0, none⟩ = some (.slice (some ⟨b, off, none⟩) c.sn c.sc) := (hS.b.cell 0).trans (by rw [← HA.out]; rfl); go_simp⟩) hH ?_
     try simp only [Act.put, aset]
     refine tk 2 (.int .i64 k) 29 rfl rfl (by kernel_rfl) (fun _ _ _ h => h) (.inl ⟨by rfl, by intro W' hS; go_simp⟩) hH ?_
     try simp only [Act.put, aset]
     refine tk 3 (.pointer (some ⟨b, off + k * 17, none⟩)) 30 rfl rfl (by kernel_rfl) (fun _ _ _ h => h) (.inl ⟨by rfl, by intro W' hS; go_simp⟩) hH ?_
     try simp only [Act.put, aset]
     refine tk 4 (shV x) 31 rfl rfl (by kernel_rfl) (fun _ _ _ h => h) (yieldsIf_load_mid (by rfl) 30 _ rfl (b) (off + k * 17) (by rfl) (shC x) _ (fun _ h => rng_below RX.out h.below hbB) Tryz.underlying30 (by with_unfolding_all rfl) (by with_unfolding_all rfl)) hH ?_
     try simp only [Act.put, aset]
     refine wpAnyH_ready (rs := [5]) (by kernel_rfl) (by simp) ?_
     refine AllReadyH.cons rfl (fun K hK => ?_) AllReadyH.nil
     go_simp
     refine (drsh_any x _ (HO.out.kept hH.below)).mono ?_
     rintro ex w8 ⟨rfl, d8⟩
     have S8 := hH.call d8
     clear hH d8
     cases hq : shB x
     case false =>
      have HQ1 := Lib.hid hq
      clear hq
      refine hK.out _ _ S8 (fun hH => ?_)
      clear hK K
      try simp only [Act.put, aset]
      refine tk 6 (.bool true) 33 rfl rfl (by kernel_rfl) (fun _ _ _ h => h) (.inl ⟨by rfl, by intro W' hS; go_simp⟩) hH ?_
      try simp only [Act.put, aset]
      refine tk 7 (.bool true) 34 rfl rfl (by kernel_rfl) (fun _ _ _ h => h) (.inl ⟨by rfl, by intro W' hS; go_simp⟩) hH ?_
      try simp only [Act.put, aset]
      refine tk 8 undef 35 rfl rfl (by kernel_rfl) (fun _ _ _ h => h) (.inr ⟨by kernel_rfl, rfl⟩) hH ?_
      try simp only [Act.put, aset]
      refine tk 9 undef 36 rfl rfl (by kernel_rfl) (fun _ _ _ h => h) (.inr ⟨by kernel_rfl, rfl⟩) hH ?_
      try simp only [Act.put, aset]
      refine tk 10 undef 37 rfl rfl (by kernel_rfl) (fun _ _ _ h => h) (.inr ⟨by kernel_rfl, rfl⟩) hH ?_
      try simp only [Act.put, aset]
      refine tk 11 undef 38 rfl rfl (by kernel_rfl) (fun _ _ _ h => h) (.inr ⟨by kernel_rfl, rfl⟩) hH ?_
      try simp only [Act.put, aset]
      refine tk 12 undef 39 rfl rfl (by kernel_rfl) (fun _ _ _ h => h) (.inr ⟨by kernel_rfl, rfl⟩) hH ?_
      try simp only [Act.put, aset]
      refine tk 13 undef 40 rfl rfl (by kernel_rfl) (fun _ _ _ h => h) (.inr ⟨by kernel_rfl, rfl⟩) hH ?_
      try simp only [Act.put, aset]
      refine tk 14 undef 41 rfl rfl (by kernel_rfl) (fun _ _ _ h => h) (.inr ⟨by kernel_rfl, rfl⟩) hH ?_
      try simp only [Act.put, aset]
      refine wpAnyH_ready (rs := [15]) (by kernel_rfl) (by simp) ?_
      refine AllReadyH.cons rfl (fun K hK => ?_) AllReadyH.nil
      go_simp
      refine hK.out _ _ hH (fun hH => ?_)
      clear hK K
      try simp only [Act.put, aset]
      refine tk 16 undef 43 rfl rfl (by kernel_rfl) (fun _ _ _ h => h) (.inr ⟨by kernel_rfl, rfl⟩) hH ?_
      try simp only [Act.put, aset]
      refine tk 17 (.bool true) 44 rfl rfl (by kernel_rfl) (fun _ _ _ h => h) (.inl ⟨by rfl, by intro W' hS; go_simp⟩) hH ?_
      try simp only [Act.put, aset]
      refine tk 18 (.bool true) 45 rfl rfl (by kernel_rfl) (fun _ _ _ h => h) (.inl ⟨by rfl, by intro W' hS; go_simp⟩) hH ?_
      try simp only [Act.put, aset]
      refine tk 19 undef 46 rfl rfl (by kernel_rfl) (fun _ _ _ h => h) (.inr ⟨by kernel_rfl, rfl⟩) hH ?_
      try simp only [Act.put, aset]
      refine tk 20 undef 47 rfl rfl (by kernel_rfl) (fun _ _ _ h => h) (.inr ⟨by kernel_rfl, rfl⟩) hH ?_
      try simp only [Act.put, aset]
      refine tk 21 undef 48 rfl rfl (by kernel_rfl) (fun _ _ _ h => h) (.inr ⟨by kernel_rfl, rfl⟩) hH ?_
      try simp only [Act.put, aset]
      refine tk 22 undef 49 rfl rfl (by kernel_rfl) (fun _ _ _ h => h) (.inr ⟨by kernel_rfl, rfl⟩) hH ?_
      try simp only [Act.put, aset]
      refine tk 23 undef 50 rfl rfl (by kernel_rfl) (fun _ _ _ h => h) (.inr ⟨by kernel_rfl, rfl⟩) hH ?_
      try simp only [Act.put, aset]
      refine tk 24 undef 51 rfl rfl (by kernel_rfl) (fun _ _ _ h => h) (.inr ⟨by kernel_rfl, rfl⟩) hH ?_
      try simp only [Act.put, aset]
      refine tk 25 undef 52 rfl rfl (by kernel_rfl) (fun _ _ _ h => h) (.inr ⟨by kernel_rfl, rfl⟩) hH ?_
      try simp only [Act.put, aset]
      refine tk 26 undef 53 rfl rfl (by kernel_rfl) (fun _ _ _ h => h) (.inr ⟨by kernel_rfl, rfl⟩) hH ?_
      try simp only [Act.put, aset]
      refine tk 27 undef 54 rfl rfl (by kernel_rfl) (fun _ _ _ h => h) (.inr ⟨by kernel_rfl, rfl⟩) hH ?_
      try simp only [Act.put, aset]
      refine tk 28 undef 55 rfl rfl (by kernel_rfl) (fun _ _ _ h => h) (.inr ⟨by kernel_rfl, rfl⟩) hH ?_
      try simp only [Act.put, aset]
      refine tk 29 undef 56 rfl rfl (by kernel_rfl) (fun _ _ _ h => h) (.inr ⟨by kernel_rfl, rfl⟩) hH ?_
      try simp only [Act.put, aset]
      refine tk 30 undef 57 rfl rfl (by kernel_rfl) (fun _ _ _ h => h) (.inr ⟨by kernel_rfl, rfl⟩) hH ?_
      try simp only [Act.put, aset]
      refine tk 31 undef 58 rfl rfl (by kernel_rfl) (fun _ _ _ h => h) (.inr ⟨by kernel_rfl, rfl⟩) hH ?_
      try simp only [Act.put, aset]
      refine tk 32 undef 59 rfl rfl (by kernel_rfl) (fun _ _ _ h => h) (.inr ⟨by kernel_rfl, rfl⟩) hH ?_
      try simp only [Act.put, aset]
      refine tk 33 undef 60 rfl rfl (by kernel_rfl) (fun _ _ _ h => h) (.inr ⟨by kernel_rfl, rfl⟩) hH ?_
      try simp only [Act.put, aset]
      refine tk 34 undef 61 rfl rfl (by kernel_rfl) (fun _ _ _ h => h) (.inr ⟨by kernel_rfl, rfl⟩) hH ?_
      try simp only [Act.put, aset]
      refine tk 35 undef 62 rfl rfl (by kernel_rfl) (fun _ _ _ h => h) (.inr ⟨by kernel_rfl, rfl⟩) hH ?_
      try simp only [Act.put, aset]
      refine tk 36 undef 63 rfl rfl (by kernel_rfl) (fun _ _ _ h => h) (.inr ⟨by kernel_rfl, rfl⟩) hH ?_
      try simp only [Act.put, aset]
      refine tk 37 (.bool true) 64 rfl rfl (by kernel_rfl) (fun _ _ _ h => h) (.inl ⟨by rfl, by intro W' hS; go_simp⟩) hH ?_
      try simp only [Act.put, aset]
      refine wpAnyH_done (by kernel_rfl) ?_ _
      have hv : r = false := by rw [HV.out]; exact HX.out (by rw [HS.out, HQ1.out]; simp)
      subst hv
      go_wp2
      go_ret
      exact ⟨by kernel_rfl, hH.below⟩
     case true =>
      have HQ1 := Lib.hid hq
      clear hq
      refine hK.out _ _ S8 (fun hH => ?_)
      clear hK K
      try simp only [Act.put, aset]
      refine tk 6 (.bool false) 33 rfl rfl (by kernel_rfl) (fun _ _ _ h => h) (.inl ⟨by rfl, by intro W' hS; go_simp⟩) hH ?_
      try simp only [Act.put, aset]
      refine tk 7 (.bool false) 34 rfl rfl (by kernel_rfl) (fun _ _ _ h => h) (.inl ⟨by rfl, by intro W' hS; go_simp⟩) hH ?_
      try simp only [Act.put, aset]
      refine tk 8 (.pointer (some ⟨w.heap.size, 0, none⟩)) 35 rfl rfl (by kernel_rfl) (fun _ _ _ h => h) (.inl ⟨by rfl, by intro W' hS; go_simp⟩) hH ?_
      try simp only [Act.put, aset]
      refine tk 9 (.slice (some ⟨b, off, none⟩) c.sn c.sc) 36 rfl rfl (by kernel_rfl) (fun _ _ _ h => h) (.inl ⟨by rfl, by intro W' hS; have hc : W'.cell? ⟨w.heap.size, 0, none⟩ = some (.slice (some ⟨b, off, none⟩) c.sn c.sc) := (hS.b.cell 0).trans (by rw [← HA.out]; rfl); go_simp⟩) hH ?_
      try simp only [Act.put, aset]
      refine tk 10 (.int .i64 k) 37 rfl rfl (by kernel_rfl) (fun _ _ _ h => h) (.inl ⟨by rfl, by intro W' hS; go_simp⟩) hH ?_
      try simp only [Act.put, aset]
      refine tk 11 (.pointer (some ⟨b, off + k * 17, none⟩)) 38 rfl rfl (by kernel_rfl) (fun _ _ _ h => h) (.inl ⟨by rfl, by intro W' hS; go_simp⟩) hH ?_
      try simp only [Act.put, aset]
      refine tk 12 (shV x) 39 rfl rfl (by kernel_rfl) (fun _ _ _ h => h) (yieldsIf_load_mid (by rfl) 30 _ rfl (b) (off + k * 17) (by rfl) (shC x) _ (fun _ h => rng_below RX.out h.below hbB) Tryz.underlying30 (by with_unfolding_all rfl) (by with_unfolding_all rfl)) hH ?_
      try simp only [Act.put, aset]
      refine tk 13 (.pointer (some ⟨w.heap.size, 1, none⟩)) 40 rfl rfl (by kernel_rfl) (fun _ _ _ h => h) (.inl ⟨by rfl, by intro W' hS; go_simp⟩) hH ?_
      try simp only [Act.put, aset]
      refine tk 14 (stampV c.ta c.tt c.tn) 41 rfl rfl (by kernel_rfl) (fun _ _ _ h => h) (yieldsIf_load_mid (by rfl) 27 _ rfl (w.heap.size) (1) (by rfl) [.int .i64 c.ta, .int .i64 c.tt, .int .i64 c.tn] _ (fun _ h => Blk.range h.b 1 _ (by rfl)) Tryz.underlying27 (by with_unfolding_all rfl) (by with_unfolding_all rfl)) hH ?_
      try simp only [Act.put, aset]
      refine wpAnyH_ready (rs := [15]) (by kernel_rfl) (by simp) ?_
      refine AllReadyH.cons rfl (fun K hK => ?_) AllReadyH.nil
      go_simp
      refine (dupto_any x c.ta c.tt c.tn _ (HO.out.kept hH.below).inn).mono ?_
      rintro ex w9 ⟨rfl, d9⟩
      rw [HF.out]
      have S9 := hH.call d9
      clear hH d9
      cases hq : f x
      case false =>
       have HQ2 := Lib.hid hq
       clear hq
       refine hK.out _ _ S9 (fun hH => ?_)
       clear hK K
       try simp only [Act.put, aset]
       refine tk 16 (.bool true) 43 rfl rfl (by kernel_rfl) (fun _ _ _ h => h) (.inl ⟨by rfl, by intro W' hS; go_simp⟩) hH ?_
       try simp only [Act.put, aset]
       refine tk 17 (.bool true) 44 rfl rfl (by kernel_rfl) (fun _ _ _ h => h) (.inl ⟨by rfl, by intro W' hS; go_simp⟩) hH ?_
       try simp only [Act.put, aset]
       refine tk 18 (.bool true) 45 rfl rfl (by kernel_rfl) (fun _ _ _ h => h) (.inl ⟨by rfl, by intro W' hS; go_simp⟩) hH ?_
       try simp only [Act.put, aset]
       refine tk 19 undef 46 rfl rfl (by kernel_rfl) (fun _ _ _ h => h) (.inr ⟨by kernel_rfl, rfl⟩) hH ?_
       try simp only [Act.put, aset]
       refine tk 20 undef 47 rfl rfl (by kernel_rfl) (fun _ _ _ h => h) (.inr ⟨by kernel_rfl, rfl⟩) hH ?_
       try simp only [Act.put, aset]
       refine tk 21 undef 48 rfl rfl (by kernel_rfl) (fun _ _ _ h => h) (.inr ⟨by kernel_rfl, rfl⟩) hH ?_
       try simp only [Act.put, aset]
       refine tk 22 undef 49 rfl rfl (by kernel_rfl) (fun _ _ _ h => h) (.inr ⟨by kernel_rfl, rfl⟩) hH ?_
       try simp only [Act.put, aset]
       refine tk 23 undef 50 rfl rfl (by kernel_rfl) (fun _ _ _ h => h) (.inr ⟨by kernel_rfl, rfl⟩) hH ?_
       try simp only [Act.put, aset]
       refine tk 24 undef 51 rfl rfl (by kernel_rfl) (fun _ _ _ h => h) (.inr ⟨by kernel_rfl, rfl⟩) hH ?_
       try simp only [Act.put, aset]
       refine tk 25 undef 52 rfl rfl (by kernel_rfl) (fun _ _ _ h => h) (.inr ⟨by kernel_rfl, rfl⟩) hH ?_
       try simp only [Act.put, aset]
       refine tk 26 undef 53 rfl rfl (by kernel_rfl) (fun _ _ _ h => h) (.inr ⟨by kernel_rfl, rfl⟩) hH ?_
       try simp only [Act.put, aset]
       refine tk 27 undef 54 rfl rfl (by kernel_rfl) (fun _ _ _ h => h) (.inr ⟨by kernel_rfl, rfl⟩) hH ?_
       try simp only [Act.put, aset]
       refine tk 28 undef 55 rfl rfl (by kernel_rfl) (fun _ _ _ h => h) (.inr ⟨by kernel_rfl, rfl⟩) hH ?_
       try simp only [Act.put, aset]
       refine tk 29 undef 56 rfl rfl (by kernel_rfl) (fun _ _ _ h => h) (.inr ⟨by kernel_rfl, rfl⟩) hH ?_
       try simp only [Act.put, aset]
       refine tk 30 undef 57 rfl rfl (by kernel_rfl) (fun _ _ _ h => h) (.inr ⟨by kernel_rfl, rfl⟩) hH ?_
       try simp only [Act.put, aset]
       refine tk 31 undef 58 rfl rfl (by kernel_rfl) (fun _ _ _ h => h) (.inr ⟨by kernel_rfl, rfl⟩) hH ?_
       try simp only [Act.put, aset]
       refine tk 32 undef 59 rfl rfl (by kernel_rfl) (fun _ _ _ h => h) (.inr ⟨by kernel_rfl, rfl⟩) hH ?_
       try simp only [Act.put, aset]
       refine tk 33 undef 60 rfl rfl (by kernel_rfl) (fun _ _ _ h => h) (.inr ⟨by kernel_rfl, rfl⟩) hH ?_
       try simp only [Act.put, aset]
       refine tk 34 undef 61 rfl rfl (by kernel_rfl) (fun _ _ _ h => h) (.inr ⟨by kernel_rfl, rfl⟩) hH ?_
       try simp only [Act.put, aset]
       refine tk 35 undef 62 rfl rfl (by kernel_rfl) (fun _ _ _ h => h) (.inr ⟨by kernel_rfl, rfl⟩) hH ?_
       try simp only [Act.put, aset]
       refine tk 36 undef 63 rfl rfl (by kernel_rfl) (fun _ _ _ h => h) (.inr ⟨by kernel_rfl, rfl⟩) hH ?_
       try simp only [Act.put, aset]
       refine tk 37 (.bool true) 64 rfl rfl (by kernel_rfl) (fun _ _ _ h => h) (.inl ⟨by rfl, by intro W' hS; go_simp⟩) hH ?_
       try simp only [Act.put, aset]
       refine wpAnyH_done (by kernel_rfl) ?_ _
       have hv : r = false := by rw [HV.out]; exact HX.out (by rw [HS.out, HQ2.out]; simp)
       subst hv
       go_wp2
       go_ret
       exact ⟨by kernel_rfl, hH.below⟩
      case true =>
       have HQ2 := Lib.hid hq
       clear hq
       refine hK.out _ _ S9 (fun hH => ?_)
       clear hK K
       try simp only [Act.put, aset]
       refine tk 16 (.bool false) 43 rfl rfl (by kernel_rfl) (fun _ _ _ h => h) (.inl ⟨by rfl, by intro W' hS; go_simp⟩) hH ?_
       try simp only [Act.put, aset]
       refine tk 17 (.bool false) 44 rfl rfl (by kernel_rfl) (fun _ _ _ h => h) (.inl ⟨by rfl, by intro W' hS; go_simp⟩) hH ?_
       try simp only [Act.put, aset]
       refine tk 18 (.bool false) 45 rfl rfl (by kernel_rfl) (fun _ _ _ h => h) (.inl ⟨by rfl, by intro W' hS; go_simp⟩) hH ?_
       try simp only [Act.put, aset]
       refine tk 19 (.int .i64 k) 46 rfl rfl (by kernel_rfl) (fun _ _ _ h => h) (.inl ⟨by rfl, by intro W' hS; go_simp⟩) hH ?_
       try simp only [Act.put, aset]
       refine tk 20 (.bool (decide ((0 : Int) < (k : Int)))) 47 rfl rfl (by kernel_rfl) (fun _ _ _ h => h) (yif_bin (by rfl) _ _ _ _ _ rfl (.int .i64 (k : Int)) (.int .i64 0) _ (by rfl) (by rfl) (fun _ => guard_int _ _ _ _ _ _ _ _ _) (fun _ => run_gtr_int _ _ _ _)) hH ?_
       rw [HB0.out]
       try simp only [Act.put, aset]
       refine tk 21 (.bool false) 48 rfl rfl (by kernel_rfl) (fun _ _ _ h => h) (.inl ⟨by rfl, by intro W' hS; go_simp⟩) hH ?_
       try simp only [Act.put, aset]
       refine tk 22 undef 49 rfl rfl (by kernel_rfl) (fun _ _ _ h => h) (.inr ⟨by kernel_rfl, rfl⟩) hH ?_
       try simp only [Act.put, aset]
       refine tk 23 undef 50 rfl rfl (by kernel_rfl) (fun _ _ _ h => h) (.inr ⟨by kernel_rfl, rfl⟩) hH ?_
       try simp only [Act.put, aset]
       refine tk 24 undef 51 rfl rfl (by kernel_rfl) (fun _ _ _ h => h) (.inr ⟨by kernel_rfl, rfl⟩) hH ?_
       try simp only [Act.put, aset]
       refine tk 25 undef 52 rfl rfl (by kernel_rfl) (fun _ _ _ h => h) (.inr ⟨by kernel_rfl, rfl⟩) hH ?_
       try simp only [Act.put, aset]
       refine tk 26 undef 53 rfl rfl (by kernel_rfl) (fun _ _ _ h => h) (.inr ⟨by kernel_rfl, rfl⟩) hH ?_
       try simp only [Act.put, aset]
       refine tk 27 undef 54 rfl rfl (by kernel_rfl) (fun _ _ _ h => h) (.inr ⟨by kernel_rfl, rfl⟩) hH ?_
       try simp only [Act.put, aset]
       refine tk 28 undef 55 rfl rfl (by kernel_rfl) (fun _ _ _ h => h) (.inr ⟨by kernel_rfl, rfl⟩) hH ?_
       try simp only [Act.put, aset]
       refine tk 29 undef 56 rfl rfl (by kernel_rfl) (fun _ _ _ h => h) (.inr ⟨by kernel_rfl, rfl⟩) hH ?_
       try simp only [Act.put, aset]
       refine tk 30 undef 57 rfl rfl (by kernel_rfl) (fun _ _ _ h => h) (.inr ⟨by kernel_rfl, rfl⟩) hH ?_
       try simp only [Act.put, aset]
       refine tk 31 undef 58 rfl rfl (by kernel_rfl) (fun _ _ _ h => h) (.inr ⟨by kernel_rfl, rfl⟩) hH ?_
       try simp only [Act.put, aset]
       refine tk 32 undef 59 rfl rfl (by kernel_rfl) (fun _ _ _ h => h) (.inr ⟨by kernel_rfl, rfl⟩) hH ?_
       try simp only [Act.put, aset]
       refine tk 33 undef 60 rfl rfl (by kernel_rfl) (fun _ _ _ h => h) (.inr ⟨by kernel_rfl, rfl⟩) hH ?_
       try simp only [Act.put, aset]
       refine tk 34 undef 61 rfl rfl (by kernel_rfl) (fun _ _ _ h => h) (.inr ⟨by kernel_rfl, rfl⟩) hH ?_
       try simp only [Act.put, aset]
       refine tk 35 undef 62 rfl rfl (by kernel_rfl) (fun _ _ _ h => h) (.inr ⟨by kernel_rfl, rfl⟩) hH ?_
       try simp only [Act.put, aset]
       refine tk 36 (.bool false) 63 rfl rfl (by kernel_rfl) (fun _ _ _ h => h) (.inl ⟨by rfl, by intro W' hS; go_simp⟩) hH ?_
       try simp only [Act.put, aset]
       refine tk 37 (.bool false) 64 rfl rfl (by kernel_rfl) (fun _ _ _ h => h) (.inl ⟨by rfl, by intro W' hS; go_simp⟩) hH ?_
       try simp only [Act.put, aset]
       refine wpAnyH_done (by kernel_rfl) ?_ _
       go_wp2_with fail
       go_roundw
       case rel => exact ⟨k + 1, by go_num, by omega, steps_succ HT.out (by rw [HS.out, HLT.out, HQ1.out, HQ2.out]; rfl), hH.below, hH.b⟩
       case measure => simp [intOf]; omega
    case neg =>
     have HN := Lib.hid (show shB x = false by cases hq : shB x with | false => rfl | true => exact absurd (Int.lt_of_lt_of_le (by decide) (shB_id hq)) h0)
     have HLT := Lib.hid (show decide (lastS c.ss k < x.id) = false by rw [hlast]; exact decide_eq_false h0)
     clear hlast
     refine wp_region_held_drew (S := (fun W' => OneB w w.heap.size 38 (ceA c) W')) (by kernel_rfl) ⟨hb.drew, B1.drew⟩ (fun hH => ?_)
     refine tk 0 (.pointer (some ⟨w.heap.size, 0, none⟩)) 27 rfl rfl (by kernel_rfl) (fun _ _ _ h => h) (.inl ⟨by rfl, by intro W' hS; go_simp⟩) hH ?_
     try simp only [Act.put, aset]
     refine tk 1 (.slice (some ⟨b, off, none⟩) c.sn c.sc) 28 rfl rfl (by kernel_rfl) (fun _ _ _ h => h) (.inl ⟨by rfl, by intro W' hS; have hc : W'.cell? ⟨w.heap.size, 0, none⟩ = some (.slice (some ⟨b, off, none⟩) c.sn c.sc) := (hS.b.cell 0).trans (by rw [← HA.out]; rfl); go_simp⟩) hH ?_
     try simp only [Act.put, aset]
     refine tk 2 (.int .i64 k) 29 rfl rfl (by kernel_rfl) (fun _ _ _ h => h) (.inl ⟨by rfl, by intro W' hS; go_simp⟩) hH ?_
     try simp only [Act.put, aset]
     refine tk 3 (.pointer (some ⟨b, off + k * 17, none⟩)) 30 rfl rfl (by kernel_rfl) (fun _ _ _ h => h) (.inl ⟨by rfl, by intro W' hS; go_simp⟩) hH ?_
     try simp only [Act.put, aset]
     refine tk 4 (shV x) 31 rfl rfl (by kernel_rfl) (fun _ _ _ h => h) (yieldsIf_load_mid (by rfl) 30 _ rfl (b) (off + k * 17) (by rfl) (shC x) _ (fun _ h => rng_below RX.out h.below hbB) Tryz.underlying30 (by with_unfolding_all rfl) (by with_unfolding_all rfl)) hH ?_
     try simp only [Act.put, aset]
     refine wpAnyH_ready (rs := [5]) (by kernel_rfl) (by simp) ?_
     refine AllReadyH.cons rfl (fun K hK => ?_) AllReadyH.nil
     go_simp
     refine (drsh_any x _ (HO.out.kept hH.below)).mono ?_
     rintro ex w8 ⟨rfl, d8⟩
     have S8 := hH.call d8
     clear hH d8
     cases hq : shB x
     case false =>
      have HQ1 := Lib.hid hq
      clear hq
      refine hK.out _ _ S8 (fun hH => ?_)
      clear hK K
      try simp only [Act.put, aset]
      refine tk 6 (.bool true) 33 rfl rfl (by kernel_rfl) (fun _ _ _ h => h) (.inl ⟨by rfl, by intro W' hS; go_simp⟩) hH ?_
      try simp only [Act.put, aset]
      refine tk 7 (.bool true) 34 rfl rfl (by kernel_rfl) (fun _ _ _ h => h) (.inl ⟨by rfl, by intro W' hS; go_simp⟩) hH ?_
      try simp only [Act.put, aset]
      refine tk 8 undef 35 rfl rfl (by kernel_rfl) (fun _ _ _ h => h) (.inr ⟨by kernel_rfl, rfl⟩) hH ?_
      try simp only [Act.put, aset]
      refine tk 9 undef 36 rfl rfl (by kernel_rfl) (fun _ _ _ h => h) (.inr ⟨by kernel_rfl, rfl⟩) hH ?_
      try simp only [Act.put, aset]
      refine tk 10 undef 37 rfl rfl (by kernel_rfl) (fun _ _ _ h => h) (.inr ⟨by kernel_rfl, rfl⟩) hH ?_
      try simp only [Act.put, aset]
      refine tk 11 undef 38 rfl rfl (by kernel_rfl) (fun _ _ _ h => h) (.inr ⟨by kernel_rfl, rfl⟩) hH ?_
      try simp only [Act.put, aset]
      refine tk 12 undef 39 rfl rfl (by kernel_rfl) (fun _ _ _ h => h) (.inr ⟨by kernel_rfl, rfl⟩) hH ?_
      try simp only [Act.put, aset]
      refine tk 13 undef 40 rfl rfl (by kernel_rfl) (fun _ _ _ h => h) (.inr ⟨by kernel_rfl, rfl⟩) hH ?_
      try simp only [Act.put, aset]
      refine tk 14 undef 41 rfl rfl (by kernel_rfl) (fun _ _ _ h => h) (.inr ⟨by kernel_rfl, rfl⟩) hH ?_
      try simp only [Act.put, aset]
      refine wpAnyH_ready (rs := [15]) (by kernel_rfl) (by simp) ?_
      refine AllReadyH.cons rfl (fun K hK => ?_) AllReadyH.nil
      go_simp
      refine hK.out _ _ hH (fun hH => ?_)
      clear hK K
      try simp only [Act.put, aset]
      refine tk 16 undef 43 rfl rfl (by kernel_rfl) (fun _ _ _ h => h) (.inr ⟨by kernel_rfl, rfl⟩) hH ?_
      try simp only [Act.put, aset]
      refine tk 17 (.bool true) 44 rfl rfl (by kernel_rfl) (fun _ _ _ h => h) (.inl ⟨by rfl, by intro W' hS; go_simp⟩) hH ?_
      try simp only [Act.put, aset]
      refine tk 18 (.bool true) 45 rfl rfl (by kernel_rfl) (fun _ _ _ h => h) (.inl ⟨by rfl, by intro W' hS; go_simp⟩) hH ?_
      try simp only [Act.put, aset]
      refine tk 19 undef 46 rfl rfl (by kernel_rfl) (fun _ _ _ h => h) (.inr ⟨by kernel_rfl, rfl⟩) hH ?_
      try simp only [Act.put, aset]
      refine tk 20 undef 47 rfl rfl (by kernel_rfl) (fun _ _ _ h => h) (.inr ⟨by kernel_rfl, rfl⟩) hH ?_
      try simp only [Act.put, aset]
      refine tk 21 undef 48 rfl rfl (by kernel_rfl) (fun _ _ _ h => h) (.inr ⟨by kernel_rfl, rfl⟩) hH ?_
      try simp only [Act.put, aset]
      refine tk 22 undef 49 rfl rfl (by kernel_rfl) (fun _ _ _ h => h) (.inr ⟨by kernel_rfl, rfl⟩) hH ?_
      try simp only [Act.put, aset]
      refine tk 23 undef 50 rfl rfl (by kernel_rfl) (fun _ _ _ h => h) (.inr ⟨by kernel_rfl, rfl⟩) hH ?_
      try simp only [Act.put, aset]
      refine tk 24 undef 51 rfl rfl (by kernel_rfl) (fun _ _ _ h => h) (.inr ⟨by kernel_rfl, rfl⟩) hH ?_
      try simp only [Act.put, aset]
      refine tk 25 undef 52 rfl rfl (by kernel_rfl) (fun _ _ _ h => h) (.inr ⟨by kernel_rfl, rfl⟩) hH ?_
      try simp only [Act.put, aset]
      refine tk 26 undef 53 rfl rfl (by kernel_rfl) (fun _ _ _ h => h) (.inr ⟨by kernel_rfl, rfl⟩) hH ?_
      try simp only [Act.put, aset]
      refine tk 27 undef 54 rfl rfl (by kernel_rfl) (fun _ _ _ h => h) (.inr ⟨by kernel_rfl, rfl⟩) hH ?_
      try simp only [Act.put, aset]
      refine tk 28 undef 55 rfl rfl (by kernel_rfl) (fun _ _ _ h => h) (.inr ⟨by kernel_rfl, rfl⟩) hH ?_
      try simp only [Act.put, aset]
      refine tk 29 undef 56 rfl rfl (by kernel_rfl) (fun _ _ _ h => h) (.inr ⟨by kernel_rfl, rfl⟩) hH ?_
      try simp only [Act.put, aset]
      refine tk 30 undef 57 rfl rfl (by kernel_rfl) (fun _ _ _ h => h) (.inr ⟨by kernel_rfl, rfl⟩) hH ?_
      try simp only [Act.put, aset]
      refine tk 31 undef 58 rfl rfl (by kernel_rfl) (fun _ _ _ h => h) (.inr ⟨by kernel_rfl, rfl⟩) hH ?_
      try simp only [Act.put, aset]
      refine tk 32 undef 59 rfl rfl (by kernel_rfl) (fun _ _ _ h => h) (.inr ⟨by kernel_rfl, rfl⟩) hH ?_
      try simp only [Act.put, aset]
      refine tk 33 undef 60 rfl rfl (by kernel_rfl) (fun _ _ _ h => h) (.inr ⟨by kernel_rfl, rfl⟩) hH ?_
      try simp only [Act.put, aset]
      refine tk 34 undef 61 rfl rfl (by kernel_rfl) (fun _ _ _ h => h) (.inr ⟨by kernel_rfl, rfl⟩) hH ?_
      try simp only [Act.put, aset]
      refine tk 35 undef 62 rfl rfl (by kernel_rfl) (fun _ _ _ h => h) (.inr ⟨by kernel_rfl, rfl⟩) hH ?_
      try simp only [Act.put, aset]
      refine tk 36 undef 63 rfl rfl (by kernel_rfl) (fun _ _ _ h => h) (.inr ⟨by kernel_rfl, rfl⟩) hH ?_
      try simp only [Act.put, aset]
      refine tk 37 (.bool true) 64 rfl rfl (by kernel_rfl) (fun _ _ _ h => h) (.inl ⟨by rfl, by intro W' hS; go_simp⟩) hH ?_
      try simp only [Act.put, aset]
      refine wpAnyH_done (by kernel_rfl) ?_ _
      have hv : r = false := by rw [HV.out]; exact HX.out (by rw [HS.out, HQ1.out]; simp)
      subst hv
      go_wp2
      go_ret
      exact ⟨by kernel_rfl, hH.below⟩
     case true =>
      exact absurd (hq.symm.trans HN.out) (by simp)
   case neg =>
    have HB0 := Lib.hid (show decide ((0 : Int) < (k : Int)) = true from decide_eq_true (by omega))
    have j0 : (0 : Int) ≤ (k : Int) - 1 := by omega
    have j1 : (k : Int) - 1 < (c.sn : Int) := by omega
    obtain ⟨b', off', hA', hbB', ry⟩ := HI.out.inn.row.at (k - 1) (by omega)
    have hlast : lastS c.ss k = (c.ss[k - 1]'(by omega)).id := by obtain ⟨j, rfl⟩ : ∃ j, k = j + 1 := ⟨k - 1, by omega⟩; exact lastS_succ (by omega)
    obtain ⟨y, hyk⟩ : ∃ y, c.ss[k - 1]'(by omega) = y := ⟨_, rfl⟩
    rw [hyk] at ry hlast
    obtain ⟨eb, eo⟩ : b' = b ∧ off' = off := by rw [hA] at hA'; injection hA' with hA'; injection hA' with h1 h2; exact ⟨h1.symm, h2.symm⟩
    rw [eb, eo] at ry
    have RY := Lib.hid ry
    have jt : ((k : Int) - 1).toNat = k - 1 := by omega
    have jw : IntKind.i64.wrap ((k : Int) - 1) = (k : Int) - 1 := by rw [IntKind.wrap_i64]; omega
    have jx : ¬ (k : Int) < 1 := by omega
    clear hyk hA' hA eb eo hbB' b' off' ry
    by_cases hcc : x.id ≤ y.id
    case pos =>
     have HLT := Lib.hid (show decide (lastS c.ss k < x.id) = false by rw [hlast]; exact decide_eq_false (by omega))
     clear hlast
     refine wp_region_held_drew (S := (fun W' => OneB w w.heap.size 38 (ceA c) W')) (by kernel_rfl) ⟨hb.drew, B1.drew⟩ (fun hH => ?_)
     refine tk 0 (.pointer (some ⟨w.heap.size, 0, none⟩)) 27 rfl rfl (by kernel_rfl) (fun _ _ _ h => h) (.inl ⟨by rfl, by intro W' hS; go_simp⟩) hH ?_
     try simp only [Act.put, aset]
     refine tk 1 (.slice (some ⟨b, off, none⟩) c.sn c.sc) 28 rfl rfl (by kernel_rfl) (fun _ _ _ h => h) (.inl ⟨by rfl, by intro W' hS; have hc : W'.cell? ⟨w.heap.size, 0, none⟩ = some (.slice (some ⟨b, off, none⟩) c.sn c.sc) := (hS.b.cell 0).trans (by rw [← HA.out]; rfl); go_simp⟩) hH ?_
     try simp only [Act.put, aset]
     refine tk 2 (.int .i64 k) 29 rfl rfl (by kernel_rfl) (fun _ _ _ h => h) (.inl ⟨by rfl, by intro W' hS; go_simp⟩) hH ?_
     try simp only [Act.put, aset]
     refine tk 3 (.pointer (some ⟨b, off + k * 17, none⟩)) 30 rfl rfl (by kernel_rfl) (fun _ _ _ h => h) (.inl ⟨by rfl, by intro W' hS; go_simp⟩) hH ?_
     try simp only [Act.put, aset]
     refine tk 4 (shV x) 31 rfl rfl (by kernel_rfl) (fun _ _ _ h => h) (yieldsIf_load_mid (by rfl) 30 _ rfl (b) (off + k * 17) (by rfl) (shC x) _ (fun _ h => rng_below RX.out h.below hbB) Tryz.underlying30 (by with_unfolding_all rfl) (by with_unfolding_all rfl)) hH ?_
     try simp only [Act.put, aset]
     refine wpAnyH_ready (rs := [5]) (by kernel_rfl) (by simp) ?_
     refine AllReadyH.cons rfl (fun K hK => ?_) AllReadyH.nil
     go_simp
     refine (drsh_any x _ (HO.out.kept hH.below)).mono ?_
     rintro ex w8 ⟨rfl, d8⟩
     have S8 := hH.call d8
     clear hH d8
     cases hq : shB x
     case false =>
      have HQ1 := Lib.hid hq
      clear hq
      refine hK.out _ _ S8 (fun hH => ?_)
      clear hK K
      try simp only [Act.put, aset]
      refine tk 6 (.bool true) 33 rfl rfl (by kernel_rfl) (fun _ _ _ h => h) (.inl ⟨by rfl, by intro W' hS; go_simp⟩) hH ?_
      try simp only [Act.put, aset]
      refine tk 7 (.bool true) 34 rfl rfl (by kernel_rfl) (fun _ _ _ h => h) (.inl ⟨by rfl, by intro W' hS; go_simp⟩) hH ?_
      try simp only [Act.put, aset]
      refine tk 8 undef 35 rfl rfl (by kernel_rfl) (fun _ _ _ h => h) (.inr ⟨by kernel_rfl, rfl⟩) hH ?_
      try simp only [Act.put, aset]
      refine tk 9 undef 36 rfl rfl (by kernel_rfl) (fun _ _ _ h => h) (.inr ⟨by kernel_rfl, rfl⟩) hH ?_
      try simp only [Act.put, aset]
      refine tk 10 undef 37 rfl rfl (by kernel_rfl) (fun _ _ _ h => h) (.inr ⟨by kernel_rfl, rfl⟩) hH ?_
      try simp only [Act.put, aset]
      refine tk 11 undef 38 rfl rfl (by kernel_rfl) (fun _ _ _ h => h) (.inr ⟨by kernel_rfl, rfl⟩) hH ?_
      try simp only [Act.put, aset]
      refine tk 12 undef 39 rfl rfl (by kernel_rfl) (fun _ _ _ h => h) (.inr ⟨by kernel_rfl, rfl⟩) hH ?_
      try simp only [Act.put, aset]
      refine tk 13 undef 40 rfl rfl (by kernel_rfl) (fun _ _ _ h => h) (.inr ⟨by kernel_rfl, rfl⟩) hH ?_
      try simp only [Act.put, aset]
      refine tk 14 undef 41 rfl rfl (by kernel_rfl) (fun _ _ _ h => h) (.inr ⟨by kernel_rfl, rfl⟩) hH ?_
      try simp only [Act.put, aset]
      refine wpAnyH_ready (rs := [15]) (by kernel_rfl) (by simp) ?_
      refine AllReadyH.cons rfl (fun K hK => ?_) AllReadyH.nil
      go_simp
      refine hK.out _ _ hH (fun hH => ?_)
      clear hK K
      try simp only [Act.put, aset]
      refine tk 16 undef 43 rfl rfl (by kernel_rfl) (fun _ _ _ h => h) (.inr ⟨by kernel_rfl, rfl⟩) hH ?_
      try simp only [Act.put, aset]
      refine tk 17 (.bool true) 44 rfl rfl (by kernel_rfl) (fun _ _ _ h => h) (.inl ⟨by rfl, by intro W' hS; go_simp⟩) hH ?_
      try simp only [Act.put, aset]
      refine tk 18 (.bool true) 45 rfl rfl (by kernel_rfl) (fun _ _ _ h => h) (.inl ⟨by rfl, by intro W' hS; go_simp⟩) hH ?_
      try simp only [Act.put, aset]
      refine tk 19 undef 46 rfl rfl (by kernel_rfl) (fun _ _ _ h => h) (.inr ⟨by kernel_rfl, rfl⟩) hH ?_
      try simp only [Act.put, aset]
      refine tk 20 undef 47 rfl rfl (by kernel_rfl) (fun _ _ _ h => h) (.inr ⟨by kernel_rfl, rfl⟩) hH ?_
      try simp only [Act.put, aset]
      refine tk 21 undef 48 rfl rfl (by kernel_rfl) (fun _ _ _ h => h) (.inr ⟨by kernel_rfl, rfl⟩) hH ?_
      try simp only [Act.put, aset]
      refine tk 22 undef 49 rfl rfl (by kernel_rfl) (fun _ _ _ h => h) (.inr ⟨by kernel_rfl, rfl⟩) hH ?_
      try simp only [Act.put, aset]
      refine tk 23 undef 50 rfl rfl (by kernel_rfl) (fun _ _ _ h => h) (.inr ⟨by kernel_rfl, rfl⟩) hH ?_
      try simp only [Act.put, aset]
      refine tk 24 undef 51 rfl rfl (by kernel_rfl) (fun _ _ _ h => h) (.inr ⟨by kernel_rfl, rfl⟩) hH ?_
      try simp only [Act.put, aset]
      refine tk 25 undef 52 rfl rfl (by kernel_rfl) (fun _ _ _ h => h) (.inr ⟨by kernel_rfl, rfl⟩) hH ?_
      try simp only [Act.put, aset]
      refine tk 26 undef 53 rfl rfl (by kernel_rfl) (fun _ _ _ h => h) (.inr ⟨by kernel_rfl, rfl⟩) hH ?_
      try simp only [Act.put, aset]
      refine tk 27 undef 54 rfl rfl (by kernel_rfl) (fun _ _ _ h => h) (.inr ⟨by kernel_rfl, rfl⟩) hH ?_
      try simp only [Act.put, aset]
      refine tk 28 undef 55 rfl rfl (by kernel_rfl) (fun _ _ _ h => h) (.inr ⟨by kernel_rfl, rfl⟩) hH ?_
      try simp only [Act.put, aset]
      refine tk 29 undef 56 rfl rfl (by kernel_rfl) (fun _ _ _ h => h) (.inr ⟨by kernel_rfl, rfl⟩) hH ?_
      try simp only [Act.put, aset]
      refine tk 30 undef 57 rfl rfl (by kernel_rfl) (fun _ _ _ h => h) (.inr ⟨by kernel_rfl, rfl⟩) hH ?_
      try simp only [Act.put, aset]
      refine tk 31 undef 58 rfl rfl (by kernel_rfl) (fun _ _ _ h => h) (.inr ⟨by kernel_rfl, rfl⟩) hH ?_
      try simp only [Act.put, aset]
      refine tk 32 undef 59 rfl rfl (by kernel_rfl) (fun _ _ _ h => h) (.inr ⟨by kernel_rfl, rfl⟩) hH ?_
      try simp only [Act.put, aset]
      refine tk 33 undef 60 rfl rfl (by kernel_rfl) (fun _ _ _ h => h) (.inr ⟨by kernel_rfl, rfl⟩) hH ?_
      try simp only [Act.put, aset]
      refine tk 34 undef 61 rfl rfl (by kernel_rfl) (fun _ _ _ h => h) (.inr ⟨by kernel_rfl, rfl⟩) hH ?_
      try simp only [Act.put, aset]
      refine tk 35 undef 62 rfl rfl (by kernel_rfl) (fun _ _ _ h => h) (.inr ⟨by kernel_rfl, rfl⟩) hH ?_
      try simp only [Act.put, aset]
      refine tk 36 undef 63 rfl rfl (by kernel_rfl) (fun _ _ _ h => h) (.inr ⟨by kernel_rfl, rfl⟩) hH ?_
      try simp only [Act.put, aset]
      refine tk 37 (.bool true) 64 rfl rfl (by kernel_rfl) (fun _ _ _ h => h) (.inl ⟨by rfl, by intro W' hS; go_simp⟩) hH ?_
      try simp only [Act.put, aset]
      refine wpAnyH_done (by kernel_rfl) ?_ _
      have hv : r = false := by rw [HV.out]; exact HX.out (by rw [HS.out, HQ1.out]; simp)
      subst hv
      go_wp2
      go_ret
      exact ⟨by kernel_rfl, hH.below⟩
     case true =>
      have HQ1 := Lib.hid hq
      clear hq
      refine hK.out _ _ S8 (fun hH => ?_)
      clear hK K
      try simp only [Act.put, aset]
      refine tk 6 (.bool false) 33 rfl rfl (by kernel_rfl) (fun _ _ _ h => h) (.inl ⟨by rfl, by intro W' hS; go_simp⟩) hH ?_
      try simp only [Act.put, aset]
      refine tk 7 (.bool false) 34 rfl rfl (by kernel_rfl) (fun _ _ _ h => h) (.inl ⟨by rfl, by intro W' hS; go_simp⟩) hH ?_
      try simp only [Act.put, aset]
      refine tk 8 (.pointer (some ⟨w.heap.size, 0, none⟩)) 35 rfl rfl (by kernel_rfl) (fun _ _ _ h => h) (.inl ⟨by rfl, by intro W' hS; go_simp⟩) hH ?_
      try simp only [Act.put, aset]
      refine tk 9 (.slice (some ⟨b, off, none⟩) c.sn c.sc) 36 rfl rfl (by kernel_rfl) (fun _ _ _ h => h) (.inl ⟨by rfl, by intro W' hS; have hc : W'.cell? ⟨w.heap.size, 0, none⟩ = some (.slice (some ⟨b, off, none⟩) c.sn c.sc) := (hS.b.cell 0).trans (by rw [← HA.out]; rfl); go_simp⟩) hH ?_
      try simp only [Act.put, aset]
      refine tk 10 (.int .i64 k) 37 rfl rfl (by kernel_rfl) (fun _ _ _ h => h) (.inl ⟨by rfl, by intro W' hS; go_simp⟩) hH ?_
      try simp only [Act.put, aset]
      refine tk 11 (.pointer (some ⟨b, off + k * 17, none⟩)) 38 rfl rfl (by kernel_rfl) (fun _ _ _ h => h) (.inl ⟨by rfl, by intro W' hS; go_simp⟩) hH ?_
      try simp only [Act.put, aset]
      refine tk 12 (shV x) 39 rfl rfl (by kernel_rfl) (fun _ _ _ h => h) (yieldsIf_load_mid (by rfl) 30 _ rfl (b) (off + k * 17) (by rfl) (shC x) _ (fun _ h => rng_below RX.out h.below hbB) Tryz.underlying30 (by with_unfolding_all rfl) (by with_unfolding_all rfl)) hH ?_
      try simp only [Act.put, aset]
      refine tk 13 (.pointer (some ⟨w.heap.size, 1, none⟩)) 40 rfl rfl (by kernel_rfl) (fun _ _ _ h => h) (.inl ⟨by rfl, by intro W' hS; go_simp⟩) hH ?_
      try simp only [Act.put, aset]
      refine tk 14 (stampV c.ta c.tt c.tn) 41 rfl rfl (by kernel_rfl) (fun _ _ _ h => h) (yieldsIf_load_mid (by rfl) 27 _ rfl (w.heap.size) (1) (by rfl) [.int .i64 c.ta, .int .i64 c.tt, .int .i64 c.tn] _ (fun _ h => Blk.range h.b 1 _ (by rfl)) Tryz.underlying27 (by with_unfolding_all rfl) (by with_unfolding_all rfl)) hH ?_
      try simp only [Act.put, aset]
      refine wpAnyH_ready (rs := [15]) (by kernel_rfl) (by simp) ?_
      refine AllReadyH.cons rfl (fun K hK => ?_) AllReadyH.nil
      go_simp
      refine (dupto_any x c.ta c.tt c.tn _ (HO.out.kept hH.below).inn).mono ?_
      rintro ex w9 ⟨rfl, d9⟩
      rw [HF.out]
      have S9 := hH.call d9
      clear hH d9
      cases hq : f x
      case false =>
       have HQ2 := Lib.hid hq
       clear hq
       refine hK.out _ _ S9 (fun hH => ?_)
       clear hK K
       try simp only [Act.put, aset]
       refine tk 16 (.bool true) 43 rfl rfl (by kernel_rfl) (fun _ _ _ h => h) (.inl ⟨by rfl, by intro W' hS; go_simp⟩) hH ?_
       try simp only [Act.put, aset]
       refine tk 17 (.bool true) 44 rfl rfl (by kernel_rfl) (fun _ _ _ h => h) (.inl ⟨by rfl, by intro W' hS; go_simp⟩) hH ?_
       try simp only [Act.put, aset]
       refine tk 18 (.bool true) 45 rfl rfl (by kernel_rfl) (fun _ _ _ h => h) (.inl ⟨by rfl, by intro W' hS; go_simp⟩) hH ?_
       try simp only [Act.put, aset]
       refine tk 19 undef 46 rfl rfl (by kernel_rfl) (fun _ _ _ h => h) (.inr ⟨by kernel_rfl, rfl⟩) hH ?_
       try simp only [Act.put, aset]
       refine tk 20 undef 47 rfl rfl (by kernel_rfl) (fun _ _ _ h => h) (.inr ⟨by kernel_rfl, rfl⟩) hH ?_
       try simp only [Act.put, aset]
       refine tk 21 undef 48 rfl rfl (by kernel_rfl) (fun _ _ _ h => h) (.inr ⟨by kernel_rfl, rfl⟩) hH ?_
       try simp only [Act.put, aset]
       refine tk 22 undef 49 rfl rfl (by kernel_rfl) (fun _ _ _ h => h) (.inr ⟨by kernel_rfl, rfl⟩) hH ?_
       try simp only [Act.put, aset]
       refine tk 23 undef 50 rfl rfl (by kernel_rfl) (fun _ _ _ h => h) (.inr ⟨by kernel_rfl, rfl⟩) hH ?_
       try simp only [Act.put, aset]
       refine tk 24 undef 51 rfl rfl (by kernel_rfl) (fun _ _ _ h => h) (.inr ⟨by kernel_rfl, rfl⟩) hH ?_
       try simp only [Act.put, aset]
       refine tk 25 undef 52 rfl rfl (by kernel_rfl) (fun _ _ _ h => h) (.inr ⟨by kernel_rfl, rfl⟩) hH ?_
       try simp only [Act.put, aset]
       refine tk 26 undef 53 rfl rfl (by kernel_rfl) (fun _ _ _ h => h) (.inr ⟨by kernel_rfl, rfl⟩) hH ?_
       try simp only [Act.put, aset]
       refine tk 27 undef 54 rfl rfl (by kernel_rfl) (fun _ _ _ h => h) (.inr ⟨by kernel_rfl, rfl⟩) hH ?_
       try simp only [Act.put, aset]
       refine tk 28 undef 55 rfl rfl (by kernel_rfl) (fun _ _ _ h => h) (.inr ⟨by kernel_rfl, rfl⟩) hH ?_
       try simp only [Act.put, aset]
       refine tk 29 undef 56 rfl rfl (by kernel_rfl) (fun _ _ _ h => h) (.inr ⟨by kernel_rfl, rfl⟩) hH ?_
       try simp only [Act.put, aset]
       refine tk 30 undef 57 rfl rfl (by kernel_rfl) (fun _ _ _ h => h) (.inr ⟨by kernel_rfl, rfl⟩) hH ?_
       try simp only [Act.put, aset]
       refine tk 31 undef 58 rfl rfl (by kernel_rfl) (fun _ _ _ h => h) (.inr ⟨by kernel_rfl, rfl⟩) hH ?_
       try simp only [Act.put, aset]
       refine tk 32 undef 59 rfl rfl (by kernel_rfl) (fun _ _ _ h => h) (.inr ⟨by kernel_rfl, rfl⟩) hH ?_
       try simp only [Act.put, aset]
       refine tk 33 undef 60 rfl rfl (by kernel_rfl) (fun _ _ _ h => h) (.inr ⟨by kernel_rfl, rfl⟩) hH ?_
       try simp only [Act.put, aset]
       refine tk 34 undef 61 rfl rfl (by kernel_rfl) (fun _ _ _ h => h) (.inr ⟨by kernel_rfl, rfl⟩) hH ?_
       try simp only [Act.put, aset]
       refine tk 35 undef 62 rfl rfl (by kernel_rfl) (fun _ _ _ h => h) (.inr ⟨by kernel_rfl, rfl⟩) hH ?_
       try simp only [Act.put, aset]
       refine tk 36 undef 63 rfl rfl (by kernel_rfl) (fun _ _ _ h => h) (.inr ⟨by kernel_rfl, rfl⟩) hH ?_
       try simp only [Act.put, aset]
       refine tk 37 (.bool true) 64 rfl rfl (by kernel_rfl) (fun _ _ _ h => h) (.inl ⟨by rfl, by intro W' hS; go_simp⟩) hH ?_
       try simp only [Act.put, aset]
       refine wpAnyH_done (by kernel_rfl) ?_ _
       have hv : r = false := by rw [HV.out]; exact HX.out (by rw [HS.out, HQ2.out]; simp)
       subst hv
       go_wp2
       go_ret
       exact ⟨by kernel_rfl, hH.below⟩
      case true =>
       have HQ2 := Lib.hid hq
       clear hq
       refine hK.out _ _ S9 (fun hH => ?_)
       clear hK K
       try simp only [Act.put, aset]
       refine tk 16 (.bool false) 43 rfl rfl (by kernel_rfl) (fun _ _ _ h => h) (.inl ⟨by rfl, by intro W' hS; go_simp⟩) hH ?_
       try simp only [Act.put, aset]
       refine tk 17 (.bool false) 44 rfl rfl (by kernel_rfl) (fun _ _ _ h => h) (.inl ⟨by rfl, by intro W' hS; go_simp⟩) hH ?_
       try simp only [Act.put, aset]
       refine tk 18 (.bool false) 45 rfl rfl (by kernel_rfl) (fun _ _ _ h => h) (.inl ⟨by rfl, by intro W' hS; go_simp⟩) hH ?_
       try simp only [Act.put, aset]
       refine tk 19 (.int .i64 k) 46 rfl rfl (by kernel_rfl) (fun _ _ _ h => h) (.inl ⟨by rfl, by intro W' hS; go_simp⟩) hH ?_
       try simp only [Act.put, aset]
       refine tk 20 (.bool (decide ((0 : Int) < (k : Int)))) 47 rfl rfl (by kernel_rfl) (fun _ _ _ h => h) (yif_bin (by rfl) _ _ _ _ _ rfl (.int .i64 (k : Int)) (.int .i64 0) _ (by rfl) (by rfl) (fun _ => guard_int _ _ _ _ _ _ _ _ _) (fun _ => run_gtr_int _ _ _ _)) hH ?_
       rw [HB0.out]
       try simp only [Act.put, aset]
       refine tk 21 (.bool true) 48 rfl rfl (by kernel_rfl) (fun _ _ _ h => h) (.inl ⟨by rfl, by intro W' hS; go_simp⟩) hH ?_
       try simp only [Act.put, aset]
       refine tk 22 (.pointer (some ⟨w.heap.size, 0, none⟩)) 49 rfl rfl (by kernel_rfl) (fun _ _ _ h => h) (.inl ⟨by rfl, by intro W' hS; go_simp⟩) hH ?_
       try simp only [Act.put, aset]
       refine tk 23 (.slice (some ⟨b, off, none⟩) c.sn c.sc) 50 rfl rfl (by kernel_rfl) (fun _ _ _ h => h) (.inl ⟨by rfl, by intro W' hS; have hc : W'.cell? ⟨w.heap.size, 0, none⟩ = some (.slice (some ⟨b, off, none⟩) c.sn c.sc) := (hS.b.cell 0).trans (by rw [← HA.out]; rfl); go_simp⟩) hH ?_
       try simp only [Act.put, aset]
       refine tk 24 (.int .i64 k) 51 rfl rfl (by kernel_rfl) (fun _ _ _ h => h) (.inl ⟨by rfl, by intro W' hS; go_simp⟩) hH ?_
       try simp only [Act.put, aset]
       refine tk 25 (.int .i64 ((k : Int) - 1)) 52 rfl rfl (by kernel_rfl) (fun _ _ _ h => h) (.inl ⟨by rfl, by intro W' hS; go_simp⟩) hH ?_
       try simp only [Act.put, aset]
       refine tk 26 (.pointer (some ⟨b, off + (k - 1) * 17, none⟩)) 53 rfl rfl (by kernel_rfl) (fun _ _ _ h => h) (.inl ⟨by rfl, by intro W' hS; go_simp⟩) hH ?_
       try simp only [Act.put, aset]
       refine tk 27 (.pointer (some ⟨b, off + (k - 1) * 17, none⟩)) 54 rfl rfl (by kernel_rfl) (fun _ _ _ h => h) (.inl ⟨by rfl, by intro W' hS; go_simp⟩) hH ?_
       try simp only [Act.put, aset]
       refine tk 28 (.int .i64 y.id) 55 rfl rfl (by kernel_rfl) (fun _ _ _ h => h) (.inl ⟨by rfl, by intro W' hS; have hc : W'.cell? ⟨b, off + (k - 1) * 17, none⟩ = some (.int .i64 y.id) := rng_id (rng_below RY.out hS.below hbB); go_simp⟩) hH ?_
       try simp only [Act.put, aset]
       refine tk 29 (.pointer (some ⟨w.heap.size, 0, none⟩)) 56 rfl rfl (by kernel_rfl) (fun _ _ _ h => h) (.inl ⟨by rfl, by intro W' hS; go_simp⟩) hH ?_
       try simp only [Act.put, aset]
       refine tk 30 (.slice (some ⟨b, off, none⟩) c.sn c.sc) 57 rfl rfl (by kernel_rfl) (fun _ _ _ h => h) (.inl ⟨by rfl, by intro W' hS; have hc : W'.cell? ⟨w.heap.size, 0, none⟩ = some (.slice (some ⟨b, off, none⟩) c.sn c.sc) := (hS.b.cell 0).trans (by rw [← HA.out]; rfl); go_simp⟩) hH ?_
       try simp only [Act.put, aset]
       refine tk 31 (.int .i64 k) 58 rfl rfl (by kernel_rfl) (fun _ _ _ h => h) (.inl ⟨by rfl, by intro W' hS; go_simp⟩) hH ?_
       try simp only [Act.put, aset]
       refine tk 32 (.pointer (some ⟨b, off + k * 17, none⟩)) 59 rfl rfl (by kernel_rfl) (fun _ _ _ h => h) (.inl ⟨by rfl, by intro W' hS; go_simp⟩) hH ?_
       try simp only [Act.put, aset]
       refine tk 33 (.pointer (some ⟨b, off + k * 17, none⟩)) 60 rfl rfl (by kernel_rfl) (fun _ _ _ h => h) (.inl ⟨by rfl, by intro W' hS; go_simp⟩) hH ?_
       try simp only [Act.put, aset]
       refine tk 34 (.int .i64 x.id) 61 rfl rfl (by kernel_rfl) (fun _ _ _ h => h) (.inl ⟨by rfl, by intro W' hS; have hc : W'.cell? ⟨b, off + k * 17, none⟩ = some (.int .i64 x.id) := rng_id (rng_below RX.out hS.below hbB); go_simp⟩) hH ?_
       try simp only [Act.put, aset]
       refine tk 35 (.bool true) 62 rfl rfl (by kernel_rfl) (fun _ _ _ h => h) (.inl ⟨by rfl, by intro W' hS; go_simp⟩) hH ?_
       try simp only [Act.put, aset]
       refine tk 36 (.bool true) 63 rfl rfl (by kernel_rfl) (fun _ _ _ h => h) (.inl ⟨by rfl, by intro W' hS; go_simp⟩) hH ?_
       try simp only [Act.put, aset]
       refine tk 37 (.bool true) 64 rfl rfl (by kernel_rfl) (fun _ _ _ h => h) (.inl ⟨by rfl, by intro W' hS; go_simp⟩) hH ?_
       try simp only [Act.put, aset]
       refine wpAnyH_done (by kernel_rfl) ?_ _
       have hv : r = false := by rw [HV.out]; exact HX.out (by rw [HS.out, HLT.out]; rfl)
       subst hv
       go_wp2
       go_ret
       exact ⟨by kernel_rfl, hH.below⟩
    case neg =>
     have HLT := Lib.hid (show decide (lastS c.ss k < x.id) = true by rw [hlast]; exact decide_eq_true (by omega))
     clear hlast
     refine wp_region_held_drew (S := (fun W' => OneB w w.heap.size 38 (ceA c) W')) (by kernel_rfl) ⟨hb.drew, B1.drew⟩ (fun hH => ?_)
     refine tk 0 (.pointer (some ⟨w.heap.size, 0, none⟩)) 27 rfl rfl (by kernel_rfl) (fun _ _ _ h => h) (.inl ⟨by rfl, by intro W' hS; go_simp⟩) hH ?_
     try simp only [Act.put, aset]
     refine tk 1 (.slice (some ⟨b, off, none⟩) c.sn c.sc) 28 rfl rfl (by kernel_rfl) (fun _ _ _ h => h) (.inl ⟨by rfl, by intro W' hS; have hc : W'.cell? ⟨w.heap.size, 0, none⟩ = some (.slice (some ⟨b, off, none⟩) c.sn c.sc) := (hS.b.cell 0).trans (by rw [← HA.out]; rfl); go_simp⟩) hH ?_
     try simp only [Act.put, aset]
     refine tk 2 (.int .i64 k) 29 rfl rfl (by kernel_rfl) (fun _ _ _ h => h) (.inl ⟨by rfl, by intro W' hS; go_simp⟩) hH ?_
     try simp only [Act.put, aset]
     refine tk 3 (.pointer (some ⟨b, off + k * 17, none⟩)) 30 rfl rfl (by kernel_rfl) (fun _ _ _ h => h) (.inl ⟨by rfl, by intro W' hS; go_simp⟩) hH ?_
     try simp only [Act.put, aset]
     refine tk 4 (shV x) 31 rfl rfl (by kernel_rfl) (fun _ _ _ h => h) (yieldsIf_load_mid (by rfl) 30 _ rfl (b) (off + k * 17) (by rfl) (shC x) _ (fun _ h => rng_below RX.out h.below hbB) Tryz.underlying30 (by with_unfolding_all rfl) (by with_unfolding_all rfl)) hH ?_
     try simp only [Act.put, aset]
     refine wpAnyH_ready (rs := [5]) (by kernel_rfl) (by simp) ?_
     refine AllReadyH.cons rfl (fun K hK => ?_) AllReadyH.nil
     go_simp
     refine (drsh_any x _ (HO.out.kept hH.below)).mono ?_
     rintro ex w8 ⟨rfl, d8⟩
     have S8 := hH.call d8
     clear hH d8
     cases hq : shB x
     case false =>
      have HQ1 := Lib.hid hq
      clear hq
      refine hK.out _ _ S8 (fun hH => ?_)
      clear hK K
      try simp only [Act.put, aset]
      refine tk 6 (.bool true) 33 rfl rfl (by kernel_rfl) (fun _ _ _ h => h) (.inl ⟨by rfl, by intro W' hS; go_simp⟩) hH ?_
      try simp only [Act.put, aset]
      refine tk 7 (.bool true) 34 rfl rfl (by kernel_rfl) (fun _ _ _ h => h) (.inl ⟨by rfl, by intro W' hS; go_simp⟩) hH ?_
      try simp only [Act.put, aset]
      refine tk 8 undef 35 rfl rfl (by kernel_rfl) (fun _ _ _ h => h) (.inr ⟨by kernel_rfl, rfl⟩) hH ?_
      try simp only [Act.put, aset]
      refine tk 9 undef 36 rfl rfl (by kernel_rfl) (fun _ _ _ h => h) (.inr ⟨by kernel_rfl, rfl⟩) hH ?_
      try simp only [Act.put, aset]
      refine tk 10 undef 37 rfl rfl (by kernel_rfl) (fun _ _ _ h => h) (.inr ⟨by kernel_rfl, rfl⟩) hH ?_
      try simp only [Act.put, aset]
      refine tk 11 undef 38 rfl rfl (by kernel_rfl) (fun _ _ _ h => h) (.inr ⟨by kernel_rfl, rfl⟩) hH ?_
      try simp only [Act.put, aset]
      refine tk 12 undef 39 rfl rfl (by kernel_rfl) (fun _ _ _ h => h) (.inr ⟨by kernel_rfl, rfl⟩) hH ?_
      try simp only [Act.put, aset]
      refine tk 13 undef 40 rfl rfl (by kernel_rfl) (fun _ _ _ h => h) (.inr ⟨by kernel_rfl, rfl⟩) hH ?_
      try simp only [Act.put, aset]
      refine tk 14 undef 41 rfl rfl (by kernel_rfl) (fun _ _ _ h => h) (.inr ⟨by kernel_rfl, rfl⟩) hH ?_
      try simp only [Act.put, aset]
      refine wpAnyH_ready (rs := [15]) (by kernel_rfl) (by simp) ?_
      refine AllReadyH.cons rfl (fun K hK => ?_) AllReadyH.nil
      go_simp
      refine hK.out _ _ hH (fun hH => ?_)
      clear hK K
      try simp only [Act.put, aset]
      refine tk 16 undef 43 rfl rfl (by kernel_rfl) (fun _ _ _ h => h) (.inr ⟨by kernel_rfl, rfl⟩) hH ?_
      try simp only [Act.put, aset]
      refine tk 17 (.bool true) 44 rfl rfl (by kernel_rfl) (fun _ _ _ h => h) (.inl ⟨by rfl, by intro W' hS; go_simp⟩) hH ?_
      try simp only [Act.put, aset]
      refine tk 18 (.bool true) 45 rfl rfl (by kernel_rfl) (fun _ _ _ h => h) (.inl ⟨by rfl, by intro W' hS; go_simp⟩) hH ?_
      try simp only [Act.put, aset]
      refine tk 19 undef 46 rfl rfl (by kernel_rfl) (fun _ _ _ h => h) (.inr ⟨by kernel_rfl, rfl⟩) hH ?_
      try simp only [Act.put, aset]
      refine tk 20 undef 47 rfl rfl (by kernel_rfl) (fun _ _ _ h => h) (.inr ⟨by kernel_rfl, rfl⟩) hH ?_
      try simp only [Act.put, aset]
      refine tk 21 undef 48 rfl rfl (by kernel_rfl) (fun _ _ _ h => h) (.inr ⟨by kernel_rfl, rfl⟩) hH ?_
      try simp only [Act.put, aset]
      refine tk 22 undef 49 rfl rfl (by kernel_rfl) (fun _ _ _ h => h) (.inr ⟨by kernel_rfl, rfl⟩) hH ?_
      try simp only [Act.put, aset]
      refine tk 23 undef 50 rfl rfl (by kernel_rfl) (fun _ _ _ h => h) (.inr ⟨by kernel_rfl, rfl⟩) hH ?_
      try simp only [Act.put, aset]
      refine tk 24 undef 51 rfl rfl (by kernel_rfl) (fun _ _ _ h => h) (.inr ⟨by kernel_rfl, rfl⟩) hH ?_
      try simp only [Act.put, aset]
      refine tk 25 undef 52 rfl rfl (by kernel_rfl) (fun _ _ _ h => h) (.inr ⟨by kernel_rfl, rfl⟩) hH ?_
      try simp only [Act.put, aset]
      refine tk 26 undef 53 rfl rfl (by kernel_rfl) (fun _ _ _ h => h) (.inr ⟨by kernel_rfl, rfl⟩) hH ?_
      try simp only [Act.put, aset]
      refine tk 27 undef 54 rfl rfl (by kernel_rfl) (fun _ _ _ h => h) (.inr ⟨by kernel_rfl, rfl⟩) hH ?_
      try simp only [Act.put, aset]
      refine tk 28 undef 55 rfl rfl (by kernel_rfl) (fun _ _ _ h => h) (.inr ⟨by kernel_rfl, rfl⟩) hH ?_
      try simp only [Act.put, aset]
      refine tk 29 undef 56 rfl rfl (by kernel_rfl) (fun _ _ _ h => h) (.inr ⟨by kernel_rfl, rfl⟩) hH ?_
      try simp only [Act.put, aset]
      refine tk 30 undef 57 rfl rfl (by kernel_rfl) (fun _ _ _ h => h) (.inr ⟨by kernel_rfl, rfl⟩) hH ?_
      try simp only [Act.put, aset]
      refine tk 31 undef 58 rfl rfl (by kernel_rfl) (fun _ _ _ h => h) (.inr ⟨by kernel_rfl, rfl⟩) hH ?_
      try simp only [Act.put, aset]
      refine tk 32 undef 59 rfl rfl (by kernel_rfl) (fun _ _ _ h => h) (.inr ⟨by kernel_rfl, rfl⟩) hH ?_
      try simp only [Act.put, aset]
      refine tk 33 undef 60 rfl rfl (by kernel_rfl) (fun _ _ _ h => h) (.inr ⟨by kernel_rfl, rfl⟩) hH ?_
      try simp only [Act.put, aset]
      refine tk 34 undef 61 rfl rfl (by kernel_rfl) (fun _ _ _ h => h) (.inr ⟨by kernel_rfl, rfl⟩) hH ?_
      try simp only [Act.put, aset]
      refine tk 35 undef 62 rfl rfl (by kernel_rfl) (fun _ _ _ h => h) (.inr ⟨by kernel_rfl, rfl⟩) hH ?_
      try simp only [Act.put, aset]
      refine tk 36 undef 63 rfl rfl (by kernel_rfl) (fun _ _ _ h => h) (.inr ⟨by kernel_rfl, rfl⟩) hH ?_
      try simp only [Act.put, aset]
      refine tk 37 (.bool true) 64 rfl rfl (by kernel_rfl) (fun _ _ _ h => h) (.inl ⟨by rfl, by intro W' hS; go_simp⟩) hH ?_
      try simp only [Act.put, aset]
      refine wpAnyH_done (by kernel_rfl) ?_ _
      have hv : r = false := by rw [HV.out]; exact HX.out (by rw [HS.out, HQ1.out]; simp)
      subst hv
      go_wp2
      go_ret
      exact ⟨by kernel_rfl, hH.below⟩
     case true =>
      have HQ1 := Lib.hid hq
      clear hq
      refine hK.out _ _ S8 (fun hH => ?_)
      clear hK K
      try simp only [Act.put, aset]
      refine tk 6 (.bool false) 33 rfl rfl (by kernel_rfl) (fun _ _ _ h => h) (.inl ⟨by rfl, by intro W' hS; go_simp⟩) hH ?_
      try simp only [Act.put, aset]
      refine tk 7 (.bool false) 34 rfl rfl (by kernel_rfl) (fun _ _ _ h => h) (.inl ⟨by rfl, by intro W' hS; go_simp⟩) hH ?_
      try simp only [Act.put, aset]
      refine tk 8 (.pointer (some ⟨w.heap.size, 0, none⟩)) 35 rfl rfl (by kernel_rfl) (fun _ _ _ h => h) (.inl ⟨by rfl, by intro W' hS; go_simp⟩) hH ?_
      try simp only [Act.put, aset]
      refine tk 9 (.slice (some ⟨b, off, none⟩) c.sn c.sc) 36 rfl rfl (by kernel_rfl) (fun _ _ _ h => h) (.inl ⟨by rfl, by intro W' hS; have hc : W'.cell? ⟨w.heap.size, 0, none⟩ = some (.slice (some ⟨b, off, none⟩) c.sn c.sc) := (hS.b.cell 0).trans (by rw [← HA.out]; rfl); go_simp⟩) hH ?_
      try simp only [Act.put, aset]
      refine tk 10 (.int .i64 k) 37 rfl rfl (by kernel_rfl) (fun _ _ _ h => h) (.inl ⟨by rfl, by intro W' hS; go_simp⟩) hH ?_
      try simp only [Act.put, aset]
      refine tk 11 (.pointer (some ⟨b, off + k * 17, none⟩)) 38 rfl rfl (by kernel_rfl) (fun _ _ _ h => h) (.inl ⟨by rfl, by intro W' hS; go_simp⟩) hH ?_
      try simp only [Act.put, aset]
      refine tk 12 (shV x) 39 rfl rfl (by kernel_rfl) (fun _ _ _ h => h) (yieldsIf_load_mid (by rfl) 30 _ rfl (b) (off + k * 17) (by rfl) (shC x) _ (fun _ h => rng_below RX.out h.below hbB) Tryz.underlying30 (by with_unfolding_all rfl) (by with_unfolding_all rfl)) hH ?_
      try simp only [Act.put, aset]
      refine tk 13 (.pointer (some ⟨w.heap.size, 1, none⟩)) 40 rfl rfl (by kernel_rfl) (fun _ _ _ h => h) (.inl ⟨by rfl, by intro W' hS; go_simp⟩) hH ?_
      try simp only [Act.put, aset]
      refine tk 14 (stampV c.ta c.tt c.tn) 41 rfl rfl (by kernel_rfl) (fun _ _ _ h => h) (yieldsIf_load_mid (by rfl) 27 _ rfl (w.heap.size) (1) (by rfl) [.int .i64 c.ta, .int .i64 c.tt, .int .i64 c.tn] _ (fun _ h => Blk.range h.b 1 _ (by rfl)) Tryz.underlying27 (by with_unfolding_all rfl) (by with_unfolding_all rfl)) hH ?_
      try simp only [Act.put, aset]
      refine wpAnyH_ready (rs := [15]) (by kernel_rfl) (by simp) ?_
      refine AllReadyH.cons rfl (fun K hK => ?_) AllReadyH.nil
      go_simp
      refine (dupto_any x c.ta c.tt c.tn _ (HO.out.kept hH.below).inn).mono ?_
      rintro ex w9 ⟨rfl, d9⟩
      rw [HF.out]
      have S9 := hH.call d9
      clear hH d9
      cases hq : f x
      case false =>
       have HQ2 := Lib.hid hq
       clear hq
       refine hK.out _ _ S9 (fun hH => ?_)
       clear hK K
       try simp only [Act.put, aset]
       refine tk 16 (.bool true) 43 rfl rfl (by kernel_rfl) (fun _ _ _ h => h) (.inl ⟨by rfl, by intro W' hS; go_simp⟩) hH ?_
       try simp only [Act.put, aset]
       refine tk 17 (.bool true) 44 rfl rfl (by kernel_rfl) (fun _ _ _ h => h) (.inl ⟨by rfl, by intro W' hS; go_simp⟩) hH ?_
       try simp only [Act.put, aset]
       refine tk 18 (.bool true) 45 rfl rfl (by kernel_rfl) (fun _ _ _ h => h) (.inl ⟨by rfl, by intro W' hS; go_simp⟩) hH ?_
       try simp only [Act.put, aset]
       refine tk 19 undef 46 rfl rfl (by kernel_rfl) (fun _ _ _ h => h) (.inr ⟨by kernel_rfl, rfl⟩) hH ?_
       try simp only [Act.put, aset]
       refine tk 20 undef 47 rfl rfl (by kernel_rfl) (fun _ _ _ h => h) (.inr ⟨by kernel_rfl, rfl⟩) hH ?_
       try simp only [Act.put, aset]
       refine tk 21 undef 48 rfl rfl (by kernel_rfl) (fun _ _ _ h => h) (.inr ⟨by kernel_rfl, rfl⟩) hH ?_
       try simp only [Act.put, aset]
       refine tk 22 undef 49 rfl rfl (by kernel_rfl) (fun _ _ _ h => h) (.inr ⟨by kernel_rfl, rfl⟩) hH ?_
       try simp only [Act.put, aset]
       refine tk 23 undef 50 rfl rfl (by kernel_rfl) (fun _ _ _ h => h) (.inr ⟨by kernel_rfl, rfl⟩) hH ?_
       try simp only [Act.put, aset]
       refine tk 24 undef 51 rfl rfl (by kernel_rfl) (fun _ _ _ h => h) (.inr ⟨by kernel_rfl, rfl⟩) hH ?_
       try simp only [Act.put, aset]
       refine tk 25 undef 52 rfl rfl (by kernel_rfl) (fun _ _ _ h => h) (.inr ⟨by kernel_rfl, rfl⟩) hH ?_
       try simp only [Act.put, aset]
       refine tk 26 undef 53 rfl rfl (by kernel_rfl) (fun _ _ _ h => h) (.inr ⟨by kernel_rfl, rfl⟩) hH ?_
       try simp only [Act.put, aset]
       refine tk 27 undef 54 rfl rfl (by kernel_rfl) (fun _ _ _ h => h) (.inr ⟨by kernel_rfl, rfl⟩) hH ?_
       try simp only [Act.put, aset]
       refine tk 28 undef 55 rfl rfl (by kernel_rfl) (fun _ _ _ h => h) (.inr ⟨by kernel_rfl, rfl⟩) hH ?_
       try simp only [Act.put, aset]
       refine tk 29 undef 56 rfl rfl (by kernel_rfl) (fun _ _ _ h => h) (.inr ⟨by kernel_rfl, rfl⟩) hH ?_
       try simp only [Act.put, aset]
       refine tk 30 undef 57 rfl rfl (by kernel_rfl) (fun _ _ _ h => h) (.inr ⟨by kernel_rfl, rfl⟩) hH ?_
       try simp only [Act.put, aset]
       refine tk 31 undef 58 rfl rfl (by kernel_rfl) (fun _ _ _ h => h) (.inr ⟨by kernel_rfl, rfl⟩) hH ?_
       try simp only [Act.put, aset]
       refine tk 32 undef 59 rfl rfl (by kernel_rfl) (fun _ _ _ h => h) (.inr ⟨by kernel_rfl, rfl⟩) hH ?_
       try simp only [Act.put, aset]
       refine tk 33 undef 60 rfl rfl (by kernel_rfl) (fun _ _ _ h => h) (.inr ⟨by kernel_rfl, rfl⟩) hH ?_
       try simp only [Act.put, aset]
       refine tk 34 undef 61 rfl rfl (by kernel_rfl) (fun _ _ _ h => h) (.inr ⟨by kernel_rfl, rfl⟩) hH ?_
       try simp only [Act.put, aset]
       refine tk 35 undef 62 rfl rfl (by kernel_rfl) (fun _ _ _ h => h) (.inr ⟨by kernel_rfl, rfl⟩) hH ?_
       try simp only [Act.put, aset]
       refine tk 36 undef 63 rfl rfl (by kernel_rfl) (fun _ _ _ h => h) (.inr ⟨by kernel_rfl, rfl⟩) hH ?_
       try simp only [Act.put, aset]
       refine tk 37 (.bool true) 64 rfl rfl (by kernel_rfl) (fun _ _ _ h => h) (.inl ⟨by rfl, by intro W' hS; go_simp⟩) hH ?_
       try simp only [Act.put, aset]
       refine wpAnyH_done (by kernel_rfl) ?_ _
       have hv : r = false := by rw [HV.out]; exact HX.out (by rw [HS.out, HQ2.out]; simp)
       subst hv
       go_wp2
       go_ret
       exact ⟨by kernel_rfl, hH.below⟩
      case true =>
       have HQ2 := Lib.hid hq
       clear hq
       refine hK.out _ _ S9 (fun hH => ?_)
       clear hK K
       try simp only [Act.put, aset]
       refine tk 16 (.bool false) 43 rfl rfl (by kernel_rfl) (fun _ _ _ h => h) (.inl ⟨by rfl, by intro W' hS; go_simp⟩) hH ?_
       try simp only [Act.put, aset]
       refine tk 17 (.bool false) 44 rfl rfl (by kernel_rfl) (fun _ _ _ h => h) (.inl ⟨by rfl, by intro W' hS; go_simp⟩) hH ?_
       try simp only [Act.put, aset]
       refine tk 18 (.bool false) 45 rfl rfl (by kernel_rfl) (fun _ _ _ h => h) (.inl ⟨by rfl, by intro W' hS; go_simp⟩) hH ?_
       try simp only [Act.put, aset]
       refine tk 19 (.int .i64 k) 46 rfl rfl (by kernel_rfl) (fun _ _ _ h => h) (.inl ⟨by rfl, by intro W' hS; go_simp⟩) hH ?_
       try simp only [Act.put, aset]
       refine tk 20 (.bool (decide ((0 : Int) < (k : Int)))) 47 rfl rfl (by kernel_rfl) (fun _ _ _ h => h) (yif_bin (by rfl) _ _ _ _ _ rfl (.int .i64 (k : Int)) (.int .i64 0) _ (by rfl) (by rfl) (fun _ => guard_int _ _ _ _ _ _ _ _ _) (fun _ => run_gtr_int _ _ _ _)) hH ?_
       rw [HB0.out]
       try simp only [Act.put, aset]
       refine tk 21 (.bool true) 48 rfl rfl (by kernel_rfl) (fun _ _ _ h => h) (.inl ⟨by rfl, by intro W' hS; go_simp⟩) hH ?_
       try simp only [Act.put, aset]
       refine tk 22 (.pointer (some ⟨w.heap.size, 0, none⟩)) 49 rfl rfl (by kernel_rfl) (fun _ _ _ h => h) (.inl ⟨by rfl, by intro W' hS; go_simp⟩) hH ?_
       try simp only [Act.put, aset]
       refine tk 23 (.slice (some ⟨b, off, none⟩) c.sn c.sc) 50 rfl rfl (by kernel_rfl) (fun _ _ _ h => h) (.inl ⟨by rfl, by intro W' hS; have hc : W'.cell? ⟨w.heap.size, 0, none⟩ = some (.slice (some ⟨b, off, none⟩) c.sn c.sc) := (hS.b.cell 0).trans (by rw [← HA.out]; rfl); go_simp⟩) hH ?_
       try simp only [Act.put, aset]
       refine tk 24 (.int .i64 k) 51 rfl rfl (by kernel_rfl) (fun _ _ _ h => h) (.inl ⟨by rfl, by intro W' hS; go_simp⟩) hH ?_
       try simp only [Act.put, aset]
       refine tk 25 (.int .i64 ((k : Int) - 1)) 52 rfl rfl (by kernel_rfl) (fun _ _ _ h => h) (.inl ⟨by rfl, by intro W' hS; go_simp⟩) hH ?_
       try simp only [Act.put, aset]
       refine tk 26 (.pointer (some ⟨b, off + (k - 1) * 17, none⟩)) 53 rfl rfl (by kernel_rfl) (fun _ _ _ h => h) (.inl ⟨by rfl, by intro W' hS; go_simp⟩) hH ?_
       try simp only [Act.put, aset]
       refine tk 27 (.pointer (some ⟨b, off + (k - 1) * 17, none⟩)) 54 rfl rfl (by kernel_rfl) (fun _ _ _ h => h) (.inl ⟨by rfl, by intro W' hS; go_simp⟩) hH ?_
       try simp only [Act.put, aset]
       refine tk 28 (.int .i64 y.id) 55 rfl rfl (by kernel_rfl) (fun _ _ _ h => h) (.inl ⟨by rfl, by intro W' hS; have hc : W'.cell? ⟨b, off + (k - 1) * 17, none⟩ = some (.int .i64 y.id) := rng_id (rng_below RY.out hS.below hbB); go_simp⟩) hH ?_
       try simp only [Act.put, aset]
       refine tk 29 (.pointer (some ⟨w.heap.size, 0, none⟩)) 56 rfl rfl (by kernel_rfl) (fun _ _ _ h => h) (.inl ⟨by rfl, by intro W' hS; go_simp⟩) hH ?_
       try simp only [Act.put, aset]
       refine tk 30 (.slice (some ⟨b, off, none⟩) c.sn c.sc) 57 rfl rfl (by kernel_rfl) (fun _ _ _ h => h) (.inl ⟨by rfl, by intro W' hS; have hc : W'.cell? ⟨w.heap.size, 0, none⟩ = some (.slice (some ⟨b, off, none⟩) c.sn c.sc) := (hS.b.cell 0).trans (by rw [← HA.out]; rfl); go_simp⟩) hH ?_
       try simp only [Act.put, aset]
       refine tk 31 (.int .i64 k) 58 rfl rfl (by kernel_rfl) (fun _ _ _ h => h) (.inl ⟨by rfl, by intro W' hS; go_simp⟩) hH ?_
       try simp only [Act.put, aset]
       refine tk 32 (.pointer (some ⟨b, off + k * 17, none⟩)) 59 rfl rfl (by kernel_rfl) (fun _ _ _ h => h) (.inl ⟨by rfl, by intro W' hS; go_simp⟩) hH ?_
       try simp only [Act.put, aset]
       refine tk 33 (.pointer (some ⟨b, off + k * 17, none⟩)) 60 rfl rfl (by kernel_rfl) (fun _ _ _ h => h) (.inl ⟨by rfl, by intro W' hS; go_simp⟩) hH ?_
       try simp only [Act.put, aset]
       refine tk 34 (.int .i64 x.id) 61 rfl rfl (by kernel_rfl) (fun _ _ _ h => h) (.inl ⟨by rfl, by intro W' hS; have hc : W'.cell? ⟨b, off + k * 17, none⟩ = some (.int .i64 x.id) := rng_id (rng_below RX.out hS.below hbB); go_simp⟩) hH ?_
       try simp only [Act.put, aset]
       refine tk 35 (.bool false) 62 rfl rfl (by kernel_rfl) (fun _ _ _ h => h) (.inl ⟨by rfl, by intro W' hS; go_simp⟩) hH ?_
       try simp only [Act.put, aset]
       refine tk 36 (.bool false) 63 rfl rfl (by kernel_rfl) (fun _ _ _ h => h) (.inl ⟨by rfl, by intro W' hS; go_simp⟩) hH ?_
       try simp only [Act.put, aset]
       refine tk 37 (.bool false) 64 rfl rfl (by kernel_rfl) (fun _ _ _ h => h) (.inl ⟨by rfl, by intro W' hS; go_simp⟩) hH ?_
       try simp only [Act.put, aset]
       refine wpAnyH_done (by kernel_rfl) ?_ _
       go_wp2_with fail
       go_roundw
       case rel => exact ⟨k + 1, by go_num, by omega, steps_succ HT.out (by rw [HS.out, HLT.out, HQ1.out, HQ2.out]; rfl), hH.below, hH.b⟩
       case measure => simp [intOf]; omega
  case neg =>
   have hv : r = true := by rw [HV.out]; exact rowB_true (fun j hj => HT.out j (by omega))
   subst hv
   go_wp2
   go_ret
   exact ⟨by kernel_rfl, hb⟩
end Go.Proofs.YtkoligiilieboaaGreatDoor
