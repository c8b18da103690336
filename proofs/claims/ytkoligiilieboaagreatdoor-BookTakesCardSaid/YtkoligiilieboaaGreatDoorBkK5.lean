/- The document's equality of cells. -/
import Derived.Test.YtkoligiilieboaaGreatDoorBkK4
set_option linter.unusedSimpArgs false
set_option linter.unusedVariables false
namespace Go.Proofs.YtkoligiilieboaaGreatDoor
open Go.RowKit
attribute [local go_sem] ByteArray.mk_append_mk ByteArray.extract_mk
attribute [local go_sem ↓] Go.wp_at_zero Go.wp_at_succ run_eql_St run_neq_St
theorem ceEq_t {c d : Ce} (h : ceL c = ceL d) : eqSt c.ta d.ta c.tt d.tt c.tn d.tn = true := by
 simp only [ceL, Prod.mk.injEq] at h
 simp [eqSt, h]
theorem ceEq_d {c d : Ce} (h : ceL c = ceL d) : c.drop = d.drop := congrArg (·.2.1) h
theorem ceEq_s {c d : Ce} (h : ceL c = ceL d) : c.ss.map shL = d.ss.map shL := congrArg (·.2.2) h
theorem ceEq_e {c d : Ce} (h1 : eqSt c.ta d.ta c.tt d.tt c.tn d.tn = true) (h2 : c.drop = d.drop) (h3 : c.ss.map shL = d.ss.map shL) : ceL c = ceL d := by
 simp only [beq_iff_eq, eqSt, Bool.and_eq_true] at h1
 simp [ceL, h1, h2, h3]
set_option maxHeartbeats 6400000 in
set_option maxRecDepth 100000 in
theorem ceeq_any (c d : Ce) (w : World) (hI : CeIn w w.heap.size c) (hI' : CeIn w w.heap.size d) :
  Calls Tryz.prog 13 #[ceV c, ceV d] w (EqPost (ceL c) (ceL d) w) := by
 have hcl := hI.len
 have hdl := hI'.len
 have hc63 := hI.m63
 have hd63 := hI'.m63
 have S0 := TwoB.new w 38 (ceA c) (ceA d)
 go_enter Tryz.func13, Tryz.ntmps13
 go_upto_region 1 with (fail)
 generalize (w.alloc (.cells (ceA c) 38)).alloc (.cells (ceA d) 38) = W0 at *
 generalize hgh : w.heap.size + 1 = gh at *
 have c0 : W0.cell? ⟨w.heap.size, 0, none⟩ = some (.slice c.sA c.sn c.sc) := S0.ba.cell 0
 have c1 : W0.cell? ⟨w.heap.size, 1, none⟩ = some (.int .i64 c.ta) := S0.ba.cell 1
 have c2 : W0.cell? ⟨w.heap.size, 2, none⟩ = some (.int .i64 c.tt) := S0.ba.cell 2
 have c3 : W0.cell? ⟨w.heap.size, 3, none⟩ = some (.int .i64 c.tn) := S0.ba.cell 3
 have c4 : W0.cell? ⟨w.heap.size, 4, none⟩ = some (.int .i64 c.drop) := S0.ba.cell 4
 have d0 : W0.cell? ⟨gh, 0, none⟩ = some (.slice d.sA d.sn d.sc) := S0.bb.cell 0
 have d1 : W0.cell? ⟨gh, 1, none⟩ = some (.int .i64 d.ta) := S0.bb.cell 1
 have d2 : W0.cell? ⟨gh, 2, none⟩ = some (.int .i64 d.tt) := S0.bb.cell 2
 have d3 : W0.cell? ⟨gh, 3, none⟩ = some (.int .i64 d.tn) := S0.bb.cell 3
 have d4 : W0.cell? ⟨gh, 4, none⟩ = some (.int .i64 d.drop) := S0.bb.cell 4
 by_cases hn : c.sn = d.sn
 case neg =>
  have b1 : ((c.sn : Int) != (d.sn : Int)) = true := by simp; omega
  have b2 : ((c.sn : Int) == (d.sn : Int)) = false := by simp; omega
  go_wp2
  go_ret
  exact ⟨⟨false, rfl, ⟨fun h => absurd h Bool.false_ne_true, fun h => absurd (ceEq_s h) (map_len_ne (by omega))⟩⟩, S0.below⟩
 case pos =>
 have hn2 : (d.sn : Int) = (c.sn : Int) := by omega
 have b1 : ((c.sn : Int) != (d.sn : Int)) = false := by simp; omega
 have b2 : ((c.sn : Int) == (d.sn : Int)) = true := by simp; omega
 cases ht : eqSt c.ta d.ta c.tt d.tt c.tn d.tn
 case false =>
  go_wp2
  go_ret
  exact ⟨⟨false, rfl, ⟨fun h => absurd h Bool.false_ne_true, fun h => absurd (ht.symm.trans (ceEq_t h)) Bool.false_ne_true⟩⟩, S0.below⟩
 case true =>
 by_cases hd : c.drop = d.drop
 case neg =>
  have b3 : (c.drop != d.drop) = true := by simp [hd]
  have b4 : (c.drop == d.drop) = false := by simp [hd]
  have HD := Lib.hid hd
  clear hd
  go_wp2
  go_ret
  exact ⟨⟨false, rfl, ⟨fun h => absurd h Bool.false_ne_true, fun h => absurd (ceEq_d h) HD.out⟩⟩, S0.below⟩
 case pos =>
 have b3 : (c.drop != d.drop) = false := by simp [hd]
 have b4 : (c.drop == d.drop) = true := by simp [hd]
 have HD := Lib.hid hd
 clear hd
 go_wp2_with fail
 have HT := Lib.hid ht
 have hdl2 : d.ss.length = c.sn := by omega
 have HN := Lib.hid hn
 clear ht b1 b2 b3 b4 hn2 hn hdl c0 c1 c2 c3 c4 d0 d1 d2 d3 d4
 go_loopw [5] (fun i wr => ∃ k : Nat, i = .int .i64 k ∧ k ≤ c.sn ∧ (c.ss.take k).map shL = (d.ss.take k).map shL ∧ TwoB w w.heap.size gh 38 (ceA c) (ceA d) wr) (fun i _ => c.sn - (intOf i).toNat)
 case atStart => exact ⟨0, rfl, Nat.zero_le _, rfl, S0⟩
 case round =>
  clear S0
  obtain ⟨k, rfl, hk, ht, S1⟩ := hrel
  have i0 : (0 : Int) ≤ (k : Int) := by omega
  have HK := Lib.hid ht
  clear ht
  have c0 : wr.cell? ⟨w.heap.size, 0, none⟩ = some (.slice c.sA c.sn c.sc) := S1.ba.cell 0
  by_cases hlt : k < c.sn
  case pos =>
   have i1 : (k : Int) < (c.sn : Int) := by omega
   have i2 : (k : Int) < (d.sn : Int) := by have := HN.out; omega
   obtain ⟨b0, off, hA, hbB, rx⟩ := hI.row.at k (by omega)
   obtain ⟨b1, off', hA', hbB', ry⟩ := hI'.row.at k (by omega)
   have HA := Lib.hid hA
   have HA' := Lib.hid hA'
   clear hA hA'
   have hs := fun (he : shL (c.ss[k]'(by omega)) = shL (d.ss[k]'(by omega))) => take_map_succ (by omega) (by omega) HK.out he
   have hne := fun (he : shL (c.ss[k]'(by omega)) ≠ shL (d.ss[k]'(by omega))) => map_ne_at (by omega) (by omega) he
   have hix := hI.ss (c.ss[k]'(by omega)) (List.getElem_mem (by omega))
   have hiy := hI'.ss (d.ss[k]'(by omega)) (List.getElem_mem (by omega))
   obtain ⟨x, hxk⟩ : ∃ x, c.ss[k]'(by omega) = x := ⟨_, rfl⟩
   obtain ⟨y, hyk⟩ : ∃ y, d.ss[k]'(by omega) = y := ⟨_, rfl⟩
   rw [hxk] at rx hs hne hix
   rw [hyk] at ry hs hne hiy
   have HS := Lib.hid hs
   have HNE := Lib.hid hne
   have HIX := Lib.hid hix
   have HIY := Lib.hid hiy
   clear hxk hyk hs hne hix hiy
   go_wp2_with fail
   clear c0
   refine wp_region_held_drew (S := (fun W' => TwoB w w.heap.size gh 38 (ceA c) (ceA d) W')) (by kernel_rfl) S1.drew (fun hH => ?_)
   refine tk 0 (.pointer (some ⟨w.heap.size, 0, none⟩)) 34 rfl rfl (by kernel_rfl) (fun _ _ _ h => h) (.inl ⟨by rfl, by intro W' hS; go_simp⟩) hH ?_
   try simp only [Act.put, aset]
   refine tk 1 (.slice (some ⟨b0, off, none⟩) c.sn c.sc) 35 rfl rfl (by kernel_rfl) (fun _ _ _ h => h) (.inl ⟨by rfl, by intro W' hS; have hc : W'.cell? ⟨w.heap.size, 0, none⟩ = some (.slice (some ⟨b0, off, none⟩) c.sn c.sc) := (hS.ba.cell 0).trans (by rw [← HA.out]; rfl); go_simp⟩) hH ?_
   try simp only [Act.put, aset]
   refine tk 2 (.int .i64 k) 36 rfl rfl (by kernel_rfl) (fun _ _ _ h => h) (.inl ⟨by rfl, by intro W' hS; go_simp⟩) hH ?_
   try simp only [Act.put, aset]
   refine tk 3 (.pointer (some ⟨b0, off + k * 17, none⟩)) 37 rfl rfl (by kernel_rfl) (fun _ _ _ h => h) (.inl ⟨by rfl, by intro W' hS; go_simp⟩) hH ?_
   try simp only [Act.put, aset]
   refine tk 4 (shV x) 38 rfl rfl (by kernel_rfl) (fun _ _ _ h => h) (yieldsIf_load_mid (by rfl) 30 _ rfl (b0) (off + k * 17) (by rfl) (shC x) _ (fun _ h => rng_below rx h.below hbB) Tryz.underlying30 (by with_unfolding_all rfl) (by with_unfolding_all rfl)) hH ?_
   try simp only [Act.put, aset]
   refine tk 5 (.pointer (some ⟨gh, 0, none⟩)) 39 rfl rfl (by kernel_rfl) (fun _ _ _ h => h) (.inl ⟨by rfl, by intro W' hS; go_simp⟩) hH ?_
   try simp only [Act.put, aset]
   refine tk 6 (.slice (some ⟨b1, off', none⟩) d.sn d.sc) 40 rfl rfl (by kernel_rfl) (fun _ _ _ h => h) (.inl ⟨by rfl, by intro W' hS; have hc : W'.cell? ⟨gh, 0, none⟩ = some (.slice (some ⟨b1, off', none⟩) d.sn d.sc) := (hS.bb.cell 0).trans (by rw [← HA'.out]; rfl); go_simp⟩) hH ?_
   try simp only [Act.put, aset]
   refine tk 7 (.int .i64 k) 41 rfl rfl (by kernel_rfl) (fun _ _ _ h => h) (.inl ⟨by rfl, by intro W' hS; go_simp⟩) hH ?_
   try simp only [Act.put, aset]
   refine tk 8 (.pointer (some ⟨b1, off' + k * 17, none⟩)) 42 rfl rfl (by kernel_rfl) (fun _ _ _ h => h) (.inl ⟨by rfl, by intro W' hS; go_simp⟩) hH ?_
   try simp only [Act.put, aset]
   refine tk 9 (shV y) 43 rfl rfl (by kernel_rfl) (fun _ _ _ h => h) (yieldsIf_load_mid (by rfl) 30 _ rfl (b1) (off' + k * 17) (by rfl) (shC y) _ (fun _ h => rng_below ry h.below hbB') Tryz.underlying30 (by with_unfolding_all rfl) (by with_unfolding_all rfl)) hH ?_
   try simp only [Act.put, aset]
   refine wpAnyH_ready (rs := [10]) (by kernel_rfl) (by simp) ?_
   refine AllReadyH.cons rfl (fun K hK => ?_) AllReadyH.nil
   go_simp
   refine (sheq_any x y _ ((HIX.out.below hH.below (Nat.le_refl _)).more hH.below.size) ((HIY.out.below hH.below (Nat.le_refl _)).more hH.below.size)).mono ?_
   rintro ex v2 ⟨⟨q, rfl, hq⟩, d2⟩
   have S2 := hH.call d2
   have HQ := Lib.hid hq
   clear hH d2 hq
   cases q
   case false =>
    refine hK.out _ _ S2 (fun hH => ?_)
    clear hK K
    try simp only [Act.put, aset]
    refine tk 11 (.bool true) 45 rfl rfl (by kernel_rfl) (fun _ _ _ h => h) (.inl ⟨by rfl, by intro W' hS; go_simp⟩) hH ?_
    try simp only [Act.put, aset]
    refine wpAnyH_done (by kernel_rfl) ?_ _
    go_wp2
    go_ret
    exact ⟨⟨false, rfl, ⟨fun h => absurd h Bool.false_ne_true, fun h => absurd (ceEq_s h) (HNE.out fun h2 => absurd (HQ.out.2 h2) Bool.false_ne_true)⟩⟩, hH.below⟩
   case true =>
    refine hK.out _ _ S2 (fun hH => ?_)
    clear hK K
    try simp only [Act.put, aset]
    refine tk 11 (.bool false) 45 rfl rfl (by kernel_rfl) (fun _ _ _ h => h) (.inl ⟨by rfl, by intro W' hS; go_simp⟩) hH ?_
    try simp only [Act.put, aset]
    refine wpAnyH_done (by kernel_rfl) ?_ _
    go_wp2_with fail
    go_roundw
    case rel => exact ⟨k + 1, by go_num, by omega, HS.out (HQ.out.1 rfl), hH⟩
    case measure => simp [intOf]; omega
  case neg =>
   go_wp2
   go_ret
   exact ⟨⟨true, rfl, ⟨fun _ => ceEq_e HT.out HD.out (map_of_take (by omega) (by omega) HK.out), fun _ => rfl⟩⟩, S1.below⟩
end Go.Proofs.YtkoligiilieboaaGreatDoor
