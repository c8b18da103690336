/- The document's bytes of a message. -/
import Derived.Test.YtkoligiilieboaaGreatDoorMgC
import Derived.Test.YtkoligiilieboaaGreatDoorMgA
import Derived.Deep.CutRange
import Derived.Deep.RegionLaw
set_option linter.unusedSimpArgs false
set_option linter.unusedVariables false
namespace Go.Proofs.YtkoligiilieboaaGreatDoor
open Go.RowKit
attribute [local go_sem] ByteArray.mk_append_mk ByteArray.extract_mk
attribute [local go_sem ↓] Go.wp_at_zero Go.wp_at_succ
structure DM (w : World) (m : Ms) (W : World) : Prop where
  below : Below w.heap.size w W
  bm : Blk W w.heap.size 51 (msA m)
structure DQ (w : World) (gq ga : Nat) (m : Ms) (W : World) : Prop extends DM w m W where
  bq : Blk W gq 44 (rqA m.req)
  ba : Blk W ga 47 (anA m.ans)
structure DP (w : World) (gq ga gp : Nat) (m : Ms) (x : Pl) (W : World) : Prop extends DQ w gq ga m W where
  bp : Blk W gp 81 (plA x)
section
variable {w W W' : World} {gq ga gp : Nat} {m : Ms} {x : Pl}
theorem DM.drew (h : DM w m W) : DM w m W.drew := ⟨h.below.drew, h.bm.drew⟩
theorem DM.call (h : DM w m W) (d : Below W.heap.size W W') : DM w m W' := ⟨bt h.below d, h.bm.keep d⟩
theorem DM.alloc (h : DM w m W) (ob : Obj) : DM w m (W.alloc ob) := ⟨bal h.below ob, h.bm.alloc ob⟩
theorem DM.row {b : Nat} (h : DM w m W) (hb : w.heap.size < b) (vs : Array Value) : DM w m (W.setRow b vs) := ⟨below_row h.below (by omega) vs, h.bm.row_far (by omega) vs⟩
theorem DQ.drew (h : DQ w gq ga m W) : DQ w gq ga m W.drew := ⟨h.toDM.drew, h.bq.drew, h.ba.drew⟩
theorem DQ.call (h : DQ w gq ga m W) (d : Below W.heap.size W W') : DQ w gq ga m W' := ⟨h.toDM.call d, h.bq.keep d, h.ba.keep d⟩
theorem DP.drew (h : DP w gq ga gp m x W) : DP w gq ga gp m x W.drew := ⟨h.toDQ.drew, h.bp.drew⟩
theorem DP.call (h : DP w gq ga gp m x W) (d : Below W.heap.size W W') : DP w gq ga gp m x W' := ⟨h.toDQ.call d, h.bp.keep d⟩
end
theorem stampB_len (x : Stm) : (stampB x).length ≤ 27 := by
  unfold stampB bytesS
  split
  · have := numsB_len [x.1, x.2.1, x.2.2]
    simpa using this
  · simp
def DmPost (m : Ms) (its : List It) (ps : List Pl) (ls : List Int) (w : World) (e : Ending) (w' : World) : Prop := e = .returned (.string ⟨(msgB m its ps ls).toArray⟩) ∧ Below w.heap.size w w'
def itsD (l : List It) : List UInt8 := l.flatMap fun x => textL x.ky ++ textL x.vl
def plsD (l : List Pl) : List UInt8 := l.flatMap fun x => textL x.lo ++ textL x.hi ++ (putI x.sh).1 ++ (putI x.ce).1 ++ (putI x.ep).1
theorem itsD_snoc (l : List It) (k : Nat) (h : k < l.length) : itsD (l.take (k + 1)) = itsD (l.take k) ++ (textL l[k].ky ++ textL l[k].vl) := by
  unfold itsD
  rw [List.take_succ_eq_append_getElem h, List.flatMap_append]
  simp
theorem plsD_snoc (l : List Pl) (k : Nat) (h : k < l.length) : plsD (l.take (k + 1)) = plsD (l.take k) ++ (textL l[k].lo ++ textL l[k].hi ++ (putI l[k].sh).1 ++ (putI l[k].ce).1 ++ (putI l[k].ep).1) := by
  unfold plsD
  rw [List.take_succ_eq_append_getElem h, List.flatMap_append]
  simp
theorem nums_snoc2 (l : List Int) (k : Nat) (h : k < l.length) : numsB (l.take (k + 1)) = numsB (l.take k) ++ (putI l[k]).1 := by
  unfold numsB
  rw [List.take_succ_eq_append_getElem h, List.flatMap_append]
  simp
theorem itsD_eq (l : List It) : itsD l = itsB l := by
  unfold itsD itsB
  congr 1
  funext x
  simp [textsB]
theorem plsD_eq (l : List Pl) : plsD l = plsB l := by
  unfold plsD plsB
  congr 1
  funext x
  simp [textsB, numsB]
set_option maxHeartbeats 64000000 in
set_option maxRecDepth 100000 in
theorem dmsg_any (m : Ms) (its : List It) (ps : List Pl) (ls : List Int) (w : World) (hM : MsgIn m its ps ls w) (hr : rightM m ps ls = true) (hZ : SzM m its ps) :
    Calls Tryz.prog 38 #[msV m] w (DmPost m its ps ls w) := by
  have hf := all_fits hr
  obtain ⟨hh, r1, r2, r3⟩ := right_parts hr
  obtain ⟨⟨hk1, hk2⟩, ⟨he1, he2⟩, hi8, hp8, hl8⟩ := head_iff hh
  have h13 : ∀ x ∈ nm13 m, x ≤ 9223372036854775807 := fun x hx => by have := fits_ok (hf x (mem_13' hx)); omega
  have hpl : ∀ (k : Nat) (h : k < ps.length), ps[k].sh ≤ 9223372036854775807 ∧ ps[k].ce ≤ 9223372036854775807 ∧ ps[k].ep ≤ 9223372036854775807 := fun k h => by obtain ⟨m1, m2, m3⟩ := mem_pl' (m := m) (ls := ls) (List.getElem_mem h); have := fits_ok (hf _ m1); have := fits_ok (hf _ m2); have := fits_ok (hf _ m3); omega
  have hls : ∀ (k : Nat) (h : k < ls.length), ls[k] ≤ 9223372036854775807 := fun k h => by have := fits_ok (hf _ (mem_lm' (m := m) (ps := ps) (List.getElem_mem h))); omega
  have R1 := Lib.hid r1
  have R2 := Lib.hid r2
  have R3 := Lib.hid r3
  have H13 := Lib.hid h13
  have HPL := Lib.hid hpl
  have HLS := Lib.hid hls
  have HZ := Lib.hid hZ
  clear hh r1 r2 r3 hf hr h13 hpl hls hZ hk1 hk2
  have hoq : (rqA m.req).toList.all (·.oneCell') = true := (by with_unfolding_all rfl)
  have hoa : (anA m.ans).toList.all (·.oneCell') = true := (by with_unfolding_all rfl)
  go_enter Tryz.func38, Tryz.ntmps38
  go_upto_region 1 with (fail)
  have S0 : DM w m (w.alloc (.cells (msA m) 51)) := ⟨bal (b0 w) _, Blk.new w _ _⟩
  have hlt0 : w.heap.size < (w.alloc (.cells (msA m) 51)).heap.size := by simp
  generalize w.alloc (.cells (msA m) 51) = W0 at *
  go_cut [3, 4] from 10 to 13 (fun s3 s4 wx => ∃ gq ga, s3 = .pointer (some ⟨gq, 0, none⟩) ∧ s4 = .pointer (some ⟨ga, 0, none⟩) ∧ DQ w gq ga m wx)
  case first =>
    refine wp_region_held_drew (S := (fun W' => DM w m W')) (by kernel_rfl) S0.drew (fun hH => ?_)
    refine tk 0 (.pointer (some ⟨w.heap.size, 13, none⟩)) 10 rfl rfl (by kernel_rfl) (fun _ _ _ h => h) (.inl ⟨by rfl, by intro W' hS; go_simp⟩) hH ?_
    try simp only [Act.put, aset]
    refine tk 1 (.agg (rqA m.req)) 11 rfl rfl (by kernel_rfl) (fun _ _ _ h => h) (yieldsIf_load_mid (by rfl) 44 _ rfl (w.heap.size) 13 (by rfl) (rqA m.req).toList _ (fun _ h => Blk.range h.bm 13 _ (by rfl)) Tryz.underlying44 (by with_unfolding_all rfl) (by with_unfolding_all rfl)) hH ?_
    try simp only [Act.put, aset]
    refine tk 2 (.pointer (some ⟨w.heap.size, 25, none⟩)) 12 rfl rfl (by kernel_rfl) (fun _ _ _ h => h) (.inl ⟨by rfl, by intro W' hS; go_simp⟩) hH ?_
    try simp only [Act.put, aset]
    refine tk 3 (.agg (anA m.ans)) 13 rfl rfl (by kernel_rfl) (fun _ _ _ h => h) (yieldsIf_load_mid (by rfl) 47 _ rfl (w.heap.size) 25 (by rfl) (anA m.ans).toList _ (fun _ h => Blk.range h.bm 25 _ (by rfl)) Tryz.underlying47 (by with_unfolding_all rfl) (by with_unfolding_all rfl)) hH ?_
    try simp only [Act.put, aset]
    clear hH
    refine wpAnyH_ready (rs := [4, 5]) (by kernel_rfl) (by simp) ?_
    refine AllReadyH.cons rfl (fun K hK => ?ca) (AllReadyH.cons rfl (fun K hK => ?cb) AllReadyH.nil)
    case ca =>
      go_simp
      refine hK.out _ _ (S0.drew.alloc (.cells zqA 44)) (fun hH => ?_)
      clear hK K hH
      try simp only [Act.put, aset]
      refine wpAnyH_ready (rs := [5]) (by kernel_rfl) (by simp) ?_
      refine AllReadyH.cons rfl (fun K hK => ?_) AllReadyH.nil
      go_simp
      have T0 := (S0.drew.alloc (.cells zqA 44)).alloc (.cells zaA 47)
      have Q0 : Blk ((W0.drew.alloc (.cells zqA 44)).alloc (.cells zaA 47)) W0.heap.size 44 zqA := ((Blk.new' W0.drew 44 zqA W0.heap.size rfl).alloc (.cells zaA 47))
      have A0 : Blk ((W0.drew.alloc (.cells zqA 44)).alloc (.cells zaA 47)) (W0.heap.size + 1) 47 zaA := (Blk.new' (W0.drew.alloc (.cells zqA 44)) 47 zaA (W0.heap.size + 1) (by simp))
      refine hK.out _ _ T0 (fun hH => ?_)
      clear hK K hH
      try simp only [Act.put, aset]
      refine wpAnyH_ready (rs := [6]) (by kernel_rfl) (by simp) ?_
      refine AllReadyH.cons rfl (fun K hK => ?_) AllReadyH.nil
      refine wp_st Q0 (by rfl) 44 _ _ rfl (rqA m.req) (by rfl) (by rfl) (by rfl) (by with_unfolding_all rfl) hoq ?_
      intro W5 e5
      have T5 : DM w m W5 := by rw [e5]; exact T0.row (by omega) _
      have Q5 : Blk W5 W0.heap.size 44 (rqA m.req) := by rw [e5]; exact Q0.row _
      have A5 : Blk W5 (W0.heap.size + 1) 47 zaA := by rw [e5]; exact A0.row_far (by omega) _
      clear e5 Q0 A0 T0
      refine hK.out _ _ T5 (fun hH => ?_)
      clear hK K hH
      try simp only [Act.put, aset]
      refine wpAnyH_ready (rs := [7]) (by kernel_rfl) (by simp) ?_
      refine AllReadyH.cons rfl (fun K hK => ?_) AllReadyH.nil
      refine wp_st A5 (by rfl) 47 _ _ rfl (anA m.ans) (by rfl) (by rfl) (by rfl) (by with_unfolding_all rfl) hoa ?_
      intro W6 e6
      have T6 : DM w m W6 := by rw [e6]; exact T5.row (by omega) _
      have Q6 : Blk W6 W0.heap.size 44 (rqA m.req) := by rw [e6]; exact Q5.row_far (by omega) _
      have A6 : Blk W6 (W0.heap.size + 1) 47 (anA m.ans) := by rw [e6]; exact A5.row _
      clear e6 Q5 A5 T5
      refine hK.out _ _ T6 (fun hH => ?_)
      clear hK K hH
      refine wpAnyH_done (by kernel_rfl) ?_ _
      go_wp2_with fail
      go_meet
      exact ⟨_, _, rfl, rfl, ⟨T6, Q6, A6⟩⟩
    case cb =>
      go_simp
      refine hK.out _ _ (S0.drew.alloc (.cells zaA 47)) (fun hH => ?_)
      clear hK K hH
      try simp only [Act.put, aset]
      refine wpAnyH_ready (rs := [4]) (by kernel_rfl) (by simp) ?_
      refine AllReadyH.cons rfl (fun K hK => ?_) AllReadyH.nil
      go_simp
      have T0 := (S0.drew.alloc (.cells zaA 47)).alloc (.cells zqA 44)
      have Q0 : Blk ((W0.drew.alloc (.cells zaA 47)).alloc (.cells zqA 44)) (W0.heap.size + 1) 44 zqA := (Blk.new' (W0.drew.alloc (.cells zaA 47)) 44 zqA (W0.heap.size + 1) (by simp))
      have A0 : Blk ((W0.drew.alloc (.cells zaA 47)).alloc (.cells zqA 44)) W0.heap.size 47 zaA := ((Blk.new' W0.drew 47 zaA W0.heap.size rfl).alloc (.cells zqA 44))
      refine hK.out _ _ T0 (fun hH => ?_)
      clear hK K hH
      try simp only [Act.put, aset]
      refine wpAnyH_ready (rs := [6]) (by kernel_rfl) (by simp) ?_
      refine AllReadyH.cons rfl (fun K hK => ?_) AllReadyH.nil
      refine wp_st Q0 (by rfl) 44 _ _ rfl (rqA m.req) (by rfl) (by rfl) (by rfl) (by with_unfolding_all rfl) hoq ?_
      intro W5 e5
      have T5 : DM w m W5 := by rw [e5]; exact T0.row (by omega) _
      have Q5 : Blk W5 (W0.heap.size + 1) 44 (rqA m.req) := by rw [e5]; exact Q0.row _
      have A5 : Blk W5 W0.heap.size 47 zaA := by rw [e5]; exact A0.row_far (by omega) _
      clear e5 Q0 A0 T0
      refine hK.out _ _ T5 (fun hH => ?_)
      clear hK K hH
      try simp only [Act.put, aset]
      refine wpAnyH_ready (rs := [7]) (by kernel_rfl) (by simp) ?_
      refine AllReadyH.cons rfl (fun K hK => ?_) AllReadyH.nil
      refine wp_st A5 (by rfl) 47 _ _ rfl (anA m.ans) (by rfl) (by rfl) (by rfl) (by with_unfolding_all rfl) hoa ?_
      intro W6 e6
      have T6 : DM w m W6 := by rw [e6]; exact T5.row (by omega) _
      have Q6 : Blk W6 (W0.heap.size + 1) 44 (rqA m.req) := by rw [e6]; exact Q5.row_far (by omega) _
      have A6 : Blk W6 W0.heap.size 47 (anA m.ans) := by rw [e6]; exact A5.row _
      clear e6 Q5 A5 T5
      refine hK.out _ _ T6 (fun hH => ?_)
      clear hK K hH
      refine wpAnyH_done (by kernel_rfl) ?_ _
      go_wp2_with fail
      go_meet
      exact ⟨_, _, rfl, rfl, ⟨T6, Q6, A6⟩⟩
  case rest =>
  obtain ⟨gq, ga, rfl, rfl, S1⟩ := hcut
  clear S0 hlt0 hoq hoa
  go_wp2_with fail
  refine wp_region_held_drew (S := (fun W' => DQ w gq ga m W')) (by kernel_rfl) S1.drew (fun hH => ?_)
  refine tk 0 (.pointer (some ⟨w.heap.size, 0, none⟩)) 14 rfl rfl (by kernel_rfl) (fun _ _ _ h => h) (.inl ⟨by rfl, by intro W' hS; go_simp⟩) hH ?_
  try simp only [Act.put, aset]
  refine tk 1 (.int .i64 m.kind) 15 rfl rfl (by kernel_rfl) (fun _ _ _ h => h) (.inl ⟨by rfl, by intro W' hS; have hc : W'.cell? ⟨w.heap.size, 0, none⟩ = some (.int .i64 m.kind) := hS.bm.cell 0; go_simp⟩) hH ?_
  try simp only [Act.put, aset]
  refine tk 3 (.pointer (some ⟨w.heap.size, 1, none⟩)) 17 rfl rfl (by kernel_rfl) (fun _ _ _ h => h) (.inl ⟨by rfl, by intro W' hS; go_simp⟩) hH ?_
  try simp only [Act.put, aset]
  refine tk 4 (.int .i64 m.frm) 18 rfl rfl (by kernel_rfl) (fun _ _ _ h => h) (.inl ⟨by rfl, by intro W' hS; have hc : W'.cell? ⟨w.heap.size, 1, none⟩ = some (.int .i64 m.frm) := hS.bm.cell 1; go_simp⟩) hH ?_
  try simp only [Act.put, aset]
  refine tk 7 (.pointer (some ⟨w.heap.size, 2, none⟩)) 21 rfl rfl (by kernel_rfl) (fun _ _ _ h => h) (.inl ⟨by rfl, by intro W' hS; go_simp⟩) hH ?_
  try simp only [Act.put, aset]
  refine tk 8 (.int .i64 m.to) 22 rfl rfl (by kernel_rfl) (fun _ _ _ h => h) (.inl ⟨by rfl, by intro W' hS; have hc : W'.cell? ⟨w.heap.size, 2, none⟩ = some (.int .i64 m.to) := hS.bm.cell 2; go_simp⟩) hH ?_
  try simp only [Act.put, aset]
  refine tk 11 (.pointer (some ⟨w.heap.size, 3, none⟩)) 25 rfl rfl (by kernel_rfl) (fun _ _ _ h => h) (.inl ⟨by rfl, by intro W' hS; go_simp⟩) hH ?_
  try simp only [Act.put, aset]
  refine tk 12 (.int .i64 m.shard) 26 rfl rfl (by kernel_rfl) (fun _ _ _ h => h) (.inl ⟨by rfl, by intro W' hS; have hc : W'.cell? ⟨w.heap.size, 3, none⟩ = some (.int .i64 m.shard) := hS.bm.cell 3; go_simp⟩) hH ?_
  try simp only [Act.put, aset]
  refine tk 15 (.pointer (some ⟨w.heap.size, 4, none⟩)) 29 rfl rfl (by kernel_rfl) (fun _ _ _ h => h) (.inl ⟨by rfl, by intro W' hS; go_simp⟩) hH ?_
  try simp only [Act.put, aset]
  refine tk 16 (.int .i64 m.epoch) 30 rfl rfl (by kernel_rfl) (fun _ _ _ h => h) (.inl ⟨by rfl, by intro W' hS; have hc : W'.cell? ⟨w.heap.size, 4, none⟩ = some (.int .i64 m.epoch) := hS.bm.cell 4; go_simp⟩) hH ?_
  try simp only [Act.put, aset]
  refine tk 19 (.pointer (some ⟨w.heap.size, 5, none⟩)) 33 rfl rfl (by kernel_rfl) (fun _ _ _ h => h) (.inl ⟨by rfl, by intro W' hS; go_simp⟩) hH ?_
  try simp only [Act.put, aset]
  refine tk 20 (.int .i64 m.move) 34 rfl rfl (by kernel_rfl) (fun _ _ _ h => h) (.inl ⟨by rfl, by intro W' hS; have hc : W'.cell? ⟨w.heap.size, 5, none⟩ = some (.int .i64 m.move) := hS.bm.cell 5; go_simp⟩) hH ?_
  try simp only [Act.put, aset]
  refine tk 23 (.pointer (some ⟨w.heap.size, 6, none⟩)) 37 rfl rfl (by kernel_rfl) (fun _ _ _ h => h) (.inl ⟨by rfl, by intro W' hS; go_simp⟩) hH ?_
  try simp only [Act.put, aset]
  refine tk 24 (.int .i64 m.lease) 38 rfl rfl (by kernel_rfl) (fun _ _ _ h => h) (.inl ⟨by rfl, by intro W' hS; have hc : W'.cell? ⟨w.heap.size, 6, none⟩ = some (.int .i64 m.lease) := hS.bm.cell 6; go_simp⟩) hH ?_
  try simp only [Act.put, aset]
  refine tk 27 (.pointer (some ⟨w.heap.size, 7, none⟩)) 41 rfl rfl (by kernel_rfl) (fun _ _ _ h => h) (.inl ⟨by rfl, by intro W' hS; go_simp⟩) hH ?_
  try simp only [Act.put, aset]
  refine tk 28 (.int .i64 m.num) 42 rfl rfl (by kernel_rfl) (fun _ _ _ h => h) (.inl ⟨by rfl, by intro W' hS; have hc : W'.cell? ⟨w.heap.size, 7, none⟩ = some (.int .i64 m.num) := hS.bm.cell 7; go_simp⟩) hH ?_
  try simp only [Act.put, aset]
  refine tk 31 (.pointer (some ⟨w.heap.size, 8, none⟩)) 45 rfl rfl (by kernel_rfl) (fun _ _ _ h => h) (.inl ⟨by rfl, by intro W' hS; go_simp⟩) hH ?_
  try simp only [Act.put, aset]
  refine tk 32 (.int .i64 m.of) 46 rfl rfl (by kernel_rfl) (fun _ _ _ h => h) (.inl ⟨by rfl, by intro W' hS; have hc : W'.cell? ⟨w.heap.size, 8, none⟩ = some (.int .i64 m.of) := hS.bm.cell 8; go_simp⟩) hH ?_
  try simp only [Act.put, aset]
  refine tk 35 (.pointer (some ⟨w.heap.size, 9, none⟩)) 49 rfl rfl (by kernel_rfl) (fun _ _ _ h => h) (.inl ⟨by rfl, by intro W' hS; go_simp⟩) hH ?_
  try simp only [Act.put, aset]
  refine tk 36 (.agg #[.int .i64 m.a, .int .i64 m.t, .int .i64 m.n]) 50 rfl rfl (by kernel_rfl) (fun _ _ _ h => h) (yieldsIf_load_mid (by rfl) 27 _ rfl (w.heap.size) 9 (by rfl) [.int .i64 m.a, .int .i64 m.t, .int .i64 m.n] _ (fun _ h => Blk.range h.bm 9 _ (by rfl)) Tryz.underlying27 (by with_unfolding_all rfl) (by with_unfolding_all rfl)) hH ?_
  try simp only [Act.put, aset]
  refine tk 39 (.pointer (some ⟨w.heap.size, 12, none⟩)) 53 rfl rfl (by kernel_rfl) (fun _ _ _ h => h) (.inl ⟨by rfl, by intro W' hS; go_simp⟩) hH ?_
  try simp only [Act.put, aset]
  refine tk 40 (.string ⟨m.text.toArray⟩) 54 rfl rfl (by kernel_rfl) (fun _ _ _ h => h) (.inl ⟨by rfl, by intro W' hS; have hc : W'.cell? ⟨w.heap.size, 12, none⟩ = some (.string ⟨m.text.toArray⟩) := hS.bm.cell 12; go_simp⟩) hH ?_
  try simp only [Act.put, aset]
  refine wpAnyH_ready (rs := [2]) (by kernel_rfl) (by simp) ?_
  refine AllReadyH.cons rfl (fun K hK => ?_) AllReadyH.nil
  go_simp
  refine (dnum_any m.kind (H13.out m.kind (by simp)) _).mono ?_
  rintro e u1 ⟨rfl, du1⟩
  have pl1 := putI_len m.kind
  have S2 := hH.call du1
  clear hH du1 S1
  refine hK.out _ _ S2 (fun hH => ?_)
  clear hK K
  try simp only [Act.put, aset]
  refine wpAnyH_ready (rs := [5]) (by kernel_rfl) (by simp) ?_
  refine AllReadyH.cons rfl (fun K hK => ?_) AllReadyH.nil
  go_simp
  refine (dnum_any m.frm (H13.out m.frm (by simp)) _).mono ?_
  rintro e u2 ⟨rfl, du2⟩
  have pl2 := putI_len m.frm
  have S3 := hH.call du2
  clear hH du2 S2
  refine hK.out _ _ S3 (fun hH => ?_)
  clear hK K
  try simp only [Act.put, aset]
  obtain ⟨t3, ht⟩ : ∃ q9, (putI m.kind).1 ++ (putI m.frm).1 = q9 := ⟨_, rfl⟩
  have hl3 : t3.length ≤ 18 := by rw [← ht, List.length_append]; omega
  have HT3 := Lib.hid ht
  refine tk 6 (.string ⟨t3.toArray⟩) 20 rfl rfl (by kernel_rfl) (fun _ _ _ h => h) (by rw [← ht]; exact yif_cat (by rfl) _ _ _ _ rfl (putI m.kind).1 (putI m.frm).1 (by rfl) (by rfl) (by omega)) hH ?_
  try simp only [Act.put, aset]
  clear ht pl1 pl2
  refine wpAnyH_ready (rs := [9]) (by kernel_rfl) (by simp) ?_
  refine AllReadyH.cons rfl (fun K hK => ?_) AllReadyH.nil
  go_simp
  refine (dnum_any m.to (H13.out m.to (by simp)) _).mono ?_
  rintro e u4 ⟨rfl, du4⟩
  have pl4 := putI_len m.to
  have S4 := hH.call du4
  clear hH du4 S3
  refine hK.out _ _ S4 (fun hH => ?_)
  clear hK K
  try simp only [Act.put, aset]
  obtain ⟨t5, ht⟩ : ∃ q9, t3 ++ (putI m.to).1 = q9 := ⟨_, rfl⟩
  have hl5 : t5.length ≤ 27 := by rw [← ht, List.length_append]; omega
  have HT5 := Lib.hid ht
  refine tk 10 (.string ⟨t5.toArray⟩) 24 rfl rfl (by kernel_rfl) (fun _ _ _ h => h) (by rw [← ht]; exact yif_cat (by rfl) _ _ _ _ rfl t3 (putI m.to).1 (by rfl) (by rfl) (by omega)) hH ?_
  try simp only [Act.put, aset]
  clear ht hl3 pl4
  refine wpAnyH_ready (rs := [13]) (by kernel_rfl) (by simp) ?_
  refine AllReadyH.cons rfl (fun K hK => ?_) AllReadyH.nil
  go_simp
  refine (dnum_any m.shard (H13.out m.shard (by simp)) _).mono ?_
  rintro e u6 ⟨rfl, du6⟩
  have pl6 := putI_len m.shard
  have S5 := hH.call du6
  clear hH du6 S4
  refine hK.out _ _ S5 (fun hH => ?_)
  clear hK K
  try simp only [Act.put, aset]
  obtain ⟨t7, ht⟩ : ∃ q9, t5 ++ (putI m.shard).1 = q9 := ⟨_, rfl⟩
  have hl7 : t7.length ≤ 36 := by rw [← ht, List.length_append]; omega
  have HT7 := Lib.hid ht
  refine tk 14 (.string ⟨t7.toArray⟩) 28 rfl rfl (by kernel_rfl) (fun _ _ _ h => h) (by rw [← ht]; exact yif_cat (by rfl) _ _ _ _ rfl t5 (putI m.shard).1 (by rfl) (by rfl) (by omega)) hH ?_
  try simp only [Act.put, aset]
  clear ht hl5 pl6
  refine wpAnyH_ready (rs := [17]) (by kernel_rfl) (by simp) ?_
  refine AllReadyH.cons rfl (fun K hK => ?_) AllReadyH.nil
  go_simp
  refine (dnum_any m.epoch (H13.out m.epoch (by simp)) _).mono ?_
  rintro e u8 ⟨rfl, du8⟩
  have pl8 := putI_len m.epoch
  have S6 := hH.call du8
  clear hH du8 S5
  refine hK.out _ _ S6 (fun hH => ?_)
  clear hK K
  try simp only [Act.put, aset]
  obtain ⟨t9, ht⟩ : ∃ q9, t7 ++ (putI m.epoch).1 = q9 := ⟨_, rfl⟩
  have hl9 : t9.length ≤ 45 := by rw [← ht, List.length_append]; omega
  have HT9 := Lib.hid ht
  refine tk 18 (.string ⟨t9.toArray⟩) 32 rfl rfl (by kernel_rfl) (fun _ _ _ h => h) (by rw [← ht]; exact yif_cat (by rfl) _ _ _ _ rfl t7 (putI m.epoch).1 (by rfl) (by rfl) (by omega)) hH ?_
  try simp only [Act.put, aset]
  clear ht hl7 pl8
  refine wpAnyH_ready (rs := [21]) (by kernel_rfl) (by simp) ?_
  refine AllReadyH.cons rfl (fun K hK => ?_) AllReadyH.nil
  go_simp
  refine (dnum_any m.move (H13.out m.move (by simp)) _).mono ?_
  rintro e u10 ⟨rfl, du10⟩
  have pl10 := putI_len m.move
  have S7 := hH.call du10
  clear hH du10 S6
  refine hK.out _ _ S7 (fun hH => ?_)
  clear hK K
  try simp only [Act.put, aset]
  obtain ⟨t11, ht⟩ : ∃ q9, t9 ++ (putI m.move).1 = q9 := ⟨_, rfl⟩
  have hl11 : t11.length ≤ 54 := by rw [← ht, List.length_append]; omega
  have HT11 := Lib.hid ht
  refine tk 22 (.string ⟨t11.toArray⟩) 36 rfl rfl (by kernel_rfl) (fun _ _ _ h => h) (by rw [← ht]; exact yif_cat (by rfl) _ _ _ _ rfl t9 (putI m.move).1 (by rfl) (by rfl) (by omega)) hH ?_
  try simp only [Act.put, aset]
  clear ht hl9 pl10
  refine wpAnyH_ready (rs := [25]) (by kernel_rfl) (by simp) ?_
  refine AllReadyH.cons rfl (fun K hK => ?_) AllReadyH.nil
  go_simp
  refine (dnum_any m.lease (H13.out m.lease (by simp)) _).mono ?_
  rintro e u12 ⟨rfl, du12⟩
  have pl12 := putI_len m.lease
  have S8 := hH.call du12
  clear hH du12 S7
  refine hK.out _ _ S8 (fun hH => ?_)
  clear hK K
  try simp only [Act.put, aset]
  obtain ⟨t13, ht⟩ : ∃ q9, t11 ++ (putI m.lease).1 = q9 := ⟨_, rfl⟩
  have hl13 : t13.length ≤ 63 := by rw [← ht, List.length_append]; omega
  have HT13 := Lib.hid ht
  refine tk 26 (.string ⟨t13.toArray⟩) 40 rfl rfl (by kernel_rfl) (fun _ _ _ h => h) (by rw [← ht]; exact yif_cat (by rfl) _ _ _ _ rfl t11 (putI m.lease).1 (by rfl) (by rfl) (by omega)) hH ?_
  try simp only [Act.put, aset]
  clear ht hl11 pl12
  refine wpAnyH_ready (rs := [29]) (by kernel_rfl) (by simp) ?_
  refine AllReadyH.cons rfl (fun K hK => ?_) AllReadyH.nil
  go_simp
  refine (dnum_any m.num (H13.out m.num (by simp)) _).mono ?_
  rintro e u14 ⟨rfl, du14⟩
  have pl14 := putI_len m.num
  have S9 := hH.call du14
  clear hH du14 S8
  refine hK.out _ _ S9 (fun hH => ?_)
  clear hK K
  try simp only [Act.put, aset]
  obtain ⟨t15, ht⟩ : ∃ q9, t13 ++ (putI m.num).1 = q9 := ⟨_, rfl⟩
  have hl15 : t15.length ≤ 72 := by rw [← ht, List.length_append]; omega
  have HT15 := Lib.hid ht
  refine tk 30 (.string ⟨t15.toArray⟩) 44 rfl rfl (by kernel_rfl) (fun _ _ _ h => h) (by rw [← ht]; exact yif_cat (by rfl) _ _ _ _ rfl t13 (putI m.num).1 (by rfl) (by rfl) (by omega)) hH ?_
  try simp only [Act.put, aset]
  clear ht hl13 pl14
  refine wpAnyH_ready (rs := [33]) (by kernel_rfl) (by simp) ?_
  refine AllReadyH.cons rfl (fun K hK => ?_) AllReadyH.nil
  go_simp
  refine (dnum_any m.of (H13.out m.of (by simp)) _).mono ?_
  rintro e u16 ⟨rfl, du16⟩
  have pl16 := putI_len m.of
  have S10 := hH.call du16
  clear hH du16 S9
  refine hK.out _ _ S10 (fun hH => ?_)
  clear hK K
  try simp only [Act.put, aset]
  obtain ⟨t17, ht⟩ : ∃ q9, t15 ++ (putI m.of).1 = q9 := ⟨_, rfl⟩
  have hl17 : t17.length ≤ 81 := by rw [← ht, List.length_append]; omega
  have HT17 := Lib.hid ht
  refine tk 34 (.string ⟨t17.toArray⟩) 48 rfl rfl (by kernel_rfl) (fun _ _ _ h => h) (by rw [← ht]; exact yif_cat (by rfl) _ _ _ _ rfl t15 (putI m.of).1 (by rfl) (by rfl) (by omega)) hH ?_
  try simp only [Act.put, aset]
  clear ht hl15 pl16
  refine wpAnyH_ready (rs := [37]) (by kernel_rfl) (by simp) ?_
  refine AllReadyH.cons rfl (fun K hK => ?_) AllReadyH.nil
  go_simp
  refine (dstamp_any m.a m.t m.n R1.out _).mono ?_
  rintro e u18 ⟨rfl, du18⟩
  have pl18 := stampB_len (m.a, m.t, m.n)
  have S11 := hH.call du18
  clear hH du18 S10
  refine hK.out _ _ S11 (fun hH => ?_)
  clear hK K
  try simp only [Act.put, aset]
  obtain ⟨t19, ht⟩ : ∃ q9, t17 ++ (stampB (m.a, m.t, m.n)) = q9 := ⟨_, rfl⟩
  have hl19 : t19.length ≤ 108 := by rw [← ht, List.length_append]; omega
  have HT19 := Lib.hid ht
  refine tk 38 (.string ⟨t19.toArray⟩) 52 rfl rfl (by kernel_rfl) (fun _ _ _ h => h) (by rw [← ht]; exact yif_cat (by rfl) _ _ _ _ rfl t17 (stampB (m.a, m.t, m.n)) (by rfl) (by rfl) (by omega)) hH ?_
  try simp only [Act.put, aset]
  clear ht hl17 pl18
  refine wpAnyH_ready (rs := [41]) (by kernel_rfl) (by simp) ?_
  refine AllReadyH.cons rfl (fun K hK => ?_) AllReadyH.nil
  go_simp
  refine (dtext_any m.text (by have := HZ.out.text; omega) _).mono ?_
  rintro e u20 ⟨rfl, du20⟩
  have pl20 : (textL m.text).length ≤ 2097161 := by have := textL_len m.text; have := HZ.out.text; omega
  have S12 := hH.call du20
  clear hH du20 S11
  refine hK.out _ _ S12 (fun hH => ?_)
  clear hK K
  try simp only [Act.put, aset]
  obtain ⟨t21, ht⟩ : ∃ q9, t19 ++ (textL m.text) = q9 := ⟨_, rfl⟩
  have hl21 : t21.length ≤ 2097269 := by rw [← ht, List.length_append]; omega
  have HT21 := Lib.hid ht
  refine tk 42 (.string ⟨t21.toArray⟩) 56 rfl rfl (by kernel_rfl) (fun _ _ _ h => h) (by rw [← ht]; exact yif_cat (by rfl) _ _ _ _ rfl t19 (textL m.text) (by rfl) (by rfl) (by omega)) hH ?_
  try simp only [Act.put, aset]
  clear ht hl19 pl20
  refine tk 43 (.string ⟨t21.toArray⟩) 5 rfl rfl (by kernel_rfl) (fun _ _ _ h => h) (.inl ⟨by rfl, by intro W' hS; go_simp⟩) hH ?_
  try simp only [Act.put, aset]
  refine wpAnyH_done (by kernel_rfl) ?_ _
  clear hH
  go_wp2_with fail
  refine wp_region_held_drew (S := (fun W' => DQ w gq ga m W')) (by kernel_rfl) S12.drew (fun hH => ?_)
  refine tk 0 (.string ⟨t21.toArray⟩) 57 rfl rfl (by kernel_rfl) (fun _ _ _ h => h) (.inl ⟨by rfl, by intro W' hS; go_simp⟩) hH ?_
  try simp only [Act.put, aset]
  refine tk 1 (.pointer (some ⟨gq, 0, none⟩)) 58 rfl rfl (by kernel_rfl) (fun _ _ _ h => h) (.inl ⟨by rfl, by intro W' hS; go_simp⟩) hH ?_
  try simp only [Act.put, aset]
  refine tk 2 (.int .i64 m.req.cl) 59 rfl rfl (by kernel_rfl) (fun _ _ _ h => h) (.inl ⟨by rfl, by intro W' hS; have hc : W'.cell? ⟨gq, 0, none⟩ = some (.int .i64 m.req.cl) := hS.bq.cell 0; go_simp⟩) hH ?_
  try simp only [Act.put, aset]
  refine tk 5 (.pointer (some ⟨gq, 1, none⟩)) 62 rfl rfl (by kernel_rfl) (fun _ _ _ h => h) (.inl ⟨by rfl, by intro W' hS; go_simp⟩) hH ?_
  try simp only [Act.put, aset]
  refine tk 6 (.int .i64 m.req.rq) 63 rfl rfl (by kernel_rfl) (fun _ _ _ h => h) (.inl ⟨by rfl, by intro W' hS; have hc : W'.cell? ⟨gq, 1, none⟩ = some (.int .i64 m.req.rq) := hS.bq.cell 1; go_simp⟩) hH ?_
  try simp only [Act.put, aset]
  refine tk 9 (.pointer (some ⟨gq, 2, none⟩)) 66 rfl rfl (by kernel_rfl) (fun _ _ _ h => h) (.inl ⟨by rfl, by intro W' hS; go_simp⟩) hH ?_
  try simp only [Act.put, aset]
  refine tk 10 (.int .i64 m.req.kd) 67 rfl rfl (by kernel_rfl) (fun _ _ _ h => h) (.inl ⟨by rfl, by intro W' hS; have hc : W'.cell? ⟨gq, 2, none⟩ = some (.int .i64 m.req.kd) := hS.bq.cell 2; go_simp⟩) hH ?_
  try simp only [Act.put, aset]
  refine tk 13 (.pointer (some ⟨gq, 3, none⟩)) 70 rfl rfl (by kernel_rfl) (fun _ _ _ h => h) (.inl ⟨by rfl, by intro W' hS; go_simp⟩) hH ?_
  try simp only [Act.put, aset]
  refine tk 14 (.string ⟨m.req.ky.toArray⟩) 71 rfl rfl (by kernel_rfl) (fun _ _ _ h => h) (.inl ⟨by rfl, by intro W' hS; have hc : W'.cell? ⟨gq, 3, none⟩ = some (.string ⟨m.req.ky.toArray⟩) := hS.bq.cell 3; go_simp⟩) hH ?_
  try simp only [Act.put, aset]
  refine tk 17 (.pointer (some ⟨gq, 4, none⟩)) 74 rfl rfl (by kernel_rfl) (fun _ _ _ h => h) (.inl ⟨by rfl, by intro W' hS; go_simp⟩) hH ?_
  try simp only [Act.put, aset]
  refine tk 18 (.string ⟨m.req.vl.toArray⟩) 75 rfl rfl (by kernel_rfl) (fun _ _ _ h => h) (.inl ⟨by rfl, by intro W' hS; have hc : W'.cell? ⟨gq, 4, none⟩ = some (.string ⟨m.req.vl.toArray⟩) := hS.bq.cell 4; go_simp⟩) hH ?_
  try simp only [Act.put, aset]
  refine tk 21 (.pointer (some ⟨gq, 5, none⟩)) 78 rfl rfl (by kernel_rfl) (fun _ _ _ h => h) (.inl ⟨by rfl, by intro W' hS; go_simp⟩) hH ?_
  try simp only [Act.put, aset]
  refine tk 22 (.bool m.req.had) 79 rfl rfl (by kernel_rfl) (fun _ _ _ h => h) (.inl ⟨by rfl, by intro W' hS; have hc : W'.cell? ⟨gq, 5, none⟩ = some (.bool m.req.had) := hS.bq.cell 5; go_simp⟩) hH ?_
  try simp only [Act.put, aset]
  refine tk 25 (.pointer (some ⟨gq, 6, none⟩)) 82 rfl rfl (by kernel_rfl) (fun _ _ _ h => h) (.inl ⟨by rfl, by intro W' hS; go_simp⟩) hH ?_
  try simp only [Act.put, aset]
  refine tk 26 (.string ⟨m.req.old.toArray⟩) 83 rfl rfl (by kernel_rfl) (fun _ _ _ h => h) (.inl ⟨by rfl, by intro W' hS; have hc : W'.cell? ⟨gq, 6, none⟩ = some (.string ⟨m.req.old.toArray⟩) := hS.bq.cell 6; go_simp⟩) hH ?_
  try simp only [Act.put, aset]
  refine tk 29 (.pointer (some ⟨gq, 7, none⟩)) 86 rfl rfl (by kernel_rfl) (fun _ _ _ h => h) (.inl ⟨by rfl, by intro W' hS; go_simp⟩) hH ?_
  try simp only [Act.put, aset]
  refine tk 30 (.agg #[.int .i64 m.req.a, .int .i64 m.req.t, .int .i64 m.req.n]) 87 rfl rfl (by kernel_rfl) (fun _ _ _ h => h) (yieldsIf_load_mid (by rfl) 27 _ rfl (gq) 7 (by rfl) [.int .i64 m.req.a, .int .i64 m.req.t, .int .i64 m.req.n] _ (fun _ h => Blk.range h.bq 7 _ (by rfl)) Tryz.underlying27 (by with_unfolding_all rfl) (by with_unfolding_all rfl)) hH ?_
  try simp only [Act.put, aset]
  refine tk 33 (.pointer (some ⟨gq, 10, none⟩)) 90 rfl rfl (by kernel_rfl) (fun _ _ _ h => h) (.inl ⟨by rfl, by intro W' hS; go_simp⟩) hH ?_
  try simp only [Act.put, aset]
  refine tk 34 (.string ⟨m.req.hi.toArray⟩) 91 rfl rfl (by kernel_rfl) (fun _ _ _ h => h) (.inl ⟨by rfl, by intro W' hS; have hc : W'.cell? ⟨gq, 10, none⟩ = some (.string ⟨m.req.hi.toArray⟩) := hS.bq.cell 10; go_simp⟩) hH ?_
  try simp only [Act.put, aset]
  refine tk 37 (.pointer (some ⟨gq, 11, none⟩)) 94 rfl rfl (by kernel_rfl) (fun _ _ _ h => h) (.inl ⟨by rfl, by intro W' hS; go_simp⟩) hH ?_
  try simp only [Act.put, aset]
  refine tk 38 (.int .i64 m.req.lim) 95 rfl rfl (by kernel_rfl) (fun _ _ _ h => h) (.inl ⟨by rfl, by intro W' hS; have hc : W'.cell? ⟨gq, 11, none⟩ = some (.int .i64 m.req.lim) := hS.bq.cell 11; go_simp⟩) hH ?_
  try simp only [Act.put, aset]
  refine wpAnyH_ready (rs := [3]) (by kernel_rfl) (by simp) ?_
  refine AllReadyH.cons rfl (fun K hK => ?_) AllReadyH.nil
  go_simp
  refine (dnum_any m.req.cl (H13.out m.req.cl (by simp)) _).mono ?_
  rintro e u22 ⟨rfl, du22⟩
  have pl22 := putI_len m.req.cl
  have S13 := hH.call du22
  clear hH du22 S12
  refine hK.out _ _ S13 (fun hH => ?_)
  clear hK K
  try simp only [Act.put, aset]
  obtain ⟨t23, ht⟩ : ∃ q9, t21 ++ (putI m.req.cl).1 = q9 := ⟨_, rfl⟩
  have hl23 : t23.length ≤ 2097278 := by rw [← ht, List.length_append]; omega
  have HT23 := Lib.hid ht
  refine tk 4 (.string ⟨t23.toArray⟩) 61 rfl rfl (by kernel_rfl) (fun _ _ _ h => h) (by rw [← ht]; exact yif_cat (by rfl) _ _ _ _ rfl t21 (putI m.req.cl).1 (by rfl) (by rfl) (by omega)) hH ?_
  try simp only [Act.put, aset]
  clear ht hl21 pl22
  refine wpAnyH_ready (rs := [7]) (by kernel_rfl) (by simp) ?_
  refine AllReadyH.cons rfl (fun K hK => ?_) AllReadyH.nil
  go_simp
  refine (dnum_any m.req.rq (H13.out m.req.rq (by simp)) _).mono ?_
  rintro e u24 ⟨rfl, du24⟩
  have pl24 := putI_len m.req.rq
  have S14 := hH.call du24
  clear hH du24 S13
  refine hK.out _ _ S14 (fun hH => ?_)
  clear hK K
  try simp only [Act.put, aset]
  obtain ⟨t25, ht⟩ : ∃ q9, t23 ++ (putI m.req.rq).1 = q9 := ⟨_, rfl⟩
  have hl25 : t25.length ≤ 2097287 := by rw [← ht, List.length_append]; omega
  have HT25 := Lib.hid ht
  refine tk 8 (.string ⟨t25.toArray⟩) 65 rfl rfl (by kernel_rfl) (fun _ _ _ h => h) (by rw [← ht]; exact yif_cat (by rfl) _ _ _ _ rfl t23 (putI m.req.rq).1 (by rfl) (by rfl) (by omega)) hH ?_
  try simp only [Act.put, aset]
  clear ht hl23 pl24
  refine wpAnyH_ready (rs := [11]) (by kernel_rfl) (by simp) ?_
  refine AllReadyH.cons rfl (fun K hK => ?_) AllReadyH.nil
  go_simp
  refine (dnum_any m.req.kd (H13.out m.req.kd (by simp)) _).mono ?_
  rintro e u26 ⟨rfl, du26⟩
  have pl26 := putI_len m.req.kd
  have S15 := hH.call du26
  clear hH du26 S14
  refine hK.out _ _ S15 (fun hH => ?_)
  clear hK K
  try simp only [Act.put, aset]
  obtain ⟨t27, ht⟩ : ∃ q9, t25 ++ (putI m.req.kd).1 = q9 := ⟨_, rfl⟩
  have hl27 : t27.length ≤ 2097296 := by rw [← ht, List.length_append]; omega
  have HT27 := Lib.hid ht
  refine tk 12 (.string ⟨t27.toArray⟩) 69 rfl rfl (by kernel_rfl) (fun _ _ _ h => h) (by rw [← ht]; exact yif_cat (by rfl) _ _ _ _ rfl t25 (putI m.req.kd).1 (by rfl) (by rfl) (by omega)) hH ?_
  try simp only [Act.put, aset]
  clear ht hl25 pl26
  refine wpAnyH_ready (rs := [15]) (by kernel_rfl) (by simp) ?_
  refine AllReadyH.cons rfl (fun K hK => ?_) AllReadyH.nil
  go_simp
  refine (dtext_any m.req.ky (by have := HZ.out.ky; omega) _).mono ?_
  rintro e u28 ⟨rfl, du28⟩
  have pl28 : (textL m.req.ky).length ≤ 2097161 := by have := textL_len m.req.ky; have := HZ.out.ky; omega
  have S16 := hH.call du28
  clear hH du28 S15
  refine hK.out _ _ S16 (fun hH => ?_)
  clear hK K
  try simp only [Act.put, aset]
  obtain ⟨t29, ht⟩ : ∃ q9, t27 ++ (textL m.req.ky) = q9 := ⟨_, rfl⟩
  have hl29 : t29.length ≤ 4194457 := by rw [← ht, List.length_append]; omega
  have HT29 := Lib.hid ht
  refine tk 16 (.string ⟨t29.toArray⟩) 73 rfl rfl (by kernel_rfl) (fun _ _ _ h => h) (by rw [← ht]; exact yif_cat (by rfl) _ _ _ _ rfl t27 (textL m.req.ky) (by rfl) (by rfl) (by omega)) hH ?_
  try simp only [Act.put, aset]
  clear ht hl27 pl28
  refine wpAnyH_ready (rs := [19]) (by kernel_rfl) (by simp) ?_
  refine AllReadyH.cons rfl (fun K hK => ?_) AllReadyH.nil
  go_simp
  refine (dtext_any m.req.vl (by have := HZ.out.vl; omega) _).mono ?_
  rintro e u30 ⟨rfl, du30⟩
  have pl30 : (textL m.req.vl).length ≤ 2097161 := by have := textL_len m.req.vl; have := HZ.out.vl; omega
  have S17 := hH.call du30
  clear hH du30 S16
  refine hK.out _ _ S17 (fun hH => ?_)
  clear hK K
  try simp only [Act.put, aset]
  obtain ⟨t31, ht⟩ : ∃ q9, t29 ++ (textL m.req.vl) = q9 := ⟨_, rfl⟩
  have hl31 : t31.length ≤ 6291618 := by rw [← ht, List.length_append]; omega
  have HT31 := Lib.hid ht
  refine tk 20 (.string ⟨t31.toArray⟩) 77 rfl rfl (by kernel_rfl) (fun _ _ _ h => h) (by rw [← ht]; exact yif_cat (by rfl) _ _ _ _ rfl t29 (textL m.req.vl) (by rfl) (by rfl) (by omega)) hH ?_
  try simp only [Act.put, aset]
  clear ht hl29 pl30
  refine wpAnyH_ready (rs := [23]) (by kernel_rfl) (by simp) ?_
  refine AllReadyH.cons rfl (fun K hK => ?_) AllReadyH.nil
  go_simp
  refine (dflag_any m.req.had _).mono ?_
  rintro e u32 ⟨rfl, du32⟩
  have pl32 := flagL_len m.req.had
  have S18 := hH.call du32
  clear hH du32 S17
  refine hK.out _ _ S18 (fun hH => ?_)
  clear hK K
  try simp only [Act.put, aset]
  obtain ⟨t33, ht⟩ : ∃ q9, t31 ++ (flagL m.req.had) = q9 := ⟨_, rfl⟩
  have hl33 : t33.length ≤ 6291619 := by rw [← ht, List.length_append]; omega
  have HT33 := Lib.hid ht
  refine tk 24 (.string ⟨t33.toArray⟩) 81 rfl rfl (by kernel_rfl) (fun _ _ _ h => h) (by rw [← ht]; exact yif_cat (by rfl) _ _ _ _ rfl t31 (flagL m.req.had) (by rfl) (by rfl) (by omega)) hH ?_
  try simp only [Act.put, aset]
  clear ht hl31 pl32
  refine wpAnyH_ready (rs := [27]) (by kernel_rfl) (by simp) ?_
  refine AllReadyH.cons rfl (fun K hK => ?_) AllReadyH.nil
  go_simp
  refine (dtext_any m.req.old (by have := HZ.out.old; omega) _).mono ?_
  rintro e u34 ⟨rfl, du34⟩
  have pl34 : (textL m.req.old).length ≤ 2097161 := by have := textL_len m.req.old; have := HZ.out.old; omega
  have S19 := hH.call du34
  clear hH du34 S18
  refine hK.out _ _ S19 (fun hH => ?_)
  clear hK K
  try simp only [Act.put, aset]
  obtain ⟨t35, ht⟩ : ∃ q9, t33 ++ (textL m.req.old) = q9 := ⟨_, rfl⟩
  have hl35 : t35.length ≤ 8388780 := by rw [← ht, List.length_append]; omega
  have HT35 := Lib.hid ht
  refine tk 28 (.string ⟨t35.toArray⟩) 85 rfl rfl (by kernel_rfl) (fun _ _ _ h => h) (by rw [← ht]; exact yif_cat (by rfl) _ _ _ _ rfl t33 (textL m.req.old) (by rfl) (by rfl) (by omega)) hH ?_
  try simp only [Act.put, aset]
  clear ht hl33 pl34
  refine wpAnyH_ready (rs := [31]) (by kernel_rfl) (by simp) ?_
  refine AllReadyH.cons rfl (fun K hK => ?_) AllReadyH.nil
  go_simp
  refine (dstamp_any m.req.a m.req.t m.req.n R2.out _).mono ?_
  rintro e u36 ⟨rfl, du36⟩
  have pl36 := stampB_len (m.req.a, m.req.t, m.req.n)
  have S20 := hH.call du36
  clear hH du36 S19
  refine hK.out _ _ S20 (fun hH => ?_)
  clear hK K
  try simp only [Act.put, aset]
  obtain ⟨t37, ht⟩ : ∃ q9, t35 ++ (stampB (m.req.a, m.req.t, m.req.n)) = q9 := ⟨_, rfl⟩
  have hl37 : t37.length ≤ 8388807 := by rw [← ht, List.length_append]; omega
  have HT37 := Lib.hid ht
  refine tk 32 (.string ⟨t37.toArray⟩) 89 rfl rfl (by kernel_rfl) (fun _ _ _ h => h) (by rw [← ht]; exact yif_cat (by rfl) _ _ _ _ rfl t35 (stampB (m.req.a, m.req.t, m.req.n)) (by rfl) (by rfl) (by omega)) hH ?_
  try simp only [Act.put, aset]
  clear ht hl35 pl36
  refine wpAnyH_ready (rs := [35]) (by kernel_rfl) (by simp) ?_
  refine AllReadyH.cons rfl (fun K hK => ?_) AllReadyH.nil
  go_simp
  refine (dtext_any m.req.hi (by have := HZ.out.hi; omega) _).mono ?_
  rintro e u38 ⟨rfl, du38⟩
  have pl38 : (textL m.req.hi).length ≤ 2097161 := by have := textL_len m.req.hi; have := HZ.out.hi; omega
  have S21 := hH.call du38
  clear hH du38 S20
  refine hK.out _ _ S21 (fun hH => ?_)
  clear hK K
  try simp only [Act.put, aset]
  obtain ⟨t39, ht⟩ : ∃ q9, t37 ++ (textL m.req.hi) = q9 := ⟨_, rfl⟩
  have hl39 : t39.length ≤ 10485968 := by rw [← ht, List.length_append]; omega
  have HT39 := Lib.hid ht
  refine tk 36 (.string ⟨t39.toArray⟩) 93 rfl rfl (by kernel_rfl) (fun _ _ _ h => h) (by rw [← ht]; exact yif_cat (by rfl) _ _ _ _ rfl t37 (textL m.req.hi) (by rfl) (by rfl) (by omega)) hH ?_
  try simp only [Act.put, aset]
  clear ht hl37 pl38
  refine wpAnyH_ready (rs := [39]) (by kernel_rfl) (by simp) ?_
  refine AllReadyH.cons rfl (fun K hK => ?_) AllReadyH.nil
  go_simp
  refine (dnum_any m.req.lim (H13.out m.req.lim (by simp)) _).mono ?_
  rintro e u40 ⟨rfl, du40⟩
  have pl40 := putI_len m.req.lim
  have S22 := hH.call du40
  clear hH du40 S21
  refine hK.out _ _ S22 (fun hH => ?_)
  clear hK K
  try simp only [Act.put, aset]
  obtain ⟨t41, ht⟩ : ∃ q9, t39 ++ (putI m.req.lim).1 = q9 := ⟨_, rfl⟩
  have hl41 : t41.length ≤ 10485977 := by rw [← ht, List.length_append]; omega
  have HT41 := Lib.hid ht
  refine tk 40 (.string ⟨t41.toArray⟩) 97 rfl rfl (by kernel_rfl) (fun _ _ _ h => h) (by rw [← ht]; exact yif_cat (by rfl) _ _ _ _ rfl t39 (putI m.req.lim).1 (by rfl) (by rfl) (by omega)) hH ?_
  try simp only [Act.put, aset]
  clear ht hl39 pl40
  refine tk 41 (.string ⟨t41.toArray⟩) 5 rfl rfl (by kernel_rfl) (fun _ _ _ h => h) (.inl ⟨by rfl, by intro W' hS; go_simp⟩) hH ?_
  try simp only [Act.put, aset]
  refine wpAnyH_done (by kernel_rfl) ?_ _
  clear hH
  go_wp2_with fail
  refine wp_region_held_drew (S := (fun W' => DQ w gq ga m W')) (by kernel_rfl) S22.drew (fun hH => ?_)
  refine tk 0 (.string ⟨t41.toArray⟩) 98 rfl rfl (by kernel_rfl) (fun _ _ _ h => h) (.inl ⟨by rfl, by intro W' hS; go_simp⟩) hH ?_
  try simp only [Act.put, aset]
  refine tk 1 (.pointer (some ⟨ga, 0, none⟩)) 99 rfl rfl (by kernel_rfl) (fun _ _ _ h => h) (.inl ⟨by rfl, by intro W' hS; go_simp⟩) hH ?_
  try simp only [Act.put, aset]
  refine tk 2 (.int .i64 m.ans.er) 100 rfl rfl (by kernel_rfl) (fun _ _ _ h => h) (.inl ⟨by rfl, by intro W' hS; have hc : W'.cell? ⟨ga, 0, none⟩ = some (.int .i64 m.ans.er) := hS.ba.cell 0; go_simp⟩) hH ?_
  try simp only [Act.put, aset]
  refine tk 5 (.pointer (some ⟨ga, 1, none⟩)) 103 rfl rfl (by kernel_rfl) (fun _ _ _ h => h) (.inl ⟨by rfl, by intro W' hS; go_simp⟩) hH ?_
  try simp only [Act.put, aset]
  refine tk 6 (.agg #[.int .i64 m.ans.a, .int .i64 m.ans.t, .int .i64 m.ans.n]) 104 rfl rfl (by kernel_rfl) (fun _ _ _ h => h) (yieldsIf_load_mid (by rfl) 27 _ rfl (ga) 1 (by rfl) [.int .i64 m.ans.a, .int .i64 m.ans.t, .int .i64 m.ans.n] _ (fun _ h => Blk.range h.ba 1 _ (by rfl)) Tryz.underlying27 (by with_unfolding_all rfl) (by with_unfolding_all rfl)) hH ?_
  try simp only [Act.put, aset]
  refine tk 9 (.pointer (some ⟨ga, 4, none⟩)) 107 rfl rfl (by kernel_rfl) (fun _ _ _ h => h) (.inl ⟨by rfl, by intro W' hS; go_simp⟩) hH ?_
  try simp only [Act.put, aset]
  refine tk 10 (.bool m.ans.fd) 108 rfl rfl (by kernel_rfl) (fun _ _ _ h => h) (.inl ⟨by rfl, by intro W' hS; have hc : W'.cell? ⟨ga, 4, none⟩ = some (.bool m.ans.fd) := hS.ba.cell 4; go_simp⟩) hH ?_
  try simp only [Act.put, aset]
  refine tk 13 (.pointer (some ⟨ga, 5, none⟩)) 111 rfl rfl (by kernel_rfl) (fun _ _ _ h => h) (.inl ⟨by rfl, by intro W' hS; go_simp⟩) hH ?_
  try simp only [Act.put, aset]
  refine tk 14 (.string ⟨m.ans.vl.toArray⟩) 112 rfl rfl (by kernel_rfl) (fun _ _ _ h => h) (.inl ⟨by rfl, by intro W' hS; have hc : W'.cell? ⟨ga, 5, none⟩ = some (.string ⟨m.ans.vl.toArray⟩) := hS.ba.cell 5; go_simp⟩) hH ?_
  try simp only [Act.put, aset]
  refine tk 17 (.pointer (some ⟨ga, 6, none⟩)) 115 rfl rfl (by kernel_rfl) (fun _ _ _ h => h) (.inl ⟨by rfl, by intro W' hS; go_simp⟩) hH ?_
  try simp only [Act.put, aset]
  refine tk 18 (.slice m.ans.itA m.ans.itn m.ans.itc) 116 rfl rfl (by kernel_rfl) (fun _ _ _ h => h) (.inl ⟨by rfl, by intro W' hS; have hc : W'.cell? ⟨ga, 6, none⟩ = some (.slice m.ans.itA m.ans.itn m.ans.itc) := hS.ba.cell 6; go_simp⟩) hH ?_
  try simp only [Act.put, aset]
  refine tk 19 (.int .i64 m.ans.itn) 117 rfl rfl (by kernel_rfl) (fun _ _ _ h => h) (.inl ⟨by rfl, by intro W' hS; go_simp⟩) hH ?_
  try simp only [Act.put, aset]
  refine wpAnyH_ready (rs := [3]) (by kernel_rfl) (by simp) ?_
  refine AllReadyH.cons rfl (fun K hK => ?_) AllReadyH.nil
  go_simp
  refine (dnum_any m.ans.er (by omega) _).mono ?_
  rintro e u42 ⟨rfl, du42⟩
  have pl42 := putI_len m.ans.er
  have S23 := hH.call du42
  clear hH du42 S22
  refine hK.out _ _ S23 (fun hH => ?_)
  clear hK K
  try simp only [Act.put, aset]
  obtain ⟨t43, ht⟩ : ∃ q9, t41 ++ (putI m.ans.er).1 = q9 := ⟨_, rfl⟩
  have hl43 : t43.length ≤ 10485986 := by rw [← ht, List.length_append]; omega
  have HT43 := Lib.hid ht
  refine tk 4 (.string ⟨t43.toArray⟩) 102 rfl rfl (by kernel_rfl) (fun _ _ _ h => h) (by rw [← ht]; exact yif_cat (by rfl) _ _ _ _ rfl t41 (putI m.ans.er).1 (by rfl) (by rfl) (by omega)) hH ?_
  try simp only [Act.put, aset]
  clear ht hl41 pl42
  refine wpAnyH_ready (rs := [7]) (by kernel_rfl) (by simp) ?_
  refine AllReadyH.cons rfl (fun K hK => ?_) AllReadyH.nil
  go_simp
  refine (dstamp_any m.ans.a m.ans.t m.ans.n R3.out _).mono ?_
  rintro e u44 ⟨rfl, du44⟩
  have pl44 := stampB_len (m.ans.a, m.ans.t, m.ans.n)
  have S24 := hH.call du44
  clear hH du44 S23
  refine hK.out _ _ S24 (fun hH => ?_)
  clear hK K
  try simp only [Act.put, aset]
  obtain ⟨t45, ht⟩ : ∃ q9, t43 ++ (stampB (m.ans.a, m.ans.t, m.ans.n)) = q9 := ⟨_, rfl⟩
  have hl45 : t45.length ≤ 10486013 := by rw [← ht, List.length_append]; omega
  have HT45 := Lib.hid ht
  refine tk 8 (.string ⟨t45.toArray⟩) 106 rfl rfl (by kernel_rfl) (fun _ _ _ h => h) (by rw [← ht]; exact yif_cat (by rfl) _ _ _ _ rfl t43 (stampB (m.ans.a, m.ans.t, m.ans.n)) (by rfl) (by rfl) (by omega)) hH ?_
  try simp only [Act.put, aset]
  clear ht hl43 pl44
  refine wpAnyH_ready (rs := [11]) (by kernel_rfl) (by simp) ?_
  refine AllReadyH.cons rfl (fun K hK => ?_) AllReadyH.nil
  go_simp
  refine (dflag_any m.ans.fd _).mono ?_
  rintro e u46 ⟨rfl, du46⟩
  have pl46 := flagL_len m.ans.fd
  have S25 := hH.call du46
  clear hH du46 S24
  refine hK.out _ _ S25 (fun hH => ?_)
  clear hK K
  try simp only [Act.put, aset]
  obtain ⟨t47, ht⟩ : ∃ q9, t45 ++ (flagL m.ans.fd) = q9 := ⟨_, rfl⟩
  have hl47 : t47.length ≤ 10486014 := by rw [← ht, List.length_append]; omega
  have HT47 := Lib.hid ht
  refine tk 12 (.string ⟨t47.toArray⟩) 110 rfl rfl (by kernel_rfl) (fun _ _ _ h => h) (by rw [← ht]; exact yif_cat (by rfl) _ _ _ _ rfl t45 (flagL m.ans.fd) (by rfl) (by rfl) (by omega)) hH ?_
  try simp only [Act.put, aset]
  clear ht hl45 pl46
  refine wpAnyH_ready (rs := [15]) (by kernel_rfl) (by simp) ?_
  refine AllReadyH.cons rfl (fun K hK => ?_) AllReadyH.nil
  go_simp
  refine (dtext_any m.ans.vl (by have := HZ.out.av; omega) _).mono ?_
  rintro e u48 ⟨rfl, du48⟩
  have pl48 : (textL m.ans.vl).length ≤ 2097161 := by have := textL_len m.ans.vl; have := HZ.out.av; omega
  have S26 := hH.call du48
  clear hH du48 S25
  refine hK.out _ _ S26 (fun hH => ?_)
  clear hK K
  try simp only [Act.put, aset]
  obtain ⟨t49, ht⟩ : ∃ q9, t47 ++ (textL m.ans.vl) = q9 := ⟨_, rfl⟩
  have hl49 : t49.length ≤ 12583175 := by rw [← ht, List.length_append]; omega
  have HT49 := Lib.hid ht
  refine tk 16 (.string ⟨t49.toArray⟩) 114 rfl rfl (by kernel_rfl) (fun _ _ _ h => h) (by rw [← ht]; exact yif_cat (by rfl) _ _ _ _ rfl t47 (textL m.ans.vl) (by rfl) (by rfl) (by omega)) hH ?_
  try simp only [Act.put, aset]
  clear ht hl47 pl48
  refine wpAnyH_ready (rs := [20]) (by kernel_rfl) (by simp) ?_
  refine AllReadyH.cons rfl (fun K hK => ?_) AllReadyH.nil
  go_simp
  refine (dnum_any (m.ans.itn : Int) (by omega) _).mono ?_
  rintro e u50 ⟨rfl, du50⟩
  have pl50 := putI_len (m.ans.itn : Int)
  have S27 := hH.call du50
  clear hH du50 S26
  refine hK.out _ _ S27 (fun hH => ?_)
  clear hK K
  try simp only [Act.put, aset]
  obtain ⟨t51, ht⟩ : ∃ q9, t49 ++ (putI (m.ans.itn : Int)).1 = q9 := ⟨_, rfl⟩
  have hl51 : t51.length ≤ 12583184 := by rw [← ht, List.length_append]; omega
  have HT51 := Lib.hid ht
  refine tk 21 (.string ⟨t51.toArray⟩) 119 rfl rfl (by kernel_rfl) (fun _ _ _ h => h) (by rw [← ht]; exact yif_cat (by rfl) _ _ _ _ rfl t49 (putI (m.ans.itn : Int)).1 (by rfl) (by rfl) (by omega)) hH ?_
  try simp only [Act.put, aset]
  clear ht hl49 pl50
  refine tk 22 (.string ⟨t51.toArray⟩) 5 rfl rfl (by kernel_rfl) (fun _ _ _ h => h) (.inl ⟨by rfl, by intro W' hS; go_simp⟩) hH ?_
  try simp only [Act.put, aset]
  refine wpAnyH_done (by kernel_rfl) ?_ _
  clear hH
  go_wp2_with fail
  have hni := hM.ni
  have hnp := hM.np
  have hnl := hM.nl
  go_loopw [5, 6] (fun s i wr => ∃ (k : Nat) (t : List UInt8), s = .string ⟨t.toArray⟩ ∧ i = .int .i64 k ∧ k ≤ m.ans.itn ∧ t = t51 ++ itsD (its.take k) ∧ t.length ≤ 12583184 + 4194322 * k ∧ DQ w gq ga m wr) (fun _ i _ => m.ans.itn - (intOf i).toNat)
  case atStart => exact ⟨0, t51, rfl, rfl, Nat.zero_le _, by simp [itsD], by omega, S27⟩
  case round =>
    clear S27 hl51
    obtain ⟨k, t, rfl, rfl, hk, ht, hlt, S1⟩ := hrel
    have i0 : (0 : Int) ≤ (k : Int) := by omega
    have HT := Lib.hid ht
    clear ht
    have al6 : wr.cell? ⟨ga, 6, none⟩ = some (.slice m.ans.itA m.ans.itn m.ans.itc) := S1.ba.cell 6
    by_cases hkn : k < m.ans.itn
    case pos =>
      obtain ⟨b, off, hA, hbB, z0, z1⟩ := itc_cells (hM.ri.below S1.below (Nat.le_refl _)) k (by omega)
      have HA := Lib.hid hA
      clear hA
      have hsn := itsD_snoc its k (by omega)
      obtain ⟨hx1, hx2⟩ := HZ.out.its its[k] (List.getElem_mem (by omega))
      obtain ⟨x, hx⟩ : ∃ x, its[k] = x := ⟨_, rfl⟩
      rw [hx] at z0 z1 hsn hx1 hx2
      have HSN := Lib.hid hsn
      clear hx hsn
      have i1 : (k : Int) < (m.ans.itn : Int) := by omega
      have hbW : Below w.heap.size w wr := S1.below
      have hz : ∀ W' : World, DQ w gq ga m W' → W'.cell? ⟨b, off + k * 2, none⟩ = some (.string ⟨x.ky.toArray⟩) ∧ W'.cell? ⟨b, off + k * 2 + 1, none⟩ = some (.string ⟨x.vl.toArray⟩) := fun W' h => ⟨(h.below.cell (p := ⟨b, _, none⟩) hbB).trans ((hbW.cell (p := ⟨b, _, none⟩) hbB).symm.trans z0), (h.below.cell (p := ⟨b, _, none⟩) hbB).trans ((hbW.cell (p := ⟨b, _, none⟩) hbB).symm.trans z1)⟩
      have HZ2 := Lib.hid hz
      clear hz
      have hlt8 : t.length ≤ 46137760 := by omega
      go_wp2_with fail
      refine wp_region_held_drew (S := (fun W' => DQ w gq ga m W')) (by kernel_rfl) S1.drew (fun hH => ?_)
      refine tk 0 (.string ⟨t.toArray⟩) 127 rfl rfl (by kernel_rfl) (fun _ _ _ h => h) (.inl ⟨by rfl, by intro W' hS; go_simp⟩) hH ?_
      try simp only [Act.put, aset]
      refine tk 1 (.pointer (some ⟨ga, 6, none⟩)) 128 rfl rfl (by kernel_rfl) (fun _ _ _ h => h) (.inl ⟨by rfl, by intro W' hS; go_simp⟩) hH ?_
      try simp only [Act.put, aset]
      refine tk 2 (.slice (some ⟨b, off, none⟩) m.ans.itn m.ans.itc) 129 rfl rfl (by kernel_rfl) (fun _ _ _ h => h) (.inl ⟨by rfl, by intro W' hS; have hc : W'.cell? ⟨ga, 6, none⟩ = some (.slice (some ⟨b, off, none⟩) m.ans.itn m.ans.itc) := (hS.ba.cell 6).trans (by rw [← HA.out]; rfl); go_simp⟩) hH ?_
      try simp only [Act.put, aset]
      refine tk 3 (.int .i64 k) 130 rfl rfl (by kernel_rfl) (fun _ _ _ h => h) (.inl ⟨by rfl, by intro W' hS; go_simp⟩) hH ?_
      try simp only [Act.put, aset]
      refine tk 4 (.pointer (some ⟨b, off + k * 2, none⟩)) 131 rfl rfl (by kernel_rfl) (fun _ _ _ h => h) (.inl ⟨by rfl, by intro W' hS; go_simp⟩) hH ?_
      try simp only [Act.put, aset]
      refine tk 5 (.pointer (some ⟨b, off + k * 2, none⟩)) 132 rfl rfl (by kernel_rfl) (fun _ _ _ h => h) (.inl ⟨by rfl, by intro W' hS; go_simp⟩) hH ?_
      try simp only [Act.put, aset]
      refine tk 6 (.string ⟨x.ky.toArray⟩) 133 rfl rfl (by kernel_rfl) (fun _ _ _ h => h) (.inl ⟨by rfl, by intro W' hS; have hc := (HZ2.out W' hS).1; go_simp⟩) hH ?_
      try simp only [Act.put, aset]
      refine tk 9 (.pointer (some ⟨ga, 6, none⟩)) 136 rfl rfl (by kernel_rfl) (fun _ _ _ h => h) (.inl ⟨by rfl, by intro W' hS; go_simp⟩) hH ?_
      try simp only [Act.put, aset]
      refine tk 10 (.slice (some ⟨b, off, none⟩) m.ans.itn m.ans.itc) 137 rfl rfl (by kernel_rfl) (fun _ _ _ h => h) (.inl ⟨by rfl, by intro W' hS; have hc : W'.cell? ⟨ga, 6, none⟩ = some (.slice (some ⟨b, off, none⟩) m.ans.itn m.ans.itc) := (hS.ba.cell 6).trans (by rw [← HA.out]; rfl); go_simp⟩) hH ?_
      try simp only [Act.put, aset]
      refine tk 11 (.int .i64 k) 138 rfl rfl (by kernel_rfl) (fun _ _ _ h => h) (.inl ⟨by rfl, by intro W' hS; go_simp⟩) hH ?_
      try simp only [Act.put, aset]
      refine tk 12 (.pointer (some ⟨b, off + k * 2, none⟩)) 139 rfl rfl (by kernel_rfl) (fun _ _ _ h => h) (.inl ⟨by rfl, by intro W' hS; go_simp⟩) hH ?_
      try simp only [Act.put, aset]
      refine tk 13 (.pointer (some ⟨b, off + k * 2 + 1, none⟩)) 140 rfl rfl (by kernel_rfl) (fun _ _ _ h => h) (.inl ⟨by rfl, by intro W' hS; go_simp⟩) hH ?_
      try simp only [Act.put, aset]
      refine tk 14 (.string ⟨x.vl.toArray⟩) 141 rfl rfl (by kernel_rfl) (fun _ _ _ h => h) (.inl ⟨by rfl, by intro W' hS; have hc := (HZ2.out W' hS).2; go_simp⟩) hH ?_
      try simp only [Act.put, aset]
      refine wpAnyH_ready (rs := [7]) (by kernel_rfl) (by simp) ?_
      refine AllReadyH.cons rfl (fun K hK => ?_) AllReadyH.nil
      go_simp
      refine (dtext_any x.ky (by have := hx1; omega) _).mono ?_
      rintro e u52 ⟨rfl, du52⟩
      have pl52 : (textL x.ky).length ≤ 2097161 := by have := textL_len x.ky; have := hx1; omega
      have S2 := hH.call du52
      clear hH du52 S1
      refine hK.out _ _ S2 (fun hH => ?_)
      clear hK K
      try simp only [Act.put, aset]
      obtain ⟨t53, ht⟩ : ∃ q9, t ++ (textL x.ky) = q9 := ⟨_, rfl⟩
      have hl53 : t53.length ≤ 48234921 := by rw [← ht, List.length_append]; omega
      have HT53 := Lib.hid ht
      refine tk 8 (.string ⟨t53.toArray⟩) 135 rfl rfl (by kernel_rfl) (fun _ _ _ h => h) (by rw [← ht]; exact yif_cat (by rfl) _ _ _ _ rfl t (textL x.ky) (by rfl) (by rfl) (by omega)) hH ?_
      try simp only [Act.put, aset]
      clear ht pl52
      refine wpAnyH_ready (rs := [15]) (by kernel_rfl) (by simp) ?_
      refine AllReadyH.cons rfl (fun K hK => ?_) AllReadyH.nil
      go_simp
      refine (dtext_any x.vl (by have := hx2; omega) _).mono ?_
      rintro e u54 ⟨rfl, du54⟩
      have pl54 : (textL x.vl).length ≤ 2097161 := by have := textL_len x.vl; have := hx2; omega
      have S3 := hH.call du54
      clear hH du54 S2
      refine hK.out _ _ S3 (fun hH => ?_)
      clear hK K
      try simp only [Act.put, aset]
      obtain ⟨t55, ht⟩ : ∃ q9, t53 ++ (textL x.vl) = q9 := ⟨_, rfl⟩
      have hl55 : t55.length ≤ 50332082 := by rw [← ht, List.length_append]; omega
      have HT55 := Lib.hid ht
      refine tk 16 (.string ⟨t55.toArray⟩) 143 rfl rfl (by kernel_rfl) (fun _ _ _ h => h) (by rw [← ht]; exact yif_cat (by rfl) _ _ _ _ rfl t53 (textL x.vl) (by rfl) (by rfl) (by omega)) hH ?_
      try simp only [Act.put, aset]
      clear ht hl53 pl54
      refine tk 17 (.string ⟨t55.toArray⟩) 5 rfl rfl (by kernel_rfl) (fun _ _ _ h => h) (.inl ⟨by rfl, by intro W' hS; go_simp⟩) hH ?_
      try simp only [Act.put, aset]
      refine wpAnyH_done (by kernel_rfl) ?_ _
      clear hH
      go_wp2_with fail
      go_roundw
      case rel =>
        refine ⟨k + 1, t55, rfl, by go_num, by omega, ?_, ?_, S3⟩
        · rw [← HT55.out, ← HT53.out, HSN.out, HT.out]; simp only [List.append_assoc]
        · rw [← HT55.out, ← HT53.out]; simp only [List.length_append]; have := textL_len x.ky; have := textL_len x.vl; omega
      case measure => simp [intOf]; omega
    case neg =>
      go_wp2_with fail
      have hke : k = m.ans.itn := by omega
      have hti : its.take k = its := List.take_of_length_le (by omega)
      rw [hti] at HT
      clear hti i0 hkn hk
      have hlt8 : t.length ≤ 46137760 := by omega
      clear hlt hke al6
      obtain ⟨tI, htI⟩ : ∃ q9, q9 = t := ⟨_, rfl⟩
      subst htI
      have HTI := HT
      have hlI := hlt8
      clear HT hlt8
      refine wp_region_held_drew (S := (fun W' => DQ w gq ga m W')) (by kernel_rfl) S1.drew (fun hH => ?_)
      refine tk 0 (.string ⟨tI.toArray⟩) 144 rfl rfl (by kernel_rfl) (fun _ _ _ h => h) (.inl ⟨by rfl, by intro W' hS; go_simp⟩) hH ?_
      try simp only [Act.put, aset]
      refine tk 1 (.pointer (some ⟨ga, 7, none⟩)) 145 rfl rfl (by kernel_rfl) (fun _ _ _ h => h) (.inl ⟨by rfl, by intro W' hS; go_simp⟩) hH ?_
      try simp only [Act.put, aset]
      refine tk 2 (.string ⟨m.ans.nx.toArray⟩) 146 rfl rfl (by kernel_rfl) (fun _ _ _ h => h) (.inl ⟨by rfl, by intro W' hS; have hc : W'.cell? ⟨ga, 7, none⟩ = some (.string ⟨m.ans.nx.toArray⟩) := hS.ba.cell 7; go_simp⟩) hH ?_
      try simp only [Act.put, aset]
      refine tk 5 (.pointer (some ⟨ga, 8, none⟩)) 149 rfl rfl (by kernel_rfl) (fun _ _ _ h => h) (.inl ⟨by rfl, by intro W' hS; go_simp⟩) hH ?_
      try simp only [Act.put, aset]
      refine tk 6 (.bool m.ans.mo) 150 rfl rfl (by kernel_rfl) (fun _ _ _ h => h) (.inl ⟨by rfl, by intro W' hS; have hc : W'.cell? ⟨ga, 8, none⟩ = some (.bool m.ans.mo) := hS.ba.cell 8; go_simp⟩) hH ?_
      try simp only [Act.put, aset]
      refine tk 9 (.pointer (some ⟨w.heap.size, 34, none⟩)) 153 rfl rfl (by kernel_rfl) (fun _ _ _ h => h) (.inl ⟨by rfl, by intro W' hS; go_simp⟩) hH ?_
      try simp only [Act.put, aset]
      refine tk 10 (.slice m.pA m.pn m.pc) 154 rfl rfl (by kernel_rfl) (fun _ _ _ h => h) (.inl ⟨by rfl, by intro W' hS; have hc : W'.cell? ⟨w.heap.size, 34, none⟩ = some (.slice m.pA m.pn m.pc) := hS.bm.cell 34; go_simp⟩) hH ?_
      try simp only [Act.put, aset]
      refine tk 11 (.int .i64 m.pn) 155 rfl rfl (by kernel_rfl) (fun _ _ _ h => h) (.inl ⟨by rfl, by intro W' hS; go_simp⟩) hH ?_
      try simp only [Act.put, aset]
      refine wpAnyH_ready (rs := [3]) (by kernel_rfl) (by simp) ?_
      refine AllReadyH.cons rfl (fun K hK => ?_) AllReadyH.nil
      go_simp
      refine (dtext_any m.ans.nx (by have := HZ.out.an; omega) _).mono ?_
      rintro e u56 ⟨rfl, du56⟩
      have pl56 : (textL m.ans.nx).length ≤ 2097161 := by have := textL_len m.ans.nx; have := HZ.out.an; omega
      have S2 := hH.call du56
      clear hH du56 S1
      refine hK.out _ _ S2 (fun hH => ?_)
      clear hK K
      try simp only [Act.put, aset]
      obtain ⟨t57, ht⟩ : ∃ q9, tI ++ (textL m.ans.nx) = q9 := ⟨_, rfl⟩
      have hl57 : t57.length ≤ 48234921 := by rw [← ht, List.length_append]; omega
      have HT57 := Lib.hid ht
      refine tk 4 (.string ⟨t57.toArray⟩) 148 rfl rfl (by kernel_rfl) (fun _ _ _ h => h) (by rw [← ht]; exact yif_cat (by rfl) _ _ _ _ rfl tI (textL m.ans.nx) (by rfl) (by rfl) (by omega)) hH ?_
      try simp only [Act.put, aset]
      clear ht hlI pl56
      refine wpAnyH_ready (rs := [7]) (by kernel_rfl) (by simp) ?_
      refine AllReadyH.cons rfl (fun K hK => ?_) AllReadyH.nil
      go_simp
      refine (dflag_any m.ans.mo _).mono ?_
      rintro e u58 ⟨rfl, du58⟩
      have pl58 := flagL_len m.ans.mo
      have S3 := hH.call du58
      clear hH du58 S2
      refine hK.out _ _ S3 (fun hH => ?_)
      clear hK K
      try simp only [Act.put, aset]
      obtain ⟨t59, ht⟩ : ∃ q9, t57 ++ (flagL m.ans.mo) = q9 := ⟨_, rfl⟩
      have hl59 : t59.length ≤ 48234922 := by rw [← ht, List.length_append]; omega
      have HT59 := Lib.hid ht
      refine tk 8 (.string ⟨t59.toArray⟩) 152 rfl rfl (by kernel_rfl) (fun _ _ _ h => h) (by rw [← ht]; exact yif_cat (by rfl) _ _ _ _ rfl t57 (flagL m.ans.mo) (by rfl) (by rfl) (by omega)) hH ?_
      try simp only [Act.put, aset]
      clear ht hl57 pl58
      refine wpAnyH_ready (rs := [12]) (by kernel_rfl) (by simp) ?_
      refine AllReadyH.cons rfl (fun K hK => ?_) AllReadyH.nil
      go_simp
      refine (dnum_any (m.pn : Int) (by omega) _).mono ?_
      rintro e u60 ⟨rfl, du60⟩
      have pl60 := putI_len (m.pn : Int)
      have S4 := hH.call du60
      clear hH du60 S3
      refine hK.out _ _ S4 (fun hH => ?_)
      clear hK K
      try simp only [Act.put, aset]
      obtain ⟨t61, ht⟩ : ∃ q9, t59 ++ (putI (m.pn : Int)).1 = q9 := ⟨_, rfl⟩
      have hl61 : t61.length ≤ 48234931 := by rw [← ht, List.length_append]; omega
      have HT61 := Lib.hid ht
      refine tk 13 (.string ⟨t61.toArray⟩) 157 rfl rfl (by kernel_rfl) (fun _ _ _ h => h) (by rw [← ht]; exact yif_cat (by rfl) _ _ _ _ rfl t59 (putI (m.pn : Int)).1 (by rfl) (by rfl) (by omega)) hH ?_
      try simp only [Act.put, aset]
      clear ht hl59 pl60
      refine tk 14 (.string ⟨t61.toArray⟩) 5 rfl rfl (by kernel_rfl) (fun _ _ _ h => h) (.inl ⟨by rfl, by intro W' hS; go_simp⟩) hH ?_
      try simp only [Act.put, aset]
      refine wpAnyH_done (by kernel_rfl) ?_ _
      clear hH
      go_wp2_with fail
      go_loopw [5, 7] (fun s i wr => ∃ (k : Nat) (t : List UInt8), s = .string ⟨t.toArray⟩ ∧ i = .int .i64 k ∧ k ≤ m.pn ∧ t = t61 ++ plsD (ps.take k) ∧ t.length ≤ 48234931 + 4194349 * k ∧ DQ w gq ga m wr) (fun _ i _ => m.pn - (intOf i).toNat)
      case atStart => exact ⟨0, t61, rfl, rfl, Nat.zero_le _, by simp [plsD], by omega, S4⟩
      case round =>
        clear S4 hl61
        obtain ⟨k, t, rfl, rfl, hk, ht, hlt, S1⟩ := hrel
        have i0 : (0 : Int) ≤ (k : Int) := by omega
        have HT := Lib.hid ht
        clear ht
        have al34 : wr.cell? ⟨w.heap.size, 34, none⟩ = some (.slice m.pA m.pn m.pc) := S1.bm.cell 34
        by_cases hkn : k < m.pn
        case pos =>
          obtain ⟨b, off, hA, hbB, z0, z1, z2, z3, z4⟩ := plc_cells (hM.rp.below S1.below (Nat.le_refl _)) k (by omega)
          have hsn := plsD_snoc ps k (by omega)
          obtain ⟨hx1, hx2⟩ := HZ.out.ps ps[k] (List.getElem_mem (by omega))
          have hp3 := HPL.out k (by omega)
          obtain ⟨x, hx⟩ : ∃ x, ps[k] = x := ⟨_, rfl⟩
          rw [hx] at z0 z1 z2 z3 z4 hsn hx1 hx2 hp3
          have HSN := Lib.hid hsn
          have HP3 := Lib.hid hp3
          clear hx hsn hp3
          have i1 : (k : Int) < (m.pn : Int) := by omega
          rw [hA] at al34
          have HA := Lib.hid hA
          clear hA
          have G : Blk (wr.alloc (.cells zpA 81)) wr.heap.size 81 zpA := Blk.new wr _ _
          have D : ∀ w', w' = (wr.alloc (.cells zpA 81)).setRow wr.heap.size (plA x) → DP w gq ga wr.heap.size m x w' := by
            rintro _ rfl
            have h2 := S1.bm.lt
            have h3 := S1.bq.lt
            have h4 := S1.ba.lt
            exact ⟨⟨⟨below_row (bal S1.below _) S1.below.size _, (S1.bm.alloc _).row_far (by omega) _⟩, (S1.bq.alloc _).row_far (by omega) _, (S1.ba.alloc _).row_far (by omega) _⟩, G.row _⟩
          go_wp2_with (with_reducible refine wpl_st G (by with_unfolding_all rfl) _ _ _ (by with_unfolding_all rfl) (plA x) (by with_unfolding_all rfl) (by with_unfolding_all rfl) (by with_unfolding_all rfl) (by with_unfolding_all rfl) (by with_unfolding_all rfl) ?_; refine Classical.byContradiction fun hno => ?_)
          refine hno ?_
          clear hno
          intro wp ep
          have S2 := D wp ep
          clear ep D G z0 z1 z2 z3 z4 S1 al34
          generalize wr.heap.size = gp at *
          have hlt8 : t.length ≤ 81789723 := by omega
          go_wp2_with fail
          refine wp_region_held_drew (S := (fun W' => DP w gq ga gp m x W')) (by kernel_rfl) S2.drew (fun hH => ?_)
          refine tk 0 (.string ⟨t.toArray⟩) 170 rfl rfl (by kernel_rfl) (fun _ _ _ h => h) (.inl ⟨by rfl, by intro W' hS; go_simp⟩) hH ?_
          try simp only [Act.put, aset]
          refine tk 1 (.pointer (some ⟨gp, 0, none⟩)) 171 rfl rfl (by kernel_rfl) (fun _ _ _ h => h) (.inl ⟨by rfl, by intro W' hS; go_simp⟩) hH ?_
          try simp only [Act.put, aset]
          refine tk 2 (.pointer (some ⟨gp, 0, none⟩)) 172 rfl rfl (by kernel_rfl) (fun _ _ _ h => h) (.inl ⟨by rfl, by intro W' hS; go_simp⟩) hH ?_
          try simp only [Act.put, aset]
          refine tk 3 (.string ⟨x.lo.toArray⟩) 173 rfl rfl (by kernel_rfl) (fun _ _ _ h => h) (.inl ⟨by rfl, by intro W' hS; have hc : W'.cell? ⟨gp, 0, none⟩ = some (.string ⟨x.lo.toArray⟩) := hS.bp.cell 0; go_simp⟩) hH ?_
          try simp only [Act.put, aset]
          refine tk 6 (.pointer (some ⟨gp, 0, none⟩)) 176 rfl rfl (by kernel_rfl) (fun _ _ _ h => h) (.inl ⟨by rfl, by intro W' hS; go_simp⟩) hH ?_
          try simp only [Act.put, aset]
          refine tk 7 (.pointer (some ⟨gp, 1, none⟩)) 177 rfl rfl (by kernel_rfl) (fun _ _ _ h => h) (.inl ⟨by rfl, by intro W' hS; go_simp⟩) hH ?_
          try simp only [Act.put, aset]
          refine tk 8 (.string ⟨x.hi.toArray⟩) 178 rfl rfl (by kernel_rfl) (fun _ _ _ h => h) (.inl ⟨by rfl, by intro W' hS; have hc : W'.cell? ⟨gp, 1, none⟩ = some (.string ⟨x.hi.toArray⟩) := hS.bp.cell 1; go_simp⟩) hH ?_
          try simp only [Act.put, aset]
          refine tk 11 (.pointer (some ⟨gp, 2, none⟩)) 181 rfl rfl (by kernel_rfl) (fun _ _ _ h => h) (.inl ⟨by rfl, by intro W' hS; go_simp⟩) hH ?_
          try simp only [Act.put, aset]
          refine tk 12 (.int .i64 x.sh) 182 rfl rfl (by kernel_rfl) (fun _ _ _ h => h) (.inl ⟨by rfl, by intro W' hS; have hc : W'.cell? ⟨gp, 2, none⟩ = some (.int .i64 x.sh) := hS.bp.cell 2; go_simp⟩) hH ?_
          try simp only [Act.put, aset]
          refine tk 15 (.pointer (some ⟨gp, 3, none⟩)) 185 rfl rfl (by kernel_rfl) (fun _ _ _ h => h) (.inl ⟨by rfl, by intro W' hS; go_simp⟩) hH ?_
          try simp only [Act.put, aset]
          refine tk 16 (.int .i64 x.ce) 186 rfl rfl (by kernel_rfl) (fun _ _ _ h => h) (.inl ⟨by rfl, by intro W' hS; have hc : W'.cell? ⟨gp, 3, none⟩ = some (.int .i64 x.ce) := hS.bp.cell 3; go_simp⟩) hH ?_
          try simp only [Act.put, aset]
          refine tk 19 (.pointer (some ⟨gp, 4, none⟩)) 189 rfl rfl (by kernel_rfl) (fun _ _ _ h => h) (.inl ⟨by rfl, by intro W' hS; go_simp⟩) hH ?_
          try simp only [Act.put, aset]
          refine tk 20 (.int .i64 x.ep) 190 rfl rfl (by kernel_rfl) (fun _ _ _ h => h) (.inl ⟨by rfl, by intro W' hS; have hc : W'.cell? ⟨gp, 4, none⟩ = some (.int .i64 x.ep) := hS.bp.cell 4; go_simp⟩) hH ?_
          try simp only [Act.put, aset]
          refine wpAnyH_ready (rs := [4]) (by kernel_rfl) (by simp) ?_
          refine AllReadyH.cons rfl (fun K hK => ?_) AllReadyH.nil
          go_simp
          refine (dtext_any x.lo (by have := hx1; omega) _).mono ?_
          rintro e u62 ⟨rfl, du62⟩
          have pl62 : (textL x.lo).length ≤ 2097161 := by have := textL_len x.lo; have := hx1; omega
          have S3 := hH.call du62
          clear hH du62 S2
          refine hK.out _ _ S3 (fun hH => ?_)
          clear hK K
          try simp only [Act.put, aset]
          obtain ⟨t63, ht⟩ : ∃ q9, t ++ (textL x.lo) = q9 := ⟨_, rfl⟩
          have hl63 : t63.length ≤ 83886884 := by rw [← ht, List.length_append]; omega
          have HT63 := Lib.hid ht
          refine tk 5 (.string ⟨t63.toArray⟩) 175 rfl rfl (by kernel_rfl) (fun _ _ _ h => h) (by rw [← ht]; exact yif_cat (by rfl) _ _ _ _ rfl t (textL x.lo) (by rfl) (by rfl) (by omega)) hH ?_
          try simp only [Act.put, aset]
          clear ht pl62
          refine wpAnyH_ready (rs := [9]) (by kernel_rfl) (by simp) ?_
          refine AllReadyH.cons rfl (fun K hK => ?_) AllReadyH.nil
          go_simp
          refine (dtext_any x.hi (by have := hx2; omega) _).mono ?_
          rintro e u64 ⟨rfl, du64⟩
          have pl64 : (textL x.hi).length ≤ 2097161 := by have := textL_len x.hi; have := hx2; omega
          have S4 := hH.call du64
          clear hH du64 S3
          refine hK.out _ _ S4 (fun hH => ?_)
          clear hK K
          try simp only [Act.put, aset]
          obtain ⟨t65, ht⟩ : ∃ q9, t63 ++ (textL x.hi) = q9 := ⟨_, rfl⟩
          have hl65 : t65.length ≤ 85984045 := by rw [← ht, List.length_append]; omega
          have HT65 := Lib.hid ht
          refine tk 10 (.string ⟨t65.toArray⟩) 180 rfl rfl (by kernel_rfl) (fun _ _ _ h => h) (by rw [← ht]; exact yif_cat (by rfl) _ _ _ _ rfl t63 (textL x.hi) (by rfl) (by rfl) (by omega)) hH ?_
          try simp only [Act.put, aset]
          clear ht hl63 pl64
          refine wpAnyH_ready (rs := [13]) (by kernel_rfl) (by simp) ?_
          refine AllReadyH.cons rfl (fun K hK => ?_) AllReadyH.nil
          go_simp
          refine (dnum_any x.sh HP3.out.1 _).mono ?_
          rintro e u66 ⟨rfl, du66⟩
          have pl66 := putI_len x.sh
          have S5 := hH.call du66
          clear hH du66 S4
          refine hK.out _ _ S5 (fun hH => ?_)
          clear hK K
          try simp only [Act.put, aset]
          obtain ⟨t67, ht⟩ : ∃ q9, t65 ++ (putI x.sh).1 = q9 := ⟨_, rfl⟩
          have hl67 : t67.length ≤ 85984054 := by rw [← ht, List.length_append]; omega
          have HT67 := Lib.hid ht
          refine tk 14 (.string ⟨t67.toArray⟩) 184 rfl rfl (by kernel_rfl) (fun _ _ _ h => h) (by rw [← ht]; exact yif_cat (by rfl) _ _ _ _ rfl t65 (putI x.sh).1 (by rfl) (by rfl) (by omega)) hH ?_
          try simp only [Act.put, aset]
          clear ht hl65 pl66
          refine wpAnyH_ready (rs := [17]) (by kernel_rfl) (by simp) ?_
          refine AllReadyH.cons rfl (fun K hK => ?_) AllReadyH.nil
          go_simp
          refine (dnum_any x.ce HP3.out.2.1 _).mono ?_
          rintro e u68 ⟨rfl, du68⟩
          have pl68 := putI_len x.ce
          have S6 := hH.call du68
          clear hH du68 S5
          refine hK.out _ _ S6 (fun hH => ?_)
          clear hK K
          try simp only [Act.put, aset]
          obtain ⟨t69, ht⟩ : ∃ q9, t67 ++ (putI x.ce).1 = q9 := ⟨_, rfl⟩
          have hl69 : t69.length ≤ 85984063 := by rw [← ht, List.length_append]; omega
          have HT69 := Lib.hid ht
          refine tk 18 (.string ⟨t69.toArray⟩) 188 rfl rfl (by kernel_rfl) (fun _ _ _ h => h) (by rw [← ht]; exact yif_cat (by rfl) _ _ _ _ rfl t67 (putI x.ce).1 (by rfl) (by rfl) (by omega)) hH ?_
          try simp only [Act.put, aset]
          clear ht hl67 pl68
          refine wpAnyH_ready (rs := [21]) (by kernel_rfl) (by simp) ?_
          refine AllReadyH.cons rfl (fun K hK => ?_) AllReadyH.nil
          go_simp
          refine (dnum_any x.ep HP3.out.2.2 _).mono ?_
          rintro e u70 ⟨rfl, du70⟩
          have pl70 := putI_len x.ep
          have S7 := hH.call du70
          clear hH du70 S6
          refine hK.out _ _ S7 (fun hH => ?_)
          clear hK K
          try simp only [Act.put, aset]
          obtain ⟨t71, ht⟩ : ∃ q9, t69 ++ (putI x.ep).1 = q9 := ⟨_, rfl⟩
          have hl71 : t71.length ≤ 85984072 := by rw [← ht, List.length_append]; omega
          have HT71 := Lib.hid ht
          refine tk 22 (.string ⟨t71.toArray⟩) 192 rfl rfl (by kernel_rfl) (fun _ _ _ h => h) (by rw [← ht]; exact yif_cat (by rfl) _ _ _ _ rfl t69 (putI x.ep).1 (by rfl) (by rfl) (by omega)) hH ?_
          try simp only [Act.put, aset]
          clear ht hl69 pl70
          refine tk 23 (.string ⟨t71.toArray⟩) 5 rfl rfl (by kernel_rfl) (fun _ _ _ h => h) (.inl ⟨by rfl, by intro W' hS; go_simp⟩) hH ?_
          try simp only [Act.put, aset]
          refine wpAnyH_done (by kernel_rfl) ?_ _
          clear hH
          go_wp2_with fail
          go_roundw
          case rel =>
            refine ⟨k + 1, t71, rfl, by go_num, by omega, ?_, ?_, S7.toDQ⟩
            · rw [← HT71.out, ← HT69.out, ← HT67.out, ← HT65.out, ← HT63.out, HSN.out, HT.out]; simp only [List.append_assoc]
            · rw [← HT71.out, ← HT69.out, ← HT67.out, ← HT65.out, ← HT63.out]; simp only [List.length_append]; have := textL_len x.lo; have := textL_len x.hi; have := putI_len x.sh; have := putI_len x.ce; have := putI_len x.ep; omega
          case measure => simp [intOf]; omega
        case neg =>
          have a35 : wr.cell? ⟨w.heap.size, 35, none⟩ = some (.slice m.mA m.mn m.mc) := S1.bm.cell 35
          go_wp2_with (with_reducible refine (dnum_any (m.mn : Int) (by omega) _).mono ?_)
          have hke : k = m.pn := by omega
          have hti : ps.take k = ps := List.take_of_length_le (by omega)
          rw [hti] at HT
          clear hti i0 hkn hk
          have hlt8 : t.length ≤ 81789723 := by omega
          clear hlt hke al34
          obtain ⟨tP, htP⟩ : ∃ q9, q9 = t := ⟨_, rfl⟩
          subst htP
          have HTP := HT
          have hlP := hlt8
          clear HT hlt8
          rintro e v1 ⟨rfl, dv⟩
          have pv := putI_len (m.mn : Int)
          have S2 := S1.call dv
          clear dv S1 a35
          obtain ⟨sv, hsv⟩ : ∃ s, (putI (m.mn : Int)).1 = s := ⟨_, rfl⟩
          rw [hsv] at pv
          rw [hsv]
          have HSV := Lib.hid hsv
          clear hsv
          go_wp2_with fail
          go_loopw [5, 9] (fun s i wr => ∃ (k : Nat) (t : List UInt8), s = .string ⟨t.toArray⟩ ∧ i = .int .i64 k ∧ k ≤ m.mn ∧ t = tP ++ sv ++ numsB (ls.take k) ∧ t.length ≤ 81789732 + 9 * k ∧ DQ w gq ga m wr) (fun _ i _ => m.mn - (intOf i).toNat)
          case atStart => exact ⟨0, tP ++ sv, rfl, rfl, Nat.zero_le _, by simp [numsB], by rw [List.length_append]; omega, S2⟩
          case round =>
            clear S2
            obtain ⟨k, t, rfl, rfl, hk, ht, hlt, S1⟩ := hrel
            have i0 : (0 : Int) ≤ (k : Int) := by omega
            have HT := Lib.hid ht
            clear ht
            have al35 : wr.cell? ⟨w.heap.size, 35, none⟩ = some (.slice m.mA m.mn m.mc) := S1.bm.cell 35
            by_cases hkn : k < m.mn
            case pos =>
              obtain ⟨b, off, hA, hbB, z0⟩ := ldc_cells (hM.rl.below S1.below (Nat.le_refl _)) k (by omega)
              have hsn := nums_snoc2 ls k (by omega)
              have hx1 := HLS.out k (by omega)
              obtain ⟨x, hx⟩ : ∃ x, ls[k] = x := ⟨_, rfl⟩
              rw [hx] at z0 hsn hx1
              have HSN := Lib.hid hsn
              clear hx hsn
              have i1 : (k : Int) < (m.mn : Int) := by omega
              rw [hA] at al35
              have HA := Lib.hid hA
              clear hA
              go_wp2_with fail
              refine (dnum_any x hx1 _).mono ?_
              rintro e v1 ⟨rfl, dv⟩
              have pv := putI_len x
              have S2 := S1.call dv
              clear dv S1 al35 z0
              obtain ⟨sx, hsx⟩ : ∃ s, (putI x).1 = s := ⟨_, rfl⟩
              rw [hsx] at pv
              rw [hsx]
              have HSX := Lib.hid hsx
              clear hsx
              go_wp2_with fail
              go_roundw
              case rel =>
                refine ⟨k + 1, t ++ sx, rfl, by go_num, by omega, ?_, ?_, S2⟩
                · rw [HSN.out, HT.out, HSX.out]; simp only [List.append_assoc]
                · rw [List.length_append]; omega
              case measure => simp [intOf]; omega
            case neg =>
              have hke : k = m.mn := by omega
              have hti : ls.take k = ls := List.take_of_length_le (by omega)
              rw [hti] at HT
              clear hti i0 hkn hk
              go_wp2
              go_ret
              refine ⟨?_, S1.below⟩
              have hfin : t = msgB m its ps ls := by
                rw [HT.out, HTP.out, ← HSV.out, ← HT61.out, ← HT59.out, ← HT57.out, HTI.out, ← HT51.out, ← HT49.out, ← HT47.out, ← HT45.out, ← HT43.out, ← HT41.out, ← HT39.out, ← HT37.out, ← HT35.out, ← HT33.out, ← HT31.out, ← HT29.out, ← HT27.out, ← HT25.out, ← HT23.out, ← HT21.out, ← HT19.out, ← HT17.out, ← HT15.out, ← HT13.out, ← HT11.out, ← HT9.out, ← HT7.out, ← HT5.out, ← HT3.out, itsD_eq, plsD_eq]
                unfold msgB
                simp only [nums_cons, nums_nil, texts_cons, texts_nil, stamps_one, List.append_nil, List.nil_append, List.append_assoc]
              rw [hfin]
              try rfl
end Go.Proofs.YtkoligiilieboaaGreatDoor
