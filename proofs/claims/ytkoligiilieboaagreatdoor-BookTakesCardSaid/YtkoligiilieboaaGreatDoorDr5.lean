/- The document's bytes of a shard, of a cell. -/
import Derived.Test.YtkoligiilieboaaGreatDoorDr4
import Derived.Test.YtkoligiilieboaaGreatDoorMgC
import Derived.Test.YtkoligiilieboaaGreatDoorMgA
import Derived.Deep.CutRange
import Derived.Deep.RegionLaw
import Derived.Test.YtkoligiilieboaaGreatDoorBkZ2
set_option linter.unusedSimpArgs false
set_option linter.unusedVariables false
namespace Go.Proofs.YtkoligiilieboaaGreatDoor
open Go.RowKit
attribute [local go_sem] ByteArray.mk_append_mk ByteArray.extract_mk
attribute [local go_sem ↓] Go.wp_at_zero Go.wp_at_succ
theorem stampB_lenS (x : Stm) : (stampB x).length ≤ 27 := by
  unfold stampB bytesS
  split
  · have := numsB_len [x.1, x.2.1, x.2.2]
    simpa using this
  · simp
structure DOk (s : Sh) : Prop extends WOk s where
  mark : rightB s.ma s.mt s.mn = true
  top : rightB s.ta s.tt s.tn = true
  vst : ∀ e ∈ s.es, ∀ v ∈ e.vs, rightB v.a v.t v.n = true
  dst : ∀ d ∈ s.ds, rightB d.ans.a d.ans.t d.ans.n = true
theorem dok_of {s : Sh} (h : shB s = true) : DOk s := by
  obtain ⟨h1, h2, h3, h4, h5, h6, _⟩ := shB_parts h
  unfold ixB at h3
  simp only [Bool.and_eq_true, decide_eq_true_eq] at h3
  unfold ddB at h6
  simp only [Bool.and_eq_true, decide_eq_true_eq] at h6
  exact { wok_of h with
    mark := h4
    top := h5
    vst := fun e he v hv => (vsB_parts (rowB_mem (enB_parts (rowB_mem h3.2 he)).2.2.2 hv)).1
    dst := fun d hd => (dnB_parts (rowB_mem h6.2 hd)).2.2.2.1 }
theorem vsB1_eq (v : Vs) : vsB1 v = stampB (v.a, v.t, v.n) ++ (flagL v.gone ++ textL v.val) := by simp [vsB1, stampsB, textsB]
theorem dnBy_eq (d : Dn) : dnBy d = (putI d.cl).1 ++ ((putI d.rq).1 ++ ((putI d.ans.er).1 ++ (stampB (d.ans.a, d.ans.t, d.ans.n) ++ (flagL d.ans.fd ++ textL d.ans.vl)))) := by simp [dnBy, numsB, stampsB, textsB]
theorem enBy_eq (e : En) : enBy e = textL e.key ++ ((putI (e.n : Int)).1 ++ chBy e.vs) := by simp [enBy, numsB, textsB]
theorem shBy_eq (s : Sh) : shBy s = (putI s.id).1 ++ ((putI s.epoch).1 ++ ((putI s.phase).1 ++ ((putI s.hold).1 ++ ((putI s.seen).1 ++ ((putI s.move).1 ++ ((putI s.closed).1 ++ (textL s.lo ++ (textL s.hi ++ (stampB (s.ma, s.mt, s.mn) ++ (stampB (s.ta, s.tt, s.tn) ++ ((putI (s.en : Int)).1 ++ (esBy s.es ++ ((putI (s.dn : Int)).1 ++ dsBy s.ds))))))))))))) := by simp [shBy, numsB, stampsB, textsB]
theorem ceBy_eq (c : Ce) : ceBy c = stampB (c.ta, c.tt, c.tn) ++ ((putI c.drop).1 ++ ((putI (c.sn : Int)).1 ++ c.ss.flatMap shBy)) := by simp [ceBy, numsB, stampsB]
set_option maxHeartbeats 25600000 in
set_option maxRecDepth 100000 in
theorem dshard_any (s : Sh) (w : World) (hI : ShIn w w.heap.size s) (hR : shB s = true) :
    Calls Tryz.prog 18 #[shV s] w fun e w' => e = .returned (.string ⟨(shBy s).toArray⟩) ∧ Below w.heap.size w w' := by
  have hO := dok_of hR
  have B0 : Blk (w.alloc (.cells (shA s) 30)) w.heap.size 30 (shA s) := Blk.new w _ _
  have S0 : OneB w w.heap.size 30 (shA s) (w.alloc (.cells (shA s) 30)) := ⟨bal (b0 w) _, B0⟩
  have hen := hI.elen
  have hdn := hI.dlen
  have HO := Lib.hid hO
  have HI := Lib.hid hI
  have hlo := hO.lo
  have hhi := hO.hi
  have hn64 := hO.en
  have hd8 := hO.dn
  clear hR hO hI
  go_enter Tryz.func18, Tryz.ntmps18
  go_upto_region 1 with (fail)
  clear B0
  generalize w.alloc (.cells (shA s) 30) = W0 at *
  refine wp_region_held_drew (S := (fun W' => OneB w w.heap.size 30 (shA s) W')) (by kernel_rfl) S0.drew (fun hH => ?_)
  refine tk 0 (.pointer (some ⟨w.heap.size, 0, none⟩)) 9 rfl rfl (by kernel_rfl) (fun _ _ _ h => h) (.inl ⟨by rfl, by intro W' hS; go_simp⟩) hH ?_
  try simp only [Act.put, aset]
  refine tk 1 (.int .i64 s.id) 10 rfl rfl (by kernel_rfl) (fun _ _ _ h => h) (.inl ⟨by rfl, by intro W' hS; have hc : W'.cell? ⟨w.heap.size, 0, none⟩ = some (.int .i64 s.id) := hS.b.cell 0; go_simp⟩) hH ?_
  try simp only [Act.put, aset]
  refine tk 3 (.pointer (some ⟨w.heap.size, 1, none⟩)) 12 rfl rfl (by kernel_rfl) (fun _ _ _ h => h) (.inl ⟨by rfl, by intro W' hS; go_simp⟩) hH ?_
  try simp only [Act.put, aset]
  refine tk 4 (.int .i64 s.epoch) 13 rfl rfl (by kernel_rfl) (fun _ _ _ h => h) (.inl ⟨by rfl, by intro W' hS; have hc : W'.cell? ⟨w.heap.size, 1, none⟩ = some (.int .i64 s.epoch) := hS.b.cell 1; go_simp⟩) hH ?_
  try simp only [Act.put, aset]
  refine tk 7 (.pointer (some ⟨w.heap.size, 4, none⟩)) 16 rfl rfl (by kernel_rfl) (fun _ _ _ h => h) (.inl ⟨by rfl, by intro W' hS; go_simp⟩) hH ?_
  try simp only [Act.put, aset]
  refine tk 8 (.int .i64 s.phase) 17 rfl rfl (by kernel_rfl) (fun _ _ _ h => h) (.inl ⟨by rfl, by intro W' hS; have hc : W'.cell? ⟨w.heap.size, 4, none⟩ = some (.int .i64 s.phase) := hS.b.cell 4; go_simp⟩) hH ?_
  try simp only [Act.put, aset]
  refine tk 11 (.pointer (some ⟨w.heap.size, 13, none⟩)) 20 rfl rfl (by kernel_rfl) (fun _ _ _ h => h) (.inl ⟨by rfl, by intro W' hS; go_simp⟩) hH ?_
  try simp only [Act.put, aset]
  refine tk 12 (.int .i64 s.hold) 21 rfl rfl (by kernel_rfl) (fun _ _ _ h => h) (.inl ⟨by rfl, by intro W' hS; have hc : W'.cell? ⟨w.heap.size, 13, none⟩ = some (.int .i64 s.hold) := hS.b.cell 13; go_simp⟩) hH ?_
  try simp only [Act.put, aset]
  refine tk 15 (.pointer (some ⟨w.heap.size, 14, none⟩)) 24 rfl rfl (by kernel_rfl) (fun _ _ _ h => h) (.inl ⟨by rfl, by intro W' hS; go_simp⟩) hH ?_
  try simp only [Act.put, aset]
  refine tk 16 (.int .i64 s.seen) 25 rfl rfl (by kernel_rfl) (fun _ _ _ h => h) (.inl ⟨by rfl, by intro W' hS; have hc : W'.cell? ⟨w.heap.size, 14, none⟩ = some (.int .i64 s.seen) := hS.b.cell 14; go_simp⟩) hH ?_
  try simp only [Act.put, aset]
  refine tk 19 (.pointer (some ⟨w.heap.size, 15, none⟩)) 28 rfl rfl (by kernel_rfl) (fun _ _ _ h => h) (.inl ⟨by rfl, by intro W' hS; go_simp⟩) hH ?_
  try simp only [Act.put, aset]
  refine tk 20 (.int .i64 s.move) 29 rfl rfl (by kernel_rfl) (fun _ _ _ h => h) (.inl ⟨by rfl, by intro W' hS; have hc : W'.cell? ⟨w.heap.size, 15, none⟩ = some (.int .i64 s.move) := hS.b.cell 15; go_simp⟩) hH ?_
  try simp only [Act.put, aset]
  refine tk 23 (.pointer (some ⟨w.heap.size, 16, none⟩)) 32 rfl rfl (by kernel_rfl) (fun _ _ _ h => h) (.inl ⟨by rfl, by intro W' hS; go_simp⟩) hH ?_
  try simp only [Act.put, aset]
  refine tk 24 (.int .i64 s.closed) 33 rfl rfl (by kernel_rfl) (fun _ _ _ h => h) (.inl ⟨by rfl, by intro W' hS; have hc : W'.cell? ⟨w.heap.size, 16, none⟩ = some (.int .i64 s.closed) := hS.b.cell 16; go_simp⟩) hH ?_
  try simp only [Act.put, aset]
  refine tk 27 (.pointer (some ⟨w.heap.size, 2, none⟩)) 36 rfl rfl (by kernel_rfl) (fun _ _ _ h => h) (.inl ⟨by rfl, by intro W' hS; go_simp⟩) hH ?_
  try simp only [Act.put, aset]
  refine tk 28 (.pointer (some ⟨w.heap.size, 2, none⟩)) 37 rfl rfl (by kernel_rfl) (fun _ _ _ h => h) (.inl ⟨by rfl, by intro W' hS; go_simp⟩) hH ?_
  try simp only [Act.put, aset]
  refine tk 29 (.string ⟨s.lo.toArray⟩) 38 rfl rfl (by kernel_rfl) (fun _ _ _ h => h) (.inl ⟨by rfl, by intro W' hS; have hc : W'.cell? ⟨w.heap.size, 2, none⟩ = some (.string ⟨s.lo.toArray⟩) := hS.b.cell 2; go_simp⟩) hH ?_
  try simp only [Act.put, aset]
  refine tk 32 (.pointer (some ⟨w.heap.size, 2, none⟩)) 41 rfl rfl (by kernel_rfl) (fun _ _ _ h => h) (.inl ⟨by rfl, by intro W' hS; go_simp⟩) hH ?_
  try simp only [Act.put, aset]
  refine tk 33 (.pointer (some ⟨w.heap.size, 3, none⟩)) 42 rfl rfl (by kernel_rfl) (fun _ _ _ h => h) (.inl ⟨by rfl, by intro W' hS; go_simp⟩) hH ?_
  try simp only [Act.put, aset]
  refine tk 34 (.string ⟨s.hi.toArray⟩) 43 rfl rfl (by kernel_rfl) (fun _ _ _ h => h) (.inl ⟨by rfl, by intro W' hS; have hc : W'.cell? ⟨w.heap.size, 3, none⟩ = some (.string ⟨s.hi.toArray⟩) := hS.b.cell 3; go_simp⟩) hH ?_
  try simp only [Act.put, aset]
  refine tk 37 (.pointer (some ⟨w.heap.size, 6, none⟩)) 46 rfl rfl (by kernel_rfl) (fun _ _ _ h => h) (.inl ⟨by rfl, by intro W' hS; go_simp⟩) hH ?_
  try simp only [Act.put, aset]
  refine tk 38 (stampV s.ma s.mt s.mn) 47 rfl rfl (by kernel_rfl) (fun _ _ _ h => h) (yieldsIf_load_mid (by rfl) 27 _ rfl (w.heap.size) (6) (by rfl) [.int .i64 s.ma, .int .i64 s.mt, .int .i64 s.mn] _ (fun _ h => Blk.range h.b 6 _ (by rfl)) Tryz.underlying27 (by with_unfolding_all rfl) (by with_unfolding_all rfl)) hH ?_
  try simp only [Act.put, aset]
  refine tk 41 (.pointer (some ⟨w.heap.size, 9, none⟩)) 50 rfl rfl (by kernel_rfl) (fun _ _ _ h => h) (.inl ⟨by rfl, by intro W' hS; go_simp⟩) hH ?_
  try simp only [Act.put, aset]
  refine tk 42 (stampV s.ta s.tt s.tn) 51 rfl rfl (by kernel_rfl) (fun _ _ _ h => h) (yieldsIf_load_mid (by rfl) 27 _ rfl (w.heap.size) (9) (by rfl) [.int .i64 s.ta, .int .i64 s.tt, .int .i64 s.tn] _ (fun _ h => Blk.range h.b 9 _ (by rfl)) Tryz.underlying27 (by with_unfolding_all rfl) (by with_unfolding_all rfl)) hH ?_
  try simp only [Act.put, aset]
  refine tk 45 (.pointer (some ⟨w.heap.size, 5, none⟩)) 54 rfl rfl (by kernel_rfl) (fun _ _ _ h => h) (.inl ⟨by rfl, by intro W' hS; go_simp⟩) hH ?_
  try simp only [Act.put, aset]
  refine tk 46 (.slice s.eA s.en s.ec) 55 rfl rfl (by kernel_rfl) (fun _ _ _ h => h) (.inl ⟨by rfl, by intro W' hS; have hc : W'.cell? ⟨w.heap.size, 5, none⟩ = some (.slice s.eA s.en s.ec) := hS.b.cell 5; go_simp⟩) hH ?_
  try simp only [Act.put, aset]
  refine tk 47 (.int .i64 s.en) 56 rfl rfl (by kernel_rfl) (fun _ _ _ h => h) (.inl ⟨by rfl, by intro W' hS; go_simp⟩) hH ?_
  try simp only [Act.put, aset]
  refine wpAnyH_ready (rs := [2]) (by kernel_rfl) (by simp) ?_
  refine AllReadyH.cons rfl (fun K hK => ?_) AllReadyH.nil
  go_simp
  refine (dnum_any s.id (HO.out.num s.id (by simp)) _).mono ?_
  rintro e u1 ⟨rfl, du1⟩
  have pl1 := putI_len s.id
  have S1 := hH.call du1
  clear hH du1 S0
  refine hK.out _ _ S1 (fun hH => ?_)
  clear hK K
  try simp only [Act.put, aset]
  refine wpAnyH_ready (rs := [5]) (by kernel_rfl) (by simp) ?_
  refine AllReadyH.cons rfl (fun K hK => ?_) AllReadyH.nil
  go_simp
  refine (dnum_any s.epoch (HO.out.num s.epoch (by simp)) _).mono ?_
  rintro e u2 ⟨rfl, du2⟩
  have pl2 := putI_len s.epoch
  have S2 := hH.call du2
  clear hH du2 S1
  refine hK.out _ _ S2 (fun hH => ?_)
  clear hK K
  try simp only [Act.put, aset]
  obtain ⟨t3, ht⟩ : ∃ q9, (putI s.id).1 ++ (putI s.epoch).1 = q9 := ⟨_, rfl⟩
  have hl3 : t3.length ≤ 18 := by rw [← ht, List.length_append]; omega
  have HT3 := Lib.hid ht
  refine tk 6 (.string ⟨t3.toArray⟩) 15 rfl rfl (by kernel_rfl) (fun _ _ _ h => h) (by rw [← ht]; exact yif_cat (by rfl) _ _ _ _ rfl (putI s.id).1 (putI s.epoch).1 (by rfl) (by rfl) (by omega)) hH ?_
  try simp only [Act.put, aset]
  clear ht pl1 pl2
  refine wpAnyH_ready (rs := [9]) (by kernel_rfl) (by simp) ?_
  refine AllReadyH.cons rfl (fun K hK => ?_) AllReadyH.nil
  go_simp
  refine (dnum_any s.phase (HO.out.num s.phase (by simp)) _).mono ?_
  rintro e u4 ⟨rfl, du4⟩
  have pl4 := putI_len s.phase
  have S3 := hH.call du4
  clear hH du4 S2
  refine hK.out _ _ S3 (fun hH => ?_)
  clear hK K
  try simp only [Act.put, aset]
  obtain ⟨t5, ht⟩ : ∃ q9, t3 ++ (putI s.phase).1 = q9 := ⟨_, rfl⟩
  have hl5 : t5.length ≤ 27 := by rw [← ht, List.length_append]; omega
  have HT5 := Lib.hid ht
  refine tk 10 (.string ⟨t5.toArray⟩) 19 rfl rfl (by kernel_rfl) (fun _ _ _ h => h) (by rw [← ht]; exact yif_cat (by rfl) _ _ _ _ rfl t3 (putI s.phase).1 (by rfl) (by rfl) (by omega)) hH ?_
  try simp only [Act.put, aset]
  clear ht hl3 pl4
  refine wpAnyH_ready (rs := [13]) (by kernel_rfl) (by simp) ?_
  refine AllReadyH.cons rfl (fun K hK => ?_) AllReadyH.nil
  go_simp
  refine (dnum_any s.hold (HO.out.num s.hold (by simp)) _).mono ?_
  rintro e u6 ⟨rfl, du6⟩
  have pl6 := putI_len s.hold
  have S4 := hH.call du6
  clear hH du6 S3
  refine hK.out _ _ S4 (fun hH => ?_)
  clear hK K
  try simp only [Act.put, aset]
  obtain ⟨t7, ht⟩ : ∃ q9, t5 ++ (putI s.hold).1 = q9 := ⟨_, rfl⟩
  have hl7 : t7.length ≤ 36 := by rw [← ht, List.length_append]; omega
  have HT7 := Lib.hid ht
  refine tk 14 (.string ⟨t7.toArray⟩) 23 rfl rfl (by kernel_rfl) (fun _ _ _ h => h) (by rw [← ht]; exact yif_cat (by rfl) _ _ _ _ rfl t5 (putI s.hold).1 (by rfl) (by rfl) (by omega)) hH ?_
  try simp only [Act.put, aset]
  clear ht hl5 pl6
  refine wpAnyH_ready (rs := [17]) (by kernel_rfl) (by simp) ?_
  refine AllReadyH.cons rfl (fun K hK => ?_) AllReadyH.nil
  go_simp
  refine (dnum_any s.seen (HO.out.num s.seen (by simp)) _).mono ?_
  rintro e u8 ⟨rfl, du8⟩
  have pl8 := putI_len s.seen
  have S5 := hH.call du8
  clear hH du8 S4
  refine hK.out _ _ S5 (fun hH => ?_)
  clear hK K
  try simp only [Act.put, aset]
  obtain ⟨t9, ht⟩ : ∃ q9, t7 ++ (putI s.seen).1 = q9 := ⟨_, rfl⟩
  have hl9 : t9.length ≤ 45 := by rw [← ht, List.length_append]; omega
  have HT9 := Lib.hid ht
  refine tk 18 (.string ⟨t9.toArray⟩) 27 rfl rfl (by kernel_rfl) (fun _ _ _ h => h) (by rw [← ht]; exact yif_cat (by rfl) _ _ _ _ rfl t7 (putI s.seen).1 (by rfl) (by rfl) (by omega)) hH ?_
  try simp only [Act.put, aset]
  clear ht hl7 pl8
  refine wpAnyH_ready (rs := [21]) (by kernel_rfl) (by simp) ?_
  refine AllReadyH.cons rfl (fun K hK => ?_) AllReadyH.nil
  go_simp
  refine (dnum_any s.move (HO.out.num s.move (by simp)) _).mono ?_
  rintro e u10 ⟨rfl, du10⟩
  have pl10 := putI_len s.move
  have S6 := hH.call du10
  clear hH du10 S5
  refine hK.out _ _ S6 (fun hH => ?_)
  clear hK K
  try simp only [Act.put, aset]
  obtain ⟨t11, ht⟩ : ∃ q9, t9 ++ (putI s.move).1 = q9 := ⟨_, rfl⟩
  have hl11 : t11.length ≤ 54 := by rw [← ht, List.length_append]; omega
  have HT11 := Lib.hid ht
  refine tk 22 (.string ⟨t11.toArray⟩) 31 rfl rfl (by kernel_rfl) (fun _ _ _ h => h) (by rw [← ht]; exact yif_cat (by rfl) _ _ _ _ rfl t9 (putI s.move).1 (by rfl) (by rfl) (by omega)) hH ?_
  try simp only [Act.put, aset]
  clear ht hl9 pl10
  refine wpAnyH_ready (rs := [25]) (by kernel_rfl) (by simp) ?_
  refine AllReadyH.cons rfl (fun K hK => ?_) AllReadyH.nil
  go_simp
  refine (dnum_any s.closed (HO.out.num s.closed (by simp)) _).mono ?_
  rintro e u12 ⟨rfl, du12⟩
  have pl12 := putI_len s.closed
  have S7 := hH.call du12
  clear hH du12 S6
  refine hK.out _ _ S7 (fun hH => ?_)
  clear hK K
  try simp only [Act.put, aset]
  obtain ⟨t13, ht⟩ : ∃ q9, t11 ++ (putI s.closed).1 = q9 := ⟨_, rfl⟩
  have hl13 : t13.length ≤ 63 := by rw [← ht, List.length_append]; omega
  have HT13 := Lib.hid ht
  refine tk 26 (.string ⟨t13.toArray⟩) 35 rfl rfl (by kernel_rfl) (fun _ _ _ h => h) (by rw [← ht]; exact yif_cat (by rfl) _ _ _ _ rfl t11 (putI s.closed).1 (by rfl) (by rfl) (by omega)) hH ?_
  try simp only [Act.put, aset]
  clear ht hl11 pl12
  refine wpAnyH_ready (rs := [30]) (by kernel_rfl) (by simp) ?_
  refine AllReadyH.cons rfl (fun K hK => ?_) AllReadyH.nil
  go_simp
  refine (dtext_any s.lo (by have := hlo; omega) _).mono ?_
  rintro e u14 ⟨rfl, du14⟩
  have pl14 : (textL s.lo).length ≤ 25 := by have := textL_len s.lo; have := hlo; omega
  have S8 := hH.call du14
  clear hH du14 S7
  refine hK.out _ _ S8 (fun hH => ?_)
  clear hK K
  try simp only [Act.put, aset]
  obtain ⟨t15, ht⟩ : ∃ q9, t13 ++ (textL s.lo) = q9 := ⟨_, rfl⟩
  have hl15 : t15.length ≤ 88 := by rw [← ht, List.length_append]; omega
  have HT15 := Lib.hid ht
  refine tk 31 (.string ⟨t15.toArray⟩) 40 rfl rfl (by kernel_rfl) (fun _ _ _ h => h) (by rw [← ht]; exact yif_cat (by rfl) _ _ _ _ rfl t13 (textL s.lo) (by rfl) (by rfl) (by omega)) hH ?_
  try simp only [Act.put, aset]
  clear ht hl13 pl14
  refine wpAnyH_ready (rs := [35]) (by kernel_rfl) (by simp) ?_
  refine AllReadyH.cons rfl (fun K hK => ?_) AllReadyH.nil
  go_simp
  refine (dtext_any s.hi (by have := hhi; omega) _).mono ?_
  rintro e u16 ⟨rfl, du16⟩
  have pl16 : (textL s.hi).length ≤ 25 := by have := textL_len s.hi; have := hhi; omega
  have S9 := hH.call du16
  clear hH du16 S8
  refine hK.out _ _ S9 (fun hH => ?_)
  clear hK K
  try simp only [Act.put, aset]
  obtain ⟨t17, ht⟩ : ∃ q9, t15 ++ (textL s.hi) = q9 := ⟨_, rfl⟩
  have hl17 : t17.length ≤ 113 := by rw [← ht, List.length_append]; omega
  have HT17 := Lib.hid ht
  refine tk 36 (.string ⟨t17.toArray⟩) 45 rfl rfl (by kernel_rfl) (fun _ _ _ h => h) (by rw [← ht]; exact yif_cat (by rfl) _ _ _ _ rfl t15 (textL s.hi) (by rfl) (by rfl) (by omega)) hH ?_
  try simp only [Act.put, aset]
  clear ht hl15 pl16
  refine wpAnyH_ready (rs := [39]) (by kernel_rfl) (by simp) ?_
  refine AllReadyH.cons rfl (fun K hK => ?_) AllReadyH.nil
  go_simp
  refine (dstamp_any s.ma s.mt s.mn HO.out.mark _).mono ?_
  rintro e u18 ⟨rfl, du18⟩
  have pl18 := stampB_lenS (s.ma, s.mt, s.mn)
  have S10 := hH.call du18
  clear hH du18 S9
  refine hK.out _ _ S10 (fun hH => ?_)
  clear hK K
  try simp only [Act.put, aset]
  obtain ⟨t19, ht⟩ : ∃ q9, t17 ++ (stampB (s.ma, s.mt, s.mn)) = q9 := ⟨_, rfl⟩
  have hl19 : t19.length ≤ 140 := by rw [← ht, List.length_append]; omega
  have HT19 := Lib.hid ht
  refine tk 40 (.string ⟨t19.toArray⟩) 49 rfl rfl (by kernel_rfl) (fun _ _ _ h => h) (by rw [← ht]; exact yif_cat (by rfl) _ _ _ _ rfl t17 (stampB (s.ma, s.mt, s.mn)) (by rfl) (by rfl) (by omega)) hH ?_
  try simp only [Act.put, aset]
  clear ht hl17 pl18
  refine wpAnyH_ready (rs := [43]) (by kernel_rfl) (by simp) ?_
  refine AllReadyH.cons rfl (fun K hK => ?_) AllReadyH.nil
  go_simp
  refine (dstamp_any s.ta s.tt s.tn HO.out.top _).mono ?_
  rintro e u20 ⟨rfl, du20⟩
  have pl20 := stampB_lenS (s.ta, s.tt, s.tn)
  have S11 := hH.call du20
  clear hH du20 S10
  refine hK.out _ _ S11 (fun hH => ?_)
  clear hK K
  try simp only [Act.put, aset]
  obtain ⟨t21, ht⟩ : ∃ q9, t19 ++ (stampB (s.ta, s.tt, s.tn)) = q9 := ⟨_, rfl⟩
  have hl21 : t21.length ≤ 167 := by rw [← ht, List.length_append]; omega
  have HT21 := Lib.hid ht
  refine tk 44 (.string ⟨t21.toArray⟩) 53 rfl rfl (by kernel_rfl) (fun _ _ _ h => h) (by rw [← ht]; exact yif_cat (by rfl) _ _ _ _ rfl t19 (stampB (s.ta, s.tt, s.tn)) (by rfl) (by rfl) (by omega)) hH ?_
  try simp only [Act.put, aset]
  clear ht hl19 pl20
  refine wpAnyH_ready (rs := [48]) (by kernel_rfl) (by simp) ?_
  refine AllReadyH.cons rfl (fun K hK => ?_) AllReadyH.nil
  go_simp
  refine (dnum_any (s.en : Int) (by omega) _).mono ?_
  rintro e u22 ⟨rfl, du22⟩
  have pl22 := putI_len (s.en : Int)
  have S12 := hH.call du22
  clear hH du22 S11
  refine hK.out _ _ S12 (fun hH => ?_)
  clear hK K
  try simp only [Act.put, aset]
  obtain ⟨t23, ht⟩ : ∃ q9, t21 ++ (putI (s.en : Int)).1 = q9 := ⟨_, rfl⟩
  have hl23 : t23.length ≤ 176 := by rw [← ht, List.length_append]; omega
  have HT23 := Lib.hid ht
  refine tk 49 (.string ⟨t23.toArray⟩) 58 rfl rfl (by kernel_rfl) (fun _ _ _ h => h) (by rw [← ht]; exact yif_cat (by rfl) _ _ _ _ rfl t21 (putI (s.en : Int)).1 (by rfl) (by rfl) (by omega)) hH ?_
  try simp only [Act.put, aset]
  clear ht hl21 pl22
  refine tk 50 (.string ⟨t23.toArray⟩) 3 rfl rfl (by kernel_rfl) (fun _ _ _ h => h) (.inl ⟨by rfl, by intro W' hS; go_simp⟩) hH ?_
  try simp only [Act.put, aset]
  refine wpAnyH_done (by kernel_rfl) ?_ _
  clear hH
  have c5 : u22.cell? ⟨w.heap.size, 5, none⟩ = some (.slice s.eA s.en s.ec) := S12.b.cell 5
  have gl := S12.b.lt
  go_wp2_with fail
  clear c5 gl
  go_loopw [3, 4] (fun s3 i wr => ∃ (k : Nat) (t : List UInt8), s3 = .string ⟨t.toArray⟩ ∧ i = .int .i64 k ∧ k ≤ s.en ∧ t = t23 ++ esBy (s.es.take k) ∧ OneB w w.heap.size 30 (shA s) wr) (fun _ i _ => s.en - (intOf i).toNat)
  case atStart => exact ⟨0, t23, rfl, rfl, Nat.zero_le _, by simp [esBy], S12⟩
  case round =>
    clear S12
    obtain ⟨k, t, rfl, rfl, hk, ht, S1⟩ := hrel
    have i0 : (0 : Int) ≤ (k : Int) := by omega
    have HT := Lib.hid ht
    have hll := esBy_len (s.es.take k) (fun x hx => enBy_len2 (HO.out.es x (List.mem_of_mem_take hx)))
    rw [List.length_take] at hll
    have htl : t.length ≤ 256176 := by rw [ht, List.length_append]; omega
    clear ht hll
    have c5 : wr.cell? ⟨w.heap.size, 5, none⟩ = some (.slice s.eA s.en s.ec) := S1.b.cell 5
    have gl := S1.b.lt
    by_cases hlt : k < s.en
    case pos =>
      have i1 : (k : Int) < (s.en : Int) := by omega
      have IL := HI.out.below S1.below (Nat.le_refl _)
      obtain ⟨b, off, hA, hbB, z0, z1⟩ := enc_cells IL.erow k (by omega)
      have hin := IL.es (s.es[k]'(by omega)) (List.getElem_mem (by omega))
      have hsn := flatMap_snoc enBy s.es k (by omega)
      have hex := HO.out.es (s.es[k]'(by omega)) (List.getElem_mem (by omega))
      have hvs := HO.out.vst (s.es[k]'(by omega)) (List.getElem_mem (by omega))
      obtain ⟨x, hx⟩ : ∃ x, s.es[k]'(by omega) = x := ⟨_, rfl⟩
      simp only [hx] at z0 z1 hsn hex hin hvs
      have HSN := Lib.hid hsn
      have hkx := hex.1
      have hv64 := hex.2.1
      have HVs := Lib.hid hex.2.2
      have HVT := Lib.hid hvs
      have hxl := hin.len
      have hx63 := hin.m63
      have HIN := Lib.hid hin
      clear hx hsn hex hvs hin IL
      have c5' : wr.cell? ⟨w.heap.size, 5, none⟩ = some (.slice (some ⟨b, off, none⟩) s.en s.ec) := by rw [c5, hA]
      have HA := Lib.hid hA
      clear hA c5
      go_upto_region 6 with (fail)
      have BE : Blk (wr.alloc (.cells #[.string ⟨x.key.toArray⟩, .slice x.A x.n x.c] 100)) wr.heap.size 100 #[.string ⟨x.key.toArray⟩, .slice x.A x.n x.c] := Blk.new wr _ _
      have S2 := (show OneB w w.heap.size 30 (shA s) (wr.alloc (.cells #[.string ⟨x.key.toArray⟩, .slice x.A x.n x.c] 100)) from ⟨bal S1.below _, S1.b.alloc _⟩)
      have hbn : Below wr.heap.size wr (wr.alloc (.cells #[.string ⟨x.key.toArray⟩, .slice x.A x.n x.c] 100)) := bal (b0 wr) _
      have HI2 := Lib.hid (HIN.out.below (hbn.mono S1.below.size) (Nat.le_refl _))
      clear hbn HIN z0 z1 c5' gl S1
      generalize wr.alloc (.cells #[.string ⟨x.key.toArray⟩, .slice x.A x.n x.c] 100) = WE at *
      generalize wr.heap.size = ge at *
      have S20 : OneB WE ge 100 #[.string ⟨x.key.toArray⟩, .slice x.A x.n x.c] WE := ⟨Below.refl _ _, BE⟩
      refine wp_region_held_drew (S := (fun W' => OneB WE ge 100 #[.string ⟨x.key.toArray⟩, .slice x.A x.n x.c] W')) (by kernel_rfl) S20.drew (fun hH => ?_)
      refine tk 0 (.string ⟨t.toArray⟩) 71 rfl rfl (by kernel_rfl) (fun _ _ _ h => h) (.inl ⟨by rfl, by intro W' hS; go_simp⟩) hH ?_
      try simp only [Act.put, aset]
      refine tk 1 (.pointer (some ⟨ge, 0, none⟩)) 72 rfl rfl (by kernel_rfl) (fun _ _ _ h => h) (.inl ⟨by rfl, by intro W' hS; go_simp⟩) hH ?_
      try simp only [Act.put, aset]
      refine tk 2 (.string ⟨x.key.toArray⟩) 73 rfl rfl (by kernel_rfl) (fun _ _ _ h => h) (.inl ⟨by rfl, by intro W' hS; have hc : W'.cell? ⟨ge, 0, none⟩ = some (.string ⟨x.key.toArray⟩) := hS.b.cell 0; go_simp⟩) hH ?_
      try simp only [Act.put, aset]
      refine tk 5 (.pointer (some ⟨ge, 1, none⟩)) 76 rfl rfl (by kernel_rfl) (fun _ _ _ h => h) (.inl ⟨by rfl, by intro W' hS; go_simp⟩) hH ?_
      try simp only [Act.put, aset]
      refine tk 6 (.slice x.A x.n x.c) 77 rfl rfl (by kernel_rfl) (fun _ _ _ h => h) (.inl ⟨by rfl, by intro W' hS; have hc : W'.cell? ⟨ge, 1, none⟩ = some (.slice x.A x.n x.c) := hS.b.cell 1; go_simp⟩) hH ?_
      try simp only [Act.put, aset]
      refine tk 7 (.int .i64 x.n) 78 rfl rfl (by kernel_rfl) (fun _ _ _ h => h) (.inl ⟨by rfl, by intro W' hS; go_simp⟩) hH ?_
      try simp only [Act.put, aset]
      refine wpAnyH_ready (rs := [3]) (by kernel_rfl) (by simp) ?_
      refine AllReadyH.cons rfl (fun K hK => ?_) AllReadyH.nil
      go_simp
      refine (dtext_any x.key (by have := hkx; omega) _).mono ?_
      rintro e u24 ⟨rfl, du24⟩
      have pl24 : (textL x.key).length ≤ 25 := by have := textL_len x.key; have := hkx; omega
      have S21 := hH.call du24
      clear hH du24 S20
      refine hK.out _ _ S21 (fun hH => ?_)
      clear hK K
      try simp only [Act.put, aset]
      obtain ⟨t25, ht⟩ : ∃ q9, t ++ (textL x.key) = q9 := ⟨_, rfl⟩
      have hl25 : t25.length ≤ 256201 := by rw [← ht, List.length_append]; omega
      have HT25 := Lib.hid ht
      refine tk 4 (.string ⟨t25.toArray⟩) 75 rfl rfl (by kernel_rfl) (fun _ _ _ h => h) (by rw [← ht]; exact yif_cat (by rfl) _ _ _ _ rfl t (textL x.key) (by rfl) (by rfl) (by omega)) hH ?_
      try simp only [Act.put, aset]
      clear ht pl24
      refine wpAnyH_ready (rs := [8]) (by kernel_rfl) (by simp) ?_
      refine AllReadyH.cons rfl (fun K hK => ?_) AllReadyH.nil
      go_simp
      refine (dnum_any (x.n : Int) (by omega) _).mono ?_
      rintro e u26 ⟨rfl, du26⟩
      have pl26 := putI_len (x.n : Int)
      have S22 := hH.call du26
      clear hH du26 S21
      refine hK.out _ _ S22 (fun hH => ?_)
      clear hK K
      try simp only [Act.put, aset]
      obtain ⟨t27, ht⟩ : ∃ q9, t25 ++ (putI (x.n : Int)).1 = q9 := ⟨_, rfl⟩
      have hl27 : t27.length ≤ 256210 := by rw [← ht, List.length_append]; omega
      have HT27 := Lib.hid ht
      refine tk 9 (.string ⟨t27.toArray⟩) 80 rfl rfl (by kernel_rfl) (fun _ _ _ h => h) (by rw [← ht]; exact yif_cat (by rfl) _ _ _ _ rfl t25 (putI (x.n : Int)).1 (by rfl) (by rfl) (by omega)) hH ?_
      try simp only [Act.put, aset]
      clear ht hl25 pl26
      refine tk 10 (.string ⟨t27.toArray⟩) 3 rfl rfl (by kernel_rfl) (fun _ _ _ h => h) (.inl ⟨by rfl, by intro W' hS; go_simp⟩) hH ?_
      try simp only [Act.put, aset]
      refine wpAnyH_done (by kernel_rfl) ?_ _
      clear hH
      have HT1 := Lib.hid (show t27 = t ++ (textL x.key ++ (putI (x.n : Int)).1) by rw [← HT27.out, ← HT25.out]; simp only [List.append_assoc])
      have SE := S22
      clear S22 HT25 HT27
      skip
      have hxc : u26.cell? ⟨ge, 1, none⟩ = some (.slice x.A x.n x.c) := SE.b.cell 1
      have gl := SE.b.lt
      go_wp2_with fail
      clear hxc gl
      go_loopw [3, 6] (fun s3 i wr => ∃ (j : Nat) (u : List UInt8), s3 = .string ⟨u.toArray⟩ ∧ i = .int .i64 j ∧ j ≤ x.n ∧ u = t27 ++ chBy (x.vs.take j) ∧ OneB WE ge 100 #[.string ⟨x.key.toArray⟩, .slice x.A x.n x.c] wr) (fun _ i _ => x.n - (intOf i).toNat)
      case atStart => exact ⟨0, t27, rfl, rfl, Nat.zero_le _, by simp [chBy], SE⟩
      case round =>
        clear SE
        obtain ⟨j, u, rfl, rfl, hj, hu, S3⟩ := hrel
        have j0 : (0 : Int) ≤ (j : Int) := by omega
        have HU := Lib.hid hu
        have hlj := chBy_len (x.vs.take j) (fun y hy => HVs.out y (List.mem_of_mem_take hy))
        rw [List.length_take] at hlj
        have hul : u.length ≤ 260050 := by rw [hu, List.length_append]; omega
        clear hu hlj
        have x1 : wr.cell? ⟨ge, 1, none⟩ = some (.slice x.A x.n x.c) := S3.b.cell 1
        have gl := S3.b.lt
        by_cases hjt : j < x.n
        case pos =>
          have j1 : (j : Int) < (x.n : Int) := by omega
          have hin := HI2.out.below (S3.below.mono S2.below.size) (Nat.le_refl _)
          obtain ⟨b2, off2, hA2, hbB2, rv⟩ := hin.row.at j (by omega)
          have hsj := flatMap_snoc vsB1 x.vs j (by omega)
          have hvx := HVs.out (x.vs[j]'(by omega)) (List.getElem_mem (by omega))
          have hvr := HVT.out (x.vs[j]'(by omega)) (List.getElem_mem (by omega))
          obtain ⟨v, hv⟩ : ∃ v, x.vs[j]'(by omega) = v := ⟨_, rfl⟩
          simp only [hv] at rv hsj hvx hvr
          have HSJ := Lib.hid hsj
          have HVR := Lib.hid hvr
          have HA2 := Lib.hid hA2
          have RV := Lib.hid rv
          clear hv hsj hvr hA2 rv hin
          go_wp2_with fail
          clear x1 gl
          have S40 : OneB wr ge 100 #[.string ⟨x.key.toArray⟩, .slice x.A x.n x.c] wr := ⟨Below.refl _ _, S3.b⟩
          have hbW : b2 < wr.heap.size := Nat.lt_of_lt_of_le hbB2 (Nat.le_trans S2.below.size S3.below.size)
          refine wp_region_held_drew (S := (fun W' => OneB wr ge 100 #[.string ⟨x.key.toArray⟩, .slice x.A x.n x.c] W')) (by kernel_rfl) S40.drew (fun hH => ?_)
          refine tk 0 (.string ⟨u.toArray⟩) 88 rfl rfl (by kernel_rfl) (fun _ _ _ h => h) (.inl ⟨by rfl, by intro W' hS; go_simp⟩) hH ?_
          try simp only [Act.put, aset]
          refine tk 1 (.pointer (some ⟨ge, 1, none⟩)) 89 rfl rfl (by kernel_rfl) (fun _ _ _ h => h) (.inl ⟨by rfl, by intro W' hS; go_simp⟩) hH ?_
          try simp only [Act.put, aset]
          refine tk 2 (.slice (some ⟨b2, off2, none⟩) x.n x.c) 90 rfl rfl (by kernel_rfl) (fun _ _ _ h => h) (.inl ⟨by rfl, by intro W' hS; have hc : W'.cell? ⟨ge, 1, none⟩ = some (.slice (some ⟨b2, off2, none⟩) x.n x.c) := (hS.b.cell 1).trans (by rw [← HA2.out]; rfl); go_simp⟩) hH ?_
          try simp only [Act.put, aset]
          refine tk 3 (.int .i64 j) 91 rfl rfl (by kernel_rfl) (fun _ _ _ h => h) (.inl ⟨by rfl, by intro W' hS; go_simp⟩) hH ?_
          try simp only [Act.put, aset]
          refine tk 4 (.pointer (some ⟨b2, off2 + j * 5, none⟩)) 92 rfl rfl (by kernel_rfl) (fun _ _ _ h => h) (.inl ⟨by rfl, by intro W' hS; go_simp⟩) hH ?_
          try simp only [Act.put, aset]
          refine tk 5 (.pointer (some ⟨b2, off2 + j * 5, none⟩)) 93 rfl rfl (by kernel_rfl) (fun _ _ _ h => h) (.inl ⟨by rfl, by intro W' hS; go_simp⟩) hH ?_
          try simp only [Act.put, aset]
          refine tk 6 (stampV v.a v.t v.n) 94 rfl rfl (by kernel_rfl) (fun _ _ _ h => h) (yieldsIf_load_mid (by rfl) 27 _ rfl (b2) (off2 + j * 5) (by rfl) [.int .i64 v.a, .int .i64 v.t, .int .i64 v.n] _ (fun _ h => (rng_pre (more := [.bool v.gone, .string ⟨v.val.toArray⟩]) (rng_below RV.out h.below hbW))) Tryz.underlying27 (by with_unfolding_all rfl) (by with_unfolding_all rfl)) hH ?_
          try simp only [Act.put, aset]
          refine tk 9 (.pointer (some ⟨ge, 1, none⟩)) 97 rfl rfl (by kernel_rfl) (fun _ _ _ h => h) (.inl ⟨by rfl, by intro W' hS; go_simp⟩) hH ?_
          try simp only [Act.put, aset]
          refine tk 10 (.slice (some ⟨b2, off2, none⟩) x.n x.c) 98 rfl rfl (by kernel_rfl) (fun _ _ _ h => h) (.inl ⟨by rfl, by intro W' hS; have hc : W'.cell? ⟨ge, 1, none⟩ = some (.slice (some ⟨b2, off2, none⟩) x.n x.c) := (hS.b.cell 1).trans (by rw [← HA2.out]; rfl); go_simp⟩) hH ?_
          try simp only [Act.put, aset]
          refine tk 11 (.int .i64 j) 99 rfl rfl (by kernel_rfl) (fun _ _ _ h => h) (.inl ⟨by rfl, by intro W' hS; go_simp⟩) hH ?_
          try simp only [Act.put, aset]
          refine tk 12 (.pointer (some ⟨b2, off2 + j * 5, none⟩)) 100 rfl rfl (by kernel_rfl) (fun _ _ _ h => h) (.inl ⟨by rfl, by intro W' hS; go_simp⟩) hH ?_
          try simp only [Act.put, aset]
          refine tk 13 (.pointer (some ⟨b2, off2 + j * 5 + 3, none⟩)) 101 rfl rfl (by kernel_rfl) (fun _ _ _ h => h) (.inl ⟨by rfl, by intro W' hS; go_simp⟩) hH ?_
          try simp only [Act.put, aset]
          refine tk 14 (.bool v.gone) 102 rfl rfl (by kernel_rfl) (fun _ _ _ h => h) (.inl ⟨by rfl, by intro W' hS; have hc : W'.cell? ⟨b2, off2 + j * 5 + 3, none⟩ = some (.bool v.gone) := (rng_below RV.out hS.below hbW) 3 _ rfl; go_simp⟩) hH ?_
          try simp only [Act.put, aset]
          refine tk 17 (.pointer (some ⟨ge, 1, none⟩)) 105 rfl rfl (by kernel_rfl) (fun _ _ _ h => h) (.inl ⟨by rfl, by intro W' hS; go_simp⟩) hH ?_
          try simp only [Act.put, aset]
          refine tk 18 (.slice (some ⟨b2, off2, none⟩) x.n x.c) 106 rfl rfl (by kernel_rfl) (fun _ _ _ h => h) (.inl ⟨by rfl, by intro W' hS; have hc : W'.cell? ⟨ge, 1, none⟩ = some (.slice (some ⟨b2, off2, none⟩) x.n x.c) := (hS.b.cell 1).trans (by rw [← HA2.out]; rfl); go_simp⟩) hH ?_
          try simp only [Act.put, aset]
          refine tk 19 (.int .i64 j) 107 rfl rfl (by kernel_rfl) (fun _ _ _ h => h) (.inl ⟨by rfl, by intro W' hS; go_simp⟩) hH ?_
          try simp only [Act.put, aset]
          refine tk 20 (.pointer (some ⟨b2, off2 + j * 5, none⟩)) 108 rfl rfl (by kernel_rfl) (fun _ _ _ h => h) (.inl ⟨by rfl, by intro W' hS; go_simp⟩) hH ?_
          try simp only [Act.put, aset]
          refine tk 21 (.pointer (some ⟨b2, off2 + j * 5 + 4, none⟩)) 109 rfl rfl (by kernel_rfl) (fun _ _ _ h => h) (.inl ⟨by rfl, by intro W' hS; go_simp⟩) hH ?_
          try simp only [Act.put, aset]
          refine tk 22 (.string ⟨v.val.toArray⟩) 110 rfl rfl (by kernel_rfl) (fun _ _ _ h => h) (.inl ⟨by rfl, by intro W' hS; have hc : W'.cell? ⟨b2, off2 + j * 5 + 4, none⟩ = some (.string ⟨v.val.toArray⟩) := (rng_below RV.out hS.below hbW) 4 _ rfl; go_simp⟩) hH ?_
          try simp only [Act.put, aset]
          refine wpAnyH_ready (rs := [7]) (by kernel_rfl) (by simp) ?_
          refine AllReadyH.cons rfl (fun K hK => ?_) AllReadyH.nil
          go_simp
          refine (dstamp_any v.a v.t v.n HVR.out _).mono ?_
          rintro e u28 ⟨rfl, du28⟩
          have pl28 := stampB_lenS (v.a, v.t, v.n)
          have S41 := hH.call du28
          clear hH du28 S40
          refine hK.out _ _ S41 (fun hH => ?_)
          clear hK K
          try simp only [Act.put, aset]
          obtain ⟨t29, ht⟩ : ∃ q9, u ++ (stampB (v.a, v.t, v.n)) = q9 := ⟨_, rfl⟩
          have hl29 : t29.length ≤ 260077 := by rw [← ht, List.length_append]; omega
          have HT29 := Lib.hid ht
          refine tk 8 (.string ⟨t29.toArray⟩) 96 rfl rfl (by kernel_rfl) (fun _ _ _ h => h) (by rw [← ht]; exact yif_cat (by rfl) _ _ _ _ rfl u (stampB (v.a, v.t, v.n)) (by rfl) (by rfl) (by omega)) hH ?_
          try simp only [Act.put, aset]
          clear ht pl28
          refine wpAnyH_ready (rs := [15]) (by kernel_rfl) (by simp) ?_
          refine AllReadyH.cons rfl (fun K hK => ?_) AllReadyH.nil
          go_simp
          refine (dflag_any v.gone _).mono ?_
          rintro e u30 ⟨rfl, du30⟩
          have pl30 := flagL_len v.gone
          have S42 := hH.call du30
          clear hH du30 S41
          refine hK.out _ _ S42 (fun hH => ?_)
          clear hK K
          try simp only [Act.put, aset]
          obtain ⟨t31, ht⟩ : ∃ q9, t29 ++ (flagL v.gone) = q9 := ⟨_, rfl⟩
          have hl31 : t31.length ≤ 260078 := by rw [← ht, List.length_append]; omega
          have HT31 := Lib.hid ht
          refine tk 16 (.string ⟨t31.toArray⟩) 104 rfl rfl (by kernel_rfl) (fun _ _ _ h => h) (by rw [← ht]; exact yif_cat (by rfl) _ _ _ _ rfl t29 (flagL v.gone) (by rfl) (by rfl) (by omega)) hH ?_
          try simp only [Act.put, aset]
          clear ht hl29 pl30
          refine wpAnyH_ready (rs := [23]) (by kernel_rfl) (by simp) ?_
          refine AllReadyH.cons rfl (fun K hK => ?_) AllReadyH.nil
          go_simp
          refine (dtext_any v.val (by have := hvx; omega) _).mono ?_
          rintro e u32 ⟨rfl, du32⟩
          have pl32 : (textL v.val).length ≤ 25 := by have := textL_len v.val; have := hvx; omega
          have S43 := hH.call du32
          clear hH du32 S42
          refine hK.out _ _ S43 (fun hH => ?_)
          clear hK K
          try simp only [Act.put, aset]
          obtain ⟨t33, ht⟩ : ∃ q9, t31 ++ (textL v.val) = q9 := ⟨_, rfl⟩
          have hl33 : t33.length ≤ 260103 := by rw [← ht, List.length_append]; omega
          have HT33 := Lib.hid ht
          refine tk 24 (.string ⟨t33.toArray⟩) 112 rfl rfl (by kernel_rfl) (fun _ _ _ h => h) (by rw [← ht]; exact yif_cat (by rfl) _ _ _ _ rfl t31 (textL v.val) (by rfl) (by rfl) (by omega)) hH ?_
          try simp only [Act.put, aset]
          clear ht hl31 pl32
          refine tk 25 (.string ⟨t33.toArray⟩) 3 rfl rfl (by kernel_rfl) (fun _ _ _ h => h) (.inl ⟨by rfl, by intro W' hS; go_simp⟩) hH ?_
          try simp only [Act.put, aset]
          refine wpAnyH_done (by kernel_rfl) ?_ _
          clear hH
          go_wp2_with fail
          go_roundw
          case rel =>
            refine ⟨j + 1, t33, rfl, by go_num, by omega, ?_, ⟨S3.below.trans (S43.below.mono S3.below.size), S43.b⟩⟩
            rw [← HT33.out, ← HT31.out, ← HT29.out, HU.out]
            unfold chBy
            rw [HSJ.out, vsB1_eq]
            simp only [List.append_assoc]
          case measure => simp [intOf]; omega
        case neg =>
          have hje : j = x.n := by omega
          have htj : x.vs.take j = x.vs := take_full _ _ (by omega)
          rw [htj] at HU
          clear htj
          go_wp2_with fail
          go_roundw
          case rel =>
            refine ⟨k + 1, u, rfl, by go_num, by omega, ?_, ⟨S2.below.trans (S3.below.mono S2.below.size), S2.b.keep S3.below⟩⟩
            rw [HU.out, HT1.out, HT.out]
            unfold esBy
            rw [HSN.out, enBy_eq]
            simp only [List.append_assoc]
          case measure => simp [intOf]; omega
    case neg =>
      have hke : k = s.en := by omega
      have htk : s.es.take k = s.es := take_full _ _ (by omega)
      rw [htk] at HT
      clear htk
      have c12 : wr.cell? ⟨w.heap.size, 12, none⟩ = some (.slice s.dA s.dn s.dc) := S1.b.cell 12
      go_wp2_with fail
      refine (dnum_any (s.dn : Int) (by omega) _).mono ?_
      rintro e u9 ⟨rfl, du9⟩
      have pl9 := putI_len (s.dn : Int)
      have S60 := S1.call du9
      clear c5 gl c12 S1 du9
      obtain ⟨sv, hsv⟩ : ∃ q, (putI (s.dn : Int)).1 = q := ⟨_, rfl⟩
      rw [hsv] at pl9 ⊢
      have HSV := Lib.hid hsv
      clear hsv
      obtain ⟨te, hte⟩ : ∃ x, x = t := ⟨_, rfl⟩
      subst hte
      have HTE := HT
      have hel := htl
      clear HT htl hlt hke hk i0
      have c12 : u9.cell? ⟨w.heap.size, 12, none⟩ = some (.slice s.dA s.dn s.dc) := S60.b.cell 12
      have gl := S60.b.lt
      have hsl : te.length + sv.length ≤ 1000000 := by omega
      go_wp2_with fail
      clear c12 gl
      go_loopw [3, 7] (fun s3 i wr => ∃ (k : Nat) (t : List UInt8), s3 = .string ⟨t.toArray⟩ ∧ i = .int .i64 k ∧ k ≤ s.dn ∧ t = te ++ sv ++ dsBy (s.ds.take k) ∧ OneB w w.heap.size 30 (shA s) wr) (fun _ i _ => s.dn - (intOf i).toNat)
      case atStart => exact ⟨0, te ++ sv, rfl, rfl, Nat.zero_le _, by simp [dsBy], S60⟩
      case round =>
        clear S60
        obtain ⟨k, t, rfl, rfl, hk, ht, S1⟩ := hrel
        have i0 : (0 : Int) ≤ (k : Int) := by omega
        have HT := Lib.hid ht
        have hll := dsBy_len (s.ds.take k) (fun x hx => (HO.out.ds x (List.mem_of_mem_take hx)).2)
        rw [List.length_take] at hll
        have htl : t.length ≤ 256985 := by rw [ht, List.length_append, List.length_append]; omega
        clear ht hll
        have c12 : wr.cell? ⟨w.heap.size, 12, none⟩ = some (.slice s.dA s.dn s.dc) := S1.b.cell 12
        have gl := S1.b.lt
        by_cases hlt : k < s.dn
        case pos =>
          have i1 : (k : Int) < (s.dn : Int) := by omega
          have IL := HI.out.below S1.below (Nat.le_refl _)
          obtain ⟨b, off, hA, hbB, rx⟩ := IL.drow.at k (by omega)
          have hsn := flatMap_snoc dnBy s.ds k (by omega)
          have hex := HO.out.ds (s.ds[k]'(by omega)) (List.getElem_mem (by omega))
          have hdr := HO.out.dst (s.ds[k]'(by omega)) (List.getElem_mem (by omega))
          obtain ⟨x, hx⟩ : ∃ x, s.ds[k]'(by omega) = x := ⟨_, rfl⟩
          simp only [hx] at rx hsn hex hdr
          have HSN := Lib.hid hsn
          have HX := Lib.hid hex.1
          have HDR := Lib.hid hdr
          have hv16 := hex.2
          clear hx hsn hex hdr IL
          have c12' : wr.cell? ⟨w.heap.size, 12, none⟩ = some (.slice (some ⟨b, off, none⟩) s.dn s.dc) := by rw [c12, hA]
          have HA := Lib.hid hA
          clear hA c12
          have G : Blk (wr.alloc (.cells zdA 108)) wr.heap.size 108 zdA := Blk.new wr _ _
          have D : ∀ w', w' = (wr.alloc (.cells zdA 108)).setRow wr.heap.size (dnA x) → Below wr.heap.size wr w' ∧ Blk w' wr.heap.size 108 (dnA x) := by
            rintro _ rfl
            exact ⟨below_row (bal (b0 wr) _) (Nat.le_refl _) _, G.row _⟩
          go_wp2_with (first | (with_reducible refine wpl_ldr b (off + k * 11) (dnC x) rx (by with_unfolding_all rfl) 108 _ (by with_unfolding_all rfl) (by with_unfolding_all rfl) _ Tryz.underlying108 (by with_unfolding_all rfl) (by with_unfolding_all rfl) ?_) | (with_reducible refine wpl_st G (by with_unfolding_all rfl) _ _ _ (by with_unfolding_all rfl) (dnA x) (by with_unfolding_all rfl) (by with_unfolding_all rfl) (by with_unfolding_all rfl) (by with_unfolding_all rfl) (by with_unfolding_all rfl) ?_; refine Classical.byContradiction fun hno => ?_))
          refine hno ?_
          clear hno
          intro w1 e1
          obtain ⟨d1, BD⟩ := D w1 e1
          clear e1 D G rx c12' gl
          have S2 := S1.call d1
          clear S1 d1
          generalize wr.heap.size = gd at *
          have S80 : OneB w1 gd 108 (dnA x) w1 := ⟨Below.refl _ _, BD⟩
          go_wp2_with fail
          refine wp_region_held_drew (S := (fun W' => OneB w1 gd 108 (dnA x) W')) (by kernel_rfl) S80.drew (fun hH => ?_)
          refine tk 0 (.string ⟨t.toArray⟩) 131 rfl rfl (by kernel_rfl) (fun _ _ _ h => h) (.inl ⟨by rfl, by intro W' hS; go_simp⟩) hH ?_
          try simp only [Act.put, aset]
          refine tk 1 (.pointer (some ⟨gd, 0, none⟩)) 132 rfl rfl (by kernel_rfl) (fun _ _ _ h => h) (.inl ⟨by rfl, by intro W' hS; go_simp⟩) hH ?_
          try simp only [Act.put, aset]
          refine tk 2 (.int .i64 x.cl) 133 rfl rfl (by kernel_rfl) (fun _ _ _ h => h) (.inl ⟨by rfl, by intro W' hS; have hc : W'.cell? ⟨gd, 0, none⟩ = some (.int .i64 x.cl) := hS.b.cell 0; go_simp⟩) hH ?_
          try simp only [Act.put, aset]
          refine tk 5 (.pointer (some ⟨gd, 1, none⟩)) 136 rfl rfl (by kernel_rfl) (fun _ _ _ h => h) (.inl ⟨by rfl, by intro W' hS; go_simp⟩) hH ?_
          try simp only [Act.put, aset]
          refine tk 6 (.int .i64 x.rq) 137 rfl rfl (by kernel_rfl) (fun _ _ _ h => h) (.inl ⟨by rfl, by intro W' hS; have hc : W'.cell? ⟨gd, 1, none⟩ = some (.int .i64 x.rq) := hS.b.cell 1; go_simp⟩) hH ?_
          try simp only [Act.put, aset]
          refine tk 9 (.pointer (some ⟨gd, 2, none⟩)) 140 rfl rfl (by kernel_rfl) (fun _ _ _ h => h) (.inl ⟨by rfl, by intro W' hS; go_simp⟩) hH ?_
          try simp only [Act.put, aset]
          refine tk 10 (.pointer (some ⟨gd, 2, none⟩)) 141 rfl rfl (by kernel_rfl) (fun _ _ _ h => h) (.inl ⟨by rfl, by intro W' hS; go_simp⟩) hH ?_
          try simp only [Act.put, aset]
          refine tk 11 (.int .i64 x.ans.er) 142 rfl rfl (by kernel_rfl) (fun _ _ _ h => h) (.inl ⟨by rfl, by intro W' hS; have hc : W'.cell? ⟨gd, 2, none⟩ = some (.int .i64 x.ans.er) := hS.b.cell 2; go_simp⟩) hH ?_
          try simp only [Act.put, aset]
          refine tk 14 (.pointer (some ⟨gd, 2, none⟩)) 145 rfl rfl (by kernel_rfl) (fun _ _ _ h => h) (.inl ⟨by rfl, by intro W' hS; go_simp⟩) hH ?_
          try simp only [Act.put, aset]
          refine tk 15 (.pointer (some ⟨gd, 3, none⟩)) 146 rfl rfl (by kernel_rfl) (fun _ _ _ h => h) (.inl ⟨by rfl, by intro W' hS; go_simp⟩) hH ?_
          try simp only [Act.put, aset]
          refine tk 16 (stampV x.ans.a x.ans.t x.ans.n) 147 rfl rfl (by kernel_rfl) (fun _ _ _ h => h) (yieldsIf_load_mid (by rfl) 27 _ rfl (gd) (3) (by rfl) [.int .i64 x.ans.a, .int .i64 x.ans.t, .int .i64 x.ans.n] _ (fun _ h => Blk.range h.b 3 _ (by rfl)) Tryz.underlying27 (by with_unfolding_all rfl) (by with_unfolding_all rfl)) hH ?_
          try simp only [Act.put, aset]
          refine tk 19 (.pointer (some ⟨gd, 2, none⟩)) 150 rfl rfl (by kernel_rfl) (fun _ _ _ h => h) (.inl ⟨by rfl, by intro W' hS; go_simp⟩) hH ?_
          try simp only [Act.put, aset]
          refine tk 20 (.pointer (some ⟨gd, 6, none⟩)) 151 rfl rfl (by kernel_rfl) (fun _ _ _ h => h) (.inl ⟨by rfl, by intro W' hS; go_simp⟩) hH ?_
          try simp only [Act.put, aset]
          refine tk 21 (.bool x.ans.fd) 152 rfl rfl (by kernel_rfl) (fun _ _ _ h => h) (.inl ⟨by rfl, by intro W' hS; have hc : W'.cell? ⟨gd, 6, none⟩ = some (.bool x.ans.fd) := hS.b.cell 6; go_simp⟩) hH ?_
          try simp only [Act.put, aset]
          refine tk 24 (.pointer (some ⟨gd, 2, none⟩)) 155 rfl rfl (by kernel_rfl) (fun _ _ _ h => h) (.inl ⟨by rfl, by intro W' hS; go_simp⟩) hH ?_
          try simp only [Act.put, aset]
          refine tk 25 (.pointer (some ⟨gd, 7, none⟩)) 156 rfl rfl (by kernel_rfl) (fun _ _ _ h => h) (.inl ⟨by rfl, by intro W' hS; go_simp⟩) hH ?_
          try simp only [Act.put, aset]
          refine tk 26 (.string ⟨x.ans.vl.toArray⟩) 157 rfl rfl (by kernel_rfl) (fun _ _ _ h => h) (.inl ⟨by rfl, by intro W' hS; have hc : W'.cell? ⟨gd, 7, none⟩ = some (.string ⟨x.ans.vl.toArray⟩) := hS.b.cell 7; go_simp⟩) hH ?_
          try simp only [Act.put, aset]
          refine wpAnyH_ready (rs := [3]) (by kernel_rfl) (by simp) ?_
          refine AllReadyH.cons rfl (fun K hK => ?_) AllReadyH.nil
          go_simp
          refine (dnum_any x.cl (HX.out x.cl (by simp)) _).mono ?_
          rintro e u34 ⟨rfl, du34⟩
          have pl34 := putI_len x.cl
          have S81 := hH.call du34
          clear hH du34 S80
          refine hK.out _ _ S81 (fun hH => ?_)
          clear hK K
          try simp only [Act.put, aset]
          obtain ⟨t35, ht⟩ : ∃ q9, t ++ (putI x.cl).1 = q9 := ⟨_, rfl⟩
          have hl35 : t35.length ≤ 256994 := by rw [← ht, List.length_append]; omega
          have HT35 := Lib.hid ht
          refine tk 4 (.string ⟨t35.toArray⟩) 135 rfl rfl (by kernel_rfl) (fun _ _ _ h => h) (by rw [← ht]; exact yif_cat (by rfl) _ _ _ _ rfl t (putI x.cl).1 (by rfl) (by rfl) (by omega)) hH ?_
          try simp only [Act.put, aset]
          clear ht pl34
          refine wpAnyH_ready (rs := [7]) (by kernel_rfl) (by simp) ?_
          refine AllReadyH.cons rfl (fun K hK => ?_) AllReadyH.nil
          go_simp
          refine (dnum_any x.rq (HX.out x.rq (by simp)) _).mono ?_
          rintro e u36 ⟨rfl, du36⟩
          have pl36 := putI_len x.rq
          have S82 := hH.call du36
          clear hH du36 S81
          refine hK.out _ _ S82 (fun hH => ?_)
          clear hK K
          try simp only [Act.put, aset]
          obtain ⟨t37, ht⟩ : ∃ q9, t35 ++ (putI x.rq).1 = q9 := ⟨_, rfl⟩
          have hl37 : t37.length ≤ 257003 := by rw [← ht, List.length_append]; omega
          have HT37 := Lib.hid ht
          refine tk 8 (.string ⟨t37.toArray⟩) 139 rfl rfl (by kernel_rfl) (fun _ _ _ h => h) (by rw [← ht]; exact yif_cat (by rfl) _ _ _ _ rfl t35 (putI x.rq).1 (by rfl) (by rfl) (by omega)) hH ?_
          try simp only [Act.put, aset]
          clear ht hl35 pl36
          refine wpAnyH_ready (rs := [12]) (by kernel_rfl) (by simp) ?_
          refine AllReadyH.cons rfl (fun K hK => ?_) AllReadyH.nil
          go_simp
          refine (dnum_any x.ans.er (HX.out x.ans.er (by simp)) _).mono ?_
          rintro e u38 ⟨rfl, du38⟩
          have pl38 := putI_len x.ans.er
          have S83 := hH.call du38
          clear hH du38 S82
          refine hK.out _ _ S83 (fun hH => ?_)
          clear hK K
          try simp only [Act.put, aset]
          obtain ⟨t39, ht⟩ : ∃ q9, t37 ++ (putI x.ans.er).1 = q9 := ⟨_, rfl⟩
          have hl39 : t39.length ≤ 257012 := by rw [← ht, List.length_append]; omega
          have HT39 := Lib.hid ht
          refine tk 13 (.string ⟨t39.toArray⟩) 144 rfl rfl (by kernel_rfl) (fun _ _ _ h => h) (by rw [← ht]; exact yif_cat (by rfl) _ _ _ _ rfl t37 (putI x.ans.er).1 (by rfl) (by rfl) (by omega)) hH ?_
          try simp only [Act.put, aset]
          clear ht hl37 pl38
          refine wpAnyH_ready (rs := [17]) (by kernel_rfl) (by simp) ?_
          refine AllReadyH.cons rfl (fun K hK => ?_) AllReadyH.nil
          go_simp
          refine (dstamp_any x.ans.a x.ans.t x.ans.n HDR.out _).mono ?_
          rintro e u40 ⟨rfl, du40⟩
          have pl40 := stampB_lenS (x.ans.a, x.ans.t, x.ans.n)
          have S84 := hH.call du40
          clear hH du40 S83
          refine hK.out _ _ S84 (fun hH => ?_)
          clear hK K
          try simp only [Act.put, aset]
          obtain ⟨t41, ht⟩ : ∃ q9, t39 ++ (stampB (x.ans.a, x.ans.t, x.ans.n)) = q9 := ⟨_, rfl⟩
          have hl41 : t41.length ≤ 257039 := by rw [← ht, List.length_append]; omega
          have HT41 := Lib.hid ht
          refine tk 18 (.string ⟨t41.toArray⟩) 149 rfl rfl (by kernel_rfl) (fun _ _ _ h => h) (by rw [← ht]; exact yif_cat (by rfl) _ _ _ _ rfl t39 (stampB (x.ans.a, x.ans.t, x.ans.n)) (by rfl) (by rfl) (by omega)) hH ?_
          try simp only [Act.put, aset]
          clear ht hl39 pl40
          refine wpAnyH_ready (rs := [22]) (by kernel_rfl) (by simp) ?_
          refine AllReadyH.cons rfl (fun K hK => ?_) AllReadyH.nil
          go_simp
          refine (dflag_any x.ans.fd _).mono ?_
          rintro e u42 ⟨rfl, du42⟩
          have pl42 := flagL_len x.ans.fd
          have S85 := hH.call du42
          clear hH du42 S84
          refine hK.out _ _ S85 (fun hH => ?_)
          clear hK K
          try simp only [Act.put, aset]
          obtain ⟨t43, ht⟩ : ∃ q9, t41 ++ (flagL x.ans.fd) = q9 := ⟨_, rfl⟩
          have hl43 : t43.length ≤ 257040 := by rw [← ht, List.length_append]; omega
          have HT43 := Lib.hid ht
          refine tk 23 (.string ⟨t43.toArray⟩) 154 rfl rfl (by kernel_rfl) (fun _ _ _ h => h) (by rw [← ht]; exact yif_cat (by rfl) _ _ _ _ rfl t41 (flagL x.ans.fd) (by rfl) (by rfl) (by omega)) hH ?_
          try simp only [Act.put, aset]
          clear ht hl41 pl42
          refine wpAnyH_ready (rs := [27]) (by kernel_rfl) (by simp) ?_
          refine AllReadyH.cons rfl (fun K hK => ?_) AllReadyH.nil
          go_simp
          refine (dtext_any x.ans.vl (by have := hv16; omega) _).mono ?_
          rintro e u44 ⟨rfl, du44⟩
          have pl44 : (textL x.ans.vl).length ≤ 25 := by have := textL_len x.ans.vl; have := hv16; omega
          have S86 := hH.call du44
          clear hH du44 S85
          refine hK.out _ _ S86 (fun hH => ?_)
          clear hK K
          try simp only [Act.put, aset]
          obtain ⟨t45, ht⟩ : ∃ q9, t43 ++ (textL x.ans.vl) = q9 := ⟨_, rfl⟩
          have hl45 : t45.length ≤ 257065 := by rw [← ht, List.length_append]; omega
          have HT45 := Lib.hid ht
          refine tk 28 (.string ⟨t45.toArray⟩) 159 rfl rfl (by kernel_rfl) (fun _ _ _ h => h) (by rw [← ht]; exact yif_cat (by rfl) _ _ _ _ rfl t43 (textL x.ans.vl) (by rfl) (by rfl) (by omega)) hH ?_
          try simp only [Act.put, aset]
          clear ht hl43 pl44
          refine tk 29 (.string ⟨t45.toArray⟩) 3 rfl rfl (by kernel_rfl) (fun _ _ _ h => h) (.inl ⟨by rfl, by intro W' hS; go_simp⟩) hH ?_
          try simp only [Act.put, aset]
          refine wpAnyH_done (by kernel_rfl) ?_ _
          clear hH
          go_wp2_with fail
          go_roundw
          case rel =>
            refine ⟨k + 1, t45, rfl, by go_num, by omega, ?_, ⟨S2.below.trans (S86.below.mono S2.below.size), S2.b.keep S86.below⟩⟩
            rw [← HT45.out, ← HT43.out, ← HT41.out, ← HT39.out, ← HT37.out, ← HT35.out, HT.out]
            unfold dsBy
            rw [HSN.out, dnBy_eq]
            simp only [List.append_assoc]
          case measure => simp [intOf]; omega
        case neg =>
          have hke : k = s.dn := by omega
          have htk : s.ds.take k = s.ds := take_full _ _ (by omega)
          rw [htk] at HT
          clear htk
          go_wp2
          go_ret
          refine ⟨?_, S1.below⟩
          have hfin : t = shBy s := by
            rw [HT.out, ← HSV.out, HTE.out, ← HT23.out, ← HT21.out, ← HT19.out, ← HT17.out, ← HT15.out, ← HT13.out, ← HT11.out, ← HT9.out, ← HT7.out, ← HT5.out, ← HT3.out, shBy_eq]
            simp only [List.append_assoc]
          rw [hfin]
          try rfl
set_option maxHeartbeats 25600000 in
set_option maxRecDepth 100000 in
theorem dcell_any (c : Ce) (w : World) (hI : CeIn w w.heap.size c) (hR : ceB c = true) :
    Calls Tryz.prog 21 #[ceV c] w fun e w' => e = .returned (.string ⟨(ceBy c).toArray⟩) ∧ Below w.heap.size w w' := by
  obtain ⟨hs8, hrt, ⟨hd0, hd1⟩, hsh⟩ := ceB_parts hR
  have B0 : Blk (w.alloc (.cells (ceA c) 38)) w.heap.size 38 (ceA c) := Blk.new w _ _
  have S0 : OneB w w.heap.size 38 (ceA c) (w.alloc (.cells (ceA c) 38)) := ⟨bal (b0 w) _, B0⟩
  have hsn := hI.len
  have HRT := Lib.hid hrt
  have HSH := Lib.hid hsh
  have HI := Lib.hid hI
  have HBL := Lib.hid (fun (k : Nat) => show ((c.ss.take k).flatMap shBy).length ≤ 2400000 by
    have h1 := ssBy_len (c.ss.take k) fun x hx => shBy_len (hI.ss x (List.mem_of_mem_take hx)) (hsh x (List.mem_of_mem_take hx))
    rw [List.length_take] at h1
    omega)
  clear hR hrt hsh hI
  go_enter Tryz.func21, Tryz.ntmps21
  go_upto_region 1 with (fail)
  clear B0
  generalize w.alloc (.cells (ceA c) 38) = W0 at *
  refine wp_region_held_drew (S := (fun W' => OneB w w.heap.size 38 (ceA c) W')) (by kernel_rfl) S0.drew (fun hH => ?_)
  refine tk 0 (.pointer (some ⟨w.heap.size, 1, none⟩)) 5 rfl rfl (by kernel_rfl) (fun _ _ _ h => h) (.inl ⟨by rfl, by intro W' hS; go_simp⟩) hH ?_
  try simp only [Act.put, aset]
  refine tk 1 (stampV c.ta c.tt c.tn) 6 rfl rfl (by kernel_rfl) (fun _ _ _ h => h) (yieldsIf_load_mid (by rfl) 27 _ rfl (w.heap.size) (1) (by rfl) [.int .i64 c.ta, .int .i64 c.tt, .int .i64 c.tn] _ (fun _ h => Blk.range h.b 1 _ (by rfl)) Tryz.underlying27 (by with_unfolding_all rfl) (by with_unfolding_all rfl)) hH ?_
  try simp only [Act.put, aset]
  refine tk 3 (.pointer (some ⟨w.heap.size, 4, none⟩)) 8 rfl rfl (by kernel_rfl) (fun _ _ _ h => h) (.inl ⟨by rfl, by intro W' hS; go_simp⟩) hH ?_
  try simp only [Act.put, aset]
  refine tk 4 (.int .i64 c.drop) 9 rfl rfl (by kernel_rfl) (fun _ _ _ h => h) (.inl ⟨by rfl, by intro W' hS; have hc : W'.cell? ⟨w.heap.size, 4, none⟩ = some (.int .i64 c.drop) := hS.b.cell 4; go_simp⟩) hH ?_
  try simp only [Act.put, aset]
  refine tk 7 (.pointer (some ⟨w.heap.size, 0, none⟩)) 12 rfl rfl (by kernel_rfl) (fun _ _ _ h => h) (.inl ⟨by rfl, by intro W' hS; go_simp⟩) hH ?_
  try simp only [Act.put, aset]
  refine tk 8 (.slice c.sA c.sn c.sc) 13 rfl rfl (by kernel_rfl) (fun _ _ _ h => h) (.inl ⟨by rfl, by intro W' hS; have hc : W'.cell? ⟨w.heap.size, 0, none⟩ = some (.slice c.sA c.sn c.sc) := hS.b.cell 0; go_simp⟩) hH ?_
  try simp only [Act.put, aset]
  refine tk 9 (.int .i64 c.sn) 14 rfl rfl (by kernel_rfl) (fun _ _ _ h => h) (.inl ⟨by rfl, by intro W' hS; go_simp⟩) hH ?_
  try simp only [Act.put, aset]
  refine wpAnyH_ready (rs := [2]) (by kernel_rfl) (by simp) ?_
  refine AllReadyH.cons rfl (fun K hK => ?_) AllReadyH.nil
  go_simp
  refine (dstamp_any c.ta c.tt c.tn HRT.out _).mono ?_
  rintro e u46 ⟨rfl, du46⟩
  have pl46 := stampB_lenS (c.ta, c.tt, c.tn)
  have S1 := hH.call du46
  clear hH du46 S0
  refine hK.out _ _ S1 (fun hH => ?_)
  clear hK K
  try simp only [Act.put, aset]
  refine wpAnyH_ready (rs := [5]) (by kernel_rfl) (by simp) ?_
  refine AllReadyH.cons rfl (fun K hK => ?_) AllReadyH.nil
  go_simp
  refine (dnum_any c.drop (by omega) _).mono ?_
  rintro e u47 ⟨rfl, du47⟩
  have pl47 := putI_len c.drop
  have S2 := hH.call du47
  clear hH du47 S1
  refine hK.out _ _ S2 (fun hH => ?_)
  clear hK K
  try simp only [Act.put, aset]
  obtain ⟨t48, ht⟩ : ∃ q9, (stampB (c.ta, c.tt, c.tn)) ++ (putI c.drop).1 = q9 := ⟨_, rfl⟩
  have hl48 : t48.length ≤ 36 := by rw [← ht, List.length_append]; omega
  have HT48 := Lib.hid ht
  refine tk 6 (.string ⟨t48.toArray⟩) 11 rfl rfl (by kernel_rfl) (fun _ _ _ h => h) (by rw [← ht]; exact yif_cat (by rfl) _ _ _ _ rfl (stampB (c.ta, c.tt, c.tn)) (putI c.drop).1 (by rfl) (by rfl) (by omega)) hH ?_
  try simp only [Act.put, aset]
  clear ht pl46 pl47
  refine wpAnyH_ready (rs := [10]) (by kernel_rfl) (by simp) ?_
  refine AllReadyH.cons rfl (fun K hK => ?_) AllReadyH.nil
  go_simp
  refine (dnum_any (c.sn : Int) (by omega) _).mono ?_
  rintro e u49 ⟨rfl, du49⟩
  have pl49 := putI_len (c.sn : Int)
  have S3 := hH.call du49
  clear hH du49 S2
  refine hK.out _ _ S3 (fun hH => ?_)
  clear hK K
  try simp only [Act.put, aset]
  obtain ⟨t50, ht⟩ : ∃ q9, t48 ++ (putI (c.sn : Int)).1 = q9 := ⟨_, rfl⟩
  have hl50 : t50.length ≤ 45 := by rw [← ht, List.length_append]; omega
  have HT50 := Lib.hid ht
  refine tk 11 (.string ⟨t50.toArray⟩) 16 rfl rfl (by kernel_rfl) (fun _ _ _ h => h) (by rw [← ht]; exact yif_cat (by rfl) _ _ _ _ rfl t48 (putI (c.sn : Int)).1 (by rfl) (by rfl) (by omega)) hH ?_
  try simp only [Act.put, aset]
  clear ht hl48 pl49
  refine tk 12 (.string ⟨t50.toArray⟩) 3 rfl rfl (by kernel_rfl) (fun _ _ _ h => h) (.inl ⟨by rfl, by intro W' hS; go_simp⟩) hH ?_
  try simp only [Act.put, aset]
  refine wpAnyH_done (by kernel_rfl) ?_ _
  clear hH
  have c0 : u49.cell? ⟨w.heap.size, 0, none⟩ = some (.slice c.sA c.sn c.sc) := S3.b.cell 0
  have gl := S3.b.lt
  go_wp2_with fail
  clear c0 gl
  go_loopw [3, 4] (fun s3 i wr => ∃ (k : Nat) (t : List UInt8), s3 = .string ⟨t.toArray⟩ ∧ i = .int .i64 k ∧ k ≤ c.sn ∧ t = t50 ++ (c.ss.take k).flatMap shBy ∧ OneB w w.heap.size 38 (ceA c) wr) (fun _ i _ => c.sn - (intOf i).toNat)
  case atStart => exact ⟨0, t50, rfl, rfl, Nat.zero_le _, by simp, S3⟩
  case round =>
    clear S3
    obtain ⟨k, t, rfl, rfl, hk, ht, S1⟩ := hrel
    have i0 : (0 : Int) ≤ (k : Int) := by omega
    have HT := Lib.hid ht
    have hll := HBL.out k
    have htl : t.length ≤ 2400045 := by rw [ht, List.length_append]; omega
    clear ht hll
    have c0 : wr.cell? ⟨w.heap.size, 0, none⟩ = some (.slice c.sA c.sn c.sc) := S1.b.cell 0
    have gl := S1.b.lt
    by_cases hlt : k < c.sn
    case pos =>
      have i1 : (k : Int) < (c.sn : Int) := by omega
      have IL := HI.out.below S1.below (Nat.le_refl _)
      obtain ⟨b, off, hA, hbB, rx⟩ := IL.row.at k (by omega)
      have hin := IL.ss (c.ss[k]'(by omega)) (List.getElem_mem (by omega))
      have hsb := HSH.out (c.ss[k]'(by omega)) (List.getElem_mem (by omega))
      have hsn2 := flatMap_snoc shBy c.ss k (by omega)
      obtain ⟨x, hx⟩ : ∃ x, c.ss[k]'(by omega) = x := ⟨_, rfl⟩
      simp only [hx] at rx hin hsb hsn2
      have HSN := Lib.hid hsn2
      have HSB := Lib.hid hsb
      have HSB := Lib.hid hsb
      have HSN := Lib.hid hsn2
      have HIN := Lib.hid hin
      have RX := Lib.hid rx
      have HA := Lib.hid hA
      clear hx hsn2 hsb hin rx hA IL
      have hbS := S1.below
      have c0' : wr.cell? ⟨w.heap.size, 0, none⟩ = some (.slice (some ⟨b, off, none⟩) c.sn c.sc) := by rw [c0, HA.out]
      clear c0
      go_wp2_with (with_reducible refine wpl_ldr b (off + k * 17) (shC x) RX.out (by with_unfolding_all rfl) 30 _ (by with_unfolding_all rfl) (by with_unfolding_all rfl) _ Tryz.underlying30 (by with_unfolding_all rfl) (by with_unfolding_all rfl) ?_)
      clear c0' gl
      refine (dshard_any x wr ((HIN.out.more hbS.size)) HSB.out).mono ?_
      rintro e u9 ⟨rfl, du9⟩
      have pl9 := shBy_len HIN.out HSB.out
      have S2 := S1.call du9
      clear du9 S1
      obtain ⟨sx, hsx⟩ : ∃ q, shBy x = q := ⟨_, rfl⟩
      rw [hsx] at pl9 ⊢
      have HSX := Lib.hid hsx
      clear hsx
      have hsl : t.length + sx.length ≤ 3000000 := by omega
      go_wp2_with fail
      go_roundw
      case rel =>
        refine ⟨k + 1, t ++ sx, rfl, by go_num, by omega, ?_, S2⟩
        rw [HSN.out, HT.out, HSX.out]
        simp only [List.append_assoc]
      case measure => simp [intOf]; omega
    case neg =>
      have hke : k = c.sn := by omega
      have htk : c.ss.take k = c.ss := take_full _ _ (by omega)
      rw [htk] at HT
      clear htk
      go_wp2
      go_ret
      refine ⟨?_, S1.below⟩
      have hfin : t = ceBy c := by
        rw [HT.out, ← HT50.out, ← HT48.out, ceBy_eq]
        simp only [List.append_assoc]
      rw [hfin]
      try rfl
end Go.Proofs.YtkoligiilieboaaGreatDoor
