/- book.PutMsg: a message as bytes. -/
import Derived.Test.YtkoligiilieboaaGreatDoorMgC
import Derived.Test.YtkoligiilieboaaGreatDoorMgA
import Derived.Deep.CutRange
set_option linter.unusedSimpArgs false
set_option linter.unusedVariables false
namespace Go.Proofs.YtkoligiilieboaaGreatDoor
open Go.RowKit
attribute [local go_sem] ByteArray.mk_append_mk ByteArray.extract_mk
attribute [local go_sem ↓] Go.wp_at_zero Go.wp_at_succ
def ItRl (w : World) (gw gq ga : Nat) (m : Ms) (n : Nat) (bs : List UInt8) (f : Nat → List UInt8) (i : Value) (wr : World) : Prop :=
 ∃ k : Nat, i = .int .i64 k ∧ k ≤ n ∧ PQ w gw gq ga m wr (bs ++ f k)
def putM (m : Ms) (its : List It) (ps : List Pl) (ls : List Int) : List UInt8 × Nat := if rightM m ps ls = true then (msgB m its ps ls, 0) else ([], 1)
set_option maxHeartbeats 12800000 in
set_option maxRecDepth 100000 in
theorem putmsg_any (m : Ms) (its : List It) (ps : List Pl) (ls : List Int) (w : World) (hM : MsgIn m its ps ls w) (hO : msOk m) (hpo : ∀ p ∈ ps, iok p.sh ∧ iok p.ce ∧ iok p.ep) (hlo : ∀ x ∈ ls, iok x) (hZ : SzM m its ps) :
  Calls Tryz.prog 22 #[msV m] w fun e w' => e = .returned (.tuple #[.string ⟨(putM m its ps ls).1.toArray⟩, .int .i64 (putM m its ps ls).2]) ∧ Below w.heap.size w w' := by
 have B0 : Blk (w.alloc (.cells (msA m) 51)) w.heap.size 51 (msA m) := Blk.new w _ _
 have hbW : Below w.heap.size w (w.alloc (.cells (msA m) 51)) := bal (b0 w) _
 go_enter Tryz.func22, Tryz.ntmps22
 go_wp2_with (with_reducible refine wpl_ld B0 (by with_unfolding_all rfl) _ _ (by with_unfolding_all rfl) (by with_unfolding_all rfl) _ Tryz.underlying51 (by with_unfolding_all rfl) (by with_unfolding_all rfl) ?_)
 generalize (w.alloc (.cells (msA m) 51)) = W at *
 refine (rightmsg_any m its ps ls W (hM.keep hbW)).mono ?_
 rintro e w1 ⟨rfl, d1⟩
 have hb1 := bt hbW d1
 have B1 := B0.keep d1
 clear B0
 cases hr : rightM m ps ls
 case false =>
  have hv : putM m its ps ls = ([], 1) := by unfold putM; rw [if_neg (by rw [hr]; simp)]
  have HV := Lib.hid hv
  clear hr hv
  go_wp2
  go_ret2
  exact ⟨by rw [HV.out] <;> rfl, hb1⟩
 case true =>
 have hv : putM m its ps ls = (msgB m its ps ls, 0) := by unfold putM; rw [if_pos hr]
 have HV := Lib.hid hv
 clear hv
 obtain ⟨⟨hk1, hk2⟩, ⟨he1, he2⟩, hi8, hp8, hl8⟩ := head_iff (show headB m = true by unfold rightM at hr; simp only [Bool.and_eq_true] at hr; exact hr.1)
 clear hr
 obtain ⟨o1, o2, o3, o4, o5, o6, o7, o8, o9, _, _, ⟨q1, q2, q3, q4, _⟩, ⟨a1, _⟩⟩ := hO
 have H13 := Lib.hid (show (iok m.kind ∧ iok m.frm ∧ iok m.to ∧ iok m.shard ∧ iok m.epoch ∧ iok m.move ∧ iok m.lease ∧ iok m.num ∧ iok m.of) ∧ (iok m.req.cl ∧ iok m.req.rq ∧ iok m.req.kd) ∧ (iok m.req.lim ∧ iok m.ans.er) from ⟨⟨o1, o2, o3, o4, o5, o6, o7, o8, o9⟩, ⟨q1, q2, q3⟩, ⟨q4, a1⟩⟩)
 have HP := Lib.hid hpo
 have HL := Lib.hid hlo
 clear o1 o2 o3 o4 o5 o6 o7 o8 o9 q1 q2 q3 q4 a1 hpo hlo hk1 hk2 he1 he2
 have hwr : Blk (w1.alloc (.cells #[.slice none 0 0] 90)) w1.heap.size 90 #[.slice none 0 0] := Blk.new w1 _ _
 have S0 : PM w w1.heap.size m (w1.alloc (.cells #[.slice none 0 0] 90)) [] := ⟨Nat.lt_of_lt_of_le B1.lt (Nat.le_refl _), bal hb1 _, ⟨_, hwr, World.ownsRow_nil _ _ _ _⟩, B1.alloc _⟩
 clear hwr B1
 go_upto_region 4 with (fail)
 generalize (w1.alloc (.cells #[.slice none 0 0] 90)) = V at *
 generalize w1.heap.size = gw at *
 have hni := hM.ni
 have hnp := hM.np
 have hnl := hM.nl
 have hl0 : ([] : List UInt8).length ≤ 0 := Nat.le_refl _
 have cm0 : V.cell? ⟨w.heap.size, 0, none⟩ = some (.int .i64 m.kind) := S0.bm.cell 0
 have cm1 : V.cell? ⟨w.heap.size, 1, none⟩ = some (.int .i64 m.frm) := S0.bm.cell 1
 have cm2 : V.cell? ⟨w.heap.size, 2, none⟩ = some (.int .i64 m.to) := S0.bm.cell 2
 have cm3 : V.cell? ⟨w.heap.size, 3, none⟩ = some (.int .i64 m.shard) := S0.bm.cell 3
 have cm4 : V.cell? ⟨w.heap.size, 4, none⟩ = some (.int .i64 m.epoch) := S0.bm.cell 4
 have cm5 : V.cell? ⟨w.heap.size, 5, none⟩ = some (.int .i64 m.move) := S0.bm.cell 5
 have cm6 : V.cell? ⟨w.heap.size, 6, none⟩ = some (.int .i64 m.lease) := S0.bm.cell 6
 have cm7 : V.cell? ⟨w.heap.size, 7, none⟩ = some (.int .i64 m.num) := S0.bm.cell 7
 have cm8 : V.cell? ⟨w.heap.size, 8, none⟩ = some (.int .i64 m.of) := S0.bm.cell 8
 go_wp2_with fail
 refine (wnums_any w.heap.size gw (Nat.le_of_lt S0.lt) _ [m.kind, m.frm, m.to, m.shard, m.epoch, m.move, m.lease, m.num, m.of] (some ⟨V.heap.size, 0, none⟩) 9 (V.alloc (.cells #[.int .i64 (m.kind), .int .i64 (m.frm), .int .i64 (m.to), .int .i64 (m.shard), .int .i64 (m.epoch), .int .i64 (m.move), .int .i64 (m.lease), .int .i64 (m.num), .int .i64 (m.of)] 3)) ?hz ?hlen (by simp) (Nat.le_trans S0.hbw (by simp)) (S0.wr.alloc _) (lit_nums [m.kind, m.frm, m.to, m.shard, m.epoch, m.move, m.lease, m.num, m.of] _ rfl S0.glt)).mono ?_
 case hz => intro z hz; simp only [List.mem_cons, List.not_mem_nil, or_false] at hz; obtain ⟨i1, i2, i3, i4, i5, i6, i7, i8, i9⟩ := H13.out.1; rcases hz with rfl | rfl | rfl | rfl | rfl | rfl | rfl | rfl | rfl <;> exact iok_le (by assumption)
 case hlen => simp only [List.length_cons, List.length_nil]; omega
 rintro e w2 ⟨rfl, hw, hk⟩
 have S1 := S0.step _ hw hk
 clear hw hk cm0 cm1 cm2 cm3 cm4 cm5 cm6 cm7 cm8
 have hlx := numsB_len [m.kind, m.frm, m.to, m.shard, m.epoch, m.move, m.lease, m.num, m.of]
 simp only [List.length_cons, List.length_nil] at hlx
 have hl1 : ([] ++ numsB [m.kind, m.frm, m.to, m.shard, m.epoch, m.move, m.lease, m.num, m.of]).length ≤ 81 := by rw [List.length_append]; omega
 clear hlx
 clear S0
 have cm9 : w2.cell? ⟨w.heap.size, 9, none⟩ = some (.int .i64 m.a) := S1.bm.cell 9
 have cm10 : w2.cell? ⟨w.heap.size, 10, none⟩ = some (.int .i64 m.t) := S1.bm.cell 10
 have cm11 : w2.cell? ⟨w.heap.size, 11, none⟩ = some (.int .i64 m.n) := S1.bm.cell 11
 go_wp2_with fail
 refine (wstamps_any w.heap.size gw (Nat.le_of_lt S1.lt) _ [(m.a, m.t, m.n)] (some ⟨w2.heap.size, 0, none⟩) 1 (w2.alloc (.cells #[.int .i64 m.a, .int .i64 m.t, .int .i64 m.n] 27)) ?hlen (by simp) (Nat.le_trans S1.hbw (by simp)) (S1.wr.alloc _) (lit_stamp _ _ _ _ rfl S1.glt)).mono ?_
 case hlen => simp only [List.length_cons, List.length_nil]; omega
 rintro e w3 ⟨rfl, hw, hk⟩
 have S2 := S1.step _ hw hk
 clear hw hk cm9 cm10 cm11
 have hlx := stampsB_len [(m.a, m.t, m.n)]
 simp only [List.length_cons, List.length_nil] at hlx
 have hl2 : ([] ++ numsB [m.kind, m.frm, m.to, m.shard, m.epoch, m.move, m.lease, m.num, m.of] ++ stampsB [(m.a, m.t, m.n)]).length ≤ 108 := by rw [List.length_append]; omega
 clear hlx
 clear hl1
 clear S1
 have cm12 : w3.cell? ⟨w.heap.size, 12, none⟩ = some (.string ⟨m.text.toArray⟩) := S2.bm.cell 12
 go_wp2_with fail
 have hlx := texts1 (m.text)
 have hly0 := hZ.text
 refine (wtexts_any w.heap.size gw (Nat.le_of_lt S2.lt) _ [m.text] (some ⟨w3.heap.size, 0, none⟩) 1 (w3.alloc (.cells #[.string ⟨(m.text).toArray⟩] 9)) ?hlen (by simp) (Nat.le_trans S2.hbw (by simp)) (S2.wr.alloc _) (lit_texts [m.text] _ rfl S2.glt)).mono ?_
 case hlen => omega
 rintro e w4 ⟨rfl, hw, hk⟩
 have S3 := S2.step _ hw hk
 clear hw hk cm12
 have hl3 : ([] ++ numsB [m.kind, m.frm, m.to, m.shard, m.epoch, m.move, m.lease, m.num, m.of] ++ stampsB [(m.a, m.t, m.n)] ++ textsB [m.text]).length ≤ 2097269 := by rw [List.length_append]; omega
 clear hl2
 clear S2
 clear hlx hly0
 have hoq : (rqA m.req).toList.all (·.oneCell') = true := (by with_unfolding_all rfl)
 have hoa : (anA m.ans).toList.all (·.oneCell') = true := (by with_unfolding_all rfl)
 go_upto_region 7 with (fail)
 go_cut [5, 6] from 42 to 45 (fun s5 s6 wx => ∃ gq ga, s5 = .pointer (some ⟨gq, 0, none⟩) ∧ s6 = .pointer (some ⟨ga, 0, none⟩) ∧ PQ w gw gq ga m wx ([] ++ numsB [m.kind, m.frm, m.to, m.shard, m.epoch, m.move, m.lease, m.num, m.of] ++ stampsB [(m.a, m.t, m.n)] ++ textsB [m.text]))
 case first =>
  refine wp_region_held_drew (S := (fun W' => PM w gw m W' ([] ++ numsB [m.kind, m.frm, m.to, m.shard, m.epoch, m.move, m.lease, m.num, m.of] ++ stampsB [(m.a, m.t, m.n)] ++ textsB [m.text]))) (by kernel_rfl) S3.drew (fun hH => ?_)
  refine tk 0 (.pointer (some ⟨w.heap.size, 13, none⟩)) 42 rfl rfl (by kernel_rfl) (fun _ _ _ h => h) (.inl ⟨by rfl, by intro W' hS; go_simp⟩) hH ?_
  try simp only [Act.put, aset]
  refine tk 1 (.agg (rqA m.req)) 43 rfl rfl (by kernel_rfl) (fun _ _ _ h => h) (yieldsIf_load_mid (by rfl) 44 _ rfl (w.heap.size) 13 (by rfl) (rqA m.req).toList _ (fun _ h => Blk.range h.bm 13 _ (by rfl)) Tryz.underlying44 (by with_unfolding_all rfl) (by with_unfolding_all rfl)) hH ?_
  try simp only [Act.put, aset]
  refine tk 2 (.pointer (some ⟨w.heap.size, 25, none⟩)) 44 rfl rfl (by kernel_rfl) (fun _ _ _ h => h) (.inl ⟨by rfl, by intro W' hS; go_simp⟩) hH ?_
  try simp only [Act.put, aset]
  refine tk 3 (.agg (anA m.ans)) 45 rfl rfl (by kernel_rfl) (fun _ _ _ h => h) (yieldsIf_load_mid (by rfl) 47 _ rfl (w.heap.size) 25 (by rfl) (anA m.ans).toList _ (fun _ h => Blk.range h.bm 25 _ (by rfl)) Tryz.underlying47 (by with_unfolding_all rfl) (by with_unfolding_all rfl)) hH ?_
  try simp only [Act.put, aset]
  clear hH
  refine wpAnyH_ready (rs := [4, 5]) (by kernel_rfl) (by simp) ?_
  refine AllReadyH.cons rfl (fun K hK => ?ca) (AllReadyH.cons rfl (fun K hK => ?cb) AllReadyH.nil)
  case ca =>
   go_simp
   refine hK.out _ _ (S3.drew.alloc (.cells zqA 44)) (fun hH => ?_)
   clear hK K hH
   try simp only [Act.put, aset]
   refine wpAnyH_ready (rs := [5]) (by kernel_rfl) (by simp) ?_
   refine AllReadyH.cons rfl (fun K hK => ?_) AllReadyH.nil
   go_simp
   have T0 := (S3.drew.alloc (.cells zqA 44)).alloc (.cells zaA 47)
   have Q0 : Blk ((w4.drew.alloc (.cells zqA 44)).alloc (.cells zaA 47)) w4.heap.size 44 zqA := ((Blk.new' w4.drew 44 zqA w4.heap.size rfl).alloc (.cells zaA 47))
   have A0 : Blk ((w4.drew.alloc (.cells zqA 44)).alloc (.cells zaA 47)) (w4.heap.size + 1) 47 zaA := (Blk.new' (w4.drew.alloc (.cells zqA 44)) 47 zaA (w4.heap.size + 1) (by simp))
   refine hK.out _ _ T0 (fun hH => ?_)
   clear hK K hH
   try simp only [Act.put, aset]
   have hgl := S3.glt
   refine wpAnyH_ready (rs := [6]) (by kernel_rfl) (by simp) ?_
   refine AllReadyH.cons rfl (fun K hK => ?_) AllReadyH.nil
   refine wp_st Q0 (by rfl) 44 _ _ rfl (rqA m.req) (by rfl) (by rfl) (by rfl) (by with_unfolding_all rfl) hoq ?_
   intro W5 e5
   have T5 : PM w gw m W5 ([] ++ numsB [m.kind, m.frm, m.to, m.shard, m.epoch, m.move, m.lease, m.num, m.of] ++ stampsB [(m.a, m.t, m.n)] ++ textsB [m.text]) := by rw [e5]; exact T0.row (by omega) (by have := T0.lt; omega) Q0 (by decide) _
   have Q5 : Blk W5 w4.heap.size 44 (rqA m.req) := by rw [e5]; exact Q0.row _
   have A5 : Blk W5 (w4.heap.size + 1) 47 zaA := by rw [e5]; exact A0.row_far (by omega) _
   clear e5 Q0 A0 T0
   refine hK.out _ _ T5 (fun hH => ?_)
   clear hK K hH
   try simp only [Act.put, aset]
   refine wpAnyH_ready (rs := [7]) (by kernel_rfl) (by simp) ?_
   refine AllReadyH.cons rfl (fun K hK => ?_) AllReadyH.nil
   refine wp_st A5 (by rfl) 47 _ _ rfl (anA m.ans) (by rfl) (by rfl) (by rfl) (by with_unfolding_all rfl) hoa ?_
   intro W6 e6
   have T6 : PM w gw m W6 ([] ++ numsB [m.kind, m.frm, m.to, m.shard, m.epoch, m.move, m.lease, m.num, m.of] ++ stampsB [(m.a, m.t, m.n)] ++ textsB [m.text]) := by rw [e6]; exact T5.row (by omega) (by have := T5.lt; omega) A5 (by decide) _
   have Q6 : Blk W6 w4.heap.size 44 (rqA m.req) := by rw [e6]; exact Q5.row_far (by omega) _
   have A6 : Blk W6 (w4.heap.size + 1) 47 (anA m.ans) := by rw [e6]; exact A5.row _
   clear e6 Q5 A5 T5
   refine hK.out _ _ T6 (fun hH => ?_)
   clear hK K hH
   refine wpAnyH_done (by kernel_rfl) ?_ _
   go_wp2_with fail
   go_meet
   exact ⟨_, _, rfl, rfl, ⟨T6, by omega, by omega, Q6, A6⟩⟩
  case cb =>
   go_simp
   refine hK.out _ _ (S3.drew.alloc (.cells zaA 47)) (fun hH => ?_)
   clear hK K hH
   try simp only [Act.put, aset]
   refine wpAnyH_ready (rs := [4]) (by kernel_rfl) (by simp) ?_
   refine AllReadyH.cons rfl (fun K hK => ?_) AllReadyH.nil
   go_simp
   have T0 := (S3.drew.alloc (.cells zaA 47)).alloc (.cells zqA 44)
   have Q0 : Blk ((w4.drew.alloc (.cells zaA 47)).alloc (.cells zqA 44)) (w4.heap.size + 1) 44 zqA := (Blk.new' (w4.drew.alloc (.cells zaA 47)) 44 zqA (w4.heap.size + 1) (by simp))
   have A0 : Blk ((w4.drew.alloc (.cells zaA 47)).alloc (.cells zqA 44)) w4.heap.size 47 zaA := ((Blk.new' w4.drew 47 zaA w4.heap.size rfl).alloc (.cells zqA 44))
   refine hK.out _ _ T0 (fun hH => ?_)
   clear hK K hH
   try simp only [Act.put, aset]
   have hgl := S3.glt
   refine wpAnyH_ready (rs := [6]) (by kernel_rfl) (by simp) ?_
   refine AllReadyH.cons rfl (fun K hK => ?_) AllReadyH.nil
   refine wp_st Q0 (by rfl) 44 _ _ rfl (rqA m.req) (by rfl) (by rfl) (by rfl) (by with_unfolding_all rfl) hoq ?_
   intro W5 e5
   have T5 : PM w gw m W5 ([] ++ numsB [m.kind, m.frm, m.to, m.shard, m.epoch, m.move, m.lease, m.num, m.of] ++ stampsB [(m.a, m.t, m.n)] ++ textsB [m.text]) := by rw [e5]; exact T0.row (by omega) (by have := T0.lt; omega) Q0 (by decide) _
   have Q5 : Blk W5 (w4.heap.size + 1) 44 (rqA m.req) := by rw [e5]; exact Q0.row _
   have A5 : Blk W5 w4.heap.size 47 zaA := by rw [e5]; exact A0.row_far (by omega) _
   clear e5 Q0 A0 T0
   refine hK.out _ _ T5 (fun hH => ?_)
   clear hK K hH
   try simp only [Act.put, aset]
   refine wpAnyH_ready (rs := [7]) (by kernel_rfl) (by simp) ?_
   refine AllReadyH.cons rfl (fun K hK => ?_) AllReadyH.nil
   refine wp_st A5 (by rfl) 47 _ _ rfl (anA m.ans) (by rfl) (by rfl) (by rfl) (by with_unfolding_all rfl) hoa ?_
   intro W6 e6
   have T6 : PM w gw m W6 ([] ++ numsB [m.kind, m.frm, m.to, m.shard, m.epoch, m.move, m.lease, m.num, m.of] ++ stampsB [(m.a, m.t, m.n)] ++ textsB [m.text]) := by rw [e6]; exact T5.row (by omega) (by have := T5.lt; omega) A5 (by decide) _
   have Q6 : Blk W6 (w4.heap.size + 1) 44 (rqA m.req) := by rw [e6]; exact Q5.row_far (by omega) _
   have A6 : Blk W6 w4.heap.size 47 (anA m.ans) := by rw [e6]; exact A5.row _
   clear e6 Q5 A5 T5
   refine hK.out _ _ T6 (fun hH => ?_)
   clear hK K hH
   refine wpAnyH_done (by kernel_rfl) ?_ _
   go_wp2_with fail
   go_meet
   exact ⟨_, _, rfl, rfl, ⟨T6, by omega, by omega, Q6, A6⟩⟩
 case rest =>
 obtain ⟨gq, ga, rfl, rfl, hPQ⟩ := hcut
 clear S3 hoq hoa
 have S3 := hPQ
 clear hPQ
 have cq0 : wc.cell? ⟨gq, 0, none⟩ = some (.int .i64 m.req.cl) := S3.bq.cell 0
 have cq1 : wc.cell? ⟨gq, 1, none⟩ = some (.int .i64 m.req.rq) := S3.bq.cell 1
 have cq2 : wc.cell? ⟨gq, 2, none⟩ = some (.int .i64 m.req.kd) := S3.bq.cell 2
 go_wp2_with fail
 refine (wnums_any w.heap.size gw (Nat.le_of_lt S3.lt) _ [m.req.cl, m.req.rq, m.req.kd] (some ⟨wc.heap.size, 0, none⟩) 3 (wc.alloc (.cells #[.int .i64 (m.req.cl), .int .i64 (m.req.rq), .int .i64 (m.req.kd)] 3)) ?hz ?hlen (by simp) (Nat.le_trans S3.hbw (by simp)) (S3.wr.alloc _) (lit_nums [m.req.cl, m.req.rq, m.req.kd] _ rfl S3.glt)).mono ?_
 case hz => intro z hz; simp only [List.mem_cons, List.not_mem_nil, or_false] at hz; obtain ⟨i1, i2, i3⟩ := H13.out.2.1; rcases hz with rfl | rfl | rfl <;> exact iok_le (by assumption)
 case hlen => simp only [List.length_cons, List.length_nil]; omega
 rintro e w5 ⟨rfl, hw, hk⟩
 have S4 := S3.step _ hw hk
 clear hw hk cq0 cq1 cq2
 have hlx := numsB_len [m.req.cl, m.req.rq, m.req.kd]
 simp only [List.length_cons, List.length_nil] at hlx
 have hl4 : ([] ++ numsB [m.kind, m.frm, m.to, m.shard, m.epoch, m.move, m.lease, m.num, m.of] ++ stampsB [(m.a, m.t, m.n)] ++ textsB [m.text] ++ numsB [m.req.cl, m.req.rq, m.req.kd]).length ≤ 2097296 := by rw [List.length_append]; omega
 clear hlx
 clear hl3
 clear S3
 have cq3 : w5.cell? ⟨gq, 3, none⟩ = some (.string ⟨m.req.ky.toArray⟩) := S4.bq.cell 3
 have cq4 : w5.cell? ⟨gq, 4, none⟩ = some (.string ⟨m.req.vl.toArray⟩) := S4.bq.cell 4
 go_wp2_with fail
 have hlx := texts2 (m.req.ky) (m.req.vl)
 have hly0 := hZ.ky
 have hly1 := hZ.vl
 refine (wtexts_any w.heap.size gw (Nat.le_of_lt S4.lt) _ [m.req.ky, m.req.vl] (some ⟨w5.heap.size, 0, none⟩) 2 (w5.alloc (.cells #[.string ⟨(m.req.ky).toArray⟩, .string ⟨(m.req.vl).toArray⟩] 9)) ?hlen (by simp) (Nat.le_trans S4.hbw (by simp)) (S4.wr.alloc _) (lit_texts [m.req.ky, m.req.vl] _ rfl S4.glt)).mono ?_
 case hlen => omega
 rintro e w6 ⟨rfl, hw, hk⟩
 have S5 := S4.step _ hw hk
 clear hw hk cq3 cq4
 have hl5 : ([] ++ numsB [m.kind, m.frm, m.to, m.shard, m.epoch, m.move, m.lease, m.num, m.of] ++ stampsB [(m.a, m.t, m.n)] ++ textsB [m.text] ++ numsB [m.req.cl, m.req.rq, m.req.kd] ++ textsB [m.req.ky, m.req.vl]).length ≤ 6291618 := by rw [List.length_append]; omega
 clear hl4
 clear S4
 clear hlx hly0 hly1
 have cq5 : w6.cell? ⟨gq, 5, none⟩ = some (.bool m.req.had) := S5.bq.cell 5
 go_wp2_with fail
 have hlx := flagL_len m.req.had
 refine (wflag_any w.heap.size gw (Nat.le_of_lt S5.lt) _ m.req.had w6 ?hlen S5.hbw S5.wr).mono ?_
 case hlen => omega
 rintro e w7 ⟨rfl, hw, hk⟩
 have S6 := S5.step0 hw hk
 clear hw hk cq5
 have hl6 : ([] ++ numsB [m.kind, m.frm, m.to, m.shard, m.epoch, m.move, m.lease, m.num, m.of] ++ stampsB [(m.a, m.t, m.n)] ++ textsB [m.text] ++ numsB [m.req.cl, m.req.rq, m.req.kd] ++ textsB [m.req.ky, m.req.vl] ++ flagL m.req.had).length ≤ 6291619 := by rw [List.length_append]; omega
 clear hl5
 clear S5
 clear hlx
 have cq6 : w7.cell? ⟨gq, 6, none⟩ = some (.string ⟨m.req.old.toArray⟩) := S6.bq.cell 6
 go_wp2_with fail
 have hlx := texts1 (m.req.old)
 have hly0 := hZ.old
 refine (wtexts_any w.heap.size gw (Nat.le_of_lt S6.lt) _ [m.req.old] (some ⟨w7.heap.size, 0, none⟩) 1 (w7.alloc (.cells #[.string ⟨(m.req.old).toArray⟩] 9)) ?hlen (by simp) (Nat.le_trans S6.hbw (by simp)) (S6.wr.alloc _) (lit_texts [m.req.old] _ rfl S6.glt)).mono ?_
 case hlen => omega
 rintro e w8 ⟨rfl, hw, hk⟩
 have S7 := S6.step _ hw hk
 clear hw hk cq6
 have hl7 : ([] ++ numsB [m.kind, m.frm, m.to, m.shard, m.epoch, m.move, m.lease, m.num, m.of] ++ stampsB [(m.a, m.t, m.n)] ++ textsB [m.text] ++ numsB [m.req.cl, m.req.rq, m.req.kd] ++ textsB [m.req.ky, m.req.vl] ++ flagL m.req.had ++ textsB [m.req.old]).length ≤ 8388780 := by rw [List.length_append]; omega
 clear hl6
 clear S6
 clear hlx hly0
 have cq7 : w8.cell? ⟨gq, 7, none⟩ = some (.int .i64 m.req.a) := S7.bq.cell 7
 have cq8 : w8.cell? ⟨gq, 8, none⟩ = some (.int .i64 m.req.t) := S7.bq.cell 8
 have cq9 : w8.cell? ⟨gq, 9, none⟩ = some (.int .i64 m.req.n) := S7.bq.cell 9
 go_wp2_with fail
 refine (wstamps_any w.heap.size gw (Nat.le_of_lt S7.lt) _ [(m.req.a, m.req.t, m.req.n)] (some ⟨w8.heap.size, 0, none⟩) 1 (w8.alloc (.cells #[.int .i64 m.req.a, .int .i64 m.req.t, .int .i64 m.req.n] 27)) ?hlen (by simp) (Nat.le_trans S7.hbw (by simp)) (S7.wr.alloc _) (lit_stamp _ _ _ _ rfl S7.glt)).mono ?_
 case hlen => simp only [List.length_cons, List.length_nil]; omega
 rintro e w9 ⟨rfl, hw, hk⟩
 have S8 := S7.step _ hw hk
 clear hw hk cq7 cq8 cq9
 have hlx := stampsB_len [(m.req.a, m.req.t, m.req.n)]
 simp only [List.length_cons, List.length_nil] at hlx
 have hl8 : ([] ++ numsB [m.kind, m.frm, m.to, m.shard, m.epoch, m.move, m.lease, m.num, m.of] ++ stampsB [(m.a, m.t, m.n)] ++ textsB [m.text] ++ numsB [m.req.cl, m.req.rq, m.req.kd] ++ textsB [m.req.ky, m.req.vl] ++ flagL m.req.had ++ textsB [m.req.old] ++ stampsB [(m.req.a, m.req.t, m.req.n)]).length ≤ 8388807 := by rw [List.length_append]; omega
 clear hlx
 clear hl7
 clear S7
 have cq10 : w9.cell? ⟨gq, 10, none⟩ = some (.string ⟨m.req.hi.toArray⟩) := S8.bq.cell 10
 go_wp2_with fail
 have hlx := texts1 (m.req.hi)
 have hly0 := hZ.hi
 refine (wtexts_any w.heap.size gw (Nat.le_of_lt S8.lt) _ [m.req.hi] (some ⟨w9.heap.size, 0, none⟩) 1 (w9.alloc (.cells #[.string ⟨(m.req.hi).toArray⟩] 9)) ?hlen (by simp) (Nat.le_trans S8.hbw (by simp)) (S8.wr.alloc _) (lit_texts [m.req.hi] _ rfl S8.glt)).mono ?_
 case hlen => omega
 rintro e w10 ⟨rfl, hw, hk⟩
 have S9 := S8.step _ hw hk
 clear hw hk cq10
 have hl9 : ([] ++ numsB [m.kind, m.frm, m.to, m.shard, m.epoch, m.move, m.lease, m.num, m.of] ++ stampsB [(m.a, m.t, m.n)] ++ textsB [m.text] ++ numsB [m.req.cl, m.req.rq, m.req.kd] ++ textsB [m.req.ky, m.req.vl] ++ flagL m.req.had ++ textsB [m.req.old] ++ stampsB [(m.req.a, m.req.t, m.req.n)] ++ textsB [m.req.hi]).length ≤ 10485968 := by rw [List.length_append]; omega
 clear hl8
 clear S8
 clear hlx hly0
 have cq11 : w10.cell? ⟨gq, 11, none⟩ = some (.int .i64 m.req.lim) := S9.bq.cell 11
 have ca0 : w10.cell? ⟨ga, 0, none⟩ = some (.int .i64 m.ans.er) := S9.ba.cell 0
 go_wp2_with fail
 refine (wnums_any w.heap.size gw (Nat.le_of_lt S9.lt) _ [m.req.lim, m.ans.er] (some ⟨w10.heap.size, 0, none⟩) 2 (w10.alloc (.cells #[.int .i64 (m.req.lim), .int .i64 (m.ans.er)] 3)) ?hz ?hlen (by simp) (Nat.le_trans S9.hbw (by simp)) (S9.wr.alloc _) (lit_nums [m.req.lim, m.ans.er] _ rfl S9.glt)).mono ?_
 case hz => intro z hz; simp only [List.mem_cons, List.not_mem_nil, or_false] at hz; obtain ⟨i1, i2⟩ := H13.out.2.2; rcases hz with rfl | rfl <;> exact iok_le (by assumption)
 case hlen => simp only [List.length_cons, List.length_nil]; omega
 rintro e w11 ⟨rfl, hw, hk⟩
 have S10 := S9.step _ hw hk
 clear hw hk cq11 ca0
 have hlx := numsB_len [m.req.lim, m.ans.er]
 simp only [List.length_cons, List.length_nil] at hlx
 have hl10 : ([] ++ numsB [m.kind, m.frm, m.to, m.shard, m.epoch, m.move, m.lease, m.num, m.of] ++ stampsB [(m.a, m.t, m.n)] ++ textsB [m.text] ++ numsB [m.req.cl, m.req.rq, m.req.kd] ++ textsB [m.req.ky, m.req.vl] ++ flagL m.req.had ++ textsB [m.req.old] ++ stampsB [(m.req.a, m.req.t, m.req.n)] ++ textsB [m.req.hi] ++ numsB [m.req.lim, m.ans.er]).length ≤ 10485986 := by rw [List.length_append]; omega
 clear hlx
 clear hl9
 clear S9
 have ca1 : w11.cell? ⟨ga, 1, none⟩ = some (.int .i64 m.ans.a) := S10.ba.cell 1
 have ca2 : w11.cell? ⟨ga, 2, none⟩ = some (.int .i64 m.ans.t) := S10.ba.cell 2
 have ca3 : w11.cell? ⟨ga, 3, none⟩ = some (.int .i64 m.ans.n) := S10.ba.cell 3
 go_wp2_with fail
 refine (wstamps_any w.heap.size gw (Nat.le_of_lt S10.lt) _ [(m.ans.a, m.ans.t, m.ans.n)] (some ⟨w11.heap.size, 0, none⟩) 1 (w11.alloc (.cells #[.int .i64 m.ans.a, .int .i64 m.ans.t, .int .i64 m.ans.n] 27)) ?hlen (by simp) (Nat.le_trans S10.hbw (by simp)) (S10.wr.alloc _) (lit_stamp _ _ _ _ rfl S10.glt)).mono ?_
 case hlen => simp only [List.length_cons, List.length_nil]; omega
 rintro e w12 ⟨rfl, hw, hk⟩
 have S11 := S10.step _ hw hk
 clear hw hk ca1 ca2 ca3
 have hlx := stampsB_len [(m.ans.a, m.ans.t, m.ans.n)]
 simp only [List.length_cons, List.length_nil] at hlx
 have hl11 : ([] ++ numsB [m.kind, m.frm, m.to, m.shard, m.epoch, m.move, m.lease, m.num, m.of] ++ stampsB [(m.a, m.t, m.n)] ++ textsB [m.text] ++ numsB [m.req.cl, m.req.rq, m.req.kd] ++ textsB [m.req.ky, m.req.vl] ++ flagL m.req.had ++ textsB [m.req.old] ++ stampsB [(m.req.a, m.req.t, m.req.n)] ++ textsB [m.req.hi] ++ numsB [m.req.lim, m.ans.er] ++ stampsB [(m.ans.a, m.ans.t, m.ans.n)]).length ≤ 10486013 := by rw [List.length_append]; omega
 clear hlx
 clear hl10
 clear S10
 have ca4 : w12.cell? ⟨ga, 4, none⟩ = some (.bool m.ans.fd) := S11.ba.cell 4
 go_wp2_with fail
 have hlx := flagL_len m.ans.fd
 refine (wflag_any w.heap.size gw (Nat.le_of_lt S11.lt) _ m.ans.fd w12 ?hlen S11.hbw S11.wr).mono ?_
 case hlen => omega
 rintro e w13 ⟨rfl, hw, hk⟩
 have S12 := S11.step0 hw hk
 clear hw hk ca4
 have hl12 : ([] ++ numsB [m.kind, m.frm, m.to, m.shard, m.epoch, m.move, m.lease, m.num, m.of] ++ stampsB [(m.a, m.t, m.n)] ++ textsB [m.text] ++ numsB [m.req.cl, m.req.rq, m.req.kd] ++ textsB [m.req.ky, m.req.vl] ++ flagL m.req.had ++ textsB [m.req.old] ++ stampsB [(m.req.a, m.req.t, m.req.n)] ++ textsB [m.req.hi] ++ numsB [m.req.lim, m.ans.er] ++ stampsB [(m.ans.a, m.ans.t, m.ans.n)] ++ flagL m.ans.fd).length ≤ 10486014 := by rw [List.length_append]; omega
 clear hl11
 clear S11
 clear hlx
 have ca5 : w13.cell? ⟨ga, 5, none⟩ = some (.string ⟨m.ans.vl.toArray⟩) := S12.ba.cell 5
 go_wp2_with fail
 have hlx := texts1 (m.ans.vl)
 have hly0 := hZ.av
 refine (wtexts_any w.heap.size gw (Nat.le_of_lt S12.lt) _ [m.ans.vl] (some ⟨w13.heap.size, 0, none⟩) 1 (w13.alloc (.cells #[.string ⟨(m.ans.vl).toArray⟩] 9)) ?hlen (by simp) (Nat.le_trans S12.hbw (by simp)) (S12.wr.alloc _) (lit_texts [m.ans.vl] _ rfl S12.glt)).mono ?_
 case hlen => omega
 rintro e w14 ⟨rfl, hw, hk⟩
 have S13 := S12.step _ hw hk
 clear hw hk ca5
 have hl13 : ([] ++ numsB [m.kind, m.frm, m.to, m.shard, m.epoch, m.move, m.lease, m.num, m.of] ++ stampsB [(m.a, m.t, m.n)] ++ textsB [m.text] ++ numsB [m.req.cl, m.req.rq, m.req.kd] ++ textsB [m.req.ky, m.req.vl] ++ flagL m.req.had ++ textsB [m.req.old] ++ stampsB [(m.req.a, m.req.t, m.req.n)] ++ textsB [m.req.hi] ++ numsB [m.req.lim, m.ans.er] ++ stampsB [(m.ans.a, m.ans.t, m.ans.n)] ++ flagL m.ans.fd ++ textsB [m.ans.vl]).length ≤ 12583175 := by rw [List.length_append]; omega
 clear hl12
 clear S12
 clear hlx hly0
 have ca6 : w14.cell? ⟨ga, 6, none⟩ = some (.slice m.ans.itA m.ans.itn m.ans.itc) := S13.ba.cell 6
 go_wp2_with fail
 refine (wnums_any w.heap.size gw (Nat.le_of_lt S13.lt) _ [(m.ans.itn : Int)] (some ⟨w14.heap.size, 0, none⟩) 1 (w14.alloc (.cells #[.int .i64 ((m.ans.itn : Int))] 3)) ?hz ?hlen (by simp) (Nat.le_trans S13.hbw (by simp)) (S13.wr.alloc _) (lit_nums [(m.ans.itn : Int)] _ rfl S13.glt)).mono ?_
 case hz => intro z hz; simp only [List.mem_cons, List.not_mem_nil, or_false] at hz; omega
 case hlen => simp only [List.length_cons, List.length_nil]; omega
 rintro e w15 ⟨rfl, hw, hk⟩
 have S14 := S13.step _ hw hk
 clear hw hk ca6
 have hlx := numsB_len [(m.ans.itn : Int)]
 simp only [List.length_cons, List.length_nil] at hlx
 have hl14 : ([] ++ numsB [m.kind, m.frm, m.to, m.shard, m.epoch, m.move, m.lease, m.num, m.of] ++ stampsB [(m.a, m.t, m.n)] ++ textsB [m.text] ++ numsB [m.req.cl, m.req.rq, m.req.kd] ++ textsB [m.req.ky, m.req.vl] ++ flagL m.req.had ++ textsB [m.req.old] ++ stampsB [(m.req.a, m.req.t, m.req.n)] ++ textsB [m.req.hi] ++ numsB [m.req.lim, m.ans.er] ++ stampsB [(m.ans.a, m.ans.t, m.ans.n)] ++ flagL m.ans.fd ++ textsB [m.ans.vl] ++ numsB [(m.ans.itn : Int)]).length ≤ 12583184 := by rw [List.length_append]; omega
 clear hlx
 clear hl13
 clear S13
 have ca6 : w15.cell? ⟨ga, 6, none⟩ = some (.slice m.ans.itA m.ans.itn m.ans.itc) := S14.ba.cell 6
 go_wp2_with fail
 clear ca6
 go_loopw [100] (fun i wr => ItRl w gw gq ga m m.ans.itn ([] ++ numsB [m.kind, m.frm, m.to, m.shard, m.epoch, m.move, m.lease, m.num, m.of] ++ stampsB [(m.a, m.t, m.n)] ++ textsB [m.text] ++ numsB [m.req.cl, m.req.rq, m.req.kd] ++ textsB [m.req.ky, m.req.vl] ++ flagL m.req.had ++ textsB [m.req.old] ++ stampsB [(m.req.a, m.req.t, m.req.n)] ++ textsB [m.req.hi] ++ numsB [m.req.lim, m.ans.er] ++ stampsB [(m.ans.a, m.ans.t, m.ans.n)] ++ flagL m.ans.fd ++ textsB [m.ans.vl] ++ numsB [(m.ans.itn : Int)]) (fun k => itsB (its.take k)) i wr) (fun i _ => m.ans.itn - (intOf i).toNat)
 case atStart => exact ⟨0, rfl, Nat.zero_le _, by simpa [itsB] using S14⟩
 case round =>
  clear S14
  obtain ⟨k, rfl, hk, hS⟩ := hrel
  simp only at hS
  have i0 : (0 : Int) ≤ (k : Int) := by omega
  by_cases hlt : k < m.ans.itn
  case pos =>
   have i1 : (k : Int) < (m.ans.itn : Int) := by omega
   obtain ⟨b, off, hA, hbB, c0, c1⟩ := itc_cells (hM.keep hS.below).ri k (by omega)
   have hsn := itsB_snoc its k (by omega)
   have hzx := hZ.its its[k] (List.getElem_mem (by omega))
   have hnl2 := itsB_len (its.take k) (fun x hx => hZ.its x (List.mem_of_mem_take hx))
   rw [List.length_take] at hnl2
   obtain ⟨x, hx⟩ : ∃ x, its[k] = x := ⟨_, rfl⟩
   rw [hx] at c0 c1 hsn hzx
   have HSN := Lib.hid hsn
   clear hx hsn
   simp only [hA]
   go_wp2_with fail
   have hlx := texts2 x.ky x.vl
   have SA := hS.alloc (.cells #[.string ⟨x.ky.toArray⟩, .string ⟨x.vl.toArray⟩] 79)
   refine (wtexts_any w.heap.size gw (Nat.le_of_lt SA.lt) _ [x.ky, x.vl] (some ⟨wr.heap.size + 1, 0, none⟩) 2 ((wr.alloc (.cells #[.string ⟨x.ky.toArray⟩, .string ⟨x.vl.toArray⟩] 79)).alloc (.cells #[.string ⟨x.ky.toArray⟩, .string ⟨x.vl.toArray⟩] 9)) ?hlen (by simp) (Nat.le_trans SA.hbw (by simp)) (SA.wr.alloc _) (lit_texts [x.ky, x.vl] _ (by simp) SA.glt)).mono ?_
   case hlen => rw [List.length_append]; omega
   rintro e w9 ⟨rfl, hw, hkw⟩
   have S9 := SA.step _ hw hkw
   clear hw hkw SA c0 c1 hlx hS hnl2 hzx
   go_wp2_with fail
   go_roundw
   case rel =>
    refine ⟨k + 1, by go_num, by omega, ?_⟩
    simp only
    rw [HSN.out, ← List.append_assoc]
    exact S9
   case measure => simp [intOf]; omega
  case neg =>
   have hke : (k : Int) = (m.ans.itn : Int) := by omega
   have htk : its.take k = its := List.take_of_length_le (by omega)
   rw [htk] at hS
   have S15 := hS
   clear hS htk i0 hk hlt
   have hlx := itsB_len its hZ.its
   have hl15 : ([] ++ numsB [m.kind, m.frm, m.to, m.shard, m.epoch, m.move, m.lease, m.num, m.of] ++ stampsB [(m.a, m.t, m.n)] ++ textsB [m.text] ++ numsB [m.req.cl, m.req.rq, m.req.kd] ++ textsB [m.req.ky, m.req.vl] ++ flagL m.req.had ++ textsB [m.req.old] ++ stampsB [(m.req.a, m.req.t, m.req.n)] ++ textsB [m.req.hi] ++ numsB [m.req.lim, m.ans.er] ++ stampsB [(m.ans.a, m.ans.t, m.ans.n)] ++ flagL m.ans.fd ++ textsB [m.ans.vl] ++ numsB [(m.ans.itn : Int)] ++ itsB its).length ≤ 46138384 := by rw [List.length_append]; omega
   clear hlx hl14
   have ca7 : wr.cell? ⟨ga, 7, none⟩ = some (.string ⟨m.ans.nx.toArray⟩) := S15.ba.cell 7
   go_wp2_with fail
   have hlx := texts1 (m.ans.nx)
   have hly0 := hZ.an
   refine (wtexts_any w.heap.size gw (Nat.le_of_lt S15.lt) _ [m.ans.nx] (some ⟨wr.heap.size, 0, none⟩) 1 (wr.alloc (.cells #[.string ⟨(m.ans.nx).toArray⟩] 9)) ?hlen (by simp) (Nat.le_trans S15.hbw (by simp)) (S15.wr.alloc _) (lit_texts [m.ans.nx] _ rfl S15.glt)).mono ?_
   case hlen => omega
   rintro e w17 ⟨rfl, hw, hk⟩
   have S16 := S15.step _ hw hk
   clear hw hk ca7
   have hl16 : ([] ++ numsB [m.kind, m.frm, m.to, m.shard, m.epoch, m.move, m.lease, m.num, m.of] ++ stampsB [(m.a, m.t, m.n)] ++ textsB [m.text] ++ numsB [m.req.cl, m.req.rq, m.req.kd] ++ textsB [m.req.ky, m.req.vl] ++ flagL m.req.had ++ textsB [m.req.old] ++ stampsB [(m.req.a, m.req.t, m.req.n)] ++ textsB [m.req.hi] ++ numsB [m.req.lim, m.ans.er] ++ stampsB [(m.ans.a, m.ans.t, m.ans.n)] ++ flagL m.ans.fd ++ textsB [m.ans.vl] ++ numsB [(m.ans.itn : Int)] ++ itsB its ++ textsB [m.ans.nx]).length ≤ 48235545 := by rw [List.length_append]; omega
   clear hl15
   clear S15
   clear hlx hly0
   have ca8 : w17.cell? ⟨ga, 8, none⟩ = some (.bool m.ans.mo) := S16.ba.cell 8
   go_wp2_with fail
   have hlx := flagL_len m.ans.mo
   refine (wflag_any w.heap.size gw (Nat.le_of_lt S16.lt) _ m.ans.mo w17 ?hlen S16.hbw S16.wr).mono ?_
   case hlen => omega
   rintro e w18 ⟨rfl, hw, hk⟩
   have S17 := S16.step0 hw hk
   clear hw hk ca8
   have hl17 : ([] ++ numsB [m.kind, m.frm, m.to, m.shard, m.epoch, m.move, m.lease, m.num, m.of] ++ stampsB [(m.a, m.t, m.n)] ++ textsB [m.text] ++ numsB [m.req.cl, m.req.rq, m.req.kd] ++ textsB [m.req.ky, m.req.vl] ++ flagL m.req.had ++ textsB [m.req.old] ++ stampsB [(m.req.a, m.req.t, m.req.n)] ++ textsB [m.req.hi] ++ numsB [m.req.lim, m.ans.er] ++ stampsB [(m.ans.a, m.ans.t, m.ans.n)] ++ flagL m.ans.fd ++ textsB [m.ans.vl] ++ numsB [(m.ans.itn : Int)] ++ itsB its ++ textsB [m.ans.nx] ++ flagL m.ans.mo).length ≤ 48235546 := by rw [List.length_append]; omega
   clear hl16
   clear S16
   clear hlx
   have cm34 : w18.cell? ⟨w.heap.size, 34, none⟩ = some (.slice m.pA m.pn m.pc) := S17.bm.cell 34
   go_wp2_with fail
   refine (wnums_any w.heap.size gw (Nat.le_of_lt S17.lt) _ [(m.pn : Int)] (some ⟨w18.heap.size, 0, none⟩) 1 (w18.alloc (.cells #[.int .i64 ((m.pn : Int))] 3)) ?hz ?hlen (by simp) (Nat.le_trans S17.hbw (by simp)) (S17.wr.alloc _) (lit_nums [(m.pn : Int)] _ rfl S17.glt)).mono ?_
   case hz => intro z hz; simp only [List.mem_cons, List.not_mem_nil, or_false] at hz; omega
   case hlen => simp only [List.length_cons, List.length_nil]; omega
   rintro e w19 ⟨rfl, hw, hk⟩
   have S18 := S17.step _ hw hk
   clear hw hk cm34
   have hlx := numsB_len [(m.pn : Int)]
   simp only [List.length_cons, List.length_nil] at hlx
   have hl18 : ([] ++ numsB [m.kind, m.frm, m.to, m.shard, m.epoch, m.move, m.lease, m.num, m.of] ++ stampsB [(m.a, m.t, m.n)] ++ textsB [m.text] ++ numsB [m.req.cl, m.req.rq, m.req.kd] ++ textsB [m.req.ky, m.req.vl] ++ flagL m.req.had ++ textsB [m.req.old] ++ stampsB [(m.req.a, m.req.t, m.req.n)] ++ textsB [m.req.hi] ++ numsB [m.req.lim, m.ans.er] ++ stampsB [(m.ans.a, m.ans.t, m.ans.n)] ++ flagL m.ans.fd ++ textsB [m.ans.vl] ++ numsB [(m.ans.itn : Int)] ++ itsB its ++ textsB [m.ans.nx] ++ flagL m.ans.mo ++ numsB [(m.pn : Int)]).length ≤ 48235555 := by rw [List.length_append]; omega
   clear hlx
   clear hl17
   clear S17
   have cm34 : w19.cell? ⟨w.heap.size, 34, none⟩ = some (.slice m.pA m.pn m.pc) := S18.bm.cell 34
   go_wp2_with fail
   clear cm34
   go_loopw [126] (fun i wr => ItRl w gw gq ga m m.pn ([] ++ numsB [m.kind, m.frm, m.to, m.shard, m.epoch, m.move, m.lease, m.num, m.of] ++ stampsB [(m.a, m.t, m.n)] ++ textsB [m.text] ++ numsB [m.req.cl, m.req.rq, m.req.kd] ++ textsB [m.req.ky, m.req.vl] ++ flagL m.req.had ++ textsB [m.req.old] ++ stampsB [(m.req.a, m.req.t, m.req.n)] ++ textsB [m.req.hi] ++ numsB [m.req.lim, m.ans.er] ++ stampsB [(m.ans.a, m.ans.t, m.ans.n)] ++ flagL m.ans.fd ++ textsB [m.ans.vl] ++ numsB [(m.ans.itn : Int)] ++ itsB its ++ textsB [m.ans.nx] ++ flagL m.ans.mo ++ numsB [(m.pn : Int)]) (fun k => plsB (ps.take k)) i wr) (fun i _ => m.pn - (intOf i).toNat)
   case atStart => exact ⟨0, rfl, Nat.zero_le _, by simpa [plsB] using S18⟩
   case round =>
    clear S18
    obtain ⟨k, rfl, hk, hS⟩ := hrel
    simp only at hS
    have i0 : (0 : Int) ≤ (k : Int) := by omega
    by_cases hlt : k < m.pn
    case pos =>
     have i1 : (k : Int) < (m.pn : Int) := by omega
     obtain ⟨b, off, hA, hbB, c0, c1, c2, c3, c4⟩ := plc_cells (hM.keep hS.below).rp k (by omega)
     have hsn := plsB_snoc ps k (by omega)
     have hzx := hZ.ps ps[k] (List.getElem_mem (by omega))
     have hox := HP.out ps[k] (List.getElem_mem (by omega))
     have hnl2 := plsB_len (ps.take k) (fun x hx => hZ.ps x (List.mem_of_mem_take hx))
     rw [List.length_take] at hnl2
     obtain ⟨x, hx⟩ : ∃ x, ps[k] = x := ⟨_, rfl⟩
     rw [hx] at c0 c1 c2 c3 c4 hsn hzx hox
     have HSN := Lib.hid hsn
     have HOX := Lib.hid hox
     clear hx hsn hox
     simp only [hA]
     go_wp2_with fail
     have hlx := texts2 x.lo x.hi
     have SA := hS.alloc (.cells (plA x) 81)
     have BA : Blk (wr.alloc (.cells (plA x) 81)) wr.heap.size 81 (plA x) := Blk.new wr _ _
     refine (wtexts_any w.heap.size gw (Nat.le_of_lt SA.lt) _ [x.lo, x.hi] (some ⟨wr.heap.size + 1, 0, none⟩) 2 ((wr.alloc (.cells (plA x) 81)).alloc (.cells #[.string ⟨x.lo.toArray⟩, .string ⟨x.hi.toArray⟩] 9)) ?hlen (by simp) (Nat.le_trans SA.hbw (by simp)) (SA.wr.alloc _) (lit_texts [x.lo, x.hi] _ (by simp) SA.glt)).mono ?_
     case hlen => rw [List.length_append]; omega
     rintro e w9 ⟨rfl, hw, hkw⟩
     have S9 := SA.step _ hw hkw
     have B9 := hkw.blk (BA.alloc _) (by have := hS.glt; omega) (by decide)
     clear hw hkw SA c0 c1 c2 c3 c4 BA
     have z2 : w9.cell? ⟨wr.heap.size, 2, none⟩ = some (.int .i64 x.sh) := B9.cell 2
     have z3 : w9.cell? ⟨wr.heap.size, 3, none⟩ = some (.int .i64 x.ce) := B9.cell 3
     have z4 : w9.cell? ⟨wr.heap.size, 4, none⟩ = some (.int .i64 x.ep) := B9.cell 4
     go_wp2_with fail
     refine (wnums_any w.heap.size gw (Nat.le_of_lt S9.lt) _ [x.sh, x.ce, x.ep] (some ⟨w9.heap.size, 0, none⟩) 3 (w9.alloc (.cells #[.int .i64 x.sh, .int .i64 x.ce, .int .i64 x.ep] 3)) ?hz ?hlen (by simp) (Nat.le_trans S9.hbw (by simp)) (S9.wr.alloc _) (lit_nums [x.sh, x.ce, x.ep] _ rfl S9.glt)).mono ?_
     case hz => intro z hz; simp only [List.mem_cons, List.not_mem_nil, or_false] at hz; obtain ⟨i1, i2, i3⟩ := HOX.out; rcases hz with rfl | rfl | rfl <;> exact iok_le (by assumption)
     case hlen => rw [List.length_append, List.length_append]; simp only [List.length_cons, List.length_nil]; omega
     rintro e w8 ⟨rfl, hw, hkw⟩
     have S8 := S9.step _ hw hkw
     clear hw hkw S9 z2 z3 z4 B9 hlx hS hnl2 hzx HOX
     go_wp2_with fail
     go_roundw
     case rel =>
      refine ⟨k + 1, by go_num, by omega, ?_⟩
      simp only
      rw [HSN.out, ← List.append_assoc, ← List.append_assoc]
      exact S8
     case measure => simp [intOf]; omega
    case neg =>
     have hke : (k : Int) = (m.pn : Int) := by omega
     have htk : ps.take k = ps := List.take_of_length_le (by omega)
     rw [htk] at hS
     have S19 := hS
     clear hS htk i0 hk hlt
     have hlx := plsB_len ps hZ.ps
     have hl19 : ([] ++ numsB [m.kind, m.frm, m.to, m.shard, m.epoch, m.move, m.lease, m.num, m.of] ++ stampsB [(m.a, m.t, m.n)] ++ textsB [m.text] ++ numsB [m.req.cl, m.req.rq, m.req.kd] ++ textsB [m.req.ky, m.req.vl] ++ flagL m.req.had ++ textsB [m.req.old] ++ stampsB [(m.req.a, m.req.t, m.req.n)] ++ textsB [m.req.hi] ++ numsB [m.req.lim, m.ans.er] ++ stampsB [(m.ans.a, m.ans.t, m.ans.n)] ++ flagL m.ans.fd ++ textsB [m.ans.vl] ++ numsB [(m.ans.itn : Int)] ++ itsB its ++ textsB [m.ans.nx] ++ flagL m.ans.mo ++ numsB [(m.pn : Int)] ++ plsB ps).length ≤ 81790755 := by rw [List.length_append]; omega
     clear hlx hl18
     have cm35 : wr.cell? ⟨w.heap.size, 35, none⟩ = some (.slice m.mA m.mn m.mc) := S19.bm.cell 35
     go_wp2_with fail
     refine (wnums_any w.heap.size gw (Nat.le_of_lt S19.lt) _ [(m.mn : Int)] (some ⟨wr.heap.size, 0, none⟩) 1 (wr.alloc (.cells #[.int .i64 ((m.mn : Int))] 3)) ?hz ?hlen (by simp) (Nat.le_trans S19.hbw (by simp)) (S19.wr.alloc _) (lit_nums [(m.mn : Int)] _ rfl S19.glt)).mono ?_
     case hz => intro z hz; simp only [List.mem_cons, List.not_mem_nil, or_false] at hz; omega
     case hlen => simp only [List.length_cons, List.length_nil]; omega
     rintro e w21 ⟨rfl, hw, hk⟩
     have S20 := S19.step _ hw hk
     clear hw hk cm35
     have hlx := numsB_len [(m.mn : Int)]
     simp only [List.length_cons, List.length_nil] at hlx
     have hl20 : ([] ++ numsB [m.kind, m.frm, m.to, m.shard, m.epoch, m.move, m.lease, m.num, m.of] ++ stampsB [(m.a, m.t, m.n)] ++ textsB [m.text] ++ numsB [m.req.cl, m.req.rq, m.req.kd] ++ textsB [m.req.ky, m.req.vl] ++ flagL m.req.had ++ textsB [m.req.old] ++ stampsB [(m.req.a, m.req.t, m.req.n)] ++ textsB [m.req.hi] ++ numsB [m.req.lim, m.ans.er] ++ stampsB [(m.ans.a, m.ans.t, m.ans.n)] ++ flagL m.ans.fd ++ textsB [m.ans.vl] ++ numsB [(m.ans.itn : Int)] ++ itsB its ++ textsB [m.ans.nx] ++ flagL m.ans.mo ++ numsB [(m.pn : Int)] ++ plsB ps ++ numsB [(m.mn : Int)]).length ≤ 81790764 := by rw [List.length_append]; omega
     clear hlx
     clear hl19
     clear S19
     have cm35 : w21.cell? ⟨w.heap.size, 35, none⟩ = some (.slice m.mA m.mn m.mc) := S20.bm.cell 35
     go_wp2_with fail
     have hcon := wnums_any w.heap.size gw (Nat.le_of_lt S20.lt) _ ls m.mA m.mc w21 (fun z hz => iok_le (HL.out z hz)) (by omega) (by omega) S20.hbw S20.wr (fun w' hk => (hM.keep (S20.below.trans hk.below)).rl)
     rw [hnl] at hcon
     refine hcon.mono ?_
     clear hcon cm35
     rintro e wz ⟨rfl, hw, hk⟩
     have SZ : PQ w gw gq ga m wz (msgB m its ps ls) := S20.step0 hw hk
     clear hw hk
     obtain ⟨v, hB, hown⟩ := SZ.wr
     obtain ⟨gl, v0, v1⟩ := hB.c1
     obtain ⟨Az, cz, rfl⟩ := own_slice hown
     have kc := run_conv_any (P := Tryz.prog) wz Tryz.underlying88 Tryz.underlying5 Tryz.underlying9 hown
     clear hown hB
     go_wp2
     go_ret2
     exact ⟨by rw [HV.out] <;> rfl, SZ.below⟩
end Go.Proofs.YtkoligiilieboaaGreatDoor
