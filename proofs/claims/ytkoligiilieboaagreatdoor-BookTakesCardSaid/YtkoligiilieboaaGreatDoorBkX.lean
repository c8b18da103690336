/- book.TakeMsg: the message that bytes are. -/
import Derived.Test.YtkoligiilieboaaGreatDoorMgC
import Derived.Deep.CutRange
import Derived.Deep.RegionLaw
import Derived.Deep.AppendLies
set_option linter.unusedSimpArgs false
set_option linter.unusedVariables false
namespace Go.Proofs.YtkoligiilieboaaGreatDoor
open Go.RowKit
attribute [local go_sem] ByteArray.mk_append_mk ByteArray.extract_mk
attribute [local go_sem ↓] Go.wp_at_zero Go.wp_at_succ
def TakeMsgPost (t : List UInt8) (w : World) (e : Ending) (w' : World) : Prop :=
 (∃ m its ps ls, e = .returned (.tuple #[msV m, .int .i64 0]) ∧ fMsg.rd ⟨false, t⟩ = (tupM m its ps ls, ⟨false, []⟩) ∧ rightM m ps ls = true ∧ MsgIn m its ps ls w' ∧ Below w.heap.size w w') ∨
 (e = .returned (.tuple #[.agg zmA, .int .i64 3]) ∧ ∃ m its ps ls r, fMsg.rd ⟨false, t⟩ = (tupM m its ps ls, r) ∧ its.length = m.ans.itn ∧ ps.length = m.pn ∧ ls.length = m.mn ∧ (r.bad = true ∨ r.s ≠ [] ∨ rightM m ps ls = false) ∧ Below w.heap.size w w')
set_option maxHeartbeats 64000000 in
set_option maxRecDepth 100000 in
theorem takemsg_any (t : List UInt8) (N : Nat) (hN : N ≤ 4194304) (hN2 : t.length ≤ N) (w : World) :
  Calls Tryz.prog 10 #[.string ⟨t.toArray⟩] w (TakeMsgPost t w) := by
 have hho : zmA.toList.all (·.oneCell') = true := (by with_unfolding_all rfl)
 go_enter Tryz.func10, Tryz.ntmps10
 go_upto_region 5 with (fail)
 have S0 : TM w w.heap.size (w.heap.size + 1) (w.heap.size + 1 + 1) (w.heap.size + 1 + 1 + 1) (w.heap.size + 1 + 1 + 1 + 1) #[.int .i64 0, .int .i64 0, .int .i64 0, .int .i64 0, .int .i64 0, .int .i64 0, .int .i64 0, .int .i64 0, .int .i64 0, .int .i64 0, .int .i64 0, .int .i64 0, .string ⟨#[]⟩, .int .i64 0, .int .i64 0, .int .i64 0, .string ⟨#[]⟩, .string ⟨#[]⟩, .bool false, .string ⟨#[]⟩, .int .i64 0, .int .i64 0, .int .i64 0, .string ⟨#[]⟩, .int .i64 0, .int .i64 0, .int .i64 0, .int .i64 0, .int .i64 0, .bool false, .string ⟨#[]⟩, .slice none 0 0, .string ⟨#[]⟩, .bool false, .slice none 0 0, .slice none 0 0] #[.int .i64 0, .int .i64 0, .int .i64 0, .string ⟨#[]⟩, .string ⟨#[]⟩, .bool false, .string ⟨#[]⟩, .int .i64 0, .int .i64 0, .int .i64 0, .string ⟨#[]⟩, .int .i64 0] #[.int .i64 0, .int .i64 0, .int .i64 0, .int .i64 0, .bool false, .string ⟨#[]⟩, .slice none 0 0, .string ⟨#[]⟩, .bool false] ⟨false, t⟩ (((((w.alloc (.cells zmA 51)).alloc (.cells (rsA ⟨false, t⟩) 70)).alloc (.cells zmA 51)).alloc (.cells zqA 44)).alloc (.cells zaA 47)) := by
  refine ⟨bal (bal (bal (bal (bal (b0 w) _) _) _) _) _, Nat.le_refl _, by omega, by omega, by omega, by omega, ?_, ?_, ?_, ?_, ?_⟩
  · exact ((((Blk.new w _ _).alloc _).alloc _).alloc _).alloc _
  · exact (((Blk.new' _ _ _ _ (by simp)).alloc _).alloc _).alloc _
  · exact ((Blk.new' _ _ _ _ (by simp)).alloc _).alloc _
  · exact (Blk.new' _ _ _ _ (by simp)).alloc _
  · exact Blk.new' _ _ _ _ (by simp)
 generalize (((((w.alloc (.cells zmA 51)).alloc (.cells (rsA ⟨false, t⟩) 70)).alloc (.cells zmA 51)).alloc (.cells zqA 44)).alloc (.cells zaA 47)) = W0 at *
 generalize hg4 : w.heap.size + 1 + 1 + 1 + 1 = ga at *
 generalize hg3 : w.heap.size + 1 + 1 + 1 = gq at *
 generalize hg2 : w.heap.size + 1 + 1 = gm at *
 generalize hg1 : w.heap.size + 1 = gr at *
 generalize hg0 : w.heap.size = gz at *
 obtain ⟨n0, r1, e1⟩ : ∃ n0 r, rNum ⟨false, t⟩ = (n0, r) := ⟨_, _, rfl⟩
 have hl1 := rNum_sl e1 hN2
 have E1 := Lib.hid e1
 clear e1
 go_wp2_with fail
 refine (rnum_c gr ⟨false, t⟩ n0 r1 _ E1.out S0.br (Nat.le_trans hN2 (by omega))).mono ?_
 rintro e w1 ⟨rfl, hB, hk⟩
 have S1 : TM w gz gr gm gq ga #[.int .i64 0, .int .i64 0, .int .i64 0, .int .i64 0, .int .i64 0, .int .i64 0, .int .i64 0, .int .i64 0, .int .i64 0, .int .i64 0, .int .i64 0, .int .i64 0, .string ⟨#[]⟩, .int .i64 0, .int .i64 0, .int .i64 0, .string ⟨#[]⟩, .string ⟨#[]⟩, .bool false, .string ⟨#[]⟩, .int .i64 0, .int .i64 0, .int .i64 0, .string ⟨#[]⟩, .int .i64 0, .int .i64 0, .int .i64 0, .int .i64 0, .int .i64 0, .bool false, .string ⟨#[]⟩, .slice none 0 0, .string ⟨#[]⟩, .bool false, .slice none 0 0, .slice none 0 0] #[.int .i64 0, .int .i64 0, .int .i64 0, .string ⟨#[]⟩, .string ⟨#[]⟩, .bool false, .string ⟨#[]⟩, .int .i64 0, .int .i64 0, .int .i64 0, .string ⟨#[]⟩, .int .i64 0] #[.int .i64 0, .int .i64 0, .int .i64 0, .int .i64 0, .bool false, .string ⟨#[]⟩, .slice none 0 0, .string ⟨#[]⟩, .bool false] r1 w1 := S0.call hB hk
 clear hB hk S0
 obtain ⟨n1, r2, e2⟩ : ∃ n1 r, rNum r1 = (n1, r) := ⟨_, _, rfl⟩
 have hl2 := rNum_sl e2 hl1
 have E2 := Lib.hid e2
 clear e2
 go_wp2_with fail
 refine (rnum_c gr r1 n1 r2 _ E2.out S1.br (Nat.le_trans hl1 (by omega))).mono ?_
 rintro e w2 ⟨rfl, hB, hk⟩
 have S2 : TM w gz gr gm gq ga #[.int .i64 0, .int .i64 0, .int .i64 0, .int .i64 0, .int .i64 0, .int .i64 0, .int .i64 0, .int .i64 0, .int .i64 0, .int .i64 0, .int .i64 0, .int .i64 0, .string ⟨#[]⟩, .int .i64 0, .int .i64 0, .int .i64 0, .string ⟨#[]⟩, .string ⟨#[]⟩, .bool false, .string ⟨#[]⟩, .int .i64 0, .int .i64 0, .int .i64 0, .string ⟨#[]⟩, .int .i64 0, .int .i64 0, .int .i64 0, .int .i64 0, .int .i64 0, .bool false, .string ⟨#[]⟩, .slice none 0 0, .string ⟨#[]⟩, .bool false, .slice none 0 0, .slice none 0 0] #[.int .i64 0, .int .i64 0, .int .i64 0, .string ⟨#[]⟩, .string ⟨#[]⟩, .bool false, .string ⟨#[]⟩, .int .i64 0, .int .i64 0, .int .i64 0, .string ⟨#[]⟩, .int .i64 0] #[.int .i64 0, .int .i64 0, .int .i64 0, .int .i64 0, .bool false, .string ⟨#[]⟩, .slice none 0 0, .string ⟨#[]⟩, .bool false] r2 w2 := S1.call hB hk
 clear hB hk S1
 clear hl1
 obtain ⟨n2, r3, e3⟩ : ∃ n2 r, rNum r2 = (n2, r) := ⟨_, _, rfl⟩
 have hl3 := rNum_sl e3 hl2
 have E3 := Lib.hid e3
 clear e3
 go_wp2_with fail
 refine (rnum_c gr r2 n2 r3 _ E3.out S2.br (Nat.le_trans hl2 (by omega))).mono ?_
 rintro e w3 ⟨rfl, hB, hk⟩
 have S3 : TM w gz gr gm gq ga #[.int .i64 0, .int .i64 0, .int .i64 0, .int .i64 0, .int .i64 0, .int .i64 0, .int .i64 0, .int .i64 0, .int .i64 0, .int .i64 0, .int .i64 0, .int .i64 0, .string ⟨#[]⟩, .int .i64 0, .int .i64 0, .int .i64 0, .string ⟨#[]⟩, .string ⟨#[]⟩, .bool false, .string ⟨#[]⟩, .int .i64 0, .int .i64 0, .int .i64 0, .string ⟨#[]⟩, .int .i64 0, .int .i64 0, .int .i64 0, .int .i64 0, .int .i64 0, .bool false, .string ⟨#[]⟩, .slice none 0 0, .string ⟨#[]⟩, .bool false, .slice none 0 0, .slice none 0 0] #[.int .i64 0, .int .i64 0, .int .i64 0, .string ⟨#[]⟩, .string ⟨#[]⟩, .bool false, .string ⟨#[]⟩, .int .i64 0, .int .i64 0, .int .i64 0, .string ⟨#[]⟩, .int .i64 0] #[.int .i64 0, .int .i64 0, .int .i64 0, .int .i64 0, .bool false, .string ⟨#[]⟩, .slice none 0 0, .string ⟨#[]⟩, .bool false] r3 w3 := S2.call hB hk
 clear hB hk S2
 clear hl2
 obtain ⟨n3, r4, e4⟩ : ∃ n3 r, rNum r3 = (n3, r) := ⟨_, _, rfl⟩
 have hl4 := rNum_sl e4 hl3
 have E4 := Lib.hid e4
 clear e4
 go_wp2_with fail
 refine (rnum_c gr r3 n3 r4 _ E4.out S3.br (Nat.le_trans hl3 (by omega))).mono ?_
 rintro e w4 ⟨rfl, hB, hk⟩
 have S4 : TM w gz gr gm gq ga #[.int .i64 0, .int .i64 0, .int .i64 0, .int .i64 0, .int .i64 0, .int .i64 0, .int .i64 0, .int .i64 0, .int .i64 0, .int .i64 0, .int .i64 0, .int .i64 0, .string ⟨#[]⟩, .int .i64 0, .int .i64 0, .int .i64 0, .string ⟨#[]⟩, .string ⟨#[]⟩, .bool false, .string ⟨#[]⟩, .int .i64 0, .int .i64 0, .int .i64 0, .string ⟨#[]⟩, .int .i64 0, .int .i64 0, .int .i64 0, .int .i64 0, .int .i64 0, .bool false, .string ⟨#[]⟩, .slice none 0 0, .string ⟨#[]⟩, .bool false, .slice none 0 0, .slice none 0 0] #[.int .i64 0, .int .i64 0, .int .i64 0, .string ⟨#[]⟩, .string ⟨#[]⟩, .bool false, .string ⟨#[]⟩, .int .i64 0, .int .i64 0, .int .i64 0, .string ⟨#[]⟩, .int .i64 0] #[.int .i64 0, .int .i64 0, .int .i64 0, .int .i64 0, .bool false, .string ⟨#[]⟩, .slice none 0 0, .string ⟨#[]⟩, .bool false] r4 w4 := S3.call hB hk
 clear hB hk S3
 clear hl3
 obtain ⟨n4, r5, e5⟩ : ∃ n4 r, rNum r4 = (n4, r) := ⟨_, _, rfl⟩
 have hl5 := rNum_sl e5 hl4
 have E5 := Lib.hid e5
 clear e5
 go_wp2_with fail
 refine (rnum_c gr r4 n4 r5 _ E5.out S4.br (Nat.le_trans hl4 (by omega))).mono ?_
 rintro e w5 ⟨rfl, hB, hk⟩
 have S5 : TM w gz gr gm gq ga #[.int .i64 0, .int .i64 0, .int .i64 0, .int .i64 0, .int .i64 0, .int .i64 0, .int .i64 0, .int .i64 0, .int .i64 0, .int .i64 0, .int .i64 0, .int .i64 0, .string ⟨#[]⟩, .int .i64 0, .int .i64 0, .int .i64 0, .string ⟨#[]⟩, .string ⟨#[]⟩, .bool false, .string ⟨#[]⟩, .int .i64 0, .int .i64 0, .int .i64 0, .string ⟨#[]⟩, .int .i64 0, .int .i64 0, .int .i64 0, .int .i64 0, .int .i64 0, .bool false, .string ⟨#[]⟩, .slice none 0 0, .string ⟨#[]⟩, .bool false, .slice none 0 0, .slice none 0 0] #[.int .i64 0, .int .i64 0, .int .i64 0, .string ⟨#[]⟩, .string ⟨#[]⟩, .bool false, .string ⟨#[]⟩, .int .i64 0, .int .i64 0, .int .i64 0, .string ⟨#[]⟩, .int .i64 0] #[.int .i64 0, .int .i64 0, .int .i64 0, .int .i64 0, .bool false, .string ⟨#[]⟩, .slice none 0 0, .string ⟨#[]⟩, .bool false] r5 w5 := S4.call hB hk
 clear hB hk S4
 clear hl4
 have cm0 : w5.cell? ⟨gm, 0, none⟩ = some (.int .i64 0) := S5.bm.cell 0
 have fm0 := S5.bm.frozen 0
 have cm1 : w5.cell? ⟨gm, 1, none⟩ = some (.int .i64 0) := S5.bm.cell 1
 have fm1 := S5.bm.frozen 1
 have cm2 : w5.cell? ⟨gm, 2, none⟩ = some (.int .i64 0) := S5.bm.cell 2
 have fm2 := S5.bm.frozen 2
 have cm3 : w5.cell? ⟨gm, 3, none⟩ = some (.int .i64 0) := S5.bm.cell 3
 have fm3 := S5.bm.frozen 3
 have cm4 : w5.cell? ⟨gm, 4, none⟩ = some (.int .i64 0) := S5.bm.cell 4
 have fm4 := S5.bm.frozen 4
 obtain ⟨n5, r6, e6⟩ : ∃ n5 r, rNum r5 = (n5, r) := ⟨_, _, rfl⟩
 have hl6 := rNum_sl e6 hl5
 have E6 := Lib.hid e6
 clear e6
 go_wp2_with fail
 clear cm0 fm0 cm1 fm1 cm2 fm2 cm3 fm3 cm4 fm4
 have T6 : TM w gz gr gm gq ga #[.int .i64 n0, .int .i64 n1, .int .i64 n2, .int .i64 n3, .int .i64 n4, .int .i64 0, .int .i64 0, .int .i64 0, .int .i64 0, .int .i64 0, .int .i64 0, .int .i64 0, .string ⟨#[]⟩, .int .i64 0, .int .i64 0, .int .i64 0, .string ⟨#[]⟩, .string ⟨#[]⟩, .bool false, .string ⟨#[]⟩, .int .i64 0, .int .i64 0, .int .i64 0, .string ⟨#[]⟩, .int .i64 0, .int .i64 0, .int .i64 0, .int .i64 0, .int .i64 0, .bool false, .string ⟨#[]⟩, .slice none 0 0, .string ⟨#[]⟩, .bool false, .slice none 0 0, .slice none 0 0] #[.int .i64 0, .int .i64 0, .int .i64 0, .string ⟨#[]⟩, .string ⟨#[]⟩, .bool false, .string ⟨#[]⟩, .int .i64 0, .int .i64 0, .int .i64 0, .string ⟨#[]⟩, .int .i64 0] #[.int .i64 0, .int .i64 0, .int .i64 0, .int .i64 0, .bool false, .string ⟨#[]⟩, .slice none 0 0, .string ⟨#[]⟩, .bool false] r5 (((((w5.setCell ⟨gm, 0, none⟩ (.int .i64 n0)).setCell ⟨gm, 1, none⟩ (.int .i64 n1)).setCell ⟨gm, 2, none⟩ (.int .i64 n2)).setCell ⟨gm, 3, none⟩ (.int .i64 n3)).setCell ⟨gm, 4, none⟩ (.int .i64 n4)) := (((((S5).setm 0 (.int .i64 n0)).setm 1 (.int .i64 n1)).setm 2 (.int .i64 n2)).setm 3 (.int .i64 n3)).setm 4 (.int .i64 n4)
 clear S5
 refine (rnum_c gr r5 n5 r6 _ E6.out T6.br (Nat.le_trans hl5 (by omega))).mono ?_
 rintro e w6 ⟨rfl, hB, hk⟩
 have S6 : TM w gz gr gm gq ga #[.int .i64 n0, .int .i64 n1, .int .i64 n2, .int .i64 n3, .int .i64 n4, .int .i64 0, .int .i64 0, .int .i64 0, .int .i64 0, .int .i64 0, .int .i64 0, .int .i64 0, .string ⟨#[]⟩, .int .i64 0, .int .i64 0, .int .i64 0, .string ⟨#[]⟩, .string ⟨#[]⟩, .bool false, .string ⟨#[]⟩, .int .i64 0, .int .i64 0, .int .i64 0, .string ⟨#[]⟩, .int .i64 0, .int .i64 0, .int .i64 0, .int .i64 0, .int .i64 0, .bool false, .string ⟨#[]⟩, .slice none 0 0, .string ⟨#[]⟩, .bool false, .slice none 0 0, .slice none 0 0] #[.int .i64 0, .int .i64 0, .int .i64 0, .string ⟨#[]⟩, .string ⟨#[]⟩, .bool false, .string ⟨#[]⟩, .int .i64 0, .int .i64 0, .int .i64 0, .string ⟨#[]⟩, .int .i64 0] #[.int .i64 0, .int .i64 0, .int .i64 0, .int .i64 0, .bool false, .string ⟨#[]⟩, .slice none 0 0, .string ⟨#[]⟩, .bool false] r6 w6 := T6.call hB hk
 clear hB hk T6
 clear hl5
 obtain ⟨n6, r7, e7⟩ : ∃ n6 r, rNum r6 = (n6, r) := ⟨_, _, rfl⟩
 have hl7 := rNum_sl e7 hl6
 have E7 := Lib.hid e7
 clear e7
 go_wp2_with fail
 refine (rnum_c gr r6 n6 r7 _ E7.out S6.br (Nat.le_trans hl6 (by omega))).mono ?_
 rintro e w7 ⟨rfl, hB, hk⟩
 have S7 : TM w gz gr gm gq ga #[.int .i64 n0, .int .i64 n1, .int .i64 n2, .int .i64 n3, .int .i64 n4, .int .i64 0, .int .i64 0, .int .i64 0, .int .i64 0, .int .i64 0, .int .i64 0, .int .i64 0, .string ⟨#[]⟩, .int .i64 0, .int .i64 0, .int .i64 0, .string ⟨#[]⟩, .string ⟨#[]⟩, .bool false, .string ⟨#[]⟩, .int .i64 0, .int .i64 0, .int .i64 0, .string ⟨#[]⟩, .int .i64 0, .int .i64 0, .int .i64 0, .int .i64 0, .int .i64 0, .bool false, .string ⟨#[]⟩, .slice none 0 0, .string ⟨#[]⟩, .bool false, .slice none 0 0, .slice none 0 0] #[.int .i64 0, .int .i64 0, .int .i64 0, .string ⟨#[]⟩, .string ⟨#[]⟩, .bool false, .string ⟨#[]⟩, .int .i64 0, .int .i64 0, .int .i64 0, .string ⟨#[]⟩, .int .i64 0] #[.int .i64 0, .int .i64 0, .int .i64 0, .int .i64 0, .bool false, .string ⟨#[]⟩, .slice none 0 0, .string ⟨#[]⟩, .bool false] r7 w7 := S6.call hB hk
 clear hB hk S6
 clear hl6
 obtain ⟨n7, r8, e8⟩ : ∃ n7 r, rNum r7 = (n7, r) := ⟨_, _, rfl⟩
 have hl8 := rNum_sl e8 hl7
 have E8 := Lib.hid e8
 clear e8
 go_wp2_with fail
 refine (rnum_c gr r7 n7 r8 _ E8.out S7.br (Nat.le_trans hl7 (by omega))).mono ?_
 rintro e w8 ⟨rfl, hB, hk⟩
 have S8 : TM w gz gr gm gq ga #[.int .i64 n0, .int .i64 n1, .int .i64 n2, .int .i64 n3, .int .i64 n4, .int .i64 0, .int .i64 0, .int .i64 0, .int .i64 0, .int .i64 0, .int .i64 0, .int .i64 0, .string ⟨#[]⟩, .int .i64 0, .int .i64 0, .int .i64 0, .string ⟨#[]⟩, .string ⟨#[]⟩, .bool false, .string ⟨#[]⟩, .int .i64 0, .int .i64 0, .int .i64 0, .string ⟨#[]⟩, .int .i64 0, .int .i64 0, .int .i64 0, .int .i64 0, .int .i64 0, .bool false, .string ⟨#[]⟩, .slice none 0 0, .string ⟨#[]⟩, .bool false, .slice none 0 0, .slice none 0 0] #[.int .i64 0, .int .i64 0, .int .i64 0, .string ⟨#[]⟩, .string ⟨#[]⟩, .bool false, .string ⟨#[]⟩, .int .i64 0, .int .i64 0, .int .i64 0, .string ⟨#[]⟩, .int .i64 0] #[.int .i64 0, .int .i64 0, .int .i64 0, .int .i64 0, .bool false, .string ⟨#[]⟩, .slice none 0 0, .string ⟨#[]⟩, .bool false] r8 w8 := S7.call hB hk
 clear hB hk S7
 clear hl7
 obtain ⟨n8, r9, e9⟩ : ∃ n8 r, rNum r8 = (n8, r) := ⟨_, _, rfl⟩
 have hl9 := rNum_sl e9 hl8
 have E9 := Lib.hid e9
 clear e9
 go_wp2_with fail
 refine (rnum_c gr r8 n8 r9 _ E9.out S8.br (Nat.le_trans hl8 (by omega))).mono ?_
 rintro e w9 ⟨rfl, hB, hk⟩
 have S9 : TM w gz gr gm gq ga #[.int .i64 n0, .int .i64 n1, .int .i64 n2, .int .i64 n3, .int .i64 n4, .int .i64 0, .int .i64 0, .int .i64 0, .int .i64 0, .int .i64 0, .int .i64 0, .int .i64 0, .string ⟨#[]⟩, .int .i64 0, .int .i64 0, .int .i64 0, .string ⟨#[]⟩, .string ⟨#[]⟩, .bool false, .string ⟨#[]⟩, .int .i64 0, .int .i64 0, .int .i64 0, .string ⟨#[]⟩, .int .i64 0, .int .i64 0, .int .i64 0, .int .i64 0, .int .i64 0, .bool false, .string ⟨#[]⟩, .slice none 0 0, .string ⟨#[]⟩, .bool false, .slice none 0 0, .slice none 0 0] #[.int .i64 0, .int .i64 0, .int .i64 0, .string ⟨#[]⟩, .string ⟨#[]⟩, .bool false, .string ⟨#[]⟩, .int .i64 0, .int .i64 0, .int .i64 0, .string ⟨#[]⟩, .int .i64 0] #[.int .i64 0, .int .i64 0, .int .i64 0, .int .i64 0, .bool false, .string ⟨#[]⟩, .slice none 0 0, .string ⟨#[]⟩, .bool false] r9 w9 := S8.call hB hk
 clear hB hk S8
 clear hl8
 have cm5 : w9.cell? ⟨gm, 5, none⟩ = some (.int .i64 0) := S9.bm.cell 5
 have fm5 := S9.bm.frozen 5
 have cm6 : w9.cell? ⟨gm, 6, none⟩ = some (.int .i64 0) := S9.bm.cell 6
 have fm6 := S9.bm.frozen 6
 have cm7 : w9.cell? ⟨gm, 7, none⟩ = some (.int .i64 0) := S9.bm.cell 7
 have fm7 := S9.bm.frozen 7
 have cm8 : w9.cell? ⟨gm, 8, none⟩ = some (.int .i64 0) := S9.bm.cell 8
 have fm8 := S9.bm.frozen 8
 obtain ⟨s0a, s0t, s0n, r10, e10⟩ : ∃ s0a s0t s0n r, rStamp r9 = ((s0a, s0t, s0n), r) := ⟨_, _, _, _, rfl⟩
 have hl10 := rStamp_sl e10 hl9
 have E10 := Lib.hid e10
 clear e10
 go_wp2_with fail
 clear cm5 fm5 cm6 fm6 cm7 fm7 cm8 fm8
 have T10 : TM w gz gr gm gq ga #[.int .i64 n0, .int .i64 n1, .int .i64 n2, .int .i64 n3, .int .i64 n4, .int .i64 n5, .int .i64 n6, .int .i64 n7, .int .i64 n8, .int .i64 0, .int .i64 0, .int .i64 0, .string ⟨#[]⟩, .int .i64 0, .int .i64 0, .int .i64 0, .string ⟨#[]⟩, .string ⟨#[]⟩, .bool false, .string ⟨#[]⟩, .int .i64 0, .int .i64 0, .int .i64 0, .string ⟨#[]⟩, .int .i64 0, .int .i64 0, .int .i64 0, .int .i64 0, .int .i64 0, .bool false, .string ⟨#[]⟩, .slice none 0 0, .string ⟨#[]⟩, .bool false, .slice none 0 0, .slice none 0 0] #[.int .i64 0, .int .i64 0, .int .i64 0, .string ⟨#[]⟩, .string ⟨#[]⟩, .bool false, .string ⟨#[]⟩, .int .i64 0, .int .i64 0, .int .i64 0, .string ⟨#[]⟩, .int .i64 0] #[.int .i64 0, .int .i64 0, .int .i64 0, .int .i64 0, .bool false, .string ⟨#[]⟩, .slice none 0 0, .string ⟨#[]⟩, .bool false] r9 ((((w9.setCell ⟨gm, 5, none⟩ (.int .i64 n5)).setCell ⟨gm, 6, none⟩ (.int .i64 n6)).setCell ⟨gm, 7, none⟩ (.int .i64 n7)).setCell ⟨gm, 8, none⟩ (.int .i64 n8)) := ((((S9).setm 5 (.int .i64 n5)).setm 6 (.int .i64 n6)).setm 7 (.int .i64 n7)).setm 8 (.int .i64 n8)
 clear S9
 refine (rstamp_c gr r9 s0a s0t s0n r10 _ E10.out T10.br (Nat.le_trans hl9 (by omega))).mono ?_
 rintro e w10 ⟨rfl, hB, hk⟩
 have S10 : TM w gz gr gm gq ga #[.int .i64 n0, .int .i64 n1, .int .i64 n2, .int .i64 n3, .int .i64 n4, .int .i64 n5, .int .i64 n6, .int .i64 n7, .int .i64 n8, .int .i64 0, .int .i64 0, .int .i64 0, .string ⟨#[]⟩, .int .i64 0, .int .i64 0, .int .i64 0, .string ⟨#[]⟩, .string ⟨#[]⟩, .bool false, .string ⟨#[]⟩, .int .i64 0, .int .i64 0, .int .i64 0, .string ⟨#[]⟩, .int .i64 0, .int .i64 0, .int .i64 0, .int .i64 0, .int .i64 0, .bool false, .string ⟨#[]⟩, .slice none 0 0, .string ⟨#[]⟩, .bool false, .slice none 0 0, .slice none 0 0] #[.int .i64 0, .int .i64 0, .int .i64 0, .string ⟨#[]⟩, .string ⟨#[]⟩, .bool false, .string ⟨#[]⟩, .int .i64 0, .int .i64 0, .int .i64 0, .string ⟨#[]⟩, .int .i64 0] #[.int .i64 0, .int .i64 0, .int .i64 0, .int .i64 0, .bool false, .string ⟨#[]⟩, .slice none 0 0, .string ⟨#[]⟩, .bool false] r10 w10 := T10.call hB hk
 clear hB hk T10
 clear hl9
 obtain ⟨x0, r11, e11⟩ : ∃ x0 r, rText r10 = (x0, r) := ⟨_, _, rfl⟩
 have hl11 := rText_sl e11 hl10
 have E11 := Lib.hid e11
 clear e11
 go_wp2_with fail
 refine (rtext_c gr r10 x0 r11 _ E11.out S10.br (Nat.le_trans hl10 (by omega))).mono ?_
 rintro e w11 ⟨rfl, hB, hk⟩
 have S11 : TM w gz gr gm gq ga #[.int .i64 n0, .int .i64 n1, .int .i64 n2, .int .i64 n3, .int .i64 n4, .int .i64 n5, .int .i64 n6, .int .i64 n7, .int .i64 n8, .int .i64 0, .int .i64 0, .int .i64 0, .string ⟨#[]⟩, .int .i64 0, .int .i64 0, .int .i64 0, .string ⟨#[]⟩, .string ⟨#[]⟩, .bool false, .string ⟨#[]⟩, .int .i64 0, .int .i64 0, .int .i64 0, .string ⟨#[]⟩, .int .i64 0, .int .i64 0, .int .i64 0, .int .i64 0, .int .i64 0, .bool false, .string ⟨#[]⟩, .slice none 0 0, .string ⟨#[]⟩, .bool false, .slice none 0 0, .slice none 0 0] #[.int .i64 0, .int .i64 0, .int .i64 0, .string ⟨#[]⟩, .string ⟨#[]⟩, .bool false, .string ⟨#[]⟩, .int .i64 0, .int .i64 0, .int .i64 0, .string ⟨#[]⟩, .int .i64 0] #[.int .i64 0, .int .i64 0, .int .i64 0, .int .i64 0, .bool false, .string ⟨#[]⟩, .slice none 0 0, .string ⟨#[]⟩, .bool false] r11 w11 := S10.call hB hk
 clear hB hk S10
 clear hl10
 have cm9 : w11.cell? ⟨gm, 9, none⟩ = some (.int .i64 0) := S11.bm.cell 9
 have fm9 := S11.bm.frozen 9
 have cm10 : w11.cell? ⟨gm, 10, none⟩ = some (.int .i64 0) := S11.bm.cell 10
 have fm10 := S11.bm.frozen 10
 have cm11 : w11.cell? ⟨gm, 11, none⟩ = some (.int .i64 0) := S11.bm.cell 11
 have fm11 := S11.bm.frozen 11
 have cm12 : w11.cell? ⟨gm, 12, none⟩ = some (.string ⟨#[]⟩) := S11.bm.cell 12
 have fm12 := S11.bm.frozen 12
 obtain ⟨n9, r12, e12⟩ : ∃ n9 r, rNum r11 = (n9, r) := ⟨_, _, rfl⟩
 have hl12 := rNum_sl e12 hl11
 have E12 := Lib.hid e12
 clear e12
 go_wp2_with fail
 clear cm9 fm9 cm10 fm10 cm11 fm11 cm12 fm12
 have T12 : TM w gz gr gm gq ga #[.int .i64 n0, .int .i64 n1, .int .i64 n2, .int .i64 n3, .int .i64 n4, .int .i64 n5, .int .i64 n6, .int .i64 n7, .int .i64 n8, .int .i64 s0a, .int .i64 s0t, .int .i64 s0n, .string ⟨x0.toArray⟩, .int .i64 0, .int .i64 0, .int .i64 0, .string ⟨#[]⟩, .string ⟨#[]⟩, .bool false, .string ⟨#[]⟩, .int .i64 0, .int .i64 0, .int .i64 0, .string ⟨#[]⟩, .int .i64 0, .int .i64 0, .int .i64 0, .int .i64 0, .int .i64 0, .bool false, .string ⟨#[]⟩, .slice none 0 0, .string ⟨#[]⟩, .bool false, .slice none 0 0, .slice none 0 0] #[.int .i64 0, .int .i64 0, .int .i64 0, .string ⟨#[]⟩, .string ⟨#[]⟩, .bool false, .string ⟨#[]⟩, .int .i64 0, .int .i64 0, .int .i64 0, .string ⟨#[]⟩, .int .i64 0] #[.int .i64 0, .int .i64 0, .int .i64 0, .int .i64 0, .bool false, .string ⟨#[]⟩, .slice none 0 0, .string ⟨#[]⟩, .bool false] r11 ((((w11.setCell ⟨gm, 9, none⟩ (.int .i64 s0a)).setCell ⟨gm, 10, none⟩ (.int .i64 s0t)).setCell ⟨gm, 11, none⟩ (.int .i64 s0n)).setCell ⟨gm, 12, none⟩ (.string ⟨x0.toArray⟩)) := ((((S11).setm 9 (.int .i64 s0a)).setm 10 (.int .i64 s0t)).setm 11 (.int .i64 s0n)).setm 12 (.string ⟨x0.toArray⟩)
 clear S11
 refine (rnum_c gr r11 n9 r12 _ E12.out T12.br (Nat.le_trans hl11 (by omega))).mono ?_
 rintro e w12 ⟨rfl, hB, hk⟩
 have S12 : TM w gz gr gm gq ga #[.int .i64 n0, .int .i64 n1, .int .i64 n2, .int .i64 n3, .int .i64 n4, .int .i64 n5, .int .i64 n6, .int .i64 n7, .int .i64 n8, .int .i64 s0a, .int .i64 s0t, .int .i64 s0n, .string ⟨x0.toArray⟩, .int .i64 0, .int .i64 0, .int .i64 0, .string ⟨#[]⟩, .string ⟨#[]⟩, .bool false, .string ⟨#[]⟩, .int .i64 0, .int .i64 0, .int .i64 0, .string ⟨#[]⟩, .int .i64 0, .int .i64 0, .int .i64 0, .int .i64 0, .int .i64 0, .bool false, .string ⟨#[]⟩, .slice none 0 0, .string ⟨#[]⟩, .bool false, .slice none 0 0, .slice none 0 0] #[.int .i64 0, .int .i64 0, .int .i64 0, .string ⟨#[]⟩, .string ⟨#[]⟩, .bool false, .string ⟨#[]⟩, .int .i64 0, .int .i64 0, .int .i64 0, .string ⟨#[]⟩, .int .i64 0] #[.int .i64 0, .int .i64 0, .int .i64 0, .int .i64 0, .bool false, .string ⟨#[]⟩, .slice none 0 0, .string ⟨#[]⟩, .bool false] r12 w12 := T12.call hB hk
 clear hB hk T12
 clear hl11
 obtain ⟨n10, r13, e13⟩ : ∃ n10 r, rNum r12 = (n10, r) := ⟨_, _, rfl⟩
 have hl13 := rNum_sl e13 hl12
 have E13 := Lib.hid e13
 clear e13
 go_wp2_with fail
 refine (rnum_c gr r12 n10 r13 _ E13.out S12.br (Nat.le_trans hl12 (by omega))).mono ?_
 rintro e w13 ⟨rfl, hB, hk⟩
 have S13 : TM w gz gr gm gq ga #[.int .i64 n0, .int .i64 n1, .int .i64 n2, .int .i64 n3, .int .i64 n4, .int .i64 n5, .int .i64 n6, .int .i64 n7, .int .i64 n8, .int .i64 s0a, .int .i64 s0t, .int .i64 s0n, .string ⟨x0.toArray⟩, .int .i64 0, .int .i64 0, .int .i64 0, .string ⟨#[]⟩, .string ⟨#[]⟩, .bool false, .string ⟨#[]⟩, .int .i64 0, .int .i64 0, .int .i64 0, .string ⟨#[]⟩, .int .i64 0, .int .i64 0, .int .i64 0, .int .i64 0, .int .i64 0, .bool false, .string ⟨#[]⟩, .slice none 0 0, .string ⟨#[]⟩, .bool false, .slice none 0 0, .slice none 0 0] #[.int .i64 0, .int .i64 0, .int .i64 0, .string ⟨#[]⟩, .string ⟨#[]⟩, .bool false, .string ⟨#[]⟩, .int .i64 0, .int .i64 0, .int .i64 0, .string ⟨#[]⟩, .int .i64 0] #[.int .i64 0, .int .i64 0, .int .i64 0, .int .i64 0, .bool false, .string ⟨#[]⟩, .slice none 0 0, .string ⟨#[]⟩, .bool false] r13 w13 := S12.call hB hk
 clear hB hk S12
 clear hl12
 obtain ⟨n11, r14, e14⟩ : ∃ n11 r, rNum r13 = (n11, r) := ⟨_, _, rfl⟩
 have hl14 := rNum_sl e14 hl13
 have E14 := Lib.hid e14
 clear e14
 go_wp2_with fail
 refine (rnum_c gr r13 n11 r14 _ E14.out S13.br (Nat.le_trans hl13 (by omega))).mono ?_
 rintro e w14 ⟨rfl, hB, hk⟩
 have S14 : TM w gz gr gm gq ga #[.int .i64 n0, .int .i64 n1, .int .i64 n2, .int .i64 n3, .int .i64 n4, .int .i64 n5, .int .i64 n6, .int .i64 n7, .int .i64 n8, .int .i64 s0a, .int .i64 s0t, .int .i64 s0n, .string ⟨x0.toArray⟩, .int .i64 0, .int .i64 0, .int .i64 0, .string ⟨#[]⟩, .string ⟨#[]⟩, .bool false, .string ⟨#[]⟩, .int .i64 0, .int .i64 0, .int .i64 0, .string ⟨#[]⟩, .int .i64 0, .int .i64 0, .int .i64 0, .int .i64 0, .int .i64 0, .bool false, .string ⟨#[]⟩, .slice none 0 0, .string ⟨#[]⟩, .bool false, .slice none 0 0, .slice none 0 0] #[.int .i64 0, .int .i64 0, .int .i64 0, .string ⟨#[]⟩, .string ⟨#[]⟩, .bool false, .string ⟨#[]⟩, .int .i64 0, .int .i64 0, .int .i64 0, .string ⟨#[]⟩, .int .i64 0] #[.int .i64 0, .int .i64 0, .int .i64 0, .int .i64 0, .bool false, .string ⟨#[]⟩, .slice none 0 0, .string ⟨#[]⟩, .bool false] r14 w14 := S13.call hB hk
 clear hB hk S13
 clear hl13
 have cq0 : w14.cell? ⟨gq, 0, none⟩ = some (.int .i64 0) := S14.bq.cell 0
 have fq0 := S14.bq.frozen 0
 have cq1 : w14.cell? ⟨gq, 1, none⟩ = some (.int .i64 0) := S14.bq.cell 1
 have fq1 := S14.bq.frozen 1
 have cq2 : w14.cell? ⟨gq, 2, none⟩ = some (.int .i64 0) := S14.bq.cell 2
 have fq2 := S14.bq.frozen 2
 obtain ⟨x1, r15, e15⟩ : ∃ x1 r, rText r14 = (x1, r) := ⟨_, _, rfl⟩
 have hl15 := rText_sl e15 hl14
 have E15 := Lib.hid e15
 clear e15
 go_wp2_with fail
 clear cq0 fq0 cq1 fq1 cq2 fq2
 have T15 : TM w gz gr gm gq ga #[.int .i64 n0, .int .i64 n1, .int .i64 n2, .int .i64 n3, .int .i64 n4, .int .i64 n5, .int .i64 n6, .int .i64 n7, .int .i64 n8, .int .i64 s0a, .int .i64 s0t, .int .i64 s0n, .string ⟨x0.toArray⟩, .int .i64 0, .int .i64 0, .int .i64 0, .string ⟨#[]⟩, .string ⟨#[]⟩, .bool false, .string ⟨#[]⟩, .int .i64 0, .int .i64 0, .int .i64 0, .string ⟨#[]⟩, .int .i64 0, .int .i64 0, .int .i64 0, .int .i64 0, .int .i64 0, .bool false, .string ⟨#[]⟩, .slice none 0 0, .string ⟨#[]⟩, .bool false, .slice none 0 0, .slice none 0 0] #[.int .i64 n9, .int .i64 n10, .int .i64 n11, .string ⟨#[]⟩, .string ⟨#[]⟩, .bool false, .string ⟨#[]⟩, .int .i64 0, .int .i64 0, .int .i64 0, .string ⟨#[]⟩, .int .i64 0] #[.int .i64 0, .int .i64 0, .int .i64 0, .int .i64 0, .bool false, .string ⟨#[]⟩, .slice none 0 0, .string ⟨#[]⟩, .bool false] r14 (((w14.setCell ⟨gq, 0, none⟩ (.int .i64 n9)).setCell ⟨gq, 1, none⟩ (.int .i64 n10)).setCell ⟨gq, 2, none⟩ (.int .i64 n11)) := (((S14).setq 0 (.int .i64 n9)).setq 1 (.int .i64 n10)).setq 2 (.int .i64 n11)
 clear S14
 refine (rtext_c gr r14 x1 r15 _ E15.out T15.br (Nat.le_trans hl14 (by omega))).mono ?_
 rintro e w15 ⟨rfl, hB, hk⟩
 have S15 : TM w gz gr gm gq ga #[.int .i64 n0, .int .i64 n1, .int .i64 n2, .int .i64 n3, .int .i64 n4, .int .i64 n5, .int .i64 n6, .int .i64 n7, .int .i64 n8, .int .i64 s0a, .int .i64 s0t, .int .i64 s0n, .string ⟨x0.toArray⟩, .int .i64 0, .int .i64 0, .int .i64 0, .string ⟨#[]⟩, .string ⟨#[]⟩, .bool false, .string ⟨#[]⟩, .int .i64 0, .int .i64 0, .int .i64 0, .string ⟨#[]⟩, .int .i64 0, .int .i64 0, .int .i64 0, .int .i64 0, .int .i64 0, .bool false, .string ⟨#[]⟩, .slice none 0 0, .string ⟨#[]⟩, .bool false, .slice none 0 0, .slice none 0 0] #[.int .i64 n9, .int .i64 n10, .int .i64 n11, .string ⟨#[]⟩, .string ⟨#[]⟩, .bool false, .string ⟨#[]⟩, .int .i64 0, .int .i64 0, .int .i64 0, .string ⟨#[]⟩, .int .i64 0] #[.int .i64 0, .int .i64 0, .int .i64 0, .int .i64 0, .bool false, .string ⟨#[]⟩, .slice none 0 0, .string ⟨#[]⟩, .bool false] r15 w15 := T15.call hB hk
 clear hB hk T15
 clear hl14
 obtain ⟨x2, r16, e16⟩ : ∃ x2 r, rText r15 = (x2, r) := ⟨_, _, rfl⟩
 have hl16 := rText_sl e16 hl15
 have E16 := Lib.hid e16
 clear e16
 go_wp2_with fail
 refine (rtext_c gr r15 x2 r16 _ E16.out S15.br (Nat.le_trans hl15 (by omega))).mono ?_
 rintro e w16 ⟨rfl, hB, hk⟩
 have S16 : TM w gz gr gm gq ga #[.int .i64 n0, .int .i64 n1, .int .i64 n2, .int .i64 n3, .int .i64 n4, .int .i64 n5, .int .i64 n6, .int .i64 n7, .int .i64 n8, .int .i64 s0a, .int .i64 s0t, .int .i64 s0n, .string ⟨x0.toArray⟩, .int .i64 0, .int .i64 0, .int .i64 0, .string ⟨#[]⟩, .string ⟨#[]⟩, .bool false, .string ⟨#[]⟩, .int .i64 0, .int .i64 0, .int .i64 0, .string ⟨#[]⟩, .int .i64 0, .int .i64 0, .int .i64 0, .int .i64 0, .int .i64 0, .bool false, .string ⟨#[]⟩, .slice none 0 0, .string ⟨#[]⟩, .bool false, .slice none 0 0, .slice none 0 0] #[.int .i64 n9, .int .i64 n10, .int .i64 n11, .string ⟨#[]⟩, .string ⟨#[]⟩, .bool false, .string ⟨#[]⟩, .int .i64 0, .int .i64 0, .int .i64 0, .string ⟨#[]⟩, .int .i64 0] #[.int .i64 0, .int .i64 0, .int .i64 0, .int .i64 0, .bool false, .string ⟨#[]⟩, .slice none 0 0, .string ⟨#[]⟩, .bool false] r16 w16 := S15.call hB hk
 clear hB hk S15
 clear hl15
 obtain ⟨b0, r17, e17⟩ : ∃ b0 r, rFlag r16 = (b0, r) := ⟨_, _, rfl⟩
 have hl17 := rFlag_sl e17 hl16
 have E17 := Lib.hid e17
 clear e17
 go_wp2_with fail
 refine (rflag_c gr r16 b0 r17 _ E17.out S16.br (Nat.le_trans hl16 (by omega))).mono ?_
 rintro e w17 ⟨rfl, hB, hk⟩
 have S17 : TM w gz gr gm gq ga #[.int .i64 n0, .int .i64 n1, .int .i64 n2, .int .i64 n3, .int .i64 n4, .int .i64 n5, .int .i64 n6, .int .i64 n7, .int .i64 n8, .int .i64 s0a, .int .i64 s0t, .int .i64 s0n, .string ⟨x0.toArray⟩, .int .i64 0, .int .i64 0, .int .i64 0, .string ⟨#[]⟩, .string ⟨#[]⟩, .bool false, .string ⟨#[]⟩, .int .i64 0, .int .i64 0, .int .i64 0, .string ⟨#[]⟩, .int .i64 0, .int .i64 0, .int .i64 0, .int .i64 0, .int .i64 0, .bool false, .string ⟨#[]⟩, .slice none 0 0, .string ⟨#[]⟩, .bool false, .slice none 0 0, .slice none 0 0] #[.int .i64 n9, .int .i64 n10, .int .i64 n11, .string ⟨#[]⟩, .string ⟨#[]⟩, .bool false, .string ⟨#[]⟩, .int .i64 0, .int .i64 0, .int .i64 0, .string ⟨#[]⟩, .int .i64 0] #[.int .i64 0, .int .i64 0, .int .i64 0, .int .i64 0, .bool false, .string ⟨#[]⟩, .slice none 0 0, .string ⟨#[]⟩, .bool false] r17 w17 := S16.call hB hk
 clear hB hk S16
 clear hl16
 obtain ⟨x3, r18, e18⟩ : ∃ x3 r, rText r17 = (x3, r) := ⟨_, _, rfl⟩
 have hl18 := rText_sl e18 hl17
 have E18 := Lib.hid e18
 clear e18
 go_wp2_with fail
 refine (rtext_c gr r17 x3 r18 _ E18.out S17.br (Nat.le_trans hl17 (by omega))).mono ?_
 rintro e w18 ⟨rfl, hB, hk⟩
 have S18 : TM w gz gr gm gq ga #[.int .i64 n0, .int .i64 n1, .int .i64 n2, .int .i64 n3, .int .i64 n4, .int .i64 n5, .int .i64 n6, .int .i64 n7, .int .i64 n8, .int .i64 s0a, .int .i64 s0t, .int .i64 s0n, .string ⟨x0.toArray⟩, .int .i64 0, .int .i64 0, .int .i64 0, .string ⟨#[]⟩, .string ⟨#[]⟩, .bool false, .string ⟨#[]⟩, .int .i64 0, .int .i64 0, .int .i64 0, .string ⟨#[]⟩, .int .i64 0, .int .i64 0, .int .i64 0, .int .i64 0, .int .i64 0, .bool false, .string ⟨#[]⟩, .slice none 0 0, .string ⟨#[]⟩, .bool false, .slice none 0 0, .slice none 0 0] #[.int .i64 n9, .int .i64 n10, .int .i64 n11, .string ⟨#[]⟩, .string ⟨#[]⟩, .bool false, .string ⟨#[]⟩, .int .i64 0, .int .i64 0, .int .i64 0, .string ⟨#[]⟩, .int .i64 0] #[.int .i64 0, .int .i64 0, .int .i64 0, .int .i64 0, .bool false, .string ⟨#[]⟩, .slice none 0 0, .string ⟨#[]⟩, .bool false] r18 w18 := S17.call hB hk
 clear hB hk S17
 clear hl17
 have cq3 : w18.cell? ⟨gq, 3, none⟩ = some (.string ⟨#[]⟩) := S18.bq.cell 3
 have fq3 := S18.bq.frozen 3
 have cq4 : w18.cell? ⟨gq, 4, none⟩ = some (.string ⟨#[]⟩) := S18.bq.cell 4
 have fq4 := S18.bq.frozen 4
 have cq5 : w18.cell? ⟨gq, 5, none⟩ = some (.bool false) := S18.bq.cell 5
 have fq5 := S18.bq.frozen 5
 have cq6 : w18.cell? ⟨gq, 6, none⟩ = some (.string ⟨#[]⟩) := S18.bq.cell 6
 have fq6 := S18.bq.frozen 6
 obtain ⟨s1a, s1t, s1n, r19, e19⟩ : ∃ s1a s1t s1n r, rStamp r18 = ((s1a, s1t, s1n), r) := ⟨_, _, _, _, rfl⟩
 have hl19 := rStamp_sl e19 hl18
 have E19 := Lib.hid e19
 clear e19
 go_wp2_with fail
 clear cq3 fq3 cq4 fq4 cq5 fq5 cq6 fq6
 have T19 : TM w gz gr gm gq ga #[.int .i64 n0, .int .i64 n1, .int .i64 n2, .int .i64 n3, .int .i64 n4, .int .i64 n5, .int .i64 n6, .int .i64 n7, .int .i64 n8, .int .i64 s0a, .int .i64 s0t, .int .i64 s0n, .string ⟨x0.toArray⟩, .int .i64 0, .int .i64 0, .int .i64 0, .string ⟨#[]⟩, .string ⟨#[]⟩, .bool false, .string ⟨#[]⟩, .int .i64 0, .int .i64 0, .int .i64 0, .string ⟨#[]⟩, .int .i64 0, .int .i64 0, .int .i64 0, .int .i64 0, .int .i64 0, .bool false, .string ⟨#[]⟩, .slice none 0 0, .string ⟨#[]⟩, .bool false, .slice none 0 0, .slice none 0 0] #[.int .i64 n9, .int .i64 n10, .int .i64 n11, .string ⟨x1.toArray⟩, .string ⟨x2.toArray⟩, .bool b0, .string ⟨x3.toArray⟩, .int .i64 0, .int .i64 0, .int .i64 0, .string ⟨#[]⟩, .int .i64 0] #[.int .i64 0, .int .i64 0, .int .i64 0, .int .i64 0, .bool false, .string ⟨#[]⟩, .slice none 0 0, .string ⟨#[]⟩, .bool false] r18 ((((w18.setCell ⟨gq, 3, none⟩ (.string ⟨x1.toArray⟩)).setCell ⟨gq, 4, none⟩ (.string ⟨x2.toArray⟩)).setCell ⟨gq, 5, none⟩ (.bool b0)).setCell ⟨gq, 6, none⟩ (.string ⟨x3.toArray⟩)) := ((((S18).setq 3 (.string ⟨x1.toArray⟩)).setq 4 (.string ⟨x2.toArray⟩)).setq 5 (.bool b0)).setq 6 (.string ⟨x3.toArray⟩)
 clear S18
 refine (rstamp_c gr r18 s1a s1t s1n r19 _ E19.out T19.br (Nat.le_trans hl18 (by omega))).mono ?_
 rintro e w19 ⟨rfl, hB, hk⟩
 have S19 : TM w gz gr gm gq ga #[.int .i64 n0, .int .i64 n1, .int .i64 n2, .int .i64 n3, .int .i64 n4, .int .i64 n5, .int .i64 n6, .int .i64 n7, .int .i64 n8, .int .i64 s0a, .int .i64 s0t, .int .i64 s0n, .string ⟨x0.toArray⟩, .int .i64 0, .int .i64 0, .int .i64 0, .string ⟨#[]⟩, .string ⟨#[]⟩, .bool false, .string ⟨#[]⟩, .int .i64 0, .int .i64 0, .int .i64 0, .string ⟨#[]⟩, .int .i64 0, .int .i64 0, .int .i64 0, .int .i64 0, .int .i64 0, .bool false, .string ⟨#[]⟩, .slice none 0 0, .string ⟨#[]⟩, .bool false, .slice none 0 0, .slice none 0 0] #[.int .i64 n9, .int .i64 n10, .int .i64 n11, .string ⟨x1.toArray⟩, .string ⟨x2.toArray⟩, .bool b0, .string ⟨x3.toArray⟩, .int .i64 0, .int .i64 0, .int .i64 0, .string ⟨#[]⟩, .int .i64 0] #[.int .i64 0, .int .i64 0, .int .i64 0, .int .i64 0, .bool false, .string ⟨#[]⟩, .slice none 0 0, .string ⟨#[]⟩, .bool false] r19 w19 := T19.call hB hk
 clear hB hk T19
 clear hl18
 obtain ⟨x4, r20, e20⟩ : ∃ x4 r, rText r19 = (x4, r) := ⟨_, _, rfl⟩
 have hl20 := rText_sl e20 hl19
 have E20 := Lib.hid e20
 clear e20
 go_wp2_with fail
 refine (rtext_c gr r19 x4 r20 _ E20.out S19.br (Nat.le_trans hl19 (by omega))).mono ?_
 rintro e w20 ⟨rfl, hB, hk⟩
 have S20 : TM w gz gr gm gq ga #[.int .i64 n0, .int .i64 n1, .int .i64 n2, .int .i64 n3, .int .i64 n4, .int .i64 n5, .int .i64 n6, .int .i64 n7, .int .i64 n8, .int .i64 s0a, .int .i64 s0t, .int .i64 s0n, .string ⟨x0.toArray⟩, .int .i64 0, .int .i64 0, .int .i64 0, .string ⟨#[]⟩, .string ⟨#[]⟩, .bool false, .string ⟨#[]⟩, .int .i64 0, .int .i64 0, .int .i64 0, .string ⟨#[]⟩, .int .i64 0, .int .i64 0, .int .i64 0, .int .i64 0, .int .i64 0, .bool false, .string ⟨#[]⟩, .slice none 0 0, .string ⟨#[]⟩, .bool false, .slice none 0 0, .slice none 0 0] #[.int .i64 n9, .int .i64 n10, .int .i64 n11, .string ⟨x1.toArray⟩, .string ⟨x2.toArray⟩, .bool b0, .string ⟨x3.toArray⟩, .int .i64 0, .int .i64 0, .int .i64 0, .string ⟨#[]⟩, .int .i64 0] #[.int .i64 0, .int .i64 0, .int .i64 0, .int .i64 0, .bool false, .string ⟨#[]⟩, .slice none 0 0, .string ⟨#[]⟩, .bool false] r20 w20 := S19.call hB hk
 clear hB hk S19
 clear hl19
 obtain ⟨n12, r21, e21⟩ : ∃ n12 r, rNum r20 = (n12, r) := ⟨_, _, rfl⟩
 have hl21 := rNum_sl e21 hl20
 have E21 := Lib.hid e21
 clear e21
 go_wp2_with fail
 refine (rnum_c gr r20 n12 r21 _ E21.out S20.br (Nat.le_trans hl20 (by omega))).mono ?_
 rintro e w21 ⟨rfl, hB, hk⟩
 have S21 : TM w gz gr gm gq ga #[.int .i64 n0, .int .i64 n1, .int .i64 n2, .int .i64 n3, .int .i64 n4, .int .i64 n5, .int .i64 n6, .int .i64 n7, .int .i64 n8, .int .i64 s0a, .int .i64 s0t, .int .i64 s0n, .string ⟨x0.toArray⟩, .int .i64 0, .int .i64 0, .int .i64 0, .string ⟨#[]⟩, .string ⟨#[]⟩, .bool false, .string ⟨#[]⟩, .int .i64 0, .int .i64 0, .int .i64 0, .string ⟨#[]⟩, .int .i64 0, .int .i64 0, .int .i64 0, .int .i64 0, .int .i64 0, .bool false, .string ⟨#[]⟩, .slice none 0 0, .string ⟨#[]⟩, .bool false, .slice none 0 0, .slice none 0 0] #[.int .i64 n9, .int .i64 n10, .int .i64 n11, .string ⟨x1.toArray⟩, .string ⟨x2.toArray⟩, .bool b0, .string ⟨x3.toArray⟩, .int .i64 0, .int .i64 0, .int .i64 0, .string ⟨#[]⟩, .int .i64 0] #[.int .i64 0, .int .i64 0, .int .i64 0, .int .i64 0, .bool false, .string ⟨#[]⟩, .slice none 0 0, .string ⟨#[]⟩, .bool false] r21 w21 := S20.call hB hk
 clear hB hk S20
 clear hl20
 have cq7 : w21.cell? ⟨gq, 7, none⟩ = some (.int .i64 0) := S21.bq.cell 7
 have fq7 := S21.bq.frozen 7
 have cq8 : w21.cell? ⟨gq, 8, none⟩ = some (.int .i64 0) := S21.bq.cell 8
 have fq8 := S21.bq.frozen 8
 have cq9 : w21.cell? ⟨gq, 9, none⟩ = some (.int .i64 0) := S21.bq.cell 9
 have fq9 := S21.bq.frozen 9
 have cq10 : w21.cell? ⟨gq, 10, none⟩ = some (.string ⟨#[]⟩) := S21.bq.cell 10
 have fq10 := S21.bq.frozen 10
 have cq11 : w21.cell? ⟨gq, 11, none⟩ = some (.int .i64 0) := S21.bq.cell 11
 have fq11 := S21.bq.frozen 11
 obtain ⟨n13, r22, e22⟩ : ∃ n13 r, rNum r21 = (n13, r) := ⟨_, _, rfl⟩
 have hl22 := rNum_sl e22 hl21
 have E22 := Lib.hid e22
 clear e22
 go_wp2_with fail
 clear cq7 fq7 cq8 fq8 cq9 fq9 cq10 fq10 cq11 fq11
 have T22 : TM w gz gr gm gq ga #[.int .i64 n0, .int .i64 n1, .int .i64 n2, .int .i64 n3, .int .i64 n4, .int .i64 n5, .int .i64 n6, .int .i64 n7, .int .i64 n8, .int .i64 s0a, .int .i64 s0t, .int .i64 s0n, .string ⟨x0.toArray⟩, .int .i64 0, .int .i64 0, .int .i64 0, .string ⟨#[]⟩, .string ⟨#[]⟩, .bool false, .string ⟨#[]⟩, .int .i64 0, .int .i64 0, .int .i64 0, .string ⟨#[]⟩, .int .i64 0, .int .i64 0, .int .i64 0, .int .i64 0, .int .i64 0, .bool false, .string ⟨#[]⟩, .slice none 0 0, .string ⟨#[]⟩, .bool false, .slice none 0 0, .slice none 0 0] #[.int .i64 n9, .int .i64 n10, .int .i64 n11, .string ⟨x1.toArray⟩, .string ⟨x2.toArray⟩, .bool b0, .string ⟨x3.toArray⟩, .int .i64 s1a, .int .i64 s1t, .int .i64 s1n, .string ⟨x4.toArray⟩, .int .i64 n12] #[.int .i64 0, .int .i64 0, .int .i64 0, .int .i64 0, .bool false, .string ⟨#[]⟩, .slice none 0 0, .string ⟨#[]⟩, .bool false] r21 (((((w21.setCell ⟨gq, 7, none⟩ (.int .i64 s1a)).setCell ⟨gq, 8, none⟩ (.int .i64 s1t)).setCell ⟨gq, 9, none⟩ (.int .i64 s1n)).setCell ⟨gq, 10, none⟩ (.string ⟨x4.toArray⟩)).setCell ⟨gq, 11, none⟩ (.int .i64 n12)) := (((((S21).setq 7 (.int .i64 s1a)).setq 8 (.int .i64 s1t)).setq 9 (.int .i64 s1n)).setq 10 (.string ⟨x4.toArray⟩)).setq 11 (.int .i64 n12)
 clear S21
 refine (rnum_c gr r21 n13 r22 _ E22.out T22.br (Nat.le_trans hl21 (by omega))).mono ?_
 rintro e w22 ⟨rfl, hB, hk⟩
 have S22 : TM w gz gr gm gq ga #[.int .i64 n0, .int .i64 n1, .int .i64 n2, .int .i64 n3, .int .i64 n4, .int .i64 n5, .int .i64 n6, .int .i64 n7, .int .i64 n8, .int .i64 s0a, .int .i64 s0t, .int .i64 s0n, .string ⟨x0.toArray⟩, .int .i64 0, .int .i64 0, .int .i64 0, .string ⟨#[]⟩, .string ⟨#[]⟩, .bool false, .string ⟨#[]⟩, .int .i64 0, .int .i64 0, .int .i64 0, .string ⟨#[]⟩, .int .i64 0, .int .i64 0, .int .i64 0, .int .i64 0, .int .i64 0, .bool false, .string ⟨#[]⟩, .slice none 0 0, .string ⟨#[]⟩, .bool false, .slice none 0 0, .slice none 0 0] #[.int .i64 n9, .int .i64 n10, .int .i64 n11, .string ⟨x1.toArray⟩, .string ⟨x2.toArray⟩, .bool b0, .string ⟨x3.toArray⟩, .int .i64 s1a, .int .i64 s1t, .int .i64 s1n, .string ⟨x4.toArray⟩, .int .i64 n12] #[.int .i64 0, .int .i64 0, .int .i64 0, .int .i64 0, .bool false, .string ⟨#[]⟩, .slice none 0 0, .string ⟨#[]⟩, .bool false] r22 w22 := T22.call hB hk
 clear hB hk T22
 clear hl21
 obtain ⟨s2a, s2t, s2n, r23, e23⟩ : ∃ s2a s2t s2n r, rStamp r22 = ((s2a, s2t, s2n), r) := ⟨_, _, _, _, rfl⟩
 have hl23 := rStamp_sl e23 hl22
 have E23 := Lib.hid e23
 clear e23
 go_wp2_with fail
 refine (rstamp_c gr r22 s2a s2t s2n r23 _ E23.out S22.br (Nat.le_trans hl22 (by omega))).mono ?_
 rintro e w23 ⟨rfl, hB, hk⟩
 have S23 : TM w gz gr gm gq ga #[.int .i64 n0, .int .i64 n1, .int .i64 n2, .int .i64 n3, .int .i64 n4, .int .i64 n5, .int .i64 n6, .int .i64 n7, .int .i64 n8, .int .i64 s0a, .int .i64 s0t, .int .i64 s0n, .string ⟨x0.toArray⟩, .int .i64 0, .int .i64 0, .int .i64 0, .string ⟨#[]⟩, .string ⟨#[]⟩, .bool false, .string ⟨#[]⟩, .int .i64 0, .int .i64 0, .int .i64 0, .string ⟨#[]⟩, .int .i64 0, .int .i64 0, .int .i64 0, .int .i64 0, .int .i64 0, .bool false, .string ⟨#[]⟩, .slice none 0 0, .string ⟨#[]⟩, .bool false, .slice none 0 0, .slice none 0 0] #[.int .i64 n9, .int .i64 n10, .int .i64 n11, .string ⟨x1.toArray⟩, .string ⟨x2.toArray⟩, .bool b0, .string ⟨x3.toArray⟩, .int .i64 s1a, .int .i64 s1t, .int .i64 s1n, .string ⟨x4.toArray⟩, .int .i64 n12] #[.int .i64 0, .int .i64 0, .int .i64 0, .int .i64 0, .bool false, .string ⟨#[]⟩, .slice none 0 0, .string ⟨#[]⟩, .bool false] r23 w23 := S22.call hB hk
 clear hB hk S22
 clear hl22
 obtain ⟨b1, r24, e24⟩ : ∃ b1 r, rFlag r23 = (b1, r) := ⟨_, _, rfl⟩
 have hl24 := rFlag_sl e24 hl23
 have E24 := Lib.hid e24
 clear e24
 go_wp2_with fail
 refine (rflag_c gr r23 b1 r24 _ E24.out S23.br (Nat.le_trans hl23 (by omega))).mono ?_
 rintro e w24 ⟨rfl, hB, hk⟩
 have S24 : TM w gz gr gm gq ga #[.int .i64 n0, .int .i64 n1, .int .i64 n2, .int .i64 n3, .int .i64 n4, .int .i64 n5, .int .i64 n6, .int .i64 n7, .int .i64 n8, .int .i64 s0a, .int .i64 s0t, .int .i64 s0n, .string ⟨x0.toArray⟩, .int .i64 0, .int .i64 0, .int .i64 0, .string ⟨#[]⟩, .string ⟨#[]⟩, .bool false, .string ⟨#[]⟩, .int .i64 0, .int .i64 0, .int .i64 0, .string ⟨#[]⟩, .int .i64 0, .int .i64 0, .int .i64 0, .int .i64 0, .int .i64 0, .bool false, .string ⟨#[]⟩, .slice none 0 0, .string ⟨#[]⟩, .bool false, .slice none 0 0, .slice none 0 0] #[.int .i64 n9, .int .i64 n10, .int .i64 n11, .string ⟨x1.toArray⟩, .string ⟨x2.toArray⟩, .bool b0, .string ⟨x3.toArray⟩, .int .i64 s1a, .int .i64 s1t, .int .i64 s1n, .string ⟨x4.toArray⟩, .int .i64 n12] #[.int .i64 0, .int .i64 0, .int .i64 0, .int .i64 0, .bool false, .string ⟨#[]⟩, .slice none 0 0, .string ⟨#[]⟩, .bool false] r24 w24 := S23.call hB hk
 clear hB hk S23
 clear hl23
 obtain ⟨x5, r25, e25⟩ : ∃ x5 r, rText r24 = (x5, r) := ⟨_, _, rfl⟩
 have hl25 := rText_sl e25 hl24
 have E25 := Lib.hid e25
 clear e25
 go_wp2_with fail
 refine (rtext_c gr r24 x5 r25 _ E25.out S24.br (Nat.le_trans hl24 (by omega))).mono ?_
 rintro e w25 ⟨rfl, hB, hk⟩
 have S25 : TM w gz gr gm gq ga #[.int .i64 n0, .int .i64 n1, .int .i64 n2, .int .i64 n3, .int .i64 n4, .int .i64 n5, .int .i64 n6, .int .i64 n7, .int .i64 n8, .int .i64 s0a, .int .i64 s0t, .int .i64 s0n, .string ⟨x0.toArray⟩, .int .i64 0, .int .i64 0, .int .i64 0, .string ⟨#[]⟩, .string ⟨#[]⟩, .bool false, .string ⟨#[]⟩, .int .i64 0, .int .i64 0, .int .i64 0, .string ⟨#[]⟩, .int .i64 0, .int .i64 0, .int .i64 0, .int .i64 0, .int .i64 0, .bool false, .string ⟨#[]⟩, .slice none 0 0, .string ⟨#[]⟩, .bool false, .slice none 0 0, .slice none 0 0] #[.int .i64 n9, .int .i64 n10, .int .i64 n11, .string ⟨x1.toArray⟩, .string ⟨x2.toArray⟩, .bool b0, .string ⟨x3.toArray⟩, .int .i64 s1a, .int .i64 s1t, .int .i64 s1n, .string ⟨x4.toArray⟩, .int .i64 n12] #[.int .i64 0, .int .i64 0, .int .i64 0, .int .i64 0, .bool false, .string ⟨#[]⟩, .slice none 0 0, .string ⟨#[]⟩, .bool false] r25 w25 := S24.call hB hk
 clear hB hk S24
 clear hl24
 have ca0 : w25.cell? ⟨ga, 0, none⟩ = some (.int .i64 0) := S25.ba.cell 0
 have fa0 := S25.ba.frozen 0
 have ca1 : w25.cell? ⟨ga, 1, none⟩ = some (.int .i64 0) := S25.ba.cell 1
 have fa1 := S25.ba.frozen 1
 have ca2 : w25.cell? ⟨ga, 2, none⟩ = some (.int .i64 0) := S25.ba.cell 2
 have fa2 := S25.ba.frozen 2
 have ca3 : w25.cell? ⟨ga, 3, none⟩ = some (.int .i64 0) := S25.ba.cell 3
 have fa3 := S25.ba.frozen 3
 have ca4 : w25.cell? ⟨ga, 4, none⟩ = some (.bool false) := S25.ba.cell 4
 have fa4 := S25.ba.frozen 4
 have ca5 : w25.cell? ⟨ga, 5, none⟩ = some (.string ⟨#[]⟩) := S25.ba.cell 5
 have fa5 := S25.ba.frozen 5
 obtain ⟨c0, r26, e26⟩ : ∃ c0 r, rCount r25 = (c0, r) := ⟨_, _, rfl⟩
 obtain ⟨hl26, hc00, hc01⟩ := rCount_sl e26 hl25
 have E26 := Lib.hid e26
 clear e26
 go_wp2_with fail
 clear ca0 fa0 ca1 fa1 ca2 fa2 ca3 fa3 ca4 fa4 ca5 fa5
 have T26 : TM w gz gr gm gq ga #[.int .i64 n0, .int .i64 n1, .int .i64 n2, .int .i64 n3, .int .i64 n4, .int .i64 n5, .int .i64 n6, .int .i64 n7, .int .i64 n8, .int .i64 s0a, .int .i64 s0t, .int .i64 s0n, .string ⟨x0.toArray⟩, .int .i64 0, .int .i64 0, .int .i64 0, .string ⟨#[]⟩, .string ⟨#[]⟩, .bool false, .string ⟨#[]⟩, .int .i64 0, .int .i64 0, .int .i64 0, .string ⟨#[]⟩, .int .i64 0, .int .i64 0, .int .i64 0, .int .i64 0, .int .i64 0, .bool false, .string ⟨#[]⟩, .slice none 0 0, .string ⟨#[]⟩, .bool false, .slice none 0 0, .slice none 0 0] #[.int .i64 n9, .int .i64 n10, .int .i64 n11, .string ⟨x1.toArray⟩, .string ⟨x2.toArray⟩, .bool b0, .string ⟨x3.toArray⟩, .int .i64 s1a, .int .i64 s1t, .int .i64 s1n, .string ⟨x4.toArray⟩, .int .i64 n12] #[.int .i64 n13, .int .i64 s2a, .int .i64 s2t, .int .i64 s2n, .bool b1, .string ⟨x5.toArray⟩, .slice none 0 0, .string ⟨#[]⟩, .bool false] r25 ((((((w25.setCell ⟨ga, 0, none⟩ (.int .i64 n13)).setCell ⟨ga, 1, none⟩ (.int .i64 s2a)).setCell ⟨ga, 2, none⟩ (.int .i64 s2t)).setCell ⟨ga, 3, none⟩ (.int .i64 s2n)).setCell ⟨ga, 4, none⟩ (.bool b1)).setCell ⟨ga, 5, none⟩ (.string ⟨x5.toArray⟩)) := ((((((S25).seta 0 (.int .i64 n13)).seta 1 (.int .i64 s2a)).seta 2 (.int .i64 s2t)).seta 3 (.int .i64 s2n)).seta 4 (.bool b1)).seta 5 (.string ⟨x5.toArray⟩)
 clear S25
 refine (rlist_c gr r25 c0 r26 _ E26.out T26.br (Nat.le_trans hl25 (by omega))).mono ?_
 rintro e w26 ⟨rfl, hB, hk⟩
 have S26 : TM w gz gr gm gq ga #[.int .i64 n0, .int .i64 n1, .int .i64 n2, .int .i64 n3, .int .i64 n4, .int .i64 n5, .int .i64 n6, .int .i64 n7, .int .i64 n8, .int .i64 s0a, .int .i64 s0t, .int .i64 s0n, .string ⟨x0.toArray⟩, .int .i64 0, .int .i64 0, .int .i64 0, .string ⟨#[]⟩, .string ⟨#[]⟩, .bool false, .string ⟨#[]⟩, .int .i64 0, .int .i64 0, .int .i64 0, .string ⟨#[]⟩, .int .i64 0, .int .i64 0, .int .i64 0, .int .i64 0, .int .i64 0, .bool false, .string ⟨#[]⟩, .slice none 0 0, .string ⟨#[]⟩, .bool false, .slice none 0 0, .slice none 0 0] #[.int .i64 n9, .int .i64 n10, .int .i64 n11, .string ⟨x1.toArray⟩, .string ⟨x2.toArray⟩, .bool b0, .string ⟨x3.toArray⟩, .int .i64 s1a, .int .i64 s1t, .int .i64 s1n, .string ⟨x4.toArray⟩, .int .i64 n12] #[.int .i64 n13, .int .i64 s2a, .int .i64 s2t, .int .i64 s2n, .bool b1, .string ⟨x5.toArray⟩, .slice none 0 0, .string ⟨#[]⟩, .bool false] r26 w26 := T26.call hB hk
 clear hB hk T26
 clear hl25
 go_wp2_with fail
 go_loopw [89] (fun i wr => ∃ (k : Nat) (v : Value) (xs : List It) (rr : RS), i = .int .i64 k ∧ (k : Int) ≤ c0 ∧ TM w gz gr gm gq ga #[.int .i64 n0, .int .i64 n1, .int .i64 n2, .int .i64 n3, .int .i64 n4, .int .i64 n5, .int .i64 n6, .int .i64 n7, .int .i64 n8, .int .i64 s0a, .int .i64 s0t, .int .i64 s0n, .string ⟨x0.toArray⟩, .int .i64 0, .int .i64 0, .int .i64 0, .string ⟨#[]⟩, .string ⟨#[]⟩, .bool false, .string ⟨#[]⟩, .int .i64 0, .int .i64 0, .int .i64 0, .string ⟨#[]⟩, .int .i64 0, .int .i64 0, .int .i64 0, .int .i64 0, .int .i64 0, .bool false, .string ⟨#[]⟩, .slice none 0 0, .string ⟨#[]⟩, .bool false, .slice none 0 0, .slice none 0 0] #[.int .i64 n9, .int .i64 n10, .int .i64 n11, .string ⟨x1.toArray⟩, .string ⟨x2.toArray⟩, .bool b0, .string ⟨x3.toArray⟩, .int .i64 s1a, .int .i64 s1t, .int .i64 s1n, .string ⟨x4.toArray⟩, .int .i64 n12] #[.int .i64 n13, .int .i64 s2a, .int .i64 s2t, .int .i64 s2n, .bool b1, .string ⟨x5.toArray⟩, v, .string ⟨#[]⟩, .bool false] rr wr ∧ wr.ownsRow w.heap.size 79 2 v k (itF xs) ∧ xs.length = k ∧ rdN rItem k r26 = (xs, rr) ∧ rr.s.length ≤ N) (fun i _ => c0.toNat - (intOf i).toNat)
 case atStart => exact ⟨0, _, [], r26, rfl, hc00, S26, World.ownsRow_nil _ _ _ _, rfl, rfl, hl26⟩
 case round =>
  clear S26
  obtain ⟨k, v, its, rr, rfl, hk, hS, hown, hlen, hrd, hlr⟩ := hrel
  have i0 : (0 : Int) ≤ (k : Int) := by omega
  have HRD := Lib.hid hrd
  clear hrd
  obtain ⟨A0, cap0, rfl⟩ := own_slice hown
  by_cases hlt : (k : Int) < c0
  case pos =>
   obtain ⟨ii, hii, hiz, his, hib⟩ := info_parts infoIt
   obtain ⟨x, ra, ea⟩ : ∃ x r, rText rr = (x, r) := ⟨_, _, rfl⟩
   have hla := rText_sl ea hlr
   obtain ⟨y, rb, eb⟩ : ∃ x r, rText ra = (x, r) := ⟨_, _, rfl⟩
   have hlb := rText_sl eb hla
   have hx := rItem_eq ea eb
   have HX := Lib.hid hx
   have EA := Lib.hid ea
   have EB := Lib.hid eb
   clear ea eb hx
   have hk26 : k ≤ 4194304 := by omega
   have c6 : wr.cell? ⟨ga, 4 + 2, none⟩ = some (.slice A0 k cap0) := hS.ba.cell 6
   have f6 := hS.ba.frozen 6
   have gl6 := hS.ba.lt
   go_wp2_with fail
   go_region_law (first
    | (go_simp; go_at_call 32; refine (rtext_c gr ra y rb wa EB.out Sa.br (Nat.le_trans hla (by omega))).mono ?_; rintro e wb ⟨rfl, hB2, hk2⟩; have Sb := Sa.call hB2 hk2; have cb6 : wb.cell? ⟨ga, 6, none⟩ = some (.slice A0 k cap0) := Sb.ba.cell 6; have fb6 := Sb.ba.frozen 6; have gb6 := Sb.ba.lt; have Ob := own_kept Oa hk2.kept Sa.br (by decide); clear hB2 hk2)
    | (go_simp; go_at_call 32; refine (rtext_c gr rr x ra _ EA.out hS.drew.br (Nat.le_trans hlr (by omega))).mono ?_; rintro e wa ⟨rfl, hB1, hk1⟩; have Sa := hS.drew.call hB1 hk1; have ca6 : wa.cell? ⟨ga, 6, none⟩ = some (.slice A0 k cap0) := Sa.ba.cell 6; have fa6 := Sa.ba.frozen 6; have ga6 := Sa.ba.lt; have Oa := own_kept (w := wr.drew) hown hk1.kept hS.drew.br (by decide); clear hB1 hk1)
    | (refine step_pushR (by rfl) _ _ _ (by rfl) w.heap.size 79 ii _ 2 32 Tryz.underlying45 hii hiz his hib (by rfl) (by decide) wb _ k (itF its) (by rfl) Ob [.string ⟨x.toArray⟩, .string ⟨y.toArray⟩] rfl ?hu 1 (by rfl) ?h63 ?hby ?hba ?_; (case hu => simp [Value.oneCell']); (case h63 => omega); (case hby => omega); (case hba => exact Sb.below.size); intro gN capN w3 hownN hbN hkN; have S3 := Sb.grow hbN hkN (by decide) (by decide) (by decide) (by decide); have d6 : w3.cell? ⟨ga, 6, none⟩ = some (.slice A0 k cap0) := S3.ba.cell 6; have g6 := S3.ba.frozen 6; have gl36 := S3.ba.lt))
   all_goals
    go_wp2_with fail
    go_roundw
    case rel =>
     refine ⟨k + 1, _, its ++ [⟨x, y⟩], rb, by go_num, by omega, S3.seta 6 _, ?_, by simp [hlen], rdN_succ _ _ _ _ _ _ _ HRD.out HX.out, hlb⟩
     rw [itF_snoc]
     exact own_setT (p := ⟨ga, 6, none⟩) hownN _ S3.ba (by decide)
    case measure => simp [intOf]; omega
  case neg =>
   have hkeI : (k : Int) = c0 := by omega
   obtain ⟨kI, hh⟩ : ∃ x, x = k := ⟨_, rfl⟩
   subst hh
   obtain ⟨AI, hh⟩ : ∃ x, x = A0 := ⟨_, rfl⟩
   subst hh
   obtain ⟨cI, hh⟩ : ∃ x, x = cap0 := ⟨_, rfl⟩
   subst hh
   obtain ⟨rI, hh⟩ : ∃ x, x = rr := ⟨_, rfl⟩
   subst hh
   have SI := hS
   have OI := hown
   have hlenI := hlen
   have HRI := HRD
   have hlI := hlr
   clear hS hown hlen HRD hlr i0 hk hlt
   obtain ⟨x6, r27, e27⟩ : ∃ x6 r, rText rI = (x6, r) := ⟨_, _, rfl⟩
   have hl27 := rText_sl e27 hlI
   have E27 := Lib.hid e27
   clear e27
   go_wp2_with fail
   refine (rtext_c gr rI x6 r27 _ E27.out SI.br (Nat.le_trans hlI (by omega))).mono ?_
   rintro e w27 ⟨rfl, hB, hk⟩
   have OIk := own_kept OI hk.kept SI.br (by decide)
   clear OI
   have OI := OIk
   clear OIk
   have S27 : TM w gz gr gm gq ga #[.int .i64 n0, .int .i64 n1, .int .i64 n2, .int .i64 n3, .int .i64 n4, .int .i64 n5, .int .i64 n6, .int .i64 n7, .int .i64 n8, .int .i64 s0a, .int .i64 s0t, .int .i64 s0n, .string ⟨x0.toArray⟩, .int .i64 0, .int .i64 0, .int .i64 0, .string ⟨#[]⟩, .string ⟨#[]⟩, .bool false, .string ⟨#[]⟩, .int .i64 0, .int .i64 0, .int .i64 0, .string ⟨#[]⟩, .int .i64 0, .int .i64 0, .int .i64 0, .int .i64 0, .int .i64 0, .bool false, .string ⟨#[]⟩, .slice none 0 0, .string ⟨#[]⟩, .bool false, .slice none 0 0, .slice none 0 0] #[.int .i64 n9, .int .i64 n10, .int .i64 n11, .string ⟨x1.toArray⟩, .string ⟨x2.toArray⟩, .bool b0, .string ⟨x3.toArray⟩, .int .i64 s1a, .int .i64 s1t, .int .i64 s1n, .string ⟨x4.toArray⟩, .int .i64 n12] #[.int .i64 n13, .int .i64 s2a, .int .i64 s2t, .int .i64 s2n, .bool b1, .string ⟨x5.toArray⟩, .slice AI kI cI, .string ⟨#[]⟩, .bool false] r27 w27 := SI.call hB hk
   clear hB hk SI
   clear hlI
   obtain ⟨b2, r28, e28⟩ : ∃ b2 r, rFlag r27 = (b2, r) := ⟨_, _, rfl⟩
   have hl28 := rFlag_sl e28 hl27
   have E28 := Lib.hid e28
   clear e28
   go_wp2_with fail
   refine (rflag_c gr r27 b2 r28 _ E28.out S27.br (Nat.le_trans hl27 (by omega))).mono ?_
   rintro e w28 ⟨rfl, hB, hk⟩
   have OIk := own_kept OI hk.kept S27.br (by decide)
   clear OI
   have OI := OIk
   clear OIk
   have S28 : TM w gz gr gm gq ga #[.int .i64 n0, .int .i64 n1, .int .i64 n2, .int .i64 n3, .int .i64 n4, .int .i64 n5, .int .i64 n6, .int .i64 n7, .int .i64 n8, .int .i64 s0a, .int .i64 s0t, .int .i64 s0n, .string ⟨x0.toArray⟩, .int .i64 0, .int .i64 0, .int .i64 0, .string ⟨#[]⟩, .string ⟨#[]⟩, .bool false, .string ⟨#[]⟩, .int .i64 0, .int .i64 0, .int .i64 0, .string ⟨#[]⟩, .int .i64 0, .int .i64 0, .int .i64 0, .int .i64 0, .int .i64 0, .bool false, .string ⟨#[]⟩, .slice none 0 0, .string ⟨#[]⟩, .bool false, .slice none 0 0, .slice none 0 0] #[.int .i64 n9, .int .i64 n10, .int .i64 n11, .string ⟨x1.toArray⟩, .string ⟨x2.toArray⟩, .bool b0, .string ⟨x3.toArray⟩, .int .i64 s1a, .int .i64 s1t, .int .i64 s1n, .string ⟨x4.toArray⟩, .int .i64 n12] #[.int .i64 n13, .int .i64 s2a, .int .i64 s2t, .int .i64 s2n, .bool b1, .string ⟨x5.toArray⟩, .slice AI kI cI, .string ⟨#[]⟩, .bool false] r28 w28 := S27.call hB hk
   clear hB hk S27
   clear hl27
   have ca7 : w28.cell? ⟨ga, 7, none⟩ = some (.string ⟨#[]⟩) := S28.ba.cell 7
   have fa7 := S28.ba.frozen 7
   have ca8 : w28.cell? ⟨ga, 8, none⟩ = some (.bool false) := S28.ba.cell 8
   have fa8 := S28.ba.frozen 8
   have OIs := own_setT (p := ⟨ga, 8, none⟩) (own_setT (p := ⟨ga, 7, none⟩) (OI) (.string ⟨x6.toArray⟩) (S28).ba (by decide)) (.bool b2) ((S28).seta 7 (.string ⟨x6.toArray⟩)).ba (by decide)
   clear OI
   have OI := OIs
   clear OIs
   obtain ⟨c1, r29, e29⟩ : ∃ c1 r, rCount r28 = (c1, r) := ⟨_, _, rfl⟩
   obtain ⟨hl29, hc10, hc11⟩ := rCount_sl e29 hl28
   have E29 := Lib.hid e29
   clear e29
   go_wp2_with fail
   clear ca7 fa7 ca8 fa8
   have T29 : TM w gz gr gm gq ga #[.int .i64 n0, .int .i64 n1, .int .i64 n2, .int .i64 n3, .int .i64 n4, .int .i64 n5, .int .i64 n6, .int .i64 n7, .int .i64 n8, .int .i64 s0a, .int .i64 s0t, .int .i64 s0n, .string ⟨x0.toArray⟩, .int .i64 0, .int .i64 0, .int .i64 0, .string ⟨#[]⟩, .string ⟨#[]⟩, .bool false, .string ⟨#[]⟩, .int .i64 0, .int .i64 0, .int .i64 0, .string ⟨#[]⟩, .int .i64 0, .int .i64 0, .int .i64 0, .int .i64 0, .int .i64 0, .bool false, .string ⟨#[]⟩, .slice none 0 0, .string ⟨#[]⟩, .bool false, .slice none 0 0, .slice none 0 0] #[.int .i64 n9, .int .i64 n10, .int .i64 n11, .string ⟨x1.toArray⟩, .string ⟨x2.toArray⟩, .bool b0, .string ⟨x3.toArray⟩, .int .i64 s1a, .int .i64 s1t, .int .i64 s1n, .string ⟨x4.toArray⟩, .int .i64 n12] #[.int .i64 n13, .int .i64 s2a, .int .i64 s2t, .int .i64 s2n, .bool b1, .string ⟨x5.toArray⟩, .slice AI kI cI, .string ⟨x6.toArray⟩, .bool b2] r28 ((w28.setCell ⟨ga, 7, none⟩ (.string ⟨x6.toArray⟩)).setCell ⟨ga, 8, none⟩ (.bool b2)) := ((S28).seta 7 (.string ⟨x6.toArray⟩)).seta 8 (.bool b2)
   clear S28
   refine (rlist_c gr r28 c1 r29 _ E29.out T29.br (Nat.le_trans hl28 (by omega))).mono ?_
   rintro e w29 ⟨rfl, hB, hk⟩
   have OIk := own_kept OI hk.kept T29.br (by decide)
   clear OI
   have OI := OIk
   clear OIk
   have S29 : TM w gz gr gm gq ga #[.int .i64 n0, .int .i64 n1, .int .i64 n2, .int .i64 n3, .int .i64 n4, .int .i64 n5, .int .i64 n6, .int .i64 n7, .int .i64 n8, .int .i64 s0a, .int .i64 s0t, .int .i64 s0n, .string ⟨x0.toArray⟩, .int .i64 0, .int .i64 0, .int .i64 0, .string ⟨#[]⟩, .string ⟨#[]⟩, .bool false, .string ⟨#[]⟩, .int .i64 0, .int .i64 0, .int .i64 0, .string ⟨#[]⟩, .int .i64 0, .int .i64 0, .int .i64 0, .int .i64 0, .int .i64 0, .bool false, .string ⟨#[]⟩, .slice none 0 0, .string ⟨#[]⟩, .bool false, .slice none 0 0, .slice none 0 0] #[.int .i64 n9, .int .i64 n10, .int .i64 n11, .string ⟨x1.toArray⟩, .string ⟨x2.toArray⟩, .bool b0, .string ⟨x3.toArray⟩, .int .i64 s1a, .int .i64 s1t, .int .i64 s1n, .string ⟨x4.toArray⟩, .int .i64 n12] #[.int .i64 n13, .int .i64 s2a, .int .i64 s2t, .int .i64 s2n, .bool b1, .string ⟨x5.toArray⟩, .slice AI kI cI, .string ⟨x6.toArray⟩, .bool b2] r29 w29 := T29.call hB hk
   clear hB hk T29
   clear hl28
   go_wp2_with fail
   go_loopw [110] (fun i wr => ∃ (k : Nat) (v : Value) (xs : List Pl) (rr : RS), i = .int .i64 k ∧ (k : Int) ≤ c1 ∧ TM w gz gr gm gq ga #[.int .i64 n0, .int .i64 n1, .int .i64 n2, .int .i64 n3, .int .i64 n4, .int .i64 n5, .int .i64 n6, .int .i64 n7, .int .i64 n8, .int .i64 s0a, .int .i64 s0t, .int .i64 s0n, .string ⟨x0.toArray⟩, .int .i64 0, .int .i64 0, .int .i64 0, .string ⟨#[]⟩, .string ⟨#[]⟩, .bool false, .string ⟨#[]⟩, .int .i64 0, .int .i64 0, .int .i64 0, .string ⟨#[]⟩, .int .i64 0, .int .i64 0, .int .i64 0, .int .i64 0, .int .i64 0, .bool false, .string ⟨#[]⟩, .slice none 0 0, .string ⟨#[]⟩, .bool false, v, .slice none 0 0] #[.int .i64 n9, .int .i64 n10, .int .i64 n11, .string ⟨x1.toArray⟩, .string ⟨x2.toArray⟩, .bool b0, .string ⟨x3.toArray⟩, .int .i64 s1a, .int .i64 s1t, .int .i64 s1n, .string ⟨x4.toArray⟩, .int .i64 n12] #[.int .i64 n13, .int .i64 s2a, .int .i64 s2t, .int .i64 s2n, .bool b1, .string ⟨x5.toArray⟩, .slice AI kI cI, .string ⟨x6.toArray⟩, .bool b2] rr wr ∧ wr.ownsRow w.heap.size 79 2 (.slice AI kI cI) kI (itF its) ∧ wr.ownsRow w.heap.size 81 5 v k (plF xs) ∧ xs.length = k ∧ rdN rPlace k r29 = (xs, rr) ∧ rr.s.length ≤ N) (fun i _ => c1.toNat - (intOf i).toNat)
   case atStart => exact ⟨0, _, [], r29, rfl, hc10, S29, OI, World.ownsRow_nil _ _ _ _, rfl, rfl, hl29⟩
   case round =>
    clear S29 OI
    obtain ⟨k, v, pls, rr, rfl, hk, hS, OI, hown, hlen, hrd, hlr⟩ := hrel
    have i0 : (0 : Int) ≤ (k : Int) := by omega
    have HRD := Lib.hid hrd
    clear hrd
    obtain ⟨A0, cap0, rfl⟩ := own_slice hown
    by_cases hlt : (k : Int) < c1
    case pos =>
     obtain ⟨ii, hii, hiz, his, hib⟩ := info_parts infoPl
     obtain ⟨x, ra, ea⟩ : ∃ x r, rText rr = (x, r) := ⟨_, _, rfl⟩
     have hla := rText_sl ea hlr
     obtain ⟨y, rb, eb⟩ : ∃ x r, rText ra = (x, r) := ⟨_, _, rfl⟩
     have hlb := rText_sl eb hla
     obtain ⟨p1, rc, ec⟩ : ∃ x r, rNum rb = (x, r) := ⟨_, _, rfl⟩
     have hlc := rNum_sl ec hlb
     obtain ⟨p2, rd, ed⟩ : ∃ x r, rNum rc = (x, r) := ⟨_, _, rfl⟩
     have hld := rNum_sl ed hlc
     obtain ⟨p3, re, ee⟩ : ∃ x r, rNum rd = (x, r) := ⟨_, _, rfl⟩
     have hle := rNum_sl ee hld
     have hx := rPlace_eq ea eb ec ed ee
     have HX := Lib.hid hx
     have EA := Lib.hid ea
     have EB := Lib.hid eb
     have EC := Lib.hid ec
     have ED := Lib.hid ed
     have EE := Lib.hid ee
     clear ea eb ec ed ee hx
     have hk26 : k ≤ 4194304 := by omega
     go_wp2_with fail
     refine (rtext_c gr rr x ra _ EA.out hS.br (Nat.le_trans hlr (by omega))).mono ?_
     rintro e wa ⟨rfl, hB2, hk2⟩
     have Sa := hS.call hB2 hk2
     have Oa := own_kept OI hk2.kept hS.br (by decide)
     have Pa := own_kept hown hk2.kept hS.br (by decide)
     clear hB2 hk2
     go_wp2_with fail
     refine (rtext_c gr ra y rb _ EB.out Sa.br (Nat.le_trans hla (by omega))).mono ?_
     rintro e wb ⟨rfl, hB2, hk2⟩
     have Sb := Sa.call hB2 hk2
     have Ob := own_kept Oa hk2.kept Sa.br (by decide)
     have Pb := own_kept Pa hk2.kept Sa.br (by decide)
     clear hB2 hk2
     go_wp2_with fail
     have Sp := Sb.alloc (.cells #[.string ⟨x.toArray⟩, .string ⟨y.toArray⟩, .int .i64 0, .int .i64 0, .int .i64 0] 81)
     have Op := Ob.alloc (.cells #[.string ⟨x.toArray⟩, .string ⟨y.toArray⟩, .int .i64 0, .int .i64 0, .int .i64 0] 81)
     have Pp := Pb.alloc (.cells #[.string ⟨x.toArray⟩, .string ⟨y.toArray⟩, .int .i64 0, .int .i64 0, .int .i64 0] 81)
     have Bp : Blk (wb.alloc (.cells #[.string ⟨x.toArray⟩, .string ⟨y.toArray⟩, .int .i64 0, .int .i64 0, .int .i64 0] 81)) wb.heap.size 81 #[.string ⟨x.toArray⟩, .string ⟨y.toArray⟩, .int .i64 0, .int .i64 0, .int .i64 0] := Blk.new wb _ _
     have hgp := Sb.ba.lt
     have hgpo : ∀ g, (Value.slice A0 k cap0).ownBlock = some g → g ≠ wb.heap.size := fun g hg => by have := (Pb.lt g hg).2; omega
     generalize (wb.alloc (.cells #[.string ⟨x.toArray⟩, .string ⟨y.toArray⟩, .int .i64 0, .int .i64 0, .int .i64 0] 81)) = wp at *
     generalize wb.heap.size = gp at *
     have hq1 := Sb.l2
     have hq2 := Sb.l3
     have hq3 := Sb.l4
     have hnr : gp ≠ gr := by omega
     clear Sb Ob Pb
     refine (rnum_c gr rb p1 rc _ EC.out Sp.br (Nat.le_trans hlb (by omega))).mono ?_
     rintro e wc1 ⟨rfl, hB2, hk2⟩
     have Sc := Sp.call hB2 hk2
     have Oc := own_kept Op hk2.kept Sp.br (by decide)
     have Pc := own_kept Pp hk2.kept Sp.br (by decide)
     have Bc := hk2.kept _ _ _ hnr Bp
     clear hB2 hk2
     go_wp2_with fail
     refine (rnum_c gr rc p2 rd _ ED.out Sc.br (Nat.le_trans hlc (by omega))).mono ?_
     rintro e wd ⟨rfl, hB2, hk2⟩
     have Sd := Sc.call hB2 hk2
     have Od := own_kept Oc hk2.kept Sc.br (by decide)
     have Pd := own_kept Pc hk2.kept Sc.br (by decide)
     have Bd := hk2.kept _ _ _ hnr Bc
     clear hB2 hk2
     go_wp2_with fail
     refine (rnum_c gr rd p3 re _ EE.out Sd.br (Nat.le_trans hld (by omega))).mono ?_
     rintro e we ⟨rfl, hB2, hk2⟩
     have Se := Sd.call hB2 hk2
     have Oe := own_kept Od hk2.kept Sd.br (by decide)
     have Pe := own_kept Pd hk2.kept Sd.br (by decide)
     have Be := hk2.kept _ _ _ hnr Bd
     clear hB2 hk2
     obtain ⟨gl0, z0, z1, z2, z3, z4, y0, y1, y2, y3, y4⟩ := Be.c5
     go_upto_region 21 with (fail)
     have Sf := ((Se.setx hgp 2 (.int .i64 p1)).setx hgp 3 (.int .i64 p2)).setx hgp 4 (.int .i64 p3)
     have Bf : Blk (((we.setCell ⟨gp, 2, none⟩ (.int .i64 p1)).setCell ⟨gp, 3, none⟩ (.int .i64 p2)).setCell ⟨gp, 4, none⟩ (.int .i64 p3)) gp 81 (plA ⟨x, y, p1, p2, p3⟩) := ((Be.set 2 _).set 3 _).set 4 _
     have Of := own_setT (p := ⟨gp, 4, none⟩) (own_setT (p := ⟨gp, 3, none⟩) (own_setT (p := ⟨gp, 2, none⟩) Oe (.int .i64 p1) Be (by decide)) (.int .i64 p2) (Be.set 2 _) (by decide)) (.int .i64 p3) ((Be.set 2 _).set 3 _) (by decide)
     have Pf : (((we.setCell ⟨gp, 2, none⟩ (.int .i64 p1)).setCell ⟨gp, 3, none⟩ (.int .i64 p2)).setCell ⟨gp, 4, none⟩ (.int .i64 p3)).ownsRow w.heap.size 81 5 (.slice A0 k cap0) k (plF pls) := own_far3 Pe hgpo
     clear gl0 z0 z1 z2 z3 z4 y0 y1 y2 y3 y4 Se Be Oe Pe
     generalize (((we.setCell ⟨gp, 2, none⟩ (.int .i64 p1)).setCell ⟨gp, 3, none⟩ (.int .i64 p2)).setCell ⟨gp, 4, none⟩ (.int .i64 p3)) = wf at *
     obtain ⟨gl0, z0, z1, z2, z3, z4, y0, y1, y2, y3, y4⟩ := Bf.c5
     have c34 : wf.cell? ⟨gm, 34, none⟩ = some (.slice A0 k cap0) := Sf.bm.cell 34
     have f34 := Sf.bm.frozen 34
     have gl34 := Sf.bm.lt
     go_wp2_with (at_builtin; refine wpl_pushR (by rfl) _ _ _ (by rfl) w.heap.size 81 ii _ 5 56 Tryz.underlying48 hii hiz his hib (by rfl) (by decide) wf _ k (plF pls) (by rfl) Pf [.string ⟨x.toArray⟩, .string ⟨y.toArray⟩, .int .i64 p1, .int .i64 p2, .int .i64 p3] rfl ?hu 1 (by rfl) ?h63 ?hby ?hba ?_; (focus (simp [Value.oneCell'])); (focus omega); (focus omega); (focus (exact Sf.below.size)); intro gN capN w3 hownN hbN hkN; have S3 := Sf.grow hbN hkN (by decide) (by decide) (by decide) (by decide); have d34 : w3.cell? ⟨gm, 34, none⟩ = some (.slice A0 k cap0) := S3.bm.cell 34; have g34 := S3.bm.frozen 34; have gl334 := S3.bm.lt; have O3 := own_keptT Of hkN (by decide))
     go_roundw
     case rel =>
      refine ⟨k + 1, _, pls ++ [⟨x, y, p1, p2, p3⟩], re, by go_num, by omega, S3.setm 34 _, own_setT (p := ⟨gm, 34, none⟩) O3 _ S3.bm (by decide), ?_, by simp [hlen], rdN_succ _ _ _ _ _ _ _ HRD.out HX.out, hle⟩
      rw [plF_snoc]
      exact own_setT (p := ⟨gm, 34, none⟩) hownN _ S3.bm (by decide)
     case measure => simp [intOf]; omega
    case neg =>
     have hkeP : (k : Int) = c1 := by omega
     obtain ⟨kP, hh⟩ : ∃ x, x = k := ⟨_, rfl⟩
     subst hh
     obtain ⟨AP, hh⟩ : ∃ x, x = A0 := ⟨_, rfl⟩
     subst hh
     obtain ⟨cP, hh⟩ : ∃ x, x = cap0 := ⟨_, rfl⟩
     subst hh
     obtain ⟨rP, hh⟩ : ∃ x, x = rr := ⟨_, rfl⟩
     subst hh
     have SP := hS
     have OP := hown
     have hlenP := hlen
     have HRP := HRD
     have hlP := hlr
     clear hS hown hlen HRD hlr i0 hk hlt
     obtain ⟨c2, r30, e30⟩ : ∃ c2 r, rCount rP = (c2, r) := ⟨_, _, rfl⟩
     obtain ⟨hl30, hc20, hc21⟩ := rCount_sl e30 hlP
     have E30 := Lib.hid e30
     clear e30
     go_wp2_with fail
     refine (rlist_c gr rP c2 r30 _ E30.out SP.br (Nat.le_trans hlP (by omega))).mono ?_
     rintro e w30 ⟨rfl, hB, hk⟩
     have OIk := own_kept OI hk.kept SP.br (by decide)
     clear OI
     have OI := OIk
     clear OIk
     have OPk := own_kept OP hk.kept SP.br (by decide)
     clear OP
     have OP := OPk
     clear OPk
     have S30 : TM w gz gr gm gq ga #[.int .i64 n0, .int .i64 n1, .int .i64 n2, .int .i64 n3, .int .i64 n4, .int .i64 n5, .int .i64 n6, .int .i64 n7, .int .i64 n8, .int .i64 s0a, .int .i64 s0t, .int .i64 s0n, .string ⟨x0.toArray⟩, .int .i64 0, .int .i64 0, .int .i64 0, .string ⟨#[]⟩, .string ⟨#[]⟩, .bool false, .string ⟨#[]⟩, .int .i64 0, .int .i64 0, .int .i64 0, .string ⟨#[]⟩, .int .i64 0, .int .i64 0, .int .i64 0, .int .i64 0, .int .i64 0, .bool false, .string ⟨#[]⟩, .slice none 0 0, .string ⟨#[]⟩, .bool false, .slice AP kP cP, .slice none 0 0] #[.int .i64 n9, .int .i64 n10, .int .i64 n11, .string ⟨x1.toArray⟩, .string ⟨x2.toArray⟩, .bool b0, .string ⟨x3.toArray⟩, .int .i64 s1a, .int .i64 s1t, .int .i64 s1n, .string ⟨x4.toArray⟩, .int .i64 n12] #[.int .i64 n13, .int .i64 s2a, .int .i64 s2t, .int .i64 s2n, .bool b1, .string ⟨x5.toArray⟩, .slice AI kI cI, .string ⟨x6.toArray⟩, .bool b2] r30 w30 := SP.call hB hk
     clear hB hk SP
     clear hlP
     go_wp2_with fail
     go_loopw [136] (fun i wr => ∃ (k : Nat) (v : Value) (xs : List Int) (rr : RS), i = .int .i64 k ∧ (k : Int) ≤ c2 ∧ TM w gz gr gm gq ga #[.int .i64 n0, .int .i64 n1, .int .i64 n2, .int .i64 n3, .int .i64 n4, .int .i64 n5, .int .i64 n6, .int .i64 n7, .int .i64 n8, .int .i64 s0a, .int .i64 s0t, .int .i64 s0n, .string ⟨x0.toArray⟩, .int .i64 0, .int .i64 0, .int .i64 0, .string ⟨#[]⟩, .string ⟨#[]⟩, .bool false, .string ⟨#[]⟩, .int .i64 0, .int .i64 0, .int .i64 0, .string ⟨#[]⟩, .int .i64 0, .int .i64 0, .int .i64 0, .int .i64 0, .int .i64 0, .bool false, .string ⟨#[]⟩, .slice none 0 0, .string ⟨#[]⟩, .bool false, .slice AP kP cP, v] #[.int .i64 n9, .int .i64 n10, .int .i64 n11, .string ⟨x1.toArray⟩, .string ⟨x2.toArray⟩, .bool b0, .string ⟨x3.toArray⟩, .int .i64 s1a, .int .i64 s1t, .int .i64 s1n, .string ⟨x4.toArray⟩, .int .i64 n12] #[.int .i64 n13, .int .i64 s2a, .int .i64 s2t, .int .i64 s2n, .bool b1, .string ⟨x5.toArray⟩, .slice AI kI cI, .string ⟨x6.toArray⟩, .bool b2] rr wr ∧ wr.ownsRow w.heap.size 79 2 (.slice AI kI cI) kI (itF its) ∧ wr.ownsRow w.heap.size 81 5 (.slice AP kP cP) kP (plF pls) ∧ wr.ownsRow w.heap.size 3 1 v k (ivF xs) ∧ xs.length = k ∧ rdN rNum k r30 = (xs, rr) ∧ rr.s.length ≤ N) (fun i _ => c2.toNat - (intOf i).toNat)
     case atStart => exact ⟨0, _, [], r30, rfl, hc20, S30, OI, OP, World.ownsRow_nil _ _ _ _, rfl, rfl, hl30⟩
     case round =>
      clear S30 OI OP
      obtain ⟨k, v, mbs, rr, rfl, hk, hS, OI, OP, hown, hlen, hrd, hlr⟩ := hrel
      have i0 : (0 : Int) ≤ (k : Int) := by omega
      have HRD := Lib.hid hrd
      clear hrd
      obtain ⟨A0, cap0, rfl⟩ := own_slice hown
      by_cases hlt : (k : Int) < c2
      case pos =>
       obtain ⟨ii, hii, hiz, his, hib⟩ := info_parts infoI0
       obtain ⟨x, ra, ea⟩ : ∃ x r, rNum rr = (x, r) := ⟨_, _, rfl⟩
       have hla := rNum_sl ea hlr
       have EA := Lib.hid ea
       clear ea
       have hk26 : k ≤ 4194304 := by omega
       have c6 : wr.cell? ⟨gm, 35, none⟩ = some (.slice A0 k cap0) := hS.bm.cell 35
       have f6 := hS.bm.frozen 35
       have gl6 := hS.bm.lt
       go_wp2_with fail
       go_region_law (first
        | (go_simp; go_at_call 27; refine (rnum_c gr rr x ra _ EA.out hS.drew.br (Nat.le_trans hlr (by omega))).mono ?_; rintro e wb ⟨rfl, hB1, hk1⟩; have Sb := hS.drew.call hB1 hk1; have cb6 : wb.cell? ⟨gm, 35, none⟩ = some (.slice A0 k cap0) := Sb.bm.cell 35; have fb6 := Sb.bm.frozen 35; have gb6 := Sb.bm.lt; have Ob := own_kept (w := wr.drew) hown hk1.kept hS.drew.br (by decide); have OIb := own_kept (w := wr.drew) OI hk1.kept hS.drew.br (by decide); have OPb := own_kept (w := wr.drew) OP hk1.kept hS.drew.br (by decide); clear hB1 hk1)
        | (refine step_pushR (by rfl) _ _ _ (by rfl) w.heap.size 3 ii _ 1 8 Tryz.underlying49 hii hiz his hib (by rfl) (by decide) wb _ k (ivF mbs) (by rfl) Ob [.int .i64 x] rfl ?qhu 1 (by rfl) ?qh63 ?qhby ?qhba ?_; (case qhu => simp [Value.oneCell']); (case qh63 => omega); (case qhby => omega); (case qhba => exact Sb.below.size); intro gN capN w3 hownN hbN hkN; have S3 := Sb.grow hbN hkN (by decide) (by decide) (by decide) (by decide); have d6 : w3.cell? ⟨gm, 35, none⟩ = some (.slice A0 k cap0) := S3.bm.cell 35; have g6 := S3.bm.frozen 35; have gl36 := S3.bm.lt; have OI3 := own_keptT OIb hkN (by decide); have OP3 := own_keptT OPb hkN (by decide)))
       all_goals
        go_wp2_with fail
        go_roundw
        case rel =>
         refine ⟨k + 1, _, mbs ++ [x], ra, by go_num, by omega, S3.setm 35 _, own_setT (p := ⟨gm, 35, none⟩) OI3 _ S3.bm (by decide), own_setT (p := ⟨gm, 35, none⟩) OP3 _ S3.bm (by decide), ?_, by simp [hlen], rdN_succ _ _ _ _ _ _ _ HRD.out EA.out, hla⟩
         rw [show ivF (mbs ++ [x]) = ivF mbs ++ [.int .i64 x] by simp [ivF]]
         exact own_setT (p := ⟨gm, 35, none⟩) hownN _ S3.bm (by decide)
        case measure => simp [intOf]; omega
      case neg =>
       have hkeM : (k : Int) = c2 := by omega
       obtain ⟨kM, hh⟩ : ∃ x, x = k := ⟨_, rfl⟩
       subst hh
       obtain ⟨AM, hh⟩ : ∃ x, x = A0 := ⟨_, rfl⟩
       subst hh
       obtain ⟨cM, hh⟩ : ∃ x, x = cap0 := ⟨_, rfl⟩
       subst hh
       obtain ⟨rM, hh⟩ : ∃ x, x = rr := ⟨_, rfl⟩
       subst hh
       have SM := hS
       have OM := hown
       have hlenM := hlen
       have HRM := HRD
       have hlM := hlr
       clear hS hown hlen HRD hlr i0 hk hlt
       have hoq : (#[.int .i64 n9, .int .i64 n10, .int .i64 n11, .string ⟨x1.toArray⟩, .string ⟨x2.toArray⟩, .bool b0, .string ⟨x3.toArray⟩, .int .i64 s1a, .int .i64 s1t, .int .i64 s1n, .string ⟨x4.toArray⟩, .int .i64 n12] : Array Value).all (·.oneCell') = true := (by with_unfolding_all rfl)
       have hoa : (#[.int .i64 n13, .int .i64 s2a, .int .i64 s2t, .int .i64 s2n, .bool b1, .string ⟨x5.toArray⟩, .slice AI kI cI, .string ⟨x6.toArray⟩, .bool b2] : Array Value).all (·.oneCell') = true := (by with_unfolding_all rfl)
       go_wp2_with fail
       refine wp_region_held_drew (S := fun W' => ∃ mc, mc.size = 36 ∧ TM w gz gr gm gq ga mc #[.int .i64 n9, .int .i64 n10, .int .i64 n11, .string ⟨x1.toArray⟩, .string ⟨x2.toArray⟩, .bool b0, .string ⟨x3.toArray⟩, .int .i64 s1a, .int .i64 s1t, .int .i64 s1n, .string ⟨x4.toArray⟩, .int .i64 n12] #[.int .i64 n13, .int .i64 s2a, .int .i64 s2t, .int .i64 s2n, .bool b1, .string ⟨x5.toArray⟩, .slice AI kI cI, .string ⟨x6.toArray⟩, .bool b2] rM W') (by kernel_rfl) ⟨_, rfl, SM.drew⟩ (fun hH => ?_)
       refine tk 0 (.agg #[.int .i64 n9, .int .i64 n10, .int .i64 n11, .string ⟨x1.toArray⟩, .string ⟨x2.toArray⟩, .bool b0, .string ⟨x3.toArray⟩, .int .i64 s1a, .int .i64 s1t, .int .i64 s1n, .string ⟨x4.toArray⟩, .int .i64 n12]) 146 rfl rfl (by kernel_rfl) (fun _ _ _ h => h) (yif_ld (by rfl) 44 _ rfl (by rfl) (fun _ h => h.choose_spec.2.bq) _ Tryz.underlying44 (by with_unfolding_all rfl) (by with_unfolding_all rfl)) hH ?_
       try simp only [Act.put, aset]
       refine tk 1 (.agg #[.int .i64 n13, .int .i64 s2a, .int .i64 s2t, .int .i64 s2n, .bool b1, .string ⟨x5.toArray⟩, .slice AI kI cI, .string ⟨x6.toArray⟩, .bool b2]) 147 rfl rfl (by kernel_rfl) (fun _ _ _ h => h) (yif_ld (by rfl) 47 _ rfl (by rfl) (fun _ h => h.choose_spec.2.ba) _ Tryz.underlying47 (by with_unfolding_all rfl) (by with_unfolding_all rfl)) hH ?_
       try simp only [Act.put, aset]
       refine tk 2 (.pointer (some ⟨gm, 13, none⟩)) 148 rfl rfl (by kernel_rfl) (fun _ _ _ h => h) (.inl ⟨by rfl, by intro W' hS; go_simp⟩) hH ?_
       try simp only [Act.put, aset]
       clear hH
       refine wpAnyH_ready (rs := [3]) (by kernel_rfl) (by simp) ?_
       refine AllReadyH.cons rfl (fun K hK => ?_) AllReadyH.nil
       refine wp_stm SM.drew.bm (by rfl) 44 _ _ rfl 13 #[.int .i64 n9, .int .i64 n10, .int .i64 n11, .string ⟨x1.toArray⟩, .string ⟨x2.toArray⟩, .bool b0, .string ⟨x3.toArray⟩, .int .i64 s1a, .int .i64 s1t, .int .i64 s1n, .string ⟨x4.toArray⟩, .int .i64 n12] (by rfl) (by rfl) (Nat.le_of_ble_eq_true rfl) (by with_unfolding_all rfl) hoq ?_
       intro W1 e1
       have S1 := SM.drew.setms #[.int .i64 n9, .int .i64 n10, .int .i64 n11, .string ⟨x1.toArray⟩, .string ⟨x2.toArray⟩, .bool b0, .string ⟨x3.toArray⟩, .int .i64 s1a, .int .i64 s1t, .int .i64 s1n, .string ⟨x4.toArray⟩, .int .i64 n12].toList 13
       rw [← e1] at S1
       have OI1 : W1.ownsRow w.heap.size 79 2 (.slice AI kI cI) kI (itF its) := by rw [e1]; exact own_setCells (by decide) _ _ _ _ SM.drew.bm OI
       have OP1 : W1.ownsRow w.heap.size 81 5 (.slice AP kP cP) kP (plF pls) := by rw [e1]; exact own_setCells (by decide) _ _ _ _ SM.drew.bm OP
       have OM1 : W1.ownsRow w.heap.size 3 1 (.slice AM kM cM) kM (ivF mbs) := by rw [e1]; exact own_setCells (by decide) _ _ _ _ SM.drew.bm OM
       clear e1 SM OI OP OM
       refine hK.out _ _ ⟨_, by rw [putAll_size] <;> rfl, S1⟩ (fun hH => ?_)
       clear hK K
       try simp only [Act.put, aset]
       refine tk 4 (.pointer (some ⟨gm, 25, none⟩)) 149 rfl rfl (by kernel_rfl) (fun _ _ _ h => h) (.inl ⟨by rfl, by intro W' hS; go_simp⟩) hH ?_
       try simp only [Act.put, aset]
       clear hH
       refine wpAnyH_ready (rs := [5]) (by kernel_rfl) (by simp) ?_
       refine AllReadyH.cons rfl (fun K hK => ?_) AllReadyH.nil
       refine wp_stm S1.bm (by rfl) 47 _ _ rfl 25 #[.int .i64 n13, .int .i64 s2a, .int .i64 s2t, .int .i64 s2n, .bool b1, .string ⟨x5.toArray⟩, .slice AI kI cI, .string ⟨x6.toArray⟩, .bool b2] (by rfl) (by rfl) (by rw [putAll_size]; exact Nat.le_of_ble_eq_true rfl) (by with_unfolding_all rfl) hoa ?_
       intro W2 e2
       have S2 := S1.setms #[.int .i64 n13, .int .i64 s2a, .int .i64 s2t, .int .i64 s2n, .bool b1, .string ⟨x5.toArray⟩, .slice AI kI cI, .string ⟨x6.toArray⟩, .bool b2].toList 25 _ _
       rw [← e2] at S2
       have hput : putAll (putAll #[.int .i64 n0, .int .i64 n1, .int .i64 n2, .int .i64 n3, .int .i64 n4, .int .i64 n5, .int .i64 n6, .int .i64 n7, .int .i64 n8, .int .i64 s0a, .int .i64 s0t, .int .i64 s0n, .string ⟨x0.toArray⟩, .int .i64 0, .int .i64 0, .int .i64 0, .string ⟨#[]⟩, .string ⟨#[]⟩, .bool false, .string ⟨#[]⟩, .int .i64 0, .int .i64 0, .int .i64 0, .string ⟨#[]⟩, .int .i64 0, .int .i64 0, .int .i64 0, .int .i64 0, .int .i64 0, .bool false, .string ⟨#[]⟩, .slice none 0 0, .string ⟨#[]⟩, .bool false, .slice AP kP cP, .slice AM kM cM] 13 #[.int .i64 n9, .int .i64 n10, .int .i64 n11, .string ⟨x1.toArray⟩, .string ⟨x2.toArray⟩, .bool b0, .string ⟨x3.toArray⟩, .int .i64 s1a, .int .i64 s1t, .int .i64 s1n, .string ⟨x4.toArray⟩, .int .i64 n12].toList) 25 #[.int .i64 n13, .int .i64 s2a, .int .i64 s2t, .int .i64 s2n, .bool b1, .string ⟨x5.toArray⟩, .slice AI kI cI, .string ⟨x6.toArray⟩, .bool b2].toList = msA (⟨n0, n1, n2, n3, n4, n5, n6, n7, n8, s0a, s0t, s0n, x0, ⟨n9, n10, n11, x1, x2, b0, x3, s1a, s1t, s1n, x4, n12⟩, ⟨n13, s2a, s2t, s2n, b1, x5, AI, kI, cI, x6, b2⟩, AP, kP, cP, AM, kM, cM⟩ : Ms) := by kernel_rfl
       rw [hput] at S2
       clear hput
       have OI2 : W2.ownsRow w.heap.size 79 2 (.slice AI kI cI) kI (itF its) := by rw [e2]; exact own_setCells (by decide) _ _ _ _ S1.bm OI1
       have OP2 : W2.ownsRow w.heap.size 81 5 (.slice AP kP cP) kP (plF pls) := by rw [e2]; exact own_setCells (by decide) _ _ _ _ S1.bm OP1
       have OM2 : W2.ownsRow w.heap.size 3 1 (.slice AM kM cM) kM (ivF mbs) := by rw [e2]; exact own_setCells (by decide) _ _ _ _ S1.bm OM1
       clear e2 S1 OI1 OP1 OM1
       refine hK.out _ _ ⟨_, by rfl, S2⟩ (fun hH => ?_)
       clear hK K hH hoq hoa
       refine wpAnyH_done (by kernel_rfl) ?_ _
       have hread : fMsg.rd ⟨false, t⟩ = (tupM (⟨n0, n1, n2, n3, n4, n5, n6, n7, n8, s0a, s0t, s0n, x0, ⟨n9, n10, n11, x1, x2, b0, x3, s1a, s1t, s1n, x4, n12⟩, ⟨n13, s2a, s2t, s2n, b1, x5, AI, kI, cI, x6, b2⟩, AP, kP, cP, AM, kM, cM⟩ : Ms) its pls mbs, rM) := seq_eq (E1.out) (seq_eq (E2.out) (seq_eq (E3.out) (seq_eq (E4.out) (seq_eq (E5.out) (seq_eq (E6.out) (seq_eq (E7.out) (seq_eq (E8.out) (seq_eq (E9.out) (seq_eq (E10.out) (seq_eq (E11.out) (seq_eq (E12.out) (seq_eq (E13.out) (seq_eq (E14.out) (seq_eq (E15.out) (seq_eq (E16.out) (seq_eq (E17.out) (seq_eq (E18.out) (seq_eq (E19.out) (seq_eq (E20.out) (seq_eq (E21.out) (seq_eq (E22.out) (seq_eq (E23.out) (seq_eq (E24.out) (seq_eq (E25.out) (seq_eq (list_eq E26.out hkeI HRI.out) (seq_eq (E27.out) (seq_eq (E28.out) (seq_eq (list_eq E29.out hkeP HRP.out) (list_eq E30.out hkeM HRM.out)))))))))))))))))))))))))))))
       have HREAD := Lib.hid hread
       clear hread E1 E2 E3 E4 E5 E6 E7 E8 E9 E10 E11 E12 E13 E14 E15 E16 E17 E18 E19 E20 E21 E22 E23 E24 E25 E26 E27 E28 E29 E30 HRI HRP HRM
       have hMF : ∀ W' : World, W'.ownsRow w.heap.size 79 2 (.slice AI kI cI) kI (itF its) → W'.ownsRow w.heap.size 81 5 (.slice AP kP cP) kP (plF pls) → W'.ownsRow w.heap.size 3 1 (.slice AM kM cM) kM (ivF mbs) → MsgIn (⟨n0, n1, n2, n3, n4, n5, n6, n7, n8, s0a, s0t, s0n, x0, ⟨n9, n10, n11, x1, x2, b0, x3, s1a, s1t, s1n, x4, n12⟩, ⟨n13, s2a, s2t, s2n, b1, x5, AI, kI, cI, x6, b2⟩, AP, kP, cP, AM, kM, cM⟩ : Ms) its pls mbs W' := fun W' a b c => ⟨hlenI, hlenP, hlenM, own_cap a, own_cap b, own_cap c, by show kI ≤ _; omega, by show kP ≤ _; omega, by show kM ≤ _; omega, own_rdr itC 2 (fun _ => rfl) a hlenI, own_rdr plC 5 (fun _ => rfl) b hlenP, (own_i64s c).1⟩
       have hMI := hMF W2 OI2 OP2 OM2
       clear hkeI hkeP hkeM
       generalize hmm : (⟨n0, n1, n2, n3, n4, n5, n6, n7, n8, s0a, s0t, s0n, x0, ⟨n9, n10, n11, x1, x2, b0, x3, s1a, s1t, s1n, x4, n12⟩, ⟨n13, s2a, s2t, s2n, b1, x5, AI, kI, cI, x6, b2⟩, AP, kP, cP, AM, kM, cM⟩ : Ms) = mm at *
       clear hmm
       obtain ⟨bd, rs⟩ := rM
       have z0 : W2.cell? ⟨gr, 0, none⟩ = some (.string ⟨rs.toArray⟩) := S2.br.cell 0
       have z1 : W2.cell? ⟨gr, 1, none⟩ = some (.bool bd) := S2.br.cell 1
       cases bd
       case true =>
        have D : ∀ w', w' = W2.setRow gz zmA → Below w.heap.size w w' ∧ Blk w' gz 51 zmA := by
         rintro _ rfl
         exact S2.rowz zmA
        go_wp2_with (with_reducible refine wpl_st S2.bz (by with_unfolding_all rfl) 51 _ _ (by with_unfolding_all rfl) zmA (by with_unfolding_all rfl) (by with_unfolding_all rfl) (by with_unfolding_all rfl) (by with_unfolding_all rfl) hho ?_; refine Classical.byContradiction fun hno => ?_)
        refine hno ?_
        clear hno
        intro wz ez
        obtain ⟨bz, Fz⟩ := D wz ez
        clear ez D
        go_wp2_with fail
        exact bodyPost_ret (res2c Fz rfl rfl _ rfl _ Tryz.underlying51 rfl rfl) rfl (Or.inr ⟨rfl, mm, its, pls, mbs, _, HREAD.out, hMI.ni, hMI.np, hMI.nl, Or.inl rfl, bz⟩)
       case false =>
       by_cases hrs : rs = []
       case neg =>
        have hie := is_ne hrs
        have HRS := Lib.hid hrs
        clear hrs
        have D : ∀ w', w' = W2.setRow gz zmA → Below w.heap.size w w' ∧ Blk w' gz 51 zmA := by
         rintro _ rfl
         exact S2.rowz zmA
        go_wp2_with (with_reducible refine wpl_st S2.bz (by with_unfolding_all rfl) 51 _ _ (by with_unfolding_all rfl) zmA (by with_unfolding_all rfl) (by with_unfolding_all rfl) (by with_unfolding_all rfl) (by with_unfolding_all rfl) hho ?_; refine Classical.byContradiction fun hno => ?_)
        refine hno ?_
        clear hno
        intro wz ez
        obtain ⟨bz, Fz⟩ := D wz ez
        clear ez D
        go_wp2_with fail
        exact bodyPost_ret (res2c Fz rfl rfl _ rfl _ Tryz.underlying51 rfl rfl) rfl (Or.inr ⟨rfl, mm, its, pls, mbs, _, HREAD.out, hMI.ni, hMI.np, hMI.nl, Or.inr (Or.inl HRS.out), bz⟩)
       case pos =>
       subst hrs
       go_wp2_with (with_reducible refine wpl_ldg S2.bm (by with_unfolding_all rfl) 51 _ (by with_unfolding_all rfl) (by with_unfolding_all rfl) _ Tryz.underlying51 (by with_unfolding_all rfl) (by with_unfolding_all rfl) ?_)
       refine (rightmsg_any mm its pls mbs W2 hMI).mono ?_
       rintro e W3 ⟨rfl, d3⟩
       have S3 : TM w gz gr gm gq ga (msA mm) #[.int .i64 n9, .int .i64 n10, .int .i64 n11, .string ⟨x1.toArray⟩, .string ⟨x2.toArray⟩, .bool b0, .string ⟨x3.toArray⟩, .int .i64 s1a, .int .i64 s1t, .int .i64 s1n, .string ⟨x4.toArray⟩, .int .i64 n12] #[.int .i64 n13, .int .i64 s2a, .int .i64 s2t, .int .i64 s2n, .bool b1, .string ⟨x5.toArray⟩, .slice AI kI cI, .string ⟨x6.toArray⟩, .bool b2] ⟨false, []⟩ W3 := { S2 with below := S2.below.trans (d3.mono S2.below.size), bz := S2.bz.keep d3, br := S2.br.keep d3, bm := S2.bm.keep d3, bq := S2.bq.keep d3, ba := S2.ba.keep d3 }
       have OI3 := own_below OI2 d3 (Nat.le_refl _)
       have OP3 := own_below OP2 d3 (Nat.le_refl _)
       have OM3 := own_below OM2 d3 (Nat.le_refl _)
       clear z0 z1 S2
       cases hr : rightM mm pls mbs
       case false =>
        have HR := Lib.hid hr
        clear hr
        have D : ∀ w', w' = W3.setRow gz zmA → Below w.heap.size w w' ∧ Blk w' gz 51 zmA := by
         rintro _ rfl
         exact S3.rowz zmA
        go_wp2_with (with_reducible refine wpl_st S3.bz (by with_unfolding_all rfl) 51 _ _ (by with_unfolding_all rfl) zmA (by with_unfolding_all rfl) (by with_unfolding_all rfl) (by with_unfolding_all rfl) (by with_unfolding_all rfl) hho ?_; refine Classical.byContradiction fun hno => ?_)
        refine hno ?_
        clear hno
        intro wz ez
        obtain ⟨bz, Fz⟩ := D wz ez
        clear ez D
        go_wp2_with fail
        exact bodyPost_ret (res2c Fz rfl rfl _ rfl _ Tryz.underlying51 rfl rfl) rfl (Or.inr ⟨rfl, mm, its, pls, mbs, _, HREAD.out, hMI.ni, hMI.np, hMI.nl, Or.inr (Or.inr HR.out), bz⟩)
       case true =>
        have HR := Lib.hid hr
        clear hr
        have hom : (msA mm).toList.all (·.oneCell') = true := (by with_unfolding_all rfl)
        have D : ∀ w', w' = W3.setRow gz (msA mm) → Below w.heap.size w w' ∧ Blk w' gz 51 (msA mm) ∧ MsgIn mm its pls mbs w' := by
         rintro _ rfl
         exact ⟨(S3.rowz _).1, (S3.rowz _).2, hMF _ (own_rowT OI3 S3.bz (by decide) _) (own_rowT OP3 S3.bz (by decide) _) (own_rowT OM3 S3.bz (by decide) _)⟩
        go_wp2_with (first | (with_reducible refine wpl_ld S3.bm (by with_unfolding_all rfl) 51 _ (by with_unfolding_all rfl) (by with_unfolding_all rfl) _ Tryz.underlying51 (by with_unfolding_all rfl) (by with_unfolding_all rfl) ?_) | (with_reducible refine wpl_st S3.bz (by with_unfolding_all rfl) 51 _ _ (by with_unfolding_all rfl) (msA mm) (by with_unfolding_all rfl) (by with_unfolding_all rfl) (by with_unfolding_all rfl) (by with_unfolding_all rfl) hom ?_; refine Classical.byContradiction fun hno => ?_))
        refine hno ?_
        clear hno
        intro wz ez
        obtain ⟨bz, Fz, hMz⟩ := D wz ez
        clear ez D
        go_wp2_with fail
        exact bodyPost_ret (res2c Fz rfl rfl _ rfl _ Tryz.underlying51 rfl rfl) rfl (Or.inl ⟨mm, its, pls, mbs, rfl, HREAD.out, HR.out, hMz, bz⟩)
end Go.Proofs.YtkoligiilieboaaGreatDoor
