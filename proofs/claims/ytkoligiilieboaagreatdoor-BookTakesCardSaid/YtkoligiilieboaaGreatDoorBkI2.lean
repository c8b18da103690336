/- The reader's shard. -/
import Derived.Test.YtkoligiilieboaaGreatDoorBkI
import Derived.Deep.CutRange
import Derived.Deep.RegionLaw
import Derived.Deep.AppendLies
set_option linter.unusedSimpArgs false
set_option linter.unusedVariables false
namespace Go.Proofs.YtkoligiilieboaaGreatDoor
open Go.RowKit
attribute [local go_sem] ByteArray.mk_append_mk ByteArray.extract_mk
attribute [local go_sem ↓] Go.wp_at_zero Go.wp_at_succ
def RShPost (gr : Nat) (r : RS) (N : Nat) (w : World) (e : Ending) (w' : World) : Prop :=
  ∃ (s : Sh) (r' : RS), e = .returned (shV s) ∧ fSh.rd r = (shF s, r') ∧ r'.s.length ≤ N ∧ Blk w' gr 70 (rsA r') ∧ Kr gr w w' ∧ OwnSh w.heap.size s w'
set_option maxHeartbeats 64000000 in
set_option maxRecDepth 100000 in
theorem rshd_any (gr : Nat) (r0 : RS) (N : Nat) (hN : N ≤ 4194304) (hN2 : r0.s.length ≤ N) (w : World) (hB0 : Blk w gr 70 (rsA r0)) :
    Calls Tryz.prog 23 #[.pointer (some ⟨gr, 0, none⟩)] w (RShPost gr r0 N w) := by
  have hho : zsA.toList.all (·.oneCell') = true := (by with_unfolding_all rfl)
  have hgr := hB0.lt
  go_enter Tryz.func23, Tryz.ntmps23
  go_upto_region 2 with (fail)
  have S0 : RB w gr w.heap.size (w.heap.size + 1) zsA r0 ((w.alloc (.cells zsA 30)).alloc (.cells zsA 30)) :=
    ⟨(Kr.refl.alloc hgr _).alloc hgr _, hgr, Nat.le_refl _, by omega, (hB0.alloc _).alloc _, (Blk.new w _ _).alloc _, Blk.new' _ _ _ _ (by simp)⟩
  generalize (w.alloc (.cells zsA 30)).alloc (.cells zsA 30) = W0 at *
  generalize hg1 : w.heap.size + 1 = gs at *
  generalize hg0 : w.heap.size = gz at *
  clear hB0
  obtain ⟨n0, r1, e1⟩ : ∃ n0 r, rNum r0 = (n0, r) := ⟨_, _, rfl⟩
  have hl1 := rNum_sl e1 hN2
  have E1 := Lib.hid e1
  clear e1
  go_wp2_with fail
  refine (rnum_c gr r0 n0 r1 _ E1.out S0.br (Nat.le_trans hN2 (by omega))).mono ?_
  rintro e w1 ⟨rfl, hB, hk⟩
  have S1 : RB w gr gz gs #[.int .i64 0, .int .i64 0, .string ⟨#[]⟩, .string ⟨#[]⟩, .int .i64 0, .slice none 0 0, .int .i64 0, .int .i64 0, .int .i64 0, .int .i64 0, .int .i64 0, .int .i64 0, .slice none 0 0, .int .i64 0, .int .i64 0, .int .i64 0, .int .i64 0] r1 w1 := S0.call hB hk
  clear hB hk S0
  obtain ⟨n1, r2, e2⟩ : ∃ n1 r, rNum r1 = (n1, r) := ⟨_, _, rfl⟩
  have hl2 := rNum_sl e2 hl1
  have E2 := Lib.hid e2
  clear e2
  go_wp2_with fail
  refine (rnum_c gr r1 n1 r2 _ E2.out S1.br (Nat.le_trans hl1 (by omega))).mono ?_
  rintro e w2 ⟨rfl, hB, hk⟩
  have S2 : RB w gr gz gs #[.int .i64 0, .int .i64 0, .string ⟨#[]⟩, .string ⟨#[]⟩, .int .i64 0, .slice none 0 0, .int .i64 0, .int .i64 0, .int .i64 0, .int .i64 0, .int .i64 0, .int .i64 0, .slice none 0 0, .int .i64 0, .int .i64 0, .int .i64 0, .int .i64 0] r2 w2 := S1.call hB hk
  clear hB hk S1
  clear hl1
  obtain ⟨n2, r3, e3⟩ : ∃ n2 r, rNum r2 = (n2, r) := ⟨_, _, rfl⟩
  have hl3 := rNum_sl e3 hl2
  have E3 := Lib.hid e3
  clear e3
  go_wp2_with fail
  refine (rnum_c gr r2 n2 r3 _ E3.out S2.br (Nat.le_trans hl2 (by omega))).mono ?_
  rintro e w3 ⟨rfl, hB, hk⟩
  have S3 : RB w gr gz gs #[.int .i64 0, .int .i64 0, .string ⟨#[]⟩, .string ⟨#[]⟩, .int .i64 0, .slice none 0 0, .int .i64 0, .int .i64 0, .int .i64 0, .int .i64 0, .int .i64 0, .int .i64 0, .slice none 0 0, .int .i64 0, .int .i64 0, .int .i64 0, .int .i64 0] r3 w3 := S2.call hB hk
  clear hB hk S2
  clear hl2
  obtain ⟨n3, r4, e4⟩ : ∃ n3 r, rNum r3 = (n3, r) := ⟨_, _, rfl⟩
  have hl4 := rNum_sl e4 hl3
  have E4 := Lib.hid e4
  clear e4
  go_wp2_with fail
  refine (rnum_c gr r3 n3 r4 _ E4.out S3.br (Nat.le_trans hl3 (by omega))).mono ?_
  rintro e w4 ⟨rfl, hB, hk⟩
  have S4 : RB w gr gz gs #[.int .i64 0, .int .i64 0, .string ⟨#[]⟩, .string ⟨#[]⟩, .int .i64 0, .slice none 0 0, .int .i64 0, .int .i64 0, .int .i64 0, .int .i64 0, .int .i64 0, .int .i64 0, .slice none 0 0, .int .i64 0, .int .i64 0, .int .i64 0, .int .i64 0] r4 w4 := S3.call hB hk
  clear hB hk S3
  clear hl3
  have c0 : w4.cell? ⟨gs, 0, none⟩ = some (.int .i64 0) := S4.bs.cell 0
  have f0 := S4.bs.frozen 0
  have c1 : w4.cell? ⟨gs, 1, none⟩ = some (.int .i64 0) := S4.bs.cell 1
  have f1 := S4.bs.frozen 1
  have c4 : w4.cell? ⟨gs, 4, none⟩ = some (.int .i64 0) := S4.bs.cell 4
  have f4 := S4.bs.frozen 4
  have c13 : w4.cell? ⟨gs, 13, none⟩ = some (.int .i64 0) := S4.bs.cell 13
  have f13 := S4.bs.frozen 13
  have gsl := S4.bs.lt
  obtain ⟨n4, r5, e5⟩ : ∃ n4 r, rNum r4 = (n4, r) := ⟨_, _, rfl⟩
  have hl5 := rNum_sl e5 hl4
  have E5 := Lib.hid e5
  clear e5
  go_wp2_with fail
  clear c0 f0 c1 f1 c4 f4 c13 f13 gsl
  have T5 : RB w gr gz gs #[.int .i64 n0, .int .i64 n1, .string ⟨#[]⟩, .string ⟨#[]⟩, .int .i64 n2, .slice none 0 0, .int .i64 0, .int .i64 0, .int .i64 0, .int .i64 0, .int .i64 0, .int .i64 0, .slice none 0 0, .int .i64 n3, .int .i64 0, .int .i64 0, .int .i64 0] r4 ((((w4.setCell ⟨gs, 0, none⟩ (.int .i64 n0)).setCell ⟨gs, 1, none⟩ (.int .i64 n1)).setCell ⟨gs, 4, none⟩ (.int .i64 n2)).setCell ⟨gs, 13, none⟩ (.int .i64 n3)) := ((((S4).sets 0 (.int .i64 n0)).sets 1 (.int .i64 n1)).sets 4 (.int .i64 n2)).sets 13 (.int .i64 n3)
  clear S4
  refine (rnum_c gr r4 n4 r5 _ E5.out T5.br (Nat.le_trans hl4 (by omega))).mono ?_
  rintro e w5 ⟨rfl, hB, hk⟩
  have S5 : RB w gr gz gs #[.int .i64 n0, .int .i64 n1, .string ⟨#[]⟩, .string ⟨#[]⟩, .int .i64 n2, .slice none 0 0, .int .i64 0, .int .i64 0, .int .i64 0, .int .i64 0, .int .i64 0, .int .i64 0, .slice none 0 0, .int .i64 n3, .int .i64 0, .int .i64 0, .int .i64 0] r5 w5 := T5.call hB hk
  clear hB hk T5
  clear hl4
  obtain ⟨n5, r6, e6⟩ : ∃ n5 r, rNum r5 = (n5, r) := ⟨_, _, rfl⟩
  have hl6 := rNum_sl e6 hl5
  have E6 := Lib.hid e6
  clear e6
  go_wp2_with fail
  refine (rnum_c gr r5 n5 r6 _ E6.out S5.br (Nat.le_trans hl5 (by omega))).mono ?_
  rintro e w6 ⟨rfl, hB, hk⟩
  have S6 : RB w gr gz gs #[.int .i64 n0, .int .i64 n1, .string ⟨#[]⟩, .string ⟨#[]⟩, .int .i64 n2, .slice none 0 0, .int .i64 0, .int .i64 0, .int .i64 0, .int .i64 0, .int .i64 0, .int .i64 0, .slice none 0 0, .int .i64 n3, .int .i64 0, .int .i64 0, .int .i64 0] r6 w6 := S5.call hB hk
  clear hB hk S5
  clear hl5
  obtain ⟨n6, r7, e7⟩ : ∃ n6 r, rNum r6 = (n6, r) := ⟨_, _, rfl⟩
  have hl7 := rNum_sl e7 hl6
  have E7 := Lib.hid e7
  clear e7
  go_wp2_with fail
  refine (rnum_c gr r6 n6 r7 _ E7.out S6.br (Nat.le_trans hl6 (by omega))).mono ?_
  rintro e w7 ⟨rfl, hB, hk⟩
  have S7 : RB w gr gz gs #[.int .i64 n0, .int .i64 n1, .string ⟨#[]⟩, .string ⟨#[]⟩, .int .i64 n2, .slice none 0 0, .int .i64 0, .int .i64 0, .int .i64 0, .int .i64 0, .int .i64 0, .int .i64 0, .slice none 0 0, .int .i64 n3, .int .i64 0, .int .i64 0, .int .i64 0] r7 w7 := S6.call hB hk
  clear hB hk S6
  clear hl6
  have c14 : w7.cell? ⟨gs, 14, none⟩ = some (.int .i64 0) := S7.bs.cell 14
  have f14 := S7.bs.frozen 14
  have c15 : w7.cell? ⟨gs, 15, none⟩ = some (.int .i64 0) := S7.bs.cell 15
  have f15 := S7.bs.frozen 15
  have c16 : w7.cell? ⟨gs, 16, none⟩ = some (.int .i64 0) := S7.bs.cell 16
  have f16 := S7.bs.frozen 16
  have gsl := S7.bs.lt
  obtain ⟨lo, r8, e8⟩ : ∃ lo r, rText r7 = (lo, r) := ⟨_, _, rfl⟩
  have hl8 := rText_sl e8 hl7
  have E8 := Lib.hid e8
  clear e8
  go_wp2_with fail
  clear c14 f14 c15 f15 c16 f16 gsl
  have T8 : RB w gr gz gs #[.int .i64 n0, .int .i64 n1, .string ⟨#[]⟩, .string ⟨#[]⟩, .int .i64 n2, .slice none 0 0, .int .i64 0, .int .i64 0, .int .i64 0, .int .i64 0, .int .i64 0, .int .i64 0, .slice none 0 0, .int .i64 n3, .int .i64 n4, .int .i64 n5, .int .i64 n6] r7 (((w7.setCell ⟨gs, 14, none⟩ (.int .i64 n4)).setCell ⟨gs, 15, none⟩ (.int .i64 n5)).setCell ⟨gs, 16, none⟩ (.int .i64 n6)) := (((S7).sets 14 (.int .i64 n4)).sets 15 (.int .i64 n5)).sets 16 (.int .i64 n6)
  clear S7
  refine (rtext_c gr r7 lo r8 _ E8.out T8.br (Nat.le_trans hl7 (by omega))).mono ?_
  rintro e w8 ⟨rfl, hB, hk⟩
  have S8 : RB w gr gz gs #[.int .i64 n0, .int .i64 n1, .string ⟨#[]⟩, .string ⟨#[]⟩, .int .i64 n2, .slice none 0 0, .int .i64 0, .int .i64 0, .int .i64 0, .int .i64 0, .int .i64 0, .int .i64 0, .slice none 0 0, .int .i64 n3, .int .i64 n4, .int .i64 n5, .int .i64 n6] r8 w8 := T8.call hB hk
  clear hB hk T8
  clear hl7
  obtain ⟨hi, r9, e9⟩ : ∃ hi r, rText r8 = (hi, r) := ⟨_, _, rfl⟩
  have hl9 := rText_sl e9 hl8
  have E9 := Lib.hid e9
  clear e9
  go_wp2_with fail
  refine (rtext_c gr r8 hi r9 _ E9.out S8.br (Nat.le_trans hl8 (by omega))).mono ?_
  rintro e w9 ⟨rfl, hB, hk⟩
  have S9 : RB w gr gz gs #[.int .i64 n0, .int .i64 n1, .string ⟨#[]⟩, .string ⟨#[]⟩, .int .i64 n2, .slice none 0 0, .int .i64 0, .int .i64 0, .int .i64 0, .int .i64 0, .int .i64 0, .int .i64 0, .slice none 0 0, .int .i64 n3, .int .i64 n4, .int .i64 n5, .int .i64 n6] r9 w9 := S8.call hB hk
  clear hB hk S8
  clear hl8
  have c2 : w9.cell? ⟨gs, 2, none⟩ = some (.string ⟨#[]⟩) := S9.bs.cell 2
  have f2 := S9.bs.frozen 2
  have c3 : w9.cell? ⟨gs, 3, none⟩ = some (.string ⟨#[]⟩) := S9.bs.cell 3
  have f3 := S9.bs.frozen 3
  have gsl := S9.bs.lt
  obtain ⟨ma, mt, mn, r10, e10⟩ : ∃ ma mt mn r, rStamp r9 = ((ma, mt, mn), r) := ⟨_, _, _, _, rfl⟩
  have hl10 := rStamp_sl e10 hl9
  have E10 := Lib.hid e10
  clear e10
  go_wp2_with fail
  clear c2 f2 c3 f3 gsl
  have T10 : RB w gr gz gs #[.int .i64 n0, .int .i64 n1, .string ⟨lo.toArray⟩, .string ⟨hi.toArray⟩, .int .i64 n2, .slice none 0 0, .int .i64 0, .int .i64 0, .int .i64 0, .int .i64 0, .int .i64 0, .int .i64 0, .slice none 0 0, .int .i64 n3, .int .i64 n4, .int .i64 n5, .int .i64 n6] r9 ((w9.setCell ⟨gs, 2, none⟩ (.string ⟨lo.toArray⟩)).setCell ⟨gs, 3, none⟩ (.string ⟨hi.toArray⟩)) := ((S9).sets 2 (.string ⟨lo.toArray⟩)).sets 3 (.string ⟨hi.toArray⟩)
  clear S9
  refine (rstamp_c gr r9 ma mt mn r10 _ E10.out T10.br (Nat.le_trans hl9 (by omega))).mono ?_
  rintro e w10 ⟨rfl, hB, hk⟩
  have S10 : RB w gr gz gs #[.int .i64 n0, .int .i64 n1, .string ⟨lo.toArray⟩, .string ⟨hi.toArray⟩, .int .i64 n2, .slice none 0 0, .int .i64 0, .int .i64 0, .int .i64 0, .int .i64 0, .int .i64 0, .int .i64 0, .slice none 0 0, .int .i64 n3, .int .i64 n4, .int .i64 n5, .int .i64 n6] r10 w10 := T10.call hB hk
  clear hB hk T10
  clear hl9
  obtain ⟨ta, tt, tn, r11, e11⟩ : ∃ ta tt tn r, rStamp r10 = ((ta, tt, tn), r) := ⟨_, _, _, _, rfl⟩
  have hl11 := rStamp_sl e11 hl10
  have E11 := Lib.hid e11
  clear e11
  go_wp2_with fail
  refine (rstamp_c gr r10 ta tt tn r11 _ E11.out S10.br (Nat.le_trans hl10 (by omega))).mono ?_
  rintro e w11 ⟨rfl, hB, hk⟩
  have S11 : RB w gr gz gs #[.int .i64 n0, .int .i64 n1, .string ⟨lo.toArray⟩, .string ⟨hi.toArray⟩, .int .i64 n2, .slice none 0 0, .int .i64 0, .int .i64 0, .int .i64 0, .int .i64 0, .int .i64 0, .int .i64 0, .slice none 0 0, .int .i64 n3, .int .i64 n4, .int .i64 n5, .int .i64 n6] r11 w11 := S10.call hB hk
  clear hB hk S10
  clear hl10
  have c6 : w11.cell? ⟨gs, 6, none⟩ = some (.int .i64 0) := S11.bs.cell 6
  have f6 := S11.bs.frozen 6
  have c7 : w11.cell? ⟨gs, 7, none⟩ = some (.int .i64 0) := S11.bs.cell 7
  have f7 := S11.bs.frozen 7
  have c8 : w11.cell? ⟨gs, 8, none⟩ = some (.int .i64 0) := S11.bs.cell 8
  have f8 := S11.bs.frozen 8
  have c9 : w11.cell? ⟨gs, 9, none⟩ = some (.int .i64 0) := S11.bs.cell 9
  have f9 := S11.bs.frozen 9
  have c10 : w11.cell? ⟨gs, 10, none⟩ = some (.int .i64 0) := S11.bs.cell 10
  have f10 := S11.bs.frozen 10
  have c11 : w11.cell? ⟨gs, 11, none⟩ = some (.int .i64 0) := S11.bs.cell 11
  have f11 := S11.bs.frozen 11
  have gsl := S11.bs.lt
  obtain ⟨c0, r12, e12⟩ : ∃ c0 r, rCount r11 = (c0, r) := ⟨_, _, rfl⟩
  obtain ⟨hl12, hc00, hc01⟩ := rCount_sl e12 hl11
  have E12 := Lib.hid e12
  clear e12
  go_wp2_with fail
  clear c6 f6 c7 f7 c8 f8 c9 f9 c10 f10 c11 f11 gsl
  have T12 : RB w gr gz gs #[.int .i64 n0, .int .i64 n1, .string ⟨lo.toArray⟩, .string ⟨hi.toArray⟩, .int .i64 n2, .slice none 0 0, .int .i64 ma, .int .i64 mt, .int .i64 mn, .int .i64 ta, .int .i64 tt, .int .i64 tn, .slice none 0 0, .int .i64 n3, .int .i64 n4, .int .i64 n5, .int .i64 n6] r11 ((((((w11.setCell ⟨gs, 6, none⟩ (.int .i64 ma)).setCell ⟨gs, 7, none⟩ (.int .i64 mt)).setCell ⟨gs, 8, none⟩ (.int .i64 mn)).setCell ⟨gs, 9, none⟩ (.int .i64 ta)).setCell ⟨gs, 10, none⟩ (.int .i64 tt)).setCell ⟨gs, 11, none⟩ (.int .i64 tn)) := ((((((S11).sets 6 (.int .i64 ma)).sets 7 (.int .i64 mt)).sets 8 (.int .i64 mn)).sets 9 (.int .i64 ta)).sets 10 (.int .i64 tt)).sets 11 (.int .i64 tn)
  clear S11
  refine (rlist_c gr r11 c0 r12 _ E12.out T12.br (Nat.le_trans hl11 (by omega))).mono ?_
  rintro e w12 ⟨rfl, hB, hk⟩
  have S12 : RB w gr gz gs #[.int .i64 n0, .int .i64 n1, .string ⟨lo.toArray⟩, .string ⟨hi.toArray⟩, .int .i64 n2, .slice none 0 0, .int .i64 ma, .int .i64 mt, .int .i64 mn, .int .i64 ta, .int .i64 tt, .int .i64 tn, .slice none 0 0, .int .i64 n3, .int .i64 n4, .int .i64 n5, .int .i64 n6] r12 w12 := T12.call hB hk
  clear hB hk T12
  clear hl11
  go_wp2_with fail
  go_loopw [43] (fun i wr => ∃ (k : Nat) (v : Value) (es : List En) (rr : RS), i = .int .i64 k ∧ (k : Int) ≤ c0 ∧ RB w gr gz gs #[.int .i64 n0, .int .i64 n1, .string ⟨lo.toArray⟩, .string ⟨hi.toArray⟩, .int .i64 n2, v, .int .i64 ma, .int .i64 mt, .int .i64 mn, .int .i64 ta, .int .i64 tt, .int .i64 tn, .slice none 0 0, .int .i64 n3, .int .i64 n4, .int .i64 n5, .int .i64 n6] rr wr ∧ wr.ownsRow gz 100 2 v k (esF es) ∧ OwnCh gz es wr ∧ es.length = k ∧ rdN fEn.rd k r12 = (es.map enL, rr) ∧ rr.s.length ≤ N) (fun i _ => c0.toNat - (intOf i).toNat)
  case atStart => exact ⟨0, _, [], r12, rfl, hc00, S12, World.ownsRow_nil _ _ _ _, OwnCh.nil, rfl, rfl, hl12⟩
  case round =>
    clear S12
    obtain ⟨k, v, es, rr, rfl, hk, hS, hown, hch, hlen, hrd, hlr⟩ := hrel
    have i0 : (0 : Int) ≤ (k : Int) := by omega
    have HRD := Lib.hid hrd
    clear hrd
    obtain ⟨A0, cap0, rfl⟩ := own_slice hown
    by_cases hlt : (k : Int) < c0
    case pos =>
      obtain ⟨ii, hii, hiz, his, hib⟩ := info_parts infoVs
      obtain ⟨ie, hie, hez, hes, heb⟩ := info_parts infoEn
      obtain ⟨ky, ra, ea⟩ : ∃ x r, rText rr = (x, r) := ⟨_, _, rfl⟩
      have hla := rText_sl ea hlr
      obtain ⟨c2, rb, eb⟩ : ∃ x r, rCount ra = (x, r) := ⟨_, _, rfl⟩
      obtain ⟨hlb, hc20, hc21⟩ := rCount_sl eb hla
      have EA := Lib.hid ea
      have EB := Lib.hid eb
      clear ea eb
      have hk26 : k ≤ 4194304 := by omega
      go_wp2_with fail
      refine (rtext_c gr rr ky ra _ EA.out hS.br (Nat.le_trans hlr (by omega))).mono ?_
      rintro e wt ⟨rfl, hB, hkk⟩
      have St := hS.call hB hkk
      have Ot := own_kept hown hkk.kept hS.br (by decide)
      have Ct := OwnCh.kept hch hkk.kept hS.br (by decide)
      clear hB hkk hS hown hch
      have hgt := St.glt
      have hbt : gz ≤ wt.heap.size := by have := St.kr.size; omega
      go_wp2_with fail
      have KB : Kr gr wt (wt.alloc (.cells #[.string ⟨ky.toArray⟩, .slice none 0 0] 100)) := Kr.refl.alloc hgt _
      have BE : Blk (wt.alloc (.cells #[.string ⟨ky.toArray⟩, .slice none 0 0] 100)) wt.heap.size 100 #[.string ⟨ky.toArray⟩, .slice none 0 0] := Blk.new wt _ _
      have BR := St.br.alloc (.cells #[.string ⟨ky.toArray⟩, .slice none 0 0] 100)
      refine (rlist_c gr ra c2 rb _ EB.out BR (Nat.le_trans hla (by omega))).mono ?_
      rintro e w2 ⟨rfl, BR2, hkk⟩
      have K2 := KB.trans hkk
      have hne : wt.heap.size ≠ gr := by omega
      have BE2 := hkk.kept _ _ _ hne BE
      clear KB BE BR hkk
      go_wp2_with fail
      go_loopw [50] (fun i wr => ∃ (j : Nat) (v : Value) (vs : List Vs) (rx : RS), i = .int .i64 j ∧ (j : Int) ≤ c2 ∧ Kr gr wt wr ∧ Blk wr gr 70 (rsA rx) ∧ Blk wr wt.heap.size 100 #[.string ⟨ky.toArray⟩, v] ∧ wr.ownsRow wt.heap.size 105 5 v j (vsF vs) ∧ vs.length = j ∧ rdN fVs.rd j rb = (vs, rx) ∧ rx.s.length ≤ N) (fun i _ => c2.toNat - (intOf i).toNat)
      case atStart => exact ⟨0, _, [], rb, rfl, hc20, K2, BR2, BE2, World.ownsRow_nil _ _ _ _, rfl, rfl, hlb⟩
      case round =>
        clear K2 BR2 BE2
        obtain ⟨j, v2, vs, rx, rfl, hj, KW2, BR, BE, hown2, hlen2, hrd2, hlx⟩ := hrel
        have j0 : (0 : Int) ≤ (j : Int) := by omega
        have HRV := Lib.hid hrd2
        clear hrd2
        obtain ⟨A1, cap1, rfl⟩ := own_slice hown2
        by_cases hjt : (j : Int) < c2
        case pos =>
          obtain ⟨sa, st, sn, rc, ec⟩ : ∃ a t n r, rStamp rx = ((a, t, n), r) := ⟨_, _, _, _, rfl⟩
          have hlc := rStamp_sl ec hlx
          obtain ⟨go, rd, ed⟩ : ∃ x r, rFlag rc = (x, r) := ⟨_, _, rfl⟩
          have hld := rFlag_sl ed hlc
          obtain ⟨vl, re, ee⟩ : ∃ x r, rText rd = (x, r) := ⟨_, _, rfl⟩
          have hle := rText_sl ee hld
          have hx := rVs_eq ec ed ee
          have HX := Lib.hid hx
          have EC := Lib.hid ec
          have ED := Lib.hid ed
          have EE := Lib.hid ee
          clear ec ed ee hx
          have hj26 : j ≤ 4194304 := by omega
          have c1 : wr.cell? ⟨wt.heap.size, 1, none⟩ = some (.slice A1 j cap1) := BE.cell 1
          have f1 := BE.frozen 1
          have g1 := BE.lt
          go_wp2_with fail
          go_region_law (first
            | (go_simp; go_at_call 32; refine (rtext_c gr rd vl re _ EE.out Rb (Nat.le_trans hld (by omega))).mono ?_; rintro e wc ⟨rfl, Rc, hk2⟩; have Kc := Kb.trans hk2; have Ec := hk2.kept _ _ _ hne Eb; have Oc := own_kept Ob hk2.kept Rb (by decide); have cwc : wc.cell? ⟨wt.heap.size, 1, none⟩ = some (.slice A1 j cap1) := Ec.cell 1; have fwc := Ec.frozen 1; have gwc := Ec.lt; clear hk2)
            | (go_simp; go_at_call 33; refine (rflag_c gr rc go rd _ ED.out Ra (Nat.le_trans hlc (by omega))).mono ?_; rintro e wb ⟨rfl, Rb, hk2⟩; have Kb := Ka.trans hk2; have Eb := hk2.kept _ _ _ hne Ea; have Ob := own_kept Oa hk2.kept Ra (by decide); have cwb : wb.cell? ⟨wt.heap.size, 1, none⟩ = some (.slice A1 j cap1) := Eb.cell 1; have fwb := Eb.frozen 1; have gwb := Eb.lt; clear hk2)
            | (go_simp; go_at_call 26; refine (rstamp_c gr rx sa st sn rc _ EC.out BR.drew (Nat.le_trans hlx (by omega))).mono ?_; rintro e wa ⟨rfl, Ra, hk2⟩; have Ka := KW2.drew.trans hk2; have Ea := hk2.kept _ _ _ hne BE.drew; have Oa := own_kept (w := wr.drew) hown2 hk2.kept BR.drew (by decide); have cwa : wa.cell? ⟨wt.heap.size, 1, none⟩ = some (.slice A1 j cap1) := Ea.cell 1; have fwa := Ea.frozen 1; have gwa := Ea.lt; clear hk2)
            | (refine step_pushR (by rfl) _ _ _ (by rfl) wt.heap.size 105 ii _ 5 48 Tryz.underlying98 hii hiz his hib (by rfl) (by decide) wc _ j (vsF vs) (by rfl) Oc [.int .i64 sa, .int .i64 st, .int .i64 sn, .bool go, .string ⟨vl.toArray⟩] rfl ?hu 1 (by rfl) ?h63 ?hby ?hba ?_; (case hu => simp [Value.oneCell']); (case h63 => omega); (case hby => omega); (case hba => exact Kc.size); intro gN capN w3 hownN hbN hkN; have K3 := Kc.grow hgt hbN; have R3 := Rc.below hbN hgt; have E3 := hkN _ _ _ (by decide) Ec; have d1 : w3.cell? ⟨wt.heap.size, 1, none⟩ = some (.slice A1 j cap1) := E3.cell 1; have fd1 := E3.frozen 1; have gd1 := E3.lt))
          all_goals
            go_wp2_with fail
            go_roundw
            case rel =>
              refine ⟨j + 1, _, vs ++ [⟨sa, st, sn, go, vl⟩], re, by go_num, by omega, K3.far hgt (Nat.le_refl _) 1 _, R3.far (p := ⟨wt.heap.size, 1, none⟩) (fun h => hne h.symm) _, E3.set 1 _, ?_, by simp [hlen2], rdN_succ _ _ _ _ _ _ _ HRV.out HX.out, hle⟩
              rw [vsF_snoc]
              exact own_setT (p := ⟨wt.heap.size, 1, none⟩) hownN _ E3 (by decide)
            case measure => simp [intOf]; omega
        case neg =>
          have hje : (j : Int) = c2 := by omega
          have S5 := St.call BR KW2
          have O5 := own_kept Ot KW2.kept St.br (by decide)
          have C5 := OwnCh.kept Ct KW2.kept St.br (by decide)
          have HEn := Lib.hid (rEn_eq EA.out EB.out hje HRV.out)
          have N5 := own_base (base' := gz) hown2 hbt
          clear St Ot Ct KW2 hown2
          have y0 : wr.cell? ⟨wt.heap.size, 0, none⟩ = some (.string ⟨ky.toArray⟩) := BE.cell 0
          have y1 : wr.cell? ⟨wt.heap.size, 1, none⟩ = some (.slice A1 j cap1) := BE.cell 1
          have gl := BE.lt
          have c5 : wr.cell? ⟨gs, 5, none⟩ = some (.slice A0 k cap0) := S5.bs.cell 5
          have f5 := S5.bs.frozen 5
          have gsl := S5.bs.lt
          have hgzw : gz ≤ wr.heap.size := by have := S5.kr.size; omega
          go_wp2_with (at_builtin; refine wpl_pushR (by rfl) _ _ _ (by rfl) gz 100 ie _ 2 40 Tryz.underlying25 hie hez hes heb (by rfl) (by decide) wr _ k (esF es) (by rfl) O5 [.string ⟨ky.toArray⟩, .slice A1 j cap1] rfl ?hu 1 (by rfl) ?h63 ?hby ?hba ?_; (focus (simp [Value.oneCell'])); (focus omega); (focus omega); (focus omega); intro gN capN w3 hownN hbN hkN; have S6 := S5.grow (by rw [hg0]; exact hbN) hkN (by decide) (by decide); have C6 := OwnCh.keptT C5 hkN (by decide); have N6 := own_keptT N5 hkN (by decide); have d5 : w3.cell? ⟨gs, 5, none⟩ = some (.slice A0 k cap0) := S6.bs.cell 5; have g5 := S6.bs.frozen 5; have gl5 := S6.bs.lt)
          go_roundw
          case rel =>
            refine ⟨k + 1, _, es ++ [⟨ky, A1, j, cap1, vs⟩], rx, by go_num, by omega, S6.sets 5 _, ?_, OwnCh.snoc (OwnCh.setT (p := ⟨gs, 5, none⟩) C6 _ S6.bs (by decide)) (own_setT (p := ⟨gs, 5, none⟩) N6 _ S6.bs (by decide)) hlen2 (by show j ≤ 4194304; omega), by simp [hlen], ?_, hlx⟩
            · rw [esF_snoc]; exact own_setT (p := ⟨gs, 5, none⟩) hownN _ S6.bs (by decide)
            · rw [List.map_append]; exact rdN_succ _ _ _ _ _ _ _ HRD.out HEn.out
          case measure => simp [intOf]; omega
    case neg =>
      have hkeE : (k : Int) = c0 := by omega
      obtain ⟨kE, hh⟩ : ∃ x, x = k := ⟨_, rfl⟩
      subst hh
      obtain ⟨AE, hh⟩ : ∃ x, x = A0 := ⟨_, rfl⟩
      subst hh
      obtain ⟨cE, hh⟩ : ∃ x, x = cap0 := ⟨_, rfl⟩
      subst hh
      obtain ⟨rE, hh⟩ : ∃ x, x = rr := ⟨_, rfl⟩
      subst hh
      have SE := hS
      have OE := hown
      have CE := hch
      have hlenE := hlen
      have HRE := HRD
      have hlE := hlr
      clear hS hown hch hlen HRD hlr i0 hk hlt
      obtain ⟨c1, r13, e13⟩ : ∃ c1 r, rCount rE = (c1, r) := ⟨_, _, rfl⟩
      obtain ⟨hl13, hc10, hc11⟩ := rCount_sl e13 hlE
      have E13 := Lib.hid e13
      clear e13
      go_wp2_with fail
      refine (rlist_c gr rE c1 r13 _ E13.out SE.br (Nat.le_trans hlE (by omega))).mono ?_
      rintro e w13 ⟨rfl, hB, hk⟩
      have OEs := own_kept OE hk.kept SE.br (by decide)
      clear OE
      have OE := OEs
      clear OEs
      have CEs := OwnCh.kept CE hk.kept SE.br (by decide)
      clear CE
      have CE := CEs
      clear CEs
      have S13 : RB w gr gz gs #[.int .i64 n0, .int .i64 n1, .string ⟨lo.toArray⟩, .string ⟨hi.toArray⟩, .int .i64 n2, .slice AE kE cE, .int .i64 ma, .int .i64 mt, .int .i64 mn, .int .i64 ta, .int .i64 tt, .int .i64 tn, .slice none 0 0, .int .i64 n3, .int .i64 n4, .int .i64 n5, .int .i64 n6] r13 w13 := SE.call hB hk
      clear hB hk SE
      clear hlE
      go_wp2_with fail
      go_loopw [74] (fun i wr => ∃ (k : Nat) (v : Value) (ds : List Dn) (rr : RS), i = .int .i64 k ∧ (k : Int) ≤ c1 ∧ RB w gr gz gs #[.int .i64 n0, .int .i64 n1, .string ⟨lo.toArray⟩, .string ⟨hi.toArray⟩, .int .i64 n2, .slice AE kE cE, .int .i64 ma, .int .i64 mt, .int .i64 mn, .int .i64 ta, .int .i64 tt, .int .i64 tn, v, .int .i64 n3, .int .i64 n4, .int .i64 n5, .int .i64 n6] rr wr ∧ wr.ownsRow gz 100 2 (.slice AE kE cE) kE (esF es) ∧ OwnCh gz es wr ∧ wr.ownsRow gz 108 11 v k (dsF ds) ∧ ds.length = k ∧ (∀ d ∈ ds, d.ans.itn = 0 ∧ d.its = [] ∧ d.ans.nx = [] ∧ d.ans.mo = false) ∧ rdN fDn.rd k r13 = (ds.map dnF, rr) ∧ rr.s.length ≤ N) (fun i _ => c1.toNat - (intOf i).toNat)
      case atStart => exact ⟨0, _, [], r13, rfl, hc10, S13, OE, CE, World.ownsRow_nil _ _ _ _, rfl, (fun d hd => by cases hd), rfl, hl13⟩
      case round =>
        clear S13 OE CE
        obtain ⟨k, v, ds, rr, rfl, hk, hS, OE, CE, hown, hlen, hpl, hrd, hlr⟩ := hrel
        have i0 : (0 : Int) ≤ (k : Int) := by omega
        have HRD := Lib.hid hrd
        have HPL := Lib.hid hpl
        clear hrd hpl
        obtain ⟨A0, cap0, rfl⟩ := own_slice hown
        by_cases hlt : (k : Int) < c1
        case pos =>
          obtain ⟨ii, hii, hiz, his, hib⟩ := info_parts infoDn
          obtain ⟨q0, ra, era⟩ : ∃ x r, rNum rr = (x, r) := ⟨_, _, rfl⟩
          have hlra := rNum_sl era hlr
          obtain ⟨q1, rb, erb⟩ : ∃ x r, rNum ra = (x, r) := ⟨_, _, rfl⟩
          have hlrb := rNum_sl erb hlra
          obtain ⟨q2, rc, erc⟩ : ∃ x r, rNum rb = (x, r) := ⟨_, _, rfl⟩
          have hlrc := rNum_sl erc hlrb
          obtain ⟨sa, st, sn, rd, erd⟩ : ∃ a t n r, rStamp rc = ((a, t, n), r) := ⟨_, _, _, _, rfl⟩
          have hlrd := rStamp_sl erd hlrc
          obtain ⟨fo, re, ere⟩ : ∃ x r, rFlag rd = (x, r) := ⟨_, _, rfl⟩
          have hlre := rFlag_sl ere hlrd
          obtain ⟨vl, rf, erf⟩ : ∃ x r, rText re = (x, r) := ⟨_, _, rfl⟩
          have hlrf := rText_sl erf hlre
          have HX := Lib.hid (rDn_eq era erb erc erd ere erf)
          have Era := Lib.hid era
          have Erb := Lib.hid erb
          have Erc := Lib.hid erc
          have Erd := Lib.hid erd
          have Ere := Lib.hid ere
          have Erf := Lib.hid erf
          clear era erb erc erd ere erf
          have hk26 : k ≤ 4194304 := by omega
          go_wp2_with fail
          refine (rnum_c gr rr q0 ra _ Era.out hS.br (Nat.le_trans hlr (by omega))).mono ?_
          rintro e wa ⟨rfl, hB2, hk2⟩
          have OEs := own_kept OE hk2.kept hS.br (by decide)
          clear OE
          have OE := OEs
          clear OEs
          have CEs := OwnCh.kept CE hk2.kept hS.br (by decide)
          clear CE
          have CE := CEs
          clear CEs
          have howns := own_kept hown hk2.kept hS.br (by decide)
          clear hown
          have hown := howns
          clear howns
          have Sa := hS.call hB2 hk2
          clear hB2 hk2 hS
          go_wp2_with fail
          refine (rnum_c gr ra q1 rb _ Erb.out Sa.br (Nat.le_trans hlra (by omega))).mono ?_
          rintro e wt ⟨rfl, hB2, hk2⟩
          have OEs := own_kept OE hk2.kept Sa.br (by decide)
          clear OE
          have OE := OEs
          clear OEs
          have CEs := OwnCh.kept CE hk2.kept Sa.br (by decide)
          clear CE
          have CE := CEs
          clear CEs
          have howns := own_kept hown hk2.kept Sa.br (by decide)
          clear hown
          have hown := howns
          clear howns
          have Sb := Sa.call hB2 hk2
          clear hB2 hk2 Sa
          have hgt := Sb.glt
          have hne : wt.heap.size ≠ gr := by omega
          have hbt : gz ≤ wt.heap.size := by have := Sb.kr.size; omega
          have G : Blk (wt.alloc (.cells zdA 108)) wt.heap.size 108 zdA := Blk.new wt _ _
          have D : ∀ w', w' = (wt.alloc (.cells zdA 108)).setRow wt.heap.size #[.int .i64 q0, .int .i64 q1, .int .i64 0, .int .i64 0, .int .i64 0, .int .i64 0, .bool false, .string ⟨#[]⟩, .slice none 0 0, .string ⟨#[]⟩, .bool false] → Kr gr wt w' ∧ Blk w' gr 70 (rsA rb) ∧ Blk w' wt.heap.size 108 #[.int .i64 q0, .int .i64 q1, .int .i64 0, .int .i64 0, .int .i64 0, .int .i64 0, .bool false, .string ⟨#[]⟩, .slice none 0 0, .string ⟨#[]⟩, .bool false] := by
            rintro _ rfl
            exact ⟨(Kr.refl.alloc hgt _).row hgt (Nat.le_refl _) _, (Sb.br.alloc _).row_far (fun h => hne h.symm) _, G.row _⟩
          go_wp2_with (with_reducible refine wpl_st G (by with_unfolding_all rfl) _ _ _ (by with_unfolding_all rfl) #[.int .i64 q0, .int .i64 q1, .int .i64 0, .int .i64 0, .int .i64 0, .int .i64 0, .bool false, .string ⟨#[]⟩, .slice none 0 0, .string ⟨#[]⟩, .bool false] (by with_unfolding_all rfl) (by with_unfolding_all rfl) (by with_unfolding_all rfl) (by with_unfolding_all rfl) (by with_unfolding_all rfl) ?_; refine Classical.byContradiction fun hno => ?_)
          refine hno ?_
          clear hno
          intro w4 e4
          obtain ⟨K4, R4, G4⟩ := D w4 e4
          clear e4 D G
          go_wp2_with fail
          refine (rnum_c gr rb q2 rc _ Erc.out R4 (Nat.le_trans hlrb (by omega))).mono ?_
          rintro e w5 ⟨rfl, R5, hk2⟩
          have K5 := K4.trans hk2
          have G5 := hk2.kept _ _ _ hne G4
          clear hk2 R4 K4 G4
          go_wp2_with fail
          refine (rstamp_c gr rc sa st sn rd _ Erd.out R5 (Nat.le_trans hlrc (by omega))).mono ?_
          rintro e w6 ⟨rfl, R6, hk2⟩
          have K6 := K5.trans hk2
          have G6 := hk2.kept _ _ _ hne G5
          clear hk2 R5 K5 G5
          go_wp2_with fail
          refine (rflag_c gr rd fo re _ Ere.out R6 (Nat.le_trans hlrd (by omega))).mono ?_
          rintro e w7 ⟨rfl, R7, hk2⟩
          have K7 := K6.trans hk2
          have G7 := hk2.kept _ _ _ hne G6
          clear hk2 R6 K6 G6
          go_wp2_with fail
          refine (rtext_c gr re vl rf _ Erf.out R7 (Nat.le_trans hlre (by omega))).mono ?_
          rintro e w8 ⟨rfl, R8, hk2⟩
          have K8 := K7.trans hk2
          have G8 := hk2.kept _ _ _ hne G7
          clear hk2 R7 K7 G7
          have hoa : (#[.int .i64 q2, .int .i64 sa, .int .i64 st, .int .i64 sn, .bool fo, .string ⟨vl.toArray⟩, .slice none 0 0, .string ⟨#[]⟩, .bool false] : Array Value).all (·.oneCell') = true := (by with_unfolding_all rfl)
          have D : ∀ w', w' = w8.setCells wt.heap.size 2 (#[.int .i64 q2, .int .i64 sa, .int .i64 st, .int .i64 sn, .bool fo, .string ⟨vl.toArray⟩, .slice none 0 0, .string ⟨#[]⟩, .bool false] : Array Value).toList → Kr gr wt w' ∧ Blk w' gr 70 (rsA rf) ∧ Blk w' wt.heap.size 108 #[.int .i64 q0, .int .i64 q1, .int .i64 q2, .int .i64 sa, .int .i64 st, .int .i64 sn, .bool fo, .string ⟨vl.toArray⟩, .slice none 0 0, .string ⟨#[]⟩, .bool false] := by
            rintro _ rfl
            exact ⟨K8.cells hgt (Nat.le_refl _) _ _, R8.setCells_far _ (fun h => hne h.symm) _ _, by have h := G8.setCells (#[.int .i64 q2, .int .i64 sa, .int .i64 st, .int .i64 sn, .bool fo, .string ⟨vl.toArray⟩, .slice none 0 0, .string ⟨#[]⟩, .bool false] : Array Value).toList 2; exact h⟩
          go_wp2_with (with_reducible refine wpl_stm G8 (by with_unfolding_all rfl) _ _ _ (by with_unfolding_all rfl) 2 #[.int .i64 q2, .int .i64 sa, .int .i64 st, .int .i64 sn, .bool fo, .string ⟨vl.toArray⟩, .slice none 0 0, .string ⟨#[]⟩, .bool false] (by with_unfolding_all rfl) (by with_unfolding_all rfl) (Nat.le_of_ble_eq_true rfl) (by with_unfolding_all rfl) hoa ?_; refine Classical.byContradiction fun hno => ?_)
          refine hno ?_
          clear hno
          intro w9 e9
          obtain ⟨K9, R9, G9⟩ := D w9 e9
          clear e9 D hoa K8 R8 G8
          have S9 := Sb.call R9 K9
          have OEs := own_kept OE K9.kept Sb.br (by decide)
          clear OE
          have OE := OEs
          clear OEs
          have CEs := OwnCh.kept CE K9.kept Sb.br (by decide)
          clear CE
          have CE := CEs
          clear CEs
          have howns := own_kept hown K9.kept Sb.br (by decide)
          clear hown
          have hown := howns
          clear howns
          clear Sb K9 R9
          have c12 : w9.cell? ⟨gs, 12, none⟩ = some (.slice A0 k cap0) := S9.bs.cell 12
          have f12 := S9.bs.frozen 12
          have gsl := S9.bs.lt
          have hgzw : gz ≤ w9.heap.size := by have := S9.kr.size; omega
          go_wp2_with (first | (with_reducible refine wpl_ld G9 (by with_unfolding_all rfl) 108 _ (by with_unfolding_all rfl) (by with_unfolding_all rfl) _ Tryz.underlying108 (by with_unfolding_all rfl) (by with_unfolding_all rfl) ?_) | (at_builtin; refine wpl_pushR (by rfl) _ _ _ (by rfl) gz 108 ii _ 11 120 Tryz.underlying28 hii hiz his hib (by rfl) (by decide) w9 _ k (dsF ds) (by rfl) hown [.int .i64 q0, .int .i64 q1, .int .i64 q2, .int .i64 sa, .int .i64 st, .int .i64 sn, .bool fo, .string ⟨vl.toArray⟩, .slice none 0 0, .string ⟨#[]⟩, .bool false] rfl ?hu2 1 (by rfl) ?h632 ?hby2 ?hba2 ?_; (focus (simp [Value.oneCell'])); (focus omega); (focus omega); (focus omega); intro gN capN w3 hownN hbN hkN; have S6 := S9.grow (by rw [hg0]; exact hbN) hkN (by decide) (by decide); have C6 := OwnCh.keptT CE hkN (by decide); have N6 := own_keptT OE hkN (by decide); have d12 : w3.cell? ⟨gs, 12, none⟩ = some (.slice A0 k cap0) := S6.bs.cell 12; have g12 := S6.bs.frozen 12; have gl12 := S6.bs.lt))
          go_roundw
          case rel =>
            refine ⟨k + 1, _, ds ++ [⟨q0, q1, ⟨q2, sa, st, sn, fo, vl, none, 0, 0, [], false⟩, []⟩], rf, by go_num, by omega, S6.sets 12 _, own_setT (p := ⟨gs, 12, none⟩) N6 _ S6.bs (by decide), OwnCh.setT (p := ⟨gs, 12, none⟩) C6 _ S6.bs (by decide), ?_, by simp [hlen], ?_, ?_, hlrf⟩
            · rw [dsF_snoc]; exact own_setT (p := ⟨gs, 12, none⟩) hownN _ S6.bs (by decide)
            · intro d hd
              rcases List.mem_append.1 hd with hd | hd
              · exact HPL.out d hd
              · simp at hd; subst hd; exact ⟨rfl, rfl, rfl, rfl⟩
            · rw [List.map_append]; exact rdN_succ _ _ _ _ _ _ _ HRD.out HX.out
          case measure => simp [intOf]; omega
        case neg =>
          have hkeD : (k : Int) = c1 := by omega
          obtain ⟨kD, hh⟩ : ∃ x, x = k := ⟨_, rfl⟩
          subst hh
          obtain ⟨AD, hh⟩ : ∃ x, x = A0 := ⟨_, rfl⟩
          subst hh
          obtain ⟨cD, hh⟩ : ∃ x, x = cap0 := ⟨_, rfl⟩
          subst hh
          obtain ⟨rD, hh⟩ : ∃ x, x = rr := ⟨_, rfl⟩
          subst hh
          have h1 : fShH.rd r0 = (shH (⟨n0, n1, lo, hi, n2, AE, kE, cE, ma, mt, mn, ta, tt, tn, AD, kD, cD, n3, n4, n5, n6, es, ds⟩ : Sh), _) := seq_eq (f := fNum) E1.out (seq_eq (f := fNum) E2.out (seq_eq (f := fNum) E3.out (seq_eq (f := fNum) E4.out (seq_eq (f := fNum) E5.out (seq_eq (f := fNum) E6.out (seq_eq (f := fNum) E7.out (seq_eq (f := fText) E8.out (seq_eq (f := fText) E9.out (seq_eq (f := fStamp) E10.out E11.out)))))))))
          have h2 : fSh.rd r0 = (shF (⟨n0, n1, lo, hi, n2, AE, kE, cE, ma, mt, mn, ta, tt, tn, AD, kD, cD, n3, n4, n5, n6, es, ds⟩ : Sh), rD) := seq_eq (f := fShH) h1 (seq_eq (f := fList fEn fEn_pos) (g := fList fDn fDn_pos) (list_eq E12.out hkeE HRE.out) (list_eq E13.out hkeD HRD.out))
          have HREAD := Lib.hid h2
          clear h1 h2 E1 E2 E3 E4 E5 E6 E7 E8 E9 E10 E11 E12 E13 HRE
          have hO : OwnSh gz (⟨n0, n1, lo, hi, n2, AE, kE, cE, ma, mt, mn, ta, tt, tn, AD, kD, cD, n3, n4, n5, n6, es, ds⟩ : Sh) wr := ⟨OE, hlenE, by show kE ≤ 4194304; omega, CE, hown, hlen, by show kD ≤ 4194304; omega, HPL.out⟩
          clear OE CE hown hlen hlenE HPL hkeD hkeE HRD
          have hSs : RB w gr gz gs (shA (⟨n0, n1, lo, hi, n2, AE, kE, cE, ma, mt, mn, ta, tt, tn, AD, kD, cD, n3, n4, n5, n6, es, ds⟩ : Sh)) rD wr := hS
          clear hS
          generalize hmm : (⟨n0, n1, lo, hi, n2, AE, kE, cE, ma, mt, mn, ta, tt, tn, AD, kD, cD, n3, n4, n5, n6, es, ds⟩ : Sh) = mm at *
          clear hmm
          have hom : (shA mm).toList.all (·.oneCell') = true := (by with_unfolding_all rfl)
          have D : ∀ w', w' = wr.setRow gz (shA mm) → Blk w' gz 30 (shA mm) ∧ Blk w' gr 70 (rsA rD) ∧ Kr gr w w' ∧ OwnSh gz mm w' := by
            rintro _ rfl
            exact ⟨hSs.bz.row _, hSs.br.row_far (fun h => hSs.nz h.symm) _, hSs.kr.row hSs.lr hSs.lz _, hO.rowT hSs.bz (by decide) (by decide) (by decide) _⟩
          go_wp2_with (first | (with_reducible refine wpl_ld hSs.bs (by with_unfolding_all rfl) 30 _ (by with_unfolding_all rfl) (by with_unfolding_all rfl) _ Tryz.underlying30 (by with_unfolding_all rfl) (by with_unfolding_all rfl) ?_) | (with_reducible refine wpl_st hSs.bz (by with_unfolding_all rfl) 30 _ _ (by with_unfolding_all rfl) (shA mm) (by with_unfolding_all rfl) (by with_unfolding_all rfl) (by with_unfolding_all rfl) (by with_unfolding_all rfl) hom ?_; refine Classical.byContradiction fun hno => ?_))
          refine hno ?_
          clear hno
          intro wz ez
          obtain ⟨Fz, Rz, Kz, Oz⟩ := D wz ez
          clear ez D
          go_wp2_with fail
          exact bodyPost_ret (res_row Fz rfl rfl _ Tryz.underlying30 rfl rfl) rfl ⟨mm, rD, rfl, HREAD.out, hlr, Rz, Kz, by rw [hg0]; exact Oz⟩
end Go.Proofs.YtkoligiilieboaaGreatDoor
