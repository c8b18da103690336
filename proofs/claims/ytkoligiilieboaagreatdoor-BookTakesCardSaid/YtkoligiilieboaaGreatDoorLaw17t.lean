/- The walk of the law BookTakes. -/
import Derived.Test.YtkoligiilieboaaGreatDoorLaw17u
import Derived.Test.YtkoligiilieboaaGreatDoorMgD
import Derived.Test.YtkoligiilieboaaGreatDoorBkK4
import Derived.Test.YtkoligiilieboaaGreatDoorBkK5
import Derived.Deep.CutRange
set_option linter.unusedSimpArgs false
set_option linter.unusedVariables false
namespace Go.Proofs.YtkoligiilieboaaGreatDoor
open Go.RowKit
attribute [local go_sem] ByteArray.mk_append_mk ByteArray.extract_mk
attribute [local go_sem ↓] Go.wp_at_zero Go.wp_at_succ
set_option maxHeartbeats 25600000 in
set_option maxRecDepth 100000 in
theorem bookTakes_walk (t : List UInt8) (w : World) (hT : Go.Lib.Utf8Tabs 0 1 w) :
  Calls Tryz.prog 3 #[.string ⟨t.toArray⟩] w fun e w' => e = .returned (.bool true) ∧ Below w.heap.size w w' := by
 by_cases hl : t.length ≤ 4096
 case neg =>
  have i1 : (4096 : Int) < (t.length : Int) := by omega
  go_enter Tryz.func3, Tryz.ntmps3
  go_wp2_with fail
  refine (awake17 _).mono ?_
  rintro e wz ⟨rfl, dz⟩
  go_wp2
  go_ret
  exact ⟨rfl, dz⟩
 case pos =>
 have i1 : ¬ (4096 : Int) < (t.length : Int) := by omega
 go_enter Tryz.func3, Tryz.ntmps3
 have HT := Lib.hid hT
 clear hT
 go_wp2_with fail
 refine (takeshard_any t 4096 (by decide) hl _ (Utf8Tabs_below HT.out (b0 w))).mono ?_
 intro e w1 hpost
 obtain ⟨s, en1, rfl, I1_0, j1, d1⟩ := sh_sum hpost
 have J1 := Lib.hid j1
 clear hpost j1
 have hb1 := bt (b0 w) d1
 clear d1
 have C : Blk (w1.alloc (.cells zsA 30)) w1.heap.size 30 zsA := Blk.new w1 _ _
 have D : ∀ w', w' = (w1.alloc (.cells zsA 30)).setRow w1.heap.size (shA s) → Below w1.heap.size w1 w' ∧ Blk w' w1.heap.size 30 (shA s) := by
  rintro _ rfl
  exact ⟨below_row (bal (b0 w1) _) (Nat.le_refl _) _, C.row _⟩
 have hon : (shA s).toList.all (·.oneCell') = true := (by with_unfolding_all rfl)
 go_wp2_with (with_reducible refine wpl_st C (by with_unfolding_all rfl) 30 _ _ (by with_unfolding_all rfl) (shA s) (by with_unfolding_all rfl) (by with_unfolding_all rfl) (by with_unfolding_all rfl) (by with_unfolding_all rfl) hon ?_; refine Classical.byContradiction fun hno => ?_)
 refine hno ?_
 clear hno
 intro w2 e6
 obtain ⟨d2, B1_0⟩ := D w2 e6
 clear e6 D C hon
 have I1_1 := I1_0.kept d2
 clear I1_0
 have hb2 := bt hb1 d2
 clear d2 hb1
 generalize w1.heap.size = gB1 at *
 go_wp2_with fail
 refine (dtakeshard_any t hl _).mono ?_
 intro e w3 hpost
 obtain ⟨u, ok1, rfl, I2_0, j2, d3⟩ := dsh_sum hpost
 have J2 := Lib.hid j2
 clear hpost j2
 have I1_2 := I1_1.kept d3
 have B1_1 := B1_0.keep d3
 clear I1_1 B1_0
 have hb3 := bt hb2 d3
 clear d3 hb2
 have C : Blk (w3.alloc (.cells zsA 30)) w3.heap.size 30 zsA := Blk.new w3 _ _
 have D : ∀ w', w' = (w3.alloc (.cells zsA 30)).setRow w3.heap.size (shA u) → Below w3.heap.size w3 w' ∧ Blk w' w3.heap.size 30 (shA u) := by
  rintro _ rfl
  exact ⟨below_row (bal (b0 w3) _) (Nat.le_refl _) _, C.row _⟩
 have hon : (shA u).toList.all (·.oneCell') = true := (by with_unfolding_all rfl)
 go_wp2_with (with_reducible refine wpl_st C (by with_unfolding_all rfl) 30 _ _ (by with_unfolding_all rfl) (shA u) (by with_unfolding_all rfl) (by with_unfolding_all rfl) (by with_unfolding_all rfl) (by with_unfolding_all rfl) hon ?_; refine Classical.byContradiction fun hno => ?_)
 refine hno ?_
 clear hno
 intro w4 e6
 obtain ⟨d4, B2_0⟩ := D w4 e6
 clear e6 D C hon
 have I1_3 := I1_2.kept d4
 have B1_2 := B1_1.keep d4
 have I2_1 := I2_0.kept d4
 clear I1_2 B1_1 I2_0
 have hb4 := bt hb3 d4
 clear d4 hb3
 generalize w3.heap.size = gB2 at *
 go_wp2_with fail
 refine (takecell_any t 4096 (by decide) hl _ (Utf8Tabs_below HT.out hb4)).mono ?_
 intro e w5 hpost
 obtain ⟨c, en2, rfl, I3_0, j3, d5⟩ := ce_sum hpost
 have J3 := Lib.hid j3
 clear hpost j3
 have I1_4 := I1_3.kept d5
 have B1_3 := B1_2.keep d5
 have I2_2 := I2_1.kept d5
 have B2_1 := B2_0.keep d5
 clear I1_3 B1_2 I2_1 B2_0
 have hb5 := bt hb4 d5
 clear d5 hb4
 have C : Blk (w5.alloc (.cells z5A 38)) w5.heap.size 38 z5A := Blk.new w5 _ _
 have D : ∀ w', w' = (w5.alloc (.cells z5A 38)).setRow w5.heap.size (ceA c) → Below w5.heap.size w5 w' ∧ Blk w' w5.heap.size 38 (ceA c) := by
  rintro _ rfl
  exact ⟨below_row (bal (b0 w5) _) (Nat.le_refl _) _, C.row _⟩
 have hon : (ceA c).toList.all (·.oneCell') = true := (by with_unfolding_all rfl)
 go_wp2_with (with_reducible refine wpl_st C (by with_unfolding_all rfl) 38 _ _ (by with_unfolding_all rfl) (ceA c) (by with_unfolding_all rfl) (by with_unfolding_all rfl) (by with_unfolding_all rfl) (by with_unfolding_all rfl) hon ?_; refine Classical.byContradiction fun hno => ?_)
 refine hno ?_
 clear hno
 intro w6 e6
 obtain ⟨d6, B3_0⟩ := D w6 e6
 clear e6 D C hon
 have I1_5 := I1_4.kept d6
 have B1_4 := B1_3.keep d6
 have I2_3 := I2_2.kept d6
 have B2_2 := B2_1.keep d6
 have I3_1 := I3_0.kept d6
 clear I1_4 B1_3 I2_2 B2_1 I3_0
 have hb6 := bt hb5 d6
 clear d6 hb5
 generalize w5.heap.size = gB3 at *
 go_wp2_with fail
 refine (dtakecell_any t hl _).mono ?_
 intro e w7 hpost
 obtain ⟨d, ok2, rfl, I4_0, j4, d7⟩ := dce_sum hpost
 have J4 := Lib.hid j4
 clear hpost j4
 have I1_6 := I1_5.kept d7
 have B1_5 := B1_4.keep d7
 have I2_4 := I2_3.kept d7
 have B2_3 := B2_2.keep d7
 have I3_2 := I3_1.kept d7
 have B3_1 := B3_0.keep d7
 clear I1_5 B1_4 I2_3 B2_2 I3_1 B3_0
 have hb7 := bt hb6 d7
 clear d7 hb6
 have C : Blk (w7.alloc (.cells z5A 38)) w7.heap.size 38 z5A := Blk.new w7 _ _
 have D : ∀ w', w' = (w7.alloc (.cells z5A 38)).setRow w7.heap.size (ceA d) → Below w7.heap.size w7 w' ∧ Blk w' w7.heap.size 38 (ceA d) := by
  rintro _ rfl
  exact ⟨below_row (bal (b0 w7) _) (Nat.le_refl _) _, C.row _⟩
 have hon : (ceA d).toList.all (·.oneCell') = true := (by with_unfolding_all rfl)
 go_wp2_with (with_reducible refine wpl_st C (by with_unfolding_all rfl) 38 _ _ (by with_unfolding_all rfl) (ceA d) (by with_unfolding_all rfl) (by with_unfolding_all rfl) (by with_unfolding_all rfl) (by with_unfolding_all rfl) hon ?_; refine Classical.byContradiction fun hno => ?_)
 refine hno ?_
 clear hno
 intro w8 e6
 obtain ⟨d8, B4_0⟩ := D w8 e6
 clear e6 D C hon
 have I1_7 := I1_6.kept d8
 have B1_6 := B1_5.keep d8
 have I2_5 := I2_4.kept d8
 have B2_4 := B2_3.keep d8
 have I3_3 := I3_2.kept d8
 have B3_2 := B3_1.keep d8
 have I4_1 := I4_0.kept d8
 clear I1_6 B1_5 I2_4 B2_3 I3_2 B3_1 I4_0
 have hb8 := bt hb7 d8
 clear d8 hb7
 generalize w7.heap.size = gB4 at *
 go_wp2_with fail
 refine (takemsg_any t 4096 (by decide) hl _).mono ?_
 intro e w9 hpost
 obtain ⟨m, its, ps, ls, en3, rfl, I5_0, j5, d9⟩ := ms_sum hpost
 have J5 := Lib.hid j5
 clear hpost j5
 have I1_8 := I1_7.kept d9
 have B1_7 := B1_6.keep d9
 have I2_6 := I2_5.kept d9
 have B2_5 := B2_4.keep d9
 have I3_4 := I3_3.kept d9
 have B3_3 := B3_2.keep d9
 have I4_2 := I4_1.kept d9
 have B4_1 := B4_0.keep d9
 clear I1_7 B1_6 I2_5 B2_4 I3_3 B3_2 I4_1 B4_0
 have hb9 := bt hb8 d9
 clear d9 hb8
 have C : Blk (w9.alloc (.cells zmA 51)) w9.heap.size 51 zmA := Blk.new w9 _ _
 have D : ∀ w', w' = (w9.alloc (.cells zmA 51)).setRow w9.heap.size (msA m) → Below w9.heap.size w9 w' ∧ Blk w' w9.heap.size 51 (msA m) := by
  rintro _ rfl
  exact ⟨below_row (bal (b0 w9) _) (Nat.le_refl _) _, C.row _⟩
 have hon : (msA m).toList.all (·.oneCell') = true := (by with_unfolding_all rfl)
 go_wp2_with (with_reducible refine wpl_st C (by with_unfolding_all rfl) 51 _ _ (by with_unfolding_all rfl) (msA m) (by with_unfolding_all rfl) (by with_unfolding_all rfl) (by with_unfolding_all rfl) (by with_unfolding_all rfl) hon ?_; refine Classical.byContradiction fun hno => ?_)
 refine hno ?_
 clear hno
 intro w10 e6
 obtain ⟨d10, B5_0⟩ := D w10 e6
 clear e6 D C hon
 have I1_9 := I1_8.kept d10
 have B1_8 := B1_7.keep d10
 have I2_7 := I2_6.kept d10
 have B2_6 := B2_5.keep d10
 have I3_5 := I3_4.kept d10
 have B3_4 := B3_3.keep d10
 have I4_3 := I4_2.kept d10
 have B4_2 := B4_1.keep d10
 have I5_1 := I5_0.keep d10
 clear I1_8 B1_7 I2_6 B2_5 I3_4 B3_3 I4_2 B4_1 I5_0
 have hb10 := bt hb9 d10
 clear d10 hb9
 generalize w9.heap.size = gB5 at *
 go_wp2_with fail
 refine (dtakemsg_any t hl _).mono ?_
 intro e w11 hpost
 obtain ⟨m2, jts, qs, ks, ok3, rfl, I6_0, j6, d11⟩ := dms_sum hpost
 have J6 := Lib.hid j6
 clear hpost j6
 have I1_10 := I1_9.kept d11
 have B1_9 := B1_8.keep d11
 have I2_8 := I2_7.kept d11
 have B2_7 := B2_6.keep d11
 have I3_6 := I3_5.kept d11
 have B3_5 := B3_4.keep d11
 have I4_4 := I4_3.kept d11
 have B4_3 := B4_2.keep d11
 have I5_2 := I5_1.keep d11
 have B5_1 := B5_0.keep d11
 clear I1_9 B1_8 I2_7 B2_6 I3_5 B3_4 I4_3 B4_2 I5_1 B5_0
 have hb11 := bt hb10 d11
 clear d11 hb10
 have C : Blk (w11.alloc (.cells zmA 51)) w11.heap.size 51 zmA := Blk.new w11 _ _
 have D : ∀ w', w' = (w11.alloc (.cells zmA 51)).setRow w11.heap.size (msA m2) → Below w11.heap.size w11 w' ∧ Blk w' w11.heap.size 51 (msA m2) := by
  rintro _ rfl
  exact ⟨below_row (bal (b0 w11) _) (Nat.le_refl _) _, C.row _⟩
 have hon : (msA m2).toList.all (·.oneCell') = true := (by with_unfolding_all rfl)
 go_wp2_with (with_reducible refine wpl_st C (by with_unfolding_all rfl) 51 _ _ (by with_unfolding_all rfl) (msA m2) (by with_unfolding_all rfl) (by with_unfolding_all rfl) (by with_unfolding_all rfl) (by with_unfolding_all rfl) hon ?_; refine Classical.byContradiction fun hno => ?_)
 refine hno ?_
 clear hno
 intro w12 e6
 obtain ⟨d12, B6_0⟩ := D w12 e6
 clear e6 D C hon
 have I1_11 := I1_10.kept d12
 have B1_10 := B1_9.keep d12
 have I2_9 := I2_8.kept d12
 have B2_8 := B2_7.keep d12
 have I3_7 := I3_6.kept d12
 have B3_6 := B3_5.keep d12
 have I4_5 := I4_4.kept d12
 have B4_4 := B4_3.keep d12
 have I5_3 := I5_2.keep d12
 have B5_2 := B5_1.keep d12
 have I6_1 := I6_0.keep d12
 clear I1_10 B1_9 I2_8 B2_7 I3_6 B3_5 I4_4 B4_3 I5_2 B5_1 I6_0
 have hb12 := bt hb11 d12
 clear d12 hb11
 generalize w11.heap.size = gB6 at *
 obtain ⟨q1, p1⟩ := sh_joint J1.out J2.out
 have Q1 := Lib.hid q1
 clear q1 J1 J2
 obtain ⟨q2, p2⟩ := ce_joint J3.out J4.out
 have Q2 := Lib.hid q2
 clear q2 J3 J4
 obtain ⟨q3, p3⟩ := ms_joint J5.out J6.out
 have Q3 := Lib.hid q3
 clear q3 J5 J6
 go_upto_region 9 with (fail)
 go_cut [88] from 49 to 87 (fun c wx => c = .bool false ∧ w12 = wx)
 case first =>
  rcases p1 with ⟨rfl, rfl⟩ | ⟨rfl, rfl⟩ <;> rcases p2 with ⟨rfl, rfl⟩ | ⟨rfl, rfl⟩ <;> rcases p3 with ⟨rfl, rfl⟩ | ⟨rfl, rfl⟩
  all_goals (go_wp2_with fail; go_meet; exact ⟨rfl, rfl⟩)
 case rest =>
 obtain ⟨rfl, rfl⟩ := hcut
 clear p1 p2 p3
 go_wp2_with (first | (with_reducible refine wpl_ldg B1_10 (by with_unfolding_all rfl) 30 _ (by with_unfolding_all rfl) (by with_unfolding_all rfl) _ Tryz.underlying30 (by with_unfolding_all rfl) (by with_unfolding_all rfl) ?_) | (with_reducible refine wpl_ldg B2_8 (by with_unfolding_all rfl) 30 _ (by with_unfolding_all rfl) (by with_unfolding_all rfl) _ Tryz.underlying30 (by with_unfolding_all rfl) (by with_unfolding_all rfl) ?_))
 refine (sheq_any s u _ I1_11 I2_9).mono ?_
 rintro e w13 ⟨⟨q, rfl, hq⟩, d13⟩
 obtain rfl : q = true := hq.2 Q1.out
 clear hq
 have I1_12 := I1_11.kept d13
 have B1_11 := B1_10.keep d13
 have I2_10 := I2_9.kept d13
 have B2_9 := B2_8.keep d13
 have I3_8 := I3_7.kept d13
 have B3_7 := B3_6.keep d13
 have I4_6 := I4_5.kept d13
 have B4_5 := B4_4.keep d13
 have I5_4 := I5_3.keep d13
 have B5_3 := B5_2.keep d13
 have I6_2 := I6_1.keep d13
 have B6_1 := B6_0.keep d13
 clear I1_11 B1_10 I2_9 B2_8 I3_7 B3_6 I4_5 B4_4 I5_3 B5_2 I6_1 B6_0
 have hb13 := bt hb12 d13
 clear d13 hb12
 go_wp2_with (first | (with_reducible refine wpl_ldg B3_7 (by with_unfolding_all rfl) 38 _ (by with_unfolding_all rfl) (by with_unfolding_all rfl) _ Tryz.underlying38 (by with_unfolding_all rfl) (by with_unfolding_all rfl) ?_) | (with_reducible refine wpl_ldg B4_5 (by with_unfolding_all rfl) 38 _ (by with_unfolding_all rfl) (by with_unfolding_all rfl) _ Tryz.underlying38 (by with_unfolding_all rfl) (by with_unfolding_all rfl) ?_))
 refine (ceeq_any c d _ I3_8 I4_6).mono ?_
 rintro e w14 ⟨⟨q, rfl, hq⟩, d14⟩
 obtain rfl : q = true := hq.2 Q2.out
 clear hq
 have I1_13 := I1_12.kept d14
 have B1_12 := B1_11.keep d14
 have I2_11 := I2_10.kept d14
 have B2_10 := B2_9.keep d14
 have I3_9 := I3_8.kept d14
 have B3_8 := B3_7.keep d14
 have I4_7 := I4_6.kept d14
 have B4_6 := B4_5.keep d14
 have I5_5 := I5_4.keep d14
 have B5_4 := B5_3.keep d14
 have I6_3 := I6_2.keep d14
 have B6_2 := B6_1.keep d14
 clear I1_12 B1_11 I2_10 B2_9 I3_8 B3_7 I4_6 B4_5 I5_4 B5_3 I6_2 B6_1
 have hb14 := bt hb13 d14
 clear d14 hb13
 go_wp2_with (first | (with_reducible refine wpl_ldg B5_4 (by with_unfolding_all rfl) 51 _ (by with_unfolding_all rfl) (by with_unfolding_all rfl) _ Tryz.underlying51 (by with_unfolding_all rfl) (by with_unfolding_all rfl) ?_) | (with_reducible refine wpl_ldg B6_2 (by with_unfolding_all rfl) 51 _ (by with_unfolding_all rfl) (by with_unfolding_all rfl) _ Tryz.underlying51 (by with_unfolding_all rfl) (by with_unfolding_all rfl) ?_))
 refine (msgeq_any m m2 its jts ps qs ls ks _ I5_5 I6_3).mono ?_
 rintro e w15 ⟨⟨q, rfl, hq⟩, d15⟩
 obtain rfl : q = true := hq.2 Q3.out
 clear hq
 have I1_14 := I1_13.kept d15
 have B1_13 := B1_12.keep d15
 have I2_12 := I2_11.kept d15
 have B2_11 := B2_10.keep d15
 have I3_10 := I3_9.kept d15
 have B3_9 := B3_8.keep d15
 have I4_8 := I4_7.kept d15
 have B4_7 := B4_6.keep d15
 have I5_6 := I5_5.keep d15
 have B5_5 := B5_4.keep d15
 have I6_4 := I6_3.keep d15
 have B6_3 := B6_2.keep d15
 clear I1_13 B1_12 I2_11 B2_10 I3_9 B3_8 I4_7 B4_6 I5_5 B5_4 I6_3 B6_2
 have hb15 := bt hb14 d15
 clear d15 hb14
 go_wp2_with fail
 refine (awake17 _).mono ?_
 rintro e wz ⟨rfl, dz⟩
 go_wp2
 go_ret
 exact ⟨rfl, bt hb15 dz⟩
theorem bookTakes_d (t : List UInt8) (_hz : t.length ≤ 140737488351232) (w : World) (hT : Go.Lib.Utf8Tabs 0 1 w) :
  Calls Tryz.prog 3 #[.string ⟨t.toArray⟩] w fun e w' => e = .returned (.bool true) ∧ Below w.heap.size w w' := bookTakes_walk t w hT
end Go.Proofs.YtkoligiilieboaaGreatDoor
