/- The walk of the law ClientQuiet. -/
import Derived.Test.YtbggohdpaodkeaaDoorCliY
import Derived.Test.YtbggohdpaodkeaaDoorCliE
import Derived.Test.YtbggohdpaodkeaaDoorReg
import Derived.Test.YtbggohdpaodkeaaDoorReg
import Derived.Test.YtbggohdpaodkeaaDoorReg
import Derived.Test.YtbggohdpaodkeaaDoorReg
namespace Go.Proofs.YtbggohdpaodkeaaDoor
open Go.RowKit
attribute [local go_sem] ByteArray.mk_append_mk ByteArray.extract_mk
attribute [local go_sem ↓] Go.wp_at_zero Go.wp_at_succ
/-- what the law is told of a client and of a message -/
structure CliArg (c : Cli) (ps : List Pl) (ls : List Int) (w : World) : Prop where
  pn : ps.length = c.pn
  ln : ls.length = c.ln
  pcap : c.pn ≤ c.pc
  ok : ∀ x ∈ ps, plOk x
  rp : RdR plC 5 w w.heap.size c.pA ps
  rl : RdR ldC 1 w w.heap.size c.lA ls
structure MsArg (m : Ms) (ps : List Pl) (ls : List Int) (w : World) : Prop where
  pn : ps.length = m.pn
  ln : ls.length = m.mn
  pcap : m.pn ≤ m.pc
  lcap : m.mn ≤ m.mc
  ok : ∀ x ∈ ps, plOk x
  rp : RdR plC 5 w w.heap.size m.pA ps
  rl : RdR ldC 1 w w.heap.size m.mA ls
theorem smallB_iff {c : Cli} (h : smallB c = true) : c.pn ≤ 40 ∧ c.ln ≤ 40 := by simpa [smallB] using h
theorem smallM_iff {m : Ms} (h : smallM m = true) : m.ans.itn ≤ 40 ∧ m.pn ≤ 40 ∧ m.mn ≤ 40 := by
  simp [smallM] at h
  omega
theorem ho_cli (c : Cli) : (cliA c).toList.all (·.oneCell') = true := (by with_unfolding_all rfl)
theorem ho_zt : ztA.toList.all (·.oneCell') = true := (by with_unfolding_all rfl)
set_option maxHeartbeats 3200000 in
set_option maxRecDepth 100000 in
theorem clientQuiet_walk (c : Cli) (ps : List Pl) (ls : List Int) (m : Ms) (qs : List Pl) (ks : List Int) (w : World) (hc : CliArg c ps ls w) (hm : MsArg m qs ks w) (hT : Go.Lib.Utf8Tabs 0 1 w) :
    Calls Tryd.prog 3 #[cliV c, msV m] w fun e w' => e = .returned (.bool true) ∧ Below w.heap.size w w' := by
  have B2 : Blk ((w.alloc (.cells (cliA c) 29)).alloc (.cells (msA m) 35)) w.heap.size 29 (cliA c) := (Blk.new w _ _).alloc _
  have B3 : Blk ((w.alloc (.cells (cliA c) 29)).alloc (.cells (msA m) 35)) (w.heap.size + 1) 35 (msA m) := Blk.new' _ _ _ _ (by simp)
  have hb : Below w.heap.size w ((w.alloc (.cells (cliA c) 29)).alloc (.cells (msA m) 35)) := bal (bal (b0 w) _) _
  go_enter Tryd.func3, Tryd.ntmps3
  go_wp2_with (with_reducible refine wpl_ld B2 (by with_unfolding_all rfl) 29 _ (by with_unfolding_all rfl) (by with_unfolding_all rfl) _ Tryd.underlying29 (by with_unfolding_all rfl) (by with_unfolding_all rfl) ?_)
  generalize ((w.alloc (.cells (cliA c) 29)).alloc (.cells (msA m) 35)) = W at *
  refine (small_any c W).mono ?_
  rintro e w1 ⟨rfl, d1⟩
  have C2 := B2.keep d1
  have C3 := B3.keep d1
  have b1 := bt hb d1
  clear B2 B3
  cases hs : smallB c
  case false =>
    clear hs
    go_wp2_with fail
    refine (awake20 w1 (Utf8Tabs_below hT b1)).mono ?_
    rintro e w2 ⟨rfl, d2⟩
    go_wp2
    go_ret
    exact ⟨rfl, bt b1 d2⟩
  case true =>
  obtain ⟨p40, l40⟩ := smallB_iff hs
  clear hs
  go_wp2_with (with_reducible refine wpl_ldg C3 (by with_unfolding_all rfl) 35 _ (by with_unfolding_all rfl) (by with_unfolding_all rfl) _ Tryd.underlying35 (by with_unfolding_all rfl) (by with_unfolding_all rfl) ?_)
  refine (smallmsg_any m w1).mono ?_
  rintro e w2 ⟨rfl, d2⟩
  have D2 := C2.keep d2
  have D3 := C3.keep d2
  have b2 := bt b1 d2
  clear C2 C3
  cases hs : smallM m
  case false =>
    clear hs
    go_wp2_with fail
    refine (awake20 w2 (Utf8Tabs_below hT b2)).mono ?_
    rintro e w3 ⟨rfl, d3⟩
    go_wp2
    go_ret
    exact ⟨rfl, bt b2 d3⟩
  case true =>
  obtain ⟨i40, q40, k40⟩ := smallM_iff hs
  clear hs
  have a5 : w2.cell? ⟨w.heap.size, 5, none⟩ = some (.int .i64 c.req.rq) := D2.cell 5
  by_cases h0 : c.req.rq = 0
  case neg =>
    have hne : (c.req.rq != 0) = true := by simp [h0]
    clear h0
    go_wp2_with fail
    refine (awake20 w2 (Utf8Tabs_below hT b2)).mono ?_
    rintro e w3 ⟨rfl, d3⟩
    go_wp2
    go_ret
    exact ⟨rfl, bt b2 d3⟩
  case pos =>
  have hne : (c.req.rq != 0) = false := by simp [h0]
  have H0 := Lib.hid h0
  clear h0
  have hC : CliIn c ps ls w := ⟨hc.pn, hc.ln, p40, l40, hc.pcap, hc.ok, hc.rp, hc.rl, hT⟩
  have hM : MsIn m qs ks w := ⟨hm.pn, hm.ln, q40, k40, i40, hm.pcap, hm.lcap, hm.ok, hm.rp, hm.rl⟩
  clear hc hm
  go_wp2_with (with_reducible refine wpl_ld D2 (by with_unfolding_all rfl) 29 _ (by with_unfolding_all rfl) (by with_unfolding_all rfl) _ Tryd.underlying29 (by with_unfolding_all rfl) (by with_unfolding_all rfl) ?_)
  clear a5 hne
  refine (tick_any c ps ls H0.out w2 (hC.keep b2)).mono ?_
  rintro e w3 ⟨rfl, d3⟩
  have E2 := D2.keep d3
  have E3 := D3.keep d3
  have b3 := bt b2 d3
  clear D2 D3
  have sz3 := E3.lt
  have N5 : Blk ((w3.alloc (.cells zcA 29)).alloc (.cells ztA 41)) w3.heap.size 29 zcA := (Blk.new w3 _ _).alloc _
  have D : ∀ w', w' = ((w3.alloc (.cells zcA 29)).alloc (.cells ztA 41)).setRow w3.heap.size (cliA c) → Below w.heap.size w w' ∧ Blk w' w.heap.size 29 (cliA c) ∧ Blk w' (w.heap.size + 1) 35 (msA m) ∧ Blk w' w3.heap.size 29 (cliA c) ∧ Blk w' (w3.heap.size + 1) 41 ztA := by
    rintro _ rfl
    exact ⟨below_row (bal (bal b3 _) _) (by omega) _, ((E2.alloc _).alloc _).row_far (by omega) _, ((E3.alloc _).alloc _).row_far (by omega) _, N5.row _, (Blk.new' _ _ _ _ (by simp)).row_far (by omega) _⟩
  have ho1 := ho_cli c
  go_wp2_with (with_reducible refine wpl_st N5 (by with_unfolding_all rfl) 29 _ _ (by with_unfolding_all rfl) (cliA c) (by with_unfolding_all rfl) (by with_unfolding_all rfl) (by with_unfolding_all rfl) (by with_unfolding_all rfl) ho1 ?_; refine Classical.byContradiction fun hno => ?_)
  refine hno ?_
  clear hno ho1
  intro w4 e4
  obtain ⟨b4, F2, F3, F5, F7⟩ := D w4 e4
  clear e4 D N5 E2 E3
  generalize hG : w3.heap.size = G at *
  have D : ∀ w', w' = w4.setRow (G + 1) ztA → Below w.heap.size w w' ∧ Blk w' w.heap.size 29 (cliA c) ∧ Blk w' (w.heap.size + 1) 35 (msA m) ∧ Blk w' G 29 (cliA c) ∧ Blk w' (G + 1) 41 ztA := by
    rintro _ rfl
    exact ⟨below_row b4 (by omega) _, F2.row_far (by omega) _, F3.row_far (by omega) _, F5.row_far (by omega) _, F7.row _⟩
  have ho1 := ho_zt
  go_wp2_with (with_reducible refine wpl_st F7 (by with_unfolding_all rfl) 41 _ _ (by with_unfolding_all rfl) ztA (by with_unfolding_all rfl) (by with_unfolding_all rfl) (by with_unfolding_all rfl) (by with_unfolding_all rfl) ho1 ?_; refine Classical.byContradiction fun hno => ?_)
  refine hno ?_
  clear hno ho1
  intro w5 e5
  obtain ⟨b5, I2, I3, I5, I7⟩ := D w5 e5
  clear e5 D F2 F3 F5 F7
  go_wp2_with (first | (with_reducible refine wpl_ld I2 (by with_unfolding_all rfl) 29 _ (by with_unfolding_all rfl) (by with_unfolding_all rfl) _ Tryd.underlying29 (by with_unfolding_all rfl) (by with_unfolding_all rfl) ?_) | (with_reducible refine wpl_ld I3 (by with_unfolding_all rfl) 35 _ (by with_unfolding_all rfl) (by with_unfolding_all rfl) _ Tryd.underlying35 (by with_unfolding_all rfl) (by with_unfolding_all rfl) ?_) | fail)
  refine (hear_any c ps ls H0.out m qs ks w5 (hC.keep b5) (hM.keep b5)).mono ?_
  rintro e w6 ⟨d, hd, rfl, d6⟩
  have b6 := bt b5 d6
  have J2 := I2.keep d6
  have J5 := I5.keep d6
  have J7 := I7.keep d6
  clear I2 I3 I5 I7
  have sz6 := J7.lt
  have N8 : Blk ((w6.alloc (.cells zcA 29)).alloc (.cells ztA 41)) w6.heap.size 29 zcA := (Blk.new w6 _ _).alloc _
  have D : ∀ w', w' = ((w6.alloc (.cells zcA 29)).alloc (.cells ztA 41)).setRow w6.heap.size (cliA d) → Below w.heap.size w w' ∧ Blk w' w.heap.size 29 (cliA c) ∧ Blk w' G 29 (cliA c) ∧ Blk w' (G + 1) 41 ztA ∧ Blk w' w6.heap.size 29 (cliA d) ∧ Blk w' (w6.heap.size + 1) 41 ztA := by
    rintro _ rfl
    exact ⟨below_row (bal (bal b6 _) _) (by omega) _, ((J2.alloc _).alloc _).row_far (by omega) _, ((J5.alloc _).alloc _).row_far (by omega) _, ((J7.alloc _).alloc _).row_far (by omega) _, N8.row _, (Blk.new' _ _ _ _ (by simp)).row_far (by omega) _⟩
  have ho1 := ho_cli d
  go_wp2_with (with_reducible refine wpl_st N8 (by with_unfolding_all rfl) 29 _ _ (by with_unfolding_all rfl) (cliA d) (by with_unfolding_all rfl) (by with_unfolding_all rfl) (by with_unfolding_all rfl) (by with_unfolding_all rfl) ho1 ?_; refine Classical.byContradiction fun hno => ?_)
  refine hno ?_
  clear hno ho1
  intro w7 e7
  obtain ⟨b7, K2, K5, K7, K8, K10⟩ := D w7 e7
  clear e7 D N8 J2 J5 J7
  generalize hH : w6.heap.size = H at *
  have D : ∀ w', w' = w7.setRow (H + 1) ztA → Below w.heap.size w w' ∧ Blk w' w.heap.size 29 (cliA c) ∧ Blk w' G 29 (cliA c) ∧ Blk w' (G + 1) 41 ztA ∧ Blk w' H 29 (cliA d) ∧ Blk w' (H + 1) 41 ztA := by
    rintro _ rfl
    exact ⟨below_row b7 (by omega) _, K2.row_far (by omega) _, K5.row_far (by omega) _, K7.row_far (by omega) _, K8.row_far (by omega) _, K10.row _⟩
  have ho1 := ho_zt
  go_wp2_with (with_reducible refine wpl_st K10 (by with_unfolding_all rfl) 41 _ _ (by with_unfolding_all rfl) ztA (by with_unfolding_all rfl) (by with_unfolding_all rfl) (by with_unfolding_all rfl) (by with_unfolding_all rfl) ho1 ?_; refine Classical.byContradiction fun hno => ?_)
  refine hno ?_
  clear hno ho1
  intro w8 e8
  obtain ⟨b8, L2, L5, L7, L8, L10⟩ := D w8 e8
  clear e8 D K2 K5 K7 K8 K10
  obtain ⟨did, dnx, dpA, dpn, dpc, dlA, dln, dlc, dreq, dop, dtr⟩ := d
  obtain ⟨hd1, hd2, hd3, hd4, hd5⟩ := hd
  simp only at hd1 hd2 hd3 hd4 hd5
  subst hd1 hd2 hd3 hd4 hd5
  have hCW : ∀ W', Below w.heap.size w W' → Calls Tryd.prog 9 #[cliV c, cliV c] W' fun e w' => e = .returned (.bool true) ∧ Below W'.heap.size W' w' := fun W' h => eq20_any c ps (by have := hC.pn; omega) hC.pn ls hC.ln (by have := hC.ln; omega) W' (hC.keep h).rp (hC.keep h).rl
  have hAW : ∀ W', Below w.heap.size w W' → Calls Tryd.prog 6 #[] W' fun e w' => e = .returned (.bool true) ∧ Below W'.heap.size W' w' := fun W' h => awake20 W' (Utf8Tabs_below hT h)
  have hz : ((0 : Int) == 0) = true := rfl
  clear hC hM H0 hT
  go_wp2_with fail
  refine wp_region_held_drew (S := (fun w' => Below w8.heap.size w8 w')) (by kernel_rfl) (b0 w8).drew (fun hH => ?_)
  refine take_at (i := 0) (v := .agg (cliA c)) (some 39) rfl rfl (by kernel_rfl) (by kernel_rfl) (by kernel_rfl) (fun _ _ _ h => h) (yif_ld (by rfl) 29 _ rfl (by rfl) (fun _ h => L5.keep h) _ Tryd.underlying29 (by with_unfolding_all rfl) (by with_unfolding_all rfl)) hH ?_
  try simp only [Act.put, List.setIfInBounds_toArray, List.set_cons_zero, List.set_cons_succ]
  refine take_at (i := 2) (v := .agg (cliA c)) (some 41) rfl rfl (by kernel_rfl) (by kernel_rfl) (by kernel_rfl) (fun _ _ _ h => h) (yif_ld (by rfl) 29 _ rfl (by rfl) (fun _ h => L2.keep h) _ Tryd.underlying29 (by with_unfolding_all rfl) (by with_unfolding_all rfl)) hH ?_
  try simp only [Act.put, List.setIfInBounds_toArray, List.set_cons_zero, List.set_cons_succ]
  refine wpAnyH_ready (rs := [1]) (by kernel_rfl) (by simp) ?_
  refine AllReadyH.cons rfl (fun K hK => ?_) AllReadyH.nil
  go_simp
  refine (ref20_any c _).mono ?_
  rintro e v1 ⟨rfl, dq1⟩
  have q1 : Below w8.heap.size w8 v1 := bt ((b0 w8).drew) dq1
  clear hH
  refine hK.out _ _ q1 (fun hH => ?_)
  clear hK K
  try simp only [Act.put, List.setIfInBounds_toArray, List.set_cons_zero, List.set_cons_succ]
  refine wpAnyH_ready (rs := [3]) (by kernel_rfl) (by simp) ?_
  refine AllReadyH.cons rfl (fun K hK => ?_) AllReadyH.nil
  go_simp
  refine (ref20_any c _).mono ?_
  rintro e v2 ⟨rfl, dq2⟩
  have q2 : Below w8.heap.size w8 v2 := bt (q1) dq2
  clear hH
  refine hK.out _ _ q2 (fun hH => ?_)
  clear hK K
  try simp only [Act.put, List.setIfInBounds_toArray, List.set_cons_zero, List.set_cons_succ]
  refine wpAnyH_ready (rs := [4]) (by kernel_rfl) (by simp) ?_
  refine AllReadyH.cons rfl (fun K hK => ?_) AllReadyH.nil
  go_simp
  refine (hCW _ (b8.trans (Below.mono q2 b8.size))).mono ?_
  rintro e v3 ⟨rfl, dq3⟩
  have q3 : Below w8.heap.size w8 v3 := bt (q2) dq3
  clear hH
  refine hK.out _ _ q3 (fun hH => ?_)
  clear hK K
  try simp only [Act.put, List.setIfInBounds_toArray, List.set_cons_zero, List.set_cons_succ]
  refine take_at (i := 5) (v := .bool true) (some 44) rfl rfl (by kernel_rfl) (by kernel_rfl) (by kernel_rfl) (fun _ _ _ h => h) (.inl ⟨by rfl, by intro W' hS; go_simp⟩) hH ?_
  try simp only [Act.put, List.setIfInBounds_toArray, List.set_cons_zero, List.set_cons_succ]
  refine take_at (i := 6) (v := .pointer (some ⟨H, 0, none⟩)) (some 45) rfl rfl (by kernel_rfl) (by kernel_rfl) (by kernel_rfl) (fun _ _ _ h => h) (.inl ⟨by rfl, by intro W' hS; go_simp⟩) hH ?_
  try simp only [Act.put, List.setIfInBounds_toArray, List.set_cons_zero, List.set_cons_succ]
  refine take_at (i := 7) (v := .int .i64 c.id) (some 46) rfl rfl (by kernel_rfl) (by kernel_rfl) (by kernel_rfl) (fun _ _ _ h => h) (.inl ⟨by rfl, by intro W' hS; have c0 : W'.cell? ⟨H, 0, none⟩ = some (.int .i64 c.id) := (L8.keep hS).cell 0; go_simp⟩) hH ?_
  try simp only [Act.put, List.setIfInBounds_toArray, List.set_cons_zero, List.set_cons_succ]
  refine take_at (i := 8) (v := .pointer (some ⟨w.heap.size, 0, none⟩)) (some 47) rfl rfl (by kernel_rfl) (by kernel_rfl) (by kernel_rfl) (fun _ _ _ h => h) (.inl ⟨by rfl, by intro W' hS; go_simp⟩) hH ?_
  try simp only [Act.put, List.setIfInBounds_toArray, List.set_cons_zero, List.set_cons_succ]
  refine take_at (i := 9) (v := .int .i64 c.id) (some 48) rfl rfl (by kernel_rfl) (by kernel_rfl) (by kernel_rfl) (fun _ _ _ h => h) (.inl ⟨by rfl, by intro W' hS; have c0 : W'.cell? ⟨w.heap.size, 0, none⟩ = some (.int .i64 c.id) := (L2.keep hS).cell 0; go_simp⟩) hH ?_
  try simp only [Act.put, List.setIfInBounds_toArray, List.set_cons_zero, List.set_cons_succ]
  refine take_at (i := 10) (v := .bool true) (some 49) rfl rfl (by kernel_rfl) (by kernel_rfl) (by kernel_rfl) (fun _ _ _ h => h) (.inl ⟨by rfl, by intro W' hS; go_simp⟩) hH ?_
  try simp only [Act.put, List.setIfInBounds_toArray, List.set_cons_zero, List.set_cons_succ]
  refine take_at (i := 11) (v := .bool true) (some 50) rfl rfl (by kernel_rfl) (by kernel_rfl) (by kernel_rfl) (fun _ _ _ h => h) (.inl ⟨by rfl, by intro W' hS; go_simp⟩) hH ?_
  try simp only [Act.put, List.setIfInBounds_toArray, List.set_cons_zero, List.set_cons_succ]
  refine take_at (i := 12) (v := .bool true) (some 51) rfl rfl (by kernel_rfl) (by kernel_rfl) (by kernel_rfl) (fun _ _ _ h => h) (.inl ⟨by rfl, by intro W' hS; go_simp⟩) hH ?_
  try simp only [Act.put, List.setIfInBounds_toArray, List.set_cons_zero, List.set_cons_succ]
  refine take_at (i := 13) (v := .pointer (some ⟨H, 1, none⟩)) (some 52) rfl rfl (by kernel_rfl) (by kernel_rfl) (by kernel_rfl) (fun _ _ _ h => h) (.inl ⟨by rfl, by intro W' hS; go_simp⟩) hH ?_
  try simp only [Act.put, List.setIfInBounds_toArray, List.set_cons_zero, List.set_cons_succ]
  refine take_at (i := 14) (v := .int .i64 c.nx) (some 53) rfl rfl (by kernel_rfl) (by kernel_rfl) (by kernel_rfl) (fun _ _ _ h => h) (.inl ⟨by rfl, by intro W' hS; have c0 : W'.cell? ⟨H, 1, none⟩ = some (.int .i64 c.nx) := (L8.keep hS).cell 1; go_simp⟩) hH ?_
  try simp only [Act.put, List.setIfInBounds_toArray, List.set_cons_zero, List.set_cons_succ]
  refine take_at (i := 15) (v := .pointer (some ⟨w.heap.size, 1, none⟩)) (some 54) rfl rfl (by kernel_rfl) (by kernel_rfl) (by kernel_rfl) (fun _ _ _ h => h) (.inl ⟨by rfl, by intro W' hS; go_simp⟩) hH ?_
  try simp only [Act.put, List.setIfInBounds_toArray, List.set_cons_zero, List.set_cons_succ]
  refine take_at (i := 16) (v := .int .i64 c.nx) (some 55) rfl rfl (by kernel_rfl) (by kernel_rfl) (by kernel_rfl) (fun _ _ _ h => h) (.inl ⟨by rfl, by intro W' hS; have c0 : W'.cell? ⟨w.heap.size, 1, none⟩ = some (.int .i64 c.nx) := (L2.keep hS).cell 1; go_simp⟩) hH ?_
  try simp only [Act.put, List.setIfInBounds_toArray, List.set_cons_zero, List.set_cons_succ]
  refine take_at (i := 17) (v := .bool true) (some 56) rfl rfl (by kernel_rfl) (by kernel_rfl) (by kernel_rfl) (fun _ _ _ h => h) (.inl ⟨by rfl, by intro W' hS; go_simp⟩) hH ?_
  try simp only [Act.put, List.setIfInBounds_toArray, List.set_cons_zero, List.set_cons_succ]
  refine take_at (i := 18) (v := .bool true) (some 57) rfl rfl (by kernel_rfl) (by kernel_rfl) (by kernel_rfl) (fun _ _ _ h => h) (.inl ⟨by rfl, by intro W' hS; go_simp⟩) hH ?_
  try simp only [Act.put, List.setIfInBounds_toArray, List.set_cons_zero, List.set_cons_succ]
  refine take_at (i := 19) (v := .bool true) (some 58) rfl rfl (by kernel_rfl) (by kernel_rfl) (by kernel_rfl) (fun _ _ _ h => h) (.inl ⟨by rfl, by intro W' hS; go_simp⟩) hH ?_
  try simp only [Act.put, List.setIfInBounds_toArray, List.set_cons_zero, List.set_cons_succ]
  refine take_at (i := 20) (v := .pointer (some ⟨H, 4, none⟩)) (some 59) rfl rfl (by kernel_rfl) (by kernel_rfl) (by kernel_rfl) (fun _ _ _ h => h) (.inl ⟨by rfl, by intro W' hS; go_simp⟩) hH ?_
  try simp only [Act.put, List.setIfInBounds_toArray, List.set_cons_zero, List.set_cons_succ]
  refine take_at (i := 21) (v := .agg (rqA c.req)) (some 60) rfl rfl (by kernel_rfl) (by kernel_rfl) (by kernel_rfl) (fun _ _ _ h => h) (yieldsIf_load_mid (by rfl) 27 _ rfl (H) 4 (by rfl) (rqA c.req).toList _ (fun _ h => Blk.range (L8.keep h) 4 _ (by rfl)) Tryd.underlying27 (by with_unfolding_all rfl) (by with_unfolding_all rfl)) hH ?_
  try simp only [Act.put, List.setIfInBounds_toArray, List.set_cons_zero, List.set_cons_succ]
  refine take_at (i := 22) (v := .pointer (some ⟨w.heap.size, 4, none⟩)) (some 61) rfl rfl (by kernel_rfl) (by kernel_rfl) (by kernel_rfl) (fun _ _ _ h => h) (.inl ⟨by rfl, by intro W' hS; go_simp⟩) hH ?_
  try simp only [Act.put, List.setIfInBounds_toArray, List.set_cons_zero, List.set_cons_succ]
  refine take_at (i := 23) (v := .agg (rqA c.req)) (some 62) rfl rfl (by kernel_rfl) (by kernel_rfl) (by kernel_rfl) (fun _ _ _ h => h) (yieldsIf_load_mid (by rfl) 27 _ rfl (w.heap.size) 4 (by rfl) (rqA c.req).toList _ (fun _ h => Blk.range (L2.keep h) 4 _ (by rfl)) Tryd.underlying27 (by with_unfolding_all rfl) (by with_unfolding_all rfl)) hH ?_
  try simp only [Act.put, List.setIfInBounds_toArray, List.set_cons_zero, List.set_cons_succ]
  refine take_at (i := 24) (v := .bool true) (some 63) rfl rfl (by kernel_rfl) (by kernel_rfl) (by kernel_rfl) (fun _ _ _ h => h) (.inl ⟨by rfl, by intro W' hS; go_simp⟩) hH ?_
  try simp only [Act.put, List.setIfInBounds_toArray, List.set_cons_zero, List.set_cons_succ]
  refine take_at (i := 25) (v := .bool true) (some 64) rfl rfl (by kernel_rfl) (by kernel_rfl) (by kernel_rfl) (fun _ _ _ h => h) (.inl ⟨by rfl, by intro W' hS; go_simp⟩) hH ?_
  try simp only [Act.put, List.setIfInBounds_toArray, List.set_cons_zero, List.set_cons_succ]
  refine take_at (i := 26) (v := .bool true) (some 65) rfl rfl (by kernel_rfl) (by kernel_rfl) (by kernel_rfl) (fun _ _ _ h => h) (.inl ⟨by rfl, by intro W' hS; go_simp⟩) hH ?_
  try simp only [Act.put, List.setIfInBounds_toArray, List.set_cons_zero, List.set_cons_succ]
  refine take_at (i := 27) (v := .slice none 0 0) (some 66) rfl rfl (by kernel_rfl) (by kernel_rfl) (by kernel_rfl) (fun _ _ _ h => h) (.inl ⟨by rfl, by intro W' hS; go_simp⟩) hH ?_
  try simp only [Act.put, List.setIfInBounds_toArray, List.set_cons_zero, List.set_cons_succ]
  refine take_at (i := 28) (v := .int .i64 0) (some 67) rfl rfl (by kernel_rfl) (by kernel_rfl) (by kernel_rfl) (fun _ _ _ h => h) (.inl ⟨by rfl, by intro W' hS; go_simp⟩) hH ?_
  try simp only [Act.put, List.setIfInBounds_toArray, List.set_cons_zero, List.set_cons_succ]
  refine take_at (i := 29) (v := .slice none 0 0) (some 68) rfl rfl (by kernel_rfl) (by kernel_rfl) (by kernel_rfl) (fun _ _ _ h => h) (.inl ⟨by rfl, by intro W' hS; go_simp⟩) hH ?_
  try simp only [Act.put, List.setIfInBounds_toArray, List.set_cons_zero, List.set_cons_succ]
  refine take_at (i := 30) (v := .int .i64 0) (some 69) rfl rfl (by kernel_rfl) (by kernel_rfl) (by kernel_rfl) (fun _ _ _ h => h) (.inl ⟨by rfl, by intro W' hS; go_simp⟩) hH ?_
  try simp only [Act.put, List.setIfInBounds_toArray, List.set_cons_zero, List.set_cons_succ]
  refine take_at (i := 31) (v := .int .i64 0) (some 70) rfl rfl (by kernel_rfl) (by kernel_rfl) (by kernel_rfl) (fun _ _ _ h => h) (.inl ⟨by rfl, by intro W' hS; have c0 : IntKind.i64.wrap 0 = 0 := (by decide); go_simp⟩) hH ?_
  try simp only [Act.put, List.setIfInBounds_toArray, List.set_cons_zero, List.set_cons_succ]
  refine take_at (i := 32) (v := .bool true) (some 71) rfl rfl (by kernel_rfl) (by kernel_rfl) (by kernel_rfl) (fun _ _ _ h => h) (.inl ⟨by rfl, by intro W' hS; go_simp⟩) hH ?_
  try simp only [Act.put, List.setIfInBounds_toArray, List.set_cons_zero, List.set_cons_succ]
  refine take_at (i := 33) (v := .bool true) (some 72) rfl rfl (by kernel_rfl) (by kernel_rfl) (by kernel_rfl) (fun _ _ _ h => h) (.inl ⟨by rfl, by intro W' hS; go_simp⟩) hH ?_
  try simp only [Act.put, List.setIfInBounds_toArray, List.set_cons_zero, List.set_cons_succ]
  refine take_at (i := 34) (v := .bool true) (some 73) rfl rfl (by kernel_rfl) (by kernel_rfl) (by kernel_rfl) (fun _ _ _ h => h) (.inl ⟨by rfl, by intro W' hS; go_simp⟩) hH ?_
  try simp only [Act.put, List.setIfInBounds_toArray, List.set_cons_zero, List.set_cons_succ]
  refine take_at (i := 35) (v := .pointer (some ⟨G + 1, 0, none⟩)) (some 74) rfl rfl (by kernel_rfl) (by kernel_rfl) (by kernel_rfl) (fun _ _ _ h => h) (.inl ⟨by rfl, by intro W' hS; go_simp⟩) hH ?_
  try simp only [Act.put, List.setIfInBounds_toArray, List.set_cons_zero, List.set_cons_succ]
  refine take_at (i := 36) (v := .bool false) (some 75) rfl rfl (by kernel_rfl) (by kernel_rfl) (by kernel_rfl) (fun _ _ _ h => h) (.inl ⟨by rfl, by intro W' hS; have c0 : W'.cell? ⟨G + 1, 0, none⟩ = some (.bool false) := (L7.keep hS).cell 0; go_simp⟩) hH ?_
  try simp only [Act.put, List.setIfInBounds_toArray, List.set_cons_zero, List.set_cons_succ]
  refine take_at (i := 37) (v := .bool true) (some 76) rfl rfl (by kernel_rfl) (by kernel_rfl) (by kernel_rfl) (fun _ _ _ h => h) (.inl ⟨by rfl, by intro W' hS; go_simp⟩) hH ?_
  try simp only [Act.put, List.setIfInBounds_toArray, List.set_cons_zero, List.set_cons_succ]
  refine take_at (i := 38) (v := .bool true) (some 77) rfl rfl (by kernel_rfl) (by kernel_rfl) (by kernel_rfl) (fun _ _ _ h => h) (.inl ⟨by rfl, by intro W' hS; go_simp⟩) hH ?_
  try simp only [Act.put, List.setIfInBounds_toArray, List.set_cons_zero, List.set_cons_succ]
  refine take_at (i := 39) (v := .bool true) (some 78) rfl rfl (by kernel_rfl) (by kernel_rfl) (by kernel_rfl) (fun _ _ _ h => h) (.inl ⟨by rfl, by intro W' hS; go_simp⟩) hH ?_
  try simp only [Act.put, List.setIfInBounds_toArray, List.set_cons_zero, List.set_cons_succ]
  refine take_at (i := 40) (v := .pointer (some ⟨H + 1, 0, none⟩)) (some 79) rfl rfl (by kernel_rfl) (by kernel_rfl) (by kernel_rfl) (fun _ _ _ h => h) (.inl ⟨by rfl, by intro W' hS; go_simp⟩) hH ?_
  try simp only [Act.put, List.setIfInBounds_toArray, List.set_cons_zero, List.set_cons_succ]
  refine take_at (i := 41) (v := .bool false) (some 80) rfl rfl (by kernel_rfl) (by kernel_rfl) (by kernel_rfl) (fun _ _ _ h => h) (.inl ⟨by rfl, by intro W' hS; have c0 : W'.cell? ⟨H + 1, 0, none⟩ = some (.bool false) := (L10.keep hS).cell 0; go_simp⟩) hH ?_
  try simp only [Act.put, List.setIfInBounds_toArray, List.set_cons_zero, List.set_cons_succ]
  refine take_at (i := 42) (v := .bool true) (some 81) rfl rfl (by kernel_rfl) (by kernel_rfl) (by kernel_rfl) (fun _ _ _ h => h) (.inl ⟨by rfl, by intro W' hS; go_simp⟩) hH ?_
  try simp only [Act.put, List.setIfInBounds_toArray, List.set_cons_zero, List.set_cons_succ]
  refine take_at (i := 43) (v := .bool true) (some 82) rfl rfl (by kernel_rfl) (by kernel_rfl) (by kernel_rfl) (fun _ _ _ h => h) (.inl ⟨by rfl, by intro W' hS; go_simp⟩) hH ?_
  try simp only [Act.put, List.setIfInBounds_toArray, List.set_cons_zero, List.set_cons_succ]
  refine take_at (i := 44) (v := .bool true) (some 83) rfl rfl (by kernel_rfl) (by kernel_rfl) (by kernel_rfl) (fun _ _ _ h => h) (.inl ⟨by rfl, by intro W' hS; go_simp⟩) hH ?_
  try simp only [Act.put, List.setIfInBounds_toArray, List.set_cons_zero, List.set_cons_succ]
  refine wpAnyH_ready (rs := [45]) (by kernel_rfl) (by simp) ?_
  refine AllReadyH.cons rfl (fun K hK => ?_) AllReadyH.nil
  go_simp
  refine (hAW _ (b8.trans (Below.mono q3 b8.size))).mono ?_
  rintro e v4 ⟨rfl, dq4⟩
  have q4 : Below w8.heap.size w8 v4 := bt (q3) dq4
  clear hH
  refine hK.out _ _ q4 (fun hH => ?_)
  clear hK K
  try simp only [Act.put, List.setIfInBounds_toArray, List.set_cons_zero, List.set_cons_succ]
  refine take_at (i := 46) (v := .bool true) (some 85) rfl rfl (by kernel_rfl) (by kernel_rfl) (by kernel_rfl) (fun _ _ _ h => h) (.inl ⟨by rfl, by intro W' hS; go_simp⟩) hH ?_
  try simp only [Act.put, List.setIfInBounds_toArray, List.set_cons_zero, List.set_cons_succ]
  refine take_at (i := 47) (v := .bool true) (some 4) rfl rfl (by kernel_rfl) (by kernel_rfl) (by kernel_rfl) (fun _ _ _ h => h) (.inl ⟨by rfl, by intro W' hS; go_simp⟩) hH ?_
  try simp only [Act.put, List.setIfInBounds_toArray, List.set_cons_zero, List.set_cons_succ]
  refine wpAnyH_done (by kernel_rfl) ?_ _
  go_wp2
  go_ret
  exact ⟨rfl, b8.trans (Below.mono q4 b8.size)⟩
end Go.Proofs.YtbggohdpaodkeaaDoor
