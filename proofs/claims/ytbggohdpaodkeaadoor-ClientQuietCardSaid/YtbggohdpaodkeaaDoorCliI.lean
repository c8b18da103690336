/- client.Hear of a client that has nothing pending. -/
import Derived.Test.YtbggohdpaodkeaaDoorCliH
namespace Go.Proofs.YtbggohdpaodkeaaDoor
open Go.RowKit
attribute [local go_sem] ByteArray.mk_append_mk ByteArray.extract_mk
attribute [local go_sem ↓] Go.wp_at_zero Go.wp_at_succ
theorem end1 {w W : World} {z : Array Value} {t t' : TypeId} {n : Nat} (h1 : Below w.heap.size w W) (hn : w.heap.size ≤ n) (C2 : Blk W n t zcA) (C3 : Blk W (n + 1) t' z) (v : Array Value) :
    ∀ w', w' = W.setRow n v → Below w.heap.size w w' ∧ Blk w' n t v ∧ Blk w' (n + 1) t' z := by
  rintro _ rfl
  exact ⟨below_row h1 hn _, C2.row _, C3.row_far (by omega) _⟩
theorem end2 {w W : World} {v z : Array Value} {t t' : TypeId} {n : Nat} (h1 : Below w.heap.size w W) (hn : w.heap.size ≤ n) (C2 : Blk W n t v) (C3 : Blk W (n + 1) t' z) :
    ∀ w', w' = W.setRow (n + 1) z → Below w.heap.size w w' ∧ Blk w' n t v ∧ Blk w' (n + 1) t' z := by
  rintro _ rfl
  exact ⟨below_row h1 (by omega) _, C2.row_far (by omega) _, C3.row _⟩
set_option maxHeartbeats 1600000 in
set_option maxRecDepth 100000 in
theorem hear_any (c : Cli) (ps : List Pl) (ls : List Int) (h0 : c.req.rq = 0) (m : Ms) (qs : List Pl) (ks : List Int) (w : World) (hC : CliIn c ps ls w) (hM : MsIn m qs ks w) :
    Calls Tryd.prog 8 #[cliV c, msV m] w (HearPost c w) := by
  go_enter Tryd.func8, Tryd.ntmps8
  have H0 : HSt c m w ((((w.alloc (.cells (cliA c) 29)).alloc (.cells (msA m) 35)).alloc (.cells zcA 29)).alloc (.cells ztA 41)) :=
    ⟨bal (bal (bal (bal (b0 w) _) _) _) _, ⟨c, ⟨rfl, rfl, rfl, rfl, rfl⟩, (((Blk.new w _ _).alloc _).alloc _).alloc _⟩, ((Blk.new' _ _ _ _ (by simp)).alloc _).alloc _, (Blk.new' _ _ _ _ (by simp)).alloc _, Blk.new' _ _ _ _ (by simp)⟩
  have B1 : Blk ((((w.alloc (.cells (cliA c) 29)).alloc (.cells (msA m) 35)).alloc (.cells zcA 29)).alloc (.cells ztA 41)) w.heap.size 29 (cliA c) := (((Blk.new w _ _).alloc _).alloc _).alloc _
  go_wp2_with (with_reducible refine wpl_ld B1 (by with_unfolding_all rfl) _ _ (by with_unfolding_all rfl) (by with_unfolding_all rfl) _ Tryd.underlying29 (by with_unfolding_all rfl) (by with_unfolding_all rfl) ?_)
  generalize ((((w.alloc (.cells (cliA c) 29)).alloc (.cells (msA m) 35)).alloc (.cells zcA 29)).alloc (.cells ztA 41)) = W at *
  refine (cliright_sb c ps ls h0 W (hC.keep H0.below)).mono ?_
  rintro e w1 ⟨q, rfl, d1⟩
  have H1 := H0.keep d1
  clear B1
  cases q
  case false =>
    (obtain ⟨hbx, ⟨d, hd, C1⟩, _, C2, C3⟩ := H1; have D := end1 hbx (by omega) C2 C3 (cliA d); go_wp2_with (first | (with_reducible refine wpl_ld C1 (by with_unfolding_all rfl) 29 _ (by with_unfolding_all rfl) (by with_unfolding_all rfl) _ Tryd.underlying29 (by with_unfolding_all rfl) (by with_unfolding_all rfl) ?_) | (with_reducible refine wpl_st C2 (by with_unfolding_all rfl) 29 _ _ (by with_unfolding_all rfl) (cliA d) (by with_unfolding_all rfl) (by with_unfolding_all rfl) (by with_unfolding_all rfl) (by with_unfolding_all rfl) (by with_unfolding_all rfl) ?_; intro w2 e2; obtain ⟨b2, F2, F3⟩ := D w2 e2; have E := end2 b2 (by omega) F2 F3; clear e2) | (with_reducible refine wpl_st F3 (by with_unfolding_all rfl) 41 _ _ (by with_unfolding_all rfl) ztA (by with_unfolding_all rfl) (by with_unfolding_all rfl) (by with_unfolding_all rfl) (by with_unfolding_all rfl) (by with_unfolding_all rfl) ?_; intro w3 e3; obtain ⟨b3, H2, H3⟩ := E w3 e3; clear e3) | fail); exact bodyPost_ret (res3 H2 H3 rfl rfl rfl _ rfl _ _ Tryd.underlying29 rfl rfl Tryd.underlying41 rfl rfl) rfl ⟨d, hd, rfl, b3⟩)
  case true =>
  have M1 := H1.ms
  go_wp2_with (with_reducible refine wpl_ldg M1 (by with_unfolding_all rfl) _ _ (by with_unfolding_all rfl) (by with_unfolding_all rfl) _ Tryd.underlying35 (by with_unfolding_all rfl) (by with_unfolding_all rfl) ?_)
  refine (rightmsg_sb m qs ks w1 (hM.keep H1.below)).mono ?_
  rintro e w4 ⟨q2, rfl, d2⟩
  have H4 := H1.keep d2
  clear M1
  cases q2
  case false =>
    (obtain ⟨hbx, ⟨d, hd, C1⟩, _, C2, C3⟩ := H4; have D := end1 hbx (by omega) C2 C3 (cliA d); go_wp2_with (first | (with_reducible refine wpl_ld C1 (by with_unfolding_all rfl) 29 _ (by with_unfolding_all rfl) (by with_unfolding_all rfl) _ Tryd.underlying29 (by with_unfolding_all rfl) (by with_unfolding_all rfl) ?_) | (with_reducible refine wpl_st C2 (by with_unfolding_all rfl) 29 _ _ (by with_unfolding_all rfl) (cliA d) (by with_unfolding_all rfl) (by with_unfolding_all rfl) (by with_unfolding_all rfl) (by with_unfolding_all rfl) (by with_unfolding_all rfl) ?_; intro w2 e2; obtain ⟨b2, F2, F3⟩ := D w2 e2; have E := end2 b2 (by omega) F2 F3; clear e2) | (with_reducible refine wpl_st F3 (by with_unfolding_all rfl) 41 _ _ (by with_unfolding_all rfl) ztA (by with_unfolding_all rfl) (by with_unfolding_all rfl) (by with_unfolding_all rfl) (by with_unfolding_all rfl) (by with_unfolding_all rfl) ?_; intro w3 e3; obtain ⟨b3, H2, H3⟩ := E w3 e3; clear e3) | fail); exact bodyPost_ret (res3 H2 H3 rfl rfl rfl _ rfl _ _ Tryd.underlying29 rfl rfl Tryd.underlying41 rfl rfl) rfl ⟨d, hd, rfl, b3⟩)
  case true =>
  obtain ⟨d0, hd0, C0⟩ := H4.cli
  have a0 := C0.cell 0
  have a5 : w4.cell? ⟨w.heap.size, 5, none⟩ = some (.int .i64 0) := by
    have := C0.cell 5
    rw [this]
    simp [hd0.2.2.1, h0]
  have m0 : w4.cell? ⟨w.heap.size + 1, 0, none⟩ = some (.int .i64 m.kind) := H4.ms.cell 0
  have m2 : w4.cell? ⟨w.heap.size + 1, 2, none⟩ = some (.int .i64 m.to) := H4.ms.cell 2
  have a0' : w4.cell? ⟨w.heap.size, 0, none⟩ = some (.int .i64 d0.id) := a0
  clear a0
  obtain ⟨t, ht⟩ : ∃ t, IntKind.i64.wrap (10 + d0.id) = t := ⟨_, rfl⟩
  clear C0
  by_cases hto : m.to = t
  case neg =>
    have hne : (m.to != t) = true := by simp [hto]
    clear hto
    (obtain ⟨hbx, ⟨d, hd, C1⟩, _, C2, C3⟩ := H4; have D := end1 hbx (by omega) C2 C3 (cliA d); go_wp2_with (first | (with_reducible refine wpl_ld C1 (by with_unfolding_all rfl) 29 _ (by with_unfolding_all rfl) (by with_unfolding_all rfl) _ Tryd.underlying29 (by with_unfolding_all rfl) (by with_unfolding_all rfl) ?_) | (with_reducible refine wpl_st C2 (by with_unfolding_all rfl) 29 _ _ (by with_unfolding_all rfl) (cliA d) (by with_unfolding_all rfl) (by with_unfolding_all rfl) (by with_unfolding_all rfl) (by with_unfolding_all rfl) (by with_unfolding_all rfl) ?_; intro w2 e2; obtain ⟨b2, F2, F3⟩ := D w2 e2; have E := end2 b2 (by omega) F2 F3; clear e2) | (with_reducible refine wpl_st F3 (by with_unfolding_all rfl) 41 _ _ (by with_unfolding_all rfl) ztA (by with_unfolding_all rfl) (by with_unfolding_all rfl) (by with_unfolding_all rfl) (by with_unfolding_all rfl) (by with_unfolding_all rfl) ?_; intro w3 e3; obtain ⟨b3, H2, H3⟩ := E w3 e3; clear e3) | fail); exact bodyPost_ret (res3 H2 H3 rfl rfl rfl _ rfl _ _ Tryd.underlying29 rfl rfl Tryd.underlying41 rfl rfl) rfl ⟨d, hd, rfl, b3⟩)
  case pos =>
  have hne : (m.to != t) = false := by simp [hto]
  clear hto
  by_cases k4 : m.kind = 4
  case neg =>
    by_cases k2 : m.kind = 2
    case pos =>
      rw [k2] at m0
      clear k4 k2
      (obtain ⟨hbx, ⟨d, hd, C1⟩, _, C2, C3⟩ := H4; have D := end1 hbx (by omega) C2 C3 (cliA d); go_wp2_with (first | (with_reducible refine wpl_ld C1 (by with_unfolding_all rfl) 29 _ (by with_unfolding_all rfl) (by with_unfolding_all rfl) _ Tryd.underlying29 (by with_unfolding_all rfl) (by with_unfolding_all rfl) ?_) | (with_reducible refine wpl_st C2 (by with_unfolding_all rfl) 29 _ _ (by with_unfolding_all rfl) (cliA d) (by with_unfolding_all rfl) (by with_unfolding_all rfl) (by with_unfolding_all rfl) (by with_unfolding_all rfl) (by with_unfolding_all rfl) ?_; intro w2 e2; obtain ⟨b2, F2, F3⟩ := D w2 e2; have E := end2 b2 (by omega) F2 F3; clear e2) | (with_reducible refine wpl_st F3 (by with_unfolding_all rfl) 41 _ _ (by with_unfolding_all rfl) ztA (by with_unfolding_all rfl) (by with_unfolding_all rfl) (by with_unfolding_all rfl) (by with_unfolding_all rfl) (by with_unfolding_all rfl) ?_; intro w3 e3; obtain ⟨b3, H2, H3⟩ := E w3 e3; clear e3) | fail); exact bodyPost_ret (res3 H2 H3 rfl rfl rfl _ rfl _ _ Tryd.underlying29 rfl rfl Tryd.underlying41 rfl rfl) rfl ⟨d, hd, rfl, b3⟩)
    case neg =>
      by_cases k6 : m.kind = 6
      case pos =>
        rw [k6] at m0
        clear k4 k2 k6
        (obtain ⟨hbx, ⟨d, hd, C1⟩, _, C2, C3⟩ := H4; have D := end1 hbx (by omega) C2 C3 (cliA d); go_wp2_with (first | (with_reducible refine wpl_ld C1 (by with_unfolding_all rfl) 29 _ (by with_unfolding_all rfl) (by with_unfolding_all rfl) _ Tryd.underlying29 (by with_unfolding_all rfl) (by with_unfolding_all rfl) ?_) | (with_reducible refine wpl_st C2 (by with_unfolding_all rfl) 29 _ _ (by with_unfolding_all rfl) (cliA d) (by with_unfolding_all rfl) (by with_unfolding_all rfl) (by with_unfolding_all rfl) (by with_unfolding_all rfl) (by with_unfolding_all rfl) ?_; intro w2 e2; obtain ⟨b2, F2, F3⟩ := D w2 e2; have E := end2 b2 (by omega) F2 F3; clear e2) | (with_reducible refine wpl_st F3 (by with_unfolding_all rfl) 41 _ _ (by with_unfolding_all rfl) ztA (by with_unfolding_all rfl) (by with_unfolding_all rfl) (by with_unfolding_all rfl) (by with_unfolding_all rfl) (by with_unfolding_all rfl) ?_; intro w3 e3; obtain ⟨b3, H2, H3⟩ := E w3 e3; clear e3) | fail); exact bodyPost_ret (res3 H2 H3 rfl rfl rfl _ rfl _ _ Tryd.underlying29 rfl rfl Tryd.underlying41 rfl rfl) rfl ⟨d, hd, rfl, b3⟩)
      case neg =>
        have n4 : (m.kind == 4) = false := by simp [k4]
        have n2 : (m.kind == 2) = false := by simp [k2]
        have n6 : (m.kind == 6) = false := by simp [k6]
        (obtain ⟨hbx, ⟨d, hd, C1⟩, _, C2, C3⟩ := H4; have D := end1 hbx (by omega) C2 C3 (cliA d); go_wp2_with (first | (with_reducible refine wpl_ld C1 (by with_unfolding_all rfl) 29 _ (by with_unfolding_all rfl) (by with_unfolding_all rfl) _ Tryd.underlying29 (by with_unfolding_all rfl) (by with_unfolding_all rfl) ?_) | (with_reducible refine wpl_st C2 (by with_unfolding_all rfl) 29 _ _ (by with_unfolding_all rfl) (cliA d) (by with_unfolding_all rfl) (by with_unfolding_all rfl) (by with_unfolding_all rfl) (by with_unfolding_all rfl) (by with_unfolding_all rfl) ?_; intro w2 e2; obtain ⟨b2, F2, F3⟩ := D w2 e2; have E := end2 b2 (by omega) F2 F3; clear e2) | (with_reducible refine wpl_st F3 (by with_unfolding_all rfl) 41 _ _ (by with_unfolding_all rfl) ztA (by with_unfolding_all rfl) (by with_unfolding_all rfl) (by with_unfolding_all rfl) (by with_unfolding_all rfl) (by with_unfolding_all rfl) ?_; intro w3 e3; obtain ⟨b3, H2, H3⟩ := E w3 e3; clear e3) | fail); exact bodyPost_ret (res3 H2 H3 rfl rfl rfl _ rfl _ _ Tryd.underlying29 rfl rfl Tryd.underlying41 rfl rfl) rfl ⟨d, hd, rfl, b3⟩)
  case pos =>
  rw [k4] at m0
  clear k4
  have m34 : w4.cell? ⟨w.heap.size + 1, 34, none⟩ = some (.slice m.pA m.pn m.pc) := H4.ms.cell 34
  have m35 : w4.cell? ⟨w.heap.size + 1, 35, none⟩ = some (.slice m.mA m.mn m.mc) := H4.ms.cell 35
  go_wp2_with fail
  have hpn := hM.pn
  have hln := hM.ln
  have hp40 := hM.p40
  have hl40 := hM.l40
  have hpc := hM.pcap
  have M4 := hM.keep H4.below
  have hkn := known_sb m.pA m.pc qs (by omega) (by omega) hM.ok m.mA m.mc ks (by omega) w4 M4.rp M4.rl (hC.keep H4.below).tab
  rw [hpn, hln] at hkn
  refine hkn.mono ?_
  clear hkn M4 m34 m35 a5 m0 m2 a0'
  rintro e w5 ⟨q3, rfl, hq3, d5⟩
  have H5 := H4.keep d5
  clear H4 H1 H0
  cases q3
  case false =>
    clear hq3
    have m0 : w5.cell? ⟨w.heap.size + 1, 0, none⟩ = some (.int .i64 m.kind) := H5.ms.cell 0
    (obtain ⟨hbx, ⟨d, hd, C1⟩, _, C2, C3⟩ := H5; have D := end1 hbx (by omega) C2 C3 (cliA d); go_wp2_with (first | (with_reducible refine wpl_ld C1 (by with_unfolding_all rfl) 29 _ (by with_unfolding_all rfl) (by with_unfolding_all rfl) _ Tryd.underlying29 (by with_unfolding_all rfl) (by with_unfolding_all rfl) ?_) | (with_reducible refine wpl_st C2 (by with_unfolding_all rfl) 29 _ _ (by with_unfolding_all rfl) (cliA d) (by with_unfolding_all rfl) (by with_unfolding_all rfl) (by with_unfolding_all rfl) (by with_unfolding_all rfl) (by with_unfolding_all rfl) ?_; intro w2 e2; obtain ⟨b2, F2, F3⟩ := D w2 e2; have E := end2 b2 (by omega) F2 F3; clear e2) | (with_reducible refine wpl_st F3 (by with_unfolding_all rfl) 41 _ _ (by with_unfolding_all rfl) ztA (by with_unfolding_all rfl) (by with_unfolding_all rfl) (by with_unfolding_all rfl) (by with_unfolding_all rfl) (by with_unfolding_all rfl) ?_; intro w3 e3; obtain ⟨b3, H2, H3⟩ := E w3 e3; clear e3) | fail); exact bodyPost_ret (res3 H2 H3 rfl rfl rfl _ rfl _ _ Tryd.underlying29 rfl rfl Tryd.underlying41 rfl rfl) rfl ⟨d, hd, rfl, b3⟩)
  case true =>
  have hq := hq3 rfl
  clear hq3
  have hKP : ∀ W, HSt c m w W → Calls Tryd.prog 18 #[.slice m.pA m.pn m.pc] W (SomeSlice W) := fun W hW => hW.clp hM (by omega)
  have hKL : ∀ W, HSt c m w W → Calls Tryd.prog 19 #[.slice m.mA m.mn m.mc] W (SomeSlice W) := fun W hW => hW.cli_ hM (by omega)
  clear hC hM hpn hln hp40 hl40 hpc
  have HS : ∀ W, HSt c m w W → HSt c m w W ∧ W.cell? ⟨w.heap.size + 1, 34, none⟩ = some (.slice m.pA m.pn m.pc) ∧ W.cell? ⟨w.heap.size + 1, 35, none⟩ = some (.slice m.mA m.mn m.mc) := fun W hW => ⟨hW, hW.ms.cell 34, hW.ms.cell 35⟩
  have m0 : w5.cell? ⟨w.heap.size + 1, 0, none⟩ = some (.int .i64 m.kind) := H5.ms.cell 0
  go_wp2_with fail
  clear m0
  obtain ⟨_, s34, s35⟩ := HS w5 H5
  go_region_held3 (fun w' => HSt c m w w' ∧ w'.cell? ⟨w.heap.size + 1, 34, none⟩ = some (.slice m.pA m.pn m.pc) ∧ w'.cell? ⟨w.heap.size + 1, 35, none⟩ = some (.slice m.mA m.mn m.mc)) (first | with_reducible assumption | (refine HS _ ?_; (repeat (first | with_reducible assumption | with_reducible refine HSt.drew ?_ | with_reducible refine HSt.drewN ?_ _ | with_reducible refine HSt.st2 ?_ _ _ _ | with_reducible refine HSt.st3 ?_ _ _ _)))) (first
    | (go_at_call 18; refine (hKP _ (by (repeat (first | with_reducible assumption | with_reducible refine HSt.drew ?_ | with_reducible refine HSt.drewN ?_ _ | with_reducible refine HSt.st2 ?_ _ _ _ | with_reducible refine HSt.st3 ?_ _ _ _)))).mono ?_; rintro e wa ⟨A_wa, n_wa, c_wa, rfl, d_wa⟩; have K_wa : HSt c m w wa := HSt.keep (by (repeat (first | with_reducible assumption | with_reducible refine HSt.drew ?_ | with_reducible refine HSt.drewN ?_ _ | with_reducible refine HSt.st2 ?_ _ _ _ | with_reducible refine HSt.st3 ?_ _ _ _))) d_wa; obtain ⟨u2, u3, x2, x3, y2, y3⟩ := K_wa.two; have S_wa := HS wa K_wa)
    | (go_at_call 19; refine (hKL _ (by (repeat (first | with_reducible assumption | with_reducible refine HSt.drew ?_ | with_reducible refine HSt.drewN ?_ _ | with_reducible refine HSt.st2 ?_ _ _ _ | with_reducible refine HSt.st3 ?_ _ _ _)))).mono ?_; rintro e wb ⟨A_wb, n_wb, c_wb, rfl, d_wb⟩; have K_wb : HSt c m w wb := HSt.keep (by (repeat (first | with_reducible assumption | with_reducible refine HSt.drew ?_ | with_reducible refine HSt.drewN ?_ _ | with_reducible refine HSt.st2 ?_ _ _ _ | with_reducible refine HSt.st3 ?_ _ _ _))) d_wb; obtain ⟨u2, u3, x2, x3, y2, y3⟩ := K_wb.two; have S_wb := HS wb K_wb))
  all_goals
    have K9 : HSt c m w ((wb.setCell ⟨w.heap.size, 2, none⟩ (.slice A_wa n_wa c_wa)).setCell ⟨w.heap.size, 3, none⟩ (.slice A_wb n_wb c_wb)) := (S_wb.1.st2 _ _ _).st3 _ _ _
    generalize ((wb.setCell ⟨w.heap.size, 2, none⟩ (.slice A_wa n_wa c_wa)).setCell ⟨w.heap.size, 3, none⟩ (.slice A_wb n_wb c_wb)) = w9 at K9 ⊢
    clear S_wb S_wa x2 x3 y2 y3 HS hKP hKL H5 s34 s35
    (obtain ⟨hbx, ⟨d, hd, C1⟩, _, C2, C3⟩ := K9; have D := end1 hbx (by omega) C2 C3 (cliA d); go_wp2_with (first | (with_reducible refine wpl_ld C1 (by with_unfolding_all rfl) 29 _ (by with_unfolding_all rfl) (by with_unfolding_all rfl) _ Tryd.underlying29 (by with_unfolding_all rfl) (by with_unfolding_all rfl) ?_) | (with_reducible refine wpl_st C2 (by with_unfolding_all rfl) 29 _ _ (by with_unfolding_all rfl) (cliA d) (by with_unfolding_all rfl) (by with_unfolding_all rfl) (by with_unfolding_all rfl) (by with_unfolding_all rfl) (by with_unfolding_all rfl) ?_; intro w2 e2; obtain ⟨b2, F2, F3⟩ := D w2 e2; have E := end2 b2 (by omega) F2 F3; clear e2) | (with_reducible refine wpl_st F3 (by with_unfolding_all rfl) 41 _ _ (by with_unfolding_all rfl) ztA (by with_unfolding_all rfl) (by with_unfolding_all rfl) (by with_unfolding_all rfl) (by with_unfolding_all rfl) (by with_unfolding_all rfl) ?_; intro w3 e3; obtain ⟨b3, H2, H3⟩ := E w3 e3; clear e3) | fail); exact bodyPost_ret (res3 H2 H3 rfl rfl rfl _ rfl _ _ Tryd.underlying29 rfl rfl Tryd.underlying41 rfl rfl) rfl ⟨d, hd, rfl, b3⟩)
end Go.Proofs.YtbggohdpaodkeaaDoor
