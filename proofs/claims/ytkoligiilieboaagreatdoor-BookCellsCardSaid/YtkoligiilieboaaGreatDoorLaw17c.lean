/- The walk of the law BookCells. -/
import Derived.Test.YtkoligiilieboaaGreatDoorDr5
import Derived.Test.YtkoligiilieboaaGreatDoorDr6
import Derived.Test.YtkoligiilieboaaGreatDoorMgE
set_option linter.unusedSimpArgs false
set_option linter.unusedVariables false
namespace Go.Proofs.YtkoligiilieboaaGreatDoor
open Go.RowKit
attribute [local go_sem] ByteArray.mk_append_mk ByteArray.extract_mk
attribute [local go_sem ↓] Go.wp_at_zero Go.wp_at_succ
theorem took_sh {s : Sh} {w w' w0 : World} {B : Nat} {e : Ending} (hr : shB s = true) (hs : ShIn w0 B s) (h : TakeShardPost (shBy s) w e w') :
    ∃ u, e = .returned (.tuple #[shV u, .int .i64 0]) ∧ ShIn w' w'.heap.size u ∧ shL u = shL s ∧ Below w.heap.size w w' := by
  have hb := fSh.fwd _ [] (shard_ok hr)
  rw [List.append_nil, shard_enc hs] at hb
  rcases h with ⟨u, he, h1, _, h3, hp, h4⟩ | ⟨_, ⟨u, r, h1, hpl, h5⟩, _⟩
  · rw [hb] at h1
    injection h1 with h1 _
    exact ⟨u, he, h3, shL_of_F hp (sh_plain hs hr) h1.symm, h4⟩
  · rw [hb] at h1
    injection h1 with h1 h2
    subst h2
    rcases h5 with h5 | h5 | h5
    · cases h5
    · exact absurd rfl h5
    · rw [← shB_congr (sh_plain hs hr) hpl h1, hr] at h5
      cases h5
theorem took_ce {c : Ce} {w w' w0 : World} {B : Nat} {e : Ending} (hr : ceB c = true) (hc : CeIn w0 B c) (h : TakeCellPost (ceBy c) w e w') :
    ∃ d, e = .returned (.tuple #[ceV d, .int .i64 0]) ∧ CeIn w' w'.heap.size d ∧ ceL d = ceL c ∧ Below w.heap.size w w' := by
  have hb := fCe.fwd _ [] (cell_ok hr)
  rw [List.append_nil, cell_enc hc] at hb
  rcases h with ⟨d, he, h1, _, h3, hp, h4⟩ | ⟨_, ⟨d, r, h1, hpl, h5⟩, _⟩
  · rw [hb] at h1
    injection h1 with h1 _
    exact ⟨d, he, h3, ceL_of_F hp (ce_plain hc hr) h1.symm, h4⟩
  · rw [hb] at h1
    injection h1 with h1 h2
    subst h2
    rcases h5 with h5 | h5 | h5
    · cases h5
    · exact absurd rfl h5
    · rw [← ceB_congr (ce_plain hc hr) hpl h1, hr] at h5
      cases h5
theorem ceBy_len {c : Ce} {w : World} {B : Nat} (hc : CeIn w B c) (hr : ceB c = true) : (ceBy c).length ≤ 2400100 := by
  obtain ⟨h8, _, _, hs⟩ := ceB_parts hr
  have h1 := ssBy_len c.ss fun s hx => shBy_len (hc.ss s hx) (hs s hx)
  have h2 := stamps1 (c.ta, c.tt, c.tn)
  have h3 := numsB_len [c.drop, (c.sn : Int)]
  simp only [List.length_cons, List.length_nil] at h3
  unfold ceBy
  simp only [List.length_append]
  omega
theorem sm_ce {w : World} {c : Ce} (hc : CeIn w w.heap.size c) (h : smCe c = true) : CeSm w w.heap.size c := ⟨hc, fun s hs => by
  unfold smCe at h
  have h1 := List.all_eq_true.1 (Bool.and_eq_true_iff.1 h).2 s hs
  unfold smS smE at h1
  simp only [Bool.and_eq_true, decide_eq_true_eq] at h1
  refine ⟨hc.ss s hs, by omega, by omega, fun x hx => ?_⟩
  have h2 := List.all_eq_true.1 h1.1.2 x hx
  unfold smE1 at h2
  simp only [Bool.and_eq_true, decide_eq_true_eq] at h2
  omega⟩
theorem ShSm.ok {w : World} {s : Sh} (h : ShSm w w.heap.size s) : ShOk w w.heap.size s := ⟨h.inn, Nat.le_trans h.lo (by decide), Nat.le_trans h.hi (by decide), fun x hx => Nat.le_trans (h.keys x hx) (by decide)⟩
set_option maxHeartbeats 25600000 in
set_option maxRecDepth 100000 in
theorem bookCells_walk (c : Ce) (w : World) (hI : CeIn w w.heap.size c) (hT : Go.Lib.Utf8Tabs 0 1 w) :
    Calls Tryz.prog 4 #[ceV c] w fun e w' => e = .returned (.bool true) ∧ Below w.heap.size w w' := by
  have B0 : Blk (w.alloc (.cells (ceA c) 38)) w.heap.size 38 (ceA c) := Blk.new w _ _
  have hb0 : Below w.heap.size w (w.alloc (.cells (ceA c) 38)) := bal (b0 w) _
  have hsn := hI.len
  have h63 := hI.m63
  go_enter Tryz.func4, Tryz.ntmps4
  go_upto_region 1 with (fail)
  generalize w.alloc (.cells (ceA c) 38) = W0 at *
  have HI := Lib.hid hI
  have HT := Lib.hid hT
  clear hI hT
  go_wp2_with (with_reducible refine wpl_ldg B0 (by with_unfolding_all rfl) 38 _ (by with_unfolding_all rfl) (by with_unfolding_all rfl) _ Tryz.underlying38 (by with_unfolding_all rfl) (by with_unfolding_all rfl) ?_)
  refine (smallce_any c _ (HI.out.kept hb0)).mono ?_
  rintro ex w1 ⟨rfl, d1⟩
  have B1 := B0.keep d1
  have hb1 := bt hb0 d1
  clear d1 B0 hb0
  cases hs : smCe c
  case false =>
    clear hs
    go_wp2_with fail
    refine (awake17 _).mono ?_
    rintro ex wz ⟨rfl, dz⟩
    go_wp2
    go_ret
    exact ⟨rfl, bt hb1 dz⟩
  case true =>
  have HS := Lib.hid (sm_ce HI.out hs)
  clear hs
  have c0 : w1.cell? ⟨w.heap.size, 0, none⟩ = some (.slice c.sA c.sn c.sc) := B1.cell 0
  have gl := B1.lt
  go_wp2_with fail
  clear c0 gl
  go_loopw [20] (fun i wr => ∃ k : Nat, i = .int .i64 k ∧ k ≤ c.sn ∧ Below w.heap.size w wr ∧ Blk wr w.heap.size 38 (ceA c)) (fun i _ => c.sn - (intOf i).toNat)
  case atStart => exact ⟨0, rfl, Nat.zero_le _, hb1, B1⟩
  case round =>
    clear hb1 B1
    obtain ⟨k, rfl, hk, hb, B1⟩ := hrel
    have i0 : (0 : Int) ≤ (k : Int) := by omega
    by_cases hlt : k < c.sn
    case pos =>
      have i1 : (k : Int) < (c.sn : Int) := by omega
      obtain ⟨b, off, hA, hbB, rx⟩ := HI.out.row.at k (by omega)
      have hsm := HS.out.sms (c.ss[k]'(by omega)) (List.getElem_mem (by omega))
      obtain ⟨x, hx⟩ : ∃ x, c.ss[k]'(by omega) = x := ⟨_, rfl⟩
      rw [hx] at rx hsm
      have HX := Lib.hid hsm
      clear hx hsm
      have ry := rng_below rx hb hbB
      clear rx
      rw [hA]
      have G : Blk (wr.alloc (.cells zsA 30)) wr.heap.size 30 zsA := Blk.new wr _ _
      have D : ∀ w', w' = (wr.alloc (.cells zsA 30)).setRow wr.heap.size (shA x) → Below wr.heap.size wr w' ∧ Blk w' wr.heap.size 30 (shA x) := by
        rintro _ rfl
        exact ⟨below_row (bal (b0 wr) _) (Nat.le_refl _) _, G.row _⟩
      go_wp2_with (first | (with_reducible refine wpl_ldr b (off + k * 17) (shC x) ry (by with_unfolding_all rfl) 30 _ (by with_unfolding_all rfl) (by with_unfolding_all rfl) _ Tryz.underlying30 (by with_unfolding_all rfl) (by with_unfolding_all rfl) ?_) | (with_reducible refine wpl_st G (by with_unfolding_all rfl) _ _ _ (by with_unfolding_all rfl) (shA x) (by with_unfolding_all rfl) (by with_unfolding_all rfl) (by with_unfolding_all rfl) (by with_unfolding_all rfl) (by with_unfolding_all rfl) ?_; refine Classical.byContradiction fun hno => ?_))
      refine hno ?_
      clear hno
      intro w2 e2
      obtain ⟨d2, X2⟩ := D w2 e2
      have hb2 := bt hb d2
      have B2 := B1.keep d2
      clear e2 D G ry d2 hb B1
      generalize wr.heap.size = gx at *
      go_wp2_with (with_reducible refine wpl_ldg X2 (by with_unfolding_all rfl) 30 _ (by with_unfolding_all rfl) (by with_unfolding_all rfl) _ Tryz.underlying30 (by with_unfolding_all rfl) (by with_unfolding_all rfl) ?_)
      refine (putshard_any x _ (ShSm.ok (HX.out.kept hb2)) (Utf8Tabs_below HT.out hb2)).mono ?_
      rintro ex w3 ⟨rfl, d3⟩
      obtain ⟨⟨t, en⟩, hput⟩ : ∃ y, putS x = y := ⟨_, rfl⟩
      rw [hput]
      have HP := Lib.hid hput
      clear hput
      have hb3 := bt hb2 d3
      have B3 := B2.keep d3
      have X3 := X2.keep d3
      clear d3 hb2 B2 X2
      go_wp2_with (with_reducible refine wpl_ldg X3 (by with_unfolding_all rfl) 30 _ (by with_unfolding_all rfl) (by with_unfolding_all rfl) _ Tryz.underlying30 (by with_unfolding_all rfl) (by with_unfolding_all rfl) ?_)
      refine (drsh_any x _ (HX.out.kept hb3)).mono ?_
      rintro ex w4 ⟨rfl, d4⟩
      have hb4 := bt hb3 d4
      have B4 := B3.keep d4
      have X4 := X3.keep d4
      clear d4 hb3 B3 X3
      cases hr : shB x
      case false =>
        have hq : (t, en) = ([], 1) := by rw [← HP.out]; unfold putS; rw [if_neg (by rw [hr]; simp)]
        injection hq with hq1 hq2
        subst hq1 hq2
        clear hr
        go_wp2_with fail
        go_roundw
        case rel => exact ⟨k + 1, by go_num, by omega, hb4, B4⟩
        case measure => simp [intOf]; omega
      case true =>
        have hq : (t, en) = (shBy x, 0) := by rw [← HP.out]; unfold putS; rw [if_pos hr]
        injection hq with hq1 hq2
        subst hq2
        have HR := Lib.hid hr
        have HQ := Lib.hid hq1
        have htl : t.length ≤ 4194304 := by have := shBy_len HX.out.inn hr; rw [hq1]; omega
        clear hr hq1
        go_wp2_with fail
        refine (takeshard_any t 4194304 (Nat.le_refl _) htl _ (Utf8Tabs_below HT.out hb4)).mono ?_
        intro ex w5 hpost
        rw [HQ.out] at hpost
        obtain ⟨u, rfl, hU, hul, d5⟩ := took_sh HR.out HX.out.inn hpost
        have HUL := Lib.hid hul
        clear hpost hul htl
        have hb5 := bt hb4 d5
        have B5 := B4.keep d5
        have X5 := X4.keep d5
        clear d5 hb4 B4 X4
        have G : Blk (w5.alloc (.cells zsA 30)) w5.heap.size 30 zsA := Blk.new w5 _ _
        have D : ∀ w', w' = (w5.alloc (.cells zsA 30)).setRow w5.heap.size (shA u) → Below w5.heap.size w5 w' ∧ Blk w' w5.heap.size 30 (shA u) := by
          rintro _ rfl
          exact ⟨below_row (bal (b0 w5) _) (Nat.le_refl _) _, G.row _⟩
        go_wp2_with (with_reducible refine wpl_st G (by with_unfolding_all rfl) 30 _ _ (by with_unfolding_all rfl) (shA u) (by with_unfolding_all rfl) (by with_unfolding_all rfl) (by with_unfolding_all rfl) (by with_unfolding_all rfl) (by with_unfolding_all rfl) ?_; refine Classical.byContradiction fun hno => ?_)
        refine hno ?_
        clear hno
        intro w6 e2
        obtain ⟨d6, Y6⟩ := D w6 e2
        have U6 := hU.kept d6
        clear e2 D G hU
        have hb6 := bt hb5 d6
        have B6 := B5.keep d6
        have X6 := X5.keep d6
        clear d6 hb5 B5 X5
        generalize w5.heap.size = gu at *
        go_wp2_with (with_reducible refine wpl_ldg X6 (by with_unfolding_all rfl) 30 _ (by with_unfolding_all rfl) (by with_unfolding_all rfl) _ Tryz.underlying30 (by with_unfolding_all rfl) (by with_unfolding_all rfl) ?_)
        refine (dshard_any x _ (HX.out.kept hb6).inn HR.out).mono ?_
        rintro ex w7 ⟨rfl, d7⟩
        rw [← HQ.out]
        have U7 := U6.kept d7
        have Y7 := Y6.keep d7
        clear U6 Y6
        have hb7 := bt hb6 d7
        have B7 := B6.keep d7
        have X7 := X6.keep d7
        clear d7 hb6 B6 X6
        go_wp2_with (first | (with_reducible refine wpl_ldg Y7 (by with_unfolding_all rfl) 30 _ (by with_unfolding_all rfl) (by with_unfolding_all rfl) _ Tryz.underlying30 (by with_unfolding_all rfl) (by with_unfolding_all rfl) ?_) | (with_reducible refine wpl_ldg X7 (by with_unfolding_all rfl) 30 _ (by with_unfolding_all rfl) (by with_unfolding_all rfl) _ Tryz.underlying30 (by with_unfolding_all rfl) (by with_unfolding_all rfl) ?_))
        refine (sheq_any u x _ U7 (HX.out.kept hb7).inn).mono ?_
        rintro ex w8 ⟨⟨q, rfl, hq⟩, d8⟩
        have hqt : q = true := hq.2 HUL.out
        subst hqt
        clear hq U7 Y7
        have hb8 := bt hb7 d8
        have B8 := B7.keep d8
        have X8 := X7.keep d8
        clear d8 hb7 B7 X7
        go_wp2_with fail
        go_roundw
        case rel => exact ⟨k + 1, by go_num, by omega, hb8, B8⟩
        case measure => simp [intOf]; omega
    case neg =>
      have hke : k = c.sn := by omega
      have hb20 := hb
      have B20 := B1
      clear hb B1
      go_wp2_with (with_reducible refine wpl_ldg B20 (by with_unfolding_all rfl) 38 _ (by with_unfolding_all rfl) (by with_unfolding_all rfl) _ Tryz.underlying38 (by with_unfolding_all rfl) (by with_unfolding_all rfl) ?_)
      refine (putcell_any c _ (HS.out.kept hb20).ok (Utf8Tabs_below HT.out hb20)).mono ?_
      rintro ex w21 ⟨rfl, d21⟩
      obtain ⟨⟨t, en⟩, hput⟩ : ∃ y, putC c = y := ⟨_, rfl⟩
      rw [hput]
      have HP := Lib.hid hput
      clear hput
      have hb21 := bt hb20 d21
      have B21 := B20.keep d21
      clear d21 hb20 B20
      go_wp2_with (with_reducible refine wpl_ldg B21 (by with_unfolding_all rfl) 38 _ (by with_unfolding_all rfl) (by with_unfolding_all rfl) _ Tryz.underlying38 (by with_unfolding_all rfl) (by with_unfolding_all rfl) ?_)
      refine (drce_any c _ (HS.out.kept hb21)).mono ?_
      rintro ex w22 ⟨rfl, d22⟩
      have hb22 := bt hb21 d22
      have B22 := B21.keep d22
      clear d22 hb21 B21
      cases hr : ceB c
      case false =>
        have hq : (t, en) = ([], 1) := by rw [← HP.out]; unfold putC; rw [if_neg (by rw [hr]; simp)]
        injection hq with hq1 hq2
        subst hq1 hq2
        clear hr
        go_wp2_with fail
        refine (awake17 _).mono ?_
        rintro ex wz ⟨rfl, dz⟩
        go_wp2
        go_ret
        exact ⟨rfl, bt hb22 dz⟩
      case true =>
        have hq : (t, en) = (ceBy c, 0) := by rw [← HP.out]; unfold putC; rw [if_pos hr]
        injection hq with hq1 hq2
        subst hq2
        have HR := Lib.hid hr
        have HQ := Lib.hid hq1
        have htl : t.length ≤ 4194304 := by have := ceBy_len HI.out hr; rw [hq1]; omega
        clear hr hq1
        go_wp2_with fail
        refine (takecell_any t 4194304 (Nat.le_refl _) htl _ (Utf8Tabs_below HT.out hb22)).mono ?_
        intro ex w23 hpost
        rw [HQ.out] at hpost
        obtain ⟨u, rfl, hU, hul, d23⟩ := took_ce HR.out HI.out hpost
        have HUL := Lib.hid hul
        clear hpost hul htl
        have hb23 := bt hb22 d23
        have B23 := B22.keep d23
        clear d23 hb22 B22
        have G : Blk (w23.alloc (.cells z5A 38)) w23.heap.size 38 z5A := Blk.new w23 _ _
        have D : ∀ w', w' = (w23.alloc (.cells z5A 38)).setRow w23.heap.size (ceA u) → Below w23.heap.size w23 w' ∧ Blk w' w23.heap.size 38 (ceA u) := by
          rintro _ rfl
          exact ⟨below_row (bal (b0 w23) _) (Nat.le_refl _) _, G.row _⟩
        go_wp2_with (with_reducible refine wpl_st G (by with_unfolding_all rfl) 38 _ _ (by with_unfolding_all rfl) (ceA u) (by with_unfolding_all rfl) (by with_unfolding_all rfl) (by with_unfolding_all rfl) (by with_unfolding_all rfl) (by with_unfolding_all rfl) ?_; refine Classical.byContradiction fun hno => ?_)
        refine hno ?_
        clear hno
        intro w24 e2
        obtain ⟨d24, Y24⟩ := D w24 e2
        have U24 := hU.kept d24
        clear e2 D G hU
        have hb24 := bt hb23 d24
        have B24 := B23.keep d24
        clear d24 hb23 B23
        generalize w23.heap.size = gu at *
        go_wp2_with (with_reducible refine wpl_ldg B24 (by with_unfolding_all rfl) 38 _ (by with_unfolding_all rfl) (by with_unfolding_all rfl) _ Tryz.underlying38 (by with_unfolding_all rfl) (by with_unfolding_all rfl) ?_)
        refine (dcell_any c _ (HI.out.kept hb24) HR.out).mono ?_
        rintro ex w25 ⟨rfl, d25⟩
        rw [← HQ.out]
        have U25 := U24.kept d25
        have Y25 := Y24.keep d25
        clear U24 Y24
        have hb25 := bt hb24 d25
        have B25 := B24.keep d25
        clear d25 hb24 B24
        go_wp2_with (first | (with_reducible refine wpl_ldg Y25 (by with_unfolding_all rfl) 38 _ (by with_unfolding_all rfl) (by with_unfolding_all rfl) _ Tryz.underlying38 (by with_unfolding_all rfl) (by with_unfolding_all rfl) ?_) | (with_reducible refine wpl_ldg B25 (by with_unfolding_all rfl) 38 _ (by with_unfolding_all rfl) (by with_unfolding_all rfl) _ Tryz.underlying38 (by with_unfolding_all rfl) (by with_unfolding_all rfl) ?_))
        refine (ceeq_any u c _ U25 (HI.out.kept hb25)).mono ?_
        rintro ex w26 ⟨⟨q, rfl, hq⟩, d26⟩
        have hqt : q = true := hq.2 HUL.out
        subst hqt
        clear hq U25 Y25
        have hb26 := bt hb25 d26
        have B26 := B25.keep d26
        clear d26 hb25 B25
        go_wp2_with fail
        refine (awake17 _).mono ?_
        rintro ex wz ⟨rfl, dz⟩
        go_wp2
        go_ret
        exact ⟨rfl, bt hb26 dz⟩
theorem bookCells_d (c : Ce) (w : World) (ok : ceOk w c) (hT : Go.Lib.Utf8Tabs 0 1 w) :
    Calls Tryz.prog 4 #[ceV c] w fun e w' => e = .returned (.bool true) ∧ Below w.heap.size w w' :=
  bookCells_walk c w (SlOk.ce ok) hT
end Go.Proofs.YtkoligiilieboaaGreatDoor
