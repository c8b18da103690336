/- The walk of the law BookApart. -/
import Derived.Test.YtkoligiilieboaaDoorLaw17b
namespace Go.Proofs.YtkoligiilieboaaDoor
open Go.RowKit
attribute [local go_sem] ByteArray.mk_append_mk ByteArray.extract_mk
attribute [local go_sem ↓] Go.wp_at_zero Go.wp_at_succ
set_option maxHeartbeats 25600000 in
set_option maxRecDepth 100000 in
theorem bookApart_walk (m n : Ms) (its jts : List It) (ps qs : List Pl) (ls ks : List Int) (c d : Ce) (more : List UInt8) (w : World)
    (hM : MsgIn m its ps ls w) (hO : msOk m) (hpo : ∀ p ∈ ps, iok p.sh ∧ iok p.ce ∧ iok p.ep) (hlo : ∀ x ∈ ls, iok x) (hW : wtMs m its ps ≤ 1048576)
    (hM' : MsgIn n jts qs ks w) (hO' : msOk n) (hpo' : ∀ p ∈ qs, iok p.sh ∧ iok p.ce ∧ iok p.ep) (hlo' : ∀ x ∈ ks, iok x) (hW' : wtMs n jts qs ≤ 1048576)
    (hC : CeOk w w.heap.size c) (hC' : CeOk w w.heap.size d) (hmore : more.length ≤ 1048576) (hT : Go.Lib.Utf8Tabs 0 1 w) :
    Calls Tryd.prog 4 #[msV m, msV n, ceV c, ceV d, .string ⟨more.toArray⟩] w fun e w' => e = .returned (.bool true) ∧ Below w.heap.size w w' := by
  have hZ := sz_of_wt (show wtMs m its ps ≤ 2097152 by omega)
  have hZ' := sz_of_wt (show wtMs n jts qs ≤ 2097152 by omega)
  have Q0 := L4.new hM hM' hC hC' hT
  go_enter Tryd.func4, Tryd.ntmps4
  go_upto_region 1 with (fail)
  generalize ((((w.alloc (.cells (msA m) 33)).alloc (.cells (msA n) 33)).alloc (.cells (ceA c) 44)).alloc (.cells (ceA d) 44)) = W0 at *
  obtain ⟨g0, hg0⟩ : ∃ g, w.heap.size = g := ⟨_, rfl⟩
  have Q1 : L4 w g0 (g0 + 1) (g0 + 1 + 1) (g0 + 1 + 1 + 1) m n its jts ps qs ls ks c d W0 := by rw [← hg0]; exact Q0
  simp only [hg0]
  clear Q0
  generalize g0 + 1 + 1 + 1 = g3 at *
  generalize g0 + 1 + 1 = g2 at *
  generalize g0 + 1 = g1 at *
  have HNI := Lib.hid hM.ni
  have HNP := Lib.hid hM.np
  have HNL := Lib.hid hM.nl
  have HNI' := Lib.hid hM'.ni
  have HNP' := Lib.hid hM'.np
  have HNL' := Lib.hid hM'.nl
  have HPO := Lib.hid hpo
  have HLO := Lib.hid hlo
  have HPO' := Lib.hid hpo'
  have HLO' := Lib.hid hlo'
  clear hM hM' hC hC' hT hg0 hpo hlo hpo' hlo'
  go_wp2_with (with_reducible refine wpl_ldg Q1.ba (by with_unfolding_all rfl) 33 _ (by with_unfolding_all rfl) (by with_unfolding_all rfl) _ Tryd.underlying33 (by with_unfolding_all rfl) (by with_unfolding_all rfl) ?_)
  refine (few_any m _).mono ?_
  rintro ex w2 ⟨rfl, d2⟩
  have Q2 := Q1.keep d2
  clear Q1 d2
  cases hf : fewB m
  case false =>
    go_wp2_with fail
    refine (awake17 _).mono ?_
    rintro ex wz ⟨rfl, dz⟩
    go_wp2
    go_ret
    exact ⟨rfl, (Q2.keep dz).below⟩
  case true =>
  clear hf
  go_wp2_with (with_reducible refine wpl_ldg Q2.bb (by with_unfolding_all rfl) 33 _ (by with_unfolding_all rfl) (by with_unfolding_all rfl) _ Tryd.underlying33 (by with_unfolding_all rfl) (by with_unfolding_all rfl) ?_)
  refine (few_any n _).mono ?_
  rintro ex w3 ⟨rfl, d3⟩
  have Q3 := Q2.keep d3
  clear Q2 d3
  cases hf : fewB n
  case false =>
    go_wp2_with fail
    refine (awake17 _).mono ?_
    rintro ex wz ⟨rfl, dz⟩
    go_wp2
    go_ret
    exact ⟨rfl, (Q3.keep dz).below⟩
  case true =>
  clear hf
  go_wp2_with (with_reducible refine wpl_ldg Q3.bc (by with_unfolding_all rfl) 44 _ (by with_unfolding_all rfl) (by with_unfolding_all rfl) _ Tryd.underlying44 (by with_unfolding_all rfl) (by with_unfolding_all rfl) ?_)
  refine (smallce_any c _ Q3.ci.inn).mono ?_
  rintro ex w4 ⟨rfl, d4⟩
  have Q4 := Q3.keep d4
  clear Q3 d4
  cases hf : smCe c
  case false =>
    go_wp2_with fail
    refine (awake17 _).mono ?_
    rintro ex wz ⟨rfl, dz⟩
    go_wp2
    go_ret
    exact ⟨rfl, (Q4.keep dz).below⟩
  case true =>
  clear hf
  go_wp2_with (with_reducible refine wpl_ldg Q4.bd (by with_unfolding_all rfl) 44 _ (by with_unfolding_all rfl) (by with_unfolding_all rfl) _ Tryd.underlying44 (by with_unfolding_all rfl) (by with_unfolding_all rfl) ?_)
  refine (smallce_any d _ Q4.di.inn).mono ?_
  rintro ex w5 ⟨rfl, d5⟩
  have Q5 := Q4.keep d5
  clear Q4 d5
  cases hf : smCe d
  case false =>
    go_wp2_with fail
    refine (awake17 _).mono ?_
    rintro ex wz ⟨rfl, dz⟩
    go_wp2
    go_ret
    exact ⟨rfl, (Q5.keep dz).below⟩
  case true =>
  clear hf
  go_wp2_with (with_reducible refine wpl_ldg Q5.ba (by with_unfolding_all rfl) 33 _ (by with_unfolding_all rfl) (by with_unfolding_all rfl) _ Tryd.underlying33 (by with_unfolding_all rfl) (by with_unfolding_all rfl) ?_)
  refine (putmsg_any m its ps ls _ Q5.mi hO HPO.out HLO.out hZ).mono ?_
  rintro ex w6 ⟨rfl, d6⟩
  obtain ⟨⟨s, sn⟩, hput⟩ : ∃ x, putM m its ps ls = x := ⟨_, rfl⟩
  rw [hput]
  have HP := Lib.hid hput
  clear hput
  have Q6 := Q5.keep d6
  clear Q5 d6
  go_wp2_with (with_reducible refine wpl_ldg Q6.bb (by with_unfolding_all rfl) 33 _ (by with_unfolding_all rfl) (by with_unfolding_all rfl) _ Tryd.underlying33 (by with_unfolding_all rfl) (by with_unfolding_all rfl) ?_)
  refine (putmsg_any n jts qs ks _ Q6.ni hO' HPO'.out HLO'.out hZ').mono ?_
  rintro ex w7 ⟨rfl, d7⟩
  obtain ⟨⟨t, tn⟩, hput⟩ : ∃ x, putM n jts qs ks = x := ⟨_, rfl⟩
  rw [hput]
  have HP' := Lib.hid hput
  clear hput
  have Q7 := Q6.keep d7
  clear Q6 d7
  cases hr : rightM m ps ls
  case false =>
    have hq : (s, sn) = ([], 1) := by rw [← HP.out]; unfold putM; rw [if_neg (by rw [hr]; simp)]
    injection hq with hq1 hq2
    subst hq1 hq2
    clear hr
    go_wp2_with (with_reducible refine wpl_ldg Q7.bc (by with_unfolding_all rfl) 44 _ (by with_unfolding_all rfl) (by with_unfolding_all rfl) _ Tryd.underlying44 (by with_unfolding_all rfl) (by with_unfolding_all rfl) ?_)
    refine (putcell_any c _ Q7.ci Q7.tab).mono ?_
    rintro ex w8 ⟨rfl, d8⟩
    obtain ⟨⟨x, xn⟩, hput⟩ : ∃ x, putC c = x := ⟨_, rfl⟩
    rw [hput]
    have HPC := Lib.hid hput
    clear hput
    have Q8 := Q7.keep d8
    clear Q7 d8
    go_wp2_with (with_reducible refine wpl_ldg Q8.bd (by with_unfolding_all rfl) 44 _ (by with_unfolding_all rfl) (by with_unfolding_all rfl) _ Tryd.underlying44 (by with_unfolding_all rfl) (by with_unfolding_all rfl) ?_)
    refine (putcell_any d _ Q8.di Q8.tab).mono ?_
    rintro ex w9 ⟨rfl, d9⟩
    obtain ⟨⟨y, yn⟩, hput⟩ : ∃ x, putC d = x := ⟨_, rfl⟩
    rw [hput]
    have HPD := Lib.hid hput
    clear hput
    have Q9 := Q8.keep d9
    clear Q8 d9
    cases hr : ceB c
    case false =>
      have hq : (x, xn) = ([], 1) := by rw [← HPC.out]; unfold putC; rw [if_neg (by rw [hr]; simp)]
      injection hq with hq1 hq2
      subst hq1 hq2
      clear hr
      go_wp2_with fail
      refine (awake17 _).mono ?_
      rintro ex wz ⟨rfl, dz⟩
      go_wp2
      go_ret
      exact ⟨rfl, (Q9.keep dz).below⟩
    case true =>
    have hq : (x, xn) = (ceBy c, 0) := by rw [← HPC.out]; unfold putC; rw [if_pos hr]
    injection hq with hq1 hq2
    subst hq2
    have HCR := Lib.hid hr
    have HCQ := Lib.hid hq1
    clear hr hq1
    cases hr : ceB d
    case false =>
      have hq : (y, yn) = ([], 1) := by rw [← HPD.out]; unfold putC; rw [if_neg (by rw [hr]; simp)]
      injection hq with hq1 hq2
      subst hq1 hq2
      clear hr
      go_wp2_with fail
      refine (awake17 _).mono ?_
      rintro ex wz ⟨rfl, dz⟩
      go_wp2
      go_ret
      exact ⟨rfl, (Q9.keep dz).below⟩
    case true =>
    have hq : (y, yn) = (ceBy d, 0) := by rw [← HPD.out]; unfold putC; rw [if_pos hr]
    injection hq with hq1 hq2
    subst hq2
    have HDR := Lib.hid hr
    have HDQ := Lib.hid hq1
    clear hr hq1
    have hxl : x.length + (more : List UInt8).length ≤ 4194304 := by have := ceBy_len Q9.ci.inn HCR.out; rw [HCQ.out]; omega
    have hxl2 : (x ++ more).length ≤ 4194304 := by rw [List.length_append]; exact hxl
    have hinj := ce_inj Q9.ci.inn Q9.di.inn HCR.out HDR.out
    rw [← HCQ.out, ← HDQ.out] at hinj
    have HI2 := Lib.hid hinj
    clear hinj
    go_wp2_with fail
    refine (takecell_any (x ++ more) 4194304 (Nat.le_refl _) (by simpa using hxl2) _ Q9.tab).mono ?_
    intro ex w10 hpost
    rw [HCQ.out] at hpost
    obtain ⟨X2, z2, rfl, hz2, d10⟩ := took_cmore HCR.out Q9.ci.inn hpost
    clear hpost hxl hxl2
    have Q10 := Q9.keep d10
    clear Q9 d10
    rcases hz2 with ⟨rfl, hm⟩ | ⟨rfl, hm⟩
    ·
      subst hm
      have C5 : Blk (w10.alloc (.cells z5A 44)) w10.heap.size 44 z5A := Blk.new w10 _ _
      have D : ∀ w', w' = (w10.alloc (.cells z5A 44)).setRow w10.heap.size (ceA X2) → Below w10.heap.size w10 w' := by
        rintro _ rfl
        exact below_row (bal (b0 w10) _) (Nat.le_refl _) _
      have hon : (ceA X2).toList.all (·.oneCell') = true := (by with_unfolding_all rfl)
      go_wp2_with (with_reducible refine wpl_st C5 (by with_unfolding_all rfl) 44 _ _ (by with_unfolding_all rfl) (ceA X2) (by with_unfolding_all rfl) (by with_unfolding_all rfl) (by with_unfolding_all rfl) (by with_unfolding_all rfl) hon ?_; refine Classical.byContradiction fun hno => ?_)
      refine hno ?_
      clear hno
      intro w11 e6
      have d11 := D w11 e6
      clear e6 D C5 hon
      have Q11 := Q10.keep d11
      clear Q10 d11
      by_cases hst : x = y
      case pos =>
        have p1 : (x == y) = true := by simp [hst]
        have p2 : (x != y) = false := by simp [hst]
        have HST := Lib.hid hst
        clear hst
        go_wp2_with (first | (with_reducible refine wpl_ldg Q11.bc (by with_unfolding_all rfl) 44 _ (by with_unfolding_all rfl) (by with_unfolding_all rfl) _ Tryd.underlying44 (by with_unfolding_all rfl) (by with_unfolding_all rfl) ?_) | (with_reducible refine wpl_ldg Q11.bd (by with_unfolding_all rfl) 44 _ (by with_unfolding_all rfl) (by with_unfolding_all rfl) _ Tryd.underlying44 (by with_unfolding_all rfl) (by with_unfolding_all rfl) ?_))
        refine (ceeq_any c d _ Q11.ci.inn Q11.di.inn).mono ?_
        rintro ex w12 ⟨⟨q2, rfl, hq⟩, d12⟩
        have Q12 := Q11.keep d12
        clear Q11 d12
        have hqv : q2 = true := hq.2 (HI2.out.1 HST.out)
        subst hqv
        clear hq
        go_wp2_with fail
        refine (awake17 _).mono ?_
        rintro ex wz ⟨rfl, dz⟩
        go_wp2
        go_ret
        exact ⟨rfl, (Q12.keep dz).below⟩
      case neg =>
        have p1 : (x == y) = false := by simp [hst]
        have p2 : (x != y) = true := by simp [hst]
        have HST := Lib.hid hst
        clear hst
        go_wp2_with (first | (with_reducible refine wpl_ldg Q11.bc (by with_unfolding_all rfl) 44 _ (by with_unfolding_all rfl) (by with_unfolding_all rfl) _ Tryd.underlying44 (by with_unfolding_all rfl) (by with_unfolding_all rfl) ?_) | (with_reducible refine wpl_ldg Q11.bd (by with_unfolding_all rfl) 44 _ (by with_unfolding_all rfl) (by with_unfolding_all rfl) _ Tryd.underlying44 (by with_unfolding_all rfl) (by with_unfolding_all rfl) ?_))
        refine (ceeq_any c d _ Q11.ci.inn Q11.di.inn).mono ?_
        rintro ex w12 ⟨⟨q2, rfl, hq⟩, d12⟩
        have Q12 := Q11.keep d12
        clear Q11 d12
        have hqv : q2 = false := by cases q2 with | false => rfl | true => exact absurd (HI2.out.2 (hq.1 rfl)) HST.out
        subst hqv
        clear hq
        go_wp2_with fail
        refine (awake17 _).mono ?_
        rintro ex wz ⟨rfl, dz⟩
        go_wp2
        go_ret
        exact ⟨rfl, (Q12.keep dz).below⟩
    ·
      have hie := is_ne hm
      have hm2 : (more == []) = false := by simp [hm]
      have hm3 : (more != []) = true := by simp [hm]
      have HM := Lib.hid hm
      clear hm
      have C5 : Blk (w10.alloc (.cells z5A 44)) w10.heap.size 44 z5A := Blk.new w10 _ _
      have D : ∀ w', w' = (w10.alloc (.cells z5A 44)).setRow w10.heap.size (ceA X2) → Below w10.heap.size w10 w' := by
        rintro _ rfl
        exact below_row (bal (b0 w10) _) (Nat.le_refl _) _
      have hon : (ceA X2).toList.all (·.oneCell') = true := (by with_unfolding_all rfl)
      go_wp2_with (with_reducible refine wpl_st C5 (by with_unfolding_all rfl) 44 _ _ (by with_unfolding_all rfl) (ceA X2) (by with_unfolding_all rfl) (by with_unfolding_all rfl) (by with_unfolding_all rfl) (by with_unfolding_all rfl) hon ?_; refine Classical.byContradiction fun hno => ?_)
      refine hno ?_
      clear hno
      intro w11 e6
      have d11 := D w11 e6
      clear e6 D C5 hon
      have Q11 := Q10.keep d11
      clear Q10 d11
      by_cases hst : x = y
      case pos =>
        have p1 : (x == y) = true := by simp [hst]
        have p2 : (x != y) = false := by simp [hst]
        have HST := Lib.hid hst
        clear hst
        go_wp2_with (first | (with_reducible refine wpl_ldg Q11.bc (by with_unfolding_all rfl) 44 _ (by with_unfolding_all rfl) (by with_unfolding_all rfl) _ Tryd.underlying44 (by with_unfolding_all rfl) (by with_unfolding_all rfl) ?_) | (with_reducible refine wpl_ldg Q11.bd (by with_unfolding_all rfl) 44 _ (by with_unfolding_all rfl) (by with_unfolding_all rfl) _ Tryd.underlying44 (by with_unfolding_all rfl) (by with_unfolding_all rfl) ?_))
        refine (ceeq_any c d _ Q11.ci.inn Q11.di.inn).mono ?_
        rintro ex w12 ⟨⟨q2, rfl, hq⟩, d12⟩
        have Q12 := Q11.keep d12
        clear Q11 d12
        have hqv : q2 = true := hq.2 (HI2.out.1 HST.out)
        subst hqv
        clear hq
        go_wp2_with fail
        refine (awake17 _).mono ?_
        rintro ex wz ⟨rfl, dz⟩
        go_wp2
        go_ret
        exact ⟨rfl, (Q12.keep dz).below⟩
      case neg =>
        have p1 : (x == y) = false := by simp [hst]
        have p2 : (x != y) = true := by simp [hst]
        have HST := Lib.hid hst
        clear hst
        go_wp2_with (first | (with_reducible refine wpl_ldg Q11.bc (by with_unfolding_all rfl) 44 _ (by with_unfolding_all rfl) (by with_unfolding_all rfl) _ Tryd.underlying44 (by with_unfolding_all rfl) (by with_unfolding_all rfl) ?_) | (with_reducible refine wpl_ldg Q11.bd (by with_unfolding_all rfl) 44 _ (by with_unfolding_all rfl) (by with_unfolding_all rfl) _ Tryd.underlying44 (by with_unfolding_all rfl) (by with_unfolding_all rfl) ?_))
        refine (ceeq_any c d _ Q11.ci.inn Q11.di.inn).mono ?_
        rintro ex w12 ⟨⟨q2, rfl, hq⟩, d12⟩
        have Q12 := Q11.keep d12
        clear Q11 d12
        have hqv : q2 = false := by cases q2 with | false => rfl | true => exact absurd (HI2.out.2 (hq.1 rfl)) HST.out
        subst hqv
        clear hq
        go_wp2_with fail
        refine (awake17 _).mono ?_
        rintro ex wz ⟨rfl, dz⟩
        go_wp2
        go_ret
        exact ⟨rfl, (Q12.keep dz).below⟩
  case true =>
  have hq : (s, sn) = (msgB m its ps ls, 0) := by rw [← HP.out]; unfold putM; rw [if_pos hr]
  injection hq with hq1 hq2
  subst hq2
  have HR := Lib.hid hr
  have HQ := Lib.hid hq1
  clear hr hq1
  cases hr : rightM n qs ks
  case false =>
    have hq : (t, tn) = ([], 1) := by rw [← HP'.out]; unfold putM; rw [if_neg (by rw [hr]; simp)]
    injection hq with hq1 hq2
    subst hq1 hq2
    clear hr
    go_wp2_with (with_reducible refine wpl_ldg Q7.bc (by with_unfolding_all rfl) 44 _ (by with_unfolding_all rfl) (by with_unfolding_all rfl) _ Tryd.underlying44 (by with_unfolding_all rfl) (by with_unfolding_all rfl) ?_)
    refine (putcell_any c _ Q7.ci Q7.tab).mono ?_
    rintro ex w8 ⟨rfl, d8⟩
    obtain ⟨⟨x, xn⟩, hput⟩ : ∃ x, putC c = x := ⟨_, rfl⟩
    rw [hput]
    have HPC := Lib.hid hput
    clear hput
    have Q8 := Q7.keep d8
    clear Q7 d8
    go_wp2_with (with_reducible refine wpl_ldg Q8.bd (by with_unfolding_all rfl) 44 _ (by with_unfolding_all rfl) (by with_unfolding_all rfl) _ Tryd.underlying44 (by with_unfolding_all rfl) (by with_unfolding_all rfl) ?_)
    refine (putcell_any d _ Q8.di Q8.tab).mono ?_
    rintro ex w9 ⟨rfl, d9⟩
    obtain ⟨⟨y, yn⟩, hput⟩ : ∃ x, putC d = x := ⟨_, rfl⟩
    rw [hput]
    have HPD := Lib.hid hput
    clear hput
    have Q9 := Q8.keep d9
    clear Q8 d9
    cases hr : ceB c
    case false =>
      have hq : (x, xn) = ([], 1) := by rw [← HPC.out]; unfold putC; rw [if_neg (by rw [hr]; simp)]
      injection hq with hq1 hq2
      subst hq1 hq2
      clear hr
      go_wp2_with fail
      refine (awake17 _).mono ?_
      rintro ex wz ⟨rfl, dz⟩
      go_wp2
      go_ret
      exact ⟨rfl, (Q9.keep dz).below⟩
    case true =>
    have hq : (x, xn) = (ceBy c, 0) := by rw [← HPC.out]; unfold putC; rw [if_pos hr]
    injection hq with hq1 hq2
    subst hq2
    have HCR := Lib.hid hr
    have HCQ := Lib.hid hq1
    clear hr hq1
    cases hr : ceB d
    case false =>
      have hq : (y, yn) = ([], 1) := by rw [← HPD.out]; unfold putC; rw [if_neg (by rw [hr]; simp)]
      injection hq with hq1 hq2
      subst hq1 hq2
      clear hr
      go_wp2_with fail
      refine (awake17 _).mono ?_
      rintro ex wz ⟨rfl, dz⟩
      go_wp2
      go_ret
      exact ⟨rfl, (Q9.keep dz).below⟩
    case true =>
    have hq : (y, yn) = (ceBy d, 0) := by rw [← HPD.out]; unfold putC; rw [if_pos hr]
    injection hq with hq1 hq2
    subst hq2
    have HDR := Lib.hid hr
    have HDQ := Lib.hid hq1
    clear hr hq1
    have hxl : x.length + (more : List UInt8).length ≤ 4194304 := by have := ceBy_len Q9.ci.inn HCR.out; rw [HCQ.out]; omega
    have hxl2 : (x ++ more).length ≤ 4194304 := by rw [List.length_append]; exact hxl
    have hinj := ce_inj Q9.ci.inn Q9.di.inn HCR.out HDR.out
    rw [← HCQ.out, ← HDQ.out] at hinj
    have HI2 := Lib.hid hinj
    clear hinj
    go_wp2_with fail
    refine (takecell_any (x ++ more) 4194304 (Nat.le_refl _) (by simpa using hxl2) _ Q9.tab).mono ?_
    intro ex w10 hpost
    rw [HCQ.out] at hpost
    obtain ⟨X2, z2, rfl, hz2, d10⟩ := took_cmore HCR.out Q9.ci.inn hpost
    clear hpost hxl hxl2
    have Q10 := Q9.keep d10
    clear Q9 d10
    rcases hz2 with ⟨rfl, hm⟩ | ⟨rfl, hm⟩
    ·
      subst hm
      have C5 : Blk (w10.alloc (.cells z5A 44)) w10.heap.size 44 z5A := Blk.new w10 _ _
      have D : ∀ w', w' = (w10.alloc (.cells z5A 44)).setRow w10.heap.size (ceA X2) → Below w10.heap.size w10 w' := by
        rintro _ rfl
        exact below_row (bal (b0 w10) _) (Nat.le_refl _) _
      have hon : (ceA X2).toList.all (·.oneCell') = true := (by with_unfolding_all rfl)
      go_wp2_with (with_reducible refine wpl_st C5 (by with_unfolding_all rfl) 44 _ _ (by with_unfolding_all rfl) (ceA X2) (by with_unfolding_all rfl) (by with_unfolding_all rfl) (by with_unfolding_all rfl) (by with_unfolding_all rfl) hon ?_; refine Classical.byContradiction fun hno => ?_)
      refine hno ?_
      clear hno
      intro w11 e6
      have d11 := D w11 e6
      clear e6 D C5 hon
      have Q11 := Q10.keep d11
      clear Q10 d11
      by_cases hst : x = y
      case pos =>
        have p1 : (x == y) = true := by simp [hst]
        have p2 : (x != y) = false := by simp [hst]
        have HST := Lib.hid hst
        clear hst
        go_wp2_with (first | (with_reducible refine wpl_ldg Q11.bc (by with_unfolding_all rfl) 44 _ (by with_unfolding_all rfl) (by with_unfolding_all rfl) _ Tryd.underlying44 (by with_unfolding_all rfl) (by with_unfolding_all rfl) ?_) | (with_reducible refine wpl_ldg Q11.bd (by with_unfolding_all rfl) 44 _ (by with_unfolding_all rfl) (by with_unfolding_all rfl) _ Tryd.underlying44 (by with_unfolding_all rfl) (by with_unfolding_all rfl) ?_))
        refine (ceeq_any c d _ Q11.ci.inn Q11.di.inn).mono ?_
        rintro ex w12 ⟨⟨q2, rfl, hq⟩, d12⟩
        have Q12 := Q11.keep d12
        clear Q11 d12
        have hqv : q2 = true := hq.2 (HI2.out.1 HST.out)
        subst hqv
        clear hq
        go_wp2_with fail
        refine (awake17 _).mono ?_
        rintro ex wz ⟨rfl, dz⟩
        go_wp2
        go_ret
        exact ⟨rfl, (Q12.keep dz).below⟩
      case neg =>
        have p1 : (x == y) = false := by simp [hst]
        have p2 : (x != y) = true := by simp [hst]
        have HST := Lib.hid hst
        clear hst
        go_wp2_with (first | (with_reducible refine wpl_ldg Q11.bc (by with_unfolding_all rfl) 44 _ (by with_unfolding_all rfl) (by with_unfolding_all rfl) _ Tryd.underlying44 (by with_unfolding_all rfl) (by with_unfolding_all rfl) ?_) | (with_reducible refine wpl_ldg Q11.bd (by with_unfolding_all rfl) 44 _ (by with_unfolding_all rfl) (by with_unfolding_all rfl) _ Tryd.underlying44 (by with_unfolding_all rfl) (by with_unfolding_all rfl) ?_))
        refine (ceeq_any c d _ Q11.ci.inn Q11.di.inn).mono ?_
        rintro ex w12 ⟨⟨q2, rfl, hq⟩, d12⟩
        have Q12 := Q11.keep d12
        clear Q11 d12
        have hqv : q2 = false := by cases q2 with | false => rfl | true => exact absurd (HI2.out.2 (hq.1 rfl)) HST.out
        subst hqv
        clear hq
        go_wp2_with fail
        refine (awake17 _).mono ?_
        rintro ex wz ⟨rfl, dz⟩
        go_wp2
        go_ret
        exact ⟨rfl, (Q12.keep dz).below⟩
    ·
      have hie := is_ne hm
      have hm2 : (more == []) = false := by simp [hm]
      have hm3 : (more != []) = true := by simp [hm]
      have HM := Lib.hid hm
      clear hm
      have C5 : Blk (w10.alloc (.cells z5A 44)) w10.heap.size 44 z5A := Blk.new w10 _ _
      have D : ∀ w', w' = (w10.alloc (.cells z5A 44)).setRow w10.heap.size (ceA X2) → Below w10.heap.size w10 w' := by
        rintro _ rfl
        exact below_row (bal (b0 w10) _) (Nat.le_refl _) _
      have hon : (ceA X2).toList.all (·.oneCell') = true := (by with_unfolding_all rfl)
      go_wp2_with (with_reducible refine wpl_st C5 (by with_unfolding_all rfl) 44 _ _ (by with_unfolding_all rfl) (ceA X2) (by with_unfolding_all rfl) (by with_unfolding_all rfl) (by with_unfolding_all rfl) (by with_unfolding_all rfl) hon ?_; refine Classical.byContradiction fun hno => ?_)
      refine hno ?_
      clear hno
      intro w11 e6
      have d11 := D w11 e6
      clear e6 D C5 hon
      have Q11 := Q10.keep d11
      clear Q10 d11
      by_cases hst : x = y
      case pos =>
        have p1 : (x == y) = true := by simp [hst]
        have p2 : (x != y) = false := by simp [hst]
        have HST := Lib.hid hst
        clear hst
        go_wp2_with (first | (with_reducible refine wpl_ldg Q11.bc (by with_unfolding_all rfl) 44 _ (by with_unfolding_all rfl) (by with_unfolding_all rfl) _ Tryd.underlying44 (by with_unfolding_all rfl) (by with_unfolding_all rfl) ?_) | (with_reducible refine wpl_ldg Q11.bd (by with_unfolding_all rfl) 44 _ (by with_unfolding_all rfl) (by with_unfolding_all rfl) _ Tryd.underlying44 (by with_unfolding_all rfl) (by with_unfolding_all rfl) ?_))
        refine (ceeq_any c d _ Q11.ci.inn Q11.di.inn).mono ?_
        rintro ex w12 ⟨⟨q2, rfl, hq⟩, d12⟩
        have Q12 := Q11.keep d12
        clear Q11 d12
        have hqv : q2 = true := hq.2 (HI2.out.1 HST.out)
        subst hqv
        clear hq
        go_wp2_with fail
        refine (awake17 _).mono ?_
        rintro ex wz ⟨rfl, dz⟩
        go_wp2
        go_ret
        exact ⟨rfl, (Q12.keep dz).below⟩
      case neg =>
        have p1 : (x == y) = false := by simp [hst]
        have p2 : (x != y) = true := by simp [hst]
        have HST := Lib.hid hst
        clear hst
        go_wp2_with (first | (with_reducible refine wpl_ldg Q11.bc (by with_unfolding_all rfl) 44 _ (by with_unfolding_all rfl) (by with_unfolding_all rfl) _ Tryd.underlying44 (by with_unfolding_all rfl) (by with_unfolding_all rfl) ?_) | (with_reducible refine wpl_ldg Q11.bd (by with_unfolding_all rfl) 44 _ (by with_unfolding_all rfl) (by with_unfolding_all rfl) _ Tryd.underlying44 (by with_unfolding_all rfl) (by with_unfolding_all rfl) ?_))
        refine (ceeq_any c d _ Q11.ci.inn Q11.di.inn).mono ?_
        rintro ex w12 ⟨⟨q2, rfl, hq⟩, d12⟩
        have Q12 := Q11.keep d12
        clear Q11 d12
        have hqv : q2 = false := by cases q2 with | false => rfl | true => exact absurd (HI2.out.2 (hq.1 rfl)) HST.out
        subst hqv
        clear hq
        go_wp2_with fail
        refine (awake17 _).mono ?_
        rintro ex wz ⟨rfl, dz⟩
        go_wp2
        go_ret
        exact ⟨rfl, (Q12.keep dz).below⟩
  case true =>
  have hq : (t, tn) = (msgB n jts qs ks, 0) := by rw [← HP'.out]; unfold putM; rw [if_pos hr]
  injection hq with hq1 hq2
  subst hq2
  have HR' := Lib.hid hr
  have HQ' := Lib.hid hq1
  clear hr hq1
  have hsl : s.length + more.length ≤ 4194304 := by
    obtain ⟨hh, _⟩ := right_parts HR.out
    obtain ⟨_, _, hi8, hp8, hl8⟩ := head_iff hh
    have i1 := HNI.out
    have i2 := HNP.out
    have i3 := HNL.out
    have := msgB_len m its ps ls (by omega) (by omega) (by omega)
    rw [HQ.out]
    omega
  have hsl2 : (s ++ more).length ≤ 4194304 := by rw [List.length_append]; exact hsl
  have hinj := msg_inj HR.out HR'.out HNI.out HNP.out HNL.out HNI'.out HNP'.out HNL'.out hZ hZ'
  rw [← HQ.out, ← HQ'.out] at hinj
  have HI := Lib.hid hinj
  clear hinj
  go_wp2_with fail
  refine (takemsg_any (s ++ more) 4194304 (Nat.le_refl _) hsl2 _).mono ?_
  intro ex w8 hpost
  rw [HQ.out] at hpost
  obtain ⟨X, z, rfl, hz, d8⟩ := took_more HR.out HNI.out HNP.out HNL.out hZ hpost
  clear hpost hsl hsl2
  have Q8 := Q7.keep d8
  clear Q7 d8
  rcases hz with ⟨rfl, hm⟩ | ⟨rfl, hm⟩
  ·
    subst hm
    have C5 : Blk (w8.alloc (.cells zmA 33)) w8.heap.size 33 zmA := Blk.new w8 _ _
    have D : ∀ w', w' = (w8.alloc (.cells zmA 33)).setRow w8.heap.size (msA X) → Below w8.heap.size w8 w' := by
      rintro _ rfl
      exact below_row (bal (b0 w8) _) (Nat.le_refl _) _
    have hon : (msA X).toList.all (·.oneCell') = true := (by with_unfolding_all rfl)
    go_wp2_with (with_reducible refine wpl_st C5 (by with_unfolding_all rfl) 33 _ _ (by with_unfolding_all rfl) (msA X) (by with_unfolding_all rfl) (by with_unfolding_all rfl) (by with_unfolding_all rfl) (by with_unfolding_all rfl) hon ?_; refine Classical.byContradiction fun hno => ?_)
    refine hno ?_
    clear hno
    intro w9 e6
    have d9 := D w9 e6
    clear e6 D C5 hon
    have Q9 := Q8.keep d9
    clear Q8 d9
    by_cases hst : s = t
    case pos =>
      have p1 : (s == t) = true := by simp [hst]
      have p2 : (s != t) = false := by simp [hst]
      have HST := Lib.hid hst
      clear hst
      go_wp2_with (first | (with_reducible refine wpl_ldg Q9.ba (by with_unfolding_all rfl) 33 _ (by with_unfolding_all rfl) (by with_unfolding_all rfl) _ Tryd.underlying33 (by with_unfolding_all rfl) (by with_unfolding_all rfl) ?_) | (with_reducible refine wpl_ldg Q9.bb (by with_unfolding_all rfl) 33 _ (by with_unfolding_all rfl) (by with_unfolding_all rfl) _ Tryd.underlying33 (by with_unfolding_all rfl) (by with_unfolding_all rfl) ?_))
      refine (msgeq_any m n its jts ps qs ls ks _ Q9.mi Q9.ni).mono ?_
      rintro ex w10 ⟨⟨q, rfl, hq⟩, d10⟩
      have Q10 := Q9.keep d10
      clear Q9 d10
      have hqv : q = true := hq.2 (HI.out.1 HST.out)
      subst hqv
      clear hq HST HI HR HR' HQ HQ' HP HP'
      go_wp2_with (with_reducible refine wpl_ldg Q10.bc (by with_unfolding_all rfl) 44 _ (by with_unfolding_all rfl) (by with_unfolding_all rfl) _ Tryd.underlying44 (by with_unfolding_all rfl) (by with_unfolding_all rfl) ?_)
      refine (putcell_any c _ Q10.ci Q10.tab).mono ?_
      rintro ex w11 ⟨rfl, d11⟩
      obtain ⟨⟨x, xn⟩, hput⟩ : ∃ x, putC c = x := ⟨_, rfl⟩
      rw [hput]
      have HPC := Lib.hid hput
      clear hput
      have Q11 := Q10.keep d11
      clear Q10 d11
      go_wp2_with (with_reducible refine wpl_ldg Q11.bd (by with_unfolding_all rfl) 44 _ (by with_unfolding_all rfl) (by with_unfolding_all rfl) _ Tryd.underlying44 (by with_unfolding_all rfl) (by with_unfolding_all rfl) ?_)
      refine (putcell_any d _ Q11.di Q11.tab).mono ?_
      rintro ex w12 ⟨rfl, d12⟩
      obtain ⟨⟨y, yn⟩, hput⟩ : ∃ x, putC d = x := ⟨_, rfl⟩
      rw [hput]
      have HPD := Lib.hid hput
      clear hput
      have Q12 := Q11.keep d12
      clear Q11 d12
      cases hr : ceB c
      case false =>
        have hq : (x, xn) = ([], 1) := by rw [← HPC.out]; unfold putC; rw [if_neg (by rw [hr]; simp)]
        injection hq with hq1 hq2
        subst hq1 hq2
        clear hr
        go_wp2_with fail
        refine (awake17 _).mono ?_
        rintro ex wz ⟨rfl, dz⟩
        go_wp2
        go_ret
        exact ⟨rfl, (Q12.keep dz).below⟩
      case true =>
      have hq : (x, xn) = (ceBy c, 0) := by rw [← HPC.out]; unfold putC; rw [if_pos hr]
      injection hq with hq1 hq2
      subst hq2
      have HCR := Lib.hid hr
      have HCQ := Lib.hid hq1
      clear hr hq1
      cases hr : ceB d
      case false =>
        have hq : (y, yn) = ([], 1) := by rw [← HPD.out]; unfold putC; rw [if_neg (by rw [hr]; simp)]
        injection hq with hq1 hq2
        subst hq1 hq2
        clear hr
        go_wp2_with fail
        refine (awake17 _).mono ?_
        rintro ex wz ⟨rfl, dz⟩
        go_wp2
        go_ret
        exact ⟨rfl, (Q12.keep dz).below⟩
      case true =>
      have hq : (y, yn) = (ceBy d, 0) := by rw [← HPD.out]; unfold putC; rw [if_pos hr]
      injection hq with hq1 hq2
      subst hq2
      have HDR := Lib.hid hr
      have HDQ := Lib.hid hq1
      clear hr hq1
      have hxl : x.length + ([] : List UInt8).length ≤ 4194304 := by have := ceBy_len Q12.ci.inn HCR.out; rw [HCQ.out]; simp; omega
      have hxl2 : (x ++ []).length ≤ 4194304 := by rw [List.length_append]; exact hxl
      have hinj := ce_inj Q12.ci.inn Q12.di.inn HCR.out HDR.out
      rw [← HCQ.out, ← HDQ.out] at hinj
      have HI2 := Lib.hid hinj
      clear hinj
      go_wp2_with fail
      refine (takecell_any x 4194304 (Nat.le_refl _) (by simpa using hxl2) _ Q12.tab).mono ?_
      intro ex w13 hpost
      rw [← List.append_nil x] at hpost
      rw [HCQ.out] at hpost
      obtain ⟨X2, z2, rfl, hz2, d13⟩ := took_cmore HCR.out Q12.ci.inn hpost
      clear hpost hxl hxl2
      have Q13 := Q12.keep d13
      clear Q12 d13
      rcases hz2 with ⟨rfl, hm⟩ | ⟨rfl, hm⟩
      ·
        clear hm
        have C5 : Blk (w13.alloc (.cells z5A 44)) w13.heap.size 44 z5A := Blk.new w13 _ _
        have D : ∀ w', w' = (w13.alloc (.cells z5A 44)).setRow w13.heap.size (ceA X2) → Below w13.heap.size w13 w' := by
          rintro _ rfl
          exact below_row (bal (b0 w13) _) (Nat.le_refl _) _
        have hon : (ceA X2).toList.all (·.oneCell') = true := (by with_unfolding_all rfl)
        go_wp2_with (with_reducible refine wpl_st C5 (by with_unfolding_all rfl) 44 _ _ (by with_unfolding_all rfl) (ceA X2) (by with_unfolding_all rfl) (by with_unfolding_all rfl) (by with_unfolding_all rfl) (by with_unfolding_all rfl) hon ?_; refine Classical.byContradiction fun hno => ?_)
        refine hno ?_
        clear hno
        intro w14 e6
        have d14 := D w14 e6
        clear e6 D C5 hon
        have Q14 := Q13.keep d14
        clear Q13 d14
        by_cases hst : x = y
        case pos =>
          have p1 : (x == y) = true := by simp [hst]
          have p2 : (x != y) = false := by simp [hst]
          have HST := Lib.hid hst
          clear hst
          go_wp2_with (first | (with_reducible refine wpl_ldg Q14.bc (by with_unfolding_all rfl) 44 _ (by with_unfolding_all rfl) (by with_unfolding_all rfl) _ Tryd.underlying44 (by with_unfolding_all rfl) (by with_unfolding_all rfl) ?_) | (with_reducible refine wpl_ldg Q14.bd (by with_unfolding_all rfl) 44 _ (by with_unfolding_all rfl) (by with_unfolding_all rfl) _ Tryd.underlying44 (by with_unfolding_all rfl) (by with_unfolding_all rfl) ?_))
          refine (ceeq_any c d _ Q14.ci.inn Q14.di.inn).mono ?_
          rintro ex w15 ⟨⟨q2, rfl, hq⟩, d15⟩
          have Q15 := Q14.keep d15
          clear Q14 d15
          have hqv : q2 = true := hq.2 (HI2.out.1 HST.out)
          subst hqv
          clear hq
          go_wp2_with fail
          refine (awake17 _).mono ?_
          rintro ex wz ⟨rfl, dz⟩
          go_wp2
          go_ret
          exact ⟨rfl, (Q15.keep dz).below⟩
        case neg =>
          have p1 : (x == y) = false := by simp [hst]
          have p2 : (x != y) = true := by simp [hst]
          have HST := Lib.hid hst
          clear hst
          go_wp2_with (first | (with_reducible refine wpl_ldg Q14.bc (by with_unfolding_all rfl) 44 _ (by with_unfolding_all rfl) (by with_unfolding_all rfl) _ Tryd.underlying44 (by with_unfolding_all rfl) (by with_unfolding_all rfl) ?_) | (with_reducible refine wpl_ldg Q14.bd (by with_unfolding_all rfl) 44 _ (by with_unfolding_all rfl) (by with_unfolding_all rfl) _ Tryd.underlying44 (by with_unfolding_all rfl) (by with_unfolding_all rfl) ?_))
          refine (ceeq_any c d _ Q14.ci.inn Q14.di.inn).mono ?_
          rintro ex w15 ⟨⟨q2, rfl, hq⟩, d15⟩
          have Q15 := Q14.keep d15
          clear Q14 d15
          have hqv : q2 = false := by cases q2 with | false => rfl | true => exact absurd (HI2.out.2 (hq.1 rfl)) HST.out
          subst hqv
          clear hq
          go_wp2_with fail
          refine (awake17 _).mono ?_
          rintro ex wz ⟨rfl, dz⟩
          go_wp2
          go_ret
          exact ⟨rfl, (Q15.keep dz).below⟩
      ·
        exact absurd rfl hm
    case neg =>
      have p1 : (s == t) = false := by simp [hst]
      have p2 : (s != t) = true := by simp [hst]
      have HST := Lib.hid hst
      clear hst
      go_wp2_with (first | (with_reducible refine wpl_ldg Q9.ba (by with_unfolding_all rfl) 33 _ (by with_unfolding_all rfl) (by with_unfolding_all rfl) _ Tryd.underlying33 (by with_unfolding_all rfl) (by with_unfolding_all rfl) ?_) | (with_reducible refine wpl_ldg Q9.bb (by with_unfolding_all rfl) 33 _ (by with_unfolding_all rfl) (by with_unfolding_all rfl) _ Tryd.underlying33 (by with_unfolding_all rfl) (by with_unfolding_all rfl) ?_))
      refine (msgeq_any m n its jts ps qs ls ks _ Q9.mi Q9.ni).mono ?_
      rintro ex w10 ⟨⟨q, rfl, hq⟩, d10⟩
      have Q10 := Q9.keep d10
      clear Q9 d10
      have hqv : q = false := by cases q with | false => rfl | true => exact absurd (HI.out.2 (hq.1 rfl)) HST.out
      subst hqv
      clear hq HST HI HR HR' HQ HQ' HP HP'
      go_wp2_with (with_reducible refine wpl_ldg Q10.bc (by with_unfolding_all rfl) 44 _ (by with_unfolding_all rfl) (by with_unfolding_all rfl) _ Tryd.underlying44 (by with_unfolding_all rfl) (by with_unfolding_all rfl) ?_)
      refine (putcell_any c _ Q10.ci Q10.tab).mono ?_
      rintro ex w11 ⟨rfl, d11⟩
      obtain ⟨⟨x, xn⟩, hput⟩ : ∃ x, putC c = x := ⟨_, rfl⟩
      rw [hput]
      have HPC := Lib.hid hput
      clear hput
      have Q11 := Q10.keep d11
      clear Q10 d11
      go_wp2_with (with_reducible refine wpl_ldg Q11.bd (by with_unfolding_all rfl) 44 _ (by with_unfolding_all rfl) (by with_unfolding_all rfl) _ Tryd.underlying44 (by with_unfolding_all rfl) (by with_unfolding_all rfl) ?_)
      refine (putcell_any d _ Q11.di Q11.tab).mono ?_
      rintro ex w12 ⟨rfl, d12⟩
      obtain ⟨⟨y, yn⟩, hput⟩ : ∃ x, putC d = x := ⟨_, rfl⟩
      rw [hput]
      have HPD := Lib.hid hput
      clear hput
      have Q12 := Q11.keep d12
      clear Q11 d12
      cases hr : ceB c
      case false =>
        have hq : (x, xn) = ([], 1) := by rw [← HPC.out]; unfold putC; rw [if_neg (by rw [hr]; simp)]
        injection hq with hq1 hq2
        subst hq1 hq2
        clear hr
        go_wp2_with fail
        refine (awake17 _).mono ?_
        rintro ex wz ⟨rfl, dz⟩
        go_wp2
        go_ret
        exact ⟨rfl, (Q12.keep dz).below⟩
      case true =>
      have hq : (x, xn) = (ceBy c, 0) := by rw [← HPC.out]; unfold putC; rw [if_pos hr]
      injection hq with hq1 hq2
      subst hq2
      have HCR := Lib.hid hr
      have HCQ := Lib.hid hq1
      clear hr hq1
      cases hr : ceB d
      case false =>
        have hq : (y, yn) = ([], 1) := by rw [← HPD.out]; unfold putC; rw [if_neg (by rw [hr]; simp)]
        injection hq with hq1 hq2
        subst hq1 hq2
        clear hr
        go_wp2_with fail
        refine (awake17 _).mono ?_
        rintro ex wz ⟨rfl, dz⟩
        go_wp2
        go_ret
        exact ⟨rfl, (Q12.keep dz).below⟩
      case true =>
      have hq : (y, yn) = (ceBy d, 0) := by rw [← HPD.out]; unfold putC; rw [if_pos hr]
      injection hq with hq1 hq2
      subst hq2
      have HDR := Lib.hid hr
      have HDQ := Lib.hid hq1
      clear hr hq1
      have hxl : x.length + ([] : List UInt8).length ≤ 4194304 := by have := ceBy_len Q12.ci.inn HCR.out; rw [HCQ.out]; simp; omega
      have hxl2 : (x ++ []).length ≤ 4194304 := by rw [List.length_append]; exact hxl
      have hinj := ce_inj Q12.ci.inn Q12.di.inn HCR.out HDR.out
      rw [← HCQ.out, ← HDQ.out] at hinj
      have HI2 := Lib.hid hinj
      clear hinj
      go_wp2_with fail
      refine (takecell_any x 4194304 (Nat.le_refl _) (by simpa using hxl2) _ Q12.tab).mono ?_
      intro ex w13 hpost
      rw [← List.append_nil x] at hpost
      rw [HCQ.out] at hpost
      obtain ⟨X2, z2, rfl, hz2, d13⟩ := took_cmore HCR.out Q12.ci.inn hpost
      clear hpost hxl hxl2
      have Q13 := Q12.keep d13
      clear Q12 d13
      rcases hz2 with ⟨rfl, hm⟩ | ⟨rfl, hm⟩
      ·
        clear hm
        have C5 : Blk (w13.alloc (.cells z5A 44)) w13.heap.size 44 z5A := Blk.new w13 _ _
        have D : ∀ w', w' = (w13.alloc (.cells z5A 44)).setRow w13.heap.size (ceA X2) → Below w13.heap.size w13 w' := by
          rintro _ rfl
          exact below_row (bal (b0 w13) _) (Nat.le_refl _) _
        have hon : (ceA X2).toList.all (·.oneCell') = true := (by with_unfolding_all rfl)
        go_wp2_with (with_reducible refine wpl_st C5 (by with_unfolding_all rfl) 44 _ _ (by with_unfolding_all rfl) (ceA X2) (by with_unfolding_all rfl) (by with_unfolding_all rfl) (by with_unfolding_all rfl) (by with_unfolding_all rfl) hon ?_; refine Classical.byContradiction fun hno => ?_)
        refine hno ?_
        clear hno
        intro w14 e6
        have d14 := D w14 e6
        clear e6 D C5 hon
        have Q14 := Q13.keep d14
        clear Q13 d14
        by_cases hst : x = y
        case pos =>
          have p1 : (x == y) = true := by simp [hst]
          have p2 : (x != y) = false := by simp [hst]
          have HST := Lib.hid hst
          clear hst
          go_wp2_with (first | (with_reducible refine wpl_ldg Q14.bc (by with_unfolding_all rfl) 44 _ (by with_unfolding_all rfl) (by with_unfolding_all rfl) _ Tryd.underlying44 (by with_unfolding_all rfl) (by with_unfolding_all rfl) ?_) | (with_reducible refine wpl_ldg Q14.bd (by with_unfolding_all rfl) 44 _ (by with_unfolding_all rfl) (by with_unfolding_all rfl) _ Tryd.underlying44 (by with_unfolding_all rfl) (by with_unfolding_all rfl) ?_))
          refine (ceeq_any c d _ Q14.ci.inn Q14.di.inn).mono ?_
          rintro ex w15 ⟨⟨q2, rfl, hq⟩, d15⟩
          have Q15 := Q14.keep d15
          clear Q14 d15
          have hqv : q2 = true := hq.2 (HI2.out.1 HST.out)
          subst hqv
          clear hq
          go_wp2_with fail
          refine (awake17 _).mono ?_
          rintro ex wz ⟨rfl, dz⟩
          go_wp2
          go_ret
          exact ⟨rfl, (Q15.keep dz).below⟩
        case neg =>
          have p1 : (x == y) = false := by simp [hst]
          have p2 : (x != y) = true := by simp [hst]
          have HST := Lib.hid hst
          clear hst
          go_wp2_with (first | (with_reducible refine wpl_ldg Q14.bc (by with_unfolding_all rfl) 44 _ (by with_unfolding_all rfl) (by with_unfolding_all rfl) _ Tryd.underlying44 (by with_unfolding_all rfl) (by with_unfolding_all rfl) ?_) | (with_reducible refine wpl_ldg Q14.bd (by with_unfolding_all rfl) 44 _ (by with_unfolding_all rfl) (by with_unfolding_all rfl) _ Tryd.underlying44 (by with_unfolding_all rfl) (by with_unfolding_all rfl) ?_))
          refine (ceeq_any c d _ Q14.ci.inn Q14.di.inn).mono ?_
          rintro ex w15 ⟨⟨q2, rfl, hq⟩, d15⟩
          have Q15 := Q14.keep d15
          clear Q14 d15
          have hqv : q2 = false := by cases q2 with | false => rfl | true => exact absurd (HI2.out.2 (hq.1 rfl)) HST.out
          subst hqv
          clear hq
          go_wp2_with fail
          refine (awake17 _).mono ?_
          rintro ex wz ⟨rfl, dz⟩
          go_wp2
          go_ret
          exact ⟨rfl, (Q15.keep dz).below⟩
      ·
        exact absurd rfl hm
  ·
    have hie := is_ne hm
    have hm2 : (more == []) = false := by simp [hm]
    have hm3 : (more != []) = true := by simp [hm]
    have HM := Lib.hid hm
    clear hm
    have C5 : Blk (w8.alloc (.cells zmA 33)) w8.heap.size 33 zmA := Blk.new w8 _ _
    have D : ∀ w', w' = (w8.alloc (.cells zmA 33)).setRow w8.heap.size (msA X) → Below w8.heap.size w8 w' := by
      rintro _ rfl
      exact below_row (bal (b0 w8) _) (Nat.le_refl _) _
    have hon : (msA X).toList.all (·.oneCell') = true := (by with_unfolding_all rfl)
    go_wp2_with (with_reducible refine wpl_st C5 (by with_unfolding_all rfl) 33 _ _ (by with_unfolding_all rfl) (msA X) (by with_unfolding_all rfl) (by with_unfolding_all rfl) (by with_unfolding_all rfl) (by with_unfolding_all rfl) hon ?_; refine Classical.byContradiction fun hno => ?_)
    refine hno ?_
    clear hno
    intro w9 e6
    have d9 := D w9 e6
    clear e6 D C5 hon
    have Q9 := Q8.keep d9
    clear Q8 d9
    by_cases hst : s = t
    case pos =>
      have p1 : (s == t) = true := by simp [hst]
      have p2 : (s != t) = false := by simp [hst]
      have HST := Lib.hid hst
      clear hst
      go_wp2_with (first | (with_reducible refine wpl_ldg Q9.ba (by with_unfolding_all rfl) 33 _ (by with_unfolding_all rfl) (by with_unfolding_all rfl) _ Tryd.underlying33 (by with_unfolding_all rfl) (by with_unfolding_all rfl) ?_) | (with_reducible refine wpl_ldg Q9.bb (by with_unfolding_all rfl) 33 _ (by with_unfolding_all rfl) (by with_unfolding_all rfl) _ Tryd.underlying33 (by with_unfolding_all rfl) (by with_unfolding_all rfl) ?_))
      refine (msgeq_any m n its jts ps qs ls ks _ Q9.mi Q9.ni).mono ?_
      rintro ex w10 ⟨⟨q, rfl, hq⟩, d10⟩
      have Q10 := Q9.keep d10
      clear Q9 d10
      have hqv : q = true := hq.2 (HI.out.1 HST.out)
      subst hqv
      clear hq HST HI HR HR' HQ HQ' HP HP'
      go_wp2_with (with_reducible refine wpl_ldg Q10.bc (by with_unfolding_all rfl) 44 _ (by with_unfolding_all rfl) (by with_unfolding_all rfl) _ Tryd.underlying44 (by with_unfolding_all rfl) (by with_unfolding_all rfl) ?_)
      refine (putcell_any c _ Q10.ci Q10.tab).mono ?_
      rintro ex w11 ⟨rfl, d11⟩
      obtain ⟨⟨x, xn⟩, hput⟩ : ∃ x, putC c = x := ⟨_, rfl⟩
      rw [hput]
      have HPC := Lib.hid hput
      clear hput
      have Q11 := Q10.keep d11
      clear Q10 d11
      go_wp2_with (with_reducible refine wpl_ldg Q11.bd (by with_unfolding_all rfl) 44 _ (by with_unfolding_all rfl) (by with_unfolding_all rfl) _ Tryd.underlying44 (by with_unfolding_all rfl) (by with_unfolding_all rfl) ?_)
      refine (putcell_any d _ Q11.di Q11.tab).mono ?_
      rintro ex w12 ⟨rfl, d12⟩
      obtain ⟨⟨y, yn⟩, hput⟩ : ∃ x, putC d = x := ⟨_, rfl⟩
      rw [hput]
      have HPD := Lib.hid hput
      clear hput
      have Q12 := Q11.keep d12
      clear Q11 d12
      cases hr : ceB c
      case false =>
        have hq : (x, xn) = ([], 1) := by rw [← HPC.out]; unfold putC; rw [if_neg (by rw [hr]; simp)]
        injection hq with hq1 hq2
        subst hq1 hq2
        clear hr
        go_wp2_with fail
        refine (awake17 _).mono ?_
        rintro ex wz ⟨rfl, dz⟩
        go_wp2
        go_ret
        exact ⟨rfl, (Q12.keep dz).below⟩
      case true =>
      have hq : (x, xn) = (ceBy c, 0) := by rw [← HPC.out]; unfold putC; rw [if_pos hr]
      injection hq with hq1 hq2
      subst hq2
      have HCR := Lib.hid hr
      have HCQ := Lib.hid hq1
      clear hr hq1
      cases hr : ceB d
      case false =>
        have hq : (y, yn) = ([], 1) := by rw [← HPD.out]; unfold putC; rw [if_neg (by rw [hr]; simp)]
        injection hq with hq1 hq2
        subst hq1 hq2
        clear hr
        go_wp2_with fail
        refine (awake17 _).mono ?_
        rintro ex wz ⟨rfl, dz⟩
        go_wp2
        go_ret
        exact ⟨rfl, (Q12.keep dz).below⟩
      case true =>
      have hq : (y, yn) = (ceBy d, 0) := by rw [← HPD.out]; unfold putC; rw [if_pos hr]
      injection hq with hq1 hq2
      subst hq2
      have HDR := Lib.hid hr
      have HDQ := Lib.hid hq1
      clear hr hq1
      have hxl : x.length + (more : List UInt8).length ≤ 4194304 := by have := ceBy_len Q12.ci.inn HCR.out; rw [HCQ.out]; omega
      have hxl2 : (x ++ more).length ≤ 4194304 := by rw [List.length_append]; exact hxl
      have hinj := ce_inj Q12.ci.inn Q12.di.inn HCR.out HDR.out
      rw [← HCQ.out, ← HDQ.out] at hinj
      have HI2 := Lib.hid hinj
      clear hinj
      go_wp2_with fail
      refine (takecell_any (x ++ more) 4194304 (Nat.le_refl _) (by simpa using hxl2) _ Q12.tab).mono ?_
      intro ex w13 hpost
      rw [HCQ.out] at hpost
      obtain ⟨X2, z2, rfl, hz2, d13⟩ := took_cmore HCR.out Q12.ci.inn hpost
      clear hpost hxl hxl2
      have Q13 := Q12.keep d13
      clear Q12 d13
      rcases hz2 with ⟨rfl, hm⟩ | ⟨rfl, hm⟩
      ·
        exact absurd hm HM.out
      ·
        clear hm
        have C5 : Blk (w13.alloc (.cells z5A 44)) w13.heap.size 44 z5A := Blk.new w13 _ _
        have D : ∀ w', w' = (w13.alloc (.cells z5A 44)).setRow w13.heap.size (ceA X2) → Below w13.heap.size w13 w' := by
          rintro _ rfl
          exact below_row (bal (b0 w13) _) (Nat.le_refl _) _
        have hon : (ceA X2).toList.all (·.oneCell') = true := (by with_unfolding_all rfl)
        go_wp2_with (with_reducible refine wpl_st C5 (by with_unfolding_all rfl) 44 _ _ (by with_unfolding_all rfl) (ceA X2) (by with_unfolding_all rfl) (by with_unfolding_all rfl) (by with_unfolding_all rfl) (by with_unfolding_all rfl) hon ?_; refine Classical.byContradiction fun hno => ?_)
        refine hno ?_
        clear hno
        intro w14 e6
        have d14 := D w14 e6
        clear e6 D C5 hon
        have Q14 := Q13.keep d14
        clear Q13 d14
        by_cases hst : x = y
        case pos =>
          have p1 : (x == y) = true := by simp [hst]
          have p2 : (x != y) = false := by simp [hst]
          have HST := Lib.hid hst
          clear hst
          go_wp2_with (first | (with_reducible refine wpl_ldg Q14.bc (by with_unfolding_all rfl) 44 _ (by with_unfolding_all rfl) (by with_unfolding_all rfl) _ Tryd.underlying44 (by with_unfolding_all rfl) (by with_unfolding_all rfl) ?_) | (with_reducible refine wpl_ldg Q14.bd (by with_unfolding_all rfl) 44 _ (by with_unfolding_all rfl) (by with_unfolding_all rfl) _ Tryd.underlying44 (by with_unfolding_all rfl) (by with_unfolding_all rfl) ?_))
          refine (ceeq_any c d _ Q14.ci.inn Q14.di.inn).mono ?_
          rintro ex w15 ⟨⟨q2, rfl, hq⟩, d15⟩
          have Q15 := Q14.keep d15
          clear Q14 d15
          have hqv : q2 = true := hq.2 (HI2.out.1 HST.out)
          subst hqv
          clear hq
          go_wp2_with fail
          refine (awake17 _).mono ?_
          rintro ex wz ⟨rfl, dz⟩
          go_wp2
          go_ret
          exact ⟨rfl, (Q15.keep dz).below⟩
        case neg =>
          have p1 : (x == y) = false := by simp [hst]
          have p2 : (x != y) = true := by simp [hst]
          have HST := Lib.hid hst
          clear hst
          go_wp2_with (first | (with_reducible refine wpl_ldg Q14.bc (by with_unfolding_all rfl) 44 _ (by with_unfolding_all rfl) (by with_unfolding_all rfl) _ Tryd.underlying44 (by with_unfolding_all rfl) (by with_unfolding_all rfl) ?_) | (with_reducible refine wpl_ldg Q14.bd (by with_unfolding_all rfl) 44 _ (by with_unfolding_all rfl) (by with_unfolding_all rfl) _ Tryd.underlying44 (by with_unfolding_all rfl) (by with_unfolding_all rfl) ?_))
          refine (ceeq_any c d _ Q14.ci.inn Q14.di.inn).mono ?_
          rintro ex w15 ⟨⟨q2, rfl, hq⟩, d15⟩
          have Q15 := Q14.keep d15
          clear Q14 d15
          have hqv : q2 = false := by cases q2 with | false => rfl | true => exact absurd (HI2.out.2 (hq.1 rfl)) HST.out
          subst hqv
          clear hq
          go_wp2_with fail
          refine (awake17 _).mono ?_
          rintro ex wz ⟨rfl, dz⟩
          go_wp2
          go_ret
          exact ⟨rfl, (Q15.keep dz).below⟩
    case neg =>
      have p1 : (s == t) = false := by simp [hst]
      have p2 : (s != t) = true := by simp [hst]
      have HST := Lib.hid hst
      clear hst
      go_wp2_with (first | (with_reducible refine wpl_ldg Q9.ba (by with_unfolding_all rfl) 33 _ (by with_unfolding_all rfl) (by with_unfolding_all rfl) _ Tryd.underlying33 (by with_unfolding_all rfl) (by with_unfolding_all rfl) ?_) | (with_reducible refine wpl_ldg Q9.bb (by with_unfolding_all rfl) 33 _ (by with_unfolding_all rfl) (by with_unfolding_all rfl) _ Tryd.underlying33 (by with_unfolding_all rfl) (by with_unfolding_all rfl) ?_))
      refine (msgeq_any m n its jts ps qs ls ks _ Q9.mi Q9.ni).mono ?_
      rintro ex w10 ⟨⟨q, rfl, hq⟩, d10⟩
      have Q10 := Q9.keep d10
      clear Q9 d10
      have hqv : q = false := by cases q with | false => rfl | true => exact absurd (HI.out.2 (hq.1 rfl)) HST.out
      subst hqv
      clear hq HST HI HR HR' HQ HQ' HP HP'
      go_wp2_with (with_reducible refine wpl_ldg Q10.bc (by with_unfolding_all rfl) 44 _ (by with_unfolding_all rfl) (by with_unfolding_all rfl) _ Tryd.underlying44 (by with_unfolding_all rfl) (by with_unfolding_all rfl) ?_)
      refine (putcell_any c _ Q10.ci Q10.tab).mono ?_
      rintro ex w11 ⟨rfl, d11⟩
      obtain ⟨⟨x, xn⟩, hput⟩ : ∃ x, putC c = x := ⟨_, rfl⟩
      rw [hput]
      have HPC := Lib.hid hput
      clear hput
      have Q11 := Q10.keep d11
      clear Q10 d11
      go_wp2_with (with_reducible refine wpl_ldg Q11.bd (by with_unfolding_all rfl) 44 _ (by with_unfolding_all rfl) (by with_unfolding_all rfl) _ Tryd.underlying44 (by with_unfolding_all rfl) (by with_unfolding_all rfl) ?_)
      refine (putcell_any d _ Q11.di Q11.tab).mono ?_
      rintro ex w12 ⟨rfl, d12⟩
      obtain ⟨⟨y, yn⟩, hput⟩ : ∃ x, putC d = x := ⟨_, rfl⟩
      rw [hput]
      have HPD := Lib.hid hput
      clear hput
      have Q12 := Q11.keep d12
      clear Q11 d12
      cases hr : ceB c
      case false =>
        have hq : (x, xn) = ([], 1) := by rw [← HPC.out]; unfold putC; rw [if_neg (by rw [hr]; simp)]
        injection hq with hq1 hq2
        subst hq1 hq2
        clear hr
        go_wp2_with fail
        refine (awake17 _).mono ?_
        rintro ex wz ⟨rfl, dz⟩
        go_wp2
        go_ret
        exact ⟨rfl, (Q12.keep dz).below⟩
      case true =>
      have hq : (x, xn) = (ceBy c, 0) := by rw [← HPC.out]; unfold putC; rw [if_pos hr]
      injection hq with hq1 hq2
      subst hq2
      have HCR := Lib.hid hr
      have HCQ := Lib.hid hq1
      clear hr hq1
      cases hr : ceB d
      case false =>
        have hq : (y, yn) = ([], 1) := by rw [← HPD.out]; unfold putC; rw [if_neg (by rw [hr]; simp)]
        injection hq with hq1 hq2
        subst hq1 hq2
        clear hr
        go_wp2_with fail
        refine (awake17 _).mono ?_
        rintro ex wz ⟨rfl, dz⟩
        go_wp2
        go_ret
        exact ⟨rfl, (Q12.keep dz).below⟩
      case true =>
      have hq : (y, yn) = (ceBy d, 0) := by rw [← HPD.out]; unfold putC; rw [if_pos hr]
      injection hq with hq1 hq2
      subst hq2
      have HDR := Lib.hid hr
      have HDQ := Lib.hid hq1
      clear hr hq1
      have hxl : x.length + (more : List UInt8).length ≤ 4194304 := by have := ceBy_len Q12.ci.inn HCR.out; rw [HCQ.out]; omega
      have hxl2 : (x ++ more).length ≤ 4194304 := by rw [List.length_append]; exact hxl
      have hinj := ce_inj Q12.ci.inn Q12.di.inn HCR.out HDR.out
      rw [← HCQ.out, ← HDQ.out] at hinj
      have HI2 := Lib.hid hinj
      clear hinj
      go_wp2_with fail
      refine (takecell_any (x ++ more) 4194304 (Nat.le_refl _) (by simpa using hxl2) _ Q12.tab).mono ?_
      intro ex w13 hpost
      rw [HCQ.out] at hpost
      obtain ⟨X2, z2, rfl, hz2, d13⟩ := took_cmore HCR.out Q12.ci.inn hpost
      clear hpost hxl hxl2
      have Q13 := Q12.keep d13
      clear Q12 d13
      rcases hz2 with ⟨rfl, hm⟩ | ⟨rfl, hm⟩
      ·
        exact absurd hm HM.out
      ·
        clear hm
        have C5 : Blk (w13.alloc (.cells z5A 44)) w13.heap.size 44 z5A := Blk.new w13 _ _
        have D : ∀ w', w' = (w13.alloc (.cells z5A 44)).setRow w13.heap.size (ceA X2) → Below w13.heap.size w13 w' := by
          rintro _ rfl
          exact below_row (bal (b0 w13) _) (Nat.le_refl _) _
        have hon : (ceA X2).toList.all (·.oneCell') = true := (by with_unfolding_all rfl)
        go_wp2_with (with_reducible refine wpl_st C5 (by with_unfolding_all rfl) 44 _ _ (by with_unfolding_all rfl) (ceA X2) (by with_unfolding_all rfl) (by with_unfolding_all rfl) (by with_unfolding_all rfl) (by with_unfolding_all rfl) hon ?_; refine Classical.byContradiction fun hno => ?_)
        refine hno ?_
        clear hno
        intro w14 e6
        have d14 := D w14 e6
        clear e6 D C5 hon
        have Q14 := Q13.keep d14
        clear Q13 d14
        by_cases hst : x = y
        case pos =>
          have p1 : (x == y) = true := by simp [hst]
          have p2 : (x != y) = false := by simp [hst]
          have HST := Lib.hid hst
          clear hst
          go_wp2_with (first | (with_reducible refine wpl_ldg Q14.bc (by with_unfolding_all rfl) 44 _ (by with_unfolding_all rfl) (by with_unfolding_all rfl) _ Tryd.underlying44 (by with_unfolding_all rfl) (by with_unfolding_all rfl) ?_) | (with_reducible refine wpl_ldg Q14.bd (by with_unfolding_all rfl) 44 _ (by with_unfolding_all rfl) (by with_unfolding_all rfl) _ Tryd.underlying44 (by with_unfolding_all rfl) (by with_unfolding_all rfl) ?_))
          refine (ceeq_any c d _ Q14.ci.inn Q14.di.inn).mono ?_
          rintro ex w15 ⟨⟨q2, rfl, hq⟩, d15⟩
          have Q15 := Q14.keep d15
          clear Q14 d15
          have hqv : q2 = true := hq.2 (HI2.out.1 HST.out)
          subst hqv
          clear hq
          go_wp2_with fail
          refine (awake17 _).mono ?_
          rintro ex wz ⟨rfl, dz⟩
          go_wp2
          go_ret
          exact ⟨rfl, (Q15.keep dz).below⟩
        case neg =>
          have p1 : (x == y) = false := by simp [hst]
          have p2 : (x != y) = true := by simp [hst]
          have HST := Lib.hid hst
          clear hst
          go_wp2_with (first | (with_reducible refine wpl_ldg Q14.bc (by with_unfolding_all rfl) 44 _ (by with_unfolding_all rfl) (by with_unfolding_all rfl) _ Tryd.underlying44 (by with_unfolding_all rfl) (by with_unfolding_all rfl) ?_) | (with_reducible refine wpl_ldg Q14.bd (by with_unfolding_all rfl) 44 _ (by with_unfolding_all rfl) (by with_unfolding_all rfl) _ Tryd.underlying44 (by with_unfolding_all rfl) (by with_unfolding_all rfl) ?_))
          refine (ceeq_any c d _ Q14.ci.inn Q14.di.inn).mono ?_
          rintro ex w15 ⟨⟨q2, rfl, hq⟩, d15⟩
          have Q15 := Q14.keep d15
          clear Q14 d15
          have hqv : q2 = false := by cases q2 with | false => rfl | true => exact absurd (HI2.out.2 (hq.1 rfl)) HST.out
          subst hqv
          clear hq
          go_wp2_with fail
          refine (awake17 _).mono ?_
          rintro ex wz ⟨rfl, dz⟩
          go_wp2
          go_ret
          exact ⟨rfl, (Q15.keep dz).below⟩
theorem bookApart_top (m : Ms) (its : List It) (ps : List Pl) (ls : List Int) {w : World} (ok : msOk m) (zi : SlOk itC 2 itOk w m.ans.itA m.ans.itn m.ans.itc its) (zp : SlOk plC 5 plOk2 w m.pA m.pn m.pc ps) (zl : SlOk ldC 1 iok w m.mA m.mn m.mc ls) (hW : wtMs m its ps ≤ 1048576)
    (n : Ms) (jts : List It) (qs : List Pl) (ks : List Int) (ok' : msOk n) (zi' : SlOk itC 2 itOk w n.ans.itA n.ans.itn n.ans.itc jts) (zp' : SlOk plC 5 plOk2 w n.pA n.pn n.pc qs) (zl' : SlOk ldC 1 iok w n.mA n.mn n.mc ks) (hW' : wtMs n jts qs ≤ 1048576)
    (c : Ce) (okc : ceOk w c) (zc : wtCe c ≤ 1048576) (d : Ce) (okd : ceOk w d) (zd : wtCe d ≤ 1048576) (more : List UInt8) (hmore : more.length ≤ 1048576) (w0 : World) (hT : Go.Lib.Utf8Tabs 0 1 w0) (h0 : w0 = w) :
    Calls Tryd.prog 4 #[msV m, msV n, ceV c, ceV d, .string ⟨more.toArray⟩] w0 fun e w' => e = .returned (.bool true) ∧ Below w0.heap.size w0 w' := by
  subst h0
  exact bookApart_walk m n its jts ps qs ls ks c d more _ (MsgIn.of zi zp zl) ok (fun p hp => (zp.2.2.2.1 p hp).2) (fun x hx => zl.2.2.2.1 x hx) hW (MsgIn.of zi' zp' zl') ok' (fun p hp => (zp'.2.2.2.1 p hp).2) (fun x hx => zl'.2.2.2.1 x hx) hW'
    (ce_wt (SlOk.ce okc) zc (by decide)) (ce_wt (SlOk.ce okd) zd (by decide)) hmore hT
end Go.Proofs.YtkoligiilieboaaDoor
