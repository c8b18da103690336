/- The walk through the document's frame Take, and the laws FrameWraps, FrameTakes, FrameApart. -/
import Derived.Test.YthjoamldmcnodaaFrameW
namespace Go.Proofs.Ythjoamldmcnodaa
open Go.RowKit
attribute [local go_sem] ByteArray.mk_append_mk ByteArray.extract_mk
set_option maxHeartbeats 1600000 in
set_option maxRecDepth 100000 in
theorem reffrtake_any (l : List UInt8) (hl : l.length ≤ 140737488351232) (w : World) :
    Calls Try.prog 30 #[.string ⟨l.toArray⟩] w fun e w' => e = .returned (.tuple #[.string ⟨(frameTakeL l).1.toArray⟩, .string ⟨(frameTakeL l).2.1.toArray⟩, .int .i64 (frameTakeL l).2.2]) ∧ Below w.heap.size w w' := by
  obtain ⟨n, r, x, ht⟩ : ∃ n r e, takeL l = (n, r, e) := ⟨_, _, _, rfl⟩
  have HT := Lib.hid ht
  by_cases hx : x = 0
  · subst hx
    have hnn := (take_ok l n r ht).1
    have hrl := take_rest_len l
    rw [ht] at hrl
    simp only at hrl
    by_cases hn : 1048576 < n
    · have hq : frameTakeL l = ([], [], 3) := by unfold frameTakeL; rw [ht]; simp [hn]
      have HQ := Lib.hid hq
      clear hq ht hnn hrl
      go_enter Try.func30, Try.ntmps30
      go_wp2_with fail
      refine (reftake_any l (by omega) w).mono ?_
      rintro e w1 ⟨rfl, hb1⟩
      rw [HT.out]
      go_wp2
      go_ret3
      exact ⟨by rw [HQ.out]; rfl, hb1⟩
    · by_cases hs : r.length < n + 4
      · have hq : frameTakeL l = ([], [], 2) := by unfold frameTakeL; rw [ht]; simp [hn, hs]
        have HQ := Lib.hid hq
        have hs' : (r.length : Int) - 4 < n := by omega
        clear hq ht hnn hs
        go_enter Try.func30, Try.ntmps30
        go_wp2_with fail
        refine (reftake_any l (by omega) w).mono ?_
        rintro e w1 ⟨rfl, hb1⟩
        rw [HT.out]
        go_wp2
        go_ret3
        exact ⟨by rw [HQ.out]; rfl, hb1⟩
      · obtain ⟨p, hlp, hp, he, hle, hlen, htake, hw⟩ := frame_facts l n r ht (by omega)
        have hok := frame_ok l n r ht (by omega)
        have hdef : frameTakeL l = if okSeal (l.take (frameEnd l)) then (r.take n, l.drop (frameEnd l), 0) else ([], [], 4) := by
          unfold frameTakeL; rw [ht]; simp [hn, hs]
        have hll : l.length = p.length + r.length := by rw [hlp]; simp
        have htn : (r.take n).length ≤ 1048576 := by simp; omega
        have s1 := fun w => run_to (P := Try.prog) w Try.underlying9 l ((wrapL (r.take n)).length : Int) (frameEnd l) (by rw [hw]) hle
        have s2 := fun w => run_from (P := Try.prog) w Try.underlying9 l ((wrapL (r.take n)).length : Int) (frameEnd l) (by rw [hw]) hle
        have s3 := fun w => run_to (P := Try.prog) w Try.underlying9 r (n : Int) n rfl (by omega)
        generalize hB : r.take n = B at *
        generalize hW : wrapL B = W at *
        generalize hE : frameEnd l = E at *
        generalize hT : l.take E = T at *
        generalize hD : l.drop E = D at *
        have hs' : ¬ ((r.length : Int) - 4 < n) := by omega
        have HDEF := Lib.hid hdef
        have HOK := Lib.hid hok
        have HW := Lib.hid hW
        clear hw htake hlen hlp hp he hll hE hT hdef ht hs hok hW hB hD hle
        by_cases hk : W = T
        · have hq : frameTakeL l = (B, D, 0) := by rw [HDEF.out, if_pos (HOK.out.2 hk)]
          have HQ := Lib.hid hq
          have hb : (!(W == T)) = false := by simp [hk]
          clear hq hk
          go_enter Try.func30, Try.ntmps30
          go_wp2_with fail
          refine (reftake_any l (by omega) w).mono ?_
          rintro e w1 ⟨rfl, hb1⟩
          rw [HT.out]
          go_wp2_with fail
          refine (refwrap_any B (by omega) w1).mono ?_
          rintro e w2 ⟨rfl, hb2⟩
          rw [HW.out]
          go_wp2
          go_quiet (fail)
          go_wp2
          go_ret3
          exact ⟨by rw [HQ.out]; rfl, below_drewN (bt hb1 hb2) _⟩
        · have hq : frameTakeL l = ([], [], 4) := by rw [HDEF.out, if_neg (fun h => hk (HOK.out.1 h))]
          have HQ := Lib.hid hq
          have hb : (!(W == T)) = true := by simp [hk]
          clear hq hk
          go_enter Try.func30, Try.ntmps30
          go_wp2_with fail
          refine (reftake_any l (by omega) w).mono ?_
          rintro e w1 ⟨rfl, hb1⟩
          rw [HT.out]
          go_wp2_with fail
          refine (refwrap_any B (by omega) w1).mono ?_
          rintro e w2 ⟨rfl, hb2⟩
          rw [HW.out]
          go_wp2
          go_ret3
          exact ⟨by rw [HQ.out]; rfl, bt hb1 hb2⟩
  · have hq : frameTakeL l = ([], [], x) := by unfold frameTakeL; rw [ht]; simp [hx]
    have HQ := Lib.hid hq
    have hne : ((x : Int) != 0) = true := by simp; omega
    clear hq ht hx
    go_enter Try.func30, Try.ntmps30
    go_wp2_with fail
    refine (reftake_any l (by omega) w).mono ?_
    rintro e w1 ⟨rfl, hb1⟩
    rw [HT.out]
    go_wp2
    go_ret3
    exact ⟨by rw [HQ.out]; rfl, hb1⟩
theorem wrapab : (wrapL [97, 98]).length = 7 := by decide +kernel
theorem takeab : frameTakeL (wrapL [97, 98] ++ [120]) = ([97, 98], [120], 0) := frame_back _ _ (by simp)
end Go.Proofs.Ythjoamldmcnodaa
