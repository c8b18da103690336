/- The walks through frame.Wrap, Take and the document's: each is the plain law's. -/
import Derived.Test.YthjoamldmcnodaaFrame
import Derived.Test.YthjoamldmcnodaaSealW
import Derived.Test.YthjoamldmcnodaaTextW
import Derived.Deep.QuietTactic
import Derived.BigQuiet
import Derived.Outline
namespace Go.Proofs.Ythjoamldmcnodaa
open Go.RowKit
attribute [local go_sem] ByteArray.mk_append_mk ByteArray.extract_mk
set_option maxHeartbeats 400000 in
set_option maxRecDepth 100000 in
theorem wrap_long (l : List UInt8) (hl : 1048576 < l.length) (hb : l.length ≤ 281474976710656) (w : World) : Calls Try.prog 22 #[.string ⟨l.toArray⟩] w fun e w' => e = .returned (.tuple #[.string ⟨#[]⟩, .int .i64 5]) ∧ w = w' := by
  have h : (1048576 : Int) < l.length := by omega
  go_enter Try.func22, Try.ntmps22
  go_wp2
  go_ret2
  exact ⟨rfl, rfl⟩
set_option maxHeartbeats 400000 in
set_option maxRecDepth 100000 in
theorem wrap_any (l : List UInt8) (hl : l.length ≤ 1048576) (w : World) : Calls Try.prog 22 #[.string ⟨l.toArray⟩] w fun e w' => e = .returned (.tuple #[.string ⟨(wrapL l).toArray⟩, .int .i64 0]) ∧ Below w.heap.size w w' := by
  have h : ¬ ((1048576 : Int) < l.length) := by omega
  have hp := putL_len l.length
  have htl := textL_len l
  have hx : wrapL l = sealL (textL l) := rfl
  generalize ht : textL l = t at *
  have HT := Lib.hid ht
  have HX := Lib.hid hx
  have hlen : t.length ≤ 1048585 := by omega
  clear ht hx htl hp
  go_enter Try.func22, Try.ntmps22
  go_wp2_with fail
  refine (text_any l (by omega) w).mono ?_
  rintro e w1 ⟨rfl, hb1⟩
  rw [HT.out]
  go_wp2_with fail
  refine (seal_any t w1 (by omega)).mono ?_
  rintro e w2 ⟨rfl, hb2⟩
  go_wp2
  go_ret2
  exact ⟨by rw [HX.out]; rfl, bt hb1 hb2⟩
set_option maxHeartbeats 400000 in
set_option maxRecDepth 100000 in
theorem refwrap_any (l : List UInt8) (hl : l.length ≤ 140737488351232) (w : World) : Calls Try.prog 31 #[.string ⟨l.toArray⟩] w fun e w' => e = .returned (.string ⟨(wrapL l).toArray⟩) ∧ Below w.heap.size w w' := by
  have hp := putL_len l.length
  have htl := textL_len l
  have hx : wrapL l = textL l ++ four (sumN (textL l)) := rfl
  generalize ht : textL l = t at *
  have hlen : t.length ≤ 140737488351241 := by omega
  have hn := sumN_lt t
  generalize hs : sumN t = n at *
  have f4 := four_length n
  have HT := Lib.hid ht
  have HX := Lib.hid hx
  have HS := Lib.hid hs
  clear ht hx htl hp hs
  go_enter Try.func31, Try.ntmps31
  go_wp2_with fail
  refine (reftext_any l (by omega) w).mono ?_
  rintro e w1 ⟨rfl, hb1⟩
  rw [HT.out]
  go_wp2_with fail
  refine (refof_list t w1 (by omega)).mono ?_
  rintro e w' ⟨rfl, rfl⟩
  rw [HS.out]
  go_wp2_with fail
  refine (four_any n w1 (by omega)).mono ?_
  rintro e w2 ⟨rfl, hb2⟩
  go_wp2
  go_ret
  exact ⟨by rw [HX.out]; rfl, bt hb1 hb2⟩
set_option maxHeartbeats 1600000 in
set_option maxRecDepth 100000 in
theorem frtake_any (l : List UInt8) (hl : l.length ≤ 281474976710656) (w : World) :
    Calls Try.prog 38 #[.string ⟨l.toArray⟩] w fun e w' => e = .returned (.tuple #[.string ⟨(frameTakeL l).1.toArray⟩, .string ⟨(frameTakeL l).2.1.toArray⟩, .int .i64 (frameTakeL l).2.2]) ∧ Below w.heap.size w w' := by
  obtain ⟨n, r, x, ht⟩ : ∃ n r e, takeL l = (n, r, e) := ⟨_, _, _, rfl⟩
  have HT := Lib.hid ht
  by_cases hx : x = 0
  · subst hx
    have hnn := (take_ok l n r ht).1
    have hrl := take_rest_len l
    rw [ht] at hrl
    simp only at hrl
    by_cases hn : 1048576 < n
    · have hq : frameTakeL l = ([], [], 3) := by unfold frameTakeL; rw [ht]; simp [hn]
      have HQ := Lib.hid hq
      clear hq ht hnn hrl
      go_enter Try.func38, Try.ntmps38
      go_wp2_with fail
      refine (take_any l hl w).mono ?_
      rintro e w1 ⟨rfl, hb1⟩
      rw [HT.out]
      go_wp2
      go_ret3
      exact ⟨by rw [HQ.out]; rfl, hb1⟩
    · by_cases hs : r.length < n + 4
      · have hq : frameTakeL l = ([], [], 2) := by unfold frameTakeL; rw [ht]; simp [hn, hs]
        have HQ := Lib.hid hq
        have hs' : (r.length : Int) < n + 4 := by omega
        clear hq ht hnn hs
        go_enter Try.func38, Try.ntmps38
        go_wp2_with fail
        refine (take_any l hl w).mono ?_
        rintro e w1 ⟨rfl, hb1⟩
        rw [HT.out]
        go_wp2
        go_ret3
        exact ⟨by rw [HQ.out]; rfl, hb1⟩
      · obtain ⟨p, hlp, hp, he, hle, hlen, htake, hw⟩ := frame_facts l n r ht (by omega)
        have hdef : frameTakeL l = if okSeal (l.take (frameEnd l)) then (r.take n, l.drop (frameEnd l), 0) else ([], [], 4) := by
          unfold frameTakeL; rw [ht]; simp [hn, hs]
        have hll : l.length = p.length + r.length := by rw [hlp]; simp
        generalize hE : frameEnd l = E at *
        have hEi : (l.length : Int) - r.length + n + 4 = E := by omega
        have s1 := fun w => run_to (P := Try.prog) w Try.underlying9 l (E : Int) E rfl hle
        have s2 := fun w => run_from (P := Try.prog) w Try.underlying9 l (E : Int) E rfl hle
        have s3 := fun w => run_to (P := Try.prog) w Try.underlying9 r (n : Int) n rfl (by omega)
        generalize hT : l.take E = T at *
        have hT4 : ¬ T.length < 4 := by omega
        have hTl : T.length ≤ 281474976710656 := by omega
        have hs' : ¬ ((r.length : Int) < n + 4) := by omega
        have HDEF := Lib.hid hdef
        clear hw htake hlen hlp hp he hll hE hT hdef ht hs
        by_cases hk : okSeal T
        · have hop : openL T = (T.take (T.length - 4), 0) := by unfold openL; rw [if_neg hT4, if_pos hk]
          have hq : frameTakeL l = (r.take n, l.drop E, 0) := by rw [HDEF.out, if_pos hk]
          have HQ := Lib.hid hq
          have HOP := Lib.hid hop
          clear hq hop hk hT4
          go_enter Try.func38, Try.ntmps38
          go_wp2_with fail
          refine (take_any l hl w).mono ?_
          rintro e w1 ⟨rfl, hb1⟩
          rw [HT.out]
          go_wp2_with fail
          refine (open_any T w1 hTl).mono ?_
          rintro e w2 ⟨rfl, hb2⟩
          rw [HOP.out]
          go_wp2
          go_quiet (fail)
          go_wp2
          go_ret3
          exact ⟨by rw [HQ.out]; rfl, below_drewN (bt hb1 hb2) _⟩
        · have hop : openL T = ([], 4) := by unfold openL; rw [if_neg hT4, if_neg hk]
          have hq : frameTakeL l = ([], [], 4) := by rw [HDEF.out, if_neg hk]
          have HQ := Lib.hid hq
          have HOP := Lib.hid hop
          clear hq hop hk hT4
          go_enter Try.func38, Try.ntmps38
          go_wp2_with fail
          refine (take_any l hl w).mono ?_
          rintro e w1 ⟨rfl, hb1⟩
          rw [HT.out]
          go_wp2_with fail
          refine (open_any T w1 hTl).mono ?_
          rintro e w2 ⟨rfl, hb2⟩
          rw [HOP.out]
          go_wp2
          go_ret3
          exact ⟨by rw [HQ.out]; rfl, bt hb1 hb2⟩
  · have hq : frameTakeL l = ([], [], x) := by unfold frameTakeL; rw [ht]; simp [hx]
    have HQ := Lib.hid hq
    have hne : ((x : Int) != 0) = true := by simp; omega
    clear hq ht hx
    go_enter Try.func38, Try.ntmps38
    go_wp2_with fail
    refine (take_any l hl w).mono ?_
    rintro e w1 ⟨rfl, hb1⟩
    rw [HT.out]
    go_wp2
    go_ret3
    exact ⟨by rw [HQ.out]; rfl, hb1⟩
end Go.Proofs.Ythjoamldmcnodaa
