/- A walk through the document's tape: Do. -/
import Derived.Test.YthjoamldmcnodaaLaw12
import Derived.Test.YthjoamldmcnodaaTape
import Derived.Test.YthjoamldmcnodaaBlk
namespace Go.Proofs.Ythjoamldmcnodaa
open Go.RowKit
attribute [local go_sem] ByteArray.mk_append_mk ByteArray.extract_mk
set_option maxHeartbeats 3200000 in
set_option maxRecDepth 100000 in
theorem refdo0_any (f lo : List UInt8) (n : Int) (ar dn : Bool) (hf : f.length ≤ 140737488351232) (hl : lo.length ≤ 140737488351232) (s : List UInt8) (_hs : s.length ≤ 140737488351232) (w : World) :
    Calls Try.prog 29 #[tapeV ⟨f, lo, n, ar, dn⟩, .int .i64 0, .string ⟨s.toArray⟩, .int .i64 0] w fun e w' => e = .returned (.tuple #[tapeV (appendT ⟨f, lo, n, ar, dn⟩ s).1, .int .i64 (appendT ⟨f, lo, n, ar, dn⟩ s).2]) ∧ Below w.heap.size w w' := by
  obtain ⟨r, hr⟩ : ∃ r, rightTp ⟨f, lo, n, ar, dn⟩ = r := ⟨_, rfl⟩
  cases r
  case false =>
    have hv : appendT ⟨f, lo, n, ar, dn⟩ s = (⟨f, lo, n, ar, dn⟩, 1) := by simp [appendT, readyT, hr]
    have HV := Lib.hid hv
    have HR := Lib.hid hr
    clear hv hr
    go_enter Try.func29, Try.ntmps29
    go_wp2_with fail
    refine (refright12_any f lo n ar dn hf hl _).mono ?_
    rintro e w1 ⟨rfl, hb1⟩
    rw [HR.out]
    have hT : Blk w1 w.heap.size 34 #[.string ⟨f.toArray⟩, .string ⟨lo.toArray⟩, .int .i64 n, .bool ar, .bool dn] := Blk.keep ((Blk.new w _ _).alloc _) hb1
    have hO : Blk w1 (w.heap.size + 1) 34 #[.string ⟨#[]⟩, .string ⟨#[]⟩, .int .i64 0, .bool false, .bool false] := Blk.keep (Blk.new' _ _ _ _ (by simp)) hb1
    have hB1 : Below w.heap.size w w1 := bt (bal (bal (b0 w) _) _) hb1
    obtain ⟨lT, t0, t1, t2, t3, t4, z0, z1, z2, z3, z4⟩ := hT.c5
    obtain ⟨lO, o0, o1, o2, o3, o4, q0, q1, q2, q3, q4⟩ := hO.c5
    go_wp2
    refine bodyPost_ret (v := .tuple #[tapeV ⟨f, lo, n, ar, dn⟩, .int .i64 1]) (by simp [results, Try.results29, go_sem, *]) rfl ⟨by rw [HV.out] <;> rfl, ?_⟩
    (repeat (first | with_reducible exact b0 _ | with_reducible assumption | with_reducible refine Below.drew ?_ | with_reducible refine below_drewN ?_ _ | with_reducible refine bal ?_ _ | ((with_reducible refine bst ?_ ?_ _); rotate_left; focus (first | exact Nat.le_refl _ | assumption | (simp; done) | (simp; omega) | omega))))
  case true =>
    obtain ⟨hp1, hn1, hn2, hp4⟩ := right_parts ⟨f, lo, n, ar, dn⟩ hr
    simp only at hp1 hn1 hn2 hp4
    have hp1' : (f.length : Int) + lo.length ≤ 1048576 := by omega
    cases dn
    case true =>
      clear hp4
      have hv : appendT ⟨f, lo, n, ar, true⟩ s = (⟨f, lo, n, ar, true⟩, 16) := by simp [appendT, readyT, hr]
      have HV := Lib.hid hv
      have HR := Lib.hid hr
      clear hv hr
      go_enter Try.func29, Try.ntmps29
      go_wp2_with fail
      refine (refright12_any f lo n ar true hf hl _).mono ?_
      rintro e w1 ⟨rfl, hb1⟩
      rw [HR.out]
      have hT : Blk w1 w.heap.size 34 #[.string ⟨f.toArray⟩, .string ⟨lo.toArray⟩, .int .i64 n, .bool ar, .bool true] := Blk.keep ((Blk.new w _ _).alloc _) hb1
      have hO : Blk w1 (w.heap.size + 1) 34 #[.string ⟨#[]⟩, .string ⟨#[]⟩, .int .i64 0, .bool false, .bool false] := Blk.keep (Blk.new' _ _ _ _ (by simp)) hb1
      have hB1 : Below w.heap.size w w1 := bt (bal (bal (b0 w) _) _) hb1
      obtain ⟨lT, t0, t1, t2, t3, t4, z0, z1, z2, z3, z4⟩ := hT.c5
      obtain ⟨lO, o0, o1, o2, o3, o4, q0, q1, q2, q3, q4⟩ := hO.c5
      go_wp2
      refine bodyPost_ret (v := .tuple #[tapeV ⟨f, lo, n, ar, true⟩, .int .i64 16]) (by simp [results, Try.results29, go_sem, *]) rfl ⟨by rw [HV.out] <;> rfl, ?_⟩
      (repeat (first | with_reducible exact b0 _ | with_reducible assumption | with_reducible refine Below.drew ?_ | with_reducible refine below_drewN ?_ _ | with_reducible refine bal ?_ _ | ((with_reducible refine bst ?_ ?_ _); rotate_left; focus (first | exact Nat.le_refl _ | assumption | (simp; done) | (simp; omega) | omega))))
    case false =>
      by_cases hg : 1048576 < f.length + lo.length + s.length
      case pos =>
        have hg' : (1048576 : Int) - (f.length + lo.length) < s.length := by omega
        clear hp4
        have hv : appendT ⟨f, lo, n, ar, false⟩ s = (⟨f, lo, n, ar, false⟩, 6) := by simp [appendT, readyT, hr, hg]
        have HV := Lib.hid hv
        have HR := Lib.hid hr
        clear hv hr
        go_enter Try.func29, Try.ntmps29
        go_wp2_with fail
        refine (refright12_any f lo n ar false hf hl _).mono ?_
        rintro e w1 ⟨rfl, hb1⟩
        rw [HR.out]
        have hT : Blk w1 w.heap.size 34 #[.string ⟨f.toArray⟩, .string ⟨lo.toArray⟩, .int .i64 n, .bool ar, .bool false] := Blk.keep ((Blk.new w _ _).alloc _) hb1
        have hO : Blk w1 (w.heap.size + 1) 34 #[.string ⟨#[]⟩, .string ⟨#[]⟩, .int .i64 0, .bool false, .bool false] := Blk.keep (Blk.new' _ _ _ _ (by simp)) hb1
        have hB1 : Below w.heap.size w w1 := bt (bal (bal (b0 w) _) _) hb1
        obtain ⟨lT, t0, t1, t2, t3, t4, z0, z1, z2, z3, z4⟩ := hT.c5
        obtain ⟨lO, o0, o1, o2, o3, o4, q0, q1, q2, q3, q4⟩ := hO.c5
        go_wp2
        refine bodyPost_ret (v := .tuple #[tapeV ⟨f, lo, n, ar, false⟩, .int .i64 6]) (by simp [results, Try.results29, go_sem, *]) rfl ⟨by rw [HV.out] <;> rfl, ?_⟩
        (repeat (first | with_reducible exact b0 _ | with_reducible assumption | with_reducible refine Below.drew ?_ | with_reducible refine below_drewN ?_ _ | with_reducible refine bal ?_ _ | ((with_reducible refine bst ?_ ?_ _); rotate_left; focus (first | exact Nat.le_refl _ | assumption | (simp; done) | (simp; omega) | omega))))
      case neg =>
      have hg' : ¬ ((1048576 : Int) - (f.length + lo.length) < s.length) := by omega
      cases ar
      case false =>
        clear hp4
        have hv : appendT ⟨f, lo, n, false, false⟩ s = (⟨f, lo ++ s, n, false, false⟩, 0) := by simp [appendT, readyT, spendT, hr, hg]
        have HV := Lib.hid hv
        have HR := Lib.hid hr
        clear hv hr
        go_enter Try.func29, Try.ntmps29
        go_wp2_with fail
        refine (refright12_any f lo n false false hf hl _).mono ?_
        rintro e w1 ⟨rfl, hb1⟩
        rw [HR.out]
        have hT : Blk w1 w.heap.size 34 #[.string ⟨f.toArray⟩, .string ⟨lo.toArray⟩, .int .i64 n, .bool false, .bool false] := Blk.keep ((Blk.new w _ _).alloc _) hb1
        have hO : Blk w1 (w.heap.size + 1) 34 #[.string ⟨#[]⟩, .string ⟨#[]⟩, .int .i64 0, .bool false, .bool false] := Blk.keep (Blk.new' _ _ _ _ (by simp)) hb1
        have hB1 : Below w.heap.size w w1 := bt (bal (bal (b0 w) _) _) hb1
        obtain ⟨lT, t0, t1, t2, t3, t4, z0, z1, z2, z3, z4⟩ := hT.c5
        obtain ⟨lO, o0, o1, o2, o3, o4, q0, q1, q2, q3, q4⟩ := hO.c5
        go_wp2
        refine bodyPost_ret (v := .tuple #[tapeV ⟨f, lo ++ s, n, false, false⟩, .int .i64 0]) (by simp [results, Try.results29, go_sem, *]) rfl ⟨by rw [HV.out] <;> rfl, ?_⟩
        (repeat (first | with_reducible exact b0 _ | with_reducible assumption | with_reducible refine Below.drew ?_ | with_reducible refine below_drewN ?_ _ | with_reducible refine bal ?_ _ | ((with_reducible refine bst ?_ ?_ _); rotate_left; focus (first | exact Nat.le_refl _ | assumption | (simp; done) | (simp; omega) | omega))))
      case true =>
        by_cases hn0 : n = 0
        case pos =>
          subst hn0
          clear hp4
          have hv : appendT ⟨f, lo, 0, true, false⟩ s = (⟨f, lo, 0, true, true⟩, 16) := by simp [appendT, readyT, spendT, hr, hg]
          have HV := Lib.hid hv
          have HR := Lib.hid hr
          clear hv hr
          go_enter Try.func29, Try.ntmps29
          go_wp2_with fail
          refine (refright12_any f lo 0 true false hf hl _).mono ?_
          rintro e w1 ⟨rfl, hb1⟩
          rw [HR.out]
          have hT : Blk w1 w.heap.size 34 #[.string ⟨f.toArray⟩, .string ⟨lo.toArray⟩, .int .i64 0, .bool true, .bool false] := Blk.keep ((Blk.new w _ _).alloc _) hb1
          have hO : Blk w1 (w.heap.size + 1) 34 #[.string ⟨#[]⟩, .string ⟨#[]⟩, .int .i64 0, .bool false, .bool false] := Blk.keep (Blk.new' _ _ _ _ (by simp)) hb1
          have hB1 : Below w.heap.size w w1 := bt (bal (bal (b0 w) _) _) hb1
          obtain ⟨lT, t0, t1, t2, t3, t4, z0, z1, z2, z3, z4⟩ := hT.c5
          obtain ⟨lO, o0, o1, o2, o3, o4, q0, q1, q2, q3, q4⟩ := hO.c5
          go_wp2
          refine bodyPost_ret (v := .tuple #[tapeV ⟨f, lo, 0, true, true⟩, .int .i64 16]) (by simp [results, Try.results29, go_sem, *]) rfl ⟨by rw [HV.out] <;> rfl, ?_⟩
          (repeat (first | with_reducible exact b0 _ | with_reducible assumption | with_reducible refine Below.drew ?_ | with_reducible refine below_drewN ?_ _ | with_reducible refine bal ?_ _ | ((with_reducible refine bst ?_ ?_ _); rotate_left; focus (first | exact Nat.le_refl _ | assumption | (simp; done) | (simp; omega) | omega))))
        case neg =>
          have hn3 : ¬ n < 1 := by omega
          clear hp4
          have hv : appendT ⟨f, lo, n, true, false⟩ s = (⟨f, lo ++ s, n - 1, true, false⟩, 0) := by simp [appendT, readyT, spendT, hr, hg, hn0]
          have HV := Lib.hid hv
          have HR := Lib.hid hr
          clear hv hr
          go_enter Try.func29, Try.ntmps29
          go_wp2_with fail
          refine (refright12_any f lo n true false hf hl _).mono ?_
          rintro e w1 ⟨rfl, hb1⟩
          rw [HR.out]
          have hT : Blk w1 w.heap.size 34 #[.string ⟨f.toArray⟩, .string ⟨lo.toArray⟩, .int .i64 n, .bool true, .bool false] := Blk.keep ((Blk.new w _ _).alloc _) hb1
          have hO : Blk w1 (w.heap.size + 1) 34 #[.string ⟨#[]⟩, .string ⟨#[]⟩, .int .i64 0, .bool false, .bool false] := Blk.keep (Blk.new' _ _ _ _ (by simp)) hb1
          have hB1 : Below w.heap.size w w1 := bt (bal (bal (b0 w) _) _) hb1
          obtain ⟨lT, t0, t1, t2, t3, t4, z0, z1, z2, z3, z4⟩ := hT.c5
          obtain ⟨lO, o0, o1, o2, o3, o4, q0, q1, q2, q3, q4⟩ := hO.c5
          go_wp2
          refine bodyPost_ret (v := .tuple #[tapeV ⟨f, lo ++ s, n - 1, true, false⟩, .int .i64 0]) (by simp [results, Try.results29, go_sem, *]) rfl ⟨by rw [HV.out] <;> rfl, ?_⟩
          (repeat (first | with_reducible exact b0 _ | with_reducible assumption | with_reducible refine Below.drew ?_ | with_reducible refine below_drewN ?_ _ | with_reducible refine bal ?_ _ | ((with_reducible refine bst ?_ ?_ _); rotate_left; focus (first | exact Nat.le_refl _ | assumption | (simp; done) | (simp; omega) | omega))))
end Go.Proofs.Ythjoamldmcnodaa
