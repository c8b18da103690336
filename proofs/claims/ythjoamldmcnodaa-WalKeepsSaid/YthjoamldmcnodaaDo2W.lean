/- A walk through the document's tape: Do. -/
import Derived.Test.YthjoamldmcnodaaLaw12
import Derived.Test.YthjoamldmcnodaaTape
import Derived.Test.YthjoamldmcnodaaBlk
namespace Go.Proofs.Ythjoamldmcnodaa
open Go.RowKit
attribute [local go_sem] ByteArray.mk_append_mk ByteArray.extract_mk
set_option maxHeartbeats 3200000 in
set_option maxRecDepth 100000 in
theorem refdo2_any (f lo : List UInt8) (n : Int) (ar dn : Bool) (hf : f.length ≤ 140737488351232) (hl : lo.length ≤ 140737488351232) (k : Int) (_hk : -9223372036854775808 ≤ k ∧ k ≤ 9223372036854775807) (w : World) :
    Calls Try.prog 29 #[tapeV ⟨f, lo, n, ar, dn⟩, .int .i64 2, .string ⟨#[]⟩, .int .i64 k] w fun e w' => e = .returned (.tuple #[tapeV (cutT ⟨f, lo, n, ar, dn⟩ k).1, .int .i64 (cutT ⟨f, lo, n, ar, dn⟩ k).2]) ∧ Below w.heap.size w w' := by
  obtain ⟨r, hr⟩ : ∃ r, rightTp ⟨f, lo, n, ar, dn⟩ = r := ⟨_, rfl⟩
  cases r
  case false =>
    have hv : cutT ⟨f, lo, n, ar, dn⟩ k = (⟨f, lo, n, ar, dn⟩, 1) := by simp [cutT, readyT, hr]
    have HV := Lib.hid hv
    have HR := Lib.hid hr
    clear hv hr
    go_enter Try.func29, Try.ntmps29
    go_wp2_with fail
    refine (refright12_any f lo n ar dn hf hl _).mono ?_
    rintro e w1 ⟨rfl, hb1⟩
    rw [HR.out]
    have hT : Blk w1 w.heap.size 34 #[.string ⟨f.toArray⟩, .string ⟨lo.toArray⟩, .int .i64 n, .bool ar, .bool dn] := Blk.keep ((Blk.new w _ _).alloc _) hb1
    have hO : Blk w1 (w.heap.size + 1) 34 #[.string ⟨#[]⟩, .string ⟨#[]⟩, .int .i64 0, .bool false, .bool false] := Blk.keep (Blk.new' _ _ _ _ (by simp)) hb1
    have hB1 : Below w.heap.size w w1 := bt (bal (bal (b0 w) _) _) hb1
    obtain ⟨lT, t0, t1, t2, t3, t4, z0, z1, z2, z3, z4⟩ := hT.c5
    obtain ⟨lO, o0, o1, o2, o3, o4, q0, q1, q2, q3, q4⟩ := hO.c5
    go_wp2
    refine bodyPost_ret (v := .tuple #[tapeV ⟨f, lo, n, ar, dn⟩, .int .i64 1]) (by simp [results, Try.results29, go_sem, *]) rfl ⟨by rw [HV.out] <;> rfl, ?_⟩
    (repeat (first | with_reducible exact b0 _ | with_reducible assumption | with_reducible refine Below.drew ?_ | with_reducible refine below_drewN ?_ _ | with_reducible refine bal ?_ _ | ((with_reducible refine bst ?_ ?_ _); rotate_left; focus (first | exact Nat.le_refl _ | assumption | (simp; done) | (simp; omega) | omega))))
  case true =>
    obtain ⟨hp1, hn1, hn2, hp4⟩ := right_parts ⟨f, lo, n, ar, dn⟩ hr
    simp only at hp1 hn1 hn2 hp4
    have hp1' : (f.length : Int) + lo.length ≤ 1048576 := by omega
    cases dn
    case true =>
      clear hp4
      have hv : cutT ⟨f, lo, n, ar, true⟩ k = (⟨f, lo, n, ar, true⟩, 16) := by simp [cutT, readyT, hr]
      have HV := Lib.hid hv
      have HR := Lib.hid hr
      clear hv hr
      go_enter Try.func29, Try.ntmps29
      go_wp2_with fail
      refine (refright12_any f lo n ar true hf hl _).mono ?_
      rintro e w1 ⟨rfl, hb1⟩
      rw [HR.out]
      have hT : Blk w1 w.heap.size 34 #[.string ⟨f.toArray⟩, .string ⟨lo.toArray⟩, .int .i64 n, .bool ar, .bool true] := Blk.keep ((Blk.new w _ _).alloc _) hb1
      have hO : Blk w1 (w.heap.size + 1) 34 #[.string ⟨#[]⟩, .string ⟨#[]⟩, .int .i64 0, .bool false, .bool false] := Blk.keep (Blk.new' _ _ _ _ (by simp)) hb1
      have hB1 : Below w.heap.size w w1 := bt (bal (bal (b0 w) _) _) hb1
      obtain ⟨lT, t0, t1, t2, t3, t4, z0, z1, z2, z3, z4⟩ := hT.c5
      obtain ⟨lO, o0, o1, o2, o3, o4, q0, q1, q2, q3, q4⟩ := hO.c5
      go_wp2
      refine bodyPost_ret (v := .tuple #[tapeV ⟨f, lo, n, ar, true⟩, .int .i64 16]) (by simp [results, Try.results29, go_sem, *]) rfl ⟨by rw [HV.out] <;> rfl, ?_⟩
      (repeat (first | with_reducible exact b0 _ | with_reducible assumption | with_reducible refine Below.drew ?_ | with_reducible refine below_drewN ?_ _ | with_reducible refine bal ?_ _ | ((with_reducible refine bst ?_ ?_ _); rotate_left; focus (first | exact Nat.le_refl _ | assumption | (simp; done) | (simp; omega) | omega))))
    case false =>
      by_cases hg1 : k < 0
      case pos =>
        clear hp4
        have hv : cutT ⟨f, lo, n, ar, false⟩ k = (⟨f, lo, n, ar, false⟩, 1) := by simp [cutT, readyT, hr, hg1]
        have HV := Lib.hid hv
        have HR := Lib.hid hr
        clear hv hr
        go_enter Try.func29, Try.ntmps29
        go_wp2_with fail
        refine (refright12_any f lo n ar false hf hl _).mono ?_
        rintro e w1 ⟨rfl, hb1⟩
        rw [HR.out]
        have hT : Blk w1 w.heap.size 34 #[.string ⟨f.toArray⟩, .string ⟨lo.toArray⟩, .int .i64 n, .bool ar, .bool false] := Blk.keep ((Blk.new w _ _).alloc _) hb1
        have hO : Blk w1 (w.heap.size + 1) 34 #[.string ⟨#[]⟩, .string ⟨#[]⟩, .int .i64 0, .bool false, .bool false] := Blk.keep (Blk.new' _ _ _ _ (by simp)) hb1
        have hB1 : Below w.heap.size w w1 := bt (bal (bal (b0 w) _) _) hb1
        obtain ⟨lT, t0, t1, t2, t3, t4, z0, z1, z2, z3, z4⟩ := hT.c5
        obtain ⟨lO, o0, o1, o2, o3, o4, q0, q1, q2, q3, q4⟩ := hO.c5
        go_wp2
        refine bodyPost_ret (v := .tuple #[tapeV ⟨f, lo, n, ar, false⟩, .int .i64 1]) (by simp [results, Try.results29, go_sem, *]) rfl ⟨by rw [HV.out] <;> rfl, ?_⟩
        (repeat (first | with_reducible exact b0 _ | with_reducible assumption | with_reducible refine Below.drew ?_ | with_reducible refine below_drewN ?_ _ | with_reducible refine bal ?_ _ | ((with_reducible refine bst ?_ ?_ _); rotate_left; focus (first | exact Nat.le_refl _ | assumption | (simp; done) | (simp; omega) | omega))))
      case neg =>
      by_cases hg2 : (f.length : Int) + lo.length < k
      case pos =>
        clear hp4
        have hv : cutT ⟨f, lo, n, ar, false⟩ k = (⟨f, lo, n, ar, false⟩, 1) := by simp [cutT, readyT, hr, hg1, hg2]
        have HV := Lib.hid hv
        have HR := Lib.hid hr
        clear hv hr
        go_enter Try.func29, Try.ntmps29
        go_wp2_with fail
        refine (refright12_any f lo n ar false hf hl _).mono ?_
        rintro e w1 ⟨rfl, hb1⟩
        rw [HR.out]
        have hT : Blk w1 w.heap.size 34 #[.string ⟨f.toArray⟩, .string ⟨lo.toArray⟩, .int .i64 n, .bool ar, .bool false] := Blk.keep ((Blk.new w _ _).alloc _) hb1
        have hO : Blk w1 (w.heap.size + 1) 34 #[.string ⟨#[]⟩, .string ⟨#[]⟩, .int .i64 0, .bool false, .bool false] := Blk.keep (Blk.new' _ _ _ _ (by simp)) hb1
        have hB1 : Below w.heap.size w w1 := bt (bal (bal (b0 w) _) _) hb1
        obtain ⟨lT, t0, t1, t2, t3, t4, z0, z1, z2, z3, z4⟩ := hT.c5
        obtain ⟨lO, o0, o1, o2, o3, o4, q0, q1, q2, q3, q4⟩ := hO.c5
        go_wp2
        refine bodyPost_ret (v := .tuple #[tapeV ⟨f, lo, n, ar, false⟩, .int .i64 1]) (by simp [results, Try.results29, go_sem, *]) rfl ⟨by rw [HV.out] <;> rfl, ?_⟩
        (repeat (first | with_reducible exact b0 _ | with_reducible assumption | with_reducible refine Below.drew ?_ | with_reducible refine below_drewN ?_ _ | with_reducible refine bal ?_ _ | ((with_reducible refine bst ?_ ?_ _); rotate_left; focus (first | exact Nat.le_refl _ | assumption | (simp; done) | (simp; omega) | omega))))
      case neg =>
      obtain ⟨j, rfl⟩ := Int.eq_ofNat_of_zero_le (show 0 ≤ k by omega)
      have hs1 := fun w => run_to (P := Try.prog) w Try.underlying9 (f ++ lo) j j rfl (by simp; omega)
      cases ar
      case false =>
        clear hp4
        have hv : cutT ⟨f, lo, n, false, false⟩ (j : Int) = (⟨(f ++ lo).take j, [], n, false, false⟩, 0) := by simp [cutT, readyT, spendT, hr, hg1, hg2]
        have HV := Lib.hid hv
        have HR := Lib.hid hr
        clear hv hr
        go_enter Try.func29, Try.ntmps29
        go_wp2_with fail
        refine (refright12_any f lo n false false hf hl _).mono ?_
        rintro e w1 ⟨rfl, hb1⟩
        rw [HR.out]
        have hT : Blk w1 w.heap.size 34 #[.string ⟨f.toArray⟩, .string ⟨lo.toArray⟩, .int .i64 n, .bool false, .bool false] := Blk.keep ((Blk.new w _ _).alloc _) hb1
        have hO : Blk w1 (w.heap.size + 1) 34 #[.string ⟨#[]⟩, .string ⟨#[]⟩, .int .i64 0, .bool false, .bool false] := Blk.keep (Blk.new' _ _ _ _ (by simp)) hb1
        have hB1 : Below w.heap.size w w1 := bt (bal (bal (b0 w) _) _) hb1
        obtain ⟨lT, t0, t1, t2, t3, t4, z0, z1, z2, z3, z4⟩ := hT.c5
        obtain ⟨lO, o0, o1, o2, o3, o4, q0, q1, q2, q3, q4⟩ := hO.c5
        go_wp2
        refine bodyPost_ret (v := .tuple #[tapeV ⟨(f ++ lo).take j, [], n, false, false⟩, .int .i64 0]) (by simp [results, Try.results29, go_sem, *]) rfl ⟨by rw [HV.out] <;> rfl, ?_⟩
        (repeat (first | with_reducible exact b0 _ | with_reducible assumption | with_reducible refine Below.drew ?_ | with_reducible refine below_drewN ?_ _ | with_reducible refine bal ?_ _ | ((with_reducible refine bst ?_ ?_ _); rotate_left; focus (first | exact Nat.le_refl _ | assumption | (simp; done) | (simp; omega) | omega))))
      case true =>
        by_cases hn0 : n = 0
        case pos =>
          subst hn0
          clear hp4
          have hv : cutT ⟨f, lo, 0, true, false⟩ (j : Int) = (⟨f, lo, 0, true, true⟩, 16) := by simp [cutT, readyT, spendT, hr, hg1, hg2]
          have HV := Lib.hid hv
          have HR := Lib.hid hr
          clear hv hr
          go_enter Try.func29, Try.ntmps29
          go_wp2_with fail
          refine (refright12_any f lo 0 true false hf hl _).mono ?_
          rintro e w1 ⟨rfl, hb1⟩
          rw [HR.out]
          have hT : Blk w1 w.heap.size 34 #[.string ⟨f.toArray⟩, .string ⟨lo.toArray⟩, .int .i64 0, .bool true, .bool false] := Blk.keep ((Blk.new w _ _).alloc _) hb1
          have hO : Blk w1 (w.heap.size + 1) 34 #[.string ⟨#[]⟩, .string ⟨#[]⟩, .int .i64 0, .bool false, .bool false] := Blk.keep (Blk.new' _ _ _ _ (by simp)) hb1
          have hB1 : Below w.heap.size w w1 := bt (bal (bal (b0 w) _) _) hb1
          obtain ⟨lT, t0, t1, t2, t3, t4, z0, z1, z2, z3, z4⟩ := hT.c5
          obtain ⟨lO, o0, o1, o2, o3, o4, q0, q1, q2, q3, q4⟩ := hO.c5
          go_wp2
          refine bodyPost_ret (v := .tuple #[tapeV ⟨f, lo, 0, true, true⟩, .int .i64 16]) (by simp [results, Try.results29, go_sem, *]) rfl ⟨by rw [HV.out] <;> rfl, ?_⟩
          (repeat (first | with_reducible exact b0 _ | with_reducible assumption | with_reducible refine Below.drew ?_ | with_reducible refine below_drewN ?_ _ | with_reducible refine bal ?_ _ | ((with_reducible refine bst ?_ ?_ _); rotate_left; focus (first | exact Nat.le_refl _ | assumption | (simp; done) | (simp; omega) | omega))))
        case neg =>
          have hn3 : ¬ n < 1 := by omega
          clear hp4
          have hv : cutT ⟨f, lo, n, true, false⟩ (j : Int) = (⟨(f ++ lo).take j, [], n - 1, true, false⟩, 0) := by simp [cutT, readyT, spendT, hr, hg1, hg2, hn0]
          have HV := Lib.hid hv
          have HR := Lib.hid hr
          clear hv hr
          go_enter Try.func29, Try.ntmps29
          go_wp2_with fail
          refine (refright12_any f lo n true false hf hl _).mono ?_
          rintro e w1 ⟨rfl, hb1⟩
          rw [HR.out]
          have hT : Blk w1 w.heap.size 34 #[.string ⟨f.toArray⟩, .string ⟨lo.toArray⟩, .int .i64 n, .bool true, .bool false] := Blk.keep ((Blk.new w _ _).alloc _) hb1
          have hO : Blk w1 (w.heap.size + 1) 34 #[.string ⟨#[]⟩, .string ⟨#[]⟩, .int .i64 0, .bool false, .bool false] := Blk.keep (Blk.new' _ _ _ _ (by simp)) hb1
          have hB1 : Below w.heap.size w w1 := bt (bal (bal (b0 w) _) _) hb1
          obtain ⟨lT, t0, t1, t2, t3, t4, z0, z1, z2, z3, z4⟩ := hT.c5
          obtain ⟨lO, o0, o1, o2, o3, o4, q0, q1, q2, q3, q4⟩ := hO.c5
          go_upto_region 20 with (fail)
          obtain ⟨W3, hW3⟩ : ∃ W3 : World, W3 = ((w1.setCell ⟨w.heap.size, 2, none⟩ (.int .i64 (n - 1))).setCell ⟨w.heap.size, 0, none⟩ (.string ⟨(f ++ lo).toArray⟩)).setCell ⟨w.heap.size, 1, none⟩ (.string ⟨#[]⟩) := ⟨_, rfl⟩
          have hT2 : Blk W3 w.heap.size 34 #[.string ⟨(f ++ lo).toArray⟩, .string ⟨[].toArray⟩, .int .i64 (n - 1), .bool true, .bool false] := by subst hW3; exact ((hT.set 2 _).set 0 _).set 1 _
          have hO2 : Blk W3 (w.heap.size + 1) 34 #[.string ⟨#[]⟩, .string ⟨#[]⟩, .int .i64 0, .bool false, .bool false] := by subst hW3; exact ((hO.far (by simp) _).far (by simp) _).far (by simp) _
          have hB2 : Below w.heap.size w W3 := by subst hW3; exact bst (bst (bst hB1 (Nat.le_refl _) _) (Nat.le_refl _) _) (Nat.le_refl _) _
          rw [← hW3]
          clear hW3 t0 t1 t2 t3 t4 z0 z1 z2 z3 z4 o0 o1 o2 o3 o4 q0 q1 q2 q3 q4 lT lO hT hO hB1
          obtain ⟨lT, t0, t1, t2, t3, t4, z0, z1, z2, z3, z4⟩ := hT2.c5
          obtain ⟨lO, o0, o1, o2, o3, o4, q0, q1, q2, q3, q4⟩ := hO2.c5
          go_wp2
          refine bodyPost_ret (v := .tuple #[tapeV ⟨(f ++ lo).take j, [], n - 1, true, false⟩, .int .i64 0]) (by simp [results, Try.results29, go_sem, *]) rfl ⟨by rw [HV.out] <;> rfl, ?_⟩
          (repeat (first | with_reducible exact b0 _ | with_reducible assumption | with_reducible refine Below.drew ?_ | with_reducible refine below_drewN ?_ _ | with_reducible refine bal ?_ _ | ((with_reducible refine bst ?_ ?_ _); rotate_left; focus (first | exact Nat.le_refl _ | assumption | (simp; done) | (simp; omega) | omega))))
end Go.Proofs.Ythjoamldmcnodaa
