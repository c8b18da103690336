/- The walks through stamp.Take and the document's: the stamp at the beginning of any bytes. -/
import Derived.Test.YtkhamjghanjikaaDoorTakeW
import Derived.Test.YtkhamjghanjikaaDoorRef1W
import Derived.Test.YtkhamjghanjikaaDoorRef5W
import Derived.Test.YtkhamjghanjikaaDoorBlk
namespace Go.Proofs.YtkhamjghanjikaaDoor
open Go.RowKit
/-- stamp, rest, error -/
def takeStampL (l : List UInt8) : (Int × Int × Int) × List UInt8 × Nat :=
  if (takeL l).2.2 ≠ 0 then ((0, 0, 0), [], (takeL l).2.2)
  else if (takeL (takeL l).2.1).2.2 ≠ 0 then ((0, 0, 0), [], (takeL (takeL l).2.1).2.2)
  else if (takeL (takeL (takeL l).2.1).2.1).2.2 ≠ 0 then ((0, 0, 0), [], (takeL (takeL (takeL l).2.1).2.1).2.2)
  else if rightB (takeL l).1 (takeL (takeL l).2.1).1 (takeL (takeL (takeL l).2.1).2.1).1 = false then ((0, 0, 0), [], 3)
  else (((takeL l).1, (takeL (takeL l).2.1).1, (takeL (takeL (takeL l).2.1).2.1).1), (takeL (takeL (takeL l).2.1).2.1).2.1, 0)
theorem take_shorter (l r : List UInt8) (n e : Nat) (h : takeL l = (n, r, e)) : r.length ≤ l.length ∧ n < 2 ^ 63 := by
  by_cases he : e = 0
  · subst he
    obtain ⟨h1, h2, _, _⟩ := take_ok l n r h
    have := congrArg List.length h2
    simp at this
    exact ⟨by omega, h1⟩
  · have := take_err l (by rw [h]; exact he)
    rw [h] at this
    obtain ⟨h1, h2, _⟩ := this
    simp only at h1 h2
    subst h1 h2
    simp
set_option maxHeartbeats 3200000 in
set_option maxRecDepth 100000 in
theorem sttake_any (l : List UInt8) (hl : l.length ≤ 281474976710656) (w : World) :
    Calls Tryd.prog 22 #[.string ⟨l.toArray⟩] w fun e w' => e = .returned (.tuple #[stampT (takeStampL l).1, .string ⟨(takeStampL l).2.1.toArray⟩, .int .i64 (takeStampL l).2.2]) ∧ Below w.heap.size w w' := by
  obtain ⟨⟨a, r1, e1⟩, h1⟩ : ∃ x, takeL l = x := ⟨_, rfl⟩
  obtain ⟨⟨b, r2, e2⟩, h2⟩ : ∃ x, takeL r1 = x := ⟨_, rfl⟩
  obtain ⟨⟨c, r3, e3⟩, h3⟩ : ∃ x, takeL r2 = x := ⟨_, rfl⟩
  obtain ⟨s1, a63⟩ := take_shorter _ _ _ _ h1
  obtain ⟨s2, b63⟩ := take_shorter _ _ _ _ h2
  obtain ⟨s3, c63⟩ := take_shorter _ _ _ _ h3
  obtain ⟨q, hq⟩ : ∃ q, rightB a b c = q := ⟨_, rfl⟩
  have H1 := Lib.hid h1
  have H2 := Lib.hid h2
  have H3 := Lib.hid h3
  have HQ := Lib.hid hq
  clear h1 h2 h3 hq
  by_cases z1 : e1 = 0
  case neg =>
    have hv : takeStampL l = ((0, 0, 0), [], e1) := by simp [takeStampL, H1.out, H2.out, H3.out, HQ.out, z1]
    have HV := Lib.hid hv
    clear hv
    have b1 : ((e1 : Int) == 0) = false := by simp; omega
    have b1' : ((e1 : Int) != 0) = true := by simp; omega
    go_enter Tryd.func22, Tryd.ntmps22
    go_wp2_with fail
    refine wp_loop_rounds 4 ?_
    rw [rounds_succ]
    go_wp2_with fail
    refine (take_any l (by omega) _).mono ?_
    rintro e w1 ⟨rfl, hb1⟩
    rw [H1.out]
    have hR1 : Blk w1 w.heap.size 23 #[.int .i64 0, .int .i64 0, .int .i64 0] := Blk.keep ((Blk.new w _ _).alloc _) hb1
    have hN1 : Blk w1 (w.heap.size + 1) 47 #[.int .i64 0, .int .i64 0, .int .i64 0] := Blk.keep (Blk.new' _ _ _ _ (by simp)) hb1
    have hB1 : Below w.heap.size w w1 := bt (bal (bal (b0 w) _) _) hb1
    obtain ⟨lR, x0, x1, x2, y0, y1, y2⟩ := hR1.c3
    obtain ⟨lN, u0, u1, u2, v0, v1, v2⟩ := hN1.c3
    go_wp2
    refine bodyPost_ret (v := .tuple #[stampV 0 0 0, .string ⟨#[]⟩, .int .i64 e1]) (by simp [results, Tryd.results22, go_sem, *]) rfl ⟨by rw [HV.out] <;> rfl, ?_⟩
    (repeat (first | with_reducible exact b0 _ | with_reducible assumption | with_reducible refine Below.drew ?_ | with_reducible refine below_drewN ?_ _ | with_reducible refine bal ?_ _ | ((with_reducible refine bst ?_ ?_ _); rotate_left; focus (first | exact Nat.le_refl _ | assumption | (simp; done) | (simp; omega) | omega))))
  case pos =>
  subst z1
  by_cases z2 : e2 = 0
  case neg =>
    have hv : takeStampL l = ((0, 0, 0), [], e2) := by simp [takeStampL, H1.out, H2.out, H3.out, HQ.out, z2]
    have HV := Lib.hid hv
    clear hv
    have b2 : ((e2 : Int) == 0) = false := by simp; omega
    have b2' : ((e2 : Int) != 0) = true := by simp; omega
    go_enter Tryd.func22, Tryd.ntmps22
    go_wp2_with fail
    refine wp_loop_rounds 4 ?_
    rw [rounds_succ]
    go_wp2_with fail
    refine (take_any l (by omega) _).mono ?_
    rintro e w1 ⟨rfl, hb1⟩
    rw [H1.out]
    have hR1 : Blk w1 w.heap.size 23 #[.int .i64 0, .int .i64 0, .int .i64 0] := Blk.keep ((Blk.new w _ _).alloc _) hb1
    have hN1 : Blk w1 (w.heap.size + 1) 47 #[.int .i64 0, .int .i64 0, .int .i64 0] := Blk.keep (Blk.new' _ _ _ _ (by simp)) hb1
    have hB1 : Below w.heap.size w w1 := bt (bal (bal (b0 w) _) _) hb1
    obtain ⟨lR, x0, x1, x2, y0, y1, y2⟩ := hR1.c3
    obtain ⟨lN, u0, u1, u2, v0, v1, v2⟩ := hN1.c3
    go_wp2_with fail
    rw [rounds_succ]
    go_wp2_with fail
    refine (take_any r1 (by omega) _).mono ?_
    rintro e w2 ⟨rfl, hb2⟩
    rw [H2.out]
    have hR2 : Blk w2 w.heap.size 23 #[.int .i64 0, .int .i64 0, .int .i64 0] := Blk.keep (Blk.far hR1 (by simp) _) hb2
    have hN2 : Blk w2 (w.heap.size + 1) 47 #[.int .i64 a, .int .i64 0, .int .i64 0] := Blk.keep (by have h := hN1.set 0 (.int .i64 a); simpa using h) hb2
    have hB2 : Below w.heap.size w w2 := bt (bst hB1 (by simp) _) hb2
    clear lR x0 x1 x2 y0 y1 y2 lN u0 u1 u2 v0 v1 v2
    obtain ⟨lR, x0, x1, x2, y0, y1, y2⟩ := hR2.c3
    obtain ⟨lN, u0, u1, u2, v0, v1, v2⟩ := hN2.c3
    go_wp2
    refine bodyPost_ret (v := .tuple #[stampV 0 0 0, .string ⟨#[]⟩, .int .i64 e2]) (by simp [results, Tryd.results22, go_sem, *]) rfl ⟨by rw [HV.out] <;> rfl, ?_⟩
    (repeat (first | with_reducible exact b0 _ | with_reducible assumption | with_reducible refine Below.drew ?_ | with_reducible refine below_drewN ?_ _ | with_reducible refine bal ?_ _ | ((with_reducible refine bst ?_ ?_ _); rotate_left; focus (first | exact Nat.le_refl _ | assumption | (simp; done) | (simp; omega) | omega))))
  case pos =>
  subst z2
  by_cases z3 : e3 = 0
  case neg =>
    have hv : takeStampL l = ((0, 0, 0), [], e3) := by simp [takeStampL, H1.out, H2.out, H3.out, HQ.out, z3]
    have HV := Lib.hid hv
    clear hv
    have b3 : ((e3 : Int) == 0) = false := by simp; omega
    have b3' : ((e3 : Int) != 0) = true := by simp; omega
    go_enter Tryd.func22, Tryd.ntmps22
    go_wp2_with fail
    refine wp_loop_rounds 4 ?_
    rw [rounds_succ]
    go_wp2_with fail
    refine (take_any l (by omega) _).mono ?_
    rintro e w1 ⟨rfl, hb1⟩
    rw [H1.out]
    have hR1 : Blk w1 w.heap.size 23 #[.int .i64 0, .int .i64 0, .int .i64 0] := Blk.keep ((Blk.new w _ _).alloc _) hb1
    have hN1 : Blk w1 (w.heap.size + 1) 47 #[.int .i64 0, .int .i64 0, .int .i64 0] := Blk.keep (Blk.new' _ _ _ _ (by simp)) hb1
    have hB1 : Below w.heap.size w w1 := bt (bal (bal (b0 w) _) _) hb1
    obtain ⟨lR, x0, x1, x2, y0, y1, y2⟩ := hR1.c3
    obtain ⟨lN, u0, u1, u2, v0, v1, v2⟩ := hN1.c3
    go_wp2_with fail
    rw [rounds_succ]
    go_wp2_with fail
    refine (take_any r1 (by omega) _).mono ?_
    rintro e w2 ⟨rfl, hb2⟩
    rw [H2.out]
    have hR2 : Blk w2 w.heap.size 23 #[.int .i64 0, .int .i64 0, .int .i64 0] := Blk.keep (Blk.far hR1 (by simp) _) hb2
    have hN2 : Blk w2 (w.heap.size + 1) 47 #[.int .i64 a, .int .i64 0, .int .i64 0] := Blk.keep (by have h := hN1.set 0 (.int .i64 a); simpa using h) hb2
    have hB2 : Below w.heap.size w w2 := bt (bst hB1 (by simp) _) hb2
    clear lR x0 x1 x2 y0 y1 y2 lN u0 u1 u2 v0 v1 v2
    obtain ⟨lR, x0, x1, x2, y0, y1, y2⟩ := hR2.c3
    obtain ⟨lN, u0, u1, u2, v0, v1, v2⟩ := hN2.c3
    go_wp2_with fail
    rw [rounds_succ]
    go_wp2_with fail
    refine (take_any r2 (by omega) _).mono ?_
    rintro e w3 ⟨rfl, hb3⟩
    rw [H3.out]
    have hR3 : Blk w3 w.heap.size 23 #[.int .i64 0, .int .i64 0, .int .i64 0] := Blk.keep (Blk.far hR2 (by simp) _) hb3
    have hN3 : Blk w3 (w.heap.size + 1) 47 #[.int .i64 a, .int .i64 b, .int .i64 0] := Blk.keep (by have h := hN2.set 1 (.int .i64 b); simpa using h) hb3
    have hB3 : Below w.heap.size w w3 := bt (bst hB2 (by simp) _) hb3
    clear lR x0 x1 x2 y0 y1 y2 lN u0 u1 u2 v0 v1 v2
    obtain ⟨lR, x0, x1, x2, y0, y1, y2⟩ := hR3.c3
    obtain ⟨lN, u0, u1, u2, v0, v1, v2⟩ := hN3.c3
    go_wp2
    refine bodyPost_ret (v := .tuple #[stampV 0 0 0, .string ⟨#[]⟩, .int .i64 e3]) (by simp [results, Tryd.results22, go_sem, *]) rfl ⟨by rw [HV.out] <;> rfl, ?_⟩
    (repeat (first | with_reducible exact b0 _ | with_reducible assumption | with_reducible refine Below.drew ?_ | with_reducible refine below_drewN ?_ _ | with_reducible refine bal ?_ _ | ((with_reducible refine bst ?_ ?_ _); rotate_left; focus (first | exact Nat.le_refl _ | assumption | (simp; done) | (simp; omega) | omega))))
  case pos =>
  subst z3
  cases q
  case false =>
    have hv : takeStampL l = ((0, 0, 0), [], 3) := by simp [takeStampL, H1.out, H2.out, H3.out, HQ.out]
    have HV := Lib.hid hv
    clear hv
    go_enter Tryd.func22, Tryd.ntmps22
    go_wp2_with fail
    refine wp_loop_rounds 4 ?_
    rw [rounds_succ]
    go_wp2_with fail
    refine (take_any l (by omega) _).mono ?_
    rintro e w1 ⟨rfl, hb1⟩
    rw [H1.out]
    have hR1 : Blk w1 w.heap.size 23 #[.int .i64 0, .int .i64 0, .int .i64 0] := Blk.keep ((Blk.new w _ _).alloc _) hb1
    have hN1 : Blk w1 (w.heap.size + 1) 47 #[.int .i64 0, .int .i64 0, .int .i64 0] := Blk.keep (Blk.new' _ _ _ _ (by simp)) hb1
    have hB1 : Below w.heap.size w w1 := bt (bal (bal (b0 w) _) _) hb1
    obtain ⟨lR, x0, x1, x2, y0, y1, y2⟩ := hR1.c3
    obtain ⟨lN, u0, u1, u2, v0, v1, v2⟩ := hN1.c3
    go_wp2_with fail
    rw [rounds_succ]
    go_wp2_with fail
    refine (take_any r1 (by omega) _).mono ?_
    rintro e w2 ⟨rfl, hb2⟩
    rw [H2.out]
    have hR2 : Blk w2 w.heap.size 23 #[.int .i64 0, .int .i64 0, .int .i64 0] := Blk.keep (Blk.far hR1 (by simp) _) hb2
    have hN2 : Blk w2 (w.heap.size + 1) 47 #[.int .i64 a, .int .i64 0, .int .i64 0] := Blk.keep (by have h := hN1.set 0 (.int .i64 a); simpa using h) hb2
    have hB2 : Below w.heap.size w w2 := bt (bst hB1 (by simp) _) hb2
    clear lR x0 x1 x2 y0 y1 y2 lN u0 u1 u2 v0 v1 v2
    obtain ⟨lR, x0, x1, x2, y0, y1, y2⟩ := hR2.c3
    obtain ⟨lN, u0, u1, u2, v0, v1, v2⟩ := hN2.c3
    go_wp2_with fail
    rw [rounds_succ]
    go_wp2_with fail
    refine (take_any r2 (by omega) _).mono ?_
    rintro e w3 ⟨rfl, hb3⟩
    rw [H3.out]
    have hR3 : Blk w3 w.heap.size 23 #[.int .i64 0, .int .i64 0, .int .i64 0] := Blk.keep (Blk.far hR2 (by simp) _) hb3
    have hN3 : Blk w3 (w.heap.size + 1) 47 #[.int .i64 a, .int .i64 b, .int .i64 0] := Blk.keep (by have h := hN2.set 1 (.int .i64 b); simpa using h) hb3
    have hB3 : Below w.heap.size w w3 := bt (bst hB2 (by simp) _) hb3
    clear lR x0 x1 x2 y0 y1 y2 lN u0 u1 u2 v0 v1 v2
    obtain ⟨lR, x0, x1, x2, y0, y1, y2⟩ := hR3.c3
    obtain ⟨lN, u0, u1, u2, v0, v1, v2⟩ := hN3.c3
    go_wp2_with fail
    rw [rounds_succ]
    go_wp2_with fail
    refine (right_any a b c _).mono ?_
    rintro e w4 ⟨rfl, hb4⟩
    rw [HQ.out]
    have hR4 : Blk w4 w.heap.size 23 #[.int .i64 0, .int .i64 0, .int .i64 0] := Blk.keep ((Blk.far hR3 (by simp) _).alloc _) hb4
    have hO4 : Blk w4 w3.heap.size 23 #[.int .i64 a, .int .i64 b, .int .i64 c] := Blk.keep (Blk.new' _ _ _ _ (by simp)) hb4
    have hB4 : Below w.heap.size w w4 := bt (bal (bst hB3 (by simp) _) _) hb4
    have lt3 : w.heap.size < w3.heap.size := lR
    clear lR x0 x1 x2 y0 y1 y2 lN u0 u1 u2 v0 v1 v2
    obtain ⟨lR, x0, x1, x2, y0, y1, y2⟩ := hR4.c3
    obtain ⟨lO, u0, u1, u2, v0, v1, v2⟩ := hO4.c3
    go_wp2
    refine bodyPost_ret (v := .tuple #[stampV 0 0 0, .string ⟨#[]⟩, .int .i64 3]) (by simp [results, Tryd.results22, go_sem, *]) rfl ⟨by rw [HV.out] <;> rfl, ?_⟩
    (repeat (first | with_reducible exact b0 _ | with_reducible assumption | with_reducible refine Below.drew ?_ | with_reducible refine below_drewN ?_ _ | with_reducible refine bal ?_ _ | ((with_reducible refine bst ?_ ?_ _); rotate_left; focus (first | exact Nat.le_refl _ | assumption | (simp; done) | (simp; omega) | omega))))
  case true =>
    have hv : takeStampL l = (((a : Int), (b : Int), (c : Int)), r3, 0) := by simp [takeStampL, H1.out, H2.out, H3.out, HQ.out]
    have HV := Lib.hid hv
    clear hv
    go_enter Tryd.func22, Tryd.ntmps22
    go_wp2_with fail
    refine wp_loop_rounds 4 ?_
    rw [rounds_succ]
    go_wp2_with fail
    refine (take_any l (by omega) _).mono ?_
    rintro e w1 ⟨rfl, hb1⟩
    rw [H1.out]
    have hR1 : Blk w1 w.heap.size 23 #[.int .i64 0, .int .i64 0, .int .i64 0] := Blk.keep ((Blk.new w _ _).alloc _) hb1
    have hN1 : Blk w1 (w.heap.size + 1) 47 #[.int .i64 0, .int .i64 0, .int .i64 0] := Blk.keep (Blk.new' _ _ _ _ (by simp)) hb1
    have hB1 : Below w.heap.size w w1 := bt (bal (bal (b0 w) _) _) hb1
    obtain ⟨lR, x0, x1, x2, y0, y1, y2⟩ := hR1.c3
    obtain ⟨lN, u0, u1, u2, v0, v1, v2⟩ := hN1.c3
    go_wp2_with fail
    rw [rounds_succ]
    go_wp2_with fail
    refine (take_any r1 (by omega) _).mono ?_
    rintro e w2 ⟨rfl, hb2⟩
    rw [H2.out]
    have hR2 : Blk w2 w.heap.size 23 #[.int .i64 0, .int .i64 0, .int .i64 0] := Blk.keep (Blk.far hR1 (by simp) _) hb2
    have hN2 : Blk w2 (w.heap.size + 1) 47 #[.int .i64 a, .int .i64 0, .int .i64 0] := Blk.keep (by have h := hN1.set 0 (.int .i64 a); simpa using h) hb2
    have hB2 : Below w.heap.size w w2 := bt (bst hB1 (by simp) _) hb2
    clear lR x0 x1 x2 y0 y1 y2 lN u0 u1 u2 v0 v1 v2
    obtain ⟨lR, x0, x1, x2, y0, y1, y2⟩ := hR2.c3
    obtain ⟨lN, u0, u1, u2, v0, v1, v2⟩ := hN2.c3
    go_wp2_with fail
    rw [rounds_succ]
    go_wp2_with fail
    refine (take_any r2 (by omega) _).mono ?_
    rintro e w3 ⟨rfl, hb3⟩
    rw [H3.out]
    have hR3 : Blk w3 w.heap.size 23 #[.int .i64 0, .int .i64 0, .int .i64 0] := Blk.keep (Blk.far hR2 (by simp) _) hb3
    have hN3 : Blk w3 (w.heap.size + 1) 47 #[.int .i64 a, .int .i64 b, .int .i64 0] := Blk.keep (by have h := hN2.set 1 (.int .i64 b); simpa using h) hb3
    have hB3 : Below w.heap.size w w3 := bt (bst hB2 (by simp) _) hb3
    clear lR x0 x1 x2 y0 y1 y2 lN u0 u1 u2 v0 v1 v2
    obtain ⟨lR, x0, x1, x2, y0, y1, y2⟩ := hR3.c3
    obtain ⟨lN, u0, u1, u2, v0, v1, v2⟩ := hN3.c3
    go_wp2_with fail
    rw [rounds_succ]
    go_wp2_with fail
    refine (right_any a b c _).mono ?_
    rintro e w4 ⟨rfl, hb4⟩
    rw [HQ.out]
    have hR4 : Blk w4 w.heap.size 23 #[.int .i64 0, .int .i64 0, .int .i64 0] := Blk.keep ((Blk.far hR3 (by simp) _).alloc _) hb4
    have hO4 : Blk w4 w3.heap.size 23 #[.int .i64 a, .int .i64 b, .int .i64 c] := Blk.keep (Blk.new' _ _ _ _ (by simp)) hb4
    have hB4 : Below w.heap.size w w4 := bt (bal (bst hB3 (by simp) _) _) hb4
    have lt3 : w.heap.size < w3.heap.size := lR
    clear lR x0 x1 x2 y0 y1 y2 lN u0 u1 u2 v0 v1 v2
    obtain ⟨lR, x0, x1, x2, y0, y1, y2⟩ := hR4.c3
    obtain ⟨lO, u0, u1, u2, v0, v1, v2⟩ := hO4.c3
    go_wp2
    refine bodyPost_ret (v := .tuple #[stampV a b c, .string ⟨r3.toArray⟩, .int .i64 0]) (by simp [results, Tryd.results22, go_sem, *]) rfl ⟨by rw [HV.out] <;> rfl, ?_⟩
    (repeat (first | with_reducible exact b0 _ | with_reducible assumption | with_reducible refine Below.drew ?_ | with_reducible refine below_drewN ?_ _ | with_reducible refine bal ?_ _ | ((with_reducible refine bst ?_ ?_ _); rotate_left; focus (first | exact Nat.le_refl _ | assumption | (simp; done) | (simp; omega) | omega))))
set_option maxHeartbeats 3200000 in
set_option maxRecDepth 100000 in
theorem refsttake_any (l : List UInt8) (hl : l.length ≤ 281474976710656) (w : World) :
    Calls Tryd.prog 23 #[.string ⟨l.toArray⟩] w fun e w' => e = .returned (.tuple #[stampT (takeStampL l).1, .string ⟨(takeStampL l).2.1.toArray⟩, .int .i64 (takeStampL l).2.2]) ∧ Below w.heap.size w w' := by
  obtain ⟨⟨a, r1, e1⟩, h1⟩ : ∃ x, takeL l = x := ⟨_, rfl⟩
  obtain ⟨⟨b, r2, e2⟩, h2⟩ : ∃ x, takeL r1 = x := ⟨_, rfl⟩
  obtain ⟨⟨c, r3, e3⟩, h3⟩ : ∃ x, takeL r2 = x := ⟨_, rfl⟩
  obtain ⟨s1, a63⟩ := take_shorter _ _ _ _ h1
  obtain ⟨s2, b63⟩ := take_shorter _ _ _ _ h2
  obtain ⟨s3, c63⟩ := take_shorter _ _ _ _ h3
  obtain ⟨q, hq⟩ : ∃ q, rightB a b c = q := ⟨_, rfl⟩
  have H1 := Lib.hid h1
  have H2 := Lib.hid h2
  have H3 := Lib.hid h3
  have HQ := Lib.hid hq
  clear h1 h2 h3 hq
  by_cases z1 : e1 = 0
  case neg =>
    have hv : takeStampL l = ((0, 0, 0), [], e1) := by simp [takeStampL, H1.out, H2.out, H3.out, HQ.out, z1]
    have HV := Lib.hid hv
    clear hv
    have b1 : ((e1 : Int) == 0) = false := by simp; omega
    have b1' : ((e1 : Int) != 0) = true := by simp; omega
    go_enter Tryd.func23, Tryd.ntmps23
    go_wp2_with fail
    refine (reftake_any l (by omega) _).mono ?_
    rintro e w1 ⟨rfl, hb1⟩
    rw [H1.out]
    have hR1 : Blk w1 w.heap.size 23 #[.int .i64 0, .int .i64 0, .int .i64 0] := Blk.keep (Blk.new w _ _) hb1
    have hB1 : Below w.heap.size w w1 := bt (bal (b0 w) _) hb1
    obtain ⟨lR, x0, x1, x2, y0, y1, y2⟩ := hR1.c3
    go_wp2
    refine bodyPost_ret (v := .tuple #[stampV 0 0 0, .string ⟨#[]⟩, .int .i64 e1]) (by simp [results, Tryd.results23, go_sem, *]) rfl ⟨by rw [HV.out] <;> rfl, ?_⟩
    (repeat (first | with_reducible exact b0 _ | with_reducible assumption | with_reducible refine Below.drew ?_ | with_reducible refine below_drewN ?_ _ | with_reducible refine bal ?_ _ | ((with_reducible refine bst ?_ ?_ _); rotate_left; focus (first | exact Nat.le_refl _ | assumption | (simp; done) | (simp; omega) | omega))))
  case pos =>
  subst z1
  by_cases z2 : e2 = 0
  case neg =>
    have hv : takeStampL l = ((0, 0, 0), [], e2) := by simp [takeStampL, H1.out, H2.out, H3.out, HQ.out, z2]
    have HV := Lib.hid hv
    clear hv
    have b2 : ((e2 : Int) == 0) = false := by simp; omega
    have b2' : ((e2 : Int) != 0) = true := by simp; omega
    go_enter Tryd.func23, Tryd.ntmps23
    go_wp2_with fail
    refine (reftake_any l (by omega) _).mono ?_
    rintro e w1 ⟨rfl, hb1⟩
    rw [H1.out]
    have hR1 : Blk w1 w.heap.size 23 #[.int .i64 0, .int .i64 0, .int .i64 0] := Blk.keep (Blk.new w _ _) hb1
    have hB1 : Below w.heap.size w w1 := bt (bal (b0 w) _) hb1
    obtain ⟨lR, x0, x1, x2, y0, y1, y2⟩ := hR1.c3
    go_wp2_with fail
    refine (reftake_any r1 (by omega) _).mono ?_
    rintro e w2 ⟨rfl, hb2⟩
    rw [H2.out]
    have hR2 : Blk w2 w.heap.size 23 #[.int .i64 0, .int .i64 0, .int .i64 0] := Blk.keep hR1 hb2
    have hB2 : Below w.heap.size w w2 := bt hB1 hb2
    clear lR x0 x1 x2 y0 y1 y2
    obtain ⟨lR, x0, x1, x2, y0, y1, y2⟩ := hR2.c3
    go_wp2
    refine bodyPost_ret (v := .tuple #[stampV 0 0 0, .string ⟨#[]⟩, .int .i64 e2]) (by simp [results, Tryd.results23, go_sem, *]) rfl ⟨by rw [HV.out] <;> rfl, ?_⟩
    (repeat (first | with_reducible exact b0 _ | with_reducible assumption | with_reducible refine Below.drew ?_ | with_reducible refine below_drewN ?_ _ | with_reducible refine bal ?_ _ | ((with_reducible refine bst ?_ ?_ _); rotate_left; focus (first | exact Nat.le_refl _ | assumption | (simp; done) | (simp; omega) | omega))))
  case pos =>
  subst z2
  by_cases z3 : e3 = 0
  case neg =>
    have hv : takeStampL l = ((0, 0, 0), [], e3) := by simp [takeStampL, H1.out, H2.out, H3.out, HQ.out, z3]
    have HV := Lib.hid hv
    clear hv
    have b3 : ((e3 : Int) == 0) = false := by simp; omega
    have b3' : ((e3 : Int) != 0) = true := by simp; omega
    go_enter Tryd.func23, Tryd.ntmps23
    go_wp2_with fail
    refine (reftake_any l (by omega) _).mono ?_
    rintro e w1 ⟨rfl, hb1⟩
    rw [H1.out]
    have hR1 : Blk w1 w.heap.size 23 #[.int .i64 0, .int .i64 0, .int .i64 0] := Blk.keep (Blk.new w _ _) hb1
    have hB1 : Below w.heap.size w w1 := bt (bal (b0 w) _) hb1
    obtain ⟨lR, x0, x1, x2, y0, y1, y2⟩ := hR1.c3
    go_wp2_with fail
    refine (reftake_any r1 (by omega) _).mono ?_
    rintro e w2 ⟨rfl, hb2⟩
    rw [H2.out]
    have hR2 : Blk w2 w.heap.size 23 #[.int .i64 0, .int .i64 0, .int .i64 0] := Blk.keep hR1 hb2
    have hB2 : Below w.heap.size w w2 := bt hB1 hb2
    clear lR x0 x1 x2 y0 y1 y2
    obtain ⟨lR, x0, x1, x2, y0, y1, y2⟩ := hR2.c3
    go_wp2_with fail
    refine (reftake_any r2 (by omega) _).mono ?_
    rintro e w3 ⟨rfl, hb3⟩
    rw [H3.out]
    have hR3 : Blk w3 w.heap.size 23 #[.int .i64 0, .int .i64 0, .int .i64 0] := Blk.keep hR2 hb3
    have hB3 : Below w.heap.size w w3 := bt hB2 hb3
    clear lR x0 x1 x2 y0 y1 y2
    obtain ⟨lR, x0, x1, x2, y0, y1, y2⟩ := hR3.c3
    go_wp2
    refine bodyPost_ret (v := .tuple #[stampV 0 0 0, .string ⟨#[]⟩, .int .i64 e3]) (by simp [results, Tryd.results23, go_sem, *]) rfl ⟨by rw [HV.out] <;> rfl, ?_⟩
    (repeat (first | with_reducible exact b0 _ | with_reducible assumption | with_reducible refine Below.drew ?_ | with_reducible refine below_drewN ?_ _ | with_reducible refine bal ?_ _ | ((with_reducible refine bst ?_ ?_ _); rotate_left; focus (first | exact Nat.le_refl _ | assumption | (simp; done) | (simp; omega) | omega))))
  case pos =>
  subst z3
  cases q
  case false =>
    have hv : takeStampL l = ((0, 0, 0), [], 3) := by simp [takeStampL, H1.out, H2.out, H3.out, HQ.out]
    have HV := Lib.hid hv
    clear hv
    go_enter Tryd.func23, Tryd.ntmps23
    go_wp2_with fail
    refine (reftake_any l (by omega) _).mono ?_
    rintro e w1 ⟨rfl, hb1⟩
    rw [H1.out]
    have hR1 : Blk w1 w.heap.size 23 #[.int .i64 0, .int .i64 0, .int .i64 0] := Blk.keep (Blk.new w _ _) hb1
    have hB1 : Below w.heap.size w w1 := bt (bal (b0 w) _) hb1
    obtain ⟨lR, x0, x1, x2, y0, y1, y2⟩ := hR1.c3
    go_wp2_with fail
    refine (reftake_any r1 (by omega) _).mono ?_
    rintro e w2 ⟨rfl, hb2⟩
    rw [H2.out]
    have hR2 : Blk w2 w.heap.size 23 #[.int .i64 0, .int .i64 0, .int .i64 0] := Blk.keep hR1 hb2
    have hB2 : Below w.heap.size w w2 := bt hB1 hb2
    clear lR x0 x1 x2 y0 y1 y2
    obtain ⟨lR, x0, x1, x2, y0, y1, y2⟩ := hR2.c3
    go_wp2_with fail
    refine (reftake_any r2 (by omega) _).mono ?_
    rintro e w3 ⟨rfl, hb3⟩
    rw [H3.out]
    have hR3 : Blk w3 w.heap.size 23 #[.int .i64 0, .int .i64 0, .int .i64 0] := Blk.keep hR2 hb3
    have hB3 : Below w.heap.size w w3 := bt hB2 hb3
    clear lR x0 x1 x2 y0 y1 y2
    obtain ⟨lR, x0, x1, x2, y0, y1, y2⟩ := hR3.c3
    go_wp2_with fail
    refine (refright_any a b c _).mono ?_
    rintro e w4 ⟨rfl, hb4⟩
    rw [HQ.out]
    have hR4 : Blk w4 w.heap.size 23 #[.int .i64 0, .int .i64 0, .int .i64 0] := Blk.keep (hR3.alloc _) hb4
    have hO4 : Blk w4 w3.heap.size 23 #[.int .i64 a, .int .i64 b, .int .i64 c] := Blk.keep (Blk.new' _ _ _ _ (by simp)) hb4
    have hB4 : Below w.heap.size w w4 := bt (bal hB3 _) hb4
    have lt3 : w.heap.size < w3.heap.size := lR
    clear lR x0 x1 x2 y0 y1 y2
    obtain ⟨lR, x0, x1, x2, y0, y1, y2⟩ := hR4.c3
    obtain ⟨lO, u0, u1, u2, v0, v1, v2⟩ := hO4.c3
    go_wp2
    refine bodyPost_ret (v := .tuple #[stampV 0 0 0, .string ⟨#[]⟩, .int .i64 3]) (by simp [results, Tryd.results23, go_sem, *]) rfl ⟨by rw [HV.out] <;> rfl, ?_⟩
    (repeat (first | with_reducible exact b0 _ | with_reducible assumption | with_reducible refine Below.drew ?_ | with_reducible refine below_drewN ?_ _ | with_reducible refine bal ?_ _ | ((with_reducible refine bst ?_ ?_ _); rotate_left; focus (first | exact Nat.le_refl _ | assumption | (simp; done) | (simp; omega) | omega))))
  case true =>
    have hv : takeStampL l = (((a : Int), (b : Int), (c : Int)), r3, 0) := by simp [takeStampL, H1.out, H2.out, H3.out, HQ.out]
    have HV := Lib.hid hv
    clear hv
    go_enter Tryd.func23, Tryd.ntmps23
    go_wp2_with fail
    refine (reftake_any l (by omega) _).mono ?_
    rintro e w1 ⟨rfl, hb1⟩
    rw [H1.out]
    have hR1 : Blk w1 w.heap.size 23 #[.int .i64 0, .int .i64 0, .int .i64 0] := Blk.keep (Blk.new w _ _) hb1
    have hB1 : Below w.heap.size w w1 := bt (bal (b0 w) _) hb1
    obtain ⟨lR, x0, x1, x2, y0, y1, y2⟩ := hR1.c3
    go_wp2_with fail
    refine (reftake_any r1 (by omega) _).mono ?_
    rintro e w2 ⟨rfl, hb2⟩
    rw [H2.out]
    have hR2 : Blk w2 w.heap.size 23 #[.int .i64 0, .int .i64 0, .int .i64 0] := Blk.keep hR1 hb2
    have hB2 : Below w.heap.size w w2 := bt hB1 hb2
    clear lR x0 x1 x2 y0 y1 y2
    obtain ⟨lR, x0, x1, x2, y0, y1, y2⟩ := hR2.c3
    go_wp2_with fail
    refine (reftake_any r2 (by omega) _).mono ?_
    rintro e w3 ⟨rfl, hb3⟩
    rw [H3.out]
    have hR3 : Blk w3 w.heap.size 23 #[.int .i64 0, .int .i64 0, .int .i64 0] := Blk.keep hR2 hb3
    have hB3 : Below w.heap.size w w3 := bt hB2 hb3
    clear lR x0 x1 x2 y0 y1 y2
    obtain ⟨lR, x0, x1, x2, y0, y1, y2⟩ := hR3.c3
    go_wp2_with fail
    refine (refright_any a b c _).mono ?_
    rintro e w4 ⟨rfl, hb4⟩
    rw [HQ.out]
    have hR4 : Blk w4 w.heap.size 23 #[.int .i64 0, .int .i64 0, .int .i64 0] := Blk.keep (hR3.alloc _) hb4
    have hO4 : Blk w4 w3.heap.size 23 #[.int .i64 a, .int .i64 b, .int .i64 c] := Blk.keep (Blk.new' _ _ _ _ (by simp)) hb4
    have hB4 : Below w.heap.size w w4 := bt (bal hB3 _) hb4
    have lt3 : w.heap.size < w3.heap.size := lR
    clear lR x0 x1 x2 y0 y1 y2
    obtain ⟨lR, x0, x1, x2, y0, y1, y2⟩ := hR4.c3
    obtain ⟨lO, u0, u1, u2, v0, v1, v2⟩ := hO4.c3
    go_wp2
    refine bodyPost_ret (v := .tuple #[stampV a b c, .string ⟨r3.toArray⟩, .int .i64 0]) (by simp [results, Tryd.results23, go_sem, *]) rfl ⟨by rw [HV.out] <;> rfl, ?_⟩
    (repeat (first | with_reducible exact b0 _ | with_reducible assumption | with_reducible refine Below.drew ?_ | with_reducible refine below_drewN ?_ _ | with_reducible refine bal ?_ _ | ((with_reducible refine bst ?_ ?_ _); rotate_left; focus (first | exact Nat.le_refl _ | assumption | (simp; done) | (simp; omega) | omega))))
end Go.Proofs.YtkhamjghanjikaaDoor
