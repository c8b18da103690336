/- The walks of the laws of stamps' words. -/
import Derived.Test.YtkhamjghanjikaaDoorRefRead6W
namespace Go.Proofs.YtkhamjghanjikaaDoor
open Go.RowKit
attribute [local go_sem] ByteArray.mk_append_mk ByteArray.extract_mk
attribute [local go_sem ↓] Go.wp_at_zero Go.wp_at_succ
set_option maxHeartbeats 1600000 in
set_option maxRecDepth 100000 in
theorem stampShows_walk (a t n : Int) (_ha : (Lit.int .i64 a).wf = true) (_hb : (Lit.int .i64 t).wf = true) (_hc : (Lit.int .i64 n).wf = true) (w : World) (hL : Laid5 w) :
    Calls Tryd.prog 3 #[stampV a t n] w fun e w' => e = .returned (.bool true) ∧ Below w.heap.size w w' := by
  clear _ha _hb _hc
  cases hq : rightB a t n with
  | false =>
    go_enter Tryd.func3, Tryd.ntmps3
    go_wp2_with fail
    refine (show_bad a t n hq _).mono ?_
    rintro e w1 ⟨rfl, hb1⟩
    have S1 : Blk w1 w.heap.size 23 #[.int .i64 a, .int .i64 t, .int .i64 n] := (Blk.new w _ _).keep hb1
    have hB1 : Below w.heap.size w w1 := bt (bal (b0 w) _) hb1
    obtain ⟨lx, x0, x1, x2, x3, x4, x5⟩ := S1.c3
    go_wp2_with fail
    refine (refright_any a t n _).mono ?_
    rintro e w2 ⟨rfl, hb2⟩
    rw [hq]
    have hB2 := bt hB1 hb2
    clear lx x0 x1 x2 x3 x4 x5
    go_wp2_with fail
    refine (awake05 _).mono ?_
    rintro e w3 ⟨rfl, hb3⟩
    go_wp2
    go_ret
    exact ⟨rfl, bt hB2 hb3⟩
  | true =>
    obtain ⟨⟨a0, a1⟩, ⟨t0, t1⟩, ⟨n0, n1⟩⟩ := right_parts3 (a := a) (b := t) (c := n) hq
    obtain ⟨a, rfl⟩ := Int.eq_ofNat_of_zero_le a0
    obtain ⟨t, rfl⟩ := Int.eq_ofNat_of_zero_le t0
    obtain ⟨n, rfl⟩ := Int.eq_ofNat_of_zero_le n0
    have SH := show_any a t n (by omega) (by omega) (by omega)
    have RS := refshow5_any a t n (by omega) (by omega) (by omega)
    have hwl := word_len a t n (by omega) (by omega) (by omega)
    have hrd := readV_some (read_word a t n (by omega) (by omega) (by omega))
    obtain ⟨W, hW⟩ : ∃ x, wordL a t n = x := ⟨_, rfl⟩
    rw [hW] at SH RS hwl hrd
    have HRD := Lib.hid hrd
    have HQ := Lib.hid hq
    clear hW hrd hq
    have nW : (W == W) = true := by simp
    go_enter Tryd.func3, Tryd.ntmps3
    go_wp2_with fail
    refine (SH _ (laid5_keep hL (bal (b0 w) _))).mono ?_
    rintro e w1 ⟨rfl, hb1⟩
    have S1 : Blk w1 w.heap.size 23 #[.int .i64 (a : Int), .int .i64 (t : Int), .int .i64 (n : Int)] := (Blk.new w _ _).keep hb1
    have hB1 : Below w.heap.size w w1 := bt (bal (b0 w) _) hb1
    obtain ⟨lx, x0, x1, x2, x3, x4, x5⟩ := S1.c3
    go_wp2_with fail
    refine (refright_any _ _ _ _).mono ?_
    rintro e w2 ⟨rfl, hb2⟩
    rw [HQ.out]
    have hB2 := bt hB1 hb2
    have S2 := S1.keep hb2
    clear lx x0 x1 x2 x3 x4 x5
    go_wp2_with fail
    refine (stread_any W (by omega) _ (laid5_keep hL hB2)).mono ?_
    rintro e w3 ⟨rfl, hb3⟩
    rw [HRD.out]
    have hB3 := bt hB2 hb3
    have S3 := S2.keep hb3
    obtain ⟨lx, x0, x1, x2, x3, x4, x5⟩ := S3.c3
    go_wp2_with fail
    refine (RS _).mono ?_
    rintro e w4 ⟨rfl, hb4⟩
    have S4 := (S3.alloc (.cells #[.int .i64 (a : Int), .int .i64 (t : Int), .int .i64 (n : Int)] 23)).keep hb4
    have R4 : Blk w4 w3.heap.size 23 #[.int .i64 (a : Int), .int .i64 (t : Int), .int .i64 (n : Int)] := (Blk.new w3 _ _).keep hb4
    have hB4 : Below w.heap.size w w4 := bt (bal hB3 _) hb4
    clear lx x0 x1 x2 x3 x4 x5
    obtain ⟨lx, x0, x1, x2, x3, x4, x5⟩ := S4.c3
    obtain ⟨ly, y0, y1, y2, y3, y4, y5⟩ := R4.c3
    go_wp2_with fail
    refine (awake05 _).mono ?_
    rintro e w5 ⟨rfl, hb5⟩
    go_wp2
    go_ret
    exact ⟨rfl, bt hB4 hb5⟩
set_option maxHeartbeats 1600000 in
set_option maxRecDepth 100000 in
theorem stampReads_walk (l : List UInt8) (hl : l.length ≤ 1048576) (w : World) (hL : Laid5 w) :
    Calls Tryd.prog 4 #[.string ⟨l.toArray⟩] w fun e w' => e = .returned (.bool true) ∧ Below w.heap.size w w' := by
  cases hr : readW l with
  | none =>
    have h1 := readV_none hr
    have h2 := refReadV_none hr
    have H1 := Lib.hid h1
    have H2 := Lib.hid h2
    clear h1 h2 hr
    go_enter Tryd.func4, Tryd.ntmps4
    go_wp2_with fail
    refine (stread_any l (by omega) _ hL).mono ?_
    rintro e w1 ⟨rfl, hb1⟩
    rw [H1.out]
    go_wp2_with fail
    refine (refread5_any l (by omega) _).mono ?_
    rintro e w2 ⟨rfl, hb2⟩
    rw [H2.out]
    have S2 : Blk w2 w1.heap.size 23 #[.int .i64 0, .int .i64 0, .int .i64 0] := (Blk.new w1 _ _).keep hb2
    have hB2 : Below w.heap.size w w2 := bt (bal hb1 _) hb2
    have S3 : Blk (w2.alloc (.cells #[.int .i64 0, .int .i64 0, .int .i64 0] 23)) w1.heap.size 23 #[.int .i64 0, .int .i64 0, .int .i64 0] := S2.alloc _
    obtain ⟨lx, x0, x1, x2, x3, x4, x5⟩ := S2.c3
    go_wp2_with fail
    refine (awake05 _).mono ?_
    rintro e w3 ⟨rfl, hb3⟩
    go_wp2
    go_ret
    exact ⟨rfl, bt (bal hB2 _) hb3⟩
  | some x =>
    obtain ⟨a, b, c⟩ := x
    have h1 := readV_some hr
    have h2 := refReadV_some hr
    have H1 := Lib.hid h1
    have H2 := Lib.hid h2
    clear h1 h2 hr
    go_enter Tryd.func4, Tryd.ntmps4
    go_wp2_with fail
    refine (stread_any l (by omega) _ hL).mono ?_
    rintro e w1 ⟨rfl, hb1⟩
    rw [H1.out]
    go_wp2_with fail
    refine (refread5_any l (by omega) _).mono ?_
    rintro e w2 ⟨rfl, hb2⟩
    rw [H2.out]
    have S2 : Blk w2 w1.heap.size 23 #[.int .i64 a, .int .i64 b, .int .i64 c] := (Blk.new w1 _ _).keep hb2
    have hB2 : Below w.heap.size w w2 := bt (bal hb1 _) hb2
    have S3 : Blk (w2.alloc (.cells #[.int .i64 a, .int .i64 b, .int .i64 c] 23)) w1.heap.size 23 #[.int .i64 a, .int .i64 b, .int .i64 c] := S2.alloc _
    obtain ⟨lx, x0, x1, x2, x3, x4, x5⟩ := S2.c3
    go_wp2_with fail
    refine (awake05 _).mono ?_
    rintro e w3 ⟨rfl, hb3⟩
    go_wp2
    go_ret
    exact ⟨rfl, bt (bal hB2 _) hb3⟩
end Go.Proofs.YtkhamjghanjikaaDoor
