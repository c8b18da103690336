/- book.RightMsg: some bool, for any message that is small enough. -/
import Derived.Test.YtbggohdpaodkeaaDoorCliN
namespace Go.Proofs.YtbggohdpaodkeaaDoor
open Go.RowKit
attribute [local go_sem] ByteArray.mk_append_mk ByteArray.extract_mk
attribute [local go_sem ↓] Go.wp_at_zero Go.wp_at_succ
theorem within_sb (n k : Int) (w : World) : Calls Tryd.prog 37 #[.int .i64 n, .int .i64 k] w (SB w) := by
  by_cases h1 : n < 0
  case pos =>
    go_enter Tryd.func37, Tryd.ntmps37
    go_wp2
    go_ret
    exact ⟨_, rfl, b0 w⟩
  case neg =>
    by_cases h2 : k < n
    all_goals
      go_enter Tryd.func37, Tryd.ntmps37
      go_wp2
      go_ret
      exact ⟨_, rfl, b0 w⟩
set_option maxHeartbeats 800000 in
theorem stright_sb (a t n : Int) (w : World) : Calls Tryd.prog 29 #[.agg #[.int .i64 a, .int .i64 t, .int .i64 n]] w (SB w) := by
  go_enter Tryd.func29, Tryd.ntmps29
  go_wp2_with fail
  have B1 : Blk (w.alloc (.cells #[.int .i64 a, .int .i64 t, .int .i64 n] 25)) w.heap.size 25 #[.int .i64 a, .int .i64 t, .int .i64 n] := Blk.new w _ _
  have hb1 : Below w.heap.size w (w.alloc (.cells #[.int .i64 a, .int .i64 t, .int .i64 n] 25)) := bal (b0 w) _
  refine (within_sb _ _ _).mono ?_
  rintro e w1 ⟨q1, rfl, d1⟩
  have B2 := B1.keep d1
  have hb2 := bt hb1 d1
  obtain ⟨z0, z1, z2, z3, z4, z5, z6⟩ := B2.c3
  cases q1
  case false =>
    go_wp2
    go_ret
    exact ⟨_, rfl, hb2⟩
  case true =>
  go_wp2_with fail
  refine (within_sb _ _ _).mono ?_
  rintro e w2 ⟨q2, rfl, d2⟩
  have B3 := B2.keep d2
  have hb3 := bt hb2 d2
  obtain ⟨z0, z1, z2, z3, z4, z5, z6⟩ := B3.c3
  cases q2
  case false =>
    go_wp2
    go_ret
    exact ⟨_, rfl, hb3⟩
  case true =>
  go_wp2_with fail
  refine (within_sb _ _ _).mono ?_
  rintro e w3 ⟨q3, rfl, d3⟩
  cases q3
  all_goals
    go_wp2
    go_ret
    exact ⟨_, rfl, bt hb3 d3⟩
set_option maxHeartbeats 3200000 in
set_option maxRecDepth 100000 in
theorem rightmsg_sb (m : Ms) (ps : List Pl) (ls : List Int) (w : World) (hM : MsIn m ps ls w) : Calls Tryd.prog 16 #[msV m] w (SB w) := by
  by_cases h0 : m.kind < 1
  case pos =>
    go_enter Tryd.func16, Tryd.ntmps16
    go_wp2
    go_ret
    exact ⟨_, rfl, bal (b0 w) _⟩
  case neg =>
  by_cases h1 : 37 < m.kind
  case pos =>
    go_enter Tryd.func16, Tryd.ntmps16
    go_wp2
    go_ret
    exact ⟨_, rfl, bal (b0 w) _⟩
  case neg =>
  by_cases h2 : m.ans.er < 0
  case pos =>
    go_enter Tryd.func16, Tryd.ntmps16
    go_wp2
    go_ret
    exact ⟨_, rfl, bal (b0 w) _⟩
  case neg =>
  by_cases h3 : 16 < m.ans.er
  case pos =>
    go_enter Tryd.func16, Tryd.ntmps16
    go_wp2
    go_ret
    exact ⟨_, rfl, bal (b0 w) _⟩
  case neg =>
  by_cases h4 : (8 : Int) < (m.ans.itn : Int)
  case pos =>
    go_enter Tryd.func16, Tryd.ntmps16
    go_wp2
    go_ret
    exact ⟨_, rfl, bal (b0 w) _⟩
  case neg =>
  by_cases h5 : (8 : Int) < (m.pn : Int)
  case pos =>
    go_enter Tryd.func16, Tryd.ntmps16
    go_wp2
    go_ret
    exact ⟨_, rfl, bal (b0 w) _⟩
  case neg =>
  by_cases h6 : (8 : Int) < (m.mn : Int)
  case pos =>
    go_enter Tryd.func16, Tryd.ntmps16
    go_wp2
    go_ret
    exact ⟨_, rfl, bal (b0 w) _⟩
  case neg =>
  have B0 : Blk (w.alloc (.cells (msA m) 35)) w.heap.size 35 (msA m) := Blk.new w _ _
  have hbW : Below w.heap.size w (w.alloc (.cells (msA m) 35)) := bal (b0 w) _
  have hMW := hM.keep hbW
  go_enter Tryd.func16, Tryd.ntmps16
  go_wp2_with (with_reducible refine wpl_ld B0 (by with_unfolding_all rfl) _ _ (by with_unfolding_all rfl) (by with_unfolding_all rfl) _ Tryd.underlying35 (by with_unfolding_all rfl) (by with_unfolding_all rfl) ?_)
  clear h0 h1 h2 h3 h4 h5 h6
  generalize (w.alloc (.cells (msA m) 35)) = W at *
  refine (numbers_any m ps ls W hMW).mono ?_
  rintro e w1 ⟨A, n, c, l, rfl, hl, hn, hR, d1⟩
  go_wp2_with fail
  have hcf := idxr_has A c l (by omega) w1 hR
  rw [hl] at hcf
  refine hcf.mono ?_
  clear hcf
  rintro e w2 ⟨q2, rfl, d2⟩
  have hb2 : Below w.heap.size w w2 := bt (bt hbW d1) d2
  have B2 := (B0.keep d1).keep d2
  obtain ⟨ag, a0, a1, a2, a3, a4, a5, a6, a7, a8, a9, a10, a11, a12, a13, a14, a15, a16, a17, a18, a19, a20, a21, a22, a23, a24, a25, a26, a27, a28, a29, a30, a31, a32, a33, a34, a35⟩ := B2.ms
  cases q2
  case true =>
    go_wp2
    go_ret
    exact ⟨_, rfl, hb2⟩
  case false =>
  go_wp2_with fail
  refine (stright_sb _ _ _ _).mono ?_
  clear ag a0 a1 a2 a3 a4 a5 a6 a7 a8 a9 a10 a11 a12 a13 a14 a15 a16 a17 a18 a19 a20 a21 a22 a23 a24 a25 a26 a27 a28 a29 a30 a31 a32 a33 a34 a35
  rintro e w3 ⟨q3, rfl, d3⟩
  have hb3 := bt hb2 d3
  have B3 := B2.keep d3
  obtain ⟨ag, a0, a1, a2, a3, a4, a5, a6, a7, a8, a9, a10, a11, a12, a13, a14, a15, a16, a17, a18, a19, a20, a21, a22, a23, a24, a25, a26, a27, a28, a29, a30, a31, a32, a33, a34, a35⟩ := B3.ms
  cases q3
  case false =>
    go_wp2
    go_ret
    exact ⟨_, rfl, hb3⟩
  case true =>
  go_wp2_with fail
  refine (stright_sb _ _ _ _).mono ?_
  clear ag a0 a1 a2 a3 a4 a5 a6 a7 a8 a9 a10 a11 a12 a13 a14 a15 a16 a17 a18 a19 a20 a21 a22 a23 a24 a25 a26 a27 a28 a29 a30 a31 a32 a33 a34 a35
  rintro e w4 ⟨q4, rfl, d4⟩
  have hb4 := bt hb3 d4
  have B4 := B3.keep d4
  obtain ⟨ag, a0, a1, a2, a3, a4, a5, a6, a7, a8, a9, a10, a11, a12, a13, a14, a15, a16, a17, a18, a19, a20, a21, a22, a23, a24, a25, a26, a27, a28, a29, a30, a31, a32, a33, a34, a35⟩ := B4.ms
  cases q4
  case false =>
    go_wp2
    go_ret
    exact ⟨_, rfl, hb4⟩
  case true =>
  go_wp2_with fail
  refine (stright_sb _ _ _ _).mono ?_
  clear ag a0 a1 a2 a3 a4 a5 a6 a7 a8 a9 a10 a11 a12 a13 a14 a15 a16 a17 a18 a19 a20 a21 a22 a23 a24 a25 a26 a27 a28 a29 a30 a31 a32 a33 a34 a35
  rintro e w5 ⟨q5, rfl, d5⟩
  cases q5
  all_goals
    go_wp2
    go_ret
    exact ⟨_, rfl, bt hb4 d5⟩
end Go.Proofs.YtbggohdpaodkeaaDoor
