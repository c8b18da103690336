/- The walk of stamp.Read. -/
import Derived.Test.YtkhamjghanjikaaDoorShow6W
namespace Go.Proofs.YtkhamjghanjikaaDoor
open Go.RowKit
attribute [local go_sem] ByteArray.mk_append_mk ByteArray.extract_mk
attribute [local go_sem ↓] Go.wp_at_zero Go.wp_at_succ
/-- what stamp.Read tells -/
def readV (l : List UInt8) : Value := match readW l with
  | some (a, b, c) => .tuple #[stampV a b c, .int .i64 0]
  | none => .tuple #[stampV 0 0 0, .int .i64 3]
theorem right_same (a b c : Int) : rightI a b c = rightB a b c := rfl
theorem readV_none {l : List UInt8} (h : readW l = none) : readV l = .tuple #[stampV 0 0 0, .int .i64 3] := by unfold readV; rw [h]
theorem readV_some {l : List UInt8} {a b c : Int} (h : readW l = some (a, b, c)) : readV l = .tuple #[stampV a b c, .int .i64 0] := by unfold readV; rw [h]
theorem three_ne {l : List UInt8} {p q r : List UInt8} (h : splitL l = [p, q, r]) : l ≠ [] := by
  rintro rfl
  simp [splitL] at h
set_option maxHeartbeats 3200000 in
set_option maxRecDepth 100000 in
theorem stread_any (l : List UInt8) (hl : l.length ≤ 1099511627) (w : World) (hL : Laid5 w) :
    Calls Tryd.prog 12 #[.string ⟨l.toArray⟩] w fun e w' => e = .returned (readV l) ∧ Below w.heap.size w w' := by
  have HL := Lib.hid (split_len l)
  by_cases h3 : ∃ p q r, splitL l = [p, q, r]
  case neg =>
    have hr : readV l = .tuple #[stampV 0 0 0, .int .i64 3] := readV_none (read_short l fun p q r hs => h3 ⟨p, q, r, hs⟩)
    have HR := Lib.hid hr
    have hn : (splitL l).length ≠ 3 := by
      intro hn
      match hs : splitL l, hn with
      | [p, q, r], _ => exact h3 ⟨p, q, r, hs⟩
    obtain ⟨n, hnn⟩ : ∃ n, (splitL l).length = n := ⟨_, rfl⟩
    have hsl := HL.out
    have HNN := Lib.hid hnn
    rw [hnn] at hn
    have n3 : (((n : Nat) : Int) != 3) = true := by simp; omega
    clear hr h3 hsl hnn hn
    go_enter Tryd.func12, Tryd.ntmps12
    go_wp2_with fail
    refine (split_any l (by omega) _ (laid5_keep hL (bal (b0 w) _))).mono ?_
    rintro e w2 ⟨rfl, hw2⟩
    have hR2 : Blk w2 w.heap.size 23 #[.int .i64 0, .int .i64 0, .int .i64 0] := by rw [hw2]; exact (Blk.new w _ _).alloc _
    have hB2 : Below w.heap.size w w2 := by rw [hw2]; exact bal (bal (b0 w) _) _
    rw [HNN.out]
    clear hw2
    obtain ⟨lR, x0, x1, x2, y0, y1, y2⟩ := hR2.c3
    go_wp2
    refine bodyPost_ret (v := .tuple #[stampV 0 0 0, .int .i64 3]) (by simp [results, Tryd.results12, go_sem, *]) rfl ⟨by rw [HR.out] <;> rfl, ?_⟩
    (repeat (first | with_reducible exact b0 _ | with_reducible assumption | with_reducible refine Below.drew ?_ | with_reducible refine below_drewN ?_ _ | with_reducible refine bal ?_ _ | ((with_reducible refine bst ?_ ?_ _); rotate_left; focus (first | exact Nat.le_refl _ | assumption | (simp; done) | (simp; omega) | omega))))
  case pos =>
    obtain ⟨p, q, r, hs⟩ := h3
    have RP := read_prog l
    have hg := RP.1 p q r hs
    have hbad := RP.2 p q r hs
    have hne := three_ne hs
    have hj := join_split l
    have HS := Lib.hid hs
    clear RP
    by_cases h30 : 30 < l.length
    case pos =>
      have hr : readV l = .tuple #[stampV 0 0 0, .int .i64 3] := readV_none (hbad (.inl h30))
      have HR := Lib.hid hr
      have g30 : (30 : Int) < l.length := by omega
      clear hr hg hbad hne hj hs
      go_enter Tryd.func12, Tryd.ntmps12
      go_wp2_with fail
      refine (split_any l (by omega) _ (laid5_keep hL (bal (b0 w) _))).mono ?_
      rintro e w2 ⟨rfl, hw2⟩
      have hR2 : Blk w2 w.heap.size 23 #[.int .i64 0, .int .i64 0, .int .i64 0] := by rw [hw2]; exact (Blk.new w _ _).alloc _
      have hB2 : Below w.heap.size w w2 := by rw [hw2]; exact bal (bal (b0 w) _) _
      rw [HS.out] at hw2 ⊢
      clear hw2
      obtain ⟨lR, x0, x1, x2, y0, y1, y2⟩ := hR2.c3
      go_wp2
      refine bodyPost_ret (v := .tuple #[stampV 0 0 0, .int .i64 3]) (by simp [results, Tryd.results12, go_sem, *]) rfl ⟨by rw [HR.out] <;> rfl, ?_⟩
      (repeat (first | with_reducible exact b0 _ | with_reducible assumption | with_reducible refine Below.drew ?_ | with_reducible refine below_drewN ?_ _ | with_reducible refine bal ?_ _ | ((with_reducible refine bst ?_ ?_ _); rotate_left; focus (first | exact Nat.le_refl _ | assumption | (simp; done) | (simp; omega) | omega))))
    case neg =>
      have g30 : ¬ ((30 : Int) < l.length) := by omega
      have hpl : p.length ≤ 30 ∧ q.length ≤ 30 ∧ r.length ≤ 30 := by
        rw [hs] at hj
        have := congrArg List.length hj
        simp [joinL] at this
        omega
      obtain ⟨pl, ql, rl⟩ := hpl
      have AP := atoi_any p (by omega)
      have AQ := atoi_any q (by omega)
      have AR := atoi_any r (by omega)
      unfold AtoiOut at AP AQ AR
      obtain ⟨a, ha⟩ : ∃ a, atoiV p = a := ⟨_, rfl⟩
      obtain ⟨b, hb⟩ : ∃ a, atoiV q = a := ⟨_, rfl⟩
      obtain ⟨c, hc⟩ : ∃ a, atoiV r = a := ⟨_, rfl⟩
      rw [ha] at AP
      rw [hb] at AQ
      rw [hc] at AR
      rw [ha, hb, hc] at hg hbad
      have HG := Lib.hid hg
      have HBAD := Lib.hid hbad
      have HNE := Lib.hid hne
      clear hg hbad hne hj hs ha hb hc
      go_enter Tryd.func12, Tryd.ntmps12
      go_wp2_with fail
      refine (split_any l (by omega) _ (laid5_keep hL (bal (b0 w) _))).mono ?_
      rintro e w2 ⟨rfl, hw2⟩
      have hR2 : Blk w2 w.heap.size 23 #[.int .i64 0, .int .i64 0, .int .i64 0] := by rw [hw2]; exact (Blk.new w _ _).alloc _
      have hB2 : Below w.heap.size w w2 := by rw [hw2]; exact bal (bal (b0 w) _) _
      rw [HS.out] at hw2 ⊢
      have hS2 : Blk w2 (w.heap.size + 1) 9 #[strL p, strL q, strL r] := by rw [hw2]; exact Blk.new' _ _ _ _ (by simp)
      have hz2 : w2.heap.size = w.heap.size + 2 := by rw [hw2]; simp
      clear hw2
      have hmm : w.heap.size + 1 < w2.heap.size := by omega
      obtain ⟨lR, x0, x1, x2, y0, y1, y2⟩ := hR2.c3
      obtain ⟨lS, s0, s1, s2, t0, t1, t2⟩ := hS2.c3
      clear hz2
      go_wp2_with fail
      refine wp_loop_rounds 4 ?_
      rw [rounds_succ]
      go_wp2_with fail
      refine (AP _ (laid5_keep hL (bal hB2 _))).mono ?_
      rintro e w3 ⟨ev0, rfl, hb3⟩
      have hR3 : Blk w3 w.heap.size 23 #[.int .i64 0, .int .i64 0, .int .i64 0] := Blk.keep (hR2.alloc _) hb3
      have hS3 : Blk w3 (w.heap.size + 1) 9 #[strL p, strL q, strL r] := Blk.keep (hS2.alloc _) hb3
      have hN3 : Blk w3 w2.heap.size 47 #[.int .i64 0, .int .i64 0, .int .i64 0] := Blk.keep (Blk.new w2 _ _) hb3
      have hB3 : Below w.heap.size w w3 := bt (bal hB2 _) hb3
      clear lR x0 x1 x2 y0 y1 y2 lS s0 s1 s2 t0 t1 t2
      obtain ⟨lR, x0, x1, x2, y0, y1, y2⟩ := hR3.c3
      obtain ⟨lS, s0, s1, s2, t0, t1, t2⟩ := hS3.c3
      obtain ⟨lN, u0, u1, u2, v0, v1, v2⟩ := hN3.c3
      go_wp2_with fail
      rw [rounds_succ]
      go_wp2_with fail
      refine (AQ _ (laid5_keep hL (bst hB3 (by show _ ≤ w2.heap.size; have := hB2.size; omega) _))).mono ?_
      rintro e w4 ⟨ev1, rfl, hb4⟩
      have hR4 : Blk w4 w.heap.size 23 #[.int .i64 0, .int .i64 0, .int .i64 0] := Blk.keep (hR3.far (by show w.heap.size ≠ w2.heap.size; omega) _) hb4
      have hS4 : Blk w4 (w.heap.size + 1) 9 #[strL p, strL q, strL r] := Blk.keep (hS3.far (by show w.heap.size + 1 ≠ w2.heap.size; omega) _) hb4
      have hN4 : Blk w4 w2.heap.size 47 #[.int .i64 a, .int .i64 0, .int .i64 0] := Blk.keep (by have h := hN3.set 0 (.int .i64 a); simpa using h) hb4
      have hB4 : Below w.heap.size w w4 := bt (bst hB3 (by show _ ≤ w2.heap.size; have := hB2.size; omega) _) hb4
      clear lR x0 x1 x2 y0 y1 y2 lS s0 s1 s2 t0 t1 t2 lN u0 u1 u2 v0 v1 v2
      obtain ⟨lR, x0, x1, x2, y0, y1, y2⟩ := hR4.c3
      obtain ⟨lS, s0, s1, s2, t0, t1, t2⟩ := hS4.c3
      obtain ⟨lN, u0, u1, u2, v0, v1, v2⟩ := hN4.c3
      go_wp2_with fail
      rw [rounds_succ]
      go_wp2_with fail
      refine (AR _ (laid5_keep hL (bst hB4 (by show _ ≤ w2.heap.size; have := hB2.size; omega) _))).mono ?_
      rintro e w5 ⟨ev2, rfl, hb5⟩
      have hR5 : Blk w5 w.heap.size 23 #[.int .i64 0, .int .i64 0, .int .i64 0] := Blk.keep (hR4.far (by show w.heap.size ≠ w2.heap.size; omega) _) hb5
      have hS5 : Blk w5 (w.heap.size + 1) 9 #[strL p, strL q, strL r] := Blk.keep (hS4.far (by show w.heap.size + 1 ≠ w2.heap.size; omega) _) hb5
      have hN5 : Blk w5 w2.heap.size 47 #[.int .i64 a, .int .i64 b, .int .i64 0] := Blk.keep (by have h := hN4.set 1 (.int .i64 b); simpa using h) hb5
      have hB5 : Below w.heap.size w w5 := bt (bst hB4 (by show _ ≤ w2.heap.size; have := hB2.size; omega) _) hb5
      clear lR x0 x1 x2 y0 y1 y2 lS s0 s1 s2 t0 t1 t2 lN u0 u1 u2 v0 v1 v2
      obtain ⟨lR, x0, x1, x2, y0, y1, y2⟩ := hR5.c3
      obtain ⟨lS, s0, s1, s2, t0, t1, t2⟩ := hS5.c3
      obtain ⟨lN, u0, u1, u2, v0, v1, v2⟩ := hN5.c3
      go_wp2_with fail
      rw [rounds_succ]
      go_wp2_with fail
      have hN6 : Blk (w5.setCell ⟨w2.heap.size, 2, none⟩ (.int .i64 c)) w.heap.size 23 #[.int .i64 0, .int .i64 0, .int .i64 0] := hR5.far (by show w.heap.size ≠ w2.heap.size; omega) _
      have hB6 : Below w.heap.size w (w5.setCell ⟨w2.heap.size, 2, none⟩ (.int .i64 c)) := bst hB5 (by show _ ≤ w2.heap.size; have := hB2.size; omega) _
      have hz6 : (w5.setCell ⟨w2.heap.size, 2, none⟩ (.int .i64 c)).heap.size = w5.heap.size := by simp [World.setCell]
      generalize (w5.setCell ⟨w2.heap.size, 2, none⟩ (.int .i64 c)) = w6 at hN6 hB6 hz6 ⊢
      clear lR x0 x1 x2 y0 y1 y2 lS s0 s1 s2 t0 t1 t2 lN u0 u1 u2 v0 v1 v2 hR2 hS2 hR3 hS3 hN3 hR4 hS4 hN4 hR5 hS5 hN5
      have HZ6 := Lib.hid hz6
      clear hz6
      cases hq : rightI a b c with
      | false =>
        have hr : readV l = .tuple #[stampV 0 0 0, .int .i64 3] := readV_none (HBAD.out (.inr (.inl hq)))
        have HR := Lib.hid hr
        have n1 : l.isEmpty = false := by have := HNE.out; cases l <;> simp at this ⊢
        have n2 : (([] : List UInt8) == l) = false := by have := HNE.out; cases l <;> simp at this ⊢
        have n3 : (([] : List UInt8) != l) = true := by have := HNE.out; cases l <;> simp at this ⊢
        have n4 : (l == []) = false := by have := HNE.out; cases l <;> simp at this ⊢
        clear hr
        refine (show_bad a b c (by rw [← right_same]; exact hq) _).mono ?_
        rintro e w7 ⟨rfl, hb7⟩
        clear hq
        have hR7 : Blk w7 w.heap.size 23 #[.int .i64 0, .int .i64 0, .int .i64 0] := Blk.keep (hN6.alloc _) hb7
        have hB7 : Below w.heap.size w w7 := bt (bal hB6 _) hb7
        obtain ⟨lR, x0, x1, x2, y0, y1, y2⟩ := hR7.c3
        go_wp2
        refine bodyPost_ret (v := .tuple #[stampV 0 0 0, .int .i64 3]) (by simp [results, Tryd.results12, go_sem, *]) rfl ⟨by rw [HR.out] <;> rfl, ?_⟩
        (repeat (first | with_reducible exact b0 _ | with_reducible assumption | with_reducible refine Below.drew ?_ | with_reducible refine below_drewN ?_ _ | with_reducible refine bal ?_ _ | ((with_reducible refine bst ?_ ?_ _); rotate_left; focus (first | exact Nat.le_refl _ | assumption | (simp; done) | (simp; omega) | omega))))
      | true =>
        obtain ⟨⟨a0, a1⟩, ⟨b0', b1⟩, ⟨c0, c1⟩⟩ := right_parts3 hq
        obtain ⟨a, rfl⟩ := Int.eq_ofNat_of_zero_le a0
        obtain ⟨b, rfl⟩ := Int.eq_ofNat_of_zero_le b0'
        obtain ⟨c, rfl⟩ := Int.eq_ofNat_of_zero_le c0
        have hg := HG.out (by omega) hq
        have hbad := fun h => HBAD.out (.inr (.inr h))
        simp only [Int.toNat_natCast] at hg hbad
        have SH := show_any a b c (by omega) (by omega) (by omega)
        obtain ⟨x, hx⟩ : ∃ x, wordL a b c = x := ⟨_, rfl⟩
        rw [hx] at hg hbad SH
        clear hx hq
        by_cases heq : x = l
        case pos =>
          have hr : readV l = .tuple #[stampV a b c, .int .i64 0] := readV_some (hg heq)
          have HR := Lib.hid hr
          subst heq
          have n1 : (x == x) = true := by simp
          have n2 : (x != x) = false := by simp
          clear hr hg hbad
          refine (SH _ (laid5_keep hL (bal hB6 _))).mono ?_
          rintro e w7 ⟨rfl, hb7⟩
          have hR7 : Blk w7 w.heap.size 23 #[.int .i64 0, .int .i64 0, .int .i64 0] := Blk.keep (hN6.alloc _) hb7
          have hO7 : Blk w7 w5.heap.size 23 #[.int .i64 (a : Int), .int .i64 (b : Int), .int .i64 (c : Int)] := by rw [← HZ6.out]; exact Blk.keep (Blk.new w6 _ _) hb7
          have hB7 : Below w.heap.size w w7 := bt (bal hB6 _) hb7
          obtain ⟨lR, x0, x1, x2, y0, y1, y2⟩ := hR7.c3
          obtain ⟨lO, u0, u1, u2, v0, v1, v2⟩ := hO7.c3
          go_wp2
          refine bodyPost_ret (v := .tuple #[stampV a b c, .int .i64 0]) (by simp [results, Tryd.results12, go_sem, *]) rfl ⟨by rw [HR.out] <;> rfl, ?_⟩
          (repeat (first | with_reducible exact b0 _ | with_reducible assumption | with_reducible refine Below.drew ?_ | with_reducible refine below_drewN ?_ _ | with_reducible refine bal ?_ _ | ((with_reducible refine bst ?_ ?_ _); rotate_left; focus (first | exact Nat.le_refl _ | assumption | (simp; done) | (simp; omega) | omega))))
        case neg =>
          have hr : readV l = .tuple #[stampV 0 0 0, .int .i64 3] := readV_none (hbad heq)
          have HR := Lib.hid hr
          have n1 : (x == l) = false := by simpa using heq
          have n2 : (x != l) = true := by simpa using heq
          clear hr hg hbad heq
          refine (SH _ (laid5_keep hL (bal hB6 _))).mono ?_
          rintro e w7 ⟨rfl, hb7⟩
          have hR7 : Blk w7 w.heap.size 23 #[.int .i64 0, .int .i64 0, .int .i64 0] := Blk.keep (hN6.alloc _) hb7
          have hB7 : Below w.heap.size w w7 := bt (bal hB6 _) hb7
          obtain ⟨lR, x0, x1, x2, y0, y1, y2⟩ := hR7.c3
          go_wp2
          refine bodyPost_ret (v := .tuple #[stampV 0 0 0, .int .i64 3]) (by simp [results, Tryd.results12, go_sem, *]) rfl ⟨by rw [HR.out] <;> rfl, ?_⟩
          (repeat (first | with_reducible exact b0 _ | with_reducible assumption | with_reducible refine Below.drew ?_ | with_reducible refine below_drewN ?_ _ | with_reducible refine bal ?_ _ | ((with_reducible refine bst ?_ ?_ _); rotate_left; focus (first | exact Nat.le_refl _ | assumption | (simp; done) | (simp; omega) | omega))))
end Go.Proofs.YtkhamjghanjikaaDoor
