/- The walks of the laws of the log: WalOpens, WalPuts. -/
import Derived.Test.YthjoamldmcnodaaWalW3
namespace Go.Proofs.Ythjoamldmcnodaa
open Go.RowKit
attribute [local go_sem] ByteArray.mk_append_mk ByteArray.extract_mk
attribute [local go_sem ↓] Go.wp_at_zero Go.wp_at_succ
theorem rd_own {w : World} {base n c : Nat} {e : TypeId} {A : Option Addr} {xs : List Value} (h : w.ownsRow base e 1 (.slice A n c) n xs) : Rd w w.heap.size 1 A n xs := Rd.of_own h
theorem w97 : (wrapL [97]).length = 6 := by rw [wrapL_len]; decide
theorem put97 : putW ⟨[], [], 0, false, false⟩ [97] = (⟨wrapL [97], [], 0, false, false⟩, 0) := by
  have h := putW_free [] [97] (by rw [w97]; decide)
  rw [show wrapsL [] = [] from rfl] at h
  rw [h]
  simp [wraps_one]
theorem open97 : openW ⟨wrapL [97], [], 0, false, false⟩ = (⟨wrapL [97], [], 0, false, false⟩, [[97]], 0) := by
  have h := openW_whole [[97]] 0 false (by simp) (by rw [wraps_one]; unfold rightTp; simp [w97])
  rw [wraps_one] at h
  exact h
set_option maxHeartbeats 3200000 in
set_option maxRecDepth 100000 in
theorem awake13 (w : World) : Calls Try.prog 9 #[] w fun e w' => e = .returned (.bool true) ∧ Below w.heap.size w w' := by
  go_enter Try.func9, Try.ntmps9
  have hB0 : Below w.heap.size w w := b0 w
  go_wp2_with fail
  refine (walput_any [] [] 0 false false (by simp) (by simp) [97] (by simp) _).mono ?_
  rintro e w1 ⟨rfl, hb1⟩
  rw [put97]
  simp only [tapeV]
  obtain ⟨fb, hW⟩ : ∃ y, wrapL [97] = y := ⟨_, rfl⟩
  have h6 := w97
  rw [hW] at h6
  have HW := Lib.hid hW
  rw [hW]
  clear hW
  have hB1 : Below w.heap.size w w1 := bt (hB0) hb1
  have ho := open97
  rw [HW.out] at ho
  have HO := Lib.hid ho
  have h6' : fb.length ≤ 140737488351232 := by omega
  have H6 := Lib.hid h6
  clear ho h6
  go_wp2_with fail
  refine (walopen_any fb [] 0 false false h6' (by simp) _).mono ?_
  rintro e w2 ⟨A, cap, rfl, Oa2, hb2⟩
  have Gt2 : Blk w2 (w1.heap.size) 26 #[.string ⟨fb.toArray⟩, .string ⟨#[]⟩, .int .i64 0, .bool false, .bool false] := Blk.keep (Blk.new' _ _ _ _ (by simp)) hb2
  have hB2 : Below w.heap.size w w2 := bt (bal (hB1) _) hb2
  rw [HO.out] at Oa2 ⊢
  simp only at Oa2
  simp only [tapeV]
  obtain ⟨tl, tc0, tc1, tc2, tc3, tc4, tf0, tf1, tf2, tf3, tf4⟩ := Gt2.c5
  go_upto_region 3 with (fail)
  have hsz1 := hB1.size
  obtain ⟨w3, hw3⟩ : ∃ W : World, W = (((((w2).setCell ⟨w1.heap.size, 0, none⟩ (.string ⟨fb.toArray⟩)).setCell ⟨w1.heap.size, 1, none⟩ (.string ⟨#[]⟩)).setCell ⟨w1.heap.size, 2, none⟩ (.int .i64 0)).setCell ⟨w1.heap.size, 3, none⟩ (.bool false)).setCell ⟨w1.heap.size, 4, none⟩ (.bool false) := ⟨_, rfl⟩
  have Gt3 : Blk w3 (w1.heap.size) 26 #[.string ⟨fb.toArray⟩, .string ⟨#[]⟩, .int .i64 0, .bool false, .bool false] := by rw [hw3]; exact put5_same Gt2
  have hB3 : Below w.heap.size w w3 := by rw [hw3]; exact put5_below (.string ⟨fb.toArray⟩) (.string ⟨#[]⟩) (.int .i64 0) (.bool false) (.bool false) hB2 (by first | exact Nat.le_refl _ | omega)
  have Oa3 : w3.ownsRow (w1.alloc (.cells #[.string ⟨fb.toArray⟩, .string ⟨#[]⟩, .int .i64 0, .bool false, .bool false] 26)).heap.size 9 1 (.slice A [[97]].length cap) [[97]].length ([[97]].map strL) := by rw [hw3]; exact own_put5 (.string ⟨fb.toArray⟩) (.string ⟨#[]⟩) (.int .i64 0) (.bool false) (.bool false) Oa2 (by simp; try omega)
  rw [← hw3]
  clear hw3
  clear hsz1
  clear tl tc0 tc1 tc2 tc3 tc4 tf0 tf1 tf2 tf3 tf4
  obtain ⟨tl, tc0, tc1, tc2, tc3, tc4, tf0, tf1, tf2, tf3, tf4⟩ := Gt3.c5
  have hR := Rd.of_own Oa3
  obtain ⟨b, off, rfl, hlt, hc⟩ := hR.2 (by simp)
  have g0 := hc 0 (strL [97]) (by simp)
  rw [Nat.add_zero] at g0
  have h6i : ((fb.length : Int) == 6) = true := by rw [H6.out]; rfl
  clear hc hR Oa2 Oa3
  go_wp2
  go_ret
  exact ⟨rfl, by (repeat (first | with_reducible exact b0 _ | with_reducible assumption | with_reducible refine Below.drew ?_ | with_reducible refine below_drewN ?_ _ | with_reducible refine bal ?_ _ | ((with_reducible refine bst ?_ ?_ _); rotate_left; focus (first | exact Nat.le_refl _ | assumption | (simp; done) | (simp; omega) | omega)) | exact below_left (by with_reducible assumption)))⟩
set_option maxHeartbeats 3200000 in
set_option maxRecDepth 100000 in
theorem walPuts_walk (f l : List UInt8) (n : Int) (r d : Bool) (hf : f.length ≤ 140737488351232) (hl : l.length ≤ 140737488351232) (_hn : (Lit.int .i64 n).wf = true) (x : List UInt8) (_hx : x.length ≤ 140737488351232) (w : World) :
    Calls Try.prog 6 #[tapeV ⟨f, l, n, r, d⟩, .string ⟨x.toArray⟩] w fun e w' => e = .returned (.bool true) ∧ Below w.heap.size w w' := by
  by_cases Bf : 4096 < f.length
  case pos =>
    have gf : (4096 : Int) < f.length := by omega
    have m1 := hf
    have m2 := hl
    go_enter Try.func6, Try.ntmps6
    have hB0 : Below w.heap.size w w := b0 w
    go_wp2_with fail
    refine (awake13 _).mono ?_
    rintro e w1 ⟨rfl, hb1⟩
    go_wp2
    go_ret
    exact ⟨rfl, bt (by (repeat (first | with_reducible exact b0 _ | with_reducible assumption | with_reducible refine Below.drew ?_ | with_reducible refine below_drewN ?_ _ | with_reducible refine bal ?_ _ | ((with_reducible refine bst ?_ ?_ _); rotate_left; focus (first | exact Nat.le_refl _ | assumption | (simp; done) | (simp; omega) | omega)) | exact below_left (by with_reducible assumption)))) hb1⟩
  case neg =>
    have gf : ¬ ((4096 : Int) < f.length) := by omega
    by_cases Bl : 4096 < l.length
    case pos =>
      have gl : (4096 : Int) < l.length := by omega
      have m1 := hf
      have m2 := hl
      go_enter Try.func6, Try.ntmps6
      have hB0 : Below w.heap.size w w := b0 w
      go_wp2_with fail
      refine (awake13 _).mono ?_
      rintro e w1 ⟨rfl, hb1⟩
      go_wp2
      go_ret
      exact ⟨rfl, bt (by (repeat (first | with_reducible exact b0 _ | with_reducible assumption | with_reducible refine Below.drew ?_ | with_reducible refine below_drewN ?_ _ | with_reducible refine bal ?_ _ | ((with_reducible refine bst ?_ ?_ _); rotate_left; focus (first | exact Nat.le_refl _ | assumption | (simp; done) | (simp; omega) | omega)) | exact below_left (by with_reducible assumption)))) hb1⟩
    case neg =>
      have gl : ¬ ((4096 : Int) < l.length) := by omega
      by_cases Bx : 4096 < x.length
      case pos =>
        have gx : (4096 : Int) < x.length := by omega
        have m1 := hf
        have m2 := hl
        go_enter Try.func6, Try.ntmps6
        have hB0 : Below w.heap.size w w := b0 w
        go_wp2_with fail
        refine (awake13 _).mono ?_
        rintro e w1 ⟨rfl, hb1⟩
        go_wp2
        go_ret
        exact ⟨rfl, bt (by (repeat (first | with_reducible exact b0 _ | with_reducible assumption | with_reducible refine Below.drew ?_ | with_reducible refine below_drewN ?_ _ | with_reducible refine bal ?_ _ | ((with_reducible refine bst ?_ ?_ _); rotate_left; focus (first | exact Nat.le_refl _ | assumption | (simp; done) | (simp; omega) | omega)) | exact below_left (by with_reducible assumption)))) hb1⟩
      case neg =>
        have gx : ¬ ((4096 : Int) < x.length) := by omega
        obtain ⟨⟨⟨f1, l1, n1, r1, d1⟩, e1⟩, h1⟩ : ∃ y : Tp × Nat, putW ⟨f, l, n, r, d⟩ x = y := ⟨_, rfl⟩
        obtain ⟨⟨⟨f2, l2, n2, r2, d2⟩, e2⟩, h2⟩ : ∃ y : Tp × Nat, renewW ⟨f, l, n, r, d⟩ x = y := ⟨_, rfl⟩
        have H1 := Lib.hid h1
        have H2 := Lib.hid h2
        clear h1 h2
        go_enter Try.func6, Try.ntmps6
        have hB0 : Below w.heap.size w w := b0 w
        go_wp2_with fail
        refine (walput_any f l n r d hf hl x (by omega) _).mono ?_
        rintro e w1 ⟨rfl, hb1⟩
        rw [H1.out]
        simp only [tapeV]
        have Gt1 : Blk w1 (w.heap.size) 26 #[.string ⟨f.toArray⟩, .string ⟨l.toArray⟩, .int .i64 n, .bool r, .bool d] := Blk.keep (Blk.new' _ _ _ _ (by simp)) hb1
        have hB1 : Below w.heap.size w w1 := bt (bal (hB0) _) hb1
        obtain ⟨tl, tc0, tc1, tc2, tc3, tc4, tf0, tf1, tf2, tf3, tf4⟩ := Gt1.c5
        go_wp2_with fail
        refine (refwalput_any f l n r d hf hl x (by omega) _).mono ?_
        rintro e w2 ⟨rfl, hb2⟩
        rw [H1.out]
        simp only [tapeV]
        have Gt2 := Blk.keep (Blk.alloc (Gt1) _) hb2
        have Ga2 : Blk w2 (w1.heap.size) 26 #[.string ⟨f1.toArray⟩, .string ⟨l1.toArray⟩, .int .i64 n1, .bool r1, .bool d1] := Blk.keep (Blk.new' _ _ _ _ (by simp)) hb2
        have hB2 : Below w.heap.size w w2 := bt (bal (hB1) _) hb2
        clear tl tc0 tc1 tc2 tc3 tc4 tf0 tf1 tf2 tf3 tf4
        obtain ⟨tl, tc0, tc1, tc2, tc3, tc4, tf0, tf1, tf2, tf3, tf4⟩ := Gt2.c5
        go_wp2_with fail
        refine (walrenew_any f l n r d hf hl x (by omega) _).mono ?_
        rintro e w3 ⟨rfl, hb3⟩
        rw [H2.out]
        simp only [tapeV]
        have Gt3 := Blk.keep (Blk.alloc (Gt2) _) hb3
        have Ga3 := Blk.keep (Blk.alloc (Ga2) _) hb3
        have Gb3 : Blk w3 (w2.heap.size) 34 #[.string ⟨f1.toArray⟩, .string ⟨l1.toArray⟩, .int .i64 n1, .bool r1, .bool d1] := Blk.keep (Blk.new' _ _ _ _ (by simp)) hb3
        have hB3 : Below w.heap.size w w3 := bt (bal (hB2) _) hb3
        clear tl tc0 tc1 tc2 tc3 tc4 tf0 tf1 tf2 tf3 tf4
        obtain ⟨tl, tc0, tc1, tc2, tc3, tc4, tf0, tf1, tf2, tf3, tf4⟩ := Gt3.c5
        go_wp2_with fail
        refine (refwalrenew_any f l n r d hf hl x (by omega) _).mono ?_
        rintro e w4 ⟨rfl, hb4⟩
        rw [H2.out]
        simp only [tapeV]
        have Gt4 := Blk.keep (Blk.alloc (Gt3) _) hb4
        have Ga4 := Blk.keep (Blk.alloc (Ga3) _) hb4
        have Gb4 := Blk.keep (Blk.alloc (Gb3) _) hb4
        have Gc4 : Blk w4 (w3.heap.size) 26 #[.string ⟨f2.toArray⟩, .string ⟨l2.toArray⟩, .int .i64 n2, .bool r2, .bool d2] := Blk.keep (Blk.new' _ _ _ _ (by simp)) hb4
        have hB4 : Below w.heap.size w w4 := bt (bal (hB3) _) hb4
        clear tl tc0 tc1 tc2 tc3 tc4 tf0 tf1 tf2 tf3 tf4
        obtain ⟨al, ac0, ac1, ac2, ac3, ac4, af0, af1, af2, af3, af4⟩ := Ga4.c5
        obtain ⟨bl, bc0, bc1, bc2, bc3, bc4, bf0, bf1, bf2, bf3, bf4⟩ := Gb4.c5
        obtain ⟨cl, cc0, cc1, cc2, cc3, cc4, cf0, cf1, cf2, cf3, cf4⟩ := Gc4.c5
        go_wp2_with fail
        refine (awake13 _).mono ?_
        rintro e w5 ⟨rfl, hb5⟩
        have Gt5 := Blk.keep (Blk.alloc (Gt4) _) hb5
        have Ga5 := Blk.keep (Blk.alloc (Ga4) _) hb5
        have Gb5 := Blk.keep (Blk.alloc (Gb4) _) hb5
        have Gc5 := Blk.keep (Blk.alloc (Gc4) _) hb5
        have Go5 : Blk w5 (w4.heap.size) 34 #[.string ⟨f2.toArray⟩, .string ⟨l2.toArray⟩, .int .i64 n2, .bool r2, .bool d2] := Blk.keep (Blk.new' _ _ _ _ (by simp)) hb5
        have hB5 : Below w.heap.size w w5 := bt (bal (hB4) _) hb5
        clear al ac0 ac1 ac2 ac3 ac4 af0 af1 af2 af3 af4 bl bc0 bc1 bc2 bc3 bc4 bf0 bf1 bf2 bf3 bf4 cl cc0 cc1 cc2 cc3 cc4 cf0 cf1 cf2 cf3 cf4
        go_wp2
        go_ret
        exact ⟨rfl, by (repeat (first | with_reducible exact b0 _ | with_reducible assumption | with_reducible refine Below.drew ?_ | with_reducible refine below_drewN ?_ _ | with_reducible refine bal ?_ _ | ((with_reducible refine bst ?_ ?_ _); rotate_left; focus (first | exact Nat.le_refl _ | assumption | (simp; done) | (simp; omega) | omega)) | exact below_left (by with_reducible assumption)))⟩
theorem open_small (t : Tp) (h : (t.f ++ t.lo).length ≤ 10000) : (openW t).2.1.length ≤ 2000 := by
  have hc := all_count (t.f ++ t.lo)
  unfold openW
  split
  · simp
  · split
    · split
      · simp
      · simp only; omega
    · simp only; omega
set_option maxHeartbeats 3200000 in
set_option maxRecDepth 100000 in
theorem walOpens_walk (f l : List UInt8) (n : Int) (r d : Bool) (hf : f.length ≤ 140737488351232) (hl : l.length ≤ 140737488351232) (_hn : (Lit.int .i64 n).wf = true) (w : World) :
    Calls Try.prog 4 #[tapeV ⟨f, l, n, r, d⟩] w fun e w' => e = .returned (.bool true) ∧ Below w.heap.size w w' := by
  by_cases Bf : 4096 < f.length
  case pos =>
    have gf : (4096 : Int) < f.length := by omega
    have m1 := hf
    have m2 := hl
    go_enter Try.func4, Try.ntmps4
    have hB0 : Below w.heap.size w w := b0 w
    go_wp2_with fail
    refine (awake13 _).mono ?_
    rintro e w1 ⟨rfl, hb1⟩
    go_wp2
    go_ret
    exact ⟨rfl, bt (by (repeat (first | with_reducible exact b0 _ | with_reducible assumption | with_reducible refine Below.drew ?_ | with_reducible refine below_drewN ?_ _ | with_reducible refine bal ?_ _ | ((with_reducible refine bst ?_ ?_ _); rotate_left; focus (first | exact Nat.le_refl _ | assumption | (simp; done) | (simp; omega) | omega)) | exact below_left (by with_reducible assumption)))) hb1⟩
  case neg =>
    have gf : ¬ ((4096 : Int) < f.length) := by omega
    by_cases Bl : 4096 < l.length
    case pos =>
      have gl : (4096 : Int) < l.length := by omega
      have m1 := hf
      have m2 := hl
      go_enter Try.func4, Try.ntmps4
      have hB0 : Below w.heap.size w w := b0 w
      go_wp2_with fail
      refine (awake13 _).mono ?_
      rintro e w1 ⟨rfl, hb1⟩
      go_wp2
      go_ret
      exact ⟨rfl, bt (by (repeat (first | with_reducible exact b0 _ | with_reducible assumption | with_reducible refine Below.drew ?_ | with_reducible refine below_drewN ?_ _ | with_reducible refine bal ?_ _ | ((with_reducible refine bst ?_ ?_ _); rotate_left; focus (first | exact Nat.le_refl _ | assumption | (simp; done) | (simp; omega) | omega)) | exact below_left (by with_reducible assumption)))) hb1⟩
    case neg =>
      have gl : ¬ ((4096 : Int) < l.length) := by omega
      obtain ⟨⟨⟨f1, l1, n1, r1, d1⟩, ls, e1⟩, h1⟩ : ∃ y : Tp × List (List UInt8) × Nat, openW ⟨f, l, n, r, d⟩ = y := ⟨_, rfl⟩
      have H1 := Lib.hid h1
      clear h1
      have LA := refall_any (f ++ l) (by simp; omega)
      have LR := records_any (f ++ l) (by simp; omega)
      obtain ⟨ks, hks⟩ : ∃ y, allL (f ++ l) = y := ⟨_, rfl⟩
      have hcn := all_count (f ++ l)
      rw [hks] at LA LR hcn
      have hll : (f ++ l).length = f.length + l.length := by simp
      rw [hll] at hcn
      clear hks hll
      have hsz : Hid (ls.length ≤ 2000) := Lib.hid (by rw [← show (openW ⟨f, l, n, r, d⟩).2.1 = ls from by rw [H1.out]]; exact open_small _ (by simp; omega))
      go_enter Try.func4, Try.ntmps4
      have hB0 : Below w.heap.size w w := b0 w
      go_wp2_with fail
      refine (walopen_any f l n r d hf hl _).mono ?_
      rintro e w1 ⟨A1, c1, rfl, Oa1, hb1⟩
      have Gt1 : Blk w1 (w.heap.size) 26 #[.string ⟨f.toArray⟩, .string ⟨l.toArray⟩, .int .i64 n, .bool r, .bool d] := Blk.keep (Blk.new' _ _ _ _ (by simp)) hb1
      have hB1 : Below w.heap.size w w1 := bt (bal (hB0) _) hb1
      rw [H1.out] at Oa1 ⊢
      simp only [tapeV]
      obtain ⟨tl, tc0, tc1, tc2, tc3, tc4, tf0, tf1, tf2, tf3, tf4⟩ := Gt1.c5
      go_wp2_with fail
      refine (refwalopen_any f l n r d hf hl _).mono ?_
      rintro e w2 ⟨A2, c2, rfl, Ob2, hb2⟩
      have Gt2 := Blk.keep (Blk.alloc (Gt1) _) hb2
      have Ga2 : Blk w2 (w1.heap.size) 26 #[.string ⟨f1.toArray⟩, .string ⟨l1.toArray⟩, .int .i64 n1, .bool r1, .bool d1] := Blk.keep (Blk.new' _ _ _ _ (by simp)) hb2
      have hB2 : Below w.heap.size w w2 := bt (bal (hB1) _) hb2
      have Oa2 := own_below (World.ownsRow.alloc (Oa1) _) hb2 (Nat.le_refl _)
      clear tl tc0 tc1 tc2 tc3 tc4 tf0 tf1 tf2 tf3 tf4
      rw [H1.out] at Ob2 ⊢
      simp only [tapeV]
      obtain ⟨tl, tc0, tc1, tc2, tc3, tc4, tf0, tf1, tf2, tf3, tf4⟩ := Gt2.c5
      go_wp2_with fail
      refine (LA _).mono ?_
      rintro e w3 ⟨A3, c3, rfl, Ok3, hb3⟩
      have Gt3 := Blk.keep (Blk.alloc (Gt2) _) hb3
      have Ga3 := Blk.keep (Blk.alloc (Ga2) _) hb3
      have Gb3 : Blk w3 (w2.heap.size) 34 #[.string ⟨f1.toArray⟩, .string ⟨l1.toArray⟩, .int .i64 n1, .bool r1, .bool d1] := Blk.keep (Blk.new' _ _ _ _ (by simp)) hb3
      have hB3 : Below w.heap.size w w3 := bt (bal (hB2) _) hb3
      have Oa3 := own_below (World.ownsRow.alloc (Oa2) _) hb3 (Nat.le_refl _)
      have Ob3 := own_below (World.ownsRow.alloc (Ob2) _) hb3 (Nat.le_refl _)
      clear tl tc0 tc1 tc2 tc3 tc4 tf0 tf1 tf2 tf3 tf4
      obtain ⟨tl, tc0, tc1, tc2, tc3, tc4, tf0, tf1, tf2, tf3, tf4⟩ := Gt3.c5
      obtain ⟨al, ac0, ac1, ac2, ac3, ac4, af0, af1, af2, af3, af4⟩ := Ga3.c5
      obtain ⟨bl, bc0, bc1, bc2, bc3, bc4, bf0, bf1, bf2, bf3, bf4⟩ := Gb3.c5
      go_wp2_with fail
      refine (same_any ls ls A1 A2 ls.length ls.length c1 c2 _ rfl rfl (by have := hsz.out; omega) (by have := hsz.out; omega) (rd_own Oa3) (rd_own Ob3)).mono ?_
      rintro e w4 ⟨rfl, hb4⟩
      rw [show (ls == ls) = true from by simp]
      have Gt4 := Blk.keep (Gt3) hb4
      have Ga4 := Blk.keep (Ga3) hb4
      have Gb4 := Blk.keep (Gb3) hb4
      have hB4 : Below w.heap.size w w4 := bt (hB3) hb4
      have Oa4 := own_below (Oa3) hb4 (Nat.le_refl _)
      have Ob4 := own_below (Ob3) hb4 (Nat.le_refl _)
      have Ok4 := own_below (Ok3) hb4 (Nat.le_refl _)
      clear tl tc0 tc1 tc2 tc3 tc4 tf0 tf1 tf2 tf3 tf4 al ac0 ac1 ac2 ac3 ac4 af0 af1 af2 af3 af4 bl bc0 bc1 bc2 bc3 bc4 bf0 bf1 bf2 bf3 bf4
      obtain ⟨tl, tc0, tc1, tc2, tc3, tc4, tf0, tf1, tf2, tf3, tf4⟩ := Gt4.c5
      obtain ⟨al, ac0, ac1, ac2, ac3, ac4, af0, af1, af2, af3, af4⟩ := Ga4.c5
      obtain ⟨bl, bc0, bc1, bc2, bc3, bc4, bf0, bf1, bf2, bf3, bf4⟩ := Gb4.c5
      go_wp2_with fail
      refine (LR _).mono ?_
      rintro e w5 ⟨A4, c4, rfl, Om5, hb5⟩
      have Gt5 := Blk.keep (Gt4) hb5
      have Ga5 := Blk.keep (Ga4) hb5
      have Gb5 := Blk.keep (Gb4) hb5
      have hB5 : Below w.heap.size w w5 := bt (hB4) hb5
      have Oa5 := own_below (Oa4) hb5 (Nat.le_refl _)
      have Ob5 := own_below (Ob4) hb5 (Nat.le_refl _)
      have Ok5 := own_below (Ok4) hb5 (Nat.le_refl _)
      clear tl tc0 tc1 tc2 tc3 tc4 tf0 tf1 tf2 tf3 tf4 al ac0 ac1 ac2 ac3 ac4 af0 af1 af2 af3 af4 bl bc0 bc1 bc2 bc3 bc4 bf0 bf1 bf2 bf3 bf4
      obtain ⟨tl, tc0, tc1, tc2, tc3, tc4, tf0, tf1, tf2, tf3, tf4⟩ := Gt5.c5
      obtain ⟨al, ac0, ac1, ac2, ac3, ac4, af0, af1, af2, af3, af4⟩ := Ga5.c5
      obtain ⟨bl, bc0, bc1, bc2, bc3, bc4, bf0, bf1, bf2, bf3, bf4⟩ := Gb5.c5
      go_wp2_with fail
      refine (same_any ks ks A4 A3 ks.length ks.length c4 c3 _ rfl rfl (by omega) (by omega) (rd_own Om5) (rd_own Ok5)).mono ?_
      rintro e w6 ⟨rfl, hb6⟩
      rw [show (ks == ks) = true from by simp]
      have Gt6 := Blk.keep (Gt5) hb6
      have Ga6 := Blk.keep (Ga5) hb6
      have Gb6 := Blk.keep (Gb5) hb6
      have hB6 : Below w.heap.size w w6 := bt (hB5) hb6
      have Oa6 := own_below (Oa5) hb6 (Nat.le_refl _)
      have Ob6 := own_below (Ob5) hb6 (Nat.le_refl _)
      have Ok6 := own_below (Ok5) hb6 (Nat.le_refl _)
      have Om6 := own_below (Om5) hb6 (Nat.le_refl _)
      clear tl tc0 tc1 tc2 tc3 tc4 tf0 tf1 tf2 tf3 tf4 al ac0 ac1 ac2 ac3 ac4 af0 af1 af2 af3 af4 bl bc0 bc1 bc2 bc3 bc4 bf0 bf1 bf2 bf3 bf4
      obtain ⟨tl, tc0, tc1, tc2, tc3, tc4, tf0, tf1, tf2, tf3, tf4⟩ := Gt6.c5
      obtain ⟨al, ac0, ac1, ac2, ac3, ac4, af0, af1, af2, af3, af4⟩ := Ga6.c5
      obtain ⟨bl, bc0, bc1, bc2, bc3, bc4, bf0, bf1, bf2, bf3, bf4⟩ := Gb6.c5
      go_wp2_with fail
      refine (awake13 _).mono ?_
      rintro e w7 ⟨rfl, hb7⟩
      have Gt7 := Blk.keep (Gt6) hb7
      have Ga7 := Blk.keep (Ga6) hb7
      have Gb7 := Blk.keep (Gb6) hb7
      have hB7 : Below w.heap.size w w7 := bt (hB6) hb7
      have Oa7 := own_below (Oa6) hb7 (Nat.le_refl _)
      have Ob7 := own_below (Ob6) hb7 (Nat.le_refl _)
      have Ok7 := own_below (Ok6) hb7 (Nat.le_refl _)
      have Om7 := own_below (Om6) hb7 (Nat.le_refl _)
      clear tl tc0 tc1 tc2 tc3 tc4 tf0 tf1 tf2 tf3 tf4 al ac0 ac1 ac2 ac3 ac4 af0 af1 af2 af3 af4 bl bc0 bc1 bc2 bc3 bc4 bf0 bf1 bf2 bf3 bf4
      go_wp2
      go_ret
      exact ⟨rfl, by (repeat (first | with_reducible exact b0 _ | with_reducible assumption | with_reducible refine Below.drew ?_ | with_reducible refine below_drewN ?_ _ | with_reducible refine bal ?_ _ | ((with_reducible refine bst ?_ ?_ _); rotate_left; focus (first | exact Nat.le_refl _ | assumption | (simp; done) | (simp; omega) | omega)) | exact below_left (by with_reducible assumption)))⟩
end Go.Proofs.Ythjoamldmcnodaa
