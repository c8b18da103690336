/- The walk of the law TapeCalls. -/
import Derived.Test.YtbekiimgbpmomaaLaw12
import Derived.Test.YtbekiimgbpmomaaTape4W
import Derived.Test.YtbekiimgbpmomaaLaw12c
import Derived.Test.YtbekiimgbpmomaaDo0W
import Derived.Test.YtbekiimgbpmomaaDo1W
import Derived.Test.YtbekiimgbpmomaaDo2W
import Derived.Test.YtbekiimgbpmomaaDo3W
import Derived.Test.YtbekiimgbpmomaaRA12W
import Derived.Deep.RegionHeld3
import Derived.Deep.DrawnRows
import Derived.Deep.DeepCutAuto
namespace Go.Proofs.Ytbekiimgbpmomaa
open Go.RowKit
attribute [local go_sem] ByteArray.mk_append_mk ByteArray.extract_mk
attribute [local go_sem ↓] Go.wp_at_zero Go.wp_at_succ
def TwoCut (W : World) (T : TypeId) (cu cv : Array Value) (s23 s24 : Value) (wx : World) : Prop :=
  ∃ gu gv, s23 = .pointer (some ⟨gu, 0, none⟩) ∧ s24 = .pointer (some ⟨gv, 0, none⟩) ∧ W.heap.size ≤ gu ∧ W.heap.size ≤ gv ∧ Blk wx gu T cu ∧ Blk wx gv T cv ∧ Below W.heap.size W wx
set_option maxHeartbeats 6400000 in
set_option maxRecDepth 100000 in
theorem tapeCalls_walk (f l : List UInt8) (n : Int) (r d : Bool) (hf : f.length ≤ 140737488351232) (hl : l.length ≤ 140737488351232) (_hn : (Lit.int .i64 n).wf = true) (s : List UInt8) (hs : s.length ≤ 140737488351232) (k : Int) (hkw : (Lit.int .i64 k).wf = true) (w : World) :
    Calls Try.prog 7 #[tapeV ⟨f, l, n, r, d⟩, .string ⟨s.toArray⟩, .int .i64 k] w fun e w' => e = .returned (.bool true) ∧ Below w.heap.size w w' := by
  have hkk := bounds_i64 hkw
  clear hkw _hn
  obtain ⟨⟨⟨f1, l1, n1, r1, d1⟩, e1⟩, h1⟩ : ∃ x : Tp × Nat, appendT ⟨f, l, n, r, d⟩ s = x := ⟨_, rfl⟩
  have H1 := Lib.hid h1
  clear h1
  obtain ⟨⟨⟨f2, l2, n2, r2, d2⟩, e2⟩, h2⟩ : ∃ x : Tp × Nat, syncT ⟨f, l, n, r, d⟩ = x := ⟨_, rfl⟩
  have H2 := Lib.hid h2
  clear h2
  obtain ⟨⟨⟨f3, l3, n3, r3, d3⟩, e3⟩, h3⟩ : ∃ x : Tp × Nat, cutT ⟨f, l, n, r, d⟩ k = x := ⟨_, rfl⟩
  have H3 := Lib.hid h3
  clear h3
  obtain ⟨⟨⟨f4, l4, n4, r4, d4⟩, e4⟩, h4⟩ : ∃ x : Tp × Nat, swapT ⟨f, l, n, r, d⟩ s = x := ⟨_, rfl⟩
  have H4 := Lib.hid h4
  clear h4
  obtain ⟨⟨f5, l5, n5, r5, d5⟩, h5⟩ : ∃ x : Tp, armT ⟨f, l, n, r, d⟩ k = x := ⟨_, rfl⟩
  have H5 := Lib.hid h5
  clear h5
  obtain ⟨⟨f6, l6, n6, r6, d6⟩, h6⟩ : ∃ x : Tp, crashT ⟨f, l, n, r, d⟩ k = x := ⟨_, rfl⟩
  have H6 := Lib.hid h6
  clear h6
  obtain ⟨q, hq⟩ : ∃ q, rightTp ⟨f, l, n, r, d⟩ = q := ⟨_, rfl⟩
  have HQ := Lib.hid hq
  clear hq
  obtain ⟨sm, hsm⟩ : ∃ q, smallB f l = q := ⟨_, rfl⟩
  have HM := Lib.hid hsm
  clear hsm
  by_cases hbig : sm = false ∨ 4096 < s.length
  case pos =>
    cases sm
    case false =>
      clear hbig
      go_enter Try.func7, Try.ntmps7
      go_wp2_with fail
      refine (small_any f l n r d hf hl _).mono ?_
      rintro e w1 ⟨rfl, hb1⟩
      rw [HM.out]
      go_wp2_with fail
      refine (awake12 _).mono ?_
      rintro e w2 ⟨rfl, hb2⟩
      go_wp2
      go_ret
      exact ⟨rfl, bt (bt (bal (b0 w) _) hb1) hb2⟩
    case true =>
      have hs4 : (4096 : Int) < s.length := by rcases hbig with h | h; cases h; omega
      clear hbig
      go_enter Try.func7, Try.ntmps7
      go_wp2_with fail
      refine (small_any f l n r d hf hl _).mono ?_
      rintro e w1 ⟨rfl, hb1⟩
      rw [HM.out]
      go_wp2_with fail
      refine (awake12 _).mono ?_
      rintro e w2 ⟨rfl, hb2⟩
      go_wp2
      go_ret
      exact ⟨rfl, bt (bt (bal (b0 w) _) hb1) hb2⟩
  case neg =>
  have hsm1 : sm = true := by cases sm; exact absurd (.inl rfl) hbig; rfl
  have hs4 : ¬ ((4096 : Int) < s.length) := by have h5 : ¬ 4096 < s.length := fun h => hbig (.inr h); omega
  clear hbig
  subst hsm1
  go_enter Try.func7, Try.ntmps7
  go_wp2_with fail
  refine (small_any f l n r d hf hl _).mono ?_
  rintro e w1 ⟨rfl, hb1⟩
  rw [HM.out]
  have Gt1 : Blk w1 w.heap.size 25 #[.string ⟨f.toArray⟩, .string ⟨l.toArray⟩, .int .i64 n, .bool r, .bool d] := (Blk.new w _ _).keep hb1
  have hB1 : Below w.heap.size w w1 := bt (bal (b0 w) _) hb1
  obtain ⟨tl, tc0, tc1, tc2, tc3, tc4, tf0, tf1, tf2, tf3, tf4⟩ := Gt1.c5
  go_wp2_with fail
  refine (append_any f l n r d hf hl s hs _).mono ?_
  rintro e w2 ⟨rfl, hb2⟩
  rw [H1.out]
  simp only [tapeV]
  have Gt2 := Blk.keep (Gt1) hb2
  have hB2 : Below w.heap.size w w2 := bt (hB1) hb2
  clear tl tc0 tc1 tc2 tc3 tc4 tf0 tf1 tf2 tf3 tf4
  obtain ⟨tl, tc0, tc1, tc2, tc3, tc4, tf0, tf1, tf2, tf3, tf4⟩ := Gt2.c5
  go_wp2_with fail
  refine (sync_any f l n r d hf hl _).mono ?_
  rintro e w3 ⟨rfl, hb3⟩
  rw [H2.out]
  simp only [tapeV]
  have Gt3 := Blk.keep (Blk.alloc Gt2 _) hb3
  have Ga3 : Blk w3 w2.heap.size 25 #[.string ⟨f1.toArray⟩, .string ⟨l1.toArray⟩, .int .i64 n1, .bool r1, .bool d1] := Blk.keep (Blk.new w2 _ _) hb3
  have hB3 : Below w.heap.size w w3 := bt (bal hB2 _) hb3
  clear tl tc0 tc1 tc2 tc3 tc4 tf0 tf1 tf2 tf3 tf4
  obtain ⟨tl, tc0, tc1, tc2, tc3, tc4, tf0, tf1, tf2, tf3, tf4⟩ := Gt3.c5
  go_wp2_with fail
  refine (cut_any f l n r d hf hl k hkk _).mono ?_
  rintro e w4 ⟨rfl, hb4⟩
  rw [H3.out]
  simp only [tapeV]
  have Gt4 := Blk.keep (Blk.alloc Gt3 _) hb4
  have Ga4 := Blk.keep (Blk.alloc Ga3 _) hb4
  have Gb4 : Blk w4 w3.heap.size 25 #[.string ⟨f2.toArray⟩, .string ⟨l2.toArray⟩, .int .i64 n2, .bool r2, .bool d2] := Blk.keep (Blk.new w3 _ _) hb4
  have hB4 : Below w.heap.size w w4 := bt (bal hB3 _) hb4
  clear tl tc0 tc1 tc2 tc3 tc4 tf0 tf1 tf2 tf3 tf4
  obtain ⟨tl, tc0, tc1, tc2, tc3, tc4, tf0, tf1, tf2, tf3, tf4⟩ := Gt4.c5
  go_wp2_with fail
  refine (swap_any f l n r d hf hl s hs _).mono ?_
  rintro e w5 ⟨rfl, hb5⟩
  rw [H4.out]
  simp only [tapeV]
  have Gt5 := Blk.keep (Blk.alloc Gt4 _) hb5
  have Ga5 := Blk.keep (Blk.alloc Ga4 _) hb5
  have Gb5 := Blk.keep (Blk.alloc Gb4 _) hb5
  have Gc5 : Blk w5 w4.heap.size 25 #[.string ⟨f3.toArray⟩, .string ⟨l3.toArray⟩, .int .i64 n3, .bool r3, .bool d3] := Blk.keep (Blk.new w4 _ _) hb5
  have hB5 : Below w.heap.size w w5 := bt (bal hB4 _) hb5
  clear tl tc0 tc1 tc2 tc3 tc4 tf0 tf1 tf2 tf3 tf4
  obtain ⟨tl, tc0, tc1, tc2, tc3, tc4, tf0, tf1, tf2, tf3, tf4⟩ := Gt5.c5
  go_wp2_with fail
  refine (ref_any f l n r d _).mono ?_
  rintro e w6 ⟨rfl, hb6⟩
  have Gt6 := Blk.keep (Blk.alloc Gt5 _) hb6
  have Ga6 := Blk.keep (Blk.alloc Ga5 _) hb6
  have Gb6 := Blk.keep (Blk.alloc Gb5 _) hb6
  have Gc6 := Blk.keep (Blk.alloc Gc5 _) hb6
  have Gd6 : Blk w6 w5.heap.size 25 #[.string ⟨f4.toArray⟩, .string ⟨l4.toArray⟩, .int .i64 n4, .bool r4, .bool d4] := Blk.keep (Blk.new w5 _ _) hb6
  have hB6 : Below w.heap.size w w6 := bt (bal hB5 _) hb6
  clear tl tc0 tc1 tc2 tc3 tc4 tf0 tf1 tf2 tf3 tf4
  obtain ⟨tl, tc0, tc1, tc2, tc3, tc4, tf0, tf1, tf2, tf3, tf4⟩ := Gt6.c5
  go_wp2_with fail
  refine (refdo3_any f l n r d hf hl s hs _).mono ?_
  rintro e w7 ⟨rfl, hb7⟩
  rw [H4.out]
  simp only [tapeV]
  have Gt7 := Blk.keep (Gt6) hb7
  have Ga7 := Blk.keep (Ga6) hb7
  have Gb7 := Blk.keep (Gb6) hb7
  have Gc7 := Blk.keep (Gc6) hb7
  have Gd7 := Blk.keep (Gd6) hb7
  have hB7 : Below w.heap.size w w7 := bt (hB6) hb7
  clear tl tc0 tc1 tc2 tc3 tc4 tf0 tf1 tf2 tf3 tf4
  obtain ⟨tl, tc0, tc1, tc2, tc3, tc4, tf0, tf1, tf2, tf3, tf4⟩ := Gt7.c5
  go_upto_region 8 with (fail)
  obtain ⟨w8, hw8⟩ : ∃ W : World, W = w7.alloc (.cells #[.string ⟨f4.toArray⟩, .string ⟨l4.toArray⟩, .int .i64 n4, .bool r4, .bool d4] 35) := ⟨_, rfl⟩
  have Gt8 : Blk w8 w.heap.size 25 #[.string ⟨f.toArray⟩, .string ⟨l.toArray⟩, .int .i64 n, .bool r, .bool d] := by rw [hw8]; exact Gt7.alloc _
  have Ga8 : Blk w8 w2.heap.size 25 #[.string ⟨f1.toArray⟩, .string ⟨l1.toArray⟩, .int .i64 n1, .bool r1, .bool d1] := by rw [hw8]; exact Ga7.alloc _
  have Gb8 : Blk w8 w3.heap.size 25 #[.string ⟨f2.toArray⟩, .string ⟨l2.toArray⟩, .int .i64 n2, .bool r2, .bool d2] := by rw [hw8]; exact Gb7.alloc _
  have Gc8 : Blk w8 w4.heap.size 25 #[.string ⟨f3.toArray⟩, .string ⟨l3.toArray⟩, .int .i64 n3, .bool r3, .bool d3] := by rw [hw8]; exact Gc7.alloc _
  have Gd8 : Blk w8 w5.heap.size 25 #[.string ⟨f4.toArray⟩, .string ⟨l4.toArray⟩, .int .i64 n4, .bool r4, .bool d4] := by rw [hw8]; exact Gd7.alloc _
  have Go8 : Blk w8 w7.heap.size 35 #[.string ⟨f4.toArray⟩, .string ⟨l4.toArray⟩, .int .i64 n4, .bool r4, .bool d4] := by rw [hw8]; exact Blk.new w7 _ _
  have hB8 : Below w.heap.size w w8 := by rw [hw8]; exact bal hB7 _
  rw [← hw8]
  clear hw8
  clear tl tc0 tc1 tc2 tc3 tc4 tf0 tf1 tf2 tf3 tf4
  obtain ⟨dl, dc0, dc1, dc2, dc3, dc4, df0, df1, df2, df3, df4⟩ := Gd8.c5
  obtain ⟨ol, oc0, oc1, oc2, oc3, oc4, of0, of1, of2, of3, of4⟩ := Go8.c5
  have HS : ∀ w', Below w8.heap.size w8 w' → (Below w8.heap.size w8 w' ∧ w'.cell? ⟨w5.heap.size, 0, none⟩ = some (.string ⟨f4.toArray⟩) ∧ w'.cell? ⟨w5.heap.size, 1, none⟩ = some (.string ⟨l4.toArray⟩) ∧ w'.cell? ⟨w5.heap.size, 2, none⟩ = some (.int .i64 n4) ∧ w'.cell? ⟨w5.heap.size, 3, none⟩ = some (.bool r4) ∧ w'.cell? ⟨w5.heap.size, 4, none⟩ = some (.bool d4) ∧ w'.cell? ⟨w7.heap.size, 0, none⟩ = some (.string ⟨f4.toArray⟩) ∧ w'.cell? ⟨w7.heap.size, 1, none⟩ = some (.string ⟨l4.toArray⟩) ∧ w'.cell? ⟨w7.heap.size, 2, none⟩ = some (.int .i64 n4) ∧ w'.cell? ⟨w7.heap.size, 3, none⟩ = some (.bool r4) ∧ w'.cell? ⟨w7.heap.size, 4, none⟩ = some (.bool d4)) := fun w' h => by
    obtain ⟨hc, _⟩ := bcell h
    exact ⟨h, by rw [hc _ _ dl]; exact dc0, by rw [hc _ _ dl]; exact dc1, by rw [hc _ _ dl]; exact dc2, by rw [hc _ _ dl]; exact dc3, by rw [hc _ _ dl]; exact dc4, by rw [hc _ _ ol]; exact oc0, by rw [hc _ _ ol]; exact oc1, by rw [hc _ _ ol]; exact oc2, by rw [hc _ _ ol]; exact oc3, by rw [hc _ _ ol]; exact oc4⟩
  go_region_held3 (fun w' => (Below w8.heap.size w8 w' ∧ w'.cell? ⟨w5.heap.size, 0, none⟩ = some (.string ⟨f4.toArray⟩) ∧ w'.cell? ⟨w5.heap.size, 1, none⟩ = some (.string ⟨l4.toArray⟩) ∧ w'.cell? ⟨w5.heap.size, 2, none⟩ = some (.int .i64 n4) ∧ w'.cell? ⟨w5.heap.size, 3, none⟩ = some (.bool r4) ∧ w'.cell? ⟨w5.heap.size, 4, none⟩ = some (.bool d4) ∧ w'.cell? ⟨w7.heap.size, 0, none⟩ = some (.string ⟨f4.toArray⟩) ∧ w'.cell? ⟨w7.heap.size, 1, none⟩ = some (.string ⟨l4.toArray⟩) ∧ w'.cell? ⟨w7.heap.size, 2, none⟩ = some (.int .i64 n4) ∧ w'.cell? ⟨w7.heap.size, 3, none⟩ = some (.bool r4) ∧ w'.cell? ⟨w7.heap.size, 4, none⟩ = some (.bool d4))) (first | with_reducible assumption | (refine HS _ ?_; (repeat (first | with_reducible exact b0 _ | with_reducible assumption | with_reducible refine Below.drew ?_ | with_reducible refine below_drewN ?_ _ | with_reducible refine bal ?_ _ | ((with_reducible refine bst ?_ ?_ _); rotate_left; focus (first | exact Nat.le_refl _ | assumption | (simp; done) | (simp; omega) | omega)) | exact below_left (by with_reducible assumption))))) (first
        | (go_at_call 14; refine (ref_any f4 l4 n4 r4 d4 _).mono ?_; rintro e wq ⟨rfl, hbq⟩; simp only [tapeV]; have hBq : Below w8.heap.size w8 wq := (by refine bt ?_ hbq; (repeat (first | with_reducible exact b0 _ | with_reducible assumption | with_reducible refine Below.drew ?_ | with_reducible refine below_drewN ?_ _ | with_reducible refine bal ?_ _ | ((with_reducible refine bst ?_ ?_ _); rotate_left; focus (first | exact Nat.le_refl _ | assumption | (simp; done) | (simp; omega) | omega)) | exact below_left (by with_reducible assumption)))); have hk := HS wq hBq))
  clear HS hk
  have Gt9 := Blk.keep Gt8 hBq
  have Ga9 := Blk.keep Ga8 hBq
  have Gb9 := Blk.keep Gb8 hBq
  have Gc9 := Blk.keep Gc8 hBq
  have Gd9 := Blk.keep Gd8 hBq
  have Go9 := Blk.keep Go8 hBq
  have hB9 : Below w.heap.size w wq := bt hB8 hBq
  clear hBq hbq
  obtain ⟨w9, hw9⟩ : ∃ W : World, W = wq := ⟨_, rfl⟩
  subst hw9
  clear dl dc0 dc1 dc2 dc3 dc4 df0 df1 df2 df3 df4 ol oc0 oc1 oc2 oc3 oc4 of0 of1 of2 of3 of4
  obtain ⟨tl, tc0, tc1, tc2, tc3, tc4, tf0, tf1, tf2, tf3, tf4⟩ := Gt9.c5
  go_wp2_with fail
  refine (ref_any f l n r d _).mono ?_
  rintro e w10 ⟨rfl, hb10⟩
  have Gt10 := Blk.keep (Gt9) hb10
  have Ga10 := Blk.keep (Ga9) hb10
  have Gb10 := Blk.keep (Gb9) hb10
  have Gc10 := Blk.keep (Gc9) hb10
  have Gd10 := Blk.keep (Gd9) hb10
  have Go10 := Blk.keep (Go9) hb10
  have hB10 : Below w.heap.size w w10 := bt (hB9) hb10
  clear tl tc0 tc1 tc2 tc3 tc4 tf0 tf1 tf2 tf3 tf4
  obtain ⟨tl, tc0, tc1, tc2, tc3, tc4, tf0, tf1, tf2, tf3, tf4⟩ := Gt10.c5
  go_wp2_with fail
  refine (refdo0_any f l n r d hf hl s hs _).mono ?_
  rintro e w11 ⟨rfl, hb11⟩
  rw [H1.out]
  simp only [tapeV]
  have Gt11 := Blk.keep (Gt10) hb11
  have Ga11 := Blk.keep (Ga10) hb11
  have Gb11 := Blk.keep (Gb10) hb11
  have Gc11 := Blk.keep (Gc10) hb11
  have Gd11 := Blk.keep (Gd10) hb11
  have Go11 := Blk.keep (Go10) hb11
  have hB11 : Below w.heap.size w w11 := bt (hB10) hb11
  clear tl tc0 tc1 tc2 tc3 tc4 tf0 tf1 tf2 tf3 tf4
  obtain ⟨tl, tc0, tc1, tc2, tc3, tc4, tf0, tf1, tf2, tf3, tf4⟩ := Gt11.c5
  go_wp2_with fail
  refine (ref_any f l n r d _).mono ?_
  rintro e w12 ⟨rfl, hb12⟩
  have Gt12 := Blk.keep (Blk.alloc Gt11 _) hb12
  have Ga12 := Blk.keep (Blk.alloc Ga11 _) hb12
  have Gb12 := Blk.keep (Blk.alloc Gb11 _) hb12
  have Gc12 := Blk.keep (Blk.alloc Gc11 _) hb12
  have Gd12 := Blk.keep (Blk.alloc Gd11 _) hb12
  have Go12 := Blk.keep (Blk.alloc Go11 _) hb12
  have Gx12 : Blk w12 w11.heap.size 35 #[.string ⟨f1.toArray⟩, .string ⟨l1.toArray⟩, .int .i64 n1, .bool r1, .bool d1] := Blk.keep (Blk.new w11 _ _) hb12
  have hB12 : Below w.heap.size w w12 := bt (bal hB11 _) hb12
  clear tl tc0 tc1 tc2 tc3 tc4 tf0 tf1 tf2 tf3 tf4
  obtain ⟨tl, tc0, tc1, tc2, tc3, tc4, tf0, tf1, tf2, tf3, tf4⟩ := Gt12.c5
  go_wp2_with fail
  refine (refdo1_any f l n r d hf hl _).mono ?_
  rintro e w13 ⟨rfl, hb13⟩
  rw [H2.out]
  simp only [tapeV]
  have Gt13 := Blk.keep (Gt12) hb13
  have Ga13 := Blk.keep (Ga12) hb13
  have Gb13 := Blk.keep (Gb12) hb13
  have Gc13 := Blk.keep (Gc12) hb13
  have Gd13 := Blk.keep (Gd12) hb13
  have Go13 := Blk.keep (Go12) hb13
  have Gx13 := Blk.keep (Gx12) hb13
  have hB13 : Below w.heap.size w w13 := bt (hB12) hb13
  clear tl tc0 tc1 tc2 tc3 tc4 tf0 tf1 tf2 tf3 tf4
  obtain ⟨tl, tc0, tc1, tc2, tc3, tc4, tf0, tf1, tf2, tf3, tf4⟩ := Gt13.c5
  go_wp2_with fail
  refine (ref_any f l n r d _).mono ?_
  rintro e w14 ⟨rfl, hb14⟩
  have Gt14 := Blk.keep (Blk.alloc Gt13 _) hb14
  have Ga14 := Blk.keep (Blk.alloc Ga13 _) hb14
  have Gb14 := Blk.keep (Blk.alloc Gb13 _) hb14
  have Gc14 := Blk.keep (Blk.alloc Gc13 _) hb14
  have Gd14 := Blk.keep (Blk.alloc Gd13 _) hb14
  have Go14 := Blk.keep (Blk.alloc Go13 _) hb14
  have Gx14 := Blk.keep (Blk.alloc Gx13 _) hb14
  have Gy14 : Blk w14 w13.heap.size 35 #[.string ⟨f2.toArray⟩, .string ⟨l2.toArray⟩, .int .i64 n2, .bool r2, .bool d2] := Blk.keep (Blk.new w13 _ _) hb14
  have hB14 : Below w.heap.size w w14 := bt (bal hB13 _) hb14
  clear tl tc0 tc1 tc2 tc3 tc4 tf0 tf1 tf2 tf3 tf4
  obtain ⟨tl, tc0, tc1, tc2, tc3, tc4, tf0, tf1, tf2, tf3, tf4⟩ := Gt14.c5
  go_wp2_with fail
  refine (refdo2_any f l n r d hf hl k hkk _).mono ?_
  rintro e w15 ⟨rfl, hb15⟩
  rw [H3.out]
  simp only [tapeV]
  have Gt15 := Blk.keep (Gt14) hb15
  have Ga15 := Blk.keep (Ga14) hb15
  have Gb15 := Blk.keep (Gb14) hb15
  have Gc15 := Blk.keep (Gc14) hb15
  have Gd15 := Blk.keep (Gd14) hb15
  have Go15 := Blk.keep (Go14) hb15
  have Gx15 := Blk.keep (Gx14) hb15
  have Gy15 := Blk.keep (Gy14) hb15
  have hB15 : Below w.heap.size w w15 := bt (hB14) hb15
  clear tl tc0 tc1 tc2 tc3 tc4 tf0 tf1 tf2 tf3 tf4
  obtain ⟨tl, tc0, tc1, tc2, tc3, tc4, tf0, tf1, tf2, tf3, tf4⟩ := Gt15.c5
  go_upto_region 13 with (fail)
  obtain ⟨w16, hw16⟩ : ∃ W : World, W = w15.alloc (.cells #[.string ⟨f3.toArray⟩, .string ⟨l3.toArray⟩, .int .i64 n3, .bool r3, .bool d3] 35) := ⟨_, rfl⟩
  have Gt16 : Blk w16 w.heap.size 25 #[.string ⟨f.toArray⟩, .string ⟨l.toArray⟩, .int .i64 n, .bool r, .bool d] := by rw [hw16]; exact Gt15.alloc _
  have Ga16 : Blk w16 w2.heap.size 25 #[.string ⟨f1.toArray⟩, .string ⟨l1.toArray⟩, .int .i64 n1, .bool r1, .bool d1] := by rw [hw16]; exact Ga15.alloc _
  have Gb16 : Blk w16 w3.heap.size 25 #[.string ⟨f2.toArray⟩, .string ⟨l2.toArray⟩, .int .i64 n2, .bool r2, .bool d2] := by rw [hw16]; exact Gb15.alloc _
  have Gc16 : Blk w16 w4.heap.size 25 #[.string ⟨f3.toArray⟩, .string ⟨l3.toArray⟩, .int .i64 n3, .bool r3, .bool d3] := by rw [hw16]; exact Gc15.alloc _
  have Gd16 : Blk w16 w5.heap.size 25 #[.string ⟨f4.toArray⟩, .string ⟨l4.toArray⟩, .int .i64 n4, .bool r4, .bool d4] := by rw [hw16]; exact Gd15.alloc _
  have Go16 : Blk w16 w7.heap.size 35 #[.string ⟨f4.toArray⟩, .string ⟨l4.toArray⟩, .int .i64 n4, .bool r4, .bool d4] := by rw [hw16]; exact Go15.alloc _
  have Gx16 : Blk w16 w11.heap.size 35 #[.string ⟨f1.toArray⟩, .string ⟨l1.toArray⟩, .int .i64 n1, .bool r1, .bool d1] := by rw [hw16]; exact Gx15.alloc _
  have Gy16 : Blk w16 w13.heap.size 35 #[.string ⟨f2.toArray⟩, .string ⟨l2.toArray⟩, .int .i64 n2, .bool r2, .bool d2] := by rw [hw16]; exact Gy15.alloc _
  have Gz16 : Blk w16 w15.heap.size 35 #[.string ⟨f3.toArray⟩, .string ⟨l3.toArray⟩, .int .i64 n3, .bool r3, .bool d3] := by rw [hw16]; exact Blk.new w15 _ _
  have hB16 : Below w.heap.size w w16 := by rw [hw16]; exact bal hB15 _
  rw [← hw16]
  clear hw16
  clear tl tc0 tc1 tc2 tc3 tc4 tf0 tf1 tf2 tf3 tf4
  obtain ⟨al, ac0, ac1, ac2, ac3, ac4, af0, af1, af2, af3, af4⟩ := Ga16.c5
  obtain ⟨xl, xc0, xc1, xc2, xc3, xc4, xf0, xf1, xf2, xf3, xf4⟩ := Gx16.c5
  obtain ⟨bl, bc0, bc1, bc2, bc3, bc4, bf0, bf1, bf2, bf3, bf4⟩ := Gb16.c5
  obtain ⟨yl, yc0, yc1, yc2, yc3, yc4, yf0, yf1, yf2, yf3, yf4⟩ := Gy16.c5
  obtain ⟨cl, cc0, cc1, cc2, cc3, cc4, cf0, cf1, cf2, cf3, cf4⟩ := Gc16.c5
  obtain ⟨zl, zc0, zc1, zc2, zc3, zc4, zf0, zf1, zf2, zf3, zf4⟩ := Gz16.c5
  have HS : ∀ w', Below w16.heap.size w16 w' → (Below w16.heap.size w16 w' ∧ w'.cell? ⟨w2.heap.size, 0, none⟩ = some (.string ⟨f1.toArray⟩) ∧ w'.cell? ⟨w2.heap.size, 1, none⟩ = some (.string ⟨l1.toArray⟩) ∧ w'.cell? ⟨w2.heap.size, 2, none⟩ = some (.int .i64 n1) ∧ w'.cell? ⟨w2.heap.size, 3, none⟩ = some (.bool r1) ∧ w'.cell? ⟨w2.heap.size, 4, none⟩ = some (.bool d1) ∧ w'.cell? ⟨w11.heap.size, 0, none⟩ = some (.string ⟨f1.toArray⟩) ∧ w'.cell? ⟨w11.heap.size, 1, none⟩ = some (.string ⟨l1.toArray⟩) ∧ w'.cell? ⟨w11.heap.size, 2, none⟩ = some (.int .i64 n1) ∧ w'.cell? ⟨w11.heap.size, 3, none⟩ = some (.bool r1) ∧ w'.cell? ⟨w11.heap.size, 4, none⟩ = some (.bool d1) ∧ w'.cell? ⟨w3.heap.size, 0, none⟩ = some (.string ⟨f2.toArray⟩) ∧ w'.cell? ⟨w3.heap.size, 1, none⟩ = some (.string ⟨l2.toArray⟩) ∧ w'.cell? ⟨w3.heap.size, 2, none⟩ = some (.int .i64 n2) ∧ w'.cell? ⟨w3.heap.size, 3, none⟩ = some (.bool r2) ∧ w'.cell? ⟨w3.heap.size, 4, none⟩ = some (.bool d2) ∧ w'.cell? ⟨w13.heap.size, 0, none⟩ = some (.string ⟨f2.toArray⟩) ∧ w'.cell? ⟨w13.heap.size, 1, none⟩ = some (.string ⟨l2.toArray⟩) ∧ w'.cell? ⟨w13.heap.size, 2, none⟩ = some (.int .i64 n2) ∧ w'.cell? ⟨w13.heap.size, 3, none⟩ = some (.bool r2) ∧ w'.cell? ⟨w13.heap.size, 4, none⟩ = some (.bool d2) ∧ w'.cell? ⟨w4.heap.size, 0, none⟩ = some (.string ⟨f3.toArray⟩) ∧ w'.cell? ⟨w4.heap.size, 1, none⟩ = some (.string ⟨l3.toArray⟩) ∧ w'.cell? ⟨w4.heap.size, 2, none⟩ = some (.int .i64 n3) ∧ w'.cell? ⟨w4.heap.size, 3, none⟩ = some (.bool r3) ∧ w'.cell? ⟨w4.heap.size, 4, none⟩ = some (.bool d3) ∧ w'.cell? ⟨w15.heap.size, 0, none⟩ = some (.string ⟨f3.toArray⟩) ∧ w'.cell? ⟨w15.heap.size, 1, none⟩ = some (.string ⟨l3.toArray⟩) ∧ w'.cell? ⟨w15.heap.size, 2, none⟩ = some (.int .i64 n3) ∧ w'.cell? ⟨w15.heap.size, 3, none⟩ = some (.bool r3) ∧ w'.cell? ⟨w15.heap.size, 4, none⟩ = some (.bool d3)) := fun w' h => by
    obtain ⟨hc, _⟩ := bcell h
    exact ⟨h, by rw [hc _ _ al]; exact ac0, by rw [hc _ _ al]; exact ac1, by rw [hc _ _ al]; exact ac2, by rw [hc _ _ al]; exact ac3, by rw [hc _ _ al]; exact ac4, by rw [hc _ _ xl]; exact xc0, by rw [hc _ _ xl]; exact xc1, by rw [hc _ _ xl]; exact xc2, by rw [hc _ _ xl]; exact xc3, by rw [hc _ _ xl]; exact xc4, by rw [hc _ _ bl]; exact bc0, by rw [hc _ _ bl]; exact bc1, by rw [hc _ _ bl]; exact bc2, by rw [hc _ _ bl]; exact bc3, by rw [hc _ _ bl]; exact bc4, by rw [hc _ _ yl]; exact yc0, by rw [hc _ _ yl]; exact yc1, by rw [hc _ _ yl]; exact yc2, by rw [hc _ _ yl]; exact yc3, by rw [hc _ _ yl]; exact yc4, by rw [hc _ _ cl]; exact cc0, by rw [hc _ _ cl]; exact cc1, by rw [hc _ _ cl]; exact cc2, by rw [hc _ _ cl]; exact cc3, by rw [hc _ _ cl]; exact cc4, by rw [hc _ _ zl]; exact zc0, by rw [hc _ _ zl]; exact zc1, by rw [hc _ _ zl]; exact zc2, by rw [hc _ _ zl]; exact zc3, by rw [hc _ _ zl]; exact zc4⟩
  go_region_held3 (fun w' => (Below w16.heap.size w16 w' ∧ w'.cell? ⟨w2.heap.size, 0, none⟩ = some (.string ⟨f1.toArray⟩) ∧ w'.cell? ⟨w2.heap.size, 1, none⟩ = some (.string ⟨l1.toArray⟩) ∧ w'.cell? ⟨w2.heap.size, 2, none⟩ = some (.int .i64 n1) ∧ w'.cell? ⟨w2.heap.size, 3, none⟩ = some (.bool r1) ∧ w'.cell? ⟨w2.heap.size, 4, none⟩ = some (.bool d1) ∧ w'.cell? ⟨w11.heap.size, 0, none⟩ = some (.string ⟨f1.toArray⟩) ∧ w'.cell? ⟨w11.heap.size, 1, none⟩ = some (.string ⟨l1.toArray⟩) ∧ w'.cell? ⟨w11.heap.size, 2, none⟩ = some (.int .i64 n1) ∧ w'.cell? ⟨w11.heap.size, 3, none⟩ = some (.bool r1) ∧ w'.cell? ⟨w11.heap.size, 4, none⟩ = some (.bool d1) ∧ w'.cell? ⟨w3.heap.size, 0, none⟩ = some (.string ⟨f2.toArray⟩) ∧ w'.cell? ⟨w3.heap.size, 1, none⟩ = some (.string ⟨l2.toArray⟩) ∧ w'.cell? ⟨w3.heap.size, 2, none⟩ = some (.int .i64 n2) ∧ w'.cell? ⟨w3.heap.size, 3, none⟩ = some (.bool r2) ∧ w'.cell? ⟨w3.heap.size, 4, none⟩ = some (.bool d2) ∧ w'.cell? ⟨w13.heap.size, 0, none⟩ = some (.string ⟨f2.toArray⟩) ∧ w'.cell? ⟨w13.heap.size, 1, none⟩ = some (.string ⟨l2.toArray⟩) ∧ w'.cell? ⟨w13.heap.size, 2, none⟩ = some (.int .i64 n2) ∧ w'.cell? ⟨w13.heap.size, 3, none⟩ = some (.bool r2) ∧ w'.cell? ⟨w13.heap.size, 4, none⟩ = some (.bool d2) ∧ w'.cell? ⟨w4.heap.size, 0, none⟩ = some (.string ⟨f3.toArray⟩) ∧ w'.cell? ⟨w4.heap.size, 1, none⟩ = some (.string ⟨l3.toArray⟩) ∧ w'.cell? ⟨w4.heap.size, 2, none⟩ = some (.int .i64 n3) ∧ w'.cell? ⟨w4.heap.size, 3, none⟩ = some (.bool r3) ∧ w'.cell? ⟨w4.heap.size, 4, none⟩ = some (.bool d3) ∧ w'.cell? ⟨w15.heap.size, 0, none⟩ = some (.string ⟨f3.toArray⟩) ∧ w'.cell? ⟨w15.heap.size, 1, none⟩ = some (.string ⟨l3.toArray⟩) ∧ w'.cell? ⟨w15.heap.size, 2, none⟩ = some (.int .i64 n3) ∧ w'.cell? ⟨w15.heap.size, 3, none⟩ = some (.bool r3) ∧ w'.cell? ⟨w15.heap.size, 4, none⟩ = some (.bool d3))) (first | with_reducible assumption | (refine HS _ ?_; (repeat (first | with_reducible exact b0 _ | with_reducible assumption | with_reducible refine Below.drew ?_ | with_reducible refine below_drewN ?_ _ | with_reducible refine bal ?_ _ | ((with_reducible refine bst ?_ ?_ _); rotate_left; focus (first | exact Nat.le_refl _ | assumption | (simp; done) | (simp; omega) | omega)) | exact below_left (by with_reducible assumption))))) (first
        | (go_at_call 14; refine (ref_any _ _ _ _ _ _).mono ?_; rintro e wq ⟨rfl, hbq⟩; simp only [tapeV]; have hBq : Below w16.heap.size w16 wq := (by refine bt ?_ hbq; (repeat (first | with_reducible exact b0 _ | with_reducible assumption | with_reducible refine Below.drew ?_ | with_reducible refine below_drewN ?_ _ | with_reducible refine bal ?_ _ | ((with_reducible refine bst ?_ ?_ _); rotate_left; focus (first | exact Nat.le_refl _ | assumption | (simp; done) | (simp; omega) | omega)) | exact below_left (by with_reducible assumption)))); have hk := HS wq hBq))
  clear HS hk
  have Gt17 := Blk.keep Gt16 hBq
  have Ga17 := Blk.keep Ga16 hBq
  have Gb17 := Blk.keep Gb16 hBq
  have Gc17 := Blk.keep Gc16 hBq
  have Gd17 := Blk.keep Gd16 hBq
  have Go17 := Blk.keep Go16 hBq
  have Gx17 := Blk.keep Gx16 hBq
  have Gy17 := Blk.keep Gy16 hBq
  have Gz17 := Blk.keep Gz16 hBq
  have hB17 : Below w.heap.size w wq := bt hB16 hBq
  clear hBq hbq
  obtain ⟨w17, hw17⟩ : ∃ W : World, W = wq := ⟨_, rfl⟩
  subst hw17
  clear al ac0 ac1 ac2 ac3 ac4 af0 af1 af2 af3 af4 xl xc0 xc1 xc2 xc3 xc4 xf0 xf1 xf2 xf3 xf4 bl bc0 bc1 bc2 bc3 bc4 bf0 bf1 bf2 bf3 bf4 yl yc0 yc1 yc2 yc3 yc4 yf0 yf1 yf2 yf3 yf4 cl cc0 cc1 cc2 cc3 cc4 cf0 cf1 cf2 cf3 cf4 zl zc0 zc1 zc2 zc3 zc4 zf0 zf1 zf2 zf3 zf4
  obtain ⟨tl, tc0, tc1, tc2, tc3, tc4, tf0, tf1, tf2, tf3, tf4⟩ := Gt17.c5
  go_upto_region 15 with (fail)
  have HS : ∀ w', Below w17.heap.size w17 w' → (Below w17.heap.size w17 w' ∧ w'.cell? ⟨w.heap.size, 0, none⟩ = some (.string ⟨f.toArray⟩) ∧ w'.cell? ⟨w.heap.size, 1, none⟩ = some (.string ⟨l.toArray⟩) ∧ w'.cell? ⟨w.heap.size, 2, none⟩ = some (.int .i64 n) ∧ w'.cell? ⟨w.heap.size, 3, none⟩ = some (.bool r) ∧ w'.cell? ⟨w.heap.size, 4, none⟩ = some (.bool d)) := fun w' h => by
    obtain ⟨hc, _⟩ := bcell h
    exact ⟨h, by rw [hc _ _ tl]; exact tc0, by rw [hc _ _ tl]; exact tc1, by rw [hc _ _ tl]; exact tc2, by rw [hc _ _ tl]; exact tc3, by rw [hc _ _ tl]; exact tc4⟩
  go_cut [23, 24] (fun s23 s24 wx => TwoCut w17 25 #[.string ⟨f5.toArray⟩, .string ⟨l5.toArray⟩, .int .i64 n5, .bool r5, .bool d5] #[.string ⟨f6.toArray⟩, .string ⟨l6.toArray⟩, .int .i64 n6, .bool r6, .bool d6] s23 s24 wx)
  case first =>
    go_region_held3 (fun w' => (Below w17.heap.size w17 w' ∧ w'.cell? ⟨w.heap.size, 0, none⟩ = some (.string ⟨f.toArray⟩) ∧ w'.cell? ⟨w.heap.size, 1, none⟩ = some (.string ⟨l.toArray⟩) ∧ w'.cell? ⟨w.heap.size, 2, none⟩ = some (.int .i64 n) ∧ w'.cell? ⟨w.heap.size, 3, none⟩ = some (.bool r) ∧ w'.cell? ⟨w.heap.size, 4, none⟩ = some (.bool d))) (first | with_reducible assumption | (refine HS _ ?_; (repeat (first | with_reducible exact b0 _ | with_reducible assumption | with_reducible refine Below.drew ?_ | with_reducible refine below_drewN ?_ _ | with_reducible refine bal ?_ _ | ((with_reducible refine bst ?_ ?_ _); rotate_left; focus (first | exact Nat.le_refl _ | assumption | (simp; done) | (simp; omega) | omega)) | exact below_left (by with_reducible assumption))))) (first
        | (go_at_call 16; refine (arm_any f l n r d hf hl k hkk _).mono ?_; rintro e wa ⟨rfl, hbwa⟩; rw [H5.out]; simp only [tapeV]; have hzwa := hbwa.size; (try simp at hzwa); obtain ⟨hcwa, hfwa⟩ := bcell hbwa; (try (by_cases hA0 : w17.heap.size < wa.heap.size; rotate_left; focus (exfalso; omega))); (try (by_cases hA1 : w17.heap.size + 1 < wa.heap.size; rotate_left; focus (exfalso; omega))); have hBwa : Below w17.heap.size w17 wa := (by refine bt ?_ hbwa; (repeat (first | with_reducible exact b0 _ | with_reducible assumption | with_reducible refine Below.drew ?_ | with_reducible refine below_drewN ?_ _ | with_reducible refine bal ?_ _ | ((with_reducible refine bst ?_ ?_ _); rotate_left; focus (first | exact Nat.le_refl _ | assumption | (simp; done) | (simp; omega) | omega)) | exact below_left (by with_reducible assumption)))); have hk := HS wa hBwa)
        | (go_at_call 17; refine (crash_any f l n r d hf hl k hkk _).mono ?_; rintro e wv ⟨rfl, hbwv⟩; rw [H6.out]; simp only [tapeV]; have hzwv := hbwv.size; (try simp at hzwv); obtain ⟨hcwv, hfwv⟩ := bcell hbwv; (try (by_cases hA0 : w17.heap.size < wv.heap.size; rotate_left; focus (exfalso; omega))); (try (by_cases hA1 : w17.heap.size + 1 < wv.heap.size; rotate_left; focus (exfalso; omega))); (try (by_cases hA2 : wa.heap.size < wv.heap.size; rotate_left; focus (exfalso; omega))); (try (by_cases hA3 : wa.heap.size + 1 < wv.heap.size; rotate_left; focus (exfalso; omega))); have hBwv : Below w17.heap.size w17 wv := (by refine bt ?_ hbwv; (repeat (first | with_reducible exact b0 _ | with_reducible assumption | with_reducible refine Below.drew ?_ | with_reducible refine below_drewN ?_ _ | with_reducible refine bal ?_ _ | ((with_reducible refine bst ?_ ?_ _); rotate_left; focus (first | exact Nat.le_refl _ | assumption | (simp; done) | (simp; omega) | omega)) | exact below_left (by with_reducible assumption)))); have hk := HS wv hBwv))
    all_goals
      clear hk HS
      have hwv := hBwv.size
      have hwa := hBwa.size
      go_wp2_with fail
      go_meet
      case rel => exact ⟨_, _, rfl, rfl, by (first | exact Nat.le_refl _ | assumption | omega | (simp; done) | (simp; omega)), by (first | exact Nat.le_refl _ | assumption | omega | (simp; done) | (simp; omega)), by (repeat (first | with_reducible assumption | with_reducible exact Blk.new _ _ _ | with_reducible refine Blk.drew ?_ | ((with_reducible refine Blk.new' _ _ _ _ ?_); focus (first | (simp; done) | (simp; omega))) | with_reducible refine Blk.alloc ?_ _ | ((with_reducible refine Blk.far ?_ ?_ _); rotate_left; focus (first | (simp; done) | (simp; omega))) | with_reducible refine blk_put5 (c0 := .string ⟨#[]⟩) (c1 := .string ⟨#[]⟩) (c2 := .int .i64 0) (c3 := .bool false) (c4 := .bool false) ?_ | with_reducible refine Blk.keep ?_ hbwv | with_reducible refine Blk.keep ?_ hbwa)), by (repeat (first | with_reducible assumption | with_reducible exact Blk.new _ _ _ | with_reducible refine Blk.drew ?_ | ((with_reducible refine Blk.new' _ _ _ _ ?_); focus (first | (simp; done) | (simp; omega))) | with_reducible refine Blk.alloc ?_ _ | ((with_reducible refine Blk.far ?_ ?_ _); rotate_left; focus (first | (simp; done) | (simp; omega))) | with_reducible refine blk_put5 (c0 := .string ⟨#[]⟩) (c1 := .string ⟨#[]⟩) (c2 := .int .i64 0) (c3 := .bool false) (c4 := .bool false) ?_ | with_reducible refine Blk.keep ?_ hbwv | with_reducible refine Blk.keep ?_ hbwa)), by (repeat (first | with_reducible exact b0 _ | with_reducible assumption | with_reducible refine Below.drew ?_ | with_reducible refine below_drewN ?_ _ | with_reducible refine bal ?_ _ | ((with_reducible refine bst ?_ ?_ _); rotate_left; focus (first | exact Nat.le_refl _ | assumption | (simp; done) | (simp; omega) | omega)) | exact below_left (by with_reducible assumption)))⟩
  case rest =>
    obtain ⟨gu, gv, rfl, rfl, hgu, hgv, Gu, Gv, hBc⟩ := hcut
    have Gt := Blk.keep Gt17 hBc
    have hB : Below w.heap.size w wc := bt hB17 hBc
    clear tl tc0 tc1 tc2 tc3 tc4 tf0 tf1 tf2 tf3 tf4 HS
    obtain ⟨tl, tc0, tc1, tc2, tc3, tc4, tf0, tf1, tf2, tf3, tf4⟩ := Gt.c5
    go_wp2_with fail
    refine (ref_any f l n r d _).mono ?_
    rintro e wa ⟨rfl, hba⟩
    go_wp2_with fail
    refine (refright12_any f l n r d hf hl _).mono ?_
    rintro e wb ⟨rfl, hbb⟩
    rw [HQ.out]
    have hBb := bt (bt hB hba) hbb
    have Gtb := Blk.keep (Blk.keep Gt hba) hbb
    have Gub := Blk.keep (Blk.keep Gu hba) hbb
    have Gvb := Blk.keep (Blk.keep Gv hba) hbb
    clear tl tc0 tc1 tc2 tc3 tc4 tf0 tf1 tf2 tf3 tf4
    cases q
    case false =>
      have h5 := H5.out
      rw [armT, if_pos HQ.out] at h5
      injection h5 with a5 b5 c5 i5 j5
      subst a5 b5 c5 i5 j5
      have h6 := H6.out
      rw [crashT, if_pos HQ.out] at h6
      injection h6 with a6 b6 c6 i6 j6
      subst a6 b6 c6 i6 j6
      obtain ⟨tl, tc0, tc1, tc2, tc3, tc4, tf0, tf1, tf2, tf3, tf4⟩ := Gtb.c5
      go_wp2_with fail
      refine (tright_any f l n r d hf hl _).mono ?_
      rintro e wd ⟨rfl, hbd⟩
      rw [HQ.out]
      have hBd := bt hBb hbd
      have Gtd := Blk.keep Gtb hbd
      have Gud := Blk.keep Gub hbd
      have Gvd := Blk.keep Gvb hbd
      clear tl tc0 tc1 tc2 tc3 tc4 tf0 tf1 tf2 tf3 tf4
      obtain ⟨tl, tc0, tc1, tc2, tc3, tc4, tf0, tf1, tf2, tf3, tf4⟩ := Gtd.c5
      obtain ⟨ul, uc0, uc1, uc2, uc3, uc4, uf0, uf1, uf2, uf3, uf4⟩ := Gud.c5
      obtain ⟨vl, vc0, vc1, vc2, vc3, vc4, vf0, vf1, vf2, vf3, vf4⟩ := Gvd.c5
      go_wp2_with fail
      refine (awake12 _).mono ?_
      rintro e we ⟨rfl, hbe⟩
      go_wp2
      go_ret
      exact ⟨rfl, bt hBd hbe⟩
    case true =>
      have HU : Hid ((⟨f, l, min (max k 0) 1099511627776, decide (0 ≤ k), d⟩ : Tp) = ⟨f5, l5, n5, r5, d5⟩) := Lib.hid (by rw [← H5.out, arm_right_eq _ _ _ _ _ _ HQ.out])
      have HV : Hid ((⟨f ++ l.take (min k.toNat l.length), [], 0, false, false⟩ : Tp) = ⟨f6, l6, n6, r6, d6⟩) := Lib.hid (by rw [← H6.out, crash_facts _ _ HQ.out])
      obtain ⟨tl, tc0, tc1, tc2, tc3, tc4, tf0, tf1, tf2, tf3, tf4⟩ := Gtb.c5
      obtain ⟨ul, uc0, uc1, uc2, uc3, uc4, uf0, uf1, uf2, uf3, uf4⟩ := Gub.c5
      obtain ⟨vl, vc0, vc1, vc2, vc3, vc4, vf0, vf1, vf2, vf3, vf4⟩ := Gvb.c5
      have HS : ∀ w', Below wb.heap.size wb w' → (Below wb.heap.size wb w' ∧ w'.cell? ⟨w.heap.size, 0, none⟩ = some (.string ⟨f.toArray⟩) ∧ w'.cell? ⟨w.heap.size, 1, none⟩ = some (.string ⟨l.toArray⟩) ∧ w'.cell? ⟨w.heap.size, 2, none⟩ = some (.int .i64 n) ∧ w'.cell? ⟨w.heap.size, 3, none⟩ = some (.bool r) ∧ w'.cell? ⟨w.heap.size, 4, none⟩ = some (.bool d) ∧ w'.cell? ⟨gu, 0, none⟩ = some (.string ⟨f5.toArray⟩) ∧ w'.cell? ⟨gu, 1, none⟩ = some (.string ⟨l5.toArray⟩) ∧ w'.cell? ⟨gu, 2, none⟩ = some (.int .i64 n5) ∧ w'.cell? ⟨gu, 3, none⟩ = some (.bool r5) ∧ w'.cell? ⟨gu, 4, none⟩ = some (.bool d5) ∧ w'.cell? ⟨gv, 0, none⟩ = some (.string ⟨f6.toArray⟩) ∧ w'.cell? ⟨gv, 1, none⟩ = some (.string ⟨l6.toArray⟩) ∧ w'.cell? ⟨gv, 2, none⟩ = some (.int .i64 n6) ∧ w'.cell? ⟨gv, 3, none⟩ = some (.bool r6) ∧ w'.cell? ⟨gv, 4, none⟩ = some (.bool d6)) := fun w' h => by
        obtain ⟨hc, _⟩ := bcell h
        exact ⟨h, by rw [hc _ _ tl]; exact tc0, by rw [hc _ _ tl]; exact tc1, by rw [hc _ _ tl]; exact tc2, by rw [hc _ _ tl]; exact tc3, by rw [hc _ _ tl]; exact tc4, by rw [hc _ _ ul]; exact uc0, by rw [hc _ _ ul]; exact uc1, by rw [hc _ _ ul]; exact uc2, by rw [hc _ _ ul]; exact uc3, by rw [hc _ _ ul]; exact uc4, by rw [hc _ _ vl]; exact vc0, by rw [hc _ _ vl]; exact vc1, by rw [hc _ _ vl]; exact vc2, by rw [hc _ _ vl]; exact vc3, by rw [hc _ _ vl]; exact vc4⟩
      go_wp2_with fail
      go_region_held3 (fun w' => (Below wb.heap.size wb w' ∧ w'.cell? ⟨w.heap.size, 0, none⟩ = some (.string ⟨f.toArray⟩) ∧ w'.cell? ⟨w.heap.size, 1, none⟩ = some (.string ⟨l.toArray⟩) ∧ w'.cell? ⟨w.heap.size, 2, none⟩ = some (.int .i64 n) ∧ w'.cell? ⟨w.heap.size, 3, none⟩ = some (.bool r) ∧ w'.cell? ⟨w.heap.size, 4, none⟩ = some (.bool d) ∧ w'.cell? ⟨gu, 0, none⟩ = some (.string ⟨f5.toArray⟩) ∧ w'.cell? ⟨gu, 1, none⟩ = some (.string ⟨l5.toArray⟩) ∧ w'.cell? ⟨gu, 2, none⟩ = some (.int .i64 n5) ∧ w'.cell? ⟨gu, 3, none⟩ = some (.bool r5) ∧ w'.cell? ⟨gu, 4, none⟩ = some (.bool d5) ∧ w'.cell? ⟨gv, 0, none⟩ = some (.string ⟨f6.toArray⟩) ∧ w'.cell? ⟨gv, 1, none⟩ = some (.string ⟨l6.toArray⟩) ∧ w'.cell? ⟨gv, 2, none⟩ = some (.int .i64 n6) ∧ w'.cell? ⟨gv, 3, none⟩ = some (.bool r6) ∧ w'.cell? ⟨gv, 4, none⟩ = some (.bool d6))) (first | with_reducible assumption | (refine HS _ ?_; (repeat (first | with_reducible exact b0 _ | with_reducible assumption | with_reducible refine Below.drew ?_ | with_reducible refine below_drewN ?_ _ | with_reducible refine bal ?_ _ | ((with_reducible refine bst ?_ ?_ _); rotate_left; focus (first | exact Nat.le_refl _ | assumption | (simp; done) | (simp; omega) | omega)) | exact below_left (by with_reducible assumption))))) (first
            | (go_at_call 9; refine (tright_any f l n r d hf hl _).mono ?_; rintro e wq ⟨rfl, hbq⟩; rw [HQ.out]; have hBq : Below wb.heap.size wb wq := (by refine bt ?_ hbq; (repeat (first | with_reducible exact b0 _ | with_reducible assumption | with_reducible refine Below.drew ?_ | with_reducible refine below_drewN ?_ _ | with_reducible refine bal ?_ _ | ((with_reducible refine bst ?_ ?_ _); rotate_left; focus (first | exact Nat.le_refl _ | assumption | (simp; done) | (simp; omega) | omega)) | exact below_left (by with_reducible assumption)))); have hk := HS wq hBq)
            | (go_at_call 14; refine (ref_any _ _ _ _ _ _).mono ?_; rintro e wq ⟨rfl, hbq⟩; simp only [tapeV]; have hBq : Below wb.heap.size wb wq := (by refine bt ?_ hbq; (repeat (first | with_reducible exact b0 _ | with_reducible assumption | with_reducible refine Below.drew ?_ | with_reducible refine below_drewN ?_ _ | with_reducible refine bal ?_ _ | ((with_reducible refine bst ?_ ?_ _); rotate_left; focus (first | exact Nat.le_refl _ | assumption | (simp; done) | (simp; omega) | omega)) | exact below_left (by with_reducible assumption)))); have hk := HS wq hBq)
            | (go_at_call 22; refine (refarm_any f l n r d k _).mono ?_; rintro e wq ⟨rfl, hbq⟩; rw [HU.out]; simp only [tapeV]; have hBq : Below wb.heap.size wb wq := (by refine bt ?_ hbq; (repeat (first | with_reducible exact b0 _ | with_reducible assumption | with_reducible refine Below.drew ?_ | with_reducible refine below_drewN ?_ _ | with_reducible refine bal ?_ _ | ((with_reducible refine bst ?_ ?_ _); rotate_left; focus (first | exact Nat.le_refl _ | assumption | (simp; done) | (simp; omega) | omega)) | exact below_left (by with_reducible assumption)))); have hk := HS wq hBq)
            | (go_at_call 23; refine (refcrash_any f l n r d hf hl k _).mono ?_; rintro e wq ⟨rfl, hbq⟩; rw [HV.out]; simp only [tapeV]; have hBq : Below wb.heap.size wb wq := (by refine bt ?_ hbq; (repeat (first | with_reducible exact b0 _ | with_reducible assumption | with_reducible refine Below.drew ?_ | with_reducible refine below_drewN ?_ _ | with_reducible refine bal ?_ _ | ((with_reducible refine bst ?_ ?_ _); rotate_left; focus (first | exact Nat.le_refl _ | assumption | (simp; done) | (simp; omega) | omega)) | exact below_left (by with_reducible assumption)))); have hk := HS wq hBq)
            | (go_at_call 10; refine (awake12 _).mono ?_; rintro e wq ⟨rfl, hbq⟩; have hBq : Below wb.heap.size wb wq := (by refine bt ?_ hbq; (repeat (first | with_reducible exact b0 _ | with_reducible assumption | with_reducible refine Below.drew ?_ | with_reducible refine below_drewN ?_ _ | with_reducible refine bal ?_ _ | ((with_reducible refine bst ?_ ?_ _); rotate_left; focus (first | exact Nat.le_refl _ | assumption | (simp; done) | (simp; omega) | omega)) | exact below_left (by with_reducible assumption)))); have hk := HS wq hBq))
      all_goals
        go_wp2
        go_ret
        exact ⟨rfl, bt hBb (by (repeat (first | with_reducible exact b0 _ | with_reducible assumption | with_reducible refine Below.drew ?_ | with_reducible refine below_drewN ?_ _ | with_reducible refine bal ?_ _ | ((with_reducible refine bst ?_ ?_ _); rotate_left; focus (first | exact Nat.le_refl _ | assumption | (simp; done) | (simp; omega) | omega)) | exact below_left (by with_reducible assumption))))⟩
end Go.Proofs.Ytbekiimgbpmomaa
