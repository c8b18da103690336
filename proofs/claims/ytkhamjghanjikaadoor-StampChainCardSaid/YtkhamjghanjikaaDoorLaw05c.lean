/- The walk of the law StampChain. -/
import Derived.Test.YtkhamjghanjikaaDoorLaw05o
import Derived.Test.YtkhamjghanjikaaDoorBlk
import Derived.Deep.RegionHeld3
import Derived.Deep.DrawnRows
import Derived.Deep.DeepCutAuto
namespace Go.Proofs.YtkhamjghanjikaaDoor
open Go.RowKit
attribute [local go_sem ↓] Go.wp_at_zero Go.wp_at_succ
theorem cmp_zero (a t n a' t' n' : Int) : cmpS a t n a' t' n' = 0 ↔ (a = a' ∧ t = t' ∧ n = n') := by
  have h1 := before_iff a t n a' t' n'
  have h2 := after_iff a t n a' t' n'
  constructor
  · intro h; rw [h] at h1 h2; omega
  · intro h
    have := cmpS_range a t n a' t' n'
    omega
theorem chain_plain (a t n a' t' n' a'' t'' n'' l1 l2 l3 m1 m2 m3 : Int) (h1 : laterT a t n a' t' n' = (l1, l2, l3)) (h2 : laterT l1 l2 l3 a'' t'' n'' = (m1, m2, m3)) :
    (cmpS a t n a' t' n' ≤ 0 → cmpS a' t' n' a'' t'' n'' ≤ 0 → cmpS a t n a'' t'' n'' ≤ 0) ∧ 0 ≤ cmpS m1 m2 m3 a t n ∧ 0 ≤ cmpS m1 m2 m3 a' t' n' ∧ 0 ≤ cmpS m1 m2 m3 a'' t'' n'' ∧
      ((m1 = a ∧ m2 = t ∧ m3 = n) ∨ (m1 = a' ∧ m2 = t' ∧ m3 = n') ∨ (m1 = a'' ∧ m2 = t'' ∧ m3 = n'')) := by
  have i1 := before_iff a t n a' t' n'
  have i2 := before_iff l1 l2 l3 a'' t'' n''
  have j1 := after_iff a t n a' t' n'
  have j2 := after_iff a' t' n' a'' t'' n''
  have j3 := after_iff a t n a'' t'' n''
  have k1 := before_iff m1 m2 m3 a t n
  have k2 := before_iff m1 m2 m3 a' t' n'
  have k3 := before_iff m1 m2 m3 a'' t'' n''
  unfold laterT at h1 h2
  refine ⟨fun p q => by omega, ?_, ?_, ?_, ?_⟩
  all_goals
    split at h1 <;> split at h2 <;> simp only [Prod.mk.injEq] at h1 h2 <;> obtain ⟨rfl, rfl, rfl⟩ := h1 <;> obtain ⟨rfl, rfl, rfl⟩ := h2 <;> first | omega | simp
theorem blk_put3 {w : World} {g : Nat} {t : TypeId} {c0 c1 c2 u0 u1 u2 : Value} (h : Blk w g t #[c0, c1, c2]) :
    Blk (((w.setCell ⟨g, 0, none⟩ u0).setCell ⟨g, 1, none⟩ u1).setCell ⟨g, 2, none⟩ u2) g t #[u0, u1, u2] := by
  have h5 := ((h.set 0 u0).set 1 u1).set 2 u2
  simpa using h5
theorem blk_far3 {w : World} {g g' : Nat} {t : TypeId} {cs : Array Value} {u0 u1 u2 : Value} (h : Blk w g t cs) (hne : g ≠ g') :
    Blk (((w.setCell ⟨g', 0, none⟩ u0).setCell ⟨g', 1, none⟩ u1).setCell ⟨g', 2, none⟩ u2) g t cs := ((h.far hne _).far hne _).far hne _
def ChCut1 (wr : World) (x y : Int) (s7 s8 : Value) (wx : World) : Prop := s7 = .int .i64 x ∧ s8 = .int .i64 y ∧ Below wr.heap.size wr wx
def ChCut2 (wr : World) (s : Value) (wx : World) : Prop := s = .bool false ∧ Below wr.heap.size wr wx
def ChCut3 (wr : World) (m1 m2 m3 : Int) (s : Value) (wx : World) : Prop := ∃ g, s = .pointer (some ⟨g, 0, none⟩) ∧ Blk wx g 23 #[.int .i64 m1, .int .i64 m2, .int .i64 m3] ∧ Below wr.heap.size wr wx
set_option maxHeartbeats 3200000 in
set_option maxRecDepth 100000 in
theorem stampChain_walk (a t n : Int) (_ha : (Lit.int .i64 a).wf = true) (_hb : (Lit.int .i64 t).wf = true) (_hc : (Lit.int .i64 n).wf = true) (a' t' n' : Int) (_ha' : (Lit.int .i64 a').wf = true) (_hb' : (Lit.int .i64 t').wf = true) (_hc' : (Lit.int .i64 n').wf = true)
    (a'' t'' n'' : Int) (_ha'' : (Lit.int .i64 a'').wf = true) (_hb'' : (Lit.int .i64 t'').wf = true) (_hc'' : (Lit.int .i64 n'').wf = true) (w : World) :
    Calls Tryd.prog 5 #[stampV a t n, stampV a' t' n', stampV a'' t'' n''] w fun e w' => e = .returned (.bool true) ∧ Below w.heap.size w w' := by
  clear _ha _hb _hc _ha' _hb' _hc' _ha'' _hb'' _hc''
  obtain ⟨⟨l1, l2, l3⟩, hL⟩ : ∃ q : Int × Int × Int, laterT a t n a' t' n' = q := ⟨_, rfl⟩
  obtain ⟨⟨m1, m2, m3⟩, hM⟩ : ∃ q : Int × Int × Int, laterT l1 l2 l3 a'' t'' n'' = q := ⟨_, rfl⟩
  obtain ⟨p1, p2, p3, p4, p5⟩ := chain_plain _ _ _ _ _ _ _ _ _ _ _ _ _ _ _ hL hM
  have hsw := cmp_swap a t n a' t' n'
  have hz := cmp_zero a t n a' t' n'
  have rx := cmpS_range a t n a' t' n'
  have ry := cmpS_range a' t' n' a'' t'' n''
  obtain ⟨x, hX⟩ : ∃ c, cmpS a t n a' t' n' = c := ⟨_, rfl⟩
  obtain ⟨y, hY⟩ : ∃ c, cmpS a' t' n' a'' t'' n'' = c := ⟨_, rfl⟩
  obtain ⟨z, hZ⟩ : ∃ c, cmpS a t n a'' t'' n'' = c := ⟨_, rfl⟩
  obtain ⟨v1, hV1⟩ : ∃ c, cmpS m1 m2 m3 a t n = c := ⟨_, rfl⟩
  obtain ⟨v2, hV2⟩ : ∃ c, cmpS m1 m2 m3 a' t' n' = c := ⟨_, rfl⟩
  obtain ⟨v3, hV3⟩ : ∃ c, cmpS m1 m2 m3 a'' t'' n'' = c := ⟨_, rfl⟩
  rw [hX] at hsw hz rx p1
  rw [hY] at ry p1
  rw [hZ] at p1
  rw [hV1] at p2
  rw [hV2] at p3
  rw [hV3] at p4
  have xb : -1 ≤ x ∧ x ≤ 1 := by omega
  have yb : -1 ≤ y ∧ y ≤ 1 := by omega
  obtain ⟨xb1, xb2⟩ := xb
  obtain ⟨yb1, yb2⟩ := yb
  obtain ⟨b0', hb0⟩ : ∃ b, (x == 0) = b := ⟨_, rfl⟩
  have hq : (a == a' && (t == t' && n == n')) = b0' := by
    rw [← hb0, Bool.eq_iff_iff]
    simp
    omega
  have HL := Lib.hid hL
  have HM := Lib.hid hM
  have HP := Lib.hid p1
  have HW := Lib.hid hsw
  have HX := Lib.hid hX
  have HY := Lib.hid hY
  have HZ := Lib.hid hZ
  have HV1 := Lib.hid hV1
  have HV2 := Lib.hid hV2
  have HV3 := Lib.hid hV3
  have HE := Lib.hid p5
  have HQ := Lib.hid hq
  have HB0 := Lib.hid hb0
  clear hL hM p1 hsw hX hY hZ hV1 hV2 hV3 p5 hz rx ry hq hb0
  go_enter Tryd.func5, Tryd.ntmps5
  go_upto_region 1 with (fail)
  obtain ⟨W0, hW0⟩ : ∃ W0 : World, W0 = ((w.alloc (.cells #[.int .i64 a, .int .i64 t, .int .i64 n] 23)).alloc (.cells #[.int .i64 a', .int .i64 t', .int .i64 n'] 23)).alloc (.cells #[.int .i64 a'', .int .i64 t'', .int .i64 n''] 23) := ⟨_, rfl⟩
  have h0A : Blk W0 (w.heap.size) 23 #[.int .i64 a, .int .i64 t, .int .i64 n] := by rw [hW0]; exact ((Blk.new w _ _).alloc _).alloc _
  have h0B : Blk W0 (w.heap.size + 1) 23 #[.int .i64 a', .int .i64 t', .int .i64 n'] := by rw [hW0]; exact (Blk.new' _ _ _ _ (by simp)).alloc _
  have h0C : Blk W0 (w.heap.size + 1 + 1) 23 #[.int .i64 a'', .int .i64 t'', .int .i64 n''] := by rw [hW0]; exact Blk.new' _ _ _ _ (by simp)
  have h0 : Below w.heap.size w W0 := by rw [hW0]; exact bal (bal (bal (b0 w) _) _) _
  rw [← hW0]
  clear hW0
  obtain ⟨lA, x0, x1, x2, _, _, _⟩ := h0A.c3
  obtain ⟨lB, y0, y1, y2, _, _, _⟩ := h0B.c3
  obtain ⟨lC, z0, z1, z2, _, _, _⟩ := h0C.c3
  have HS : ∀ w', Below W0.heap.size W0 w' → (Below W0.heap.size W0 w' ∧ w'.cell? ⟨w.heap.size, 0, none⟩ = some (.int .i64 a) ∧ w'.cell? ⟨w.heap.size, 1, none⟩ = some (.int .i64 t) ∧ w'.cell? ⟨w.heap.size, 2, none⟩ = some (.int .i64 n) ∧ w'.cell? ⟨w.heap.size + 1, 0, none⟩ = some (.int .i64 a') ∧ w'.cell? ⟨w.heap.size + 1, 1, none⟩ = some (.int .i64 t') ∧ w'.cell? ⟨w.heap.size + 1, 2, none⟩ = some (.int .i64 n') ∧ w'.cell? ⟨w.heap.size + 1 + 1, 0, none⟩ = some (.int .i64 a'') ∧ w'.cell? ⟨w.heap.size + 1 + 1, 1, none⟩ = some (.int .i64 t'') ∧ w'.cell? ⟨w.heap.size + 1 + 1, 2, none⟩ = some (.int .i64 n'')) := fun w' h => by
    obtain ⟨hc, _⟩ := bcell h
    exact ⟨h, by rw [hc _ _ lA]; exact x0, by rw [hc _ _ lA]; exact x1, by rw [hc _ _ lA]; exact x2, by rw [hc _ _ lB]; exact y0, by rw [hc _ _ lB]; exact y1, by rw [hc _ _ lB]; exact y2, by rw [hc _ _ lC]; exact z0, by rw [hc _ _ lC]; exact z1, by rw [hc _ _ lC]; exact z2⟩
  go_cut [7, 8] (fun s7 s8 wx => ChCut1 W0 x y s7 s8 wx)
  case first =>
    go_region_held3 (fun w' => Below W0.heap.size W0 w' ∧ w'.cell? ⟨w.heap.size, 0, none⟩ = some (.int .i64 a) ∧ w'.cell? ⟨w.heap.size, 1, none⟩ = some (.int .i64 t) ∧ w'.cell? ⟨w.heap.size, 2, none⟩ = some (.int .i64 n) ∧ w'.cell? ⟨w.heap.size + 1, 0, none⟩ = some (.int .i64 a') ∧ w'.cell? ⟨w.heap.size + 1, 1, none⟩ = some (.int .i64 t') ∧ w'.cell? ⟨w.heap.size + 1, 2, none⟩ = some (.int .i64 n') ∧ w'.cell? ⟨w.heap.size + 1 + 1, 0, none⟩ = some (.int .i64 a'') ∧ w'.cell? ⟨w.heap.size + 1 + 1, 1, none⟩ = some (.int .i64 t'') ∧ w'.cell? ⟨w.heap.size + 1 + 1, 2, none⟩ = some (.int .i64 n'')) (first | with_reducible assumption | (refine HS _ ?_; (repeat (first | with_reducible exact b0 _ | with_reducible assumption | with_reducible refine Below.drew ?_ | with_reducible refine below_drewN ?_ _ | with_reducible refine bal ?_ _ | ((with_reducible refine bst ?_ ?_ _); rotate_left; focus (first | exact Nat.le_refl _ | assumption | (simp; done) | (simp; omega) | omega)) | exact below_left (by with_reducible assumption))))) (first
      | (go_at_call 15; refine (compare_any _ _ _ _ _ _ _).mono ?_; rintro e w3 ⟨rfl, hb1⟩; (first | rw [HX.out] | rw [HY.out]); have hB1 : Below W0.heap.size W0 w3 := (by refine bt ?_ hb1; (repeat (first | with_reducible exact b0 _ | with_reducible assumption | with_reducible refine Below.drew ?_ | with_reducible refine below_drewN ?_ _ | with_reducible refine bal ?_ _ | ((with_reducible refine bst ?_ ?_ _); rotate_left; focus (first | exact Nat.le_refl _ | assumption | (simp; done) | (simp; omega) | omega)) | exact below_left (by with_reducible assumption)))); have hk := HS w3 hB1))
    all_goals
      go_wp2_with fail
      go_meet
      case rel => exact ⟨rfl, rfl, (by (repeat (first | with_reducible exact b0 _ | with_reducible assumption | with_reducible refine Below.drew ?_ | with_reducible refine below_drewN ?_ _ | with_reducible refine bal ?_ _ | ((with_reducible refine bst ?_ ?_ _); rotate_left; focus (first | exact Nat.le_refl _ | assumption | (simp; done) | (simp; omega) | omega)) | exact below_left (by with_reducible assumption))))⟩
  case rest =>
  obtain ⟨rfl, rfl, hbx⟩ := hcut
  have h1A := h0A.keep hbx
  have h1B := h0B.keep hbx
  have h1C := h0C.keep hbx
  have h1 : Below w.heap.size w wc := bt h0 hbx
  clear lA x0 x1 x2 lB y0 y1 y2 lC z0 z1 z2 HS h0A h0B h0C hbx
  obtain ⟨lA, x0, x1, x2, _, _, _⟩ := h1A.c3
  obtain ⟨lB, y0, y1, y2, _, _, _⟩ := h1B.c3
  obtain ⟨lC, z0, z1, z2, _, _, _⟩ := h1C.c3
  go_upto_region 2 with (fail)
  go_cut [29] (fun s wx => ChCut2 wc s wx)
  case first =>
    have hq := HQ.out
    have hb0 := HB0.out
    cases b0'
    case true =>
      simp only [Bool.and_eq_true, beq_iff_eq] at hq
      obtain ⟨rfl, rfl, rfl⟩ := hq
      clear HQ HB0 HP HX HY HZ HV1 HV2 HV3 HE HL HM
      go_wp2_with fail
      refine (compare_any a t n a t n _).mono ?_
      rintro e w1 ⟨rfl, hb1⟩
      rw [HW.out]
      have h2A := h1A.keep hb1
      have h2B := h1B.keep hb1
      clear x0 x1 x2 y0 y1 y2 z0 z1 z2
      obtain ⟨_, x0, x1, x2, _, _, _⟩ := h2A.c3
      obtain ⟨_, y0, y1, y2, _, _, _⟩ := h2B.c3
      go_wp2
      go_meet
      case rel => exact ⟨rfl, hb1⟩
    case false =>
      have hne : ¬ (a = a' ∧ t = t' ∧ n = n') := by intro hh; obtain ⟨rfl, rfl, rfl⟩ := hh; simp at hq
      clear hq
      by_cases ha : a = a'
      · subst ha
        by_cases ht : t = t'
        · subst ht
          have hn : ¬ n = n' := fun hh => hne ⟨rfl, rfl, hh⟩
          clear hne
          go_wp2_with fail
          refine (compare_any a t n' a t n _).mono ?_
          rintro e w1 ⟨rfl, hb1⟩
          rw [HW.out]
          have h2A := h1A.keep hb1
          have h2B := h1B.keep hb1
          clear x0 x1 x2 y0 y1 y2 z0 z1 z2
          obtain ⟨_, x0, x1, x2, _, _, _⟩ := h2A.c3
          obtain ⟨_, y0, y1, y2, _, _, _⟩ := h2B.c3
          go_wp2
          go_meet
          case rel => exact ⟨rfl, hb1⟩
        · clear hne
          go_wp2_with fail
          refine (compare_any a t' n' a t n _).mono ?_
          rintro e w1 ⟨rfl, hb1⟩
          rw [HW.out]
          have h2A := h1A.keep hb1
          have h2B := h1B.keep hb1
          clear x0 x1 x2 y0 y1 y2 z0 z1 z2
          obtain ⟨_, x0, x1, x2, _, _, _⟩ := h2A.c3
          obtain ⟨_, y0, y1, y2, _, _, _⟩ := h2B.c3
          go_wp2
          go_meet
          case rel => exact ⟨rfl, hb1⟩
      · clear hne
        go_wp2_with fail
        refine (compare_any a' t' n' a t n _).mono ?_
        rintro e w1 ⟨rfl, hb1⟩
        rw [HW.out]
        have h2A := h1A.keep hb1
        have h2B := h1B.keep hb1
        clear x0 x1 x2 y0 y1 y2 z0 z1 z2
        obtain ⟨_, x0, x1, x2, _, _, _⟩ := h2A.c3
        obtain ⟨_, y0, y1, y2, _, _, _⟩ := h2B.c3
        go_wp2
        go_meet
        case rel => exact ⟨rfl, hb1⟩
  case rest =>
  obtain ⟨rfl, hbx⟩ := hcut
  have h2A := h1A.keep hbx
  have h2B := h1B.keep hbx
  have h2C := h1C.keep hbx
  have h2 : Below w.heap.size w wc := bt h1 hbx
  clear lA x0 x1 x2 lB y0 y1 y2 lC z0 z1 z2 h1A h1B h1C h1 hbx
  obtain ⟨lA, x0, x1, x2, _, _, _⟩ := h2A.c3
  obtain ⟨lB, y0, y1, y2, _, _, _⟩ := h2B.c3
  obtain ⟨lC, z0, z1, z2, _, _, _⟩ := h2C.c3
  go_upto_region 4 with (fail)
  go_cut [41] (fun s wx => ChCut2 wc s wx)
  case first =>
    by_cases hx : x ≤ 0
    · by_cases hy : y ≤ 0
      · have hz := HP.out hx hy
        go_wp2_with fail
        refine (compare_any a t n a'' t'' n'' _).mono ?_
        rintro e w3 ⟨rfl, hb3⟩
        rw [HZ.out]
        go_wp2
        go_meet
        case rel => exact ⟨congrArg Value.bool (decide_eq_false (by omega)), hb3⟩
      · go_wp2
        go_meet
        case rel => exact ⟨rfl, b0 _⟩
    · go_wp2
      go_meet
      case rel => exact ⟨rfl, b0 _⟩
  case rest =>
  obtain ⟨rfl, hbx⟩ := hcut
  have h3A := h2A.keep hbx
  have h3B := h2B.keep hbx
  have h3C := h2C.keep hbx
  have h3 : Below w.heap.size w wc := bt h2 hbx
  clear lA x0 x1 x2 lB y0 y1 y2 lC z0 z1 z2 h2A h2B h2C h2 hbx
  obtain ⟨lA, x0, x1, x2, _, _, _⟩ := h3A.c3
  obtain ⟨lB, y0, y1, y2, _, _, _⟩ := h3B.c3
  obtain ⟨lC, z0, z1, z2, _, _, _⟩ := h3C.c3
  rename_i wc0
  have HS : ∀ w', Below wc.heap.size wc w' → (Below wc.heap.size wc w' ∧ w'.cell? ⟨w.heap.size, 0, none⟩ = some (.int .i64 a) ∧ w'.cell? ⟨w.heap.size, 1, none⟩ = some (.int .i64 t) ∧ w'.cell? ⟨w.heap.size, 2, none⟩ = some (.int .i64 n) ∧ w'.cell? ⟨w.heap.size + 1, 0, none⟩ = some (.int .i64 a') ∧ w'.cell? ⟨w.heap.size + 1, 1, none⟩ = some (.int .i64 t') ∧ w'.cell? ⟨w.heap.size + 1, 2, none⟩ = some (.int .i64 n') ∧ w'.cell? ⟨w.heap.size + 1 + 1, 0, none⟩ = some (.int .i64 a'') ∧ w'.cell? ⟨w.heap.size + 1 + 1, 1, none⟩ = some (.int .i64 t'') ∧ w'.cell? ⟨w.heap.size + 1 + 1, 2, none⟩ = some (.int .i64 n'')) := fun w' h => by
    obtain ⟨hc, _⟩ := bcell h
    exact ⟨h, by rw [hc _ _ lA]; exact x0, by rw [hc _ _ lA]; exact x1, by rw [hc _ _ lA]; exact x2, by rw [hc _ _ lB]; exact y0, by rw [hc _ _ lB]; exact y1, by rw [hc _ _ lB]; exact y2, by rw [hc _ _ lC]; exact z0, by rw [hc _ _ lC]; exact z1, by rw [hc _ _ lC]; exact z2⟩
  go_upto_region 6 with (fail)
  go_cut [9] (fun s wx => ChCut3 wc m1 m2 m3 s wx)
  case first =>
    go_region_held3 (fun w' => Below wc.heap.size wc w' ∧ w'.cell? ⟨w.heap.size, 0, none⟩ = some (.int .i64 a) ∧ w'.cell? ⟨w.heap.size, 1, none⟩ = some (.int .i64 t) ∧ w'.cell? ⟨w.heap.size, 2, none⟩ = some (.int .i64 n) ∧ w'.cell? ⟨w.heap.size + 1, 0, none⟩ = some (.int .i64 a') ∧ w'.cell? ⟨w.heap.size + 1, 1, none⟩ = some (.int .i64 t') ∧ w'.cell? ⟨w.heap.size + 1, 2, none⟩ = some (.int .i64 n') ∧ w'.cell? ⟨w.heap.size + 1 + 1, 0, none⟩ = some (.int .i64 a'') ∧ w'.cell? ⟨w.heap.size + 1 + 1, 1, none⟩ = some (.int .i64 t'') ∧ w'.cell? ⟨w.heap.size + 1 + 1, 2, none⟩ = some (.int .i64 n'')) (first | with_reducible assumption | (refine HS _ ?_; (repeat (first | with_reducible exact b0 _ | with_reducible assumption | with_reducible refine Below.drew ?_ | with_reducible refine below_drewN ?_ _ | with_reducible refine bal ?_ _ | ((with_reducible refine bst ?_ ?_ _); rotate_left; focus (first | exact Nat.le_refl _ | assumption | (simp; done) | (simp; omega) | omega)) | exact below_left (by with_reducible assumption))))) (first
      | (go_at_call 16; refine (later_any _ _ _ _ _ _ _).mono ?_; rintro e w3 ⟨rfl, hb1⟩; rw [HL.out]; simp only [stampT]; have hB1 : Below wc.heap.size wc w3 := (by refine bt ?_ hb1; (repeat (first | with_reducible exact b0 _ | with_reducible assumption | with_reducible refine Below.drew ?_ | with_reducible refine below_drewN ?_ _ | with_reducible refine bal ?_ _ | ((with_reducible refine bst ?_ ?_ _); rotate_left; focus (first | exact Nat.le_refl _ | assumption | (simp; done) | (simp; omega) | omega)) | exact below_left (by with_reducible assumption)))); have hz1 := hB1.size; have hz2 := hb1.size; (try simp at hz2); (try have lz0 : wc.heap.size < w3.heap.size := (by omega)); (first | (with_reducible have zb0 : Blk w3 wc.heap.size 23 #[.int .i64 0, .int .i64 0, .int .i64 0] := Blk.keep ((Blk.new wc 23 #[.int .i64 0, .int .i64 0, .int .i64 0]).drew) hb1; have zc0 := zb0.c3) | skip); have hk := HS w3 hB1)
      | (go_at_call 16; refine (later_any _ _ _ _ _ _ _).mono ?_; rintro e w4 ⟨rfl, hb2⟩; rw [HM.out]; simp only [stampT]; have hB2 : Below wc.heap.size wc w4 := (by refine bt ?_ hb2; (repeat (first | with_reducible exact b0 _ | with_reducible assumption | with_reducible refine Below.drew ?_ | with_reducible refine below_drewN ?_ _ | with_reducible refine bal ?_ _ | ((with_reducible refine bst ?_ ?_ _); rotate_left; focus (first | exact Nat.le_refl _ | assumption | (simp; done) | (simp; omega) | omega)) | exact below_left (by with_reducible assumption)))); have hz3 := hB2.size; have hz4 := hb2.size; (try simp at hz4); (try have lz1 : w3.heap.size < w4.heap.size := (by omega)); (first | (with_reducible have zb1 : Blk w4 wc.heap.size 23 #[.int .i64 0, .int .i64 0, .int .i64 0] := Blk.keep zb0 hb2; have zc1 := zb1.c3) | (with_reducible have zb1 : Blk w4 w3.heap.size 23 #[.int .i64 0, .int .i64 0, .int .i64 0] := Blk.keep (Blk.new w3 23 #[.int .i64 0, .int .i64 0, .int .i64 0]) hb2; have zc1 := zb1.c3) | skip); have hk := HS w4 hB2))
    all_goals
      go_wp2_with fail
      go_meet
      case rel =>
        refine ⟨_, rfl, ?_, ?_⟩
        · (repeat (first | (with_reducible assumption) | (with_reducible refine Blk.drew ?_) | (with_reducible refine Blk.drewN ?_ _) | (with_reducible exact Blk.new _ _ _) | (with_reducible exact Blk.new' _ _ _ _ (by simp)) | (with_reducible refine blk_put3 (c0 := .int .i64 0) (c1 := .int .i64 0) (c2 := .int .i64 0) ?_) | (with_reducible refine Blk.alloc ?_ _) | (with_reducible refine blk_far3 ?_ (by first | omega | (simp; omega)))))
        · (repeat (first | with_reducible exact b0 _ | with_reducible assumption | with_reducible refine Below.drew ?_ | with_reducible refine below_drewN ?_ _ | with_reducible refine bal ?_ _ | ((with_reducible refine bst ?_ ?_ _); rotate_left; focus (first | exact Nat.le_refl _ | assumption | (simp; done) | (simp; omega) | omega)) | exact below_left (by with_reducible assumption)))
  case rest =>
  obtain ⟨g, rfl, h4G, hbx⟩ := hcut
  have h4A := h3A.keep hbx
  have h4B := h3B.keep hbx
  have h4C := h3C.keep hbx
  have h4 : Below w.heap.size w wc := bt h3 hbx
  clear lA x0 x1 x2 lB y0 y1 y2 lC z0 z1 z2 h3A h3B h3C h3 hbx HS
  obtain ⟨lA, x0, x1, x2, _, _, _⟩ := h4A.c3
  obtain ⟨lB, y0, y1, y2, _, _, _⟩ := h4B.c3
  obtain ⟨lC, z0, z1, z2, _, _, _⟩ := h4C.c3
  obtain ⟨lG, g0, g1, g2, _, _, _⟩ := h4G.c3
  go_wp2_with fail
  refine (compare_any m1 m2 m3 a t n _).mono ?_
  rintro e w4 ⟨rfl, hb4⟩
  rw [HV1.out]
  have h5A := h4A.keep hb4
  have h5B := h4B.keep hb4
  have h5C := h4C.keep hb4
  have h5G := h4G.keep hb4
  have h5 : Below w.heap.size w w4 := bt h4 hb4
  clear lA x0 x1 x2 lB y0 y1 y2 lC z0 z1 z2 lG g0 g1 g2 h4A h4B h4C h4G h4 hb4
  obtain ⟨lA, x0, x1, x2, _, _, _⟩ := h5A.c3
  obtain ⟨lB, y0, y1, y2, _, _, _⟩ := h5B.c3
  obtain ⟨lC, z0, z1, z2, _, _, _⟩ := h5C.c3
  obtain ⟨lG, g0, g1, g2, _, _, _⟩ := h5G.c3
  go_wp2_with fail
  refine (compare_any m1 m2 m3 a' t' n' _).mono ?_
  rintro e w5 ⟨rfl, hb5⟩
  rw [HV2.out]
  have h6A := h5A.keep hb5
  have h6B := h5B.keep hb5
  have h6C := h5C.keep hb5
  have h6G := h5G.keep hb5
  have h6 : Below w.heap.size w w5 := bt h5 hb5
  clear lA x0 x1 x2 lB y0 y1 y2 lC z0 z1 z2 lG g0 g1 g2 h5A h5B h5C h5G h5 hb5
  obtain ⟨lA, x0, x1, x2, _, _, _⟩ := h6A.c3
  obtain ⟨lB, y0, y1, y2, _, _, _⟩ := h6B.c3
  obtain ⟨lC, z0, z1, z2, _, _, _⟩ := h6C.c3
  obtain ⟨lG, g0, g1, g2, _, _, _⟩ := h6G.c3
  go_wp2_with fail
  refine (compare_any m1 m2 m3 a'' t'' n'' _).mono ?_
  rintro e w6 ⟨rfl, hb6⟩
  rw [HV3.out]
  have h7A := h6A.keep hb6
  have h7B := h6B.keep hb6
  have h7C := h6C.keep hb6
  have h7G := h6G.keep hb6
  have h7 : Below w.heap.size w w6 := bt h6 hb6
  clear lA x0 x1 x2 lB y0 y1 y2 lC z0 z1 z2 lG g0 g1 g2 h6A h6B h6C h6G h6 hb6
  obtain ⟨lA, x0, x1, x2, _, _, _⟩ := h7A.c3
  obtain ⟨lB, y0, y1, y2, _, _, _⟩ := h7B.c3
  obtain ⟨lC, z0, z1, z2, _, _, _⟩ := h7C.c3
  obtain ⟨lG, g0, g1, g2, _, _, _⟩ := h7G.c3
  have hE := HE.out
  clear HL HM HP HW HX HY HZ HV1 HV2 HV3 HE HQ HB0 xb1 xb2 yb1 yb2
  rcases hE with ⟨rfl, rfl, rfl⟩ | ⟨rfl, rfl, rfl⟩ | ⟨rfl, rfl, rfl⟩
  all_goals
    go_wp2_with fail
    all_goals
      refine (awake05 _).mono ?_
      rintro e w7 ⟨rfl, hb7⟩
      go_wp2
      go_ret
      exact ⟨rfl, bt h7 hb7⟩
end Go.Proofs.YtkhamjghanjikaaDoor
