/- The walk of the law StampOrders. -/
import Derived.Test.YtkhamjghanjikaaDoorRef5W
import Derived.Test.YtkhamjghanjikaaDoorShow5W
import Derived.Test.YtkhamjghanjikaaDoorBlk
import Derived.Deep.RegionHeld3
import Derived.Deep.DrawnRows
import Derived.Deep.DeepCutAuto
namespace Go.Proofs.YtkhamjghanjikaaDoor
open Go.RowKit
attribute [local go_sem ↓] Go.wp_at_zero Go.wp_at_succ
theorem below_left {B : Nat} {w w' : World} {q : Prop} (h : Below B w w' ∧ q) : Below B w w' := h.1
theorem cmp_swap (a t n a' t' n' : Int) : cmpS a' t' n' a t n = - cmpS a t n a' t' n' := by
  unfold cmpS cmpI
  repeat' split
  all_goals omega
theorem cmpS_range (a t n a' t' n' : Int) : cmpS a t n a' t' n' = -1 ∨ cmpS a t n a' t' n' = 0 ∨ cmpS a t n a' t' n' = 1 := by
  unfold cmpS cmpI
  repeat' split
  all_goals omega
set_option maxHeartbeats 3200000 in
set_option maxRecDepth 100000 in
theorem stampOrders_walk (a t n : Int) (_ha : (Lit.int .i64 a).wf = true) (_hb : (Lit.int .i64 t).wf = true) (_hc : (Lit.int .i64 n).wf = true) (a' t' n' : Int) (_ha' : (Lit.int .i64 a').wf = true) (_hb' : (Lit.int .i64 t').wf = true) (_hc' : (Lit.int .i64 n').wf = true) (w : World) :
    Calls Tryd.prog 6 #[stampV a t n, stampV a' t' n'] w fun e w' => e = .returned (.bool true) ∧ Below w.heap.size w w' := by
  obtain ⟨c, hcmp⟩ : ∃ c, cmpS a t n a' t' n' = c := ⟨_, rfl⟩
  have hsw := cmp_swap a t n a' t' n'
  have hrg := cmpS_range a t n a' t' n'
  rw [hcmp] at hsw hrg
  obtain ⟨⟨l1, l2, l3⟩, hL⟩ : ∃ q : Int × Int × Int, laterT a t n a' t' n' = q := ⟨_, rfl⟩
  obtain ⟨⟨s1, s2, s3⟩, hS⟩ : ∃ q : Int × Int × Int, soonerT a t n a' t' n' = q := ⟨_, rfl⟩
  obtain ⟨r, hr⟩ : ∃ q : Bool, rightB a t n = q := ⟨_, rfl⟩
  have HC := Lib.hid hcmp
  have HW := Lib.hid hsw
  have HL := Lib.hid hL
  have HY := Lib.hid hS
  have HR := Lib.hid hr
  clear hcmp hsw hL hS hr _ha _hb _hc _ha' _hb' _hc'
  rcases hrg with rfl | rfl | rfl
  all_goals
    go_enter Tryd.func6, Tryd.ntmps6
    go_wp2_with fail
    refine (before_any a t n a' t' n' _).mono ?_
    rintro e w1 ⟨rfl, hb1⟩
    rw [HC.out]
    have hA1 : Blk w1 w.heap.size 23 #[.int .i64 a, .int .i64 t, .int .i64 n] := Blk.keep ((Blk.new w _ _).alloc _) hb1
    have hB1 : Blk w1 (w.heap.size + 1) 23 #[.int .i64 a', .int .i64 t', .int .i64 n'] := Blk.keep (Blk.new' _ _ _ _ (by simp)) hb1
    have hw1 : Below w.heap.size w w1 := bt (bal (bal (b0 w) _) _) hb1
    obtain ⟨lA, x0, x1, x2, _, _, _⟩ := hA1.c3
    obtain ⟨lB, y0, y1, y2, _, _, _⟩ := hB1.c3
    go_wp2_with fail
    refine (before_any a' t' n' a t n _).mono ?_
    rintro e w2 ⟨rfl, hb2⟩
    rw [HW.out]
    have hA2 := hA1.keep hb2
    have hB2 := hB1.keep hb2
    have hw2 : Below w.heap.size w w2 := bt hw1 hb2
    clear lA x0 x1 x2 lB y0 y1 y2 hA1 hB1
    obtain ⟨lA, x0, x1, x2, _, _, _⟩ := hA2.c3
    obtain ⟨lB, y0, y1, y2, _, _, _⟩ := hB2.c3
    have HS : ∀ w', Below w2.heap.size w2 w' → (Below w2.heap.size w2 w' ∧ w'.cell? ⟨w.heap.size, 0, none⟩ = some (.int .i64 a) ∧ w'.cell? ⟨w.heap.size, 1, none⟩ = some (.int .i64 t) ∧ w'.cell? ⟨w.heap.size, 2, none⟩ = some (.int .i64 n) ∧ w'.cell? ⟨w.heap.size + 1, 0, none⟩ = some (.int .i64 a') ∧ w'.cell? ⟨w.heap.size + 1, 1, none⟩ = some (.int .i64 t') ∧ w'.cell? ⟨w.heap.size + 1, 2, none⟩ = some (.int .i64 n')) := fun w' h => by
      obtain ⟨hc, _⟩ := bcell h
      exact ⟨h, by rw [hc _ _ lA]; exact x0, by rw [hc _ _ lA]; exact x1, by rw [hc _ _ lA]; exact x2, by rw [hc _ _ lB]; exact y0, by rw [hc _ _ lB]; exact y1, by rw [hc _ _ lB]; exact y2⟩
    go_wp2_with fail
    go_region_held3 (fun w' => Below w2.heap.size w2 w' ∧ w'.cell? ⟨w.heap.size, 0, none⟩ = some (.int .i64 a) ∧ w'.cell? ⟨w.heap.size, 1, none⟩ = some (.int .i64 t) ∧ w'.cell? ⟨w.heap.size, 2, none⟩ = some (.int .i64 n) ∧ w'.cell? ⟨w.heap.size + 1, 0, none⟩ = some (.int .i64 a') ∧ w'.cell? ⟨w.heap.size + 1, 1, none⟩ = some (.int .i64 t') ∧ w'.cell? ⟨w.heap.size + 1, 2, none⟩ = some (.int .i64 n')) (first | with_reducible assumption | (refine HS _ ?_; (repeat (first | with_reducible exact b0 _ | with_reducible assumption | with_reducible refine Below.drew ?_ | with_reducible refine below_drewN ?_ _ | with_reducible refine bal ?_ _ | ((with_reducible refine bst ?_ ?_ _); rotate_left; focus (first | exact Nat.le_refl _ | assumption | (simp; done) | (simp; omega) | omega)) | exact below_left (by with_reducible assumption))))) (first
      | (go_at_call 15; refine (compare_any a t n a' t' n' _).mono ?_; rintro e w3 ⟨rfl, hb1⟩; rw [HC.out]; have hB1 : Below w2.heap.size w2 w3 := (by refine bt ?_ hb1; (repeat (first | with_reducible exact b0 _ | with_reducible assumption | with_reducible refine Below.drew ?_ | with_reducible refine below_drewN ?_ _ | with_reducible refine bal ?_ _ | ((with_reducible refine bst ?_ ?_ _); rotate_left; focus (first | exact Nat.le_refl _ | assumption | (simp; done) | (simp; omega) | omega)) | exact below_left (by with_reducible assumption)))); have hk := HS w3 hB1)
      | (go_at_call 16; refine (later_any a t n a' t' n' _).mono ?_; rintro e w3 ⟨rfl, hb1⟩; rw [HL.out]; simp only [stampT]; have hB1 : Below w2.heap.size w2 w3 := (by refine bt ?_ hb1; (repeat (first | with_reducible exact b0 _ | with_reducible assumption | with_reducible refine Below.drew ?_ | with_reducible refine below_drewN ?_ _ | with_reducible refine bal ?_ _ | ((with_reducible refine bst ?_ ?_ _); rotate_left; focus (first | exact Nat.le_refl _ | assumption | (simp; done) | (simp; omega) | omega)) | exact below_left (by with_reducible assumption)))); have hk := HS w3 hB1)
      | (go_at_call 18; refine (reflater_any a t n a' t' n' _).mono ?_; rintro e w3 ⟨rfl, hb1⟩; rw [HL.out]; simp only [stampT]; have hB1 : Below w2.heap.size w2 w3 := (by refine bt ?_ hb1; (repeat (first | with_reducible exact b0 _ | with_reducible assumption | with_reducible refine Below.drew ?_ | with_reducible refine below_drewN ?_ _ | with_reducible refine bal ?_ _ | ((with_reducible refine bst ?_ ?_ _); rotate_left; focus (first | exact Nat.le_refl _ | assumption | (simp; done) | (simp; omega) | omega)) | exact below_left (by with_reducible assumption)))); have hk := HS w3 hB1)
      | (go_at_call 19; refine (sooner_any a t n a' t' n' _).mono ?_; rintro e w3 ⟨rfl, hb1⟩; rw [HY.out]; simp only [stampT]; have hB1 : Below w2.heap.size w2 w3 := (by refine bt ?_ hb1; (repeat (first | with_reducible exact b0 _ | with_reducible assumption | with_reducible refine Below.drew ?_ | with_reducible refine below_drewN ?_ _ | with_reducible refine bal ?_ _ | ((with_reducible refine bst ?_ ?_ _); rotate_left; focus (first | exact Nat.le_refl _ | assumption | (simp; done) | (simp; omega) | omega)) | exact below_left (by with_reducible assumption)))); have hk := HS w3 hB1)
      | (go_at_call 20; refine (refsooner_any a t n a' t' n' _).mono ?_; rintro e w3 ⟨rfl, hb1⟩; rw [HY.out]; simp only [stampT]; have hB1 : Below w2.heap.size w2 w3 := (by refine bt ?_ hb1; (repeat (first | with_reducible exact b0 _ | with_reducible assumption | with_reducible refine Below.drew ?_ | with_reducible refine below_drewN ?_ _ | with_reducible refine bal ?_ _ | ((with_reducible refine bst ?_ ?_ _); rotate_left; focus (first | exact Nat.le_refl _ | assumption | (simp; done) | (simp; omega) | omega)) | exact below_left (by with_reducible assumption)))); have hk := HS w3 hB1)
      | (go_at_call 21; refine (right_any a t n _).mono ?_; rintro e w3 ⟨rfl, hb1⟩; rw [HR.out]; have hB1 : Below w2.heap.size w2 w3 := (by refine bt ?_ hb1; (repeat (first | with_reducible exact b0 _ | with_reducible assumption | with_reducible refine Below.drew ?_ | with_reducible refine below_drewN ?_ _ | with_reducible refine bal ?_ _ | ((with_reducible refine bst ?_ ?_ _); rotate_left; focus (first | exact Nat.le_refl _ | assumption | (simp; done) | (simp; omega) | omega)) | exact below_left (by with_reducible assumption)))); have hk := HS w3 hB1)
      | (go_at_call 10; refine (refright_any a t n _).mono ?_; rintro e w3 ⟨rfl, hb1⟩; rw [HR.out]; have hB1 : Below w2.heap.size w2 w3 := (by refine bt ?_ hb1; (repeat (first | with_reducible exact b0 _ | with_reducible assumption | with_reducible refine Below.drew ?_ | with_reducible refine below_drewN ?_ _ | with_reducible refine bal ?_ _ | ((with_reducible refine bst ?_ ?_ _); rotate_left; focus (first | exact Nat.le_refl _ | assumption | (simp; done) | (simp; omega) | omega)) | exact below_left (by with_reducible assumption)))); have hk := HS w3 hB1)
      | (go_at_call 11; refine (awake05 _).mono ?_; rintro e w3 ⟨rfl, hb1⟩; have hB1 : Below w2.heap.size w2 w3 := (by refine bt ?_ hb1; (repeat (first | with_reducible exact b0 _ | with_reducible assumption | with_reducible refine Below.drew ?_ | with_reducible refine below_drewN ?_ _ | with_reducible refine bal ?_ _ | ((with_reducible refine bst ?_ ?_ _); rotate_left; focus (first | exact Nat.le_refl _ | assumption | (simp; done) | (simp; omega) | omega)) | exact below_left (by with_reducible assumption)))); have hk := HS w3 hB1))
    all_goals
      go_wp2
      go_ret
      exact ⟨rfl, bt hw2 (by (repeat (first | with_reducible exact b0 _ | with_reducible assumption | with_reducible refine Below.drew ?_ | with_reducible refine below_drewN ?_ _ | with_reducible refine bal ?_ _ | ((with_reducible refine bst ?_ ?_ _); rotate_left; focus (first | exact Nat.le_refl _ | assumption | (simp; done) | (simp; omega) | omega)) | exact below_left (by with_reducible assumption))))⟩
end Go.Proofs.YtkhamjghanjikaaDoor
