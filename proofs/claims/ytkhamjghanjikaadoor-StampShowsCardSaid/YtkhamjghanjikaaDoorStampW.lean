/- The walks through stamp.Right, Compare, Later, Sooner: what they make of any stamps. -/
import Derived.Test.YtkhamjghanjikaaDoorProg
import Derived.Test.YtkhamjghanjikaaDoorBase
import Derived.Deep.QuietTactic
import Derived.BigQuiet
import Derived.Deep.RegionHeld3
import Derived.Deep.DrawnRows
import Derived.Outline
namespace Go.Proofs.YtkhamjghanjikaaDoor
open Go.RowKit
attribute [local go_sem ↓] Go.wp_at_zero Go.wp_at_succ
/-- a stamp's value -/
abbrev stampV (a t n : Int) : Value := .agg #[.int .i64 a, .int .i64 t, .int .i64 n]
def withinB (n most : Int) : Bool := decide (0 ≤ n) && decide (n ≤ most)
def rightB (a t n : Int) : Bool := withinB a 1099511627776 && withinB t 1048576 && withinB n 255
set_option maxHeartbeats 400000 in
set_option maxRecDepth 100000 in
theorem within_any (n m : Int) (w : World) : Calls Tryd.prog 33 #[.int .i64 n, .int .i64 m] w fun e w' => e = .returned (.bool (withinB n m)) ∧ w = w' := by
  by_cases h0 : 0 ≤ n
  · by_cases h1 : n ≤ m
    · have hr : withinB n m = true := by simp [withinB, h0, h1]
      have HR := Lib.hid hr
      clear hr
      go_enter Tryd.func33, Tryd.ntmps33
      go_wp2
      go_ret
      exact ⟨by rw [HR.out]; rfl, rfl⟩
    · have hr : withinB n m = false := by simp [withinB, h1]
      have HR := Lib.hid hr
      clear hr
      go_enter Tryd.func33, Tryd.ntmps33
      go_wp2
      go_ret
      exact ⟨by rw [HR.out]; rfl, rfl⟩
  · have hr : withinB n m = false := by simp [withinB, h0]
    have HR := Lib.hid hr
    clear hr
    go_enter Tryd.func33, Tryd.ntmps33
    go_wp2
    go_ret
    exact ⟨by rw [HR.out]; rfl, rfl⟩
set_option maxHeartbeats 400000 in
set_option maxRecDepth 100000 in
theorem right_any (a t n : Int) (w : World) : Calls Tryd.prog 21 #[stampV a t n] w fun e w' => e = .returned (.bool (rightB a t n)) ∧ Below w.heap.size w w' := by
  have hr : rightB a t n = (withinB a 1099511627776 && withinB t 1048576 && withinB n 255) := rfl
  have HR := Lib.hid hr
  clear hr
  generalize h1 : withinB a 1099511627776 = b1 at HR
  generalize h2 : withinB t 1048576 = b2 at HR
  generalize h3 : withinB n 255 = b3 at HR
  have H1 := Lib.hid h1
  have H2 := Lib.hid h2
  have H3 := Lib.hid h3
  clear h1 h2 h3
  have wn := fun (n m : Int) (w : World) => within_any n m w
  cases b1
  · go_enter Tryd.func21, Tryd.ntmps21
    go_wp2_with fail
    refine (within_any a 1099511627776 _).mono ?_
    rintro e w' ⟨rfl, rfl⟩
    rw [H1.out]
    go_wp2
    go_ret
    exact ⟨by rw [HR.out]; rfl, (Below.refl _ _).alloc (Nat.le_refl _) _⟩
  · cases b2
    · go_enter Tryd.func21, Tryd.ntmps21
      go_wp2_with fail
      refine (within_any a 1099511627776 _).mono ?_
      rintro e w' ⟨rfl, rfl⟩
      rw [H1.out]
      go_wp2_with fail
      refine (within_any t 1048576 _).mono ?_
      rintro e w' ⟨rfl, rfl⟩
      rw [H2.out]
      go_wp2
      go_ret
      exact ⟨by rw [HR.out]; rfl, (Below.refl _ _).alloc (Nat.le_refl _) _⟩
    · go_enter Tryd.func21, Tryd.ntmps21
      go_wp2_with fail
      refine (within_any a 1099511627776 _).mono ?_
      rintro e w' ⟨rfl, rfl⟩
      rw [H1.out]
      go_wp2_with fail
      refine (within_any t 1048576 _).mono ?_
      rintro e w' ⟨rfl, rfl⟩
      rw [H2.out]
      go_wp2_with fail
      refine (within_any n 255 _).mono ?_
      rintro e w' ⟨rfl, rfl⟩
      rw [H3.out]
      go_wp2
      go_ret
      exact ⟨by rw [HR.out]; rfl, (Below.refl _ _).alloc (Nat.le_refl _) _⟩
/-- the order of two numbers -/
def cmpI (x y : Int) : Int := if x < y then -1 else if y < x then 1 else 0
/-- the order of two stamps -/
def cmpS (a t n a' t' n' : Int) : Int := if cmpI a a' = 0 then (if cmpI t t' = 0 then cmpI n n' else cmpI t t') else cmpI a a'
theorem cmpI_range (x y : Int) : cmpI x y = -1 ∨ cmpI x y = 0 ∨ cmpI x y = 1 := by
  by_cases h : x < y
  · simp [cmpI, h]
  · by_cases h2 : y < x <;> simp [cmpI, h, h2]
set_option maxHeartbeats 400000 in
set_option maxRecDepth 100000 in
theorem cmp_any (x y : Int) (w : World) : Calls Tryd.prog 32 #[.int .i64 x, .int .i64 y] w fun e w' => e = .returned (.int .i64 (cmpI x y)) ∧ w = w' := by
  have hx : (x != x) = false := by simp
  have hy : (y != y) = false := by simp
  by_cases h0 : x < y
  · have hr : cmpI x y = -1 := by unfold cmpI; rw [if_pos h0]
    have HR := Lib.hid hr
    clear hr
    go_enter Tryd.func32, Tryd.ntmps32
    go_wp2
    go_ret
    exact ⟨by rw [HR.out]; rfl, rfl⟩
  · by_cases h1 : y < x
    · have hr : cmpI x y = 1 := by unfold cmpI; rw [if_neg h0, if_pos h1]
      have HR := Lib.hid hr
      clear hr
      go_enter Tryd.func32, Tryd.ntmps32
      go_wp2
      go_ret
      exact ⟨by rw [HR.out]; rfl, rfl⟩
    · have hr : cmpI x y = 0 := by unfold cmpI; rw [if_neg h0, if_neg h1]
      have HR := Lib.hid hr
      clear hr
      go_enter Tryd.func32, Tryd.ntmps32
      go_wp2
      go_ret
      exact ⟨by rw [HR.out]; rfl, rfl⟩
/-- the first that is not 0 -/
def or3 (x y z : Int) : Int := if x = 0 then (if y = 0 then z else y) else x
set_option maxHeartbeats 400000 in
set_option maxRecDepth 100000 in
theorem or_any (x y z : Int) (g c : Nat) (w : World) (h0 : w.cell? ⟨g, 0, none⟩ = some (.int .i64 x)) (h1 : w.cell? ⟨g, 1, none⟩ = some (.int .i64 y)) (h2 : w.cell? ⟨g, 2, none⟩ = some (.int .i64 z)) :
    Calls Tryd.prog 31 #[.slice (some ⟨g, 0, none⟩) 3 c] w fun e w' => e = .returned (.int .i64 (or3 x y z)) ∧ w = w' := by
  by_cases hx : x = 0
  · have hx' : (x != 0) = false := by simp [hx]
    by_cases hy : y = 0
    · have hy' : (y != 0) = false := by simp [hy]
      by_cases hz : z = 0
      · have hz' : (z != 0) = false := by simp [hz]
        have hr : or3 x y z = 0 := by unfold or3; rw [if_pos hx, if_pos hy, hz]
        have HR := Lib.hid hr
        clear hr hx hy hz
        go_enter Tryd.func31, Tryd.ntmps31
        go_wp2
        refine wp_loop_rounds 4 ?_
        rw [rounds_succ]
        go_wp2
        rw [rounds_succ]
        go_wp2
        rw [rounds_succ]
        go_wp2
        rw [rounds_succ]
        go_wp2
        go_ret
        exact ⟨by rw [HR.out]; rfl, rfl⟩
      · have hz' : (z != 0) = true := by simp [hz]
        have hr : or3 x y z = z := by unfold or3; rw [if_pos hx, if_pos hy]
        have HR := Lib.hid hr
        clear hr hx hy hz
        go_enter Tryd.func31, Tryd.ntmps31
        go_wp2
        refine wp_loop_rounds 4 ?_
        rw [rounds_succ]
        go_wp2
        rw [rounds_succ]
        go_wp2
        rw [rounds_succ]
        go_wp2
        go_ret
        exact ⟨by rw [HR.out]; rfl, rfl⟩
    · have hy' : (y != 0) = true := by simp [hy]
      have hr : or3 x y z = y := by unfold or3; rw [if_pos hx, if_neg hy]
      have HR := Lib.hid hr
      clear hr hx hy
      go_enter Tryd.func31, Tryd.ntmps31
      go_wp2
      refine wp_loop_rounds 4 ?_
      rw [rounds_succ]
      go_wp2
      rw [rounds_succ]
      go_wp2
      go_ret
      exact ⟨by rw [HR.out]; rfl, rfl⟩
  · have hx' : (x != 0) = true := by simp [hx]
    have hr : or3 x y z = x := by unfold or3; rw [if_neg hx]
    have HR := Lib.hid hr
    clear hr hx
    go_enter Tryd.func31, Tryd.ntmps31
    go_wp2
    refine wp_loop_rounds 4 ?_
    rw [rounds_succ]
    go_wp2
    go_ret
    exact ⟨by rw [HR.out]; rfl, rfl⟩
theorem cmpS_or (a t n a' t' n' : Int) : or3 (cmpI a a') (cmpI t t') (cmpI n n') = cmpS a t n a' t' n' := rfl
set_option maxHeartbeats 1600000 in
set_option maxRecDepth 100000 in
theorem compare_any (a t n a' t' n' : Int) (w : World) :
    Calls Tryd.prog 15 #[stampV a t n, stampV a' t' n'] w fun e w' => e = .returned (.int .i64 (cmpS a t n a' t' n')) ∧ Below w.heap.size w w' := by
  rw [← cmpS_or]
  go_enter Tryd.func15, Tryd.ntmps15
  go_wp2_with fail
  go_region_held3 (fun w' => w'.cell? ⟨w.heap.size, 0, none⟩ = some (.int .i64 a) ∧ w'.cell? ⟨w.heap.size, 1, none⟩ = some (.int .i64 t) ∧ w'.cell? ⟨w.heap.size, 2, none⟩ = some (.int .i64 n) ∧
      w'.cell? ⟨w.heap.size + 1, 0, none⟩ = some (.int .i64 a') ∧ w'.cell? ⟨w.heap.size + 1, 1, none⟩ = some (.int .i64 t') ∧ w'.cell? ⟨w.heap.size + 1, 2, none⟩ = some (.int .i64 n')) (go_keep) (first
    | (go_at_call 32; refine (cmp_any _ _ _).mono ?_; rintro e w' ⟨rfl, rfl⟩)
    | (go_at_call 31; refine (or_any (cmpI a a') (cmpI t t') (cmpI n n') (w.heap.size + 1 + 1) 3 _ (by go_simp) (by go_simp) (by go_simp)).mono ?_; rintro e w' ⟨rfl, rfl⟩))
  go_wp2
  go_ret
  exact ⟨rfl, (((((Below.refl _ w).alloc (Nat.le_refl _) _).alloc (by simp) _).alloc (by simp; omega) _)).drew⟩
def laterT (a t n a' t' n' : Int) : Int × Int × Int := if cmpS a t n a' t' n' < 0 then (a', t', n') else (a, t, n)
def soonerT (a t n a' t' n' : Int) : Int × Int × Int := if 0 < cmpS a t n a' t' n' then (a', t', n') else (a, t, n)
abbrev stampT (s : Int × Int × Int) : Value := stampV s.1 s.2.1 s.2.2
set_option maxHeartbeats 800000 in
set_option maxRecDepth 100000 in
theorem later_any (a t n a' t' n' : Int) (w : World) :
    Calls Tryd.prog 16 #[stampV a t n, stampV a' t' n'] w fun e w' => e = .returned (stampT (laterT a t n a' t' n')) ∧ Below w.heap.size w w' := by
  by_cases h : cmpS a t n a' t' n' < 0
  · have hr : laterT a t n a' t' n' = (a', t', n') := by unfold laterT; rw [if_pos h]
    have HR := Lib.hid hr
    clear hr
    go_enter Tryd.func16, Tryd.ntmps16
    go_wp2_with fail
    refine (compare_any a t n a' t' n' _).mono ?_
    rintro e w1 ⟨rfl, hb⟩
    obtain ⟨hc, hf⟩ := bcell hb
    have hz := hb.size
    simp at hz
    have hB : Below w.heap.size w w1 := ((((Below.refl _ w).alloc (Nat.le_refl _) _).alloc (by simp) _).alloc (by simp; omega) _).trans (hb.mono (by simp; omega))
    go_wp2
    refine bodyPost_ret (v := stampV a' t' n') (by simp [results, Tryd.results16, go_sem, hc]) rfl ⟨by rw [HR.out], ?_⟩
    exact ((hB.setCell (by simp; omega) _).setCell (by simp; omega) _).setCell (by simp; omega) _
  · have hr : laterT a t n a' t' n' = (a, t, n) := by unfold laterT; rw [if_neg h]
    have HR := Lib.hid hr
    clear hr
    go_enter Tryd.func16, Tryd.ntmps16
    go_wp2_with fail
    refine (compare_any a t n a' t' n' _).mono ?_
    rintro e w1 ⟨rfl, hb⟩
    obtain ⟨hc, hf⟩ := bcell hb
    have hz := hb.size
    simp at hz
    have hB : Below w.heap.size w w1 := ((((Below.refl _ w).alloc (Nat.le_refl _) _).alloc (by simp) _).alloc (by simp; omega) _).trans (hb.mono (by simp; omega))
    go_wp2
    refine bodyPost_ret (v := stampV a t n) (by simp [results, Tryd.results16, go_sem, hc]) rfl ⟨by rw [HR.out], ?_⟩
    exact ((hB.setCell (by simp; omega) _).setCell (by simp; omega) _).setCell (by simp; omega) _
set_option maxHeartbeats 800000 in
set_option maxRecDepth 100000 in
theorem sooner_any (a t n a' t' n' : Int) (w : World) :
    Calls Tryd.prog 19 #[stampV a t n, stampV a' t' n'] w fun e w' => e = .returned (stampT (soonerT a t n a' t' n')) ∧ Below w.heap.size w w' := by
  by_cases h : 0 < cmpS a t n a' t' n'
  · have hr : soonerT a t n a' t' n' = (a', t', n') := by unfold soonerT; rw [if_pos h]
    have HR := Lib.hid hr
    clear hr
    go_enter Tryd.func19, Tryd.ntmps19
    go_wp2_with fail
    refine (compare_any a t n a' t' n' _).mono ?_
    rintro e w1 ⟨rfl, hb⟩
    obtain ⟨hc, hf⟩ := bcell hb
    have hz := hb.size
    simp at hz
    have hB : Below w.heap.size w w1 := ((((Below.refl _ w).alloc (Nat.le_refl _) _).alloc (by simp) _).alloc (by simp; omega) _).trans (hb.mono (by simp; omega))
    go_wp2
    refine bodyPost_ret (v := stampV a' t' n') (by simp [results, Tryd.results19, go_sem, hc]) rfl ⟨by rw [HR.out], ?_⟩
    exact ((hB.setCell (by simp; omega) _).setCell (by simp; omega) _).setCell (by simp; omega) _
  · have hr : soonerT a t n a' t' n' = (a, t, n) := by unfold soonerT; rw [if_neg h]
    have HR := Lib.hid hr
    clear hr
    go_enter Tryd.func19, Tryd.ntmps19
    go_wp2_with fail
    refine (compare_any a t n a' t' n' _).mono ?_
    rintro e w1 ⟨rfl, hb⟩
    obtain ⟨hc, hf⟩ := bcell hb
    have hz := hb.size
    simp at hz
    have hB : Below w.heap.size w w1 := ((((Below.refl _ w).alloc (Nat.le_refl _) _).alloc (by simp) _).alloc (by simp; omega) _).trans (hb.mono (by simp; omega))
    go_wp2
    refine bodyPost_ret (v := stampV a t n) (by simp [results, Tryd.results19, go_sem, hc]) rfl ⟨by rw [HR.out], ?_⟩
    exact ((hB.setCell (by simp; omega) _).setCell (by simp; omega) _).setCell (by simp; omega) _
end Go.Proofs.YtkhamjghanjikaaDoor
