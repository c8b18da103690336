/- The walks through clock.New, Now, Hear, Raise and the document's: what they make of any clock. -/
import Derived.Test.YtpdjfmdbpnpkfaaStampW
import Derived.RegionTactic
import Derived.Deep.RegionWith
namespace Go.Proofs.Ytpdjfmdbpnpkfaa
open Go.RowKit
set_option maxHeartbeats 400000 in
set_option maxRecDepth 100000 in
theorem clkright_any (a t n x : Int) (w : World) : Calls Try.prog 22 #[stampV a t n, .int .i64 x] w fun e w' => e = .returned (.bool (rightB a t n && withinB x 1099511627776)) ∧ Below w.heap.size w w' := by
  have hw : withinB x 1099511627776 = (decide (0 ≤ x) && decide (x ≤ 1099511627776)) := rfl
  have HW := Lib.hid hw
  clear hw
  generalize hr : rightB a t n = r
  have HR := Lib.hid hr
  clear hr
  cases r
  · go_enter Try.func22, Try.ntmps22
    go_wp2_with fail
    refine (right_any a t n _).mono ?_
    rintro e w1 ⟨rfl, hb⟩
    rw [HR.out]
    have hB : Below w.heap.size w w1 := bt (bal (b0 w) _) hb
    go_wp2
    go_ret
    exact ⟨rfl, hB⟩
  · by_cases h0 : 0 ≤ x
    · by_cases h1 : x ≤ 1099511627776
      all_goals
        go_enter Try.func22, Try.ntmps22
        go_wp2_with fail
        refine (right_any a t n _).mono ?_
        rintro e w1 ⟨rfl, hb⟩
        rw [HR.out]
        have hB : Below w.heap.size w w1 := bt (bal (b0 w) _) hb
        go_wp2
        go_ret
        exact ⟨by rw [HW.out]; simp [h0, h1], hB⟩
    · go_enter Try.func22, Try.ntmps22
      go_wp2_with fail
      refine (right_any a t n _).mono ?_
      rintro e w1 ⟨rfl, hb⟩
      rw [HR.out]
      have hB : Below w.heap.size w w1 := bt (bal (b0 w) _) hb
      go_wp2
      go_ret
      exact ⟨by rw [HW.out, decide_eq_false (by omega)]; rfl, hB⟩
theorem right_bounds (a t n : Int) (h : rightB a t n = true) : 0 ≤ a ∧ a ≤ 1099511627776 ∧ 0 ≤ t ∧ t ≤ 1048576 ∧ 0 ≤ n ∧ n ≤ 255 := by
  unfold rightB withinB at h
  simp at h
  omega
theorem within_bounds (x m : Int) (h : withinB x m = true) : 0 ≤ x ∧ x ≤ m := by
  unfold withinB at h
  simpa using h
/-- what a clock gives: the stamp, the error -/
def nowT (a t n x : Int) : (Int × Int × Int) × Int :=
  if (rightB a t n && withinB x 1099511627776) = false then ((0, 0, 0), 1)
  else if a < x then ((x, 0, n), 0) else if t = 1048576 then ((0, 0, 0), 6) else ((a, t + 1, n), 0)
set_option maxHeartbeats 1600000 in
set_option maxRecDepth 100000 in
theorem now_any (a t n x : Int) (w : World) :
    Calls Try.prog 10 #[stampV a t n, .int .i64 x] w fun e w' => e = .returned (.tuple #[stampT (nowT a t n x).1, stampT (nowT a t n x).1, .int .i64 (nowT a t n x).2]) ∧ Below w.heap.size w w' := by
  generalize hr : (rightB a t n && withinB x 1099511627776) = r
  have HR := Lib.hid hr
  clear hr
  cases r
  · have hv : nowT a t n x = ((0, 0, 0), 1) := by unfold nowT; rw [HR.out, if_pos rfl]
    have HV := Lib.hid hv
    clear hv
    go_enter Try.func10, Try.ntmps10
    go_wp2_with fail
    refine (clkright_any a t n x _).mono ?_
    rintro e w1 ⟨rfl, hb1⟩
    rw [HR.out]
    obtain ⟨hc1, hf1⟩ := bcell hb1
    have hz1 := hb1.size
    simp at hz1
    have hB1 : Below w.heap.size w w1 := by
      refine bt ?_ hb1
      repeat (first | (with_reducible refine Below.drew ?_) | (with_reducible refine bal ?_ _) | ((with_reducible refine bst ?_ ?_ _); rotate_left; focus (first | (simp; done) | (simp; omega))))
      exact (b0 w)
    go_wp2
    refine bodyPost_ret (v := .tuple #[stampV 0 0 0, stampV 0 0 0, .int .i64 1]) (by simp [results, Try.results10, go_sem, hc1]) rfl ⟨by rw [HV.out], ?_⟩
    repeat (first | (with_reducible refine Below.drew ?_) | (with_reducible refine bal ?_ _) | ((with_reducible refine bst ?_ ?_ _); rotate_left; focus (first | (simp; done) | (simp; omega))))
    exact hB1
  · by_cases hx : a < x
    · have hv : nowT a t n x = ((x, 0, n), 0) := by unfold nowT; rw [HR.out, if_neg (by simp), if_pos hx]
      have HV := Lib.hid hv
      clear hv
      go_enter Try.func10, Try.ntmps10
      go_wp2_with fail
      refine (clkright_any a t n x _).mono ?_
      rintro e w1 ⟨rfl, hb1⟩
      rw [HR.out]
      obtain ⟨hc1, hf1⟩ := bcell hb1
      have hz1 := hb1.size
      simp at hz1
      have hB1 : Below w.heap.size w w1 := by
        refine bt ?_ hb1
        repeat (first | (with_reducible refine Below.drew ?_) | (with_reducible refine bal ?_ _) | ((with_reducible refine bst ?_ ?_ _); rotate_left; focus (first | (simp; done) | (simp; omega))))
        exact (b0 w)
      have ca0 : w1.cell? ⟨w.heap.size, 0, none⟩ = some (Value.int .i64 (a)) := by rw [hc1 _ _ (by simp <;> omega)]; go_simp
      have fa0 : w1.frozen? ⟨w.heap.size, 0, none⟩ = false := by rw [hf1 _ _ (by simp <;> omega)]; go_simp
      have ca1 : w1.cell? ⟨w.heap.size, 1, none⟩ = some (Value.int .i64 (t)) := by rw [hc1 _ _ (by simp <;> omega)]; go_simp
      have fa1 : w1.frozen? ⟨w.heap.size, 1, none⟩ = false := by rw [hf1 _ _ (by simp <;> omega)]; go_simp
      have ca2 : w1.cell? ⟨w.heap.size, 2, none⟩ = some (Value.int .i64 (n)) := by rw [hc1 _ _ (by simp <;> omega)]; go_simp
      have fa2 : w1.frozen? ⟨w.heap.size, 2, none⟩ = false := by rw [hf1 _ _ (by simp <;> omega)]; go_simp
      have cb0 : w1.cell? ⟨w.heap.size + 1, 0, none⟩ = some (Value.int .i64 (0)) := by rw [hc1 _ _ (by simp <;> omega)]; go_simp
      have fb0 : w1.frozen? ⟨w.heap.size + 1, 0, none⟩ = false := by rw [hf1 _ _ (by simp <;> omega)]; go_simp
      have cb1 : w1.cell? ⟨w.heap.size + 1, 1, none⟩ = some (Value.int .i64 (0)) := by rw [hc1 _ _ (by simp <;> omega)]; go_simp
      have fb1 : w1.frozen? ⟨w.heap.size + 1, 1, none⟩ = false := by rw [hf1 _ _ (by simp <;> omega)]; go_simp
      have cb2 : w1.cell? ⟨w.heap.size + 1, 2, none⟩ = some (Value.int .i64 (0)) := by rw [hc1 _ _ (by simp <;> omega)]; go_simp
      have fb2 : w1.frozen? ⟨w.heap.size + 1, 2, none⟩ = false := by rw [hf1 _ _ (by simp <;> omega)]; go_simp
      have cc0 : w1.cell? ⟨w.heap.size + 1 + 1, 0, none⟩ = some (Value.int .i64 (0)) := by rw [hc1 _ _ (by simp <;> omega)]; go_simp
      have fc0 : w1.frozen? ⟨w.heap.size + 1 + 1, 0, none⟩ = false := by rw [hf1 _ _ (by simp <;> omega)]; go_simp
      have cc1 : w1.cell? ⟨w.heap.size + 1 + 1, 1, none⟩ = some (Value.int .i64 (0)) := by rw [hc1 _ _ (by simp <;> omega)]; go_simp
      have fc1 : w1.frozen? ⟨w.heap.size + 1 + 1, 1, none⟩ = false := by rw [hf1 _ _ (by simp <;> omega)]; go_simp
      have cc2 : w1.cell? ⟨w.heap.size + 1 + 1, 2, none⟩ = some (Value.int .i64 (0)) := by rw [hc1 _ _ (by simp <;> omega)]; go_simp
      have fc2 : w1.frozen? ⟨w.heap.size + 1 + 1, 2, none⟩ = false := by rw [hf1 _ _ (by simp <;> omega)]; go_simp
      clear hc1 hf1
      go_wp2
      go_region
      go_wp2
      refine bodyPost_ret (v := .tuple #[stampV x 0 n, stampV x 0 n, .int .i64 0]) (by simp [results, Try.results10, go_sem, *]) rfl ⟨by rw [HV.out], ?_⟩
      repeat (first | (with_reducible refine Below.drew ?_) | (with_reducible refine bal ?_ _) | ((with_reducible refine bst ?_ ?_ _); rotate_left; focus (first | (simp; done) | (simp; omega))))
      exact hB1
    · by_cases ht : t = 1048576
      · have hv : nowT a t n x = ((0, 0, 0), 6) := by unfold nowT; rw [HR.out, if_neg (by simp), if_neg hx, if_pos ht]
        have HV := Lib.hid hv
        clear hv
        have hq : (t == 1048576) = true := by simp [ht]
        clear ht
        go_enter Try.func10, Try.ntmps10
        go_wp2_with fail
        refine (clkright_any a t n x _).mono ?_
        rintro e w1 ⟨rfl, hb1⟩
        rw [HR.out]
        obtain ⟨hc1, hf1⟩ := bcell hb1
        have hz1 := hb1.size
        simp at hz1
        have hB1 : Below w.heap.size w w1 := by
          refine bt ?_ hb1
          repeat (first | (with_reducible refine Below.drew ?_) | (with_reducible refine bal ?_ _) | ((with_reducible refine bst ?_ ?_ _); rotate_left; focus (first | (simp; done) | (simp; omega))))
          exact (b0 w)
        go_wp2
        refine bodyPost_ret (v := .tuple #[stampV 0 0 0, stampV 0 0 0, .int .i64 6]) (by simp [results, Try.results10, go_sem, hc1]) rfl ⟨by rw [HV.out], ?_⟩
        repeat (first | (with_reducible refine Below.drew ?_) | (with_reducible refine bal ?_ _) | ((with_reducible refine bst ?_ ?_ _); rotate_left; focus (first | (simp; done) | (simp; omega))))
        exact hB1
      · have hv : nowT a t n x = ((a, t + 1, n), 0) := by unfold nowT; rw [HR.out, if_neg (by simp), if_neg hx, if_neg ht]
        have HV := Lib.hid hv
        clear hv
        have hq : (t == 1048576) = false := by simp [ht]
        have hbd := right_bounds a t n (by have := HR.out; simp at this; exact this.1)
        obtain ⟨hb1, hb2, hb3, hb4, hb5, hb6⟩ := hbd
        clear ht
        go_enter Try.func10, Try.ntmps10
        go_wp2_with fail
        refine (clkright_any a t n x _).mono ?_
        rintro e w1 ⟨rfl, hb1⟩
        rw [HR.out]
        obtain ⟨hc1, hf1⟩ := bcell hb1
        have hz1 := hb1.size
        simp at hz1
        have hB1 : Below w.heap.size w w1 := by
          refine bt ?_ hb1
          repeat (first | (with_reducible refine Below.drew ?_) | (with_reducible refine bal ?_ _) | ((with_reducible refine bst ?_ ?_ _); rotate_left; focus (first | (simp; done) | (simp; omega))))
          exact (b0 w)
        have ca0 : w1.cell? ⟨w.heap.size, 0, none⟩ = some (Value.int .i64 (a)) := by rw [hc1 _ _ (by simp <;> omega)]; go_simp
        have fa0 : w1.frozen? ⟨w.heap.size, 0, none⟩ = false := by rw [hf1 _ _ (by simp <;> omega)]; go_simp
        have ca1 : w1.cell? ⟨w.heap.size, 1, none⟩ = some (Value.int .i64 (t)) := by rw [hc1 _ _ (by simp <;> omega)]; go_simp
        have fa1 : w1.frozen? ⟨w.heap.size, 1, none⟩ = false := by rw [hf1 _ _ (by simp <;> omega)]; go_simp
        have ca2 : w1.cell? ⟨w.heap.size, 2, none⟩ = some (Value.int .i64 (n)) := by rw [hc1 _ _ (by simp <;> omega)]; go_simp
        have fa2 : w1.frozen? ⟨w.heap.size, 2, none⟩ = false := by rw [hf1 _ _ (by simp <;> omega)]; go_simp
        have cb0 : w1.cell? ⟨w.heap.size + 1, 0, none⟩ = some (Value.int .i64 (0)) := by rw [hc1 _ _ (by simp <;> omega)]; go_simp
        have fb0 : w1.frozen? ⟨w.heap.size + 1, 0, none⟩ = false := by rw [hf1 _ _ (by simp <;> omega)]; go_simp
        have cb1 : w1.cell? ⟨w.heap.size + 1, 1, none⟩ = some (Value.int .i64 (0)) := by rw [hc1 _ _ (by simp <;> omega)]; go_simp
        have fb1 : w1.frozen? ⟨w.heap.size + 1, 1, none⟩ = false := by rw [hf1 _ _ (by simp <;> omega)]; go_simp
        have cb2 : w1.cell? ⟨w.heap.size + 1, 2, none⟩ = some (Value.int .i64 (0)) := by rw [hc1 _ _ (by simp <;> omega)]; go_simp
        have fb2 : w1.frozen? ⟨w.heap.size + 1, 2, none⟩ = false := by rw [hf1 _ _ (by simp <;> omega)]; go_simp
        have cc0 : w1.cell? ⟨w.heap.size + 1 + 1, 0, none⟩ = some (Value.int .i64 (0)) := by rw [hc1 _ _ (by simp <;> omega)]; go_simp
        have fc0 : w1.frozen? ⟨w.heap.size + 1 + 1, 0, none⟩ = false := by rw [hf1 _ _ (by simp <;> omega)]; go_simp
        have cc1 : w1.cell? ⟨w.heap.size + 1 + 1, 1, none⟩ = some (Value.int .i64 (0)) := by rw [hc1 _ _ (by simp <;> omega)]; go_simp
        have fc1 : w1.frozen? ⟨w.heap.size + 1 + 1, 1, none⟩ = false := by rw [hf1 _ _ (by simp <;> omega)]; go_simp
        have cc2 : w1.cell? ⟨w.heap.size + 1 + 1, 2, none⟩ = some (Value.int .i64 (0)) := by rw [hc1 _ _ (by simp <;> omega)]; go_simp
        have fc2 : w1.frozen? ⟨w.heap.size + 1 + 1, 2, none⟩ = false := by rw [hf1 _ _ (by simp <;> omega)]; go_simp
        clear hc1 hf1
        go_wp2
        go_region
        go_wp2
        refine bodyPost_ret (v := .tuple #[stampV a (t + 1) n, stampV a (t + 1) n, .int .i64 0]) (by simp [results, Try.results10, go_sem, *]) rfl ⟨by rw [HV.out], ?_⟩
        repeat (first | (with_reducible refine Below.drew ?_) | (with_reducible refine bal ?_ _) | ((with_reducible refine bst ?_ ?_ _); rotate_left; focus (first | (simp; done) | (simp; omega))))
        exact hB1
set_option maxHeartbeats 800000 in
set_option maxRecDepth 100000 in
theorem refright_any (a t n : Int) (w : World) : Calls Try.prog 17 #[stampV a t n] w fun e w' => e = .returned (.bool (rightB a t n)) ∧ Below w.heap.size w w' := by
  by_cases h0 : 0 ≤ a
  · by_cases h1 : a ≤ 1099511627776
    · by_cases h2 : 0 ≤ t
      · by_cases h3 : t ≤ 1048576
        · by_cases h4 : 0 ≤ n
          · by_cases h5 : n ≤ 255
            · have hv : rightB a t n = true := by unfold rightB withinB; simp; omega
              have HV := Lib.hid hv
              clear hv
              go_enter Try.func17, Try.ntmps17
              go_wp2
              go_ret
              exact ⟨by rw [HV.out]; rfl, bal (b0 w) _⟩
            · have hv : rightB a t n = false := by unfold rightB withinB; simp; omega
              have HV := Lib.hid hv
              clear hv
              go_enter Try.func17, Try.ntmps17
              go_wp2
              go_ret
              exact ⟨by rw [HV.out]; rfl, bal (b0 w) _⟩
          · have hv : rightB a t n = false := by unfold rightB withinB; simp; omega
            have HV := Lib.hid hv
            clear hv
            go_enter Try.func17, Try.ntmps17
            go_wp2
            go_ret
            exact ⟨by rw [HV.out]; rfl, bal (b0 w) _⟩
        · have hv : rightB a t n = false := by unfold rightB withinB; simp; omega
          have HV := Lib.hid hv
          clear hv
          go_enter Try.func17, Try.ntmps17
          go_wp2
          go_ret
          exact ⟨by rw [HV.out]; rfl, bal (b0 w) _⟩
      · have hv : rightB a t n = false := by unfold rightB withinB; simp; omega
        have HV := Lib.hid hv
        clear hv
        go_enter Try.func17, Try.ntmps17
        go_wp2
        go_ret
        exact ⟨by rw [HV.out]; rfl, bal (b0 w) _⟩
    · have hv : rightB a t n = false := by unfold rightB withinB; simp; omega
      have HV := Lib.hid hv
      clear hv
      go_enter Try.func17, Try.ntmps17
      go_wp2
      go_ret
      exact ⟨by rw [HV.out]; rfl, bal (b0 w) _⟩
  · have hv : rightB a t n = false := by unfold rightB withinB; simp; omega
    have HV := Lib.hid hv
    clear hv
    go_enter Try.func17, Try.ntmps17
    go_wp2
    go_ret
    exact ⟨by rw [HV.out]; rfl, bal (b0 w) _⟩
set_option maxHeartbeats 800000 in
set_option maxRecDepth 100000 in
theorem wall_any (x : Int) (w : World) : Calls Try.prog 23 #[.int .i64 x] w fun e w' => e = .returned (.bool (withinB x 1099511627776)) ∧ w = w' := by
  by_cases h0 : 0 ≤ x
  · by_cases h1 : x ≤ 1099511627776
    · have hv : withinB x 1099511627776 = true := by unfold withinB; simp; omega
      have HV := Lib.hid hv
      clear hv
      go_enter Try.func23, Try.ntmps23
      go_wp2
      go_ret
      exact ⟨by rw [HV.out]; rfl, rfl⟩
    · have hv : withinB x 1099511627776 = false := by unfold withinB; simp; omega
      have HV := Lib.hid hv
      clear hv
      go_enter Try.func23, Try.ntmps23
      go_wp2
      go_ret
      exact ⟨by rw [HV.out]; rfl, rfl⟩
  · have hv : withinB x 1099511627776 = false := by unfold withinB; simp; omega
    have HV := Lib.hid hv
    clear hv
    go_enter Try.func23, Try.ntmps23
    go_wp2
    go_ret
    exact ⟨by rw [HV.out]; rfl, rfl⟩
def newT (n : Int) : (Int × Int × Int) × Int := if rightB 0 0 n = false then ((0, 0, 0), 1) else ((0, 0, n), 0)
set_option maxHeartbeats 800000 in
set_option maxRecDepth 100000 in
theorem new_any (n : Int) (w : World) : Calls Try.prog 13 #[.int .i64 n] w fun e w' => e = .returned (.tuple #[stampT (newT n).1, .int .i64 (newT n).2]) ∧ Below w.heap.size w w' := by
  generalize hr : rightB 0 0 n = r
  have HR := Lib.hid hr
  clear hr
  cases r
  · have hv : newT n = ((0, 0, 0), 1) := by unfold newT; rw [HR.out, if_pos rfl]
    have HV := Lib.hid hv
    clear hv
    go_enter Try.func13, Try.ntmps13
    go_wp2_with fail
    refine (right_any 0 0 n _).mono ?_
    rintro e w1 ⟨rfl, hb1⟩
    rw [HR.out]
    obtain ⟨hc1, hf1⟩ := bcell hb1
    have hz1 := hb1.size
    simp at hz1
    have hB1 : Below w.heap.size w w1 := by
      refine bt ?_ hb1
      repeat (first | (with_reducible refine Below.drew ?_) | (with_reducible refine bal ?_ _) | ((with_reducible refine bst ?_ ?_ _); rotate_left; focus (first | (simp; done) | (simp; omega))))
      exact (b0 w)
    have ca0 : w1.cell? ⟨w.heap.size, 0, none⟩ = some (Value.int .i64 (0)) := by rw [hc1 _ _ (by simp <;> omega)]; go_simp
    have fa0 : w1.frozen? ⟨w.heap.size, 0, none⟩ = false := by rw [hf1 _ _ (by simp <;> omega)]; go_simp
    have ca1 : w1.cell? ⟨w.heap.size, 1, none⟩ = some (Value.int .i64 (0)) := by rw [hc1 _ _ (by simp <;> omega)]; go_simp
    have fa1 : w1.frozen? ⟨w.heap.size, 1, none⟩ = false := by rw [hf1 _ _ (by simp <;> omega)]; go_simp
    have ca2 : w1.cell? ⟨w.heap.size, 2, none⟩ = some (Value.int .i64 (0)) := by rw [hc1 _ _ (by simp <;> omega)]; go_simp
    have fa2 : w1.frozen? ⟨w.heap.size, 2, none⟩ = false := by rw [hf1 _ _ (by simp <;> omega)]; go_simp
    have cb0 : w1.cell? ⟨w.heap.size + 1, 0, none⟩ = some (Value.int .i64 (0)) := by rw [hc1 _ _ (by simp <;> omega)]; go_simp
    have fb0 : w1.frozen? ⟨w.heap.size + 1, 0, none⟩ = false := by rw [hf1 _ _ (by simp <;> omega)]; go_simp
    have cb1 : w1.cell? ⟨w.heap.size + 1, 1, none⟩ = some (Value.int .i64 (0)) := by rw [hc1 _ _ (by simp <;> omega)]; go_simp
    have fb1 : w1.frozen? ⟨w.heap.size + 1, 1, none⟩ = false := by rw [hf1 _ _ (by simp <;> omega)]; go_simp
    have cb2 : w1.cell? ⟨w.heap.size + 1, 2, none⟩ = some (Value.int .i64 (n)) := by rw [hc1 _ _ (by simp <;> omega)]; go_simp
    have fb2 : w1.frozen? ⟨w.heap.size + 1, 2, none⟩ = false := by rw [hf1 _ _ (by simp <;> omega)]; go_simp
    clear hc1 hf1
    go_wp2
    refine bodyPost_ret (v := .tuple #[stampV 0 0 0, .int .i64 1]) (by simp [results, Try.results13, go_sem, *]) rfl ⟨by rw [HV.out], ?_⟩
    repeat (first | (with_reducible refine Below.drew ?_) | (with_reducible refine bal ?_ _) | ((with_reducible refine bst ?_ ?_ _); rotate_left; focus (first | (simp; done) | (simp; omega))))
    exact hB1
  · have hv : newT n = ((0, 0, n), 0) := by unfold newT; rw [HR.out, if_neg (by simp)]
    have HV := Lib.hid hv
    clear hv
    go_enter Try.func13, Try.ntmps13
    go_wp2_with fail
    refine (right_any 0 0 n _).mono ?_
    rintro e w1 ⟨rfl, hb1⟩
    rw [HR.out]
    obtain ⟨hc1, hf1⟩ := bcell hb1
    have hz1 := hb1.size
    simp at hz1
    have hB1 : Below w.heap.size w w1 := by
      refine bt ?_ hb1
      repeat (first | (with_reducible refine Below.drew ?_) | (with_reducible refine bal ?_ _) | ((with_reducible refine bst ?_ ?_ _); rotate_left; focus (first | (simp; done) | (simp; omega))))
      exact (b0 w)
    have ca0 : w1.cell? ⟨w.heap.size, 0, none⟩ = some (Value.int .i64 (0)) := by rw [hc1 _ _ (by simp <;> omega)]; go_simp
    have fa0 : w1.frozen? ⟨w.heap.size, 0, none⟩ = false := by rw [hf1 _ _ (by simp <;> omega)]; go_simp
    have ca1 : w1.cell? ⟨w.heap.size, 1, none⟩ = some (Value.int .i64 (0)) := by rw [hc1 _ _ (by simp <;> omega)]; go_simp
    have fa1 : w1.frozen? ⟨w.heap.size, 1, none⟩ = false := by rw [hf1 _ _ (by simp <;> omega)]; go_simp
    have ca2 : w1.cell? ⟨w.heap.size, 2, none⟩ = some (Value.int .i64 (0)) := by rw [hc1 _ _ (by simp <;> omega)]; go_simp
    have fa2 : w1.frozen? ⟨w.heap.size, 2, none⟩ = false := by rw [hf1 _ _ (by simp <;> omega)]; go_simp
    have cb0 : w1.cell? ⟨w.heap.size + 1, 0, none⟩ = some (Value.int .i64 (0)) := by rw [hc1 _ _ (by simp <;> omega)]; go_simp
    have fb0 : w1.frozen? ⟨w.heap.size + 1, 0, none⟩ = false := by rw [hf1 _ _ (by simp <;> omega)]; go_simp
    have cb1 : w1.cell? ⟨w.heap.size + 1, 1, none⟩ = some (Value.int .i64 (0)) := by rw [hc1 _ _ (by simp <;> omega)]; go_simp
    have fb1 : w1.frozen? ⟨w.heap.size + 1, 1, none⟩ = false := by rw [hf1 _ _ (by simp <;> omega)]; go_simp
    have cb2 : w1.cell? ⟨w.heap.size + 1, 2, none⟩ = some (Value.int .i64 (n)) := by rw [hc1 _ _ (by simp <;> omega)]; go_simp
    have fb2 : w1.frozen? ⟨w.heap.size + 1, 2, none⟩ = false := by rw [hf1 _ _ (by simp <;> omega)]; go_simp
    clear hc1 hf1
    go_wp2
    refine bodyPost_ret (v := .tuple #[stampV 0 0 n, .int .i64 0]) (by simp [results, Try.results13, go_sem, *]) rfl ⟨by rw [HV.out], ?_⟩
    repeat (first | (with_reducible refine Below.drew ?_) | (with_reducible refine bal ?_ _) | ((with_reducible refine bst ?_ ?_ _); rotate_left; focus (first | (simp; done) | (simp; omega))))
    exact hB1
set_option maxHeartbeats 1600000 in
set_option maxRecDepth 100000 in
theorem refnow_any (a t n x : Int) (w : World) :
    Calls Try.prog 11 #[stampV a t n, .int .i64 x] w fun e w' => e = .returned (.tuple #[stampT (nowT a t n x).1, .int .i64 (nowT a t n x).2]) ∧ Below w.heap.size w w' := by
  generalize h1 : rightB a t n = r1
  have H1 := Lib.hid h1
  clear h1
  generalize h2 : withinB x 1099511627776 = r2
  have H2 := Lib.hid h2
  clear h2
  cases r1
  · have hv : nowT a t n x = ((0, 0, 0), 1) := by unfold nowT; rw [H1.out, Bool.false_and, if_pos rfl]
    have HV := Lib.hid hv
    clear hv
    go_enter Try.func11, Try.ntmps11
    go_wp2_with fail
    refine (refright_any a t n _).mono ?_
    rintro e w1 ⟨rfl, hb1⟩
    rw [H1.out]
    obtain ⟨hc1, hf1⟩ := bcell hb1
    have hz1 := hb1.size
    simp at hz1
    have hB1 : Below w.heap.size w w1 := by
      refine bt ?_ hb1
      repeat (first | (with_reducible refine Below.drew ?_) | (with_reducible refine bal ?_ _) | ((with_reducible refine bst ?_ ?_ _); rotate_left; focus (first | (simp; done) | (simp; omega))))
      exact (b0 w)
    go_wp2
    refine bodyPost_ret (v := .tuple #[stampV 0 0 0, .int .i64 1]) (by simp [results, Try.results11, go_sem, hc1]) rfl ⟨by rw [HV.out], ?_⟩
    repeat (first | (with_reducible refine Below.drew ?_) | (with_reducible refine bal ?_ _) | ((with_reducible refine bst ?_ ?_ _); rotate_left; focus (first | (simp; done) | (simp; omega))))
    exact hB1
  · cases r2
    · have hv : nowT a t n x = ((0, 0, 0), 1) := by unfold nowT; rw [H1.out, H2.out, Bool.and_false, if_pos rfl]
      have HV := Lib.hid hv
      clear hv
      go_enter Try.func11, Try.ntmps11
      go_wp2_with fail
      refine (refright_any a t n _).mono ?_
      rintro e w1 ⟨rfl, hb1⟩
      rw [H1.out]
      obtain ⟨hc1, hf1⟩ := bcell hb1
      have hz1 := hb1.size
      simp at hz1
      have hB1 : Below w.heap.size w w1 := by
        refine bt ?_ hb1
        repeat (first | (with_reducible refine Below.drew ?_) | (with_reducible refine bal ?_ _) | ((with_reducible refine bst ?_ ?_ _); rotate_left; focus (first | (simp; done) | (simp; omega))))
        exact (b0 w)
      go_wp2_with fail
      refine (wall_any x _).mono ?_
      rintro e w' ⟨rfl, rfl⟩
      rw [H2.out]
      go_wp2
      refine bodyPost_ret (v := .tuple #[stampV 0 0 0, .int .i64 1]) (by simp [results, Try.results11, go_sem, hc1]) rfl ⟨by rw [HV.out], ?_⟩
      repeat (first | (with_reducible refine Below.drew ?_) | (with_reducible refine bal ?_ _) | ((with_reducible refine bst ?_ ?_ _); rotate_left; focus (first | (simp; done) | (simp; omega))))
      exact hB1
    · by_cases hx : a < x
      · have hv : nowT a t n x = ((x, 0, n), 0) := by unfold nowT; rw [H1.out, H2.out, if_neg (by simp), if_pos hx]
        have HV := Lib.hid hv
        clear hv
        go_enter Try.func11, Try.ntmps11
        go_wp2_with fail
        refine (refright_any a t n _).mono ?_
        rintro e w1 ⟨rfl, hb1⟩
        rw [H1.out]
        obtain ⟨hc1, hf1⟩ := bcell hb1
        have hz1 := hb1.size
        simp at hz1
        have hB1 : Below w.heap.size w w1 := by
          refine bt ?_ hb1
          repeat (first | (with_reducible refine Below.drew ?_) | (with_reducible refine bal ?_ _) | ((with_reducible refine bst ?_ ?_ _); rotate_left; focus (first | (simp; done) | (simp; omega))))
          exact (b0 w)
        go_wp2_with fail
        refine (wall_any x _).mono ?_
        rintro e w' ⟨rfl, rfl⟩
        rw [H2.out]
        go_wp2
        refine bodyPost_ret (v := .tuple #[stampV x 0 n, .int .i64 0]) (by simp [results, Try.results11, go_sem, hc1]) rfl ⟨by rw [HV.out], ?_⟩
        repeat (first | (with_reducible refine Below.drew ?_) | (with_reducible refine bal ?_ _) | ((with_reducible refine bst ?_ ?_ _); rotate_left; focus (first | (simp; done) | (simp; omega))))
        exact hB1
      · by_cases ht : t = 1048576
        · have hv : nowT a t n x = ((0, 0, 0), 6) := by unfold nowT; rw [H1.out, H2.out, if_neg (by simp), if_neg hx, if_pos ht]
          have HV := Lib.hid hv
          clear hv
          have hq : 1048576 ≤ t := by omega
          clear ht
          go_enter Try.func11, Try.ntmps11
          go_wp2_with fail
          refine (refright_any a t n _).mono ?_
          rintro e w1 ⟨rfl, hb1⟩
          rw [H1.out]
          obtain ⟨hc1, hf1⟩ := bcell hb1
          have hz1 := hb1.size
          simp at hz1
          have hB1 : Below w.heap.size w w1 := by
            refine bt ?_ hb1
            repeat (first | (with_reducible refine Below.drew ?_) | (with_reducible refine bal ?_ _) | ((with_reducible refine bst ?_ ?_ _); rotate_left; focus (first | (simp; done) | (simp; omega))))
            exact (b0 w)
          go_wp2_with fail
          refine (wall_any x _).mono ?_
          rintro e w' ⟨rfl, rfl⟩
          rw [H2.out]
          go_wp2
          refine bodyPost_ret (v := .tuple #[stampV 0 0 0, .int .i64 6]) (by simp [results, Try.results11, go_sem, hc1]) rfl ⟨by rw [HV.out], ?_⟩
          repeat (first | (with_reducible refine Below.drew ?_) | (with_reducible refine bal ?_ _) | ((with_reducible refine bst ?_ ?_ _); rotate_left; focus (first | (simp; done) | (simp; omega))))
          exact hB1
        · have hbd := right_bounds a t n H1.out
          obtain ⟨hd1, hd2, hd3, hd4, hd5, hd6⟩ := hbd
          have hv : nowT a t n x = ((a, t + 1, n), 0) := by unfold nowT; rw [H1.out, H2.out, if_neg (by simp), if_neg hx, if_neg ht]
          have HV := Lib.hid hv
          clear hv
          have hq : ¬ (1048576 ≤ t) := by omega
          clear ht
          go_enter Try.func11, Try.ntmps11
          go_wp2_with fail
          refine (refright_any a t n _).mono ?_
          rintro e w1 ⟨rfl, hb1⟩
          rw [H1.out]
          obtain ⟨hc1, hf1⟩ := bcell hb1
          have hz1 := hb1.size
          simp at hz1
          have hB1 : Below w.heap.size w w1 := by
            refine bt ?_ hb1
            repeat (first | (with_reducible refine Below.drew ?_) | (with_reducible refine bal ?_ _) | ((with_reducible refine bst ?_ ?_ _); rotate_left; focus (first | (simp; done) | (simp; omega))))
            exact (b0 w)
          go_wp2_with fail
          refine (wall_any x _).mono ?_
          rintro e w' ⟨rfl, rfl⟩
          rw [H2.out]
          go_wp2
          refine bodyPost_ret (v := .tuple #[stampV a (t + 1) n, .int .i64 0]) (by simp [results, Try.results11, go_sem, hc1]) rfl ⟨by rw [HV.out], ?_⟩
          repeat (first | (with_reducible refine Below.drew ?_) | (with_reducible refine bal ?_ _) | ((with_reducible refine bst ?_ ?_ _); rotate_left; focus (first | (simp; done) | (simp; omega))))
          exact hB1
end Go.Proofs.Ytpdjfmdbpnpkfaa
