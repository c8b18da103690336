/- The walks of the laws of layer 6 on a clock's stamps: each answers true. -/
import Derived.Test.YtpdjfmdbpnpkfaaClockW
import Derived.Outline
namespace Go.Proofs.Ytpdjfmdbpnpkfaa
open Go.RowKit
theorem new2 : newT 2 = ((0, 0, 2), 0) := by decide +kernel
theorem now5 : nowT 0 0 2 5 = ((5, 0, 2), 0) := by decide +kernel
set_option maxHeartbeats 800000 in
set_option maxRecDepth 100000 in
theorem awake06 (w : World) : Calls Try.prog 12 #[] w fun e w' => e = .returned (.bool true) ∧ Below w.heap.size w w' := by
  go_enter Try.func12, Try.ntmps12
  go_wp2_with fail
  refine (new_any 2 _).mono ?_
  rintro e w1 ⟨rfl, hb1⟩
  rw [new2]
  obtain ⟨hc1, hf1⟩ := bcell hb1
  have hz1 := hb1.size
  try simp at hz1
  have hB1 : Below w.heap.size w w1 := by
    refine bt ?_ hb1
    repeat (first | (with_reducible refine Below.drew ?_) | (with_reducible refine bal ?_ _) | ((with_reducible refine bst ?_ ?_ _); rotate_left; focus (first | (simp; done) | (simp; omega))))
    exact (b0 w)
  clear hc1 hf1
  go_wp2_with fail
  refine (now_any 0 0 2 5 _).mono ?_
  rintro e w2 ⟨rfl, hb2⟩
  rw [now5]
  obtain ⟨hc2, hf2⟩ := bcell hb2
  have hz2 := hb2.size
  try simp at hz2
  have hB2 : Below w.heap.size w w2 := by
    refine bt ?_ hb2
    repeat (first | (with_reducible refine Below.drew ?_) | (with_reducible refine bal ?_ _) | ((with_reducible refine bst ?_ ?_ _); rotate_left; focus (first | (simp; done) | (simp; omega))))
    exact hB1
  have lta2 : w1.heap.size < w2.heap.size := by omega
  have ca0 : w2.cell? ⟨w1.heap.size, 0, none⟩ = some (Value.int .i64 (0)) := by rw [hc2 _ _ (by simp <;> omega)]; go_simp
  have fa0 : w2.frozen? ⟨w1.heap.size, 0, none⟩ = false := by rw [hf2 _ _ (by simp <;> omega)]; go_simp
  have ca1 : w2.cell? ⟨w1.heap.size, 1, none⟩ = some (Value.int .i64 (0)) := by rw [hc2 _ _ (by simp <;> omega)]; go_simp
  have fa1 : w2.frozen? ⟨w1.heap.size, 1, none⟩ = false := by rw [hf2 _ _ (by simp <;> omega)]; go_simp
  have ca2 : w2.cell? ⟨w1.heap.size, 2, none⟩ = some (Value.int .i64 (2)) := by rw [hc2 _ _ (by simp <;> omega)]; go_simp
  have fa2 : w2.frozen? ⟨w1.heap.size, 2, none⟩ = false := by rw [hf2 _ _ (by simp <;> omega)]; go_simp
  clear hc2 hf2
  go_wp2
  go_ret
  refine ⟨rfl, ?_⟩
  repeat (first | (with_reducible refine Below.drew ?_) | (with_reducible refine bal ?_ _) | ((with_reducible refine bst ?_ ?_ _); rotate_left; focus (first | (simp; done) | (simp; omega))))
  exact hB2
set_option maxHeartbeats 1600000 in
set_option maxRecDepth 100000 in
theorem clockNows_walk (a t n : Int) (_ha : (Lit.int .i64 a).wf = true) (_hb : (Lit.int .i64 t).wf = true) (_hc : (Lit.int .i64 n).wf = true) (x : Int) (_hx : (Lit.int .i64 x).wf = true) (w : World) :
    Calls Try.prog 3 #[stampV a t n, .int .i64 x] w fun e w' => e = .returned (.bool true) ∧ Below w.heap.size w w' := by
  obtain ⟨⟨p1, p2, p3⟩, pe, hHN⟩ : ∃ p e, nowT a t n x = (p, e) := ⟨_, _, rfl⟩
  have HN := Lib.hid hHN
  clear hHN
  go_enter Try.func3, Try.ntmps3
  go_wp2_with fail
  refine (now_any a t n x _).mono ?_
  rintro e w1 ⟨rfl, hb1⟩
  rw [HN.out]
  obtain ⟨hc1, hf1⟩ := bcell hb1
  have hz1 := hb1.size
  try simp at hz1
  have hB1 : Below w.heap.size w w1 := by
    refine bt ?_ hb1
    repeat (first | (with_reducible refine Below.drew ?_) | (with_reducible refine bal ?_ _) | ((with_reducible refine bst ?_ ?_ _); rotate_left; focus (first | (simp; done) | (simp; omega))))
    exact (b0 w)
  have ltx1 : w.heap.size < w1.heap.size := by omega
  have cx0 : w1.cell? ⟨w.heap.size, 0, none⟩ = some (Value.int .i64 (a)) := by rw [hc1 _ _ (by simp <;> omega)]; go_simp
  have fx0 : w1.frozen? ⟨w.heap.size, 0, none⟩ = false := by rw [hf1 _ _ (by simp <;> omega)]; go_simp
  have cx1 : w1.cell? ⟨w.heap.size, 1, none⟩ = some (Value.int .i64 (t)) := by rw [hc1 _ _ (by simp <;> omega)]; go_simp
  have fx1 : w1.frozen? ⟨w.heap.size, 1, none⟩ = false := by rw [hf1 _ _ (by simp <;> omega)]; go_simp
  have cx2 : w1.cell? ⟨w.heap.size, 2, none⟩ = some (Value.int .i64 (n)) := by rw [hc1 _ _ (by simp <;> omega)]; go_simp
  have fx2 : w1.frozen? ⟨w.heap.size, 2, none⟩ = false := by rw [hf1 _ _ (by simp <;> omega)]; go_simp
  clear hc1 hf1
  go_wp2_with fail
  refine (refnow_any a t n x _).mono ?_
  rintro e w2 ⟨rfl, hb2⟩
  rw [HN.out]
  obtain ⟨hc2, hf2⟩ := bcell hb2
  have hz2 := hb2.size
  try simp at hz2
  have hB2 : Below w.heap.size w w2 := by
    refine bt ?_ hb2
    repeat (first | (with_reducible refine Below.drew ?_) | (with_reducible refine bal ?_ _) | ((with_reducible refine bst ?_ ?_ _); rotate_left; focus (first | (simp; done) | (simp; omega))))
    exact hB1
  have ltc2 : w1.heap.size < w2.heap.size := by omega
  have cc0 : w2.cell? ⟨w1.heap.size, 0, none⟩ = some (Value.int .i64 (p1)) := by rw [hc2 _ _ (by simp <;> omega)]; go_simp
  have fc0 : w2.frozen? ⟨w1.heap.size, 0, none⟩ = false := by rw [hf2 _ _ (by simp <;> omega)]; go_simp
  have cc1 : w2.cell? ⟨w1.heap.size, 1, none⟩ = some (Value.int .i64 (p2)) := by rw [hc2 _ _ (by simp <;> omega)]; go_simp
  have fc1 : w2.frozen? ⟨w1.heap.size, 1, none⟩ = false := by rw [hf2 _ _ (by simp <;> omega)]; go_simp
  have cc2 : w2.cell? ⟨w1.heap.size, 2, none⟩ = some (Value.int .i64 (p3)) := by rw [hc2 _ _ (by simp <;> omega)]; go_simp
  have fc2 : w2.frozen? ⟨w1.heap.size, 2, none⟩ = false := by rw [hf2 _ _ (by simp <;> omega)]; go_simp
  have lts2 : w1.heap.size + 1 < w2.heap.size := by omega
  have cs0 : w2.cell? ⟨w1.heap.size + 1, 0, none⟩ = some (Value.int .i64 (p1)) := by rw [hc2 _ _ (by simp <;> omega)]; go_simp
  have fs0 : w2.frozen? ⟨w1.heap.size + 1, 0, none⟩ = false := by rw [hf2 _ _ (by simp <;> omega)]; go_simp
  have cs1 : w2.cell? ⟨w1.heap.size + 1, 1, none⟩ = some (Value.int .i64 (p2)) := by rw [hc2 _ _ (by simp <;> omega)]; go_simp
  have fs1 : w2.frozen? ⟨w1.heap.size + 1, 1, none⟩ = false := by rw [hf2 _ _ (by simp <;> omega)]; go_simp
  have cs2 : w2.cell? ⟨w1.heap.size + 1, 2, none⟩ = some (Value.int .i64 (p3)) := by rw [hc2 _ _ (by simp <;> omega)]; go_simp
  have fs2 : w2.frozen? ⟨w1.heap.size + 1, 2, none⟩ = false := by rw [hf2 _ _ (by simp <;> omega)]; go_simp
  clear hc2 hf2
  go_wp2_with fail
  refine (awake06 _).mono ?_
  rintro e w3 ⟨rfl, hb3⟩
  have hB3 : Below w.heap.size w w3 := by
    refine bt ?_ hb3
    repeat (first | (with_reducible refine Below.drew ?_) | (with_reducible refine bal ?_ _) | ((with_reducible refine bst ?_ ?_ _); rotate_left; focus (first | (simp; done) | (simp; omega))))
    exact hB2
  go_wp2
  go_ret
  refine ⟨rfl, ?_⟩
  repeat (first | (with_reducible refine Below.drew ?_) | (with_reducible refine bal ?_ _) | ((with_reducible refine bst ?_ ?_ _); rotate_left; focus (first | (simp; done) | (simp; omega))))
  exact hB3
set_option maxHeartbeats 1600000 in
set_option maxRecDepth 100000 in
theorem clockNews_walk (n : Int) (_hn : (Lit.int .i64 n).wf = true) (w : World) :
    Calls Try.prog 4 #[.int .i64 n] w fun e w' => e = .returned (.bool true) ∧ Below w.heap.size w w' := by
  by_cases h0 : n < 0
  · have hv : newT n = ((0, 0, 0), 1) := by unfold newT rightB withinB; simp <;> omega
    have HV := Lib.hid hv
    clear hv
    go_enter Try.func4, Try.ntmps4
    go_wp2_with fail
    refine (new_any n _).mono ?_
    rintro e w1 ⟨rfl, hb1⟩
    rw [HV.out]
    obtain ⟨hc1, hf1⟩ := bcell hb1
    have hz1 := hb1.size
    try simp at hz1
    have hB1 : Below w.heap.size w w1 := by
      refine bt ?_ hb1
      repeat (first | (with_reducible refine Below.drew ?_) | (with_reducible refine bal ?_ _) | ((with_reducible refine bst ?_ ?_ _); rotate_left; focus (first | (simp; done) | (simp; omega))))
      exact (b0 w)
    clear hc1 hf1
    go_wp2_with fail
    refine (awake06 _).mono ?_
    rintro e w2 ⟨rfl, hb2⟩
    have hB2 : Below w.heap.size w w2 := by
      refine bt ?_ hb2
      repeat (first | (with_reducible refine Below.drew ?_) | (with_reducible refine bal ?_ _) | ((with_reducible refine bst ?_ ?_ _); rotate_left; focus (first | (simp; done) | (simp; omega))))
      exact hB1
    go_wp2
    go_ret
    refine ⟨rfl, ?_⟩
    repeat (first | (with_reducible refine Below.drew ?_) | (with_reducible refine bal ?_ _) | ((with_reducible refine bst ?_ ?_ _); rotate_left; focus (first | (simp; done) | (simp; omega))))
    exact hB2
  · by_cases h1 : 255 < n
    · have hv : newT n = ((0, 0, 0), 1) := by unfold newT rightB withinB; simp <;> omega
      have HV := Lib.hid hv
      clear hv
      go_enter Try.func4, Try.ntmps4
      go_wp2_with fail
      refine (new_any n _).mono ?_
      rintro e w1 ⟨rfl, hb1⟩
      rw [HV.out]
      obtain ⟨hc1, hf1⟩ := bcell hb1
      have hz1 := hb1.size
      try simp at hz1
      have hB1 : Below w.heap.size w w1 := by
        refine bt ?_ hb1
        repeat (first | (with_reducible refine Below.drew ?_) | (with_reducible refine bal ?_ _) | ((with_reducible refine bst ?_ ?_ _); rotate_left; focus (first | (simp; done) | (simp; omega))))
        exact (b0 w)
      clear hc1 hf1
      go_wp2_with fail
      refine (awake06 _).mono ?_
      rintro e w2 ⟨rfl, hb2⟩
      have hB2 : Below w.heap.size w w2 := by
        refine bt ?_ hb2
        repeat (first | (with_reducible refine Below.drew ?_) | (with_reducible refine bal ?_ _) | ((with_reducible refine bst ?_ ?_ _); rotate_left; focus (first | (simp; done) | (simp; omega))))
        exact hB1
      go_wp2
      go_ret
      refine ⟨rfl, ?_⟩
      repeat (first | (with_reducible refine Below.drew ?_) | (with_reducible refine bal ?_ _) | ((with_reducible refine bst ?_ ?_ _); rotate_left; focus (first | (simp; done) | (simp; omega))))
      exact hB2
    · have hv : newT n = ((0, 0, n), 0) := by unfold newT rightB withinB; simp <;> omega
      have HV := Lib.hid hv
      clear hv
      go_enter Try.func4, Try.ntmps4
      go_wp2_with fail
      refine (new_any n _).mono ?_
      rintro e w1 ⟨rfl, hb1⟩
      rw [HV.out]
      obtain ⟨hc1, hf1⟩ := bcell hb1
      have hz1 := hb1.size
      try simp at hz1
      have hB1 : Below w.heap.size w w1 := by
        refine bt ?_ hb1
        repeat (first | (with_reducible refine Below.drew ?_) | (with_reducible refine bal ?_ _) | ((with_reducible refine bst ?_ ?_ _); rotate_left; focus (first | (simp; done) | (simp; omega))))
        exact (b0 w)
      clear hc1 hf1
      go_wp2_with fail
      refine (awake06 _).mono ?_
      rintro e w2 ⟨rfl, hb2⟩
      have hB2 : Below w.heap.size w w2 := by
        refine bt ?_ hb2
        repeat (first | (with_reducible refine Below.drew ?_) | (with_reducible refine bal ?_ _) | ((with_reducible refine bst ?_ ?_ _); rotate_left; focus (first | (simp; done) | (simp; omega))))
        exact hB1
      go_wp2
      go_ret
      refine ⟨rfl, ?_⟩
      repeat (first | (with_reducible refine Below.drew ?_) | (with_reducible refine bal ?_ _) | ((with_reducible refine bst ?_ ?_ _); rotate_left; focus (first | (simp; done) | (simp; omega))))
      exact hB2
theorem now_node (a t n x : Int) (h : (nowT a t n x).2 = 0) : (nowT a t n x).1.2.2 = n := by
  unfold nowT at h ⊢
  split at h
  · simp at h
  · rw [if_neg (by assumption)]
    split at h
    · rw [if_pos (by assumption)]
    · rw [if_neg (by assumption)]
      split at h
      · simp at h
      · rw [if_neg (by assumption)]
set_option maxHeartbeats 3200000 in
set_option maxRecDepth 100000 in
theorem clockApart_walk (a t n : Int) (_ha : (Lit.int .i64 a).wf = true) (_hb : (Lit.int .i64 t).wf = true) (_hc : (Lit.int .i64 n).wf = true) (a' t' n' : Int) (_ha' : (Lit.int .i64 a').wf = true) (_hb' : (Lit.int .i64 t').wf = true) (_hc' : (Lit.int .i64 n').wf = true) (x : Int) (_hx : (Lit.int .i64 x).wf = true) (x' : Int) (_hx' : (Lit.int .i64 x').wf = true) (w : World) :
    Calls Try.prog 5 #[stampV a t n, stampV a' t' n', .int .i64 x, .int .i64 x'] w fun e w' => e = .returned (.bool true) ∧ Below w.heap.size w w' := by
  by_cases hn : n = n'
  · have hq : (n == n') = true := by simp [hn]
    clear hn
    go_enter Try.func5, Try.ntmps5
    go_wp2_with fail
    refine (awake06 _).mono ?_
    rintro e w1 ⟨rfl, hb1⟩
    have hB1 : Below w.heap.size w w1 := by
      refine bt ?_ hb1
      repeat (first | (with_reducible refine Below.drew ?_) | (with_reducible refine bal ?_ _) | ((with_reducible refine bst ?_ ?_ _); rotate_left; focus (first | (simp; done) | (simp; omega))))
      exact (b0 w)
    go_wp2
    go_ret
    refine ⟨rfl, ?_⟩
    repeat (first | (with_reducible refine Below.drew ?_) | (with_reducible refine bal ?_ _) | ((with_reducible refine bst ?_ ?_ _); rotate_left; focus (first | (simp; done) | (simp; omega))))
    exact hB1
  · have hq : (n == n') = false := by simp [hn]
    have hnode := now_node a t n x
    have hnode' := now_node a' t' n' x'
    obtain ⟨⟨p1, p2, p3⟩, pe, hN⟩ : ∃ p e, nowT a t n x = (p, e) := ⟨_, _, rfl⟩
    obtain ⟨⟨q1, q2, q3⟩, qe, hM⟩ : ∃ p e, nowT a' t' n' x' = (p, e) := ⟨_, _, rfl⟩
    rw [hN] at hnode
    rw [hM] at hnode'
    simp only at hnode hnode'
    have HN := Lib.hid hN
    have HM := Lib.hid hM
    clear hN hM
    by_cases hp : pe = 0
    · by_cases hq0 : qe = 0
      · have hd : (p3 == q3) = false := by rw [hnode hp, hnode' hq0]; exact hq
        have hp' : (pe != 0) = false := by simp [hp]
        have hq' : (qe != 0) = false := by simp [hq0]
        clear hnode hnode' hp hq0 hn
        go_enter Try.func5, Try.ntmps5
        go_wp2_with fail
        refine (now_any a t n x _).mono ?_
        rintro e w1 ⟨rfl, hb1⟩
        rw [HN.out]
        obtain ⟨hc1, hf1⟩ := bcell hb1
        have hz1 := hb1.size
        try simp at hz1
        have hB1 : Below w.heap.size w w1 := by
          refine bt ?_ hb1
          repeat (first | (with_reducible refine Below.drew ?_) | (with_reducible refine bal ?_ _) | ((with_reducible refine bst ?_ ?_ _); rotate_left; focus (first | (simp; done) | (simp; omega))))
          exact (b0 w)
        have ltx1 : w.heap.size < w1.heap.size := by omega
        have cx0 : w1.cell? ⟨w.heap.size, 0, none⟩ = some (Value.int .i64 (a)) := by rw [hc1 _ _ (by simp <;> omega)]; go_simp
        have fx0 : w1.frozen? ⟨w.heap.size, 0, none⟩ = false := by rw [hf1 _ _ (by simp <;> omega)]; go_simp
        have cx1 : w1.cell? ⟨w.heap.size, 1, none⟩ = some (Value.int .i64 (t)) := by rw [hc1 _ _ (by simp <;> omega)]; go_simp
        have fx1 : w1.frozen? ⟨w.heap.size, 1, none⟩ = false := by rw [hf1 _ _ (by simp <;> omega)]; go_simp
        have cx2 : w1.cell? ⟨w.heap.size, 2, none⟩ = some (Value.int .i64 (n)) := by rw [hc1 _ _ (by simp <;> omega)]; go_simp
        have fx2 : w1.frozen? ⟨w.heap.size, 2, none⟩ = false := by rw [hf1 _ _ (by simp <;> omega)]; go_simp
        have lty1 : w.heap.size + 1 < w1.heap.size := by omega
        have cy0 : w1.cell? ⟨w.heap.size + 1, 0, none⟩ = some (Value.int .i64 (a')) := by rw [hc1 _ _ (by simp <;> omega)]; go_simp
        have fy0 : w1.frozen? ⟨w.heap.size + 1, 0, none⟩ = false := by rw [hf1 _ _ (by simp <;> omega)]; go_simp
        have cy1 : w1.cell? ⟨w.heap.size + 1, 1, none⟩ = some (Value.int .i64 (t')) := by rw [hc1 _ _ (by simp <;> omega)]; go_simp
        have fy1 : w1.frozen? ⟨w.heap.size + 1, 1, none⟩ = false := by rw [hf1 _ _ (by simp <;> omega)]; go_simp
        have cy2 : w1.cell? ⟨w.heap.size + 1, 2, none⟩ = some (Value.int .i64 (n')) := by rw [hc1 _ _ (by simp <;> omega)]; go_simp
        have fy2 : w1.frozen? ⟨w.heap.size + 1, 2, none⟩ = false := by rw [hf1 _ _ (by simp <;> omega)]; go_simp
        clear hc1 hf1
        go_wp2_with fail
        refine (now_any a' t' n' x' _).mono ?_
        rintro e w2 ⟨rfl, hb2⟩
        rw [HM.out]
        obtain ⟨hc2, hf2⟩ := bcell hb2
        have hz2 := hb2.size
        try simp at hz2
        have hB2 : Below w.heap.size w w2 := by
          refine bt ?_ hb2
          repeat (first | (with_reducible refine Below.drew ?_) | (with_reducible refine bal ?_ _) | ((with_reducible refine bst ?_ ?_ _); rotate_left; focus (first | (simp; done) | (simp; omega))))
          exact hB1
        have ltc2 : w1.heap.size < w2.heap.size := by omega
        have cc0 : w2.cell? ⟨w1.heap.size, 0, none⟩ = some (Value.int .i64 (p1)) := by rw [hc2 _ _ (by simp <;> omega)]; go_simp
        have fc0 : w2.frozen? ⟨w1.heap.size, 0, none⟩ = false := by rw [hf2 _ _ (by simp <;> omega)]; go_simp
        have cc1 : w2.cell? ⟨w1.heap.size, 1, none⟩ = some (Value.int .i64 (p2)) := by rw [hc2 _ _ (by simp <;> omega)]; go_simp
        have fc1 : w2.frozen? ⟨w1.heap.size, 1, none⟩ = false := by rw [hf2 _ _ (by simp <;> omega)]; go_simp
        have cc2 : w2.cell? ⟨w1.heap.size, 2, none⟩ = some (Value.int .i64 (p3)) := by rw [hc2 _ _ (by simp <;> omega)]; go_simp
        have fc2 : w2.frozen? ⟨w1.heap.size, 2, none⟩ = false := by rw [hf2 _ _ (by simp <;> omega)]; go_simp
        have lts2 : w1.heap.size + 1 < w2.heap.size := by omega
        have cs0 : w2.cell? ⟨w1.heap.size + 1, 0, none⟩ = some (Value.int .i64 (p1)) := by rw [hc2 _ _ (by simp <;> omega)]; go_simp
        have fs0 : w2.frozen? ⟨w1.heap.size + 1, 0, none⟩ = false := by rw [hf2 _ _ (by simp <;> omega)]; go_simp
        have cs1 : w2.cell? ⟨w1.heap.size + 1, 1, none⟩ = some (Value.int .i64 (p2)) := by rw [hc2 _ _ (by simp <;> omega)]; go_simp
        have fs1 : w2.frozen? ⟨w1.heap.size + 1, 1, none⟩ = false := by rw [hf2 _ _ (by simp <;> omega)]; go_simp
        have cs2 : w2.cell? ⟨w1.heap.size + 1, 2, none⟩ = some (Value.int .i64 (p3)) := by rw [hc2 _ _ (by simp <;> omega)]; go_simp
        have fs2 : w2.frozen? ⟨w1.heap.size + 1, 2, none⟩ = false := by rw [hf2 _ _ (by simp <;> omega)]; go_simp
        clear hc2 hf2
        go_wp2_with fail
        refine (awake06 _).mono ?_
        rintro e w3 ⟨rfl, hb3⟩
        have hB3 : Below w.heap.size w w3 := by
          refine bt ?_ hb3
          repeat (first | (with_reducible refine Below.drew ?_) | (with_reducible refine bal ?_ _) | ((with_reducible refine bst ?_ ?_ _); rotate_left; focus (first | (simp; done) | (simp; omega))))
          exact hB2
        go_wp2
        go_ret
        refine ⟨rfl, ?_⟩
        repeat (first | (with_reducible refine Below.drew ?_) | (with_reducible refine bal ?_ _) | ((with_reducible refine bst ?_ ?_ _); rotate_left; focus (first | (simp; done) | (simp; omega))))
        exact hB3
      · have hp' : (pe != 0) = false := by simp [hp]
        have hq' : (qe != 0) = true := by simp [hq0]
        clear hnode hnode' hp hq0 hn
        go_enter Try.func5, Try.ntmps5
        go_wp2_with fail
        refine (now_any a t n x _).mono ?_
        rintro e w1 ⟨rfl, hb1⟩
        rw [HN.out]
        obtain ⟨hc1, hf1⟩ := bcell hb1
        have hz1 := hb1.size
        try simp at hz1
        have hB1 : Below w.heap.size w w1 := by
          refine bt ?_ hb1
          repeat (first | (with_reducible refine Below.drew ?_) | (with_reducible refine bal ?_ _) | ((with_reducible refine bst ?_ ?_ _); rotate_left; focus (first | (simp; done) | (simp; omega))))
          exact (b0 w)
        have ltx1 : w.heap.size < w1.heap.size := by omega
        have cx0 : w1.cell? ⟨w.heap.size, 0, none⟩ = some (Value.int .i64 (a)) := by rw [hc1 _ _ (by simp <;> omega)]; go_simp
        have fx0 : w1.frozen? ⟨w.heap.size, 0, none⟩ = false := by rw [hf1 _ _ (by simp <;> omega)]; go_simp
        have cx1 : w1.cell? ⟨w.heap.size, 1, none⟩ = some (Value.int .i64 (t)) := by rw [hc1 _ _ (by simp <;> omega)]; go_simp
        have fx1 : w1.frozen? ⟨w.heap.size, 1, none⟩ = false := by rw [hf1 _ _ (by simp <;> omega)]; go_simp
        have cx2 : w1.cell? ⟨w.heap.size, 2, none⟩ = some (Value.int .i64 (n)) := by rw [hc1 _ _ (by simp <;> omega)]; go_simp
        have fx2 : w1.frozen? ⟨w.heap.size, 2, none⟩ = false := by rw [hf1 _ _ (by simp <;> omega)]; go_simp
        have lty1 : w.heap.size + 1 < w1.heap.size := by omega
        have cy0 : w1.cell? ⟨w.heap.size + 1, 0, none⟩ = some (Value.int .i64 (a')) := by rw [hc1 _ _ (by simp <;> omega)]; go_simp
        have fy0 : w1.frozen? ⟨w.heap.size + 1, 0, none⟩ = false := by rw [hf1 _ _ (by simp <;> omega)]; go_simp
        have cy1 : w1.cell? ⟨w.heap.size + 1, 1, none⟩ = some (Value.int .i64 (t')) := by rw [hc1 _ _ (by simp <;> omega)]; go_simp
        have fy1 : w1.frozen? ⟨w.heap.size + 1, 1, none⟩ = false := by rw [hf1 _ _ (by simp <;> omega)]; go_simp
        have cy2 : w1.cell? ⟨w.heap.size + 1, 2, none⟩ = some (Value.int .i64 (n')) := by rw [hc1 _ _ (by simp <;> omega)]; go_simp
        have fy2 : w1.frozen? ⟨w.heap.size + 1, 2, none⟩ = false := by rw [hf1 _ _ (by simp <;> omega)]; go_simp
        clear hc1 hf1
        go_wp2_with fail
        refine (now_any a' t' n' x' _).mono ?_
        rintro e w2 ⟨rfl, hb2⟩
        rw [HM.out]
        obtain ⟨hc2, hf2⟩ := bcell hb2
        have hz2 := hb2.size
        try simp at hz2
        have hB2 : Below w.heap.size w w2 := by
          refine bt ?_ hb2
          repeat (first | (with_reducible refine Below.drew ?_) | (with_reducible refine bal ?_ _) | ((with_reducible refine bst ?_ ?_ _); rotate_left; focus (first | (simp; done) | (simp; omega))))
          exact hB1
        have ltc2 : w1.heap.size < w2.heap.size := by omega
        have cc0 : w2.cell? ⟨w1.heap.size, 0, none⟩ = some (Value.int .i64 (p1)) := by rw [hc2 _ _ (by simp <;> omega)]; go_simp
        have fc0 : w2.frozen? ⟨w1.heap.size, 0, none⟩ = false := by rw [hf2 _ _ (by simp <;> omega)]; go_simp
        have cc1 : w2.cell? ⟨w1.heap.size, 1, none⟩ = some (Value.int .i64 (p2)) := by rw [hc2 _ _ (by simp <;> omega)]; go_simp
        have fc1 : w2.frozen? ⟨w1.heap.size, 1, none⟩ = false := by rw [hf2 _ _ (by simp <;> omega)]; go_simp
        have cc2 : w2.cell? ⟨w1.heap.size, 2, none⟩ = some (Value.int .i64 (p3)) := by rw [hc2 _ _ (by simp <;> omega)]; go_simp
        have fc2 : w2.frozen? ⟨w1.heap.size, 2, none⟩ = false := by rw [hf2 _ _ (by simp <;> omega)]; go_simp
        have lts2 : w1.heap.size + 1 < w2.heap.size := by omega
        have cs0 : w2.cell? ⟨w1.heap.size + 1, 0, none⟩ = some (Value.int .i64 (p1)) := by rw [hc2 _ _ (by simp <;> omega)]; go_simp
        have fs0 : w2.frozen? ⟨w1.heap.size + 1, 0, none⟩ = false := by rw [hf2 _ _ (by simp <;> omega)]; go_simp
        have cs1 : w2.cell? ⟨w1.heap.size + 1, 1, none⟩ = some (Value.int .i64 (p2)) := by rw [hc2 _ _ (by simp <;> omega)]; go_simp
        have fs1 : w2.frozen? ⟨w1.heap.size + 1, 1, none⟩ = false := by rw [hf2 _ _ (by simp <;> omega)]; go_simp
        have cs2 : w2.cell? ⟨w1.heap.size + 1, 2, none⟩ = some (Value.int .i64 (p3)) := by rw [hc2 _ _ (by simp <;> omega)]; go_simp
        have fs2 : w2.frozen? ⟨w1.heap.size + 1, 2, none⟩ = false := by rw [hf2 _ _ (by simp <;> omega)]; go_simp
        clear hc2 hf2
        go_wp2_with fail
        refine (awake06 _).mono ?_
        rintro e w3 ⟨rfl, hb3⟩
        have hB3 : Below w.heap.size w w3 := by
          refine bt ?_ hb3
          repeat (first | (with_reducible refine Below.drew ?_) | (with_reducible refine bal ?_ _) | ((with_reducible refine bst ?_ ?_ _); rotate_left; focus (first | (simp; done) | (simp; omega))))
          exact hB2
        go_wp2
        go_ret
        refine ⟨rfl, ?_⟩
        repeat (first | (with_reducible refine Below.drew ?_) | (with_reducible refine bal ?_ _) | ((with_reducible refine bst ?_ ?_ _); rotate_left; focus (first | (simp; done) | (simp; omega))))
        exact hB3
    · have hp' : (pe != 0) = true := by simp [hp]
      clear hnode hnode' hp hn
      go_enter Try.func5, Try.ntmps5
      go_wp2_with fail
      refine (now_any a t n x _).mono ?_
      rintro e w1 ⟨rfl, hb1⟩
      rw [HN.out]
      obtain ⟨hc1, hf1⟩ := bcell hb1
      have hz1 := hb1.size
      try simp at hz1
      have hB1 : Below w.heap.size w w1 := by
        refine bt ?_ hb1
        repeat (first | (with_reducible refine Below.drew ?_) | (with_reducible refine bal ?_ _) | ((with_reducible refine bst ?_ ?_ _); rotate_left; focus (first | (simp; done) | (simp; omega))))
        exact (b0 w)
      have ltx1 : w.heap.size < w1.heap.size := by omega
      have cx0 : w1.cell? ⟨w.heap.size, 0, none⟩ = some (Value.int .i64 (a)) := by rw [hc1 _ _ (by simp <;> omega)]; go_simp
      have fx0 : w1.frozen? ⟨w.heap.size, 0, none⟩ = false := by rw [hf1 _ _ (by simp <;> omega)]; go_simp
      have cx1 : w1.cell? ⟨w.heap.size, 1, none⟩ = some (Value.int .i64 (t)) := by rw [hc1 _ _ (by simp <;> omega)]; go_simp
      have fx1 : w1.frozen? ⟨w.heap.size, 1, none⟩ = false := by rw [hf1 _ _ (by simp <;> omega)]; go_simp
      have cx2 : w1.cell? ⟨w.heap.size, 2, none⟩ = some (Value.int .i64 (n)) := by rw [hc1 _ _ (by simp <;> omega)]; go_simp
      have fx2 : w1.frozen? ⟨w.heap.size, 2, none⟩ = false := by rw [hf1 _ _ (by simp <;> omega)]; go_simp
      have lty1 : w.heap.size + 1 < w1.heap.size := by omega
      have cy0 : w1.cell? ⟨w.heap.size + 1, 0, none⟩ = some (Value.int .i64 (a')) := by rw [hc1 _ _ (by simp <;> omega)]; go_simp
      have fy0 : w1.frozen? ⟨w.heap.size + 1, 0, none⟩ = false := by rw [hf1 _ _ (by simp <;> omega)]; go_simp
      have cy1 : w1.cell? ⟨w.heap.size + 1, 1, none⟩ = some (Value.int .i64 (t')) := by rw [hc1 _ _ (by simp <;> omega)]; go_simp
      have fy1 : w1.frozen? ⟨w.heap.size + 1, 1, none⟩ = false := by rw [hf1 _ _ (by simp <;> omega)]; go_simp
      have cy2 : w1.cell? ⟨w.heap.size + 1, 2, none⟩ = some (Value.int .i64 (n')) := by rw [hc1 _ _ (by simp <;> omega)]; go_simp
      have fy2 : w1.frozen? ⟨w.heap.size + 1, 2, none⟩ = false := by rw [hf1 _ _ (by simp <;> omega)]; go_simp
      clear hc1 hf1
      go_wp2_with fail
      refine (now_any a' t' n' x' _).mono ?_
      rintro e w2 ⟨rfl, hb2⟩
      rw [HM.out]
      obtain ⟨hc2, hf2⟩ := bcell hb2
      have hz2 := hb2.size
      try simp at hz2
      have hB2 : Below w.heap.size w w2 := by
        refine bt ?_ hb2
        repeat (first | (with_reducible refine Below.drew ?_) | (with_reducible refine bal ?_ _) | ((with_reducible refine bst ?_ ?_ _); rotate_left; focus (first | (simp; done) | (simp; omega))))
        exact hB1
      have ltc2 : w1.heap.size < w2.heap.size := by omega
      have cc0 : w2.cell? ⟨w1.heap.size, 0, none⟩ = some (Value.int .i64 (p1)) := by rw [hc2 _ _ (by simp <;> omega)]; go_simp
      have fc0 : w2.frozen? ⟨w1.heap.size, 0, none⟩ = false := by rw [hf2 _ _ (by simp <;> omega)]; go_simp
      have cc1 : w2.cell? ⟨w1.heap.size, 1, none⟩ = some (Value.int .i64 (p2)) := by rw [hc2 _ _ (by simp <;> omega)]; go_simp
      have fc1 : w2.frozen? ⟨w1.heap.size, 1, none⟩ = false := by rw [hf2 _ _ (by simp <;> omega)]; go_simp
      have cc2 : w2.cell? ⟨w1.heap.size, 2, none⟩ = some (Value.int .i64 (p3)) := by rw [hc2 _ _ (by simp <;> omega)]; go_simp
      have fc2 : w2.frozen? ⟨w1.heap.size, 2, none⟩ = false := by rw [hf2 _ _ (by simp <;> omega)]; go_simp
      have lts2 : w1.heap.size + 1 < w2.heap.size := by omega
      have cs0 : w2.cell? ⟨w1.heap.size + 1, 0, none⟩ = some (Value.int .i64 (p1)) := by rw [hc2 _ _ (by simp <;> omega)]; go_simp
      have fs0 : w2.frozen? ⟨w1.heap.size + 1, 0, none⟩ = false := by rw [hf2 _ _ (by simp <;> omega)]; go_simp
      have cs1 : w2.cell? ⟨w1.heap.size + 1, 1, none⟩ = some (Value.int .i64 (p2)) := by rw [hc2 _ _ (by simp <;> omega)]; go_simp
      have fs1 : w2.frozen? ⟨w1.heap.size + 1, 1, none⟩ = false := by rw [hf2 _ _ (by simp <;> omega)]; go_simp
      have cs2 : w2.cell? ⟨w1.heap.size + 1, 2, none⟩ = some (Value.int .i64 (p3)) := by rw [hc2 _ _ (by simp <;> omega)]; go_simp
      have fs2 : w2.frozen? ⟨w1.heap.size + 1, 2, none⟩ = false := by rw [hf2 _ _ (by simp <;> omega)]; go_simp
      clear hc2 hf2
      go_wp2_with fail
      refine (awake06 _).mono ?_
      rintro e w3 ⟨rfl, hb3⟩
      have hB3 : Below w.heap.size w w3 := by
        refine bt ?_ hb3
        repeat (first | (with_reducible refine Below.drew ?_) | (with_reducible refine bal ?_ _) | ((with_reducible refine bst ?_ ?_ _); rotate_left; focus (first | (simp; done) | (simp; omega))))
        exact hB2
      go_wp2
      go_ret
      refine ⟨rfl, ?_⟩
      repeat (first | (with_reducible refine Below.drew ?_) | (with_reducible refine bal ?_ _) | ((with_reducible refine bst ?_ ?_ _); rotate_left; focus (first | (simp; done) | (simp; omega))))
      exact hB3
end Go.Proofs.Ytpdjfmdbpnpkfaa
