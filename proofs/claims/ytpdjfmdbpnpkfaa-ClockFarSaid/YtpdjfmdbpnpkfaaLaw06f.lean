/- A walk of layer 6's laws. -/
import Derived.Test.YtpdjfmdbpnpkfaaRise
import Derived.Test.YtpdjfmdbpnpkfaaLaw06
import Derived.Deep.RegionHeld3
import Derived.Deep.DrawnRows
namespace Go.Proofs.Ytpdjfmdbpnpkfaa
open Go.RowKit
attribute [local go_sem ↓] Go.wp_at_zero Go.wp_at_succ
set_option maxHeartbeats 3200000 in
set_option maxRecDepth 100000 in
theorem clockFar_walk (a t n : Int) (_ha : (Lit.int .i64 a).wf = true) (_hb : (Lit.int .i64 t).wf = true) (_hc : (Lit.int .i64 n).wf = true) (x : Int) (_hx : (Lit.int .i64 x).wf = true) (a' t' n' : Int) (_ha' : (Lit.int .i64 a').wf = true) (_hb' : (Lit.int .i64 t').wf = true) (_hc' : (Lit.int .i64 n').wf = true) (w : World) :
    Calls Try.prog 9 #[stampV a t n, .int .i64 x, stampV a' t' n'] w fun e w' => e = .returned (.bool true) ∧ Below w.heap.size w w' := by
  obtain ⟨⟨p1, p2, p3⟩, pe, hN⟩ : ∃ p e, hearT a t n x a' t' n' = (p, e) := ⟨_, _, rfl⟩
  have hfar := hear_far a t n x a' t' n' p1 p2 p3 pe hN
  have HN := Lib.hid hN
  clear hN
  obtain ⟨hf1, hf2⟩ := hfar
  by_cases he : pe = 0
  · subst he
    obtain ⟨h1, h2, h3, h4, h5⟩ := hf2 rfl
    clear hf1 hf2
    by_cases k1 : a = p1
    · subst k1
      by_cases k2 : t = p2
      · subst k2
        by_cases k3 : n = p3
        · subst k3
          clear h4
          have HC := Lib.hid h5
          clear h5
          go_enter Try.func9, Try.ntmps9
          go_wp2_with fail
          refine (hear_any a t n x a' t' n' _).mono ?_
          rintro e w1 ⟨rfl, hb1⟩
          rw [HN.out]
          obtain ⟨hc1, hf1⟩ := bcell hb1
          have hz1 := hb1.size
          try simp at hz1
          have hB1 : Below w.heap.size w w1 := by
            refine bt ?_ hb1
            repeat (first | (with_reducible refine Below.drew ?_) | (with_reducible refine bal ?_ _) | ((with_reducible refine bst ?_ ?_ _); rotate_left; focus (first | (simp; done) | (simp; omega))))
            exact (b0 w)
          have ltx1 : w.heap.size < w1.heap.size := by omega
          have cx0 : w1.cell? ⟨w.heap.size, 0, none⟩ = some (Value.int .i64 (a)) := by rw [hc1 _ _ (by first | omega | (simp; done) | (simp; omega))]; first | assumption | go_simp
          have fx0 : w1.frozen? ⟨w.heap.size, 0, none⟩ = false := by rw [hf1 _ _ (by first | omega | (simp; done) | (simp; omega))]; first | assumption | go_simp
          have cx1 : w1.cell? ⟨w.heap.size, 1, none⟩ = some (Value.int .i64 (t)) := by rw [hc1 _ _ (by first | omega | (simp; done) | (simp; omega))]; first | assumption | go_simp
          have fx1 : w1.frozen? ⟨w.heap.size, 1, none⟩ = false := by rw [hf1 _ _ (by first | omega | (simp; done) | (simp; omega))]; first | assumption | go_simp
          have cx2 : w1.cell? ⟨w.heap.size, 2, none⟩ = some (Value.int .i64 (n)) := by rw [hc1 _ _ (by first | omega | (simp; done) | (simp; omega))]; first | assumption | go_simp
          have fx2 : w1.frozen? ⟨w.heap.size, 2, none⟩ = false := by rw [hf1 _ _ (by first | omega | (simp; done) | (simp; omega))]; first | assumption | go_simp
          have lts1 : w.heap.size + 1 < w1.heap.size := by omega
          have cs0 : w1.cell? ⟨w.heap.size + 1, 0, none⟩ = some (Value.int .i64 (a')) := by rw [hc1 _ _ (by first | omega | (simp; done) | (simp; omega))]; first | assumption | go_simp
          have fs0 : w1.frozen? ⟨w.heap.size + 1, 0, none⟩ = false := by rw [hf1 _ _ (by first | omega | (simp; done) | (simp; omega))]; first | assumption | go_simp
          have cs1 : w1.cell? ⟨w.heap.size + 1, 1, none⟩ = some (Value.int .i64 (t')) := by rw [hc1 _ _ (by first | omega | (simp; done) | (simp; omega))]; first | assumption | go_simp
          have fs1 : w1.frozen? ⟨w.heap.size + 1, 1, none⟩ = false := by rw [hf1 _ _ (by first | omega | (simp; done) | (simp; omega))]; first | assumption | go_simp
          have cs2 : w1.cell? ⟨w.heap.size + 1, 2, none⟩ = some (Value.int .i64 (n')) := by rw [hc1 _ _ (by first | omega | (simp; done) | (simp; omega))]; first | assumption | go_simp
          have fs2 : w1.frozen? ⟨w.heap.size + 1, 2, none⟩ = false := by rw [hf1 _ _ (by first | omega | (simp; done) | (simp; omega))]; first | assumption | go_simp
          clear hc1 hf1
          go_wp2_with fail
          refine (compare_any a t n a t n _).mono ?_
          rintro e w2 ⟨rfl, hb2⟩
          obtain ⟨hc2, hf2⟩ := bcell hb2
          have hz2 := hb2.size
          try simp at hz2
          have hcc := HC.out
          have hB2 : Below w.heap.size w w2 := by
            refine bt ?_ hb2
            repeat (first | (with_reducible refine Below.drew ?_) | (with_reducible refine bal ?_ _) | ((with_reducible refine bst ?_ ?_ _); rotate_left; focus (first | (simp; done) | (simp; omega))))
            exact hB1
          clear hc2 hf2
          go_wp2_with fail
          refine (awake06 _).mono ?_
          rintro e w3 ⟨rfl, hb3⟩
          have hB3 : Below w.heap.size w w3 := by
            refine bt ?_ hb3
            repeat (first | (with_reducible refine Below.drew ?_) | (with_reducible refine bal ?_ _) | ((with_reducible refine bst ?_ ?_ _); rotate_left; focus (first | (simp; done) | (simp; omega))))
            exact hB2
          go_wp2
          go_ret
          refine ⟨rfl, ?_⟩
          repeat (first | (with_reducible refine Below.drew ?_) | (with_reducible refine bal ?_ _) | ((with_reducible refine bst ?_ ?_ _); rotate_left; focus (first | (simp; done) | (simp; omega))))
          exact hB3
        · have h4' : a ≤ x + 1000 := by omega
          clear h4
          have kq : (p3 == n) = false := by simp; omega
          clear k3
          have HC := Lib.hid h5
          clear h5
          go_enter Try.func9, Try.ntmps9
          go_wp2_with fail
          refine (hear_any a t n x a' t' n' _).mono ?_
          rintro e w1 ⟨rfl, hb1⟩
          rw [HN.out]
          obtain ⟨hc1, hf1⟩ := bcell hb1
          have hz1 := hb1.size
          try simp at hz1
          have hB1 : Below w.heap.size w w1 := by
            refine bt ?_ hb1
            repeat (first | (with_reducible refine Below.drew ?_) | (with_reducible refine bal ?_ _) | ((with_reducible refine bst ?_ ?_ _); rotate_left; focus (first | (simp; done) | (simp; omega))))
            exact (b0 w)
          have ltx1 : w.heap.size < w1.heap.size := by omega
          have cx0 : w1.cell? ⟨w.heap.size, 0, none⟩ = some (Value.int .i64 (a)) := by rw [hc1 _ _ (by first | omega | (simp; done) | (simp; omega))]; first | assumption | go_simp
          have fx0 : w1.frozen? ⟨w.heap.size, 0, none⟩ = false := by rw [hf1 _ _ (by first | omega | (simp; done) | (simp; omega))]; first | assumption | go_simp
          have cx1 : w1.cell? ⟨w.heap.size, 1, none⟩ = some (Value.int .i64 (t)) := by rw [hc1 _ _ (by first | omega | (simp; done) | (simp; omega))]; first | assumption | go_simp
          have fx1 : w1.frozen? ⟨w.heap.size, 1, none⟩ = false := by rw [hf1 _ _ (by first | omega | (simp; done) | (simp; omega))]; first | assumption | go_simp
          have cx2 : w1.cell? ⟨w.heap.size, 2, none⟩ = some (Value.int .i64 (n)) := by rw [hc1 _ _ (by first | omega | (simp; done) | (simp; omega))]; first | assumption | go_simp
          have fx2 : w1.frozen? ⟨w.heap.size, 2, none⟩ = false := by rw [hf1 _ _ (by first | omega | (simp; done) | (simp; omega))]; first | assumption | go_simp
          have lts1 : w.heap.size + 1 < w1.heap.size := by omega
          have cs0 : w1.cell? ⟨w.heap.size + 1, 0, none⟩ = some (Value.int .i64 (a')) := by rw [hc1 _ _ (by first | omega | (simp; done) | (simp; omega))]; first | assumption | go_simp
          have fs0 : w1.frozen? ⟨w.heap.size + 1, 0, none⟩ = false := by rw [hf1 _ _ (by first | omega | (simp; done) | (simp; omega))]; first | assumption | go_simp
          have cs1 : w1.cell? ⟨w.heap.size + 1, 1, none⟩ = some (Value.int .i64 (t')) := by rw [hc1 _ _ (by first | omega | (simp; done) | (simp; omega))]; first | assumption | go_simp
          have fs1 : w1.frozen? ⟨w.heap.size + 1, 1, none⟩ = false := by rw [hf1 _ _ (by first | omega | (simp; done) | (simp; omega))]; first | assumption | go_simp
          have cs2 : w1.cell? ⟨w.heap.size + 1, 2, none⟩ = some (Value.int .i64 (n')) := by rw [hc1 _ _ (by first | omega | (simp; done) | (simp; omega))]; first | assumption | go_simp
          have fs2 : w1.frozen? ⟨w.heap.size + 1, 2, none⟩ = false := by rw [hf1 _ _ (by first | omega | (simp; done) | (simp; omega))]; first | assumption | go_simp
          clear hc1 hf1
          go_wp2_with fail
          refine (compare_any a t p3 a t n _).mono ?_
          rintro e w2 ⟨rfl, hb2⟩
          obtain ⟨hc2, hf2⟩ := bcell hb2
          have hz2 := hb2.size
          try simp at hz2
          have hcc := HC.out
          have hB2 : Below w.heap.size w w2 := by
            refine bt ?_ hb2
            repeat (first | (with_reducible refine Below.drew ?_) | (with_reducible refine bal ?_ _) | ((with_reducible refine bst ?_ ?_ _); rotate_left; focus (first | (simp; done) | (simp; omega))))
            exact hB1
          clear hc2 hf2
          go_wp2_with fail
          refine (awake06 _).mono ?_
          rintro e w3 ⟨rfl, hb3⟩
          have hB3 : Below w.heap.size w w3 := by
            refine bt ?_ hb3
            repeat (first | (with_reducible refine Below.drew ?_) | (with_reducible refine bal ?_ _) | ((with_reducible refine bst ?_ ?_ _); rotate_left; focus (first | (simp; done) | (simp; omega))))
            exact hB2
          go_wp2
          go_ret
          refine ⟨rfl, ?_⟩
          repeat (first | (with_reducible refine Below.drew ?_) | (with_reducible refine bal ?_ _) | ((with_reducible refine bst ?_ ?_ _); rotate_left; focus (first | (simp; done) | (simp; omega))))
          exact hB3
      · have h4' : a ≤ x + 1000 := by omega
        clear h4
        have kq : (p2 == t) = false := by simp; omega
        clear k2
        have HC := Lib.hid h5
        clear h5
        go_enter Try.func9, Try.ntmps9
        go_wp2_with fail
        refine (hear_any a t n x a' t' n' _).mono ?_
        rintro e w1 ⟨rfl, hb1⟩
        rw [HN.out]
        obtain ⟨hc1, hf1⟩ := bcell hb1
        have hz1 := hb1.size
        try simp at hz1
        have hB1 : Below w.heap.size w w1 := by
          refine bt ?_ hb1
          repeat (first | (with_reducible refine Below.drew ?_) | (with_reducible refine bal ?_ _) | ((with_reducible refine bst ?_ ?_ _); rotate_left; focus (first | (simp; done) | (simp; omega))))
          exact (b0 w)
        have ltx1 : w.heap.size < w1.heap.size := by omega
        have cx0 : w1.cell? ⟨w.heap.size, 0, none⟩ = some (Value.int .i64 (a)) := by rw [hc1 _ _ (by first | omega | (simp; done) | (simp; omega))]; first | assumption | go_simp
        have fx0 : w1.frozen? ⟨w.heap.size, 0, none⟩ = false := by rw [hf1 _ _ (by first | omega | (simp; done) | (simp; omega))]; first | assumption | go_simp
        have cx1 : w1.cell? ⟨w.heap.size, 1, none⟩ = some (Value.int .i64 (t)) := by rw [hc1 _ _ (by first | omega | (simp; done) | (simp; omega))]; first | assumption | go_simp
        have fx1 : w1.frozen? ⟨w.heap.size, 1, none⟩ = false := by rw [hf1 _ _ (by first | omega | (simp; done) | (simp; omega))]; first | assumption | go_simp
        have cx2 : w1.cell? ⟨w.heap.size, 2, none⟩ = some (Value.int .i64 (n)) := by rw [hc1 _ _ (by first | omega | (simp; done) | (simp; omega))]; first | assumption | go_simp
        have fx2 : w1.frozen? ⟨w.heap.size, 2, none⟩ = false := by rw [hf1 _ _ (by first | omega | (simp; done) | (simp; omega))]; first | assumption | go_simp
        have lts1 : w.heap.size + 1 < w1.heap.size := by omega
        have cs0 : w1.cell? ⟨w.heap.size + 1, 0, none⟩ = some (Value.int .i64 (a')) := by rw [hc1 _ _ (by first | omega | (simp; done) | (simp; omega))]; first | assumption | go_simp
        have fs0 : w1.frozen? ⟨w.heap.size + 1, 0, none⟩ = false := by rw [hf1 _ _ (by first | omega | (simp; done) | (simp; omega))]; first | assumption | go_simp
        have cs1 : w1.cell? ⟨w.heap.size + 1, 1, none⟩ = some (Value.int .i64 (t')) := by rw [hc1 _ _ (by first | omega | (simp; done) | (simp; omega))]; first | assumption | go_simp
        have fs1 : w1.frozen? ⟨w.heap.size + 1, 1, none⟩ = false := by rw [hf1 _ _ (by first | omega | (simp; done) | (simp; omega))]; first | assumption | go_simp
        have cs2 : w1.cell? ⟨w.heap.size + 1, 2, none⟩ = some (Value.int .i64 (n')) := by rw [hc1 _ _ (by first | omega | (simp; done) | (simp; omega))]; first | assumption | go_simp
        have fs2 : w1.frozen? ⟨w.heap.size + 1, 2, none⟩ = false := by rw [hf1 _ _ (by first | omega | (simp; done) | (simp; omega))]; first | assumption | go_simp
        clear hc1 hf1
        go_wp2_with fail
        refine (compare_any a p2 p3 a t n _).mono ?_
        rintro e w2 ⟨rfl, hb2⟩
        obtain ⟨hc2, hf2⟩ := bcell hb2
        have hz2 := hb2.size
        try simp at hz2
        have hcc := HC.out
        have hB2 : Below w.heap.size w w2 := by
          refine bt ?_ hb2
          repeat (first | (with_reducible refine Below.drew ?_) | (with_reducible refine bal ?_ _) | ((with_reducible refine bst ?_ ?_ _); rotate_left; focus (first | (simp; done) | (simp; omega))))
          exact hB1
        clear hc2 hf2
        go_wp2_with fail
        refine (awake06 _).mono ?_
        rintro e w3 ⟨rfl, hb3⟩
        have hB3 : Below w.heap.size w w3 := by
          refine bt ?_ hb3
          repeat (first | (with_reducible refine Below.drew ?_) | (with_reducible refine bal ?_ _) | ((with_reducible refine bst ?_ ?_ _); rotate_left; focus (first | (simp; done) | (simp; omega))))
          exact hB2
        go_wp2
        go_ret
        refine ⟨rfl, ?_⟩
        repeat (first | (with_reducible refine Below.drew ?_) | (with_reducible refine bal ?_ _) | ((with_reducible refine bst ?_ ?_ _); rotate_left; focus (first | (simp; done) | (simp; omega))))
        exact hB3
    · have h4' : p1 ≤ x + 1000 := by omega
      clear h4
      have kq : (p1 == a) = false := by simp; omega
      clear k1
      have HC := Lib.hid h5
      clear h5
      go_enter Try.func9, Try.ntmps9
      go_wp2_with fail
      refine (hear_any a t n x a' t' n' _).mono ?_
      rintro e w1 ⟨rfl, hb1⟩
      rw [HN.out]
      obtain ⟨hc1, hf1⟩ := bcell hb1
      have hz1 := hb1.size
      try simp at hz1
      have hB1 : Below w.heap.size w w1 := by
        refine bt ?_ hb1
        repeat (first | (with_reducible refine Below.drew ?_) | (with_reducible refine bal ?_ _) | ((with_reducible refine bst ?_ ?_ _); rotate_left; focus (first | (simp; done) | (simp; omega))))
        exact (b0 w)
      have ltx1 : w.heap.size < w1.heap.size := by omega
      have cx0 : w1.cell? ⟨w.heap.size, 0, none⟩ = some (Value.int .i64 (a)) := by rw [hc1 _ _ (by first | omega | (simp; done) | (simp; omega))]; first | assumption | go_simp
      have fx0 : w1.frozen? ⟨w.heap.size, 0, none⟩ = false := by rw [hf1 _ _ (by first | omega | (simp; done) | (simp; omega))]; first | assumption | go_simp
      have cx1 : w1.cell? ⟨w.heap.size, 1, none⟩ = some (Value.int .i64 (t)) := by rw [hc1 _ _ (by first | omega | (simp; done) | (simp; omega))]; first | assumption | go_simp
      have fx1 : w1.frozen? ⟨w.heap.size, 1, none⟩ = false := by rw [hf1 _ _ (by first | omega | (simp; done) | (simp; omega))]; first | assumption | go_simp
      have cx2 : w1.cell? ⟨w.heap.size, 2, none⟩ = some (Value.int .i64 (n)) := by rw [hc1 _ _ (by first | omega | (simp; done) | (simp; omega))]; first | assumption | go_simp
      have fx2 : w1.frozen? ⟨w.heap.size, 2, none⟩ = false := by rw [hf1 _ _ (by first | omega | (simp; done) | (simp; omega))]; first | assumption | go_simp
      have lts1 : w.heap.size + 1 < w1.heap.size := by omega
      have cs0 : w1.cell? ⟨w.heap.size + 1, 0, none⟩ = some (Value.int .i64 (a')) := by rw [hc1 _ _ (by first | omega | (simp; done) | (simp; omega))]; first | assumption | go_simp
      have fs0 : w1.frozen? ⟨w.heap.size + 1, 0, none⟩ = false := by rw [hf1 _ _ (by first | omega | (simp; done) | (simp; omega))]; first | assumption | go_simp
      have cs1 : w1.cell? ⟨w.heap.size + 1, 1, none⟩ = some (Value.int .i64 (t')) := by rw [hc1 _ _ (by first | omega | (simp; done) | (simp; omega))]; first | assumption | go_simp
      have fs1 : w1.frozen? ⟨w.heap.size + 1, 1, none⟩ = false := by rw [hf1 _ _ (by first | omega | (simp; done) | (simp; omega))]; first | assumption | go_simp
      have cs2 : w1.cell? ⟨w.heap.size + 1, 2, none⟩ = some (Value.int .i64 (n')) := by rw [hc1 _ _ (by first | omega | (simp; done) | (simp; omega))]; first | assumption | go_simp
      have fs2 : w1.frozen? ⟨w.heap.size + 1, 2, none⟩ = false := by rw [hf1 _ _ (by first | omega | (simp; done) | (simp; omega))]; first | assumption | go_simp
      clear hc1 hf1
      go_wp2_with fail
      refine (compare_any p1 p2 p3 a t n _).mono ?_
      rintro e w2 ⟨rfl, hb2⟩
      obtain ⟨hc2, hf2⟩ := bcell hb2
      have hz2 := hb2.size
      try simp at hz2
      have hcc := HC.out
      have hB2 : Below w.heap.size w w2 := by
        refine bt ?_ hb2
        repeat (first | (with_reducible refine Below.drew ?_) | (with_reducible refine bal ?_ _) | ((with_reducible refine bst ?_ ?_ _); rotate_left; focus (first | (simp; done) | (simp; omega))))
        exact hB1
      clear hc2 hf2
      go_wp2_with fail
      refine (awake06 _).mono ?_
      rintro e w3 ⟨rfl, hb3⟩
      have hB3 : Below w.heap.size w w3 := by
        refine bt ?_ hb3
        repeat (first | (with_reducible refine Below.drew ?_) | (with_reducible refine bal ?_ _) | ((with_reducible refine bst ?_ ?_ _); rotate_left; focus (first | (simp; done) | (simp; omega))))
        exact hB2
      go_wp2
      go_ret
      refine ⟨rfl, ?_⟩
      repeat (first | (with_reducible refine Below.drew ?_) | (with_reducible refine bal ?_ _) | ((with_reducible refine bst ?_ ?_ _); rotate_left; focus (first | (simp; done) | (simp; omega))))
      exact hB3
  · obtain ⟨rfl, rfl, rfl⟩ := hf1 he
    have he' : (pe != 0) = true := by simp [he]
    clear hf1 hf2 he
    go_enter Try.func9, Try.ntmps9
    go_wp2_with fail
    refine (hear_any a t n x a' t' n' _).mono ?_
    rintro e w1 ⟨rfl, hb1⟩
    rw [HN.out]
    obtain ⟨hc1, hf1⟩ := bcell hb1
    have hz1 := hb1.size
    try simp at hz1
    have hB1 : Below w.heap.size w w1 := by
      refine bt ?_ hb1
      repeat (first | (with_reducible refine Below.drew ?_) | (with_reducible refine bal ?_ _) | ((with_reducible refine bst ?_ ?_ _); rotate_left; focus (first | (simp; done) | (simp; omega))))
      exact (b0 w)
    have ltx1 : w.heap.size < w1.heap.size := by omega
    have cx0 : w1.cell? ⟨w.heap.size, 0, none⟩ = some (Value.int .i64 (a)) := by rw [hc1 _ _ (by first | omega | (simp; done) | (simp; omega))]; first | assumption | go_simp
    have fx0 : w1.frozen? ⟨w.heap.size, 0, none⟩ = false := by rw [hf1 _ _ (by first | omega | (simp; done) | (simp; omega))]; first | assumption | go_simp
    have cx1 : w1.cell? ⟨w.heap.size, 1, none⟩ = some (Value.int .i64 (t)) := by rw [hc1 _ _ (by first | omega | (simp; done) | (simp; omega))]; first | assumption | go_simp
    have fx1 : w1.frozen? ⟨w.heap.size, 1, none⟩ = false := by rw [hf1 _ _ (by first | omega | (simp; done) | (simp; omega))]; first | assumption | go_simp
    have cx2 : w1.cell? ⟨w.heap.size, 2, none⟩ = some (Value.int .i64 (n)) := by rw [hc1 _ _ (by first | omega | (simp; done) | (simp; omega))]; first | assumption | go_simp
    have fx2 : w1.frozen? ⟨w.heap.size, 2, none⟩ = false := by rw [hf1 _ _ (by first | omega | (simp; done) | (simp; omega))]; first | assumption | go_simp
    have lts1 : w.heap.size + 1 < w1.heap.size := by omega
    have cs0 : w1.cell? ⟨w.heap.size + 1, 0, none⟩ = some (Value.int .i64 (a')) := by rw [hc1 _ _ (by first | omega | (simp; done) | (simp; omega))]; first | assumption | go_simp
    have fs0 : w1.frozen? ⟨w.heap.size + 1, 0, none⟩ = false := by rw [hf1 _ _ (by first | omega | (simp; done) | (simp; omega))]; first | assumption | go_simp
    have cs1 : w1.cell? ⟨w.heap.size + 1, 1, none⟩ = some (Value.int .i64 (t')) := by rw [hc1 _ _ (by first | omega | (simp; done) | (simp; omega))]; first | assumption | go_simp
    have fs1 : w1.frozen? ⟨w.heap.size + 1, 1, none⟩ = false := by rw [hf1 _ _ (by first | omega | (simp; done) | (simp; omega))]; first | assumption | go_simp
    have cs2 : w1.cell? ⟨w.heap.size + 1, 2, none⟩ = some (Value.int .i64 (n')) := by rw [hc1 _ _ (by first | omega | (simp; done) | (simp; omega))]; first | assumption | go_simp
    have fs2 : w1.frozen? ⟨w.heap.size + 1, 2, none⟩ = false := by rw [hf1 _ _ (by first | omega | (simp; done) | (simp; omega))]; first | assumption | go_simp
    clear hc1 hf1
    go_wp2_with fail
    refine (awake06 _).mono ?_
    rintro e w2 ⟨rfl, hb2⟩
    have hB2 : Below w.heap.size w w2 := by
      refine bt ?_ hb2
      repeat (first | (with_reducible refine Below.drew ?_) | (with_reducible refine bal ?_ _) | ((with_reducible refine bst ?_ ?_ _); rotate_left; focus (first | (simp; done) | (simp; omega))))
      exact hB1
    go_wp2
    go_ret
    refine ⟨rfl, ?_⟩
    repeat (first | (with_reducible refine Below.drew ?_) | (with_reducible refine bal ?_ _) | ((with_reducible refine bst ?_ ?_ _); rotate_left; focus (first | (simp; done) | (simp; omega))))
    exact hB2
end Go.Proofs.Ytpdjfmdbpnpkfaa
