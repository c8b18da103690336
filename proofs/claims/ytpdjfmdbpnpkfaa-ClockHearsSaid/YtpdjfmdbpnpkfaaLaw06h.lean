/- A walk of layer 6's laws. -/
import Derived.Test.YtpdjfmdbpnpkfaaRise
import Derived.Test.YtpdjfmdbpnpkfaaLaw06
import Derived.Deep.RegionHeld3
import Derived.Deep.DrawnRows
namespace Go.Proofs.Ytpdjfmdbpnpkfaa
open Go.RowKit
attribute [local go_sem ↓] Go.wp_at_zero Go.wp_at_succ
theorem nine_below {w w1 : World} {b1 b2 b3 : Nat} {c0 c1 c2 c3 c4 c5 c6 c7 c8 : Value}
    (h : b1 < w1.heap.size ∧ b2 < w1.heap.size ∧ b3 < w1.heap.size ∧ w1.cell? ⟨b1, 0, none⟩ = some c0 ∧ w1.cell? ⟨b1, 1, none⟩ = some c1 ∧ w1.cell? ⟨b1, 2, none⟩ = some c2 ∧
      w1.cell? ⟨b2, 0, none⟩ = some c3 ∧ w1.cell? ⟨b2, 1, none⟩ = some c4 ∧ w1.cell? ⟨b2, 2, none⟩ = some c5 ∧ w1.cell? ⟨b3, 0, none⟩ = some c6 ∧ w1.cell? ⟨b3, 1, none⟩ = some c7 ∧ w1.cell? ⟨b3, 2, none⟩ = some c8 ∧ Below w.heap.size w w1) : Below w.heap.size w w1 :=
  h.2.2.2.2.2.2.2.2.2.2.2.2
set_option maxHeartbeats 3200000 in
set_option maxRecDepth 100000 in
theorem clockHears_walk (a t n : Int) (_ha : (Lit.int .i64 a).wf = true) (_hb : (Lit.int .i64 t).wf = true) (_hc : (Lit.int .i64 n).wf = true) (x : Int) (_hx : (Lit.int .i64 x).wf = true) (a' t' n' : Int) (_ha' : (Lit.int .i64 a').wf = true) (_hb' : (Lit.int .i64 t').wf = true) (_hc' : (Lit.int .i64 n').wf = true) (w : World) :
    Calls Try.prog 7 #[stampV a t n, .int .i64 x, stampV a' t' n'] w fun e w' => e = .returned (.bool true) ∧ Below w.heap.size w w' := by
  generalize h1 : rightB a t n = r1
  have H1 := Lib.hid h1
  clear h1
  generalize h2 : rightB a' t' n' = r2
  have H2 := Lib.hid h2
  clear h2
  have hq := hear_ref a t n x a' t' n'
  obtain ⟨⟨p1, p2, p3⟩, pe, hN⟩ : ∃ p e, hearT a t n x a' t' n' = (p, e) := ⟨_, _, rfl⟩
  rw [hN] at hq
  have HN := Lib.hid hN
  have HM := Lib.hid hq.symm
  clear hN hq
  cases r1
  · have hR := raise_no a t n a' t' n' (by rw [H1.out, Bool.false_and])
    have HR := Lib.hid hR
    clear hR
    go_enter Try.func7, Try.ntmps7
    go_wp2_with fail
    refine (hear_any a t n x a' t' n' _).mono ?_
    rintro e w1 ⟨rfl, hb1⟩
    rw [HN.out]
    obtain ⟨hc1, hf1⟩ := bcell hb1
    have hz1 := hb1.size
    try simp at hz1
    have hB1 : Below w.heap.size w w1 := by
      refine bt ?_ hb1
      repeat (first | (with_reducible refine Below.drew ?_) | (with_reducible refine bal ?_ _) | ((with_reducible refine bst ?_ ?_ _); rotate_left; focus (first | (simp; done) | (simp; omega))))
      exact (b0 w)
    have ltx1 : w.heap.size < w1.heap.size := by omega
    have cx0 : w1.cell? ⟨w.heap.size, 0, none⟩ = some (Value.int .i64 (a)) := by rw [hc1 _ _ (by first | omega | (simp; done) | (simp; omega))]; first | assumption | go_simp
    have fx0 : w1.frozen? ⟨w.heap.size, 0, none⟩ = false := by rw [hf1 _ _ (by first | omega | (simp; done) | (simp; omega))]; first | assumption | go_simp
    have cx1 : w1.cell? ⟨w.heap.size, 1, none⟩ = some (Value.int .i64 (t)) := by rw [hc1 _ _ (by first | omega | (simp; done) | (simp; omega))]; first | assumption | go_simp
    have fx1 : w1.frozen? ⟨w.heap.size, 1, none⟩ = false := by rw [hf1 _ _ (by first | omega | (simp; done) | (simp; omega))]; first | assumption | go_simp
    have cx2 : w1.cell? ⟨w.heap.size, 2, none⟩ = some (Value.int .i64 (n)) := by rw [hc1 _ _ (by first | omega | (simp; done) | (simp; omega))]; first | assumption | go_simp
    have fx2 : w1.frozen? ⟨w.heap.size, 2, none⟩ = false := by rw [hf1 _ _ (by first | omega | (simp; done) | (simp; omega))]; first | assumption | go_simp
    have lts1 : w.heap.size + 1 < w1.heap.size := by omega
    have cs0 : w1.cell? ⟨w.heap.size + 1, 0, none⟩ = some (Value.int .i64 (a')) := by rw [hc1 _ _ (by first | omega | (simp; done) | (simp; omega))]; first | assumption | go_simp
    have fs0 : w1.frozen? ⟨w.heap.size + 1, 0, none⟩ = false := by rw [hf1 _ _ (by first | omega | (simp; done) | (simp; omega))]; first | assumption | go_simp
    have cs1 : w1.cell? ⟨w.heap.size + 1, 1, none⟩ = some (Value.int .i64 (t')) := by rw [hc1 _ _ (by first | omega | (simp; done) | (simp; omega))]; first | assumption | go_simp
    have fs1 : w1.frozen? ⟨w.heap.size + 1, 1, none⟩ = false := by rw [hf1 _ _ (by first | omega | (simp; done) | (simp; omega))]; first | assumption | go_simp
    have cs2 : w1.cell? ⟨w.heap.size + 1, 2, none⟩ = some (Value.int .i64 (n')) := by rw [hc1 _ _ (by first | omega | (simp; done) | (simp; omega))]; first | assumption | go_simp
    have fs2 : w1.frozen? ⟨w.heap.size + 1, 2, none⟩ = false := by rw [hf1 _ _ (by first | omega | (simp; done) | (simp; omega))]; first | assumption | go_simp
    clear hc1 hf1
    go_wp2_with fail
    refine (refhear_any a t n x a' t' n' _).mono ?_
    rintro e w2 ⟨rfl, hb2⟩
    rw [HM.out]
    obtain ⟨hc2, hf2⟩ := bcell hb2
    have hz2 := hb2.size
    try simp at hz2
    have hB2 : Below w.heap.size w w2 := by
      refine bt ?_ hb2
      repeat (first | (with_reducible refine Below.drew ?_) | (with_reducible refine bal ?_ _) | ((with_reducible refine bst ?_ ?_ _); rotate_left; focus (first | (simp; done) | (simp; omega))))
      exact hB1
    have ltx2 : w.heap.size < w2.heap.size := by omega
    have cx0 : w2.cell? ⟨w.heap.size, 0, none⟩ = some (Value.int .i64 (a)) := by rw [hc2 _ _ (by first | omega | (simp; done) | (simp; omega))]; first | assumption | go_simp
    have fx0 : w2.frozen? ⟨w.heap.size, 0, none⟩ = false := by rw [hf2 _ _ (by first | omega | (simp; done) | (simp; omega))]; first | assumption | go_simp
    have cx1 : w2.cell? ⟨w.heap.size, 1, none⟩ = some (Value.int .i64 (t)) := by rw [hc2 _ _ (by first | omega | (simp; done) | (simp; omega))]; first | assumption | go_simp
    have fx1 : w2.frozen? ⟨w.heap.size, 1, none⟩ = false := by rw [hf2 _ _ (by first | omega | (simp; done) | (simp; omega))]; first | assumption | go_simp
    have cx2 : w2.cell? ⟨w.heap.size, 2, none⟩ = some (Value.int .i64 (n)) := by rw [hc2 _ _ (by first | omega | (simp; done) | (simp; omega))]; first | assumption | go_simp
    have fx2 : w2.frozen? ⟨w.heap.size, 2, none⟩ = false := by rw [hf2 _ _ (by first | omega | (simp; done) | (simp; omega))]; first | assumption | go_simp
    have lts2 : w.heap.size + 1 < w2.heap.size := by omega
    have cs0 : w2.cell? ⟨w.heap.size + 1, 0, none⟩ = some (Value.int .i64 (a')) := by rw [hc2 _ _ (by first | omega | (simp; done) | (simp; omega))]; first | assumption | go_simp
    have fs0 : w2.frozen? ⟨w.heap.size + 1, 0, none⟩ = false := by rw [hf2 _ _ (by first | omega | (simp; done) | (simp; omega))]; first | assumption | go_simp
    have cs1 : w2.cell? ⟨w.heap.size + 1, 1, none⟩ = some (Value.int .i64 (t')) := by rw [hc2 _ _ (by first | omega | (simp; done) | (simp; omega))]; first | assumption | go_simp
    have fs1 : w2.frozen? ⟨w.heap.size + 1, 1, none⟩ = false := by rw [hf2 _ _ (by first | omega | (simp; done) | (simp; omega))]; first | assumption | go_simp
    have cs2 : w2.cell? ⟨w.heap.size + 1, 2, none⟩ = some (Value.int .i64 (n')) := by rw [hc2 _ _ (by first | omega | (simp; done) | (simp; omega))]; first | assumption | go_simp
    have fs2 : w2.frozen? ⟨w.heap.size + 1, 2, none⟩ = false := by rw [hf2 _ _ (by first | omega | (simp; done) | (simp; omega))]; first | assumption | go_simp
    have ltd2 : w1.heap.size < w2.heap.size := by omega
    have cd0 : w2.cell? ⟨w1.heap.size, 0, none⟩ = some (Value.int .i64 (p1)) := by rw [hc2 _ _ (by first | omega | (simp; done) | (simp; omega))]; first | assumption | go_simp
    have fd0 : w2.frozen? ⟨w1.heap.size, 0, none⟩ = false := by rw [hf2 _ _ (by first | omega | (simp; done) | (simp; omega))]; first | assumption | go_simp
    have cd1 : w2.cell? ⟨w1.heap.size, 1, none⟩ = some (Value.int .i64 (p2)) := by rw [hc2 _ _ (by first | omega | (simp; done) | (simp; omega))]; first | assumption | go_simp
    have fd1 : w2.frozen? ⟨w1.heap.size, 1, none⟩ = false := by rw [hf2 _ _ (by first | omega | (simp; done) | (simp; omega))]; first | assumption | go_simp
    have cd2 : w2.cell? ⟨w1.heap.size, 2, none⟩ = some (Value.int .i64 (p3)) := by rw [hc2 _ _ (by first | omega | (simp; done) | (simp; omega))]; first | assumption | go_simp
    have fd2 : w2.frozen? ⟨w1.heap.size, 2, none⟩ = false := by rw [hf2 _ _ (by first | omega | (simp; done) | (simp; omega))]; first | assumption | go_simp
    clear hc2 hf2
    go_wp2_with fail
    refine (raise_any a t n a' t' n' _).mono ?_
    rintro e w3 ⟨rfl, hb3⟩
    rw [HR.out]
    obtain ⟨hc3, hf3⟩ := bcell hb3
    have hz3 := hb3.size
    try simp at hz3
    have hB3 : Below w.heap.size w w3 := by
      refine bt ?_ hb3
      repeat (first | (with_reducible refine Below.drew ?_) | (with_reducible refine bal ?_ _) | ((with_reducible refine bst ?_ ?_ _); rotate_left; focus (first | (simp; done) | (simp; omega))))
      exact hB2
    have ltx3 : w.heap.size < w3.heap.size := by omega
    have cx0 : w3.cell? ⟨w.heap.size, 0, none⟩ = some (Value.int .i64 (a)) := by rw [hc3 _ _ (by first | omega | (simp; done) | (simp; omega))]; first | assumption | go_simp
    have fx0 : w3.frozen? ⟨w.heap.size, 0, none⟩ = false := by rw [hf3 _ _ (by first | omega | (simp; done) | (simp; omega))]; first | assumption | go_simp
    have cx1 : w3.cell? ⟨w.heap.size, 1, none⟩ = some (Value.int .i64 (t)) := by rw [hc3 _ _ (by first | omega | (simp; done) | (simp; omega))]; first | assumption | go_simp
    have fx1 : w3.frozen? ⟨w.heap.size, 1, none⟩ = false := by rw [hf3 _ _ (by first | omega | (simp; done) | (simp; omega))]; first | assumption | go_simp
    have cx2 : w3.cell? ⟨w.heap.size, 2, none⟩ = some (Value.int .i64 (n)) := by rw [hc3 _ _ (by first | omega | (simp; done) | (simp; omega))]; first | assumption | go_simp
    have fx2 : w3.frozen? ⟨w.heap.size, 2, none⟩ = false := by rw [hf3 _ _ (by first | omega | (simp; done) | (simp; omega))]; first | assumption | go_simp
    have lts3 : w.heap.size + 1 < w3.heap.size := by omega
    have cs0 : w3.cell? ⟨w.heap.size + 1, 0, none⟩ = some (Value.int .i64 (a')) := by rw [hc3 _ _ (by first | omega | (simp; done) | (simp; omega))]; first | assumption | go_simp
    have fs0 : w3.frozen? ⟨w.heap.size + 1, 0, none⟩ = false := by rw [hf3 _ _ (by first | omega | (simp; done) | (simp; omega))]; first | assumption | go_simp
    have cs1 : w3.cell? ⟨w.heap.size + 1, 1, none⟩ = some (Value.int .i64 (t')) := by rw [hc3 _ _ (by first | omega | (simp; done) | (simp; omega))]; first | assumption | go_simp
    have fs1 : w3.frozen? ⟨w.heap.size + 1, 1, none⟩ = false := by rw [hf3 _ _ (by first | omega | (simp; done) | (simp; omega))]; first | assumption | go_simp
    have cs2 : w3.cell? ⟨w.heap.size + 1, 2, none⟩ = some (Value.int .i64 (n')) := by rw [hc3 _ _ (by first | omega | (simp; done) | (simp; omega))]; first | assumption | go_simp
    have fs2 : w3.frozen? ⟨w.heap.size + 1, 2, none⟩ = false := by rw [hf3 _ _ (by first | omega | (simp; done) | (simp; omega))]; first | assumption | go_simp
    clear hc3 hf3
    go_wp2_with fail
    refine (refright_any a t n _).mono ?_
    rintro e w4 ⟨rfl, hb4⟩
    rw [H1.out]
    obtain ⟨hc4, hf4⟩ := bcell hb4
    have hz4 := hb4.size
    try simp at hz4
    have hB4 : Below w.heap.size w w4 := by
      refine bt ?_ hb4
      repeat (first | (with_reducible refine Below.drew ?_) | (with_reducible refine bal ?_ _) | ((with_reducible refine bst ?_ ?_ _); rotate_left; focus (first | (simp; done) | (simp; omega))))
      exact hB3
    have ltx4 : w.heap.size < w4.heap.size := by omega
    have cx0 : w4.cell? ⟨w.heap.size, 0, none⟩ = some (Value.int .i64 (a)) := by rw [hc4 _ _ (by first | omega | (simp; done) | (simp; omega))]; first | assumption | go_simp
    have fx0 : w4.frozen? ⟨w.heap.size, 0, none⟩ = false := by rw [hf4 _ _ (by first | omega | (simp; done) | (simp; omega))]; first | assumption | go_simp
    have cx1 : w4.cell? ⟨w.heap.size, 1, none⟩ = some (Value.int .i64 (t)) := by rw [hc4 _ _ (by first | omega | (simp; done) | (simp; omega))]; first | assumption | go_simp
    have fx1 : w4.frozen? ⟨w.heap.size, 1, none⟩ = false := by rw [hf4 _ _ (by first | omega | (simp; done) | (simp; omega))]; first | assumption | go_simp
    have cx2 : w4.cell? ⟨w.heap.size, 2, none⟩ = some (Value.int .i64 (n)) := by rw [hc4 _ _ (by first | omega | (simp; done) | (simp; omega))]; first | assumption | go_simp
    have fx2 : w4.frozen? ⟨w.heap.size, 2, none⟩ = false := by rw [hf4 _ _ (by first | omega | (simp; done) | (simp; omega))]; first | assumption | go_simp
    have lts4 : w.heap.size + 1 < w4.heap.size := by omega
    have cs0 : w4.cell? ⟨w.heap.size + 1, 0, none⟩ = some (Value.int .i64 (a')) := by rw [hc4 _ _ (by first | omega | (simp; done) | (simp; omega))]; first | assumption | go_simp
    have fs0 : w4.frozen? ⟨w.heap.size + 1, 0, none⟩ = false := by rw [hf4 _ _ (by first | omega | (simp; done) | (simp; omega))]; first | assumption | go_simp
    have cs1 : w4.cell? ⟨w.heap.size + 1, 1, none⟩ = some (Value.int .i64 (t')) := by rw [hc4 _ _ (by first | omega | (simp; done) | (simp; omega))]; first | assumption | go_simp
    have fs1 : w4.frozen? ⟨w.heap.size + 1, 1, none⟩ = false := by rw [hf4 _ _ (by first | omega | (simp; done) | (simp; omega))]; first | assumption | go_simp
    have cs2 : w4.cell? ⟨w.heap.size + 1, 2, none⟩ = some (Value.int .i64 (n')) := by rw [hc4 _ _ (by first | omega | (simp; done) | (simp; omega))]; first | assumption | go_simp
    have fs2 : w4.frozen? ⟨w.heap.size + 1, 2, none⟩ = false := by rw [hf4 _ _ (by first | omega | (simp; done) | (simp; omega))]; first | assumption | go_simp
    have ltg4 : w3.heap.size < w4.heap.size := by omega
    have cg0 : w4.cell? ⟨w3.heap.size, 0, none⟩ = some (Value.int .i64 (0)) := by rw [hc4 _ _ (by first | omega | (simp; done) | (simp; omega))]; first | assumption | go_simp
    have fg0 : w4.frozen? ⟨w3.heap.size, 0, none⟩ = false := by rw [hf4 _ _ (by first | omega | (simp; done) | (simp; omega))]; first | assumption | go_simp
    have cg1 : w4.cell? ⟨w3.heap.size, 1, none⟩ = some (Value.int .i64 (0)) := by rw [hc4 _ _ (by first | omega | (simp; done) | (simp; omega))]; first | assumption | go_simp
    have fg1 : w4.frozen? ⟨w3.heap.size, 1, none⟩ = false := by rw [hf4 _ _ (by first | omega | (simp; done) | (simp; omega))]; first | assumption | go_simp
    have cg2 : w4.cell? ⟨w3.heap.size, 2, none⟩ = some (Value.int .i64 (0)) := by rw [hc4 _ _ (by first | omega | (simp; done) | (simp; omega))]; first | assumption | go_simp
    have fg2 : w4.frozen? ⟨w3.heap.size, 2, none⟩ = false := by rw [hf4 _ _ (by first | omega | (simp; done) | (simp; omega))]; first | assumption | go_simp
    clear hc4 hf4
    go_wp2_with fail
    refine (awake06 _).mono ?_
    rintro e w5 ⟨rfl, hb5⟩
    have hB5 : Below w.heap.size w w5 := by
      refine bt ?_ hb5
      repeat (first | (with_reducible refine Below.drew ?_) | (with_reducible refine bal ?_ _) | ((with_reducible refine bst ?_ ?_ _); rotate_left; focus (first | (simp; done) | (simp; omega))))
      exact hB4
    go_wp2
    go_ret
    refine ⟨rfl, ?_⟩
    repeat (first | (with_reducible refine Below.drew ?_) | (with_reducible refine bal ?_ _) | ((with_reducible refine bst ?_ ?_ _); rotate_left; focus (first | (simp; done) | (simp; omega))))
    exact hB5
  · cases r2
    · have hR := raise_no a t n a' t' n' (by rw [H1.out, H2.out, Bool.and_false])
      have HR := Lib.hid hR
      clear hR
      go_enter Try.func7, Try.ntmps7
      go_wp2_with fail
      refine (hear_any a t n x a' t' n' _).mono ?_
      rintro e w1 ⟨rfl, hb1⟩
      rw [HN.out]
      obtain ⟨hc1, hf1⟩ := bcell hb1
      have hz1 := hb1.size
      try simp at hz1
      have hB1 : Below w.heap.size w w1 := by
        refine bt ?_ hb1
        repeat (first | (with_reducible refine Below.drew ?_) | (with_reducible refine bal ?_ _) | ((with_reducible refine bst ?_ ?_ _); rotate_left; focus (first | (simp; done) | (simp; omega))))
        exact (b0 w)
      have ltx1 : w.heap.size < w1.heap.size := by omega
      have cx0 : w1.cell? ⟨w.heap.size, 0, none⟩ = some (Value.int .i64 (a)) := by rw [hc1 _ _ (by first | omega | (simp; done) | (simp; omega))]; first | assumption | go_simp
      have fx0 : w1.frozen? ⟨w.heap.size, 0, none⟩ = false := by rw [hf1 _ _ (by first | omega | (simp; done) | (simp; omega))]; first | assumption | go_simp
      have cx1 : w1.cell? ⟨w.heap.size, 1, none⟩ = some (Value.int .i64 (t)) := by rw [hc1 _ _ (by first | omega | (simp; done) | (simp; omega))]; first | assumption | go_simp
      have fx1 : w1.frozen? ⟨w.heap.size, 1, none⟩ = false := by rw [hf1 _ _ (by first | omega | (simp; done) | (simp; omega))]; first | assumption | go_simp
      have cx2 : w1.cell? ⟨w.heap.size, 2, none⟩ = some (Value.int .i64 (n)) := by rw [hc1 _ _ (by first | omega | (simp; done) | (simp; omega))]; first | assumption | go_simp
      have fx2 : w1.frozen? ⟨w.heap.size, 2, none⟩ = false := by rw [hf1 _ _ (by first | omega | (simp; done) | (simp; omega))]; first | assumption | go_simp
      have lts1 : w.heap.size + 1 < w1.heap.size := by omega
      have cs0 : w1.cell? ⟨w.heap.size + 1, 0, none⟩ = some (Value.int .i64 (a')) := by rw [hc1 _ _ (by first | omega | (simp; done) | (simp; omega))]; first | assumption | go_simp
      have fs0 : w1.frozen? ⟨w.heap.size + 1, 0, none⟩ = false := by rw [hf1 _ _ (by first | omega | (simp; done) | (simp; omega))]; first | assumption | go_simp
      have cs1 : w1.cell? ⟨w.heap.size + 1, 1, none⟩ = some (Value.int .i64 (t')) := by rw [hc1 _ _ (by first | omega | (simp; done) | (simp; omega))]; first | assumption | go_simp
      have fs1 : w1.frozen? ⟨w.heap.size + 1, 1, none⟩ = false := by rw [hf1 _ _ (by first | omega | (simp; done) | (simp; omega))]; first | assumption | go_simp
      have cs2 : w1.cell? ⟨w.heap.size + 1, 2, none⟩ = some (Value.int .i64 (n')) := by rw [hc1 _ _ (by first | omega | (simp; done) | (simp; omega))]; first | assumption | go_simp
      have fs2 : w1.frozen? ⟨w.heap.size + 1, 2, none⟩ = false := by rw [hf1 _ _ (by first | omega | (simp; done) | (simp; omega))]; first | assumption | go_simp
      clear hc1 hf1
      go_wp2_with fail
      refine (refhear_any a t n x a' t' n' _).mono ?_
      rintro e w2 ⟨rfl, hb2⟩
      rw [HM.out]
      obtain ⟨hc2, hf2⟩ := bcell hb2
      have hz2 := hb2.size
      try simp at hz2
      have hB2 : Below w.heap.size w w2 := by
        refine bt ?_ hb2
        repeat (first | (with_reducible refine Below.drew ?_) | (with_reducible refine bal ?_ _) | ((with_reducible refine bst ?_ ?_ _); rotate_left; focus (first | (simp; done) | (simp; omega))))
        exact hB1
      have ltx2 : w.heap.size < w2.heap.size := by omega
      have cx0 : w2.cell? ⟨w.heap.size, 0, none⟩ = some (Value.int .i64 (a)) := by rw [hc2 _ _ (by first | omega | (simp; done) | (simp; omega))]; first | assumption | go_simp
      have fx0 : w2.frozen? ⟨w.heap.size, 0, none⟩ = false := by rw [hf2 _ _ (by first | omega | (simp; done) | (simp; omega))]; first | assumption | go_simp
      have cx1 : w2.cell? ⟨w.heap.size, 1, none⟩ = some (Value.int .i64 (t)) := by rw [hc2 _ _ (by first | omega | (simp; done) | (simp; omega))]; first | assumption | go_simp
      have fx1 : w2.frozen? ⟨w.heap.size, 1, none⟩ = false := by rw [hf2 _ _ (by first | omega | (simp; done) | (simp; omega))]; first | assumption | go_simp
      have cx2 : w2.cell? ⟨w.heap.size, 2, none⟩ = some (Value.int .i64 (n)) := by rw [hc2 _ _ (by first | omega | (simp; done) | (simp; omega))]; first | assumption | go_simp
      have fx2 : w2.frozen? ⟨w.heap.size, 2, none⟩ = false := by rw [hf2 _ _ (by first | omega | (simp; done) | (simp; omega))]; first | assumption | go_simp
      have lts2 : w.heap.size + 1 < w2.heap.size := by omega
      have cs0 : w2.cell? ⟨w.heap.size + 1, 0, none⟩ = some (Value.int .i64 (a')) := by rw [hc2 _ _ (by first | omega | (simp; done) | (simp; omega))]; first | assumption | go_simp
      have fs0 : w2.frozen? ⟨w.heap.size + 1, 0, none⟩ = false := by rw [hf2 _ _ (by first | omega | (simp; done) | (simp; omega))]; first | assumption | go_simp
      have cs1 : w2.cell? ⟨w.heap.size + 1, 1, none⟩ = some (Value.int .i64 (t')) := by rw [hc2 _ _ (by first | omega | (simp; done) | (simp; omega))]; first | assumption | go_simp
      have fs1 : w2.frozen? ⟨w.heap.size + 1, 1, none⟩ = false := by rw [hf2 _ _ (by first | omega | (simp; done) | (simp; omega))]; first | assumption | go_simp
      have cs2 : w2.cell? ⟨w.heap.size + 1, 2, none⟩ = some (Value.int .i64 (n')) := by rw [hc2 _ _ (by first | omega | (simp; done) | (simp; omega))]; first | assumption | go_simp
      have fs2 : w2.frozen? ⟨w.heap.size + 1, 2, none⟩ = false := by rw [hf2 _ _ (by first | omega | (simp; done) | (simp; omega))]; first | assumption | go_simp
      have ltd2 : w1.heap.size < w2.heap.size := by omega
      have cd0 : w2.cell? ⟨w1.heap.size, 0, none⟩ = some (Value.int .i64 (p1)) := by rw [hc2 _ _ (by first | omega | (simp; done) | (simp; omega))]; first | assumption | go_simp
      have fd0 : w2.frozen? ⟨w1.heap.size, 0, none⟩ = false := by rw [hf2 _ _ (by first | omega | (simp; done) | (simp; omega))]; first | assumption | go_simp
      have cd1 : w2.cell? ⟨w1.heap.size, 1, none⟩ = some (Value.int .i64 (p2)) := by rw [hc2 _ _ (by first | omega | (simp; done) | (simp; omega))]; first | assumption | go_simp
      have fd1 : w2.frozen? ⟨w1.heap.size, 1, none⟩ = false := by rw [hf2 _ _ (by first | omega | (simp; done) | (simp; omega))]; first | assumption | go_simp
      have cd2 : w2.cell? ⟨w1.heap.size, 2, none⟩ = some (Value.int .i64 (p3)) := by rw [hc2 _ _ (by first | omega | (simp; done) | (simp; omega))]; first | assumption | go_simp
      have fd2 : w2.frozen? ⟨w1.heap.size, 2, none⟩ = false := by rw [hf2 _ _ (by first | omega | (simp; done) | (simp; omega))]; first | assumption | go_simp
      clear hc2 hf2
      go_wp2_with fail
      refine (raise_any a t n a' t' n' _).mono ?_
      rintro e w3 ⟨rfl, hb3⟩
      rw [HR.out]
      obtain ⟨hc3, hf3⟩ := bcell hb3
      have hz3 := hb3.size
      try simp at hz3
      have hB3 : Below w.heap.size w w3 := by
        refine bt ?_ hb3
        repeat (first | (with_reducible refine Below.drew ?_) | (with_reducible refine bal ?_ _) | ((with_reducible refine bst ?_ ?_ _); rotate_left; focus (first | (simp; done) | (simp; omega))))
        exact hB2
      have ltx3 : w.heap.size < w3.heap.size := by omega
      have cx0 : w3.cell? ⟨w.heap.size, 0, none⟩ = some (Value.int .i64 (a)) := by rw [hc3 _ _ (by first | omega | (simp; done) | (simp; omega))]; first | assumption | go_simp
      have fx0 : w3.frozen? ⟨w.heap.size, 0, none⟩ = false := by rw [hf3 _ _ (by first | omega | (simp; done) | (simp; omega))]; first | assumption | go_simp
      have cx1 : w3.cell? ⟨w.heap.size, 1, none⟩ = some (Value.int .i64 (t)) := by rw [hc3 _ _ (by first | omega | (simp; done) | (simp; omega))]; first | assumption | go_simp
      have fx1 : w3.frozen? ⟨w.heap.size, 1, none⟩ = false := by rw [hf3 _ _ (by first | omega | (simp; done) | (simp; omega))]; first | assumption | go_simp
      have cx2 : w3.cell? ⟨w.heap.size, 2, none⟩ = some (Value.int .i64 (n)) := by rw [hc3 _ _ (by first | omega | (simp; done) | (simp; omega))]; first | assumption | go_simp
      have fx2 : w3.frozen? ⟨w.heap.size, 2, none⟩ = false := by rw [hf3 _ _ (by first | omega | (simp; done) | (simp; omega))]; first | assumption | go_simp
      have lts3 : w.heap.size + 1 < w3.heap.size := by omega
      have cs0 : w3.cell? ⟨w.heap.size + 1, 0, none⟩ = some (Value.int .i64 (a')) := by rw [hc3 _ _ (by first | omega | (simp; done) | (simp; omega))]; first | assumption | go_simp
      have fs0 : w3.frozen? ⟨w.heap.size + 1, 0, none⟩ = false := by rw [hf3 _ _ (by first | omega | (simp; done) | (simp; omega))]; first | assumption | go_simp
      have cs1 : w3.cell? ⟨w.heap.size + 1, 1, none⟩ = some (Value.int .i64 (t')) := by rw [hc3 _ _ (by first | omega | (simp; done) | (simp; omega))]; first | assumption | go_simp
      have fs1 : w3.frozen? ⟨w.heap.size + 1, 1, none⟩ = false := by rw [hf3 _ _ (by first | omega | (simp; done) | (simp; omega))]; first | assumption | go_simp
      have cs2 : w3.cell? ⟨w.heap.size + 1, 2, none⟩ = some (Value.int .i64 (n')) := by rw [hc3 _ _ (by first | omega | (simp; done) | (simp; omega))]; first | assumption | go_simp
      have fs2 : w3.frozen? ⟨w.heap.size + 1, 2, none⟩ = false := by rw [hf3 _ _ (by first | omega | (simp; done) | (simp; omega))]; first | assumption | go_simp
      clear hc3 hf3
      go_wp2_with fail
      refine (refright_any a t n _).mono ?_
      rintro e w4 ⟨rfl, hb4⟩
      rw [H1.out]
      obtain ⟨hc4, hf4⟩ := bcell hb4
      have hz4 := hb4.size
      try simp at hz4
      have hB4 : Below w.heap.size w w4 := by
        refine bt ?_ hb4
        repeat (first | (with_reducible refine Below.drew ?_) | (with_reducible refine bal ?_ _) | ((with_reducible refine bst ?_ ?_ _); rotate_left; focus (first | (simp; done) | (simp; omega))))
        exact hB3
      have ltx4 : w.heap.size < w4.heap.size := by omega
      have cx0 : w4.cell? ⟨w.heap.size, 0, none⟩ = some (Value.int .i64 (a)) := by rw [hc4 _ _ (by first | omega | (simp; done) | (simp; omega))]; first | assumption | go_simp
      have fx0 : w4.frozen? ⟨w.heap.size, 0, none⟩ = false := by rw [hf4 _ _ (by first | omega | (simp; done) | (simp; omega))]; first | assumption | go_simp
      have cx1 : w4.cell? ⟨w.heap.size, 1, none⟩ = some (Value.int .i64 (t)) := by rw [hc4 _ _ (by first | omega | (simp; done) | (simp; omega))]; first | assumption | go_simp
      have fx1 : w4.frozen? ⟨w.heap.size, 1, none⟩ = false := by rw [hf4 _ _ (by first | omega | (simp; done) | (simp; omega))]; first | assumption | go_simp
      have cx2 : w4.cell? ⟨w.heap.size, 2, none⟩ = some (Value.int .i64 (n)) := by rw [hc4 _ _ (by first | omega | (simp; done) | (simp; omega))]; first | assumption | go_simp
      have fx2 : w4.frozen? ⟨w.heap.size, 2, none⟩ = false := by rw [hf4 _ _ (by first | omega | (simp; done) | (simp; omega))]; first | assumption | go_simp
      have lts4 : w.heap.size + 1 < w4.heap.size := by omega
      have cs0 : w4.cell? ⟨w.heap.size + 1, 0, none⟩ = some (Value.int .i64 (a')) := by rw [hc4 _ _ (by first | omega | (simp; done) | (simp; omega))]; first | assumption | go_simp
      have fs0 : w4.frozen? ⟨w.heap.size + 1, 0, none⟩ = false := by rw [hf4 _ _ (by first | omega | (simp; done) | (simp; omega))]; first | assumption | go_simp
      have cs1 : w4.cell? ⟨w.heap.size + 1, 1, none⟩ = some (Value.int .i64 (t')) := by rw [hc4 _ _ (by first | omega | (simp; done) | (simp; omega))]; first | assumption | go_simp
      have fs1 : w4.frozen? ⟨w.heap.size + 1, 1, none⟩ = false := by rw [hf4 _ _ (by first | omega | (simp; done) | (simp; omega))]; first | assumption | go_simp
      have cs2 : w4.cell? ⟨w.heap.size + 1, 2, none⟩ = some (Value.int .i64 (n')) := by rw [hc4 _ _ (by first | omega | (simp; done) | (simp; omega))]; first | assumption | go_simp
      have fs2 : w4.frozen? ⟨w.heap.size + 1, 2, none⟩ = false := by rw [hf4 _ _ (by first | omega | (simp; done) | (simp; omega))]; first | assumption | go_simp
      have ltg4 : w3.heap.size < w4.heap.size := by omega
      have cg0 : w4.cell? ⟨w3.heap.size, 0, none⟩ = some (Value.int .i64 (0)) := by rw [hc4 _ _ (by first | omega | (simp; done) | (simp; omega))]; first | assumption | go_simp
      have fg0 : w4.frozen? ⟨w3.heap.size, 0, none⟩ = false := by rw [hf4 _ _ (by first | omega | (simp; done) | (simp; omega))]; first | assumption | go_simp
      have cg1 : w4.cell? ⟨w3.heap.size, 1, none⟩ = some (Value.int .i64 (0)) := by rw [hc4 _ _ (by first | omega | (simp; done) | (simp; omega))]; first | assumption | go_simp
      have fg1 : w4.frozen? ⟨w3.heap.size, 1, none⟩ = false := by rw [hf4 _ _ (by first | omega | (simp; done) | (simp; omega))]; first | assumption | go_simp
      have cg2 : w4.cell? ⟨w3.heap.size, 2, none⟩ = some (Value.int .i64 (0)) := by rw [hc4 _ _ (by first | omega | (simp; done) | (simp; omega))]; first | assumption | go_simp
      have fg2 : w4.frozen? ⟨w3.heap.size, 2, none⟩ = false := by rw [hf4 _ _ (by first | omega | (simp; done) | (simp; omega))]; first | assumption | go_simp
      clear hc4 hf4
      go_wp2_with fail
      refine (refright_any a' t' n' _).mono ?_
      rintro e w5 ⟨rfl, hb5⟩
      rw [H2.out]
      obtain ⟨hc5, hf5⟩ := bcell hb5
      have hz5 := hb5.size
      try simp at hz5
      have hB5 : Below w.heap.size w w5 := by
        refine bt ?_ hb5
        repeat (first | (with_reducible refine Below.drew ?_) | (with_reducible refine bal ?_ _) | ((with_reducible refine bst ?_ ?_ _); rotate_left; focus (first | (simp; done) | (simp; omega))))
        exact hB4
      have ltx5 : w.heap.size < w5.heap.size := by omega
      have cx0 : w5.cell? ⟨w.heap.size, 0, none⟩ = some (Value.int .i64 (a)) := by rw [hc5 _ _ (by first | omega | (simp; done) | (simp; omega))]; first | assumption | go_simp
      have fx0 : w5.frozen? ⟨w.heap.size, 0, none⟩ = false := by rw [hf5 _ _ (by first | omega | (simp; done) | (simp; omega))]; first | assumption | go_simp
      have cx1 : w5.cell? ⟨w.heap.size, 1, none⟩ = some (Value.int .i64 (t)) := by rw [hc5 _ _ (by first | omega | (simp; done) | (simp; omega))]; first | assumption | go_simp
      have fx1 : w5.frozen? ⟨w.heap.size, 1, none⟩ = false := by rw [hf5 _ _ (by first | omega | (simp; done) | (simp; omega))]; first | assumption | go_simp
      have cx2 : w5.cell? ⟨w.heap.size, 2, none⟩ = some (Value.int .i64 (n)) := by rw [hc5 _ _ (by first | omega | (simp; done) | (simp; omega))]; first | assumption | go_simp
      have fx2 : w5.frozen? ⟨w.heap.size, 2, none⟩ = false := by rw [hf5 _ _ (by first | omega | (simp; done) | (simp; omega))]; first | assumption | go_simp
      have lts5 : w.heap.size + 1 < w5.heap.size := by omega
      have cs0 : w5.cell? ⟨w.heap.size + 1, 0, none⟩ = some (Value.int .i64 (a')) := by rw [hc5 _ _ (by first | omega | (simp; done) | (simp; omega))]; first | assumption | go_simp
      have fs0 : w5.frozen? ⟨w.heap.size + 1, 0, none⟩ = false := by rw [hf5 _ _ (by first | omega | (simp; done) | (simp; omega))]; first | assumption | go_simp
      have cs1 : w5.cell? ⟨w.heap.size + 1, 1, none⟩ = some (Value.int .i64 (t')) := by rw [hc5 _ _ (by first | omega | (simp; done) | (simp; omega))]; first | assumption | go_simp
      have fs1 : w5.frozen? ⟨w.heap.size + 1, 1, none⟩ = false := by rw [hf5 _ _ (by first | omega | (simp; done) | (simp; omega))]; first | assumption | go_simp
      have cs2 : w5.cell? ⟨w.heap.size + 1, 2, none⟩ = some (Value.int .i64 (n')) := by rw [hc5 _ _ (by first | omega | (simp; done) | (simp; omega))]; first | assumption | go_simp
      have fs2 : w5.frozen? ⟨w.heap.size + 1, 2, none⟩ = false := by rw [hf5 _ _ (by first | omega | (simp; done) | (simp; omega))]; first | assumption | go_simp
      have ltg5 : w3.heap.size < w5.heap.size := by omega
      have cg0 : w5.cell? ⟨w3.heap.size, 0, none⟩ = some (Value.int .i64 (0)) := by rw [hc5 _ _ (by first | omega | (simp; done) | (simp; omega))]; first | assumption | go_simp
      have fg0 : w5.frozen? ⟨w3.heap.size, 0, none⟩ = false := by rw [hf5 _ _ (by first | omega | (simp; done) | (simp; omega))]; first | assumption | go_simp
      have cg1 : w5.cell? ⟨w3.heap.size, 1, none⟩ = some (Value.int .i64 (0)) := by rw [hc5 _ _ (by first | omega | (simp; done) | (simp; omega))]; first | assumption | go_simp
      have fg1 : w5.frozen? ⟨w3.heap.size, 1, none⟩ = false := by rw [hf5 _ _ (by first | omega | (simp; done) | (simp; omega))]; first | assumption | go_simp
      have cg2 : w5.cell? ⟨w3.heap.size, 2, none⟩ = some (Value.int .i64 (0)) := by rw [hc5 _ _ (by first | omega | (simp; done) | (simp; omega))]; first | assumption | go_simp
      have fg2 : w5.frozen? ⟨w3.heap.size, 2, none⟩ = false := by rw [hf5 _ _ (by first | omega | (simp; done) | (simp; omega))]; first | assumption | go_simp
      clear hc5 hf5
      go_wp2_with fail
      refine (awake06 _).mono ?_
      rintro e w6 ⟨rfl, hb6⟩
      have hB6 : Below w.heap.size w w6 := by
        refine bt ?_ hb6
        repeat (first | (with_reducible refine Below.drew ?_) | (with_reducible refine bal ?_ _) | ((with_reducible refine bst ?_ ?_ _); rotate_left; focus (first | (simp; done) | (simp; omega))))
        exact hB5
      go_wp2
      go_ret
      refine ⟨rfl, ?_⟩
      repeat (first | (with_reducible refine Below.drew ?_) | (with_reducible refine bal ?_ _) | ((with_reducible refine bst ?_ ?_ _); rotate_left; focus (first | (simp; done) | (simp; omega))))
      exact hB6
    · obtain ⟨⟨q1, q2, q3⟩, hK⟩ : ∃ p, riseT a t n a' t' = p := ⟨_, rfl⟩
      have HK := Lib.hid hK
      clear hK
      have hR := raise_rise a t n a' t' n' (by rw [H1.out, H2.out, Bool.and_self])
      rw [HK.out] at hR
      have HR := Lib.hid hR
      clear hR
      go_enter Try.func7, Try.ntmps7
      go_wp2_with fail
      refine (hear_any a t n x a' t' n' _).mono ?_
      rintro e w1 ⟨rfl, hb1⟩
      rw [HN.out]
      obtain ⟨hc1, hf1⟩ := bcell hb1
      have hz1 := hb1.size
      try simp at hz1
      have hB1 : Below w.heap.size w w1 := by
        refine bt ?_ hb1
        repeat (first | (with_reducible refine Below.drew ?_) | (with_reducible refine bal ?_ _) | ((with_reducible refine bst ?_ ?_ _); rotate_left; focus (first | (simp; done) | (simp; omega))))
        exact (b0 w)
      have ltx1 : w.heap.size < w1.heap.size := by omega
      have cx0 : w1.cell? ⟨w.heap.size, 0, none⟩ = some (Value.int .i64 (a)) := by rw [hc1 _ _ (by first | omega | (simp; done) | (simp; omega))]; first | assumption | go_simp
      have fx0 : w1.frozen? ⟨w.heap.size, 0, none⟩ = false := by rw [hf1 _ _ (by first | omega | (simp; done) | (simp; omega))]; first | assumption | go_simp
      have cx1 : w1.cell? ⟨w.heap.size, 1, none⟩ = some (Value.int .i64 (t)) := by rw [hc1 _ _ (by first | omega | (simp; done) | (simp; omega))]; first | assumption | go_simp
      have fx1 : w1.frozen? ⟨w.heap.size, 1, none⟩ = false := by rw [hf1 _ _ (by first | omega | (simp; done) | (simp; omega))]; first | assumption | go_simp
      have cx2 : w1.cell? ⟨w.heap.size, 2, none⟩ = some (Value.int .i64 (n)) := by rw [hc1 _ _ (by first | omega | (simp; done) | (simp; omega))]; first | assumption | go_simp
      have fx2 : w1.frozen? ⟨w.heap.size, 2, none⟩ = false := by rw [hf1 _ _ (by first | omega | (simp; done) | (simp; omega))]; first | assumption | go_simp
      have lts1 : w.heap.size + 1 < w1.heap.size := by omega
      have cs0 : w1.cell? ⟨w.heap.size + 1, 0, none⟩ = some (Value.int .i64 (a')) := by rw [hc1 _ _ (by first | omega | (simp; done) | (simp; omega))]; first | assumption | go_simp
      have fs0 : w1.frozen? ⟨w.heap.size + 1, 0, none⟩ = false := by rw [hf1 _ _ (by first | omega | (simp; done) | (simp; omega))]; first | assumption | go_simp
      have cs1 : w1.cell? ⟨w.heap.size + 1, 1, none⟩ = some (Value.int .i64 (t')) := by rw [hc1 _ _ (by first | omega | (simp; done) | (simp; omega))]; first | assumption | go_simp
      have fs1 : w1.frozen? ⟨w.heap.size + 1, 1, none⟩ = false := by rw [hf1 _ _ (by first | omega | (simp; done) | (simp; omega))]; first | assumption | go_simp
      have cs2 : w1.cell? ⟨w.heap.size + 1, 2, none⟩ = some (Value.int .i64 (n')) := by rw [hc1 _ _ (by first | omega | (simp; done) | (simp; omega))]; first | assumption | go_simp
      have fs2 : w1.frozen? ⟨w.heap.size + 1, 2, none⟩ = false := by rw [hf1 _ _ (by first | omega | (simp; done) | (simp; omega))]; first | assumption | go_simp
      clear hc1 hf1
      go_wp2_with fail
      refine (refhear_any a t n x a' t' n' _).mono ?_
      rintro e w2 ⟨rfl, hb2⟩
      rw [HM.out]
      obtain ⟨hc2, hf2⟩ := bcell hb2
      have hz2 := hb2.size
      try simp at hz2
      have hB2 : Below w.heap.size w w2 := by
        refine bt ?_ hb2
        repeat (first | (with_reducible refine Below.drew ?_) | (with_reducible refine bal ?_ _) | ((with_reducible refine bst ?_ ?_ _); rotate_left; focus (first | (simp; done) | (simp; omega))))
        exact hB1
      have ltx2 : w.heap.size < w2.heap.size := by omega
      have cx0 : w2.cell? ⟨w.heap.size, 0, none⟩ = some (Value.int .i64 (a)) := by rw [hc2 _ _ (by first | omega | (simp; done) | (simp; omega))]; first | assumption | go_simp
      have fx0 : w2.frozen? ⟨w.heap.size, 0, none⟩ = false := by rw [hf2 _ _ (by first | omega | (simp; done) | (simp; omega))]; first | assumption | go_simp
      have cx1 : w2.cell? ⟨w.heap.size, 1, none⟩ = some (Value.int .i64 (t)) := by rw [hc2 _ _ (by first | omega | (simp; done) | (simp; omega))]; first | assumption | go_simp
      have fx1 : w2.frozen? ⟨w.heap.size, 1, none⟩ = false := by rw [hf2 _ _ (by first | omega | (simp; done) | (simp; omega))]; first | assumption | go_simp
      have cx2 : w2.cell? ⟨w.heap.size, 2, none⟩ = some (Value.int .i64 (n)) := by rw [hc2 _ _ (by first | omega | (simp; done) | (simp; omega))]; first | assumption | go_simp
      have fx2 : w2.frozen? ⟨w.heap.size, 2, none⟩ = false := by rw [hf2 _ _ (by first | omega | (simp; done) | (simp; omega))]; first | assumption | go_simp
      have lts2 : w.heap.size + 1 < w2.heap.size := by omega
      have cs0 : w2.cell? ⟨w.heap.size + 1, 0, none⟩ = some (Value.int .i64 (a')) := by rw [hc2 _ _ (by first | omega | (simp; done) | (simp; omega))]; first | assumption | go_simp
      have fs0 : w2.frozen? ⟨w.heap.size + 1, 0, none⟩ = false := by rw [hf2 _ _ (by first | omega | (simp; done) | (simp; omega))]; first | assumption | go_simp
      have cs1 : w2.cell? ⟨w.heap.size + 1, 1, none⟩ = some (Value.int .i64 (t')) := by rw [hc2 _ _ (by first | omega | (simp; done) | (simp; omega))]; first | assumption | go_simp
      have fs1 : w2.frozen? ⟨w.heap.size + 1, 1, none⟩ = false := by rw [hf2 _ _ (by first | omega | (simp; done) | (simp; omega))]; first | assumption | go_simp
      have cs2 : w2.cell? ⟨w.heap.size + 1, 2, none⟩ = some (Value.int .i64 (n')) := by rw [hc2 _ _ (by first | omega | (simp; done) | (simp; omega))]; first | assumption | go_simp
      have fs2 : w2.frozen? ⟨w.heap.size + 1, 2, none⟩ = false := by rw [hf2 _ _ (by first | omega | (simp; done) | (simp; omega))]; first | assumption | go_simp
      have ltd2 : w1.heap.size < w2.heap.size := by omega
      have cd0 : w2.cell? ⟨w1.heap.size, 0, none⟩ = some (Value.int .i64 (p1)) := by rw [hc2 _ _ (by first | omega | (simp; done) | (simp; omega))]; first | assumption | go_simp
      have fd0 : w2.frozen? ⟨w1.heap.size, 0, none⟩ = false := by rw [hf2 _ _ (by first | omega | (simp; done) | (simp; omega))]; first | assumption | go_simp
      have cd1 : w2.cell? ⟨w1.heap.size, 1, none⟩ = some (Value.int .i64 (p2)) := by rw [hc2 _ _ (by first | omega | (simp; done) | (simp; omega))]; first | assumption | go_simp
      have fd1 : w2.frozen? ⟨w1.heap.size, 1, none⟩ = false := by rw [hf2 _ _ (by first | omega | (simp; done) | (simp; omega))]; first | assumption | go_simp
      have cd2 : w2.cell? ⟨w1.heap.size, 2, none⟩ = some (Value.int .i64 (p3)) := by rw [hc2 _ _ (by first | omega | (simp; done) | (simp; omega))]; first | assumption | go_simp
      have fd2 : w2.frozen? ⟨w1.heap.size, 2, none⟩ = false := by rw [hf2 _ _ (by first | omega | (simp; done) | (simp; omega))]; first | assumption | go_simp
      clear hc2 hf2
      go_wp2_with fail
      refine (raise_any a t n a' t' n' _).mono ?_
      rintro e w3 ⟨rfl, hb3⟩
      rw [HR.out]
      obtain ⟨hc3, hf3⟩ := bcell hb3
      have hz3 := hb3.size
      try simp at hz3
      have hB3 : Below w.heap.size w w3 := by
        refine bt ?_ hb3
        repeat (first | (with_reducible refine Below.drew ?_) | (with_reducible refine bal ?_ _) | ((with_reducible refine bst ?_ ?_ _); rotate_left; focus (first | (simp; done) | (simp; omega))))
        exact hB2
      have ltx3 : w.heap.size < w3.heap.size := by omega
      have cx0 : w3.cell? ⟨w.heap.size, 0, none⟩ = some (Value.int .i64 (a)) := by rw [hc3 _ _ (by first | omega | (simp; done) | (simp; omega))]; first | assumption | go_simp
      have fx0 : w3.frozen? ⟨w.heap.size, 0, none⟩ = false := by rw [hf3 _ _ (by first | omega | (simp; done) | (simp; omega))]; first | assumption | go_simp
      have cx1 : w3.cell? ⟨w.heap.size, 1, none⟩ = some (Value.int .i64 (t)) := by rw [hc3 _ _ (by first | omega | (simp; done) | (simp; omega))]; first | assumption | go_simp
      have fx1 : w3.frozen? ⟨w.heap.size, 1, none⟩ = false := by rw [hf3 _ _ (by first | omega | (simp; done) | (simp; omega))]; first | assumption | go_simp
      have cx2 : w3.cell? ⟨w.heap.size, 2, none⟩ = some (Value.int .i64 (n)) := by rw [hc3 _ _ (by first | omega | (simp; done) | (simp; omega))]; first | assumption | go_simp
      have fx2 : w3.frozen? ⟨w.heap.size, 2, none⟩ = false := by rw [hf3 _ _ (by first | omega | (simp; done) | (simp; omega))]; first | assumption | go_simp
      have lts3 : w.heap.size + 1 < w3.heap.size := by omega
      have cs0 : w3.cell? ⟨w.heap.size + 1, 0, none⟩ = some (Value.int .i64 (a')) := by rw [hc3 _ _ (by first | omega | (simp; done) | (simp; omega))]; first | assumption | go_simp
      have fs0 : w3.frozen? ⟨w.heap.size + 1, 0, none⟩ = false := by rw [hf3 _ _ (by first | omega | (simp; done) | (simp; omega))]; first | assumption | go_simp
      have cs1 : w3.cell? ⟨w.heap.size + 1, 1, none⟩ = some (Value.int .i64 (t')) := by rw [hc3 _ _ (by first | omega | (simp; done) | (simp; omega))]; first | assumption | go_simp
      have fs1 : w3.frozen? ⟨w.heap.size + 1, 1, none⟩ = false := by rw [hf3 _ _ (by first | omega | (simp; done) | (simp; omega))]; first | assumption | go_simp
      have cs2 : w3.cell? ⟨w.heap.size + 1, 2, none⟩ = some (Value.int .i64 (n')) := by rw [hc3 _ _ (by first | omega | (simp; done) | (simp; omega))]; first | assumption | go_simp
      have fs2 : w3.frozen? ⟨w.heap.size + 1, 2, none⟩ = false := by rw [hf3 _ _ (by first | omega | (simp; done) | (simp; omega))]; first | assumption | go_simp
      clear hc3 hf3
      go_wp2_with fail
      refine (refright_any a t n _).mono ?_
      rintro e w4 ⟨rfl, hb4⟩
      rw [H1.out]
      obtain ⟨hc4, hf4⟩ := bcell hb4
      have hz4 := hb4.size
      try simp at hz4
      have hB4 : Below w.heap.size w w4 := by
        refine bt ?_ hb4
        repeat (first | (with_reducible refine Below.drew ?_) | (with_reducible refine bal ?_ _) | ((with_reducible refine bst ?_ ?_ _); rotate_left; focus (first | (simp; done) | (simp; omega))))
        exact hB3
      have ltx4 : w.heap.size < w4.heap.size := by omega
      have cx0 : w4.cell? ⟨w.heap.size, 0, none⟩ = some (Value.int .i64 (a)) := by rw [hc4 _ _ (by first | omega | (simp; done) | (simp; omega))]; first | assumption | go_simp
      have fx0 : w4.frozen? ⟨w.heap.size, 0, none⟩ = false := by rw [hf4 _ _ (by first | omega | (simp; done) | (simp; omega))]; first | assumption | go_simp
      have cx1 : w4.cell? ⟨w.heap.size, 1, none⟩ = some (Value.int .i64 (t)) := by rw [hc4 _ _ (by first | omega | (simp; done) | (simp; omega))]; first | assumption | go_simp
      have fx1 : w4.frozen? ⟨w.heap.size, 1, none⟩ = false := by rw [hf4 _ _ (by first | omega | (simp; done) | (simp; omega))]; first | assumption | go_simp
      have cx2 : w4.cell? ⟨w.heap.size, 2, none⟩ = some (Value.int .i64 (n)) := by rw [hc4 _ _ (by first | omega | (simp; done) | (simp; omega))]; first | assumption | go_simp
      have fx2 : w4.frozen? ⟨w.heap.size, 2, none⟩ = false := by rw [hf4 _ _ (by first | omega | (simp; done) | (simp; omega))]; first | assumption | go_simp
      have lts4 : w.heap.size + 1 < w4.heap.size := by omega
      have cs0 : w4.cell? ⟨w.heap.size + 1, 0, none⟩ = some (Value.int .i64 (a')) := by rw [hc4 _ _ (by first | omega | (simp; done) | (simp; omega))]; first | assumption | go_simp
      have fs0 : w4.frozen? ⟨w.heap.size + 1, 0, none⟩ = false := by rw [hf4 _ _ (by first | omega | (simp; done) | (simp; omega))]; first | assumption | go_simp
      have cs1 : w4.cell? ⟨w.heap.size + 1, 1, none⟩ = some (Value.int .i64 (t')) := by rw [hc4 _ _ (by first | omega | (simp; done) | (simp; omega))]; first | assumption | go_simp
      have fs1 : w4.frozen? ⟨w.heap.size + 1, 1, none⟩ = false := by rw [hf4 _ _ (by first | omega | (simp; done) | (simp; omega))]; first | assumption | go_simp
      have cs2 : w4.cell? ⟨w.heap.size + 1, 2, none⟩ = some (Value.int .i64 (n')) := by rw [hc4 _ _ (by first | omega | (simp; done) | (simp; omega))]; first | assumption | go_simp
      have fs2 : w4.frozen? ⟨w.heap.size + 1, 2, none⟩ = false := by rw [hf4 _ _ (by first | omega | (simp; done) | (simp; omega))]; first | assumption | go_simp
      have ltg4 : w3.heap.size < w4.heap.size := by omega
      have cg0 : w4.cell? ⟨w3.heap.size, 0, none⟩ = some (Value.int .i64 (q1)) := by rw [hc4 _ _ (by first | omega | (simp; done) | (simp; omega))]; first | assumption | go_simp
      have fg0 : w4.frozen? ⟨w3.heap.size, 0, none⟩ = false := by rw [hf4 _ _ (by first | omega | (simp; done) | (simp; omega))]; first | assumption | go_simp
      have cg1 : w4.cell? ⟨w3.heap.size, 1, none⟩ = some (Value.int .i64 (q2)) := by rw [hc4 _ _ (by first | omega | (simp; done) | (simp; omega))]; first | assumption | go_simp
      have fg1 : w4.frozen? ⟨w3.heap.size, 1, none⟩ = false := by rw [hf4 _ _ (by first | omega | (simp; done) | (simp; omega))]; first | assumption | go_simp
      have cg2 : w4.cell? ⟨w3.heap.size, 2, none⟩ = some (Value.int .i64 (q3)) := by rw [hc4 _ _ (by first | omega | (simp; done) | (simp; omega))]; first | assumption | go_simp
      have fg2 : w4.frozen? ⟨w3.heap.size, 2, none⟩ = false := by rw [hf4 _ _ (by first | omega | (simp; done) | (simp; omega))]; first | assumption | go_simp
      clear hc4 hf4
      go_wp2_with fail
      refine (refright_any a' t' n' _).mono ?_
      rintro e w5 ⟨rfl, hb5⟩
      rw [H2.out]
      obtain ⟨hc5, hf5⟩ := bcell hb5
      have hz5 := hb5.size
      try simp at hz5
      have hB5 : Below w.heap.size w w5 := by
        refine bt ?_ hb5
        repeat (first | (with_reducible refine Below.drew ?_) | (with_reducible refine bal ?_ _) | ((with_reducible refine bst ?_ ?_ _); rotate_left; focus (first | (simp; done) | (simp; omega))))
        exact hB4
      have ltx5 : w.heap.size < w5.heap.size := by omega
      have cx0 : w5.cell? ⟨w.heap.size, 0, none⟩ = some (Value.int .i64 (a)) := by rw [hc5 _ _ (by first | omega | (simp; done) | (simp; omega))]; first | assumption | go_simp
      have fx0 : w5.frozen? ⟨w.heap.size, 0, none⟩ = false := by rw [hf5 _ _ (by first | omega | (simp; done) | (simp; omega))]; first | assumption | go_simp
      have cx1 : w5.cell? ⟨w.heap.size, 1, none⟩ = some (Value.int .i64 (t)) := by rw [hc5 _ _ (by first | omega | (simp; done) | (simp; omega))]; first | assumption | go_simp
      have fx1 : w5.frozen? ⟨w.heap.size, 1, none⟩ = false := by rw [hf5 _ _ (by first | omega | (simp; done) | (simp; omega))]; first | assumption | go_simp
      have cx2 : w5.cell? ⟨w.heap.size, 2, none⟩ = some (Value.int .i64 (n)) := by rw [hc5 _ _ (by first | omega | (simp; done) | (simp; omega))]; first | assumption | go_simp
      have fx2 : w5.frozen? ⟨w.heap.size, 2, none⟩ = false := by rw [hf5 _ _ (by first | omega | (simp; done) | (simp; omega))]; first | assumption | go_simp
      have lts5 : w.heap.size + 1 < w5.heap.size := by omega
      have cs0 : w5.cell? ⟨w.heap.size + 1, 0, none⟩ = some (Value.int .i64 (a')) := by rw [hc5 _ _ (by first | omega | (simp; done) | (simp; omega))]; first | assumption | go_simp
      have fs0 : w5.frozen? ⟨w.heap.size + 1, 0, none⟩ = false := by rw [hf5 _ _ (by first | omega | (simp; done) | (simp; omega))]; first | assumption | go_simp
      have cs1 : w5.cell? ⟨w.heap.size + 1, 1, none⟩ = some (Value.int .i64 (t')) := by rw [hc5 _ _ (by first | omega | (simp; done) | (simp; omega))]; first | assumption | go_simp
      have fs1 : w5.frozen? ⟨w.heap.size + 1, 1, none⟩ = false := by rw [hf5 _ _ (by first | omega | (simp; done) | (simp; omega))]; first | assumption | go_simp
      have cs2 : w5.cell? ⟨w.heap.size + 1, 2, none⟩ = some (Value.int .i64 (n')) := by rw [hc5 _ _ (by first | omega | (simp; done) | (simp; omega))]; first | assumption | go_simp
      have fs2 : w5.frozen? ⟨w.heap.size + 1, 2, none⟩ = false := by rw [hf5 _ _ (by first | omega | (simp; done) | (simp; omega))]; first | assumption | go_simp
      have ltg5 : w3.heap.size < w5.heap.size := by omega
      have cg0 : w5.cell? ⟨w3.heap.size, 0, none⟩ = some (Value.int .i64 (q1)) := by rw [hc5 _ _ (by first | omega | (simp; done) | (simp; omega))]; first | assumption | go_simp
      have fg0 : w5.frozen? ⟨w3.heap.size, 0, none⟩ = false := by rw [hf5 _ _ (by first | omega | (simp; done) | (simp; omega))]; first | assumption | go_simp
      have cg1 : w5.cell? ⟨w3.heap.size, 1, none⟩ = some (Value.int .i64 (q2)) := by rw [hc5 _ _ (by first | omega | (simp; done) | (simp; omega))]; first | assumption | go_simp
      have fg1 : w5.frozen? ⟨w3.heap.size, 1, none⟩ = false := by rw [hf5 _ _ (by first | omega | (simp; done) | (simp; omega))]; first | assumption | go_simp
      have cg2 : w5.cell? ⟨w3.heap.size, 2, none⟩ = some (Value.int .i64 (q3)) := by rw [hc5 _ _ (by first | omega | (simp; done) | (simp; omega))]; first | assumption | go_simp
      have fg2 : w5.frozen? ⟨w3.heap.size, 2, none⟩ = false := by rw [hf5 _ _ (by first | omega | (simp; done) | (simp; omega))]; first | assumption | go_simp
      clear hc5 hf5
      have hBd := Below.drew hB5
      go_wp2_with fail
      go_region_held3 (fun w' => w.heap.size < w'.heap.size ∧ w.heap.size + 1 < w'.heap.size ∧ w3.heap.size < w'.heap.size ∧ w'.cell? ⟨w.heap.size, 0, none⟩ = some (Value.int .i64 (a)) ∧ w'.cell? ⟨w.heap.size, 1, none⟩ = some (Value.int .i64 (t)) ∧ w'.cell? ⟨w.heap.size, 2, none⟩ = some (Value.int .i64 (n)) ∧ w'.cell? ⟨w.heap.size + 1, 0, none⟩ = some (Value.int .i64 (a')) ∧ w'.cell? ⟨w.heap.size + 1, 1, none⟩ = some (Value.int .i64 (t')) ∧ w'.cell? ⟨w.heap.size + 1, 2, none⟩ = some (Value.int .i64 (n')) ∧ w'.cell? ⟨w3.heap.size, 0, none⟩ = some (Value.int .i64 (q1)) ∧ w'.cell? ⟨w3.heap.size, 1, none⟩ = some (Value.int .i64 (q2)) ∧ w'.cell? ⟨w3.heap.size, 2, none⟩ = some (Value.int .i64 (q3)) ∧ Below w.heap.size w w') (first | assumption | go_keep) (first
        | (go_at_call 18; refine (refraise_any a t n a' t' n' _).mono ?_; rintro e w' ⟨rfl, hb⟩; rw [HK.out]; have hk := nine_keep (by assumption) hb)
        | (go_at_call 12; refine (awake06 _).mono ?_; rintro e w' ⟨rfl, hb⟩; have hk := nine_keep (by assumption) hb))
      all_goals
        go_wp2
        go_ret
        refine ⟨rfl, ?_⟩
        repeat (first | (with_reducible refine Below.drew ?_) | (with_reducible refine bal ?_ _) | ((with_reducible refine bst ?_ ?_ _); rotate_left; focus (first | (simp; done) | (simp; omega))))
        exact nine_below (by assumption)
end Go.Proofs.Ytpdjfmdbpnpkfaa
