/- A walk of layer 6's laws. -/
import Derived.Test.YtpdjfmdbpnpkfaaRise
import Derived.Test.YtpdjfmdbpnpkfaaLaw06
import Derived.Deep.RegionHeld3
import Derived.Deep.DrawnRows
namespace Go.Proofs.Ytpdjfmdbpnpkfaa
open Go.RowKit
attribute [local go_sem ↓] Go.wp_at_zero Go.wp_at_succ
set_option maxHeartbeats 12800000 in
set_option maxRecDepth 100000 in
theorem clockJoins_walk (a t n : Int) (_ha : (Lit.int .i64 a).wf = true) (_hb : (Lit.int .i64 t).wf = true) (_hc : (Lit.int .i64 n).wf = true) (a1 t1 n1 : Int) (_ha1 : (Lit.int .i64 a1).wf = true) (_hb1 : (Lit.int .i64 t1).wf = true) (_hc1 : (Lit.int .i64 n1).wf = true) (a2 t2 n2 : Int) (_ha2 : (Lit.int .i64 a2).wf = true) (_hb2 : (Lit.int .i64 t2).wf = true) (_hc2 : (Lit.int .i64 n2).wf = true) (w : World) :
    Calls Try.prog 6 #[stampV a t n, stampV a1 t1 n1, stampV a2 t2 n2] w fun e w' => e = .returned (.bool true) ∧ Below w.heap.size w w' := by
  obtain ⟨⟨x1, x2, x3⟩, e1, hX⟩ : ∃ p e, raiseT a t n a1 t1 n1 = (p, e) := ⟨_, _, rfl⟩
  obtain ⟨⟨y1, y2, y3⟩, e2, hY⟩ : ∃ p e, raiseT x1 x2 x3 a2 t2 n2 = (p, e) := ⟨_, _, rfl⟩
  obtain ⟨⟨u1, u2, u3⟩, e3, hU⟩ : ∃ p e, raiseT a t n a2 t2 n2 = (p, e) := ⟨_, _, rfl⟩
  obtain ⟨⟨v1, v2, v3⟩, e4, hV⟩ : ∃ p e, raiseT u1 u2 u3 a1 t1 n1 = (p, e) := ⟨_, _, rfl⟩
  obtain ⟨⟨z1, z2, z3⟩, e5, hZ⟩ : ∃ p e, raiseT y1 y2 y3 a1 t1 n1 = (p, e) := ⟨_, _, rfl⟩
  have HX := Lib.hid hX
  have HY := Lib.hid hY
  have HU := Lib.hid hU
  have HV := Lib.hid hV
  have HZ := Lib.hid hZ
  clear hX hY hU hV hZ
  go_enter Try.func6, Try.ntmps6
  go_wp2_with fail
  refine (raise_any a t n a1 t1 n1 _).mono ?_
  rintro e w1 ⟨rfl, hb1⟩
  rw [HX.out]
  obtain ⟨hc1, hf1⟩ := bcell hb1
  have hz1 := hb1.size
  try simp at hz1
  have hB1 : Below w.heap.size w w1 := by
    refine bt ?_ hb1
    repeat (first | (with_reducible refine Below.drew ?_) | (with_reducible refine bal ?_ _) | ((with_reducible refine bst ?_ ?_ _); rotate_left; focus (first | (simp; done) | (simp; omega))))
    exact (b0 w)
  have ltc1 : w.heap.size < w1.heap.size := by omega
  have cc0_1 : w1.cell? ⟨w.heap.size, 0, none⟩ = some (Value.int .i64 (a)) := by rw [hc1 _ _ (by first | omega | (simp; done) | (simp; omega))]; first | (with_reducible assumption) | go_simp
  have fc0_1 : w1.frozen? ⟨w.heap.size, 0, none⟩ = false := by rw [hf1 _ _ (by first | omega | (simp; done) | (simp; omega))]; first | (with_reducible assumption) | go_simp
  have cc1_1 : w1.cell? ⟨w.heap.size, 1, none⟩ = some (Value.int .i64 (t)) := by rw [hc1 _ _ (by first | omega | (simp; done) | (simp; omega))]; first | (with_reducible assumption) | go_simp
  have fc1_1 : w1.frozen? ⟨w.heap.size, 1, none⟩ = false := by rw [hf1 _ _ (by first | omega | (simp; done) | (simp; omega))]; first | (with_reducible assumption) | go_simp
  have cc2_1 : w1.cell? ⟨w.heap.size, 2, none⟩ = some (Value.int .i64 (n)) := by rw [hc1 _ _ (by first | omega | (simp; done) | (simp; omega))]; first | (with_reducible assumption) | go_simp
  have fc2_1 : w1.frozen? ⟨w.heap.size, 2, none⟩ = false := by rw [hf1 _ _ (by first | omega | (simp; done) | (simp; omega))]; first | (with_reducible assumption) | go_simp
  have lta1 : w.heap.size + 1 < w1.heap.size := by omega
  have ca0_1 : w1.cell? ⟨w.heap.size + 1, 0, none⟩ = some (Value.int .i64 (a1)) := by rw [hc1 _ _ (by first | omega | (simp; done) | (simp; omega))]; first | (with_reducible assumption) | go_simp
  have fa0_1 : w1.frozen? ⟨w.heap.size + 1, 0, none⟩ = false := by rw [hf1 _ _ (by first | omega | (simp; done) | (simp; omega))]; first | (with_reducible assumption) | go_simp
  have ca1_1 : w1.cell? ⟨w.heap.size + 1, 1, none⟩ = some (Value.int .i64 (t1)) := by rw [hc1 _ _ (by first | omega | (simp; done) | (simp; omega))]; first | (with_reducible assumption) | go_simp
  have fa1_1 : w1.frozen? ⟨w.heap.size + 1, 1, none⟩ = false := by rw [hf1 _ _ (by first | omega | (simp; done) | (simp; omega))]; first | (with_reducible assumption) | go_simp
  have ca2_1 : w1.cell? ⟨w.heap.size + 1, 2, none⟩ = some (Value.int .i64 (n1)) := by rw [hc1 _ _ (by first | omega | (simp; done) | (simp; omega))]; first | (with_reducible assumption) | go_simp
  have fa2_1 : w1.frozen? ⟨w.heap.size + 1, 2, none⟩ = false := by rw [hf1 _ _ (by first | omega | (simp; done) | (simp; omega))]; first | (with_reducible assumption) | go_simp
  have ltb1 : w.heap.size + 1 + 1 < w1.heap.size := by omega
  have cb0_1 : w1.cell? ⟨w.heap.size + 1 + 1, 0, none⟩ = some (Value.int .i64 (a2)) := by rw [hc1 _ _ (by first | omega | (simp; done) | (simp; omega))]; first | (with_reducible assumption) | go_simp
  have fb0_1 : w1.frozen? ⟨w.heap.size + 1 + 1, 0, none⟩ = false := by rw [hf1 _ _ (by first | omega | (simp; done) | (simp; omega))]; first | (with_reducible assumption) | go_simp
  have cb1_1 : w1.cell? ⟨w.heap.size + 1 + 1, 1, none⟩ = some (Value.int .i64 (t2)) := by rw [hc1 _ _ (by first | omega | (simp; done) | (simp; omega))]; first | (with_reducible assumption) | go_simp
  have fb1_1 : w1.frozen? ⟨w.heap.size + 1 + 1, 1, none⟩ = false := by rw [hf1 _ _ (by first | omega | (simp; done) | (simp; omega))]; first | (with_reducible assumption) | go_simp
  have cb2_1 : w1.cell? ⟨w.heap.size + 1 + 1, 2, none⟩ = some (Value.int .i64 (n2)) := by rw [hc1 _ _ (by first | omega | (simp; done) | (simp; omega))]; first | (with_reducible assumption) | go_simp
  have fb2_1 : w1.frozen? ⟨w.heap.size + 1 + 1, 2, none⟩ = false := by rw [hf1 _ _ (by first | omega | (simp; done) | (simp; omega))]; first | (with_reducible assumption) | go_simp
  clear hc1 hf1 
  go_wp2_with fail
  refine (raise_any x1 x2 x3 a2 t2 n2 _).mono ?_
  rintro e w2 ⟨rfl, hb2⟩
  rw [HY.out]
  obtain ⟨hc2, hf2⟩ := bcell hb2
  have hz2 := hb2.size
  try simp at hz2
  have hB2 : Below w.heap.size w w2 := by
    refine bt ?_ hb2
    repeat (first | (with_reducible refine Below.drew ?_) | (with_reducible refine bal ?_ _) | ((with_reducible refine bst ?_ ?_ _); rotate_left; focus (first | (simp; done) | (simp; omega))))
    exact hB1
  have ltc2 : w.heap.size < w2.heap.size := by omega
  have cc0_2 : w2.cell? ⟨w.heap.size, 0, none⟩ = some (Value.int .i64 (a)) := by rw [hc2 _ _ (by first | omega | (simp; done) | (simp; omega))]; first | (with_reducible assumption) | go_simp
  have fc0_2 : w2.frozen? ⟨w.heap.size, 0, none⟩ = false := by rw [hf2 _ _ (by first | omega | (simp; done) | (simp; omega))]; first | (with_reducible assumption) | go_simp
  have cc1_2 : w2.cell? ⟨w.heap.size, 1, none⟩ = some (Value.int .i64 (t)) := by rw [hc2 _ _ (by first | omega | (simp; done) | (simp; omega))]; first | (with_reducible assumption) | go_simp
  have fc1_2 : w2.frozen? ⟨w.heap.size, 1, none⟩ = false := by rw [hf2 _ _ (by first | omega | (simp; done) | (simp; omega))]; first | (with_reducible assumption) | go_simp
  have cc2_2 : w2.cell? ⟨w.heap.size, 2, none⟩ = some (Value.int .i64 (n)) := by rw [hc2 _ _ (by first | omega | (simp; done) | (simp; omega))]; first | (with_reducible assumption) | go_simp
  have fc2_2 : w2.frozen? ⟨w.heap.size, 2, none⟩ = false := by rw [hf2 _ _ (by first | omega | (simp; done) | (simp; omega))]; first | (with_reducible assumption) | go_simp
  have lta2 : w.heap.size + 1 < w2.heap.size := by omega
  have ca0_2 : w2.cell? ⟨w.heap.size + 1, 0, none⟩ = some (Value.int .i64 (a1)) := by rw [hc2 _ _ (by first | omega | (simp; done) | (simp; omega))]; first | (with_reducible assumption) | go_simp
  have fa0_2 : w2.frozen? ⟨w.heap.size + 1, 0, none⟩ = false := by rw [hf2 _ _ (by first | omega | (simp; done) | (simp; omega))]; first | (with_reducible assumption) | go_simp
  have ca1_2 : w2.cell? ⟨w.heap.size + 1, 1, none⟩ = some (Value.int .i64 (t1)) := by rw [hc2 _ _ (by first | omega | (simp; done) | (simp; omega))]; first | (with_reducible assumption) | go_simp
  have fa1_2 : w2.frozen? ⟨w.heap.size + 1, 1, none⟩ = false := by rw [hf2 _ _ (by first | omega | (simp; done) | (simp; omega))]; first | (with_reducible assumption) | go_simp
  have ca2_2 : w2.cell? ⟨w.heap.size + 1, 2, none⟩ = some (Value.int .i64 (n1)) := by rw [hc2 _ _ (by first | omega | (simp; done) | (simp; omega))]; first | (with_reducible assumption) | go_simp
  have fa2_2 : w2.frozen? ⟨w.heap.size + 1, 2, none⟩ = false := by rw [hf2 _ _ (by first | omega | (simp; done) | (simp; omega))]; first | (with_reducible assumption) | go_simp
  have ltb2 : w.heap.size + 1 + 1 < w2.heap.size := by omega
  have cb0_2 : w2.cell? ⟨w.heap.size + 1 + 1, 0, none⟩ = some (Value.int .i64 (a2)) := by rw [hc2 _ _ (by first | omega | (simp; done) | (simp; omega))]; first | (with_reducible assumption) | go_simp
  have fb0_2 : w2.frozen? ⟨w.heap.size + 1 + 1, 0, none⟩ = false := by rw [hf2 _ _ (by first | omega | (simp; done) | (simp; omega))]; first | (with_reducible assumption) | go_simp
  have cb1_2 : w2.cell? ⟨w.heap.size + 1 + 1, 1, none⟩ = some (Value.int .i64 (t2)) := by rw [hc2 _ _ (by first | omega | (simp; done) | (simp; omega))]; first | (with_reducible assumption) | go_simp
  have fb1_2 : w2.frozen? ⟨w.heap.size + 1 + 1, 1, none⟩ = false := by rw [hf2 _ _ (by first | omega | (simp; done) | (simp; omega))]; first | (with_reducible assumption) | go_simp
  have cb2_2 : w2.cell? ⟨w.heap.size + 1 + 1, 2, none⟩ = some (Value.int .i64 (n2)) := by rw [hc2 _ _ (by first | omega | (simp; done) | (simp; omega))]; first | (with_reducible assumption) | go_simp
  have fb2_2 : w2.frozen? ⟨w.heap.size + 1 + 1, 2, none⟩ = false := by rw [hf2 _ _ (by first | omega | (simp; done) | (simp; omega))]; first | (with_reducible assumption) | go_simp
  have ltx2 : w1.heap.size < w2.heap.size := by omega
  have cx0_2 : w2.cell? ⟨w1.heap.size, 0, none⟩ = some (Value.int .i64 (x1)) := by rw [hc2 _ _ (by first | omega | (simp; done) | (simp; omega))]; first | (with_reducible assumption) | go_simp
  have fx0_2 : w2.frozen? ⟨w1.heap.size, 0, none⟩ = false := by rw [hf2 _ _ (by first | omega | (simp; done) | (simp; omega))]; first | (with_reducible assumption) | go_simp
  have cx1_2 : w2.cell? ⟨w1.heap.size, 1, none⟩ = some (Value.int .i64 (x2)) := by rw [hc2 _ _ (by first | omega | (simp; done) | (simp; omega))]; first | (with_reducible assumption) | go_simp
  have fx1_2 : w2.frozen? ⟨w1.heap.size, 1, none⟩ = false := by rw [hf2 _ _ (by first | omega | (simp; done) | (simp; omega))]; first | (with_reducible assumption) | go_simp
  have cx2_2 : w2.cell? ⟨w1.heap.size, 2, none⟩ = some (Value.int .i64 (x3)) := by rw [hc2 _ _ (by first | omega | (simp; done) | (simp; omega))]; first | (with_reducible assumption) | go_simp
  have fx2_2 : w2.frozen? ⟨w1.heap.size, 2, none⟩ = false := by rw [hf2 _ _ (by first | omega | (simp; done) | (simp; omega))]; first | (with_reducible assumption) | go_simp
  clear hc2 hf2 ltc1 cc0_1 fc0_1 cc1_1 fc1_1 cc2_1 fc2_1 lta1 ca0_1 fa0_1 ca1_1 fa1_1 ca2_1 fa2_1 ltb1 cb0_1 fb0_1 cb1_1 fb1_1 cb2_1 fb2_1
  go_wp2_with fail
  refine (raise_any a t n a2 t2 n2 _).mono ?_
  rintro e w3 ⟨rfl, hb3⟩
  rw [HU.out]
  obtain ⟨hc3, hf3⟩ := bcell hb3
  have hz3 := hb3.size
  try simp at hz3
  have hB3 : Below w.heap.size w w3 := by
    refine bt ?_ hb3
    repeat (first | (with_reducible refine Below.drew ?_) | (with_reducible refine bal ?_ _) | ((with_reducible refine bst ?_ ?_ _); rotate_left; focus (first | (simp; done) | (simp; omega))))
    exact hB2
  have lta3 : w.heap.size + 1 < w3.heap.size := by omega
  have ca0_3 : w3.cell? ⟨w.heap.size + 1, 0, none⟩ = some (Value.int .i64 (a1)) := by rw [hc3 _ _ (by first | omega | (simp; done) | (simp; omega))]; first | (with_reducible assumption) | go_simp
  have fa0_3 : w3.frozen? ⟨w.heap.size + 1, 0, none⟩ = false := by rw [hf3 _ _ (by first | omega | (simp; done) | (simp; omega))]; first | (with_reducible assumption) | go_simp
  have ca1_3 : w3.cell? ⟨w.heap.size + 1, 1, none⟩ = some (Value.int .i64 (t1)) := by rw [hc3 _ _ (by first | omega | (simp; done) | (simp; omega))]; first | (with_reducible assumption) | go_simp
  have fa1_3 : w3.frozen? ⟨w.heap.size + 1, 1, none⟩ = false := by rw [hf3 _ _ (by first | omega | (simp; done) | (simp; omega))]; first | (with_reducible assumption) | go_simp
  have ca2_3 : w3.cell? ⟨w.heap.size + 1, 2, none⟩ = some (Value.int .i64 (n1)) := by rw [hc3 _ _ (by first | omega | (simp; done) | (simp; omega))]; first | (with_reducible assumption) | go_simp
  have fa2_3 : w3.frozen? ⟨w.heap.size + 1, 2, none⟩ = false := by rw [hf3 _ _ (by first | omega | (simp; done) | (simp; omega))]; first | (with_reducible assumption) | go_simp
  have ltb3 : w.heap.size + 1 + 1 < w3.heap.size := by omega
  have cb0_3 : w3.cell? ⟨w.heap.size + 1 + 1, 0, none⟩ = some (Value.int .i64 (a2)) := by rw [hc3 _ _ (by first | omega | (simp; done) | (simp; omega))]; first | (with_reducible assumption) | go_simp
  have fb0_3 : w3.frozen? ⟨w.heap.size + 1 + 1, 0, none⟩ = false := by rw [hf3 _ _ (by first | omega | (simp; done) | (simp; omega))]; first | (with_reducible assumption) | go_simp
  have cb1_3 : w3.cell? ⟨w.heap.size + 1 + 1, 1, none⟩ = some (Value.int .i64 (t2)) := by rw [hc3 _ _ (by first | omega | (simp; done) | (simp; omega))]; first | (with_reducible assumption) | go_simp
  have fb1_3 : w3.frozen? ⟨w.heap.size + 1 + 1, 1, none⟩ = false := by rw [hf3 _ _ (by first | omega | (simp; done) | (simp; omega))]; first | (with_reducible assumption) | go_simp
  have cb2_3 : w3.cell? ⟨w.heap.size + 1 + 1, 2, none⟩ = some (Value.int .i64 (n2)) := by rw [hc3 _ _ (by first | omega | (simp; done) | (simp; omega))]; first | (with_reducible assumption) | go_simp
  have fb2_3 : w3.frozen? ⟨w.heap.size + 1 + 1, 2, none⟩ = false := by rw [hf3 _ _ (by first | omega | (simp; done) | (simp; omega))]; first | (with_reducible assumption) | go_simp
  have ltx3 : w1.heap.size < w3.heap.size := by omega
  have cx0_3 : w3.cell? ⟨w1.heap.size, 0, none⟩ = some (Value.int .i64 (y1)) := by rw [hc3 _ _ (by first | omega | (simp; done) | (simp; omega))]; first | (with_reducible assumption) | go_simp
  have fx0_3 : w3.frozen? ⟨w1.heap.size, 0, none⟩ = false := by rw [hf3 _ _ (by first | omega | (simp; done) | (simp; omega))]; first | (with_reducible assumption) | go_simp
  have cx1_3 : w3.cell? ⟨w1.heap.size, 1, none⟩ = some (Value.int .i64 (y2)) := by rw [hc3 _ _ (by first | omega | (simp; done) | (simp; omega))]; first | (with_reducible assumption) | go_simp
  have fx1_3 : w3.frozen? ⟨w1.heap.size, 1, none⟩ = false := by rw [hf3 _ _ (by first | omega | (simp; done) | (simp; omega))]; first | (with_reducible assumption) | go_simp
  have cx2_3 : w3.cell? ⟨w1.heap.size, 2, none⟩ = some (Value.int .i64 (y3)) := by rw [hc3 _ _ (by first | omega | (simp; done) | (simp; omega))]; first | (with_reducible assumption) | go_simp
  have fx2_3 : w3.frozen? ⟨w1.heap.size, 2, none⟩ = false := by rw [hf3 _ _ (by first | omega | (simp; done) | (simp; omega))]; first | (with_reducible assumption) | go_simp
  have ltc3 : w.heap.size < w3.heap.size := by omega
  have cc0_3 : w3.cell? ⟨w.heap.size, 0, none⟩ = some (Value.int .i64 (a)) := by rw [hc3 _ _ (by first | omega | (simp; done) | (simp; omega))]; first | (with_reducible assumption) | go_simp
  have fc0_3 : w3.frozen? ⟨w.heap.size, 0, none⟩ = false := by rw [hf3 _ _ (by first | omega | (simp; done) | (simp; omega))]; first | (with_reducible assumption) | go_simp
  have cc1_3 : w3.cell? ⟨w.heap.size, 1, none⟩ = some (Value.int .i64 (t)) := by rw [hc3 _ _ (by first | omega | (simp; done) | (simp; omega))]; first | (with_reducible assumption) | go_simp
  have fc1_3 : w3.frozen? ⟨w.heap.size, 1, none⟩ = false := by rw [hf3 _ _ (by first | omega | (simp; done) | (simp; omega))]; first | (with_reducible assumption) | go_simp
  have cc2_3 : w3.cell? ⟨w.heap.size, 2, none⟩ = some (Value.int .i64 (n)) := by rw [hc3 _ _ (by first | omega | (simp; done) | (simp; omega))]; first | (with_reducible assumption) | go_simp
  have fc2_3 : w3.frozen? ⟨w.heap.size, 2, none⟩ = false := by rw [hf3 _ _ (by first | omega | (simp; done) | (simp; omega))]; first | (with_reducible assumption) | go_simp
  clear hc3 hf3 ltc2 cc0_2 fc0_2 cc1_2 fc1_2 cc2_2 fc2_2 lta2 ca0_2 fa0_2 ca1_2 fa1_2 ca2_2 fa2_2 ltb2 cb0_2 fb0_2 cb1_2 fb1_2 cb2_2 fb2_2 ltx2 cx0_2 fx0_2 cx1_2 fx1_2 cx2_2 fx2_2
  go_wp2_with fail
  refine (raise_any u1 u2 u3 a1 t1 n1 _).mono ?_
  rintro e w4 ⟨rfl, hb4⟩
  rw [HV.out]
  obtain ⟨hc4, hf4⟩ := bcell hb4
  have hz4 := hb4.size
  try simp at hz4
  have hB4 : Below w.heap.size w w4 := by
    refine bt ?_ hb4
    repeat (first | (with_reducible refine Below.drew ?_) | (with_reducible refine bal ?_ _) | ((with_reducible refine bst ?_ ?_ _); rotate_left; focus (first | (simp; done) | (simp; omega))))
    exact hB3
  have lta4 : w.heap.size + 1 < w4.heap.size := by omega
  have ca0_4 : w4.cell? ⟨w.heap.size + 1, 0, none⟩ = some (Value.int .i64 (a1)) := by rw [hc4 _ _ (by first | omega | (simp; done) | (simp; omega))]; first | (with_reducible assumption) | go_simp
  have fa0_4 : w4.frozen? ⟨w.heap.size + 1, 0, none⟩ = false := by rw [hf4 _ _ (by first | omega | (simp; done) | (simp; omega))]; first | (with_reducible assumption) | go_simp
  have ca1_4 : w4.cell? ⟨w.heap.size + 1, 1, none⟩ = some (Value.int .i64 (t1)) := by rw [hc4 _ _ (by first | omega | (simp; done) | (simp; omega))]; first | (with_reducible assumption) | go_simp
  have fa1_4 : w4.frozen? ⟨w.heap.size + 1, 1, none⟩ = false := by rw [hf4 _ _ (by first | omega | (simp; done) | (simp; omega))]; first | (with_reducible assumption) | go_simp
  have ca2_4 : w4.cell? ⟨w.heap.size + 1, 2, none⟩ = some (Value.int .i64 (n1)) := by rw [hc4 _ _ (by first | omega | (simp; done) | (simp; omega))]; first | (with_reducible assumption) | go_simp
  have fa2_4 : w4.frozen? ⟨w.heap.size + 1, 2, none⟩ = false := by rw [hf4 _ _ (by first | omega | (simp; done) | (simp; omega))]; first | (with_reducible assumption) | go_simp
  have ltx4 : w1.heap.size < w4.heap.size := by omega
  have cx0_4 : w4.cell? ⟨w1.heap.size, 0, none⟩ = some (Value.int .i64 (y1)) := by rw [hc4 _ _ (by first | omega | (simp; done) | (simp; omega))]; first | (with_reducible assumption) | go_simp
  have fx0_4 : w4.frozen? ⟨w1.heap.size, 0, none⟩ = false := by rw [hf4 _ _ (by first | omega | (simp; done) | (simp; omega))]; first | (with_reducible assumption) | go_simp
  have cx1_4 : w4.cell? ⟨w1.heap.size, 1, none⟩ = some (Value.int .i64 (y2)) := by rw [hc4 _ _ (by first | omega | (simp; done) | (simp; omega))]; first | (with_reducible assumption) | go_simp
  have fx1_4 : w4.frozen? ⟨w1.heap.size, 1, none⟩ = false := by rw [hf4 _ _ (by first | omega | (simp; done) | (simp; omega))]; first | (with_reducible assumption) | go_simp
  have cx2_4 : w4.cell? ⟨w1.heap.size, 2, none⟩ = some (Value.int .i64 (y3)) := by rw [hc4 _ _ (by first | omega | (simp; done) | (simp; omega))]; first | (with_reducible assumption) | go_simp
  have fx2_4 : w4.frozen? ⟨w1.heap.size, 2, none⟩ = false := by rw [hf4 _ _ (by first | omega | (simp; done) | (simp; omega))]; first | (with_reducible assumption) | go_simp
  have lty4 : w3.heap.size < w4.heap.size := by omega
  have cy0_4 : w4.cell? ⟨w3.heap.size, 0, none⟩ = some (Value.int .i64 (u1)) := by rw [hc4 _ _ (by first | omega | (simp; done) | (simp; omega))]; first | (with_reducible assumption) | go_simp
  have fy0_4 : w4.frozen? ⟨w3.heap.size, 0, none⟩ = false := by rw [hf4 _ _ (by first | omega | (simp; done) | (simp; omega))]; first | (with_reducible assumption) | go_simp
  have cy1_4 : w4.cell? ⟨w3.heap.size, 1, none⟩ = some (Value.int .i64 (u2)) := by rw [hc4 _ _ (by first | omega | (simp; done) | (simp; omega))]; first | (with_reducible assumption) | go_simp
  have fy1_4 : w4.frozen? ⟨w3.heap.size, 1, none⟩ = false := by rw [hf4 _ _ (by first | omega | (simp; done) | (simp; omega))]; first | (with_reducible assumption) | go_simp
  have cy2_4 : w4.cell? ⟨w3.heap.size, 2, none⟩ = some (Value.int .i64 (u3)) := by rw [hc4 _ _ (by first | omega | (simp; done) | (simp; omega))]; first | (with_reducible assumption) | go_simp
  have fy2_4 : w4.frozen? ⟨w3.heap.size, 2, none⟩ = false := by rw [hf4 _ _ (by first | omega | (simp; done) | (simp; omega))]; first | (with_reducible assumption) | go_simp
  clear hc4 hf4 lta3 ca0_3 fa0_3 ca1_3 fa1_3 ca2_3 fa2_3 ltb3 cb0_3 fb0_3 cb1_3 fb1_3 cb2_3 fb2_3 ltx3 cx0_3 fx0_3 cx1_3 fx1_3 cx2_3 fx2_3 ltc3 cc0_3 fc0_3 cc1_3 fc1_3 cc2_3 fc2_3
  go_wp2_with fail
  refine (raise_any y1 y2 y3 a1 t1 n1 _).mono ?_
  rintro e w5 ⟨rfl, hb5⟩
  rw [HZ.out]
  obtain ⟨hc5, hf5⟩ := bcell hb5
  have hz5 := hb5.size
  try simp at hz5
  have hB5 : Below w.heap.size w w5 := by
    refine bt ?_ hb5
    repeat (first | (with_reducible refine Below.drew ?_) | (with_reducible refine bal ?_ _) | ((with_reducible refine bst ?_ ?_ _); rotate_left; focus (first | (simp; done) | (simp; omega))))
    exact hB4
  have ltx5 : w1.heap.size < w5.heap.size := by omega
  have cx0_5 : w5.cell? ⟨w1.heap.size, 0, none⟩ = some (Value.int .i64 (y1)) := by rw [hc5 _ _ (by first | omega | (simp; done) | (simp; omega))]; first | (with_reducible assumption) | go_simp
  have fx0_5 : w5.frozen? ⟨w1.heap.size, 0, none⟩ = false := by rw [hf5 _ _ (by first | omega | (simp; done) | (simp; omega))]; first | (with_reducible assumption) | go_simp
  have cx1_5 : w5.cell? ⟨w1.heap.size, 1, none⟩ = some (Value.int .i64 (y2)) := by rw [hc5 _ _ (by first | omega | (simp; done) | (simp; omega))]; first | (with_reducible assumption) | go_simp
  have fx1_5 : w5.frozen? ⟨w1.heap.size, 1, none⟩ = false := by rw [hf5 _ _ (by first | omega | (simp; done) | (simp; omega))]; first | (with_reducible assumption) | go_simp
  have cx2_5 : w5.cell? ⟨w1.heap.size, 2, none⟩ = some (Value.int .i64 (y3)) := by rw [hc5 _ _ (by first | omega | (simp; done) | (simp; omega))]; first | (with_reducible assumption) | go_simp
  have fx2_5 : w5.frozen? ⟨w1.heap.size, 2, none⟩ = false := by rw [hf5 _ _ (by first | omega | (simp; done) | (simp; omega))]; first | (with_reducible assumption) | go_simp
  have lty5 : w3.heap.size < w5.heap.size := by omega
  have cy0_5 : w5.cell? ⟨w3.heap.size, 0, none⟩ = some (Value.int .i64 (v1)) := by rw [hc5 _ _ (by first | omega | (simp; done) | (simp; omega))]; first | (with_reducible assumption) | go_simp
  have fy0_5 : w5.frozen? ⟨w3.heap.size, 0, none⟩ = false := by rw [hf5 _ _ (by first | omega | (simp; done) | (simp; omega))]; first | (with_reducible assumption) | go_simp
  have cy1_5 : w5.cell? ⟨w3.heap.size, 1, none⟩ = some (Value.int .i64 (v2)) := by rw [hc5 _ _ (by first | omega | (simp; done) | (simp; omega))]; first | (with_reducible assumption) | go_simp
  have fy1_5 : w5.frozen? ⟨w3.heap.size, 1, none⟩ = false := by rw [hf5 _ _ (by first | omega | (simp; done) | (simp; omega))]; first | (with_reducible assumption) | go_simp
  have cy2_5 : w5.cell? ⟨w3.heap.size, 2, none⟩ = some (Value.int .i64 (v3)) := by rw [hc5 _ _ (by first | omega | (simp; done) | (simp; omega))]; first | (with_reducible assumption) | go_simp
  have fy2_5 : w5.frozen? ⟨w3.heap.size, 2, none⟩ = false := by rw [hf5 _ _ (by first | omega | (simp; done) | (simp; omega))]; first | (with_reducible assumption) | go_simp
  clear hc5 hf5 lta4 ca0_4 fa0_4 ca1_4 fa1_4 ca2_4 fa2_4 ltx4 cx0_4 fx0_4 cx1_4 fx1_4 cx2_4 fx2_4 lty4 cy0_4 fy0_4 cy1_4 fy1_4 cy2_4 fy2_4
  by_cases h1 : e1 = 0
  · subst h1
    by_cases h2 : e2 = 0
    · subst h2
      by_cases h3 : e3 = 0
      · subst h3
        by_cases h4 : e4 = 0
        · subst h4
          obtain ⟨hq1, hq2, hq3, hq4, hq5, hq6, hq7⟩ := joins _ _ _ _ _ _ _ _ _ _ _ _ _ _ _ _ _ _ _ _ _ _ _ _ _ HX.out HY.out HU.out HV.out HZ.out
          clear HX HY HU HV HZ
          subst hq1 hq2 hq3 hq4 hq5 hq6 hq7
          go_wp2_with fail
          refine (awake06 _).mono ?_
          rintro e w6 ⟨rfl, hb6⟩
          have hB6 : Below w.heap.size w w6 := by
            refine bt ?_ hb6
            repeat (first | (with_reducible refine Below.drew ?_) | (with_reducible refine bal ?_ _) | ((with_reducible refine bst ?_ ?_ _); rotate_left; focus (first | (simp; done) | (simp; omega))))
            exact hB5
          go_wp2
          go_ret
          refine ⟨rfl, ?_⟩
          repeat (first | (with_reducible refine Below.drew ?_) | (with_reducible refine bal ?_ _) | ((with_reducible refine bst ?_ ?_ _); rotate_left; focus (first | (simp; done) | (simp; omega))))
          exact hB6
        · have hp4 : (e4 != 0) = true := by simp [h4]
          clear h4
          go_wp2_with fail
          refine (awake06 _).mono ?_
          rintro e w6 ⟨rfl, hb6⟩
          have hB6 : Below w.heap.size w w6 := by
            refine bt ?_ hb6
            repeat (first | (with_reducible refine Below.drew ?_) | (with_reducible refine bal ?_ _) | ((with_reducible refine bst ?_ ?_ _); rotate_left; focus (first | (simp; done) | (simp; omega))))
            exact hB5
          go_wp2
          go_ret
          refine ⟨rfl, ?_⟩
          repeat (first | (with_reducible refine Below.drew ?_) | (with_reducible refine bal ?_ _) | ((with_reducible refine bst ?_ ?_ _); rotate_left; focus (first | (simp; done) | (simp; omega))))
          exact hB6
      · have hp3 : (e3 != 0) = true := by simp [h3]
        clear h3
        go_wp2_with fail
        refine (awake06 _).mono ?_
        rintro e w6 ⟨rfl, hb6⟩
        have hB6 : Below w.heap.size w w6 := by
          refine bt ?_ hb6
          repeat (first | (with_reducible refine Below.drew ?_) | (with_reducible refine bal ?_ _) | ((with_reducible refine bst ?_ ?_ _); rotate_left; focus (first | (simp; done) | (simp; omega))))
          exact hB5
        go_wp2
        go_ret
        refine ⟨rfl, ?_⟩
        repeat (first | (with_reducible refine Below.drew ?_) | (with_reducible refine bal ?_ _) | ((with_reducible refine bst ?_ ?_ _); rotate_left; focus (first | (simp; done) | (simp; omega))))
        exact hB6
    · have hp2 : (e2 != 0) = true := by simp [h2]
      clear h2
      go_wp2_with fail
      refine (awake06 _).mono ?_
      rintro e w6 ⟨rfl, hb6⟩
      have hB6 : Below w.heap.size w w6 := by
        refine bt ?_ hb6
        repeat (first | (with_reducible refine Below.drew ?_) | (with_reducible refine bal ?_ _) | ((with_reducible refine bst ?_ ?_ _); rotate_left; focus (first | (simp; done) | (simp; omega))))
        exact hB5
      go_wp2
      go_ret
      refine ⟨rfl, ?_⟩
      repeat (first | (with_reducible refine Below.drew ?_) | (with_reducible refine bal ?_ _) | ((with_reducible refine bst ?_ ?_ _); rotate_left; focus (first | (simp; done) | (simp; omega))))
      exact hB6
  · have hp1 : (e1 != 0) = true := by simp [h1]
    clear h1
    go_wp2_with fail
    refine (awake06 _).mono ?_
    rintro e w6 ⟨rfl, hb6⟩
    have hB6 : Below w.heap.size w w6 := by
      refine bt ?_ hb6
      repeat (first | (with_reducible refine Below.drew ?_) | (with_reducible refine bal ?_ _) | ((with_reducible refine bst ?_ ?_ _); rotate_left; focus (first | (simp; done) | (simp; omega))))
      exact hB5
    go_wp2
    go_ret
    refine ⟨rfl, ?_⟩
    repeat (first | (with_reducible refine Below.drew ?_) | (with_reducible refine bal ?_ _) | ((with_reducible refine bst ?_ ?_ _); rotate_left; focus (first | (simp; done) | (simp; omega))))
    exact hB6
end Go.Proofs.Ytpdjfmdbpnpkfaa
