/- The walks through clock.Raise, clock.Hear and the document's own. -/
import Derived.Test.YtpdjfmdbpnpkfaaClockW
import Derived.Outline
namespace Go.Proofs.Ytpdjfmdbpnpkfaa
open Go.RowKit
/-- a clock raised: its stamp, the error -/
def raiseT (a t n a' t' n' : Int) : (Int × Int × Int) × Int :=
  if (rightB a t n && rightB a' t' n') = false then ((0, 0, 0), 1) else (laterT a t n a' t' n, 0)
def hearT (a t n x a' t' n' : Int) : (Int × Int × Int) × Int :=
  if (rightB a t n && withinB x 1099511627776) = false then ((0, 0, 0), 1) else if rightB a' t' n' = false then ((0, 0, 0), 1)
  else if x < a' - 1000 then ((0, 0, 0), 12) else raiseT a t n a' t' n'
set_option maxHeartbeats 1600000 in
set_option maxRecDepth 100000 in
theorem raise_any (a t n a' t' n' : Int) (w : World) :
    Calls Try.prog 14 #[stampV a t n, stampV a' t' n'] w fun e w' => e = .returned (.tuple #[stampT (raiseT a t n a' t' n').1, .int .i64 (raiseT a t n a' t' n').2]) ∧ Below w.heap.size w w' := by
  generalize h1 : rightB a t n = r1
  have H1 := Lib.hid h1
  clear h1
  generalize h2 : rightB a' t' n' = r2
  have H2 := Lib.hid h2
  clear h2
  cases r1
  · have hv : raiseT a t n a' t' n' = ((0, 0, 0), 1) := by unfold raiseT; rw [H1.out, Bool.false_and, if_pos rfl]
    have HV := Lib.hid hv
    clear hv
    go_enter Try.func14, Try.ntmps14
    go_wp2_with fail
    refine (right_any a t n _).mono ?_
    rintro e w1 ⟨rfl, hb1⟩
    rw [H1.out]
    obtain ⟨hc1, hf1⟩ := bcell hb1
    have hz1 := hb1.size
    try simp at hz1
    have hB1 : Below w.heap.size w w1 := by
      refine bt ?_ hb1
      repeat (first | (with_reducible refine Below.drew ?_) | (with_reducible refine bal ?_ _) | ((with_reducible refine bst ?_ ?_ _); rotate_left; focus (first | (simp; done) | (simp; omega))))
      exact (b0 w)
    go_wp2
    refine bodyPost_ret (v := .tuple #[stampV 0 0 0, .int .i64 1]) (by simp [results, Try.results14, go_sem, hc1]) rfl ⟨by rw [HV.out], ?_⟩
    repeat (first | (with_reducible refine Below.drew ?_) | (with_reducible refine bal ?_ _) | ((with_reducible refine bst ?_ ?_ _); rotate_left; focus (first | (simp; done) | (simp; omega))))
    exact hB1
  · cases r2
    · have hv : raiseT a t n a' t' n' = ((0, 0, 0), 1) := by unfold raiseT; rw [H1.out, H2.out, Bool.and_false, if_pos rfl]
      have HV := Lib.hid hv
      clear hv
      go_enter Try.func14, Try.ntmps14
      go_wp2_with fail
      refine (right_any a t n _).mono ?_
      rintro e w1 ⟨rfl, hb1⟩
      rw [H1.out]
      obtain ⟨hc1, hf1⟩ := bcell hb1
      have hz1 := hb1.size
      try simp at hz1
      have hB1 : Below w.heap.size w w1 := by
        refine bt ?_ hb1
        repeat (first | (with_reducible refine Below.drew ?_) | (with_reducible refine bal ?_ _) | ((with_reducible refine bst ?_ ?_ _); rotate_left; focus (first | (simp; done) | (simp; omega))))
        exact (b0 w)
      have lta1 : w.heap.size < w1.heap.size := by omega
      have ca0 : w1.cell? ⟨w.heap.size, 0, none⟩ = some (Value.int .i64 (a)) := by rw [hc1 _ _ (by first | omega | (simp; done) | (simp; omega))]; first | assumption | go_simp
      have fa0 : w1.frozen? ⟨w.heap.size, 0, none⟩ = false := by rw [hf1 _ _ (by first | omega | (simp; done) | (simp; omega))]; first | assumption | go_simp
      have ca1 : w1.cell? ⟨w.heap.size, 1, none⟩ = some (Value.int .i64 (t)) := by rw [hc1 _ _ (by first | omega | (simp; done) | (simp; omega))]; first | assumption | go_simp
      have fa1 : w1.frozen? ⟨w.heap.size, 1, none⟩ = false := by rw [hf1 _ _ (by first | omega | (simp; done) | (simp; omega))]; first | assumption | go_simp
      have ca2 : w1.cell? ⟨w.heap.size, 2, none⟩ = some (Value.int .i64 (n)) := by rw [hc1 _ _ (by first | omega | (simp; done) | (simp; omega))]; first | assumption | go_simp
      have fa2 : w1.frozen? ⟨w.heap.size, 2, none⟩ = false := by rw [hf1 _ _ (by first | omega | (simp; done) | (simp; omega))]; first | assumption | go_simp
      have ltb1 : w.heap.size + 1 < w1.heap.size := by omega
      have cb0 : w1.cell? ⟨w.heap.size + 1, 0, none⟩ = some (Value.int .i64 (a')) := by rw [hc1 _ _ (by first | omega | (simp; done) | (simp; omega))]; first | assumption | go_simp
      have fb0 : w1.frozen? ⟨w.heap.size + 1, 0, none⟩ = false := by rw [hf1 _ _ (by first | omega | (simp; done) | (simp; omega))]; first | assumption | go_simp
      have cb1 : w1.cell? ⟨w.heap.size + 1, 1, none⟩ = some (Value.int .i64 (t')) := by rw [hc1 _ _ (by first | omega | (simp; done) | (simp; omega))]; first | assumption | go_simp
      have fb1 : w1.frozen? ⟨w.heap.size + 1, 1, none⟩ = false := by rw [hf1 _ _ (by first | omega | (simp; done) | (simp; omega))]; first | assumption | go_simp
      have cb2 : w1.cell? ⟨w.heap.size + 1, 2, none⟩ = some (Value.int .i64 (n')) := by rw [hc1 _ _ (by first | omega | (simp; done) | (simp; omega))]; first | assumption | go_simp
      have fb2 : w1.frozen? ⟨w.heap.size + 1, 2, none⟩ = false := by rw [hf1 _ _ (by first | omega | (simp; done) | (simp; omega))]; first | assumption | go_simp
      have ltz1 : w.heap.size + 1 + 1 < w1.heap.size := by omega
      have cz0 : w1.cell? ⟨w.heap.size + 1 + 1, 0, none⟩ = some (Value.int .i64 (0)) := by rw [hc1 _ _ (by first | omega | (simp; done) | (simp; omega))]; first | assumption | go_simp
      have fz0 : w1.frozen? ⟨w.heap.size + 1 + 1, 0, none⟩ = false := by rw [hf1 _ _ (by first | omega | (simp; done) | (simp; omega))]; first | assumption | go_simp
      have cz1 : w1.cell? ⟨w.heap.size + 1 + 1, 1, none⟩ = some (Value.int .i64 (0)) := by rw [hc1 _ _ (by first | omega | (simp; done) | (simp; omega))]; first | assumption | go_simp
      have fz1 : w1.frozen? ⟨w.heap.size + 1 + 1, 1, none⟩ = false := by rw [hf1 _ _ (by first | omega | (simp; done) | (simp; omega))]; first | assumption | go_simp
      have cz2 : w1.cell? ⟨w.heap.size + 1 + 1, 2, none⟩ = some (Value.int .i64 (0)) := by rw [hc1 _ _ (by first | omega | (simp; done) | (simp; omega))]; first | assumption | go_simp
      have fz2 : w1.frozen? ⟨w.heap.size + 1 + 1, 2, none⟩ = false := by rw [hf1 _ _ (by first | omega | (simp; done) | (simp; omega))]; first | assumption | go_simp
      clear hc1 hf1
      go_wp2_with fail
      refine (right_any a' t' n' _).mono ?_
      rintro e w2 ⟨rfl, hb2⟩
      rw [H2.out]
      obtain ⟨hc2, hf2⟩ := bcell hb2
      have hz2 := hb2.size
      try simp at hz2
      have hB2 : Below w.heap.size w w2 := by
        refine bt ?_ hb2
        repeat (first | (with_reducible refine Below.drew ?_) | (with_reducible refine bal ?_ _) | ((with_reducible refine bst ?_ ?_ _); rotate_left; focus (first | (simp; done) | (simp; omega))))
        exact hB1
      have ltz2 : w.heap.size + 1 + 1 < w2.heap.size := by omega
      have cz0 : w2.cell? ⟨w.heap.size + 1 + 1, 0, none⟩ = some (Value.int .i64 (0)) := by rw [hc2 _ _ (by first | omega | (simp; done) | (simp; omega))]; first | assumption | go_simp
      have fz0 : w2.frozen? ⟨w.heap.size + 1 + 1, 0, none⟩ = false := by rw [hf2 _ _ (by first | omega | (simp; done) | (simp; omega))]; first | assumption | go_simp
      have cz1 : w2.cell? ⟨w.heap.size + 1 + 1, 1, none⟩ = some (Value.int .i64 (0)) := by rw [hc2 _ _ (by first | omega | (simp; done) | (simp; omega))]; first | assumption | go_simp
      have fz1 : w2.frozen? ⟨w.heap.size + 1 + 1, 1, none⟩ = false := by rw [hf2 _ _ (by first | omega | (simp; done) | (simp; omega))]; first | assumption | go_simp
      have cz2 : w2.cell? ⟨w.heap.size + 1 + 1, 2, none⟩ = some (Value.int .i64 (0)) := by rw [hc2 _ _ (by first | omega | (simp; done) | (simp; omega))]; first | assumption | go_simp
      have fz2 : w2.frozen? ⟨w.heap.size + 1 + 1, 2, none⟩ = false := by rw [hf2 _ _ (by first | omega | (simp; done) | (simp; omega))]; first | assumption | go_simp
      clear hc2 hf2
      go_wp2
      refine bodyPost_ret (v := .tuple #[stampV 0 0 0, .int .i64 1]) (by simp [results, Try.results14, go_sem, *]) rfl ⟨by rw [HV.out] <;> rfl, ?_⟩
      repeat (first | (with_reducible refine Below.drew ?_) | (with_reducible refine bal ?_ _) | ((with_reducible refine bst ?_ ?_ _); rotate_left; focus (first | (simp; done) | (simp; omega))))
      exact hB2
    · obtain ⟨⟨p1, p2, p3⟩, hl⟩ : ∃ p, laterT a t n a' t' n = p := ⟨_, rfl⟩
      have HL := Lib.hid hl
      clear hl
      have hv : raiseT a t n a' t' n' = ((p1, p2, p3), 0) := by unfold raiseT; rw [H1.out, H2.out, if_neg (by simp), HL.out]
      have HV := Lib.hid hv
      clear hv
      go_enter Try.func14, Try.ntmps14
      go_wp2_with fail
      refine (right_any a t n _).mono ?_
      rintro e w1 ⟨rfl, hb1⟩
      rw [H1.out]
      obtain ⟨hc1, hf1⟩ := bcell hb1
      have hz1 := hb1.size
      try simp at hz1
      have hB1 : Below w.heap.size w w1 := by
        refine bt ?_ hb1
        repeat (first | (with_reducible refine Below.drew ?_) | (with_reducible refine bal ?_ _) | ((with_reducible refine bst ?_ ?_ _); rotate_left; focus (first | (simp; done) | (simp; omega))))
        exact (b0 w)
      have lta1 : w.heap.size < w1.heap.size := by omega
      have ca0 : w1.cell? ⟨w.heap.size, 0, none⟩ = some (Value.int .i64 (a)) := by rw [hc1 _ _ (by first | omega | (simp; done) | (simp; omega))]; first | assumption | go_simp
      have fa0 : w1.frozen? ⟨w.heap.size, 0, none⟩ = false := by rw [hf1 _ _ (by first | omega | (simp; done) | (simp; omega))]; first | assumption | go_simp
      have ca1 : w1.cell? ⟨w.heap.size, 1, none⟩ = some (Value.int .i64 (t)) := by rw [hc1 _ _ (by first | omega | (simp; done) | (simp; omega))]; first | assumption | go_simp
      have fa1 : w1.frozen? ⟨w.heap.size, 1, none⟩ = false := by rw [hf1 _ _ (by first | omega | (simp; done) | (simp; omega))]; first | assumption | go_simp
      have ca2 : w1.cell? ⟨w.heap.size, 2, none⟩ = some (Value.int .i64 (n)) := by rw [hc1 _ _ (by first | omega | (simp; done) | (simp; omega))]; first | assumption | go_simp
      have fa2 : w1.frozen? ⟨w.heap.size, 2, none⟩ = false := by rw [hf1 _ _ (by first | omega | (simp; done) | (simp; omega))]; first | assumption | go_simp
      have ltb1 : w.heap.size + 1 < w1.heap.size := by omega
      have cb0 : w1.cell? ⟨w.heap.size + 1, 0, none⟩ = some (Value.int .i64 (a')) := by rw [hc1 _ _ (by first | omega | (simp; done) | (simp; omega))]; first | assumption | go_simp
      have fb0 : w1.frozen? ⟨w.heap.size + 1, 0, none⟩ = false := by rw [hf1 _ _ (by first | omega | (simp; done) | (simp; omega))]; first | assumption | go_simp
      have cb1 : w1.cell? ⟨w.heap.size + 1, 1, none⟩ = some (Value.int .i64 (t')) := by rw [hc1 _ _ (by first | omega | (simp; done) | (simp; omega))]; first | assumption | go_simp
      have fb1 : w1.frozen? ⟨w.heap.size + 1, 1, none⟩ = false := by rw [hf1 _ _ (by first | omega | (simp; done) | (simp; omega))]; first | assumption | go_simp
      have cb2 : w1.cell? ⟨w.heap.size + 1, 2, none⟩ = some (Value.int .i64 (n')) := by rw [hc1 _ _ (by first | omega | (simp; done) | (simp; omega))]; first | assumption | go_simp
      have fb2 : w1.frozen? ⟨w.heap.size + 1, 2, none⟩ = false := by rw [hf1 _ _ (by first | omega | (simp; done) | (simp; omega))]; first | assumption | go_simp
      have ltz1 : w.heap.size + 1 + 1 < w1.heap.size := by omega
      have cz0 : w1.cell? ⟨w.heap.size + 1 + 1, 0, none⟩ = some (Value.int .i64 (0)) := by rw [hc1 _ _ (by first | omega | (simp; done) | (simp; omega))]; first | assumption | go_simp
      have fz0 : w1.frozen? ⟨w.heap.size + 1 + 1, 0, none⟩ = false := by rw [hf1 _ _ (by first | omega | (simp; done) | (simp; omega))]; first | assumption | go_simp
      have cz1 : w1.cell? ⟨w.heap.size + 1 + 1, 1, none⟩ = some (Value.int .i64 (0)) := by rw [hc1 _ _ (by first | omega | (simp; done) | (simp; omega))]; first | assumption | go_simp
      have fz1 : w1.frozen? ⟨w.heap.size + 1 + 1, 1, none⟩ = false := by rw [hf1 _ _ (by first | omega | (simp; done) | (simp; omega))]; first | assumption | go_simp
      have cz2 : w1.cell? ⟨w.heap.size + 1 + 1, 2, none⟩ = some (Value.int .i64 (0)) := by rw [hc1 _ _ (by first | omega | (simp; done) | (simp; omega))]; first | assumption | go_simp
      have fz2 : w1.frozen? ⟨w.heap.size + 1 + 1, 2, none⟩ = false := by rw [hf1 _ _ (by first | omega | (simp; done) | (simp; omega))]; first | assumption | go_simp
      clear hc1 hf1
      go_wp2_with fail
      refine (right_any a' t' n' _).mono ?_
      rintro e w2 ⟨rfl, hb2⟩
      rw [H2.out]
      obtain ⟨hc2, hf2⟩ := bcell hb2
      have hz2 := hb2.size
      try simp at hz2
      have hB2 : Below w.heap.size w w2 := by
        refine bt ?_ hb2
        repeat (first | (with_reducible refine Below.drew ?_) | (with_reducible refine bal ?_ _) | ((with_reducible refine bst ?_ ?_ _); rotate_left; focus (first | (simp; done) | (simp; omega))))
        exact hB1
      have lta2 : w.heap.size < w2.heap.size := by omega
      have ca0 : w2.cell? ⟨w.heap.size, 0, none⟩ = some (Value.int .i64 (a)) := by rw [hc2 _ _ (by first | omega | (simp; done) | (simp; omega))]; first | assumption | go_simp
      have fa0 : w2.frozen? ⟨w.heap.size, 0, none⟩ = false := by rw [hf2 _ _ (by first | omega | (simp; done) | (simp; omega))]; first | assumption | go_simp
      have ca1 : w2.cell? ⟨w.heap.size, 1, none⟩ = some (Value.int .i64 (t)) := by rw [hc2 _ _ (by first | omega | (simp; done) | (simp; omega))]; first | assumption | go_simp
      have fa1 : w2.frozen? ⟨w.heap.size, 1, none⟩ = false := by rw [hf2 _ _ (by first | omega | (simp; done) | (simp; omega))]; first | assumption | go_simp
      have ca2 : w2.cell? ⟨w.heap.size, 2, none⟩ = some (Value.int .i64 (n)) := by rw [hc2 _ _ (by first | omega | (simp; done) | (simp; omega))]; first | assumption | go_simp
      have fa2 : w2.frozen? ⟨w.heap.size, 2, none⟩ = false := by rw [hf2 _ _ (by first | omega | (simp; done) | (simp; omega))]; first | assumption | go_simp
      have ltb2 : w.heap.size + 1 < w2.heap.size := by omega
      have cb0 : w2.cell? ⟨w.heap.size + 1, 0, none⟩ = some (Value.int .i64 (a')) := by rw [hc2 _ _ (by first | omega | (simp; done) | (simp; omega))]; first | assumption | go_simp
      have fb0 : w2.frozen? ⟨w.heap.size + 1, 0, none⟩ = false := by rw [hf2 _ _ (by first | omega | (simp; done) | (simp; omega))]; first | assumption | go_simp
      have cb1 : w2.cell? ⟨w.heap.size + 1, 1, none⟩ = some (Value.int .i64 (t')) := by rw [hc2 _ _ (by first | omega | (simp; done) | (simp; omega))]; first | assumption | go_simp
      have fb1 : w2.frozen? ⟨w.heap.size + 1, 1, none⟩ = false := by rw [hf2 _ _ (by first | omega | (simp; done) | (simp; omega))]; first | assumption | go_simp
      have cb2 : w2.cell? ⟨w.heap.size + 1, 2, none⟩ = some (Value.int .i64 (n')) := by rw [hc2 _ _ (by first | omega | (simp; done) | (simp; omega))]; first | assumption | go_simp
      have fb2 : w2.frozen? ⟨w.heap.size + 1, 2, none⟩ = false := by rw [hf2 _ _ (by first | omega | (simp; done) | (simp; omega))]; first | assumption | go_simp
      have ltz2 : w.heap.size + 1 + 1 < w2.heap.size := by omega
      have cz0 : w2.cell? ⟨w.heap.size + 1 + 1, 0, none⟩ = some (Value.int .i64 (0)) := by rw [hc2 _ _ (by first | omega | (simp; done) | (simp; omega))]; first | assumption | go_simp
      have fz0 : w2.frozen? ⟨w.heap.size + 1 + 1, 0, none⟩ = false := by rw [hf2 _ _ (by first | omega | (simp; done) | (simp; omega))]; first | assumption | go_simp
      have cz1 : w2.cell? ⟨w.heap.size + 1 + 1, 1, none⟩ = some (Value.int .i64 (0)) := by rw [hc2 _ _ (by first | omega | (simp; done) | (simp; omega))]; first | assumption | go_simp
      have fz1 : w2.frozen? ⟨w.heap.size + 1 + 1, 1, none⟩ = false := by rw [hf2 _ _ (by first | omega | (simp; done) | (simp; omega))]; first | assumption | go_simp
      have cz2 : w2.cell? ⟨w.heap.size + 1 + 1, 2, none⟩ = some (Value.int .i64 (0)) := by rw [hc2 _ _ (by first | omega | (simp; done) | (simp; omega))]; first | assumption | go_simp
      have fz2 : w2.frozen? ⟨w.heap.size + 1 + 1, 2, none⟩ = false := by rw [hf2 _ _ (by first | omega | (simp; done) | (simp; omega))]; first | assumption | go_simp
      clear hc2 hf2
      go_wp2_with fail
      refine (later_any a t n a' t' n _).mono ?_
      rintro e w3 ⟨rfl, hb3⟩
      rw [HL.out]
      obtain ⟨hc3, hf3⟩ := bcell hb3
      have hz3 := hb3.size
      try simp at hz3
      have hB3 : Below w.heap.size w w3 := by
        refine bt ?_ hb3
        repeat (first | (with_reducible refine Below.drew ?_) | (with_reducible refine bal ?_ _) | ((with_reducible refine bst ?_ ?_ _); rotate_left; focus (first | (simp; done) | (simp; omega))))
        exact hB2
      have lta3 : w.heap.size < w3.heap.size := by omega
      have ca0 : w3.cell? ⟨w.heap.size, 0, none⟩ = some (Value.int .i64 (a)) := by rw [hc3 _ _ (by first | omega | (simp; done) | (simp; omega))]; first | assumption | go_simp
      have fa0 : w3.frozen? ⟨w.heap.size, 0, none⟩ = false := by rw [hf3 _ _ (by first | omega | (simp; done) | (simp; omega))]; first | assumption | go_simp
      have ca1 : w3.cell? ⟨w.heap.size, 1, none⟩ = some (Value.int .i64 (t)) := by rw [hc3 _ _ (by first | omega | (simp; done) | (simp; omega))]; first | assumption | go_simp
      have fa1 : w3.frozen? ⟨w.heap.size, 1, none⟩ = false := by rw [hf3 _ _ (by first | omega | (simp; done) | (simp; omega))]; first | assumption | go_simp
      have ca2 : w3.cell? ⟨w.heap.size, 2, none⟩ = some (Value.int .i64 (n)) := by rw [hc3 _ _ (by first | omega | (simp; done) | (simp; omega))]; first | assumption | go_simp
      have fa2 : w3.frozen? ⟨w.heap.size, 2, none⟩ = false := by rw [hf3 _ _ (by first | omega | (simp; done) | (simp; omega))]; first | assumption | go_simp
      have ltz3 : w.heap.size + 1 + 1 < w3.heap.size := by omega
      have cz0 : w3.cell? ⟨w.heap.size + 1 + 1, 0, none⟩ = some (Value.int .i64 (0)) := by rw [hc3 _ _ (by first | omega | (simp; done) | (simp; omega))]; first | assumption | go_simp
      have fz0 : w3.frozen? ⟨w.heap.size + 1 + 1, 0, none⟩ = false := by rw [hf3 _ _ (by first | omega | (simp; done) | (simp; omega))]; first | assumption | go_simp
      have cz1 : w3.cell? ⟨w.heap.size + 1 + 1, 1, none⟩ = some (Value.int .i64 (0)) := by rw [hc3 _ _ (by first | omega | (simp; done) | (simp; omega))]; first | assumption | go_simp
      have fz1 : w3.frozen? ⟨w.heap.size + 1 + 1, 1, none⟩ = false := by rw [hf3 _ _ (by first | omega | (simp; done) | (simp; omega))]; first | assumption | go_simp
      have cz2 : w3.cell? ⟨w.heap.size + 1 + 1, 2, none⟩ = some (Value.int .i64 (0)) := by rw [hc3 _ _ (by first | omega | (simp; done) | (simp; omega))]; first | assumption | go_simp
      have fz2 : w3.frozen? ⟨w.heap.size + 1 + 1, 2, none⟩ = false := by rw [hf3 _ _ (by first | omega | (simp; done) | (simp; omega))]; first | assumption | go_simp
      clear hc3 hf3
      go_wp2
      refine bodyPost_ret (v := .tuple #[stampV p1 p2 p3, .int .i64 0]) (by simp [results, Try.results14, go_sem, *]) rfl ⟨by rw [HV.out] <;> rfl, ?_⟩
      repeat (first | (with_reducible refine Below.drew ?_) | (with_reducible refine bal ?_ _) | ((with_reducible refine bst ?_ ?_ _); rotate_left; focus (first | (simp; done) | (simp; omega))))
      exact hB3
set_option maxHeartbeats 1600000 in
set_option maxRecDepth 100000 in
theorem hear_any (a t n x a' t' n' : Int) (w : World) :
    Calls Try.prog 15 #[stampV a t n, .int .i64 x, stampV a' t' n'] w fun e w' => e = .returned (.tuple #[stampT (hearT a t n x a' t' n').1, .int .i64 (hearT a t n x a' t' n').2]) ∧ Below w.heap.size w w' := by
  generalize h1 : (rightB a t n && withinB x 1099511627776) = r1
  have H1 := Lib.hid h1
  clear h1
  generalize h2 : rightB a' t' n' = r2
  have H2 := Lib.hid h2
  clear h2
  cases r1
  · have hv : hearT a t n x a' t' n' = ((0, 0, 0), 1) := by unfold hearT; rw [H1.out, if_pos rfl]
    have HV := Lib.hid hv
    clear hv
    go_enter Try.func15, Try.ntmps15
    go_wp2_with fail
    refine (clkright_any a t n x _).mono ?_
    rintro e w1 ⟨rfl, hb1⟩
    rw [H1.out]
    obtain ⟨hc1, hf1⟩ := bcell hb1
    have hz1 := hb1.size
    try simp at hz1
    have hB1 : Below w.heap.size w w1 := by
      refine bt ?_ hb1
      repeat (first | (with_reducible refine Below.drew ?_) | (with_reducible refine bal ?_ _) | ((with_reducible refine bst ?_ ?_ _); rotate_left; focus (first | (simp; done) | (simp; omega))))
      exact (b0 w)
    go_wp2
    refine bodyPost_ret (v := .tuple #[stampV 0 0 0, .int .i64 1]) (by simp [results, Try.results15, go_sem, hc1]) rfl ⟨by rw [HV.out], ?_⟩
    repeat (first | (with_reducible refine Below.drew ?_) | (with_reducible refine bal ?_ _) | ((with_reducible refine bst ?_ ?_ _); rotate_left; focus (first | (simp; done) | (simp; omega))))
    exact hB1
  · cases r2
    · have hv : hearT a t n x a' t' n' = ((0, 0, 0), 1) := by unfold hearT; rw [H1.out, H2.out, if_neg (by simp), if_pos rfl]
      have HV := Lib.hid hv
      clear hv
      go_enter Try.func15, Try.ntmps15
      go_wp2_with fail
      refine (clkright_any a t n x _).mono ?_
      rintro e w1 ⟨rfl, hb1⟩
      rw [H1.out]
      obtain ⟨hc1, hf1⟩ := bcell hb1
      have hz1 := hb1.size
      try simp at hz1
      have hB1 : Below w.heap.size w w1 := by
        refine bt ?_ hb1
        repeat (first | (with_reducible refine Below.drew ?_) | (with_reducible refine bal ?_ _) | ((with_reducible refine bst ?_ ?_ _); rotate_left; focus (first | (simp; done) | (simp; omega))))
        exact (b0 w)
      have lta1 : w.heap.size < w1.heap.size := by omega
      have ca0 : w1.cell? ⟨w.heap.size, 0, none⟩ = some (Value.int .i64 (a)) := by rw [hc1 _ _ (by first | omega | (simp; done) | (simp; omega))]; first | assumption | go_simp
      have fa0 : w1.frozen? ⟨w.heap.size, 0, none⟩ = false := by rw [hf1 _ _ (by first | omega | (simp; done) | (simp; omega))]; first | assumption | go_simp
      have ca1 : w1.cell? ⟨w.heap.size, 1, none⟩ = some (Value.int .i64 (t)) := by rw [hc1 _ _ (by first | omega | (simp; done) | (simp; omega))]; first | assumption | go_simp
      have fa1 : w1.frozen? ⟨w.heap.size, 1, none⟩ = false := by rw [hf1 _ _ (by first | omega | (simp; done) | (simp; omega))]; first | assumption | go_simp
      have ca2 : w1.cell? ⟨w.heap.size, 2, none⟩ = some (Value.int .i64 (n)) := by rw [hc1 _ _ (by first | omega | (simp; done) | (simp; omega))]; first | assumption | go_simp
      have fa2 : w1.frozen? ⟨w.heap.size, 2, none⟩ = false := by rw [hf1 _ _ (by first | omega | (simp; done) | (simp; omega))]; first | assumption | go_simp
      have ltb1 : w.heap.size + 1 < w1.heap.size := by omega
      have cb0 : w1.cell? ⟨w.heap.size + 1, 0, none⟩ = some (Value.int .i64 (a')) := by rw [hc1 _ _ (by first | omega | (simp; done) | (simp; omega))]; first | assumption | go_simp
      have fb0 : w1.frozen? ⟨w.heap.size + 1, 0, none⟩ = false := by rw [hf1 _ _ (by first | omega | (simp; done) | (simp; omega))]; first | assumption | go_simp
      have cb1 : w1.cell? ⟨w.heap.size + 1, 1, none⟩ = some (Value.int .i64 (t')) := by rw [hc1 _ _ (by first | omega | (simp; done) | (simp; omega))]; first | assumption | go_simp
      have fb1 : w1.frozen? ⟨w.heap.size + 1, 1, none⟩ = false := by rw [hf1 _ _ (by first | omega | (simp; done) | (simp; omega))]; first | assumption | go_simp
      have cb2 : w1.cell? ⟨w.heap.size + 1, 2, none⟩ = some (Value.int .i64 (n')) := by rw [hc1 _ _ (by first | omega | (simp; done) | (simp; omega))]; first | assumption | go_simp
      have fb2 : w1.frozen? ⟨w.heap.size + 1, 2, none⟩ = false := by rw [hf1 _ _ (by first | omega | (simp; done) | (simp; omega))]; first | assumption | go_simp
      have ltz1 : w.heap.size + 1 + 1 < w1.heap.size := by omega
      have cz0 : w1.cell? ⟨w.heap.size + 1 + 1, 0, none⟩ = some (Value.int .i64 (0)) := by rw [hc1 _ _ (by first | omega | (simp; done) | (simp; omega))]; first | assumption | go_simp
      have fz0 : w1.frozen? ⟨w.heap.size + 1 + 1, 0, none⟩ = false := by rw [hf1 _ _ (by first | omega | (simp; done) | (simp; omega))]; first | assumption | go_simp
      have cz1 : w1.cell? ⟨w.heap.size + 1 + 1, 1, none⟩ = some (Value.int .i64 (0)) := by rw [hc1 _ _ (by first | omega | (simp; done) | (simp; omega))]; first | assumption | go_simp
      have fz1 : w1.frozen? ⟨w.heap.size + 1 + 1, 1, none⟩ = false := by rw [hf1 _ _ (by first | omega | (simp; done) | (simp; omega))]; first | assumption | go_simp
      have cz2 : w1.cell? ⟨w.heap.size + 1 + 1, 2, none⟩ = some (Value.int .i64 (0)) := by rw [hc1 _ _ (by first | omega | (simp; done) | (simp; omega))]; first | assumption | go_simp
      have fz2 : w1.frozen? ⟨w.heap.size + 1 + 1, 2, none⟩ = false := by rw [hf1 _ _ (by first | omega | (simp; done) | (simp; omega))]; first | assumption | go_simp
      clear hc1 hf1
      go_wp2_with fail
      refine (right_any a' t' n' _).mono ?_
      rintro e w2 ⟨rfl, hb2⟩
      rw [H2.out]
      obtain ⟨hc2, hf2⟩ := bcell hb2
      have hz2 := hb2.size
      try simp at hz2
      have hB2 : Below w.heap.size w w2 := by
        refine bt ?_ hb2
        repeat (first | (with_reducible refine Below.drew ?_) | (with_reducible refine bal ?_ _) | ((with_reducible refine bst ?_ ?_ _); rotate_left; focus (first | (simp; done) | (simp; omega))))
        exact hB1
      have ltz2 : w.heap.size + 1 + 1 < w2.heap.size := by omega
      have cz0 : w2.cell? ⟨w.heap.size + 1 + 1, 0, none⟩ = some (Value.int .i64 (0)) := by rw [hc2 _ _ (by first | omega | (simp; done) | (simp; omega))]; first | assumption | go_simp
      have fz0 : w2.frozen? ⟨w.heap.size + 1 + 1, 0, none⟩ = false := by rw [hf2 _ _ (by first | omega | (simp; done) | (simp; omega))]; first | assumption | go_simp
      have cz1 : w2.cell? ⟨w.heap.size + 1 + 1, 1, none⟩ = some (Value.int .i64 (0)) := by rw [hc2 _ _ (by first | omega | (simp; done) | (simp; omega))]; first | assumption | go_simp
      have fz1 : w2.frozen? ⟨w.heap.size + 1 + 1, 1, none⟩ = false := by rw [hf2 _ _ (by first | omega | (simp; done) | (simp; omega))]; first | assumption | go_simp
      have cz2 : w2.cell? ⟨w.heap.size + 1 + 1, 2, none⟩ = some (Value.int .i64 (0)) := by rw [hc2 _ _ (by first | omega | (simp; done) | (simp; omega))]; first | assumption | go_simp
      have fz2 : w2.frozen? ⟨w.heap.size + 1 + 1, 2, none⟩ = false := by rw [hf2 _ _ (by first | omega | (simp; done) | (simp; omega))]; first | assumption | go_simp
      clear hc2 hf2
      go_wp2
      refine bodyPost_ret (v := .tuple #[stampV 0 0 0, .int .i64 1]) (by simp [results, Try.results15, go_sem, *]) rfl ⟨by rw [HV.out] <;> rfl, ?_⟩
      repeat (first | (with_reducible refine Below.drew ?_) | (with_reducible refine bal ?_ _) | ((with_reducible refine bst ?_ ?_ _); rotate_left; focus (first | (simp; done) | (simp; omega))))
      exact hB2
    · by_cases hx : x < a' - 1000
      · have hbd := right_bounds a' t' n' H2.out
        obtain ⟨hd1, hd2, hd3, hd4, hd5, hd6⟩ := hbd
        have hv : hearT a t n x a' t' n' = ((0, 0, 0), 12) := by unfold hearT; rw [H1.out, H2.out, if_neg (by simp), if_neg (by simp), if_pos hx]
        have HV := Lib.hid hv
        clear hv
        go_enter Try.func15, Try.ntmps15
        go_wp2_with fail
        refine (clkright_any a t n x _).mono ?_
        rintro e w1 ⟨rfl, hb1⟩
        rw [H1.out]
        obtain ⟨hc1, hf1⟩ := bcell hb1
        have hz1 := hb1.size
        try simp at hz1
        have hB1 : Below w.heap.size w w1 := by
          refine bt ?_ hb1
          repeat (first | (with_reducible refine Below.drew ?_) | (with_reducible refine bal ?_ _) | ((with_reducible refine bst ?_ ?_ _); rotate_left; focus (first | (simp; done) | (simp; omega))))
          exact (b0 w)
        have lta1 : w.heap.size < w1.heap.size := by omega
        have ca0 : w1.cell? ⟨w.heap.size, 0, none⟩ = some (Value.int .i64 (a)) := by rw [hc1 _ _ (by first | omega | (simp; done) | (simp; omega))]; first | assumption | go_simp
        have fa0 : w1.frozen? ⟨w.heap.size, 0, none⟩ = false := by rw [hf1 _ _ (by first | omega | (simp; done) | (simp; omega))]; first | assumption | go_simp
        have ca1 : w1.cell? ⟨w.heap.size, 1, none⟩ = some (Value.int .i64 (t)) := by rw [hc1 _ _ (by first | omega | (simp; done) | (simp; omega))]; first | assumption | go_simp
        have fa1 : w1.frozen? ⟨w.heap.size, 1, none⟩ = false := by rw [hf1 _ _ (by first | omega | (simp; done) | (simp; omega))]; first | assumption | go_simp
        have ca2 : w1.cell? ⟨w.heap.size, 2, none⟩ = some (Value.int .i64 (n)) := by rw [hc1 _ _ (by first | omega | (simp; done) | (simp; omega))]; first | assumption | go_simp
        have fa2 : w1.frozen? ⟨w.heap.size, 2, none⟩ = false := by rw [hf1 _ _ (by first | omega | (simp; done) | (simp; omega))]; first | assumption | go_simp
        have ltb1 : w.heap.size + 1 < w1.heap.size := by omega
        have cb0 : w1.cell? ⟨w.heap.size + 1, 0, none⟩ = some (Value.int .i64 (a')) := by rw [hc1 _ _ (by first | omega | (simp; done) | (simp; omega))]; first | assumption | go_simp
        have fb0 : w1.frozen? ⟨w.heap.size + 1, 0, none⟩ = false := by rw [hf1 _ _ (by first | omega | (simp; done) | (simp; omega))]; first | assumption | go_simp
        have cb1 : w1.cell? ⟨w.heap.size + 1, 1, none⟩ = some (Value.int .i64 (t')) := by rw [hc1 _ _ (by first | omega | (simp; done) | (simp; omega))]; first | assumption | go_simp
        have fb1 : w1.frozen? ⟨w.heap.size + 1, 1, none⟩ = false := by rw [hf1 _ _ (by first | omega | (simp; done) | (simp; omega))]; first | assumption | go_simp
        have cb2 : w1.cell? ⟨w.heap.size + 1, 2, none⟩ = some (Value.int .i64 (n')) := by rw [hc1 _ _ (by first | omega | (simp; done) | (simp; omega))]; first | assumption | go_simp
        have fb2 : w1.frozen? ⟨w.heap.size + 1, 2, none⟩ = false := by rw [hf1 _ _ (by first | omega | (simp; done) | (simp; omega))]; first | assumption | go_simp
        have ltz1 : w.heap.size + 1 + 1 < w1.heap.size := by omega
        have cz0 : w1.cell? ⟨w.heap.size + 1 + 1, 0, none⟩ = some (Value.int .i64 (0)) := by rw [hc1 _ _ (by first | omega | (simp; done) | (simp; omega))]; first | assumption | go_simp
        have fz0 : w1.frozen? ⟨w.heap.size + 1 + 1, 0, none⟩ = false := by rw [hf1 _ _ (by first | omega | (simp; done) | (simp; omega))]; first | assumption | go_simp
        have cz1 : w1.cell? ⟨w.heap.size + 1 + 1, 1, none⟩ = some (Value.int .i64 (0)) := by rw [hc1 _ _ (by first | omega | (simp; done) | (simp; omega))]; first | assumption | go_simp
        have fz1 : w1.frozen? ⟨w.heap.size + 1 + 1, 1, none⟩ = false := by rw [hf1 _ _ (by first | omega | (simp; done) | (simp; omega))]; first | assumption | go_simp
        have cz2 : w1.cell? ⟨w.heap.size + 1 + 1, 2, none⟩ = some (Value.int .i64 (0)) := by rw [hc1 _ _ (by first | omega | (simp; done) | (simp; omega))]; first | assumption | go_simp
        have fz2 : w1.frozen? ⟨w.heap.size + 1 + 1, 2, none⟩ = false := by rw [hf1 _ _ (by first | omega | (simp; done) | (simp; omega))]; first | assumption | go_simp
        clear hc1 hf1
        go_wp2_with fail
        refine (right_any a' t' n' _).mono ?_
        rintro e w2 ⟨rfl, hb2⟩
        rw [H2.out]
        obtain ⟨hc2, hf2⟩ := bcell hb2
        have hz2 := hb2.size
        try simp at hz2
        have hB2 : Below w.heap.size w w2 := by
          refine bt ?_ hb2
          repeat (first | (with_reducible refine Below.drew ?_) | (with_reducible refine bal ?_ _) | ((with_reducible refine bst ?_ ?_ _); rotate_left; focus (first | (simp; done) | (simp; omega))))
          exact hB1
        have lta2 : w.heap.size < w2.heap.size := by omega
        have ca0 : w2.cell? ⟨w.heap.size, 0, none⟩ = some (Value.int .i64 (a)) := by rw [hc2 _ _ (by first | omega | (simp; done) | (simp; omega))]; first | assumption | go_simp
        have fa0 : w2.frozen? ⟨w.heap.size, 0, none⟩ = false := by rw [hf2 _ _ (by first | omega | (simp; done) | (simp; omega))]; first | assumption | go_simp
        have ca1 : w2.cell? ⟨w.heap.size, 1, none⟩ = some (Value.int .i64 (t)) := by rw [hc2 _ _ (by first | omega | (simp; done) | (simp; omega))]; first | assumption | go_simp
        have fa1 : w2.frozen? ⟨w.heap.size, 1, none⟩ = false := by rw [hf2 _ _ (by first | omega | (simp; done) | (simp; omega))]; first | assumption | go_simp
        have ca2 : w2.cell? ⟨w.heap.size, 2, none⟩ = some (Value.int .i64 (n)) := by rw [hc2 _ _ (by first | omega | (simp; done) | (simp; omega))]; first | assumption | go_simp
        have fa2 : w2.frozen? ⟨w.heap.size, 2, none⟩ = false := by rw [hf2 _ _ (by first | omega | (simp; done) | (simp; omega))]; first | assumption | go_simp
        have ltb2 : w.heap.size + 1 < w2.heap.size := by omega
        have cb0 : w2.cell? ⟨w.heap.size + 1, 0, none⟩ = some (Value.int .i64 (a')) := by rw [hc2 _ _ (by first | omega | (simp; done) | (simp; omega))]; first | assumption | go_simp
        have fb0 : w2.frozen? ⟨w.heap.size + 1, 0, none⟩ = false := by rw [hf2 _ _ (by first | omega | (simp; done) | (simp; omega))]; first | assumption | go_simp
        have cb1 : w2.cell? ⟨w.heap.size + 1, 1, none⟩ = some (Value.int .i64 (t')) := by rw [hc2 _ _ (by first | omega | (simp; done) | (simp; omega))]; first | assumption | go_simp
        have fb1 : w2.frozen? ⟨w.heap.size + 1, 1, none⟩ = false := by rw [hf2 _ _ (by first | omega | (simp; done) | (simp; omega))]; first | assumption | go_simp
        have cb2 : w2.cell? ⟨w.heap.size + 1, 2, none⟩ = some (Value.int .i64 (n')) := by rw [hc2 _ _ (by first | omega | (simp; done) | (simp; omega))]; first | assumption | go_simp
        have fb2 : w2.frozen? ⟨w.heap.size + 1, 2, none⟩ = false := by rw [hf2 _ _ (by first | omega | (simp; done) | (simp; omega))]; first | assumption | go_simp
        have ltz2 : w.heap.size + 1 + 1 < w2.heap.size := by omega
        have cz0 : w2.cell? ⟨w.heap.size + 1 + 1, 0, none⟩ = some (Value.int .i64 (0)) := by rw [hc2 _ _ (by first | omega | (simp; done) | (simp; omega))]; first | assumption | go_simp
        have fz0 : w2.frozen? ⟨w.heap.size + 1 + 1, 0, none⟩ = false := by rw [hf2 _ _ (by first | omega | (simp; done) | (simp; omega))]; first | assumption | go_simp
        have cz1 : w2.cell? ⟨w.heap.size + 1 + 1, 1, none⟩ = some (Value.int .i64 (0)) := by rw [hc2 _ _ (by first | omega | (simp; done) | (simp; omega))]; first | assumption | go_simp
        have fz1 : w2.frozen? ⟨w.heap.size + 1 + 1, 1, none⟩ = false := by rw [hf2 _ _ (by first | omega | (simp; done) | (simp; omega))]; first | assumption | go_simp
        have cz2 : w2.cell? ⟨w.heap.size + 1 + 1, 2, none⟩ = some (Value.int .i64 (0)) := by rw [hc2 _ _ (by first | omega | (simp; done) | (simp; omega))]; first | assumption | go_simp
        have fz2 : w2.frozen? ⟨w.heap.size + 1 + 1, 2, none⟩ = false := by rw [hf2 _ _ (by first | omega | (simp; done) | (simp; omega))]; first | assumption | go_simp
        clear hc2 hf2
        go_wp2
        refine bodyPost_ret (v := .tuple #[stampV 0 0 0, .int .i64 12]) (by simp [results, Try.results15, go_sem, *]) rfl ⟨by rw [HV.out] <;> rfl, ?_⟩
        repeat (first | (with_reducible refine Below.drew ?_) | (with_reducible refine bal ?_ _) | ((with_reducible refine bst ?_ ?_ _); rotate_left; focus (first | (simp; done) | (simp; omega))))
        exact hB2
      · have hbd := right_bounds a' t' n' H2.out
        obtain ⟨hd1, hd2, hd3, hd4, hd5, hd6⟩ := hbd
        obtain ⟨⟨p1, p2, p3⟩, pe, hl⟩ : ∃ p e, raiseT a t n a' t' n' = (p, e) := ⟨_, _, rfl⟩
        have HL := Lib.hid hl
        clear hl
        have hv : hearT a t n x a' t' n' = ((p1, p2, p3), pe) := by unfold hearT; rw [H1.out, H2.out, if_neg (by simp), if_neg (by simp), if_neg hx, HL.out]
        have HV := Lib.hid hv
        clear hv
        go_enter Try.func15, Try.ntmps15
        go_wp2_with fail
        refine (clkright_any a t n x _).mono ?_
        rintro e w1 ⟨rfl, hb1⟩
        rw [H1.out]
        obtain ⟨hc1, hf1⟩ := bcell hb1
        have hz1 := hb1.size
        try simp at hz1
        have hB1 : Below w.heap.size w w1 := by
          refine bt ?_ hb1
          repeat (first | (with_reducible refine Below.drew ?_) | (with_reducible refine bal ?_ _) | ((with_reducible refine bst ?_ ?_ _); rotate_left; focus (first | (simp; done) | (simp; omega))))
          exact (b0 w)
        have lta1 : w.heap.size < w1.heap.size := by omega
        have ca0 : w1.cell? ⟨w.heap.size, 0, none⟩ = some (Value.int .i64 (a)) := by rw [hc1 _ _ (by first | omega | (simp; done) | (simp; omega))]; first | assumption | go_simp
        have fa0 : w1.frozen? ⟨w.heap.size, 0, none⟩ = false := by rw [hf1 _ _ (by first | omega | (simp; done) | (simp; omega))]; first | assumption | go_simp
        have ca1 : w1.cell? ⟨w.heap.size, 1, none⟩ = some (Value.int .i64 (t)) := by rw [hc1 _ _ (by first | omega | (simp; done) | (simp; omega))]; first | assumption | go_simp
        have fa1 : w1.frozen? ⟨w.heap.size, 1, none⟩ = false := by rw [hf1 _ _ (by first | omega | (simp; done) | (simp; omega))]; first | assumption | go_simp
        have ca2 : w1.cell? ⟨w.heap.size, 2, none⟩ = some (Value.int .i64 (n)) := by rw [hc1 _ _ (by first | omega | (simp; done) | (simp; omega))]; first | assumption | go_simp
        have fa2 : w1.frozen? ⟨w.heap.size, 2, none⟩ = false := by rw [hf1 _ _ (by first | omega | (simp; done) | (simp; omega))]; first | assumption | go_simp
        have ltb1 : w.heap.size + 1 < w1.heap.size := by omega
        have cb0 : w1.cell? ⟨w.heap.size + 1, 0, none⟩ = some (Value.int .i64 (a')) := by rw [hc1 _ _ (by first | omega | (simp; done) | (simp; omega))]; first | assumption | go_simp
        have fb0 : w1.frozen? ⟨w.heap.size + 1, 0, none⟩ = false := by rw [hf1 _ _ (by first | omega | (simp; done) | (simp; omega))]; first | assumption | go_simp
        have cb1 : w1.cell? ⟨w.heap.size + 1, 1, none⟩ = some (Value.int .i64 (t')) := by rw [hc1 _ _ (by first | omega | (simp; done) | (simp; omega))]; first | assumption | go_simp
        have fb1 : w1.frozen? ⟨w.heap.size + 1, 1, none⟩ = false := by rw [hf1 _ _ (by first | omega | (simp; done) | (simp; omega))]; first | assumption | go_simp
        have cb2 : w1.cell? ⟨w.heap.size + 1, 2, none⟩ = some (Value.int .i64 (n')) := by rw [hc1 _ _ (by first | omega | (simp; done) | (simp; omega))]; first | assumption | go_simp
        have fb2 : w1.frozen? ⟨w.heap.size + 1, 2, none⟩ = false := by rw [hf1 _ _ (by first | omega | (simp; done) | (simp; omega))]; first | assumption | go_simp
        have ltz1 : w.heap.size + 1 + 1 < w1.heap.size := by omega
        have cz0 : w1.cell? ⟨w.heap.size + 1 + 1, 0, none⟩ = some (Value.int .i64 (0)) := by rw [hc1 _ _ (by first | omega | (simp; done) | (simp; omega))]; first | assumption | go_simp
        have fz0 : w1.frozen? ⟨w.heap.size + 1 + 1, 0, none⟩ = false := by rw [hf1 _ _ (by first | omega | (simp; done) | (simp; omega))]; first | assumption | go_simp
        have cz1 : w1.cell? ⟨w.heap.size + 1 + 1, 1, none⟩ = some (Value.int .i64 (0)) := by rw [hc1 _ _ (by first | omega | (simp; done) | (simp; omega))]; first | assumption | go_simp
        have fz1 : w1.frozen? ⟨w.heap.size + 1 + 1, 1, none⟩ = false := by rw [hf1 _ _ (by first | omega | (simp; done) | (simp; omega))]; first | assumption | go_simp
        have cz2 : w1.cell? ⟨w.heap.size + 1 + 1, 2, none⟩ = some (Value.int .i64 (0)) := by rw [hc1 _ _ (by first | omega | (simp; done) | (simp; omega))]; first | assumption | go_simp
        have fz2 : w1.frozen? ⟨w.heap.size + 1 + 1, 2, none⟩ = false := by rw [hf1 _ _ (by first | omega | (simp; done) | (simp; omega))]; first | assumption | go_simp
        clear hc1 hf1
        go_wp2_with fail
        refine (right_any a' t' n' _).mono ?_
        rintro e w2 ⟨rfl, hb2⟩
        rw [H2.out]
        obtain ⟨hc2, hf2⟩ := bcell hb2
        have hz2 := hb2.size
        try simp at hz2
        have hB2 : Below w.heap.size w w2 := by
          refine bt ?_ hb2
          repeat (first | (with_reducible refine Below.drew ?_) | (with_reducible refine bal ?_ _) | ((with_reducible refine bst ?_ ?_ _); rotate_left; focus (first | (simp; done) | (simp; omega))))
          exact hB1
        have lta2 : w.heap.size < w2.heap.size := by omega
        have ca0 : w2.cell? ⟨w.heap.size, 0, none⟩ = some (Value.int .i64 (a)) := by rw [hc2 _ _ (by first | omega | (simp; done) | (simp; omega))]; first | assumption | go_simp
        have fa0 : w2.frozen? ⟨w.heap.size, 0, none⟩ = false := by rw [hf2 _ _ (by first | omega | (simp; done) | (simp; omega))]; first | assumption | go_simp
        have ca1 : w2.cell? ⟨w.heap.size, 1, none⟩ = some (Value.int .i64 (t)) := by rw [hc2 _ _ (by first | omega | (simp; done) | (simp; omega))]; first | assumption | go_simp
        have fa1 : w2.frozen? ⟨w.heap.size, 1, none⟩ = false := by rw [hf2 _ _ (by first | omega | (simp; done) | (simp; omega))]; first | assumption | go_simp
        have ca2 : w2.cell? ⟨w.heap.size, 2, none⟩ = some (Value.int .i64 (n)) := by rw [hc2 _ _ (by first | omega | (simp; done) | (simp; omega))]; first | assumption | go_simp
        have fa2 : w2.frozen? ⟨w.heap.size, 2, none⟩ = false := by rw [hf2 _ _ (by first | omega | (simp; done) | (simp; omega))]; first | assumption | go_simp
        have ltb2 : w.heap.size + 1 < w2.heap.size := by omega
        have cb0 : w2.cell? ⟨w.heap.size + 1, 0, none⟩ = some (Value.int .i64 (a')) := by rw [hc2 _ _ (by first | omega | (simp; done) | (simp; omega))]; first | assumption | go_simp
        have fb0 : w2.frozen? ⟨w.heap.size + 1, 0, none⟩ = false := by rw [hf2 _ _ (by first | omega | (simp; done) | (simp; omega))]; first | assumption | go_simp
        have cb1 : w2.cell? ⟨w.heap.size + 1, 1, none⟩ = some (Value.int .i64 (t')) := by rw [hc2 _ _ (by first | omega | (simp; done) | (simp; omega))]; first | assumption | go_simp
        have fb1 : w2.frozen? ⟨w.heap.size + 1, 1, none⟩ = false := by rw [hf2 _ _ (by first | omega | (simp; done) | (simp; omega))]; first | assumption | go_simp
        have cb2 : w2.cell? ⟨w.heap.size + 1, 2, none⟩ = some (Value.int .i64 (n')) := by rw [hc2 _ _ (by first | omega | (simp; done) | (simp; omega))]; first | assumption | go_simp
        have fb2 : w2.frozen? ⟨w.heap.size + 1, 2, none⟩ = false := by rw [hf2 _ _ (by first | omega | (simp; done) | (simp; omega))]; first | assumption | go_simp
        have ltz2 : w.heap.size + 1 + 1 < w2.heap.size := by omega
        have cz0 : w2.cell? ⟨w.heap.size + 1 + 1, 0, none⟩ = some (Value.int .i64 (0)) := by rw [hc2 _ _ (by first | omega | (simp; done) | (simp; omega))]; first | assumption | go_simp
        have fz0 : w2.frozen? ⟨w.heap.size + 1 + 1, 0, none⟩ = false := by rw [hf2 _ _ (by first | omega | (simp; done) | (simp; omega))]; first | assumption | go_simp
        have cz1 : w2.cell? ⟨w.heap.size + 1 + 1, 1, none⟩ = some (Value.int .i64 (0)) := by rw [hc2 _ _ (by first | omega | (simp; done) | (simp; omega))]; first | assumption | go_simp
        have fz1 : w2.frozen? ⟨w.heap.size + 1 + 1, 1, none⟩ = false := by rw [hf2 _ _ (by first | omega | (simp; done) | (simp; omega))]; first | assumption | go_simp
        have cz2 : w2.cell? ⟨w.heap.size + 1 + 1, 2, none⟩ = some (Value.int .i64 (0)) := by rw [hc2 _ _ (by first | omega | (simp; done) | (simp; omega))]; first | assumption | go_simp
        have fz2 : w2.frozen? ⟨w.heap.size + 1 + 1, 2, none⟩ = false := by rw [hf2 _ _ (by first | omega | (simp; done) | (simp; omega))]; first | assumption | go_simp
        clear hc2 hf2
        go_wp2_with fail
        refine (raise_any a t n a' t' n' _).mono ?_
        rintro e w3 ⟨rfl, hb3⟩
        rw [HL.out]
        obtain ⟨hc3, hf3⟩ := bcell hb3
        have hz3 := hb3.size
        try simp at hz3
        have hB3 : Below w.heap.size w w3 := by
          refine bt ?_ hb3
          repeat (first | (with_reducible refine Below.drew ?_) | (with_reducible refine bal ?_ _) | ((with_reducible refine bst ?_ ?_ _); rotate_left; focus (first | (simp; done) | (simp; omega))))
          exact hB2
        have ltz3 : w.heap.size + 1 + 1 < w3.heap.size := by omega
        have cz0 : w3.cell? ⟨w.heap.size + 1 + 1, 0, none⟩ = some (Value.int .i64 (0)) := by rw [hc3 _ _ (by first | omega | (simp; done) | (simp; omega))]; first | assumption | go_simp
        have fz0 : w3.frozen? ⟨w.heap.size + 1 + 1, 0, none⟩ = false := by rw [hf3 _ _ (by first | omega | (simp; done) | (simp; omega))]; first | assumption | go_simp
        have cz1 : w3.cell? ⟨w.heap.size + 1 + 1, 1, none⟩ = some (Value.int .i64 (0)) := by rw [hc3 _ _ (by first | omega | (simp; done) | (simp; omega))]; first | assumption | go_simp
        have fz1 : w3.frozen? ⟨w.heap.size + 1 + 1, 1, none⟩ = false := by rw [hf3 _ _ (by first | omega | (simp; done) | (simp; omega))]; first | assumption | go_simp
        have cz2 : w3.cell? ⟨w.heap.size + 1 + 1, 2, none⟩ = some (Value.int .i64 (0)) := by rw [hc3 _ _ (by first | omega | (simp; done) | (simp; omega))]; first | assumption | go_simp
        have fz2 : w3.frozen? ⟨w.heap.size + 1 + 1, 2, none⟩ = false := by rw [hf3 _ _ (by first | omega | (simp; done) | (simp; omega))]; first | assumption | go_simp
        clear hc3 hf3
        go_wp2
        refine bodyPost_ret (v := .tuple #[stampV p1 p2 p3, .int .i64 pe]) (by simp [results, Try.results15, go_sem, *]) rfl ⟨by rw [HV.out] <;> rfl, ?_⟩
        repeat (first | (with_reducible refine Below.drew ?_) | (with_reducible refine bal ?_ _) | ((with_reducible refine bst ?_ ?_ _); rotate_left; focus (first | (simp; done) | (simp; omega))))
        exact hB3
def riseT (a t n a' t' : Int) : Int × Int × Int := if a < a' then (a', t', n) else if a = a' ∧ t < t' then (a', t', n) else (a, t, n)
set_option maxHeartbeats 1600000 in
set_option maxRecDepth 100000 in
theorem refraise_any (a t n a' t' n' : Int) (w : World) :
    Calls Try.prog 18 #[stampV a t n, stampV a' t' n'] w fun e w' => e = .returned (stampT (riseT a t n a' t')) ∧ Below w.heap.size w w' := by
  by_cases h1 : a < a'
  · have hv : riseT a t n a' t' = (a', t', n) := by unfold riseT; rw [if_pos h1]
    have HV := Lib.hid hv
    clear hv
    go_enter Try.func18, Try.ntmps18
    go_wp2
    refine bodyPost_ret (v := stampV a' t' n) (by simp [results, Try.results18, go_sem]) rfl ⟨by rw [HV.out] <;> rfl, ?_⟩
    repeat (first | (with_reducible refine Below.drew ?_) | (with_reducible refine bal ?_ _) | ((with_reducible refine bst ?_ ?_ _); rotate_left; focus (first | (simp; done) | (simp; omega))))
    exact b0 w
  · by_cases h2 : a' = a
    · subst h2
      by_cases h3 : t < t'
      · have hv : riseT a' t n a' t' = (a', t', n) := by unfold riseT; simp [h3]
        have HV := Lib.hid hv
        clear hv
        go_enter Try.func18, Try.ntmps18
        go_wp2
        refine bodyPost_ret (v := stampV a' t' n) (by simp [results, Try.results18, go_sem]) rfl ⟨by rw [HV.out] <;> rfl, ?_⟩
        repeat (first | (with_reducible refine Below.drew ?_) | (with_reducible refine bal ?_ _) | ((with_reducible refine bst ?_ ?_ _); rotate_left; focus (first | (simp; done) | (simp; omega))))
        exact b0 w
      · have hv : riseT a' t n a' t' = (a', t, n) := by unfold riseT; simp [h3]
        have HV := Lib.hid hv
        clear hv
        go_enter Try.func18, Try.ntmps18
        go_wp2
        refine bodyPost_ret (v := stampV a' t n) (by simp [results, Try.results18, go_sem]) rfl ⟨by rw [HV.out] <;> rfl, ?_⟩
        repeat (first | (with_reducible refine Below.drew ?_) | (with_reducible refine bal ?_ _) | ((with_reducible refine bst ?_ ?_ _); rotate_left; focus (first | (simp; done) | (simp; omega))))
        exact b0 w
    · have h2' : (a' == a) = false := by simp [h2]
      have hv : riseT a t n a' t' = (a, t, n) := by unfold riseT; rw [if_neg h1, if_neg (by omega)]
      have HV := Lib.hid hv
      clear hv
      go_enter Try.func18, Try.ntmps18
      go_wp2
      refine bodyPost_ret (v := stampV a t n) (by simp [results, Try.results18, go_sem]) rfl ⟨by rw [HV.out] <;> rfl, ?_⟩
      repeat (first | (with_reducible refine Below.drew ?_) | (with_reducible refine bal ?_ _) | ((with_reducible refine bst ?_ ?_ _); rotate_left; focus (first | (simp; done) | (simp; omega))))
      exact b0 w
def refHearT (a t n x a' t' n' : Int) : (Int × Int × Int) × Int :=
  if (rightB a t n && withinB x 1099511627776) = false then ((0, 0, 0), 1) else if rightB a' t' n' = false then ((0, 0, 0), 1)
  else if x + 1000 < a' then ((0, 0, 0), 12) else (riseT a t n a' t', 0)
set_option maxHeartbeats 1600000 in
set_option maxRecDepth 100000 in
theorem refhear_any (a t n x a' t' n' : Int) (w : World) :
    Calls Try.prog 16 #[stampV a t n, .int .i64 x, stampV a' t' n'] w fun e w' => e = .returned (.tuple #[stampT (refHearT a t n x a' t' n').1, .int .i64 (refHearT a t n x a' t' n').2]) ∧ Below w.heap.size w w' := by
  generalize h1 : rightB a t n = r1
  have H1 := Lib.hid h1
  clear h1
  generalize h2 : withinB x 1099511627776 = r2
  have H2 := Lib.hid h2
  clear h2
  generalize h3 : rightB a' t' n' = r3
  have H3 := Lib.hid h3
  clear h3
  cases r1
  · have hv : refHearT a t n x a' t' n' = ((0, 0, 0), 1) := by unfold refHearT; rw [H1.out, Bool.false_and, if_pos rfl]
    have HV := Lib.hid hv
    clear hv
    go_enter Try.func16, Try.ntmps16
    go_wp2_with fail
    refine (refright_any a t n _).mono ?_
    rintro e w1 ⟨rfl, hb1⟩
    rw [H1.out]
    obtain ⟨hc1, hf1⟩ := bcell hb1
    have hz1 := hb1.size
    try simp at hz1
    have hB1 : Below w.heap.size w w1 := by
      refine bt ?_ hb1
      repeat (first | (with_reducible refine Below.drew ?_) | (with_reducible refine bal ?_ _) | ((with_reducible refine bst ?_ ?_ _); rotate_left; focus (first | (simp; done) | (simp; omega))))
      exact (b0 w)
    have lta1 : w.heap.size < w1.heap.size := by omega
    have ca0 : w1.cell? ⟨w.heap.size, 0, none⟩ = some (Value.int .i64 (a)) := by rw [hc1 _ _ (by first | omega | (simp; done) | (simp; omega))]; first | assumption | go_simp
    have fa0 : w1.frozen? ⟨w.heap.size, 0, none⟩ = false := by rw [hf1 _ _ (by first | omega | (simp; done) | (simp; omega))]; first | assumption | go_simp
    have ca1 : w1.cell? ⟨w.heap.size, 1, none⟩ = some (Value.int .i64 (t)) := by rw [hc1 _ _ (by first | omega | (simp; done) | (simp; omega))]; first | assumption | go_simp
    have fa1 : w1.frozen? ⟨w.heap.size, 1, none⟩ = false := by rw [hf1 _ _ (by first | omega | (simp; done) | (simp; omega))]; first | assumption | go_simp
    have ca2 : w1.cell? ⟨w.heap.size, 2, none⟩ = some (Value.int .i64 (n)) := by rw [hc1 _ _ (by first | omega | (simp; done) | (simp; omega))]; first | assumption | go_simp
    have fa2 : w1.frozen? ⟨w.heap.size, 2, none⟩ = false := by rw [hf1 _ _ (by first | omega | (simp; done) | (simp; omega))]; first | assumption | go_simp
    have ltb1 : w.heap.size + 1 < w1.heap.size := by omega
    have cb0 : w1.cell? ⟨w.heap.size + 1, 0, none⟩ = some (Value.int .i64 (a')) := by rw [hc1 _ _ (by first | omega | (simp; done) | (simp; omega))]; first | assumption | go_simp
    have fb0 : w1.frozen? ⟨w.heap.size + 1, 0, none⟩ = false := by rw [hf1 _ _ (by first | omega | (simp; done) | (simp; omega))]; first | assumption | go_simp
    have cb1 : w1.cell? ⟨w.heap.size + 1, 1, none⟩ = some (Value.int .i64 (t')) := by rw [hc1 _ _ (by first | omega | (simp; done) | (simp; omega))]; first | assumption | go_simp
    have fb1 : w1.frozen? ⟨w.heap.size + 1, 1, none⟩ = false := by rw [hf1 _ _ (by first | omega | (simp; done) | (simp; omega))]; first | assumption | go_simp
    have cb2 : w1.cell? ⟨w.heap.size + 1, 2, none⟩ = some (Value.int .i64 (n')) := by rw [hc1 _ _ (by first | omega | (simp; done) | (simp; omega))]; first | assumption | go_simp
    have fb2 : w1.frozen? ⟨w.heap.size + 1, 2, none⟩ = false := by rw [hf1 _ _ (by first | omega | (simp; done) | (simp; omega))]; first | assumption | go_simp
    have ltz1 : w.heap.size + 1 + 1 < w1.heap.size := by omega
    have cz0 : w1.cell? ⟨w.heap.size + 1 + 1, 0, none⟩ = some (Value.int .i64 (0)) := by rw [hc1 _ _ (by first | omega | (simp; done) | (simp; omega))]; first | assumption | go_simp
    have fz0 : w1.frozen? ⟨w.heap.size + 1 + 1, 0, none⟩ = false := by rw [hf1 _ _ (by first | omega | (simp; done) | (simp; omega))]; first | assumption | go_simp
    have cz1 : w1.cell? ⟨w.heap.size + 1 + 1, 1, none⟩ = some (Value.int .i64 (0)) := by rw [hc1 _ _ (by first | omega | (simp; done) | (simp; omega))]; first | assumption | go_simp
    have fz1 : w1.frozen? ⟨w.heap.size + 1 + 1, 1, none⟩ = false := by rw [hf1 _ _ (by first | omega | (simp; done) | (simp; omega))]; first | assumption | go_simp
    have cz2 : w1.cell? ⟨w.heap.size + 1 + 1, 2, none⟩ = some (Value.int .i64 (0)) := by rw [hc1 _ _ (by first | omega | (simp; done) | (simp; omega))]; first | assumption | go_simp
    have fz2 : w1.frozen? ⟨w.heap.size + 1 + 1, 2, none⟩ = false := by rw [hf1 _ _ (by first | omega | (simp; done) | (simp; omega))]; first | assumption | go_simp
    clear hc1 hf1
    go_wp2
    refine bodyPost_ret (v := .tuple #[stampV 0 0 0, .int .i64 1]) (by simp [results, Try.results16, go_sem, *]) rfl ⟨by rw [HV.out] <;> rfl, ?_⟩
    repeat (first | (with_reducible refine Below.drew ?_) | (with_reducible refine bal ?_ _) | ((with_reducible refine bst ?_ ?_ _); rotate_left; focus (first | (simp; done) | (simp; omega))))
    exact hB1
  · cases r2
    · have hv : refHearT a t n x a' t' n' = ((0, 0, 0), 1) := by unfold refHearT; rw [H1.out, H2.out, Bool.and_false, if_pos rfl]
      have HV := Lib.hid hv
      clear hv
      go_enter Try.func16, Try.ntmps16
      go_wp2_with fail
      refine (refright_any a t n _).mono ?_
      rintro e w1 ⟨rfl, hb1⟩
      rw [H1.out]
      obtain ⟨hc1, hf1⟩ := bcell hb1
      have hz1 := hb1.size
      try simp at hz1
      have hB1 : Below w.heap.size w w1 := by
        refine bt ?_ hb1
        repeat (first | (with_reducible refine Below.drew ?_) | (with_reducible refine bal ?_ _) | ((with_reducible refine bst ?_ ?_ _); rotate_left; focus (first | (simp; done) | (simp; omega))))
        exact (b0 w)
      have lta1 : w.heap.size < w1.heap.size := by omega
      have ca0 : w1.cell? ⟨w.heap.size, 0, none⟩ = some (Value.int .i64 (a)) := by rw [hc1 _ _ (by first | omega | (simp; done) | (simp; omega))]; first | assumption | go_simp
      have fa0 : w1.frozen? ⟨w.heap.size, 0, none⟩ = false := by rw [hf1 _ _ (by first | omega | (simp; done) | (simp; omega))]; first | assumption | go_simp
      have ca1 : w1.cell? ⟨w.heap.size, 1, none⟩ = some (Value.int .i64 (t)) := by rw [hc1 _ _ (by first | omega | (simp; done) | (simp; omega))]; first | assumption | go_simp
      have fa1 : w1.frozen? ⟨w.heap.size, 1, none⟩ = false := by rw [hf1 _ _ (by first | omega | (simp; done) | (simp; omega))]; first | assumption | go_simp
      have ca2 : w1.cell? ⟨w.heap.size, 2, none⟩ = some (Value.int .i64 (n)) := by rw [hc1 _ _ (by first | omega | (simp; done) | (simp; omega))]; first | assumption | go_simp
      have fa2 : w1.frozen? ⟨w.heap.size, 2, none⟩ = false := by rw [hf1 _ _ (by first | omega | (simp; done) | (simp; omega))]; first | assumption | go_simp
      have ltb1 : w.heap.size + 1 < w1.heap.size := by omega
      have cb0 : w1.cell? ⟨w.heap.size + 1, 0, none⟩ = some (Value.int .i64 (a')) := by rw [hc1 _ _ (by first | omega | (simp; done) | (simp; omega))]; first | assumption | go_simp
      have fb0 : w1.frozen? ⟨w.heap.size + 1, 0, none⟩ = false := by rw [hf1 _ _ (by first | omega | (simp; done) | (simp; omega))]; first | assumption | go_simp
      have cb1 : w1.cell? ⟨w.heap.size + 1, 1, none⟩ = some (Value.int .i64 (t')) := by rw [hc1 _ _ (by first | omega | (simp; done) | (simp; omega))]; first | assumption | go_simp
      have fb1 : w1.frozen? ⟨w.heap.size + 1, 1, none⟩ = false := by rw [hf1 _ _ (by first | omega | (simp; done) | (simp; omega))]; first | assumption | go_simp
      have cb2 : w1.cell? ⟨w.heap.size + 1, 2, none⟩ = some (Value.int .i64 (n')) := by rw [hc1 _ _ (by first | omega | (simp; done) | (simp; omega))]; first | assumption | go_simp
      have fb2 : w1.frozen? ⟨w.heap.size + 1, 2, none⟩ = false := by rw [hf1 _ _ (by first | omega | (simp; done) | (simp; omega))]; first | assumption | go_simp
      have ltz1 : w.heap.size + 1 + 1 < w1.heap.size := by omega
      have cz0 : w1.cell? ⟨w.heap.size + 1 + 1, 0, none⟩ = some (Value.int .i64 (0)) := by rw [hc1 _ _ (by first | omega | (simp; done) | (simp; omega))]; first | assumption | go_simp
      have fz0 : w1.frozen? ⟨w.heap.size + 1 + 1, 0, none⟩ = false := by rw [hf1 _ _ (by first | omega | (simp; done) | (simp; omega))]; first | assumption | go_simp
      have cz1 : w1.cell? ⟨w.heap.size + 1 + 1, 1, none⟩ = some (Value.int .i64 (0)) := by rw [hc1 _ _ (by first | omega | (simp; done) | (simp; omega))]; first | assumption | go_simp
      have fz1 : w1.frozen? ⟨w.heap.size + 1 + 1, 1, none⟩ = false := by rw [hf1 _ _ (by first | omega | (simp; done) | (simp; omega))]; first | assumption | go_simp
      have cz2 : w1.cell? ⟨w.heap.size + 1 + 1, 2, none⟩ = some (Value.int .i64 (0)) := by rw [hc1 _ _ (by first | omega | (simp; done) | (simp; omega))]; first | assumption | go_simp
      have fz2 : w1.frozen? ⟨w.heap.size + 1 + 1, 2, none⟩ = false := by rw [hf1 _ _ (by first | omega | (simp; done) | (simp; omega))]; first | assumption | go_simp
      clear hc1 hf1
      go_wp2_with fail
      refine (wall_any x _).mono ?_
      rintro e w' ⟨rfl, rfl⟩
      rw [H2.out]
      go_wp2
      refine bodyPost_ret (v := .tuple #[stampV 0 0 0, .int .i64 1]) (by simp [results, Try.results16, go_sem, *]) rfl ⟨by rw [HV.out] <;> rfl, ?_⟩
      repeat (first | (with_reducible refine Below.drew ?_) | (with_reducible refine bal ?_ _) | ((with_reducible refine bst ?_ ?_ _); rotate_left; focus (first | (simp; done) | (simp; omega))))
      exact hB1
    · cases r3
      · have hv : refHearT a t n x a' t' n' = ((0, 0, 0), 1) := by unfold refHearT; rw [H1.out, H2.out, H3.out, if_neg (by simp), if_pos rfl]
        have HV := Lib.hid hv
        clear hv
        go_enter Try.func16, Try.ntmps16
        go_wp2_with fail
        refine (refright_any a t n _).mono ?_
        rintro e w1 ⟨rfl, hb1⟩
        rw [H1.out]
        obtain ⟨hc1, hf1⟩ := bcell hb1
        have hz1 := hb1.size
        try simp at hz1
        have hB1 : Below w.heap.size w w1 := by
          refine bt ?_ hb1
          repeat (first | (with_reducible refine Below.drew ?_) | (with_reducible refine bal ?_ _) | ((with_reducible refine bst ?_ ?_ _); rotate_left; focus (first | (simp; done) | (simp; omega))))
          exact (b0 w)
        have lta1 : w.heap.size < w1.heap.size := by omega
        have ca0 : w1.cell? ⟨w.heap.size, 0, none⟩ = some (Value.int .i64 (a)) := by rw [hc1 _ _ (by first | omega | (simp; done) | (simp; omega))]; first | assumption | go_simp
        have fa0 : w1.frozen? ⟨w.heap.size, 0, none⟩ = false := by rw [hf1 _ _ (by first | omega | (simp; done) | (simp; omega))]; first | assumption | go_simp
        have ca1 : w1.cell? ⟨w.heap.size, 1, none⟩ = some (Value.int .i64 (t)) := by rw [hc1 _ _ (by first | omega | (simp; done) | (simp; omega))]; first | assumption | go_simp
        have fa1 : w1.frozen? ⟨w.heap.size, 1, none⟩ = false := by rw [hf1 _ _ (by first | omega | (simp; done) | (simp; omega))]; first | assumption | go_simp
        have ca2 : w1.cell? ⟨w.heap.size, 2, none⟩ = some (Value.int .i64 (n)) := by rw [hc1 _ _ (by first | omega | (simp; done) | (simp; omega))]; first | assumption | go_simp
        have fa2 : w1.frozen? ⟨w.heap.size, 2, none⟩ = false := by rw [hf1 _ _ (by first | omega | (simp; done) | (simp; omega))]; first | assumption | go_simp
        have ltb1 : w.heap.size + 1 < w1.heap.size := by omega
        have cb0 : w1.cell? ⟨w.heap.size + 1, 0, none⟩ = some (Value.int .i64 (a')) := by rw [hc1 _ _ (by first | omega | (simp; done) | (simp; omega))]; first | assumption | go_simp
        have fb0 : w1.frozen? ⟨w.heap.size + 1, 0, none⟩ = false := by rw [hf1 _ _ (by first | omega | (simp; done) | (simp; omega))]; first | assumption | go_simp
        have cb1 : w1.cell? ⟨w.heap.size + 1, 1, none⟩ = some (Value.int .i64 (t')) := by rw [hc1 _ _ (by first | omega | (simp; done) | (simp; omega))]; first | assumption | go_simp
        have fb1 : w1.frozen? ⟨w.heap.size + 1, 1, none⟩ = false := by rw [hf1 _ _ (by first | omega | (simp; done) | (simp; omega))]; first | assumption | go_simp
        have cb2 : w1.cell? ⟨w.heap.size + 1, 2, none⟩ = some (Value.int .i64 (n')) := by rw [hc1 _ _ (by first | omega | (simp; done) | (simp; omega))]; first | assumption | go_simp
        have fb2 : w1.frozen? ⟨w.heap.size + 1, 2, none⟩ = false := by rw [hf1 _ _ (by first | omega | (simp; done) | (simp; omega))]; first | assumption | go_simp
        have ltz1 : w.heap.size + 1 + 1 < w1.heap.size := by omega
        have cz0 : w1.cell? ⟨w.heap.size + 1 + 1, 0, none⟩ = some (Value.int .i64 (0)) := by rw [hc1 _ _ (by first | omega | (simp; done) | (simp; omega))]; first | assumption | go_simp
        have fz0 : w1.frozen? ⟨w.heap.size + 1 + 1, 0, none⟩ = false := by rw [hf1 _ _ (by first | omega | (simp; done) | (simp; omega))]; first | assumption | go_simp
        have cz1 : w1.cell? ⟨w.heap.size + 1 + 1, 1, none⟩ = some (Value.int .i64 (0)) := by rw [hc1 _ _ (by first | omega | (simp; done) | (simp; omega))]; first | assumption | go_simp
        have fz1 : w1.frozen? ⟨w.heap.size + 1 + 1, 1, none⟩ = false := by rw [hf1 _ _ (by first | omega | (simp; done) | (simp; omega))]; first | assumption | go_simp
        have cz2 : w1.cell? ⟨w.heap.size + 1 + 1, 2, none⟩ = some (Value.int .i64 (0)) := by rw [hc1 _ _ (by first | omega | (simp; done) | (simp; omega))]; first | assumption | go_simp
        have fz2 : w1.frozen? ⟨w.heap.size + 1 + 1, 2, none⟩ = false := by rw [hf1 _ _ (by first | omega | (simp; done) | (simp; omega))]; first | assumption | go_simp
        clear hc1 hf1
        go_wp2_with fail
        refine (wall_any x _).mono ?_
        rintro e w' ⟨rfl, rfl⟩
        rw [H2.out]
        go_wp2_with fail
        refine (refright_any a' t' n' _).mono ?_
        rintro e w2 ⟨rfl, hb2⟩
        rw [H3.out]
        obtain ⟨hc2, hf2⟩ := bcell hb2
        have hz2 := hb2.size
        try simp at hz2
        have hB2 : Below w.heap.size w w2 := by
          refine bt ?_ hb2
          repeat (first | (with_reducible refine Below.drew ?_) | (with_reducible refine bal ?_ _) | ((with_reducible refine bst ?_ ?_ _); rotate_left; focus (first | (simp; done) | (simp; omega))))
          exact hB1
        have lta2 : w.heap.size < w2.heap.size := by omega
        have ca0 : w2.cell? ⟨w.heap.size, 0, none⟩ = some (Value.int .i64 (a)) := by rw [hc2 _ _ (by first | omega | (simp; done) | (simp; omega))]; first | assumption | go_simp
        have fa0 : w2.frozen? ⟨w.heap.size, 0, none⟩ = false := by rw [hf2 _ _ (by first | omega | (simp; done) | (simp; omega))]; first | assumption | go_simp
        have ca1 : w2.cell? ⟨w.heap.size, 1, none⟩ = some (Value.int .i64 (t)) := by rw [hc2 _ _ (by first | omega | (simp; done) | (simp; omega))]; first | assumption | go_simp
        have fa1 : w2.frozen? ⟨w.heap.size, 1, none⟩ = false := by rw [hf2 _ _ (by first | omega | (simp; done) | (simp; omega))]; first | assumption | go_simp
        have ca2 : w2.cell? ⟨w.heap.size, 2, none⟩ = some (Value.int .i64 (n)) := by rw [hc2 _ _ (by first | omega | (simp; done) | (simp; omega))]; first | assumption | go_simp
        have fa2 : w2.frozen? ⟨w.heap.size, 2, none⟩ = false := by rw [hf2 _ _ (by first | omega | (simp; done) | (simp; omega))]; first | assumption | go_simp
        have ltb2 : w.heap.size + 1 < w2.heap.size := by omega
        have cb0 : w2.cell? ⟨w.heap.size + 1, 0, none⟩ = some (Value.int .i64 (a')) := by rw [hc2 _ _ (by first | omega | (simp; done) | (simp; omega))]; first | assumption | go_simp
        have fb0 : w2.frozen? ⟨w.heap.size + 1, 0, none⟩ = false := by rw [hf2 _ _ (by first | omega | (simp; done) | (simp; omega))]; first | assumption | go_simp
        have cb1 : w2.cell? ⟨w.heap.size + 1, 1, none⟩ = some (Value.int .i64 (t')) := by rw [hc2 _ _ (by first | omega | (simp; done) | (simp; omega))]; first | assumption | go_simp
        have fb1 : w2.frozen? ⟨w.heap.size + 1, 1, none⟩ = false := by rw [hf2 _ _ (by first | omega | (simp; done) | (simp; omega))]; first | assumption | go_simp
        have cb2 : w2.cell? ⟨w.heap.size + 1, 2, none⟩ = some (Value.int .i64 (n')) := by rw [hc2 _ _ (by first | omega | (simp; done) | (simp; omega))]; first | assumption | go_simp
        have fb2 : w2.frozen? ⟨w.heap.size + 1, 2, none⟩ = false := by rw [hf2 _ _ (by first | omega | (simp; done) | (simp; omega))]; first | assumption | go_simp
        have ltz2 : w.heap.size + 1 + 1 < w2.heap.size := by omega
        have cz0 : w2.cell? ⟨w.heap.size + 1 + 1, 0, none⟩ = some (Value.int .i64 (0)) := by rw [hc2 _ _ (by first | omega | (simp; done) | (simp; omega))]; first | assumption | go_simp
        have fz0 : w2.frozen? ⟨w.heap.size + 1 + 1, 0, none⟩ = false := by rw [hf2 _ _ (by first | omega | (simp; done) | (simp; omega))]; first | assumption | go_simp
        have cz1 : w2.cell? ⟨w.heap.size + 1 + 1, 1, none⟩ = some (Value.int .i64 (0)) := by rw [hc2 _ _ (by first | omega | (simp; done) | (simp; omega))]; first | assumption | go_simp
        have fz1 : w2.frozen? ⟨w.heap.size + 1 + 1, 1, none⟩ = false := by rw [hf2 _ _ (by first | omega | (simp; done) | (simp; omega))]; first | assumption | go_simp
        have cz2 : w2.cell? ⟨w.heap.size + 1 + 1, 2, none⟩ = some (Value.int .i64 (0)) := by rw [hc2 _ _ (by first | omega | (simp; done) | (simp; omega))]; first | assumption | go_simp
        have fz2 : w2.frozen? ⟨w.heap.size + 1 + 1, 2, none⟩ = false := by rw [hf2 _ _ (by first | omega | (simp; done) | (simp; omega))]; first | assumption | go_simp
        clear hc2 hf2
        go_wp2
        refine bodyPost_ret (v := .tuple #[stampV 0 0 0, .int .i64 1]) (by simp [results, Try.results16, go_sem, *]) rfl ⟨by rw [HV.out] <;> rfl, ?_⟩
        repeat (first | (with_reducible refine Below.drew ?_) | (with_reducible refine bal ?_ _) | ((with_reducible refine bst ?_ ?_ _); rotate_left; focus (first | (simp; done) | (simp; omega))))
        exact hB2
      · by_cases hx : x + 1000 < a'
        · have hwb := within_bounds x _ H2.out
          obtain ⟨hwb1, hwb2⟩ := hwb
          have hv : refHearT a t n x a' t' n' = ((0, 0, 0), 12) := by unfold refHearT; rw [H1.out, H2.out, H3.out, if_neg (by simp), if_neg (by simp), if_pos hx]
          have HV := Lib.hid hv
          clear hv
          go_enter Try.func16, Try.ntmps16
          go_wp2_with fail
          refine (refright_any a t n _).mono ?_
          rintro e w1 ⟨rfl, hb1⟩
          rw [H1.out]
          obtain ⟨hc1, hf1⟩ := bcell hb1
          have hz1 := hb1.size
          try simp at hz1
          have hB1 : Below w.heap.size w w1 := by
            refine bt ?_ hb1
            repeat (first | (with_reducible refine Below.drew ?_) | (with_reducible refine bal ?_ _) | ((with_reducible refine bst ?_ ?_ _); rotate_left; focus (first | (simp; done) | (simp; omega))))
            exact (b0 w)
          have lta1 : w.heap.size < w1.heap.size := by omega
          have ca0 : w1.cell? ⟨w.heap.size, 0, none⟩ = some (Value.int .i64 (a)) := by rw [hc1 _ _ (by first | omega | (simp; done) | (simp; omega))]; first | assumption | go_simp
          have fa0 : w1.frozen? ⟨w.heap.size, 0, none⟩ = false := by rw [hf1 _ _ (by first | omega | (simp; done) | (simp; omega))]; first | assumption | go_simp
          have ca1 : w1.cell? ⟨w.heap.size, 1, none⟩ = some (Value.int .i64 (t)) := by rw [hc1 _ _ (by first | omega | (simp; done) | (simp; omega))]; first | assumption | go_simp
          have fa1 : w1.frozen? ⟨w.heap.size, 1, none⟩ = false := by rw [hf1 _ _ (by first | omega | (simp; done) | (simp; omega))]; first | assumption | go_simp
          have ca2 : w1.cell? ⟨w.heap.size, 2, none⟩ = some (Value.int .i64 (n)) := by rw [hc1 _ _ (by first | omega | (simp; done) | (simp; omega))]; first | assumption | go_simp
          have fa2 : w1.frozen? ⟨w.heap.size, 2, none⟩ = false := by rw [hf1 _ _ (by first | omega | (simp; done) | (simp; omega))]; first | assumption | go_simp
          have ltb1 : w.heap.size + 1 < w1.heap.size := by omega
          have cb0 : w1.cell? ⟨w.heap.size + 1, 0, none⟩ = some (Value.int .i64 (a')) := by rw [hc1 _ _ (by first | omega | (simp; done) | (simp; omega))]; first | assumption | go_simp
          have fb0 : w1.frozen? ⟨w.heap.size + 1, 0, none⟩ = false := by rw [hf1 _ _ (by first | omega | (simp; done) | (simp; omega))]; first | assumption | go_simp
          have cb1 : w1.cell? ⟨w.heap.size + 1, 1, none⟩ = some (Value.int .i64 (t')) := by rw [hc1 _ _ (by first | omega | (simp; done) | (simp; omega))]; first | assumption | go_simp
          have fb1 : w1.frozen? ⟨w.heap.size + 1, 1, none⟩ = false := by rw [hf1 _ _ (by first | omega | (simp; done) | (simp; omega))]; first | assumption | go_simp
          have cb2 : w1.cell? ⟨w.heap.size + 1, 2, none⟩ = some (Value.int .i64 (n')) := by rw [hc1 _ _ (by first | omega | (simp; done) | (simp; omega))]; first | assumption | go_simp
          have fb2 : w1.frozen? ⟨w.heap.size + 1, 2, none⟩ = false := by rw [hf1 _ _ (by first | omega | (simp; done) | (simp; omega))]; first | assumption | go_simp
          have ltz1 : w.heap.size + 1 + 1 < w1.heap.size := by omega
          have cz0 : w1.cell? ⟨w.heap.size + 1 + 1, 0, none⟩ = some (Value.int .i64 (0)) := by rw [hc1 _ _ (by first | omega | (simp; done) | (simp; omega))]; first | assumption | go_simp
          have fz0 : w1.frozen? ⟨w.heap.size + 1 + 1, 0, none⟩ = false := by rw [hf1 _ _ (by first | omega | (simp; done) | (simp; omega))]; first | assumption | go_simp
          have cz1 : w1.cell? ⟨w.heap.size + 1 + 1, 1, none⟩ = some (Value.int .i64 (0)) := by rw [hc1 _ _ (by first | omega | (simp; done) | (simp; omega))]; first | assumption | go_simp
          have fz1 : w1.frozen? ⟨w.heap.size + 1 + 1, 1, none⟩ = false := by rw [hf1 _ _ (by first | omega | (simp; done) | (simp; omega))]; first | assumption | go_simp
          have cz2 : w1.cell? ⟨w.heap.size + 1 + 1, 2, none⟩ = some (Value.int .i64 (0)) := by rw [hc1 _ _ (by first | omega | (simp; done) | (simp; omega))]; first | assumption | go_simp
          have fz2 : w1.frozen? ⟨w.heap.size + 1 + 1, 2, none⟩ = false := by rw [hf1 _ _ (by first | omega | (simp; done) | (simp; omega))]; first | assumption | go_simp
          clear hc1 hf1
          go_wp2_with fail
          refine (wall_any x _).mono ?_
          rintro e w' ⟨rfl, rfl⟩
          rw [H2.out]
          go_wp2_with fail
          refine (refright_any a' t' n' _).mono ?_
          rintro e w2 ⟨rfl, hb2⟩
          rw [H3.out]
          obtain ⟨hc2, hf2⟩ := bcell hb2
          have hz2 := hb2.size
          try simp at hz2
          have hB2 : Below w.heap.size w w2 := by
            refine bt ?_ hb2
            repeat (first | (with_reducible refine Below.drew ?_) | (with_reducible refine bal ?_ _) | ((with_reducible refine bst ?_ ?_ _); rotate_left; focus (first | (simp; done) | (simp; omega))))
            exact hB1
          have lta2 : w.heap.size < w2.heap.size := by omega
          have ca0 : w2.cell? ⟨w.heap.size, 0, none⟩ = some (Value.int .i64 (a)) := by rw [hc2 _ _ (by first | omega | (simp; done) | (simp; omega))]; first | assumption | go_simp
          have fa0 : w2.frozen? ⟨w.heap.size, 0, none⟩ = false := by rw [hf2 _ _ (by first | omega | (simp; done) | (simp; omega))]; first | assumption | go_simp
          have ca1 : w2.cell? ⟨w.heap.size, 1, none⟩ = some (Value.int .i64 (t)) := by rw [hc2 _ _ (by first | omega | (simp; done) | (simp; omega))]; first | assumption | go_simp
          have fa1 : w2.frozen? ⟨w.heap.size, 1, none⟩ = false := by rw [hf2 _ _ (by first | omega | (simp; done) | (simp; omega))]; first | assumption | go_simp
          have ca2 : w2.cell? ⟨w.heap.size, 2, none⟩ = some (Value.int .i64 (n)) := by rw [hc2 _ _ (by first | omega | (simp; done) | (simp; omega))]; first | assumption | go_simp
          have fa2 : w2.frozen? ⟨w.heap.size, 2, none⟩ = false := by rw [hf2 _ _ (by first | omega | (simp; done) | (simp; omega))]; first | assumption | go_simp
          have ltb2 : w.heap.size + 1 < w2.heap.size := by omega
          have cb0 : w2.cell? ⟨w.heap.size + 1, 0, none⟩ = some (Value.int .i64 (a')) := by rw [hc2 _ _ (by first | omega | (simp; done) | (simp; omega))]; first | assumption | go_simp
          have fb0 : w2.frozen? ⟨w.heap.size + 1, 0, none⟩ = false := by rw [hf2 _ _ (by first | omega | (simp; done) | (simp; omega))]; first | assumption | go_simp
          have cb1 : w2.cell? ⟨w.heap.size + 1, 1, none⟩ = some (Value.int .i64 (t')) := by rw [hc2 _ _ (by first | omega | (simp; done) | (simp; omega))]; first | assumption | go_simp
          have fb1 : w2.frozen? ⟨w.heap.size + 1, 1, none⟩ = false := by rw [hf2 _ _ (by first | omega | (simp; done) | (simp; omega))]; first | assumption | go_simp
          have cb2 : w2.cell? ⟨w.heap.size + 1, 2, none⟩ = some (Value.int .i64 (n')) := by rw [hc2 _ _ (by first | omega | (simp; done) | (simp; omega))]; first | assumption | go_simp
          have fb2 : w2.frozen? ⟨w.heap.size + 1, 2, none⟩ = false := by rw [hf2 _ _ (by first | omega | (simp; done) | (simp; omega))]; first | assumption | go_simp
          have ltz2 : w.heap.size + 1 + 1 < w2.heap.size := by omega
          have cz0 : w2.cell? ⟨w.heap.size + 1 + 1, 0, none⟩ = some (Value.int .i64 (0)) := by rw [hc2 _ _ (by first | omega | (simp; done) | (simp; omega))]; first | assumption | go_simp
          have fz0 : w2.frozen? ⟨w.heap.size + 1 + 1, 0, none⟩ = false := by rw [hf2 _ _ (by first | omega | (simp; done) | (simp; omega))]; first | assumption | go_simp
          have cz1 : w2.cell? ⟨w.heap.size + 1 + 1, 1, none⟩ = some (Value.int .i64 (0)) := by rw [hc2 _ _ (by first | omega | (simp; done) | (simp; omega))]; first | assumption | go_simp
          have fz1 : w2.frozen? ⟨w.heap.size + 1 + 1, 1, none⟩ = false := by rw [hf2 _ _ (by first | omega | (simp; done) | (simp; omega))]; first | assumption | go_simp
          have cz2 : w2.cell? ⟨w.heap.size + 1 + 1, 2, none⟩ = some (Value.int .i64 (0)) := by rw [hc2 _ _ (by first | omega | (simp; done) | (simp; omega))]; first | assumption | go_simp
          have fz2 : w2.frozen? ⟨w.heap.size + 1 + 1, 2, none⟩ = false := by rw [hf2 _ _ (by first | omega | (simp; done) | (simp; omega))]; first | assumption | go_simp
          clear hc2 hf2
          go_wp2
          refine bodyPost_ret (v := .tuple #[stampV 0 0 0, .int .i64 12]) (by simp [results, Try.results16, go_sem, *]) rfl ⟨by rw [HV.out] <;> rfl, ?_⟩
          repeat (first | (with_reducible refine Below.drew ?_) | (with_reducible refine bal ?_ _) | ((with_reducible refine bst ?_ ?_ _); rotate_left; focus (first | (simp; done) | (simp; omega))))
          exact hB2
        · have hwb := within_bounds x _ H2.out
          obtain ⟨hwb1, hwb2⟩ := hwb
          obtain ⟨⟨p1, p2, p3⟩, hl⟩ : ∃ p, riseT a t n a' t' = p := ⟨_, rfl⟩
          have HL := Lib.hid hl
          clear hl
          have hv : refHearT a t n x a' t' n' = ((p1, p2, p3), 0) := by unfold refHearT; rw [H1.out, H2.out, H3.out, if_neg (by simp), if_neg (by simp), if_neg hx, HL.out]
          have HV := Lib.hid hv
          clear hv
          go_enter Try.func16, Try.ntmps16
          go_wp2_with fail
          refine (refright_any a t n _).mono ?_
          rintro e w1 ⟨rfl, hb1⟩
          rw [H1.out]
          obtain ⟨hc1, hf1⟩ := bcell hb1
          have hz1 := hb1.size
          try simp at hz1
          have hB1 : Below w.heap.size w w1 := by
            refine bt ?_ hb1
            repeat (first | (with_reducible refine Below.drew ?_) | (with_reducible refine bal ?_ _) | ((with_reducible refine bst ?_ ?_ _); rotate_left; focus (first | (simp; done) | (simp; omega))))
            exact (b0 w)
          have lta1 : w.heap.size < w1.heap.size := by omega
          have ca0 : w1.cell? ⟨w.heap.size, 0, none⟩ = some (Value.int .i64 (a)) := by rw [hc1 _ _ (by first | omega | (simp; done) | (simp; omega))]; first | assumption | go_simp
          have fa0 : w1.frozen? ⟨w.heap.size, 0, none⟩ = false := by rw [hf1 _ _ (by first | omega | (simp; done) | (simp; omega))]; first | assumption | go_simp
          have ca1 : w1.cell? ⟨w.heap.size, 1, none⟩ = some (Value.int .i64 (t)) := by rw [hc1 _ _ (by first | omega | (simp; done) | (simp; omega))]; first | assumption | go_simp
          have fa1 : w1.frozen? ⟨w.heap.size, 1, none⟩ = false := by rw [hf1 _ _ (by first | omega | (simp; done) | (simp; omega))]; first | assumption | go_simp
          have ca2 : w1.cell? ⟨w.heap.size, 2, none⟩ = some (Value.int .i64 (n)) := by rw [hc1 _ _ (by first | omega | (simp; done) | (simp; omega))]; first | assumption | go_simp
          have fa2 : w1.frozen? ⟨w.heap.size, 2, none⟩ = false := by rw [hf1 _ _ (by first | omega | (simp; done) | (simp; omega))]; first | assumption | go_simp
          have ltb1 : w.heap.size + 1 < w1.heap.size := by omega
          have cb0 : w1.cell? ⟨w.heap.size + 1, 0, none⟩ = some (Value.int .i64 (a')) := by rw [hc1 _ _ (by first | omega | (simp; done) | (simp; omega))]; first | assumption | go_simp
          have fb0 : w1.frozen? ⟨w.heap.size + 1, 0, none⟩ = false := by rw [hf1 _ _ (by first | omega | (simp; done) | (simp; omega))]; first | assumption | go_simp
          have cb1 : w1.cell? ⟨w.heap.size + 1, 1, none⟩ = some (Value.int .i64 (t')) := by rw [hc1 _ _ (by first | omega | (simp; done) | (simp; omega))]; first | assumption | go_simp
          have fb1 : w1.frozen? ⟨w.heap.size + 1, 1, none⟩ = false := by rw [hf1 _ _ (by first | omega | (simp; done) | (simp; omega))]; first | assumption | go_simp
          have cb2 : w1.cell? ⟨w.heap.size + 1, 2, none⟩ = some (Value.int .i64 (n')) := by rw [hc1 _ _ (by first | omega | (simp; done) | (simp; omega))]; first | assumption | go_simp
          have fb2 : w1.frozen? ⟨w.heap.size + 1, 2, none⟩ = false := by rw [hf1 _ _ (by first | omega | (simp; done) | (simp; omega))]; first | assumption | go_simp
          have ltz1 : w.heap.size + 1 + 1 < w1.heap.size := by omega
          have cz0 : w1.cell? ⟨w.heap.size + 1 + 1, 0, none⟩ = some (Value.int .i64 (0)) := by rw [hc1 _ _ (by first | omega | (simp; done) | (simp; omega))]; first | assumption | go_simp
          have fz0 : w1.frozen? ⟨w.heap.size + 1 + 1, 0, none⟩ = false := by rw [hf1 _ _ (by first | omega | (simp; done) | (simp; omega))]; first | assumption | go_simp
          have cz1 : w1.cell? ⟨w.heap.size + 1 + 1, 1, none⟩ = some (Value.int .i64 (0)) := by rw [hc1 _ _ (by first | omega | (simp; done) | (simp; omega))]; first | assumption | go_simp
          have fz1 : w1.frozen? ⟨w.heap.size + 1 + 1, 1, none⟩ = false := by rw [hf1 _ _ (by first | omega | (simp; done) | (simp; omega))]; first | assumption | go_simp
          have cz2 : w1.cell? ⟨w.heap.size + 1 + 1, 2, none⟩ = some (Value.int .i64 (0)) := by rw [hc1 _ _ (by first | omega | (simp; done) | (simp; omega))]; first | assumption | go_simp
          have fz2 : w1.frozen? ⟨w.heap.size + 1 + 1, 2, none⟩ = false := by rw [hf1 _ _ (by first | omega | (simp; done) | (simp; omega))]; first | assumption | go_simp
          clear hc1 hf1
          go_wp2_with fail
          refine (wall_any x _).mono ?_
          rintro e w' ⟨rfl, rfl⟩
          rw [H2.out]
          go_wp2_with fail
          refine (refright_any a' t' n' _).mono ?_
          rintro e w2 ⟨rfl, hb2⟩
          rw [H3.out]
          obtain ⟨hc2, hf2⟩ := bcell hb2
          have hz2 := hb2.size
          try simp at hz2
          have hB2 : Below w.heap.size w w2 := by
            refine bt ?_ hb2
            repeat (first | (with_reducible refine Below.drew ?_) | (with_reducible refine bal ?_ _) | ((with_reducible refine bst ?_ ?_ _); rotate_left; focus (first | (simp; done) | (simp; omega))))
            exact hB1
          have lta2 : w.heap.size < w2.heap.size := by omega
          have ca0 : w2.cell? ⟨w.heap.size, 0, none⟩ = some (Value.int .i64 (a)) := by rw [hc2 _ _ (by first | omega | (simp; done) | (simp; omega))]; first | assumption | go_simp
          have fa0 : w2.frozen? ⟨w.heap.size, 0, none⟩ = false := by rw [hf2 _ _ (by first | omega | (simp; done) | (simp; omega))]; first | assumption | go_simp
          have ca1 : w2.cell? ⟨w.heap.size, 1, none⟩ = some (Value.int .i64 (t)) := by rw [hc2 _ _ (by first | omega | (simp; done) | (simp; omega))]; first | assumption | go_simp
          have fa1 : w2.frozen? ⟨w.heap.size, 1, none⟩ = false := by rw [hf2 _ _ (by first | omega | (simp; done) | (simp; omega))]; first | assumption | go_simp
          have ca2 : w2.cell? ⟨w.heap.size, 2, none⟩ = some (Value.int .i64 (n)) := by rw [hc2 _ _ (by first | omega | (simp; done) | (simp; omega))]; first | assumption | go_simp
          have fa2 : w2.frozen? ⟨w.heap.size, 2, none⟩ = false := by rw [hf2 _ _ (by first | omega | (simp; done) | (simp; omega))]; first | assumption | go_simp
          have ltb2 : w.heap.size + 1 < w2.heap.size := by omega
          have cb0 : w2.cell? ⟨w.heap.size + 1, 0, none⟩ = some (Value.int .i64 (a')) := by rw [hc2 _ _ (by first | omega | (simp; done) | (simp; omega))]; first | assumption | go_simp
          have fb0 : w2.frozen? ⟨w.heap.size + 1, 0, none⟩ = false := by rw [hf2 _ _ (by first | omega | (simp; done) | (simp; omega))]; first | assumption | go_simp
          have cb1 : w2.cell? ⟨w.heap.size + 1, 1, none⟩ = some (Value.int .i64 (t')) := by rw [hc2 _ _ (by first | omega | (simp; done) | (simp; omega))]; first | assumption | go_simp
          have fb1 : w2.frozen? ⟨w.heap.size + 1, 1, none⟩ = false := by rw [hf2 _ _ (by first | omega | (simp; done) | (simp; omega))]; first | assumption | go_simp
          have cb2 : w2.cell? ⟨w.heap.size + 1, 2, none⟩ = some (Value.int .i64 (n')) := by rw [hc2 _ _ (by first | omega | (simp; done) | (simp; omega))]; first | assumption | go_simp
          have fb2 : w2.frozen? ⟨w.heap.size + 1, 2, none⟩ = false := by rw [hf2 _ _ (by first | omega | (simp; done) | (simp; omega))]; first | assumption | go_simp
          have ltz2 : w.heap.size + 1 + 1 < w2.heap.size := by omega
          have cz0 : w2.cell? ⟨w.heap.size + 1 + 1, 0, none⟩ = some (Value.int .i64 (0)) := by rw [hc2 _ _ (by first | omega | (simp; done) | (simp; omega))]; first | assumption | go_simp
          have fz0 : w2.frozen? ⟨w.heap.size + 1 + 1, 0, none⟩ = false := by rw [hf2 _ _ (by first | omega | (simp; done) | (simp; omega))]; first | assumption | go_simp
          have cz1 : w2.cell? ⟨w.heap.size + 1 + 1, 1, none⟩ = some (Value.int .i64 (0)) := by rw [hc2 _ _ (by first | omega | (simp; done) | (simp; omega))]; first | assumption | go_simp
          have fz1 : w2.frozen? ⟨w.heap.size + 1 + 1, 1, none⟩ = false := by rw [hf2 _ _ (by first | omega | (simp; done) | (simp; omega))]; first | assumption | go_simp
          have cz2 : w2.cell? ⟨w.heap.size + 1 + 1, 2, none⟩ = some (Value.int .i64 (0)) := by rw [hc2 _ _ (by first | omega | (simp; done) | (simp; omega))]; first | assumption | go_simp
          have fz2 : w2.frozen? ⟨w.heap.size + 1 + 1, 2, none⟩ = false := by rw [hf2 _ _ (by first | omega | (simp; done) | (simp; omega))]; first | assumption | go_simp
          clear hc2 hf2
          go_wp2_with fail
          refine (refraise_any a t n a' t' n' _).mono ?_
          rintro e w3 ⟨rfl, hb3⟩
          rw [HL.out]
          obtain ⟨hc3, hf3⟩ := bcell hb3
          have hz3 := hb3.size
          try simp at hz3
          have hB3 : Below w.heap.size w w3 := by
            refine bt ?_ hb3
            repeat (first | (with_reducible refine Below.drew ?_) | (with_reducible refine bal ?_ _) | ((with_reducible refine bst ?_ ?_ _); rotate_left; focus (first | (simp; done) | (simp; omega))))
            exact hB2
          have ltz3 : w.heap.size + 1 + 1 < w3.heap.size := by omega
          have cz0 : w3.cell? ⟨w.heap.size + 1 + 1, 0, none⟩ = some (Value.int .i64 (0)) := by rw [hc3 _ _ (by first | omega | (simp; done) | (simp; omega))]; first | assumption | go_simp
          have fz0 : w3.frozen? ⟨w.heap.size + 1 + 1, 0, none⟩ = false := by rw [hf3 _ _ (by first | omega | (simp; done) | (simp; omega))]; first | assumption | go_simp
          have cz1 : w3.cell? ⟨w.heap.size + 1 + 1, 1, none⟩ = some (Value.int .i64 (0)) := by rw [hc3 _ _ (by first | omega | (simp; done) | (simp; omega))]; first | assumption | go_simp
          have fz1 : w3.frozen? ⟨w.heap.size + 1 + 1, 1, none⟩ = false := by rw [hf3 _ _ (by first | omega | (simp; done) | (simp; omega))]; first | assumption | go_simp
          have cz2 : w3.cell? ⟨w.heap.size + 1 + 1, 2, none⟩ = some (Value.int .i64 (0)) := by rw [hc3 _ _ (by first | omega | (simp; done) | (simp; omega))]; first | assumption | go_simp
          have fz2 : w3.frozen? ⟨w.heap.size + 1 + 1, 2, none⟩ = false := by rw [hf3 _ _ (by first | omega | (simp; done) | (simp; omega))]; first | assumption | go_simp
          clear hc3 hf3
          go_wp2
          refine bodyPost_ret (v := .tuple #[stampV p1 p2 p3, .int .i64 0]) (by simp [results, Try.results16, go_sem, *]) rfl ⟨by rw [HV.out] <;> rfl, ?_⟩
          repeat (first | (with_reducible refine Below.drew ?_) | (with_reducible refine bal ?_ _) | ((with_reducible refine bst ?_ ?_ _); rotate_left; focus (first | (simp; done) | (simp; omega))))
          exact hB3
end Go.Proofs.Ytpdjfmdbpnpkfaa
