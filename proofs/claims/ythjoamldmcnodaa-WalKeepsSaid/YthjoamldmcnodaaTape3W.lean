/- The walks through the tape's Cut, Arm, Crash, Text: each is the plain law's. -/
import Derived.Test.YthjoamldmcnodaaTape2W
import Derived.Deep.Cut
namespace Go.Proofs.Ythjoamldmcnodaa
open Go.RowKit
attribute [local go_sem] ByteArray.mk_append_mk ByteArray.extract_mk
set_option maxHeartbeats 800000 in
set_option maxRecDepth 100000 in
theorem ttext_any (f lo : List UInt8) (n : Int) (ar dn : Bool) (hf : f.length ≤ 140737488351232) (hl : lo.length ≤ 140737488351232) (w : World) : Calls Try.prog 25 #[tapeV ⟨f, lo, n, ar, dn⟩] w fun e w' => e = .returned (.tuple #[.string ⟨(textT ⟨f, lo, n, ar, dn⟩).1.toArray⟩, .int .i64 (textT ⟨f, lo, n, ar, dn⟩).2]) ∧ Below w.heap.size w w' := by
  obtain ⟨r, hr⟩ : ∃ r, readyT ⟨f, lo, n, ar, dn⟩ = r := ⟨_, rfl⟩
  have HRD := Lib.hid hr
  clear hr
  by_cases hr0 : r = 0
  · subst hr0
    obtain ⟨hrr, hdn⟩ := ready_right _ HRD.out
    obtain ⟨hp1, hn1, hn2, _⟩ := right_parts _ hrr
    simp only at hp1 hn1 hn2
    clear hrr hdn
    have hv : textT ⟨f, lo, n, ar, dn⟩ = (f ++ lo, 0) := by simp [textT, HRD.out]
    have HV := Lib.hid hv
    clear hv
    go_enter Try.func25, Try.ntmps25
    go_wp2_with fail
    refine (ready_any f lo n ar dn hf hl _).mono ?_
    rintro e w1 ⟨rfl, hb1⟩
    rw [HRD.out]
    obtain ⟨hc1, hf1⟩ := bcell hb1
    have hz1 := hb1.size
    try simp at hz1
    have hB1 : Below w.heap.size w w1 := by
      refine bt ?_ hb1
      repeat (first | (with_reducible refine Below.drew ?_) | (with_reducible refine bal ?_ _) | ((with_reducible refine bst ?_ ?_ _); rotate_left; focus (first | (simp; done) | (simp; omega))))
      exact (b0 w)
    have ltx1 : w.heap.size < w1.heap.size := by omega
    have cx0 : w1.cell? ⟨w.heap.size, 0, none⟩ = some (Value.string ⟨(f).toArray⟩) := by rw [hc1 _ _ (by first | omega | (simp; done) | (simp; omega))]; first | assumption | go_simp
    have fx0 : w1.frozen? ⟨w.heap.size, 0, none⟩ = false := by rw [hf1 _ _ (by first | omega | (simp; done) | (simp; omega))]; first | assumption | go_simp
    have cx1 : w1.cell? ⟨w.heap.size, 1, none⟩ = some (Value.string ⟨(lo).toArray⟩) := by rw [hc1 _ _ (by first | omega | (simp; done) | (simp; omega))]; first | assumption | go_simp
    have fx1 : w1.frozen? ⟨w.heap.size, 1, none⟩ = false := by rw [hf1 _ _ (by first | omega | (simp; done) | (simp; omega))]; first | assumption | go_simp
    have cx2 : w1.cell? ⟨w.heap.size, 2, none⟩ = some (Value.int .i64 (n)) := by rw [hc1 _ _ (by first | omega | (simp; done) | (simp; omega))]; first | assumption | go_simp
    have fx2 : w1.frozen? ⟨w.heap.size, 2, none⟩ = false := by rw [hf1 _ _ (by first | omega | (simp; done) | (simp; omega))]; first | assumption | go_simp
    have cx3 : w1.cell? ⟨w.heap.size, 3, none⟩ = some (Value.bool ar) := by rw [hc1 _ _ (by first | omega | (simp; done) | (simp; omega))]; first | assumption | go_simp
    have fx3 : w1.frozen? ⟨w.heap.size, 3, none⟩ = false := by rw [hf1 _ _ (by first | omega | (simp; done) | (simp; omega))]; first | assumption | go_simp
    have cx4 : w1.cell? ⟨w.heap.size, 4, none⟩ = some (Value.bool dn) := by rw [hc1 _ _ (by first | omega | (simp; done) | (simp; omega))]; first | assumption | go_simp
    have fx4 : w1.frozen? ⟨w.heap.size, 4, none⟩ = false := by rw [hf1 _ _ (by first | omega | (simp; done) | (simp; omega))]; first | assumption | go_simp
    clear hc1 hf1
    go_wp2
    go_ret2
    exact ⟨by rw [HV.out] <;> rfl, hB1⟩
  · have hv : textT ⟨f, lo, n, ar, dn⟩ = ([], r) := by simp [textT, HRD.out, hr0]
    have HV := Lib.hid hv
    clear hv
    have hne : ((r : Int) != 0) = true := by simp [hr0]
    clear hr0
    go_enter Try.func25, Try.ntmps25
    go_wp2_with fail
    refine (ready_any f lo n ar dn hf hl _).mono ?_
    rintro e w1 ⟨rfl, hb1⟩
    rw [HRD.out]
    obtain ⟨hc1, hf1⟩ := bcell hb1
    have hz1 := hb1.size
    try simp at hz1
    have hB1 : Below w.heap.size w w1 := by
      refine bt ?_ hb1
      repeat (first | (with_reducible refine Below.drew ?_) | (with_reducible refine bal ?_ _) | ((with_reducible refine bst ?_ ?_ _); rotate_left; focus (first | (simp; done) | (simp; omega))))
      exact (b0 w)
    have ltx1 : w.heap.size < w1.heap.size := by omega
    have cx0 : w1.cell? ⟨w.heap.size, 0, none⟩ = some (Value.string ⟨(f).toArray⟩) := by rw [hc1 _ _ (by first | omega | (simp; done) | (simp; omega))]; first | assumption | go_simp
    have fx0 : w1.frozen? ⟨w.heap.size, 0, none⟩ = false := by rw [hf1 _ _ (by first | omega | (simp; done) | (simp; omega))]; first | assumption | go_simp
    have cx1 : w1.cell? ⟨w.heap.size, 1, none⟩ = some (Value.string ⟨(lo).toArray⟩) := by rw [hc1 _ _ (by first | omega | (simp; done) | (simp; omega))]; first | assumption | go_simp
    have fx1 : w1.frozen? ⟨w.heap.size, 1, none⟩ = false := by rw [hf1 _ _ (by first | omega | (simp; done) | (simp; omega))]; first | assumption | go_simp
    have cx2 : w1.cell? ⟨w.heap.size, 2, none⟩ = some (Value.int .i64 (n)) := by rw [hc1 _ _ (by first | omega | (simp; done) | (simp; omega))]; first | assumption | go_simp
    have fx2 : w1.frozen? ⟨w.heap.size, 2, none⟩ = false := by rw [hf1 _ _ (by first | omega | (simp; done) | (simp; omega))]; first | assumption | go_simp
    have cx3 : w1.cell? ⟨w.heap.size, 3, none⟩ = some (Value.bool ar) := by rw [hc1 _ _ (by first | omega | (simp; done) | (simp; omega))]; first | assumption | go_simp
    have fx3 : w1.frozen? ⟨w.heap.size, 3, none⟩ = false := by rw [hf1 _ _ (by first | omega | (simp; done) | (simp; omega))]; first | assumption | go_simp
    have cx4 : w1.cell? ⟨w.heap.size, 4, none⟩ = some (Value.bool dn) := by rw [hc1 _ _ (by first | omega | (simp; done) | (simp; omega))]; first | assumption | go_simp
    have fx4 : w1.frozen? ⟨w.heap.size, 4, none⟩ = false := by rw [hf1 _ _ (by first | omega | (simp; done) | (simp; omega))]; first | assumption | go_simp
    clear hc1 hf1
    go_wp2
    go_ret2
    exact ⟨by rw [HV.out] <;> rfl, hB1⟩
set_option maxHeartbeats 3200000 in
set_option maxRecDepth 100000 in
theorem arm_any (f lo : List UInt8) (n : Int) (ar dn : Bool) (hf : f.length ≤ 140737488351232) (hl : lo.length ≤ 140737488351232) (k : Int) (_hk : -9223372036854775808 ≤ k ∧ k ≤ 9223372036854775807) (w : World) : Calls Try.prog 16 #[tapeV ⟨f, lo, n, ar, dn⟩, .int .i64 k] w fun e w' => e = .returned (tapeV (armT ⟨f, lo, n, ar, dn⟩ k)) ∧ Below w.heap.size w w' := by
  generalize hr : rightTp ⟨f, lo, n, ar, dn⟩ = r
  have HR := Lib.hid hr
  clear hr
  cases r
  · have hv : armT ⟨f, lo, n, ar, dn⟩ k = ⟨f, lo, n, ar, dn⟩ := by simp [armT, HR.out]
    have HV := Lib.hid hv
    clear hv
    go_enter Try.func16, Try.ntmps16
    go_wp2_with fail
    refine (tright_any f lo n ar dn hf hl _).mono ?_
    rintro e w1 ⟨rfl, hb1⟩
    rw [HR.out]
    obtain ⟨hc1, hf1⟩ := bcell hb1
    have hz1 := hb1.size
    try simp at hz1
    have hB1 : Below w.heap.size w w1 := by
      refine bt ?_ hb1
      repeat (first | (with_reducible refine Below.drew ?_) | (with_reducible refine bal ?_ _) | ((with_reducible refine bst ?_ ?_ _); rotate_left; focus (first | (simp; done) | (simp; omega))))
      exact (b0 w)
    have ltx1 : w.heap.size < w1.heap.size := by omega
    have cx0 : w1.cell? ⟨w.heap.size, 0, none⟩ = some (Value.string ⟨(f).toArray⟩) := by rw [hc1 _ _ (by first | omega | (simp; done) | (simp; omega))]; first | assumption | go_simp
    have fx0 : w1.frozen? ⟨w.heap.size, 0, none⟩ = false := by rw [hf1 _ _ (by first | omega | (simp; done) | (simp; omega))]; first | assumption | go_simp
    have cx1 : w1.cell? ⟨w.heap.size, 1, none⟩ = some (Value.string ⟨(lo).toArray⟩) := by rw [hc1 _ _ (by first | omega | (simp; done) | (simp; omega))]; first | assumption | go_simp
    have fx1 : w1.frozen? ⟨w.heap.size, 1, none⟩ = false := by rw [hf1 _ _ (by first | omega | (simp; done) | (simp; omega))]; first | assumption | go_simp
    have cx2 : w1.cell? ⟨w.heap.size, 2, none⟩ = some (Value.int .i64 (n)) := by rw [hc1 _ _ (by first | omega | (simp; done) | (simp; omega))]; first | assumption | go_simp
    have fx2 : w1.frozen? ⟨w.heap.size, 2, none⟩ = false := by rw [hf1 _ _ (by first | omega | (simp; done) | (simp; omega))]; first | assumption | go_simp
    have cx3 : w1.cell? ⟨w.heap.size, 3, none⟩ = some (Value.bool ar) := by rw [hc1 _ _ (by first | omega | (simp; done) | (simp; omega))]; first | assumption | go_simp
    have fx3 : w1.frozen? ⟨w.heap.size, 3, none⟩ = false := by rw [hf1 _ _ (by first | omega | (simp; done) | (simp; omega))]; first | assumption | go_simp
    have cx4 : w1.cell? ⟨w.heap.size, 4, none⟩ = some (Value.bool dn) := by rw [hc1 _ _ (by first | omega | (simp; done) | (simp; omega))]; first | assumption | go_simp
    have fx4 : w1.frozen? ⟨w.heap.size, 4, none⟩ = false := by rw [hf1 _ _ (by first | omega | (simp; done) | (simp; omega))]; first | assumption | go_simp
    have ltr1 : w.heap.size + 1 < w1.heap.size := by omega
    have cr0 : w1.cell? ⟨w.heap.size + 1, 0, none⟩ = some (Value.string ⟨#[]⟩) := by rw [hc1 _ _ (by first | omega | (simp; done) | (simp; omega))]; first | assumption | go_simp
    have fr0 : w1.frozen? ⟨w.heap.size + 1, 0, none⟩ = false := by rw [hf1 _ _ (by first | omega | (simp; done) | (simp; omega))]; first | assumption | go_simp
    have cr1 : w1.cell? ⟨w.heap.size + 1, 1, none⟩ = some (Value.string ⟨#[]⟩) := by rw [hc1 _ _ (by first | omega | (simp; done) | (simp; omega))]; first | assumption | go_simp
    have fr1 : w1.frozen? ⟨w.heap.size + 1, 1, none⟩ = false := by rw [hf1 _ _ (by first | omega | (simp; done) | (simp; omega))]; first | assumption | go_simp
    have cr2 : w1.cell? ⟨w.heap.size + 1, 2, none⟩ = some (Value.int .i64 (0)) := by rw [hc1 _ _ (by first | omega | (simp; done) | (simp; omega))]; first | assumption | go_simp
    have fr2 : w1.frozen? ⟨w.heap.size + 1, 2, none⟩ = false := by rw [hf1 _ _ (by first | omega | (simp; done) | (simp; omega))]; first | assumption | go_simp
    have cr3 : w1.cell? ⟨w.heap.size + 1, 3, none⟩ = some (Value.bool false) := by rw [hc1 _ _ (by first | omega | (simp; done) | (simp; omega))]; first | assumption | go_simp
    have fr3 : w1.frozen? ⟨w.heap.size + 1, 3, none⟩ = false := by rw [hf1 _ _ (by first | omega | (simp; done) | (simp; omega))]; first | assumption | go_simp
    have cr4 : w1.cell? ⟨w.heap.size + 1, 4, none⟩ = some (Value.bool false) := by rw [hc1 _ _ (by first | omega | (simp; done) | (simp; omega))]; first | assumption | go_simp
    have fr4 : w1.frozen? ⟨w.heap.size + 1, 4, none⟩ = false := by rw [hf1 _ _ (by first | omega | (simp; done) | (simp; omega))]; first | assumption | go_simp
    clear hc1 hf1
    go_wp2
    refine bodyPost_ret (v := tapeV ⟨f, lo, n, ar, dn⟩) (by simp [results, Try.results16, go_sem, *]) rfl ⟨by rw [HV.out] <;> rfl, ?_⟩
    repeat (first | (with_reducible refine Below.drew ?_) | (with_reducible refine bal ?_ _) | ((with_reducible refine bst ?_ ?_ _); rotate_left; focus (first | (simp; done) | (simp; omega))))
    exact hB1
  · by_cases h1 : k < 0
    · have hv : armT ⟨f, lo, n, ar, dn⟩ k = ⟨f, lo, 0, false, dn⟩ := by simp [armT, HR.out] <;> omega
      have HV := Lib.hid hv
      clear hv
      have hq : ¬ (0 ≤ k) := by omega
      go_enter Try.func16, Try.ntmps16
      go_wp2_with fail
      refine (tright_any f lo n ar dn hf hl _).mono ?_
      rintro e w1 ⟨rfl, hb1⟩
      rw [HR.out]
      obtain ⟨hc1, hf1⟩ := bcell hb1
      have hz1 := hb1.size
      try simp at hz1
      have hB1 : Below w.heap.size w w1 := by
        refine bt ?_ hb1
        repeat (first | (with_reducible refine Below.drew ?_) | (with_reducible refine bal ?_ _) | ((with_reducible refine bst ?_ ?_ _); rotate_left; focus (first | (simp; done) | (simp; omega))))
        exact (b0 w)
      have ltx1 : w.heap.size < w1.heap.size := by omega
      have cx0 : w1.cell? ⟨w.heap.size, 0, none⟩ = some (Value.string ⟨(f).toArray⟩) := by rw [hc1 _ _ (by first | omega | (simp; done) | (simp; omega))]; first | assumption | go_simp
      have fx0 : w1.frozen? ⟨w.heap.size, 0, none⟩ = false := by rw [hf1 _ _ (by first | omega | (simp; done) | (simp; omega))]; first | assumption | go_simp
      have cx1 : w1.cell? ⟨w.heap.size, 1, none⟩ = some (Value.string ⟨(lo).toArray⟩) := by rw [hc1 _ _ (by first | omega | (simp; done) | (simp; omega))]; first | assumption | go_simp
      have fx1 : w1.frozen? ⟨w.heap.size, 1, none⟩ = false := by rw [hf1 _ _ (by first | omega | (simp; done) | (simp; omega))]; first | assumption | go_simp
      have cx2 : w1.cell? ⟨w.heap.size, 2, none⟩ = some (Value.int .i64 (n)) := by rw [hc1 _ _ (by first | omega | (simp; done) | (simp; omega))]; first | assumption | go_simp
      have fx2 : w1.frozen? ⟨w.heap.size, 2, none⟩ = false := by rw [hf1 _ _ (by first | omega | (simp; done) | (simp; omega))]; first | assumption | go_simp
      have cx3 : w1.cell? ⟨w.heap.size, 3, none⟩ = some (Value.bool ar) := by rw [hc1 _ _ (by first | omega | (simp; done) | (simp; omega))]; first | assumption | go_simp
      have fx3 : w1.frozen? ⟨w.heap.size, 3, none⟩ = false := by rw [hf1 _ _ (by first | omega | (simp; done) | (simp; omega))]; first | assumption | go_simp
      have cx4 : w1.cell? ⟨w.heap.size, 4, none⟩ = some (Value.bool dn) := by rw [hc1 _ _ (by first | omega | (simp; done) | (simp; omega))]; first | assumption | go_simp
      have fx4 : w1.frozen? ⟨w.heap.size, 4, none⟩ = false := by rw [hf1 _ _ (by first | omega | (simp; done) | (simp; omega))]; first | assumption | go_simp
      have ltr1 : w.heap.size + 1 < w1.heap.size := by omega
      have cr0 : w1.cell? ⟨w.heap.size + 1, 0, none⟩ = some (Value.string ⟨#[]⟩) := by rw [hc1 _ _ (by first | omega | (simp; done) | (simp; omega))]; first | assumption | go_simp
      have fr0 : w1.frozen? ⟨w.heap.size + 1, 0, none⟩ = false := by rw [hf1 _ _ (by first | omega | (simp; done) | (simp; omega))]; first | assumption | go_simp
      have cr1 : w1.cell? ⟨w.heap.size + 1, 1, none⟩ = some (Value.string ⟨#[]⟩) := by rw [hc1 _ _ (by first | omega | (simp; done) | (simp; omega))]; first | assumption | go_simp
      have fr1 : w1.frozen? ⟨w.heap.size + 1, 1, none⟩ = false := by rw [hf1 _ _ (by first | omega | (simp; done) | (simp; omega))]; first | assumption | go_simp
      have cr2 : w1.cell? ⟨w.heap.size + 1, 2, none⟩ = some (Value.int .i64 (0)) := by rw [hc1 _ _ (by first | omega | (simp; done) | (simp; omega))]; first | assumption | go_simp
      have fr2 : w1.frozen? ⟨w.heap.size + 1, 2, none⟩ = false := by rw [hf1 _ _ (by first | omega | (simp; done) | (simp; omega))]; first | assumption | go_simp
      have cr3 : w1.cell? ⟨w.heap.size + 1, 3, none⟩ = some (Value.bool false) := by rw [hc1 _ _ (by first | omega | (simp; done) | (simp; omega))]; first | assumption | go_simp
      have fr3 : w1.frozen? ⟨w.heap.size + 1, 3, none⟩ = false := by rw [hf1 _ _ (by first | omega | (simp; done) | (simp; omega))]; first | assumption | go_simp
      have cr4 : w1.cell? ⟨w.heap.size + 1, 4, none⟩ = some (Value.bool false) := by rw [hc1 _ _ (by first | omega | (simp; done) | (simp; omega))]; first | assumption | go_simp
      have fr4 : w1.frozen? ⟨w.heap.size + 1, 4, none⟩ = false := by rw [hf1 _ _ (by first | omega | (simp; done) | (simp; omega))]; first | assumption | go_simp
      clear hc1 hf1
      go_wp2
      refine bodyPost_ret (v := tapeV ⟨f, lo, 0, false, dn⟩) (by simp [results, Try.results16, go_sem, *]) rfl ⟨by rw [HV.out] <;> rfl, ?_⟩
      repeat (first | (with_reducible refine Below.drew ?_) | (with_reducible refine bal ?_ _) | ((with_reducible refine bst ?_ ?_ _); rotate_left; focus (first | (simp; done) | (simp; omega))))
      exact hB1
    · by_cases h2 : 1099511627776 < k
      · have hv : armT ⟨f, lo, n, ar, dn⟩ k = ⟨f, lo, 1099511627776, true, dn⟩ := by simp [armT, HR.out] <;> omega
        have HV := Lib.hid hv
        clear hv
        have hq : 0 ≤ k := by omega
        go_enter Try.func16, Try.ntmps16
        go_wp2_with fail
        refine (tright_any f lo n ar dn hf hl _).mono ?_
        rintro e w1 ⟨rfl, hb1⟩
        rw [HR.out]
        obtain ⟨hc1, hf1⟩ := bcell hb1
        have hz1 := hb1.size
        try simp at hz1
        have hB1 : Below w.heap.size w w1 := by
          refine bt ?_ hb1
          repeat (first | (with_reducible refine Below.drew ?_) | (with_reducible refine bal ?_ _) | ((with_reducible refine bst ?_ ?_ _); rotate_left; focus (first | (simp; done) | (simp; omega))))
          exact (b0 w)
        have ltx1 : w.heap.size < w1.heap.size := by omega
        have cx0 : w1.cell? ⟨w.heap.size, 0, none⟩ = some (Value.string ⟨(f).toArray⟩) := by rw [hc1 _ _ (by first | omega | (simp; done) | (simp; omega))]; first | assumption | go_simp
        have fx0 : w1.frozen? ⟨w.heap.size, 0, none⟩ = false := by rw [hf1 _ _ (by first | omega | (simp; done) | (simp; omega))]; first | assumption | go_simp
        have cx1 : w1.cell? ⟨w.heap.size, 1, none⟩ = some (Value.string ⟨(lo).toArray⟩) := by rw [hc1 _ _ (by first | omega | (simp; done) | (simp; omega))]; first | assumption | go_simp
        have fx1 : w1.frozen? ⟨w.heap.size, 1, none⟩ = false := by rw [hf1 _ _ (by first | omega | (simp; done) | (simp; omega))]; first | assumption | go_simp
        have cx2 : w1.cell? ⟨w.heap.size, 2, none⟩ = some (Value.int .i64 (n)) := by rw [hc1 _ _ (by first | omega | (simp; done) | (simp; omega))]; first | assumption | go_simp
        have fx2 : w1.frozen? ⟨w.heap.size, 2, none⟩ = false := by rw [hf1 _ _ (by first | omega | (simp; done) | (simp; omega))]; first | assumption | go_simp
        have cx3 : w1.cell? ⟨w.heap.size, 3, none⟩ = some (Value.bool ar) := by rw [hc1 _ _ (by first | omega | (simp; done) | (simp; omega))]; first | assumption | go_simp
        have fx3 : w1.frozen? ⟨w.heap.size, 3, none⟩ = false := by rw [hf1 _ _ (by first | omega | (simp; done) | (simp; omega))]; first | assumption | go_simp
        have cx4 : w1.cell? ⟨w.heap.size, 4, none⟩ = some (Value.bool dn) := by rw [hc1 _ _ (by first | omega | (simp; done) | (simp; omega))]; first | assumption | go_simp
        have fx4 : w1.frozen? ⟨w.heap.size, 4, none⟩ = false := by rw [hf1 _ _ (by first | omega | (simp; done) | (simp; omega))]; first | assumption | go_simp
        have ltr1 : w.heap.size + 1 < w1.heap.size := by omega
        have cr0 : w1.cell? ⟨w.heap.size + 1, 0, none⟩ = some (Value.string ⟨#[]⟩) := by rw [hc1 _ _ (by first | omega | (simp; done) | (simp; omega))]; first | assumption | go_simp
        have fr0 : w1.frozen? ⟨w.heap.size + 1, 0, none⟩ = false := by rw [hf1 _ _ (by first | omega | (simp; done) | (simp; omega))]; first | assumption | go_simp
        have cr1 : w1.cell? ⟨w.heap.size + 1, 1, none⟩ = some (Value.string ⟨#[]⟩) := by rw [hc1 _ _ (by first | omega | (simp; done) | (simp; omega))]; first | assumption | go_simp
        have fr1 : w1.frozen? ⟨w.heap.size + 1, 1, none⟩ = false := by rw [hf1 _ _ (by first | omega | (simp; done) | (simp; omega))]; first | assumption | go_simp
        have cr2 : w1.cell? ⟨w.heap.size + 1, 2, none⟩ = some (Value.int .i64 (0)) := by rw [hc1 _ _ (by first | omega | (simp; done) | (simp; omega))]; first | assumption | go_simp
        have fr2 : w1.frozen? ⟨w.heap.size + 1, 2, none⟩ = false := by rw [hf1 _ _ (by first | omega | (simp; done) | (simp; omega))]; first | assumption | go_simp
        have cr3 : w1.cell? ⟨w.heap.size + 1, 3, none⟩ = some (Value.bool false) := by rw [hc1 _ _ (by first | omega | (simp; done) | (simp; omega))]; first | assumption | go_simp
        have fr3 : w1.frozen? ⟨w.heap.size + 1, 3, none⟩ = false := by rw [hf1 _ _ (by first | omega | (simp; done) | (simp; omega))]; first | assumption | go_simp
        have cr4 : w1.cell? ⟨w.heap.size + 1, 4, none⟩ = some (Value.bool false) := by rw [hc1 _ _ (by first | omega | (simp; done) | (simp; omega))]; first | assumption | go_simp
        have fr4 : w1.frozen? ⟨w.heap.size + 1, 4, none⟩ = false := by rw [hf1 _ _ (by first | omega | (simp; done) | (simp; omega))]; first | assumption | go_simp
        clear hc1 hf1
        go_wp2
        refine bodyPost_ret (v := tapeV ⟨f, lo, 1099511627776, true, dn⟩) (by simp [results, Try.results16, go_sem, *]) rfl ⟨by rw [HV.out] <;> rfl, ?_⟩
        repeat (first | (with_reducible refine Below.drew ?_) | (with_reducible refine bal ?_ _) | ((with_reducible refine bst ?_ ?_ _); rotate_left; focus (first | (simp; done) | (simp; omega))))
        exact hB1
      · have hv : armT ⟨f, lo, n, ar, dn⟩ k = ⟨f, lo, k, true, dn⟩ := by simp [armT, HR.out] <;> omega
        have HV := Lib.hid hv
        clear hv
        have hq : 0 ≤ k := by omega
        go_enter Try.func16, Try.ntmps16
        go_wp2_with fail
        refine (tright_any f lo n ar dn hf hl _).mono ?_
        rintro e w1 ⟨rfl, hb1⟩
        rw [HR.out]
        obtain ⟨hc1, hf1⟩ := bcell hb1
        have hz1 := hb1.size
        try simp at hz1
        have hB1 : Below w.heap.size w w1 := by
          refine bt ?_ hb1
          repeat (first | (with_reducible refine Below.drew ?_) | (with_reducible refine bal ?_ _) | ((with_reducible refine bst ?_ ?_ _); rotate_left; focus (first | (simp; done) | (simp; omega))))
          exact (b0 w)
        have ltx1 : w.heap.size < w1.heap.size := by omega
        have cx0 : w1.cell? ⟨w.heap.size, 0, none⟩ = some (Value.string ⟨(f).toArray⟩) := by rw [hc1 _ _ (by first | omega | (simp; done) | (simp; omega))]; first | assumption | go_simp
        have fx0 : w1.frozen? ⟨w.heap.size, 0, none⟩ = false := by rw [hf1 _ _ (by first | omega | (simp; done) | (simp; omega))]; first | assumption | go_simp
        have cx1 : w1.cell? ⟨w.heap.size, 1, none⟩ = some (Value.string ⟨(lo).toArray⟩) := by rw [hc1 _ _ (by first | omega | (simp; done) | (simp; omega))]; first | assumption | go_simp
        have fx1 : w1.frozen? ⟨w.heap.size, 1, none⟩ = false := by rw [hf1 _ _ (by first | omega | (simp; done) | (simp; omega))]; first | assumption | go_simp
        have cx2 : w1.cell? ⟨w.heap.size, 2, none⟩ = some (Value.int .i64 (n)) := by rw [hc1 _ _ (by first | omega | (simp; done) | (simp; omega))]; first | assumption | go_simp
        have fx2 : w1.frozen? ⟨w.heap.size, 2, none⟩ = false := by rw [hf1 _ _ (by first | omega | (simp; done) | (simp; omega))]; first | assumption | go_simp
        have cx3 : w1.cell? ⟨w.heap.size, 3, none⟩ = some (Value.bool ar) := by rw [hc1 _ _ (by first | omega | (simp; done) | (simp; omega))]; first | assumption | go_simp
        have fx3 : w1.frozen? ⟨w.heap.size, 3, none⟩ = false := by rw [hf1 _ _ (by first | omega | (simp; done) | (simp; omega))]; first | assumption | go_simp
        have cx4 : w1.cell? ⟨w.heap.size, 4, none⟩ = some (Value.bool dn) := by rw [hc1 _ _ (by first | omega | (simp; done) | (simp; omega))]; first | assumption | go_simp
        have fx4 : w1.frozen? ⟨w.heap.size, 4, none⟩ = false := by rw [hf1 _ _ (by first | omega | (simp; done) | (simp; omega))]; first | assumption | go_simp
        have ltr1 : w.heap.size + 1 < w1.heap.size := by omega
        have cr0 : w1.cell? ⟨w.heap.size + 1, 0, none⟩ = some (Value.string ⟨#[]⟩) := by rw [hc1 _ _ (by first | omega | (simp; done) | (simp; omega))]; first | assumption | go_simp
        have fr0 : w1.frozen? ⟨w.heap.size + 1, 0, none⟩ = false := by rw [hf1 _ _ (by first | omega | (simp; done) | (simp; omega))]; first | assumption | go_simp
        have cr1 : w1.cell? ⟨w.heap.size + 1, 1, none⟩ = some (Value.string ⟨#[]⟩) := by rw [hc1 _ _ (by first | omega | (simp; done) | (simp; omega))]; first | assumption | go_simp
        have fr1 : w1.frozen? ⟨w.heap.size + 1, 1, none⟩ = false := by rw [hf1 _ _ (by first | omega | (simp; done) | (simp; omega))]; first | assumption | go_simp
        have cr2 : w1.cell? ⟨w.heap.size + 1, 2, none⟩ = some (Value.int .i64 (0)) := by rw [hc1 _ _ (by first | omega | (simp; done) | (simp; omega))]; first | assumption | go_simp
        have fr2 : w1.frozen? ⟨w.heap.size + 1, 2, none⟩ = false := by rw [hf1 _ _ (by first | omega | (simp; done) | (simp; omega))]; first | assumption | go_simp
        have cr3 : w1.cell? ⟨w.heap.size + 1, 3, none⟩ = some (Value.bool false) := by rw [hc1 _ _ (by first | omega | (simp; done) | (simp; omega))]; first | assumption | go_simp
        have fr3 : w1.frozen? ⟨w.heap.size + 1, 3, none⟩ = false := by rw [hf1 _ _ (by first | omega | (simp; done) | (simp; omega))]; first | assumption | go_simp
        have cr4 : w1.cell? ⟨w.heap.size + 1, 4, none⟩ = some (Value.bool false) := by rw [hc1 _ _ (by first | omega | (simp; done) | (simp; omega))]; first | assumption | go_simp
        have fr4 : w1.frozen? ⟨w.heap.size + 1, 4, none⟩ = false := by rw [hf1 _ _ (by first | omega | (simp; done) | (simp; omega))]; first | assumption | go_simp
        clear hc1 hf1
        go_wp2
        refine bodyPost_ret (v := tapeV ⟨f, lo, k, true, dn⟩) (by simp [results, Try.results16, go_sem, *]) rfl ⟨by rw [HV.out] <;> rfl, ?_⟩
        repeat (first | (with_reducible refine Below.drew ?_) | (with_reducible refine bal ?_ _) | ((with_reducible refine bst ?_ ?_ _); rotate_left; focus (first | (simp; done) | (simp; omega))))
        exact hB1
end Go.Proofs.Ythjoamldmcnodaa
