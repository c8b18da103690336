/- The walks through the tape's Sync, Append, Swap: each is the plain law's. -/
import Derived.Test.YthjoamldmcnodaaTapeW
import Derived.Deep.Cut
namespace Go.Proofs.Ythjoamldmcnodaa
open Go.RowKit
attribute [local go_sem] ByteArray.mk_append_mk ByteArray.extract_mk
theorem spend_form (f lo : List UInt8) (n : Int) (ar dn : Bool) : ∃ n' dn' ok, spendT ⟨f, lo, n, ar, dn⟩ = (⟨f, lo, n', ar, dn'⟩, ok) := by
  unfold spendT
  split
  · exact ⟨_, _, _, rfl⟩
  · split
    · exact ⟨_, _, _, rfl⟩
    · exact ⟨_, _, _, rfl⟩
set_option maxHeartbeats 3200000 in
set_option maxRecDepth 100000 in
theorem sync_any (f lo : List UInt8) (n : Int) (ar dn : Bool) (hf : f.length ≤ 140737488351232) (hl : lo.length ≤ 140737488351232) (w : World) :
    Calls Try.prog 24 #[tapeV ⟨f, lo, n, ar, dn⟩] w fun e w' => e = .returned (.tuple #[tapeV (syncT ⟨f, lo, n, ar, dn⟩).1, .int .i64 (syncT ⟨f, lo, n, ar, dn⟩).2]) ∧ Below w.heap.size w w' := by
  obtain ⟨r, hr⟩ : ∃ r, readyT ⟨f, lo, n, ar, dn⟩ = r := ⟨_, rfl⟩
  have HRD := Lib.hid hr
  clear hr
  by_cases hr0 : r = 0
  · subst hr0
    obtain ⟨hrr, hdn⟩ := ready_right _ HRD.out
    obtain ⟨hp1, hn1, hn2, _⟩ := right_parts _ hrr
    simp only at hp1 hn1 hn2
    clear hrr hdn
    obtain ⟨n', dn', ok, hs⟩ := spend_form f lo n ar dn
    have HS := Lib.hid hs
    clear hs
    cases ok
    · have hv : syncT ⟨f, lo, n, ar, dn⟩ = (⟨f, lo, n', ar, dn'⟩, 16) := by simp [syncT, HRD.out, HS.out, *]
      have HV := Lib.hid hv
      clear hv
      go_enter Try.func24, Try.ntmps24
      go_wp2_with fail
      refine (ready_any f lo n ar dn hf hl _).mono ?_
      rintro e w1 ⟨rfl, hb1⟩
      rw [HRD.out]
      obtain ⟨hc1, hf1⟩ := bcell hb1
      have hz1 := hb1.size
      try simp at hz1
      have hB1 : Below w.heap.size w w1 := by
        refine bt ?_ hb1
        repeat (first | (with_reducible refine Below.drew ?_) | (with_reducible refine bal ?_ _) | ((with_reducible refine bst ?_ ?_ _); rotate_left; focus (first | (simp; done) | (simp; omega))))
        exact (b0 w)
      have ltx1 : w.heap.size < w1.heap.size := by omega
      have cx0' : w1.cell? ⟨w.heap.size, 0, none⟩ = some (Value.string ⟨(f).toArray⟩) := by rw [hc1 _ _ (by first | omega | (simp; done) | (simp; omega))]; first | assumption | go_simp
      have fx0' : w1.frozen? ⟨w.heap.size, 0, none⟩ = false := by rw [hf1 _ _ (by first | omega | (simp; done) | (simp; omega))]; first | assumption | go_simp
      have cx1' : w1.cell? ⟨w.heap.size, 1, none⟩ = some (Value.string ⟨(lo).toArray⟩) := by rw [hc1 _ _ (by first | omega | (simp; done) | (simp; omega))]; first | assumption | go_simp
      have fx1' : w1.frozen? ⟨w.heap.size, 1, none⟩ = false := by rw [hf1 _ _ (by first | omega | (simp; done) | (simp; omega))]; first | assumption | go_simp
      have cx2' : w1.cell? ⟨w.heap.size, 2, none⟩ = some (Value.int .i64 (n)) := by rw [hc1 _ _ (by first | omega | (simp; done) | (simp; omega))]; first | assumption | go_simp
      have fx2' : w1.frozen? ⟨w.heap.size, 2, none⟩ = false := by rw [hf1 _ _ (by first | omega | (simp; done) | (simp; omega))]; first | assumption | go_simp
      have cx3' : w1.cell? ⟨w.heap.size, 3, none⟩ = some (Value.bool ar) := by rw [hc1 _ _ (by first | omega | (simp; done) | (simp; omega))]; first | assumption | go_simp
      have fx3' : w1.frozen? ⟨w.heap.size, 3, none⟩ = false := by rw [hf1 _ _ (by first | omega | (simp; done) | (simp; omega))]; first | assumption | go_simp
      have cx4' : w1.cell? ⟨w.heap.size, 4, none⟩ = some (Value.bool dn) := by rw [hc1 _ _ (by first | omega | (simp; done) | (simp; omega))]; first | assumption | go_simp
      have fx4' : w1.frozen? ⟨w.heap.size, 4, none⟩ = false := by rw [hf1 _ _ (by first | omega | (simp; done) | (simp; omega))]; first | assumption | go_simp
      have ltr1 : w.heap.size + 1 < w1.heap.size := by omega
      have cr0' : w1.cell? ⟨w.heap.size + 1, 0, none⟩ = some (Value.string ⟨#[]⟩) := by rw [hc1 _ _ (by first | omega | (simp; done) | (simp; omega))]; first | assumption | go_simp
      have fr0' : w1.frozen? ⟨w.heap.size + 1, 0, none⟩ = false := by rw [hf1 _ _ (by first | omega | (simp; done) | (simp; omega))]; first | assumption | go_simp
      have cr1' : w1.cell? ⟨w.heap.size + 1, 1, none⟩ = some (Value.string ⟨#[]⟩) := by rw [hc1 _ _ (by first | omega | (simp; done) | (simp; omega))]; first | assumption | go_simp
      have fr1' : w1.frozen? ⟨w.heap.size + 1, 1, none⟩ = false := by rw [hf1 _ _ (by first | omega | (simp; done) | (simp; omega))]; first | assumption | go_simp
      have cr2' : w1.cell? ⟨w.heap.size + 1, 2, none⟩ = some (Value.int .i64 (0)) := by rw [hc1 _ _ (by first | omega | (simp; done) | (simp; omega))]; first | assumption | go_simp
      have fr2' : w1.frozen? ⟨w.heap.size + 1, 2, none⟩ = false := by rw [hf1 _ _ (by first | omega | (simp; done) | (simp; omega))]; first | assumption | go_simp
      have cr3' : w1.cell? ⟨w.heap.size + 1, 3, none⟩ = some (Value.bool false) := by rw [hc1 _ _ (by first | omega | (simp; done) | (simp; omega))]; first | assumption | go_simp
      have fr3' : w1.frozen? ⟨w.heap.size + 1, 3, none⟩ = false := by rw [hf1 _ _ (by first | omega | (simp; done) | (simp; omega))]; first | assumption | go_simp
      have cr4' : w1.cell? ⟨w.heap.size + 1, 4, none⟩ = some (Value.bool false) := by rw [hc1 _ _ (by first | omega | (simp; done) | (simp; omega))]; first | assumption | go_simp
      have fr4' : w1.frozen? ⟨w.heap.size + 1, 4, none⟩ = false := by rw [hf1 _ _ (by first | omega | (simp; done) | (simp; omega))]; first | assumption | go_simp
      clear hc1 hf1
      go_wp2_with fail
      refine (spend_any f lo n ar dn hf hl ⟨hn1, hn2⟩ _).mono ?_
      rintro e w2 ⟨rfl, hb2⟩
      rw [HS.out]
      obtain ⟨hc2, hf2⟩ := bcell hb2
      have hz2 := hb2.size
      try simp at hz2
      have hB2 : Below w.heap.size w w2 := by
        refine bt ?_ hb2
        repeat (first | (with_reducible refine Below.drew ?_) | (with_reducible refine bal ?_ _) | ((with_reducible refine bst ?_ ?_ _); rotate_left; focus (first | (simp; done) | (simp; omega))))
        exact hB1
      have ltx2 : w.heap.size < w2.heap.size := by omega
      have cx0 : w2.cell? ⟨w.heap.size, 0, none⟩ = some (Value.string ⟨(f).toArray⟩) := by rw [hc2 _ _ (by first | omega | (simp; done) | (simp; omega))]; first | assumption | go_simp
      have fx0 : w2.frozen? ⟨w.heap.size, 0, none⟩ = false := by rw [hf2 _ _ (by first | omega | (simp; done) | (simp; omega))]; first | assumption | go_simp
      have cx1 : w2.cell? ⟨w.heap.size, 1, none⟩ = some (Value.string ⟨(lo).toArray⟩) := by rw [hc2 _ _ (by first | omega | (simp; done) | (simp; omega))]; first | assumption | go_simp
      have fx1 : w2.frozen? ⟨w.heap.size, 1, none⟩ = false := by rw [hf2 _ _ (by first | omega | (simp; done) | (simp; omega))]; first | assumption | go_simp
      have cx2 : w2.cell? ⟨w.heap.size, 2, none⟩ = some (Value.int .i64 (n)) := by rw [hc2 _ _ (by first | omega | (simp; done) | (simp; omega))]; first | assumption | go_simp
      have fx2 : w2.frozen? ⟨w.heap.size, 2, none⟩ = false := by rw [hf2 _ _ (by first | omega | (simp; done) | (simp; omega))]; first | assumption | go_simp
      have cx3 : w2.cell? ⟨w.heap.size, 3, none⟩ = some (Value.bool ar) := by rw [hc2 _ _ (by first | omega | (simp; done) | (simp; omega))]; first | assumption | go_simp
      have fx3 : w2.frozen? ⟨w.heap.size, 3, none⟩ = false := by rw [hf2 _ _ (by first | omega | (simp; done) | (simp; omega))]; first | assumption | go_simp
      have cx4 : w2.cell? ⟨w.heap.size, 4, none⟩ = some (Value.bool dn) := by rw [hc2 _ _ (by first | omega | (simp; done) | (simp; omega))]; first | assumption | go_simp
      have fx4 : w2.frozen? ⟨w.heap.size, 4, none⟩ = false := by rw [hf2 _ _ (by first | omega | (simp; done) | (simp; omega))]; first | assumption | go_simp
      have ltr2 : w.heap.size + 1 < w2.heap.size := by omega
      have cr0 : w2.cell? ⟨w.heap.size + 1, 0, none⟩ = some (Value.string ⟨#[]⟩) := by rw [hc2 _ _ (by first | omega | (simp; done) | (simp; omega))]; first | assumption | go_simp
      have fr0 : w2.frozen? ⟨w.heap.size + 1, 0, none⟩ = false := by rw [hf2 _ _ (by first | omega | (simp; done) | (simp; omega))]; first | assumption | go_simp
      have cr1 : w2.cell? ⟨w.heap.size + 1, 1, none⟩ = some (Value.string ⟨#[]⟩) := by rw [hc2 _ _ (by first | omega | (simp; done) | (simp; omega))]; first | assumption | go_simp
      have fr1 : w2.frozen? ⟨w.heap.size + 1, 1, none⟩ = false := by rw [hf2 _ _ (by first | omega | (simp; done) | (simp; omega))]; first | assumption | go_simp
      have cr2 : w2.cell? ⟨w.heap.size + 1, 2, none⟩ = some (Value.int .i64 (0)) := by rw [hc2 _ _ (by first | omega | (simp; done) | (simp; omega))]; first | assumption | go_simp
      have fr2 : w2.frozen? ⟨w.heap.size + 1, 2, none⟩ = false := by rw [hf2 _ _ (by first | omega | (simp; done) | (simp; omega))]; first | assumption | go_simp
      have cr3 : w2.cell? ⟨w.heap.size + 1, 3, none⟩ = some (Value.bool false) := by rw [hc2 _ _ (by first | omega | (simp; done) | (simp; omega))]; first | assumption | go_simp
      have fr3 : w2.frozen? ⟨w.heap.size + 1, 3, none⟩ = false := by rw [hf2 _ _ (by first | omega | (simp; done) | (simp; omega))]; first | assumption | go_simp
      have cr4 : w2.cell? ⟨w.heap.size + 1, 4, none⟩ = some (Value.bool false) := by rw [hc2 _ _ (by first | omega | (simp; done) | (simp; omega))]; first | assumption | go_simp
      have fr4 : w2.frozen? ⟨w.heap.size + 1, 4, none⟩ = false := by rw [hf2 _ _ (by first | omega | (simp; done) | (simp; omega))]; first | assumption | go_simp
      clear hc2 hf2
      clear cx0' fx0' cx1' fx1' cx2' fx2' cx3' fx3' cx4' fx4' cr0' fr0' cr1' fr1' cr2' fr2' cr3' fr3' cr4' fr4'
      go_wp2
      refine bodyPost_ret (v := .tuple #[tapeV ⟨f, lo, n', ar, dn'⟩, .int .i64 16]) (by simp [results, Try.results24, go_sem, *]) rfl ⟨by rw [HV.out] <;> rfl, ?_⟩
      repeat (first | (with_reducible refine Below.drew ?_) | (with_reducible refine bal ?_ _) | ((with_reducible refine bst ?_ ?_ _); rotate_left; focus (first | (simp; done) | (simp; omega))))
      exact hB2
    · have hv : syncT ⟨f, lo, n, ar, dn⟩ = (⟨f ++ lo, [], n', ar, dn'⟩, 0) := by simp [syncT, HRD.out, HS.out, *]
      have HV := Lib.hid hv
      clear hv
      go_enter Try.func24, Try.ntmps24
      go_wp2_with fail
      refine (ready_any f lo n ar dn hf hl _).mono ?_
      rintro e w1 ⟨rfl, hb1⟩
      rw [HRD.out]
      obtain ⟨hc1, hf1⟩ := bcell hb1
      have hz1 := hb1.size
      try simp at hz1
      have hB1 : Below w.heap.size w w1 := by
        refine bt ?_ hb1
        repeat (first | (with_reducible refine Below.drew ?_) | (with_reducible refine bal ?_ _) | ((with_reducible refine bst ?_ ?_ _); rotate_left; focus (first | (simp; done) | (simp; omega))))
        exact (b0 w)
      have ltx1 : w.heap.size < w1.heap.size := by omega
      have cx0' : w1.cell? ⟨w.heap.size, 0, none⟩ = some (Value.string ⟨(f).toArray⟩) := by rw [hc1 _ _ (by first | omega | (simp; done) | (simp; omega))]; first | assumption | go_simp
      have fx0' : w1.frozen? ⟨w.heap.size, 0, none⟩ = false := by rw [hf1 _ _ (by first | omega | (simp; done) | (simp; omega))]; first | assumption | go_simp
      have cx1' : w1.cell? ⟨w.heap.size, 1, none⟩ = some (Value.string ⟨(lo).toArray⟩) := by rw [hc1 _ _ (by first | omega | (simp; done) | (simp; omega))]; first | assumption | go_simp
      have fx1' : w1.frozen? ⟨w.heap.size, 1, none⟩ = false := by rw [hf1 _ _ (by first | omega | (simp; done) | (simp; omega))]; first | assumption | go_simp
      have cx2' : w1.cell? ⟨w.heap.size, 2, none⟩ = some (Value.int .i64 (n)) := by rw [hc1 _ _ (by first | omega | (simp; done) | (simp; omega))]; first | assumption | go_simp
      have fx2' : w1.frozen? ⟨w.heap.size, 2, none⟩ = false := by rw [hf1 _ _ (by first | omega | (simp; done) | (simp; omega))]; first | assumption | go_simp
      have cx3' : w1.cell? ⟨w.heap.size, 3, none⟩ = some (Value.bool ar) := by rw [hc1 _ _ (by first | omega | (simp; done) | (simp; omega))]; first | assumption | go_simp
      have fx3' : w1.frozen? ⟨w.heap.size, 3, none⟩ = false := by rw [hf1 _ _ (by first | omega | (simp; done) | (simp; omega))]; first | assumption | go_simp
      have cx4' : w1.cell? ⟨w.heap.size, 4, none⟩ = some (Value.bool dn) := by rw [hc1 _ _ (by first | omega | (simp; done) | (simp; omega))]; first | assumption | go_simp
      have fx4' : w1.frozen? ⟨w.heap.size, 4, none⟩ = false := by rw [hf1 _ _ (by first | omega | (simp; done) | (simp; omega))]; first | assumption | go_simp
      have ltr1 : w.heap.size + 1 < w1.heap.size := by omega
      have cr0' : w1.cell? ⟨w.heap.size + 1, 0, none⟩ = some (Value.string ⟨#[]⟩) := by rw [hc1 _ _ (by first | omega | (simp; done) | (simp; omega))]; first | assumption | go_simp
      have fr0' : w1.frozen? ⟨w.heap.size + 1, 0, none⟩ = false := by rw [hf1 _ _ (by first | omega | (simp; done) | (simp; omega))]; first | assumption | go_simp
      have cr1' : w1.cell? ⟨w.heap.size + 1, 1, none⟩ = some (Value.string ⟨#[]⟩) := by rw [hc1 _ _ (by first | omega | (simp; done) | (simp; omega))]; first | assumption | go_simp
      have fr1' : w1.frozen? ⟨w.heap.size + 1, 1, none⟩ = false := by rw [hf1 _ _ (by first | omega | (simp; done) | (simp; omega))]; first | assumption | go_simp
      have cr2' : w1.cell? ⟨w.heap.size + 1, 2, none⟩ = some (Value.int .i64 (0)) := by rw [hc1 _ _ (by first | omega | (simp; done) | (simp; omega))]; first | assumption | go_simp
      have fr2' : w1.frozen? ⟨w.heap.size + 1, 2, none⟩ = false := by rw [hf1 _ _ (by first | omega | (simp; done) | (simp; omega))]; first | assumption | go_simp
      have cr3' : w1.cell? ⟨w.heap.size + 1, 3, none⟩ = some (Value.bool false) := by rw [hc1 _ _ (by first | omega | (simp; done) | (simp; omega))]; first | assumption | go_simp
      have fr3' : w1.frozen? ⟨w.heap.size + 1, 3, none⟩ = false := by rw [hf1 _ _ (by first | omega | (simp; done) | (simp; omega))]; first | assumption | go_simp
      have cr4' : w1.cell? ⟨w.heap.size + 1, 4, none⟩ = some (Value.bool false) := by rw [hc1 _ _ (by first | omega | (simp; done) | (simp; omega))]; first | assumption | go_simp
      have fr4' : w1.frozen? ⟨w.heap.size + 1, 4, none⟩ = false := by rw [hf1 _ _ (by first | omega | (simp; done) | (simp; omega))]; first | assumption | go_simp
      clear hc1 hf1
      go_wp2_with fail
      refine (spend_any f lo n ar dn hf hl ⟨hn1, hn2⟩ _).mono ?_
      rintro e w2 ⟨rfl, hb2⟩
      rw [HS.out]
      obtain ⟨hc2, hf2⟩ := bcell hb2
      have hz2 := hb2.size
      try simp at hz2
      have hB2 : Below w.heap.size w w2 := by
        refine bt ?_ hb2
        repeat (first | (with_reducible refine Below.drew ?_) | (with_reducible refine bal ?_ _) | ((with_reducible refine bst ?_ ?_ _); rotate_left; focus (first | (simp; done) | (simp; omega))))
        exact hB1
      have ltx2 : w.heap.size < w2.heap.size := by omega
      have cx0 : w2.cell? ⟨w.heap.size, 0, none⟩ = some (Value.string ⟨(f).toArray⟩) := by rw [hc2 _ _ (by first | omega | (simp; done) | (simp; omega))]; first | assumption | go_simp
      have fx0 : w2.frozen? ⟨w.heap.size, 0, none⟩ = false := by rw [hf2 _ _ (by first | omega | (simp; done) | (simp; omega))]; first | assumption | go_simp
      have cx1 : w2.cell? ⟨w.heap.size, 1, none⟩ = some (Value.string ⟨(lo).toArray⟩) := by rw [hc2 _ _ (by first | omega | (simp; done) | (simp; omega))]; first | assumption | go_simp
      have fx1 : w2.frozen? ⟨w.heap.size, 1, none⟩ = false := by rw [hf2 _ _ (by first | omega | (simp; done) | (simp; omega))]; first | assumption | go_simp
      have cx2 : w2.cell? ⟨w.heap.size, 2, none⟩ = some (Value.int .i64 (n)) := by rw [hc2 _ _ (by first | omega | (simp; done) | (simp; omega))]; first | assumption | go_simp
      have fx2 : w2.frozen? ⟨w.heap.size, 2, none⟩ = false := by rw [hf2 _ _ (by first | omega | (simp; done) | (simp; omega))]; first | assumption | go_simp
      have cx3 : w2.cell? ⟨w.heap.size, 3, none⟩ = some (Value.bool ar) := by rw [hc2 _ _ (by first | omega | (simp; done) | (simp; omega))]; first | assumption | go_simp
      have fx3 : w2.frozen? ⟨w.heap.size, 3, none⟩ = false := by rw [hf2 _ _ (by first | omega | (simp; done) | (simp; omega))]; first | assumption | go_simp
      have cx4 : w2.cell? ⟨w.heap.size, 4, none⟩ = some (Value.bool dn) := by rw [hc2 _ _ (by first | omega | (simp; done) | (simp; omega))]; first | assumption | go_simp
      have fx4 : w2.frozen? ⟨w.heap.size, 4, none⟩ = false := by rw [hf2 _ _ (by first | omega | (simp; done) | (simp; omega))]; first | assumption | go_simp
      have ltr2 : w.heap.size + 1 < w2.heap.size := by omega
      have cr0 : w2.cell? ⟨w.heap.size + 1, 0, none⟩ = some (Value.string ⟨#[]⟩) := by rw [hc2 _ _ (by first | omega | (simp; done) | (simp; omega))]; first | assumption | go_simp
      have fr0 : w2.frozen? ⟨w.heap.size + 1, 0, none⟩ = false := by rw [hf2 _ _ (by first | omega | (simp; done) | (simp; omega))]; first | assumption | go_simp
      have cr1 : w2.cell? ⟨w.heap.size + 1, 1, none⟩ = some (Value.string ⟨#[]⟩) := by rw [hc2 _ _ (by first | omega | (simp; done) | (simp; omega))]; first | assumption | go_simp
      have fr1 : w2.frozen? ⟨w.heap.size + 1, 1, none⟩ = false := by rw [hf2 _ _ (by first | omega | (simp; done) | (simp; omega))]; first | assumption | go_simp
      have cr2 : w2.cell? ⟨w.heap.size + 1, 2, none⟩ = some (Value.int .i64 (0)) := by rw [hc2 _ _ (by first | omega | (simp; done) | (simp; omega))]; first | assumption | go_simp
      have fr2 : w2.frozen? ⟨w.heap.size + 1, 2, none⟩ = false := by rw [hf2 _ _ (by first | omega | (simp; done) | (simp; omega))]; first | assumption | go_simp
      have cr3 : w2.cell? ⟨w.heap.size + 1, 3, none⟩ = some (Value.bool false) := by rw [hc2 _ _ (by first | omega | (simp; done) | (simp; omega))]; first | assumption | go_simp
      have fr3 : w2.frozen? ⟨w.heap.size + 1, 3, none⟩ = false := by rw [hf2 _ _ (by first | omega | (simp; done) | (simp; omega))]; first | assumption | go_simp
      have cr4 : w2.cell? ⟨w.heap.size + 1, 4, none⟩ = some (Value.bool false) := by rw [hc2 _ _ (by first | omega | (simp; done) | (simp; omega))]; first | assumption | go_simp
      have fr4 : w2.frozen? ⟨w.heap.size + 1, 4, none⟩ = false := by rw [hf2 _ _ (by first | omega | (simp; done) | (simp; omega))]; first | assumption | go_simp
      clear hc2 hf2
      clear cx0' fx0' cx1' fx1' cx2' fx2' cx3' fx3' cx4' fx4' cr0' fr0' cr1' fr1' cr2' fr2' cr3' fr3' cr4' fr4'
      go_upto_region 7 with (fail)
      generalize hW : World.setCell _ _ _ = w3
      have ltx3 : w.heap.size < w3.heap.size := by subst hW; simp; omega
      have cx0'' : w3.cell? ⟨w.heap.size, 0, none⟩ = some (Value.string ⟨(f).toArray⟩) := by subst hW; go_simp
      have fx0'' : w3.frozen? ⟨w.heap.size, 0, none⟩ = false := by subst hW; go_simp
      have cx1'' : w3.cell? ⟨w.heap.size, 1, none⟩ = some (Value.string ⟨(lo).toArray⟩) := by subst hW; go_simp
      have fx1'' : w3.frozen? ⟨w.heap.size, 1, none⟩ = false := by subst hW; go_simp
      have cx2'' : w3.cell? ⟨w.heap.size, 2, none⟩ = some (Value.int .i64 (n')) := by subst hW; go_simp
      have fx2'' : w3.frozen? ⟨w.heap.size, 2, none⟩ = false := by subst hW; go_simp
      have cx3'' : w3.cell? ⟨w.heap.size, 3, none⟩ = some (Value.bool ar) := by subst hW; go_simp
      have fx3'' : w3.frozen? ⟨w.heap.size, 3, none⟩ = false := by subst hW; go_simp
      have cx4'' : w3.cell? ⟨w.heap.size, 4, none⟩ = some (Value.bool dn') := by subst hW; go_simp
      have fx4'' : w3.frozen? ⟨w.heap.size, 4, none⟩ = false := by subst hW; go_simp
      have ltr3 : w.heap.size + 1 < w3.heap.size := by subst hW; simp; omega
      have cr0'' : w3.cell? ⟨w.heap.size + 1, 0, none⟩ = some (Value.string ⟨#[]⟩) := by subst hW; go_simp
      have fr0'' : w3.frozen? ⟨w.heap.size + 1, 0, none⟩ = false := by subst hW; go_simp
      have cr1'' : w3.cell? ⟨w.heap.size + 1, 1, none⟩ = some (Value.string ⟨#[]⟩) := by subst hW; go_simp
      have fr1'' : w3.frozen? ⟨w.heap.size + 1, 1, none⟩ = false := by subst hW; go_simp
      have cr2'' : w3.cell? ⟨w.heap.size + 1, 2, none⟩ = some (Value.int .i64 (0)) := by subst hW; go_simp
      have fr2'' : w3.frozen? ⟨w.heap.size + 1, 2, none⟩ = false := by subst hW; go_simp
      have cr3'' : w3.cell? ⟨w.heap.size + 1, 3, none⟩ = some (Value.bool false) := by subst hW; go_simp
      have fr3'' : w3.frozen? ⟨w.heap.size + 1, 3, none⟩ = false := by subst hW; go_simp
      have cr4'' : w3.cell? ⟨w.heap.size + 1, 4, none⟩ = some (Value.bool false) := by subst hW; go_simp
      have fr4'' : w3.frozen? ⟨w.heap.size + 1, 4, none⟩ = false := by subst hW; go_simp
      have hB3 : Below w.heap.size w w3 := by
        subst hW
        repeat (first | (with_reducible refine Below.drew ?_) | (with_reducible refine bal ?_ _) | ((with_reducible refine bst ?_ ?_ _); rotate_left; focus (first | (simp; done) | (simp; omega))))
        exact hB2
      clear hW cx0 fx0 cx1 fx1 cx2 fx2 cx3 fx3 cx4 fx4 cr0 fr0 cr1 fr1 cr2 fr2 cr3 fr3 cr4 fr4
      go_wp2
      refine bodyPost_ret (v := .tuple #[tapeV ⟨f ++ lo, [], n', ar, dn'⟩, .int .i64 0]) (by simp [results, Try.results24, go_sem, *]) rfl ⟨by rw [HV.out] <;> rfl, ?_⟩
      repeat (first | (with_reducible refine Below.drew ?_) | (with_reducible refine bal ?_ _) | ((with_reducible refine bst ?_ ?_ _); rotate_left; focus (first | (simp; done) | (simp; omega))))
      exact hB3
  · have hv : syncT ⟨f, lo, n, ar, dn⟩ = (⟨f, lo, n, ar, dn⟩, r) := by simp [syncT, HRD.out, hr0]
    have HV := Lib.hid hv
    clear hv
    have hne : ((r : Int) != 0) = true := by simp [hr0]
    clear hr0
    go_enter Try.func24, Try.ntmps24
    go_wp2_with fail
    refine (ready_any f lo n ar dn hf hl _).mono ?_
    rintro e w1 ⟨rfl, hb1⟩
    rw [HRD.out]
    obtain ⟨hc1, hf1⟩ := bcell hb1
    have hz1 := hb1.size
    try simp at hz1
    have hB1 : Below w.heap.size w w1 := by
      refine bt ?_ hb1
      repeat (first | (with_reducible refine Below.drew ?_) | (with_reducible refine bal ?_ _) | ((with_reducible refine bst ?_ ?_ _); rotate_left; focus (first | (simp; done) | (simp; omega))))
      exact (b0 w)
    have ltx1 : w.heap.size < w1.heap.size := by omega
    have cx0' : w1.cell? ⟨w.heap.size, 0, none⟩ = some (Value.string ⟨(f).toArray⟩) := by rw [hc1 _ _ (by first | omega | (simp; done) | (simp; omega))]; first | assumption | go_simp
    have fx0' : w1.frozen? ⟨w.heap.size, 0, none⟩ = false := by rw [hf1 _ _ (by first | omega | (simp; done) | (simp; omega))]; first | assumption | go_simp
    have cx1' : w1.cell? ⟨w.heap.size, 1, none⟩ = some (Value.string ⟨(lo).toArray⟩) := by rw [hc1 _ _ (by first | omega | (simp; done) | (simp; omega))]; first | assumption | go_simp
    have fx1' : w1.frozen? ⟨w.heap.size, 1, none⟩ = false := by rw [hf1 _ _ (by first | omega | (simp; done) | (simp; omega))]; first | assumption | go_simp
    have cx2' : w1.cell? ⟨w.heap.size, 2, none⟩ = some (Value.int .i64 (n)) := by rw [hc1 _ _ (by first | omega | (simp; done) | (simp; omega))]; first | assumption | go_simp
    have fx2' : w1.frozen? ⟨w.heap.size, 2, none⟩ = false := by rw [hf1 _ _ (by first | omega | (simp; done) | (simp; omega))]; first | assumption | go_simp
    have cx3' : w1.cell? ⟨w.heap.size, 3, none⟩ = some (Value.bool ar) := by rw [hc1 _ _ (by first | omega | (simp; done) | (simp; omega))]; first | assumption | go_simp
    have fx3' : w1.frozen? ⟨w.heap.size, 3, none⟩ = false := by rw [hf1 _ _ (by first | omega | (simp; done) | (simp; omega))]; first | assumption | go_simp
    have cx4' : w1.cell? ⟨w.heap.size, 4, none⟩ = some (Value.bool dn) := by rw [hc1 _ _ (by first | omega | (simp; done) | (simp; omega))]; first | assumption | go_simp
    have fx4' : w1.frozen? ⟨w.heap.size, 4, none⟩ = false := by rw [hf1 _ _ (by first | omega | (simp; done) | (simp; omega))]; first | assumption | go_simp
    have ltr1 : w.heap.size + 1 < w1.heap.size := by omega
    have cr0' : w1.cell? ⟨w.heap.size + 1, 0, none⟩ = some (Value.string ⟨#[]⟩) := by rw [hc1 _ _ (by first | omega | (simp; done) | (simp; omega))]; first | assumption | go_simp
    have fr0' : w1.frozen? ⟨w.heap.size + 1, 0, none⟩ = false := by rw [hf1 _ _ (by first | omega | (simp; done) | (simp; omega))]; first | assumption | go_simp
    have cr1' : w1.cell? ⟨w.heap.size + 1, 1, none⟩ = some (Value.string ⟨#[]⟩) := by rw [hc1 _ _ (by first | omega | (simp; done) | (simp; omega))]; first | assumption | go_simp
    have fr1' : w1.frozen? ⟨w.heap.size + 1, 1, none⟩ = false := by rw [hf1 _ _ (by first | omega | (simp; done) | (simp; omega))]; first | assumption | go_simp
    have cr2' : w1.cell? ⟨w.heap.size + 1, 2, none⟩ = some (Value.int .i64 (0)) := by rw [hc1 _ _ (by first | omega | (simp; done) | (simp; omega))]; first | assumption | go_simp
    have fr2' : w1.frozen? ⟨w.heap.size + 1, 2, none⟩ = false := by rw [hf1 _ _ (by first | omega | (simp; done) | (simp; omega))]; first | assumption | go_simp
    have cr3' : w1.cell? ⟨w.heap.size + 1, 3, none⟩ = some (Value.bool false) := by rw [hc1 _ _ (by first | omega | (simp; done) | (simp; omega))]; first | assumption | go_simp
    have fr3' : w1.frozen? ⟨w.heap.size + 1, 3, none⟩ = false := by rw [hf1 _ _ (by first | omega | (simp; done) | (simp; omega))]; first | assumption | go_simp
    have cr4' : w1.cell? ⟨w.heap.size + 1, 4, none⟩ = some (Value.bool false) := by rw [hc1 _ _ (by first | omega | (simp; done) | (simp; omega))]; first | assumption | go_simp
    have fr4' : w1.frozen? ⟨w.heap.size + 1, 4, none⟩ = false := by rw [hf1 _ _ (by first | omega | (simp; done) | (simp; omega))]; first | assumption | go_simp
    clear hc1 hf1
    go_wp2
    refine bodyPost_ret (v := .tuple #[tapeV ⟨f, lo, n, ar, dn⟩, .int .i64 (r : Int)]) (by simp [results, Try.results24, go_sem, *]) rfl ⟨by rw [HV.out] <;> rfl, ?_⟩
    repeat (first | (with_reducible refine Below.drew ?_) | (with_reducible refine bal ?_ _) | ((with_reducible refine bst ?_ ?_ _); rotate_left; focus (first | (simp; done) | (simp; omega))))
    exact hB1
set_option maxHeartbeats 3200000 in
set_option maxRecDepth 100000 in
theorem append_any (f lo : List UInt8) (n : Int) (ar dn : Bool) (hf : f.length ≤ 140737488351232) (hl : lo.length ≤ 140737488351232) (s : List UInt8) (_hs : s.length ≤ 140737488351232) (w : World) :
    Calls Try.prog 23 #[tapeV ⟨f, lo, n, ar, dn⟩, .string ⟨s.toArray⟩] w fun e w' => e = .returned (.tuple #[tapeV (appendT ⟨f, lo, n, ar, dn⟩ s).1, .int .i64 (appendT ⟨f, lo, n, ar, dn⟩ s).2]) ∧ Below w.heap.size w w' := by
  obtain ⟨r, hr⟩ : ∃ r, readyT ⟨f, lo, n, ar, dn⟩ = r := ⟨_, rfl⟩
  have HRD := Lib.hid hr
  clear hr
  by_cases hr0 : r = 0
  · subst hr0
    obtain ⟨hrr, hdn⟩ := ready_right _ HRD.out
    obtain ⟨hp1, hn1, hn2, _⟩ := right_parts _ hrr
    simp only at hp1 hn1 hn2
    clear hrr hdn
    by_cases hq0 : 1048576 < f.length + lo.length + s.length
    · have hv : appendT ⟨f, lo, n, ar, dn⟩ s = (⟨f, lo, n, ar, dn⟩, 6) := by simp [appendT, HRD.out, *]
      have HV := Lib.hid hv
      clear hv
      have hq : (1048576 : Int) - f.length - lo.length < s.length := by omega
      go_enter Try.func23, Try.ntmps23
      go_wp2_with fail
      refine (ready_any f lo n ar dn hf hl _).mono ?_
      rintro e w1 ⟨rfl, hb1⟩
      rw [HRD.out]
      obtain ⟨hc1, hf1⟩ := bcell hb1
      have hz1 := hb1.size
      try simp at hz1
      have hB1 : Below w.heap.size w w1 := by
        refine bt ?_ hb1
        repeat (first | (with_reducible refine Below.drew ?_) | (with_reducible refine bal ?_ _) | ((with_reducible refine bst ?_ ?_ _); rotate_left; focus (first | (simp; done) | (simp; omega))))
        exact (b0 w)
      have ltx1 : w.heap.size < w1.heap.size := by omega
      have cx0' : w1.cell? ⟨w.heap.size, 0, none⟩ = some (Value.string ⟨(f).toArray⟩) := by rw [hc1 _ _ (by first | omega | (simp; done) | (simp; omega))]; first | assumption | go_simp
      have fx0' : w1.frozen? ⟨w.heap.size, 0, none⟩ = false := by rw [hf1 _ _ (by first | omega | (simp; done) | (simp; omega))]; first | assumption | go_simp
      have cx1' : w1.cell? ⟨w.heap.size, 1, none⟩ = some (Value.string ⟨(lo).toArray⟩) := by rw [hc1 _ _ (by first | omega | (simp; done) | (simp; omega))]; first | assumption | go_simp
      have fx1' : w1.frozen? ⟨w.heap.size, 1, none⟩ = false := by rw [hf1 _ _ (by first | omega | (simp; done) | (simp; omega))]; first | assumption | go_simp
      have cx2' : w1.cell? ⟨w.heap.size, 2, none⟩ = some (Value.int .i64 (n)) := by rw [hc1 _ _ (by first | omega | (simp; done) | (simp; omega))]; first | assumption | go_simp
      have fx2' : w1.frozen? ⟨w.heap.size, 2, none⟩ = false := by rw [hf1 _ _ (by first | omega | (simp; done) | (simp; omega))]; first | assumption | go_simp
      have cx3' : w1.cell? ⟨w.heap.size, 3, none⟩ = some (Value.bool ar) := by rw [hc1 _ _ (by first | omega | (simp; done) | (simp; omega))]; first | assumption | go_simp
      have fx3' : w1.frozen? ⟨w.heap.size, 3, none⟩ = false := by rw [hf1 _ _ (by first | omega | (simp; done) | (simp; omega))]; first | assumption | go_simp
      have cx4' : w1.cell? ⟨w.heap.size, 4, none⟩ = some (Value.bool dn) := by rw [hc1 _ _ (by first | omega | (simp; done) | (simp; omega))]; first | assumption | go_simp
      have fx4' : w1.frozen? ⟨w.heap.size, 4, none⟩ = false := by rw [hf1 _ _ (by first | omega | (simp; done) | (simp; omega))]; first | assumption | go_simp
      have ltr1 : w.heap.size + 1 < w1.heap.size := by omega
      have cr0' : w1.cell? ⟨w.heap.size + 1, 0, none⟩ = some (Value.string ⟨#[]⟩) := by rw [hc1 _ _ (by first | omega | (simp; done) | (simp; omega))]; first | assumption | go_simp
      have fr0' : w1.frozen? ⟨w.heap.size + 1, 0, none⟩ = false := by rw [hf1 _ _ (by first | omega | (simp; done) | (simp; omega))]; first | assumption | go_simp
      have cr1' : w1.cell? ⟨w.heap.size + 1, 1, none⟩ = some (Value.string ⟨#[]⟩) := by rw [hc1 _ _ (by first | omega | (simp; done) | (simp; omega))]; first | assumption | go_simp
      have fr1' : w1.frozen? ⟨w.heap.size + 1, 1, none⟩ = false := by rw [hf1 _ _ (by first | omega | (simp; done) | (simp; omega))]; first | assumption | go_simp
      have cr2' : w1.cell? ⟨w.heap.size + 1, 2, none⟩ = some (Value.int .i64 (0)) := by rw [hc1 _ _ (by first | omega | (simp; done) | (simp; omega))]; first | assumption | go_simp
      have fr2' : w1.frozen? ⟨w.heap.size + 1, 2, none⟩ = false := by rw [hf1 _ _ (by first | omega | (simp; done) | (simp; omega))]; first | assumption | go_simp
      have cr3' : w1.cell? ⟨w.heap.size + 1, 3, none⟩ = some (Value.bool false) := by rw [hc1 _ _ (by first | omega | (simp; done) | (simp; omega))]; first | assumption | go_simp
      have fr3' : w1.frozen? ⟨w.heap.size + 1, 3, none⟩ = false := by rw [hf1 _ _ (by first | omega | (simp; done) | (simp; omega))]; first | assumption | go_simp
      have cr4' : w1.cell? ⟨w.heap.size + 1, 4, none⟩ = some (Value.bool false) := by rw [hc1 _ _ (by first | omega | (simp; done) | (simp; omega))]; first | assumption | go_simp
      have fr4' : w1.frozen? ⟨w.heap.size + 1, 4, none⟩ = false := by rw [hf1 _ _ (by first | omega | (simp; done) | (simp; omega))]; first | assumption | go_simp
      clear hc1 hf1
      go_wp2
      refine bodyPost_ret (v := .tuple #[tapeV ⟨f, lo, n, ar, dn⟩, .int .i64 6]) (by simp [results, Try.results23, go_sem, *]) rfl ⟨by rw [HV.out] <;> rfl, ?_⟩
      repeat (first | (with_reducible refine Below.drew ?_) | (with_reducible refine bal ?_ _) | ((with_reducible refine bst ?_ ?_ _); rotate_left; focus (first | (simp; done) | (simp; omega))))
      exact hB1
    · skip
      have hq : ¬ ((1048576 : Int) - f.length - lo.length < s.length) := by omega
      obtain ⟨n', dn', ok, hs⟩ := spend_form f lo n ar dn
      have HS := Lib.hid hs
      clear hs
      cases ok
      · have hv : appendT ⟨f, lo, n, ar, dn⟩ s = (⟨f, lo, n', ar, dn'⟩, 16) := by simp [appendT, HRD.out, HS.out, *]
        have HV := Lib.hid hv
        clear hv
        go_enter Try.func23, Try.ntmps23
        go_wp2_with fail
        refine (ready_any f lo n ar dn hf hl _).mono ?_
        rintro e w1 ⟨rfl, hb1⟩
        rw [HRD.out]
        obtain ⟨hc1, hf1⟩ := bcell hb1
        have hz1 := hb1.size
        try simp at hz1
        have hB1 : Below w.heap.size w w1 := by
          refine bt ?_ hb1
          repeat (first | (with_reducible refine Below.drew ?_) | (with_reducible refine bal ?_ _) | ((with_reducible refine bst ?_ ?_ _); rotate_left; focus (first | (simp; done) | (simp; omega))))
          exact (b0 w)
        have ltx1 : w.heap.size < w1.heap.size := by omega
        have cx0' : w1.cell? ⟨w.heap.size, 0, none⟩ = some (Value.string ⟨(f).toArray⟩) := by rw [hc1 _ _ (by first | omega | (simp; done) | (simp; omega))]; first | assumption | go_simp
        have fx0' : w1.frozen? ⟨w.heap.size, 0, none⟩ = false := by rw [hf1 _ _ (by first | omega | (simp; done) | (simp; omega))]; first | assumption | go_simp
        have cx1' : w1.cell? ⟨w.heap.size, 1, none⟩ = some (Value.string ⟨(lo).toArray⟩) := by rw [hc1 _ _ (by first | omega | (simp; done) | (simp; omega))]; first | assumption | go_simp
        have fx1' : w1.frozen? ⟨w.heap.size, 1, none⟩ = false := by rw [hf1 _ _ (by first | omega | (simp; done) | (simp; omega))]; first | assumption | go_simp
        have cx2' : w1.cell? ⟨w.heap.size, 2, none⟩ = some (Value.int .i64 (n)) := by rw [hc1 _ _ (by first | omega | (simp; done) | (simp; omega))]; first | assumption | go_simp
        have fx2' : w1.frozen? ⟨w.heap.size, 2, none⟩ = false := by rw [hf1 _ _ (by first | omega | (simp; done) | (simp; omega))]; first | assumption | go_simp
        have cx3' : w1.cell? ⟨w.heap.size, 3, none⟩ = some (Value.bool ar) := by rw [hc1 _ _ (by first | omega | (simp; done) | (simp; omega))]; first | assumption | go_simp
        have fx3' : w1.frozen? ⟨w.heap.size, 3, none⟩ = false := by rw [hf1 _ _ (by first | omega | (simp; done) | (simp; omega))]; first | assumption | go_simp
        have cx4' : w1.cell? ⟨w.heap.size, 4, none⟩ = some (Value.bool dn) := by rw [hc1 _ _ (by first | omega | (simp; done) | (simp; omega))]; first | assumption | go_simp
        have fx4' : w1.frozen? ⟨w.heap.size, 4, none⟩ = false := by rw [hf1 _ _ (by first | omega | (simp; done) | (simp; omega))]; first | assumption | go_simp
        have ltr1 : w.heap.size + 1 < w1.heap.size := by omega
        have cr0' : w1.cell? ⟨w.heap.size + 1, 0, none⟩ = some (Value.string ⟨#[]⟩) := by rw [hc1 _ _ (by first | omega | (simp; done) | (simp; omega))]; first | assumption | go_simp
        have fr0' : w1.frozen? ⟨w.heap.size + 1, 0, none⟩ = false := by rw [hf1 _ _ (by first | omega | (simp; done) | (simp; omega))]; first | assumption | go_simp
        have cr1' : w1.cell? ⟨w.heap.size + 1, 1, none⟩ = some (Value.string ⟨#[]⟩) := by rw [hc1 _ _ (by first | omega | (simp; done) | (simp; omega))]; first | assumption | go_simp
        have fr1' : w1.frozen? ⟨w.heap.size + 1, 1, none⟩ = false := by rw [hf1 _ _ (by first | omega | (simp; done) | (simp; omega))]; first | assumption | go_simp
        have cr2' : w1.cell? ⟨w.heap.size + 1, 2, none⟩ = some (Value.int .i64 (0)) := by rw [hc1 _ _ (by first | omega | (simp; done) | (simp; omega))]; first | assumption | go_simp
        have fr2' : w1.frozen? ⟨w.heap.size + 1, 2, none⟩ = false := by rw [hf1 _ _ (by first | omega | (simp; done) | (simp; omega))]; first | assumption | go_simp
        have cr3' : w1.cell? ⟨w.heap.size + 1, 3, none⟩ = some (Value.bool false) := by rw [hc1 _ _ (by first | omega | (simp; done) | (simp; omega))]; first | assumption | go_simp
        have fr3' : w1.frozen? ⟨w.heap.size + 1, 3, none⟩ = false := by rw [hf1 _ _ (by first | omega | (simp; done) | (simp; omega))]; first | assumption | go_simp
        have cr4' : w1.cell? ⟨w.heap.size + 1, 4, none⟩ = some (Value.bool false) := by rw [hc1 _ _ (by first | omega | (simp; done) | (simp; omega))]; first | assumption | go_simp
        have fr4' : w1.frozen? ⟨w.heap.size + 1, 4, none⟩ = false := by rw [hf1 _ _ (by first | omega | (simp; done) | (simp; omega))]; first | assumption | go_simp
        clear hc1 hf1
        go_wp2_with fail
        refine (spend_any f lo n ar dn hf hl ⟨hn1, hn2⟩ _).mono ?_
        rintro e w2 ⟨rfl, hb2⟩
        rw [HS.out]
        obtain ⟨hc2, hf2⟩ := bcell hb2
        have hz2 := hb2.size
        try simp at hz2
        have hB2 : Below w.heap.size w w2 := by
          refine bt ?_ hb2
          repeat (first | (with_reducible refine Below.drew ?_) | (with_reducible refine bal ?_ _) | ((with_reducible refine bst ?_ ?_ _); rotate_left; focus (first | (simp; done) | (simp; omega))))
          exact hB1
        have ltx2 : w.heap.size < w2.heap.size := by omega
        have cx0 : w2.cell? ⟨w.heap.size, 0, none⟩ = some (Value.string ⟨(f).toArray⟩) := by rw [hc2 _ _ (by first | omega | (simp; done) | (simp; omega))]; first | assumption | go_simp
        have fx0 : w2.frozen? ⟨w.heap.size, 0, none⟩ = false := by rw [hf2 _ _ (by first | omega | (simp; done) | (simp; omega))]; first | assumption | go_simp
        have cx1 : w2.cell? ⟨w.heap.size, 1, none⟩ = some (Value.string ⟨(lo).toArray⟩) := by rw [hc2 _ _ (by first | omega | (simp; done) | (simp; omega))]; first | assumption | go_simp
        have fx1 : w2.frozen? ⟨w.heap.size, 1, none⟩ = false := by rw [hf2 _ _ (by first | omega | (simp; done) | (simp; omega))]; first | assumption | go_simp
        have cx2 : w2.cell? ⟨w.heap.size, 2, none⟩ = some (Value.int .i64 (n)) := by rw [hc2 _ _ (by first | omega | (simp; done) | (simp; omega))]; first | assumption | go_simp
        have fx2 : w2.frozen? ⟨w.heap.size, 2, none⟩ = false := by rw [hf2 _ _ (by first | omega | (simp; done) | (simp; omega))]; first | assumption | go_simp
        have cx3 : w2.cell? ⟨w.heap.size, 3, none⟩ = some (Value.bool ar) := by rw [hc2 _ _ (by first | omega | (simp; done) | (simp; omega))]; first | assumption | go_simp
        have fx3 : w2.frozen? ⟨w.heap.size, 3, none⟩ = false := by rw [hf2 _ _ (by first | omega | (simp; done) | (simp; omega))]; first | assumption | go_simp
        have cx4 : w2.cell? ⟨w.heap.size, 4, none⟩ = some (Value.bool dn) := by rw [hc2 _ _ (by first | omega | (simp; done) | (simp; omega))]; first | assumption | go_simp
        have fx4 : w2.frozen? ⟨w.heap.size, 4, none⟩ = false := by rw [hf2 _ _ (by first | omega | (simp; done) | (simp; omega))]; first | assumption | go_simp
        have ltr2 : w.heap.size + 1 < w2.heap.size := by omega
        have cr0 : w2.cell? ⟨w.heap.size + 1, 0, none⟩ = some (Value.string ⟨#[]⟩) := by rw [hc2 _ _ (by first | omega | (simp; done) | (simp; omega))]; first | assumption | go_simp
        have fr0 : w2.frozen? ⟨w.heap.size + 1, 0, none⟩ = false := by rw [hf2 _ _ (by first | omega | (simp; done) | (simp; omega))]; first | assumption | go_simp
        have cr1 : w2.cell? ⟨w.heap.size + 1, 1, none⟩ = some (Value.string ⟨#[]⟩) := by rw [hc2 _ _ (by first | omega | (simp; done) | (simp; omega))]; first | assumption | go_simp
        have fr1 : w2.frozen? ⟨w.heap.size + 1, 1, none⟩ = false := by rw [hf2 _ _ (by first | omega | (simp; done) | (simp; omega))]; first | assumption | go_simp
        have cr2 : w2.cell? ⟨w.heap.size + 1, 2, none⟩ = some (Value.int .i64 (0)) := by rw [hc2 _ _ (by first | omega | (simp; done) | (simp; omega))]; first | assumption | go_simp
        have fr2 : w2.frozen? ⟨w.heap.size + 1, 2, none⟩ = false := by rw [hf2 _ _ (by first | omega | (simp; done) | (simp; omega))]; first | assumption | go_simp
        have cr3 : w2.cell? ⟨w.heap.size + 1, 3, none⟩ = some (Value.bool false) := by rw [hc2 _ _ (by first | omega | (simp; done) | (simp; omega))]; first | assumption | go_simp
        have fr3 : w2.frozen? ⟨w.heap.size + 1, 3, none⟩ = false := by rw [hf2 _ _ (by first | omega | (simp; done) | (simp; omega))]; first | assumption | go_simp
        have cr4 : w2.cell? ⟨w.heap.size + 1, 4, none⟩ = some (Value.bool false) := by rw [hc2 _ _ (by first | omega | (simp; done) | (simp; omega))]; first | assumption | go_simp
        have fr4 : w2.frozen? ⟨w.heap.size + 1, 4, none⟩ = false := by rw [hf2 _ _ (by first | omega | (simp; done) | (simp; omega))]; first | assumption | go_simp
        clear hc2 hf2
        clear cx0' fx0' cx1' fx1' cx2' fx2' cx3' fx3' cx4' fx4' cr0' fr0' cr1' fr1' cr2' fr2' cr3' fr3' cr4' fr4'
        go_wp2
        refine bodyPost_ret (v := .tuple #[tapeV ⟨f, lo, n', ar, dn'⟩, .int .i64 16]) (by simp [results, Try.results23, go_sem, *]) rfl ⟨by rw [HV.out] <;> rfl, ?_⟩
        repeat (first | (with_reducible refine Below.drew ?_) | (with_reducible refine bal ?_ _) | ((with_reducible refine bst ?_ ?_ _); rotate_left; focus (first | (simp; done) | (simp; omega))))
        exact hB2
      · have hv : appendT ⟨f, lo, n, ar, dn⟩ s = (⟨f, lo ++ s, n', ar, dn'⟩, 0) := by simp [appendT, HRD.out, HS.out, *]
        have HV := Lib.hid hv
        clear hv
        go_enter Try.func23, Try.ntmps23
        go_wp2_with fail
        refine (ready_any f lo n ar dn hf hl _).mono ?_
        rintro e w1 ⟨rfl, hb1⟩
        rw [HRD.out]
        obtain ⟨hc1, hf1⟩ := bcell hb1
        have hz1 := hb1.size
        try simp at hz1
        have hB1 : Below w.heap.size w w1 := by
          refine bt ?_ hb1
          repeat (first | (with_reducible refine Below.drew ?_) | (with_reducible refine bal ?_ _) | ((with_reducible refine bst ?_ ?_ _); rotate_left; focus (first | (simp; done) | (simp; omega))))
          exact (b0 w)
        have ltx1 : w.heap.size < w1.heap.size := by omega
        have cx0' : w1.cell? ⟨w.heap.size, 0, none⟩ = some (Value.string ⟨(f).toArray⟩) := by rw [hc1 _ _ (by first | omega | (simp; done) | (simp; omega))]; first | assumption | go_simp
        have fx0' : w1.frozen? ⟨w.heap.size, 0, none⟩ = false := by rw [hf1 _ _ (by first | omega | (simp; done) | (simp; omega))]; first | assumption | go_simp
        have cx1' : w1.cell? ⟨w.heap.size, 1, none⟩ = some (Value.string ⟨(lo).toArray⟩) := by rw [hc1 _ _ (by first | omega | (simp; done) | (simp; omega))]; first | assumption | go_simp
        have fx1' : w1.frozen? ⟨w.heap.size, 1, none⟩ = false := by rw [hf1 _ _ (by first | omega | (simp; done) | (simp; omega))]; first | assumption | go_simp
        have cx2' : w1.cell? ⟨w.heap.size, 2, none⟩ = some (Value.int .i64 (n)) := by rw [hc1 _ _ (by first | omega | (simp; done) | (simp; omega))]; first | assumption | go_simp
        have fx2' : w1.frozen? ⟨w.heap.size, 2, none⟩ = false := by rw [hf1 _ _ (by first | omega | (simp; done) | (simp; omega))]; first | assumption | go_simp
        have cx3' : w1.cell? ⟨w.heap.size, 3, none⟩ = some (Value.bool ar) := by rw [hc1 _ _ (by first | omega | (simp; done) | (simp; omega))]; first | assumption | go_simp
        have fx3' : w1.frozen? ⟨w.heap.size, 3, none⟩ = false := by rw [hf1 _ _ (by first | omega | (simp; done) | (simp; omega))]; first | assumption | go_simp
        have cx4' : w1.cell? ⟨w.heap.size, 4, none⟩ = some (Value.bool dn) := by rw [hc1 _ _ (by first | omega | (simp; done) | (simp; omega))]; first | assumption | go_simp
        have fx4' : w1.frozen? ⟨w.heap.size, 4, none⟩ = false := by rw [hf1 _ _ (by first | omega | (simp; done) | (simp; omega))]; first | assumption | go_simp
        have ltr1 : w.heap.size + 1 < w1.heap.size := by omega
        have cr0' : w1.cell? ⟨w.heap.size + 1, 0, none⟩ = some (Value.string ⟨#[]⟩) := by rw [hc1 _ _ (by first | omega | (simp; done) | (simp; omega))]; first | assumption | go_simp
        have fr0' : w1.frozen? ⟨w.heap.size + 1, 0, none⟩ = false := by rw [hf1 _ _ (by first | omega | (simp; done) | (simp; omega))]; first | assumption | go_simp
        have cr1' : w1.cell? ⟨w.heap.size + 1, 1, none⟩ = some (Value.string ⟨#[]⟩) := by rw [hc1 _ _ (by first | omega | (simp; done) | (simp; omega))]; first | assumption | go_simp
        have fr1' : w1.frozen? ⟨w.heap.size + 1, 1, none⟩ = false := by rw [hf1 _ _ (by first | omega | (simp; done) | (simp; omega))]; first | assumption | go_simp
        have cr2' : w1.cell? ⟨w.heap.size + 1, 2, none⟩ = some (Value.int .i64 (0)) := by rw [hc1 _ _ (by first | omega | (simp; done) | (simp; omega))]; first | assumption | go_simp
        have fr2' : w1.frozen? ⟨w.heap.size + 1, 2, none⟩ = false := by rw [hf1 _ _ (by first | omega | (simp; done) | (simp; omega))]; first | assumption | go_simp
        have cr3' : w1.cell? ⟨w.heap.size + 1, 3, none⟩ = some (Value.bool false) := by rw [hc1 _ _ (by first | omega | (simp; done) | (simp; omega))]; first | assumption | go_simp
        have fr3' : w1.frozen? ⟨w.heap.size + 1, 3, none⟩ = false := by rw [hf1 _ _ (by first | omega | (simp; done) | (simp; omega))]; first | assumption | go_simp
        have cr4' : w1.cell? ⟨w.heap.size + 1, 4, none⟩ = some (Value.bool false) := by rw [hc1 _ _ (by first | omega | (simp; done) | (simp; omega))]; first | assumption | go_simp
        have fr4' : w1.frozen? ⟨w.heap.size + 1, 4, none⟩ = false := by rw [hf1 _ _ (by first | omega | (simp; done) | (simp; omega))]; first | assumption | go_simp
        clear hc1 hf1
        go_wp2_with fail
        refine (spend_any f lo n ar dn hf hl ⟨hn1, hn2⟩ _).mono ?_
        rintro e w2 ⟨rfl, hb2⟩
        rw [HS.out]
        obtain ⟨hc2, hf2⟩ := bcell hb2
        have hz2 := hb2.size
        try simp at hz2
        have hB2 : Below w.heap.size w w2 := by
          refine bt ?_ hb2
          repeat (first | (with_reducible refine Below.drew ?_) | (with_reducible refine bal ?_ _) | ((with_reducible refine bst ?_ ?_ _); rotate_left; focus (first | (simp; done) | (simp; omega))))
          exact hB1
        have ltx2 : w.heap.size < w2.heap.size := by omega
        have cx0 : w2.cell? ⟨w.heap.size, 0, none⟩ = some (Value.string ⟨(f).toArray⟩) := by rw [hc2 _ _ (by first | omega | (simp; done) | (simp; omega))]; first | assumption | go_simp
        have fx0 : w2.frozen? ⟨w.heap.size, 0, none⟩ = false := by rw [hf2 _ _ (by first | omega | (simp; done) | (simp; omega))]; first | assumption | go_simp
        have cx1 : w2.cell? ⟨w.heap.size, 1, none⟩ = some (Value.string ⟨(lo).toArray⟩) := by rw [hc2 _ _ (by first | omega | (simp; done) | (simp; omega))]; first | assumption | go_simp
        have fx1 : w2.frozen? ⟨w.heap.size, 1, none⟩ = false := by rw [hf2 _ _ (by first | omega | (simp; done) | (simp; omega))]; first | assumption | go_simp
        have cx2 : w2.cell? ⟨w.heap.size, 2, none⟩ = some (Value.int .i64 (n)) := by rw [hc2 _ _ (by first | omega | (simp; done) | (simp; omega))]; first | assumption | go_simp
        have fx2 : w2.frozen? ⟨w.heap.size, 2, none⟩ = false := by rw [hf2 _ _ (by first | omega | (simp; done) | (simp; omega))]; first | assumption | go_simp
        have cx3 : w2.cell? ⟨w.heap.size, 3, none⟩ = some (Value.bool ar) := by rw [hc2 _ _ (by first | omega | (simp; done) | (simp; omega))]; first | assumption | go_simp
        have fx3 : w2.frozen? ⟨w.heap.size, 3, none⟩ = false := by rw [hf2 _ _ (by first | omega | (simp; done) | (simp; omega))]; first | assumption | go_simp
        have cx4 : w2.cell? ⟨w.heap.size, 4, none⟩ = some (Value.bool dn) := by rw [hc2 _ _ (by first | omega | (simp; done) | (simp; omega))]; first | assumption | go_simp
        have fx4 : w2.frozen? ⟨w.heap.size, 4, none⟩ = false := by rw [hf2 _ _ (by first | omega | (simp; done) | (simp; omega))]; first | assumption | go_simp
        have ltr2 : w.heap.size + 1 < w2.heap.size := by omega
        have cr0 : w2.cell? ⟨w.heap.size + 1, 0, none⟩ = some (Value.string ⟨#[]⟩) := by rw [hc2 _ _ (by first | omega | (simp; done) | (simp; omega))]; first | assumption | go_simp
        have fr0 : w2.frozen? ⟨w.heap.size + 1, 0, none⟩ = false := by rw [hf2 _ _ (by first | omega | (simp; done) | (simp; omega))]; first | assumption | go_simp
        have cr1 : w2.cell? ⟨w.heap.size + 1, 1, none⟩ = some (Value.string ⟨#[]⟩) := by rw [hc2 _ _ (by first | omega | (simp; done) | (simp; omega))]; first | assumption | go_simp
        have fr1 : w2.frozen? ⟨w.heap.size + 1, 1, none⟩ = false := by rw [hf2 _ _ (by first | omega | (simp; done) | (simp; omega))]; first | assumption | go_simp
        have cr2 : w2.cell? ⟨w.heap.size + 1, 2, none⟩ = some (Value.int .i64 (0)) := by rw [hc2 _ _ (by first | omega | (simp; done) | (simp; omega))]; first | assumption | go_simp
        have fr2 : w2.frozen? ⟨w.heap.size + 1, 2, none⟩ = false := by rw [hf2 _ _ (by first | omega | (simp; done) | (simp; omega))]; first | assumption | go_simp
        have cr3 : w2.cell? ⟨w.heap.size + 1, 3, none⟩ = some (Value.bool false) := by rw [hc2 _ _ (by first | omega | (simp; done) | (simp; omega))]; first | assumption | go_simp
        have fr3 : w2.frozen? ⟨w.heap.size + 1, 3, none⟩ = false := by rw [hf2 _ _ (by first | omega | (simp; done) | (simp; omega))]; first | assumption | go_simp
        have cr4 : w2.cell? ⟨w.heap.size + 1, 4, none⟩ = some (Value.bool false) := by rw [hc2 _ _ (by first | omega | (simp; done) | (simp; omega))]; first | assumption | go_simp
        have fr4 : w2.frozen? ⟨w.heap.size + 1, 4, none⟩ = false := by rw [hf2 _ _ (by first | omega | (simp; done) | (simp; omega))]; first | assumption | go_simp
        clear hc2 hf2
        clear cx0' fx0' cx1' fx1' cx2' fx2' cx3' fx3' cx4' fx4' cr0' fr0' cr1' fr1' cr2' fr2' cr3' fr3' cr4' fr4'
        go_upto_region 9 with (fail)
        generalize hW : World.setCell _ _ _ = w3
        have ltx3 : w.heap.size < w3.heap.size := by subst hW; simp; omega
        have cx0'' : w3.cell? ⟨w.heap.size, 0, none⟩ = some (Value.string ⟨(f).toArray⟩) := by subst hW; go_simp
        have fx0'' : w3.frozen? ⟨w.heap.size, 0, none⟩ = false := by subst hW; go_simp
        have cx1'' : w3.cell? ⟨w.heap.size, 1, none⟩ = some (Value.string ⟨(lo).toArray⟩) := by subst hW; go_simp
        have fx1'' : w3.frozen? ⟨w.heap.size, 1, none⟩ = false := by subst hW; go_simp
        have cx2'' : w3.cell? ⟨w.heap.size, 2, none⟩ = some (Value.int .i64 (n')) := by subst hW; go_simp
        have fx2'' : w3.frozen? ⟨w.heap.size, 2, none⟩ = false := by subst hW; go_simp
        have cx3'' : w3.cell? ⟨w.heap.size, 3, none⟩ = some (Value.bool ar) := by subst hW; go_simp
        have fx3'' : w3.frozen? ⟨w.heap.size, 3, none⟩ = false := by subst hW; go_simp
        have cx4'' : w3.cell? ⟨w.heap.size, 4, none⟩ = some (Value.bool dn') := by subst hW; go_simp
        have fx4'' : w3.frozen? ⟨w.heap.size, 4, none⟩ = false := by subst hW; go_simp
        have ltr3 : w.heap.size + 1 < w3.heap.size := by subst hW; simp; omega
        have cr0'' : w3.cell? ⟨w.heap.size + 1, 0, none⟩ = some (Value.string ⟨#[]⟩) := by subst hW; go_simp
        have fr0'' : w3.frozen? ⟨w.heap.size + 1, 0, none⟩ = false := by subst hW; go_simp
        have cr1'' : w3.cell? ⟨w.heap.size + 1, 1, none⟩ = some (Value.string ⟨#[]⟩) := by subst hW; go_simp
        have fr1'' : w3.frozen? ⟨w.heap.size + 1, 1, none⟩ = false := by subst hW; go_simp
        have cr2'' : w3.cell? ⟨w.heap.size + 1, 2, none⟩ = some (Value.int .i64 (0)) := by subst hW; go_simp
        have fr2'' : w3.frozen? ⟨w.heap.size + 1, 2, none⟩ = false := by subst hW; go_simp
        have cr3'' : w3.cell? ⟨w.heap.size + 1, 3, none⟩ = some (Value.bool false) := by subst hW; go_simp
        have fr3'' : w3.frozen? ⟨w.heap.size + 1, 3, none⟩ = false := by subst hW; go_simp
        have cr4'' : w3.cell? ⟨w.heap.size + 1, 4, none⟩ = some (Value.bool false) := by subst hW; go_simp
        have fr4'' : w3.frozen? ⟨w.heap.size + 1, 4, none⟩ = false := by subst hW; go_simp
        have hB3 : Below w.heap.size w w3 := by
          subst hW
          repeat (first | (with_reducible refine Below.drew ?_) | (with_reducible refine bal ?_ _) | ((with_reducible refine bst ?_ ?_ _); rotate_left; focus (first | (simp; done) | (simp; omega))))
          exact hB2
        clear hW cx0 fx0 cx1 fx1 cx2 fx2 cx3 fx3 cx4 fx4 cr0 fr0 cr1 fr1 cr2 fr2 cr3 fr3 cr4 fr4
        go_wp2
        refine bodyPost_ret (v := .tuple #[tapeV ⟨f, lo ++ s, n', ar, dn'⟩, .int .i64 0]) (by simp [results, Try.results23, go_sem, *]) rfl ⟨by rw [HV.out] <;> rfl, ?_⟩
        repeat (first | (with_reducible refine Below.drew ?_) | (with_reducible refine bal ?_ _) | ((with_reducible refine bst ?_ ?_ _); rotate_left; focus (first | (simp; done) | (simp; omega))))
        exact hB3
  · have hv : appendT ⟨f, lo, n, ar, dn⟩ s = (⟨f, lo, n, ar, dn⟩, r) := by simp [appendT, HRD.out, hr0]
    have HV := Lib.hid hv
    clear hv
    have hne : ((r : Int) != 0) = true := by simp [hr0]
    clear hr0
    go_enter Try.func23, Try.ntmps23
    go_wp2_with fail
    refine (ready_any f lo n ar dn hf hl _).mono ?_
    rintro e w1 ⟨rfl, hb1⟩
    rw [HRD.out]
    obtain ⟨hc1, hf1⟩ := bcell hb1
    have hz1 := hb1.size
    try simp at hz1
    have hB1 : Below w.heap.size w w1 := by
      refine bt ?_ hb1
      repeat (first | (with_reducible refine Below.drew ?_) | (with_reducible refine bal ?_ _) | ((with_reducible refine bst ?_ ?_ _); rotate_left; focus (first | (simp; done) | (simp; omega))))
      exact (b0 w)
    have ltx1 : w.heap.size < w1.heap.size := by omega
    have cx0' : w1.cell? ⟨w.heap.size, 0, none⟩ = some (Value.string ⟨(f).toArray⟩) := by rw [hc1 _ _ (by first | omega | (simp; done) | (simp; omega))]; first | assumption | go_simp
    have fx0' : w1.frozen? ⟨w.heap.size, 0, none⟩ = false := by rw [hf1 _ _ (by first | omega | (simp; done) | (simp; omega))]; first | assumption | go_simp
    have cx1' : w1.cell? ⟨w.heap.size, 1, none⟩ = some (Value.string ⟨(lo).toArray⟩) := by rw [hc1 _ _ (by first | omega | (simp; done) | (simp; omega))]; first | assumption | go_simp
    have fx1' : w1.frozen? ⟨w.heap.size, 1, none⟩ = false := by rw [hf1 _ _ (by first | omega | (simp; done) | (simp; omega))]; first | assumption | go_simp
    have cx2' : w1.cell? ⟨w.heap.size, 2, none⟩ = some (Value.int .i64 (n)) := by rw [hc1 _ _ (by first | omega | (simp; done) | (simp; omega))]; first | assumption | go_simp
    have fx2' : w1.frozen? ⟨w.heap.size, 2, none⟩ = false := by rw [hf1 _ _ (by first | omega | (simp; done) | (simp; omega))]; first | assumption | go_simp
    have cx3' : w1.cell? ⟨w.heap.size, 3, none⟩ = some (Value.bool ar) := by rw [hc1 _ _ (by first | omega | (simp; done) | (simp; omega))]; first | assumption | go_simp
    have fx3' : w1.frozen? ⟨w.heap.size, 3, none⟩ = false := by rw [hf1 _ _ (by first | omega | (simp; done) | (simp; omega))]; first | assumption | go_simp
    have cx4' : w1.cell? ⟨w.heap.size, 4, none⟩ = some (Value.bool dn) := by rw [hc1 _ _ (by first | omega | (simp; done) | (simp; omega))]; first | assumption | go_simp
    have fx4' : w1.frozen? ⟨w.heap.size, 4, none⟩ = false := by rw [hf1 _ _ (by first | omega | (simp; done) | (simp; omega))]; first | assumption | go_simp
    have ltr1 : w.heap.size + 1 < w1.heap.size := by omega
    have cr0' : w1.cell? ⟨w.heap.size + 1, 0, none⟩ = some (Value.string ⟨#[]⟩) := by rw [hc1 _ _ (by first | omega | (simp; done) | (simp; omega))]; first | assumption | go_simp
    have fr0' : w1.frozen? ⟨w.heap.size + 1, 0, none⟩ = false := by rw [hf1 _ _ (by first | omega | (simp; done) | (simp; omega))]; first | assumption | go_simp
    have cr1' : w1.cell? ⟨w.heap.size + 1, 1, none⟩ = some (Value.string ⟨#[]⟩) := by rw [hc1 _ _ (by first | omega | (simp; done) | (simp; omega))]; first | assumption | go_simp
    have fr1' : w1.frozen? ⟨w.heap.size + 1, 1, none⟩ = false := by rw [hf1 _ _ (by first | omega | (simp; done) | (simp; omega))]; first | assumption | go_simp
    have cr2' : w1.cell? ⟨w.heap.size + 1, 2, none⟩ = some (Value.int .i64 (0)) := by rw [hc1 _ _ (by first | omega | (simp; done) | (simp; omega))]; first | assumption | go_simp
    have fr2' : w1.frozen? ⟨w.heap.size + 1, 2, none⟩ = false := by rw [hf1 _ _ (by first | omega | (simp; done) | (simp; omega))]; first | assumption | go_simp
    have cr3' : w1.cell? ⟨w.heap.size + 1, 3, none⟩ = some (Value.bool false) := by rw [hc1 _ _ (by first | omega | (simp; done) | (simp; omega))]; first | assumption | go_simp
    have fr3' : w1.frozen? ⟨w.heap.size + 1, 3, none⟩ = false := by rw [hf1 _ _ (by first | omega | (simp; done) | (simp; omega))]; first | assumption | go_simp
    have cr4' : w1.cell? ⟨w.heap.size + 1, 4, none⟩ = some (Value.bool false) := by rw [hc1 _ _ (by first | omega | (simp; done) | (simp; omega))]; first | assumption | go_simp
    have fr4' : w1.frozen? ⟨w.heap.size + 1, 4, none⟩ = false := by rw [hf1 _ _ (by first | omega | (simp; done) | (simp; omega))]; first | assumption | go_simp
    clear hc1 hf1
    go_wp2
    refine bodyPost_ret (v := .tuple #[tapeV ⟨f, lo, n, ar, dn⟩, .int .i64 (r : Int)]) (by simp [results, Try.results23, go_sem, *]) rfl ⟨by rw [HV.out] <;> rfl, ?_⟩
    repeat (first | (with_reducible refine Below.drew ?_) | (with_reducible refine bal ?_ _) | ((with_reducible refine bst ?_ ?_ _); rotate_left; focus (first | (simp; done) | (simp; omega))))
    exact hB1
set_option maxHeartbeats 3200000 in
set_option maxRecDepth 100000 in
theorem swap_any (f lo : List UInt8) (n : Int) (ar dn : Bool) (hf : f.length ≤ 140737488351232) (hl : lo.length ≤ 140737488351232) (s : List UInt8) (_hs : s.length ≤ 140737488351232) (w : World) :
    Calls Try.prog 33 #[tapeV ⟨f, lo, n, ar, dn⟩, .string ⟨s.toArray⟩] w fun e w' => e = .returned (.tuple #[tapeV (swapT ⟨f, lo, n, ar, dn⟩ s).1, .int .i64 (swapT ⟨f, lo, n, ar, dn⟩ s).2]) ∧ Below w.heap.size w w' := by
  obtain ⟨r, hr⟩ : ∃ r, readyT ⟨f, lo, n, ar, dn⟩ = r := ⟨_, rfl⟩
  have HRD := Lib.hid hr
  clear hr
  by_cases hr0 : r = 0
  · subst hr0
    obtain ⟨hrr, hdn⟩ := ready_right _ HRD.out
    obtain ⟨hp1, hn1, hn2, _⟩ := right_parts _ hrr
    simp only at hp1 hn1 hn2
    clear hrr hdn
    by_cases hq0 : 1048576 < s.length
    · have hv : swapT ⟨f, lo, n, ar, dn⟩ s = (⟨f, lo, n, ar, dn⟩, 6) := by simp [swapT, HRD.out, *]
      have HV := Lib.hid hv
      clear hv
      have hq : (1048576 : Int) < s.length := by omega
      go_enter Try.func33, Try.ntmps33
      go_wp2_with fail
      refine (ready_any f lo n ar dn hf hl _).mono ?_
      rintro e w1 ⟨rfl, hb1⟩
      rw [HRD.out]
      obtain ⟨hc1, hf1⟩ := bcell hb1
      have hz1 := hb1.size
      try simp at hz1
      have hB1 : Below w.heap.size w w1 := by
        refine bt ?_ hb1
        repeat (first | (with_reducible refine Below.drew ?_) | (with_reducible refine bal ?_ _) | ((with_reducible refine bst ?_ ?_ _); rotate_left; focus (first | (simp; done) | (simp; omega))))
        exact (b0 w)
      have ltx1 : w.heap.size < w1.heap.size := by omega
      have cx0' : w1.cell? ⟨w.heap.size, 0, none⟩ = some (Value.string ⟨(f).toArray⟩) := by rw [hc1 _ _ (by first | omega | (simp; done) | (simp; omega))]; first | assumption | go_simp
      have fx0' : w1.frozen? ⟨w.heap.size, 0, none⟩ = false := by rw [hf1 _ _ (by first | omega | (simp; done) | (simp; omega))]; first | assumption | go_simp
      have cx1' : w1.cell? ⟨w.heap.size, 1, none⟩ = some (Value.string ⟨(lo).toArray⟩) := by rw [hc1 _ _ (by first | omega | (simp; done) | (simp; omega))]; first | assumption | go_simp
      have fx1' : w1.frozen? ⟨w.heap.size, 1, none⟩ = false := by rw [hf1 _ _ (by first | omega | (simp; done) | (simp; omega))]; first | assumption | go_simp
      have cx2' : w1.cell? ⟨w.heap.size, 2, none⟩ = some (Value.int .i64 (n)) := by rw [hc1 _ _ (by first | omega | (simp; done) | (simp; omega))]; first | assumption | go_simp
      have fx2' : w1.frozen? ⟨w.heap.size, 2, none⟩ = false := by rw [hf1 _ _ (by first | omega | (simp; done) | (simp; omega))]; first | assumption | go_simp
      have cx3' : w1.cell? ⟨w.heap.size, 3, none⟩ = some (Value.bool ar) := by rw [hc1 _ _ (by first | omega | (simp; done) | (simp; omega))]; first | assumption | go_simp
      have fx3' : w1.frozen? ⟨w.heap.size, 3, none⟩ = false := by rw [hf1 _ _ (by first | omega | (simp; done) | (simp; omega))]; first | assumption | go_simp
      have cx4' : w1.cell? ⟨w.heap.size, 4, none⟩ = some (Value.bool dn) := by rw [hc1 _ _ (by first | omega | (simp; done) | (simp; omega))]; first | assumption | go_simp
      have fx4' : w1.frozen? ⟨w.heap.size, 4, none⟩ = false := by rw [hf1 _ _ (by first | omega | (simp; done) | (simp; omega))]; first | assumption | go_simp
      have ltr1 : w.heap.size + 1 < w1.heap.size := by omega
      have cr0' : w1.cell? ⟨w.heap.size + 1, 0, none⟩ = some (Value.string ⟨#[]⟩) := by rw [hc1 _ _ (by first | omega | (simp; done) | (simp; omega))]; first | assumption | go_simp
      have fr0' : w1.frozen? ⟨w.heap.size + 1, 0, none⟩ = false := by rw [hf1 _ _ (by first | omega | (simp; done) | (simp; omega))]; first | assumption | go_simp
      have cr1' : w1.cell? ⟨w.heap.size + 1, 1, none⟩ = some (Value.string ⟨#[]⟩) := by rw [hc1 _ _ (by first | omega | (simp; done) | (simp; omega))]; first | assumption | go_simp
      have fr1' : w1.frozen? ⟨w.heap.size + 1, 1, none⟩ = false := by rw [hf1 _ _ (by first | omega | (simp; done) | (simp; omega))]; first | assumption | go_simp
      have cr2' : w1.cell? ⟨w.heap.size + 1, 2, none⟩ = some (Value.int .i64 (0)) := by rw [hc1 _ _ (by first | omega | (simp; done) | (simp; omega))]; first | assumption | go_simp
      have fr2' : w1.frozen? ⟨w.heap.size + 1, 2, none⟩ = false := by rw [hf1 _ _ (by first | omega | (simp; done) | (simp; omega))]; first | assumption | go_simp
      have cr3' : w1.cell? ⟨w.heap.size + 1, 3, none⟩ = some (Value.bool false) := by rw [hc1 _ _ (by first | omega | (simp; done) | (simp; omega))]; first | assumption | go_simp
      have fr3' : w1.frozen? ⟨w.heap.size + 1, 3, none⟩ = false := by rw [hf1 _ _ (by first | omega | (simp; done) | (simp; omega))]; first | assumption | go_simp
      have cr4' : w1.cell? ⟨w.heap.size + 1, 4, none⟩ = some (Value.bool false) := by rw [hc1 _ _ (by first | omega | (simp; done) | (simp; omega))]; first | assumption | go_simp
      have fr4' : w1.frozen? ⟨w.heap.size + 1, 4, none⟩ = false := by rw [hf1 _ _ (by first | omega | (simp; done) | (simp; omega))]; first | assumption | go_simp
      clear hc1 hf1
      go_wp2
      refine bodyPost_ret (v := .tuple #[tapeV ⟨f, lo, n, ar, dn⟩, .int .i64 6]) (by simp [results, Try.results33, go_sem, *]) rfl ⟨by rw [HV.out] <;> rfl, ?_⟩
      repeat (first | (with_reducible refine Below.drew ?_) | (with_reducible refine bal ?_ _) | ((with_reducible refine bst ?_ ?_ _); rotate_left; focus (first | (simp; done) | (simp; omega))))
      exact hB1
    · skip
      have hq : ¬ ((1048576 : Int) < s.length) := by omega
      obtain ⟨n', dn', ok, hs⟩ := spend_form f lo n ar dn
      have HS := Lib.hid hs
      clear hs
      cases ok
      · have hv : swapT ⟨f, lo, n, ar, dn⟩ s = (⟨f, lo, n', ar, dn'⟩, 16) := by simp [swapT, HRD.out, HS.out, *]
        have HV := Lib.hid hv
        clear hv
        go_enter Try.func33, Try.ntmps33
        go_wp2_with fail
        refine (ready_any f lo n ar dn hf hl _).mono ?_
        rintro e w1 ⟨rfl, hb1⟩
        rw [HRD.out]
        obtain ⟨hc1, hf1⟩ := bcell hb1
        have hz1 := hb1.size
        try simp at hz1
        have hB1 : Below w.heap.size w w1 := by
          refine bt ?_ hb1
          repeat (first | (with_reducible refine Below.drew ?_) | (with_reducible refine bal ?_ _) | ((with_reducible refine bst ?_ ?_ _); rotate_left; focus (first | (simp; done) | (simp; omega))))
          exact (b0 w)
        have ltx1 : w.heap.size < w1.heap.size := by omega
        have cx0' : w1.cell? ⟨w.heap.size, 0, none⟩ = some (Value.string ⟨(f).toArray⟩) := by rw [hc1 _ _ (by first | omega | (simp; done) | (simp; omega))]; first | assumption | go_simp
        have fx0' : w1.frozen? ⟨w.heap.size, 0, none⟩ = false := by rw [hf1 _ _ (by first | omega | (simp; done) | (simp; omega))]; first | assumption | go_simp
        have cx1' : w1.cell? ⟨w.heap.size, 1, none⟩ = some (Value.string ⟨(lo).toArray⟩) := by rw [hc1 _ _ (by first | omega | (simp; done) | (simp; omega))]; first | assumption | go_simp
        have fx1' : w1.frozen? ⟨w.heap.size, 1, none⟩ = false := by rw [hf1 _ _ (by first | omega | (simp; done) | (simp; omega))]; first | assumption | go_simp
        have cx2' : w1.cell? ⟨w.heap.size, 2, none⟩ = some (Value.int .i64 (n)) := by rw [hc1 _ _ (by first | omega | (simp; done) | (simp; omega))]; first | assumption | go_simp
        have fx2' : w1.frozen? ⟨w.heap.size, 2, none⟩ = false := by rw [hf1 _ _ (by first | omega | (simp; done) | (simp; omega))]; first | assumption | go_simp
        have cx3' : w1.cell? ⟨w.heap.size, 3, none⟩ = some (Value.bool ar) := by rw [hc1 _ _ (by first | omega | (simp; done) | (simp; omega))]; first | assumption | go_simp
        have fx3' : w1.frozen? ⟨w.heap.size, 3, none⟩ = false := by rw [hf1 _ _ (by first | omega | (simp; done) | (simp; omega))]; first | assumption | go_simp
        have cx4' : w1.cell? ⟨w.heap.size, 4, none⟩ = some (Value.bool dn) := by rw [hc1 _ _ (by first | omega | (simp; done) | (simp; omega))]; first | assumption | go_simp
        have fx4' : w1.frozen? ⟨w.heap.size, 4, none⟩ = false := by rw [hf1 _ _ (by first | omega | (simp; done) | (simp; omega))]; first | assumption | go_simp
        have ltr1 : w.heap.size + 1 < w1.heap.size := by omega
        have cr0' : w1.cell? ⟨w.heap.size + 1, 0, none⟩ = some (Value.string ⟨#[]⟩) := by rw [hc1 _ _ (by first | omega | (simp; done) | (simp; omega))]; first | assumption | go_simp
        have fr0' : w1.frozen? ⟨w.heap.size + 1, 0, none⟩ = false := by rw [hf1 _ _ (by first | omega | (simp; done) | (simp; omega))]; first | assumption | go_simp
        have cr1' : w1.cell? ⟨w.heap.size + 1, 1, none⟩ = some (Value.string ⟨#[]⟩) := by rw [hc1 _ _ (by first | omega | (simp; done) | (simp; omega))]; first | assumption | go_simp
        have fr1' : w1.frozen? ⟨w.heap.size + 1, 1, none⟩ = false := by rw [hf1 _ _ (by first | omega | (simp; done) | (simp; omega))]; first | assumption | go_simp
        have cr2' : w1.cell? ⟨w.heap.size + 1, 2, none⟩ = some (Value.int .i64 (0)) := by rw [hc1 _ _ (by first | omega | (simp; done) | (simp; omega))]; first | assumption | go_simp
        have fr2' : w1.frozen? ⟨w.heap.size + 1, 2, none⟩ = false := by rw [hf1 _ _ (by first | omega | (simp; done) | (simp; omega))]; first | assumption | go_simp
        have cr3' : w1.cell? ⟨w.heap.size + 1, 3, none⟩ = some (Value.bool false) := by rw [hc1 _ _ (by first | omega | (simp; done) | (simp; omega))]; first | assumption | go_simp
        have fr3' : w1.frozen? ⟨w.heap.size + 1, 3, none⟩ = false := by rw [hf1 _ _ (by first | omega | (simp; done) | (simp; omega))]; first | assumption | go_simp
        have cr4' : w1.cell? ⟨w.heap.size + 1, 4, none⟩ = some (Value.bool false) := by rw [hc1 _ _ (by first | omega | (simp; done) | (simp; omega))]; first | assumption | go_simp
        have fr4' : w1.frozen? ⟨w.heap.size + 1, 4, none⟩ = false := by rw [hf1 _ _ (by first | omega | (simp; done) | (simp; omega))]; first | assumption | go_simp
        clear hc1 hf1
        go_wp2_with fail
        refine (spend_any f lo n ar dn hf hl ⟨hn1, hn2⟩ _).mono ?_
        rintro e w2 ⟨rfl, hb2⟩
        rw [HS.out]
        obtain ⟨hc2, hf2⟩ := bcell hb2
        have hz2 := hb2.size
        try simp at hz2
        have hB2 : Below w.heap.size w w2 := by
          refine bt ?_ hb2
          repeat (first | (with_reducible refine Below.drew ?_) | (with_reducible refine bal ?_ _) | ((with_reducible refine bst ?_ ?_ _); rotate_left; focus (first | (simp; done) | (simp; omega))))
          exact hB1
        have ltx2 : w.heap.size < w2.heap.size := by omega
        have cx0 : w2.cell? ⟨w.heap.size, 0, none⟩ = some (Value.string ⟨(f).toArray⟩) := by rw [hc2 _ _ (by first | omega | (simp; done) | (simp; omega))]; first | assumption | go_simp
        have fx0 : w2.frozen? ⟨w.heap.size, 0, none⟩ = false := by rw [hf2 _ _ (by first | omega | (simp; done) | (simp; omega))]; first | assumption | go_simp
        have cx1 : w2.cell? ⟨w.heap.size, 1, none⟩ = some (Value.string ⟨(lo).toArray⟩) := by rw [hc2 _ _ (by first | omega | (simp; done) | (simp; omega))]; first | assumption | go_simp
        have fx1 : w2.frozen? ⟨w.heap.size, 1, none⟩ = false := by rw [hf2 _ _ (by first | omega | (simp; done) | (simp; omega))]; first | assumption | go_simp
        have cx2 : w2.cell? ⟨w.heap.size, 2, none⟩ = some (Value.int .i64 (n)) := by rw [hc2 _ _ (by first | omega | (simp; done) | (simp; omega))]; first | assumption | go_simp
        have fx2 : w2.frozen? ⟨w.heap.size, 2, none⟩ = false := by rw [hf2 _ _ (by first | omega | (simp; done) | (simp; omega))]; first | assumption | go_simp
        have cx3 : w2.cell? ⟨w.heap.size, 3, none⟩ = some (Value.bool ar) := by rw [hc2 _ _ (by first | omega | (simp; done) | (simp; omega))]; first | assumption | go_simp
        have fx3 : w2.frozen? ⟨w.heap.size, 3, none⟩ = false := by rw [hf2 _ _ (by first | omega | (simp; done) | (simp; omega))]; first | assumption | go_simp
        have cx4 : w2.cell? ⟨w.heap.size, 4, none⟩ = some (Value.bool dn) := by rw [hc2 _ _ (by first | omega | (simp; done) | (simp; omega))]; first | assumption | go_simp
        have fx4 : w2.frozen? ⟨w.heap.size, 4, none⟩ = false := by rw [hf2 _ _ (by first | omega | (simp; done) | (simp; omega))]; first | assumption | go_simp
        have ltr2 : w.heap.size + 1 < w2.heap.size := by omega
        have cr0 : w2.cell? ⟨w.heap.size + 1, 0, none⟩ = some (Value.string ⟨#[]⟩) := by rw [hc2 _ _ (by first | omega | (simp; done) | (simp; omega))]; first | assumption | go_simp
        have fr0 : w2.frozen? ⟨w.heap.size + 1, 0, none⟩ = false := by rw [hf2 _ _ (by first | omega | (simp; done) | (simp; omega))]; first | assumption | go_simp
        have cr1 : w2.cell? ⟨w.heap.size + 1, 1, none⟩ = some (Value.string ⟨#[]⟩) := by rw [hc2 _ _ (by first | omega | (simp; done) | (simp; omega))]; first | assumption | go_simp
        have fr1 : w2.frozen? ⟨w.heap.size + 1, 1, none⟩ = false := by rw [hf2 _ _ (by first | omega | (simp; done) | (simp; omega))]; first | assumption | go_simp
        have cr2 : w2.cell? ⟨w.heap.size + 1, 2, none⟩ = some (Value.int .i64 (0)) := by rw [hc2 _ _ (by first | omega | (simp; done) | (simp; omega))]; first | assumption | go_simp
        have fr2 : w2.frozen? ⟨w.heap.size + 1, 2, none⟩ = false := by rw [hf2 _ _ (by first | omega | (simp; done) | (simp; omega))]; first | assumption | go_simp
        have cr3 : w2.cell? ⟨w.heap.size + 1, 3, none⟩ = some (Value.bool false) := by rw [hc2 _ _ (by first | omega | (simp; done) | (simp; omega))]; first | assumption | go_simp
        have fr3 : w2.frozen? ⟨w.heap.size + 1, 3, none⟩ = false := by rw [hf2 _ _ (by first | omega | (simp; done) | (simp; omega))]; first | assumption | go_simp
        have cr4 : w2.cell? ⟨w.heap.size + 1, 4, none⟩ = some (Value.bool false) := by rw [hc2 _ _ (by first | omega | (simp; done) | (simp; omega))]; first | assumption | go_simp
        have fr4 : w2.frozen? ⟨w.heap.size + 1, 4, none⟩ = false := by rw [hf2 _ _ (by first | omega | (simp; done) | (simp; omega))]; first | assumption | go_simp
        clear hc2 hf2
        clear cx0' fx0' cx1' fx1' cx2' fx2' cx3' fx3' cx4' fx4' cr0' fr0' cr1' fr1' cr2' fr2' cr3' fr3' cr4' fr4'
        go_wp2
        refine bodyPost_ret (v := .tuple #[tapeV ⟨f, lo, n', ar, dn'⟩, .int .i64 16]) (by simp [results, Try.results33, go_sem, *]) rfl ⟨by rw [HV.out] <;> rfl, ?_⟩
        repeat (first | (with_reducible refine Below.drew ?_) | (with_reducible refine bal ?_ _) | ((with_reducible refine bst ?_ ?_ _); rotate_left; focus (first | (simp; done) | (simp; omega))))
        exact hB2
      · have hv : swapT ⟨f, lo, n, ar, dn⟩ s = (⟨s, [], n', ar, dn'⟩, 0) := by simp [swapT, HRD.out, HS.out, *]
        have HV := Lib.hid hv
        clear hv
        go_enter Try.func33, Try.ntmps33
        go_wp2_with fail
        refine (ready_any f lo n ar dn hf hl _).mono ?_
        rintro e w1 ⟨rfl, hb1⟩
        rw [HRD.out]
        obtain ⟨hc1, hf1⟩ := bcell hb1
        have hz1 := hb1.size
        try simp at hz1
        have hB1 : Below w.heap.size w w1 := by
          refine bt ?_ hb1
          repeat (first | (with_reducible refine Below.drew ?_) | (with_reducible refine bal ?_ _) | ((with_reducible refine bst ?_ ?_ _); rotate_left; focus (first | (simp; done) | (simp; omega))))
          exact (b0 w)
        have ltx1 : w.heap.size < w1.heap.size := by omega
        have cx0' : w1.cell? ⟨w.heap.size, 0, none⟩ = some (Value.string ⟨(f).toArray⟩) := by rw [hc1 _ _ (by first | omega | (simp; done) | (simp; omega))]; first | assumption | go_simp
        have fx0' : w1.frozen? ⟨w.heap.size, 0, none⟩ = false := by rw [hf1 _ _ (by first | omega | (simp; done) | (simp; omega))]; first | assumption | go_simp
        have cx1' : w1.cell? ⟨w.heap.size, 1, none⟩ = some (Value.string ⟨(lo).toArray⟩) := by rw [hc1 _ _ (by first | omega | (simp; done) | (simp; omega))]; first | assumption | go_simp
        have fx1' : w1.frozen? ⟨w.heap.size, 1, none⟩ = false := by rw [hf1 _ _ (by first | omega | (simp; done) | (simp; omega))]; first | assumption | go_simp
        have cx2' : w1.cell? ⟨w.heap.size, 2, none⟩ = some (Value.int .i64 (n)) := by rw [hc1 _ _ (by first | omega | (simp; done) | (simp; omega))]; first | assumption | go_simp
        have fx2' : w1.frozen? ⟨w.heap.size, 2, none⟩ = false := by rw [hf1 _ _ (by first | omega | (simp; done) | (simp; omega))]; first | assumption | go_simp
        have cx3' : w1.cell? ⟨w.heap.size, 3, none⟩ = some (Value.bool ar) := by rw [hc1 _ _ (by first | omega | (simp; done) | (simp; omega))]; first | assumption | go_simp
        have fx3' : w1.frozen? ⟨w.heap.size, 3, none⟩ = false := by rw [hf1 _ _ (by first | omega | (simp; done) | (simp; omega))]; first | assumption | go_simp
        have cx4' : w1.cell? ⟨w.heap.size, 4, none⟩ = some (Value.bool dn) := by rw [hc1 _ _ (by first | omega | (simp; done) | (simp; omega))]; first | assumption | go_simp
        have fx4' : w1.frozen? ⟨w.heap.size, 4, none⟩ = false := by rw [hf1 _ _ (by first | omega | (simp; done) | (simp; omega))]; first | assumption | go_simp
        have ltr1 : w.heap.size + 1 < w1.heap.size := by omega
        have cr0' : w1.cell? ⟨w.heap.size + 1, 0, none⟩ = some (Value.string ⟨#[]⟩) := by rw [hc1 _ _ (by first | omega | (simp; done) | (simp; omega))]; first | assumption | go_simp
        have fr0' : w1.frozen? ⟨w.heap.size + 1, 0, none⟩ = false := by rw [hf1 _ _ (by first | omega | (simp; done) | (simp; omega))]; first | assumption | go_simp
        have cr1' : w1.cell? ⟨w.heap.size + 1, 1, none⟩ = some (Value.string ⟨#[]⟩) := by rw [hc1 _ _ (by first | omega | (simp; done) | (simp; omega))]; first | assumption | go_simp
        have fr1' : w1.frozen? ⟨w.heap.size + 1, 1, none⟩ = false := by rw [hf1 _ _ (by first | omega | (simp; done) | (simp; omega))]; first | assumption | go_simp
        have cr2' : w1.cell? ⟨w.heap.size + 1, 2, none⟩ = some (Value.int .i64 (0)) := by rw [hc1 _ _ (by first | omega | (simp; done) | (simp; omega))]; first | assumption | go_simp
        have fr2' : w1.frozen? ⟨w.heap.size + 1, 2, none⟩ = false := by rw [hf1 _ _ (by first | omega | (simp; done) | (simp; omega))]; first | assumption | go_simp
        have cr3' : w1.cell? ⟨w.heap.size + 1, 3, none⟩ = some (Value.bool false) := by rw [hc1 _ _ (by first | omega | (simp; done) | (simp; omega))]; first | assumption | go_simp
        have fr3' : w1.frozen? ⟨w.heap.size + 1, 3, none⟩ = false := by rw [hf1 _ _ (by first | omega | (simp; done) | (simp; omega))]; first | assumption | go_simp
        have cr4' : w1.cell? ⟨w.heap.size + 1, 4, none⟩ = some (Value.bool false) := by rw [hc1 _ _ (by first | omega | (simp; done) | (simp; omega))]; first | assumption | go_simp
        have fr4' : w1.frozen? ⟨w.heap.size + 1, 4, none⟩ = false := by rw [hf1 _ _ (by first | omega | (simp; done) | (simp; omega))]; first | assumption | go_simp
        clear hc1 hf1
        go_wp2_with fail
        refine (spend_any f lo n ar dn hf hl ⟨hn1, hn2⟩ _).mono ?_
        rintro e w2 ⟨rfl, hb2⟩
        rw [HS.out]
        obtain ⟨hc2, hf2⟩ := bcell hb2
        have hz2 := hb2.size
        try simp at hz2
        have hB2 : Below w.heap.size w w2 := by
          refine bt ?_ hb2
          repeat (first | (with_reducible refine Below.drew ?_) | (with_reducible refine bal ?_ _) | ((with_reducible refine bst ?_ ?_ _); rotate_left; focus (first | (simp; done) | (simp; omega))))
          exact hB1
        have ltx2 : w.heap.size < w2.heap.size := by omega
        have cx0 : w2.cell? ⟨w.heap.size, 0, none⟩ = some (Value.string ⟨(f).toArray⟩) := by rw [hc2 _ _ (by first | omega | (simp; done) | (simp; omega))]; first | assumption | go_simp
        have fx0 : w2.frozen? ⟨w.heap.size, 0, none⟩ = false := by rw [hf2 _ _ (by first | omega | (simp; done) | (simp; omega))]; first | assumption | go_simp
        have cx1 : w2.cell? ⟨w.heap.size, 1, none⟩ = some (Value.string ⟨(lo).toArray⟩) := by rw [hc2 _ _ (by first | omega | (simp; done) | (simp; omega))]; first | assumption | go_simp
        have fx1 : w2.frozen? ⟨w.heap.size, 1, none⟩ = false := by rw [hf2 _ _ (by first | omega | (simp; done) | (simp; omega))]; first | assumption | go_simp
        have cx2 : w2.cell? ⟨w.heap.size, 2, none⟩ = some (Value.int .i64 (n)) := by rw [hc2 _ _ (by first | omega | (simp; done) | (simp; omega))]; first | assumption | go_simp
        have fx2 : w2.frozen? ⟨w.heap.size, 2, none⟩ = false := by rw [hf2 _ _ (by first | omega | (simp; done) | (simp; omega))]; first | assumption | go_simp
        have cx3 : w2.cell? ⟨w.heap.size, 3, none⟩ = some (Value.bool ar) := by rw [hc2 _ _ (by first | omega | (simp; done) | (simp; omega))]; first | assumption | go_simp
        have fx3 : w2.frozen? ⟨w.heap.size, 3, none⟩ = false := by rw [hf2 _ _ (by first | omega | (simp; done) | (simp; omega))]; first | assumption | go_simp
        have cx4 : w2.cell? ⟨w.heap.size, 4, none⟩ = some (Value.bool dn) := by rw [hc2 _ _ (by first | omega | (simp; done) | (simp; omega))]; first | assumption | go_simp
        have fx4 : w2.frozen? ⟨w.heap.size, 4, none⟩ = false := by rw [hf2 _ _ (by first | omega | (simp; done) | (simp; omega))]; first | assumption | go_simp
        have ltr2 : w.heap.size + 1 < w2.heap.size := by omega
        have cr0 : w2.cell? ⟨w.heap.size + 1, 0, none⟩ = some (Value.string ⟨#[]⟩) := by rw [hc2 _ _ (by first | omega | (simp; done) | (simp; omega))]; first | assumption | go_simp
        have fr0 : w2.frozen? ⟨w.heap.size + 1, 0, none⟩ = false := by rw [hf2 _ _ (by first | omega | (simp; done) | (simp; omega))]; first | assumption | go_simp
        have cr1 : w2.cell? ⟨w.heap.size + 1, 1, none⟩ = some (Value.string ⟨#[]⟩) := by rw [hc2 _ _ (by first | omega | (simp; done) | (simp; omega))]; first | assumption | go_simp
        have fr1 : w2.frozen? ⟨w.heap.size + 1, 1, none⟩ = false := by rw [hf2 _ _ (by first | omega | (simp; done) | (simp; omega))]; first | assumption | go_simp
        have cr2 : w2.cell? ⟨w.heap.size + 1, 2, none⟩ = some (Value.int .i64 (0)) := by rw [hc2 _ _ (by first | omega | (simp; done) | (simp; omega))]; first | assumption | go_simp
        have fr2 : w2.frozen? ⟨w.heap.size + 1, 2, none⟩ = false := by rw [hf2 _ _ (by first | omega | (simp; done) | (simp; omega))]; first | assumption | go_simp
        have cr3 : w2.cell? ⟨w.heap.size + 1, 3, none⟩ = some (Value.bool false) := by rw [hc2 _ _ (by first | omega | (simp; done) | (simp; omega))]; first | assumption | go_simp
        have fr3 : w2.frozen? ⟨w.heap.size + 1, 3, none⟩ = false := by rw [hf2 _ _ (by first | omega | (simp; done) | (simp; omega))]; first | assumption | go_simp
        have cr4 : w2.cell? ⟨w.heap.size + 1, 4, none⟩ = some (Value.bool false) := by rw [hc2 _ _ (by first | omega | (simp; done) | (simp; omega))]; first | assumption | go_simp
        have fr4 : w2.frozen? ⟨w.heap.size + 1, 4, none⟩ = false := by rw [hf2 _ _ (by first | omega | (simp; done) | (simp; omega))]; first | assumption | go_simp
        clear hc2 hf2
        clear cx0' fx0' cx1' fx1' cx2' fx2' cx3' fx3' cx4' fx4' cr0' fr0' cr1' fr1' cr2' fr2' cr3' fr3' cr4' fr4'
        go_upto_region 9 with (fail)
        generalize hW : World.setCell _ _ _ = w3
        have ltx3 : w.heap.size < w3.heap.size := by subst hW; simp; omega
        have cx0'' : w3.cell? ⟨w.heap.size, 0, none⟩ = some (Value.string ⟨(f).toArray⟩) := by subst hW; go_simp
        have fx0'' : w3.frozen? ⟨w.heap.size, 0, none⟩ = false := by subst hW; go_simp
        have cx1'' : w3.cell? ⟨w.heap.size, 1, none⟩ = some (Value.string ⟨(lo).toArray⟩) := by subst hW; go_simp
        have fx1'' : w3.frozen? ⟨w.heap.size, 1, none⟩ = false := by subst hW; go_simp
        have cx2'' : w3.cell? ⟨w.heap.size, 2, none⟩ = some (Value.int .i64 (n')) := by subst hW; go_simp
        have fx2'' : w3.frozen? ⟨w.heap.size, 2, none⟩ = false := by subst hW; go_simp
        have cx3'' : w3.cell? ⟨w.heap.size, 3, none⟩ = some (Value.bool ar) := by subst hW; go_simp
        have fx3'' : w3.frozen? ⟨w.heap.size, 3, none⟩ = false := by subst hW; go_simp
        have cx4'' : w3.cell? ⟨w.heap.size, 4, none⟩ = some (Value.bool dn') := by subst hW; go_simp
        have fx4'' : w3.frozen? ⟨w.heap.size, 4, none⟩ = false := by subst hW; go_simp
        have ltr3 : w.heap.size + 1 < w3.heap.size := by subst hW; simp; omega
        have cr0'' : w3.cell? ⟨w.heap.size + 1, 0, none⟩ = some (Value.string ⟨#[]⟩) := by subst hW; go_simp
        have fr0'' : w3.frozen? ⟨w.heap.size + 1, 0, none⟩ = false := by subst hW; go_simp
        have cr1'' : w3.cell? ⟨w.heap.size + 1, 1, none⟩ = some (Value.string ⟨#[]⟩) := by subst hW; go_simp
        have fr1'' : w3.frozen? ⟨w.heap.size + 1, 1, none⟩ = false := by subst hW; go_simp
        have cr2'' : w3.cell? ⟨w.heap.size + 1, 2, none⟩ = some (Value.int .i64 (0)) := by subst hW; go_simp
        have fr2'' : w3.frozen? ⟨w.heap.size + 1, 2, none⟩ = false := by subst hW; go_simp
        have cr3'' : w3.cell? ⟨w.heap.size + 1, 3, none⟩ = some (Value.bool false) := by subst hW; go_simp
        have fr3'' : w3.frozen? ⟨w.heap.size + 1, 3, none⟩ = false := by subst hW; go_simp
        have cr4'' : w3.cell? ⟨w.heap.size + 1, 4, none⟩ = some (Value.bool false) := by subst hW; go_simp
        have fr4'' : w3.frozen? ⟨w.heap.size + 1, 4, none⟩ = false := by subst hW; go_simp
        have hB3 : Below w.heap.size w w3 := by
          subst hW
          repeat (first | (with_reducible refine Below.drew ?_) | (with_reducible refine bal ?_ _) | ((with_reducible refine bst ?_ ?_ _); rotate_left; focus (first | (simp; done) | (simp; omega))))
          exact hB2
        clear hW cx0 fx0 cx1 fx1 cx2 fx2 cx3 fx3 cx4 fx4 cr0 fr0 cr1 fr1 cr2 fr2 cr3 fr3 cr4 fr4
        go_wp2
        refine bodyPost_ret (v := .tuple #[tapeV ⟨s, [], n', ar, dn'⟩, .int .i64 0]) (by simp [results, Try.results33, go_sem, *]) rfl ⟨by rw [HV.out] <;> rfl, ?_⟩
        repeat (first | (with_reducible refine Below.drew ?_) | (with_reducible refine bal ?_ _) | ((with_reducible refine bst ?_ ?_ _); rotate_left; focus (first | (simp; done) | (simp; omega))))
        exact hB3
  · have hv : swapT ⟨f, lo, n, ar, dn⟩ s = (⟨f, lo, n, ar, dn⟩, r) := by simp [swapT, HRD.out, hr0]
    have HV := Lib.hid hv
    clear hv
    have hne : ((r : Int) != 0) = true := by simp [hr0]
    clear hr0
    go_enter Try.func33, Try.ntmps33
    go_wp2_with fail
    refine (ready_any f lo n ar dn hf hl _).mono ?_
    rintro e w1 ⟨rfl, hb1⟩
    rw [HRD.out]
    obtain ⟨hc1, hf1⟩ := bcell hb1
    have hz1 := hb1.size
    try simp at hz1
    have hB1 : Below w.heap.size w w1 := by
      refine bt ?_ hb1
      repeat (first | (with_reducible refine Below.drew ?_) | (with_reducible refine bal ?_ _) | ((with_reducible refine bst ?_ ?_ _); rotate_left; focus (first | (simp; done) | (simp; omega))))
      exact (b0 w)
    have ltx1 : w.heap.size < w1.heap.size := by omega
    have cx0' : w1.cell? ⟨w.heap.size, 0, none⟩ = some (Value.string ⟨(f).toArray⟩) := by rw [hc1 _ _ (by first | omega | (simp; done) | (simp; omega))]; first | assumption | go_simp
    have fx0' : w1.frozen? ⟨w.heap.size, 0, none⟩ = false := by rw [hf1 _ _ (by first | omega | (simp; done) | (simp; omega))]; first | assumption | go_simp
    have cx1' : w1.cell? ⟨w.heap.size, 1, none⟩ = some (Value.string ⟨(lo).toArray⟩) := by rw [hc1 _ _ (by first | omega | (simp; done) | (simp; omega))]; first | assumption | go_simp
    have fx1' : w1.frozen? ⟨w.heap.size, 1, none⟩ = false := by rw [hf1 _ _ (by first | omega | (simp; done) | (simp; omega))]; first | assumption | go_simp
    have cx2' : w1.cell? ⟨w.heap.size, 2, none⟩ = some (Value.int .i64 (n)) := by rw [hc1 _ _ (by first | omega | (simp; done) | (simp; omega))]; first | assumption | go_simp
    have fx2' : w1.frozen? ⟨w.heap.size, 2, none⟩ = false := by rw [hf1 _ _ (by first | omega | (simp; done) | (simp; omega))]; first | assumption | go_simp
    have cx3' : w1.cell? ⟨w.heap.size, 3, none⟩ = some (Value.bool ar) := by rw [hc1 _ _ (by first | omega | (simp; done) | (simp; omega))]; first | assumption | go_simp
    have fx3' : w1.frozen? ⟨w.heap.size, 3, none⟩ = false := by rw [hf1 _ _ (by first | omega | (simp; done) | (simp; omega))]; first | assumption | go_simp
    have cx4' : w1.cell? ⟨w.heap.size, 4, none⟩ = some (Value.bool dn) := by rw [hc1 _ _ (by first | omega | (simp; done) | (simp; omega))]; first | assumption | go_simp
    have fx4' : w1.frozen? ⟨w.heap.size, 4, none⟩ = false := by rw [hf1 _ _ (by first | omega | (simp; done) | (simp; omega))]; first | assumption | go_simp
    have ltr1 : w.heap.size + 1 < w1.heap.size := by omega
    have cr0' : w1.cell? ⟨w.heap.size + 1, 0, none⟩ = some (Value.string ⟨#[]⟩) := by rw [hc1 _ _ (by first | omega | (simp; done) | (simp; omega))]; first | assumption | go_simp
    have fr0' : w1.frozen? ⟨w.heap.size + 1, 0, none⟩ = false := by rw [hf1 _ _ (by first | omega | (simp; done) | (simp; omega))]; first | assumption | go_simp
    have cr1' : w1.cell? ⟨w.heap.size + 1, 1, none⟩ = some (Value.string ⟨#[]⟩) := by rw [hc1 _ _ (by first | omega | (simp; done) | (simp; omega))]; first | assumption | go_simp
    have fr1' : w1.frozen? ⟨w.heap.size + 1, 1, none⟩ = false := by rw [hf1 _ _ (by first | omega | (simp; done) | (simp; omega))]; first | assumption | go_simp
    have cr2' : w1.cell? ⟨w.heap.size + 1, 2, none⟩ = some (Value.int .i64 (0)) := by rw [hc1 _ _ (by first | omega | (simp; done) | (simp; omega))]; first | assumption | go_simp
    have fr2' : w1.frozen? ⟨w.heap.size + 1, 2, none⟩ = false := by rw [hf1 _ _ (by first | omega | (simp; done) | (simp; omega))]; first | assumption | go_simp
    have cr3' : w1.cell? ⟨w.heap.size + 1, 3, none⟩ = some (Value.bool false) := by rw [hc1 _ _ (by first | omega | (simp; done) | (simp; omega))]; first | assumption | go_simp
    have fr3' : w1.frozen? ⟨w.heap.size + 1, 3, none⟩ = false := by rw [hf1 _ _ (by first | omega | (simp; done) | (simp; omega))]; first | assumption | go_simp
    have cr4' : w1.cell? ⟨w.heap.size + 1, 4, none⟩ = some (Value.bool false) := by rw [hc1 _ _ (by first | omega | (simp; done) | (simp; omega))]; first | assumption | go_simp
    have fr4' : w1.frozen? ⟨w.heap.size + 1, 4, none⟩ = false := by rw [hf1 _ _ (by first | omega | (simp; done) | (simp; omega))]; first | assumption | go_simp
    clear hc1 hf1
    go_wp2
    refine bodyPost_ret (v := .tuple #[tapeV ⟨f, lo, n, ar, dn⟩, .int .i64 (r : Int)]) (by simp [results, Try.results33, go_sem, *]) rfl ⟨by rw [HV.out] <;> rfl, ?_⟩
    repeat (first | (with_reducible refine Below.drew ?_) | (with_reducible refine bal ?_ _) | ((with_reducible refine bst ?_ ?_ _); rotate_left; focus (first | (simp; done) | (simp; omega))))
    exact hB1
end Go.Proofs.Ythjoamldmcnodaa
