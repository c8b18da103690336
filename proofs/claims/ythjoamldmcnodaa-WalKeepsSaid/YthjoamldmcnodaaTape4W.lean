/- The walks through the tape's Cut and Crash: each is the plain law's. -/
import Derived.Test.YthjoamldmcnodaaTape3W
import Derived.Deep.Cut
namespace Go.Proofs.Ythjoamldmcnodaa
open Go.RowKit
attribute [local go_sem] ByteArray.mk_append_mk ByteArray.extract_mk
set_option maxHeartbeats 3200000 in
set_option maxRecDepth 100000 in
theorem cut_any (f lo : List UInt8) (n : Int) (ar dn : Bool) (hf : f.length ≤ 140737488351232) (hl : lo.length ≤ 140737488351232) (k : Int) (_hk : -9223372036854775808 ≤ k ∧ k ≤ 9223372036854775807) (w : World) :
    Calls Try.prog 27 #[tapeV ⟨f, lo, n, ar, dn⟩, .int .i64 k] w fun e w' => e = .returned (.tuple #[tapeV (cutT ⟨f, lo, n, ar, dn⟩ k).1, .int .i64 (cutT ⟨f, lo, n, ar, dn⟩ k).2]) ∧ Below w.heap.size w w' := by
  obtain ⟨r, hr⟩ : ∃ r, readyT ⟨f, lo, n, ar, dn⟩ = r := ⟨_, rfl⟩
  have HRD := Lib.hid hr
  clear hr
  by_cases hr0 : r = 0
  · subst hr0
    obtain ⟨hrr, hdn⟩ := ready_right _ HRD.out
    obtain ⟨hp1, hn1, hn2, _⟩ := right_parts _ hrr
    simp only at hp1 hn1 hn2
    clear hrr hdn
    by_cases h1 : k < 0
    · have hv : cutT ⟨f, lo, n, ar, dn⟩ k = (⟨f, lo, n, ar, dn⟩, 1) := by unfold cutT; rw [HRD.out, if_neg (by omega), if_pos (.inl h1)]
      have HV := Lib.hid hv
      clear hv
      go_enter Try.func27, Try.ntmps27
      go_wp2_with fail
      refine (ready_any f lo n ar dn hf hl _).mono ?_
      rintro e w1 ⟨rfl, hb1⟩
      rw [HRD.out]
      obtain ⟨hc1, hf1⟩ := bcell hb1
      have hz1 := hb1.size
      try simp at hz1
      have hB1 : Below w.heap.size w w1 := by
        refine bt ?_ hb1
        repeat (first | (with_reducible refine Below.drew ?_) | (with_reducible refine bal ?_ _) | ((with_reducible refine bst ?_ ?_ _); rotate_left; focus (first | (simp; done) | (simp; omega))))
        exact (b0 w)
      have ltx1 : w.heap.size < w1.heap.size := by omega
      have cx0' : w1.cell? ⟨w.heap.size, 0, none⟩ = some (Value.string ⟨(f).toArray⟩) := by rw [hc1 _ _ (by first | omega | (simp; done) | (simp; omega))]; first | assumption | go_simp
      have fx0' : w1.frozen? ⟨w.heap.size, 0, none⟩ = false := by rw [hf1 _ _ (by first | omega | (simp; done) | (simp; omega))]; first | assumption | go_simp
      have cx1' : w1.cell? ⟨w.heap.size, 1, none⟩ = some (Value.string ⟨(lo).toArray⟩) := by rw [hc1 _ _ (by first | omega | (simp; done) | (simp; omega))]; first | assumption | go_simp
      have fx1' : w1.frozen? ⟨w.heap.size, 1, none⟩ = false := by rw [hf1 _ _ (by first | omega | (simp; done) | (simp; omega))]; first | assumption | go_simp
      have cx2' : w1.cell? ⟨w.heap.size, 2, none⟩ = some (Value.int .i64 (n)) := by rw [hc1 _ _ (by first | omega | (simp; done) | (simp; omega))]; first | assumption | go_simp
      have fx2' : w1.frozen? ⟨w.heap.size, 2, none⟩ = false := by rw [hf1 _ _ (by first | omega | (simp; done) | (simp; omega))]; first | assumption | go_simp
      have cx3' : w1.cell? ⟨w.heap.size, 3, none⟩ = some (Value.bool ar) := by rw [hc1 _ _ (by first | omega | (simp; done) | (simp; omega))]; first | assumption | go_simp
      have fx3' : w1.frozen? ⟨w.heap.size, 3, none⟩ = false := by rw [hf1 _ _ (by first | omega | (simp; done) | (simp; omega))]; first | assumption | go_simp
      have cx4' : w1.cell? ⟨w.heap.size, 4, none⟩ = some (Value.bool dn) := by rw [hc1 _ _ (by first | omega | (simp; done) | (simp; omega))]; first | assumption | go_simp
      have fx4' : w1.frozen? ⟨w.heap.size, 4, none⟩ = false := by rw [hf1 _ _ (by first | omega | (simp; done) | (simp; omega))]; first | assumption | go_simp
      have ltr1 : w.heap.size + 1 < w1.heap.size := by omega
      have cr0' : w1.cell? ⟨w.heap.size + 1, 0, none⟩ = some (Value.string ⟨#[]⟩) := by rw [hc1 _ _ (by first | omega | (simp; done) | (simp; omega))]; first | assumption | go_simp
      have fr0' : w1.frozen? ⟨w.heap.size + 1, 0, none⟩ = false := by rw [hf1 _ _ (by first | omega | (simp; done) | (simp; omega))]; first | assumption | go_simp
      have cr1' : w1.cell? ⟨w.heap.size + 1, 1, none⟩ = some (Value.string ⟨#[]⟩) := by rw [hc1 _ _ (by first | omega | (simp; done) | (simp; omega))]; first | assumption | go_simp
      have fr1' : w1.frozen? ⟨w.heap.size + 1, 1, none⟩ = false := by rw [hf1 _ _ (by first | omega | (simp; done) | (simp; omega))]; first | assumption | go_simp
      have cr2' : w1.cell? ⟨w.heap.size + 1, 2, none⟩ = some (Value.int .i64 (0)) := by rw [hc1 _ _ (by first | omega | (simp; done) | (simp; omega))]; first | assumption | go_simp
      have fr2' : w1.frozen? ⟨w.heap.size + 1, 2, none⟩ = false := by rw [hf1 _ _ (by first | omega | (simp; done) | (simp; omega))]; first | assumption | go_simp
      have cr3' : w1.cell? ⟨w.heap.size + 1, 3, none⟩ = some (Value.bool false) := by rw [hc1 _ _ (by first | omega | (simp; done) | (simp; omega))]; first | assumption | go_simp
      have fr3' : w1.frozen? ⟨w.heap.size + 1, 3, none⟩ = false := by rw [hf1 _ _ (by first | omega | (simp; done) | (simp; omega))]; first | assumption | go_simp
      have cr4' : w1.cell? ⟨w.heap.size + 1, 4, none⟩ = some (Value.bool false) := by rw [hc1 _ _ (by first | omega | (simp; done) | (simp; omega))]; first | assumption | go_simp
      have fr4' : w1.frozen? ⟨w.heap.size + 1, 4, none⟩ = false := by rw [hf1 _ _ (by first | omega | (simp; done) | (simp; omega))]; first | assumption | go_simp
      clear hc1 hf1
      go_wp2
      refine bodyPost_ret (v := .tuple #[tapeV ⟨f, lo, n, ar, dn⟩, .int .i64 1]) (by simp [results, Try.results27, go_sem, *]) rfl ⟨by rw [HV.out] <;> rfl, ?_⟩
      repeat (first | (with_reducible refine Below.drew ?_) | (with_reducible refine bal ?_ _) | ((with_reducible refine bst ?_ ?_ _); rotate_left; focus (first | (simp; done) | (simp; omega))))
      exact hB1
    · have h1' : 0 ≤ k := by omega
      by_cases h2 : (f.length : Int) + lo.length < k
      · have hv : cutT ⟨f, lo, n, ar, dn⟩ k = (⟨f, lo, n, ar, dn⟩, 1) := by unfold cutT; rw [HRD.out, if_neg (by omega), if_pos (.inr (by simp only; omega))]
        have HV := Lib.hid hv
        clear hv
        go_enter Try.func27, Try.ntmps27
        go_wp2_with fail
        refine (ready_any f lo n ar dn hf hl _).mono ?_
        rintro e w1 ⟨rfl, hb1⟩
        rw [HRD.out]
        obtain ⟨hc1, hf1⟩ := bcell hb1
        have hz1 := hb1.size
        try simp at hz1
        have hB1 : Below w.heap.size w w1 := by
          refine bt ?_ hb1
          repeat (first | (with_reducible refine Below.drew ?_) | (with_reducible refine bal ?_ _) | ((with_reducible refine bst ?_ ?_ _); rotate_left; focus (first | (simp; done) | (simp; omega))))
          exact (b0 w)
        have ltx1 : w.heap.size < w1.heap.size := by omega
        have cx0' : w1.cell? ⟨w.heap.size, 0, none⟩ = some (Value.string ⟨(f).toArray⟩) := by rw [hc1 _ _ (by first | omega | (simp; done) | (simp; omega))]; first | assumption | go_simp
        have fx0' : w1.frozen? ⟨w.heap.size, 0, none⟩ = false := by rw [hf1 _ _ (by first | omega | (simp; done) | (simp; omega))]; first | assumption | go_simp
        have cx1' : w1.cell? ⟨w.heap.size, 1, none⟩ = some (Value.string ⟨(lo).toArray⟩) := by rw [hc1 _ _ (by first | omega | (simp; done) | (simp; omega))]; first | assumption | go_simp
        have fx1' : w1.frozen? ⟨w.heap.size, 1, none⟩ = false := by rw [hf1 _ _ (by first | omega | (simp; done) | (simp; omega))]; first | assumption | go_simp
        have cx2' : w1.cell? ⟨w.heap.size, 2, none⟩ = some (Value.int .i64 (n)) := by rw [hc1 _ _ (by first | omega | (simp; done) | (simp; omega))]; first | assumption | go_simp
        have fx2' : w1.frozen? ⟨w.heap.size, 2, none⟩ = false := by rw [hf1 _ _ (by first | omega | (simp; done) | (simp; omega))]; first | assumption | go_simp
        have cx3' : w1.cell? ⟨w.heap.size, 3, none⟩ = some (Value.bool ar) := by rw [hc1 _ _ (by first | omega | (simp; done) | (simp; omega))]; first | assumption | go_simp
        have fx3' : w1.frozen? ⟨w.heap.size, 3, none⟩ = false := by rw [hf1 _ _ (by first | omega | (simp; done) | (simp; omega))]; first | assumption | go_simp
        have cx4' : w1.cell? ⟨w.heap.size, 4, none⟩ = some (Value.bool dn) := by rw [hc1 _ _ (by first | omega | (simp; done) | (simp; omega))]; first | assumption | go_simp
        have fx4' : w1.frozen? ⟨w.heap.size, 4, none⟩ = false := by rw [hf1 _ _ (by first | omega | (simp; done) | (simp; omega))]; first | assumption | go_simp
        have ltr1 : w.heap.size + 1 < w1.heap.size := by omega
        have cr0' : w1.cell? ⟨w.heap.size + 1, 0, none⟩ = some (Value.string ⟨#[]⟩) := by rw [hc1 _ _ (by first | omega | (simp; done) | (simp; omega))]; first | assumption | go_simp
        have fr0' : w1.frozen? ⟨w.heap.size + 1, 0, none⟩ = false := by rw [hf1 _ _ (by first | omega | (simp; done) | (simp; omega))]; first | assumption | go_simp
        have cr1' : w1.cell? ⟨w.heap.size + 1, 1, none⟩ = some (Value.string ⟨#[]⟩) := by rw [hc1 _ _ (by first | omega | (simp; done) | (simp; omega))]; first | assumption | go_simp
        have fr1' : w1.frozen? ⟨w.heap.size + 1, 1, none⟩ = false := by rw [hf1 _ _ (by first | omega | (simp; done) | (simp; omega))]; first | assumption | go_simp
        have cr2' : w1.cell? ⟨w.heap.size + 1, 2, none⟩ = some (Value.int .i64 (0)) := by rw [hc1 _ _ (by first | omega | (simp; done) | (simp; omega))]; first | assumption | go_simp
        have fr2' : w1.frozen? ⟨w.heap.size + 1, 2, none⟩ = false := by rw [hf1 _ _ (by first | omega | (simp; done) | (simp; omega))]; first | assumption | go_simp
        have cr3' : w1.cell? ⟨w.heap.size + 1, 3, none⟩ = some (Value.bool false) := by rw [hc1 _ _ (by first | omega | (simp; done) | (simp; omega))]; first | assumption | go_simp
        have fr3' : w1.frozen? ⟨w.heap.size + 1, 3, none⟩ = false := by rw [hf1 _ _ (by first | omega | (simp; done) | (simp; omega))]; first | assumption | go_simp
        have cr4' : w1.cell? ⟨w.heap.size + 1, 4, none⟩ = some (Value.bool false) := by rw [hc1 _ _ (by first | omega | (simp; done) | (simp; omega))]; first | assumption | go_simp
        have fr4' : w1.frozen? ⟨w.heap.size + 1, 4, none⟩ = false := by rw [hf1 _ _ (by first | omega | (simp; done) | (simp; omega))]; first | assumption | go_simp
        clear hc1 hf1
        go_wp2
        refine bodyPost_ret (v := .tuple #[tapeV ⟨f, lo, n, ar, dn⟩, .int .i64 1]) (by simp [results, Try.results27, go_sem, *]) rfl ⟨by rw [HV.out] <;> rfl, ?_⟩
        repeat (first | (with_reducible refine Below.drew ?_) | (with_reducible refine bal ?_ _) | ((with_reducible refine bst ?_ ?_ _); rotate_left; focus (first | (simp; done) | (simp; omega))))
        exact hB1
      · obtain ⟨n', dn', ok, hs⟩ := spend_form f lo n ar dn
        have HS := Lib.hid hs
        clear hs
        cases ok
        · have hv : cutT ⟨f, lo, n, ar, dn⟩ k = (⟨f, lo, n', ar, dn'⟩, 16) := by unfold cutT; rw [HRD.out, if_neg (by omega), if_neg (by simp only; omega), HS.out]; rfl
          have HV := Lib.hid hv
          clear hv
          go_enter Try.func27, Try.ntmps27
          go_wp2_with fail
          refine (ready_any f lo n ar dn hf hl _).mono ?_
          rintro e w1 ⟨rfl, hb1⟩
          rw [HRD.out]
          obtain ⟨hc1, hf1⟩ := bcell hb1
          have hz1 := hb1.size
          try simp at hz1
          have hB1 : Below w.heap.size w w1 := by
            refine bt ?_ hb1
            repeat (first | (with_reducible refine Below.drew ?_) | (with_reducible refine bal ?_ _) | ((with_reducible refine bst ?_ ?_ _); rotate_left; focus (first | (simp; done) | (simp; omega))))
            exact (b0 w)
          have ltx1 : w.heap.size < w1.heap.size := by omega
          have cx0' : w1.cell? ⟨w.heap.size, 0, none⟩ = some (Value.string ⟨(f).toArray⟩) := by rw [hc1 _ _ (by first | omega | (simp; done) | (simp; omega))]; first | assumption | go_simp
          have fx0' : w1.frozen? ⟨w.heap.size, 0, none⟩ = false := by rw [hf1 _ _ (by first | omega | (simp; done) | (simp; omega))]; first | assumption | go_simp
          have cx1' : w1.cell? ⟨w.heap.size, 1, none⟩ = some (Value.string ⟨(lo).toArray⟩) := by rw [hc1 _ _ (by first | omega | (simp; done) | (simp; omega))]; first | assumption | go_simp
          have fx1' : w1.frozen? ⟨w.heap.size, 1, none⟩ = false := by rw [hf1 _ _ (by first | omega | (simp; done) | (simp; omega))]; first | assumption | go_simp
          have cx2' : w1.cell? ⟨w.heap.size, 2, none⟩ = some (Value.int .i64 (n)) := by rw [hc1 _ _ (by first | omega | (simp; done) | (simp; omega))]; first | assumption | go_simp
          have fx2' : w1.frozen? ⟨w.heap.size, 2, none⟩ = false := by rw [hf1 _ _ (by first | omega | (simp; done) | (simp; omega))]; first | assumption | go_simp
          have cx3' : w1.cell? ⟨w.heap.size, 3, none⟩ = some (Value.bool ar) := by rw [hc1 _ _ (by first | omega | (simp; done) | (simp; omega))]; first | assumption | go_simp
          have fx3' : w1.frozen? ⟨w.heap.size, 3, none⟩ = false := by rw [hf1 _ _ (by first | omega | (simp; done) | (simp; omega))]; first | assumption | go_simp
          have cx4' : w1.cell? ⟨w.heap.size, 4, none⟩ = some (Value.bool dn) := by rw [hc1 _ _ (by first | omega | (simp; done) | (simp; omega))]; first | assumption | go_simp
          have fx4' : w1.frozen? ⟨w.heap.size, 4, none⟩ = false := by rw [hf1 _ _ (by first | omega | (simp; done) | (simp; omega))]; first | assumption | go_simp
          have ltr1 : w.heap.size + 1 < w1.heap.size := by omega
          have cr0' : w1.cell? ⟨w.heap.size + 1, 0, none⟩ = some (Value.string ⟨#[]⟩) := by rw [hc1 _ _ (by first | omega | (simp; done) | (simp; omega))]; first | assumption | go_simp
          have fr0' : w1.frozen? ⟨w.heap.size + 1, 0, none⟩ = false := by rw [hf1 _ _ (by first | omega | (simp; done) | (simp; omega))]; first | assumption | go_simp
          have cr1' : w1.cell? ⟨w.heap.size + 1, 1, none⟩ = some (Value.string ⟨#[]⟩) := by rw [hc1 _ _ (by first | omega | (simp; done) | (simp; omega))]; first | assumption | go_simp
          have fr1' : w1.frozen? ⟨w.heap.size + 1, 1, none⟩ = false := by rw [hf1 _ _ (by first | omega | (simp; done) | (simp; omega))]; first | assumption | go_simp
          have cr2' : w1.cell? ⟨w.heap.size + 1, 2, none⟩ = some (Value.int .i64 (0)) := by rw [hc1 _ _ (by first | omega | (simp; done) | (simp; omega))]; first | assumption | go_simp
          have fr2' : w1.frozen? ⟨w.heap.size + 1, 2, none⟩ = false := by rw [hf1 _ _ (by first | omega | (simp; done) | (simp; omega))]; first | assumption | go_simp
          have cr3' : w1.cell? ⟨w.heap.size + 1, 3, none⟩ = some (Value.bool false) := by rw [hc1 _ _ (by first | omega | (simp; done) | (simp; omega))]; first | assumption | go_simp
          have fr3' : w1.frozen? ⟨w.heap.size + 1, 3, none⟩ = false := by rw [hf1 _ _ (by first | omega | (simp; done) | (simp; omega))]; first | assumption | go_simp
          have cr4' : w1.cell? ⟨w.heap.size + 1, 4, none⟩ = some (Value.bool false) := by rw [hc1 _ _ (by first | omega | (simp; done) | (simp; omega))]; first | assumption | go_simp
          have fr4' : w1.frozen? ⟨w.heap.size + 1, 4, none⟩ = false := by rw [hf1 _ _ (by first | omega | (simp; done) | (simp; omega))]; first | assumption | go_simp
          clear hc1 hf1
          go_wp2_with fail
          refine (spend_any f lo n ar dn hf hl ⟨hn1, hn2⟩ _).mono ?_
          rintro e w2 ⟨rfl, hb2⟩
          rw [HS.out]
          obtain ⟨hc2, hf2⟩ := bcell hb2
          have hz2 := hb2.size
          try simp at hz2
          have hB2 : Below w.heap.size w w2 := by
            refine bt ?_ hb2
            repeat (first | (with_reducible refine Below.drew ?_) | (with_reducible refine bal ?_ _) | ((with_reducible refine bst ?_ ?_ _); rotate_left; focus (first | (simp; done) | (simp; omega))))
            exact hB1
          have ltx2 : w.heap.size < w2.heap.size := by omega
          have cx0 : w2.cell? ⟨w.heap.size, 0, none⟩ = some (Value.string ⟨(f).toArray⟩) := by rw [hc2 _ _ (by first | omega | (simp; done) | (simp; omega))]; first | assumption | go_simp
          have fx0 : w2.frozen? ⟨w.heap.size, 0, none⟩ = false := by rw [hf2 _ _ (by first | omega | (simp; done) | (simp; omega))]; first | assumption | go_simp
          have cx1 : w2.cell? ⟨w.heap.size, 1, none⟩ = some (Value.string ⟨(lo).toArray⟩) := by rw [hc2 _ _ (by first | omega | (simp; done) | (simp; omega))]; first | assumption | go_simp
          have fx1 : w2.frozen? ⟨w.heap.size, 1, none⟩ = false := by rw [hf2 _ _ (by first | omega | (simp; done) | (simp; omega))]; first | assumption | go_simp
          have cx2 : w2.cell? ⟨w.heap.size, 2, none⟩ = some (Value.int .i64 (n)) := by rw [hc2 _ _ (by first | omega | (simp; done) | (simp; omega))]; first | assumption | go_simp
          have fx2 : w2.frozen? ⟨w.heap.size, 2, none⟩ = false := by rw [hf2 _ _ (by first | omega | (simp; done) | (simp; omega))]; first | assumption | go_simp
          have cx3 : w2.cell? ⟨w.heap.size, 3, none⟩ = some (Value.bool ar) := by rw [hc2 _ _ (by first | omega | (simp; done) | (simp; omega))]; first | assumption | go_simp
          have fx3 : w2.frozen? ⟨w.heap.size, 3, none⟩ = false := by rw [hf2 _ _ (by first | omega | (simp; done) | (simp; omega))]; first | assumption | go_simp
          have cx4 : w2.cell? ⟨w.heap.size, 4, none⟩ = some (Value.bool dn) := by rw [hc2 _ _ (by first | omega | (simp; done) | (simp; omega))]; first | assumption | go_simp
          have fx4 : w2.frozen? ⟨w.heap.size, 4, none⟩ = false := by rw [hf2 _ _ (by first | omega | (simp; done) | (simp; omega))]; first | assumption | go_simp
          have ltr2 : w.heap.size + 1 < w2.heap.size := by omega
          have cr0 : w2.cell? ⟨w.heap.size + 1, 0, none⟩ = some (Value.string ⟨#[]⟩) := by rw [hc2 _ _ (by first | omega | (simp; done) | (simp; omega))]; first | assumption | go_simp
          have fr0 : w2.frozen? ⟨w.heap.size + 1, 0, none⟩ = false := by rw [hf2 _ _ (by first | omega | (simp; done) | (simp; omega))]; first | assumption | go_simp
          have cr1 : w2.cell? ⟨w.heap.size + 1, 1, none⟩ = some (Value.string ⟨#[]⟩) := by rw [hc2 _ _ (by first | omega | (simp; done) | (simp; omega))]; first | assumption | go_simp
          have fr1 : w2.frozen? ⟨w.heap.size + 1, 1, none⟩ = false := by rw [hf2 _ _ (by first | omega | (simp; done) | (simp; omega))]; first | assumption | go_simp
          have cr2 : w2.cell? ⟨w.heap.size + 1, 2, none⟩ = some (Value.int .i64 (0)) := by rw [hc2 _ _ (by first | omega | (simp; done) | (simp; omega))]; first | assumption | go_simp
          have fr2 : w2.frozen? ⟨w.heap.size + 1, 2, none⟩ = false := by rw [hf2 _ _ (by first | omega | (simp; done) | (simp; omega))]; first | assumption | go_simp
          have cr3 : w2.cell? ⟨w.heap.size + 1, 3, none⟩ = some (Value.bool false) := by rw [hc2 _ _ (by first | omega | (simp; done) | (simp; omega))]; first | assumption | go_simp
          have fr3 : w2.frozen? ⟨w.heap.size + 1, 3, none⟩ = false := by rw [hf2 _ _ (by first | omega | (simp; done) | (simp; omega))]; first | assumption | go_simp
          have cr4 : w2.cell? ⟨w.heap.size + 1, 4, none⟩ = some (Value.bool false) := by rw [hc2 _ _ (by first | omega | (simp; done) | (simp; omega))]; first | assumption | go_simp
          have fr4 : w2.frozen? ⟨w.heap.size + 1, 4, none⟩ = false := by rw [hf2 _ _ (by first | omega | (simp; done) | (simp; omega))]; first | assumption | go_simp
          clear hc2 hf2
          clear cx0' fx0' cx1' fx1' cx2' fx2' cx3' fx3' cx4' fx4' cr0' fr0' cr1' fr1' cr2' fr2' cr3' fr3' cr4' fr4'
          go_wp2
          refine bodyPost_ret (v := .tuple #[tapeV ⟨f, lo, n', ar, dn'⟩, .int .i64 16]) (by simp [results, Try.results27, go_sem, *]) rfl ⟨by rw [HV.out] <;> rfl, ?_⟩
          repeat (first | (with_reducible refine Below.drew ?_) | (with_reducible refine bal ?_ _) | ((with_reducible refine bst ?_ ?_ _); rotate_left; focus (first | (simp; done) | (simp; omega))))
          exact hB2
        · have hv : cutT ⟨f, lo, n, ar, dn⟩ k = (⟨(f ++ lo).take k.toNat, [], n', ar, dn'⟩, 0) := by unfold cutT; rw [HRD.out, if_neg (by omega), if_neg (by simp only; omega), HS.out]; rfl
          have HV := Lib.hid hv
          clear hv
          go_enter Try.func27, Try.ntmps27
          go_wp2_with fail
          refine (ready_any f lo n ar dn hf hl _).mono ?_
          rintro e w1 ⟨rfl, hb1⟩
          rw [HRD.out]
          obtain ⟨hc1, hf1⟩ := bcell hb1
          have hz1 := hb1.size
          try simp at hz1
          have hB1 : Below w.heap.size w w1 := by
            refine bt ?_ hb1
            repeat (first | (with_reducible refine Below.drew ?_) | (with_reducible refine bal ?_ _) | ((with_reducible refine bst ?_ ?_ _); rotate_left; focus (first | (simp; done) | (simp; omega))))
            exact (b0 w)
          have ltx1 : w.heap.size < w1.heap.size := by omega
          have cx0' : w1.cell? ⟨w.heap.size, 0, none⟩ = some (Value.string ⟨(f).toArray⟩) := by rw [hc1 _ _ (by first | omega | (simp; done) | (simp; omega))]; first | assumption | go_simp
          have fx0' : w1.frozen? ⟨w.heap.size, 0, none⟩ = false := by rw [hf1 _ _ (by first | omega | (simp; done) | (simp; omega))]; first | assumption | go_simp
          have cx1' : w1.cell? ⟨w.heap.size, 1, none⟩ = some (Value.string ⟨(lo).toArray⟩) := by rw [hc1 _ _ (by first | omega | (simp; done) | (simp; omega))]; first | assumption | go_simp
          have fx1' : w1.frozen? ⟨w.heap.size, 1, none⟩ = false := by rw [hf1 _ _ (by first | omega | (simp; done) | (simp; omega))]; first | assumption | go_simp
          have cx2' : w1.cell? ⟨w.heap.size, 2, none⟩ = some (Value.int .i64 (n)) := by rw [hc1 _ _ (by first | omega | (simp; done) | (simp; omega))]; first | assumption | go_simp
          have fx2' : w1.frozen? ⟨w.heap.size, 2, none⟩ = false := by rw [hf1 _ _ (by first | omega | (simp; done) | (simp; omega))]; first | assumption | go_simp
          have cx3' : w1.cell? ⟨w.heap.size, 3, none⟩ = some (Value.bool ar) := by rw [hc1 _ _ (by first | omega | (simp; done) | (simp; omega))]; first | assumption | go_simp
          have fx3' : w1.frozen? ⟨w.heap.size, 3, none⟩ = false := by rw [hf1 _ _ (by first | omega | (simp; done) | (simp; omega))]; first | assumption | go_simp
          have cx4' : w1.cell? ⟨w.heap.size, 4, none⟩ = some (Value.bool dn) := by rw [hc1 _ _ (by first | omega | (simp; done) | (simp; omega))]; first | assumption | go_simp
          have fx4' : w1.frozen? ⟨w.heap.size, 4, none⟩ = false := by rw [hf1 _ _ (by first | omega | (simp; done) | (simp; omega))]; first | assumption | go_simp
          have ltr1 : w.heap.size + 1 < w1.heap.size := by omega
          have cr0' : w1.cell? ⟨w.heap.size + 1, 0, none⟩ = some (Value.string ⟨#[]⟩) := by rw [hc1 _ _ (by first | omega | (simp; done) | (simp; omega))]; first | assumption | go_simp
          have fr0' : w1.frozen? ⟨w.heap.size + 1, 0, none⟩ = false := by rw [hf1 _ _ (by first | omega | (simp; done) | (simp; omega))]; first | assumption | go_simp
          have cr1' : w1.cell? ⟨w.heap.size + 1, 1, none⟩ = some (Value.string ⟨#[]⟩) := by rw [hc1 _ _ (by first | omega | (simp; done) | (simp; omega))]; first | assumption | go_simp
          have fr1' : w1.frozen? ⟨w.heap.size + 1, 1, none⟩ = false := by rw [hf1 _ _ (by first | omega | (simp; done) | (simp; omega))]; first | assumption | go_simp
          have cr2' : w1.cell? ⟨w.heap.size + 1, 2, none⟩ = some (Value.int .i64 (0)) := by rw [hc1 _ _ (by first | omega | (simp; done) | (simp; omega))]; first | assumption | go_simp
          have fr2' : w1.frozen? ⟨w.heap.size + 1, 2, none⟩ = false := by rw [hf1 _ _ (by first | omega | (simp; done) | (simp; omega))]; first | assumption | go_simp
          have cr3' : w1.cell? ⟨w.heap.size + 1, 3, none⟩ = some (Value.bool false) := by rw [hc1 _ _ (by first | omega | (simp; done) | (simp; omega))]; first | assumption | go_simp
          have fr3' : w1.frozen? ⟨w.heap.size + 1, 3, none⟩ = false := by rw [hf1 _ _ (by first | omega | (simp; done) | (simp; omega))]; first | assumption | go_simp
          have cr4' : w1.cell? ⟨w.heap.size + 1, 4, none⟩ = some (Value.bool false) := by rw [hc1 _ _ (by first | omega | (simp; done) | (simp; omega))]; first | assumption | go_simp
          have fr4' : w1.frozen? ⟨w.heap.size + 1, 4, none⟩ = false := by rw [hf1 _ _ (by first | omega | (simp; done) | (simp; omega))]; first | assumption | go_simp
          clear hc1 hf1
          go_wp2_with fail
          refine (spend_any f lo n ar dn hf hl ⟨hn1, hn2⟩ _).mono ?_
          rintro e w2 ⟨rfl, hb2⟩
          rw [HS.out]
          obtain ⟨hc2, hf2⟩ := bcell hb2
          have hz2 := hb2.size
          try simp at hz2
          have hB2 : Below w.heap.size w w2 := by
            refine bt ?_ hb2
            repeat (first | (with_reducible refine Below.drew ?_) | (with_reducible refine bal ?_ _) | ((with_reducible refine bst ?_ ?_ _); rotate_left; focus (first | (simp; done) | (simp; omega))))
            exact hB1
          have ltx2 : w.heap.size < w2.heap.size := by omega
          have cx0 : w2.cell? ⟨w.heap.size, 0, none⟩ = some (Value.string ⟨(f).toArray⟩) := by rw [hc2 _ _ (by first | omega | (simp; done) | (simp; omega))]; first | assumption | go_simp
          have fx0 : w2.frozen? ⟨w.heap.size, 0, none⟩ = false := by rw [hf2 _ _ (by first | omega | (simp; done) | (simp; omega))]; first | assumption | go_simp
          have cx1 : w2.cell? ⟨w.heap.size, 1, none⟩ = some (Value.string ⟨(lo).toArray⟩) := by rw [hc2 _ _ (by first | omega | (simp; done) | (simp; omega))]; first | assumption | go_simp
          have fx1 : w2.frozen? ⟨w.heap.size, 1, none⟩ = false := by rw [hf2 _ _ (by first | omega | (simp; done) | (simp; omega))]; first | assumption | go_simp
          have cx2 : w2.cell? ⟨w.heap.size, 2, none⟩ = some (Value.int .i64 (n)) := by rw [hc2 _ _ (by first | omega | (simp; done) | (simp; omega))]; first | assumption | go_simp
          have fx2 : w2.frozen? ⟨w.heap.size, 2, none⟩ = false := by rw [hf2 _ _ (by first | omega | (simp; done) | (simp; omega))]; first | assumption | go_simp
          have cx3 : w2.cell? ⟨w.heap.size, 3, none⟩ = some (Value.bool ar) := by rw [hc2 _ _ (by first | omega | (simp; done) | (simp; omega))]; first | assumption | go_simp
          have fx3 : w2.frozen? ⟨w.heap.size, 3, none⟩ = false := by rw [hf2 _ _ (by first | omega | (simp; done) | (simp; omega))]; first | assumption | go_simp
          have cx4 : w2.cell? ⟨w.heap.size, 4, none⟩ = some (Value.bool dn) := by rw [hc2 _ _ (by first | omega | (simp; done) | (simp; omega))]; first | assumption | go_simp
          have fx4 : w2.frozen? ⟨w.heap.size, 4, none⟩ = false := by rw [hf2 _ _ (by first | omega | (simp; done) | (simp; omega))]; first | assumption | go_simp
          have ltr2 : w.heap.size + 1 < w2.heap.size := by omega
          have cr0 : w2.cell? ⟨w.heap.size + 1, 0, none⟩ = some (Value.string ⟨#[]⟩) := by rw [hc2 _ _ (by first | omega | (simp; done) | (simp; omega))]; first | assumption | go_simp
          have fr0 : w2.frozen? ⟨w.heap.size + 1, 0, none⟩ = false := by rw [hf2 _ _ (by first | omega | (simp; done) | (simp; omega))]; first | assumption | go_simp
          have cr1 : w2.cell? ⟨w.heap.size + 1, 1, none⟩ = some (Value.string ⟨#[]⟩) := by rw [hc2 _ _ (by first | omega | (simp; done) | (simp; omega))]; first | assumption | go_simp
          have fr1 : w2.frozen? ⟨w.heap.size + 1, 1, none⟩ = false := by rw [hf2 _ _ (by first | omega | (simp; done) | (simp; omega))]; first | assumption | go_simp
          have cr2 : w2.cell? ⟨w.heap.size + 1, 2, none⟩ = some (Value.int .i64 (0)) := by rw [hc2 _ _ (by first | omega | (simp; done) | (simp; omega))]; first | assumption | go_simp
          have fr2 : w2.frozen? ⟨w.heap.size + 1, 2, none⟩ = false := by rw [hf2 _ _ (by first | omega | (simp; done) | (simp; omega))]; first | assumption | go_simp
          have cr3 : w2.cell? ⟨w.heap.size + 1, 3, none⟩ = some (Value.bool false) := by rw [hc2 _ _ (by first | omega | (simp; done) | (simp; omega))]; first | assumption | go_simp
          have fr3 : w2.frozen? ⟨w.heap.size + 1, 3, none⟩ = false := by rw [hf2 _ _ (by first | omega | (simp; done) | (simp; omega))]; first | assumption | go_simp
          have cr4 : w2.cell? ⟨w.heap.size + 1, 4, none⟩ = some (Value.bool false) := by rw [hc2 _ _ (by first | omega | (simp; done) | (simp; omega))]; first | assumption | go_simp
          have fr4 : w2.frozen? ⟨w.heap.size + 1, 4, none⟩ = false := by rw [hf2 _ _ (by first | omega | (simp; done) | (simp; omega))]; first | assumption | go_simp
          clear hc2 hf2
          clear cx0' fx0' cx1' fx1' cx2' fx2' cx3' fx3' cx4' fx4' cr0' fr0' cr1' fr1' cr2' fr2' cr3' fr3' cr4' fr4'
          go_upto_region 9 with (fail)
          generalize hW : World.setCell _ _ _ = w3
          have ltx3 : w.heap.size < w3.heap.size := by subst hW; simp; omega
          have cx0'' : w3.cell? ⟨w.heap.size, 0, none⟩ = some (Value.string ⟨(f).toArray⟩) := by subst hW; go_simp
          have fx0'' : w3.frozen? ⟨w.heap.size, 0, none⟩ = false := by subst hW; go_simp
          have cx1'' : w3.cell? ⟨w.heap.size, 1, none⟩ = some (Value.string ⟨(lo).toArray⟩) := by subst hW; go_simp
          have fx1'' : w3.frozen? ⟨w.heap.size, 1, none⟩ = false := by subst hW; go_simp
          have cx2'' : w3.cell? ⟨w.heap.size, 2, none⟩ = some (Value.int .i64 (n')) := by subst hW; go_simp
          have fx2'' : w3.frozen? ⟨w.heap.size, 2, none⟩ = false := by subst hW; go_simp
          have cx3'' : w3.cell? ⟨w.heap.size, 3, none⟩ = some (Value.bool ar) := by subst hW; go_simp
          have fx3'' : w3.frozen? ⟨w.heap.size, 3, none⟩ = false := by subst hW; go_simp
          have cx4'' : w3.cell? ⟨w.heap.size, 4, none⟩ = some (Value.bool dn') := by subst hW; go_simp
          have fx4'' : w3.frozen? ⟨w.heap.size, 4, none⟩ = false := by subst hW; go_simp
          have ltr3 : w.heap.size + 1 < w3.heap.size := by subst hW; simp; omega
          have cr0'' : w3.cell? ⟨w.heap.size + 1, 0, none⟩ = some (Value.string ⟨#[]⟩) := by subst hW; go_simp
          have fr0'' : w3.frozen? ⟨w.heap.size + 1, 0, none⟩ = false := by subst hW; go_simp
          have cr1'' : w3.cell? ⟨w.heap.size + 1, 1, none⟩ = some (Value.string ⟨#[]⟩) := by subst hW; go_simp
          have fr1'' : w3.frozen? ⟨w.heap.size + 1, 1, none⟩ = false := by subst hW; go_simp
          have cr2'' : w3.cell? ⟨w.heap.size + 1, 2, none⟩ = some (Value.int .i64 (0)) := by subst hW; go_simp
          have fr2'' : w3.frozen? ⟨w.heap.size + 1, 2, none⟩ = false := by subst hW; go_simp
          have cr3'' : w3.cell? ⟨w.heap.size + 1, 3, none⟩ = some (Value.bool false) := by subst hW; go_simp
          have fr3'' : w3.frozen? ⟨w.heap.size + 1, 3, none⟩ = false := by subst hW; go_simp
          have cr4'' : w3.cell? ⟨w.heap.size + 1, 4, none⟩ = some (Value.bool false) := by subst hW; go_simp
          have fr4'' : w3.frozen? ⟨w.heap.size + 1, 4, none⟩ = false := by subst hW; go_simp
          have hB3 : Below w.heap.size w w3 := by
            subst hW
            repeat (first | (with_reducible refine Below.drew ?_) | (with_reducible refine bal ?_ _) | ((with_reducible refine bst ?_ ?_ _); rotate_left; focus (first | (simp; done) | (simp; omega))))
            exact hB2
          clear hW cx0 fx0 cx1 fx1 cx2 fx2 cx3 fx3 cx4 fx4 cr0 fr0 cr1 fr1 cr2 fr2 cr3 fr3 cr4 fr4
          go_wp2
          refine bodyPost_ret (v := .tuple #[tapeV ⟨(f ++ lo).take k.toNat, [], n', ar, dn'⟩, .int .i64 0]) (by simp [results, Try.results27, go_sem, *]) rfl ⟨by rw [HV.out] <;> rfl, ?_⟩
          repeat (first | (with_reducible refine Below.drew ?_) | (with_reducible refine bal ?_ _) | ((with_reducible refine bst ?_ ?_ _); rotate_left; focus (first | (simp; done) | (simp; omega))))
          exact hB3
  · have hv : cutT ⟨f, lo, n, ar, dn⟩ k = (⟨f, lo, n, ar, dn⟩, r) := by simp [cutT, HRD.out, hr0]
    have HV := Lib.hid hv
    clear hv
    have hne : ((r : Int) != 0) = true := by simp [hr0]
    clear hr0
    go_enter Try.func27, Try.ntmps27
    go_wp2_with fail
    refine (ready_any f lo n ar dn hf hl _).mono ?_
    rintro e w1 ⟨rfl, hb1⟩
    rw [HRD.out]
    obtain ⟨hc1, hf1⟩ := bcell hb1
    have hz1 := hb1.size
    try simp at hz1
    have hB1 : Below w.heap.size w w1 := by
      refine bt ?_ hb1
      repeat (first | (with_reducible refine Below.drew ?_) | (with_reducible refine bal ?_ _) | ((with_reducible refine bst ?_ ?_ _); rotate_left; focus (first | (simp; done) | (simp; omega))))
      exact (b0 w)
    have ltx1 : w.heap.size < w1.heap.size := by omega
    have cx0' : w1.cell? ⟨w.heap.size, 0, none⟩ = some (Value.string ⟨(f).toArray⟩) := by rw [hc1 _ _ (by first | omega | (simp; done) | (simp; omega))]; first | assumption | go_simp
    have fx0' : w1.frozen? ⟨w.heap.size, 0, none⟩ = false := by rw [hf1 _ _ (by first | omega | (simp; done) | (simp; omega))]; first | assumption | go_simp
    have cx1' : w1.cell? ⟨w.heap.size, 1, none⟩ = some (Value.string ⟨(lo).toArray⟩) := by rw [hc1 _ _ (by first | omega | (simp; done) | (simp; omega))]; first | assumption | go_simp
    have fx1' : w1.frozen? ⟨w.heap.size, 1, none⟩ = false := by rw [hf1 _ _ (by first | omega | (simp; done) | (simp; omega))]; first | assumption | go_simp
    have cx2' : w1.cell? ⟨w.heap.size, 2, none⟩ = some (Value.int .i64 (n)) := by rw [hc1 _ _ (by first | omega | (simp; done) | (simp; omega))]; first | assumption | go_simp
    have fx2' : w1.frozen? ⟨w.heap.size, 2, none⟩ = false := by rw [hf1 _ _ (by first | omega | (simp; done) | (simp; omega))]; first | assumption | go_simp
    have cx3' : w1.cell? ⟨w.heap.size, 3, none⟩ = some (Value.bool ar) := by rw [hc1 _ _ (by first | omega | (simp; done) | (simp; omega))]; first | assumption | go_simp
    have fx3' : w1.frozen? ⟨w.heap.size, 3, none⟩ = false := by rw [hf1 _ _ (by first | omega | (simp; done) | (simp; omega))]; first | assumption | go_simp
    have cx4' : w1.cell? ⟨w.heap.size, 4, none⟩ = some (Value.bool dn) := by rw [hc1 _ _ (by first | omega | (simp; done) | (simp; omega))]; first | assumption | go_simp
    have fx4' : w1.frozen? ⟨w.heap.size, 4, none⟩ = false := by rw [hf1 _ _ (by first | omega | (simp; done) | (simp; omega))]; first | assumption | go_simp
    have ltr1 : w.heap.size + 1 < w1.heap.size := by omega
    have cr0' : w1.cell? ⟨w.heap.size + 1, 0, none⟩ = some (Value.string ⟨#[]⟩) := by rw [hc1 _ _ (by first | omega | (simp; done) | (simp; omega))]; first | assumption | go_simp
    have fr0' : w1.frozen? ⟨w.heap.size + 1, 0, none⟩ = false := by rw [hf1 _ _ (by first | omega | (simp; done) | (simp; omega))]; first | assumption | go_simp
    have cr1' : w1.cell? ⟨w.heap.size + 1, 1, none⟩ = some (Value.string ⟨#[]⟩) := by rw [hc1 _ _ (by first | omega | (simp; done) | (simp; omega))]; first | assumption | go_simp
    have fr1' : w1.frozen? ⟨w.heap.size + 1, 1, none⟩ = false := by rw [hf1 _ _ (by first | omega | (simp; done) | (simp; omega))]; first | assumption | go_simp
    have cr2' : w1.cell? ⟨w.heap.size + 1, 2, none⟩ = some (Value.int .i64 (0)) := by rw [hc1 _ _ (by first | omega | (simp; done) | (simp; omega))]; first | assumption | go_simp
    have fr2' : w1.frozen? ⟨w.heap.size + 1, 2, none⟩ = false := by rw [hf1 _ _ (by first | omega | (simp; done) | (simp; omega))]; first | assumption | go_simp
    have cr3' : w1.cell? ⟨w.heap.size + 1, 3, none⟩ = some (Value.bool false) := by rw [hc1 _ _ (by first | omega | (simp; done) | (simp; omega))]; first | assumption | go_simp
    have fr3' : w1.frozen? ⟨w.heap.size + 1, 3, none⟩ = false := by rw [hf1 _ _ (by first | omega | (simp; done) | (simp; omega))]; first | assumption | go_simp
    have cr4' : w1.cell? ⟨w.heap.size + 1, 4, none⟩ = some (Value.bool false) := by rw [hc1 _ _ (by first | omega | (simp; done) | (simp; omega))]; first | assumption | go_simp
    have fr4' : w1.frozen? ⟨w.heap.size + 1, 4, none⟩ = false := by rw [hf1 _ _ (by first | omega | (simp; done) | (simp; omega))]; first | assumption | go_simp
    clear hc1 hf1
    go_wp2
    refine bodyPost_ret (v := .tuple #[tapeV ⟨f, lo, n, ar, dn⟩, .int .i64 (r : Int)]) (by simp [results, Try.results27, go_sem, *]) rfl ⟨by rw [HV.out] <;> rfl, ?_⟩
    repeat (first | (with_reducible refine Below.drew ?_) | (with_reducible refine bal ?_ _) | ((with_reducible refine bst ?_ ?_ _); rotate_left; focus (first | (simp; done) | (simp; omega))))
    exact hB1
set_option maxHeartbeats 3200000 in
set_option maxRecDepth 100000 in
theorem crash_any (f lo : List UInt8) (n : Int) (ar dn : Bool) (hf : f.length ≤ 140737488351232) (hl : lo.length ≤ 140737488351232) (k : Int) (_hk : -9223372036854775808 ≤ k ∧ k ≤ 9223372036854775807) (w : World) : Calls Try.prog 17 #[tapeV ⟨f, lo, n, ar, dn⟩, .int .i64 k] w fun e w' => e = .returned (tapeV (crashT ⟨f, lo, n, ar, dn⟩ k)) ∧ Below w.heap.size w w' := by
  generalize hr : rightTp ⟨f, lo, n, ar, dn⟩ = r
  have HR := Lib.hid hr
  clear hr
  cases r
  · have hv : crashT ⟨f, lo, n, ar, dn⟩ k = ⟨f, lo, n, ar, dn⟩ := by simp [crashT, HR.out]
    have HV := Lib.hid hv
    clear hv
    go_enter Try.func17, Try.ntmps17
    go_wp2_with fail
    refine (tright_any f lo n ar dn hf hl _).mono ?_
    rintro e w1 ⟨rfl, hb1⟩
    rw [HR.out]
    obtain ⟨hc1, hf1⟩ := bcell hb1
    have hz1 := hb1.size
    try simp at hz1
    have hB1 : Below w.heap.size w w1 := by
      refine bt ?_ hb1
      repeat (first | (with_reducible refine Below.drew ?_) | (with_reducible refine bal ?_ _) | ((with_reducible refine bst ?_ ?_ _); rotate_left; focus (first | (simp; done) | (simp; omega))))
      exact (b0 w)
    have ltx1 : w.heap.size < w1.heap.size := by omega
    have cx0 : w1.cell? ⟨w.heap.size, 0, none⟩ = some (Value.string ⟨(f).toArray⟩) := by rw [hc1 _ _ (by first | omega | (simp; done) | (simp; omega))]; first | assumption | go_simp
    have fx0 : w1.frozen? ⟨w.heap.size, 0, none⟩ = false := by rw [hf1 _ _ (by first | omega | (simp; done) | (simp; omega))]; first | assumption | go_simp
    have cx1 : w1.cell? ⟨w.heap.size, 1, none⟩ = some (Value.string ⟨(lo).toArray⟩) := by rw [hc1 _ _ (by first | omega | (simp; done) | (simp; omega))]; first | assumption | go_simp
    have fx1 : w1.frozen? ⟨w.heap.size, 1, none⟩ = false := by rw [hf1 _ _ (by first | omega | (simp; done) | (simp; omega))]; first | assumption | go_simp
    have cx2 : w1.cell? ⟨w.heap.size, 2, none⟩ = some (Value.int .i64 (n)) := by rw [hc1 _ _ (by first | omega | (simp; done) | (simp; omega))]; first | assumption | go_simp
    have fx2 : w1.frozen? ⟨w.heap.size, 2, none⟩ = false := by rw [hf1 _ _ (by first | omega | (simp; done) | (simp; omega))]; first | assumption | go_simp
    have cx3 : w1.cell? ⟨w.heap.size, 3, none⟩ = some (Value.bool ar) := by rw [hc1 _ _ (by first | omega | (simp; done) | (simp; omega))]; first | assumption | go_simp
    have fx3 : w1.frozen? ⟨w.heap.size, 3, none⟩ = false := by rw [hf1 _ _ (by first | omega | (simp; done) | (simp; omega))]; first | assumption | go_simp
    have cx4 : w1.cell? ⟨w.heap.size, 4, none⟩ = some (Value.bool dn) := by rw [hc1 _ _ (by first | omega | (simp; done) | (simp; omega))]; first | assumption | go_simp
    have fx4 : w1.frozen? ⟨w.heap.size, 4, none⟩ = false := by rw [hf1 _ _ (by first | omega | (simp; done) | (simp; omega))]; first | assumption | go_simp
    have ltr1 : w.heap.size + 1 < w1.heap.size := by omega
    have cr0 : w1.cell? ⟨w.heap.size + 1, 0, none⟩ = some (Value.string ⟨#[]⟩) := by rw [hc1 _ _ (by first | omega | (simp; done) | (simp; omega))]; first | assumption | go_simp
    have fr0 : w1.frozen? ⟨w.heap.size + 1, 0, none⟩ = false := by rw [hf1 _ _ (by first | omega | (simp; done) | (simp; omega))]; first | assumption | go_simp
    have cr1 : w1.cell? ⟨w.heap.size + 1, 1, none⟩ = some (Value.string ⟨#[]⟩) := by rw [hc1 _ _ (by first | omega | (simp; done) | (simp; omega))]; first | assumption | go_simp
    have fr1 : w1.frozen? ⟨w.heap.size + 1, 1, none⟩ = false := by rw [hf1 _ _ (by first | omega | (simp; done) | (simp; omega))]; first | assumption | go_simp
    have cr2 : w1.cell? ⟨w.heap.size + 1, 2, none⟩ = some (Value.int .i64 (0)) := by rw [hc1 _ _ (by first | omega | (simp; done) | (simp; omega))]; first | assumption | go_simp
    have fr2 : w1.frozen? ⟨w.heap.size + 1, 2, none⟩ = false := by rw [hf1 _ _ (by first | omega | (simp; done) | (simp; omega))]; first | assumption | go_simp
    have cr3 : w1.cell? ⟨w.heap.size + 1, 3, none⟩ = some (Value.bool false) := by rw [hc1 _ _ (by first | omega | (simp; done) | (simp; omega))]; first | assumption | go_simp
    have fr3 : w1.frozen? ⟨w.heap.size + 1, 3, none⟩ = false := by rw [hf1 _ _ (by first | omega | (simp; done) | (simp; omega))]; first | assumption | go_simp
    have cr4 : w1.cell? ⟨w.heap.size + 1, 4, none⟩ = some (Value.bool false) := by rw [hc1 _ _ (by first | omega | (simp; done) | (simp; omega))]; first | assumption | go_simp
    have fr4 : w1.frozen? ⟨w.heap.size + 1, 4, none⟩ = false := by rw [hf1 _ _ (by first | omega | (simp; done) | (simp; omega))]; first | assumption | go_simp
    clear hc1 hf1
    go_wp2
    refine bodyPost_ret (v := tapeV ⟨f, lo, n, ar, dn⟩) (by simp [results, Try.results17, go_sem, *]) rfl ⟨by rw [HV.out] <;> rfl, ?_⟩
    repeat (first | (with_reducible refine Below.drew ?_) | (with_reducible refine bal ?_ _) | ((with_reducible refine bst ?_ ?_ _); rotate_left; focus (first | (simp; done) | (simp; omega))))
    exact hB1
  · obtain ⟨hp1, hn1, hn2, _⟩ := right_parts _ HR.out
    simp only at hp1 hn1 hn2
    by_cases h1 : k < 0
    · have hv : crashT ⟨f, lo, n, ar, dn⟩ k = ⟨f ++ lo.take (0), [], 0, false, false⟩ := by unfold crashT; rw [HR.out, if_neg (by simp)]; congr 3; simp only; omega
      have HV := Lib.hid hv
      clear hv
      have s2 := fun w => run_to (P := Try.prog) w Try.underlying9 lo ((0 : Nat) : Int) (0) rfl (by omega)
      go_enter Try.func17, Try.ntmps17
      go_wp2_with fail
      refine (tright_any f lo n ar dn hf hl _).mono ?_
      rintro e w1 ⟨rfl, hb1⟩
      rw [HR.out]
      obtain ⟨hc1, hf1⟩ := bcell hb1
      have hz1 := hb1.size
      try simp at hz1
      have hB1 : Below w.heap.size w w1 := by
        refine bt ?_ hb1
        repeat (first | (with_reducible refine Below.drew ?_) | (with_reducible refine bal ?_ _) | ((with_reducible refine bst ?_ ?_ _); rotate_left; focus (first | (simp; done) | (simp; omega))))
        exact (b0 w)
      have ltx1 : w.heap.size < w1.heap.size := by omega
      have cx0 : w1.cell? ⟨w.heap.size, 0, none⟩ = some (Value.string ⟨(f).toArray⟩) := by rw [hc1 _ _ (by first | omega | (simp; done) | (simp; omega))]; first | assumption | go_simp
      have fx0 : w1.frozen? ⟨w.heap.size, 0, none⟩ = false := by rw [hf1 _ _ (by first | omega | (simp; done) | (simp; omega))]; first | assumption | go_simp
      have cx1 : w1.cell? ⟨w.heap.size, 1, none⟩ = some (Value.string ⟨(lo).toArray⟩) := by rw [hc1 _ _ (by first | omega | (simp; done) | (simp; omega))]; first | assumption | go_simp
      have fx1 : w1.frozen? ⟨w.heap.size, 1, none⟩ = false := by rw [hf1 _ _ (by first | omega | (simp; done) | (simp; omega))]; first | assumption | go_simp
      have cx2 : w1.cell? ⟨w.heap.size, 2, none⟩ = some (Value.int .i64 (n)) := by rw [hc1 _ _ (by first | omega | (simp; done) | (simp; omega))]; first | assumption | go_simp
      have fx2 : w1.frozen? ⟨w.heap.size, 2, none⟩ = false := by rw [hf1 _ _ (by first | omega | (simp; done) | (simp; omega))]; first | assumption | go_simp
      have cx3 : w1.cell? ⟨w.heap.size, 3, none⟩ = some (Value.bool ar) := by rw [hc1 _ _ (by first | omega | (simp; done) | (simp; omega))]; first | assumption | go_simp
      have fx3 : w1.frozen? ⟨w.heap.size, 3, none⟩ = false := by rw [hf1 _ _ (by first | omega | (simp; done) | (simp; omega))]; first | assumption | go_simp
      have cx4 : w1.cell? ⟨w.heap.size, 4, none⟩ = some (Value.bool dn) := by rw [hc1 _ _ (by first | omega | (simp; done) | (simp; omega))]; first | assumption | go_simp
      have fx4 : w1.frozen? ⟨w.heap.size, 4, none⟩ = false := by rw [hf1 _ _ (by first | omega | (simp; done) | (simp; omega))]; first | assumption | go_simp
      have ltr1 : w.heap.size + 1 < w1.heap.size := by omega
      have cr0 : w1.cell? ⟨w.heap.size + 1, 0, none⟩ = some (Value.string ⟨#[]⟩) := by rw [hc1 _ _ (by first | omega | (simp; done) | (simp; omega))]; first | assumption | go_simp
      have fr0 : w1.frozen? ⟨w.heap.size + 1, 0, none⟩ = false := by rw [hf1 _ _ (by first | omega | (simp; done) | (simp; omega))]; first | assumption | go_simp
      have cr1 : w1.cell? ⟨w.heap.size + 1, 1, none⟩ = some (Value.string ⟨#[]⟩) := by rw [hc1 _ _ (by first | omega | (simp; done) | (simp; omega))]; first | assumption | go_simp
      have fr1 : w1.frozen? ⟨w.heap.size + 1, 1, none⟩ = false := by rw [hf1 _ _ (by first | omega | (simp; done) | (simp; omega))]; first | assumption | go_simp
      have cr2 : w1.cell? ⟨w.heap.size + 1, 2, none⟩ = some (Value.int .i64 (0)) := by rw [hc1 _ _ (by first | omega | (simp; done) | (simp; omega))]; first | assumption | go_simp
      have fr2 : w1.frozen? ⟨w.heap.size + 1, 2, none⟩ = false := by rw [hf1 _ _ (by first | omega | (simp; done) | (simp; omega))]; first | assumption | go_simp
      have cr3 : w1.cell? ⟨w.heap.size + 1, 3, none⟩ = some (Value.bool false) := by rw [hc1 _ _ (by first | omega | (simp; done) | (simp; omega))]; first | assumption | go_simp
      have fr3 : w1.frozen? ⟨w.heap.size + 1, 3, none⟩ = false := by rw [hf1 _ _ (by first | omega | (simp; done) | (simp; omega))]; first | assumption | go_simp
      have cr4 : w1.cell? ⟨w.heap.size + 1, 4, none⟩ = some (Value.bool false) := by rw [hc1 _ _ (by first | omega | (simp; done) | (simp; omega))]; first | assumption | go_simp
      have fr4 : w1.frozen? ⟨w.heap.size + 1, 4, none⟩ = false := by rw [hf1 _ _ (by first | omega | (simp; done) | (simp; omega))]; first | assumption | go_simp
      clear hc1 hf1
      go_wp2
      go_region
      go_wp2
      refine bodyPost_ret (v := tapeV ⟨f ++ lo.take (0), [], 0, false, false⟩) (by simp [results, Try.results17, go_sem, *]) rfl ⟨by rw [HV.out] <;> rfl, ?_⟩
      repeat (first | (with_reducible refine Below.drew ?_) | (with_reducible refine bal ?_ _) | ((with_reducible refine bst ?_ ?_ _); rotate_left; focus (first | (simp; done) | (simp; omega))))
      exact hB1
    · obtain ⟨j, rfl⟩ := Int.eq_ofNat_of_zero_le (show 0 ≤ k by omega)
      by_cases h2 : lo.length < j
      · have hv : crashT ⟨f, lo, n, ar, dn⟩ (j : Int) = ⟨f ++ lo.take (lo.length), [], 0, false, false⟩ := by unfold crashT; rw [HR.out, if_neg (by simp)]; congr 3; simp only; omega
        have HV := Lib.hid hv
        clear hv
        have h2 : (lo.length : Int) < j := by omega
        have s2 := fun w => run_to (P := Try.prog) w Try.underlying9 lo ((lo.length : Nat) : Int) (lo.length) rfl (by omega)
        go_enter Try.func17, Try.ntmps17
        go_wp2_with fail
        refine (tright_any f lo n ar dn hf hl _).mono ?_
        rintro e w1 ⟨rfl, hb1⟩
        rw [HR.out]
        obtain ⟨hc1, hf1⟩ := bcell hb1
        have hz1 := hb1.size
        try simp at hz1
        have hB1 : Below w.heap.size w w1 := by
          refine bt ?_ hb1
          repeat (first | (with_reducible refine Below.drew ?_) | (with_reducible refine bal ?_ _) | ((with_reducible refine bst ?_ ?_ _); rotate_left; focus (first | (simp; done) | (simp; omega))))
          exact (b0 w)
        have ltx1 : w.heap.size < w1.heap.size := by omega
        have cx0 : w1.cell? ⟨w.heap.size, 0, none⟩ = some (Value.string ⟨(f).toArray⟩) := by rw [hc1 _ _ (by first | omega | (simp; done) | (simp; omega))]; first | assumption | go_simp
        have fx0 : w1.frozen? ⟨w.heap.size, 0, none⟩ = false := by rw [hf1 _ _ (by first | omega | (simp; done) | (simp; omega))]; first | assumption | go_simp
        have cx1 : w1.cell? ⟨w.heap.size, 1, none⟩ = some (Value.string ⟨(lo).toArray⟩) := by rw [hc1 _ _ (by first | omega | (simp; done) | (simp; omega))]; first | assumption | go_simp
        have fx1 : w1.frozen? ⟨w.heap.size, 1, none⟩ = false := by rw [hf1 _ _ (by first | omega | (simp; done) | (simp; omega))]; first | assumption | go_simp
        have cx2 : w1.cell? ⟨w.heap.size, 2, none⟩ = some (Value.int .i64 (n)) := by rw [hc1 _ _ (by first | omega | (simp; done) | (simp; omega))]; first | assumption | go_simp
        have fx2 : w1.frozen? ⟨w.heap.size, 2, none⟩ = false := by rw [hf1 _ _ (by first | omega | (simp; done) | (simp; omega))]; first | assumption | go_simp
        have cx3 : w1.cell? ⟨w.heap.size, 3, none⟩ = some (Value.bool ar) := by rw [hc1 _ _ (by first | omega | (simp; done) | (simp; omega))]; first | assumption | go_simp
        have fx3 : w1.frozen? ⟨w.heap.size, 3, none⟩ = false := by rw [hf1 _ _ (by first | omega | (simp; done) | (simp; omega))]; first | assumption | go_simp
        have cx4 : w1.cell? ⟨w.heap.size, 4, none⟩ = some (Value.bool dn) := by rw [hc1 _ _ (by first | omega | (simp; done) | (simp; omega))]; first | assumption | go_simp
        have fx4 : w1.frozen? ⟨w.heap.size, 4, none⟩ = false := by rw [hf1 _ _ (by first | omega | (simp; done) | (simp; omega))]; first | assumption | go_simp
        have ltr1 : w.heap.size + 1 < w1.heap.size := by omega
        have cr0 : w1.cell? ⟨w.heap.size + 1, 0, none⟩ = some (Value.string ⟨#[]⟩) := by rw [hc1 _ _ (by first | omega | (simp; done) | (simp; omega))]; first | assumption | go_simp
        have fr0 : w1.frozen? ⟨w.heap.size + 1, 0, none⟩ = false := by rw [hf1 _ _ (by first | omega | (simp; done) | (simp; omega))]; first | assumption | go_simp
        have cr1 : w1.cell? ⟨w.heap.size + 1, 1, none⟩ = some (Value.string ⟨#[]⟩) := by rw [hc1 _ _ (by first | omega | (simp; done) | (simp; omega))]; first | assumption | go_simp
        have fr1 : w1.frozen? ⟨w.heap.size + 1, 1, none⟩ = false := by rw [hf1 _ _ (by first | omega | (simp; done) | (simp; omega))]; first | assumption | go_simp
        have cr2 : w1.cell? ⟨w.heap.size + 1, 2, none⟩ = some (Value.int .i64 (0)) := by rw [hc1 _ _ (by first | omega | (simp; done) | (simp; omega))]; first | assumption | go_simp
        have fr2 : w1.frozen? ⟨w.heap.size + 1, 2, none⟩ = false := by rw [hf1 _ _ (by first | omega | (simp; done) | (simp; omega))]; first | assumption | go_simp
        have cr3 : w1.cell? ⟨w.heap.size + 1, 3, none⟩ = some (Value.bool false) := by rw [hc1 _ _ (by first | omega | (simp; done) | (simp; omega))]; first | assumption | go_simp
        have fr3 : w1.frozen? ⟨w.heap.size + 1, 3, none⟩ = false := by rw [hf1 _ _ (by first | omega | (simp; done) | (simp; omega))]; first | assumption | go_simp
        have cr4 : w1.cell? ⟨w.heap.size + 1, 4, none⟩ = some (Value.bool false) := by rw [hc1 _ _ (by first | omega | (simp; done) | (simp; omega))]; first | assumption | go_simp
        have fr4 : w1.frozen? ⟨w.heap.size + 1, 4, none⟩ = false := by rw [hf1 _ _ (by first | omega | (simp; done) | (simp; omega))]; first | assumption | go_simp
        clear hc1 hf1
        go_wp2
        go_region
        go_wp2
        refine bodyPost_ret (v := tapeV ⟨f ++ lo.take (lo.length), [], 0, false, false⟩) (by simp [results, Try.results17, go_sem, *]) rfl ⟨by rw [HV.out] <;> rfl, ?_⟩
        repeat (first | (with_reducible refine Below.drew ?_) | (with_reducible refine bal ?_ _) | ((with_reducible refine bst ?_ ?_ _); rotate_left; focus (first | (simp; done) | (simp; omega))))
        exact hB1
      · have hv : crashT ⟨f, lo, n, ar, dn⟩ (j : Int) = ⟨f ++ lo.take (j), [], 0, false, false⟩ := by unfold crashT; rw [HR.out, if_neg (by simp)]; congr 3; simp only; omega
        have HV := Lib.hid hv
        clear hv
        have h2 : ¬ ((lo.length : Int) < j) := by omega
        have s2 := fun w => run_to (P := Try.prog) w Try.underlying9 lo ((j : Nat) : Int) (j) rfl (by omega)
        go_enter Try.func17, Try.ntmps17
        go_wp2_with fail
        refine (tright_any f lo n ar dn hf hl _).mono ?_
        rintro e w1 ⟨rfl, hb1⟩
        rw [HR.out]
        obtain ⟨hc1, hf1⟩ := bcell hb1
        have hz1 := hb1.size
        try simp at hz1
        have hB1 : Below w.heap.size w w1 := by
          refine bt ?_ hb1
          repeat (first | (with_reducible refine Below.drew ?_) | (with_reducible refine bal ?_ _) | ((with_reducible refine bst ?_ ?_ _); rotate_left; focus (first | (simp; done) | (simp; omega))))
          exact (b0 w)
        have ltx1 : w.heap.size < w1.heap.size := by omega
        have cx0 : w1.cell? ⟨w.heap.size, 0, none⟩ = some (Value.string ⟨(f).toArray⟩) := by rw [hc1 _ _ (by first | omega | (simp; done) | (simp; omega))]; first | assumption | go_simp
        have fx0 : w1.frozen? ⟨w.heap.size, 0, none⟩ = false := by rw [hf1 _ _ (by first | omega | (simp; done) | (simp; omega))]; first | assumption | go_simp
        have cx1 : w1.cell? ⟨w.heap.size, 1, none⟩ = some (Value.string ⟨(lo).toArray⟩) := by rw [hc1 _ _ (by first | omega | (simp; done) | (simp; omega))]; first | assumption | go_simp
        have fx1 : w1.frozen? ⟨w.heap.size, 1, none⟩ = false := by rw [hf1 _ _ (by first | omega | (simp; done) | (simp; omega))]; first | assumption | go_simp
        have cx2 : w1.cell? ⟨w.heap.size, 2, none⟩ = some (Value.int .i64 (n)) := by rw [hc1 _ _ (by first | omega | (simp; done) | (simp; omega))]; first | assumption | go_simp
        have fx2 : w1.frozen? ⟨w.heap.size, 2, none⟩ = false := by rw [hf1 _ _ (by first | omega | (simp; done) | (simp; omega))]; first | assumption | go_simp
        have cx3 : w1.cell? ⟨w.heap.size, 3, none⟩ = some (Value.bool ar) := by rw [hc1 _ _ (by first | omega | (simp; done) | (simp; omega))]; first | assumption | go_simp
        have fx3 : w1.frozen? ⟨w.heap.size, 3, none⟩ = false := by rw [hf1 _ _ (by first | omega | (simp; done) | (simp; omega))]; first | assumption | go_simp
        have cx4 : w1.cell? ⟨w.heap.size, 4, none⟩ = some (Value.bool dn) := by rw [hc1 _ _ (by first | omega | (simp; done) | (simp; omega))]; first | assumption | go_simp
        have fx4 : w1.frozen? ⟨w.heap.size, 4, none⟩ = false := by rw [hf1 _ _ (by first | omega | (simp; done) | (simp; omega))]; first | assumption | go_simp
        have ltr1 : w.heap.size + 1 < w1.heap.size := by omega
        have cr0 : w1.cell? ⟨w.heap.size + 1, 0, none⟩ = some (Value.string ⟨#[]⟩) := by rw [hc1 _ _ (by first | omega | (simp; done) | (simp; omega))]; first | assumption | go_simp
        have fr0 : w1.frozen? ⟨w.heap.size + 1, 0, none⟩ = false := by rw [hf1 _ _ (by first | omega | (simp; done) | (simp; omega))]; first | assumption | go_simp
        have cr1 : w1.cell? ⟨w.heap.size + 1, 1, none⟩ = some (Value.string ⟨#[]⟩) := by rw [hc1 _ _ (by first | omega | (simp; done) | (simp; omega))]; first | assumption | go_simp
        have fr1 : w1.frozen? ⟨w.heap.size + 1, 1, none⟩ = false := by rw [hf1 _ _ (by first | omega | (simp; done) | (simp; omega))]; first | assumption | go_simp
        have cr2 : w1.cell? ⟨w.heap.size + 1, 2, none⟩ = some (Value.int .i64 (0)) := by rw [hc1 _ _ (by first | omega | (simp; done) | (simp; omega))]; first | assumption | go_simp
        have fr2 : w1.frozen? ⟨w.heap.size + 1, 2, none⟩ = false := by rw [hf1 _ _ (by first | omega | (simp; done) | (simp; omega))]; first | assumption | go_simp
        have cr3 : w1.cell? ⟨w.heap.size + 1, 3, none⟩ = some (Value.bool false) := by rw [hc1 _ _ (by first | omega | (simp; done) | (simp; omega))]; first | assumption | go_simp
        have fr3 : w1.frozen? ⟨w.heap.size + 1, 3, none⟩ = false := by rw [hf1 _ _ (by first | omega | (simp; done) | (simp; omega))]; first | assumption | go_simp
        have cr4 : w1.cell? ⟨w.heap.size + 1, 4, none⟩ = some (Value.bool false) := by rw [hc1 _ _ (by first | omega | (simp; done) | (simp; omega))]; first | assumption | go_simp
        have fr4 : w1.frozen? ⟨w.heap.size + 1, 4, none⟩ = false := by rw [hf1 _ _ (by first | omega | (simp; done) | (simp; omega))]; first | assumption | go_simp
        clear hc1 hf1
        go_wp2
        go_region
        go_wp2
        refine bodyPost_ret (v := tapeV ⟨f ++ lo.take (j), [], 0, false, false⟩) (by simp [results, Try.results17, go_sem, *]) rfl ⟨by rw [HV.out] <;> rfl, ?_⟩
        repeat (first | (with_reducible refine Below.drew ?_) | (with_reducible refine bal ?_ _) | ((with_reducible refine bst ?_ ?_ _); rotate_left; focus (first | (simp; done) | (simp; omega))))
        exact hB1
end Go.Proofs.Ythjoamldmcnodaa
