/- The walks of the document's Right, the laws' small things, and TapeTexts. -/
import Derived.Test.YtbekiimgbpmomaaTape4W
namespace Go.Proofs.Ytbekiimgbpmomaa
open Go.RowKit
attribute [local go_sem] ByteArray.mk_append_mk ByteArray.extract_mk
set_option maxHeartbeats 1600000 in
set_option maxRecDepth 100000 in
theorem refright12_any (f lo : List UInt8) (n : Int) (ar dn : Bool) (hf : f.length ≤ 140737488351232) (hl : lo.length ≤ 140737488351232) (w : World) : Calls Try.prog 13 #[tapeV ⟨f, lo, n, ar, dn⟩] w fun e w' => e = .returned (.bool (rightTp ⟨f, lo, n, ar, dn⟩)) ∧ Below w.heap.size w w' := by
  by_cases h1 : n < 0
  · skip
    have hv : rightTp ⟨f, lo, n, ar, dn⟩ = false := by simp [rightTp] <;> omega
    have HV := Lib.hid hv
    clear hv
    go_enter Try.func13, Try.ntmps13
    go_wp2
    go_ret
    exact ⟨by rw [HV.out] <;> rfl, bal (b0 w) _⟩
  · by_cases h2 : 1099511627776 < n
    · skip
      have hv : rightTp ⟨f, lo, n, ar, dn⟩ = false := by simp [rightTp] <;> omega
      have HV := Lib.hid hv
      clear hv
      go_enter Try.func13, Try.ntmps13
      go_wp2
      go_ret
      exact ⟨by rw [HV.out] <;> rfl, bal (b0 w) _⟩
    · cases ar
      · by_cases h3 : 0 < n
        · skip
          have hv : rightTp ⟨f, lo, n, false, dn⟩ = false := by simp [rightTp] <;> omega
          have HV := Lib.hid hv
          clear hv
          go_enter Try.func13, Try.ntmps13
          go_wp2
          go_ret
          exact ⟨by rw [HV.out] <;> rfl, bal (b0 w) _⟩
        · skip
          by_cases h4 : f.length ≤ 1048576
          · have h4' : (f.length : Int) ≤ 1048576 := by omega
            by_cases h5 : f.length + lo.length ≤ 1048576
            · have h5' : (lo.length : Int) ≤ 1048576 - f.length := by omega
              have hv : rightTp ⟨f, lo, n, false, dn⟩ = true := by simp [rightTp] <;> omega
              have HV := Lib.hid hv
              clear hv
              go_enter Try.func13, Try.ntmps13
              go_wp2
              go_ret
              exact ⟨by rw [HV.out] <;> rfl, bal (b0 w) _⟩
            · have h5' : ¬ ((lo.length : Int) ≤ 1048576 - f.length) := by omega
              have hv : rightTp ⟨f, lo, n, false, dn⟩ = false := by simp [rightTp] <;> omega
              have HV := Lib.hid hv
              clear hv
              go_enter Try.func13, Try.ntmps13
              go_wp2
              go_ret
              exact ⟨by rw [HV.out] <;> rfl, bal (b0 w) _⟩
          · have h4' : ¬ ((f.length : Int) ≤ 1048576) := by omega
            have hv : rightTp ⟨f, lo, n, false, dn⟩ = false := by simp [rightTp] <;> omega
            have HV := Lib.hid hv
            clear hv
            go_enter Try.func13, Try.ntmps13
            go_wp2
            go_ret
            exact ⟨by rw [HV.out] <;> rfl, bal (b0 w) _⟩
      · by_cases h3 : 0 < n
        · skip
          by_cases h4 : f.length ≤ 1048576
          · have h4' : (f.length : Int) ≤ 1048576 := by omega
            by_cases h5 : f.length + lo.length ≤ 1048576
            · have h5' : (lo.length : Int) ≤ 1048576 - f.length := by omega
              have hv : rightTp ⟨f, lo, n, true, dn⟩ = true := by simp [rightTp] <;> omega
              have HV := Lib.hid hv
              clear hv
              go_enter Try.func13, Try.ntmps13
              go_wp2
              go_ret
              exact ⟨by rw [HV.out] <;> rfl, bal (b0 w) _⟩
            · have h5' : ¬ ((lo.length : Int) ≤ 1048576 - f.length) := by omega
              have hv : rightTp ⟨f, lo, n, true, dn⟩ = false := by simp [rightTp] <;> omega
              have HV := Lib.hid hv
              clear hv
              go_enter Try.func13, Try.ntmps13
              go_wp2
              go_ret
              exact ⟨by rw [HV.out] <;> rfl, bal (b0 w) _⟩
          · have h4' : ¬ ((f.length : Int) ≤ 1048576) := by omega
            have hv : rightTp ⟨f, lo, n, true, dn⟩ = false := by simp [rightTp] <;> omega
            have HV := Lib.hid hv
            clear hv
            go_enter Try.func13, Try.ntmps13
            go_wp2
            go_ret
            exact ⟨by rw [HV.out] <;> rfl, bal (b0 w) _⟩
        · skip
          by_cases h4 : f.length ≤ 1048576
          · have h4' : (f.length : Int) ≤ 1048576 := by omega
            by_cases h5 : f.length + lo.length ≤ 1048576
            · have h5' : (lo.length : Int) ≤ 1048576 - f.length := by omega
              have hv : rightTp ⟨f, lo, n, true, dn⟩ = true := by simp [rightTp] <;> omega
              have HV := Lib.hid hv
              clear hv
              go_enter Try.func13, Try.ntmps13
              go_wp2
              go_ret
              exact ⟨by rw [HV.out] <;> rfl, bal (b0 w) _⟩
            · have h5' : ¬ ((lo.length : Int) ≤ 1048576 - f.length) := by omega
              have hv : rightTp ⟨f, lo, n, true, dn⟩ = false := by simp [rightTp] <;> omega
              have HV := Lib.hid hv
              clear hv
              go_enter Try.func13, Try.ntmps13
              go_wp2
              go_ret
              exact ⟨by rw [HV.out] <;> rfl, bal (b0 w) _⟩
          · have h4' : ¬ ((f.length : Int) ≤ 1048576) := by omega
            have hv : rightTp ⟨f, lo, n, true, dn⟩ = false := by simp [rightTp] <;> omega
            have HV := Lib.hid hv
            clear hv
            go_enter Try.func13, Try.ntmps13
            go_wp2
            go_ret
            exact ⟨by rw [HV.out] <;> rfl, bal (b0 w) _⟩
set_option maxHeartbeats 800000 in
set_option maxRecDepth 100000 in
theorem ref_any (f lo : List UInt8) (n : Int) (ar dn : Bool) (w : World) : Calls Try.prog 14 #[tapeV ⟨f, lo, n, ar, dn⟩] w fun e w' => e = .returned (tapeV ⟨f, lo, n, ar, dn⟩) ∧ Below w.heap.size w w' := by
  go_enter Try.func14, Try.ntmps14
  go_wp2
  refine bodyPost_ret (v := tapeV ⟨f, lo, n, ar, dn⟩) (by simp [results, Try.results14, go_sem]) rfl ⟨rfl, ?_⟩
  repeat (first | (with_reducible refine Below.drew ?_) | (with_reducible refine bal ?_ _) | ((with_reducible refine bst ?_ ?_ _); rotate_left; focus (first | (simp; done) | (simp; omega))))
  exact b0 w
def smallB (f lo : List UInt8) : Bool := decide (f.length ≤ 4096) && decide (lo.length ≤ 4096)
set_option maxHeartbeats 800000 in
set_option maxRecDepth 100000 in
theorem small_any (f lo : List UInt8) (n : Int) (ar dn : Bool) (hf : f.length ≤ 140737488351232) (hl : lo.length ≤ 140737488351232) (w : World) : Calls Try.prog 11 #[tapeV ⟨f, lo, n, ar, dn⟩] w fun e w' => e = .returned (.bool (smallB f lo)) ∧ Below w.heap.size w w' := by
  by_cases h1 : f.length ≤ 4096
  · have h1' : (f.length : Int) ≤ 4096 := by omega
    by_cases h2 : lo.length ≤ 4096
    · have h2' : (lo.length : Int) ≤ 4096 := by omega
      have hv : smallB f lo = true := by simp [smallB] <;> omega
      have HV := Lib.hid hv
      clear hv
      go_enter Try.func11, Try.ntmps11
      go_wp2
      go_ret
      exact ⟨by rw [HV.out] <;> rfl, bal (b0 w) _⟩
    · have h2' : ¬ ((lo.length : Int) ≤ 4096) := by omega
      have hv : smallB f lo = false := by simp [smallB] <;> omega
      have HV := Lib.hid hv
      clear hv
      go_enter Try.func11, Try.ntmps11
      go_wp2
      go_ret
      exact ⟨by rw [HV.out] <;> rfl, bal (b0 w) _⟩
  · have h1' : ¬ ((f.length : Int) ≤ 4096) := by omega
    have hv : smallB f lo = false := by simp [smallB] <;> omega
    have HV := Lib.hid hv
    clear hv
    go_enter Try.func11, Try.ntmps11
    go_wp2
    go_ret
    exact ⟨by rw [HV.out] <;> rfl, bal (b0 w) _⟩
theorem aw1 : appendT ⟨[], [], 0, false, false⟩ [97, 98] = (⟨[], [97, 98], 0, false, false⟩, 0) := by first | rfl | simp [appendT, readyT, rightTp]
theorem aw2 : syncT ⟨[], [97, 98], 0, false, false⟩ = (⟨[97, 98], [], 0, false, false⟩, 0) := by first | rfl | simp [syncT, readyT, rightTp]
theorem aw3 : crashT ⟨[97, 98], [], 0, false, false⟩ 0 = ⟨[97, 98], [], 0, false, false⟩ := by first | rfl | simp [crashT]
set_option maxHeartbeats 1600000 in
set_option maxRecDepth 100000 in
theorem awake12 (w : World) : Calls Try.prog 10 #[] w fun e w' => e = .returned (.bool true) ∧ Below w.heap.size w w' := by
  go_enter Try.func10, Try.ntmps10
  go_wp2_with fail
  refine (append_any [] [] 0 false false (by simp) (by simp) [97, 98] (by simp) _).mono ?_
  rintro e w1 ⟨rfl, hb1⟩
  rw [aw1]
  obtain ⟨hc1, hf1⟩ := bcell hb1
  have hz1 := hb1.size
  try simp at hz1
  have hB1 : Below w.heap.size w w1 := by
    refine bt ?_ hb1
    repeat (first | (with_reducible refine Below.drew ?_) | (with_reducible refine bal ?_ _) | ((with_reducible refine bst ?_ ?_ _); rotate_left; focus (first | (simp; done) | (simp; omega))))
    exact (b0 w)
  clear hc1 hf1
  go_wp2_with fail
  refine (sync_any [] [97, 98] 0 false false (by simp) (by simp) _).mono ?_
  rintro e w2 ⟨rfl, hb2⟩
  rw [aw2]
  obtain ⟨hc2, hf2⟩ := bcell hb2
  have hz2 := hb2.size
  try simp at hz2
  have hB2 : Below w.heap.size w w2 := by
    refine bt ?_ hb2
    repeat (first | (with_reducible refine Below.drew ?_) | (with_reducible refine bal ?_ _) | ((with_reducible refine bst ?_ ?_ _); rotate_left; focus (first | (simp; done) | (simp; omega))))
    exact hB1
  have ltx2 : w1.heap.size < w2.heap.size := by omega
  have cx0 : w2.cell? ⟨w1.heap.size, 0, none⟩ = some (Value.string ⟨#[]⟩) := by rw [hc2 _ _ (by first | omega | (simp; done) | (simp; omega))]; first | assumption | go_simp
  have fx0 : w2.frozen? ⟨w1.heap.size, 0, none⟩ = false := by rw [hf2 _ _ (by first | omega | (simp; done) | (simp; omega))]; first | assumption | go_simp
  have cx1 : w2.cell? ⟨w1.heap.size, 1, none⟩ = some (Value.string ⟨#[97, 98]⟩) := by rw [hc2 _ _ (by first | omega | (simp; done) | (simp; omega))]; first | assumption | go_simp
  have fx1 : w2.frozen? ⟨w1.heap.size, 1, none⟩ = false := by rw [hf2 _ _ (by first | omega | (simp; done) | (simp; omega))]; first | assumption | go_simp
  have cx2 : w2.cell? ⟨w1.heap.size, 2, none⟩ = some (Value.int .i64 (0)) := by rw [hc2 _ _ (by first | omega | (simp; done) | (simp; omega))]; first | assumption | go_simp
  have fx2 : w2.frozen? ⟨w1.heap.size, 2, none⟩ = false := by rw [hf2 _ _ (by first | omega | (simp; done) | (simp; omega))]; first | assumption | go_simp
  have cx3 : w2.cell? ⟨w1.heap.size, 3, none⟩ = some (Value.bool false) := by rw [hc2 _ _ (by first | omega | (simp; done) | (simp; omega))]; first | assumption | go_simp
  have fx3 : w2.frozen? ⟨w1.heap.size, 3, none⟩ = false := by rw [hf2 _ _ (by first | omega | (simp; done) | (simp; omega))]; first | assumption | go_simp
  have cx4 : w2.cell? ⟨w1.heap.size, 4, none⟩ = some (Value.bool false) := by rw [hc2 _ _ (by first | omega | (simp; done) | (simp; omega))]; first | assumption | go_simp
  have fx4 : w2.frozen? ⟨w1.heap.size, 4, none⟩ = false := by rw [hf2 _ _ (by first | omega | (simp; done) | (simp; omega))]; first | assumption | go_simp
  clear hc2 hf2
  go_wp2_with fail
  refine (crash_any [97, 98] [] 0 false false (by simp) (by simp) 0 (by omega) _).mono ?_
  rintro e w3 ⟨rfl, hb3⟩
  rw [aw3]
  obtain ⟨hc3, hf3⟩ := bcell hb3
  have hz3 := hb3.size
  try simp at hz3
  simp only [tapeV]
  have hfd : ∀ w : World, (Instr.field 25 (Value.agg #[Value.string ⟨#[97, 98]⟩, Value.string ⟨#[]⟩, Value.int .i64 0, Value.bool false, Value.bool false]) 0).run Try.prog w = .ok (Value.string ⟨#[97, 98]⟩) w := fun _ => by kernel_rfl
  have hB3 : Below w.heap.size w w3 := by
    refine bt ?_ hb3
    repeat (first | (with_reducible refine Below.drew ?_) | (with_reducible refine bal ?_ _) | ((with_reducible refine bst ?_ ?_ _); rotate_left; focus (first | (simp; done) | (simp; omega))))
    exact hB2
  clear hc3 hf3
  go_wp2
  go_ret
  refine ⟨rfl, ?_⟩
  repeat (first | (with_reducible refine Below.drew ?_) | (with_reducible refine bal ?_ _) | ((with_reducible refine bst ?_ ?_ _); rotate_left; focus (first | (simp; done) | (simp; omega))))
  exact hB3
set_option maxHeartbeats 3200000 in
set_option maxRecDepth 100000 in
theorem tapeTexts_walk (f lo : List UInt8) (n : Int) (ar dn : Bool) (hf : f.length ≤ 140737488351232) (hl : lo.length ≤ 140737488351232) (_hn : (Lit.int .i64 n).wf = true) (w : World) : Calls Try.prog 4 #[tapeV ⟨f, lo, n, ar, dn⟩] w fun e w' => e = .returned (.bool true) ∧ Below w.heap.size w w' := by
  generalize hsm : smallB f lo = sm
  have HS := Lib.hid hsm
  clear hsm
  cases sm
  · go_enter Try.func4, Try.ntmps4
    go_wp2_with fail
    refine (small_any f lo n ar dn hf hl _).mono ?_
    rintro e w1 ⟨rfl, hb1⟩
    rw [HS.out]
    obtain ⟨hc1, hf1⟩ := bcell hb1
    have hz1 := hb1.size
    try simp at hz1
    have hB1 : Below w.heap.size w w1 := by
      refine bt ?_ hb1
      repeat (first | (with_reducible refine Below.drew ?_) | (with_reducible refine bal ?_ _) | ((with_reducible refine bst ?_ ?_ _); rotate_left; focus (first | (simp; done) | (simp; omega))))
      exact (b0 w)
    have ltx1 : w.heap.size < w1.heap.size := by omega
    have cx0 : w1.cell? ⟨w.heap.size, 0, none⟩ = some (Value.string ⟨(f).toArray⟩) := by rw [hc1 _ _ (by first | omega | (simp; done) | (simp; omega))]; first | assumption | go_simp
    have fx0 : w1.frozen? ⟨w.heap.size, 0, none⟩ = false := by rw [hf1 _ _ (by first | omega | (simp; done) | (simp; omega))]; first | assumption | go_simp
    have cx1 : w1.cell? ⟨w.heap.size, 1, none⟩ = some (Value.string ⟨(lo).toArray⟩) := by rw [hc1 _ _ (by first | omega | (simp; done) | (simp; omega))]; first | assumption | go_simp
    have fx1 : w1.frozen? ⟨w.heap.size, 1, none⟩ = false := by rw [hf1 _ _ (by first | omega | (simp; done) | (simp; omega))]; first | assumption | go_simp
    have cx2 : w1.cell? ⟨w.heap.size, 2, none⟩ = some (Value.int .i64 (n)) := by rw [hc1 _ _ (by first | omega | (simp; done) | (simp; omega))]; first | assumption | go_simp
    have fx2 : w1.frozen? ⟨w.heap.size, 2, none⟩ = false := by rw [hf1 _ _ (by first | omega | (simp; done) | (simp; omega))]; first | assumption | go_simp
    have cx3 : w1.cell? ⟨w.heap.size, 3, none⟩ = some (Value.bool ar) := by rw [hc1 _ _ (by first | omega | (simp; done) | (simp; omega))]; first | assumption | go_simp
    have fx3 : w1.frozen? ⟨w.heap.size, 3, none⟩ = false := by rw [hf1 _ _ (by first | omega | (simp; done) | (simp; omega))]; first | assumption | go_simp
    have cx4 : w1.cell? ⟨w.heap.size, 4, none⟩ = some (Value.bool dn) := by rw [hc1 _ _ (by first | omega | (simp; done) | (simp; omega))]; first | assumption | go_simp
    have fx4 : w1.frozen? ⟨w.heap.size, 4, none⟩ = false := by rw [hf1 _ _ (by first | omega | (simp; done) | (simp; omega))]; first | assumption | go_simp
    clear hc1 hf1
    go_wp2_with fail
    refine (awake12 _).mono ?_
    rintro e w2 ⟨rfl, hb2⟩
    have hB2 : Below w.heap.size w w2 := by
      refine bt ?_ hb2
      repeat (first | (with_reducible refine Below.drew ?_) | (with_reducible refine bal ?_ _) | ((with_reducible refine bst ?_ ?_ _); rotate_left; focus (first | (simp; done) | (simp; omega))))
      exact hB1
    go_wp2
    go_ret
    refine ⟨rfl, ?_⟩
    repeat (first | (with_reducible refine Below.drew ?_) | (with_reducible refine bal ?_ _) | ((with_reducible refine bst ?_ ?_ _); rotate_left; focus (first | (simp; done) | (simp; omega))))
    exact hB2
  · generalize hr : rightTp ⟨f, lo, n, ar, dn⟩ = r
    have HR := Lib.hid hr
    clear hr
    cases r
    · have hv : textT ⟨f, lo, n, ar, dn⟩ = ([], 1) := by unfold textT readyT; simp [HR.out]
      have HV := Lib.hid hv
      clear hv
      go_enter Try.func4, Try.ntmps4
      go_wp2_with fail
      refine (small_any f lo n ar dn hf hl _).mono ?_
      rintro e w1 ⟨rfl, hb1⟩
      rw [HS.out]
      obtain ⟨hc1, hf1⟩ := bcell hb1
      have hz1 := hb1.size
      try simp at hz1
      have hB1 : Below w.heap.size w w1 := by
        refine bt ?_ hb1
        repeat (first | (with_reducible refine Below.drew ?_) | (with_reducible refine bal ?_ _) | ((with_reducible refine bst ?_ ?_ _); rotate_left; focus (first | (simp; done) | (simp; omega))))
        exact (b0 w)
      have ltx1 : w.heap.size < w1.heap.size := by omega
      have cx0 : w1.cell? ⟨w.heap.size, 0, none⟩ = some (Value.string ⟨(f).toArray⟩) := by rw [hc1 _ _ (by first | omega | (simp; done) | (simp; omega))]; first | assumption | go_simp
      have fx0 : w1.frozen? ⟨w.heap.size, 0, none⟩ = false := by rw [hf1 _ _ (by first | omega | (simp; done) | (simp; omega))]; first | assumption | go_simp
      have cx1 : w1.cell? ⟨w.heap.size, 1, none⟩ = some (Value.string ⟨(lo).toArray⟩) := by rw [hc1 _ _ (by first | omega | (simp; done) | (simp; omega))]; first | assumption | go_simp
      have fx1 : w1.frozen? ⟨w.heap.size, 1, none⟩ = false := by rw [hf1 _ _ (by first | omega | (simp; done) | (simp; omega))]; first | assumption | go_simp
      have cx2 : w1.cell? ⟨w.heap.size, 2, none⟩ = some (Value.int .i64 (n)) := by rw [hc1 _ _ (by first | omega | (simp; done) | (simp; omega))]; first | assumption | go_simp
      have fx2 : w1.frozen? ⟨w.heap.size, 2, none⟩ = false := by rw [hf1 _ _ (by first | omega | (simp; done) | (simp; omega))]; first | assumption | go_simp
      have cx3 : w1.cell? ⟨w.heap.size, 3, none⟩ = some (Value.bool ar) := by rw [hc1 _ _ (by first | omega | (simp; done) | (simp; omega))]; first | assumption | go_simp
      have fx3 : w1.frozen? ⟨w.heap.size, 3, none⟩ = false := by rw [hf1 _ _ (by first | omega | (simp; done) | (simp; omega))]; first | assumption | go_simp
      have cx4 : w1.cell? ⟨w.heap.size, 4, none⟩ = some (Value.bool dn) := by rw [hc1 _ _ (by first | omega | (simp; done) | (simp; omega))]; first | assumption | go_simp
      have fx4 : w1.frozen? ⟨w.heap.size, 4, none⟩ = false := by rw [hf1 _ _ (by first | omega | (simp; done) | (simp; omega))]; first | assumption | go_simp
      clear hc1 hf1
      go_wp2_with fail
      refine (ttext_any f lo n ar dn hf hl _).mono ?_
      rintro e w2 ⟨rfl, hb2⟩
      rw [HV.out]
      obtain ⟨hc2, hf2⟩ := bcell hb2
      have hz2 := hb2.size
      try simp at hz2
      have hB2 : Below w.heap.size w w2 := by
        refine bt ?_ hb2
        repeat (first | (with_reducible refine Below.drew ?_) | (with_reducible refine bal ?_ _) | ((with_reducible refine bst ?_ ?_ _); rotate_left; focus (first | (simp; done) | (simp; omega))))
        exact hB1
      have ltx2 : w.heap.size < w2.heap.size := by omega
      have cx0 : w2.cell? ⟨w.heap.size, 0, none⟩ = some (Value.string ⟨(f).toArray⟩) := by rw [hc2 _ _ (by first | omega | (simp; done) | (simp; omega))]; first | assumption | go_simp
      have fx0 : w2.frozen? ⟨w.heap.size, 0, none⟩ = false := by rw [hf2 _ _ (by first | omega | (simp; done) | (simp; omega))]; first | assumption | go_simp
      have cx1 : w2.cell? ⟨w.heap.size, 1, none⟩ = some (Value.string ⟨(lo).toArray⟩) := by rw [hc2 _ _ (by first | omega | (simp; done) | (simp; omega))]; first | assumption | go_simp
      have fx1 : w2.frozen? ⟨w.heap.size, 1, none⟩ = false := by rw [hf2 _ _ (by first | omega | (simp; done) | (simp; omega))]; first | assumption | go_simp
      have cx2 : w2.cell? ⟨w.heap.size, 2, none⟩ = some (Value.int .i64 (n)) := by rw [hc2 _ _ (by first | omega | (simp; done) | (simp; omega))]; first | assumption | go_simp
      have fx2 : w2.frozen? ⟨w.heap.size, 2, none⟩ = false := by rw [hf2 _ _ (by first | omega | (simp; done) | (simp; omega))]; first | assumption | go_simp
      have cx3 : w2.cell? ⟨w.heap.size, 3, none⟩ = some (Value.bool ar) := by rw [hc2 _ _ (by first | omega | (simp; done) | (simp; omega))]; first | assumption | go_simp
      have fx3 : w2.frozen? ⟨w.heap.size, 3, none⟩ = false := by rw [hf2 _ _ (by first | omega | (simp; done) | (simp; omega))]; first | assumption | go_simp
      have cx4 : w2.cell? ⟨w.heap.size, 4, none⟩ = some (Value.bool dn) := by rw [hc2 _ _ (by first | omega | (simp; done) | (simp; omega))]; first | assumption | go_simp
      have fx4 : w2.frozen? ⟨w.heap.size, 4, none⟩ = false := by rw [hf2 _ _ (by first | omega | (simp; done) | (simp; omega))]; first | assumption | go_simp
      clear hc2 hf2
      go_wp2_with fail
      refine (ref_any f lo n ar dn _).mono ?_
      rintro e w3 ⟨rfl, hb3⟩
      obtain ⟨hc3, hf3⟩ := bcell hb3
      have hz3 := hb3.size
      try simp at hz3
      have hB3 : Below w.heap.size w w3 := by
        refine bt ?_ hb3
        repeat (first | (with_reducible refine Below.drew ?_) | (with_reducible refine bal ?_ _) | ((with_reducible refine bst ?_ ?_ _); rotate_left; focus (first | (simp; done) | (simp; omega))))
        exact hB2
      have ltx3 : w.heap.size < w3.heap.size := by omega
      have cx0 : w3.cell? ⟨w.heap.size, 0, none⟩ = some (Value.string ⟨(f).toArray⟩) := by rw [hc3 _ _ (by first | omega | (simp; done) | (simp; omega))]; first | assumption | go_simp
      have fx0 : w3.frozen? ⟨w.heap.size, 0, none⟩ = false := by rw [hf3 _ _ (by first | omega | (simp; done) | (simp; omega))]; first | assumption | go_simp
      have cx1 : w3.cell? ⟨w.heap.size, 1, none⟩ = some (Value.string ⟨(lo).toArray⟩) := by rw [hc3 _ _ (by first | omega | (simp; done) | (simp; omega))]; first | assumption | go_simp
      have fx1 : w3.frozen? ⟨w.heap.size, 1, none⟩ = false := by rw [hf3 _ _ (by first | omega | (simp; done) | (simp; omega))]; first | assumption | go_simp
      have cx2 : w3.cell? ⟨w.heap.size, 2, none⟩ = some (Value.int .i64 (n)) := by rw [hc3 _ _ (by first | omega | (simp; done) | (simp; omega))]; first | assumption | go_simp
      have fx2 : w3.frozen? ⟨w.heap.size, 2, none⟩ = false := by rw [hf3 _ _ (by first | omega | (simp; done) | (simp; omega))]; first | assumption | go_simp
      have cx3 : w3.cell? ⟨w.heap.size, 3, none⟩ = some (Value.bool ar) := by rw [hc3 _ _ (by first | omega | (simp; done) | (simp; omega))]; first | assumption | go_simp
      have fx3 : w3.frozen? ⟨w.heap.size, 3, none⟩ = false := by rw [hf3 _ _ (by first | omega | (simp; done) | (simp; omega))]; first | assumption | go_simp
      have cx4 : w3.cell? ⟨w.heap.size, 4, none⟩ = some (Value.bool dn) := by rw [hc3 _ _ (by first | omega | (simp; done) | (simp; omega))]; first | assumption | go_simp
      have fx4 : w3.frozen? ⟨w.heap.size, 4, none⟩ = false := by rw [hf3 _ _ (by first | omega | (simp; done) | (simp; omega))]; first | assumption | go_simp
      clear hc3 hf3
      go_wp2_with fail
      refine (refright12_any f lo n ar dn hf hl _).mono ?_
      rintro e w4 ⟨rfl, hb4⟩
      rw [HR.out]
      obtain ⟨hc4, hf4⟩ := bcell hb4
      have hz4 := hb4.size
      try simp at hz4
      have hB4 : Below w.heap.size w w4 := by
        refine bt ?_ hb4
        repeat (first | (with_reducible refine Below.drew ?_) | (with_reducible refine bal ?_ _) | ((with_reducible refine bst ?_ ?_ _); rotate_left; focus (first | (simp; done) | (simp; omega))))
        exact hB3
      have ltx4 : w.heap.size < w4.heap.size := by omega
      have cx0 : w4.cell? ⟨w.heap.size, 0, none⟩ = some (Value.string ⟨(f).toArray⟩) := by rw [hc4 _ _ (by first | omega | (simp; done) | (simp; omega))]; first | assumption | go_simp
      have fx0 : w4.frozen? ⟨w.heap.size, 0, none⟩ = false := by rw [hf4 _ _ (by first | omega | (simp; done) | (simp; omega))]; first | assumption | go_simp
      have cx1 : w4.cell? ⟨w.heap.size, 1, none⟩ = some (Value.string ⟨(lo).toArray⟩) := by rw [hc4 _ _ (by first | omega | (simp; done) | (simp; omega))]; first | assumption | go_simp
      have fx1 : w4.frozen? ⟨w.heap.size, 1, none⟩ = false := by rw [hf4 _ _ (by first | omega | (simp; done) | (simp; omega))]; first | assumption | go_simp
      have cx2 : w4.cell? ⟨w.heap.size, 2, none⟩ = some (Value.int .i64 (n)) := by rw [hc4 _ _ (by first | omega | (simp; done) | (simp; omega))]; first | assumption | go_simp
      have fx2 : w4.frozen? ⟨w.heap.size, 2, none⟩ = false := by rw [hf4 _ _ (by first | omega | (simp; done) | (simp; omega))]; first | assumption | go_simp
      have cx3 : w4.cell? ⟨w.heap.size, 3, none⟩ = some (Value.bool ar) := by rw [hc4 _ _ (by first | omega | (simp; done) | (simp; omega))]; first | assumption | go_simp
      have fx3 : w4.frozen? ⟨w.heap.size, 3, none⟩ = false := by rw [hf4 _ _ (by first | omega | (simp; done) | (simp; omega))]; first | assumption | go_simp
      have cx4 : w4.cell? ⟨w.heap.size, 4, none⟩ = some (Value.bool dn) := by rw [hc4 _ _ (by first | omega | (simp; done) | (simp; omega))]; first | assumption | go_simp
      have fx4 : w4.frozen? ⟨w.heap.size, 4, none⟩ = false := by rw [hf4 _ _ (by first | omega | (simp; done) | (simp; omega))]; first | assumption | go_simp
      clear hc4 hf4
      go_wp2_with fail
      refine (awake12 _).mono ?_
      rintro e w5 ⟨rfl, hb5⟩
      have hB5 : Below w.heap.size w w5 := by
        refine bt ?_ hb5
        repeat (first | (with_reducible refine Below.drew ?_) | (with_reducible refine bal ?_ _) | ((with_reducible refine bst ?_ ?_ _); rotate_left; focus (first | (simp; done) | (simp; omega))))
        exact hB4
      go_wp2
      go_ret
      refine ⟨rfl, ?_⟩
      repeat (first | (with_reducible refine Below.drew ?_) | (with_reducible refine bal ?_ _) | ((with_reducible refine bst ?_ ?_ _); rotate_left; focus (first | (simp; done) | (simp; omega))))
      exact hB5
    · obtain ⟨hp1, hn1, hn2, _⟩ := right_parts _ HR.out
      simp only at hp1 hn1 hn2
      cases dn
      · have hv : textT ⟨f, lo, n, ar, false⟩ = (f ++ lo, 0) := by unfold textT readyT; simp [HR.out]
        have HV := Lib.hid hv
        clear hv
        go_enter Try.func4, Try.ntmps4
        go_wp2_with fail
        refine (small_any f lo n ar false hf hl _).mono ?_
        rintro e w1 ⟨rfl, hb1⟩
        rw [HS.out]
        obtain ⟨hc1, hf1⟩ := bcell hb1
        have hz1 := hb1.size
        try simp at hz1
        have hB1 : Below w.heap.size w w1 := by
          refine bt ?_ hb1
          repeat (first | (with_reducible refine Below.drew ?_) | (with_reducible refine bal ?_ _) | ((with_reducible refine bst ?_ ?_ _); rotate_left; focus (first | (simp; done) | (simp; omega))))
          exact (b0 w)
        have ltx1 : w.heap.size < w1.heap.size := by omega
        have cx0 : w1.cell? ⟨w.heap.size, 0, none⟩ = some (Value.string ⟨(f).toArray⟩) := by rw [hc1 _ _ (by first | omega | (simp; done) | (simp; omega))]; first | assumption | go_simp
        have fx0 : w1.frozen? ⟨w.heap.size, 0, none⟩ = false := by rw [hf1 _ _ (by first | omega | (simp; done) | (simp; omega))]; first | assumption | go_simp
        have cx1 : w1.cell? ⟨w.heap.size, 1, none⟩ = some (Value.string ⟨(lo).toArray⟩) := by rw [hc1 _ _ (by first | omega | (simp; done) | (simp; omega))]; first | assumption | go_simp
        have fx1 : w1.frozen? ⟨w.heap.size, 1, none⟩ = false := by rw [hf1 _ _ (by first | omega | (simp; done) | (simp; omega))]; first | assumption | go_simp
        have cx2 : w1.cell? ⟨w.heap.size, 2, none⟩ = some (Value.int .i64 (n)) := by rw [hc1 _ _ (by first | omega | (simp; done) | (simp; omega))]; first | assumption | go_simp
        have fx2 : w1.frozen? ⟨w.heap.size, 2, none⟩ = false := by rw [hf1 _ _ (by first | omega | (simp; done) | (simp; omega))]; first | assumption | go_simp
        have cx3 : w1.cell? ⟨w.heap.size, 3, none⟩ = some (Value.bool ar) := by rw [hc1 _ _ (by first | omega | (simp; done) | (simp; omega))]; first | assumption | go_simp
        have fx3 : w1.frozen? ⟨w.heap.size, 3, none⟩ = false := by rw [hf1 _ _ (by first | omega | (simp; done) | (simp; omega))]; first | assumption | go_simp
        have cx4 : w1.cell? ⟨w.heap.size, 4, none⟩ = some (Value.bool false) := by rw [hc1 _ _ (by first | omega | (simp; done) | (simp; omega))]; first | assumption | go_simp
        have fx4 : w1.frozen? ⟨w.heap.size, 4, none⟩ = false := by rw [hf1 _ _ (by first | omega | (simp; done) | (simp; omega))]; first | assumption | go_simp
        clear hc1 hf1
        go_wp2_with fail
        refine (ttext_any f lo n ar false hf hl _).mono ?_
        rintro e w2 ⟨rfl, hb2⟩
        rw [HV.out]
        obtain ⟨hc2, hf2⟩ := bcell hb2
        have hz2 := hb2.size
        try simp at hz2
        have hB2 : Below w.heap.size w w2 := by
          refine bt ?_ hb2
          repeat (first | (with_reducible refine Below.drew ?_) | (with_reducible refine bal ?_ _) | ((with_reducible refine bst ?_ ?_ _); rotate_left; focus (first | (simp; done) | (simp; omega))))
          exact hB1
        have ltx2 : w.heap.size < w2.heap.size := by omega
        have cx0 : w2.cell? ⟨w.heap.size, 0, none⟩ = some (Value.string ⟨(f).toArray⟩) := by rw [hc2 _ _ (by first | omega | (simp; done) | (simp; omega))]; first | assumption | go_simp
        have fx0 : w2.frozen? ⟨w.heap.size, 0, none⟩ = false := by rw [hf2 _ _ (by first | omega | (simp; done) | (simp; omega))]; first | assumption | go_simp
        have cx1 : w2.cell? ⟨w.heap.size, 1, none⟩ = some (Value.string ⟨(lo).toArray⟩) := by rw [hc2 _ _ (by first | omega | (simp; done) | (simp; omega))]; first | assumption | go_simp
        have fx1 : w2.frozen? ⟨w.heap.size, 1, none⟩ = false := by rw [hf2 _ _ (by first | omega | (simp; done) | (simp; omega))]; first | assumption | go_simp
        have cx2 : w2.cell? ⟨w.heap.size, 2, none⟩ = some (Value.int .i64 (n)) := by rw [hc2 _ _ (by first | omega | (simp; done) | (simp; omega))]; first | assumption | go_simp
        have fx2 : w2.frozen? ⟨w.heap.size, 2, none⟩ = false := by rw [hf2 _ _ (by first | omega | (simp; done) | (simp; omega))]; first | assumption | go_simp
        have cx3 : w2.cell? ⟨w.heap.size, 3, none⟩ = some (Value.bool ar) := by rw [hc2 _ _ (by first | omega | (simp; done) | (simp; omega))]; first | assumption | go_simp
        have fx3 : w2.frozen? ⟨w.heap.size, 3, none⟩ = false := by rw [hf2 _ _ (by first | omega | (simp; done) | (simp; omega))]; first | assumption | go_simp
        have cx4 : w2.cell? ⟨w.heap.size, 4, none⟩ = some (Value.bool false) := by rw [hc2 _ _ (by first | omega | (simp; done) | (simp; omega))]; first | assumption | go_simp
        have fx4 : w2.frozen? ⟨w.heap.size, 4, none⟩ = false := by rw [hf2 _ _ (by first | omega | (simp; done) | (simp; omega))]; first | assumption | go_simp
        clear hc2 hf2
        go_wp2_with fail
        refine (ref_any f lo n ar false _).mono ?_
        rintro e w3 ⟨rfl, hb3⟩
        obtain ⟨hc3, hf3⟩ := bcell hb3
        have hz3 := hb3.size
        try simp at hz3
        have hB3 : Below w.heap.size w w3 := by
          refine bt ?_ hb3
          repeat (first | (with_reducible refine Below.drew ?_) | (with_reducible refine bal ?_ _) | ((with_reducible refine bst ?_ ?_ _); rotate_left; focus (first | (simp; done) | (simp; omega))))
          exact hB2
        have ltx3 : w.heap.size < w3.heap.size := by omega
        have cx0 : w3.cell? ⟨w.heap.size, 0, none⟩ = some (Value.string ⟨(f).toArray⟩) := by rw [hc3 _ _ (by first | omega | (simp; done) | (simp; omega))]; first | assumption | go_simp
        have fx0 : w3.frozen? ⟨w.heap.size, 0, none⟩ = false := by rw [hf3 _ _ (by first | omega | (simp; done) | (simp; omega))]; first | assumption | go_simp
        have cx1 : w3.cell? ⟨w.heap.size, 1, none⟩ = some (Value.string ⟨(lo).toArray⟩) := by rw [hc3 _ _ (by first | omega | (simp; done) | (simp; omega))]; first | assumption | go_simp
        have fx1 : w3.frozen? ⟨w.heap.size, 1, none⟩ = false := by rw [hf3 _ _ (by first | omega | (simp; done) | (simp; omega))]; first | assumption | go_simp
        have cx2 : w3.cell? ⟨w.heap.size, 2, none⟩ = some (Value.int .i64 (n)) := by rw [hc3 _ _ (by first | omega | (simp; done) | (simp; omega))]; first | assumption | go_simp
        have fx2 : w3.frozen? ⟨w.heap.size, 2, none⟩ = false := by rw [hf3 _ _ (by first | omega | (simp; done) | (simp; omega))]; first | assumption | go_simp
        have cx3 : w3.cell? ⟨w.heap.size, 3, none⟩ = some (Value.bool ar) := by rw [hc3 _ _ (by first | omega | (simp; done) | (simp; omega))]; first | assumption | go_simp
        have fx3 : w3.frozen? ⟨w.heap.size, 3, none⟩ = false := by rw [hf3 _ _ (by first | omega | (simp; done) | (simp; omega))]; first | assumption | go_simp
        have cx4 : w3.cell? ⟨w.heap.size, 4, none⟩ = some (Value.bool false) := by rw [hc3 _ _ (by first | omega | (simp; done) | (simp; omega))]; first | assumption | go_simp
        have fx4 : w3.frozen? ⟨w.heap.size, 4, none⟩ = false := by rw [hf3 _ _ (by first | omega | (simp; done) | (simp; omega))]; first | assumption | go_simp
        clear hc3 hf3
        go_wp2_with fail
        refine (refright12_any f lo n ar false hf hl _).mono ?_
        rintro e w4 ⟨rfl, hb4⟩
        rw [HR.out]
        obtain ⟨hc4, hf4⟩ := bcell hb4
        have hz4 := hb4.size
        try simp at hz4
        have hB4 : Below w.heap.size w w4 := by
          refine bt ?_ hb4
          repeat (first | (with_reducible refine Below.drew ?_) | (with_reducible refine bal ?_ _) | ((with_reducible refine bst ?_ ?_ _); rotate_left; focus (first | (simp; done) | (simp; omega))))
          exact hB3
        have ltx4 : w.heap.size < w4.heap.size := by omega
        have cx0 : w4.cell? ⟨w.heap.size, 0, none⟩ = some (Value.string ⟨(f).toArray⟩) := by rw [hc4 _ _ (by first | omega | (simp; done) | (simp; omega))]; first | assumption | go_simp
        have fx0 : w4.frozen? ⟨w.heap.size, 0, none⟩ = false := by rw [hf4 _ _ (by first | omega | (simp; done) | (simp; omega))]; first | assumption | go_simp
        have cx1 : w4.cell? ⟨w.heap.size, 1, none⟩ = some (Value.string ⟨(lo).toArray⟩) := by rw [hc4 _ _ (by first | omega | (simp; done) | (simp; omega))]; first | assumption | go_simp
        have fx1 : w4.frozen? ⟨w.heap.size, 1, none⟩ = false := by rw [hf4 _ _ (by first | omega | (simp; done) | (simp; omega))]; first | assumption | go_simp
        have cx2 : w4.cell? ⟨w.heap.size, 2, none⟩ = some (Value.int .i64 (n)) := by rw [hc4 _ _ (by first | omega | (simp; done) | (simp; omega))]; first | assumption | go_simp
        have fx2 : w4.frozen? ⟨w.heap.size, 2, none⟩ = false := by rw [hf4 _ _ (by first | omega | (simp; done) | (simp; omega))]; first | assumption | go_simp
        have cx3 : w4.cell? ⟨w.heap.size, 3, none⟩ = some (Value.bool ar) := by rw [hc4 _ _ (by first | omega | (simp; done) | (simp; omega))]; first | assumption | go_simp
        have fx3 : w4.frozen? ⟨w.heap.size, 3, none⟩ = false := by rw [hf4 _ _ (by first | omega | (simp; done) | (simp; omega))]; first | assumption | go_simp
        have cx4 : w4.cell? ⟨w.heap.size, 4, none⟩ = some (Value.bool false) := by rw [hc4 _ _ (by first | omega | (simp; done) | (simp; omega))]; first | assumption | go_simp
        have fx4 : w4.frozen? ⟨w.heap.size, 4, none⟩ = false := by rw [hf4 _ _ (by first | omega | (simp; done) | (simp; omega))]; first | assumption | go_simp
        clear hc4 hf4
        go_wp2_with fail
        refine (awake12 _).mono ?_
        rintro e w5 ⟨rfl, hb5⟩
        have hB5 : Below w.heap.size w w5 := by
          refine bt ?_ hb5
          repeat (first | (with_reducible refine Below.drew ?_) | (with_reducible refine bal ?_ _) | ((with_reducible refine bst ?_ ?_ _); rotate_left; focus (first | (simp; done) | (simp; omega))))
          exact hB4
        go_wp2
        go_ret
        refine ⟨rfl, ?_⟩
        repeat (first | (with_reducible refine Below.drew ?_) | (with_reducible refine bal ?_ _) | ((with_reducible refine bst ?_ ?_ _); rotate_left; focus (first | (simp; done) | (simp; omega))))
        exact hB5
      · have hv : textT ⟨f, lo, n, ar, true⟩ = ([], 16) := by unfold textT readyT; simp [HR.out]
        have HV := Lib.hid hv
        clear hv
        go_enter Try.func4, Try.ntmps4
        go_wp2_with fail
        refine (small_any f lo n ar true hf hl _).mono ?_
        rintro e w1 ⟨rfl, hb1⟩
        rw [HS.out]
        obtain ⟨hc1, hf1⟩ := bcell hb1
        have hz1 := hb1.size
        try simp at hz1
        have hB1 : Below w.heap.size w w1 := by
          refine bt ?_ hb1
          repeat (first | (with_reducible refine Below.drew ?_) | (with_reducible refine bal ?_ _) | ((with_reducible refine bst ?_ ?_ _); rotate_left; focus (first | (simp; done) | (simp; omega))))
          exact (b0 w)
        have ltx1 : w.heap.size < w1.heap.size := by omega
        have cx0 : w1.cell? ⟨w.heap.size, 0, none⟩ = some (Value.string ⟨(f).toArray⟩) := by rw [hc1 _ _ (by first | omega | (simp; done) | (simp; omega))]; first | assumption | go_simp
        have fx0 : w1.frozen? ⟨w.heap.size, 0, none⟩ = false := by rw [hf1 _ _ (by first | omega | (simp; done) | (simp; omega))]; first | assumption | go_simp
        have cx1 : w1.cell? ⟨w.heap.size, 1, none⟩ = some (Value.string ⟨(lo).toArray⟩) := by rw [hc1 _ _ (by first | omega | (simp; done) | (simp; omega))]; first | assumption | go_simp
        have fx1 : w1.frozen? ⟨w.heap.size, 1, none⟩ = false := by rw [hf1 _ _ (by first | omega | (simp; done) | (simp; omega))]; first | assumption | go_simp
        have cx2 : w1.cell? ⟨w.heap.size, 2, none⟩ = some (Value.int .i64 (n)) := by rw [hc1 _ _ (by first | omega | (simp; done) | (simp; omega))]; first | assumption | go_simp
        have fx2 : w1.frozen? ⟨w.heap.size, 2, none⟩ = false := by rw [hf1 _ _ (by first | omega | (simp; done) | (simp; omega))]; first | assumption | go_simp
        have cx3 : w1.cell? ⟨w.heap.size, 3, none⟩ = some (Value.bool ar) := by rw [hc1 _ _ (by first | omega | (simp; done) | (simp; omega))]; first | assumption | go_simp
        have fx3 : w1.frozen? ⟨w.heap.size, 3, none⟩ = false := by rw [hf1 _ _ (by first | omega | (simp; done) | (simp; omega))]; first | assumption | go_simp
        have cx4 : w1.cell? ⟨w.heap.size, 4, none⟩ = some (Value.bool true) := by rw [hc1 _ _ (by first | omega | (simp; done) | (simp; omega))]; first | assumption | go_simp
        have fx4 : w1.frozen? ⟨w.heap.size, 4, none⟩ = false := by rw [hf1 _ _ (by first | omega | (simp; done) | (simp; omega))]; first | assumption | go_simp
        clear hc1 hf1
        go_wp2_with fail
        refine (ttext_any f lo n ar true hf hl _).mono ?_
        rintro e w2 ⟨rfl, hb2⟩
        rw [HV.out]
        obtain ⟨hc2, hf2⟩ := bcell hb2
        have hz2 := hb2.size
        try simp at hz2
        have hB2 : Below w.heap.size w w2 := by
          refine bt ?_ hb2
          repeat (first | (with_reducible refine Below.drew ?_) | (with_reducible refine bal ?_ _) | ((with_reducible refine bst ?_ ?_ _); rotate_left; focus (first | (simp; done) | (simp; omega))))
          exact hB1
        have ltx2 : w.heap.size < w2.heap.size := by omega
        have cx0 : w2.cell? ⟨w.heap.size, 0, none⟩ = some (Value.string ⟨(f).toArray⟩) := by rw [hc2 _ _ (by first | omega | (simp; done) | (simp; omega))]; first | assumption | go_simp
        have fx0 : w2.frozen? ⟨w.heap.size, 0, none⟩ = false := by rw [hf2 _ _ (by first | omega | (simp; done) | (simp; omega))]; first | assumption | go_simp
        have cx1 : w2.cell? ⟨w.heap.size, 1, none⟩ = some (Value.string ⟨(lo).toArray⟩) := by rw [hc2 _ _ (by first | omega | (simp; done) | (simp; omega))]; first | assumption | go_simp
        have fx1 : w2.frozen? ⟨w.heap.size, 1, none⟩ = false := by rw [hf2 _ _ (by first | omega | (simp; done) | (simp; omega))]; first | assumption | go_simp
        have cx2 : w2.cell? ⟨w.heap.size, 2, none⟩ = some (Value.int .i64 (n)) := by rw [hc2 _ _ (by first | omega | (simp; done) | (simp; omega))]; first | assumption | go_simp
        have fx2 : w2.frozen? ⟨w.heap.size, 2, none⟩ = false := by rw [hf2 _ _ (by first | omega | (simp; done) | (simp; omega))]; first | assumption | go_simp
        have cx3 : w2.cell? ⟨w.heap.size, 3, none⟩ = some (Value.bool ar) := by rw [hc2 _ _ (by first | omega | (simp; done) | (simp; omega))]; first | assumption | go_simp
        have fx3 : w2.frozen? ⟨w.heap.size, 3, none⟩ = false := by rw [hf2 _ _ (by first | omega | (simp; done) | (simp; omega))]; first | assumption | go_simp
        have cx4 : w2.cell? ⟨w.heap.size, 4, none⟩ = some (Value.bool true) := by rw [hc2 _ _ (by first | omega | (simp; done) | (simp; omega))]; first | assumption | go_simp
        have fx4 : w2.frozen? ⟨w.heap.size, 4, none⟩ = false := by rw [hf2 _ _ (by first | omega | (simp; done) | (simp; omega))]; first | assumption | go_simp
        clear hc2 hf2
        go_wp2_with fail
        refine (ref_any f lo n ar true _).mono ?_
        rintro e w3 ⟨rfl, hb3⟩
        obtain ⟨hc3, hf3⟩ := bcell hb3
        have hz3 := hb3.size
        try simp at hz3
        have hB3 : Below w.heap.size w w3 := by
          refine bt ?_ hb3
          repeat (first | (with_reducible refine Below.drew ?_) | (with_reducible refine bal ?_ _) | ((with_reducible refine bst ?_ ?_ _); rotate_left; focus (first | (simp; done) | (simp; omega))))
          exact hB2
        have ltx3 : w.heap.size < w3.heap.size := by omega
        have cx0 : w3.cell? ⟨w.heap.size, 0, none⟩ = some (Value.string ⟨(f).toArray⟩) := by rw [hc3 _ _ (by first | omega | (simp; done) | (simp; omega))]; first | assumption | go_simp
        have fx0 : w3.frozen? ⟨w.heap.size, 0, none⟩ = false := by rw [hf3 _ _ (by first | omega | (simp; done) | (simp; omega))]; first | assumption | go_simp
        have cx1 : w3.cell? ⟨w.heap.size, 1, none⟩ = some (Value.string ⟨(lo).toArray⟩) := by rw [hc3 _ _ (by first | omega | (simp; done) | (simp; omega))]; first | assumption | go_simp
        have fx1 : w3.frozen? ⟨w.heap.size, 1, none⟩ = false := by rw [hf3 _ _ (by first | omega | (simp; done) | (simp; omega))]; first | assumption | go_simp
        have cx2 : w3.cell? ⟨w.heap.size, 2, none⟩ = some (Value.int .i64 (n)) := by rw [hc3 _ _ (by first | omega | (simp; done) | (simp; omega))]; first | assumption | go_simp
        have fx2 : w3.frozen? ⟨w.heap.size, 2, none⟩ = false := by rw [hf3 _ _ (by first | omega | (simp; done) | (simp; omega))]; first | assumption | go_simp
        have cx3 : w3.cell? ⟨w.heap.size, 3, none⟩ = some (Value.bool ar) := by rw [hc3 _ _ (by first | omega | (simp; done) | (simp; omega))]; first | assumption | go_simp
        have fx3 : w3.frozen? ⟨w.heap.size, 3, none⟩ = false := by rw [hf3 _ _ (by first | omega | (simp; done) | (simp; omega))]; first | assumption | go_simp
        have cx4 : w3.cell? ⟨w.heap.size, 4, none⟩ = some (Value.bool true) := by rw [hc3 _ _ (by first | omega | (simp; done) | (simp; omega))]; first | assumption | go_simp
        have fx4 : w3.frozen? ⟨w.heap.size, 4, none⟩ = false := by rw [hf3 _ _ (by first | omega | (simp; done) | (simp; omega))]; first | assumption | go_simp
        clear hc3 hf3
        go_wp2_with fail
        refine (refright12_any f lo n ar true hf hl _).mono ?_
        rintro e w4 ⟨rfl, hb4⟩
        rw [HR.out]
        obtain ⟨hc4, hf4⟩ := bcell hb4
        have hz4 := hb4.size
        try simp at hz4
        have hB4 : Below w.heap.size w w4 := by
          refine bt ?_ hb4
          repeat (first | (with_reducible refine Below.drew ?_) | (with_reducible refine bal ?_ _) | ((with_reducible refine bst ?_ ?_ _); rotate_left; focus (first | (simp; done) | (simp; omega))))
          exact hB3
        have ltx4 : w.heap.size < w4.heap.size := by omega
        have cx0 : w4.cell? ⟨w.heap.size, 0, none⟩ = some (Value.string ⟨(f).toArray⟩) := by rw [hc4 _ _ (by first | omega | (simp; done) | (simp; omega))]; first | assumption | go_simp
        have fx0 : w4.frozen? ⟨w.heap.size, 0, none⟩ = false := by rw [hf4 _ _ (by first | omega | (simp; done) | (simp; omega))]; first | assumption | go_simp
        have cx1 : w4.cell? ⟨w.heap.size, 1, none⟩ = some (Value.string ⟨(lo).toArray⟩) := by rw [hc4 _ _ (by first | omega | (simp; done) | (simp; omega))]; first | assumption | go_simp
        have fx1 : w4.frozen? ⟨w.heap.size, 1, none⟩ = false := by rw [hf4 _ _ (by first | omega | (simp; done) | (simp; omega))]; first | assumption | go_simp
        have cx2 : w4.cell? ⟨w.heap.size, 2, none⟩ = some (Value.int .i64 (n)) := by rw [hc4 _ _ (by first | omega | (simp; done) | (simp; omega))]; first | assumption | go_simp
        have fx2 : w4.frozen? ⟨w.heap.size, 2, none⟩ = false := by rw [hf4 _ _ (by first | omega | (simp; done) | (simp; omega))]; first | assumption | go_simp
        have cx3 : w4.cell? ⟨w.heap.size, 3, none⟩ = some (Value.bool ar) := by rw [hc4 _ _ (by first | omega | (simp; done) | (simp; omega))]; first | assumption | go_simp
        have fx3 : w4.frozen? ⟨w.heap.size, 3, none⟩ = false := by rw [hf4 _ _ (by first | omega | (simp; done) | (simp; omega))]; first | assumption | go_simp
        have cx4 : w4.cell? ⟨w.heap.size, 4, none⟩ = some (Value.bool true) := by rw [hc4 _ _ (by first | omega | (simp; done) | (simp; omega))]; first | assumption | go_simp
        have fx4 : w4.frozen? ⟨w.heap.size, 4, none⟩ = false := by rw [hf4 _ _ (by first | omega | (simp; done) | (simp; omega))]; first | assumption | go_simp
        clear hc4 hf4
        go_wp2_with fail
        refine (awake12 _).mono ?_
        rintro e w5 ⟨rfl, hb5⟩
        have hB5 : Below w.heap.size w w5 := by
          refine bt ?_ hb5
          repeat (first | (with_reducible refine Below.drew ?_) | (with_reducible refine bal ?_ _) | ((with_reducible refine bst ?_ ?_ _); rotate_left; focus (first | (simp; done) | (simp; omega))))
          exact hB4
        go_wp2
        go_ret
        refine ⟨rfl, ?_⟩
        repeat (first | (with_reducible refine Below.drew ?_) | (with_reducible refine bal ?_ _) | ((with_reducible refine bst ?_ ?_ _); rotate_left; focus (first | (simp; done) | (simp; omega))))
        exact hB5
end Go.Proofs.Ytbekiimgbpmomaa
