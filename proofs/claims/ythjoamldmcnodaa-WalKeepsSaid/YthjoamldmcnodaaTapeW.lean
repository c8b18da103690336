/- The walks through the tape's calls: each is the plain law's. -/
import Derived.Test.YthjoamldmcnodaaProg
import Derived.Test.YthjoamldmcnodaaBase
import Derived.Test.YthjoamldmcnodaaTape
import Derived.RegionTactic
import Derived.Deep.QuietTactic
import Derived.BigQuiet
import Derived.Outline
namespace Go.Proofs.Ythjoamldmcnodaa
open Go.RowKit
attribute [local go_sem] ByteArray.mk_append_mk ByteArray.extract_mk
/-- a tape's value -/
abbrev tapeV (t : Tp) : Value := .agg #[.string ⟨t.f.toArray⟩, .string ⟨t.lo.toArray⟩, .int .i64 t.n, .bool t.ar, .bool t.dn]
set_option maxHeartbeats 800000 in
set_option maxRecDepth 100000 in
theorem tright_any (f lo : List UInt8) (n : Int) (ar dn : Bool) (hf : f.length ≤ 140737488351232) (hl : lo.length ≤ 140737488351232) (w : World) : Calls Try.prog 32 #[tapeV ⟨f, lo, n, ar, dn⟩] w fun e w' => e = .returned (.bool (rightTp ⟨f, lo, n, ar, dn⟩)) ∧ Below w.heap.size w w' := by
  by_cases h1 : f.length + lo.length ≤ 1048576
  · have h1' : (f.length : Int) + lo.length ≤ 1048576 := by omega
    by_cases h2 : 0 ≤ n
    · by_cases h3 : n ≤ 1099511627776
      · cases ar
        · by_cases h4 : n = 0
          · have hq : (n == 0) = true := by simp [h4]
            have hv : rightTp ⟨f, lo, n, false, dn⟩ = true := by simp [rightTp, *]
            have HV := Lib.hid hv
            clear hv h4
            go_enter Try.func32, Try.ntmps32
            go_wp2
            go_ret
            exact ⟨by rw [HV.out]; rfl, bal (b0 w) _⟩
          · have hq : (n == 0) = false := by simp [h4]
            have hv : rightTp ⟨f, lo, n, false, dn⟩ = false := by simp [rightTp, *]
            have HV := Lib.hid hv
            clear hv h4
            go_enter Try.func32, Try.ntmps32
            go_wp2
            go_ret
            exact ⟨by rw [HV.out]; rfl, bal (b0 w) _⟩
        · skip
          have hv : rightTp ⟨f, lo, n, true, dn⟩ = true := by simp [rightTp, *]
          have HV := Lib.hid hv
          clear hv
          go_enter Try.func32, Try.ntmps32
          go_wp2
          go_ret
          exact ⟨by rw [HV.out]; rfl, bal (b0 w) _⟩
      · skip
        have hv : rightTp ⟨f, lo, n, ar, dn⟩ = false := by simp [rightTp, *]
        have HV := Lib.hid hv
        clear hv
        go_enter Try.func32, Try.ntmps32
        go_wp2
        go_ret
        exact ⟨by rw [HV.out]; rfl, bal (b0 w) _⟩
    · skip
      have hv : rightTp ⟨f, lo, n, ar, dn⟩ = false := by simp [rightTp, *]
      have HV := Lib.hid hv
      clear hv
      go_enter Try.func32, Try.ntmps32
      go_wp2
      go_ret
      exact ⟨by rw [HV.out]; rfl, bal (b0 w) _⟩
  · have h1' : ¬ ((f.length : Int) + lo.length ≤ 1048576) := by omega
    have hv : rightTp ⟨f, lo, n, ar, dn⟩ = false := by simp [rightTp, *]
    have HV := Lib.hid hv
    clear hv
    go_enter Try.func32, Try.ntmps32
    go_wp2
    go_ret
    exact ⟨by rw [HV.out]; rfl, bal (b0 w) _⟩
set_option maxHeartbeats 800000 in
set_option maxRecDepth 100000 in
theorem ready_any (f lo : List UInt8) (n : Int) (ar dn : Bool) (hf : f.length ≤ 140737488351232) (hl : lo.length ≤ 140737488351232) (w : World) : Calls Try.prog 36 #[tapeV ⟨f, lo, n, ar, dn⟩] w fun e w' => e = .returned (.int .i64 (readyT ⟨f, lo, n, ar, dn⟩)) ∧ Below w.heap.size w w' := by
  generalize hr : rightTp ⟨f, lo, n, ar, dn⟩ = r
  have HR := Lib.hid hr
  clear hr
  cases r
  · have hv : readyT ⟨f, lo, n, ar, dn⟩ = 1 := by unfold readyT; simp [HR.out]
    have HV := Lib.hid hv
    clear hv
    go_enter Try.func36, Try.ntmps36
    go_wp2_with fail
    refine (tright_any f lo n ar dn hf hl _).mono ?_
    rintro e w1 ⟨rfl, hb1⟩
    rw [HR.out]
    obtain ⟨hc1, hf1⟩ := bcell hb1
    have hz1 := hb1.size
    try simp at hz1
    have hB1 : Below w.heap.size w w1 := by
      refine bt ?_ hb1
      repeat (first | (with_reducible refine Below.drew ?_) | (with_reducible refine bal ?_ _) | ((with_reducible refine bst ?_ ?_ _); rotate_left; focus (first | (simp; done) | (simp; omega))))
      exact (b0 w)
    have ltx1 : w.heap.size < w1.heap.size := by omega
    have cx0 : w1.cell? ⟨w.heap.size, 0, none⟩ = some (Value.string ⟨(f).toArray⟩) := by rw [hc1 _ _ (by first | omega | (simp; done) | (simp; omega))]; first | assumption | go_simp
    have fx0 : w1.frozen? ⟨w.heap.size, 0, none⟩ = false := by rw [hf1 _ _ (by first | omega | (simp; done) | (simp; omega))]; first | assumption | go_simp
    have cx1 : w1.cell? ⟨w.heap.size, 1, none⟩ = some (Value.string ⟨(lo).toArray⟩) := by rw [hc1 _ _ (by first | omega | (simp; done) | (simp; omega))]; first | assumption | go_simp
    have fx1 : w1.frozen? ⟨w.heap.size, 1, none⟩ = false := by rw [hf1 _ _ (by first | omega | (simp; done) | (simp; omega))]; first | assumption | go_simp
    have cx2 : w1.cell? ⟨w.heap.size, 2, none⟩ = some (Value.int .i64 (n)) := by rw [hc1 _ _ (by first | omega | (simp; done) | (simp; omega))]; first | assumption | go_simp
    have fx2 : w1.frozen? ⟨w.heap.size, 2, none⟩ = false := by rw [hf1 _ _ (by first | omega | (simp; done) | (simp; omega))]; first | assumption | go_simp
    have cx3 : w1.cell? ⟨w.heap.size, 3, none⟩ = some (Value.bool ar) := by rw [hc1 _ _ (by first | omega | (simp; done) | (simp; omega))]; first | assumption | go_simp
    have fx3 : w1.frozen? ⟨w.heap.size, 3, none⟩ = false := by rw [hf1 _ _ (by first | omega | (simp; done) | (simp; omega))]; first | assumption | go_simp
    have cx4 : w1.cell? ⟨w.heap.size, 4, none⟩ = some (Value.bool dn) := by rw [hc1 _ _ (by first | omega | (simp; done) | (simp; omega))]; first | assumption | go_simp
    have fx4 : w1.frozen? ⟨w.heap.size, 4, none⟩ = false := by rw [hf1 _ _ (by first | omega | (simp; done) | (simp; omega))]; first | assumption | go_simp
    clear hc1 hf1
    go_wp2
    go_ret
    exact ⟨by rw [HV.out]; rfl, hB1⟩
  · cases dn
    · have hv : readyT ⟨f, lo, n, ar, false⟩ = 0 := by unfold readyT; simp [HR.out]
      have HV := Lib.hid hv
      clear hv
      go_enter Try.func36, Try.ntmps36
      go_wp2_with fail
      refine (tright_any f lo n ar false hf hl _).mono ?_
      rintro e w1 ⟨rfl, hb1⟩
      rw [HR.out]
      obtain ⟨hc1, hf1⟩ := bcell hb1
      have hz1 := hb1.size
      try simp at hz1
      have hB1 : Below w.heap.size w w1 := by
        refine bt ?_ hb1
        repeat (first | (with_reducible refine Below.drew ?_) | (with_reducible refine bal ?_ _) | ((with_reducible refine bst ?_ ?_ _); rotate_left; focus (first | (simp; done) | (simp; omega))))
        exact (b0 w)
      have ltx1 : w.heap.size < w1.heap.size := by omega
      have cx0 : w1.cell? ⟨w.heap.size, 0, none⟩ = some (Value.string ⟨(f).toArray⟩) := by rw [hc1 _ _ (by first | omega | (simp; done) | (simp; omega))]; first | assumption | go_simp
      have fx0 : w1.frozen? ⟨w.heap.size, 0, none⟩ = false := by rw [hf1 _ _ (by first | omega | (simp; done) | (simp; omega))]; first | assumption | go_simp
      have cx1 : w1.cell? ⟨w.heap.size, 1, none⟩ = some (Value.string ⟨(lo).toArray⟩) := by rw [hc1 _ _ (by first | omega | (simp; done) | (simp; omega))]; first | assumption | go_simp
      have fx1 : w1.frozen? ⟨w.heap.size, 1, none⟩ = false := by rw [hf1 _ _ (by first | omega | (simp; done) | (simp; omega))]; first | assumption | go_simp
      have cx2 : w1.cell? ⟨w.heap.size, 2, none⟩ = some (Value.int .i64 (n)) := by rw [hc1 _ _ (by first | omega | (simp; done) | (simp; omega))]; first | assumption | go_simp
      have fx2 : w1.frozen? ⟨w.heap.size, 2, none⟩ = false := by rw [hf1 _ _ (by first | omega | (simp; done) | (simp; omega))]; first | assumption | go_simp
      have cx3 : w1.cell? ⟨w.heap.size, 3, none⟩ = some (Value.bool ar) := by rw [hc1 _ _ (by first | omega | (simp; done) | (simp; omega))]; first | assumption | go_simp
      have fx3 : w1.frozen? ⟨w.heap.size, 3, none⟩ = false := by rw [hf1 _ _ (by first | omega | (simp; done) | (simp; omega))]; first | assumption | go_simp
      have cx4 : w1.cell? ⟨w.heap.size, 4, none⟩ = some (Value.bool false) := by rw [hc1 _ _ (by first | omega | (simp; done) | (simp; omega))]; first | assumption | go_simp
      have fx4 : w1.frozen? ⟨w.heap.size, 4, none⟩ = false := by rw [hf1 _ _ (by first | omega | (simp; done) | (simp; omega))]; first | assumption | go_simp
      clear hc1 hf1
      go_wp2
      go_ret
      exact ⟨by rw [HV.out]; rfl, hB1⟩
    · have hv : readyT ⟨f, lo, n, ar, true⟩ = 16 := by unfold readyT; simp [HR.out]
      have HV := Lib.hid hv
      clear hv
      go_enter Try.func36, Try.ntmps36
      go_wp2_with fail
      refine (tright_any f lo n ar true hf hl _).mono ?_
      rintro e w1 ⟨rfl, hb1⟩
      rw [HR.out]
      obtain ⟨hc1, hf1⟩ := bcell hb1
      have hz1 := hb1.size
      try simp at hz1
      have hB1 : Below w.heap.size w w1 := by
        refine bt ?_ hb1
        repeat (first | (with_reducible refine Below.drew ?_) | (with_reducible refine bal ?_ _) | ((with_reducible refine bst ?_ ?_ _); rotate_left; focus (first | (simp; done) | (simp; omega))))
        exact (b0 w)
      have ltx1 : w.heap.size < w1.heap.size := by omega
      have cx0 : w1.cell? ⟨w.heap.size, 0, none⟩ = some (Value.string ⟨(f).toArray⟩) := by rw [hc1 _ _ (by first | omega | (simp; done) | (simp; omega))]; first | assumption | go_simp
      have fx0 : w1.frozen? ⟨w.heap.size, 0, none⟩ = false := by rw [hf1 _ _ (by first | omega | (simp; done) | (simp; omega))]; first | assumption | go_simp
      have cx1 : w1.cell? ⟨w.heap.size, 1, none⟩ = some (Value.string ⟨(lo).toArray⟩) := by rw [hc1 _ _ (by first | omega | (simp; done) | (simp; omega))]; first | assumption | go_simp
      have fx1 : w1.frozen? ⟨w.heap.size, 1, none⟩ = false := by rw [hf1 _ _ (by first | omega | (simp; done) | (simp; omega))]; first | assumption | go_simp
      have cx2 : w1.cell? ⟨w.heap.size, 2, none⟩ = some (Value.int .i64 (n)) := by rw [hc1 _ _ (by first | omega | (simp; done) | (simp; omega))]; first | assumption | go_simp
      have fx2 : w1.frozen? ⟨w.heap.size, 2, none⟩ = false := by rw [hf1 _ _ (by first | omega | (simp; done) | (simp; omega))]; first | assumption | go_simp
      have cx3 : w1.cell? ⟨w.heap.size, 3, none⟩ = some (Value.bool ar) := by rw [hc1 _ _ (by first | omega | (simp; done) | (simp; omega))]; first | assumption | go_simp
      have fx3 : w1.frozen? ⟨w.heap.size, 3, none⟩ = false := by rw [hf1 _ _ (by first | omega | (simp; done) | (simp; omega))]; first | assumption | go_simp
      have cx4 : w1.cell? ⟨w.heap.size, 4, none⟩ = some (Value.bool true) := by rw [hc1 _ _ (by first | omega | (simp; done) | (simp; omega))]; first | assumption | go_simp
      have fx4 : w1.frozen? ⟨w.heap.size, 4, none⟩ = false := by rw [hf1 _ _ (by first | omega | (simp; done) | (simp; omega))]; first | assumption | go_simp
      clear hc1 hf1
      go_wp2
      go_ret
      exact ⟨by rw [HV.out]; rfl, hB1⟩
set_option maxHeartbeats 800000 in
set_option maxRecDepth 100000 in
theorem spend_any (f lo : List UInt8) (n : Int) (ar dn : Bool) (_hf : f.length ≤ 140737488351232) (_hl : lo.length ≤ 140737488351232) (hn : 0 ≤ n ∧ n ≤ 1099511627776) (w : World) : Calls Try.prog 37 #[tapeV ⟨f, lo, n, ar, dn⟩] w fun e w' => e = .returned (.tuple #[tapeV (spendT ⟨f, lo, n, ar, dn⟩).1, .bool (spendT ⟨f, lo, n, ar, dn⟩).2]) ∧ Below w.heap.size w w' := by
  obtain ⟨hn1, hn2⟩ := hn
  cases ar
  · have hv : spendT ⟨f, lo, n, false, dn⟩ = (⟨f, lo, n, false, dn⟩, true) := by simp [spendT, *]
    have HV := Lib.hid hv
    clear hv
    go_enter Try.func37, Try.ntmps37
    go_wp2
    refine bodyPost_ret (v := .tuple #[tapeV ⟨f, lo, n, false, dn⟩, .bool true]) (by simp [results, Try.results37, go_sem]) rfl ⟨by rw [HV.out], ?_⟩
    repeat (first | (with_reducible refine Below.drew ?_) | (with_reducible refine bal ?_ _) | ((with_reducible refine bst ?_ ?_ _); rotate_left; focus (first | (simp; done) | (simp; omega))))
    exact b0 w
  · by_cases h : n = 0
    · have hv : spendT ⟨f, lo, n, true, dn⟩ = (⟨f, lo, n, true, true⟩, false) := by simp [spendT, *]
      have HV := Lib.hid hv
      clear hv
      have hq : (n == 0) = true := by simp [h]
      clear h
      go_enter Try.func37, Try.ntmps37
      go_wp2
      refine bodyPost_ret (v := .tuple #[tapeV ⟨f, lo, n, true, true⟩, .bool false]) (by simp [results, Try.results37, go_sem]) rfl ⟨by rw [HV.out], ?_⟩
      repeat (first | (with_reducible refine Below.drew ?_) | (with_reducible refine bal ?_ _) | ((with_reducible refine bst ?_ ?_ _); rotate_left; focus (first | (simp; done) | (simp; omega))))
      exact b0 w
    · have hv : spendT ⟨f, lo, n, true, dn⟩ = (⟨f, lo, n - 1, true, dn⟩, true) := by simp [spendT, *]
      have HV := Lib.hid hv
      clear hv
      have hq : (n == 0) = false := by simp [h]
      clear h
      go_enter Try.func37, Try.ntmps37
      go_wp2
      refine bodyPost_ret (v := .tuple #[tapeV ⟨f, lo, n - 1, true, dn⟩, .bool true]) (by simp [results, Try.results37, go_sem]) rfl ⟨by rw [HV.out], ?_⟩
      repeat (first | (with_reducible refine Below.drew ?_) | (with_reducible refine bal ?_ _) | ((with_reducible refine bst ?_ ?_ _); rotate_left; focus (first | (simp; done) | (simp; omega))))
      exact b0 w
end Go.Proofs.Ythjoamldmcnodaa
