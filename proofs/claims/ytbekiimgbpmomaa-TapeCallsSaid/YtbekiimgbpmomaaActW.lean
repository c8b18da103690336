/- The walk through the law's act. -/
import Derived.Test.YtbekiimgbpmomaaLaw12
import Derived.Test.YtbekiimgbpmomaaTape4W
import Derived.Test.YtbekiimgbpmomaaTapeP
import Derived.Test.YtbekiimgbpmomaaBlk
import Derived.Test.YtbekiimgbpmomaaActs
namespace Go.Proofs.Ytbekiimgbpmomaa
open Go.RowKit
attribute [local go_sem] ByteArray.mk_append_mk ByteArray.extract_mk
set_option maxHeartbeats 1600000 in
set_option maxRecDepth 100000 in
theorem act_any (f lo : List UInt8) (n : Int) (ar dn : Bool) (hf : f.length ≤ 140737488351232) (hl : lo.length ≤ 140737488351232) (kd k : Int) (s : List UInt8) (m : Nat) (hm : (IntKind.u64.wrap kd).tmod 5 = (m : Int)) (hm5 : m < 5) (hk : -9223372036854775808 ≤ k ∧ k ≤ 9223372036854775807) (hs : s.length ≤ 140737488351232) (w : World) :
    Calls Try.prog 15 #[tapeV ⟨f, lo, n, ar, dn⟩, .agg #[.int .i64 kd, .int .i64 k, .string ⟨s.toArray⟩]] w fun e w' => e = .returned (.tuple #[tapeV (actT ⟨f, lo, n, ar, dn⟩ m k s).1, .int .i64 (actT ⟨f, lo, n, ar, dn⟩ m k s).2]) ∧ Below w.heap.size w w' := by
  obtain ⟨⟨⟨f', lo', n', ar', dn'⟩, e'⟩, hE⟩ : ∃ x : Tp × Nat, actT ⟨f, lo, n, ar, dn⟩ m k s = x := ⟨_, rfl⟩
  rw [hE]
  rcases (show m = 0 ∨ m = 1 ∨ m = 2 ∨ m = 3 ∨ m = 4 by omega) with rfl | rfl | rfl | rfl | rfl
  · have hv : appendT ⟨f, lo, n, ar, dn⟩ s = (⟨f', lo', n', ar', dn'⟩, e') := by rw [← hE]; unfold actT; simp
    have HV := Lib.hid hv
    clear hv hE
    simp at hm
    go_enter Try.func15, Try.ntmps15
    go_wp2_with fail
    refine (append_any f lo n ar dn hf hl s hs _).mono ?_
    rintro e w1 ⟨rfl, hb1⟩
    rw [HV.out]
    simp only [tapeV]
    obtain ⟨hc1, hf1⟩ := bcell hb1
    have hz1 := hb1.size
    try simp at hz1
    go_wp2
    refine bodyPost_ret (v := .tuple #[tapeV ⟨f', lo', n', ar', dn'⟩, .int .i64 e']) (by simp [results, Try.results15, go_sem, *]) rfl ⟨rfl, ?_⟩
    repeat (first | (with_reducible refine Below.drew ?_) | (with_reducible refine bal ?_ _) | ((with_reducible refine bst ?_ ?_ _); rotate_left; focus (first | (simp; done) | (simp; omega))))
    refine bt ?_ hb1
    repeat (first | (with_reducible refine Below.drew ?_) | (with_reducible refine bal ?_ _) | ((with_reducible refine bst ?_ ?_ _); rotate_left; focus (first | (simp; done) | (simp; omega))))
    exact b0 w
  · have hv : appendT ⟨f, lo, n, ar, dn⟩ s = (⟨f', lo', n', ar', dn'⟩, e') := by rw [← hE]; unfold actT; simp
    have HV := Lib.hid hv
    clear hv hE
    simp at hm
    go_enter Try.func15, Try.ntmps15
    go_wp2_with fail
    refine (append_any f lo n ar dn hf hl s hs _).mono ?_
    rintro e w1 ⟨rfl, hb1⟩
    rw [HV.out]
    simp only [tapeV]
    obtain ⟨hc1, hf1⟩ := bcell hb1
    have hz1 := hb1.size
    try simp at hz1
    go_wp2
    refine bodyPost_ret (v := .tuple #[tapeV ⟨f', lo', n', ar', dn'⟩, .int .i64 e']) (by simp [results, Try.results15, go_sem, *]) rfl ⟨rfl, ?_⟩
    repeat (first | (with_reducible refine Below.drew ?_) | (with_reducible refine bal ?_ _) | ((with_reducible refine bst ?_ ?_ _); rotate_left; focus (first | (simp; done) | (simp; omega))))
    refine bt ?_ hb1
    repeat (first | (with_reducible refine Below.drew ?_) | (with_reducible refine bal ?_ _) | ((with_reducible refine bst ?_ ?_ _); rotate_left; focus (first | (simp; done) | (simp; omega))))
    exact b0 w
  · have hv : syncT ⟨f, lo, n, ar, dn⟩ = (⟨f', lo', n', ar', dn'⟩, e') := by rw [← hE]; unfold actT; simp
    have HV := Lib.hid hv
    clear hv hE
    simp at hm
    go_enter Try.func15, Try.ntmps15
    go_wp2_with fail
    refine (sync_any f lo n ar dn hf hl _).mono ?_
    rintro e w1 ⟨rfl, hb1⟩
    rw [HV.out]
    simp only [tapeV]
    obtain ⟨hc1, hf1⟩ := bcell hb1
    have hz1 := hb1.size
    try simp at hz1
    go_wp2
    refine bodyPost_ret (v := .tuple #[tapeV ⟨f', lo', n', ar', dn'⟩, .int .i64 e']) (by simp [results, Try.results15, go_sem, *]) rfl ⟨rfl, ?_⟩
    repeat (first | (with_reducible refine Below.drew ?_) | (with_reducible refine bal ?_ _) | ((with_reducible refine bst ?_ ?_ _); rotate_left; focus (first | (simp; done) | (simp; omega))))
    refine bt ?_ hb1
    repeat (first | (with_reducible refine Below.drew ?_) | (with_reducible refine bal ?_ _) | ((with_reducible refine bst ?_ ?_ _); rotate_left; focus (first | (simp; done) | (simp; omega))))
    exact b0 w
  · have hv : armT ⟨f, lo, n, ar, dn⟩ k = ⟨f', lo', n', ar', dn'⟩ := by have h := congrArg Prod.fst hE; unfold actT at h; simpa using h
    have HV := Lib.hid hv
    have he0 : e' = 0 := by have h := congrArg Prod.snd hE; unfold actT at h; simpa using h.symm
    subst he0
    clear hv hE
    simp at hm
    go_enter Try.func15, Try.ntmps15
    go_wp2_with fail
    refine (arm_any f lo n ar dn hf hl k hk _).mono ?_
    rintro e w1 ⟨rfl, hb1⟩
    rw [HV.out]
    simp only [tapeV]
    obtain ⟨hc1, hf1⟩ := bcell hb1
    have hz1 := hb1.size
    try simp at hz1
    go_wp2
    refine bodyPost_ret (v := .tuple #[tapeV ⟨f', lo', n', ar', dn'⟩, .int .i64 0]) (by simp [results, Try.results15, go_sem, *]) rfl ⟨rfl, ?_⟩
    repeat (first | (with_reducible refine Below.drew ?_) | (with_reducible refine bal ?_ _) | ((with_reducible refine bst ?_ ?_ _); rotate_left; focus (first | (simp; done) | (simp; omega))))
    refine bt ?_ hb1
    repeat (first | (with_reducible refine Below.drew ?_) | (with_reducible refine bal ?_ _) | ((with_reducible refine bst ?_ ?_ _); rotate_left; focus (first | (simp; done) | (simp; omega))))
    exact b0 w
  · have hv : crashT ⟨f, lo, n, ar, dn⟩ k = ⟨f', lo', n', ar', dn'⟩ := by have h := congrArg Prod.fst hE; unfold actT at h; simpa using h
    have HV := Lib.hid hv
    have he0 : e' = 0 := by have h := congrArg Prod.snd hE; unfold actT at h; simpa using h.symm
    subst he0
    clear hv hE
    simp at hm
    go_enter Try.func15, Try.ntmps15
    go_wp2_with fail
    refine (crash_any f lo n ar dn hf hl k hk _).mono ?_
    rintro e w1 ⟨rfl, hb1⟩
    rw [HV.out]
    simp only [tapeV]
    obtain ⟨hc1, hf1⟩ := bcell hb1
    have hz1 := hb1.size
    try simp at hz1
    go_wp2
    refine bodyPost_ret (v := .tuple #[tapeV ⟨f', lo', n', ar', dn'⟩, .int .i64 0]) (by simp [results, Try.results15, go_sem, *]) rfl ⟨rfl, ?_⟩
    repeat (first | (with_reducible refine Below.drew ?_) | (with_reducible refine bal ?_ _) | ((with_reducible refine bst ?_ ?_ _); rotate_left; focus (first | (simp; done) | (simp; omega))))
    refine bt ?_ hb1
    repeat (first | (with_reducible refine Below.drew ?_) | (with_reducible refine bal ?_ _) | ((with_reducible refine bst ?_ ?_ _); rotate_left; focus (first | (simp; done) | (simp; omega))))
    exact b0 w
end Go.Proofs.Ytbekiimgbpmomaa
