/- The document's cursor: a number, a text, a flag, a stamp off the beginning. -/
import Derived.Test.YtkoligiilieboaaGreatDoorBkG
import Derived.Test.YtkoligiilieboaaGreatDoorMgC
set_option linter.unusedSimpArgs false
set_option linter.unusedVariables false
namespace Go.Proofs.YtkoligiilieboaaGreatDoor
open Go.RowKit
attribute [local go_sem] ByteArray.mk_append_mk ByteArray.extract_mk
attribute [local go_sem ↓] Go.wp_at_zero Go.wp_at_succ
theorem reftaken_any (s : List UInt8) (hl : s.length ≤ 281474976710656) (w : World) : Calls Tryz.prog 73 #[.string ⟨s.toArray⟩] w fun e w' => e = .returned (.tuple #[.int .i64 (takeN s).1, .string ⟨(takeN s).2.1.toArray⟩, .int .i64 (takeN s).2.2]) ∧ Below w.heap.size w w' := reftake_any s hl w
theorem cd_bad {α : Type} (tk : List UInt8 → α × List UInt8 × Nat) (s : List UInt8) {v : α} {r : List UInt8} {e : Nat} (h : tk s = (v, r, e)) : cdOne tk ⟨true, s⟩ = (v, ⟨true, r⟩) := by simp [cdOne, h]
theorem cd_err {α : Type} (tk : List UInt8 → α × List UInt8 × Nat) (s : List UInt8) {v : α} {r : List UInt8} {e : Nat} (h : tk s = (v, r, e)) (he : e ≠ 0) : cdOne tk ⟨false, s⟩ = (v, ⟨true, r⟩) := by simp [cdOne, h, he]
theorem cd_ok {α : Type} (tk : List UInt8 → α × List UInt8 × Nat) (s : List UInt8) {v : α} {r : List UInt8} (h : tk s = (v, r, 0)) : cdOne tk ⟨false, s⟩ = (v, ⟨false, r⟩) := by simp [cdOne, h]
set_option maxHeartbeats 1600000 in
set_option maxRecDepth 100000 in
theorem cnum_any (g : Nat) (r : RS) (w : World) (hB : Blk w g 74 (rsA r)) (hl : r.s.length ≤ 281474976710656) :
  Calls Tryz.prog 31 #[.pointer (some ⟨g, 0, none⟩)] w fun e w' => e = .returned (.int .i64 (cNum.rd r).1) ∧ Blk w' g 74 (rsA (cNum.rd r).2) ∧ Kr g w w' := by
 obtain ⟨bad, s⟩ := r
 simp only at hl
 have hgl := hB.lt
 obtain ⟨gl, s0, s1, f0, f1⟩ := hB.c2
 obtain ⟨⟨v, rest, en⟩, htk⟩ : ∃ x, takeN s = x := ⟨_, rfl⟩
 have HT := Lib.hid htk
 cases bad
 case true =>
  have HV := Lib.hid (show cNum.rd _ = _ from cd_bad _ _ htk)
  clear htk
  go_enter Tryz.func31, Tryz.ntmps31
  go_wp2_with fail
  refine (reftaken_any s hl _).mono ?_
  rintro e w1 ⟨rfl, d1⟩
  rw [HT.out]
  have hB1 := hB.keep d1
  have hk1 := (Kr.refl (g := g) (w := w)).call hgl d1
  clear gl s0 s1 f0 f1
  obtain ⟨gl, s0, s1, f0, f1⟩ := hB1.c2
  go_wp2
  go_ret
  exact ⟨by rw [HV.out] <;> rfl, by rw [HV.out]; exact (hB1.set 1 _).set 0 _, (hk1.set 1 _).set 0 _⟩
 case false =>
 by_cases he : en = 0
 case neg =>
  have b1 : ((en : Int) != 0) = true := by simp; omega
  have HV := Lib.hid (show cNum.rd _ = _ from cd_err _ _ htk he)
  clear htk
  go_enter Tryz.func31, Tryz.ntmps31
  go_wp2_with fail
  refine (reftaken_any s hl _).mono ?_
  rintro e w1 ⟨rfl, d1⟩
  rw [HT.out]
  have hB1 := hB.keep d1
  have hk1 := (Kr.refl (g := g) (w := w)).call hgl d1
  clear gl s0 s1 f0 f1
  obtain ⟨gl, s0, s1, f0, f1⟩ := hB1.c2
  go_wp2
  go_ret
  exact ⟨by rw [HV.out] <;> rfl, by rw [HV.out]; exact (hB1.set 1 _).set 0 _, (hk1.set 1 _).set 0 _⟩
 case pos =>
  subst he
  have HV := Lib.hid (show cNum.rd _ = _ from cd_ok _ _ htk)
  clear htk
  go_enter Tryz.func31, Tryz.ntmps31
  go_wp2_with fail
  refine (reftaken_any s hl _).mono ?_
  rintro e w1 ⟨rfl, d1⟩
  rw [HT.out]
  have hB1 := hB.keep d1
  have hk1 := (Kr.refl (g := g) (w := w)).call hgl d1
  clear gl s0 s1 f0 f1
  obtain ⟨gl, s0, s1, f0, f1⟩ := hB1.c2
  go_wp2
  go_ret
  exact ⟨by rw [HV.out] <;> rfl, by rw [HV.out]; exact (hB1.set 1 _).set 0 _, (hk1.set 1 _).set 0 _⟩
set_option maxHeartbeats 1600000 in
set_option maxRecDepth 100000 in
theorem ctext_any (g : Nat) (r : RS) (w : World) (hB : Blk w g 74 (rsA r)) (hl : r.s.length ≤ 281474976710656) :
  Calls Tryz.prog 35 #[.pointer (some ⟨g, 0, none⟩)] w fun e w' => e = .returned (.string ⟨(cText.rd r).1.toArray⟩) ∧ Blk w' g 74 (rsA (cText.rd r).2) ∧ Kr g w w' := by
 obtain ⟨bad, s⟩ := r
 simp only at hl
 have hgl := hB.lt
 obtain ⟨gl, s0, s1, f0, f1⟩ := hB.c2
 obtain ⟨⟨v, rest, en⟩, htk⟩ : ∃ x, takeTextL s = x := ⟨_, rfl⟩
 have HT := Lib.hid htk
 cases bad
 case true =>
  have HV := Lib.hid (show cText.rd _ = _ from cd_bad _ _ htk)
  clear htk
  go_enter Tryz.func35, Tryz.ntmps35
  go_wp2_with fail
  refine (reftaketext_any s hl _).mono ?_
  rintro e w1 ⟨rfl, d1⟩
  rw [HT.out]
  have hB1 := hB.keep d1
  have hk1 := (Kr.refl (g := g) (w := w)).call hgl d1
  clear gl s0 s1 f0 f1
  obtain ⟨gl, s0, s1, f0, f1⟩ := hB1.c2
  go_wp2
  go_ret
  exact ⟨by rw [HV.out] <;> rfl, by rw [HV.out]; exact (hB1.set 1 _).set 0 _, (hk1.set 1 _).set 0 _⟩
 case false =>
 by_cases he : en = 0
 case neg =>
  have b1 : ((en : Int) != 0) = true := by simp; omega
  have HV := Lib.hid (show cText.rd _ = _ from cd_err _ _ htk he)
  clear htk
  go_enter Tryz.func35, Tryz.ntmps35
  go_wp2_with fail
  refine (reftaketext_any s hl _).mono ?_
  rintro e w1 ⟨rfl, d1⟩
  rw [HT.out]
  have hB1 := hB.keep d1
  have hk1 := (Kr.refl (g := g) (w := w)).call hgl d1
  clear gl s0 s1 f0 f1
  obtain ⟨gl, s0, s1, f0, f1⟩ := hB1.c2
  go_wp2
  go_ret
  exact ⟨by rw [HV.out] <;> rfl, by rw [HV.out]; exact (hB1.set 1 _).set 0 _, (hk1.set 1 _).set 0 _⟩
 case pos =>
  subst he
  have HV := Lib.hid (show cText.rd _ = _ from cd_ok _ _ htk)
  clear htk
  go_enter Tryz.func35, Tryz.ntmps35
  go_wp2_with fail
  refine (reftaketext_any s hl _).mono ?_
  rintro e w1 ⟨rfl, d1⟩
  rw [HT.out]
  have hB1 := hB.keep d1
  have hk1 := (Kr.refl (g := g) (w := w)).call hgl d1
  clear gl s0 s1 f0 f1
  obtain ⟨gl, s0, s1, f0, f1⟩ := hB1.c2
  go_wp2
  go_ret
  exact ⟨by rw [HV.out] <;> rfl, by rw [HV.out]; exact (hB1.set 1 _).set 0 _, (hk1.set 1 _).set 0 _⟩
set_option maxHeartbeats 1600000 in
set_option maxRecDepth 100000 in
theorem cflag_any (g : Nat) (r : RS) (w : World) (hB : Blk w g 74 (rsA r)) (hl : r.s.length ≤ 281474976710656) :
  Calls Tryz.prog 36 #[.pointer (some ⟨g, 0, none⟩)] w fun e w' => e = .returned (.bool (cFlag.rd r).1) ∧ Blk w' g 74 (rsA (cFlag.rd r).2) ∧ Kr g w w' := by
 obtain ⟨bad, s⟩ := r
 simp only at hl
 have hgl := hB.lt
 obtain ⟨gl, s0, s1, f0, f1⟩ := hB.c2
 obtain ⟨⟨v, rest, en⟩, htk⟩ : ∃ x, takeFlagL s = x := ⟨_, rfl⟩
 have HT := Lib.hid htk
 cases bad
 case true =>
  have HV := Lib.hid (show cFlag.rd _ = _ from cd_bad _ _ htk)
  clear htk
  go_enter Tryz.func36, Tryz.ntmps36
  go_wp2_with fail
  refine (reftakeflag_any s hl _).mono ?_
  rintro e w1 ⟨rfl, d1⟩
  rw [HT.out]
  have hB1 := hB.keep d1
  have hk1 := (Kr.refl (g := g) (w := w)).call hgl d1
  clear gl s0 s1 f0 f1
  obtain ⟨gl, s0, s1, f0, f1⟩ := hB1.c2
  go_wp2
  go_ret
  exact ⟨by rw [HV.out] <;> rfl, by rw [HV.out]; exact (hB1.set 1 _).set 0 _, (hk1.set 1 _).set 0 _⟩
 case false =>
 by_cases he : en = 0
 case neg =>
  have b1 : ((en : Int) != 0) = true := by simp; omega
  have HV := Lib.hid (show cFlag.rd _ = _ from cd_err _ _ htk he)
  clear htk
  go_enter Tryz.func36, Tryz.ntmps36
  go_wp2_with fail
  refine (reftakeflag_any s hl _).mono ?_
  rintro e w1 ⟨rfl, d1⟩
  rw [HT.out]
  have hB1 := hB.keep d1
  have hk1 := (Kr.refl (g := g) (w := w)).call hgl d1
  clear gl s0 s1 f0 f1
  obtain ⟨gl, s0, s1, f0, f1⟩ := hB1.c2
  go_wp2
  go_ret
  exact ⟨by rw [HV.out] <;> rfl, by rw [HV.out]; exact (hB1.set 1 _).set 0 _, (hk1.set 1 _).set 0 _⟩
 case pos =>
  subst he
  have HV := Lib.hid (show cFlag.rd _ = _ from cd_ok _ _ htk)
  clear htk
  go_enter Tryz.func36, Tryz.ntmps36
  go_wp2_with fail
  refine (reftakeflag_any s hl _).mono ?_
  rintro e w1 ⟨rfl, d1⟩
  rw [HT.out]
  have hB1 := hB.keep d1
  have hk1 := (Kr.refl (g := g) (w := w)).call hgl d1
  clear gl s0 s1 f0 f1
  obtain ⟨gl, s0, s1, f0, f1⟩ := hB1.c2
  go_wp2
  go_ret
  exact ⟨by rw [HV.out] <;> rfl, by rw [HV.out]; exact (hB1.set 1 _).set 0 _, (hk1.set 1 _).set 0 _⟩
set_option maxHeartbeats 1600000 in
set_option maxRecDepth 100000 in
theorem cstamp_any (g : Nat) (r : RS) (w : World) (hB : Blk w g 74 (rsA r)) (hl : r.s.length ≤ 281474976710656) :
  Calls Tryz.prog 30 #[.pointer (some ⟨g, 0, none⟩)] w fun e w' => e = .returned (stampT (cStamp.rd r).1) ∧ Blk w' g 74 (rsA (cStamp.rd r).2) ∧ Kr g w w' := by
 obtain ⟨bad, s⟩ := r
 simp only at hl
 have hgl := hB.lt
 obtain ⟨gl, s0, s1, f0, f1⟩ := hB.c2
 obtain ⟨⟨⟨va, vt, vn⟩, rest, en⟩, htk⟩ : ∃ x, takeStampL s = x := ⟨_, rfl⟩
 have HT := Lib.hid htk
 have hB0 := hB.alloc (.cells #[.int .i64 0, .int .i64 0, .int .i64 0] 27)
 have hk0 := (Kr.refl (g := g) (w := w)).alloc hgl (.cells #[.int .i64 0, .int .i64 0, .int .i64 0] 27)
 have hS0 : Blk (w.alloc (.cells #[.int .i64 0, .int .i64 0, .int .i64 0] 27)) w.heap.size 27 #[.int .i64 0, .int .i64 0, .int .i64 0] := Blk.new w _ _
 cases bad
 case true =>
  have HV := Lib.hid (show cStamp.rd _ = _ from cd_bad _ _ htk)
  clear htk
  go_enter Tryz.func30, Tryz.ntmps30
  go_wp2_with fail
  refine (refsttake_any s hl _).mono ?_
  rintro e w1 ⟨rfl, d1⟩
  rw [HT.out]
  have hB1 := hB0.keep d1
  have hS1 := hS0.keep d1
  have hk1 := hk0.call hgl d1
  have hw1 : w.heap.size < w1.heap.size := hS1.lt
  have hne : g ≠ w.heap.size := by omega
  have hg1 : g < w1.heap.size := hB1.lt
  clear gl s0 s1 f0 f1
  have hB2 := hB1.alloc (.cells #[.int .i64 va, .int .i64 vt, .int .i64 vn] 27)
  have hS2 := hS1.alloc (.cells #[.int .i64 va, .int .i64 vt, .int .i64 vn] 27)
  have hk2 := hk1.alloc hgl (.cells #[.int .i64 va, .int .i64 vt, .int .i64 vn] 27)
  have hN2 : Blk (w1.alloc (.cells #[.int .i64 va, .int .i64 vt, .int .i64 vn] 27)) w1.heap.size 27 #[.int .i64 va, .int .i64 vt, .int .i64 vn] := Blk.new w1 _ _
  go_upto_region 2 with (fail)
  generalize w1.alloc (.cells #[.int .i64 va, .int .i64 vt, .int .i64 vn] 27) = w2 at *
  generalize hgn : w1.heap.size = gn at *
  obtain ⟨gl, s0, s1, f0, f1⟩ := hB2.c2
  obtain ⟨sl, z0, z1, z2, y0, y1, y2⟩ := hS2.c3
  obtain ⟨nl, n0, n1, n2, m0, m1, m2⟩ := hN2.c3
  have hne2 : gn ≠ w.heap.size := by omega
  have hne3 : gn ≠ g := by omega
  go_wp2
  refine bodyPost_ret (v := stampV va vt vn) (by simp [results, Tryz.results30, go_sem, *]) rfl ⟨by rw [HV.out] <;> rfl, by rw [HV.out]; exact ((((hB2.set 1 _).set 0 _).far hne _).far hne _).far hne _, ((((hk2.set 1 _).set 0 _).far hgl (Nat.le_refl _) 0 _).far hgl (Nat.le_refl _) 1 _).far hgl (Nat.le_refl _) 2 _⟩
 case false =>
 by_cases he : en = 0
 case neg =>
  have b1 : ((en : Int) != 0) = true := by simp; omega
  have HV := Lib.hid (show cStamp.rd _ = _ from cd_err _ _ htk he)
  clear htk
  go_enter Tryz.func30, Tryz.ntmps30
  go_wp2_with fail
  refine (refsttake_any s hl _).mono ?_
  rintro e w1 ⟨rfl, d1⟩
  rw [HT.out]
  have hB1 := hB0.keep d1
  have hS1 := hS0.keep d1
  have hk1 := hk0.call hgl d1
  have hw1 : w.heap.size < w1.heap.size := hS1.lt
  have hne : g ≠ w.heap.size := by omega
  have hg1 : g < w1.heap.size := hB1.lt
  clear gl s0 s1 f0 f1
  have hB2 := hB1.alloc (.cells #[.int .i64 va, .int .i64 vt, .int .i64 vn] 27)
  have hS2 := hS1.alloc (.cells #[.int .i64 va, .int .i64 vt, .int .i64 vn] 27)
  have hk2 := hk1.alloc hgl (.cells #[.int .i64 va, .int .i64 vt, .int .i64 vn] 27)
  have hN2 : Blk (w1.alloc (.cells #[.int .i64 va, .int .i64 vt, .int .i64 vn] 27)) w1.heap.size 27 #[.int .i64 va, .int .i64 vt, .int .i64 vn] := Blk.new w1 _ _
  go_upto_region 2 with (fail)
  generalize w1.alloc (.cells #[.int .i64 va, .int .i64 vt, .int .i64 vn] 27) = w2 at *
  generalize hgn : w1.heap.size = gn at *
  obtain ⟨gl, s0, s1, f0, f1⟩ := hB2.c2
  obtain ⟨sl, z0, z1, z2, y0, y1, y2⟩ := hS2.c3
  obtain ⟨nl, n0, n1, n2, m0, m1, m2⟩ := hN2.c3
  have hne2 : gn ≠ w.heap.size := by omega
  have hne3 : gn ≠ g := by omega
  go_wp2
  refine bodyPost_ret (v := stampV va vt vn) (by simp [results, Tryz.results30, go_sem, *]) rfl ⟨by rw [HV.out] <;> rfl, by rw [HV.out]; exact ((((hB2.set 1 _).set 0 _).far hne _).far hne _).far hne _, ((((hk2.set 1 _).set 0 _).far hgl (Nat.le_refl _) 0 _).far hgl (Nat.le_refl _) 1 _).far hgl (Nat.le_refl _) 2 _⟩
 case pos =>
  subst he
  have HV := Lib.hid (show cStamp.rd _ = _ from cd_ok _ _ htk)
  clear htk
  go_enter Tryz.func30, Tryz.ntmps30
  go_wp2_with fail
  refine (refsttake_any s hl _).mono ?_
  rintro e w1 ⟨rfl, d1⟩
  rw [HT.out]
  have hB1 := hB0.keep d1
  have hS1 := hS0.keep d1
  have hk1 := hk0.call hgl d1
  have hw1 : w.heap.size < w1.heap.size := hS1.lt
  have hne : g ≠ w.heap.size := by omega
  have hg1 : g < w1.heap.size := hB1.lt
  clear gl s0 s1 f0 f1
  have hB2 := hB1.alloc (.cells #[.int .i64 va, .int .i64 vt, .int .i64 vn] 27)
  have hS2 := hS1.alloc (.cells #[.int .i64 va, .int .i64 vt, .int .i64 vn] 27)
  have hk2 := hk1.alloc hgl (.cells #[.int .i64 va, .int .i64 vt, .int .i64 vn] 27)
  have hN2 : Blk (w1.alloc (.cells #[.int .i64 va, .int .i64 vt, .int .i64 vn] 27)) w1.heap.size 27 #[.int .i64 va, .int .i64 vt, .int .i64 vn] := Blk.new w1 _ _
  go_upto_region 2 with (fail)
  generalize w1.alloc (.cells #[.int .i64 va, .int .i64 vt, .int .i64 vn] 27) = w2 at *
  generalize hgn : w1.heap.size = gn at *
  obtain ⟨gl, s0, s1, f0, f1⟩ := hB2.c2
  obtain ⟨sl, z0, z1, z2, y0, y1, y2⟩ := hS2.c3
  obtain ⟨nl, n0, n1, n2, m0, m1, m2⟩ := hN2.c3
  have hne2 : gn ≠ w.heap.size := by omega
  have hne3 : gn ≠ g := by omega
  go_wp2
  refine bodyPost_ret (v := stampV va vt vn) (by simp [results, Tryz.results30, go_sem, *]) rfl ⟨by rw [HV.out] <;> rfl, by rw [HV.out]; exact ((((hB2.set 1 _).set 0 _).far hne _).far hne _).far hne _, ((((hk2.set 1 _).set 0 _).far hgl (Nat.le_refl _) 0 _).far hgl (Nat.le_refl _) 1 _).far hgl (Nat.le_refl _) 2 _⟩
theorem cnum_c (g : Nat) (r : RS) (v : Int) (r' : RS) (w : World) (h : cNum.rd r = (v, r')) (hB : Blk w g 74 (rsA r)) (hl : r.s.length ≤ 281474976710656) :
  Calls Tryz.prog 31 #[.pointer (some ⟨g, 0, none⟩)] w fun e w' => e = .returned (.int .i64 v) ∧ Blk w' g 74 (rsA r') ∧ Kr g w w' := by
 have := cnum_any g r w hB hl
 rw [h] at this
 exact this
theorem cnum_sl {r r' : RS} {v : Int} {N : Nat} (h : cNum.rd r = (v, r')) (hl : r.s.length ≤ N) : r'.s.length ≤ N := by
 have := cNum.len r
 rw [h] at this
 exact Nat.le_trans this hl
theorem ctext_c (g : Nat) (r : RS) (v : List UInt8) (r' : RS) (w : World) (h : cText.rd r = (v, r')) (hB : Blk w g 74 (rsA r)) (hl : r.s.length ≤ 281474976710656) :
  Calls Tryz.prog 35 #[.pointer (some ⟨g, 0, none⟩)] w fun e w' => e = .returned (.string ⟨v.toArray⟩) ∧ Blk w' g 74 (rsA r') ∧ Kr g w w' := by
 have := ctext_any g r w hB hl
 rw [h] at this
 exact this
theorem ctext_sl {r r' : RS} {v : List UInt8} {N : Nat} (h : cText.rd r = (v, r')) (hl : r.s.length ≤ N) : r'.s.length ≤ N := by
 have := cText.len r
 rw [h] at this
 exact Nat.le_trans this hl
theorem cflag_c (g : Nat) (r : RS) (v : Bool) (r' : RS) (w : World) (h : cFlag.rd r = (v, r')) (hB : Blk w g 74 (rsA r)) (hl : r.s.length ≤ 281474976710656) :
  Calls Tryz.prog 36 #[.pointer (some ⟨g, 0, none⟩)] w fun e w' => e = .returned (.bool v) ∧ Blk w' g 74 (rsA r') ∧ Kr g w w' := by
 have := cflag_any g r w hB hl
 rw [h] at this
 exact this
theorem cflag_sl {r r' : RS} {v : Bool} {N : Nat} (h : cFlag.rd r = (v, r')) (hl : r.s.length ≤ N) : r'.s.length ≤ N := by
 have := cFlag.len r
 rw [h] at this
 exact Nat.le_trans this hl
theorem cstamp_c (g : Nat) (r : RS) (a t n : Int) (r' : RS) (w : World) (h : cStamp.rd r = ((a, t, n), r')) (hB : Blk w g 74 (rsA r)) (hl : r.s.length ≤ 281474976710656) :
  Calls Tryz.prog 30 #[.pointer (some ⟨g, 0, none⟩)] w fun e w' => e = .returned (stampV a t n) ∧ Blk w' g 74 (rsA r') ∧ Kr g w w' := by
 have := cstamp_any g r w hB hl
 rw [h] at this
 exact this
theorem cstamp_sl {r r' : RS} {v : Stm} {N : Nat} (h : cStamp.rd r = (v, r')) (hl : r.s.length ≤ N) : r'.s.length ≤ N := by
 have := cStamp.len r
 rw [h] at this
 exact Nat.le_trans this hl
end Go.Proofs.YtkoligiilieboaaGreatDoor
