/- The walks through stamp.Bytes and the document's: a stamp as bytes. -/
import Derived.Test.YtkhamjghanjikaaDoorNumsW
import Derived.Test.YtkhamjghanjikaaDoorRef1W
import Derived.Test.YtkhamjghanjikaaDoorRef5W
import Derived.Test.YtkhamjghanjikaaDoorBlk
namespace Go.Proofs.YtkhamjghanjikaaDoor
open Go.RowKit
attribute [local go_sem] ByteArray.extract_mk ByteArray.mk_append_mk
/-- the bytes, the error -/
def bytesS (a t n : Int) : List UInt8 × Nat := if rightB a t n = true then (numsB [a, t, n], 0) else ([], 1)
theorem right_pos (a t n : Int) (h : rightB a t n = true) : (0 ≤ a ∧ a ≤ 1099511627776) ∧ (0 ≤ t ∧ t ≤ 1048576) ∧ (0 ≤ n ∧ n ≤ 255) := by
  unfold rightB withinB at h
  simpa [and_assoc] using h
theorem nums3_ok (a t n : Int) (h : rightB a t n = true) : numsI [a, t, n] = (numsB [a, t, n], 0) := by
  have := right_pos a t n h
  apply numsI_ok
  unfold badL
  simp
  omega
theorem rd_blk3 {w : World} {g B : Nat} {t : TypeId} {c0 c1 c2 : Value} (h : Blk w g t #[c0, c1, c2]) (hg : g < B) : Rd w B 1 (some ⟨g, 0, none⟩) 3 [c0, c1, c2] := by
  refine ⟨rfl, fun _ => ⟨g, 0, rfl, hg, fun j u hu => ?_⟩⟩
  rw [Nat.zero_add, h.cell j]
  simpa using hu
theorem refput_int (n : Int) (h : n ≤ 9223372036854775807) (w : World) :
    Calls Tryd.prog 37 #[.int .i64 n] w fun e w' => e = .returned (.tuple #[.string ⟨(putI n).1.toArray⟩, .int .i64 (putI n).2]) ∧ Below w.heap.size w w' := by
  by_cases h0 : n < 0
  · rw [putI_neg n h0]
    exact (refput_neg n h0 w).mono fun _ _ ⟨he, hw⟩ => ⟨he, hw ▸ Below.refl _ _⟩
  · obtain ⟨m, rfl⟩ := Int.eq_ofNat_of_zero_le (show 0 ≤ n by omega)
    rw [putI_nat]
    exact refput_any m (by omega) w
set_option maxHeartbeats 800000 in
set_option maxRecDepth 100000 in
theorem stbytes_any (a t n : Int) (w : World) :
    Calls Tryd.prog 24 #[stampV a t n] w fun e w' => e = .returned (.tuple #[.string ⟨(bytesS a t n).1.toArray⟩, .int .i64 (bytesS a t n).2]) ∧ Below w.heap.size w w' := by
  obtain ⟨q, hq⟩ : ∃ q, rightB a t n = q := ⟨_, rfl⟩
  cases q
  · have hv : bytesS a t n = ([], 1) := by unfold bytesS; rw [hq]; rfl
    have HV := Lib.hid hv
    have HQ := Lib.hid hq
    clear hv hq
    go_enter Tryd.func24, Tryd.ntmps24
    go_wp2_with fail
    refine (right_any a t n _).mono ?_
    rintro e w1 ⟨rfl, hb1⟩
    rw [HQ.out]
    go_wp2
    go_ret2
    exact ⟨by rw [HV.out]; rfl, bt (bal (b0 w) _) hb1⟩
  · have hv : bytesS a t n = (numsB [a, t, n], 0) := by unfold bytesS; rw [hq]; rfl
    have hn := nums3_ok a t n hq
    obtain ⟨⟨p1, p2⟩, ⟨p3, p4⟩, ⟨p5, p6⟩⟩ := right_pos a t n hq
    have HV := Lib.hid hv
    have HQ := Lib.hid hq
    have HN := Lib.hid hn
    clear hv hq hn
    go_enter Tryd.func24, Tryd.ntmps24
    go_wp2_with fail
    refine (right_any a t n _).mono ?_
    rintro e w1 ⟨rfl, hb1⟩
    rw [HQ.out]
    have hA : Blk w1 w.heap.size 23 #[.int .i64 a, .int .i64 t, .int .i64 n] := Blk.keep (Blk.new w _ _) hb1
    have hB1 : Below w.heap.size w w1 := bt (bal (b0 w) _) hb1
    obtain ⟨lA, x0, x1, x2, _, _, _⟩ := hA.c3
    have hz : ∀ z ∈ [a, t, n], z ≤ 9223372036854775807 := by
      intro z hz
      simp at hz
      omega
    have hr3 := rd_blk3 (B := w1.heap.size + 1) (Blk.new w1 3 #[.int .i64 a, .int .i64 t, .int .i64 n]) (by omega)
    have HZ := Lib.hid hz
    have HR3 := Lib.hid hr3
    clear hz hr3
    go_wp2_with fail
    refine (numbers_any [a, t, n] (some ⟨w1.heap.size, 0, none⟩) 3 3 _ rfl (by omega) HZ.out (by have h := HR3.out; simpa using h)).mono ?_
    rintro e w2 ⟨rfl, hb2⟩
    rw [HN.out]
    go_wp2
    go_ret2
    exact ⟨by rw [HV.out]; rfl, bt (bal hB1 _) hb2⟩
set_option maxHeartbeats 800000 in
set_option maxRecDepth 100000 in
theorem refstbytes_any (a t n : Int) (hq : rightB a t n = true) (w : World) :
    Calls Tryd.prog 25 #[stampV a t n] w fun e w' => e = .returned (.string ⟨(numsB [a, t, n]).toArray⟩) ∧ Below w.heap.size w w' := by
  obtain ⟨⟨p1, p2⟩, ⟨p3, p4⟩, ⟨p5, p6⟩⟩ := right_pos a t n hq
  clear hq
  have hn : numsB [a, t, n] = (putI a).1 ++ ((putI t).1 ++ (putI n).1) := by simp [numsB]
  have la := putI_len a
  have lt := putI_len t
  have ln := putI_len n
  obtain ⟨⟨sa, ea⟩, hsa⟩ : ∃ x, putI a = x := ⟨_, rfl⟩
  obtain ⟨⟨st, et⟩, hst⟩ : ∃ x, putI t = x := ⟨_, rfl⟩
  obtain ⟨⟨sn, en⟩, hsn⟩ : ∃ x, putI n = x := ⟨_, rfl⟩
  rw [hsa] at la hn
  rw [hst] at lt hn
  rw [hsn] at ln hn
  simp only at la lt ln hn
  have HA := Lib.hid hsa
  have HT := Lib.hid hst
  have HS := Lib.hid hsn
  have HN := Lib.hid hn
  clear hsa hst hsn hn
  go_enter Tryd.func25, Tryd.ntmps25
  go_wp2_with fail
  refine (refput_int a (by omega) _).mono ?_
  rintro e w1 ⟨rfl, hb1⟩
  rw [HA.out]
  have hA : Blk w1 w.heap.size 23 #[.int .i64 a, .int .i64 t, .int .i64 n] := Blk.keep (Blk.new w _ _) hb1
  have hB1 : Below w.heap.size w w1 := bt (bal (b0 w) _) hb1
  obtain ⟨lA, x0, x1, x2, _, _, _⟩ := hA.c3
  go_wp2_with fail
  refine (refput_int t (by omega) _).mono ?_
  rintro e w2 ⟨rfl, hb2⟩
  rw [HT.out]
  have hA2 := hA.keep hb2
  clear lA x0 x1 x2 hA
  obtain ⟨lA, x0, x1, x2, _, _, _⟩ := hA2.c3
  go_wp2_with fail
  refine (refput_int n (by omega) _).mono ?_
  rintro e w3 ⟨rfl, hb3⟩
  rw [HS.out]
  go_wp2
  go_ret
  exact ⟨by rw [HN.out]; simp, bt (bt hB1 hb2) hb3⟩
end Go.Proofs.YtkhamjghanjikaaDoor
