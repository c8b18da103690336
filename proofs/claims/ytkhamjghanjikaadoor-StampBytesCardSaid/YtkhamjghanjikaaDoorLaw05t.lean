/- The walks of the laws StampTakes and StampBytes. -/
import Derived.Test.YtkhamjghanjikaaDoorStTakeW
import Derived.Test.YtkhamjghanjikaaDoorStBytesW
import Derived.Test.YtkhamjghanjikaaDoorShow5W
namespace Go.Proofs.YtkhamjghanjikaaDoor
open Go.RowKit
attribute [local go_sem] ByteArray.extract_mk ByteArray.mk_append_mk
theorem take_nums3 (a t n : Int) (more : List UInt8) (h : rightB a t n = true) : takeStampL (numsB [a, t, n] ++ more) = ((a, t, n), more, 0) := by
  obtain ⟨⟨p1, p2⟩, ⟨p3, p4⟩, ⟨p5, p6⟩⟩ := right_pos a t n h
  obtain ⟨a, rfl⟩ := Int.eq_ofNat_of_zero_le p1
  obtain ⟨t, rfl⟩ := Int.eq_ofNat_of_zero_le p3
  obtain ⟨n, rfl⟩ := Int.eq_ofNat_of_zero_le p5
  have e : numsB [(a : Int), (t : Int), (n : Int)] ++ more = putL a ++ (putL t ++ (putL n ++ more)) := by simp [numsB, putI_nat]
  have h1 := take_put a (putL t ++ (putL n ++ more)) (by omega)
  have h2 := take_put t (putL n ++ more) (by omega)
  have h3 := take_put n more (by omega)
  rw [e]
  simp [takeStampL, h1, h2, h3, h]
set_option maxHeartbeats 800000 in
set_option maxRecDepth 100000 in
theorem stampTakes_walk (l : List UInt8) (hl : l.length ≤ 140737488351232) (w : World) :
    Calls Tryd.prog 7 #[.string ⟨l.toArray⟩] w fun e w' => e = .returned (.bool true) ∧ Below w.heap.size w w' := by
  obtain ⟨⟨⟨a, t, n⟩, r, e0⟩, hT⟩ : ∃ x, takeStampL l = x := ⟨_, rfl⟩
  have HT := Lib.hid hT
  clear hT
  go_enter Tryd.func7, Tryd.ntmps7
  go_wp2_with fail
  refine (sttake_any l (by omega) _).mono ?_
  rintro e w1 ⟨rfl, hb1⟩
  rw [HT.out]
  simp only [stampT]
  go_wp2_with fail
  refine (refsttake_any l (by omega) _).mono ?_
  rintro e w2 ⟨rfl, hb2⟩
  rw [HT.out]
  simp only [stampT]
  have hA : Blk w2 w1.heap.size 23 #[.int .i64 a, .int .i64 t, .int .i64 n] := Blk.keep (Blk.new w1 _ _) hb2
  have hB2 : Below w.heap.size w w2 := bt (bal hb1 _) hb2
  obtain ⟨lA, x0, x1, x2, _, _, _⟩ := hA.c3
  go_wp2_with fail
  refine (awake05 _).mono ?_
  rintro e w3 ⟨rfl, hb3⟩
  go_wp2
  go_ret
  exact ⟨rfl, bt (bal hB2 _) hb3⟩
set_option maxHeartbeats 1600000 in
set_option maxRecDepth 100000 in
theorem stampBytes_walk (a t n : Int) (_ha : (Lit.int .i64 a).wf = true) (_hb : (Lit.int .i64 t).wf = true) (_hc : (Lit.int .i64 n).wf = true) (m : List UInt8) (hm : m.length ≤ 140737488351232) (w : World) :
    Calls Tryd.prog 8 #[stampV a t n, .string ⟨m.toArray⟩] w fun e w' => e = .returned (.bool true) ∧ Below w.heap.size w w' := by
  clear _ha _hb _hc
  obtain ⟨q, hq⟩ : ∃ q, rightB a t n = q := ⟨_, rfl⟩
  cases q
  · have hv : bytesS a t n = ([], 1) := by unfold bytesS; rw [hq]; rfl
    have HV := Lib.hid hv
    have HQ := Lib.hid hq
    clear hv hq
    go_enter Tryd.func8, Tryd.ntmps8
    go_wp2_with fail
    refine (stbytes_any a t n _).mono ?_
    rintro e w1 ⟨rfl, hb1⟩
    rw [HV.out]
    have hA : Blk w1 w.heap.size 23 #[.int .i64 a, .int .i64 t, .int .i64 n] := Blk.keep (Blk.new w _ _) hb1
    have hB1 : Below w.heap.size w w1 := bt (bal (b0 w) _) hb1
    obtain ⟨lA, x0, x1, x2, _, _, _⟩ := hA.c3
    go_wp2_with fail
    refine (refright_any a t n _).mono ?_
    rintro e w2 ⟨rfl, hb2⟩
    rw [HQ.out]
    go_wp2_with fail
    refine (awake05 _).mono ?_
    rintro e w3 ⟨rfl, hb3⟩
    go_wp2
    go_ret
    exact ⟨rfl, bt (bt hB1 hb2) hb3⟩
  · have hv : bytesS a t n = (numsB [a, t, n], 0) := by unfold bytesS; rw [hq]; rfl
    have htk := take_nums3 a t n m hq
    have hlb := numsB_len [a, t, n]
    simp only [List.length_cons, List.length_nil] at hlb
    have hqq := hq
    obtain ⟨bs, hbs⟩ : ∃ bs, numsB [a, t, n] = bs := ⟨_, rfl⟩
    rw [hbs] at hv htk hlb
    have HV := Lib.hid hv
    have HQ := Lib.hid hq
    have HK := Lib.hid htk
    have HBS := Lib.hid hbs
    have HQQ := Lib.hid hqq
    clear hv hq htk hbs hqq
    go_enter Tryd.func8, Tryd.ntmps8
    go_wp2_with fail
    refine (stbytes_any a t n _).mono ?_
    rintro e w1 ⟨rfl, hb1⟩
    rw [HV.out]
    have hA : Blk w1 w.heap.size 23 #[.int .i64 a, .int .i64 t, .int .i64 n] := Blk.keep (Blk.new w _ _) hb1
    have hB1 : Below w.heap.size w w1 := bt (bal (b0 w) _) hb1
    obtain ⟨lA, x0, x1, x2, _, _, _⟩ := hA.c3
    go_wp2_with fail
    refine (refright_any a t n _).mono ?_
    rintro e w2 ⟨rfl, hb2⟩
    rw [HQ.out]
    have hA2 := hA.keep hb2
    have hB2 : Below w.heap.size w w2 := bt hB1 hb2
    clear lA x0 x1 x2 hA
    obtain ⟨lA, x0, x1, x2, _, _, _⟩ := hA2.c3
    go_wp2_with fail
    refine (sttake_any (bs ++ m) (by simp; omega) _).mono ?_
    rintro e w3 ⟨rfl, hb3⟩
    rw [HK.out]
    simp only [stampT]
    have hA3 := hA2.keep hb3
    have hB3 : Below w.heap.size w w3 := bt hB2 hb3
    clear lA x0 x1 x2 hA2
    obtain ⟨lA, x0, x1, x2, _, _, _⟩ := hA3.c3
    go_wp2_with fail
    refine (refstbytes_any a t n HQQ.out _).mono ?_
    rintro e w4 ⟨rfl, hb4⟩
    rw [HBS.out]
    have hA4 : Blk w4 w.heap.size 23 #[.int .i64 a, .int .i64 t, .int .i64 n] := (hA3.alloc _).keep hb4
    have hO4 : Blk w4 w3.heap.size 23 #[.int .i64 a, .int .i64 t, .int .i64 n] := (Blk.new w3 _ _).keep hb4
    have hB4 : Below w.heap.size w w4 := bt (bal hB3 _) hb4
    clear lA x0 x1 x2 hA3
    obtain ⟨lA, x0, x1, x2, _, _, _⟩ := hA4.c3
    obtain ⟨lO, y0, y1, y2, _, _, _⟩ := hO4.c3
    go_wp2_with fail
    refine (awake05 _).mono ?_
    rintro e w5 ⟨rfl, hb5⟩
    go_wp2
    go_ret
    exact ⟨rfl, bt hB4 hb5⟩
end Go.Proofs.YtkhamjghanjikaaDoor
