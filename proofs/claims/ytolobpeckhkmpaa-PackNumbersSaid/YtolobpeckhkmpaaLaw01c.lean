/- The walk of the law PackNumbers. -/
import Derived.Test.YtolobpeckhkmpaaNumsW
import Derived.Test.YtolobpeckhkmpaaLaw01
namespace Go.Proofs.Ytolobpeckhkmpaa
open Go.RowKit
attribute [local go_sem] ByteArray.extract_mk ByteArray.mk_append_mk
theorem refput_int (n : Int) (h : n ≤ 9223372036854775807) (w : World) :
    Calls Try.prog 12 #[.int .i64 n] w fun e w' => e = .returned (.tuple #[.string ⟨(putI n).1.toArray⟩, .int .i64 (putI n).2]) ∧ Below w.heap.size w w' := by
  by_cases h0 : n < 0
  · rw [putI_neg n h0]
    exact (refput_neg n h0 w).mono fun _ _ ⟨he, hw⟩ => ⟨he, hw ▸ Below.refl _ _⟩
  · obtain ⟨m, rfl⟩ := Int.eq_ofNat_of_zero_le (show 0 ≤ n by omega)
    rw [putI_nat]
    exact refput_any m (by omega) w
def PNRel (zs : List Int) (w : World) (s b i : Value) (wr : World) : Prop :=
  ∃ k : Nat, i = .int .i64 k ∧ k ≤ zs.length ∧ s = .string ⟨(numsB (zs.take k)).toArray⟩ ∧ b = .bool (badL (zs.take k)) ∧ Below w.heap.size w wr
theorem numsB_add (zs : List Int) (k : Nat) (bs ps : List UInt8) (h : numsB (zs.take (k + 1)) = bs ++ ps) : strL (bs ++ ps) = strL (numsB (zs.take (k + 1))) := by rw [h]
set_option maxHeartbeats 800000 in
set_option maxRecDepth 100000 in
theorem packNumbers_walk (zs : List Int) (A : Option Addr) (n cap : Nat) (hn : zs.length = n) (hmax : n ≤ 9223372036854775807) (hz : ∀ z ∈ zs, (Lit.int .i64 z).wf = true) (w : World) (hR : Rd w w.heap.size 1 A n (zs.map (Value.int .i64))) :
    Calls Try.prog 8 #[.slice A n cap] w fun e w' => e = .returned (.bool true) ∧ Below w.heap.size w w' := by
  subst hn
  by_cases h100 : 100 < zs.length
  · go_enter Try.func8, Try.ntmps8
    go_wp2_with fail
    refine (awake01 w).mono ?_
    rintro e w1 ⟨rfl, hb1⟩
    go_wp2
    go_ret
    exact ⟨rfl, hb1⟩
  · have hz63 : ∀ z ∈ zs, z ≤ 9223372036854775807 := fun z hzm => (bounds_i64 (hz z hzm)).2
    clear hz
    go_enter Try.func8, Try.ntmps8
    go_wp2
    go_loopw [3, 4, 17] (fun s b i wr => PNRel zs w s b i wr) (fun _ _ i _ => zs.length - (intOf i).toNat)
    case atStart => exact ⟨0, rfl, Nat.zero_le _, rfl, rfl, Below.refl _ _⟩
    case round =>
      obtain ⟨k, rfl, hk, rfl, rfl, hb⟩ := hrel
      have hbs := hb.size
      by_cases hlt : k < zs.length
      · have hR' := hR.2
        obtain ⟨b, off, rfl, hbB, hc⟩ := hR' (by omega)
        obtain ⟨z, hzk⟩ : ∃ z, zs[k] = z := ⟨_, rfl⟩
        have hc1 := hb.cell (p := ⟨b, off + k, none⟩) hbB
        rw [hc k (.int .i64 z) (by simp [hlt, hzk])] at hc1
        have hzz := hz63 zs[k] (List.getElem_mem hlt)
        rw [hzk] at hzz
        have hsn := numsB_snoc zs k hlt
        have hbn := badL_snoc zs k hlt
        rw [hzk] at hsn hbn
        have hnl := numsB_len (zs.take k)
        rw [List.length_take, Nat.min_eq_left hk] at hnl
        generalize numsB (zs.take k) = bs at *
        generalize badL (zs.take k) = bk at *
        have HSN := Lib.hid hsn
        have HBN := Lib.hid hbn
        clear hsn hbn hzk hc hR'
        have hpl := putI_len z
        have hp2 : (z < 0 ∧ (putI z).2 = 1) ∨ (0 ≤ z ∧ (putI z).2 = 0) := by unfold putI; split <;> simp <;> omega
        rcases hp2 with ⟨hneg, hp2⟩ | ⟨hneg, hp2⟩
        all_goals
          cases bk
          all_goals
            go_wp2_with fail
            refine (refput_int z (by omega) wr).mono ?_
            rintro e w1 ⟨rfl, hb1⟩
            rw [hp2]
            generalize (putI z).1 = ps at *
            go_wp2
            go_roundw
            case rel => exact ⟨k + 1, by go_num, by omega, by rw [HSN.out], by rw [HBN.out]; first | (simp; done) | (simp; omega), hb.trans (hb1.mono hbs)⟩
            case measure => simp [intOf]; omega
      · have hkl : k = zs.length := by omega
        have htk : zs.take k = zs := List.take_of_length_le (by omega)
        rw [htk]
        clear htk
        subst hkl
        by_cases hbad : badL zs = true
        · have hN := numsI_bad zs hbad
          have HN := Lib.hid hN
          clear hN
          go_wp2_with fail
          refine (numbers_any zs A zs.length cap wr rfl (by omega) hz63 ((hR.below hb (Nat.le_refl _)).more hbs)).mono ?_
          rintro e w1 ⟨rfl, hb1⟩
          rw [HN.out]
          go_wp2_with fail
          refine (awake01 _).mono ?_
          rintro e w2 ⟨rfl, hb2⟩
          go_wp2
          go_ret
          exact ⟨rfl, bt (bt hb hb1) hb2⟩
        · have hbad : badL zs = false := by simpa using hbad
          have hN := numsI_ok zs hbad
          have HN := Lib.hid hN
          clear hN
          go_wp2_with fail
          refine (numbers_any zs A zs.length cap wr rfl (by omega) hz63 ((hR.below hb (Nat.le_refl _)).more hbs)).mono ?_
          rintro e w1 ⟨rfl, hb1⟩
          rw [HN.out]
          go_wp2_with fail
          refine (awake01 _).mono ?_
          rintro e w2 ⟨rfl, hb2⟩
          go_wp2
          go_ret
          exact ⟨rfl, bt (bt hb hb1) hb2⟩
end Go.Proofs.Ytolobpeckhkmpaa
