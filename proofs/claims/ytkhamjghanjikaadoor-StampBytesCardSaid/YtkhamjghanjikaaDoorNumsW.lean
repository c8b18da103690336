/- The walk through pack.Numbers: several numbers, one behind the other. -/
import Derived.Test.YtkhamjghanjikaaDoorPutW
import Derived.Test.YtkhamjghanjikaaDoorSl
namespace Go.Proofs.YtkhamjghanjikaaDoor
open Go.RowKit
def badL (zs : List Int) : Bool := zs.any fun z => decide (z < 0)
def numsB (zs : List Int) : List UInt8 := zs.flatMap fun z => (putI z).1
theorem putI_len (z : Int) : (putI z).1.length ≤ 9 := by
  unfold putI
  split
  · simp
  · exact putL_len _
theorem numsB_len (zs : List Int) : (numsB zs).length ≤ 9 * zs.length := by
  induction zs with
  | nil => simp [numsB]
  | cons z zs ih =>
    have := putI_len z
    unfold numsB at *
    simp only [List.flatMap_cons, List.length_append, List.length_cons]
    omega
theorem numsB_snoc (zs : List Int) (k : Nat) (h : k < zs.length) : numsB (zs.take (k + 1)) = numsB (zs.take k) ++ (putI zs[k]).1 := by
  unfold numsB
  rw [List.take_succ_eq_append_getElem h, List.flatMap_append]
  simp
theorem badL_snoc (zs : List Int) (k : Nat) (h : k < zs.length) : badL (zs.take (k + 1)) = (badL (zs.take k) || decide (zs[k] < 0)) := by
  unfold badL
  rw [List.take_succ_eq_append_getElem h, List.any_append]
  simp
theorem badL_of (zs : List Int) (k : Nat) (h : k < zs.length) (hz : zs[k] < 0) : badL zs = true := by
  unfold badL
  rw [List.any_eq_true]
  exact ⟨zs[k], List.getElem_mem h, by simpa using hz⟩
/-- the bytes, the error -/
def numsI (zs : List Int) : List UInt8 × Nat := if badL zs = true then ([], 1) else (numsB zs, 0)
theorem numsI_bad (zs : List Int) (h : badL zs = true) : numsI zs = ([], 1) := by unfold numsI; rw [if_pos h]
theorem numsI_ok (zs : List Int) (h : badL zs = false) : numsI zs = (numsB zs, 0) := by unfold numsI; rw [if_neg (by simp [h])]
def NumRel (zs : List Int) (w : World) (v i : Value) (wr : World) : Prop :=
  ∃ k : Nat, i = .int .i64 k ∧ k ≤ zs.length ∧ badL (zs.take k) = false ∧ wr.ownsRow w.heap.size 5 1 v (numsB (zs.take k)).length ((numsB (zs.take k)).map bv) ∧ Below w.heap.size w wr
set_option maxHeartbeats 400000 in
set_option maxRecDepth 100000 in
theorem numbers_any (zs : List Int) (A : Option Addr) (n cap : Nat) (w : World) (hn : zs.length = n) (hm : n ≤ 1000000) (hz : ∀ z ∈ zs, z ≤ 9223372036854775807) (hR : Rd w w.heap.size 1 A n (zs.map (Value.int .i64))) :
    Calls Tryd.prog 36 #[.slice A n cap] w fun e w' => e = .returned (.tuple #[.string ⟨(numsI zs).1.toArray⟩, .int .i64 (numsI zs).2]) ∧ Below w.heap.size w w' := by
  subst hn
  obtain ⟨i0, hi, hz0, hz1, hz2⟩ := info_parts infoU8
  go_enter Tryd.func36, Tryd.ntmps36
  go_wp2
  go_loopw [4, 11] (fun v i wr => NumRel zs w v i wr) (fun _ i _ => zs.length - (intOf i).toNat)
  case atStart => exact ⟨0, rfl, Nat.zero_le _, rfl, World.ownsRow_nil _ _ _ _, Below.refl _ _⟩
  case round =>
    obtain ⟨k, rfl, hk, hbad, hown, hb⟩ := hrel
    have HB := Lib.hid hbad
    clear hbad
    have hbs := hb.size
    have hnl := numsB_len (zs.take k)
    rw [List.length_take, Nat.min_eq_left hk] at hnl
    by_cases hlt : k < zs.length
    · have hR' := hR.2
      obtain ⟨b, off, rfl, hbB, hc⟩ := hR' (by omega)
      obtain ⟨z, hzk⟩ : ∃ z, zs[k] = z := ⟨_, rfl⟩
      have hc1 := hb.cell (p := ⟨b, off + k, none⟩) hbB
      rw [hc k (.int .i64 z) (by simp [hlt, hzk])] at hc1
      have hz63 := hz zs[k] (List.getElem_mem hlt)
      rw [hzk] at hz63
      have hsn := numsB_snoc zs k hlt
      have hbn := badL_snoc zs k hlt
      have hbo := badL_of zs k hlt
      rw [hzk] at hsn hbn hbo
      have HSN := Lib.hid hsn
      have HBN := Lib.hid hbn
      have HBO := Lib.hid hbo
      clear hsn hbn hbo hzk hc hR'
      generalize numsB (zs.take k) = bs at *
      have hpl := putI_len z
      by_cases hneg : z < 0
      · have hp := putI_neg z hneg
        go_wp2_with fail
        refine (put_int z (by omega) wr).mono ?_
        rintro e w1 ⟨rfl, hb1⟩
        rw [hp]
        go_wp2
        go_ret2
        exact ⟨by rw [numsI_bad zs (HBO.out hneg)]; rfl, hb.trans (hb1.mono hbs)⟩
      · go_wp2_with fail
        refine (put_int z (by omega) wr).mono ?_
        rintro e w1 ⟨rfl, hb1⟩
        have hp2 : (putI z).2 = 0 := by unfold putI; rw [if_neg (by omega)]
        rw [hp2]
        generalize (putI z).1 = ps at *
        have hown1 := own_below hown hb1 (Nat.le_refl _)
        have hb1s := hb1.size
        go_wp2_with (at_builtin; refine wpList_apstr (by rfl) _ _ _ _ (by rfl) w.heap.size 5 i0 Tryd.underlying66 Tryd.underlying9 hi hz0 hz1 hz2 w1 _ bs (by rfl) hown1 ps (by rfl) (by omega) (by omega) ?_; intro v2 w2 hown2 hb2)
        go_roundw
        case rel => exact ⟨k + 1, by go_num, by omega, by rw [HBN.out, HB.out]; simp; omega, by rw [HSN.out]; exact hown2, (hb.trans (hb1.mono hbs)).trans hb2⟩
        case measure => simp [intOf]; omega
    · have hkl : k = zs.length := by omega
      have htk : zs.take k = zs := List.take_of_length_le (by omega)
      have hb' := HB.out
      rw [htk] at hown hb'
      have HN := Lib.hid (numsI_ok zs hb')
      have kc := run_conv_any (P := Tryd.prog) wr Tryd.underlying66 Tryd.underlying5 Tryd.underlying9 hown
      clear htk hb' hkl hown
      go_wp2
      go_ret2
      exact ⟨by rw [HN.out]; rfl, hb⟩
end Go.Proofs.YtkhamjghanjikaaDoor
