/- The walk of FrameTurned. -/
import Derived.Test.YtlghmjcpkpdhfaaTurn
import Derived.Test.YtlghmjcpkpdhfaaFrame3W
import Derived.Laws.IdiomStrings
namespace Go.Proofs.Ytlghmjcpkpdhfaa
open Go.RowKit
attribute [local go_sem] ByteArray.mk_append_mk ByteArray.extract_mk
theorem bytes_cells (w w2 : World) (W : List UInt8) (cap : Nat) (e : TypeId) (h : w.drew.alloc (.cells (bytesRow ⟨W.toArray⟩ cap) e ((bytesRow ⟨W.toArray⟩ cap).size, (bytesRow ⟨W.toArray⟩ cap).size + 1)) = w2) :
    w2.heap.size = w.heap.size + 1 ∧ (∀ k (hk : k < W.length), w2.cell? ⟨w.heap.size, k, none⟩ = some (.int .u8 ((W[k].toNat : Nat) : Int))) ∧
      (∀ k, k < W.length → w2.frozen? ⟨w.heap.size, k, none⟩ = false) ∧ Below w.heap.size w w2 := by
  subst h
  have hh : (w.drew.alloc (.cells (bytesRow ⟨W.toArray⟩ cap) e ((bytesRow ⟨W.toArray⟩ cap).size, (bytesRow ⟨W.toArray⟩ cap).size + 1))).heap[w.heap.size]? = some (.cells (bytesRow ⟨W.toArray⟩ cap) e ((bytesRow ⟨W.toArray⟩ cap).size, (bytesRow ⟨W.toArray⟩ cap).size + 1)) := heap_alloc_new w.drew _
  refine ⟨by simp, fun k hk => ?_, fun k hk => ?_, ?_⟩
  · rw [cell_of_row _ _ _ _ _ _ hh, bytesRow_at _ _ _ (by simpa using hk)]
    simp
  · have hs : k < (bytesRow ⟨W.toArray⟩ cap).size := by unfold bytesRow; simp; omega
    unfold World.frozen?
    simp only [hh]
    simp
    omega
  · exact bal (Below.drew (b0 w)) _
theorem back_cells (w2 : World) (b i cap : Nat) (W : List UInt8) (y : UInt8) (z : Int) (hi : i < W.length) (hz : z = (y.toNat : Int)) (hc : ∀ k (hk : k < W.length), w2.cell? ⟨b, k, none⟩ = some (.int .u8 ((W[k].toNat : Nat) : Int))) :
    (convert 29 9 (.slice (some ⟨b, 0, none⟩) W.length cap)).run Try.prog (w2.setCell ⟨b, i, none⟩ (.int .u8 z)) = .ok (.string ⟨(W.set i y).toArray⟩) (w2.setCell ⟨b, i, none⟩ (.int .u8 z)) := by
  subst hz
  have h := run_convert_bytes_back (P := Try.prog) (w2.setCell ⟨b, i, none⟩ (.int .u8 (y.toNat : Int))) 29 9 5 ⟨b, 0, none⟩ cap (W.set i y) Try.underlying29 Try.underlying5 Try.underlying9 (fun j hj => by
    have hj' : j < W.length := by simpa using hj
    have ha : (⟨b, 0, none⟩ : Addr).add j = ⟨b, j, none⟩ := by unfold Addr.add; split <;> simp_all
    rw [ha, List.getElem_set]
    have h0 := hc j hj'
    by_cases hij : i = j
    · subst hij
      rw [if_pos rfl]
      exact World.cell?_setCell_same _ _ _ h0
    · rw [if_neg hij, ← h0]
      exact World.cell?_setCell_other _ _ _ _ (by intro he; simp at he <;> omega))
  simpa using h
set_option maxHeartbeats 3200000 in
set_option maxRecDepth 100000 in
theorem frameTurned_main (l : List UInt8) (hl : l.length ≤ 100) (i : Nat) (x : Nat) (hx0 : 0 < x) (hx : x < 256) (m : List UInt8) (hm : m.length ≤ 140737488351232) (hi1 : 1 ≤ i) (hi2 : i < (wrapL l).length) (w : World) :
    Calls Try.prog 6 #[.string ⟨l.toArray⟩, .int .i64 (i : Int), .int .u8 (x : Int), .string ⟨m.toArray⟩] w fun e w' => e = .returned (.bool true) ∧ Below w.heap.size w w' := by
  have hlen : (wrapL l).length ≤ 114 := by have := wrapL_len l; rw [put_small _ (by omega)] at this; simp at this; omega
  generalize hW : wrapL l = W at *
  have HW := Lib.hid hW
  clear hW
  have hxn : ¬ ((x : Int) = 0) := by omega
  have hxq : ((x : Int) == 0) = false := by simp; omega
  have h1 : ¬ ((i : Int) < 1) := by omega
  have h2 : ¬ ((W.length : Int) ≤ i) := by omega
  have hl' : ¬ ((100 : Int) < l.length) := by omega
  go_enter Try.func6, Try.ntmps6
  go_wp2_with fail
  refine (wrap_any l (by omega) _).mono ?_
  rintro e w1 ⟨rfl, hb1⟩
  rw [HW.out]
  have hcv := run_bytes_of_string (P := Try.prog) w1 9 29 5 ⟨W.toArray⟩ Try.underlying9 Try.underlying29 Try.underlying5
  generalize grownCap w1 _ 0 5 = cap at hcv
  generalize hw2 : w1.drew.alloc _ = w2 at hcv
  obtain ⟨hs2, hc2, hf2, hb2⟩ := bytes_cells _ _ W cap _ hw2
  clear hw2
  have hxor : bits .xor .u8 ((W[i].toNat : Nat) : Int) (x : Int) = (((W[i] ^^^ UInt8.ofNat x).toNat : Nat) : Int) := by
    rw [u8_xor_nat _ _ (UInt8.toNat_lt _) hx, UInt8.toNat_xor, show (UInt8.ofNat x).toNat = x from by simp; omega]
  have hback := back_cells w2 w1.heap.size i cap W (W[i] ^^^ UInt8.ofNat x) _ hi2 hxor hc2
  have hne : (W[i] ^^^ UInt8.ofNat x) ≠ W[i] := by
    intro h
    have h2 := congrArg UInt8.toNat h
    rw [UInt8.toNat_xor, show (UInt8.ofNat x).toNat = x from by simp; omega] at h2
    have h3 : W[i].toNat ^^^ (W[i].toNat ^^^ x) = W[i].toNat ^^^ W[i].toNat := by rw [h2]
    rw [← Nat.xor_assoc, Nat.xor_self, Nat.zero_xor] at h3
    omega
  have hft : frameTakeL (W.set i (W[i] ^^^ UInt8.ofNat x) ++ m) = ([], [], 4) := by
    have := HW.out
    subst this
    exact frame_turned l m i _ hl hi1 hi2 hne
  have hsl : (W.set i (W[i] ^^^ UInt8.ofNat x)).length = W.length := by simp
  generalize W.set i (W[i] ^^^ UInt8.ofNat x) = V at hback hft hsl
  have HFT := Lib.hid hft
  clear hxor hft hne
  have hcx := hc2 i hi2
  have hfx := hf2 i hi2
  go_wp2_with fail
  refine (frtake_any (V ++ m) (by simp; omega) _).mono ?_
  rintro e w3 ⟨rfl, hb3⟩
  rw [HFT.out]
  go_wp2_with fail
  refine (awake03 _).mono ?_
  rintro e w4 ⟨rfl, hb4⟩
  go_wp2
  go_ret
  refine ⟨rfl, ?_⟩
  have hz := hb1.size
  have hz2 := hb2.size
  refine bt (bt (bst (bt hb1 hb2) ?_ _) hb3) hb4
  simp
  omega
set_option maxHeartbeats 1600000 in
set_option maxRecDepth 100000 in
theorem frameTurned_walk (l : List UInt8) (hl : l.length ≤ 140737488351232) (j : Int) (_hj : (Lit.int .i64 j).wf = true) (x : Int) (hx : (Lit.int .u8 x).wf = true) (m : List UInt8) (hm : m.length ≤ 140737488351232) (w : World) :
    Calls Try.prog 6 #[.string ⟨l.toArray⟩, .int .i64 j, .int .u8 x, .string ⟨m.toArray⟩] w fun e w' => e = .returned (.bool true) ∧ Below w.heap.size w w' := by
  have hb := bounds_u8 hx
  obtain ⟨hx1, hx2⟩ := hb
  by_cases h1 : 100 < l.length
  · have h1' : (100 : Int) < l.length := by omega
    go_enter Try.func6, Try.ntmps6
    go_wp2_with fail
    refine (awake03 _).mono ?_
    rintro e w4 ⟨rfl, hb4⟩
    go_wp2
    go_ret
    refine ⟨rfl, ?_⟩
    exact hb4
  · have h1' : ¬ ((100 : Int) < l.length) := by omega
    by_cases h2 : x = 0
    · subst h2
      go_enter Try.func6, Try.ntmps6
      go_wp2_with fail
      refine (awake03 _).mono ?_
      rintro e w4 ⟨rfl, hb4⟩
      go_wp2
      go_ret
      refine ⟨rfl, ?_⟩
      exact hb4
    · have h2' : (x == 0) = false := by simp [h2]
      have hlen : (wrapL l).length ≤ 114 := by have := wrapL_len l; rw [put_small _ (by omega)] at this; simp at this; omega
      by_cases h3 : j < 1
      · generalize hW : wrapL l = W at *
        have HW := Lib.hid hW
        clear hW
        go_enter Try.func6, Try.ntmps6
        go_wp2_with fail
        refine (wrap_any l (by omega) _).mono ?_
        rintro e w1 ⟨rfl, hb1⟩
        rw [HW.out]
        go_wp2_with fail
        refine (awake03 _).mono ?_
        rintro e w4 ⟨rfl, hb4⟩
        go_wp2
        go_ret
        refine ⟨rfl, ?_⟩
        exact bt hb1 hb4
      · by_cases h4 : ((wrapL l).length : Int) ≤ j
        · generalize hW : wrapL l = W at *
          have HW := Lib.hid hW
          clear hW
          go_enter Try.func6, Try.ntmps6
          go_wp2_with fail
          refine (wrap_any l (by omega) _).mono ?_
          rintro e w1 ⟨rfl, hb1⟩
          rw [HW.out]
          go_wp2_with fail
          refine (awake03 _).mono ?_
          rintro e w4 ⟨rfl, hb4⟩
          go_wp2
          go_ret
          refine ⟨rfl, ?_⟩
          exact bt hb1 hb4
        · obtain ⟨i, rfl⟩ := Int.eq_ofNat_of_zero_le (show 0 ≤ j by omega)
          obtain ⟨y, rfl⟩ := Int.eq_ofNat_of_zero_le (show 0 ≤ x by omega)
          exact frameTurned_main l (by omega) i y (by omega) (by omega) m hm (by omega) (by omega) w
end Go.Proofs.Ytlghmjcpkpdhfaa
