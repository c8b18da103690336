/- The document's Right of chains, indices, tables. -/
import Derived.Test.YtkoligiilieboaaGreatDoorDr1
import Derived.Test.YtkoligiilieboaaGreatDoorBkK3
import Derived.Test.YtkoligiilieboaaGreatDoorRCmpW
set_option linter.unusedSimpArgs false
set_option linter.unusedVariables false
namespace Go.Proofs.YtkoligiilieboaaGreatDoor
open Go.RowKit
attribute [local go_sem] ByteArray.mk_append_mk ByteArray.extract_mk
attribute [local go_sem ↓] Go.wp_at_zero Go.wp_at_succ
set_option maxHeartbeats 6400000 in
set_option maxRecDepth 100000 in
theorem rch_any (A : Option Addr) (n c : Nat) (xs : List Vs) (hx : xs.length = n) (hm : n ≤ 9223372036854775807) (w : World) (hR : RdR vsC 5 w w.heap.size A xs) :
  Calls Tryz.prog 87 #[.slice A n c] w fun e w' => e = .returned (.bool (chB xs)) ∧ Below w.heap.size w w' := by
 obtain ⟨r, hr⟩ : ∃ r, chB xs = r := ⟨_, rfl⟩
 rw [hr]
 have HV := Lib.hid hr
 clear hr
 go_enter Tryz.func87, Tryz.ntmps87
 by_cases hl : n ≤ 64
 case neg =>
  have h2 : (64 : Int) < (n : Int) := by omega
  have hv : r = false := by rw [← HV.out, chB, hx, decide_eq_false hl]; rfl
  subst hv
  go_wp2
  go_ret
  exact ⟨rfl, Below.refl _ _⟩
 case pos =>
 have h2 : ¬ (64 : Int) < (n : Int) := by omega
 go_wp2_with fail
 clear h2
 go_loopw [3] (fun i wr => ∃ k : Nat, i = .int .i64 k ∧ k ≤ n ∧ (∀ j, j < k → stepB vsB vlt xs j = true) ∧ Below w.heap.size w wr) (fun i _ => n - (intOf i).toNat)
 case atStart => exact ⟨0, rfl, Nat.zero_le _, (fun j hj => absurd hj (Nat.not_lt_zero _)), Below.refl _ _⟩
 case round =>
  obtain ⟨k, rfl, hk, ht, hb⟩ := hrel
  have i0 : (0 : Int) ≤ (k : Int) := by omega
  have HT := Lib.hid ht
  clear ht
  by_cases hlt : k < n
  case pos =>
   have i1 : (k : Int) < (n : Int) := by omega
   have hs0 := fun (h : k = 0) => show stepB vsB vlt xs k = vsB (xs[k]'(by omega)) by subst h; exact stepB_zero (by omega)
   have hs1 := fun (h : 0 < k) => show stepB vsB vlt xs k = (vsB (xs[k]'(by omega)) && vlt (xs[k - 1]'(by omega)) (xs[k]'(by omega))) by obtain ⟨j, rfl⟩ : ∃ j, k = j + 1 := ⟨k - 1, by omega⟩; exact stepB_succ (by omega)
   have hf := fun (h : stepB vsB vlt xs k = false) => (rowB_false (ok := vsB) (lt := vlt) (l := xs) (by omega) h)
   have hok := fun (h : vsB (xs[k]'(by omega)) = false) => show stepB vsB vlt xs k = false by rcases Nat.eq_zero_or_pos k with h0 | h0; (· rw [hs0 h0]; exact h); (· rw [hs1 h0, h]; rfl)
   obtain ⟨b, off, rfl, hbB, rx⟩ := hR.at k (by omega)
   have rp := fun (h : 0 < k) => hR.at (k - 1) (by omega)
   obtain ⟨x, hxk⟩ : ∃ x, xs[k]'(by omega) = x := ⟨_, rfl⟩
   rw [hxk] at rx hok
   simp only [hxk] at hs0 hs1
   have HS0 := Lib.hid hs0
   have HS1 := Lib.hid hs1
   have HF := Lib.hid hf
   have HOK := Lib.hid hok
   have RP := Lib.hid rp
   clear hxk hs0 hs1 hf hok rp
   have RX := Lib.hid rx
   clear rx
   have c0 : wr.cell? ⟨b, off + k * 5, none⟩ = some (.int .i64 x.a) := (rng_below RX.out hb hbB) 0 _ rfl
   have c1 : wr.cell? ⟨b, off + k * 5 + 1, none⟩ = some (.int .i64 x.t) := (rng_below RX.out hb hbB) 1 _ rfl
   have c2 : wr.cell? ⟨b, off + k * 5 + 2, none⟩ = some (.int .i64 x.n) := (rng_below RX.out hb hbB) 2 _ rfl
   have c3 : wr.cell? ⟨b, off + k * 5 + 3, none⟩ = some (.bool x.gone) := (rng_below RX.out hb hbB) 3 _ rfl
   have c4 : wr.cell? ⟨b, off + k * 5 + 4, none⟩ = some (.string ⟨x.val.toArray⟩) := (rng_below RX.out hb hbB) 4 _ rfl
   go_wp2_with fail
   refine (vone_any x _).mono ?_
   rintro e v1 ⟨rfl, d1⟩
   have hb1 := bt hb d1
   clear d1 c0 c1 c2 c3 c4
   have c0 : v1.cell? ⟨b, off + k * 5, none⟩ = some (.int .i64 x.a) := (rng_below RX.out hb1 hbB) 0 _ rfl
   have c1 : v1.cell? ⟨b, off + k * 5 + 1, none⟩ = some (.int .i64 x.t) := (rng_below RX.out hb1 hbB) 1 _ rfl
   have c2 : v1.cell? ⟨b, off + k * 5 + 2, none⟩ = some (.int .i64 x.n) := (rng_below RX.out hb1 hbB) 2 _ rfl
   have c3 : v1.cell? ⟨b, off + k * 5 + 3, none⟩ = some (.bool x.gone) := (rng_below RX.out hb1 hbB) 3 _ rfl
   have c4 : v1.cell? ⟨b, off + k * 5 + 4, none⟩ = some (.string ⟨x.val.toArray⟩) := (rng_below RX.out hb1 hbB) 4 _ rfl
   obtain ⟨q, hq⟩ : ∃ q, vsB x = q := ⟨_, rfl⟩
   rw [hq]
   have HQ := Lib.hid hq
   clear hq
   cases q
   case false =>
    have hv : r = false := by rw [← HV.out, chB, HF.out (HOK.out HQ.out), Bool.and_false]
    subst hv
    go_wp2
    go_ret
    exact ⟨rfl, hb1⟩
   case true =>
    clear c0 c1 c2 c3 c4
    by_cases hk0 : k = 0
    case pos =>
     have hg0 : ¬ (0 : Int) < (k : Int) := by omega
     go_wp2_with fail
     refine wp_region_held_drew (S := (fun W' => Below w.heap.size w W')) (by kernel_rfl) hb1.drew (fun hH => ?_)
     refine tk 0 (.int .i64 k) 19 rfl rfl (by kernel_rfl) (fun _ _ _ h => h) (.inl ⟨by rfl, by intro W' hS; go_simp⟩) hH ?_
     try simp only [Act.put, aset]
     refine tk 1 (.bool false) 20 rfl rfl (by kernel_rfl) (fun _ _ _ h => h) (.inl ⟨by rfl, by intro W' hS; go_simp⟩) hH ?_
     try simp only [Act.put, aset]
     refine tk 2 (.bool false) 21 rfl rfl (by kernel_rfl) (fun _ _ _ h => h) (.inl ⟨by rfl, by intro W' hS; go_simp⟩) hH ?_
     try simp only [Act.put, aset]
     refine tk 3 undef 22 rfl rfl (by kernel_rfl) (fun _ _ _ h => h) (.inr ⟨by kernel_rfl, rfl⟩) hH ?_
     try simp only [Act.put, aset]
     refine tk 4 undef 23 rfl rfl (by kernel_rfl) (fun _ _ _ h => h) (.inr ⟨by kernel_rfl, rfl⟩) hH ?_
     try simp only [Act.put, aset]
     refine tk 5 undef 24 rfl rfl (by kernel_rfl) (fun _ _ _ h => h) (.inr ⟨by kernel_rfl, rfl⟩) hH ?_
     try simp only [Act.put, aset]
     refine tk 6 undef 25 rfl rfl (by kernel_rfl) (fun _ _ _ h => h) (.inr ⟨by kernel_rfl, rfl⟩) hH ?_
     try simp only [Act.put, aset]
     refine tk 7 undef 26 rfl rfl (by kernel_rfl) (fun _ _ _ h => h) (.inr ⟨by kernel_rfl, rfl⟩) hH ?_
     try simp only [Act.put, aset]
     refine tk 8 undef 27 rfl rfl (by kernel_rfl) (fun _ _ _ h => h) (.inr ⟨by kernel_rfl, rfl⟩) hH ?_
     try simp only [Act.put, aset]
     refine tk 9 undef 28 rfl rfl (by kernel_rfl) (fun _ _ _ h => h) (.inr ⟨by kernel_rfl, rfl⟩) hH ?_
     try simp only [Act.put, aset]
     refine tk 10 undef 29 rfl rfl (by kernel_rfl) (fun _ _ _ h => h) (.inr ⟨by kernel_rfl, rfl⟩) hH ?_
     try simp only [Act.put, aset]
     refine tk 11 undef 30 rfl rfl (by kernel_rfl) (fun _ _ _ h => h) (.inr ⟨by kernel_rfl, rfl⟩) hH ?_
     try simp only [Act.put, aset]
     refine tk 12 undef 31 rfl rfl (by kernel_rfl) (fun _ _ _ h => h) (.inr ⟨by kernel_rfl, rfl⟩) hH ?_
     try simp only [Act.put, aset]
     refine tk 13 undef 32 rfl rfl (by kernel_rfl) (fun _ _ _ h => h) (.inr ⟨by kernel_rfl, rfl⟩) hH ?_
     try simp only [Act.put, aset]
     refine wpAnyH_ready (rs := [14]) (by kernel_rfl) (by simp) ?_
     refine AllReadyH.cons rfl (fun K hK => ?_) AllReadyH.nil
     go_simp
     refine hK.out _ _ hH (fun hH => ?_)
     clear hK K
     try simp only [Act.put, aset]
     refine tk 15 undef 34 rfl rfl (by kernel_rfl) (fun _ _ _ h => h) (.inr ⟨by kernel_rfl, rfl⟩) hH ?_
     try simp only [Act.put, aset]
     refine tk 16 (.bool false) 35 rfl rfl (by kernel_rfl) (fun _ _ _ h => h) (.inl ⟨by rfl, by intro W' hS; go_simp⟩) hH ?_
     try simp only [Act.put, aset]
     refine wpAnyH_done (by kernel_rfl) ?_ _
     go_wp2_with fail
     go_roundw
     case rel => exact ⟨k + 1, by go_num, by omega, steps_succ HT.out ((HS0.out hk0).trans HQ.out), hH⟩
     case measure => simp [intOf]; omega
    case neg =>
     have hg0 : (0 : Int) < (k : Int) := by omega
     have hk1 : 0 < k := by omega
     have j0 : (0 : Int) ≤ (k : Int) - 1 := by omega
     have j1 : (k : Int) - 1 < (n : Int) := by omega
     obtain ⟨b', off', hA', hbB', ry⟩ := RP.out hk1
     have hs1 := HS1.out hk1
     obtain ⟨y, hyk⟩ : ∃ y, xs[k - 1]'(by omega) = y := ⟨_, rfl⟩
     rw [hyk] at ry hs1
     have HS2 := Lib.hid hs1
     obtain ⟨eb, eo⟩ : b' = b ∧ off' = off := by injection hA' with hA'; injection hA' with h1 h2; exact ⟨h1.symm, h2.symm⟩
     rw [eb, eo] at ry
     rw [eb] at hbB'
     have RY := Lib.hid ry
     have jt : ((k : Int) - 1).toNat = k - 1 := by omega
     have jw : IntKind.i64.wrap ((k : Int) - 1) = (k : Int) - 1 := by rw [IntKind.wrap_i64]; omega
     have jx : ¬ (k : Int) < 1 := by omega
     clear hyk hs1 hA' eb eo b' off' ry
     go_wp2_with fail
     refine wp_region_held_drew (S := (fun W' => Below w.heap.size w W')) (by kernel_rfl) hb1.drew (fun hH => ?_)
     refine tk 0 (.int .i64 k) 19 rfl rfl (by kernel_rfl) (fun _ _ _ h => h) (.inl ⟨by rfl, by intro W' hS; go_simp⟩) hH ?_
     try simp only [Act.put, aset]
     refine tk 1 (.bool true) 20 rfl rfl (by kernel_rfl) (fun _ _ _ h => h) (.inl ⟨by rfl, by intro W' hS; go_simp⟩) hH ?_
     try simp only [Act.put, aset]
     refine tk 2 (.bool true) 21 rfl rfl (by kernel_rfl) (fun _ _ _ h => h) (.inl ⟨by rfl, by intro W' hS; go_simp⟩) hH ?_
     try simp only [Act.put, aset]
     refine tk 3 (.slice (some ⟨b, off, none⟩) n c) 22 rfl rfl (by kernel_rfl) (fun _ _ _ h => h) (.inl ⟨by rfl, by intro W' hS; go_simp⟩) hH ?_
     try simp only [Act.put, aset]
     refine tk 4 (.int .i64 k) 23 rfl rfl (by kernel_rfl) (fun _ _ _ h => h) (.inl ⟨by rfl, by intro W' hS; go_simp⟩) hH ?_
     try simp only [Act.put, aset]
     refine tk 5 (.int .i64 ((k : Int) - 1)) 24 rfl rfl (by kernel_rfl) (fun _ _ _ h => h) (.inl ⟨by rfl, by intro W' hS; go_simp⟩) hH ?_
     try simp only [Act.put, aset]
     refine tk 6 (.pointer (some ⟨b, off + (k - 1) * 5, none⟩)) 25 rfl rfl (by kernel_rfl) (fun _ _ _ h => h) (.inl ⟨by rfl, by intro W' hS; go_simp⟩) hH ?_
     try simp only [Act.put, aset]
     refine tk 7 (.pointer (some ⟨b, off + (k - 1) * 5, none⟩)) 26 rfl rfl (by kernel_rfl) (fun _ _ _ h => h) (.inl ⟨by rfl, by intro W' hS; go_simp⟩) hH ?_
     try simp only [Act.put, aset]
     refine tk 8 (stampV y.a y.t y.n) 27 rfl rfl (by kernel_rfl) (fun _ _ _ h => h) (yieldsIf_load_mid (by rfl) 27 _ rfl (b) (off + (k - 1) * 5) (by rfl) [.int .i64 y.a, .int .i64 y.t, .int .i64 y.n] _ (fun _ h => (rng_pre (more := [.bool y.gone, .string ⟨y.val.toArray⟩]) (rng_below RY.out h hbB'))) Tryz.underlying27 (by with_unfolding_all rfl) (by with_unfolding_all rfl)) hH ?_
     try simp only [Act.put, aset]
     refine tk 9 (.slice (some ⟨b, off, none⟩) n c) 28 rfl rfl (by kernel_rfl) (fun _ _ _ h => h) (.inl ⟨by rfl, by intro W' hS; go_simp⟩) hH ?_
     try simp only [Act.put, aset]
     refine tk 10 (.int .i64 k) 29 rfl rfl (by kernel_rfl) (fun _ _ _ h => h) (.inl ⟨by rfl, by intro W' hS; go_simp⟩) hH ?_
     try simp only [Act.put, aset]
     refine tk 11 (.pointer (some ⟨b, off + k * 5, none⟩)) 30 rfl rfl (by kernel_rfl) (fun _ _ _ h => h) (.inl ⟨by rfl, by intro W' hS; go_simp⟩) hH ?_
     try simp only [Act.put, aset]
     refine tk 12 (.pointer (some ⟨b, off + k * 5, none⟩)) 31 rfl rfl (by kernel_rfl) (fun _ _ _ h => h) (.inl ⟨by rfl, by intro W' hS; go_simp⟩) hH ?_
     try simp only [Act.put, aset]
     refine tk 13 (stampV x.a x.t x.n) 32 rfl rfl (by kernel_rfl) (fun _ _ _ h => h) (yieldsIf_load_mid (by rfl) 27 _ rfl (b) (off + k * 5) (by rfl) [.int .i64 x.a, .int .i64 x.t, .int .i64 x.n] _ (fun _ h => (rng_pre (more := [.bool x.gone, .string ⟨x.val.toArray⟩]) (rng_below RX.out h hbB))) Tryz.underlying27 (by with_unfolding_all rfl) (by with_unfolding_all rfl)) hH ?_
     try simp only [Act.put, aset]
     refine wpAnyH_ready (rs := [14]) (by kernel_rfl) (by simp) ?_
     refine AllReadyH.cons rfl (fun K hK => ?_) AllReadyH.nil
     go_simp
     refine (before_any y.a y.t y.n x.a x.t x.n _).mono ?_
     rintro e w9 ⟨rfl, d9⟩
     have S9 := bt hH d9
     clear hH d9
     obtain ⟨q2, hq2⟩ : ∃ q, decide (cmpS y.a y.t y.n x.a x.t x.n < 0) = q := ⟨_, rfl⟩
     rw [hq2]
     have HLT := Lib.hid (show vlt y x = q2 from hq2)
     clear hq2
     cases q2
     case false =>
      refine hK.out _ _ S9 (fun hH => ?_)
      clear hK K
      try simp only [Act.put, aset]
      refine tk 15 (.bool true) 34 rfl rfl (by kernel_rfl) (fun _ _ _ h => h) (.inl ⟨by rfl, by intro W' hS; go_simp⟩) hH ?_
      try simp only [Act.put, aset]
      refine tk 16 (.bool true) 35 rfl rfl (by kernel_rfl) (fun _ _ _ h => h) (.inl ⟨by rfl, by intro W' hS; go_simp⟩) hH ?_
      try simp only [Act.put, aset]
      refine wpAnyH_done (by kernel_rfl) ?_ _
      have hv : r = false := by rw [← HV.out, chB, HF.out (by rw [HS2.out, HQ.out, HLT.out]; rfl), Bool.and_false]
      subst hv
      go_wp2
      go_ret
      exact ⟨rfl, hH⟩
     case true =>
      refine hK.out _ _ S9 (fun hH => ?_)
      clear hK K
      try simp only [Act.put, aset]
      refine tk 15 (.bool false) 34 rfl rfl (by kernel_rfl) (fun _ _ _ h => h) (.inl ⟨by rfl, by intro W' hS; go_simp⟩) hH ?_
      try simp only [Act.put, aset]
      refine tk 16 (.bool false) 35 rfl rfl (by kernel_rfl) (fun _ _ _ h => h) (.inl ⟨by rfl, by intro W' hS; go_simp⟩) hH ?_
      try simp only [Act.put, aset]
      refine wpAnyH_done (by kernel_rfl) ?_ _
      go_wp2_with fail
      go_roundw
      case rel => exact ⟨k + 1, by go_num, by omega, steps_succ HT.out (by rw [HS2.out, HQ.out, HLT.out]; rfl), hH⟩
      case measure => simp [intOf]; omega
  case neg =>
   have hrow : rowB vsB vlt xs = true := rowB_true (fun j hj => HT.out j (by omega))
   have hv : r = true := by rw [← HV.out, chB, hrow, hx, decide_eq_true hl]; rfl
   subst hv
   clear hrow
   go_wp2
   go_ret
   exact ⟨rfl, hb⟩
set_option maxHeartbeats 6400000 in
set_option maxRecDepth 100000 in
theorem rix_any (A : Option Addr) (n c : Nat) (xs : List En) (hx : xs.length = n) (hm : n ≤ 9223372036854775807) (w : World) (hR : RdR enC 2 w w.heap.size A xs) (hE : ∀ e ∈ xs, EnIn w w.heap.size e ∧ e.key.length ≤ 1000000) :
  Calls Tryz.prog 48 #[.slice A n c] w fun e w' => e = .returned (.bool (ixB xs)) ∧ Below w.heap.size w w' := by
 obtain ⟨r, hr⟩ : ∃ r, ixB xs = r := ⟨_, rfl⟩
 rw [hr]
 have HV := Lib.hid hr
 clear hr
 go_enter Tryz.func48, Tryz.ntmps48
 by_cases hl : n ≤ 64
 case neg =>
  have h2 : (64 : Int) < (n : Int) := by omega
  have hv : r = false := by rw [← HV.out, ixB, hx, decide_eq_false hl]; rfl
  subst hv
  go_wp2
  go_ret
  exact ⟨rfl, Below.refl _ _⟩
 case pos =>
 have h2 : ¬ (64 : Int) < (n : Int) := by omega
 go_wp2_with fail
 clear h2
 go_loopw [3] (fun i wr => ∃ k : Nat, i = .int .i64 k ∧ k ≤ n ∧ (∀ j, j < k → stepB enB elt xs j = true) ∧ Below w.heap.size w wr) (fun i _ => n - (intOf i).toNat)
 case atStart => exact ⟨0, rfl, Nat.zero_le _, (fun j hj => absurd hj (Nat.not_lt_zero _)), Below.refl _ _⟩
 case round =>
  obtain ⟨k, rfl, hk, ht, hb⟩ := hrel
  have i0 : (0 : Int) ≤ (k : Int) := by omega
  have HT := Lib.hid ht
  clear ht
  by_cases hlt : k < n
  case pos =>
   have i1 : (k : Int) < (n : Int) := by omega
   have hs0 := fun (h : k = 0) => show stepB enB elt xs k = enB (xs[k]'(by omega)) by subst h; exact stepB_zero (by omega)
   have hs1 := fun (h : 0 < k) => show stepB enB elt xs k = (enB (xs[k]'(by omega)) && elt (xs[k - 1]'(by omega)) (xs[k]'(by omega))) by obtain ⟨j, rfl⟩ : ∃ j, k = j + 1 := ⟨k - 1, by omega⟩; exact stepB_succ (by omega)
   have hf := fun (h : stepB enB elt xs k = false) => (rowB_false (ok := enB) (lt := elt) (l := xs) (by omega) h)
   have hok := fun (h : enB (xs[k]'(by omega)) = false) => show stepB enB elt xs k = false by rcases Nat.eq_zero_or_pos k with h0 | h0; (· rw [hs0 h0]; exact h); (· rw [hs1 h0, h]; rfl)
   obtain ⟨b, off, rfl, hbB, rx⟩ := hR.at k (by omega)
   have hex := hE (xs[k]'(by omega)) (List.getElem_mem (by omega))
   have rp := fun (h : 0 < k) => hR.at (k - 1) (by omega)
   obtain ⟨x, hxk⟩ : ∃ x, xs[k]'(by omega) = x := ⟨_, rfl⟩
   rw [hxk] at rx hok hex
   simp only [hxk] at hs0 hs1
   have HS0 := Lib.hid hs0
   have HS1 := Lib.hid hs1
   have HF := Lib.hid hf
   have HOK := Lib.hid hok
   have RP := Lib.hid rp
   have HEX := Lib.hid hex
   clear hex
   clear hxk hs0 hs1 hf hok rp
   have RX := Lib.hid rx
   clear rx
   have c0 : wr.cell? ⟨b, off + k * 2, none⟩ = some (.string ⟨x.key.toArray⟩) := (rng_below RX.out hb hbB) 0 _ rfl
   have c1 : wr.cell? ⟨b, off + k * 2 + 1, none⟩ = some (.slice x.A x.n x.c) := (rng_below RX.out hb hbB) 1 _ rfl
   go_wp2_with fail
   refine (refkright_below x.key (Nat.le_trans HEX.out.2 (by decide)) _).mono ?_
   rintro e v1 ⟨rfl, d1⟩
   have hb1 := bt hb d1
   clear d1 c0 c1
   have c0 : v1.cell? ⟨b, off + k * 2, none⟩ = some (.string ⟨x.key.toArray⟩) := (rng_below RX.out hb1 hbB) 0 _ rfl
   have c1 : v1.cell? ⟨b, off + k * 2 + 1, none⟩ = some (.slice x.A x.n x.c) := (rng_below RX.out hb1 hbB) 1 _ rfl
   obtain ⟨q1, hq⟩ : ∃ q, rightL x.key = q := ⟨_, rfl⟩
   rw [hq]
   have HQ1 := Lib.hid hq
   clear hq
   cases q1
   case false =>
    have HQ := Lib.hid (show enB x = false by rw [enB, HQ1.out]; rfl)
    have hv : r = false := by rw [← HV.out, ixB, HF.out (HOK.out HQ.out), Bool.and_false]
    subst hv
    go_wp2
    go_ret
    exact ⟨rfl, hb1⟩
   case true =>
    by_cases hz : x.n = 0
    case pos =>
     have hz1 : ((x.n : Int) == 0) = true := by simp [hz]
     have hz2 : (x.n : Int) = 0 := by omega
     have hvl : x.vs.length = 0 := by rw [HEX.out.1.len]; exact hz
     have HQ := Lib.hid (show enB x = false by have h0 : x.vs = [] := List.eq_nil_of_length_eq_zero hvl; simp [enB, h0])
     have HZ := Lib.hid hz
     clear hz hz2 hvl
     have hv : r = false := by rw [← HV.out, ixB, HF.out (HOK.out HQ.out), Bool.and_false]
     subst hv
     go_wp2
     go_ret
     exact ⟨rfl, hb1⟩
    case neg =>
     have hz1 : ((x.n : Int) == 0) = false := by simp; omega
     have hz2 : ¬ (x.n : Int) = 0 := by omega
     have HL0 := Lib.hid (show 0 < x.vs.length by rw [HEX.out.1.len]; omega)
     go_wp2_with fail
     refine (rch_any x.A x.n x.c x.vs HEX.out.1.len HEX.out.1.m63 _ (HEX.out.1.at hb1)).mono ?_
     rintro e v2 ⟨rfl, d2⟩
     have hb2 := bt hb1 d2
     clear d2 c0 c1
     have c0 : v2.cell? ⟨b, off + k * 2, none⟩ = some (.string ⟨x.key.toArray⟩) := (rng_below RX.out hb2 hbB) 0 _ rfl
     have c1 : v2.cell? ⟨b, off + k * 2 + 1, none⟩ = some (.slice x.A x.n x.c) := (rng_below RX.out hb2 hbB) 1 _ rfl
     obtain ⟨q2, hq⟩ : ∃ q, chB x.vs = q := ⟨_, rfl⟩
     rw [hq]
     have HQ2 := Lib.hid hq
     clear hq
     cases q2
     case false =>
      have HQ := Lib.hid (show enB x = false by rw [enB, HQ2.out]; simp)
      have hv : r = false := by rw [← HV.out, ixB, HF.out (HOK.out HQ.out), Bool.and_false]
      subst hv
      go_wp2
      go_ret
      exact ⟨rfl, hb2⟩
     case true =>
      have HQ := Lib.hid (show enB x = true by rw [enB, HQ1.out, HQ2.out, decide_eq_true HL0.out]; rfl)
      clear hz1 hz2 hz
      clear c0 c1
      by_cases hk0 : k = 0
      case pos =>
       have hg0 : ¬ (0 : Int) < (k : Int) := by omega
       go_wp2_with fail
       refine wp_region_held_drew (S := (fun W' => Below w.heap.size w W')) (by kernel_rfl) hb2.drew (fun hH => ?_)
       refine tk 0 (.int .i64 k) 38 rfl rfl (by kernel_rfl) (fun _ _ _ h => h) (.inl ⟨by rfl, by intro W' hS; go_simp⟩) hH ?_
       try simp only [Act.put, aset]
       refine tk 1 (.bool false) 39 rfl rfl (by kernel_rfl) (fun _ _ _ h => h) (.inl ⟨by rfl, by intro W' hS; go_simp⟩) hH ?_
       try simp only [Act.put, aset]
       refine tk 2 (.bool false) 40 rfl rfl (by kernel_rfl) (fun _ _ _ h => h) (.inl ⟨by rfl, by intro W' hS; go_simp⟩) hH ?_
       try simp only [Act.put, aset]
       refine tk 3 undef 41 rfl rfl (by kernel_rfl) (fun _ _ _ h => h) (.inr ⟨by kernel_rfl, rfl⟩) hH ?_
       try simp only [Act.put, aset]
       refine tk 4 undef 42 rfl rfl (by kernel_rfl) (fun _ _ _ h => h) (.inr ⟨by kernel_rfl, rfl⟩) hH ?_
       try simp only [Act.put, aset]
       refine tk 5 undef 43 rfl rfl (by kernel_rfl) (fun _ _ _ h => h) (.inr ⟨by kernel_rfl, rfl⟩) hH ?_
       try simp only [Act.put, aset]
       refine tk 6 undef 44 rfl rfl (by kernel_rfl) (fun _ _ _ h => h) (.inr ⟨by kernel_rfl, rfl⟩) hH ?_
       try simp only [Act.put, aset]
       refine tk 7 undef 45 rfl rfl (by kernel_rfl) (fun _ _ _ h => h) (.inr ⟨by kernel_rfl, rfl⟩) hH ?_
       try simp only [Act.put, aset]
       refine tk 8 undef 46 rfl rfl (by kernel_rfl) (fun _ _ _ h => h) (.inr ⟨by kernel_rfl, rfl⟩) hH ?_
       try simp only [Act.put, aset]
       refine tk 9 undef 47 rfl rfl (by kernel_rfl) (fun _ _ _ h => h) (.inr ⟨by kernel_rfl, rfl⟩) hH ?_
       try simp only [Act.put, aset]
       refine tk 10 undef 48 rfl rfl (by kernel_rfl) (fun _ _ _ h => h) (.inr ⟨by kernel_rfl, rfl⟩) hH ?_
       try simp only [Act.put, aset]
       refine tk 11 undef 49 rfl rfl (by kernel_rfl) (fun _ _ _ h => h) (.inr ⟨by kernel_rfl, rfl⟩) hH ?_
       try simp only [Act.put, aset]
       refine tk 12 undef 50 rfl rfl (by kernel_rfl) (fun _ _ _ h => h) (.inr ⟨by kernel_rfl, rfl⟩) hH ?_
       try simp only [Act.put, aset]
       refine tk 13 undef 51 rfl rfl (by kernel_rfl) (fun _ _ _ h => h) (.inr ⟨by kernel_rfl, rfl⟩) hH ?_
       try simp only [Act.put, aset]
       refine wpAnyH_ready (rs := [14]) (by kernel_rfl) (by simp) ?_
       refine AllReadyH.cons rfl (fun K hK => ?_) AllReadyH.nil
       go_simp
       refine hK.out _ _ hH (fun hH => ?_)
       clear hK K
       try simp only [Act.put, aset]
       refine tk 15 undef 53 rfl rfl (by kernel_rfl) (fun _ _ _ h => h) (.inr ⟨by kernel_rfl, rfl⟩) hH ?_
       try simp only [Act.put, aset]
       refine tk 16 (.bool false) 54 rfl rfl (by kernel_rfl) (fun _ _ _ h => h) (.inl ⟨by rfl, by intro W' hS; go_simp⟩) hH ?_
       try simp only [Act.put, aset]
       refine wpAnyH_done (by kernel_rfl) ?_ _
       go_wp2_with fail
       go_roundw
       case rel => exact ⟨k + 1, by go_num, by omega, steps_succ HT.out ((HS0.out hk0).trans HQ.out), hH⟩
       case measure => simp [intOf]; omega
      case neg =>
       have hg0 : (0 : Int) < (k : Int) := by omega
       have hk1 : 0 < k := by omega
       have j0 : (0 : Int) ≤ (k : Int) - 1 := by omega
       have j1 : (k : Int) - 1 < (n : Int) := by omega
       obtain ⟨b', off', hA', hbB', ry⟩ := RP.out hk1
       have hs1 := HS1.out hk1
       have hey := hE (xs[k - 1]'(by omega)) (List.getElem_mem (by omega))
       obtain ⟨y, hyk⟩ : ∃ y, xs[k - 1]'(by omega) = y := ⟨_, rfl⟩
       rw [hyk] at ry hs1 hey
       have HEY := Lib.hid hey
       clear hey
       have HS2 := Lib.hid hs1
       obtain ⟨eb, eo⟩ : b' = b ∧ off' = off := by injection hA' with hA'; injection hA' with h1 h2; exact ⟨h1.symm, h2.symm⟩
       rw [eb, eo] at ry
       rw [eb] at hbB'
       have RY := Lib.hid ry
       have jt : ((k : Int) - 1).toNat = k - 1 := by omega
       have jw : IntKind.i64.wrap ((k : Int) - 1) = (k : Int) - 1 := by rw [IntKind.wrap_i64]; omega
       have jx : ¬ (k : Int) < 1 := by omega
       clear hyk hs1 hA' eb eo b' off' ry
       go_wp2_with fail
       refine wp_region_held_drew (S := (fun W' => Below w.heap.size w W')) (by kernel_rfl) hb2.drew (fun hH => ?_)
       refine tk 0 (.int .i64 k) 38 rfl rfl (by kernel_rfl) (fun _ _ _ h => h) (.inl ⟨by rfl, by intro W' hS; go_simp⟩) hH ?_
       try simp only [Act.put, aset]
       refine tk 1 (.bool true) 39 rfl rfl (by kernel_rfl) (fun _ _ _ h => h) (.inl ⟨by rfl, by intro W' hS; go_simp⟩) hH ?_
       try simp only [Act.put, aset]
       refine tk 2 (.bool true) 40 rfl rfl (by kernel_rfl) (fun _ _ _ h => h) (.inl ⟨by rfl, by intro W' hS; go_simp⟩) hH ?_
       try simp only [Act.put, aset]
       refine tk 3 (.slice (some ⟨b, off, none⟩) n c) 41 rfl rfl (by kernel_rfl) (fun _ _ _ h => h) (.inl ⟨by rfl, by intro W' hS; go_simp⟩) hH ?_
       try simp only [Act.put, aset]
       refine tk 4 (.int .i64 k) 42 rfl rfl (by kernel_rfl) (fun _ _ _ h => h) (.inl ⟨by rfl, by intro W' hS; go_simp⟩) hH ?_
       try simp only [Act.put, aset]
       refine tk 5 (.int .i64 ((k : Int) - 1)) 43 rfl rfl (by kernel_rfl) (fun _ _ _ h => h) (.inl ⟨by rfl, by intro W' hS; go_simp⟩) hH ?_
       try simp only [Act.put, aset]
       refine tk 6 (.pointer (some ⟨b, off + (k - 1) * 2, none⟩)) 44 rfl rfl (by kernel_rfl) (fun _ _ _ h => h) (.inl ⟨by rfl, by intro W' hS; go_simp⟩) hH ?_
       try simp only [Act.put, aset]
       refine tk 7 (.pointer (some ⟨b, off + (k - 1) * 2, none⟩)) 45 rfl rfl (by kernel_rfl) (fun _ _ _ h => h) (.inl ⟨by rfl, by intro W' hS; go_simp⟩) hH ?_
       try simp only [Act.put, aset]
       refine tk 8 (.string ⟨y.key.toArray⟩) 46 rfl rfl (by kernel_rfl) (fun _ _ _ h => h) (.inl ⟨by rfl, by intro W' hS; have hc : W'.cell? ⟨b, off + (k - 1) * 2, none⟩ = some (.string ⟨y.key.toArray⟩) := rng0 (rng_below RY.out hS hbB'); go_simp⟩) hH ?_
       try simp only [Act.put, aset]
       refine tk 9 (.slice (some ⟨b, off, none⟩) n c) 47 rfl rfl (by kernel_rfl) (fun _ _ _ h => h) (.inl ⟨by rfl, by intro W' hS; go_simp⟩) hH ?_
       try simp only [Act.put, aset]
       refine tk 10 (.int .i64 k) 48 rfl rfl (by kernel_rfl) (fun _ _ _ h => h) (.inl ⟨by rfl, by intro W' hS; go_simp⟩) hH ?_
       try simp only [Act.put, aset]
       refine tk 11 (.pointer (some ⟨b, off + k * 2, none⟩)) 49 rfl rfl (by kernel_rfl) (fun _ _ _ h => h) (.inl ⟨by rfl, by intro W' hS; go_simp⟩) hH ?_
       try simp only [Act.put, aset]
       refine tk 12 (.pointer (some ⟨b, off + k * 2, none⟩)) 50 rfl rfl (by kernel_rfl) (fun _ _ _ h => h) (.inl ⟨by rfl, by intro W' hS; go_simp⟩) hH ?_
       try simp only [Act.put, aset]
       refine tk 13 (.string ⟨x.key.toArray⟩) 51 rfl rfl (by kernel_rfl) (fun _ _ _ h => h) (.inl ⟨by rfl, by intro W' hS; have hc : W'.cell? ⟨b, off + k * 2, none⟩ = some (.string ⟨x.key.toArray⟩) := rng0 (rng_below RX.out hS hbB); go_simp⟩) hH ?_
       try simp only [Act.put, aset]
       refine wpAnyH_ready (rs := [14]) (by kernel_rfl) (by simp) ?_
       refine AllReadyH.cons rfl (fun K hK => ?_) AllReadyH.nil
       go_simp
       refine (refcompare_any y.key x.key (Nat.le_trans HEY.out.2 (by decide)) (Nat.le_trans HEX.out.2 (by decide)) _).mono ?_
       rintro e w9 ⟨rfl, d9⟩
       have S9 := bt hH d9
       clear hH d9
       have hrg : cmpL y.key x.key = -1 ∨ cmpL y.key x.key = 0 ∨ cmpL y.key x.key = 1 := cmpL_range _ _
       obtain ⟨cz, hcz⟩ : ∃ z, cmpL y.key x.key = z := ⟨_, rfl⟩
       rw [hcz] at hrg ⊢
       have HLT := Lib.hid (show elt y x = decide (cz < 0) by rw [← hcz]; rfl)
       clear hcz
       by_cases hcc : cz = -1
       case pos =>
        subst hcc
        clear hrg
        have HLT := Lib.hid (show elt y x = true by rw [HLT.out]; rfl)
        refine hK.out _ _ S9 (fun hH => ?_)
        clear hK K
        try simp only [Act.put, aset]
        refine tk 15 (.bool false) 53 rfl rfl (by kernel_rfl) (fun _ _ _ h => h) (.inl ⟨by rfl, by intro W' hS; go_simp⟩) hH ?_
        try simp only [Act.put, aset]
        refine tk 16 (.bool false) 54 rfl rfl (by kernel_rfl) (fun _ _ _ h => h) (.inl ⟨by rfl, by intro W' hS; go_simp⟩) hH ?_
        try simp only [Act.put, aset]
        refine wpAnyH_done (by kernel_rfl) ?_ _
        go_wp2_with fail
        go_roundw
        case rel => exact ⟨k + 1, by go_num, by omega, steps_succ HT.out (by rw [HS2.out, HQ.out, HLT.out]; rfl), hH⟩
        case measure => simp [intOf]; omega
       case neg =>
        have hc1 : (cz != -1) = true := by simp [hcc]
        have hc2 : (cz == -1) = false := by simp [hcc]
        have HLT := Lib.hid (show elt y x = false by rw [HLT.out]; exact decide_eq_false (by omega))
        clear hrg
        refine hK.out _ _ S9 (fun hH => ?_)
        clear hK K
        try simp only [Act.put, aset]
        refine tk 15 (.bool true) 53 rfl rfl (by kernel_rfl) (fun _ _ _ h => h) (.inl ⟨by rfl, by intro W' hS; go_simp⟩) hH ?_
        try simp only [Act.put, aset]
        refine tk 16 (.bool true) 54 rfl rfl (by kernel_rfl) (fun _ _ _ h => h) (.inl ⟨by rfl, by intro W' hS; go_simp⟩) hH ?_
        try simp only [Act.put, aset]
        refine wpAnyH_done (by kernel_rfl) ?_ _
        have hv : r = false := by rw [← HV.out, ixB, HF.out (by rw [HS2.out, HQ.out, HLT.out]; rfl), Bool.and_false]
        subst hv
        go_wp2
        go_ret
        exact ⟨rfl, hH⟩
  case neg =>
   have hrow : rowB enB elt xs = true := rowB_true (fun j hj => HT.out j (by omega))
   have hv : r = true := by rw [← HV.out, ixB, hrow, hx, decide_eq_true hl]; rfl
   subst hv
   clear hrow
   go_wp2
   go_ret
   exact ⟨rfl, hb⟩
set_option maxHeartbeats 6400000 in
set_option maxRecDepth 100000 in
theorem rdd_any (A : Option Addr) (n c : Nat) (xs : List Dn) (hx : xs.length = n) (hm : n ≤ 9223372036854775807) (w : World) (hR : RdR dnC 11 w w.heap.size A xs) :
  Calls Tryz.prog 50 #[.slice A n c] w fun e w' => e = .returned (.bool (ddB xs)) ∧ Below w.heap.size w w' := by
 obtain ⟨r, hr⟩ : ∃ r, ddB xs = r := ⟨_, rfl⟩
 rw [hr]
 have HV := Lib.hid hr
 clear hr
 go_enter Tryz.func50, Tryz.ntmps50
 by_cases hl : n ≤ 8
 case neg =>
  have h2 : (8 : Int) < (n : Int) := by omega
  have hv : r = false := by rw [← HV.out, ddB, hx, decide_eq_false hl]; rfl
  subst hv
  go_wp2
  go_ret
  exact ⟨rfl, Below.refl _ _⟩
 case pos =>
 have h2 : ¬ (8 : Int) < (n : Int) := by omega
 go_wp2_with fail
 clear h2
 go_loopw [3] (fun i wr => ∃ k : Nat, i = .int .i64 k ∧ k ≤ n ∧ (∀ j, j < k → stepB dnB dlt xs j = true) ∧ Below w.heap.size w wr) (fun i _ => n - (intOf i).toNat)
 case atStart => exact ⟨0, rfl, Nat.zero_le _, (fun j hj => absurd hj (Nat.not_lt_zero _)), Below.refl _ _⟩
 case round =>
  obtain ⟨k, rfl, hk, ht, hb⟩ := hrel
  have i0 : (0 : Int) ≤ (k : Int) := by omega
  have HT := Lib.hid ht
  clear ht
  by_cases hlt : k < n
  case pos =>
   have i1 : (k : Int) < (n : Int) := by omega
   have hs0 := fun (h : k = 0) => show stepB dnB dlt xs k = dnB (xs[k]'(by omega)) by subst h; exact stepB_zero (by omega)
   have hs1 := fun (h : 0 < k) => show stepB dnB dlt xs k = (dnB (xs[k]'(by omega)) && dlt (xs[k - 1]'(by omega)) (xs[k]'(by omega))) by obtain ⟨j, rfl⟩ : ∃ j, k = j + 1 := ⟨k - 1, by omega⟩; exact stepB_succ (by omega)
   have hf := fun (h : stepB dnB dlt xs k = false) => (rowB_false (ok := dnB) (lt := dlt) (l := xs) (by omega) h)
   have hok := fun (h : dnB (xs[k]'(by omega)) = false) => show stepB dnB dlt xs k = false by rcases Nat.eq_zero_or_pos k with h0 | h0; (· rw [hs0 h0]; exact h); (· rw [hs1 h0, h]; rfl)
   obtain ⟨b, off, rfl, hbB, rx⟩ := hR.at k (by omega)
   have rp := fun (h : 0 < k) => hR.at (k - 1) (by omega)
   obtain ⟨x, hxk⟩ : ∃ x, xs[k]'(by omega) = x := ⟨_, rfl⟩
   rw [hxk] at rx hok
   simp only [hxk] at hs0 hs1
   have HS0 := Lib.hid hs0
   have HS1 := Lib.hid hs1
   have HF := Lib.hid hf
   have HOK := Lib.hid hok
   have RP := Lib.hid rp
   clear hxk hs0 hs1 hf hok rp
   have RX := Lib.hid rx
   clear rx
   have c0 : wr.cell? ⟨b, off + k * 11, none⟩ = some (.int .i64 x.cl) := (rng_below RX.out hb hbB) 0 _ rfl
   have c1 : wr.cell? ⟨b, off + k * 11 + 1, none⟩ = some (.int .i64 x.rq) := (rng_below RX.out hb hbB) 1 _ rfl
   have c2 : wr.cell? ⟨b, off + k * 11 + 2, none⟩ = some (.int .i64 x.ans.er) := (rng_below RX.out hb hbB) 2 _ rfl
   have c3 : wr.cell? ⟨b, off + k * 11 + 3, none⟩ = some (.int .i64 x.ans.a) := (rng_below RX.out hb hbB) 3 _ rfl
   have c4 : wr.cell? ⟨b, off + k * 11 + 4, none⟩ = some (.int .i64 x.ans.t) := (rng_below RX.out hb hbB) 4 _ rfl
   have c5 : wr.cell? ⟨b, off + k * 11 + 5, none⟩ = some (.int .i64 x.ans.n) := (rng_below RX.out hb hbB) 5 _ rfl
   have c6 : wr.cell? ⟨b, off + k * 11 + 6, none⟩ = some (.bool x.ans.fd) := (rng_below RX.out hb hbB) 6 _ rfl
   have c7 : wr.cell? ⟨b, off + k * 11 + 7, none⟩ = some (.string ⟨x.ans.vl.toArray⟩) := (rng_below RX.out hb hbB) 7 _ rfl
   have c8 : wr.cell? ⟨b, off + k * 11 + 8, none⟩ = some (.slice x.ans.itA x.ans.itn x.ans.itc) := (rng_below RX.out hb hbB) 8 _ rfl
   have c9 : wr.cell? ⟨b, off + k * 11 + 9, none⟩ = some (.string ⟨x.ans.nx.toArray⟩) := (rng_below RX.out hb hbB) 9 _ rfl
   have c10 : wr.cell? ⟨b, off + k * 11 + 10, none⟩ = some (.bool x.ans.mo) := (rng_below RX.out hb hbB) 10 _ rfl
   go_wp2_with fail
   refine (rnumb_any x.cl _).mono ?_
   rintro e v ⟨rfl, rfl⟩
   cases q1 : oneB x.cl
   case false =>
    have HQ := Lib.hid (show dnB x = false by rw [dnB, q1]; rfl)
    clear q1
    have hv : r = false := by rw [← HV.out, ddB, HF.out (HOK.out HQ.out), Bool.and_false]
    subst hv
    go_wp2
    go_ret
    exact ⟨rfl, hb⟩
   case true =>
    have HQ1 := Lib.hid q1
    clear q1
    go_wp2_with fail
    refine (rnumb_any x.rq _).mono ?_
    rintro e v ⟨rfl, rfl⟩
    cases q2 : oneB x.rq
    case false =>
     have HQ := Lib.hid (show dnB x = false by rw [dnB, HQ1.out, q2]; rfl)
     clear q2
     have hv : r = false := by rw [← HV.out, ddB, HF.out (HOK.out HQ.out), Bool.and_false]
     subst hv
     go_wp2
     go_ret
     exact ⟨rfl, hb⟩
    case true =>
     have HQ2 := Lib.hid q2
     clear q2
     go_wp2_with fail
     refine (rplain_any x.ans _).mono ?_
     rintro e v1 ⟨rfl, d1⟩
     have hb1 := bt hb d1
     clear d1 c0 c1 c2 c3 c4 c5 c6 c7 c8 c9 c10
     have c0 : v1.cell? ⟨b, off + k * 11, none⟩ = some (.int .i64 x.cl) := (rng_below RX.out hb1 hbB) 0 _ rfl
     have c1 : v1.cell? ⟨b, off + k * 11 + 1, none⟩ = some (.int .i64 x.rq) := (rng_below RX.out hb1 hbB) 1 _ rfl
     have c2 : v1.cell? ⟨b, off + k * 11 + 2, none⟩ = some (.int .i64 x.ans.er) := (rng_below RX.out hb1 hbB) 2 _ rfl
     have c3 : v1.cell? ⟨b, off + k * 11 + 3, none⟩ = some (.int .i64 x.ans.a) := (rng_below RX.out hb1 hbB) 3 _ rfl
     have c4 : v1.cell? ⟨b, off + k * 11 + 4, none⟩ = some (.int .i64 x.ans.t) := (rng_below RX.out hb1 hbB) 4 _ rfl
     have c5 : v1.cell? ⟨b, off + k * 11 + 5, none⟩ = some (.int .i64 x.ans.n) := (rng_below RX.out hb1 hbB) 5 _ rfl
     have c6 : v1.cell? ⟨b, off + k * 11 + 6, none⟩ = some (.bool x.ans.fd) := (rng_below RX.out hb1 hbB) 6 _ rfl
     have c7 : v1.cell? ⟨b, off + k * 11 + 7, none⟩ = some (.string ⟨x.ans.vl.toArray⟩) := (rng_below RX.out hb1 hbB) 7 _ rfl
     have c8 : v1.cell? ⟨b, off + k * 11 + 8, none⟩ = some (.slice x.ans.itA x.ans.itn x.ans.itc) := (rng_below RX.out hb1 hbB) 8 _ rfl
     have c9 : v1.cell? ⟨b, off + k * 11 + 9, none⟩ = some (.string ⟨x.ans.nx.toArray⟩) := (rng_below RX.out hb1 hbB) 9 _ rfl
     have c10 : v1.cell? ⟨b, off + k * 11 + 10, none⟩ = some (.bool x.ans.mo) := (rng_below RX.out hb1 hbB) 10 _ rfl
     cases q3 : ansB x.ans
     case false =>
      have HQ := Lib.hid (show dnB x = false by rw [dnB, HQ1.out, HQ2.out, q3]; rfl)
      clear q3
      have hv : r = false := by rw [← HV.out, ddB, HF.out (HOK.out HQ.out), Bool.and_false]
      subst hv
      go_wp2
      go_ret
      exact ⟨rfl, hb1⟩
     case true =>
      have HQ3 := Lib.hid q3
      clear q3
      have HQ := Lib.hid (show dnB x = true by rw [dnB, HQ1.out, HQ2.out, HQ3.out]; rfl)
      clear c0 c1 c2 c3 c4 c5 c6 c7 c8 c9 c10
      by_cases hk0 : k = 0
      case pos =>
       have hg0 : ¬ (0 : Int) < (k : Int) := by omega
       go_wp2_with fail
       refine wp_region_held_drew (S := (fun W' => Below w.heap.size w W')) (by kernel_rfl) hb1.drew (fun hH => ?_)
       refine tk 0 (.int .i64 k) 38 rfl rfl (by kernel_rfl) (fun _ _ _ h => h) (.inl ⟨by rfl, by intro W' hS; go_simp⟩) hH ?_
       try simp only [Act.put, aset]
       refine tk 1 (.bool false) 39 rfl rfl (by kernel_rfl) (fun _ _ _ h => h) (.inl ⟨by rfl, by intro W' hS; go_simp⟩) hH ?_
       try simp only [Act.put, aset]
       refine tk 2 (.bool false) 40 rfl rfl (by kernel_rfl) (fun _ _ _ h => h) (.inl ⟨by rfl, by intro W' hS; go_simp⟩) hH ?_
       try simp only [Act.put, aset]
       refine tk 3 undef 41 rfl rfl (by kernel_rfl) (fun _ _ _ h => h) (.inr ⟨by kernel_rfl, rfl⟩) hH ?_
       try simp only [Act.put, aset]
       refine tk 4 undef 42 rfl rfl (by kernel_rfl) (fun _ _ _ h => h) (.inr ⟨by kernel_rfl, rfl⟩) hH ?_
       try simp only [Act.put, aset]
       refine tk 5 undef 43 rfl rfl (by kernel_rfl) (fun _ _ _ h => h) (.inr ⟨by kernel_rfl, rfl⟩) hH ?_
       try simp only [Act.put, aset]
       refine tk 6 undef 44 rfl rfl (by kernel_rfl) (fun _ _ _ h => h) (.inr ⟨by kernel_rfl, rfl⟩) hH ?_
       try simp only [Act.put, aset]
       refine tk 7 undef 45 rfl rfl (by kernel_rfl) (fun _ _ _ h => h) (.inr ⟨by kernel_rfl, rfl⟩) hH ?_
       try simp only [Act.put, aset]
       refine tk 8 undef 46 rfl rfl (by kernel_rfl) (fun _ _ _ h => h) (.inr ⟨by kernel_rfl, rfl⟩) hH ?_
       try simp only [Act.put, aset]
       refine tk 9 undef 47 rfl rfl (by kernel_rfl) (fun _ _ _ h => h) (.inr ⟨by kernel_rfl, rfl⟩) hH ?_
       try simp only [Act.put, aset]
       refine tk 10 undef 48 rfl rfl (by kernel_rfl) (fun _ _ _ h => h) (.inr ⟨by kernel_rfl, rfl⟩) hH ?_
       try simp only [Act.put, aset]
       refine tk 11 undef 49 rfl rfl (by kernel_rfl) (fun _ _ _ h => h) (.inr ⟨by kernel_rfl, rfl⟩) hH ?_
       try simp only [Act.put, aset]
       refine tk 12 undef 50 rfl rfl (by kernel_rfl) (fun _ _ _ h => h) (.inr ⟨by kernel_rfl, rfl⟩) hH ?_
       try simp only [Act.put, aset]
       refine tk 13 undef 51 rfl rfl (by kernel_rfl) (fun _ _ _ h => h) (.inr ⟨by kernel_rfl, rfl⟩) hH ?_
       try simp only [Act.put, aset]
       refine tk 14 undef 52 rfl rfl (by kernel_rfl) (fun _ _ _ h => h) (.inr ⟨by kernel_rfl, rfl⟩) hH ?_
       try simp only [Act.put, aset]
       refine tk 15 (.bool false) 53 rfl rfl (by kernel_rfl) (fun _ _ _ h => h) (.inl ⟨by rfl, by intro W' hS; go_simp⟩) hH ?_
       try simp only [Act.put, aset]
       refine wpAnyH_done (by kernel_rfl) ?_ _
       go_wp2_with fail
       go_roundw
       case rel => exact ⟨k + 1, by go_num, by omega, steps_succ HT.out ((HS0.out hk0).trans HQ.out), hH⟩
       case measure => simp [intOf]; omega
      case neg =>
       have hg0 : (0 : Int) < (k : Int) := by omega
       have hk1 : 0 < k := by omega
       have j0 : (0 : Int) ≤ (k : Int) - 1 := by omega
       have j1 : (k : Int) - 1 < (n : Int) := by omega
       obtain ⟨b', off', hA', hbB', ry⟩ := RP.out hk1
       have hs1 := HS1.out hk1
       obtain ⟨y, hyk⟩ : ∃ y, xs[k - 1]'(by omega) = y := ⟨_, rfl⟩
       rw [hyk] at ry hs1
       have HS2 := Lib.hid hs1
       obtain ⟨eb, eo⟩ : b' = b ∧ off' = off := by injection hA' with hA'; injection hA' with h1 h2; exact ⟨h1.symm, h2.symm⟩
       rw [eb, eo] at ry
       rw [eb] at hbB'
       have RY := Lib.hid ry
       have jt : ((k : Int) - 1).toNat = k - 1 := by omega
       have jw : IntKind.i64.wrap ((k : Int) - 1) = (k : Int) - 1 := by rw [IntKind.wrap_i64]; omega
       have jx : ¬ (k : Int) < 1 := by omega
       clear hyk hs1 hA' eb eo b' off' ry
       go_wp2_with fail
       by_cases hcc : x.cl ≤ y.cl
       case pos =>
        have HLT := Lib.hid (show dlt y x = false from decide_eq_false (by omega))
        refine wp_region_held_drew (S := (fun W' => Below w.heap.size w W')) (by kernel_rfl) hb1.drew (fun hH => ?_)
        refine tk 0 (.int .i64 k) 38 rfl rfl (by kernel_rfl) (fun _ _ _ h => h) (.inl ⟨by rfl, by intro W' hS; go_simp⟩) hH ?_
        try simp only [Act.put, aset]
        refine tk 1 (.bool true) 39 rfl rfl (by kernel_rfl) (fun _ _ _ h => h) (.inl ⟨by rfl, by intro W' hS; go_simp⟩) hH ?_
        try simp only [Act.put, aset]
        refine tk 2 (.bool true) 40 rfl rfl (by kernel_rfl) (fun _ _ _ h => h) (.inl ⟨by rfl, by intro W' hS; go_simp⟩) hH ?_
        try simp only [Act.put, aset]
        refine tk 3 (.slice (some ⟨b, off, none⟩) n c) 41 rfl rfl (by kernel_rfl) (fun _ _ _ h => h) (.inl ⟨by rfl, by intro W' hS; go_simp⟩) hH ?_
        try simp only [Act.put, aset]
        refine tk 4 (.int .i64 k) 42 rfl rfl (by kernel_rfl) (fun _ _ _ h => h) (.inl ⟨by rfl, by intro W' hS; go_simp⟩) hH ?_
        try simp only [Act.put, aset]
        refine tk 5 (.int .i64 ((k : Int) - 1)) 43 rfl rfl (by kernel_rfl) (fun _ _ _ h => h) (.inl ⟨by rfl, by intro W' hS; go_simp⟩) hH ?_
        try simp only [Act.put, aset]
        refine tk 6 (.pointer (some ⟨b, off + (k - 1) * 11, none⟩)) 44 rfl rfl (by kernel_rfl) (fun _ _ _ h => h) (.inl ⟨by rfl, by intro W' hS; go_simp⟩) hH ?_
        try simp only [Act.put, aset]
        refine tk 7 (.pointer (some ⟨b, off + (k - 1) * 11, none⟩)) 45 rfl rfl (by kernel_rfl) (fun _ _ _ h => h) (.inl ⟨by rfl, by intro W' hS; go_simp⟩) hH ?_
        try simp only [Act.put, aset]
        refine tk 8 (.int .i64 y.cl) 46 rfl rfl (by kernel_rfl) (fun _ _ _ h => h) (.inl ⟨by rfl, by intro W' hS; have hc : W'.cell? ⟨b, off + (k - 1) * 11, none⟩ = some (.int .i64 y.cl) := rng0 (rng_below RY.out hS hbB'); go_simp⟩) hH ?_
        try simp only [Act.put, aset]
        refine tk 9 (.slice (some ⟨b, off, none⟩) n c) 47 rfl rfl (by kernel_rfl) (fun _ _ _ h => h) (.inl ⟨by rfl, by intro W' hS; go_simp⟩) hH ?_
        try simp only [Act.put, aset]
        refine tk 10 (.int .i64 k) 48 rfl rfl (by kernel_rfl) (fun _ _ _ h => h) (.inl ⟨by rfl, by intro W' hS; go_simp⟩) hH ?_
        try simp only [Act.put, aset]
        refine tk 11 (.pointer (some ⟨b, off + k * 11, none⟩)) 49 rfl rfl (by kernel_rfl) (fun _ _ _ h => h) (.inl ⟨by rfl, by intro W' hS; go_simp⟩) hH ?_
        try simp only [Act.put, aset]
        refine tk 12 (.pointer (some ⟨b, off + k * 11, none⟩)) 50 rfl rfl (by kernel_rfl) (fun _ _ _ h => h) (.inl ⟨by rfl, by intro W' hS; go_simp⟩) hH ?_
        try simp only [Act.put, aset]
        refine tk 13 (.int .i64 x.cl) 51 rfl rfl (by kernel_rfl) (fun _ _ _ h => h) (.inl ⟨by rfl, by intro W' hS; have hc : W'.cell? ⟨b, off + k * 11, none⟩ = some (.int .i64 x.cl) := rng0 (rng_below RX.out hS hbB); go_simp⟩) hH ?_
        try simp only [Act.put, aset]
        refine tk 14 (.bool true) 52 rfl rfl (by kernel_rfl) (fun _ _ _ h => h) (.inl ⟨by rfl, by intro W' hS; go_simp⟩) hH ?_
        try simp only [Act.put, aset]
        refine tk 15 (.bool true) 53 rfl rfl (by kernel_rfl) (fun _ _ _ h => h) (.inl ⟨by rfl, by intro W' hS; go_simp⟩) hH ?_
        try simp only [Act.put, aset]
        refine wpAnyH_done (by kernel_rfl) ?_ _
        have hv : r = false := by rw [← HV.out, ddB, HF.out (by rw [HS2.out, HQ.out, HLT.out]; rfl), Bool.and_false]
        subst hv
        go_wp2
        go_ret
        exact ⟨rfl, hH⟩
       case neg =>
        have HLT := Lib.hid (show dlt y x = true from decide_eq_true (by omega))
        refine wp_region_held_drew (S := (fun W' => Below w.heap.size w W')) (by kernel_rfl) hb1.drew (fun hH => ?_)
        refine tk 0 (.int .i64 k) 38 rfl rfl (by kernel_rfl) (fun _ _ _ h => h) (.inl ⟨by rfl, by intro W' hS; go_simp⟩) hH ?_
        try simp only [Act.put, aset]
        refine tk 1 (.bool true) 39 rfl rfl (by kernel_rfl) (fun _ _ _ h => h) (.inl ⟨by rfl, by intro W' hS; go_simp⟩) hH ?_
        try simp only [Act.put, aset]
        refine tk 2 (.bool true) 40 rfl rfl (by kernel_rfl) (fun _ _ _ h => h) (.inl ⟨by rfl, by intro W' hS; go_simp⟩) hH ?_
        try simp only [Act.put, aset]
        refine tk 3 (.slice (some ⟨b, off, none⟩) n c) 41 rfl rfl (by kernel_rfl) (fun _ _ _ h => h) (.inl ⟨by rfl, by intro W' hS; go_simp⟩) hH ?_
        try simp only [Act.put, aset]
        refine tk 4 (.int .i64 k) 42 rfl rfl (by kernel_rfl) (fun _ _ _ h => h) (.inl ⟨by rfl, by intro W' hS; go_simp⟩) hH ?_
        try simp only [Act.put, aset]
        refine tk 5 (.int .i64 ((k : Int) - 1)) 43 rfl rfl (by kernel_rfl) (fun _ _ _ h => h) (.inl ⟨by rfl, by intro W' hS; go_simp⟩) hH ?_
        try simp only [Act.put, aset]
        refine tk 6 (.pointer (some ⟨b, off + (k - 1) * 11, none⟩)) 44 rfl rfl (by kernel_rfl) (fun _ _ _ h => h) (.inl ⟨by rfl, by intro W' hS; go_simp⟩) hH ?_
        try simp only [Act.put, aset]
        refine tk 7 (.pointer (some ⟨b, off + (k - 1) * 11, none⟩)) 45 rfl rfl (by kernel_rfl) (fun _ _ _ h => h) (.inl ⟨by rfl, by intro W' hS; go_simp⟩) hH ?_
        try simp only [Act.put, aset]
        refine tk 8 (.int .i64 y.cl) 46 rfl rfl (by kernel_rfl) (fun _ _ _ h => h) (.inl ⟨by rfl, by intro W' hS; have hc : W'.cell? ⟨b, off + (k - 1) * 11, none⟩ = some (.int .i64 y.cl) := rng0 (rng_below RY.out hS hbB'); go_simp⟩) hH ?_
        try simp only [Act.put, aset]
        refine tk 9 (.slice (some ⟨b, off, none⟩) n c) 47 rfl rfl (by kernel_rfl) (fun _ _ _ h => h) (.inl ⟨by rfl, by intro W' hS; go_simp⟩) hH ?_
        try simp only [Act.put, aset]
        refine tk 10 (.int .i64 k) 48 rfl rfl (by kernel_rfl) (fun _ _ _ h => h) (.inl ⟨by rfl, by intro W' hS; go_simp⟩) hH ?_
        try simp only [Act.put, aset]
        refine tk 11 (.pointer (some ⟨b, off + k * 11, none⟩)) 49 rfl rfl (by kernel_rfl) (fun _ _ _ h => h) (.inl ⟨by rfl, by intro W' hS; go_simp⟩) hH ?_
        try simp only [Act.put, aset]
        refine tk 12 (.pointer (some ⟨b, off + k * 11, none⟩)) 50 rfl rfl (by kernel_rfl) (fun _ _ _ h => h) (.inl ⟨by rfl, by intro W' hS; go_simp⟩) hH ?_
        try simp only [Act.put, aset]
        refine tk 13 (.int .i64 x.cl) 51 rfl rfl (by kernel_rfl) (fun _ _ _ h => h) (.inl ⟨by rfl, by intro W' hS; have hc : W'.cell? ⟨b, off + k * 11, none⟩ = some (.int .i64 x.cl) := rng0 (rng_below RX.out hS hbB); go_simp⟩) hH ?_
        try simp only [Act.put, aset]
        refine tk 14 (.bool false) 52 rfl rfl (by kernel_rfl) (fun _ _ _ h => h) (.inl ⟨by rfl, by intro W' hS; go_simp⟩) hH ?_
        try simp only [Act.put, aset]
        refine tk 15 (.bool false) 53 rfl rfl (by kernel_rfl) (fun _ _ _ h => h) (.inl ⟨by rfl, by intro W' hS; go_simp⟩) hH ?_
        try simp only [Act.put, aset]
        refine wpAnyH_done (by kernel_rfl) ?_ _
        go_wp2_with fail
        go_roundw
        case rel => exact ⟨k + 1, by go_num, by omega, steps_succ HT.out (by rw [HS2.out, HQ.out, HLT.out]; rfl), hH⟩
        case measure => simp [intOf]; omega
  case neg =>
   have hrow : rowB dnB dlt xs = true := rowB_true (fun j hj => HT.out j (by omega))
   have hv : r = true := by rw [← HV.out, ddB, hrow, hx, decide_eq_true hl]; rfl
   subst hv
   clear hrow
   go_wp2
   go_ret
   exact ⟨rfl, hb⟩
end Go.Proofs.YtkoligiilieboaaGreatDoor
