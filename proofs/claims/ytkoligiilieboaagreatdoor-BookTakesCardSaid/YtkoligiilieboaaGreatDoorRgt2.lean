/- chain.Right, index.Right: whether a chain of versions, an index, is right. -/
import Derived.Test.YtkoligiilieboaaGreatDoorRgt
import Derived.Test.YtkoligiilieboaaGreatDoorBkJ
import Derived.Test.YtkoligiilieboaaGreatDoorSpanW2
set_option linter.unusedSimpArgs false
set_option linter.unusedVariables false
namespace Go.Proofs.YtkoligiilieboaaGreatDoor
open Go.RowKit
attribute [local go_sem] ByteArray.mk_append_mk ByteArray.extract_mk
attribute [local go_sem ↓] Go.wp_at_zero Go.wp_at_succ
structure OneB (w : World) (g : Nat) (T : TypeId) (cs : Array Value) (W : World) : Prop where
 below : Below w.heap.size w W
 b : Blk W g T cs
section
variable {w W W' : World} {g : Nat} {T : TypeId} {cs : Array Value}
theorem OneB.drew (H : OneB w g T cs W) : OneB w g T cs W.drew := ⟨H.below.drew, H.b.drew⟩
theorem OneB.call (H : OneB w g T cs W) (d : Below W.heap.size W W') : OneB w g T cs W' := ⟨bt H.below d, H.b.keep d⟩
theorem OneB.new {cs0 : Array Value} (hb : Below w.heap.size w W) (vs : Array Value) : ∀ w', w' = (W.alloc (.cells cs0 T)).setRow W.heap.size vs → OneB w W.heap.size T vs w' := by
 rintro _ rfl
 exact ⟨below_row (bal hb _) hb.size _, (Blk.new W T cs0).row _⟩
end
theorem rng_pre {w : World} {b o : Nat} {out more : List Value} (h : w.rangeAt b o (out ++ more)) : w.rangeAt b o out := fun j v hv => h j v (by rw [List.getElem?_append_left (List.getElem?_eq_some_iff.1 hv).1]; exact hv)
set_option maxHeartbeats 12800000 in
set_option maxRecDepth 100000 in
theorem chright_any (A : Option Addr) (n c : Nat) (xs : List Vs) (hx : xs.length = n) (hm : n ≤ 9223372036854775807) (w : World) (hR : RdR vsC 5 w w.heap.size A xs) :
  Calls Tryz.prog 103 #[.slice A n c] w fun e w' => e = .returned (.bool (chB xs)) ∧ Below w.heap.size w w' := by
 obtain ⟨r, hr⟩ : ∃ r, chB xs = r := ⟨_, rfl⟩
 rw [hr]
 have HV := Lib.hid hr
 clear hr
 go_enter Tryz.func103, Tryz.ntmps103
 go_wp2_with fail
 go_loopw [7] (fun i wr => ∃ k : Nat, i = .int .i64 k ∧ k ≤ n ∧ (∀ j, j < k → stepB vsB vlt xs j = true) ∧ Below w.heap.size w wr) (fun i _ => n - (intOf i).toNat)
 case atStart => exact ⟨0, rfl, Nat.zero_le _, (fun j hj => absurd hj (Nat.not_lt_zero _)), Below.refl _ _⟩
 case round =>
  obtain ⟨k, rfl, hk, ht, hb⟩ := hrel
  have i0 : (0 : Int) ≤ (k : Int) := by omega
  have HT := Lib.hid ht
  clear ht
  by_cases hlt : k < n
  case pos =>
   have i1 : (k : Int) < (n : Int) := by omega
   have hs0 := fun (h : k = 0) => show stepB vsB vlt xs k = vsB (xs[k]'(by omega)) by subst h; exact stepB_zero (by omega)
   have hs1 := fun (h : 0 < k) => show stepB vsB vlt xs k = (vsB (xs[k]'(by omega)) && vlt (xs[k - 1]'(by omega)) (xs[k]'(by omega))) by obtain ⟨j, rfl⟩ : ∃ j, k = j + 1 := ⟨k - 1, by omega⟩; exact stepB_succ (by omega)
   have hf := fun (h : stepB vsB vlt xs k = false) => (rowB_false (ok := vsB) (lt := vlt) (l := xs) (by omega) h)
   obtain ⟨b, off, rfl, hbB, rx⟩ := rowc hR k (by omega)
   have rp := fun (h : 0 < k) => hR.at (k - 1) (by omega)
   obtain ⟨x, hxk⟩ : ∃ x, xs[k]'(by omega) = x := ⟨_, rfl⟩
   rw [hxk] at rx
   simp only [hxk] at hs0 hs1
   have HS0 := Lib.hid hs0
   have HS1 := Lib.hid hs1
   have HF := Lib.hid hf
   have RP := Lib.hid rp
   clear hxk hs0 hs1 hf rp
   have x0 : wr.cell? ⟨b, off + k * 5, none⟩ = some (.int .i64 x.a) := (hb.cell (p := ⟨b, _, none⟩) hbB).trans (rx 0 _ rfl)
   have x1 : wr.cell? ⟨b, off + k * 5 + 1, none⟩ = some (.int .i64 x.t) := (hb.cell (p := ⟨b, _, none⟩) hbB).trans (rx 1 _ rfl)
   have x2 : wr.cell? ⟨b, off + k * 5 + 2, none⟩ = some (.int .i64 x.n) := (hb.cell (p := ⟨b, _, none⟩) hbB).trans (rx 2 _ rfl)
   have x3 : wr.cell? ⟨b, off + k * 5 + 3, none⟩ = some (.bool x.gone) := (hb.cell (p := ⟨b, _, none⟩) hbB).trans (rx 3 _ rfl)
   have x4 : wr.cell? ⟨b, off + k * 5 + 4, none⟩ = some (.string ⟨x.val.toArray⟩) := (hb.cell (p := ⟨b, _, none⟩) hbB).trans (rx 4 _ rfl)
   have D := OneB.new (T := 105) (cs0 := #[.int .i64 0, .int .i64 0, .int .i64 0, .bool false, .string ⟨#[]⟩]) hb #[.int .i64 x.a, .int .i64 x.t, .int .i64 x.n, .bool x.gone, .string ⟨x.val.toArray⟩]
   have G : Blk (wr.alloc (.cells #[.int .i64 0, .int .i64 0, .int .i64 0, .bool false, .string ⟨#[]⟩] 105)) wr.heap.size 105 #[.int .i64 0, .int .i64 0, .int .i64 0, .bool false, .string ⟨#[]⟩] := Blk.new wr _ _
   have hwr := hb.size
   go_wp2_with (with_reducible refine wpl_st G (by with_unfolding_all rfl) _ _ _ (by with_unfolding_all rfl) #[.int .i64 x.a, .int .i64 x.t, .int .i64 x.n, .bool x.gone, .string ⟨x.val.toArray⟩] (by with_unfolding_all rfl) (by with_unfolding_all rfl) (by with_unfolding_all rfl) (by with_unfolding_all rfl) (by with_unfolding_all rfl) ?_; refine Classical.byContradiction fun hno => ?_)
   refine hno ?_
   clear hno
   intro w1 e1
   have S1 := D w1 e1
   clear e1 D G x0 x1 x2 x3 x4
   generalize wr.heap.size = gx at *
   go_wp2_with fail
   refine wp_region_held_drew (S := (fun W' => OneB w gx 105 (vsA x) W')) (by kernel_rfl) S1.drew (fun hH => ?_)
   refine tk 0 (.agg (vsA x)) 12 rfl rfl (by kernel_rfl) (fun _ _ _ h => h) (yif_ld (by rfl) 105 _ rfl (by rfl) (fun _ h => h.b) _ Tryz.underlying105 (by with_unfolding_all rfl) (by with_unfolding_all rfl)) hH ?_
   try simp only [Act.put, aset]
   refine wpAnyH_ready (rs := [1]) (by kernel_rfl) (by simp) ?_
   refine AllReadyH.cons rfl (fun K hK => ?_) AllReadyH.nil
   go_simp
   refine (vright_any x _).mono ?_
   rintro e v2 ⟨rfl, d2⟩
   have S2 := hH.call d2
   clear hH d2
   obtain ⟨q, hq⟩ : ∃ q, vsB x = q := ⟨_, rfl⟩
   rw [hq]
   have HQ := Lib.hid hq
   clear hq
   cases q
   case false =>
    refine hK.out _ _ S2 (fun hH => ?_)
    clear hK K
    try simp only [Act.put, aset]
    refine tk 2 (.bool true) 14 rfl rfl (by kernel_rfl) (fun _ _ _ h => h) (.inl ⟨by rfl, by intro W' hS; go_simp⟩) hH ?_
    try simp only [Act.put, aset]
    refine tk 3 (.bool true) 15 rfl rfl (by kernel_rfl) (fun _ _ _ h => h) (.inl ⟨by rfl, by intro W' hS; go_simp⟩) hH ?_
    try simp only [Act.put, aset]
    refine tk 4 undef 16 rfl rfl (by kernel_rfl) (fun _ _ _ h => h) (.inr ⟨by kernel_rfl, rfl⟩) hH ?_
    try simp only [Act.put, aset]
    refine tk 5 undef 17 rfl rfl (by kernel_rfl) (fun _ _ _ h => h) (.inr ⟨by kernel_rfl, rfl⟩) hH ?_
    try simp only [Act.put, aset]
    refine tk 6 undef 18 rfl rfl (by kernel_rfl) (fun _ _ _ h => h) (.inr ⟨by kernel_rfl, rfl⟩) hH ?_
    try simp only [Act.put, aset]
    refine tk 7 undef 19 rfl rfl (by kernel_rfl) (fun _ _ _ h => h) (.inr ⟨by kernel_rfl, rfl⟩) hH ?_
    try simp only [Act.put, aset]
    refine tk 8 undef 20 rfl rfl (by kernel_rfl) (fun _ _ _ h => h) (.inr ⟨by kernel_rfl, rfl⟩) hH ?_
    try simp only [Act.put, aset]
    refine tk 9 undef 21 rfl rfl (by kernel_rfl) (fun _ _ _ h => h) (.inr ⟨by kernel_rfl, rfl⟩) hH ?_
    try simp only [Act.put, aset]
    refine tk 10 undef 22 rfl rfl (by kernel_rfl) (fun _ _ _ h => h) (.inr ⟨by kernel_rfl, rfl⟩) hH ?_
    try simp only [Act.put, aset]
    refine tk 11 undef 23 rfl rfl (by kernel_rfl) (fun _ _ _ h => h) (.inr ⟨by kernel_rfl, rfl⟩) hH ?_
    try simp only [Act.put, aset]
    refine tk 12 undef 24 rfl rfl (by kernel_rfl) (fun _ _ _ h => h) (.inr ⟨by kernel_rfl, rfl⟩) hH ?_
    try simp only [Act.put, aset]
    refine tk 13 undef 25 rfl rfl (by kernel_rfl) (fun _ _ _ h => h) (.inr ⟨by kernel_rfl, rfl⟩) hH ?_
    try simp only [Act.put, aset]
    refine tk 14 undef 26 rfl rfl (by kernel_rfl) (fun _ _ _ h => h) (.inr ⟨by kernel_rfl, rfl⟩) hH ?_
    try simp only [Act.put, aset]
    refine wpAnyH_ready (rs := [15]) (by kernel_rfl) (by simp) ?_
    refine AllReadyH.cons rfl (fun K hK => ?_) AllReadyH.nil
    go_simp
    refine hK.out _ _ hH (fun hH => ?_)
    clear hK K
    try simp only [Act.put, aset]
    refine tk 16 undef 28 rfl rfl (by kernel_rfl) (fun _ _ _ h => h) (.inr ⟨by kernel_rfl, rfl⟩) hH ?_
    try simp only [Act.put, aset]
    refine tk 17 undef 29 rfl rfl (by kernel_rfl) (fun _ _ _ h => h) (.inr ⟨by kernel_rfl, rfl⟩) hH ?_
    try simp only [Act.put, aset]
    refine tk 18 (.bool true) 30 rfl rfl (by kernel_rfl) (fun _ _ _ h => h) (.inl ⟨by rfl, by intro W' hS; go_simp⟩) hH ?_
    try simp only [Act.put, aset]
    refine wpAnyH_done (by kernel_rfl) ?_ _
    go_wp2
    go_ret
    exact ⟨by rw [← HV.out, chB, HF.out (if h0 : k = 0 then (HS0.out h0).trans HQ.out else (HS1.out (by omega)).trans (by rw [HQ.out]; rfl))]; simp, S2.below⟩
   case true =>
    by_cases hk0 : k = 0
    case pos =>
     have hg0 : ¬ (0 : Int) < (k : Int) := by omega
     refine hK.out _ _ S2 (fun hH => ?_)
     clear hK K
     try simp only [Act.put, aset]
     refine tk 2 (.bool false) 14 rfl rfl (by kernel_rfl) (fun _ _ _ h => h) (.inl ⟨by rfl, by intro W' hS; go_simp⟩) hH ?_
     try simp only [Act.put, aset]
     refine tk 3 (.bool false) 15 rfl rfl (by kernel_rfl) (fun _ _ _ h => h) (.inl ⟨by rfl, by intro W' hS; go_simp⟩) hH ?_
     try simp only [Act.put, aset]
     refine tk 4 (.int .i64 k) 16 rfl rfl (by kernel_rfl) (fun _ _ _ h => h) (.inl ⟨by rfl, by intro W' hS; go_simp⟩) hH ?_
     try simp only [Act.put, aset]
     refine tk 5 (.bool false) 17 rfl rfl (by kernel_rfl) (fun _ _ _ h => h) (.inl ⟨by rfl, by intro W' hS; go_simp⟩) hH ?_
     try simp only [Act.put, aset]
     refine tk 6 (.bool false) 18 rfl rfl (by kernel_rfl) (fun _ _ _ h => h) (.inl ⟨by rfl, by intro W' hS; go_simp⟩) hH ?_
     try simp only [Act.put, aset]
     refine tk 7 undef 19 rfl rfl (by kernel_rfl) (fun _ _ _ h => h) (.inr ⟨by kernel_rfl, rfl⟩) hH ?_
     try simp only [Act.put, aset]
     refine tk 8 undef 20 rfl rfl (by kernel_rfl) (fun _ _ _ h => h) (.inr ⟨by kernel_rfl, rfl⟩) hH ?_
     try simp only [Act.put, aset]
     refine tk 9 undef 21 rfl rfl (by kernel_rfl) (fun _ _ _ h => h) (.inr ⟨by kernel_rfl, rfl⟩) hH ?_
     try simp only [Act.put, aset]
     refine tk 10 undef 22 rfl rfl (by kernel_rfl) (fun _ _ _ h => h) (.inr ⟨by kernel_rfl, rfl⟩) hH ?_
     try simp only [Act.put, aset]
     refine tk 11 undef 23 rfl rfl (by kernel_rfl) (fun _ _ _ h => h) (.inr ⟨by kernel_rfl, rfl⟩) hH ?_
     try simp only [Act.put, aset]
     refine tk 12 undef 24 rfl rfl (by kernel_rfl) (fun _ _ _ h => h) (.inr ⟨by kernel_rfl, rfl⟩) hH ?_
     try simp only [Act.put, aset]
     refine tk 13 undef 25 rfl rfl (by kernel_rfl) (fun _ _ _ h => h) (.inr ⟨by kernel_rfl, rfl⟩) hH ?_
     try simp only [Act.put, aset]
     refine tk 14 undef 26 rfl rfl (by kernel_rfl) (fun _ _ _ h => h) (.inr ⟨by kernel_rfl, rfl⟩) hH ?_
     try simp only [Act.put, aset]
     refine wpAnyH_ready (rs := [15]) (by kernel_rfl) (by simp) ?_
     refine AllReadyH.cons rfl (fun K hK => ?_) AllReadyH.nil
     go_simp
     refine hK.out _ _ hH (fun hH => ?_)
     clear hK K
     try simp only [Act.put, aset]
     refine tk 16 undef 28 rfl rfl (by kernel_rfl) (fun _ _ _ h => h) (.inr ⟨by kernel_rfl, rfl⟩) hH ?_
     try simp only [Act.put, aset]
     refine tk 17 (.bool false) 29 rfl rfl (by kernel_rfl) (fun _ _ _ h => h) (.inl ⟨by rfl, by intro W' hS; go_simp⟩) hH ?_
     try simp only [Act.put, aset]
     refine tk 18 (.bool false) 30 rfl rfl (by kernel_rfl) (fun _ _ _ h => h) (.inl ⟨by rfl, by intro W' hS; go_simp⟩) hH ?_
     try simp only [Act.put, aset]
     refine wpAnyH_done (by kernel_rfl) ?_ _
     go_wp2_with fail
     go_roundw
     case rel => exact ⟨k + 1, by go_num, by omega, steps_succ HT.out (by rw [HS0.out hk0]; exact HQ.out), S2.below⟩
     case measure => simp [intOf]; omega
    case neg =>
     have hg0 : (0 : Int) < (k : Int) := by omega
     have hk1 : 0 < k := by omega
     have j0 : (0 : Int) ≤ (k : Int) - 1 := by omega
     have j1 : (k : Int) - 1 < (n : Int) := by omega
     obtain ⟨b', off', hA', hbB', ry⟩ := RP.out hk1
     have hs1 := HS1.out hk1
     obtain ⟨y, hyk⟩ : ∃ y, xs[k - 1]'(by omega) = y := ⟨_, rfl⟩
     rw [hyk] at ry hs1
     have HS2 := Lib.hid hs1
     obtain ⟨eb, eo⟩ : b' = b ∧ off' = off := by injection hA' with hA'; injection hA' with h1 h2; exact ⟨h1.symm, h2.symm⟩
     rw [eb, eo] at ry
     rw [eb] at hbB'
     have jt : ((k : Int) - 1).toNat = k - 1 := by omega
     have jw : IntKind.i64.wrap ((k : Int) - 1) = (k : Int) - 1 := by rw [IntKind.wrap_i64]; omega
     have jx : ¬ (k : Int) < 1 := by omega
     clear hyk hs1 hA' eb eo b' off'
     refine hK.out _ _ S2 (fun hH => ?_)
     clear hK K
     try simp only [Act.put, aset]
     refine tk 2 (.bool false) 14 rfl rfl (by kernel_rfl) (fun _ _ _ h => h) (.inl ⟨by rfl, by intro W' hS; go_simp⟩) hH ?_
     try simp only [Act.put, aset]
     refine tk 3 (.bool false) 15 rfl rfl (by kernel_rfl) (fun _ _ _ h => h) (.inl ⟨by rfl, by intro W' hS; go_simp⟩) hH ?_
     try simp only [Act.put, aset]
     refine tk 4 (.int .i64 k) 16 rfl rfl (by kernel_rfl) (fun _ _ _ h => h) (.inl ⟨by rfl, by intro W' hS; go_simp⟩) hH ?_
     try simp only [Act.put, aset]
     refine tk 5 (.bool true) 17 rfl rfl (by kernel_rfl) (fun _ _ _ h => h) (.inl ⟨by rfl, by intro W' hS; go_simp⟩) hH ?_
     try simp only [Act.put, aset]
     refine tk 6 (.bool true) 18 rfl rfl (by kernel_rfl) (fun _ _ _ h => h) (.inl ⟨by rfl, by intro W' hS; go_simp⟩) hH ?_
     try simp only [Act.put, aset]
     refine tk 7 (.slice (some ⟨b, off, none⟩) n c) 19 rfl rfl (by kernel_rfl) (fun _ _ _ h => h) (.inl ⟨by rfl, by intro W' hS; go_simp⟩) hH ?_
     try simp only [Act.put, aset]
     refine tk 8 (.int .i64 k) 20 rfl rfl (by kernel_rfl) (fun _ _ _ h => h) (.inl ⟨by rfl, by intro W' hS; go_simp⟩) hH ?_
     try simp only [Act.put, aset]
     refine tk 9 (.int .i64 ((k : Int) - 1)) 21 rfl rfl (by kernel_rfl) (fun _ _ _ h => h) (.inl ⟨by rfl, by intro W' hS; go_simp⟩) hH ?_
     try simp only [Act.put, aset]
     refine tk 10 (.pointer (some ⟨b, off + (k - 1) * 5, none⟩)) 22 rfl rfl (by kernel_rfl) (fun _ _ _ h => h) (.inl ⟨by rfl, by intro W' hS; go_simp⟩) hH ?_
     try simp only [Act.put, aset]
     refine tk 11 (.pointer (some ⟨b, off + (k - 1) * 5, none⟩)) 23 rfl rfl (by kernel_rfl) (fun _ _ _ h => h) (.inl ⟨by rfl, by intro W' hS; go_simp⟩) hH ?_
     try simp only [Act.put, aset]
     refine tk 12 (stampV y.a y.t y.n) 24 rfl rfl (by kernel_rfl) (fun _ _ _ h => h) (yieldsIf_load_mid (by rfl) 27 _ rfl (b) (off + (k - 1) * 5) (by rfl) [.int .i64 y.a, .int .i64 y.t, .int .i64 y.n] _ (fun _ h => (rng_pre (more := [.bool y.gone, .string ⟨y.val.toArray⟩]) (rng_below ry h.below hbB'))) Tryz.underlying27 (by with_unfolding_all rfl) (by with_unfolding_all rfl)) hH ?_
     try simp only [Act.put, aset]
     refine tk 13 (.pointer (some ⟨gx, 0, none⟩)) 25 rfl rfl (by kernel_rfl) (fun _ _ _ h => h) (.inl ⟨by rfl, by intro W' hS; go_simp⟩) hH ?_
     try simp only [Act.put, aset]
     refine tk 14 (stampV x.a x.t x.n) 26 rfl rfl (by kernel_rfl) (fun _ _ _ h => h) (yieldsIf_load_mid (by rfl) 27 _ rfl (gx) (0) (by rfl) [.int .i64 x.a, .int .i64 x.t, .int .i64 x.n] _ (fun _ h => Blk.range h.b 0 _ (by rfl)) Tryz.underlying27 (by with_unfolding_all rfl) (by with_unfolding_all rfl)) hH ?_
     try simp only [Act.put, aset]
     refine wpAnyH_ready (rs := [15]) (by kernel_rfl) (by simp) ?_
     refine AllReadyH.cons rfl (fun K hK => ?_) AllReadyH.nil
     go_simp
     refine (compare_any y.a y.t y.n x.a x.t x.n _).mono ?_
     rintro e v3 ⟨rfl, d3⟩
     have S3 := hH.call d3
     clear hH d3
     obtain ⟨cz, hcz⟩ : ∃ z, cmpS y.a y.t y.n x.a x.t x.n = z := ⟨_, rfl⟩
     rw [hcz]
     have HCZ := Lib.hid hcz
     clear hcz
     by_cases hcc : 0 ≤ cz
     case pos =>
      refine hK.out _ _ S3 (fun hH => ?_)
      clear hK K
      try simp only [Act.put, aset]
      refine tk 16 (.bool true) 28 rfl rfl (by kernel_rfl) (fun _ _ _ h => h) (.inl ⟨by rfl, by intro W' hS; go_simp⟩) hH ?_
      try simp only [Act.put, aset]
      refine tk 17 (.bool true) 29 rfl rfl (by kernel_rfl) (fun _ _ _ h => h) (.inl ⟨by rfl, by intro W' hS; go_simp⟩) hH ?_
      try simp only [Act.put, aset]
      refine tk 18 (.bool true) 30 rfl rfl (by kernel_rfl) (fun _ _ _ h => h) (.inl ⟨by rfl, by intro W' hS; go_simp⟩) hH ?_
      try simp only [Act.put, aset]
      refine wpAnyH_done (by kernel_rfl) ?_ _
      go_wp2
      go_ret
      exact ⟨by rw [← HV.out, chB, HF.out (by rw [HS2.out, HQ.out]; unfold vlt; rw [HCZ.out, Bool.true_and, decide_eq_false (by omega)])]; simp, S3.below⟩
     case neg =>
      refine hK.out _ _ S3 (fun hH => ?_)
      clear hK K
      try simp only [Act.put, aset]
      refine tk 16 (.bool false) 28 rfl rfl (by kernel_rfl) (fun _ _ _ h => h) (.inl ⟨by rfl, by intro W' hS; go_simp⟩) hH ?_
      try simp only [Act.put, aset]
      refine tk 17 (.bool false) 29 rfl rfl (by kernel_rfl) (fun _ _ _ h => h) (.inl ⟨by rfl, by intro W' hS; go_simp⟩) hH ?_
      try simp only [Act.put, aset]
      refine tk 18 (.bool false) 30 rfl rfl (by kernel_rfl) (fun _ _ _ h => h) (.inl ⟨by rfl, by intro W' hS; go_simp⟩) hH ?_
      try simp only [Act.put, aset]
      refine wpAnyH_done (by kernel_rfl) ?_ _
      go_wp2_with fail
      go_roundw
      case rel => exact ⟨k + 1, by go_num, by omega, steps_succ HT.out (by rw [HS2.out, HQ.out]; unfold vlt; rw [HCZ.out, Bool.true_and, decide_eq_true (by omega)]), S3.below⟩
      case measure => simp [intOf]; omega
  case neg =>
   have hke : k = n := by omega
   have hrow : rowB vsB vlt xs = true := rowB_true (by rw [hx, ← hke]; exact HT.out)
   have hv : r = decide (n ≤ 64) := by rw [← HV.out, chB, hrow, hx]; simp
   clear hrow
   by_cases h64 : n ≤ 64
   case pos =>
    have h65 : (n : Int) ≤ 64 := by omega
    have hv2 : r = true := by rw [hv]; simp [h64]
    subst hv2
    clear hv
    go_wp2
    go_ret
    exact ⟨rfl, hb⟩
   case neg =>
    have h65 : ¬ (n : Int) ≤ 64 := by omega
    have hv2 : r = false := by rw [hv]; simp [h64]
    subst hv2
    clear hv
    go_wp2
    go_ret
    exact ⟨rfl, hb⟩
set_option maxHeartbeats 12800000 in
set_option maxRecDepth 100000 in
theorem ixright_any (A : Option Addr) (n c : Nat) (xs : List En) (hx : xs.length = n) (hm : n ≤ 9223372036854775807) (w : World) (hR : RdR enC 2 w w.heap.size A xs) (hE : ∀ e ∈ xs, EnIn w w.heap.size e ∧ e.key.length ≤ 1099511627776) (hT : Go.Lib.Utf8Tabs 0 1 w) :
  Calls Tryz.prog 63 #[.slice A n c] w fun e w' => e = .returned (.bool (ixB xs)) ∧ Below w.heap.size w w' := by
 obtain ⟨r, hr⟩ : ∃ r, ixB xs = r := ⟨_, rfl⟩
 rw [hr]
 have HV := Lib.hid hr
 clear hr
 go_enter Tryz.func63, Tryz.ntmps63
 go_wp2_with fail
 go_loopw [7] (fun i wr => ∃ k : Nat, i = .int .i64 k ∧ k ≤ n ∧ (∀ j, j < k → stepB enB elt xs j = true) ∧ Below w.heap.size w wr) (fun i _ => n - (intOf i).toNat)
 case atStart => exact ⟨0, rfl, Nat.zero_le _, (fun j hj => absurd hj (Nat.not_lt_zero _)), Below.refl _ _⟩
 case round =>
  obtain ⟨k, rfl, hk, ht, hb⟩ := hrel
  have i0 : (0 : Int) ≤ (k : Int) := by omega
  have HT := Lib.hid ht
  clear ht
  by_cases hlt : k < n
  case pos =>
   have i1 : (k : Int) < (n : Int) := by omega
   have hs0 := fun (h : k = 0) => show stepB enB elt xs k = enB (xs[k]'(by omega)) by subst h; exact stepB_zero (by omega)
   have hs1 := fun (h : 0 < k) => show stepB enB elt xs k = (enB (xs[k]'(by omega)) && elt (xs[k - 1]'(by omega)) (xs[k]'(by omega))) by obtain ⟨j, rfl⟩ : ∃ j, k = j + 1 := ⟨k - 1, by omega⟩; exact stepB_succ (by omega)
   have hf := fun (h : stepB enB elt xs k = false) => (rowB_false (ok := enB) (lt := elt) (l := xs) (by omega) h)
   obtain ⟨b, off, rfl, hbB, rx⟩ := rowc hR k (by omega)
   obtain ⟨hin, hkl⟩ := hE (xs[k]'(by omega)) (List.getElem_mem (by omega))
   have hln := hin.len
   have rp := fun (h : 0 < k) => hR.at (k - 1) (by omega)
   obtain ⟨x, hxk⟩ : ∃ x, xs[k]'(by omega) = x := ⟨_, rfl⟩
   rw [hxk] at rx
   simp only [hxk] at hs0 hs1 hin hkl hln
   have HS0 := Lib.hid hs0
   have HS1 := Lib.hid hs1
   have HF := Lib.hid hf
   have RP := Lib.hid rp
   clear hxk hs0 hs1 hf rp
   have x0 : wr.cell? ⟨b, off + k * 2, none⟩ = some (.string ⟨x.key.toArray⟩) := (hb.cell (p := ⟨b, _, none⟩) hbB).trans (rx 0 _ rfl)
   have x1 : wr.cell? ⟨b, off + k * 2 + 1, none⟩ = some (.slice x.A x.n x.c) := (hb.cell (p := ⟨b, _, none⟩) hbB).trans (rx 1 _ rfl)
   have D := OneB.new (T := 100) (cs0 := #[.string ⟨#[]⟩, .slice none 0 0]) hb #[.string ⟨x.key.toArray⟩, .slice x.A x.n x.c]
   have G : Blk (wr.alloc (.cells #[.string ⟨#[]⟩, .slice none 0 0] 100)) wr.heap.size 100 #[.string ⟨#[]⟩, .slice none 0 0] := Blk.new wr _ _
   have hwr := hb.size
   go_wp2_with (with_reducible refine wpl_st G (by with_unfolding_all rfl) _ _ _ (by with_unfolding_all rfl) #[.string ⟨x.key.toArray⟩, .slice x.A x.n x.c] (by with_unfolding_all rfl) (by with_unfolding_all rfl) (by with_unfolding_all rfl) (by with_unfolding_all rfl) (by with_unfolding_all rfl) ?_; refine Classical.byContradiction fun hno => ?_)
   refine hno ?_
   clear hno
   intro w1 e1
   have S1 := D w1 e1
   clear e1 D G x0 x1
   generalize wr.heap.size = gx at *
   go_wp2_with fail
   refine wp_region_held_drew (S := (fun W' => OneB w gx 100 #[.string ⟨x.key.toArray⟩, .slice x.A x.n x.c] W')) (by kernel_rfl) S1.drew (fun hH => ?_)
   refine tk 0 (.pointer (some ⟨gx, 0, none⟩)) 12 rfl rfl (by kernel_rfl) (fun _ _ _ h => h) (.inl ⟨by rfl, by intro W' hS; go_simp⟩) hH ?_
   try simp only [Act.put, aset]
   refine tk 1 (.string ⟨x.key.toArray⟩) 13 rfl rfl (by kernel_rfl) (fun _ _ _ h => h) (.inl ⟨by rfl, by intro W' hS; have hc : W'.cell? ⟨gx, 0, none⟩ = some (.string ⟨x.key.toArray⟩) := hS.b.cell 0; go_simp⟩) hH ?_
   try simp only [Act.put, aset]
   refine wpAnyH_ready (rs := [2]) (by kernel_rfl) (by simp) ?_
   refine AllReadyH.cons rfl (fun K hK => ?_) AllReadyH.nil
   go_simp
   refine (keyright_any x.key (by omega) _ (Utf8Tabs_below hT hH.below)).mono ?_
   rintro e v2 ⟨rfl, d2⟩
   have S2 := hH.call d2
   clear hH d2
   obtain ⟨q, hq⟩ : ∃ q, rightL x.key = q := ⟨_, rfl⟩
   rw [hq]
   have HQ1 := Lib.hid hq
   clear hq
   cases q
   case false =>
    have hq : enB x = false := by simp [enB, HQ1.out]
    have HQ := Lib.hid hq
    clear hq
    refine hK.out _ _ S2 (fun hH => ?_)
    clear hK K
    try simp only [Act.put, aset]
    refine tk 3 (.bool true) 15 rfl rfl (by kernel_rfl) (fun _ _ _ h => h) (.inl ⟨by rfl, by intro W' hS; go_simp⟩) hH ?_
    try simp only [Act.put, aset]
    refine tk 4 (.bool true) 16 rfl rfl (by kernel_rfl) (fun _ _ _ h => h) (.inl ⟨by rfl, by intro W' hS; go_simp⟩) hH ?_
    try simp only [Act.put, aset]
    refine tk 5 undef 17 rfl rfl (by kernel_rfl) (fun _ _ _ h => h) (.inr ⟨by kernel_rfl, rfl⟩) hH ?_
    try simp only [Act.put, aset]
    refine tk 6 undef 18 rfl rfl (by kernel_rfl) (fun _ _ _ h => h) (.inr ⟨by kernel_rfl, rfl⟩) hH ?_
    try simp only [Act.put, aset]
    refine wpAnyH_ready (rs := [7]) (by kernel_rfl) (by simp) ?_
    refine AllReadyH.cons rfl (fun K hK => ?_) AllReadyH.nil
    go_simp
    refine hK.out _ _ hH (fun hH => ?_)
    clear hK K
    try simp only [Act.put, aset]
    refine tk 8 undef 20 rfl rfl (by kernel_rfl) (fun _ _ _ h => h) (.inr ⟨by kernel_rfl, rfl⟩) hH ?_
    try simp only [Act.put, aset]
    refine tk 9 (.bool true) 21 rfl rfl (by kernel_rfl) (fun _ _ _ h => h) (.inl ⟨by rfl, by intro W' hS; go_simp⟩) hH ?_
    try simp only [Act.put, aset]
    refine tk 10 (.bool true) 22 rfl rfl (by kernel_rfl) (fun _ _ _ h => h) (.inl ⟨by rfl, by intro W' hS; go_simp⟩) hH ?_
    try simp only [Act.put, aset]
    refine tk 11 undef 23 rfl rfl (by kernel_rfl) (fun _ _ _ h => h) (.inr ⟨by kernel_rfl, rfl⟩) hH ?_
    try simp only [Act.put, aset]
    refine tk 12 undef 24 rfl rfl (by kernel_rfl) (fun _ _ _ h => h) (.inr ⟨by kernel_rfl, rfl⟩) hH ?_
    try simp only [Act.put, aset]
    refine tk 13 undef 25 rfl rfl (by kernel_rfl) (fun _ _ _ h => h) (.inr ⟨by kernel_rfl, rfl⟩) hH ?_
    try simp only [Act.put, aset]
    refine tk 14 undef 26 rfl rfl (by kernel_rfl) (fun _ _ _ h => h) (.inr ⟨by kernel_rfl, rfl⟩) hH ?_
    try simp only [Act.put, aset]
    refine tk 15 (.bool true) 27 rfl rfl (by kernel_rfl) (fun _ _ _ h => h) (.inl ⟨by rfl, by intro W' hS; go_simp⟩) hH ?_
    try simp only [Act.put, aset]
    refine tk 16 (.bool true) 28 rfl rfl (by kernel_rfl) (fun _ _ _ h => h) (.inl ⟨by rfl, by intro W' hS; go_simp⟩) hH ?_
    try simp only [Act.put, aset]
    refine tk 17 undef 29 rfl rfl (by kernel_rfl) (fun _ _ _ h => h) (.inr ⟨by kernel_rfl, rfl⟩) hH ?_
    try simp only [Act.put, aset]
    refine tk 18 undef 30 rfl rfl (by kernel_rfl) (fun _ _ _ h => h) (.inr ⟨by kernel_rfl, rfl⟩) hH ?_
    try simp only [Act.put, aset]
    refine tk 19 undef 31 rfl rfl (by kernel_rfl) (fun _ _ _ h => h) (.inr ⟨by kernel_rfl, rfl⟩) hH ?_
    try simp only [Act.put, aset]
    refine tk 20 undef 32 rfl rfl (by kernel_rfl) (fun _ _ _ h => h) (.inr ⟨by kernel_rfl, rfl⟩) hH ?_
    try simp only [Act.put, aset]
    refine tk 21 undef 33 rfl rfl (by kernel_rfl) (fun _ _ _ h => h) (.inr ⟨by kernel_rfl, rfl⟩) hH ?_
    try simp only [Act.put, aset]
    refine tk 22 undef 34 rfl rfl (by kernel_rfl) (fun _ _ _ h => h) (.inr ⟨by kernel_rfl, rfl⟩) hH ?_
    try simp only [Act.put, aset]
    refine tk 23 undef 35 rfl rfl (by kernel_rfl) (fun _ _ _ h => h) (.inr ⟨by kernel_rfl, rfl⟩) hH ?_
    try simp only [Act.put, aset]
    refine tk 24 undef 36 rfl rfl (by kernel_rfl) (fun _ _ _ h => h) (.inr ⟨by kernel_rfl, rfl⟩) hH ?_
    try simp only [Act.put, aset]
    refine tk 25 undef 37 rfl rfl (by kernel_rfl) (fun _ _ _ h => h) (.inr ⟨by kernel_rfl, rfl⟩) hH ?_
    try simp only [Act.put, aset]
    refine tk 26 undef 38 rfl rfl (by kernel_rfl) (fun _ _ _ h => h) (.inr ⟨by kernel_rfl, rfl⟩) hH ?_
    try simp only [Act.put, aset]
    refine tk 27 undef 39 rfl rfl (by kernel_rfl) (fun _ _ _ h => h) (.inr ⟨by kernel_rfl, rfl⟩) hH ?_
    try simp only [Act.put, aset]
    refine wpAnyH_ready (rs := [28]) (by kernel_rfl) (by simp) ?_
    refine AllReadyH.cons rfl (fun K hK => ?_) AllReadyH.nil
    go_simp
    refine hK.out _ _ hH (fun hH => ?_)
    clear hK K
    try simp only [Act.put, aset]
    refine tk 29 undef 41 rfl rfl (by kernel_rfl) (fun _ _ _ h => h) (.inr ⟨by kernel_rfl, rfl⟩) hH ?_
    try simp only [Act.put, aset]
    refine tk 30 undef 42 rfl rfl (by kernel_rfl) (fun _ _ _ h => h) (.inr ⟨by kernel_rfl, rfl⟩) hH ?_
    try simp only [Act.put, aset]
    refine tk 31 (.bool true) 43 rfl rfl (by kernel_rfl) (fun _ _ _ h => h) (.inl ⟨by rfl, by intro W' hS; go_simp⟩) hH ?_
    try simp only [Act.put, aset]
    refine wpAnyH_done (by kernel_rfl) ?_ _
    go_wp2
    go_ret
    exact ⟨by rw [← HV.out, ixB, HF.out (if h0 : k = 0 then (HS0.out h0).trans HQ.out else (HS1.out (by omega)).trans (by rw [HQ.out]; rfl))]; simp, S2.below⟩
   case true =>
    refine hK.out _ _ S2 (fun hH => ?_)
    clear hK K
    try simp only [Act.put, aset]
    refine tk 3 (.bool false) 15 rfl rfl (by kernel_rfl) (fun _ _ _ h => h) (.inl ⟨by rfl, by intro W' hS; go_simp⟩) hH ?_
    try simp only [Act.put, aset]
    refine tk 4 (.bool false) 16 rfl rfl (by kernel_rfl) (fun _ _ _ h => h) (.inl ⟨by rfl, by intro W' hS; go_simp⟩) hH ?_
    try simp only [Act.put, aset]
    refine tk 5 (.pointer (some ⟨gx, 1, none⟩)) 17 rfl rfl (by kernel_rfl) (fun _ _ _ h => h) (.inl ⟨by rfl, by intro W' hS; go_simp⟩) hH ?_
    try simp only [Act.put, aset]
    refine tk 6 (.slice x.A x.n x.c) 18 rfl rfl (by kernel_rfl) (fun _ _ _ h => h) (.inl ⟨by rfl, by intro W' hS; have hc : W'.cell? ⟨gx, 1, none⟩ = some (.slice x.A x.n x.c) := hS.b.cell 1; go_simp⟩) hH ?_
    try simp only [Act.put, aset]
    refine wpAnyH_ready (rs := [7]) (by kernel_rfl) (by simp) ?_
    refine AllReadyH.cons rfl (fun K hK => ?_) AllReadyH.nil
    go_simp
    refine (chright_any x.A x.n x.c x.vs hin.len hin.m63 _ (RdR.more (hin.row.below hH.below (Nat.le_refl _)) hH.below.size)).mono ?_
    rintro e v3 ⟨rfl, d3⟩
    have S3 := hH.call d3
    clear hH d3
    obtain ⟨q, hq⟩ : ∃ q, chB x.vs = q := ⟨_, rfl⟩
    rw [hq]
    have HQ2 := Lib.hid hq
    clear hq
    cases q
    case false =>
     have hq : enB x = false := by simp [enB, HQ2.out]
     have HQ := Lib.hid hq
     clear hq
     refine hK.out _ _ S3 (fun hH => ?_)
     clear hK K
     try simp only [Act.put, aset]
     refine tk 8 (.bool true) 20 rfl rfl (by kernel_rfl) (fun _ _ _ h => h) (.inl ⟨by rfl, by intro W' hS; go_simp⟩) hH ?_
     try simp only [Act.put, aset]
     refine tk 9 (.bool true) 21 rfl rfl (by kernel_rfl) (fun _ _ _ h => h) (.inl ⟨by rfl, by intro W' hS; go_simp⟩) hH ?_
     try simp only [Act.put, aset]
     refine tk 10 (.bool true) 22 rfl rfl (by kernel_rfl) (fun _ _ _ h => h) (.inl ⟨by rfl, by intro W' hS; go_simp⟩) hH ?_
     try simp only [Act.put, aset]
     refine tk 11 undef 23 rfl rfl (by kernel_rfl) (fun _ _ _ h => h) (.inr ⟨by kernel_rfl, rfl⟩) hH ?_
     try simp only [Act.put, aset]
     refine tk 12 undef 24 rfl rfl (by kernel_rfl) (fun _ _ _ h => h) (.inr ⟨by kernel_rfl, rfl⟩) hH ?_
     try simp only [Act.put, aset]
     refine tk 13 undef 25 rfl rfl (by kernel_rfl) (fun _ _ _ h => h) (.inr ⟨by kernel_rfl, rfl⟩) hH ?_
     try simp only [Act.put, aset]
     refine tk 14 undef 26 rfl rfl (by kernel_rfl) (fun _ _ _ h => h) (.inr ⟨by kernel_rfl, rfl⟩) hH ?_
     try simp only [Act.put, aset]
     refine tk 15 (.bool true) 27 rfl rfl (by kernel_rfl) (fun _ _ _ h => h) (.inl ⟨by rfl, by intro W' hS; go_simp⟩) hH ?_
     try simp only [Act.put, aset]
     refine tk 16 (.bool true) 28 rfl rfl (by kernel_rfl) (fun _ _ _ h => h) (.inl ⟨by rfl, by intro W' hS; go_simp⟩) hH ?_
     try simp only [Act.put, aset]
     refine tk 17 undef 29 rfl rfl (by kernel_rfl) (fun _ _ _ h => h) (.inr ⟨by kernel_rfl, rfl⟩) hH ?_
     try simp only [Act.put, aset]
     refine tk 18 undef 30 rfl rfl (by kernel_rfl) (fun _ _ _ h => h) (.inr ⟨by kernel_rfl, rfl⟩) hH ?_
     try simp only [Act.put, aset]
     refine tk 19 undef 31 rfl rfl (by kernel_rfl) (fun _ _ _ h => h) (.inr ⟨by kernel_rfl, rfl⟩) hH ?_
     try simp only [Act.put, aset]
     refine tk 20 undef 32 rfl rfl (by kernel_rfl) (fun _ _ _ h => h) (.inr ⟨by kernel_rfl, rfl⟩) hH ?_
     try simp only [Act.put, aset]
     refine tk 21 undef 33 rfl rfl (by kernel_rfl) (fun _ _ _ h => h) (.inr ⟨by kernel_rfl, rfl⟩) hH ?_
     try simp only [Act.put, aset]
     refine tk 22 undef 34 rfl rfl (by kernel_rfl) (fun _ _ _ h => h) (.inr ⟨by kernel_rfl, rfl⟩) hH ?_
     try simp only [Act.put, aset]
     refine tk 23 undef 35 rfl rfl (by kernel_rfl) (fun _ _ _ h => h) (.inr ⟨by kernel_rfl, rfl⟩) hH ?_
     try simp only [Act.put, aset]
     refine tk 24 undef 36 rfl rfl (by kernel_rfl) (fun _ _ _ h => h) (.inr ⟨by kernel_rfl, rfl⟩) hH ?_
     try simp only [Act.put, aset]
     refine tk 25 undef 37 rfl rfl (by kernel_rfl) (fun _ _ _ h => h) (.inr ⟨by kernel_rfl, rfl⟩) hH ?_
     try simp only [Act.put, aset]
     refine tk 26 undef 38 rfl rfl (by kernel_rfl) (fun _ _ _ h => h) (.inr ⟨by kernel_rfl, rfl⟩) hH ?_
     try simp only [Act.put, aset]
     refine tk 27 undef 39 rfl rfl (by kernel_rfl) (fun _ _ _ h => h) (.inr ⟨by kernel_rfl, rfl⟩) hH ?_
     try simp only [Act.put, aset]
     refine wpAnyH_ready (rs := [28]) (by kernel_rfl) (by simp) ?_
     refine AllReadyH.cons rfl (fun K hK => ?_) AllReadyH.nil
     go_simp
     refine hK.out _ _ hH (fun hH => ?_)
     clear hK K
     try simp only [Act.put, aset]
     refine tk 29 undef 41 rfl rfl (by kernel_rfl) (fun _ _ _ h => h) (.inr ⟨by kernel_rfl, rfl⟩) hH ?_
     try simp only [Act.put, aset]
     refine tk 30 undef 42 rfl rfl (by kernel_rfl) (fun _ _ _ h => h) (.inr ⟨by kernel_rfl, rfl⟩) hH ?_
     try simp only [Act.put, aset]
     refine tk 31 (.bool true) 43 rfl rfl (by kernel_rfl) (fun _ _ _ h => h) (.inl ⟨by rfl, by intro W' hS; go_simp⟩) hH ?_
     try simp only [Act.put, aset]
     refine wpAnyH_done (by kernel_rfl) ?_ _
     go_wp2
     go_ret
     exact ⟨by rw [← HV.out, ixB, HF.out (if h0 : k = 0 then (HS0.out h0).trans HQ.out else (HS1.out (by omega)).trans (by rw [HQ.out]; rfl))]; simp, S3.below⟩
    case true =>
     by_cases hz : x.n = 0
     case pos =>
      have hz1 : ((x.n : Int) == 0) = true := by simp [hz]
      have hz2 : (x.n : Int) = 0 := by omega
      have hq : enB x = false := by have h0 : x.vs = [] := List.eq_nil_of_length_eq_zero (by omega); simp [enB, h0]
      have HQ := Lib.hid hq
      have HZ := Lib.hid hz
      clear hq hz hz2
      refine hK.out _ _ S3 (fun hH => ?_)
      clear hK K
      try simp only [Act.put, aset]
      refine tk 8 (.bool false) 20 rfl rfl (by kernel_rfl) (fun _ _ _ h => h) (.inl ⟨by rfl, by intro W' hS; go_simp⟩) hH ?_
      try simp only [Act.put, aset]
      refine tk 9 (.bool false) 21 rfl rfl (by kernel_rfl) (fun _ _ _ h => h) (.inl ⟨by rfl, by intro W' hS; go_simp⟩) hH ?_
      try simp only [Act.put, aset]
      refine tk 10 (.bool false) 22 rfl rfl (by kernel_rfl) (fun _ _ _ h => h) (.inl ⟨by rfl, by intro W' hS; go_simp⟩) hH ?_
      try simp only [Act.put, aset]
      refine tk 11 (.pointer (some ⟨gx, 1, none⟩)) 23 rfl rfl (by kernel_rfl) (fun _ _ _ h => h) (.inl ⟨by rfl, by intro W' hS; go_simp⟩) hH ?_
      try simp only [Act.put, aset]
      refine tk 12 (.slice x.A x.n x.c) 24 rfl rfl (by kernel_rfl) (fun _ _ _ h => h) (.inl ⟨by rfl, by intro W' hS; have hc : W'.cell? ⟨gx, 1, none⟩ = some (.slice x.A x.n x.c) := hS.b.cell 1; go_simp⟩) hH ?_
      try simp only [Act.put, aset]
      refine tk 13 (.int .i64 x.n) 25 rfl rfl (by kernel_rfl) (fun _ _ _ h => h) (.inl ⟨by rfl, by intro W' hS; go_simp⟩) hH ?_
      try simp only [Act.put, aset]
      refine tk 14 (.bool true) 26 rfl rfl (by kernel_rfl) (fun _ _ _ h => h) (.inl ⟨by rfl, by intro W' hS; go_simp⟩) hH ?_
      try simp only [Act.put, aset]
      refine tk 15 (.bool true) 27 rfl rfl (by kernel_rfl) (fun _ _ _ h => h) (.inl ⟨by rfl, by intro W' hS; go_simp⟩) hH ?_
      try simp only [Act.put, aset]
      refine tk 16 (.bool true) 28 rfl rfl (by kernel_rfl) (fun _ _ _ h => h) (.inl ⟨by rfl, by intro W' hS; go_simp⟩) hH ?_
      try simp only [Act.put, aset]
      refine tk 17 undef 29 rfl rfl (by kernel_rfl) (fun _ _ _ h => h) (.inr ⟨by kernel_rfl, rfl⟩) hH ?_
      try simp only [Act.put, aset]
      refine tk 18 undef 30 rfl rfl (by kernel_rfl) (fun _ _ _ h => h) (.inr ⟨by kernel_rfl, rfl⟩) hH ?_
      try simp only [Act.put, aset]
      refine tk 19 undef 31 rfl rfl (by kernel_rfl) (fun _ _ _ h => h) (.inr ⟨by kernel_rfl, rfl⟩) hH ?_
      try simp only [Act.put, aset]
      refine tk 20 undef 32 rfl rfl (by kernel_rfl) (fun _ _ _ h => h) (.inr ⟨by kernel_rfl, rfl⟩) hH ?_
      try simp only [Act.put, aset]
      refine tk 21 undef 33 rfl rfl (by kernel_rfl) (fun _ _ _ h => h) (.inr ⟨by kernel_rfl, rfl⟩) hH ?_
      try simp only [Act.put, aset]
      refine tk 22 undef 34 rfl rfl (by kernel_rfl) (fun _ _ _ h => h) (.inr ⟨by kernel_rfl, rfl⟩) hH ?_
      try simp only [Act.put, aset]
      refine tk 23 undef 35 rfl rfl (by kernel_rfl) (fun _ _ _ h => h) (.inr ⟨by kernel_rfl, rfl⟩) hH ?_
      try simp only [Act.put, aset]
      refine tk 24 undef 36 rfl rfl (by kernel_rfl) (fun _ _ _ h => h) (.inr ⟨by kernel_rfl, rfl⟩) hH ?_
      try simp only [Act.put, aset]
      refine tk 25 undef 37 rfl rfl (by kernel_rfl) (fun _ _ _ h => h) (.inr ⟨by kernel_rfl, rfl⟩) hH ?_
      try simp only [Act.put, aset]
      refine tk 26 undef 38 rfl rfl (by kernel_rfl) (fun _ _ _ h => h) (.inr ⟨by kernel_rfl, rfl⟩) hH ?_
      try simp only [Act.put, aset]
      refine tk 27 undef 39 rfl rfl (by kernel_rfl) (fun _ _ _ h => h) (.inr ⟨by kernel_rfl, rfl⟩) hH ?_
      try simp only [Act.put, aset]
      refine wpAnyH_ready (rs := [28]) (by kernel_rfl) (by simp) ?_
      refine AllReadyH.cons rfl (fun K hK => ?_) AllReadyH.nil
      go_simp
      refine hK.out _ _ hH (fun hH => ?_)
      clear hK K
      try simp only [Act.put, aset]
      refine tk 29 undef 41 rfl rfl (by kernel_rfl) (fun _ _ _ h => h) (.inr ⟨by kernel_rfl, rfl⟩) hH ?_
      try simp only [Act.put, aset]
      refine tk 30 undef 42 rfl rfl (by kernel_rfl) (fun _ _ _ h => h) (.inr ⟨by kernel_rfl, rfl⟩) hH ?_
      try simp only [Act.put, aset]
      refine tk 31 (.bool true) 43 rfl rfl (by kernel_rfl) (fun _ _ _ h => h) (.inl ⟨by rfl, by intro W' hS; go_simp⟩) hH ?_
      try simp only [Act.put, aset]
      refine wpAnyH_done (by kernel_rfl) ?_ _
      go_wp2
      go_ret
      exact ⟨by rw [← HV.out, ixB, HF.out (if h0 : k = 0 then (HS0.out h0).trans HQ.out else (HS1.out (by omega)).trans (by rw [HQ.out]; rfl))]; simp, S3.below⟩
     case neg =>
      have hz1 : ((x.n : Int) == 0) = false := by simp; omega
      have hz2 : ¬ (x.n : Int) = 0 := by omega
      have h0 : 0 < x.vs.length := by omega
      have hq : enB x = true := by rw [enB, HQ1.out, HQ2.out, decide_eq_true h0]; rfl
      have HQ := Lib.hid hq
      clear hq h0
      by_cases hk0 : k = 0
      case pos =>
       have hg0 : ¬ (0 : Int) < (k : Int) := by omega
       refine hK.out _ _ S3 (fun hH => ?_)
       clear hK K
       try simp only [Act.put, aset]
       refine tk 8 (.bool false) 20 rfl rfl (by kernel_rfl) (fun _ _ _ h => h) (.inl ⟨by rfl, by intro W' hS; go_simp⟩) hH ?_
       try simp only [Act.put, aset]
       refine tk 9 (.bool false) 21 rfl rfl (by kernel_rfl) (fun _ _ _ h => h) (.inl ⟨by rfl, by intro W' hS; go_simp⟩) hH ?_
       try simp only [Act.put, aset]
       refine tk 10 (.bool false) 22 rfl rfl (by kernel_rfl) (fun _ _ _ h => h) (.inl ⟨by rfl, by intro W' hS; go_simp⟩) hH ?_
       try simp only [Act.put, aset]
       refine tk 11 (.pointer (some ⟨gx, 1, none⟩)) 23 rfl rfl (by kernel_rfl) (fun _ _ _ h => h) (.inl ⟨by rfl, by intro W' hS; go_simp⟩) hH ?_
       try simp only [Act.put, aset]
       refine tk 12 (.slice x.A x.n x.c) 24 rfl rfl (by kernel_rfl) (fun _ _ _ h => h) (.inl ⟨by rfl, by intro W' hS; have hc : W'.cell? ⟨gx, 1, none⟩ = some (.slice x.A x.n x.c) := hS.b.cell 1; go_simp⟩) hH ?_
       try simp only [Act.put, aset]
       refine tk 13 (.int .i64 x.n) 25 rfl rfl (by kernel_rfl) (fun _ _ _ h => h) (.inl ⟨by rfl, by intro W' hS; go_simp⟩) hH ?_
       try simp only [Act.put, aset]
       refine tk 14 (.bool false) 26 rfl rfl (by kernel_rfl) (fun _ _ _ h => h) (.inl ⟨by rfl, by intro W' hS; go_simp⟩) hH ?_
       try simp only [Act.put, aset]
       refine tk 15 (.bool false) 27 rfl rfl (by kernel_rfl) (fun _ _ _ h => h) (.inl ⟨by rfl, by intro W' hS; go_simp⟩) hH ?_
       try simp only [Act.put, aset]
       refine tk 16 (.bool false) 28 rfl rfl (by kernel_rfl) (fun _ _ _ h => h) (.inl ⟨by rfl, by intro W' hS; go_simp⟩) hH ?_
       try simp only [Act.put, aset]
       refine tk 17 (.int .i64 k) 29 rfl rfl (by kernel_rfl) (fun _ _ _ h => h) (.inl ⟨by rfl, by intro W' hS; go_simp⟩) hH ?_
       try simp only [Act.put, aset]
       refine tk 18 (.bool false) 30 rfl rfl (by kernel_rfl) (fun _ _ _ h => h) (.inl ⟨by rfl, by intro W' hS; go_simp⟩) hH ?_
       try simp only [Act.put, aset]
       refine tk 19 (.bool false) 31 rfl rfl (by kernel_rfl) (fun _ _ _ h => h) (.inl ⟨by rfl, by intro W' hS; go_simp⟩) hH ?_
       try simp only [Act.put, aset]
       refine tk 20 undef 32 rfl rfl (by kernel_rfl) (fun _ _ _ h => h) (.inr ⟨by kernel_rfl, rfl⟩) hH ?_
       try simp only [Act.put, aset]
       refine tk 21 undef 33 rfl rfl (by kernel_rfl) (fun _ _ _ h => h) (.inr ⟨by kernel_rfl, rfl⟩) hH ?_
       try simp only [Act.put, aset]
       refine tk 22 undef 34 rfl rfl (by kernel_rfl) (fun _ _ _ h => h) (.inr ⟨by kernel_rfl, rfl⟩) hH ?_
       try simp only [Act.put, aset]
       refine tk 23 undef 35 rfl rfl (by kernel_rfl) (fun _ _ _ h => h) (.inr ⟨by kernel_rfl, rfl⟩) hH ?_
       try simp only [Act.put, aset]
       refine tk 24 undef 36 rfl rfl (by kernel_rfl) (fun _ _ _ h => h) (.inr ⟨by kernel_rfl, rfl⟩) hH ?_
       try simp only [Act.put, aset]
       refine tk 25 undef 37 rfl rfl (by kernel_rfl) (fun _ _ _ h => h) (.inr ⟨by kernel_rfl, rfl⟩) hH ?_
       try simp only [Act.put, aset]
       refine tk 26 undef 38 rfl rfl (by kernel_rfl) (fun _ _ _ h => h) (.inr ⟨by kernel_rfl, rfl⟩) hH ?_
       try simp only [Act.put, aset]
       refine tk 27 undef 39 rfl rfl (by kernel_rfl) (fun _ _ _ h => h) (.inr ⟨by kernel_rfl, rfl⟩) hH ?_
       try simp only [Act.put, aset]
       refine wpAnyH_ready (rs := [28]) (by kernel_rfl) (by simp) ?_
       refine AllReadyH.cons rfl (fun K hK => ?_) AllReadyH.nil
       go_simp
       refine hK.out _ _ hH (fun hH => ?_)
       clear hK K
       try simp only [Act.put, aset]
       refine tk 29 undef 41 rfl rfl (by kernel_rfl) (fun _ _ _ h => h) (.inr ⟨by kernel_rfl, rfl⟩) hH ?_
       try simp only [Act.put, aset]
       refine tk 30 (.bool false) 42 rfl rfl (by kernel_rfl) (fun _ _ _ h => h) (.inl ⟨by rfl, by intro W' hS; go_simp⟩) hH ?_
       try simp only [Act.put, aset]
       refine tk 31 (.bool false) 43 rfl rfl (by kernel_rfl) (fun _ _ _ h => h) (.inl ⟨by rfl, by intro W' hS; go_simp⟩) hH ?_
       try simp only [Act.put, aset]
       refine wpAnyH_done (by kernel_rfl) ?_ _
       go_wp2_with fail
       go_roundw
       case rel => exact ⟨k + 1, by go_num, by omega, steps_succ HT.out (by rw [HS0.out hk0]; exact HQ.out), S3.below⟩
       case measure => simp [intOf]; omega
      case neg =>
       have hg0 : (0 : Int) < (k : Int) := by omega
       have hk1 : 0 < k := by omega
       have j0 : (0 : Int) ≤ (k : Int) - 1 := by omega
       have j1 : (k : Int) - 1 < (n : Int) := by omega
       obtain ⟨b', off', hA', hbB', ry⟩ := RP.out hk1
       have hs1 := HS1.out hk1
       have hyl := (hE (xs[k - 1]'(by omega)) (List.getElem_mem (by omega))).2
       obtain ⟨y, hyk⟩ : ∃ y, xs[k - 1]'(by omega) = y := ⟨_, rfl⟩
       rw [hyk] at ry hs1 hyl
       have HS2 := Lib.hid hs1
       obtain ⟨eb, eo⟩ : b' = b ∧ off' = off := by injection hA' with hA'; injection hA' with h1 h2; exact ⟨h1.symm, h2.symm⟩
       rw [eb, eo] at ry
       rw [eb] at hbB'
       have jt : ((k : Int) - 1).toNat = k - 1 := by omega
       have jw : IntKind.i64.wrap ((k : Int) - 1) = (k : Int) - 1 := by rw [IntKind.wrap_i64]; omega
       have jx : ¬ (k : Int) < 1 := by omega
       clear hyk hs1 hA' eb eo b' off'
       refine hK.out _ _ S3 (fun hH => ?_)
       clear hK K
       try simp only [Act.put, aset]
       refine tk 8 (.bool false) 20 rfl rfl (by kernel_rfl) (fun _ _ _ h => h) (.inl ⟨by rfl, by intro W' hS; go_simp⟩) hH ?_
       try simp only [Act.put, aset]
       refine tk 9 (.bool false) 21 rfl rfl (by kernel_rfl) (fun _ _ _ h => h) (.inl ⟨by rfl, by intro W' hS; go_simp⟩) hH ?_
       try simp only [Act.put, aset]
       refine tk 10 (.bool false) 22 rfl rfl (by kernel_rfl) (fun _ _ _ h => h) (.inl ⟨by rfl, by intro W' hS; go_simp⟩) hH ?_
       try simp only [Act.put, aset]
       refine tk 11 (.pointer (some ⟨gx, 1, none⟩)) 23 rfl rfl (by kernel_rfl) (fun _ _ _ h => h) (.inl ⟨by rfl, by intro W' hS; go_simp⟩) hH ?_
       try simp only [Act.put, aset]
       refine tk 12 (.slice x.A x.n x.c) 24 rfl rfl (by kernel_rfl) (fun _ _ _ h => h) (.inl ⟨by rfl, by intro W' hS; have hc : W'.cell? ⟨gx, 1, none⟩ = some (.slice x.A x.n x.c) := hS.b.cell 1; go_simp⟩) hH ?_
       try simp only [Act.put, aset]
       refine tk 13 (.int .i64 x.n) 25 rfl rfl (by kernel_rfl) (fun _ _ _ h => h) (.inl ⟨by rfl, by intro W' hS; go_simp⟩) hH ?_
       try simp only [Act.put, aset]
       refine tk 14 (.bool false) 26 rfl rfl (by kernel_rfl) (fun _ _ _ h => h) (.inl ⟨by rfl, by intro W' hS; go_simp⟩) hH ?_
       try simp only [Act.put, aset]
       refine tk 15 (.bool false) 27 rfl rfl (by kernel_rfl) (fun _ _ _ h => h) (.inl ⟨by rfl, by intro W' hS; go_simp⟩) hH ?_
       try simp only [Act.put, aset]
       refine tk 16 (.bool false) 28 rfl rfl (by kernel_rfl) (fun _ _ _ h => h) (.inl ⟨by rfl, by intro W' hS; go_simp⟩) hH ?_
       try simp only [Act.put, aset]
       refine tk 17 (.int .i64 k) 29 rfl rfl (by kernel_rfl) (fun _ _ _ h => h) (.inl ⟨by rfl, by intro W' hS; go_simp⟩) hH ?_
       try simp only [Act.put, aset]
       refine tk 18 (.bool true) 30 rfl rfl (by kernel_rfl) (fun _ _ _ h => h) (.inl ⟨by rfl, by intro W' hS; go_simp⟩) hH ?_
       try simp only [Act.put, aset]
       refine tk 19 (.bool true) 31 rfl rfl (by kernel_rfl) (fun _ _ _ h => h) (.inl ⟨by rfl, by intro W' hS; go_simp⟩) hH ?_
       try simp only [Act.put, aset]
       refine tk 20 (.slice (some ⟨b, off, none⟩) n c) 32 rfl rfl (by kernel_rfl) (fun _ _ _ h => h) (.inl ⟨by rfl, by intro W' hS; go_simp⟩) hH ?_
       try simp only [Act.put, aset]
       refine tk 21 (.int .i64 k) 33 rfl rfl (by kernel_rfl) (fun _ _ _ h => h) (.inl ⟨by rfl, by intro W' hS; go_simp⟩) hH ?_
       try simp only [Act.put, aset]
       refine tk 22 (.int .i64 ((k : Int) - 1)) 34 rfl rfl (by kernel_rfl) (fun _ _ _ h => h) (.inl ⟨by rfl, by intro W' hS; go_simp⟩) hH ?_
       try simp only [Act.put, aset]
       refine tk 23 (.pointer (some ⟨b, off + (k - 1) * 2, none⟩)) 35 rfl rfl (by kernel_rfl) (fun _ _ _ h => h) (.inl ⟨by rfl, by intro W' hS; go_simp⟩) hH ?_
       try simp only [Act.put, aset]
       refine tk 24 (.pointer (some ⟨b, off + (k - 1) * 2, none⟩)) 36 rfl rfl (by kernel_rfl) (fun _ _ _ h => h) (.inl ⟨by rfl, by intro W' hS; go_simp⟩) hH ?_
       try simp only [Act.put, aset]
       refine tk 25 (.string ⟨y.key.toArray⟩) 37 rfl rfl (by kernel_rfl) (fun _ _ _ h => h) (.inl ⟨by rfl, by intro W' hS; have hc : W'.cell? ⟨b, off + (k - 1) * 2, none⟩ = some (.string ⟨y.key.toArray⟩) := (hS.below.cell (p := ⟨b, _, none⟩) hbB').trans (by simpa using ry 0 _ rfl); go_simp⟩) hH ?_
       try simp only [Act.put, aset]
       refine tk 26 (.pointer (some ⟨gx, 0, none⟩)) 38 rfl rfl (by kernel_rfl) (fun _ _ _ h => h) (.inl ⟨by rfl, by intro W' hS; go_simp⟩) hH ?_
       try simp only [Act.put, aset]
       refine tk 27 (.string ⟨x.key.toArray⟩) 39 rfl rfl (by kernel_rfl) (fun _ _ _ h => h) (.inl ⟨by rfl, by intro W' hS; have hc : W'.cell? ⟨gx, 0, none⟩ = some (.string ⟨x.key.toArray⟩) := hS.b.cell 0; go_simp⟩) hH ?_
       try simp only [Act.put, aset]
       refine wpAnyH_ready (rs := [28]) (by kernel_rfl) (by simp) ?_
       refine AllReadyH.cons rfl (fun K hK => ?_) AllReadyH.nil
       go_simp
       refine (kcompare_any y.key x.key _ (Utf8Tabs_below hT hH.below) hyl hkl).mono ?_
       rintro e v4 ⟨rfl, d4⟩
       have S4 := hH.call d4
       clear hH d4
       obtain ⟨cz, hcz⟩ : ∃ z, cmpL y.key x.key = z := ⟨_, rfl⟩
       rw [hcz]
       have HCZ := Lib.hid hcz
       clear hcz
       by_cases hcc : 0 ≤ cz
       case pos =>
        refine hK.out _ _ S4 (fun hH => ?_)
        clear hK K
        try simp only [Act.put, aset]
        refine tk 29 (.bool true) 41 rfl rfl (by kernel_rfl) (fun _ _ _ h => h) (.inl ⟨by rfl, by intro W' hS; go_simp⟩) hH ?_
        try simp only [Act.put, aset]
        refine tk 30 (.bool true) 42 rfl rfl (by kernel_rfl) (fun _ _ _ h => h) (.inl ⟨by rfl, by intro W' hS; go_simp⟩) hH ?_
        try simp only [Act.put, aset]
        refine tk 31 (.bool true) 43 rfl rfl (by kernel_rfl) (fun _ _ _ h => h) (.inl ⟨by rfl, by intro W' hS; go_simp⟩) hH ?_
        try simp only [Act.put, aset]
        refine wpAnyH_done (by kernel_rfl) ?_ _
        go_wp2
        go_ret
        exact ⟨by rw [← HV.out, ixB, HF.out (by rw [HS2.out, HQ.out]; unfold elt; rw [HCZ.out, Bool.true_and, decide_eq_false (by omega)])]; simp, S4.below⟩
       case neg =>
        refine hK.out _ _ S4 (fun hH => ?_)
        clear hK K
        try simp only [Act.put, aset]
        refine tk 29 (.bool false) 41 rfl rfl (by kernel_rfl) (fun _ _ _ h => h) (.inl ⟨by rfl, by intro W' hS; go_simp⟩) hH ?_
        try simp only [Act.put, aset]
        refine tk 30 (.bool false) 42 rfl rfl (by kernel_rfl) (fun _ _ _ h => h) (.inl ⟨by rfl, by intro W' hS; go_simp⟩) hH ?_
        try simp only [Act.put, aset]
        refine tk 31 (.bool false) 43 rfl rfl (by kernel_rfl) (fun _ _ _ h => h) (.inl ⟨by rfl, by intro W' hS; go_simp⟩) hH ?_
        try simp only [Act.put, aset]
        refine wpAnyH_done (by kernel_rfl) ?_ _
        go_wp2_with fail
        go_roundw
        case rel => exact ⟨k + 1, by go_num, by omega, steps_succ HT.out (by rw [HS2.out, HQ.out]; unfold elt; rw [HCZ.out, Bool.true_and, decide_eq_true (by omega)]), S4.below⟩
        case measure => simp [intOf]; omega
  case neg =>
   have hke : k = n := by omega
   have hrow : rowB enB elt xs = true := rowB_true (by rw [hx, ← hke]; exact HT.out)
   have hv : r = decide (n ≤ 64) := by rw [← HV.out, ixB, hrow, hx]; simp
   clear hrow
   by_cases h64 : n ≤ 64
   case pos =>
    have h65 : (n : Int) ≤ 64 := by omega
    have hv2 : r = true := by rw [hv]; simp [h64]
    subst hv2
    clear hv
    go_wp2
    go_ret
    exact ⟨rfl, hb⟩
   case neg =>
    have h65 : ¬ (n : Int) ≤ 64 := by omega
    have hv2 : r = false := by rw [hv]; simp [h64]
    subst hv2
    clear hv
    go_wp2
    go_ret
    exact ⟨rfl, hb⟩
end Go.Proofs.YtkoligiilieboaaGreatDoor
