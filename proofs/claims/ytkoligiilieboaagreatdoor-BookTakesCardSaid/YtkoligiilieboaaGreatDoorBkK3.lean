/- The document's equality of entries and of dedup rows. -/
import Derived.Test.YtkoligiilieboaaGreatDoorMgD
import Derived.Test.YtkoligiilieboaaGreatDoorBkY4
set_option linter.unusedSimpArgs false
set_option linter.unusedVariables false
namespace Go.Proofs.YtkoligiilieboaaGreatDoor
open Go.RowKit
attribute [local go_sem] ByteArray.mk_append_mk ByteArray.extract_mk
attribute [local go_sem ↓] Go.wp_at_zero Go.wp_at_succ
theorem take_map_succ {α β : Type} {f : α → β} {X Y : List α} {k : Nat} (hk : k < X.length) (hk' : k < Y.length) (h : (X.take k).map f = (Y.take k).map f) (he : f X[k] = f Y[k]) : (X.take (k + 1)).map f = (Y.take (k + 1)).map f := by
 rw [List.take_succ_eq_append_getElem hk, List.take_succ_eq_append_getElem hk', List.map_append, List.map_append, h]
 simp [he]
theorem map_ne_at {α β : Type} {f : α → β} {X Y : List α} {k : Nat} (hk : k < X.length) (hk' : k < Y.length) (he : f X[k] ≠ f Y[k]) : X.map f ≠ Y.map f := by
 intro h
 have := congrArg (fun z => z[k]?) h
 simp [hk, hk'] at this
 exact he this
theorem map_of_take {α β : Type} {f : α → β} {X Y : List α} {k : Nat} (hk : X.length ≤ k) (hk' : Y.length ≤ k) (h : (X.take k).map f = (Y.take k).map f) : X.map f = Y.map f := by
 rwa [List.take_of_length_le hk, List.take_of_length_le hk'] at h
theorem map_len_ne {α β : Type} {f : α → β} {X Y : List α} (h : X.length ≠ Y.length) : X.map f ≠ Y.map f := fun hh => h (by have := congrArg List.length hh; simpa using this)
theorem EnIn.at {w w' : World} {e : En} (h : EnIn w w.heap.size e) (hb : Below w.heap.size w w') : RdR vsC 5 w' w'.heap.size e.A e.vs := RdR.more (h.row.below hb (Nat.le_refl _)) hb.size
theorem DnIn.at {w w' : World} {e : Dn} (h : DnIn w w.heap.size e) (hb : Below w.heap.size w w') : RdR itC 2 w' w'.heap.size e.ans.itA e.its := RdR.more (h.row.below hb (Nat.le_refl _)) hb.size
theorem dn_ans {w : World} {b o : Nat} {d : Dn} (h : w.rangeAt b o (dnC d)) : w.rangeAt b (o + 2) (anA d.ans).toList := fun j v hv => by
 rw [Nat.add_assoc]
 refine h (2 + j) v ?_
 rw [Nat.add_comm 2 j]
 exact hv
theorem rng0 {w : World} {b o : Nat} {v : Value} {l : List Value} (h : w.rangeAt b o (v :: l)) : w.cell? ⟨b, o, none⟩ = some v := h 0 v rfl
theorem rng1 {w : World} {b o : Nat} {u v : Value} {l : List Value} (h : w.rangeAt b o (u :: v :: l)) : w.cell? ⟨b, o + 1, none⟩ = some v := h 1 v rfl
set_option maxHeartbeats 3200000 in
set_option maxRecDepth 100000 in
theorem eneq_any (A A' : Option Addr) (n n' c c' : Nat) (xs ys : List En) (hx : xs.length = n) (hy : ys.length = n') (hm : n ≤ 9223372036854775807) (hm' : n' ≤ 9223372036854775807) (w : World) (hR : RdR enC 2 w w.heap.size A xs) (hR' : RdR enC 2 w w.heap.size A' ys) (hI : ∀ x ∈ xs, EnIn w w.heap.size x) (hI' : ∀ x ∈ ys, EnIn w w.heap.size x) :
  Calls Tryz.prog 39 #[.slice A n c, .slice A' n' c'] w (EqPost (xs.map enL) (ys.map enL) w) := by
 by_cases hn : n = n'
 case neg =>
  have b1 : ((n : Int) != (n' : Int)) = true := by simp; omega
  have b2 : ((n : Int) == (n' : Int)) = false := by simp; omega
  go_enter Tryz.func39, Tryz.ntmps39
  go_wp2
  go_ret
  exact ⟨⟨false, rfl, ⟨fun h => absurd h Bool.false_ne_true, fun h => absurd h (map_len_ne (by omega))⟩⟩, Below.refl _ _⟩
 case pos =>
  subst hn
  go_enter Tryz.func39, Tryz.ntmps39
  go_wp2_with fail
  go_loopw [5] (fun i wr => ∃ k : Nat, i = .int .i64 k ∧ k ≤ n ∧ (xs.take k).map enL = (ys.take k).map enL ∧ Below w.heap.size w wr) (fun i _ => n - (intOf i).toNat)
  case atStart => exact ⟨0, rfl, Nat.zero_le _, rfl, Below.refl _ _⟩
  case round =>
   obtain ⟨k, rfl, hk, ht, hb⟩ := hrel
   have i0 : (0 : Int) ≤ (k : Int) := by omega
   have HT := Lib.hid ht
   clear ht
   by_cases hlt : k < n
   case pos =>
    have i1 : (k : Int) < (n : Int) := by omega
    obtain ⟨b, off, rfl, hbB, rx⟩ := hR.at k (by omega)
    obtain ⟨b', off', rfl, hbB', ry⟩ := hR'.at k (by omega)
    have hs := fun (he : enL (xs[k]'(by omega)) = enL (ys[k]'(by omega))) => take_map_succ (by omega) (by omega) HT.out he
    have hne := fun (he : enL (xs[k]'(by omega)) ≠ enL (ys[k]'(by omega))) => map_ne_at (by omega) (by omega) he
    have hix := hI (xs[k]'(by omega)) (List.getElem_mem (by omega))
    have hiy := hI' (ys[k]'(by omega)) (List.getElem_mem (by omega))
    obtain ⟨x, hxk⟩ : ∃ x, xs[k]'(by omega) = x := ⟨_, rfl⟩
    obtain ⟨y, hyk⟩ : ∃ y, ys[k]'(by omega) = y := ⟨_, rfl⟩
    rw [hxk] at rx hs hne hix
    rw [hyk] at ry hs hne hiy
    have HS := Lib.hid hs
    have HNE := Lib.hid hne
    have HIX := Lib.hid hix
    have HIY := Lib.hid hiy
    clear hxk hyk hs hne hix hiy
    go_wp2_with fail
    by_cases h0 : x.key = y.key
    case neg =>
     have s1 : (x.key == y.key) = false := by simp [h0]
     have s2 : (x.key != y.key) = true := by simp [h0]
     have HEQ := Lib.hid (show enL x ≠ enL y from fun h => h0 (congrArg (·.1) h))
     have H0 := Lib.hid h0
     clear h0
     refine wp_region_held_drew (S := (fun W' => Below w.heap.size w W')) (by kernel_rfl) hb.drew (fun hH => ?_)
     refine tk 0 (.slice (some ⟨b, off, none⟩) n c) 17 rfl rfl (by kernel_rfl) (fun _ _ _ h => h) (.inl ⟨by rfl, by intro W' hS; go_simp⟩) hH ?_
     try simp only [Act.put, aset]
     refine tk 1 (.int .i64 k) 18 rfl rfl (by kernel_rfl) (fun _ _ _ h => h) (.inl ⟨by rfl, by intro W' hS; go_simp⟩) hH ?_
     try simp only [Act.put, aset]
     refine tk 2 (.pointer (some ⟨b, off + k * 2, none⟩)) 19 rfl rfl (by kernel_rfl) (fun _ _ _ h => h) (.inl ⟨by rfl, by intro W' hS; go_simp⟩) hH ?_
     try simp only [Act.put, aset]
     refine tk 3 (.pointer (some ⟨b, off + k * 2, none⟩)) 20 rfl rfl (by kernel_rfl) (fun _ _ _ h => h) (.inl ⟨by rfl, by intro W' hS; go_simp⟩) hH ?_
     try simp only [Act.put, aset]
     refine tk 4 (.string ⟨x.key.toArray⟩) 21 rfl rfl (by kernel_rfl) (fun _ _ _ h => h) (.inl ⟨by rfl, by intro W' hS; have hc := (hS.cell (p := ⟨b, _, none⟩) hbB).trans (rng0 rx); go_simp⟩) hH ?_
     try simp only [Act.put, aset]
     refine tk 5 (.slice (some ⟨b', off', none⟩) n c') 22 rfl rfl (by kernel_rfl) (fun _ _ _ h => h) (.inl ⟨by rfl, by intro W' hS; go_simp⟩) hH ?_
     try simp only [Act.put, aset]
     refine tk 6 (.int .i64 k) 23 rfl rfl (by kernel_rfl) (fun _ _ _ h => h) (.inl ⟨by rfl, by intro W' hS; go_simp⟩) hH ?_
     try simp only [Act.put, aset]
     refine tk 7 (.pointer (some ⟨b', off' + k * 2, none⟩)) 24 rfl rfl (by kernel_rfl) (fun _ _ _ h => h) (.inl ⟨by rfl, by intro W' hS; go_simp⟩) hH ?_
     try simp only [Act.put, aset]
     refine tk 8 (.pointer (some ⟨b', off' + k * 2, none⟩)) 25 rfl rfl (by kernel_rfl) (fun _ _ _ h => h) (.inl ⟨by rfl, by intro W' hS; go_simp⟩) hH ?_
     try simp only [Act.put, aset]
     refine tk 9 (.string ⟨y.key.toArray⟩) 26 rfl rfl (by kernel_rfl) (fun _ _ _ h => h) (.inl ⟨by rfl, by intro W' hS; have hc := (hS.cell (p := ⟨b', _, none⟩) hbB').trans (rng0 ry); go_simp⟩) hH ?_
     try simp only [Act.put, aset]
     refine tk 10 (.bool true) 27 rfl rfl (by kernel_rfl) (fun _ _ _ h => h) (.inl ⟨by rfl, by intro W' hS; go_simp⟩) hH ?_
     try simp only [Act.put, aset]
     refine tk 11 (.bool true) 28 rfl rfl (by kernel_rfl) (fun _ _ _ h => h) (.inl ⟨by rfl, by intro W' hS; go_simp⟩) hH ?_
     try simp only [Act.put, aset]
     refine tk 12 undef 29 rfl rfl (by kernel_rfl) (fun _ _ _ h => h) (.inr ⟨by kernel_rfl, rfl⟩) hH ?_
     try simp only [Act.put, aset]
     refine tk 13 undef 30 rfl rfl (by kernel_rfl) (fun _ _ _ h => h) (.inr ⟨by kernel_rfl, rfl⟩) hH ?_
     try simp only [Act.put, aset]
     refine tk 14 undef 31 rfl rfl (by kernel_rfl) (fun _ _ _ h => h) (.inr ⟨by kernel_rfl, rfl⟩) hH ?_
     try simp only [Act.put, aset]
     refine tk 15 undef 32 rfl rfl (by kernel_rfl) (fun _ _ _ h => h) (.inr ⟨by kernel_rfl, rfl⟩) hH ?_
     try simp only [Act.put, aset]
     refine tk 16 undef 33 rfl rfl (by kernel_rfl) (fun _ _ _ h => h) (.inr ⟨by kernel_rfl, rfl⟩) hH ?_
     try simp only [Act.put, aset]
     refine tk 17 undef 34 rfl rfl (by kernel_rfl) (fun _ _ _ h => h) (.inr ⟨by kernel_rfl, rfl⟩) hH ?_
     try simp only [Act.put, aset]
     refine tk 18 undef 35 rfl rfl (by kernel_rfl) (fun _ _ _ h => h) (.inr ⟨by kernel_rfl, rfl⟩) hH ?_
     try simp only [Act.put, aset]
     refine tk 19 undef 36 rfl rfl (by kernel_rfl) (fun _ _ _ h => h) (.inr ⟨by kernel_rfl, rfl⟩) hH ?_
     try simp only [Act.put, aset]
     refine tk 20 undef 37 rfl rfl (by kernel_rfl) (fun _ _ _ h => h) (.inr ⟨by kernel_rfl, rfl⟩) hH ?_
     try simp only [Act.put, aset]
     refine tk 21 undef 38 rfl rfl (by kernel_rfl) (fun _ _ _ h => h) (.inr ⟨by kernel_rfl, rfl⟩) hH ?_
     try simp only [Act.put, aset]
     refine wpAnyH_ready (rs := [22]) (by kernel_rfl) (by simp) ?_
     refine AllReadyH.cons rfl (fun K hK => ?_) AllReadyH.nil
     go_simp
     refine hK.out _ _ hH (fun hH => ?_)
     clear hK K
     try simp only [Act.put, aset]
     refine tk 23 undef 40 rfl rfl (by kernel_rfl) (fun _ _ _ h => h) (.inr ⟨by kernel_rfl, rfl⟩) hH ?_
     try simp only [Act.put, aset]
     refine tk 24 (.bool true) 41 rfl rfl (by kernel_rfl) (fun _ _ _ h => h) (.inl ⟨by rfl, by intro W' hS; go_simp⟩) hH ?_
     try simp only [Act.put, aset]
     refine wpAnyH_done (by kernel_rfl) ?_ _
     go_wp2
     go_ret
     exact ⟨⟨false, rfl, ⟨fun h => absurd h Bool.false_ne_true, fun h => absurd h (HNE.out HEQ.out)⟩⟩, hH⟩
    case pos =>
     have s1 : (x.key == y.key) = true := by simp [h0]
     have s2 : (x.key != y.key) = false := by simp [h0]
     have H0 := Lib.hid h0
     clear h0
     refine wp_region_held_drew (S := (fun W' => Below w.heap.size w W')) (by kernel_rfl) hb.drew (fun hH => ?_)
     refine tk 0 (.slice (some ⟨b, off, none⟩) n c) 17 rfl rfl (by kernel_rfl) (fun _ _ _ h => h) (.inl ⟨by rfl, by intro W' hS; go_simp⟩) hH ?_
     try simp only [Act.put, aset]
     refine tk 1 (.int .i64 k) 18 rfl rfl (by kernel_rfl) (fun _ _ _ h => h) (.inl ⟨by rfl, by intro W' hS; go_simp⟩) hH ?_
     try simp only [Act.put, aset]
     refine tk 2 (.pointer (some ⟨b, off + k * 2, none⟩)) 19 rfl rfl (by kernel_rfl) (fun _ _ _ h => h) (.inl ⟨by rfl, by intro W' hS; go_simp⟩) hH ?_
     try simp only [Act.put, aset]
     refine tk 3 (.pointer (some ⟨b, off + k * 2, none⟩)) 20 rfl rfl (by kernel_rfl) (fun _ _ _ h => h) (.inl ⟨by rfl, by intro W' hS; go_simp⟩) hH ?_
     try simp only [Act.put, aset]
     refine tk 4 (.string ⟨x.key.toArray⟩) 21 rfl rfl (by kernel_rfl) (fun _ _ _ h => h) (.inl ⟨by rfl, by intro W' hS; have hc := (hS.cell (p := ⟨b, _, none⟩) hbB).trans (rng0 rx); go_simp⟩) hH ?_
     try simp only [Act.put, aset]
     refine tk 5 (.slice (some ⟨b', off', none⟩) n c') 22 rfl rfl (by kernel_rfl) (fun _ _ _ h => h) (.inl ⟨by rfl, by intro W' hS; go_simp⟩) hH ?_
     try simp only [Act.put, aset]
     refine tk 6 (.int .i64 k) 23 rfl rfl (by kernel_rfl) (fun _ _ _ h => h) (.inl ⟨by rfl, by intro W' hS; go_simp⟩) hH ?_
     try simp only [Act.put, aset]
     refine tk 7 (.pointer (some ⟨b', off' + k * 2, none⟩)) 24 rfl rfl (by kernel_rfl) (fun _ _ _ h => h) (.inl ⟨by rfl, by intro W' hS; go_simp⟩) hH ?_
     try simp only [Act.put, aset]
     refine tk 8 (.pointer (some ⟨b', off' + k * 2, none⟩)) 25 rfl rfl (by kernel_rfl) (fun _ _ _ h => h) (.inl ⟨by rfl, by intro W' hS; go_simp⟩) hH ?_
     try simp only [Act.put, aset]
     refine tk 9 (.string ⟨y.key.toArray⟩) 26 rfl rfl (by kernel_rfl) (fun _ _ _ h => h) (.inl ⟨by rfl, by intro W' hS; have hc := (hS.cell (p := ⟨b', _, none⟩) hbB').trans (rng0 ry); go_simp⟩) hH ?_
     try simp only [Act.put, aset]
     refine tk 10 (.bool false) 27 rfl rfl (by kernel_rfl) (fun _ _ _ h => h) (.inl ⟨by rfl, by intro W' hS; go_simp⟩) hH ?_
     try simp only [Act.put, aset]
     refine tk 11 (.bool false) 28 rfl rfl (by kernel_rfl) (fun _ _ _ h => h) (.inl ⟨by rfl, by intro W' hS; go_simp⟩) hH ?_
     try simp only [Act.put, aset]
     refine tk 12 (.slice (some ⟨b, off, none⟩) n c) 29 rfl rfl (by kernel_rfl) (fun _ _ _ h => h) (.inl ⟨by rfl, by intro W' hS; go_simp⟩) hH ?_
     try simp only [Act.put, aset]
     refine tk 13 (.int .i64 k) 30 rfl rfl (by kernel_rfl) (fun _ _ _ h => h) (.inl ⟨by rfl, by intro W' hS; go_simp⟩) hH ?_
     try simp only [Act.put, aset]
     refine tk 14 (.pointer (some ⟨b, off + k * 2, none⟩)) 31 rfl rfl (by kernel_rfl) (fun _ _ _ h => h) (.inl ⟨by rfl, by intro W' hS; go_simp⟩) hH ?_
     try simp only [Act.put, aset]
     refine tk 15 (.pointer (some ⟨b, off + k * 2 + 1, none⟩)) 32 rfl rfl (by kernel_rfl) (fun _ _ _ h => h) (.inl ⟨by rfl, by intro W' hS; go_simp⟩) hH ?_
     try simp only [Act.put, aset]
     refine tk 16 (.slice x.A x.n x.c) 33 rfl rfl (by kernel_rfl) (fun _ _ _ h => h) (.inl ⟨by rfl, by intro W' hS; have hc := (hS.cell (p := ⟨b, _, none⟩) hbB).trans (rng1 rx); go_simp⟩) hH ?_
     try simp only [Act.put, aset]
     refine tk 17 (.slice (some ⟨b', off', none⟩) n c') 34 rfl rfl (by kernel_rfl) (fun _ _ _ h => h) (.inl ⟨by rfl, by intro W' hS; go_simp⟩) hH ?_
     try simp only [Act.put, aset]
     refine tk 18 (.int .i64 k) 35 rfl rfl (by kernel_rfl) (fun _ _ _ h => h) (.inl ⟨by rfl, by intro W' hS; go_simp⟩) hH ?_
     try simp only [Act.put, aset]
     refine tk 19 (.pointer (some ⟨b', off' + k * 2, none⟩)) 36 rfl rfl (by kernel_rfl) (fun _ _ _ h => h) (.inl ⟨by rfl, by intro W' hS; go_simp⟩) hH ?_
     try simp only [Act.put, aset]
     refine tk 20 (.pointer (some ⟨b', off' + k * 2 + 1, none⟩)) 37 rfl rfl (by kernel_rfl) (fun _ _ _ h => h) (.inl ⟨by rfl, by intro W' hS; go_simp⟩) hH ?_
     try simp only [Act.put, aset]
     refine tk 21 (.slice y.A y.n y.c) 38 rfl rfl (by kernel_rfl) (fun _ _ _ h => h) (.inl ⟨by rfl, by intro W' hS; have hc := (hS.cell (p := ⟨b', _, none⟩) hbB').trans (rng1 ry); go_simp⟩) hH ?_
     try simp only [Act.put, aset]
     refine wpAnyH_ready (rs := [22]) (by kernel_rfl) (by simp) ?_
     refine AllReadyH.cons rfl (fun K hK => ?_) AllReadyH.nil
     go_simp
     refine (vseq_any x.A y.A x.n y.n x.c y.c x.vs y.vs HIX.out.len HIY.out.len HIX.out.m63 HIY.out.m63 _ (HIX.out.at hH) (HIY.out.at hH)).mono ?_
     rintro e v2 ⟨⟨q, rfl, hq⟩, d2⟩
     have S2 := bt hH d2
     have HQ := Lib.hid hq
     clear hH d2 hq
     cases q
     case false =>
      have HEQ := Lib.hid (show enL x ≠ enL y from fun h => absurd (HQ.out.2 (congrArg (·.2) h)) Bool.false_ne_true)
      refine hK.out _ _ S2 (fun hH => ?_)
      clear hK K
      try simp only [Act.put, aset]
      refine tk 23 (.bool true) 40 rfl rfl (by kernel_rfl) (fun _ _ _ h => h) (.inl ⟨by rfl, by intro W' hS; go_simp⟩) hH ?_
      try simp only [Act.put, aset]
      refine tk 24 (.bool true) 41 rfl rfl (by kernel_rfl) (fun _ _ _ h => h) (.inl ⟨by rfl, by intro W' hS; go_simp⟩) hH ?_
      try simp only [Act.put, aset]
      refine wpAnyH_done (by kernel_rfl) ?_ _
      go_wp2
      go_ret
      exact ⟨⟨false, rfl, ⟨fun h => absurd h Bool.false_ne_true, fun h => absurd h (HNE.out HEQ.out)⟩⟩, hH⟩
     case true =>
      have HEQ := Lib.hid (show enL x = enL y from by unfold enL; rw [H0.out, HQ.out.1 rfl])
      refine hK.out _ _ S2 (fun hH => ?_)
      clear hK K
      try simp only [Act.put, aset]
      refine tk 23 (.bool false) 40 rfl rfl (by kernel_rfl) (fun _ _ _ h => h) (.inl ⟨by rfl, by intro W' hS; go_simp⟩) hH ?_
      try simp only [Act.put, aset]
      refine tk 24 (.bool false) 41 rfl rfl (by kernel_rfl) (fun _ _ _ h => h) (.inl ⟨by rfl, by intro W' hS; go_simp⟩) hH ?_
      try simp only [Act.put, aset]
      refine wpAnyH_done (by kernel_rfl) ?_ _
      go_wp2_with fail
      go_roundw
      case rel => exact ⟨k + 1, by go_num, by omega, HS.out HEQ.out, hH⟩
      case measure => simp [intOf]; omega
   case neg =>
    go_wp2
    go_ret
    exact ⟨⟨true, rfl, ⟨fun _ => map_of_take (by omega) (by omega) HT.out, fun _ => rfl⟩⟩, hb⟩
theorem dnL_of {x y : Dn} (h0 : x.cl = y.cl) (h1 : x.rq = y.rq) (h : anL x.ans x.its = anL y.ans y.its) : dnL x = dnL y := by
 simp only [anL, Prod.mk.injEq] at h
 simp [dnL, dnF, h0, h1, h]
theorem dnL_an {x y : Dn} (h : dnL x = dnL y) : anL x.ans x.its = anL y.ans y.its := by
 simp only [dnL, dnF, Prod.mk.injEq] at h
 simp [anL, h]
set_option maxHeartbeats 3200000 in
set_option maxRecDepth 100000 in
theorem dneq_any (A A' : Option Addr) (n n' c c' : Nat) (xs ys : List Dn) (hx : xs.length = n) (hy : ys.length = n') (hm : n ≤ 9223372036854775807) (hm' : n' ≤ 9223372036854775807) (w : World) (hR : RdR dnC 11 w w.heap.size A xs) (hR' : RdR dnC 11 w w.heap.size A' ys) (hI : ∀ x ∈ xs, DnIn w w.heap.size x) (hI' : ∀ x ∈ ys, DnIn w w.heap.size x) :
  Calls Tryz.prog 40 #[.slice A n c, .slice A' n' c'] w (EqPost (xs.map dnL) (ys.map dnL) w) := by
 by_cases hn : n = n'
 case neg =>
  have b1 : ((n : Int) != (n' : Int)) = true := by simp; omega
  have b2 : ((n : Int) == (n' : Int)) = false := by simp; omega
  go_enter Tryz.func40, Tryz.ntmps40
  go_wp2
  go_ret
  exact ⟨⟨false, rfl, ⟨fun h => absurd h Bool.false_ne_true, fun h => absurd h (map_len_ne (by omega))⟩⟩, Below.refl _ _⟩
 case pos =>
  subst hn
  go_enter Tryz.func40, Tryz.ntmps40
  go_wp2_with fail
  go_loopw [5] (fun i wr => ∃ k : Nat, i = .int .i64 k ∧ k ≤ n ∧ (xs.take k).map dnL = (ys.take k).map dnL ∧ Below w.heap.size w wr) (fun i _ => n - (intOf i).toNat)
  case atStart => exact ⟨0, rfl, Nat.zero_le _, rfl, Below.refl _ _⟩
  case round =>
   obtain ⟨k, rfl, hk, ht, hb⟩ := hrel
   have i0 : (0 : Int) ≤ (k : Int) := by omega
   have HT := Lib.hid ht
   clear ht
   by_cases hlt : k < n
   case pos =>
    have i1 : (k : Int) < (n : Int) := by omega
    obtain ⟨b, off, rfl, hbB, rx⟩ := hR.at k (by omega)
    obtain ⟨b', off', rfl, hbB', ry⟩ := hR'.at k (by omega)
    have hs := fun (he : dnL (xs[k]'(by omega)) = dnL (ys[k]'(by omega))) => take_map_succ (by omega) (by omega) HT.out he
    have hne := fun (he : dnL (xs[k]'(by omega)) ≠ dnL (ys[k]'(by omega))) => map_ne_at (by omega) (by omega) he
    have hix := hI (xs[k]'(by omega)) (List.getElem_mem (by omega))
    have hiy := hI' (ys[k]'(by omega)) (List.getElem_mem (by omega))
    obtain ⟨x, hxk⟩ : ∃ x, xs[k]'(by omega) = x := ⟨_, rfl⟩
    obtain ⟨y, hyk⟩ : ∃ y, ys[k]'(by omega) = y := ⟨_, rfl⟩
    rw [hxk] at rx hs hne hix
    rw [hyk] at ry hs hne hiy
    have HS := Lib.hid hs
    have HNE := Lib.hid hne
    have HIX := Lib.hid hix
    have HIY := Lib.hid hiy
    clear hxk hyk hs hne hix hiy
    go_wp2_with fail
    by_cases h0 : x.cl = y.cl
    case neg =>
     have s0 : (x.cl == y.cl) = false := by simp [h0]
     have t0 : (x.cl != y.cl) = true := by simp [h0]
     have HEQ := Lib.hid (show dnL x ≠ dnL y from fun h => h0 (congrArg (fun z : DnL => z.1.1) h))
     have H0 := Lib.hid h0
     clear h0
     refine wp_region_held_drew (S := (fun W' => Below w.heap.size w W')) (by kernel_rfl) hb.drew (fun hH => ?_)
     refine tk 0 (.slice (some ⟨b, off, none⟩) n c) 17 rfl rfl (by kernel_rfl) (fun _ _ _ h => h) (.inl ⟨by rfl, by intro W' hS; go_simp⟩) hH ?_
     try simp only [Act.put, aset]
     refine tk 1 (.int .i64 k) 18 rfl rfl (by kernel_rfl) (fun _ _ _ h => h) (.inl ⟨by rfl, by intro W' hS; go_simp⟩) hH ?_
     try simp only [Act.put, aset]
     refine tk 2 (.pointer (some ⟨b, off + k * 11, none⟩)) 19 rfl rfl (by kernel_rfl) (fun _ _ _ h => h) (.inl ⟨by rfl, by intro W' hS; go_simp⟩) hH ?_
     try simp only [Act.put, aset]
     refine tk 3 (.pointer (some ⟨b, off + k * 11, none⟩)) 20 rfl rfl (by kernel_rfl) (fun _ _ _ h => h) (.inl ⟨by rfl, by intro W' hS; go_simp⟩) hH ?_
     try simp only [Act.put, aset]
     refine tk 4 (.int .i64 x.cl) 21 rfl rfl (by kernel_rfl) (fun _ _ _ h => h) (.inl ⟨by rfl, by intro W' hS; have hc := (hS.cell (p := ⟨b, _, none⟩) hbB).trans (rng0 rx); go_simp⟩) hH ?_
     try simp only [Act.put, aset]
     refine tk 5 (.slice (some ⟨b', off', none⟩) n c') 22 rfl rfl (by kernel_rfl) (fun _ _ _ h => h) (.inl ⟨by rfl, by intro W' hS; go_simp⟩) hH ?_
     try simp only [Act.put, aset]
     refine tk 6 (.int .i64 k) 23 rfl rfl (by kernel_rfl) (fun _ _ _ h => h) (.inl ⟨by rfl, by intro W' hS; go_simp⟩) hH ?_
     try simp only [Act.put, aset]
     refine tk 7 (.pointer (some ⟨b', off' + k * 11, none⟩)) 24 rfl rfl (by kernel_rfl) (fun _ _ _ h => h) (.inl ⟨by rfl, by intro W' hS; go_simp⟩) hH ?_
     try simp only [Act.put, aset]
     refine tk 8 (.pointer (some ⟨b', off' + k * 11, none⟩)) 25 rfl rfl (by kernel_rfl) (fun _ _ _ h => h) (.inl ⟨by rfl, by intro W' hS; go_simp⟩) hH ?_
     try simp only [Act.put, aset]
     refine tk 9 (.int .i64 y.cl) 26 rfl rfl (by kernel_rfl) (fun _ _ _ h => h) (.inl ⟨by rfl, by intro W' hS; have hc := (hS.cell (p := ⟨b', _, none⟩) hbB').trans (rng0 ry); go_simp⟩) hH ?_
     try simp only [Act.put, aset]
     refine tk 10 (.bool true) 27 rfl rfl (by kernel_rfl) (fun _ _ _ h => h) (.inl ⟨by rfl, by intro W' hS; go_simp⟩) hH ?_
     try simp only [Act.put, aset]
     refine tk 11 (.bool true) 28 rfl rfl (by kernel_rfl) (fun _ _ _ h => h) (.inl ⟨by rfl, by intro W' hS; go_simp⟩) hH ?_
     try simp only [Act.put, aset]
     refine tk 12 undef 29 rfl rfl (by kernel_rfl) (fun _ _ _ h => h) (.inr ⟨by kernel_rfl, rfl⟩) hH ?_
     try simp only [Act.put, aset]
     refine tk 13 undef 30 rfl rfl (by kernel_rfl) (fun _ _ _ h => h) (.inr ⟨by kernel_rfl, rfl⟩) hH ?_
     try simp only [Act.put, aset]
     refine tk 14 undef 31 rfl rfl (by kernel_rfl) (fun _ _ _ h => h) (.inr ⟨by kernel_rfl, rfl⟩) hH ?_
     try simp only [Act.put, aset]
     refine tk 15 undef 32 rfl rfl (by kernel_rfl) (fun _ _ _ h => h) (.inr ⟨by kernel_rfl, rfl⟩) hH ?_
     try simp only [Act.put, aset]
     refine tk 16 undef 33 rfl rfl (by kernel_rfl) (fun _ _ _ h => h) (.inr ⟨by kernel_rfl, rfl⟩) hH ?_
     try simp only [Act.put, aset]
     refine tk 17 undef 34 rfl rfl (by kernel_rfl) (fun _ _ _ h => h) (.inr ⟨by kernel_rfl, rfl⟩) hH ?_
     try simp only [Act.put, aset]
     refine tk 18 undef 35 rfl rfl (by kernel_rfl) (fun _ _ _ h => h) (.inr ⟨by kernel_rfl, rfl⟩) hH ?_
     try simp only [Act.put, aset]
     refine tk 19 undef 36 rfl rfl (by kernel_rfl) (fun _ _ _ h => h) (.inr ⟨by kernel_rfl, rfl⟩) hH ?_
     try simp only [Act.put, aset]
     refine tk 20 undef 37 rfl rfl (by kernel_rfl) (fun _ _ _ h => h) (.inr ⟨by kernel_rfl, rfl⟩) hH ?_
     try simp only [Act.put, aset]
     refine tk 21 undef 38 rfl rfl (by kernel_rfl) (fun _ _ _ h => h) (.inr ⟨by kernel_rfl, rfl⟩) hH ?_
     try simp only [Act.put, aset]
     refine tk 22 undef 39 rfl rfl (by kernel_rfl) (fun _ _ _ h => h) (.inr ⟨by kernel_rfl, rfl⟩) hH ?_
     try simp only [Act.put, aset]
     refine tk 23 (.bool true) 40 rfl rfl (by kernel_rfl) (fun _ _ _ h => h) (.inl ⟨by rfl, by intro W' hS; go_simp⟩) hH ?_
     try simp only [Act.put, aset]
     refine tk 24 (.bool true) 41 rfl rfl (by kernel_rfl) (fun _ _ _ h => h) (.inl ⟨by rfl, by intro W' hS; go_simp⟩) hH ?_
     try simp only [Act.put, aset]
     refine tk 25 undef 42 rfl rfl (by kernel_rfl) (fun _ _ _ h => h) (.inr ⟨by kernel_rfl, rfl⟩) hH ?_
     try simp only [Act.put, aset]
     refine tk 26 undef 43 rfl rfl (by kernel_rfl) (fun _ _ _ h => h) (.inr ⟨by kernel_rfl, rfl⟩) hH ?_
     try simp only [Act.put, aset]
     refine tk 27 undef 44 rfl rfl (by kernel_rfl) (fun _ _ _ h => h) (.inr ⟨by kernel_rfl, rfl⟩) hH ?_
     try simp only [Act.put, aset]
     refine tk 28 undef 45 rfl rfl (by kernel_rfl) (fun _ _ _ h => h) (.inr ⟨by kernel_rfl, rfl⟩) hH ?_
     try simp only [Act.put, aset]
     refine tk 29 undef 46 rfl rfl (by kernel_rfl) (fun _ _ _ h => h) (.inr ⟨by kernel_rfl, rfl⟩) hH ?_
     try simp only [Act.put, aset]
     refine tk 30 undef 47 rfl rfl (by kernel_rfl) (fun _ _ _ h => h) (.inr ⟨by kernel_rfl, rfl⟩) hH ?_
     try simp only [Act.put, aset]
     refine tk 31 undef 48 rfl rfl (by kernel_rfl) (fun _ _ _ h => h) (.inr ⟨by kernel_rfl, rfl⟩) hH ?_
     try simp only [Act.put, aset]
     refine tk 32 undef 49 rfl rfl (by kernel_rfl) (fun _ _ _ h => h) (.inr ⟨by kernel_rfl, rfl⟩) hH ?_
     try simp only [Act.put, aset]
     refine tk 33 undef 50 rfl rfl (by kernel_rfl) (fun _ _ _ h => h) (.inr ⟨by kernel_rfl, rfl⟩) hH ?_
     try simp only [Act.put, aset]
     refine tk 34 undef 51 rfl rfl (by kernel_rfl) (fun _ _ _ h => h) (.inr ⟨by kernel_rfl, rfl⟩) hH ?_
     try simp only [Act.put, aset]
     refine wpAnyH_ready (rs := [35]) (by kernel_rfl) (by simp) ?_
     refine AllReadyH.cons rfl (fun K hK => ?_) AllReadyH.nil
     go_simp
     refine hK.out _ _ hH (fun hH => ?_)
     clear hK K
     try simp only [Act.put, aset]
     refine tk 36 undef 53 rfl rfl (by kernel_rfl) (fun _ _ _ h => h) (.inr ⟨by kernel_rfl, rfl⟩) hH ?_
     try simp only [Act.put, aset]
     refine tk 37 (.bool true) 54 rfl rfl (by kernel_rfl) (fun _ _ _ h => h) (.inl ⟨by rfl, by intro W' hS; go_simp⟩) hH ?_
     try simp only [Act.put, aset]
     refine wpAnyH_done (by kernel_rfl) ?_ _
     go_wp2
     go_ret
     exact ⟨⟨false, rfl, ⟨fun h => absurd h Bool.false_ne_true, fun h => absurd h (HNE.out HEQ.out)⟩⟩, hH⟩
    case pos =>
     have s0 : (x.cl == y.cl) = true := by simp [h0]
     have t0 : (x.cl != y.cl) = false := by simp [h0]
     have H0 := Lib.hid h0
     clear h0
     by_cases h1 : x.rq = y.rq
     case neg =>
      have s1 : (x.rq == y.rq) = false := by simp [h1]
      have t1 : (x.rq != y.rq) = true := by simp [h1]
      have HEQ := Lib.hid (show dnL x ≠ dnL y from fun h => h1 (congrArg (fun z : DnL => z.1.2.1) h))
      have H1 := Lib.hid h1
      clear h1
      refine wp_region_held_drew (S := (fun W' => Below w.heap.size w W')) (by kernel_rfl) hb.drew (fun hH => ?_)
      refine tk 0 (.slice (some ⟨b, off, none⟩) n c) 17 rfl rfl (by kernel_rfl) (fun _ _ _ h => h) (.inl ⟨by rfl, by intro W' hS; go_simp⟩) hH ?_
      try simp only [Act.put, aset]
      refine tk 1 (.int .i64 k) 18 rfl rfl (by kernel_rfl) (fun _ _ _ h => h) (.inl ⟨by rfl, by intro W' hS; go_simp⟩) hH ?_
      try simp only [Act.put, aset]
      refine tk 2 (.pointer (some ⟨b, off + k * 11, none⟩)) 19 rfl rfl (by kernel_rfl) (fun _ _ _ h => h) (.inl ⟨by rfl, by intro W' hS; go_simp⟩) hH ?_
      try simp only [Act.put, aset]
      refine tk 3 (.pointer (some ⟨b, off + k * 11, none⟩)) 20 rfl rfl (by kernel_rfl) (fun _ _ _ h => h) (.inl ⟨by rfl, by intro W' hS; go_simp⟩) hH ?_
      try simp only [Act.put, aset]
      refine tk 4 (.int .i64 x.cl) 21 rfl rfl (by kernel_rfl) (fun _ _ _ h => h) (.inl ⟨by rfl, by intro W' hS; have hc := (hS.cell (p := ⟨b, _, none⟩) hbB).trans (rng0 rx); go_simp⟩) hH ?_
      try simp only [Act.put, aset]
      refine tk 5 (.slice (some ⟨b', off', none⟩) n c') 22 rfl rfl (by kernel_rfl) (fun _ _ _ h => h) (.inl ⟨by rfl, by intro W' hS; go_simp⟩) hH ?_
      try simp only [Act.put, aset]
      refine tk 6 (.int .i64 k) 23 rfl rfl (by kernel_rfl) (fun _ _ _ h => h) (.inl ⟨by rfl, by intro W' hS; go_simp⟩) hH ?_
      try simp only [Act.put, aset]
      refine tk 7 (.pointer (some ⟨b', off' + k * 11, none⟩)) 24 rfl rfl (by kernel_rfl) (fun _ _ _ h => h) (.inl ⟨by rfl, by intro W' hS; go_simp⟩) hH ?_
      try simp only [Act.put, aset]
      refine tk 8 (.pointer (some ⟨b', off' + k * 11, none⟩)) 25 rfl rfl (by kernel_rfl) (fun _ _ _ h => h) (.inl ⟨by rfl, by intro W' hS; go_simp⟩) hH ?_
      try simp only [Act.put, aset]
      refine tk 9 (.int .i64 y.cl) 26 rfl rfl (by kernel_rfl) (fun _ _ _ h => h) (.inl ⟨by rfl, by intro W' hS; have hc := (hS.cell (p := ⟨b', _, none⟩) hbB').trans (rng0 ry); go_simp⟩) hH ?_
      try simp only [Act.put, aset]
      refine tk 10 (.bool false) 27 rfl rfl (by kernel_rfl) (fun _ _ _ h => h) (.inl ⟨by rfl, by intro W' hS; go_simp⟩) hH ?_
      try simp only [Act.put, aset]
      refine tk 11 (.bool false) 28 rfl rfl (by kernel_rfl) (fun _ _ _ h => h) (.inl ⟨by rfl, by intro W' hS; go_simp⟩) hH ?_
      try simp only [Act.put, aset]
      refine tk 12 (.slice (some ⟨b, off, none⟩) n c) 29 rfl rfl (by kernel_rfl) (fun _ _ _ h => h) (.inl ⟨by rfl, by intro W' hS; go_simp⟩) hH ?_
      try simp only [Act.put, aset]
      refine tk 13 (.int .i64 k) 30 rfl rfl (by kernel_rfl) (fun _ _ _ h => h) (.inl ⟨by rfl, by intro W' hS; go_simp⟩) hH ?_
      try simp only [Act.put, aset]
      refine tk 14 (.pointer (some ⟨b, off + k * 11, none⟩)) 31 rfl rfl (by kernel_rfl) (fun _ _ _ h => h) (.inl ⟨by rfl, by intro W' hS; go_simp⟩) hH ?_
      try simp only [Act.put, aset]
      refine tk 15 (.pointer (some ⟨b, off + k * 11 + 1, none⟩)) 32 rfl rfl (by kernel_rfl) (fun _ _ _ h => h) (.inl ⟨by rfl, by intro W' hS; go_simp⟩) hH ?_
      try simp only [Act.put, aset]
      refine tk 16 (.int .i64 x.rq) 33 rfl rfl (by kernel_rfl) (fun _ _ _ h => h) (.inl ⟨by rfl, by intro W' hS; have hc := (hS.cell (p := ⟨b, _, none⟩) hbB).trans (rng1 rx); go_simp⟩) hH ?_
      try simp only [Act.put, aset]
      refine tk 17 (.slice (some ⟨b', off', none⟩) n c') 34 rfl rfl (by kernel_rfl) (fun _ _ _ h => h) (.inl ⟨by rfl, by intro W' hS; go_simp⟩) hH ?_
      try simp only [Act.put, aset]
      refine tk 18 (.int .i64 k) 35 rfl rfl (by kernel_rfl) (fun _ _ _ h => h) (.inl ⟨by rfl, by intro W' hS; go_simp⟩) hH ?_
      try simp only [Act.put, aset]
      refine tk 19 (.pointer (some ⟨b', off' + k * 11, none⟩)) 36 rfl rfl (by kernel_rfl) (fun _ _ _ h => h) (.inl ⟨by rfl, by intro W' hS; go_simp⟩) hH ?_
      try simp only [Act.put, aset]
      refine tk 20 (.pointer (some ⟨b', off' + k * 11 + 1, none⟩)) 37 rfl rfl (by kernel_rfl) (fun _ _ _ h => h) (.inl ⟨by rfl, by intro W' hS; go_simp⟩) hH ?_
      try simp only [Act.put, aset]
      refine tk 21 (.int .i64 y.rq) 38 rfl rfl (by kernel_rfl) (fun _ _ _ h => h) (.inl ⟨by rfl, by intro W' hS; have hc := (hS.cell (p := ⟨b', _, none⟩) hbB').trans (rng1 ry); go_simp⟩) hH ?_
      try simp only [Act.put, aset]
      refine tk 22 (.bool true) 39 rfl rfl (by kernel_rfl) (fun _ _ _ h => h) (.inl ⟨by rfl, by intro W' hS; go_simp⟩) hH ?_
      try simp only [Act.put, aset]
      refine tk 23 (.bool true) 40 rfl rfl (by kernel_rfl) (fun _ _ _ h => h) (.inl ⟨by rfl, by intro W' hS; go_simp⟩) hH ?_
      try simp only [Act.put, aset]
      refine tk 24 (.bool true) 41 rfl rfl (by kernel_rfl) (fun _ _ _ h => h) (.inl ⟨by rfl, by intro W' hS; go_simp⟩) hH ?_
      try simp only [Act.put, aset]
      refine tk 25 undef 42 rfl rfl (by kernel_rfl) (fun _ _ _ h => h) (.inr ⟨by kernel_rfl, rfl⟩) hH ?_
      try simp only [Act.put, aset]
      refine tk 26 undef 43 rfl rfl (by kernel_rfl) (fun _ _ _ h => h) (.inr ⟨by kernel_rfl, rfl⟩) hH ?_
      try simp only [Act.put, aset]
      refine tk 27 undef 44 rfl rfl (by kernel_rfl) (fun _ _ _ h => h) (.inr ⟨by kernel_rfl, rfl⟩) hH ?_
      try simp only [Act.put, aset]
      refine tk 28 undef 45 rfl rfl (by kernel_rfl) (fun _ _ _ h => h) (.inr ⟨by kernel_rfl, rfl⟩) hH ?_
      try simp only [Act.put, aset]
      refine tk 29 undef 46 rfl rfl (by kernel_rfl) (fun _ _ _ h => h) (.inr ⟨by kernel_rfl, rfl⟩) hH ?_
      try simp only [Act.put, aset]
      refine tk 30 undef 47 rfl rfl (by kernel_rfl) (fun _ _ _ h => h) (.inr ⟨by kernel_rfl, rfl⟩) hH ?_
      try simp only [Act.put, aset]
      refine tk 31 undef 48 rfl rfl (by kernel_rfl) (fun _ _ _ h => h) (.inr ⟨by kernel_rfl, rfl⟩) hH ?_
      try simp only [Act.put, aset]
      refine tk 32 undef 49 rfl rfl (by kernel_rfl) (fun _ _ _ h => h) (.inr ⟨by kernel_rfl, rfl⟩) hH ?_
      try simp only [Act.put, aset]
      refine tk 33 undef 50 rfl rfl (by kernel_rfl) (fun _ _ _ h => h) (.inr ⟨by kernel_rfl, rfl⟩) hH ?_
      try simp only [Act.put, aset]
      refine tk 34 undef 51 rfl rfl (by kernel_rfl) (fun _ _ _ h => h) (.inr ⟨by kernel_rfl, rfl⟩) hH ?_
      try simp only [Act.put, aset]
      refine wpAnyH_ready (rs := [35]) (by kernel_rfl) (by simp) ?_
      refine AllReadyH.cons rfl (fun K hK => ?_) AllReadyH.nil
      go_simp
      refine hK.out _ _ hH (fun hH => ?_)
      clear hK K
      try simp only [Act.put, aset]
      refine tk 36 undef 53 rfl rfl (by kernel_rfl) (fun _ _ _ h => h) (.inr ⟨by kernel_rfl, rfl⟩) hH ?_
      try simp only [Act.put, aset]
      refine tk 37 (.bool true) 54 rfl rfl (by kernel_rfl) (fun _ _ _ h => h) (.inl ⟨by rfl, by intro W' hS; go_simp⟩) hH ?_
      try simp only [Act.put, aset]
      refine wpAnyH_done (by kernel_rfl) ?_ _
      go_wp2
      go_ret
      exact ⟨⟨false, rfl, ⟨fun h => absurd h Bool.false_ne_true, fun h => absurd h (HNE.out HEQ.out)⟩⟩, hH⟩
     case pos =>
      have s1 : (x.rq == y.rq) = true := by simp [h1]
      have t1 : (x.rq != y.rq) = false := by simp [h1]
      have H1 := Lib.hid h1
      clear h1
      refine wp_region_held_drew (S := (fun W' => Below w.heap.size w W')) (by kernel_rfl) hb.drew (fun hH => ?_)
      refine tk 0 (.slice (some ⟨b, off, none⟩) n c) 17 rfl rfl (by kernel_rfl) (fun _ _ _ h => h) (.inl ⟨by rfl, by intro W' hS; go_simp⟩) hH ?_
      try simp only [Act.put, aset]
      refine tk 1 (.int .i64 k) 18 rfl rfl (by kernel_rfl) (fun _ _ _ h => h) (.inl ⟨by rfl, by intro W' hS; go_simp⟩) hH ?_
      try simp only [Act.put, aset]
      refine tk 2 (.pointer (some ⟨b, off + k * 11, none⟩)) 19 rfl rfl (by kernel_rfl) (fun _ _ _ h => h) (.inl ⟨by rfl, by intro W' hS; go_simp⟩) hH ?_
      try simp only [Act.put, aset]
      refine tk 3 (.pointer (some ⟨b, off + k * 11, none⟩)) 20 rfl rfl (by kernel_rfl) (fun _ _ _ h => h) (.inl ⟨by rfl, by intro W' hS; go_simp⟩) hH ?_
      try simp only [Act.put, aset]
      refine tk 4 (.int .i64 x.cl) 21 rfl rfl (by kernel_rfl) (fun _ _ _ h => h) (.inl ⟨by rfl, by intro W' hS; have hc := (hS.cell (p := ⟨b, _, none⟩) hbB).trans (rng0 rx); go_simp⟩) hH ?_
      try simp only [Act.put, aset]
      refine tk 5 (.slice (some ⟨b', off', none⟩) n c') 22 rfl rfl (by kernel_rfl) (fun _ _ _ h => h) (.inl ⟨by rfl, by intro W' hS; go_simp⟩) hH ?_
      try simp only [Act.put, aset]
      refine tk 6 (.int .i64 k) 23 rfl rfl (by kernel_rfl) (fun _ _ _ h => h) (.inl ⟨by rfl, by intro W' hS; go_simp⟩) hH ?_
      try simp only [Act.put, aset]
      refine tk 7 (.pointer (some ⟨b', off' + k * 11, none⟩)) 24 rfl rfl (by kernel_rfl) (fun _ _ _ h => h) (.inl ⟨by rfl, by intro W' hS; go_simp⟩) hH ?_
      try simp only [Act.put, aset]
      refine tk 8 (.pointer (some ⟨b', off' + k * 11, none⟩)) 25 rfl rfl (by kernel_rfl) (fun _ _ _ h => h) (.inl ⟨by rfl, by intro W' hS; go_simp⟩) hH ?_
      try simp only [Act.put, aset]
      refine tk 9 (.int .i64 y.cl) 26 rfl rfl (by kernel_rfl) (fun _ _ _ h => h) (.inl ⟨by rfl, by intro W' hS; have hc := (hS.cell (p := ⟨b', _, none⟩) hbB').trans (rng0 ry); go_simp⟩) hH ?_
      try simp only [Act.put, aset]
      refine tk 10 (.bool false) 27 rfl rfl (by kernel_rfl) (fun _ _ _ h => h) (.inl ⟨by rfl, by intro W' hS; go_simp⟩) hH ?_
      try simp only [Act.put, aset]
      refine tk 11 (.bool false) 28 rfl rfl (by kernel_rfl) (fun _ _ _ h => h) (.inl ⟨by rfl, by intro W' hS; go_simp⟩) hH ?_
      try simp only [Act.put, aset]
      refine tk 12 (.slice (some ⟨b, off, none⟩) n c) 29 rfl rfl (by kernel_rfl) (fun _ _ _ h => h) (.inl ⟨by rfl, by intro W' hS; go_simp⟩) hH ?_
      try simp only [Act.put, aset]
      refine tk 13 (.int .i64 k) 30 rfl rfl (by kernel_rfl) (fun _ _ _ h => h) (.inl ⟨by rfl, by intro W' hS; go_simp⟩) hH ?_
      try simp only [Act.put, aset]
      refine tk 14 (.pointer (some ⟨b, off + k * 11, none⟩)) 31 rfl rfl (by kernel_rfl) (fun _ _ _ h => h) (.inl ⟨by rfl, by intro W' hS; go_simp⟩) hH ?_
      try simp only [Act.put, aset]
      refine tk 15 (.pointer (some ⟨b, off + k * 11 + 1, none⟩)) 32 rfl rfl (by kernel_rfl) (fun _ _ _ h => h) (.inl ⟨by rfl, by intro W' hS; go_simp⟩) hH ?_
      try simp only [Act.put, aset]
      refine tk 16 (.int .i64 x.rq) 33 rfl rfl (by kernel_rfl) (fun _ _ _ h => h) (.inl ⟨by rfl, by intro W' hS; have hc := (hS.cell (p := ⟨b, _, none⟩) hbB).trans (rng1 rx); go_simp⟩) hH ?_
      try simp only [Act.put, aset]
      refine tk 17 (.slice (some ⟨b', off', none⟩) n c') 34 rfl rfl (by kernel_rfl) (fun _ _ _ h => h) (.inl ⟨by rfl, by intro W' hS; go_simp⟩) hH ?_
      try simp only [Act.put, aset]
      refine tk 18 (.int .i64 k) 35 rfl rfl (by kernel_rfl) (fun _ _ _ h => h) (.inl ⟨by rfl, by intro W' hS; go_simp⟩) hH ?_
      try simp only [Act.put, aset]
      refine tk 19 (.pointer (some ⟨b', off' + k * 11, none⟩)) 36 rfl rfl (by kernel_rfl) (fun _ _ _ h => h) (.inl ⟨by rfl, by intro W' hS; go_simp⟩) hH ?_
      try simp only [Act.put, aset]
      refine tk 20 (.pointer (some ⟨b', off' + k * 11 + 1, none⟩)) 37 rfl rfl (by kernel_rfl) (fun _ _ _ h => h) (.inl ⟨by rfl, by intro W' hS; go_simp⟩) hH ?_
      try simp only [Act.put, aset]
      refine tk 21 (.int .i64 y.rq) 38 rfl rfl (by kernel_rfl) (fun _ _ _ h => h) (.inl ⟨by rfl, by intro W' hS; have hc := (hS.cell (p := ⟨b', _, none⟩) hbB').trans (rng1 ry); go_simp⟩) hH ?_
      try simp only [Act.put, aset]
      refine tk 22 (.bool false) 39 rfl rfl (by kernel_rfl) (fun _ _ _ h => h) (.inl ⟨by rfl, by intro W' hS; go_simp⟩) hH ?_
      try simp only [Act.put, aset]
      refine tk 23 (.bool false) 40 rfl rfl (by kernel_rfl) (fun _ _ _ h => h) (.inl ⟨by rfl, by intro W' hS; go_simp⟩) hH ?_
      try simp only [Act.put, aset]
      refine tk 24 (.bool false) 41 rfl rfl (by kernel_rfl) (fun _ _ _ h => h) (.inl ⟨by rfl, by intro W' hS; go_simp⟩) hH ?_
      try simp only [Act.put, aset]
      refine tk 25 (.slice (some ⟨b, off, none⟩) n c) 42 rfl rfl (by kernel_rfl) (fun _ _ _ h => h) (.inl ⟨by rfl, by intro W' hS; go_simp⟩) hH ?_
      try simp only [Act.put, aset]
      refine tk 26 (.int .i64 k) 43 rfl rfl (by kernel_rfl) (fun _ _ _ h => h) (.inl ⟨by rfl, by intro W' hS; go_simp⟩) hH ?_
      try simp only [Act.put, aset]
      refine tk 27 (.pointer (some ⟨b, off + k * 11, none⟩)) 44 rfl rfl (by kernel_rfl) (fun _ _ _ h => h) (.inl ⟨by rfl, by intro W' hS; go_simp⟩) hH ?_
      try simp only [Act.put, aset]
      refine tk 28 (.pointer (some ⟨b, off + k * 11 + 2, none⟩)) 45 rfl rfl (by kernel_rfl) (fun _ _ _ h => h) (.inl ⟨by rfl, by intro W' hS; go_simp⟩) hH ?_
      try simp only [Act.put, aset]
      refine tk 29 (.agg (anA x.ans)) 46 rfl rfl (by kernel_rfl) (fun _ _ _ h => h) (yieldsIf_load_mid (by rfl) 47 _ rfl (b) (off + k * 11 + 2) (by rfl) (anA x.ans).toList _ (fun _ h => rng_below (dn_ans rx) h hbB) Tryz.underlying47 (by with_unfolding_all rfl) (by with_unfolding_all rfl)) hH ?_
      try simp only [Act.put, aset]
      refine tk 30 (.slice (some ⟨b', off', none⟩) n c') 47 rfl rfl (by kernel_rfl) (fun _ _ _ h => h) (.inl ⟨by rfl, by intro W' hS; go_simp⟩) hH ?_
      try simp only [Act.put, aset]
      refine tk 31 (.int .i64 k) 48 rfl rfl (by kernel_rfl) (fun _ _ _ h => h) (.inl ⟨by rfl, by intro W' hS; go_simp⟩) hH ?_
      try simp only [Act.put, aset]
      refine tk 32 (.pointer (some ⟨b', off' + k * 11, none⟩)) 49 rfl rfl (by kernel_rfl) (fun _ _ _ h => h) (.inl ⟨by rfl, by intro W' hS; go_simp⟩) hH ?_
      try simp only [Act.put, aset]
      refine tk 33 (.pointer (some ⟨b', off' + k * 11 + 2, none⟩)) 50 rfl rfl (by kernel_rfl) (fun _ _ _ h => h) (.inl ⟨by rfl, by intro W' hS; go_simp⟩) hH ?_
      try simp only [Act.put, aset]
      refine tk 34 (.agg (anA y.ans)) 51 rfl rfl (by kernel_rfl) (fun _ _ _ h => h) (yieldsIf_load_mid (by rfl) 47 _ rfl (b') (off' + k * 11 + 2) (by rfl) (anA y.ans).toList _ (fun _ h => rng_below (dn_ans ry) h hbB') Tryz.underlying47 (by with_unfolding_all rfl) (by with_unfolding_all rfl)) hH ?_
      try simp only [Act.put, aset]
      refine wpAnyH_ready (rs := [35]) (by kernel_rfl) (by simp) ?_
      refine AllReadyH.cons rfl (fun K hK => ?_) AllReadyH.nil
      go_simp
      refine (saneq_any x.ans y.ans x.its y.its HIX.out.len HIY.out.len HIX.out.m63 HIY.out.m63 _ (HIX.out.at hH) (HIY.out.at hH)).mono ?_
      rintro e v2 ⟨⟨q, rfl, hq⟩, d2⟩
      have S2 := bt hH d2
      have HQ := Lib.hid hq
      clear hH d2 hq
      cases q
      case false =>
       have HEQ := Lib.hid (show dnL x ≠ dnL y from fun h => absurd (HQ.out.2 (dnL_an h)) Bool.false_ne_true)
       refine hK.out _ _ S2 (fun hH => ?_)
       clear hK K
       try simp only [Act.put, aset]
       refine tk 36 (.bool true) 53 rfl rfl (by kernel_rfl) (fun _ _ _ h => h) (.inl ⟨by rfl, by intro W' hS; go_simp⟩) hH ?_
       try simp only [Act.put, aset]
       refine tk 37 (.bool true) 54 rfl rfl (by kernel_rfl) (fun _ _ _ h => h) (.inl ⟨by rfl, by intro W' hS; go_simp⟩) hH ?_
       try simp only [Act.put, aset]
       refine wpAnyH_done (by kernel_rfl) ?_ _
       go_wp2
       go_ret
       exact ⟨⟨false, rfl, ⟨fun h => absurd h Bool.false_ne_true, fun h => absurd h (HNE.out HEQ.out)⟩⟩, hH⟩
      case true =>
       have HEQ := Lib.hid (dnL_of H0.out H1.out (HQ.out.1 rfl))
       refine hK.out _ _ S2 (fun hH => ?_)
       clear hK K
       try simp only [Act.put, aset]
       refine tk 36 (.bool false) 53 rfl rfl (by kernel_rfl) (fun _ _ _ h => h) (.inl ⟨by rfl, by intro W' hS; go_simp⟩) hH ?_
       try simp only [Act.put, aset]
       refine tk 37 (.bool false) 54 rfl rfl (by kernel_rfl) (fun _ _ _ h => h) (.inl ⟨by rfl, by intro W' hS; go_simp⟩) hH ?_
       try simp only [Act.put, aset]
       refine wpAnyH_done (by kernel_rfl) ?_ _
       go_wp2_with fail
       go_roundw
       case rel => exact ⟨k + 1, by go_num, by omega, HS.out HEQ.out, hH⟩
       case measure => simp [intOf]; omega
   case neg =>
    go_wp2
    go_ret
    exact ⟨⟨true, rfl, ⟨fun _ => map_of_take (by omega) (by omega) HT.out, fun _ => rfl⟩⟩, hb⟩
end Go.Proofs.YtkoligiilieboaaGreatDoor
