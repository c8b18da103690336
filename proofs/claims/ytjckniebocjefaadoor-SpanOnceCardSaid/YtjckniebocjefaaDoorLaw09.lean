/- The walks of the laws of spans: SpanRights, SpanCuts, SpanJoins, SpanMeets, SpanBack. -/
import Derived.Test.YtjckniebocjefaaDoorSpanW4
import Derived.Deep.RegionHeld3
import Derived.Deep.DrawnRows
import Derived.Deep.DeepCutAuto
namespace Go.Proofs.YtjckniebocjefaaDoor
open Go.RowKit
attribute [local go_sem] ByteArray.mk_append_mk ByteArray.extract_mk
attribute [local go_sem ↓] Go.wp_at_zero Go.wp_at_succ
def BackCut (W : World) (i j : Bool) (s12 s13 : Value) (wx : World) : Prop := s12 = .bool i ∧ s13 = .bool j ∧ Below W.heap.size W wx
theorem aw1 : cutSp ⟨[98], [100]⟩ [99] = (⟨[98], [99]⟩, ⟨[99], [100]⟩, 0) := by decide
theorem aw2 : hasSp ⟨[98], [100]⟩ [99] = true := by decide
theorem aw3 : hasSp ⟨[98], [100]⟩ [100] = false := by decide
set_option maxHeartbeats 3200000 in
set_option maxRecDepth 100000 in
theorem awake09 (w : World) (hT : Go.Lib.Utf8Tabs 0 1 w) : Calls Tryd.prog 14 #[] w fun e w' => e = .returned (.bool true) ∧ Below w.heap.size w w' := by
  go_enter Tryd.func14, Tryd.ntmps14
  have hB0 : Below w.heap.size w w := b0 w
  go_wp2_with fail
  refine (spcut_any [98] [100] (by simp) (by simp) [99] (by simp) _ (Utf8Tabs_below hT (by (repeat (first | with_reducible exact b0 _ | with_reducible assumption | with_reducible refine Below.drew ?_ | with_reducible refine below_drewN ?_ _ | with_reducible refine bal ?_ _ | ((with_reducible refine bst ?_ ?_ _); rotate_left; focus (first | exact Nat.le_refl _ | assumption | (simp; done) | (simp; omega) | omega)) | exact below_left (by with_reducible assumption)))))).mono ?_
  rintro e w1 ⟨rfl, hb1⟩
  rw [aw1]
  have Gs1 : Blk w1 (w.heap.size) 23 #[.string ⟨#[98]⟩, .string ⟨#[100]⟩] := Blk.keep (Blk.new' _ _ _ _ (by simp)) hb1
  have hB1 : Below w.heap.size w w1 := bt (bal (hB0) _) hb1
  obtain ⟨sl, sc0, sc1, sf0, sf1⟩ := Gs1.c2
  go_wp2_with fail
  refine (sphas_any [98] [100] (by simp) (by simp) [99] (by simp) _ (Utf8Tabs_below hT (by (repeat (first | with_reducible exact b0 _ | with_reducible assumption | with_reducible refine Below.drew ?_ | with_reducible refine below_drewN ?_ _ | with_reducible refine bal ?_ _ | ((with_reducible refine bst ?_ ?_ _); rotate_left; focus (first | exact Nat.le_refl _ | assumption | (simp; done) | (simp; omega) | omega)) | exact below_left (by with_reducible assumption)))))).mono ?_
  rintro e w2 ⟨rfl, hb2⟩
  rw [aw2]
  have Gs2 := Blk.keep (Blk.alloc (Blk.alloc (Gs1) _) _) hb2
  have Ga2 : Blk w2 (w1.heap.size) 23 #[.string ⟨#[98]⟩, .string ⟨#[99]⟩] := Blk.keep (Blk.alloc (Blk.new' _ _ _ _ (by simp)) _) hb2
  have Gb2 : Blk w2 (w1.heap.size + 1) 23 #[.string ⟨#[99]⟩, .string ⟨#[100]⟩] := Blk.keep (Blk.new' _ _ _ _ (by simp)) hb2
  have hB2 : Below w.heap.size w w2 := bt (bal (bal (hB1) _) _) hb2
  clear sl sc0 sc1 sf0 sf1
  obtain ⟨sl, sc0, sc1, sf0, sf1⟩ := Gs2.c2
  obtain ⟨al, ac0, ac1, af0, af1⟩ := Ga2.c2
  obtain ⟨bl, bc0, bc1, bf0, bf1⟩ := Gb2.c2
  go_wp2_with fail
  refine (sphas_any [98] [100] (by simp) (by simp) [100] (by simp) _ (Utf8Tabs_below hT (by (repeat (first | with_reducible exact b0 _ | with_reducible assumption | with_reducible refine Below.drew ?_ | with_reducible refine below_drewN ?_ _ | with_reducible refine bal ?_ _ | ((with_reducible refine bst ?_ ?_ _); rotate_left; focus (first | exact Nat.le_refl _ | assumption | (simp; done) | (simp; omega) | omega)) | exact below_left (by with_reducible assumption)))))).mono ?_
  rintro e w3 ⟨rfl, hb3⟩
  rw [aw3]
  have Gs3 := Blk.keep (Gs2) hb3
  have Ga3 := Blk.keep (Ga2) hb3
  have Gb3 := Blk.keep (Gb2) hb3
  have hB3 : Below w.heap.size w w3 := bt (hB2) hb3
  clear sl sc0 sc1 sf0 sf1 al ac0 ac1 af0 af1 bl bc0 bc1 bf0 bf1
  obtain ⟨sl, sc0, sc1, sf0, sf1⟩ := Gs3.c2
  obtain ⟨al, ac0, ac1, af0, af1⟩ := Ga3.c2
  obtain ⟨bl, bc0, bc1, bf0, bf1⟩ := Gb3.c2
  go_wp2
  go_ret
  exact ⟨rfl, by (repeat (first | with_reducible exact b0 _ | with_reducible assumption | with_reducible refine Below.drew ?_ | with_reducible refine below_drewN ?_ _ | with_reducible refine bal ?_ _ | ((with_reducible refine bst ?_ ?_ _); rotate_left; focus (first | exact Nat.le_refl _ | assumption | (simp; done) | (simp; omega) | omega)) | exact below_left (by with_reducible assumption)))⟩
set_option maxHeartbeats 3200000 in
set_option maxRecDepth 100000 in
theorem spanRights_walk (so si : List UInt8) (zso : so.length ≤ 140737488351232) (zsi : si.length ≤ 140737488351232) (k : List UInt8) (zk : k.length ≤ 140737488351232) (w : World) (hT : Go.Lib.Utf8Tabs 0 1 w) :
    Calls Tryd.prog 3 #[spV ⟨so, si⟩, .string ⟨k.toArray⟩] w fun e w' => e = .returned (.bool true) ∧ Below w.heap.size w w' := by
  obtain ⟨q, hq⟩ : ∃ x, rightSp ⟨so, si⟩ = x := ⟨_, rfl⟩
  have Hq := Lib.hid hq
  clear hq
  obtain ⟨r, hr⟩ : ∃ x, hasSp ⟨so, si⟩ k = x := ⟨_, rfl⟩
  have Hr := Lib.hid hr
  clear hr
  go_enter Tryd.func3, Tryd.ntmps3
  have hB0 : Below w.heap.size w w := b0 w
  go_upto_region 1 with (fail)
  obtain ⟨w1, hw1⟩ : ∃ W : World, W = (w).alloc (.cells #[.string ⟨so.toArray⟩, .string ⟨si.toArray⟩] 23) := ⟨_, rfl⟩
  have Gs1 : Blk w1 (w.heap.size) 23 #[.string ⟨so.toArray⟩, .string ⟨si.toArray⟩] := by rw [hw1]; exact Blk.new' _ _ _ _ (by simp)
  have hB1 : Below w.heap.size w w1 := by rw [hw1]; exact bal (hB0) _
  rw [← hw1]
  clear hw1
  have hTW : Go.Lib.Utf8Tabs 0 1 w1 := Utf8Tabs_below hT hB1
  obtain ⟨sl, sc0, sc1, sf0, sf1⟩ := Gs1.c2
  have HS : ∀ w', Below w1.heap.size w1 w' → (Below w1.heap.size w1 w' ∧ w'.cell? ⟨w.heap.size, 0, none⟩ = some (.string ⟨so.toArray⟩) ∧ w'.cell? ⟨w.heap.size, 1, none⟩ = some (.string ⟨si.toArray⟩)) := fun w' h => by
    obtain ⟨hc, _⟩ := bcell h
    exact ⟨h, by rw [hc _ _ sl]; exact sc0, by rw [hc _ _ sl]; exact sc1⟩
  go_wp2_with fail
  go_region_held3 (fun w' => (Below w1.heap.size w1 w' ∧ w'.cell? ⟨w.heap.size, 0, none⟩ = some (.string ⟨so.toArray⟩) ∧ w'.cell? ⟨w.heap.size, 1, none⟩ = some (.string ⟨si.toArray⟩))) (first | with_reducible assumption | (refine HS _ ?_; (repeat (first | with_reducible exact b0 _ | with_reducible assumption | with_reducible refine Below.drew ?_ | with_reducible refine below_drewN ?_ _ | with_reducible refine bal ?_ _ | ((with_reducible refine bst ?_ ?_ _); rotate_left; focus (first | exact Nat.le_refl _ | assumption | (simp; done) | (simp; omega) | omega)) | exact below_left (by with_reducible assumption))))) (first
        | (go_at_call 10; refine (spright_any so si (by omega) (by omega) _ (Utf8Tabs_below hTW (by (repeat (first | with_reducible exact b0 _ | with_reducible assumption | with_reducible refine Below.drew ?_ | with_reducible refine below_drewN ?_ _ | with_reducible refine bal ?_ _ | ((with_reducible refine bst ?_ ?_ _); rotate_left; focus (first | exact Nat.le_refl _ | assumption | (simp; done) | (simp; omega) | omega)) | exact below_left (by with_reducible assumption)))))).mono ?_; rintro e wq ⟨rfl, hbq⟩; rw [Hq.out]; have hBq : Below w1.heap.size w1 wq := (by refine bt ?_ hbq; (repeat (first | with_reducible exact b0 _ | with_reducible assumption | with_reducible refine Below.drew ?_ | with_reducible refine below_drewN ?_ _ | with_reducible refine bal ?_ _ | ((with_reducible refine bst ?_ ?_ _); rotate_left; focus (first | exact Nat.le_refl _ | assumption | (simp; done) | (simp; omega) | omega)) | exact below_left (by with_reducible assumption)))); have hk := HS wq hBq)
        | (go_at_call 11; refine (refspright_any so si (by omega) (by omega) _).mono ?_; rintro e wq ⟨rfl, hbq⟩; rw [Hq.out]; have hBq : Below w1.heap.size w1 wq := (by refine bt ?_ hbq; (repeat (first | with_reducible exact b0 _ | with_reducible assumption | with_reducible refine Below.drew ?_ | with_reducible refine below_drewN ?_ _ | with_reducible refine bal ?_ _ | ((with_reducible refine bst ?_ ?_ _); rotate_left; focus (first | exact Nat.le_refl _ | assumption | (simp; done) | (simp; omega) | omega)) | exact below_left (by with_reducible assumption)))); have hk := HS wq hBq)
        | (go_at_call 12; refine (sphas_any so si (by omega) (by omega) k (by omega) _ (Utf8Tabs_below hTW (by (repeat (first | with_reducible exact b0 _ | with_reducible assumption | with_reducible refine Below.drew ?_ | with_reducible refine below_drewN ?_ _ | with_reducible refine bal ?_ _ | ((with_reducible refine bst ?_ ?_ _); rotate_left; focus (first | exact Nat.le_refl _ | assumption | (simp; done) | (simp; omega) | omega)) | exact below_left (by with_reducible assumption)))))).mono ?_; rintro e wq ⟨rfl, hbq⟩; rw [Hr.out]; have hBq : Below w1.heap.size w1 wq := (by refine bt ?_ hbq; (repeat (first | with_reducible exact b0 _ | with_reducible assumption | with_reducible refine Below.drew ?_ | with_reducible refine below_drewN ?_ _ | with_reducible refine bal ?_ _ | ((with_reducible refine bst ?_ ?_ _); rotate_left; focus (first | exact Nat.le_refl _ | assumption | (simp; done) | (simp; omega) | omega)) | exact below_left (by with_reducible assumption)))); have hk := HS wq hBq)
        | (go_at_call 13; refine (refsphas_any so si (by omega) (by omega) k (by omega) _).mono ?_; rintro e wq ⟨rfl, hbq⟩; rw [Hr.out]; have hBq : Below w1.heap.size w1 wq := (by refine bt ?_ hbq; (repeat (first | with_reducible exact b0 _ | with_reducible assumption | with_reducible refine Below.drew ?_ | with_reducible refine below_drewN ?_ _ | with_reducible refine bal ?_ _ | ((with_reducible refine bst ?_ ?_ _); rotate_left; focus (first | exact Nat.le_refl _ | assumption | (simp; done) | (simp; omega) | omega)) | exact below_left (by with_reducible assumption)))); have hk := HS wq hBq)
        | (go_at_call 14; refine (awake09 _ (Utf8Tabs_below hTW (by (repeat (first | with_reducible exact b0 _ | with_reducible assumption | with_reducible refine Below.drew ?_ | with_reducible refine below_drewN ?_ _ | with_reducible refine bal ?_ _ | ((with_reducible refine bst ?_ ?_ _); rotate_left; focus (first | exact Nat.le_refl _ | assumption | (simp; done) | (simp; omega) | omega)) | exact below_left (by with_reducible assumption)))))).mono ?_; rintro e wq ⟨rfl, hbq⟩; have hBq : Below w1.heap.size w1 wq := (by refine bt ?_ hbq; (repeat (first | with_reducible exact b0 _ | with_reducible assumption | with_reducible refine Below.drew ?_ | with_reducible refine below_drewN ?_ _ | with_reducible refine bal ?_ _ | ((with_reducible refine bst ?_ ?_ _); rotate_left; focus (first | exact Nat.le_refl _ | assumption | (simp; done) | (simp; omega) | omega)) | exact below_left (by with_reducible assumption)))); have hk := HS wq hBq))
  all_goals
    go_wp2
    go_ret
    exact ⟨rfl, bt hB1 (by (repeat (first | with_reducible exact b0 _ | with_reducible assumption | with_reducible refine Below.drew ?_ | with_reducible refine below_drewN ?_ _ | with_reducible refine bal ?_ _ | ((with_reducible refine bst ?_ ?_ _); rotate_left; focus (first | exact Nat.le_refl _ | assumption | (simp; done) | (simp; omega) | omega)) | exact below_left (by with_reducible assumption))))⟩
set_option maxHeartbeats 3200000 in
set_option maxRecDepth 100000 in
theorem spanCuts_walk (so si : List UInt8) (zso : so.length ≤ 140737488351232) (zsi : si.length ≤ 140737488351232) (p : List UInt8) (zp : p.length ≤ 140737488351232) (w : World) (hT : Go.Lib.Utf8Tabs 0 1 w) :
    Calls Tryd.prog 4 #[spV ⟨so, si⟩, .string ⟨p.toArray⟩] w fun e w' => e = .returned (.bool true) ∧ Below w.heap.size w w' := by
  obtain ⟨⟨⟨ao, ai⟩, ⟨bo, bi⟩, er⟩, hc⟩ : ∃ x : Sp × Sp × Nat, cutSp ⟨so, si⟩ p = x := ⟨_, rfl⟩
  have HC := Lib.hid hc
  clear hc
  go_enter Tryd.func4, Tryd.ntmps4
  have hB0 : Below w.heap.size w w := b0 w
  go_wp2_with fail
  refine (spcut_any so si (by omega) (by omega) p (by omega) _ (Utf8Tabs_below hT (by (repeat (first | with_reducible exact b0 _ | with_reducible assumption | with_reducible refine Below.drew ?_ | with_reducible refine below_drewN ?_ _ | with_reducible refine bal ?_ _ | ((with_reducible refine bst ?_ ?_ _); rotate_left; focus (first | exact Nat.le_refl _ | assumption | (simp; done) | (simp; omega) | omega)) | exact below_left (by with_reducible assumption)))))).mono ?_
  rintro e w1 ⟨rfl, hb1⟩
  rw [HC.out]
  have Gs1 : Blk w1 (w.heap.size) 23 #[.string ⟨so.toArray⟩, .string ⟨si.toArray⟩] := Blk.keep (Blk.new' _ _ _ _ (by simp)) hb1
  have hB1 : Below w.heap.size w w1 := bt (bal (hB0) _) hb1
  obtain ⟨sl, sc0, sc1, sf0, sf1⟩ := Gs1.c2
  go_wp2_with fail
  refine (refspcut_any so si (by omega) (by omega) p (by omega) _).mono ?_
  rintro e w2 ⟨rfl, hb2⟩
  rw [refCut_eq, HC.out]
  have Gs2 := Blk.keep (Blk.alloc (Blk.alloc (Gs1) _) _) hb2
  have Ga2 : Blk w2 (w1.heap.size) 23 #[.string ⟨ao.toArray⟩, .string ⟨ai.toArray⟩] := Blk.keep (Blk.alloc (Blk.new' _ _ _ _ (by simp)) _) hb2
  have Gb2 : Blk w2 (w1.heap.size + 1) 23 #[.string ⟨bo.toArray⟩, .string ⟨bi.toArray⟩] := Blk.keep (Blk.new' _ _ _ _ (by simp)) hb2
  have hB2 : Below w.heap.size w w2 := bt (bal (bal (hB1) _) _) hb2
  clear sl sc0 sc1 sf0 sf1
  obtain ⟨sl, sc0, sc1, sf0, sf1⟩ := Gs2.c2
  obtain ⟨al, ac0, ac1, af0, af1⟩ := Ga2.c2
  obtain ⟨bl, bc0, bc1, bf0, bf1⟩ := Gb2.c2
  go_wp2_with fail
  refine (awake09 _ (Utf8Tabs_below hT (by (repeat (first | with_reducible exact b0 _ | with_reducible assumption | with_reducible refine Below.drew ?_ | with_reducible refine below_drewN ?_ _ | with_reducible refine bal ?_ _ | ((with_reducible refine bst ?_ ?_ _); rotate_left; focus (first | exact Nat.le_refl _ | assumption | (simp; done) | (simp; omega) | omega)) | exact below_left (by with_reducible assumption)))))).mono ?_
  rintro e w3 ⟨rfl, hb3⟩
  have Gs3 := Blk.keep (Blk.alloc (Blk.alloc (Gs2) _) _) hb3
  have Ga3 := Blk.keep (Blk.alloc (Blk.alloc (Ga2) _) _) hb3
  have Gb3 := Blk.keep (Blk.alloc (Blk.alloc (Gb2) _) _) hb3
  have Gc3 : Blk w3 (w2.heap.size) 23 #[.string ⟨ao.toArray⟩, .string ⟨ai.toArray⟩] := Blk.keep (Blk.alloc (Blk.new' _ _ _ _ (by simp)) _) hb3
  have Gd3 : Blk w3 (w2.heap.size + 1) 23 #[.string ⟨bo.toArray⟩, .string ⟨bi.toArray⟩] := Blk.keep (Blk.new' _ _ _ _ (by simp)) hb3
  have hB3 : Below w.heap.size w w3 := bt (bal (bal (hB2) _) _) hb3
  clear sl sc0 sc1 sf0 sf1 al ac0 ac1 af0 af1 bl bc0 bc1 bf0 bf1
  go_wp2
  go_ret
  exact ⟨rfl, by (repeat (first | with_reducible exact b0 _ | with_reducible assumption | with_reducible refine Below.drew ?_ | with_reducible refine below_drewN ?_ _ | with_reducible refine bal ?_ _ | ((with_reducible refine bst ?_ ?_ _); rotate_left; focus (first | exact Nat.le_refl _ | assumption | (simp; done) | (simp; omega) | omega)) | exact below_left (by with_reducible assumption)))⟩
set_option maxHeartbeats 3200000 in
set_option maxRecDepth 100000 in
theorem spanJoins_walk (ao ai : List UInt8) (zao : ao.length ≤ 140737488351232) (zai : ai.length ≤ 140737488351232) (bo bi : List UInt8) (zbo : bo.length ≤ 140737488351232) (zbi : bi.length ≤ 140737488351232) (w : World) (hT : Go.Lib.Utf8Tabs 0 1 w) :
    Calls Tryd.prog 8 #[spV ⟨ao, ai⟩, spV ⟨bo, bi⟩] w fun e w' => e = .returned (.bool true) ∧ Below w.heap.size w w' := by
  obtain ⟨⟨⟨jo, ji⟩, er⟩, hj⟩ : ∃ x : Sp × Nat, joinSp ⟨ao, ai⟩ ⟨bo, bi⟩ = x := ⟨_, rfl⟩
  have HJ := Lib.hid hj
  clear hj
  obtain ⟨m, hm⟩ : ∃ x, meetSp ⟨ao, ai⟩ ⟨bo, bi⟩ = x := ⟨_, rfl⟩
  have Hm := Lib.hid hm
  clear hm
  have HN : Hid (meetSp ⟨bo, bi⟩ ⟨ao, ai⟩ = m) := Lib.hid (by rw [meet_swap, Hm.out])
  go_enter Tryd.func8, Tryd.ntmps8
  have hB0 : Below w.heap.size w w := b0 w
  go_wp2_with fail
  refine (spjoin_any ao ai (by omega) (by omega) bo bi (by omega) (by omega) _ (Utf8Tabs_below hT (by (repeat (first | with_reducible exact b0 _ | with_reducible assumption | with_reducible refine Below.drew ?_ | with_reducible refine below_drewN ?_ _ | with_reducible refine bal ?_ _ | ((with_reducible refine bst ?_ ?_ _); rotate_left; focus (first | exact Nat.le_refl _ | assumption | (simp; done) | (simp; omega) | omega)) | exact below_left (by with_reducible assumption)))))).mono ?_
  rintro e w1 ⟨rfl, hb1⟩
  rw [HJ.out]
  have Ga1 : Blk w1 (w.heap.size) 23 #[.string ⟨ao.toArray⟩, .string ⟨ai.toArray⟩] := Blk.keep (Blk.alloc (Blk.new' _ _ _ _ (by simp)) _) hb1
  have Gb1 : Blk w1 (w.heap.size + 1) 23 #[.string ⟨bo.toArray⟩, .string ⟨bi.toArray⟩] := Blk.keep (Blk.new' _ _ _ _ (by simp)) hb1
  have hB1 : Below w.heap.size w w1 := bt (bal (bal (hB0) _) _) hb1
  obtain ⟨al, ac0, ac1, af0, af1⟩ := Ga1.c2
  obtain ⟨bl, bc0, bc1, bf0, bf1⟩ := Gb1.c2
  go_wp2_with fail
  refine (refspjoin_any ao ai (by omega) (by omega) bo bi (by omega) (by omega) _).mono ?_
  rintro e w2 ⟨rfl, hb2⟩
  rw [HJ.out]
  have Ga2 := Blk.keep (Blk.alloc (Ga1) _) hb2
  have Gb2 := Blk.keep (Blk.alloc (Gb1) _) hb2
  have Gc2 : Blk w2 (w1.heap.size) 23 #[.string ⟨jo.toArray⟩, .string ⟨ji.toArray⟩] := Blk.keep (Blk.new' _ _ _ _ (by simp)) hb2
  have hB2 : Below w.heap.size w w2 := bt (bal (hB1) _) hb2
  clear al ac0 ac1 af0 af1 bl bc0 bc1 bf0 bf1
  obtain ⟨al, ac0, ac1, af0, af1⟩ := Ga2.c2
  obtain ⟨bl, bc0, bc1, bf0, bf1⟩ := Gb2.c2
  go_wp2_with fail
  refine (refspmeet_any ao ai (by omega) (by omega) bo bi (by omega) (by omega) _).mono ?_
  rintro e w3 ⟨rfl, hb3⟩
  rw [refMeet_eq, Hm.out]
  have Ga3 := Blk.keep (Blk.alloc (Ga2) _) hb3
  have Gb3 := Blk.keep (Blk.alloc (Gb2) _) hb3
  have Gc3 := Blk.keep (Blk.alloc (Gc2) _) hb3
  have Gd3 : Blk w3 (w2.heap.size) 23 #[.string ⟨jo.toArray⟩, .string ⟨ji.toArray⟩] := Blk.keep (Blk.new' _ _ _ _ (by simp)) hb3
  have hB3 : Below w.heap.size w w3 := bt (bal (hB2) _) hb3
  clear al ac0 ac1 af0 af1 bl bc0 bc1 bf0 bf1
  obtain ⟨al, ac0, ac1, af0, af1⟩ := Ga3.c2
  obtain ⟨bl, bc0, bc1, bf0, bf1⟩ := Gb3.c2
  obtain ⟨cl, cc0, cc1, cf0, cf1⟩ := Gc3.c2
  obtain ⟨dl, dc0, dc1, df0, df1⟩ := Gd3.c2
  go_wp2_with fail
  refine (spmeet_any ao ai (by omega) (by omega) bo bi (by omega) (by omega) _ (Utf8Tabs_below hT (by (repeat (first | with_reducible exact b0 _ | with_reducible assumption | with_reducible refine Below.drew ?_ | with_reducible refine below_drewN ?_ _ | with_reducible refine bal ?_ _ | ((with_reducible refine bst ?_ ?_ _); rotate_left; focus (first | exact Nat.le_refl _ | assumption | (simp; done) | (simp; omega) | omega)) | exact below_left (by with_reducible assumption)))))).mono ?_
  rintro e w4 ⟨rfl, hb4⟩
  rw [Hm.out]
  have Ga4 := Blk.keep (Ga3) hb4
  have Gb4 := Blk.keep (Gb3) hb4
  have Gc4 := Blk.keep (Gc3) hb4
  have Gd4 := Blk.keep (Gd3) hb4
  have hB4 : Below w.heap.size w w4 := bt (hB3) hb4
  clear al ac0 ac1 af0 af1 bl bc0 bc1 bf0 bf1 cl cc0 cc1 cf0 cf1 dl dc0 dc1 df0 df1
  obtain ⟨al, ac0, ac1, af0, af1⟩ := Ga4.c2
  obtain ⟨bl, bc0, bc1, bf0, bf1⟩ := Gb4.c2
  have em : (m == m) = true := by simp
  go_wp2_with fail
  refine (spmeet_any bo bi (by omega) (by omega) ao ai (by omega) (by omega) _ (Utf8Tabs_below hT (by (repeat (first | with_reducible exact b0 _ | with_reducible assumption | with_reducible refine Below.drew ?_ | with_reducible refine below_drewN ?_ _ | with_reducible refine bal ?_ _ | ((with_reducible refine bst ?_ ?_ _); rotate_left; focus (first | exact Nat.le_refl _ | assumption | (simp; done) | (simp; omega) | omega)) | exact below_left (by with_reducible assumption)))))).mono ?_
  rintro e w5 ⟨rfl, hb5⟩
  rw [HN.out]
  have Ga5 := Blk.keep (Ga4) hb5
  have Gb5 := Blk.keep (Gb4) hb5
  have Gc5 := Blk.keep (Gc4) hb5
  have Gd5 := Blk.keep (Gd4) hb5
  have hB5 : Below w.heap.size w w5 := bt (hB4) hb5
  clear al ac0 ac1 af0 af1 bl bc0 bc1 bf0 bf1
  go_wp2_with fail
  refine (awake09 _ (Utf8Tabs_below hT (by (repeat (first | with_reducible exact b0 _ | with_reducible assumption | with_reducible refine Below.drew ?_ | with_reducible refine below_drewN ?_ _ | with_reducible refine bal ?_ _ | ((with_reducible refine bst ?_ ?_ _); rotate_left; focus (first | exact Nat.le_refl _ | assumption | (simp; done) | (simp; omega) | omega)) | exact below_left (by with_reducible assumption)))))).mono ?_
  rintro e w6 ⟨rfl, hb6⟩
  have Ga6 := Blk.keep (Ga5) hb6
  have Gb6 := Blk.keep (Gb5) hb6
  have Gc6 := Blk.keep (Gc5) hb6
  have Gd6 := Blk.keep (Gd5) hb6
  have hB6 : Below w.heap.size w w6 := bt (hB5) hb6
  go_wp2
  go_ret
  exact ⟨rfl, by (repeat (first | with_reducible exact b0 _ | with_reducible assumption | with_reducible refine Below.drew ?_ | with_reducible refine below_drewN ?_ _ | with_reducible refine bal ?_ _ | ((with_reducible refine bst ?_ ?_ _); rotate_left; focus (first | exact Nat.le_refl _ | assumption | (simp; done) | (simp; omega) | omega)) | exact below_left (by with_reducible assumption)))⟩
set_option maxHeartbeats 3200000 in
set_option maxRecDepth 100000 in
theorem spanMeets_walk (ao ai : List UInt8) (zao : ao.length ≤ 140737488351232) (zai : ai.length ≤ 140737488351232) (bo bi : List UInt8) (zbo : bo.length ≤ 140737488351232) (zbi : bi.length ≤ 140737488351232) (k : List UInt8) (zk : k.length ≤ 140737488351232) (w : World) (hT : Go.Lib.Utf8Tabs 0 1 w) :
    Calls Tryd.prog 5 #[spV ⟨ao, ai⟩, spV ⟨bo, bi⟩, .string ⟨k.toArray⟩] w fun e w' => e = .returned (.bool true) ∧ Below w.heap.size w w' := by
  obtain ⟨p, hp⟩ : ∃ x, hasSp ⟨ao, ai⟩ k = x := ⟨_, rfl⟩
  have Hp := Lib.hid hp
  clear hp
  obtain ⟨q, hq⟩ : ∃ x, hasSp ⟨bo, bi⟩ k = x := ⟨_, rfl⟩
  have Hq := Lib.hid hq
  clear hq
  obtain ⟨m, hm⟩ : ∃ x, rightSp ⟨ao, ai⟩ = x := ⟨_, rfl⟩
  have Hm := Lib.hid hm
  clear hm
  go_enter Tryd.func5, Tryd.ntmps5
  have hB0 : Below w.heap.size w w := b0 w
  go_wp2_with fail
  refine (sphas_any ao ai (by omega) (by omega) k (by omega) _ (Utf8Tabs_below hT (by (repeat (first | with_reducible exact b0 _ | with_reducible assumption | with_reducible refine Below.drew ?_ | with_reducible refine below_drewN ?_ _ | with_reducible refine bal ?_ _ | ((with_reducible refine bst ?_ ?_ _); rotate_left; focus (first | exact Nat.le_refl _ | assumption | (simp; done) | (simp; omega) | omega)) | exact below_left (by with_reducible assumption)))))).mono ?_
  rintro e w1 ⟨rfl, hb1⟩
  rw [Hp.out]
  have Ga1 : Blk w1 (w.heap.size) 23 #[.string ⟨ao.toArray⟩, .string ⟨ai.toArray⟩] := Blk.keep (Blk.alloc (Blk.new' _ _ _ _ (by simp)) _) hb1
  have Gb1 : Blk w1 (w.heap.size + 1) 23 #[.string ⟨bo.toArray⟩, .string ⟨bi.toArray⟩] := Blk.keep (Blk.new' _ _ _ _ (by simp)) hb1
  have hB1 : Below w.heap.size w w1 := bt (bal (bal (hB0) _) _) hb1
  obtain ⟨al, ac0, ac1, af0, af1⟩ := Ga1.c2
  obtain ⟨bl, bc0, bc1, bf0, bf1⟩ := Gb1.c2
  cases p
  case false =>
    have hTW : Go.Lib.Utf8Tabs 0 1 w1 := Utf8Tabs_below hT hB1
    clear al ac0 ac1 af0 af1 bl bc0 bc1 bf0 bf1
    obtain ⟨al, ac0, ac1, af0, af1⟩ := Ga1.c2
    have HS : ∀ w', Below w1.heap.size w1 w' → (Below w1.heap.size w1 w' ∧ w'.cell? ⟨w.heap.size, 0, none⟩ = some (.string ⟨ao.toArray⟩) ∧ w'.cell? ⟨w.heap.size, 1, none⟩ = some (.string ⟨ai.toArray⟩)) := fun w' h => by
      obtain ⟨hc, _⟩ := bcell h
      exact ⟨h, by rw [hc _ _ al]; exact ac0, by rw [hc _ _ al]; exact ac1⟩
    go_wp2_with fail
    go_region_held3 (fun w' => (Below w1.heap.size w1 w' ∧ w'.cell? ⟨w.heap.size, 0, none⟩ = some (.string ⟨ao.toArray⟩) ∧ w'.cell? ⟨w.heap.size, 1, none⟩ = some (.string ⟨ai.toArray⟩))) (first | with_reducible assumption | (refine HS _ ?_; (repeat (first | with_reducible exact b0 _ | with_reducible assumption | with_reducible refine Below.drew ?_ | with_reducible refine below_drewN ?_ _ | with_reducible refine bal ?_ _ | ((with_reducible refine bst ?_ ?_ _); rotate_left; focus (first | exact Nat.le_refl _ | assumption | (simp; done) | (simp; omega) | omega)) | exact below_left (by with_reducible assumption))))) (first
          | (go_at_call 17; refine (spmeet_any ao ai (by omega) (by omega) ao ai (by omega) (by omega) _ (Utf8Tabs_below hTW (by (repeat (first | with_reducible exact b0 _ | with_reducible assumption | with_reducible refine Below.drew ?_ | with_reducible refine below_drewN ?_ _ | with_reducible refine bal ?_ _ | ((with_reducible refine bst ?_ ?_ _); rotate_left; focus (first | exact Nat.le_refl _ | assumption | (simp; done) | (simp; omega) | omega)) | exact below_left (by with_reducible assumption)))))).mono ?_; rintro e wq ⟨rfl, hbq⟩; rw [meet_self, Hm.out]; have hBq : Below w1.heap.size w1 wq := (by refine bt ?_ hbq; (repeat (first | with_reducible exact b0 _ | with_reducible assumption | with_reducible refine Below.drew ?_ | with_reducible refine below_drewN ?_ _ | with_reducible refine bal ?_ _ | ((with_reducible refine bst ?_ ?_ _); rotate_left; focus (first | exact Nat.le_refl _ | assumption | (simp; done) | (simp; omega) | omega)) | exact below_left (by with_reducible assumption)))); have hk := HS wq hBq)
          | (go_at_call 10; refine (spright_any ao ai (by omega) (by omega) _ (Utf8Tabs_below hTW (by (repeat (first | with_reducible exact b0 _ | with_reducible assumption | with_reducible refine Below.drew ?_ | with_reducible refine below_drewN ?_ _ | with_reducible refine bal ?_ _ | ((with_reducible refine bst ?_ ?_ _); rotate_left; focus (first | exact Nat.le_refl _ | assumption | (simp; done) | (simp; omega) | omega)) | exact below_left (by with_reducible assumption)))))).mono ?_; rintro e wq ⟨rfl, hbq⟩; rw [Hm.out]; have hBq : Below w1.heap.size w1 wq := (by refine bt ?_ hbq; (repeat (first | with_reducible exact b0 _ | with_reducible assumption | with_reducible refine Below.drew ?_ | with_reducible refine below_drewN ?_ _ | with_reducible refine bal ?_ _ | ((with_reducible refine bst ?_ ?_ _); rotate_left; focus (first | exact Nat.le_refl _ | assumption | (simp; done) | (simp; omega) | omega)) | exact below_left (by with_reducible assumption)))); have hk := HS wq hBq)
          | (go_at_call 14; refine (awake09 _ (Utf8Tabs_below hTW (by (repeat (first | with_reducible exact b0 _ | with_reducible assumption | with_reducible refine Below.drew ?_ | with_reducible refine below_drewN ?_ _ | with_reducible refine bal ?_ _ | ((with_reducible refine bst ?_ ?_ _); rotate_left; focus (first | exact Nat.le_refl _ | assumption | (simp; done) | (simp; omega) | omega)) | exact below_left (by with_reducible assumption)))))).mono ?_; rintro e wq ⟨rfl, hbq⟩; have hBq : Below w1.heap.size w1 wq := (by refine bt ?_ hbq; (repeat (first | with_reducible exact b0 _ | with_reducible assumption | with_reducible refine Below.drew ?_ | with_reducible refine below_drewN ?_ _ | with_reducible refine bal ?_ _ | ((with_reducible refine bst ?_ ?_ _); rotate_left; focus (first | exact Nat.le_refl _ | assumption | (simp; done) | (simp; omega) | omega)) | exact below_left (by with_reducible assumption)))); have hk := HS wq hBq))
    all_goals
      go_wp2
      go_ret
      exact ⟨rfl, bt hB1 (by (repeat (first | with_reducible exact b0 _ | with_reducible assumption | with_reducible refine Below.drew ?_ | with_reducible refine below_drewN ?_ _ | with_reducible refine bal ?_ _ | ((with_reducible refine bst ?_ ?_ _); rotate_left; focus (first | exact Nat.le_refl _ | assumption | (simp; done) | (simp; omega) | omega)) | exact below_left (by with_reducible assumption))))⟩
  case true =>
    go_wp2_with fail
    refine (sphas_any bo bi (by omega) (by omega) k (by omega) _ (Utf8Tabs_below hT (by (repeat (first | with_reducible exact b0 _ | with_reducible assumption | with_reducible refine Below.drew ?_ | with_reducible refine below_drewN ?_ _ | with_reducible refine bal ?_ _ | ((with_reducible refine bst ?_ ?_ _); rotate_left; focus (first | exact Nat.le_refl _ | assumption | (simp; done) | (simp; omega) | omega)) | exact below_left (by with_reducible assumption)))))).mono ?_
    rintro e w2 ⟨rfl, hb2⟩
    rw [Hq.out]
    have Ga2 := Blk.keep (Ga1) hb2
    have Gb2 := Blk.keep (Gb1) hb2
    have hB2 : Below w.heap.size w w2 := bt (hB1) hb2
    clear al ac0 ac1 af0 af1 bl bc0 bc1 bf0 bf1
    obtain ⟨al, ac0, ac1, af0, af1⟩ := Ga2.c2
    obtain ⟨bl, bc0, bc1, bf0, bf1⟩ := Gb2.c2
    cases q
    case false =>
      have hTW : Go.Lib.Utf8Tabs 0 1 w2 := Utf8Tabs_below hT hB2
      clear al ac0 ac1 af0 af1 bl bc0 bc1 bf0 bf1
      obtain ⟨al, ac0, ac1, af0, af1⟩ := Ga2.c2
      have HS : ∀ w', Below w2.heap.size w2 w' → (Below w2.heap.size w2 w' ∧ w'.cell? ⟨w.heap.size, 0, none⟩ = some (.string ⟨ao.toArray⟩) ∧ w'.cell? ⟨w.heap.size, 1, none⟩ = some (.string ⟨ai.toArray⟩)) := fun w' h => by
        obtain ⟨hc, _⟩ := bcell h
        exact ⟨h, by rw [hc _ _ al]; exact ac0, by rw [hc _ _ al]; exact ac1⟩
      go_wp2_with fail
      go_region_held3 (fun w' => (Below w2.heap.size w2 w' ∧ w'.cell? ⟨w.heap.size, 0, none⟩ = some (.string ⟨ao.toArray⟩) ∧ w'.cell? ⟨w.heap.size, 1, none⟩ = some (.string ⟨ai.toArray⟩))) (first | with_reducible assumption | (refine HS _ ?_; (repeat (first | with_reducible exact b0 _ | with_reducible assumption | with_reducible refine Below.drew ?_ | with_reducible refine below_drewN ?_ _ | with_reducible refine bal ?_ _ | ((with_reducible refine bst ?_ ?_ _); rotate_left; focus (first | exact Nat.le_refl _ | assumption | (simp; done) | (simp; omega) | omega)) | exact below_left (by with_reducible assumption))))) (first
            | (go_at_call 17; refine (spmeet_any ao ai (by omega) (by omega) ao ai (by omega) (by omega) _ (Utf8Tabs_below hTW (by (repeat (first | with_reducible exact b0 _ | with_reducible assumption | with_reducible refine Below.drew ?_ | with_reducible refine below_drewN ?_ _ | with_reducible refine bal ?_ _ | ((with_reducible refine bst ?_ ?_ _); rotate_left; focus (first | exact Nat.le_refl _ | assumption | (simp; done) | (simp; omega) | omega)) | exact below_left (by with_reducible assumption)))))).mono ?_; rintro e wq ⟨rfl, hbq⟩; rw [meet_self, Hm.out]; have hBq : Below w2.heap.size w2 wq := (by refine bt ?_ hbq; (repeat (first | with_reducible exact b0 _ | with_reducible assumption | with_reducible refine Below.drew ?_ | with_reducible refine below_drewN ?_ _ | with_reducible refine bal ?_ _ | ((with_reducible refine bst ?_ ?_ _); rotate_left; focus (first | exact Nat.le_refl _ | assumption | (simp; done) | (simp; omega) | omega)) | exact below_left (by with_reducible assumption)))); have hk := HS wq hBq)
            | (go_at_call 10; refine (spright_any ao ai (by omega) (by omega) _ (Utf8Tabs_below hTW (by (repeat (first | with_reducible exact b0 _ | with_reducible assumption | with_reducible refine Below.drew ?_ | with_reducible refine below_drewN ?_ _ | with_reducible refine bal ?_ _ | ((with_reducible refine bst ?_ ?_ _); rotate_left; focus (first | exact Nat.le_refl _ | assumption | (simp; done) | (simp; omega) | omega)) | exact below_left (by with_reducible assumption)))))).mono ?_; rintro e wq ⟨rfl, hbq⟩; rw [Hm.out]; have hBq : Below w2.heap.size w2 wq := (by refine bt ?_ hbq; (repeat (first | with_reducible exact b0 _ | with_reducible assumption | with_reducible refine Below.drew ?_ | with_reducible refine below_drewN ?_ _ | with_reducible refine bal ?_ _ | ((with_reducible refine bst ?_ ?_ _); rotate_left; focus (first | exact Nat.le_refl _ | assumption | (simp; done) | (simp; omega) | omega)) | exact below_left (by with_reducible assumption)))); have hk := HS wq hBq)
            | (go_at_call 14; refine (awake09 _ (Utf8Tabs_below hTW (by (repeat (first | with_reducible exact b0 _ | with_reducible assumption | with_reducible refine Below.drew ?_ | with_reducible refine below_drewN ?_ _ | with_reducible refine bal ?_ _ | ((with_reducible refine bst ?_ ?_ _); rotate_left; focus (first | exact Nat.le_refl _ | assumption | (simp; done) | (simp; omega) | omega)) | exact below_left (by with_reducible assumption)))))).mono ?_; rintro e wq ⟨rfl, hbq⟩; have hBq : Below w2.heap.size w2 wq := (by refine bt ?_ hbq; (repeat (first | with_reducible exact b0 _ | with_reducible assumption | with_reducible refine Below.drew ?_ | with_reducible refine below_drewN ?_ _ | with_reducible refine bal ?_ _ | ((with_reducible refine bst ?_ ?_ _); rotate_left; focus (first | exact Nat.le_refl _ | assumption | (simp; done) | (simp; omega) | omega)) | exact below_left (by with_reducible assumption)))); have hk := HS wq hBq))
      all_goals
        go_wp2
        go_ret
        exact ⟨rfl, bt hB2 (by (repeat (first | with_reducible exact b0 _ | with_reducible assumption | with_reducible refine Below.drew ?_ | with_reducible refine below_drewN ?_ _ | with_reducible refine bal ?_ _ | ((with_reducible refine bst ?_ ?_ _); rotate_left; focus (first | exact Nat.le_refl _ | assumption | (simp; done) | (simp; omega) | omega)) | exact below_left (by with_reducible assumption))))⟩
    case true =>
      have HM := Lib.hid (meet_common _ _ _ Hp.out Hq.out)
      go_wp2_with fail
      refine (spmeet_any ao ai (by omega) (by omega) bo bi (by omega) (by omega) _ (Utf8Tabs_below hT (by (repeat (first | with_reducible exact b0 _ | with_reducible assumption | with_reducible refine Below.drew ?_ | with_reducible refine below_drewN ?_ _ | with_reducible refine bal ?_ _ | ((with_reducible refine bst ?_ ?_ _); rotate_left; focus (first | exact Nat.le_refl _ | assumption | (simp; done) | (simp; omega) | omega)) | exact below_left (by with_reducible assumption)))))).mono ?_
      rintro e w3 ⟨rfl, hb3⟩
      rw [HM.out]
      have Ga3 := Blk.keep (Ga2) hb3
      have Gb3 := Blk.keep (Gb2) hb3
      have hB3 : Below w.heap.size w w3 := bt (hB2) hb3
      clear al ac0 ac1 af0 af1 bl bc0 bc1 bf0 bf1
      go_wp2_with fail
      refine (awake09 _ (Utf8Tabs_below hT (by (repeat (first | with_reducible exact b0 _ | with_reducible assumption | with_reducible refine Below.drew ?_ | with_reducible refine below_drewN ?_ _ | with_reducible refine bal ?_ _ | ((with_reducible refine bst ?_ ?_ _); rotate_left; focus (first | exact Nat.le_refl _ | assumption | (simp; done) | (simp; omega) | omega)) | exact below_left (by with_reducible assumption)))))).mono ?_
      rintro e w4 ⟨rfl, hb4⟩
      have Ga4 := Blk.keep (Ga3) hb4
      have Gb4 := Blk.keep (Gb3) hb4
      have hB4 : Below w.heap.size w w4 := bt (hB3) hb4
      go_wp2
      go_ret
      exact ⟨rfl, by (repeat (first | with_reducible exact b0 _ | with_reducible assumption | with_reducible refine Below.drew ?_ | with_reducible refine below_drewN ?_ _ | with_reducible refine bal ?_ _ | ((with_reducible refine bst ?_ ?_ _); rotate_left; focus (first | exact Nat.le_refl _ | assumption | (simp; done) | (simp; omega) | omega)) | exact below_left (by with_reducible assumption)))⟩
set_option maxHeartbeats 3200000 in
set_option maxRecDepth 100000 in
theorem spanBack_walk (so si : List UInt8) (zso : so.length ≤ 140737488351232) (zsi : si.length ≤ 140737488351232) (p : List UInt8) (zp : p.length ≤ 140737488351232) (k : List UInt8) (zk : k.length ≤ 140737488351232) (w : World) (hT : Go.Lib.Utf8Tabs 0 1 w) :
    Calls Tryd.prog 9 #[spV ⟨so, si⟩, .string ⟨p.toArray⟩, .string ⟨k.toArray⟩] w fun e w' => e = .returned (.bool true) ∧ Below w.heap.size w w' := by
  rcases cut_cases ⟨so, si⟩ p with ⟨er, hc, hne⟩ | hd
  case inl =>
    have HC := Lib.hid hc
    have he : ((er : Int) != 0) = true := by rcases hne with rfl | rfl <;> rfl
    clear hc hne
    go_enter Tryd.func9, Tryd.ntmps9
    have hB0 : Below w.heap.size w w := b0 w
    go_wp2_with fail
    refine (spcut_any so si (by omega) (by omega) p (by omega) _ (Utf8Tabs_below hT (by (repeat (first | with_reducible exact b0 _ | with_reducible assumption | with_reducible refine Below.drew ?_ | with_reducible refine below_drewN ?_ _ | with_reducible refine bal ?_ _ | ((with_reducible refine bst ?_ ?_ _); rotate_left; focus (first | exact Nat.le_refl _ | assumption | (simp; done) | (simp; omega) | omega)) | exact below_left (by with_reducible assumption)))))).mono ?_
    rintro e w1 ⟨rfl, hb1⟩
    rw [HC.out]
    have Gs1 : Blk w1 (w.heap.size) 23 #[.string ⟨so.toArray⟩, .string ⟨si.toArray⟩] := Blk.keep (Blk.new' _ _ _ _ (by simp)) hb1
    have hB1 : Below w.heap.size w w1 := bt (bal (hB0) _) hb1
    obtain ⟨sl, sc0, sc1, sf0, sf1⟩ := Gs1.c2
    go_wp2_with fail
    refine (awake09 _ (Utf8Tabs_below hT (by (repeat (first | with_reducible exact b0 _ | with_reducible assumption | with_reducible refine Below.drew ?_ | with_reducible refine below_drewN ?_ _ | with_reducible refine bal ?_ _ | ((with_reducible refine bst ?_ ?_ _); rotate_left; focus (first | exact Nat.le_refl _ | assumption | (simp; done) | (simp; omega) | omega)) | exact below_left (by with_reducible assumption)))))).mono ?_
    rintro e w2 ⟨rfl, hb2⟩
    have Gs2 := Blk.keep (Blk.alloc (Blk.alloc (Gs1) _) _) hb2
    have Ga2 : Blk w2 (w1.heap.size) 23 #[.string ⟨#[]⟩, .string ⟨#[]⟩] := Blk.keep (Blk.alloc (Blk.new' _ _ _ _ (by simp)) _) hb2
    have Gb2 : Blk w2 (w1.heap.size + 1) 23 #[.string ⟨#[]⟩, .string ⟨#[]⟩] := Blk.keep (Blk.new' _ _ _ _ (by simp)) hb2
    have hB2 : Below w.heap.size w w2 := bt (bal (bal (hB1) _) _) hb2
    clear sl sc0 sc1 sf0 sf1
    go_wp2
    go_ret
    exact ⟨rfl, by (repeat (first | with_reducible exact b0 _ | with_reducible assumption | with_reducible refine Below.drew ?_ | with_reducible refine below_drewN ?_ _ | with_reducible refine bal ?_ _ | ((with_reducible refine bst ?_ ?_ _); rotate_left; focus (first | exact Nat.le_refl _ | assumption | (simp; done) | (simp; omega) | omega)) | exact below_left (by with_reducible assumption)))⟩
  case inr =>
    have HD := Lib.hid hd
    clear hd
    go_enter Tryd.func9, Tryd.ntmps9
    have hB0 : Below w.heap.size w w := b0 w
    go_wp2_with fail
    refine (spcut_any so si (by omega) (by omega) p (by omega) _ (Utf8Tabs_below hT (by (repeat (first | with_reducible exact b0 _ | with_reducible assumption | with_reducible refine Below.drew ?_ | with_reducible refine below_drewN ?_ _ | with_reducible refine bal ?_ _ | ((with_reducible refine bst ?_ ?_ _); rotate_left; focus (first | exact Nat.le_refl _ | assumption | (simp; done) | (simp; omega) | omega)) | exact below_left (by with_reducible assumption)))))).mono ?_
    rintro e w1 ⟨rfl, hb1⟩
    rw [HD.out.eq]
    have Gs1 : Blk w1 (w.heap.size) 23 #[.string ⟨so.toArray⟩, .string ⟨si.toArray⟩] := Blk.keep (Blk.new' _ _ _ _ (by simp)) hb1
    have hB1 : Below w.heap.size w w1 := bt (bal (hB0) _) hb1
    obtain ⟨sl, sc0, sc1, sf0, sf1⟩ := Gs1.c2
    go_wp2_with fail
    refine (spjoin_any so p (by omega) (by omega) p si (by omega) (by omega) _ (Utf8Tabs_below hT (by (repeat (first | with_reducible exact b0 _ | with_reducible assumption | with_reducible refine Below.drew ?_ | with_reducible refine below_drewN ?_ _ | with_reducible refine bal ?_ _ | ((with_reducible refine bst ?_ ?_ _); rotate_left; focus (first | exact Nat.le_refl _ | assumption | (simp; done) | (simp; omega) | omega)) | exact below_left (by with_reducible assumption)))))).mono ?_
    rintro e w2 ⟨rfl, hb2⟩
    rw [HD.out.join]
    have Gs2 := Blk.keep (Blk.alloc (Blk.alloc (Gs1) _) _) hb2
    have Ga2 : Blk w2 (w1.heap.size) 23 #[.string ⟨so.toArray⟩, .string ⟨p.toArray⟩] := Blk.keep (Blk.alloc (Blk.new' _ _ _ _ (by simp)) _) hb2
    have Gb2 : Blk w2 (w1.heap.size + 1) 23 #[.string ⟨p.toArray⟩, .string ⟨si.toArray⟩] := Blk.keep (Blk.new' _ _ _ _ (by simp)) hb2
    have hB2 : Below w.heap.size w w2 := bt (bal (bal (hB1) _) _) hb2
    clear sl sc0 sc1 sf0 sf1
    obtain ⟨sl, sc0, sc1, sf0, sf1⟩ := Gs2.c2
    obtain ⟨al, ac0, ac1, af0, af1⟩ := Ga2.c2
    obtain ⟨bl, bc0, bc1, bf0, bf1⟩ := Gb2.c2
    go_upto_region 5 with (fail)
    obtain ⟨w3, hw3⟩ : ∃ W : World, W = (w2).alloc (.cells #[.string ⟨so.toArray⟩, .string ⟨si.toArray⟩] 23) := ⟨_, rfl⟩
    have Gs3 : Blk w3 (w.heap.size) 23 #[.string ⟨so.toArray⟩, .string ⟨si.toArray⟩] := by rw [hw3]; exact Blk.alloc (Gs2) _
    have Ga3 : Blk w3 (w1.heap.size) 23 #[.string ⟨so.toArray⟩, .string ⟨p.toArray⟩] := by rw [hw3]; exact Blk.alloc (Ga2) _
    have Gb3 : Blk w3 (w1.heap.size + 1) 23 #[.string ⟨p.toArray⟩, .string ⟨si.toArray⟩] := by rw [hw3]; exact Blk.alloc (Gb2) _
    have Gt3 : Blk w3 (w2.heap.size) 23 #[.string ⟨so.toArray⟩, .string ⟨si.toArray⟩] := by rw [hw3]; exact Blk.new' _ _ _ _ (by simp)
    have hB3 : Below w.heap.size w w3 := by rw [hw3]; exact bal (hB2) _
    rw [← hw3]
    clear hw3
    have hTW : Go.Lib.Utf8Tabs 0 1 w3 := Utf8Tabs_below hT hB3
    obtain ⟨i, hi⟩ : ∃ x, hasSp ⟨so, p⟩ k = x := ⟨_, rfl⟩
    have Hi := Lib.hid hi
    clear hi
    obtain ⟨j, hj⟩ : ∃ x, hasSp ⟨p, si⟩ k = x := ⟨_, rfl⟩
    have Hj := Lib.hid hj
    clear hj
    have hks := HD.out.keys k
    rw [Hi.out, Hj.out] at hks
    have HK := Lib.hid hks.1
    have HX := Lib.hid hks.2
    clear hks
    clear sl sc0 sc1 sf0 sf1 al ac0 ac1 af0 af1 bl bc0 bc1 bf0 bf1
    obtain ⟨al, ac0, ac1, af0, af1⟩ := Ga3.c2
    obtain ⟨bl, bc0, bc1, bf0, bf1⟩ := Gb3.c2
    go_cut [12, 13] (fun s12 s13 wx => BackCut w3 i j s12 s13 wx)
    case first =>
      clear al ac0 ac1 af0 af1 bl bc0 bc1 bf0 bf1
      obtain ⟨al, ac0, ac1, af0, af1⟩ := Ga3.c2
      obtain ⟨bl, bc0, bc1, bf0, bf1⟩ := Gb3.c2
      have HS : ∀ w', Below w3.heap.size w3 w' → (Below w3.heap.size w3 w' ∧ w'.cell? ⟨w1.heap.size, 0, none⟩ = some (.string ⟨so.toArray⟩) ∧ w'.cell? ⟨w1.heap.size, 1, none⟩ = some (.string ⟨p.toArray⟩) ∧ w'.cell? ⟨w1.heap.size + 1, 0, none⟩ = some (.string ⟨p.toArray⟩) ∧ w'.cell? ⟨w1.heap.size + 1, 1, none⟩ = some (.string ⟨si.toArray⟩)) := fun w' h => by
        obtain ⟨hc, _⟩ := bcell h
        exact ⟨h, by rw [hc _ _ al]; exact ac0, by rw [hc _ _ al]; exact ac1, by rw [hc _ _ bl]; exact bc0, by rw [hc _ _ bl]; exact bc1⟩
      go_wp2_with fail
      go_region_held3 (fun w' => (Below w3.heap.size w3 w' ∧ w'.cell? ⟨w1.heap.size, 0, none⟩ = some (.string ⟨so.toArray⟩) ∧ w'.cell? ⟨w1.heap.size, 1, none⟩ = some (.string ⟨p.toArray⟩) ∧ w'.cell? ⟨w1.heap.size + 1, 0, none⟩ = some (.string ⟨p.toArray⟩) ∧ w'.cell? ⟨w1.heap.size + 1, 1, none⟩ = some (.string ⟨si.toArray⟩))) (first | with_reducible assumption | (refine HS _ ?_; (repeat (first | with_reducible exact b0 _ | with_reducible assumption | with_reducible refine Below.drew ?_ | with_reducible refine below_drewN ?_ _ | with_reducible refine bal ?_ _ | ((with_reducible refine bst ?_ ?_ _); rotate_left; focus (first | exact Nat.le_refl _ | assumption | (simp; done) | (simp; omega) | omega)) | exact below_left (by with_reducible assumption))))) (first
            | (go_at_call 12; refine (sphas_any _ _ (by omega) (by omega) k (by omega) _ (Utf8Tabs_below hTW (by (repeat (first | with_reducible exact b0 _ | with_reducible assumption | with_reducible refine Below.drew ?_ | with_reducible refine below_drewN ?_ _ | with_reducible refine bal ?_ _ | ((with_reducible refine bst ?_ ?_ _); rotate_left; focus (first | exact Nat.le_refl _ | assumption | (simp; done) | (simp; omega) | omega)) | exact below_left (by with_reducible assumption)))))).mono ?_; rintro e wq ⟨rfl, hbq⟩; (first | rw [Hi.out] | rw [Hj.out]); have hBq : Below w3.heap.size w3 wq := (by refine bt ?_ hbq; (repeat (first | with_reducible exact b0 _ | with_reducible assumption | with_reducible refine Below.drew ?_ | with_reducible refine below_drewN ?_ _ | with_reducible refine bal ?_ _ | ((with_reducible refine bst ?_ ?_ _); rotate_left; focus (first | exact Nat.le_refl _ | assumption | (simp; done) | (simp; omega) | omega)) | exact below_left (by with_reducible assumption)))); have hk := HS wq hBq))
      all_goals
        go_wp2_with fail
        go_meet
        case rel =>
          exact ⟨rfl, rfl, by (repeat (first | with_reducible exact b0 _ | with_reducible assumption | with_reducible refine Below.drew ?_ | with_reducible refine below_drewN ?_ _ | with_reducible refine bal ?_ _ | ((with_reducible refine bst ?_ ?_ _); rotate_left; focus (first | exact Nat.le_refl _ | assumption | (simp; done) | (simp; omega) | omega)) | exact below_left (by with_reducible assumption)))⟩
    case rest =>
      obtain ⟨rfl, rfl, hBc⟩ := hcut
      have Gs4 := Blk.keep (Gs3) hBc
      have Ga4 := Blk.keep (Ga3) hBc
      have Gb4 := Blk.keep (Gb3) hBc
      have Gt4 := Blk.keep (Gt3) hBc
      have hB4 : Below w.heap.size w wc := bt (hB3) hBc
      clear al ac0 ac1 af0 af1 bl bc0 bc1 bf0 bf1
      obtain ⟨sl, sc0, sc1, sf0, sf1⟩ := Gs4.c2
      obtain ⟨al, ac0, ac1, af0, af1⟩ := Ga4.c2
      obtain ⟨bl, bc0, bc1, bf0, bf1⟩ := Gb4.c2
      obtain ⟨tl, tc0, tc1, tf0, tf1⟩ := Gt4.c2
      rcases (show (i = true ∧ j = true) ∨ (i = true ∧ j = false) ∨ (i = false ∧ j = true) ∨ (i = false ∧ j = false) by cases i <;> cases j <;> simp) with ⟨rfl, rfl⟩ | ⟨rfl, rfl⟩ | ⟨rfl, rfl⟩ | ⟨rfl, rfl⟩
      · exact absurd HX.out (by simp)
      all_goals
        have HL := Lib.hid HD.out.left
        have HR := Lib.hid HD.out.right
        have HP := Lib.hid HD.out.apart
        go_wp2_with fail
        refine (sphas_any so si (by omega) (by omega) k (by omega) _ (Utf8Tabs_below hT (by (repeat (first | with_reducible exact b0 _ | with_reducible assumption | with_reducible refine Below.drew ?_ | with_reducible refine below_drewN ?_ _ | with_reducible refine bal ?_ _ | ((with_reducible refine bst ?_ ?_ _); rotate_left; focus (first | exact Nat.le_refl _ | assumption | (simp; done) | (simp; omega) | omega)) | exact below_left (by with_reducible assumption)))))).mono ?_
        rintro e w5 ⟨rfl, hb5⟩
        rw [HK.out]
        have Gs5 := Blk.keep (Gs4) hb5
        have Ga5 := Blk.keep (Ga4) hb5
        have Gb5 := Blk.keep (Gb4) hb5
        have Gt5 := Blk.keep (Gt4) hb5
        have hB5 : Below w.heap.size w w5 := bt (hB4) hb5
        clear sl sc0 sc1 sf0 sf1 al ac0 ac1 af0 af1 bl bc0 bc1 bf0 bf1 tl tc0 tc1 tf0 tf1
        obtain ⟨sl, sc0, sc1, sf0, sf1⟩ := Gs5.c2
        obtain ⟨al, ac0, ac1, af0, af1⟩ := Ga5.c2
        obtain ⟨bl, bc0, bc1, bf0, bf1⟩ := Gb5.c2
        obtain ⟨tl, tc0, tc1, tf0, tf1⟩ := Gt5.c2
        go_wp2_with fail
        refine (spmeet_any so p (by omega) (by omega) p si (by omega) (by omega) _ (Utf8Tabs_below hT (by (repeat (first | with_reducible exact b0 _ | with_reducible assumption | with_reducible refine Below.drew ?_ | with_reducible refine below_drewN ?_ _ | with_reducible refine bal ?_ _ | ((with_reducible refine bst ?_ ?_ _); rotate_left; focus (first | exact Nat.le_refl _ | assumption | (simp; done) | (simp; omega) | omega)) | exact below_left (by with_reducible assumption)))))).mono ?_
        rintro e w6 ⟨rfl, hb6⟩
        rw [HP.out]
        have Gs6 := Blk.keep (Gs5) hb6
        have Ga6 := Blk.keep (Ga5) hb6
        have Gb6 := Blk.keep (Gb5) hb6
        have Gt6 := Blk.keep (Gt5) hb6
        have hB6 : Below w.heap.size w w6 := bt (hB5) hb6
        clear sl sc0 sc1 sf0 sf1 al ac0 ac1 af0 af1 bl bc0 bc1 bf0 bf1 tl tc0 tc1 tf0 tf1
        obtain ⟨sl, sc0, sc1, sf0, sf1⟩ := Gs6.c2
        obtain ⟨al, ac0, ac1, af0, af1⟩ := Ga6.c2
        obtain ⟨bl, bc0, bc1, bf0, bf1⟩ := Gb6.c2
        obtain ⟨tl, tc0, tc1, tf0, tf1⟩ := Gt6.c2
        go_wp2_with fail
        refine (spmeet_any so p (by omega) (by omega) so si (by omega) (by omega) _ (Utf8Tabs_below hT (by (repeat (first | with_reducible exact b0 _ | with_reducible assumption | with_reducible refine Below.drew ?_ | with_reducible refine below_drewN ?_ _ | with_reducible refine bal ?_ _ | ((with_reducible refine bst ?_ ?_ _); rotate_left; focus (first | exact Nat.le_refl _ | assumption | (simp; done) | (simp; omega) | omega)) | exact below_left (by with_reducible assumption)))))).mono ?_
        rintro e w7 ⟨rfl, hb7⟩
        rw [HL.out]
        have Gs7 := Blk.keep (Gs6) hb7
        have Ga7 := Blk.keep (Ga6) hb7
        have Gb7 := Blk.keep (Gb6) hb7
        have Gt7 := Blk.keep (Gt6) hb7
        have hB7 : Below w.heap.size w w7 := bt (hB6) hb7
        clear sl sc0 sc1 sf0 sf1 al ac0 ac1 af0 af1 bl bc0 bc1 bf0 bf1 tl tc0 tc1 tf0 tf1
        obtain ⟨sl, sc0, sc1, sf0, sf1⟩ := Gs7.c2
        obtain ⟨al, ac0, ac1, af0, af1⟩ := Ga7.c2
        obtain ⟨bl, bc0, bc1, bf0, bf1⟩ := Gb7.c2
        obtain ⟨tl, tc0, tc1, tf0, tf1⟩ := Gt7.c2
        go_wp2_with fail
        refine (spmeet_any so si (by omega) (by omega) p si (by omega) (by omega) _ (Utf8Tabs_below hT (by (repeat (first | with_reducible exact b0 _ | with_reducible assumption | with_reducible refine Below.drew ?_ | with_reducible refine below_drewN ?_ _ | with_reducible refine bal ?_ _ | ((with_reducible refine bst ?_ ?_ _); rotate_left; focus (first | exact Nat.le_refl _ | assumption | (simp; done) | (simp; omega) | omega)) | exact below_left (by with_reducible assumption)))))).mono ?_
        rintro e w8 ⟨rfl, hb8⟩
        rw [HR.out]
        have Gs8 := Blk.keep (Gs7) hb8
        have Ga8 := Blk.keep (Ga7) hb8
        have Gb8 := Blk.keep (Gb7) hb8
        have Gt8 := Blk.keep (Gt7) hb8
        have hB8 : Below w.heap.size w w8 := bt (hB7) hb8
        clear sl sc0 sc1 sf0 sf1 al ac0 ac1 af0 af1 bl bc0 bc1 bf0 bf1 tl tc0 tc1 tf0 tf1
        obtain ⟨sl, sc0, sc1, sf0, sf1⟩ := Gs8.c2
        obtain ⟨al, ac0, ac1, af0, af1⟩ := Ga8.c2
        obtain ⟨bl, bc0, bc1, bf0, bf1⟩ := Gb8.c2
        obtain ⟨tl, tc0, tc1, tf0, tf1⟩ := Gt8.c2
        go_wp2_with fail
        refine (awake09 _ (Utf8Tabs_below hT (by (repeat (first | with_reducible exact b0 _ | with_reducible assumption | with_reducible refine Below.drew ?_ | with_reducible refine below_drewN ?_ _ | with_reducible refine bal ?_ _ | ((with_reducible refine bst ?_ ?_ _); rotate_left; focus (first | exact Nat.le_refl _ | assumption | (simp; done) | (simp; omega) | omega)) | exact below_left (by with_reducible assumption)))))).mono ?_
        rintro e w9 ⟨rfl, hb9⟩
        have Gs9 := Blk.keep (Gs8) hb9
        have Ga9 := Blk.keep (Ga8) hb9
        have Gb9 := Blk.keep (Gb8) hb9
        have Gt9 := Blk.keep (Gt8) hb9
        have hB9 : Below w.heap.size w w9 := bt (hB8) hb9
        clear sl sc0 sc1 sf0 sf1 al ac0 ac1 af0 af1 bl bc0 bc1 bf0 bf1 tl tc0 tc1 tf0 tf1
        go_wp2
        go_ret
        exact ⟨rfl, by (repeat (first | with_reducible exact b0 _ | with_reducible assumption | with_reducible refine Below.drew ?_ | with_reducible refine below_drewN ?_ _ | with_reducible refine bal ?_ _ | ((with_reducible refine bst ?_ ?_ _); rotate_left; focus (first | exact Nat.le_refl _ | assumption | (simp; done) | (simp; omega) | omega)) | exact below_left (by with_reducible assumption)))⟩
end Go.Proofs.YtjckniebocjefaaDoor
