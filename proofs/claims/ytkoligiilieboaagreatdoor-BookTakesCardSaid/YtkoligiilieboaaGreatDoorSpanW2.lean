/- The walks of spans: Has, ahead, and the document's In and Has. -/
import Derived.Test.YtkoligiilieboaaGreatDoorSpanW
set_option linter.unusedSimpArgs false
set_option linter.unusedVariables false
namespace Go.Proofs.YtkoligiilieboaaGreatDoor
open Go.RowKit
attribute [local go_sem] ByteArray.mk_append_mk ByteArray.extract_mk
def inB (k lo hi : List UInt8) : Bool := decide (0 ≤ cmpL k lo) && (decide (hi = []) || decide (cmpL k hi < 0))
theorem has_in (s : Sp) (k : List UInt8) : hasSp s k = (rightSp s && (rightL k && inB k s.lo s.hi)) := by
 unfold hasSp inB
 have := cmpL_swap k s.lo
 have e : decide (cmpL s.lo k ≤ 0) = decide (0 ≤ cmpL k s.lo) := by rw [decide_eq_decide]; omega
 rw [e]
theorem lo40 {s : Sp} (h : Hid (rightSp s = true)) : s.lo.length ≤ 1099511627776 := by have := lo_len h.out; omega
theorem hi40 {s : Sp} (h : Hid (rightSp s = true)) : s.hi.length ≤ 1099511627776 := by have := hi_len h.out; omega
set_option maxHeartbeats 1600000 in
set_option maxRecDepth 100000 in
theorem refin_any (k lo hi : List UInt8) (zk : k.length ≤ 1099511627776) (zlo : lo.length ≤ 1099511627776) (zhi : hi.length ≤ 1099511627776) (w : World) :
  Calls Tryz.prog 90 #[.string ⟨k.toArray⟩, .string ⟨lo.toArray⟩, .string ⟨hi.toArray⟩] w fun e w' => e = .returned (.bool (inB k lo hi)) ∧ Below w.heap.size w w' := by
 by_cases h1 : 0 ≤ cmpL k lo
 case pos =>
  by_cases hhi : hi = []
  case pos =>
   subst hhi
   go_enter Tryz.func90, Tryz.ntmps90
   go_wp2_with fail
   refine (refcompare_any k lo zk zlo _).mono ?_
   rintro e w1 ⟨rfl, hb1⟩
   have hB1 : Below w.heap.size w w1 := bt (by (repeat (first | with_reducible exact b0 _ | with_reducible assumption | with_reducible refine Below.drew ?_ | with_reducible refine below_drewN ?_ _ | with_reducible refine bal ?_ _ | ((with_reducible refine bst ?_ ?_ _); rotate_left; focus (first | exact Nat.le_refl _ | assumption | (simp; done) | (simp; omega) | omega)) | exact below_left (by with_reducible assumption)))) hb1
   go_wp2
   go_ret
   exact ⟨ret_bool (by simp [inB, h1]), by (repeat (first | with_reducible exact b0 _ | with_reducible assumption | with_reducible refine Below.drew ?_ | with_reducible refine below_drewN ?_ _ | with_reducible refine bal ?_ _ | ((with_reducible refine bst ?_ ?_ _); rotate_left; focus (first | exact Nat.le_refl _ | assumption | (simp; done) | (simp; omega) | omega)) | exact below_left (by with_reducible assumption)))⟩
  case neg =>
   have ehi := mk_ne hi hhi
   have phi := len_pos hhi
   have qhi := len_beq hhi
   have nhi := len_ne hhi
   have Nhi := Lib.hid hhi
   clear hhi
   go_enter Tryz.func90, Tryz.ntmps90
   go_wp2_with fail
   refine (refcompare_any k lo zk zlo _).mono ?_
   rintro e w1 ⟨rfl, hb1⟩
   have hB1 : Below w.heap.size w w1 := bt (by (repeat (first | with_reducible exact b0 _ | with_reducible assumption | with_reducible refine Below.drew ?_ | with_reducible refine below_drewN ?_ _ | with_reducible refine bal ?_ _ | ((with_reducible refine bst ?_ ?_ _); rotate_left; focus (first | exact Nat.le_refl _ | assumption | (simp; done) | (simp; omega) | omega)) | exact below_left (by with_reducible assumption)))) hb1
   go_wp2_with fail
   refine (refcompare_any k hi zk zhi _).mono ?_
   rintro e w2 ⟨rfl, hb2⟩
   have hB2 : Below w.heap.size w w2 := bt (by (repeat (first | with_reducible exact b0 _ | with_reducible assumption | with_reducible refine Below.drew ?_ | with_reducible refine below_drewN ?_ _ | with_reducible refine bal ?_ _ | ((with_reducible refine bst ?_ ?_ _); rotate_left; focus (first | exact Nat.le_refl _ | assumption | (simp; done) | (simp; omega) | omega)) | exact below_left (by with_reducible assumption)))) hb2
   go_wp2
   go_ret
   exact ⟨ret_bool (by simp [inB, h1, Nhi.out]), by (repeat (first | with_reducible exact b0 _ | with_reducible assumption | with_reducible refine Below.drew ?_ | with_reducible refine below_drewN ?_ _ | with_reducible refine bal ?_ _ | ((with_reducible refine bst ?_ ?_ _); rotate_left; focus (first | exact Nat.le_refl _ | assumption | (simp; done) | (simp; omega) | omega)) | exact below_left (by with_reducible assumption)))⟩
 case neg =>
  go_enter Tryz.func90, Tryz.ntmps90
  go_wp2_with fail
  refine (refcompare_any k lo zk zlo _).mono ?_
  rintro e w1 ⟨rfl, hb1⟩
  have hB1 : Below w.heap.size w w1 := bt (by (repeat (first | with_reducible exact b0 _ | with_reducible assumption | with_reducible refine Below.drew ?_ | with_reducible refine below_drewN ?_ _ | with_reducible refine bal ?_ _ | ((with_reducible refine bst ?_ ?_ _); rotate_left; focus (first | exact Nat.le_refl _ | assumption | (simp; done) | (simp; omega) | omega)) | exact below_left (by with_reducible assumption)))) hb1
  go_wp2
  go_ret
  exact ⟨ret_bool (by simp [inB]; intros; omega), by (repeat (first | with_reducible exact b0 _ | with_reducible assumption | with_reducible refine Below.drew ?_ | with_reducible refine below_drewN ?_ _ | with_reducible refine bal ?_ _ | ((with_reducible refine bst ?_ ?_ _); rotate_left; focus (first | exact Nat.le_refl _ | assumption | (simp; done) | (simp; omega) | omega)) | exact below_left (by with_reducible assumption)))⟩
set_option maxHeartbeats 1600000 in
set_option maxRecDepth 100000 in
theorem sphas_any (lo hi : List UInt8) (zlo : lo.length ≤ 9223372036854775807) (zhi : hi.length ≤ 9223372036854775807) (k : List UInt8) (zk : k.length ≤ 9223372036854775807) (w : World) (hT : Go.Lib.Utf8Tabs 0 1 w) :
  Calls Tryz.prog 68 #[spV ⟨lo, hi⟩, .string ⟨k.toArray⟩] w fun e w' => e = .returned (.bool (hasSp ⟨lo, hi⟩ k)) ∧ Below w.heap.size w w' := by
 obtain ⟨a, ha⟩ : ∃ b, rightSp ⟨lo, hi⟩ = b := ⟨_, rfl⟩
 have HA := Lib.hid ha
 clear ha
 obtain ⟨b, hb⟩ : ∃ b, rightL k = b := ⟨_, rfl⟩
 have HB := Lib.hid hb
 clear hb
 go_enter Tryz.func68, Tryz.ntmps68
 have Gs0 : Blk (w.alloc (.cells #[.string ⟨lo.toArray⟩, .string ⟨hi.toArray⟩] 24)) w.heap.size 24 #[.string ⟨lo.toArray⟩, .string ⟨hi.toArray⟩] := Blk.new w _ _
 go_wp2_with fail
 refine (spright_any lo hi zlo zhi _ (Utf8Tabs_below hT (by (repeat (first | with_reducible exact b0 _ | with_reducible assumption | with_reducible refine Below.drew ?_ | with_reducible refine below_drewN ?_ _ | with_reducible refine bal ?_ _ | ((with_reducible refine bst ?_ ?_ _); rotate_left; focus (first | exact Nat.le_refl _ | assumption | (simp; done) | (simp; omega) | omega)) | exact below_left (by with_reducible assumption)))))).mono ?_
 rintro e w1 ⟨rfl, hb1⟩
 have hB1 : Below w.heap.size w w1 := bt (by (repeat (first | with_reducible exact b0 _ | with_reducible assumption | with_reducible refine Below.drew ?_ | with_reducible refine below_drewN ?_ _ | with_reducible refine bal ?_ _ | ((with_reducible refine bst ?_ ?_ _); rotate_left; focus (first | exact Nat.le_refl _ | assumption | (simp; done) | (simp; omega) | omega)) | exact below_left (by with_reducible assumption)))) hb1
 rw [HA.out]
 have Gs1 := Blk.keep Gs0 hb1
 obtain ⟨sl, s0, s1, s2, s3⟩ := Gs1.c2
 cases a
 case false =>
  go_wp2
  go_ret
  exact ⟨ret_bool (by simp [hasSp, HA.out]), by (repeat (first | with_reducible exact b0 _ | with_reducible assumption | with_reducible refine Below.drew ?_ | with_reducible refine below_drewN ?_ _ | with_reducible refine bal ?_ _ | ((with_reducible refine bst ?_ ?_ _); rotate_left; focus (first | exact Nat.le_refl _ | assumption | (simp; done) | (simp; omega) | omega)) | exact below_left (by with_reducible assumption)))⟩
 case true =>
  have zl := lo40 HA
  have zh := hi40 HA
  simp only at zl zh
  go_wp2_with fail
  refine (keyright_any k zk _ (Utf8Tabs_below hT (by (repeat (first | with_reducible exact b0 _ | with_reducible assumption | with_reducible refine Below.drew ?_ | with_reducible refine below_drewN ?_ _ | with_reducible refine bal ?_ _ | ((with_reducible refine bst ?_ ?_ _); rotate_left; focus (first | exact Nat.le_refl _ | assumption | (simp; done) | (simp; omega) | omega)) | exact below_left (by with_reducible assumption)))))).mono ?_
  rintro e w2 ⟨rfl, hb2⟩
  have hB2 : Below w.heap.size w w2 := bt (by (repeat (first | with_reducible exact b0 _ | with_reducible assumption | with_reducible refine Below.drew ?_ | with_reducible refine below_drewN ?_ _ | with_reducible refine bal ?_ _ | ((with_reducible refine bst ?_ ?_ _); rotate_left; focus (first | exact Nat.le_refl _ | assumption | (simp; done) | (simp; omega) | omega)) | exact below_left (by with_reducible assumption)))) hb2
  rw [HB.out]
  have Gs2 := Blk.keep Gs1 hb2
  clear sl s0 s1 s2 s3
  obtain ⟨sl, s0, s1, s2, s3⟩ := Gs2.c2
  cases b
  case false =>
   go_wp2
   go_ret
   exact ⟨ret_bool (by simp [hasSp, HB.out]), by (repeat (first | with_reducible exact b0 _ | with_reducible assumption | with_reducible refine Below.drew ?_ | with_reducible refine below_drewN ?_ _ | with_reducible refine bal ?_ _ | ((with_reducible refine bst ?_ ?_ _); rotate_left; focus (first | exact Nat.le_refl _ | assumption | (simp; done) | (simp; omega) | omega)) | exact below_left (by with_reducible assumption)))⟩
  case true =>
   have zk := r16 HB
   by_cases h1 : cmpL lo k ≤ 0
   case pos =>
    go_wp2_with fail
    refine (kcompare_any lo k _ (Utf8Tabs_below hT (by (repeat (first | with_reducible exact b0 _ | with_reducible assumption | with_reducible refine Below.drew ?_ | with_reducible refine below_drewN ?_ _ | with_reducible refine bal ?_ _ | ((with_reducible refine bst ?_ ?_ _); rotate_left; focus (first | exact Nat.le_refl _ | assumption | (simp; done) | (simp; omega) | omega)) | exact below_left (by with_reducible assumption))))) zl zk).mono ?_
    rintro e w3 ⟨rfl, hb3⟩
    have hB3 : Below w.heap.size w w3 := bt (by (repeat (first | with_reducible exact b0 _ | with_reducible assumption | with_reducible refine Below.drew ?_ | with_reducible refine below_drewN ?_ _ | with_reducible refine bal ?_ _ | ((with_reducible refine bst ?_ ?_ _); rotate_left; focus (first | exact Nat.le_refl _ | assumption | (simp; done) | (simp; omega) | omega)) | exact below_left (by with_reducible assumption)))) hb3
    have Gs3 := Blk.keep Gs2 hb3
    clear sl s0 s1 s2 s3
    obtain ⟨sl, s0, s1, s2, s3⟩ := Gs3.c2
    by_cases hhi : hi = []
    case pos =>
     subst hhi
     go_wp2
     go_ret
     exact ⟨ret_bool (by simp [hasSp, HA.out, HB.out, h1]), by (repeat (first | with_reducible exact b0 _ | with_reducible assumption | with_reducible refine Below.drew ?_ | with_reducible refine below_drewN ?_ _ | with_reducible refine bal ?_ _ | ((with_reducible refine bst ?_ ?_ _); rotate_left; focus (first | exact Nat.le_refl _ | assumption | (simp; done) | (simp; omega) | omega)) | exact below_left (by with_reducible assumption)))⟩
    case neg =>
     have ehi := mk_ne hi hhi
     have phi := len_pos hhi
     have qhi := len_beq hhi
     have nhi := len_ne hhi
     have Nhi := Lib.hid hhi
     clear hhi
     go_wp2_with fail
     refine (kcompare_any k hi _ (Utf8Tabs_below hT (by (repeat (first | with_reducible exact b0 _ | with_reducible assumption | with_reducible refine Below.drew ?_ | with_reducible refine below_drewN ?_ _ | with_reducible refine bal ?_ _ | ((with_reducible refine bst ?_ ?_ _); rotate_left; focus (first | exact Nat.le_refl _ | assumption | (simp; done) | (simp; omega) | omega)) | exact below_left (by with_reducible assumption))))) zk zh).mono ?_
     rintro e w4 ⟨rfl, hb4⟩
     have hB4 : Below w.heap.size w w4 := bt (by (repeat (first | with_reducible exact b0 _ | with_reducible assumption | with_reducible refine Below.drew ?_ | with_reducible refine below_drewN ?_ _ | with_reducible refine bal ?_ _ | ((with_reducible refine bst ?_ ?_ _); rotate_left; focus (first | exact Nat.le_refl _ | assumption | (simp; done) | (simp; omega) | omega)) | exact below_left (by with_reducible assumption)))) hb4
     go_wp2
     go_ret
     exact ⟨ret_bool (by simp [hasSp, HA.out, HB.out, h1, Nhi.out]), by (repeat (first | with_reducible exact b0 _ | with_reducible assumption | with_reducible refine Below.drew ?_ | with_reducible refine below_drewN ?_ _ | with_reducible refine bal ?_ _ | ((with_reducible refine bst ?_ ?_ _); rotate_left; focus (first | exact Nat.le_refl _ | assumption | (simp; done) | (simp; omega) | omega)) | exact below_left (by with_reducible assumption)))⟩
   case neg =>
    go_wp2_with fail
    refine (kcompare_any lo k _ (Utf8Tabs_below hT (by (repeat (first | with_reducible exact b0 _ | with_reducible assumption | with_reducible refine Below.drew ?_ | with_reducible refine below_drewN ?_ _ | with_reducible refine bal ?_ _ | ((with_reducible refine bst ?_ ?_ _); rotate_left; focus (first | exact Nat.le_refl _ | assumption | (simp; done) | (simp; omega) | omega)) | exact below_left (by with_reducible assumption))))) zl zk).mono ?_
    rintro e w3 ⟨rfl, hb3⟩
    have hB3 : Below w.heap.size w w3 := bt (by (repeat (first | with_reducible exact b0 _ | with_reducible assumption | with_reducible refine Below.drew ?_ | with_reducible refine below_drewN ?_ _ | with_reducible refine bal ?_ _ | ((with_reducible refine bst ?_ ?_ _); rotate_left; focus (first | exact Nat.le_refl _ | assumption | (simp; done) | (simp; omega) | omega)) | exact below_left (by with_reducible assumption)))) hb3
    go_wp2
    go_ret
    exact ⟨ret_bool (by simp [hasSp, HA.out, HB.out]; intros; omega), by (repeat (first | with_reducible exact b0 _ | with_reducible assumption | with_reducible refine Below.drew ?_ | with_reducible refine below_drewN ?_ _ | with_reducible refine bal ?_ _ | ((with_reducible refine bst ?_ ?_ _); rotate_left; focus (first | exact Nat.le_refl _ | assumption | (simp; done) | (simp; omega) | omega)) | exact below_left (by with_reducible assumption)))⟩
set_option maxHeartbeats 1600000 in
set_option maxRecDepth 100000 in
theorem refsphas_any (lo hi : List UInt8) (zlo : lo.length ≤ 9223372036854775807) (zhi : hi.length ≤ 9223372036854775807) (k : List UInt8) (zk : k.length ≤ 9223372036854775807) (w : World) :
  Calls Tryz.prog 51 #[spV ⟨lo, hi⟩, .string ⟨k.toArray⟩] w fun e w' => e = .returned (.bool (hasSp ⟨lo, hi⟩ k)) ∧ Below w.heap.size w w' := by
 obtain ⟨a, ha⟩ : ∃ b, rightSp ⟨lo, hi⟩ = b := ⟨_, rfl⟩
 have HA := Lib.hid ha
 clear ha
 obtain ⟨b, hb⟩ : ∃ b, rightL k = b := ⟨_, rfl⟩
 have HB := Lib.hid hb
 clear hb
 go_enter Tryz.func51, Tryz.ntmps51
 have Gs0 : Blk (w.alloc (.cells #[.string ⟨lo.toArray⟩, .string ⟨hi.toArray⟩] 24)) w.heap.size 24 #[.string ⟨lo.toArray⟩, .string ⟨hi.toArray⟩] := Blk.new w _ _
 go_wp2_with fail
 refine (refspright_any lo hi zlo zhi _).mono ?_
 rintro e w1 ⟨rfl, hb1⟩
 have hB1 : Below w.heap.size w w1 := bt (by (repeat (first | with_reducible exact b0 _ | with_reducible assumption | with_reducible refine Below.drew ?_ | with_reducible refine below_drewN ?_ _ | with_reducible refine bal ?_ _ | ((with_reducible refine bst ?_ ?_ _); rotate_left; focus (first | exact Nat.le_refl _ | assumption | (simp; done) | (simp; omega) | omega)) | exact below_left (by with_reducible assumption)))) hb1
 rw [HA.out]
 have Gs1 := Blk.keep Gs0 hb1
 obtain ⟨sl, s0, s1, s2, s3⟩ := Gs1.c2
 cases a
 case false =>
  go_wp2
  go_ret
  exact ⟨ret_bool (by simp [hasSp, HA.out]), by (repeat (first | with_reducible exact b0 _ | with_reducible assumption | with_reducible refine Below.drew ?_ | with_reducible refine below_drewN ?_ _ | with_reducible refine bal ?_ _ | ((with_reducible refine bst ?_ ?_ _); rotate_left; focus (first | exact Nat.le_refl _ | assumption | (simp; done) | (simp; omega) | omega)) | exact below_left (by with_reducible assumption)))⟩
 case true =>
  have zl := lo40 HA
  have zh := hi40 HA
  simp only at zl zh
  go_wp2_with fail
  refine (refkright_below k (by omega) _).mono ?_
  rintro e w2 ⟨rfl, hb2⟩
  have hB2 : Below w.heap.size w w2 := bt (by (repeat (first | with_reducible exact b0 _ | with_reducible assumption | with_reducible refine Below.drew ?_ | with_reducible refine below_drewN ?_ _ | with_reducible refine bal ?_ _ | ((with_reducible refine bst ?_ ?_ _); rotate_left; focus (first | exact Nat.le_refl _ | assumption | (simp; done) | (simp; omega) | omega)) | exact below_left (by with_reducible assumption)))) hb2
  rw [HB.out]
  have Gs2 := Blk.keep Gs1 hb2
  clear sl s0 s1 s2 s3
  obtain ⟨sl, s0, s1, s2, s3⟩ := Gs2.c2
  cases b
  case false =>
   go_wp2
   go_ret
   exact ⟨ret_bool (by simp [hasSp, HB.out]), by (repeat (first | with_reducible exact b0 _ | with_reducible assumption | with_reducible refine Below.drew ?_ | with_reducible refine below_drewN ?_ _ | with_reducible refine bal ?_ _ | ((with_reducible refine bst ?_ ?_ _); rotate_left; focus (first | exact Nat.le_refl _ | assumption | (simp; done) | (simp; omega) | omega)) | exact below_left (by with_reducible assumption)))⟩
  case true =>
   have zk := r16 HB
   go_wp2_with fail
   refine (refin_any k lo hi zk zl zh _).mono ?_
   rintro e w3 ⟨rfl, hb3⟩
   have hB3 : Below w.heap.size w w3 := bt (by (repeat (first | with_reducible exact b0 _ | with_reducible assumption | with_reducible refine Below.drew ?_ | with_reducible refine below_drewN ?_ _ | with_reducible refine bal ?_ _ | ((with_reducible refine bst ?_ ?_ _); rotate_left; focus (first | exact Nat.le_refl _ | assumption | (simp; done) | (simp; omega) | omega)) | exact below_left (by with_reducible assumption)))) hb3
   go_wp2
   go_ret
   exact ⟨ret_bool (by simp [has_in, HA.out, HB.out]), by (repeat (first | with_reducible exact b0 _ | with_reducible assumption | with_reducible refine Below.drew ?_ | with_reducible refine below_drewN ?_ _ | with_reducible refine bal ?_ _ | ((with_reducible refine bst ?_ ?_ _); rotate_left; focus (first | exact Nat.le_refl _ | assumption | (simp; done) | (simp; omega) | omega)) | exact below_left (by with_reducible assumption)))⟩
end Go.Proofs.YtkoligiilieboaaGreatDoor
