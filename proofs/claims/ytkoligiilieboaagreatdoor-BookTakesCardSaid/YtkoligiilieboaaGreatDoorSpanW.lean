/- The walks of spans: the program's and the document's. -/
import Derived.Test.YtkoligiilieboaaGreatDoorRCmpW
import Derived.Test.YtkoligiilieboaaGreatDoorMgA
import Derived.RegionTactic
import Derived.ChangeAlike
set_option linter.unusedSimpArgs false
set_option linter.unusedVariables false
namespace Go.Proofs.YtkoligiilieboaaGreatDoor
open Go.RowKit
attribute [local go_sem] ByteArray.mk_append_mk ByteArray.extract_mk
abbrev spV (s : Sp) : Value := .agg #[.string ⟨s.lo.toArray⟩, .string ⟨s.hi.toArray⟩]
theorem ret_bool {a b : Bool} (h : a = b) : Ending.returned (.bool a) = .returned (.bool b) := by rw [h]
theorem below_left {B : Nat} {w w' : World} {q : Prop} (h : Below B w w' ∧ q) : Below B w w' := h.1
theorem len_pos {l : List UInt8} (h : l ≠ []) : (0 : Int) < l.length := by have := List.length_pos_iff.2 h; omega
theorem len_beq {l : List UInt8} (h : l ≠ []) : ((l.length : Int) == 0) = false := by have := List.length_pos_iff.2 h; simp; omega
theorem len_ne {l : List UInt8} (h : l ≠ []) : ¬ (l.length : Int) = 0 := by have := List.length_pos_iff.2 h; omega
theorem r16 {k : List UInt8} (h : Hid (rightL k = true)) : k.length ≤ 1099511627776 := by have := (right_ne h.out).2.2; omega
set_option maxHeartbeats 1600000 in
set_option maxRecDepth 100000 in
theorem spright_any (lo hi : List UInt8) (zlo : lo.length ≤ 9223372036854775807) (zhi : hi.length ≤ 9223372036854775807) (w : World) (hT : Go.Lib.Utf8Tabs 0 1 w) :
  Calls Tryz.prog 62 #[spV ⟨lo, hi⟩] w fun e w' => e = .returned (.bool (rightSp ⟨lo, hi⟩)) ∧ Below w.heap.size w w' := by
 have h0 : cmpL lo hi = -1 ∨ cmpL lo hi = 0 ∨ cmpL lo hi = 1 := cmpL_range _ _
 have HC := Lib.hid h0
 clear h0
 by_cases hlo : lo = []
 case pos =>
  subst hlo
  go_enter Tryz.func62, Tryz.ntmps62
  have Gs0 : Blk (w.alloc (.cells #[.string ⟨#[]⟩, .string ⟨hi.toArray⟩] 24)) w.heap.size 24 #[.string ⟨#[]⟩, .string ⟨hi.toArray⟩] := Blk.new w _ _
  by_cases hhi : hi = []
  case pos =>
   subst hhi
   go_wp2
   go_ret
   exact ⟨ret_bool (by simp [rightSp]), by (repeat (first | with_reducible exact b0 _ | with_reducible assumption | with_reducible refine Below.drew ?_ | with_reducible refine below_drewN ?_ _ | with_reducible refine bal ?_ _ | ((with_reducible refine bst ?_ ?_ _); rotate_left; focus (first | exact Nat.le_refl _ | assumption | (simp; done) | (simp; omega) | omega)) | exact below_left (by with_reducible assumption)))⟩
  case neg =>
   have ehi := mk_ne hi hhi
   have phi := len_pos hhi
   have qhi := len_beq hhi
   have nhi := len_ne hhi
   have Nhi := Lib.hid hhi
   clear hhi
   obtain ⟨b, hb⟩ : ∃ b, rightL hi = b := ⟨_, rfl⟩
   have HH := Lib.hid hb
   clear hb
   go_wp2_with fail
   refine (keyright_any hi zhi _ (Utf8Tabs_below hT (by (repeat (first | with_reducible exact b0 _ | with_reducible assumption | with_reducible refine Below.drew ?_ | with_reducible refine below_drewN ?_ _ | with_reducible refine bal ?_ _ | ((with_reducible refine bst ?_ ?_ _); rotate_left; focus (first | exact Nat.le_refl _ | assumption | (simp; done) | (simp; omega) | omega)) | exact below_left (by with_reducible assumption)))))).mono ?_
   rintro e w1 ⟨rfl, hb1⟩
   have hB1 : Below w.heap.size w w1 := bt (by (repeat (first | with_reducible exact b0 _ | with_reducible assumption | with_reducible refine Below.drew ?_ | with_reducible refine below_drewN ?_ _ | with_reducible refine bal ?_ _ | ((with_reducible refine bst ?_ ?_ _); rotate_left; focus (first | exact Nat.le_refl _ | assumption | (simp; done) | (simp; omega) | omega)) | exact below_left (by with_reducible assumption)))) hb1
   rw [HH.out]
   have Gs1 := Blk.keep Gs0 hb1
   obtain ⟨sl, s0, s1, s2, s3⟩ := Gs1.c2
   cases b
   case false =>
    go_wp2
    go_ret
    exact ⟨ret_bool (by simp [rightSp, HH.out, Nhi.out]), by (repeat (first | with_reducible exact b0 _ | with_reducible assumption | with_reducible refine Below.drew ?_ | with_reducible refine below_drewN ?_ _ | with_reducible refine bal ?_ _ | ((with_reducible refine bst ?_ ?_ _); rotate_left; focus (first | exact Nat.le_refl _ | assumption | (simp; done) | (simp; omega) | omega)) | exact below_left (by with_reducible assumption)))⟩
   case true =>
    go_wp2_with fail
    refine (kcompare_any [] hi _ (Utf8Tabs_below hT (by (repeat (first | with_reducible exact b0 _ | with_reducible assumption | with_reducible refine Below.drew ?_ | with_reducible refine below_drewN ?_ _ | with_reducible refine bal ?_ _ | ((with_reducible refine bst ?_ ?_ _); rotate_left; focus (first | exact Nat.le_refl _ | assumption | (simp; done) | (simp; omega) | omega)) | exact below_left (by with_reducible assumption))))) (by simp) (r16 HH)).mono ?_
    rintro e w2 ⟨rfl, hb2⟩
    have hB2 : Below w.heap.size w w2 := bt (by (repeat (first | with_reducible exact b0 _ | with_reducible assumption | with_reducible refine Below.drew ?_ | with_reducible refine below_drewN ?_ _ | with_reducible refine bal ?_ _ | ((with_reducible refine bst ?_ ?_ _); rotate_left; focus (first | exact Nat.le_refl _ | assumption | (simp; done) | (simp; omega) | omega)) | exact below_left (by with_reducible assumption)))) hb2
    go_wp2
    go_ret
    exact ⟨ret_bool (by rcases HC.out with h | h | h <;> simp [rightSp, HH.out, Nhi.out, h]), by (repeat (first | with_reducible exact b0 _ | with_reducible assumption | with_reducible refine Below.drew ?_ | with_reducible refine below_drewN ?_ _ | with_reducible refine bal ?_ _ | ((with_reducible refine bst ?_ ?_ _); rotate_left; focus (first | exact Nat.le_refl _ | assumption | (simp; done) | (simp; omega) | omega)) | exact below_left (by with_reducible assumption)))⟩
 case neg =>
  have elo := mk_ne lo hlo
  have plo := len_pos hlo
  have qlo := len_beq hlo
  have nlo := len_ne hlo
  have Nlo := Lib.hid hlo
  clear hlo
  obtain ⟨a, ha⟩ : ∃ b, rightL lo = b := ⟨_, rfl⟩
  have HL := Lib.hid ha
  clear ha
  go_enter Tryz.func62, Tryz.ntmps62
  have Gs0 : Blk (w.alloc (.cells #[.string ⟨lo.toArray⟩, .string ⟨hi.toArray⟩] 24)) w.heap.size 24 #[.string ⟨lo.toArray⟩, .string ⟨hi.toArray⟩] := Blk.new w _ _
  go_wp2_with fail
  refine (keyright_any lo zlo _ (Utf8Tabs_below hT (by (repeat (first | with_reducible exact b0 _ | with_reducible assumption | with_reducible refine Below.drew ?_ | with_reducible refine below_drewN ?_ _ | with_reducible refine bal ?_ _ | ((with_reducible refine bst ?_ ?_ _); rotate_left; focus (first | exact Nat.le_refl _ | assumption | (simp; done) | (simp; omega) | omega)) | exact below_left (by with_reducible assumption)))))).mono ?_
  rintro e w1 ⟨rfl, hb1⟩
  have hB1 : Below w.heap.size w w1 := bt (by (repeat (first | with_reducible exact b0 _ | with_reducible assumption | with_reducible refine Below.drew ?_ | with_reducible refine below_drewN ?_ _ | with_reducible refine bal ?_ _ | ((with_reducible refine bst ?_ ?_ _); rotate_left; focus (first | exact Nat.le_refl _ | assumption | (simp; done) | (simp; omega) | omega)) | exact below_left (by with_reducible assumption)))) hb1
  rw [HL.out]
  have Gs1 := Blk.keep Gs0 hb1
  obtain ⟨sl, s0, s1, s2, s3⟩ := Gs1.c2
  cases a
  case false =>
   go_wp2
   go_ret
   exact ⟨ret_bool (by simp [rightSp, HL.out, Nlo.out]), by (repeat (first | with_reducible exact b0 _ | with_reducible assumption | with_reducible refine Below.drew ?_ | with_reducible refine below_drewN ?_ _ | with_reducible refine bal ?_ _ | ((with_reducible refine bst ?_ ?_ _); rotate_left; focus (first | exact Nat.le_refl _ | assumption | (simp; done) | (simp; omega) | omega)) | exact below_left (by with_reducible assumption)))⟩
  case true =>
   by_cases hhi : hi = []
   case pos =>
    subst hhi
    go_wp2
    go_ret
    exact ⟨ret_bool (by simp [rightSp, HL.out, Nlo.out]), by (repeat (first | with_reducible exact b0 _ | with_reducible assumption | with_reducible refine Below.drew ?_ | with_reducible refine below_drewN ?_ _ | with_reducible refine bal ?_ _ | ((with_reducible refine bst ?_ ?_ _); rotate_left; focus (first | exact Nat.le_refl _ | assumption | (simp; done) | (simp; omega) | omega)) | exact below_left (by with_reducible assumption)))⟩
   case neg =>
    have ehi := mk_ne hi hhi
    have phi := len_pos hhi
    have qhi := len_beq hhi
    have nhi := len_ne hhi
    have Nhi := Lib.hid hhi
    clear hhi
    obtain ⟨b, hb⟩ : ∃ b, rightL hi = b := ⟨_, rfl⟩
    have HH := Lib.hid hb
    clear hb
    go_wp2_with fail
    refine (keyright_any hi zhi _ (Utf8Tabs_below hT (by (repeat (first | with_reducible exact b0 _ | with_reducible assumption | with_reducible refine Below.drew ?_ | with_reducible refine below_drewN ?_ _ | with_reducible refine bal ?_ _ | ((with_reducible refine bst ?_ ?_ _); rotate_left; focus (first | exact Nat.le_refl _ | assumption | (simp; done) | (simp; omega) | omega)) | exact below_left (by with_reducible assumption)))))).mono ?_
    rintro e w2 ⟨rfl, hb2⟩
    have hB2 : Below w.heap.size w w2 := bt (by (repeat (first | with_reducible exact b0 _ | with_reducible assumption | with_reducible refine Below.drew ?_ | with_reducible refine below_drewN ?_ _ | with_reducible refine bal ?_ _ | ((with_reducible refine bst ?_ ?_ _); rotate_left; focus (first | exact Nat.le_refl _ | assumption | (simp; done) | (simp; omega) | omega)) | exact below_left (by with_reducible assumption)))) hb2
    rw [HH.out]
    have Gs2 := Blk.keep Gs1 hb2
    clear sl s0 s1 s2 s3
    obtain ⟨sl, s0, s1, s2, s3⟩ := Gs2.c2
    cases b
    case false =>
     go_wp2
     go_ret
     exact ⟨ret_bool (by simp [rightSp, HH.out, Nhi.out, HL.out, Nlo.out]), by (repeat (first | with_reducible exact b0 _ | with_reducible assumption | with_reducible refine Below.drew ?_ | with_reducible refine below_drewN ?_ _ | with_reducible refine bal ?_ _ | ((with_reducible refine bst ?_ ?_ _); rotate_left; focus (first | exact Nat.le_refl _ | assumption | (simp; done) | (simp; omega) | omega)) | exact below_left (by with_reducible assumption)))⟩
    case true =>
     go_wp2_with fail
     refine (kcompare_any lo hi _ (Utf8Tabs_below hT (by (repeat (first | with_reducible exact b0 _ | with_reducible assumption | with_reducible refine Below.drew ?_ | with_reducible refine below_drewN ?_ _ | with_reducible refine bal ?_ _ | ((with_reducible refine bst ?_ ?_ _); rotate_left; focus (first | exact Nat.le_refl _ | assumption | (simp; done) | (simp; omega) | omega)) | exact below_left (by with_reducible assumption))))) (r16 HL) (r16 HH)).mono ?_
     rintro e w3 ⟨rfl, hb3⟩
     have hB3 : Below w.heap.size w w3 := bt (by (repeat (first | with_reducible exact b0 _ | with_reducible assumption | with_reducible refine Below.drew ?_ | with_reducible refine below_drewN ?_ _ | with_reducible refine bal ?_ _ | ((with_reducible refine bst ?_ ?_ _); rotate_left; focus (first | exact Nat.le_refl _ | assumption | (simp; done) | (simp; omega) | omega)) | exact below_left (by with_reducible assumption)))) hb3
     go_wp2
     go_ret
     exact ⟨ret_bool (by rcases HC.out with h | h | h <;> simp [rightSp, HH.out, Nhi.out, HL.out, Nlo.out, h]), by (repeat (first | with_reducible exact b0 _ | with_reducible assumption | with_reducible refine Below.drew ?_ | with_reducible refine below_drewN ?_ _ | with_reducible refine bal ?_ _ | ((with_reducible refine bst ?_ ?_ _); rotate_left; focus (first | exact Nat.le_refl _ | assumption | (simp; done) | (simp; omega) | omega)) | exact below_left (by with_reducible assumption)))⟩
theorem refkright_below (l : List UInt8) (hl : l.length ≤ 9223372036854775807) (w : World) :
  Calls Tryz.prog 85 #[.string ⟨l.toArray⟩] w fun e w' => e = .returned (.bool (rightL l)) ∧ Below w.heap.size w w' :=
 (refkright_any l hl w).mono fun e w' h => ⟨h.1, by rw [← h.2]; exact b0 w⟩
set_option maxHeartbeats 1600000 in
set_option maxRecDepth 100000 in
theorem refspright_any (lo hi : List UInt8) (zlo : lo.length ≤ 9223372036854775807) (zhi : hi.length ≤ 9223372036854775807) (w : World) :
  Calls Tryz.prog 47 #[spV ⟨lo, hi⟩] w fun e w' => e = .returned (.bool (rightSp ⟨lo, hi⟩)) ∧ Below w.heap.size w w' := by
 have h0 : cmpL lo hi = -1 ∨ cmpL lo hi = 0 ∨ cmpL lo hi = 1 := cmpL_range _ _
 have HC := Lib.hid h0
 clear h0
 by_cases hlo : lo = []
 case pos =>
  subst hlo
  go_enter Tryz.func47, Tryz.ntmps47
  have Gs0 : Blk (w.alloc (.cells #[.string ⟨#[]⟩, .string ⟨hi.toArray⟩] 24)) w.heap.size 24 #[.string ⟨#[]⟩, .string ⟨hi.toArray⟩] := Blk.new w _ _
  by_cases hhi : hi = []
  case pos =>
   subst hhi
   go_wp2
   go_ret
   exact ⟨ret_bool (by simp [rightSp]), by (repeat (first | with_reducible exact b0 _ | with_reducible assumption | with_reducible refine Below.drew ?_ | with_reducible refine below_drewN ?_ _ | with_reducible refine bal ?_ _ | ((with_reducible refine bst ?_ ?_ _); rotate_left; focus (first | exact Nat.le_refl _ | assumption | (simp; done) | (simp; omega) | omega)) | exact below_left (by with_reducible assumption)))⟩
  case neg =>
   have ehi := mk_ne hi hhi
   have phi := len_pos hhi
   have qhi := len_beq hhi
   have nhi := len_ne hhi
   have Nhi := Lib.hid hhi
   clear hhi
   obtain ⟨b, hb⟩ : ∃ b, rightL hi = b := ⟨_, rfl⟩
   have HH := Lib.hid hb
   clear hb
   go_wp2_with fail
   refine (refkright_below hi (by omega) _).mono ?_
   rintro e w1 ⟨rfl, hb1⟩
   have hB1 : Below w.heap.size w w1 := bt (by (repeat (first | with_reducible exact b0 _ | with_reducible assumption | with_reducible refine Below.drew ?_ | with_reducible refine below_drewN ?_ _ | with_reducible refine bal ?_ _ | ((with_reducible refine bst ?_ ?_ _); rotate_left; focus (first | exact Nat.le_refl _ | assumption | (simp; done) | (simp; omega) | omega)) | exact below_left (by with_reducible assumption)))) hb1
   rw [HH.out]
   have Gs1 := Blk.keep Gs0 hb1
   obtain ⟨sl, s0, s1, s2, s3⟩ := Gs1.c2
   cases b
   case false =>
    go_wp2
    go_ret
    exact ⟨ret_bool (by simp [rightSp, HH.out, Nhi.out]), by (repeat (first | with_reducible exact b0 _ | with_reducible assumption | with_reducible refine Below.drew ?_ | with_reducible refine below_drewN ?_ _ | with_reducible refine bal ?_ _ | ((with_reducible refine bst ?_ ?_ _); rotate_left; focus (first | exact Nat.le_refl _ | assumption | (simp; done) | (simp; omega) | omega)) | exact below_left (by with_reducible assumption)))⟩
   case true =>
    go_wp2_with fail
    refine (refcompare_any [] hi (by simp) (r16 HH) _).mono ?_
    rintro e w2 ⟨rfl, hb2⟩
    have hB2 : Below w.heap.size w w2 := bt (by (repeat (first | with_reducible exact b0 _ | with_reducible assumption | with_reducible refine Below.drew ?_ | with_reducible refine below_drewN ?_ _ | with_reducible refine bal ?_ _ | ((with_reducible refine bst ?_ ?_ _); rotate_left; focus (first | exact Nat.le_refl _ | assumption | (simp; done) | (simp; omega) | omega)) | exact below_left (by with_reducible assumption)))) hb2
    go_wp2
    go_ret
    exact ⟨ret_bool (by rcases HC.out with h | h | h <;> simp [rightSp, HH.out, Nhi.out, h]), by (repeat (first | with_reducible exact b0 _ | with_reducible assumption | with_reducible refine Below.drew ?_ | with_reducible refine below_drewN ?_ _ | with_reducible refine bal ?_ _ | ((with_reducible refine bst ?_ ?_ _); rotate_left; focus (first | exact Nat.le_refl _ | assumption | (simp; done) | (simp; omega) | omega)) | exact below_left (by with_reducible assumption)))⟩
 case neg =>
  have elo := mk_ne lo hlo
  have plo := len_pos hlo
  have qlo := len_beq hlo
  have nlo := len_ne hlo
  have Nlo := Lib.hid hlo
  clear hlo
  obtain ⟨a, ha⟩ : ∃ b, rightL lo = b := ⟨_, rfl⟩
  have HL := Lib.hid ha
  clear ha
  go_enter Tryz.func47, Tryz.ntmps47
  have Gs0 : Blk (w.alloc (.cells #[.string ⟨lo.toArray⟩, .string ⟨hi.toArray⟩] 24)) w.heap.size 24 #[.string ⟨lo.toArray⟩, .string ⟨hi.toArray⟩] := Blk.new w _ _
  go_wp2_with fail
  refine (refkright_below lo (by omega) _).mono ?_
  rintro e w1 ⟨rfl, hb1⟩
  have hB1 : Below w.heap.size w w1 := bt (by (repeat (first | with_reducible exact b0 _ | with_reducible assumption | with_reducible refine Below.drew ?_ | with_reducible refine below_drewN ?_ _ | with_reducible refine bal ?_ _ | ((with_reducible refine bst ?_ ?_ _); rotate_left; focus (first | exact Nat.le_refl _ | assumption | (simp; done) | (simp; omega) | omega)) | exact below_left (by with_reducible assumption)))) hb1
  rw [HL.out]
  have Gs1 := Blk.keep Gs0 hb1
  obtain ⟨sl, s0, s1, s2, s3⟩ := Gs1.c2
  cases a
  case false =>
   go_wp2
   go_ret
   exact ⟨ret_bool (by simp [rightSp, HL.out, Nlo.out]), by (repeat (first | with_reducible exact b0 _ | with_reducible assumption | with_reducible refine Below.drew ?_ | with_reducible refine below_drewN ?_ _ | with_reducible refine bal ?_ _ | ((with_reducible refine bst ?_ ?_ _); rotate_left; focus (first | exact Nat.le_refl _ | assumption | (simp; done) | (simp; omega) | omega)) | exact below_left (by with_reducible assumption)))⟩
  case true =>
   by_cases hhi : hi = []
   case pos =>
    subst hhi
    go_wp2
    go_ret
    exact ⟨ret_bool (by simp [rightSp, HL.out, Nlo.out]), by (repeat (first | with_reducible exact b0 _ | with_reducible assumption | with_reducible refine Below.drew ?_ | with_reducible refine below_drewN ?_ _ | with_reducible refine bal ?_ _ | ((with_reducible refine bst ?_ ?_ _); rotate_left; focus (first | exact Nat.le_refl _ | assumption | (simp; done) | (simp; omega) | omega)) | exact below_left (by with_reducible assumption)))⟩
   case neg =>
    have ehi := mk_ne hi hhi
    have phi := len_pos hhi
    have qhi := len_beq hhi
    have nhi := len_ne hhi
    have Nhi := Lib.hid hhi
    clear hhi
    obtain ⟨b, hb⟩ : ∃ b, rightL hi = b := ⟨_, rfl⟩
    have HH := Lib.hid hb
    clear hb
    go_wp2_with fail
    refine (refkright_below hi (by omega) _).mono ?_
    rintro e w2 ⟨rfl, hb2⟩
    have hB2 : Below w.heap.size w w2 := bt (by (repeat (first | with_reducible exact b0 _ | with_reducible assumption | with_reducible refine Below.drew ?_ | with_reducible refine below_drewN ?_ _ | with_reducible refine bal ?_ _ | ((with_reducible refine bst ?_ ?_ _); rotate_left; focus (first | exact Nat.le_refl _ | assumption | (simp; done) | (simp; omega) | omega)) | exact below_left (by with_reducible assumption)))) hb2
    rw [HH.out]
    have Gs2 := Blk.keep Gs1 hb2
    clear sl s0 s1 s2 s3
    obtain ⟨sl, s0, s1, s2, s3⟩ := Gs2.c2
    cases b
    case false =>
     go_wp2
     go_ret
     exact ⟨ret_bool (by simp [rightSp, HH.out, Nhi.out, HL.out, Nlo.out]), by (repeat (first | with_reducible exact b0 _ | with_reducible assumption | with_reducible refine Below.drew ?_ | with_reducible refine below_drewN ?_ _ | with_reducible refine bal ?_ _ | ((with_reducible refine bst ?_ ?_ _); rotate_left; focus (first | exact Nat.le_refl _ | assumption | (simp; done) | (simp; omega) | omega)) | exact below_left (by with_reducible assumption)))⟩
    case true =>
     go_wp2_with fail
     refine (refcompare_any lo hi (r16 HL) (r16 HH) _).mono ?_
     rintro e w3 ⟨rfl, hb3⟩
     have hB3 : Below w.heap.size w w3 := bt (by (repeat (first | with_reducible exact b0 _ | with_reducible assumption | with_reducible refine Below.drew ?_ | with_reducible refine below_drewN ?_ _ | with_reducible refine bal ?_ _ | ((with_reducible refine bst ?_ ?_ _); rotate_left; focus (first | exact Nat.le_refl _ | assumption | (simp; done) | (simp; omega) | omega)) | exact below_left (by with_reducible assumption)))) hb3
     go_wp2
     go_ret
     exact ⟨ret_bool (by rcases HC.out with h | h | h <;> simp [rightSp, HH.out, Nhi.out, HL.out, Nlo.out, h]), by (repeat (first | with_reducible exact b0 _ | with_reducible assumption | with_reducible refine Below.drew ?_ | with_reducible refine below_drewN ?_ _ | with_reducible refine bal ?_ _ | ((with_reducible refine bst ?_ ?_ _); rotate_left; focus (first | exact Nat.le_refl _ | assumption | (simp; done) | (simp; omega) | omega)) | exact below_left (by with_reducible assumption)))⟩
end Go.Proofs.YtkoligiilieboaaGreatDoor
