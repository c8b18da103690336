/- The walks of the document's Meet and Cut of spans. -/
import Derived.Test.YtjckniebocjefaaDoorSpanW3
import Derived.Deep.RegionHeld3
import Derived.Deep.DeepCutAuto
namespace Go.Proofs.YtjckniebocjefaaDoor
open Go.RowKit
attribute [local go_sem] ByteArray.mk_append_mk ByteArray.extract_mk
attribute [local go_sem ↓] Go.wp_at_zero Go.wp_at_succ
def CutCut (W : World) (T : TypeId) (cu cv : Array Value) (s7 s8 : Value) (wx : World) : Prop :=
  ∃ gu gv, s7 = .pointer (some ⟨gu, 0, none⟩) ∧ s8 = .pointer (some ⟨gv, 0, none⟩) ∧ W.heap.size ≤ gu ∧ W.heap.size ≤ gv ∧ Blk wx gu T cu ∧ Blk wx gv T cv ∧ Below W.heap.size W wx
theorem blk_put2 {w : World} {g : Nat} {t : TypeId} {c0 c1 u0 u1 : Value} (h : Blk w g t #[c0, c1]) : Blk ((w.setCell ⟨g, 0, none⟩ u0).setCell ⟨g, 1, none⟩ u1) g t #[u0, u1] := by
  have h5 := (h.set 0 u0).set 1 u1
  simpa using h5
set_option maxHeartbeats 1600000 in
set_option maxRecDepth 100000 in
theorem refspmeet_any (lo hi : List UInt8) (zlo : lo.length ≤ 9223372036854775807) (zhi : hi.length ≤ 9223372036854775807) (lo' hi' : List UInt8) (zlo' : lo'.length ≤ 9223372036854775807) (zhi' : hi'.length ≤ 9223372036854775807) (w : World) :
    Calls Tryd.prog 23 #[spV ⟨lo, hi⟩, spV ⟨lo', hi'⟩] w fun e w' => e = .returned (.bool (refMeetSp ⟨lo, hi⟩ ⟨lo', hi'⟩)) ∧ Below w.heap.size w w' := by
  obtain ⟨a, ha⟩ : ∃ b, rightSp ⟨lo, hi⟩ = b := ⟨_, rfl⟩
  have HA := Lib.hid ha
  clear ha
  obtain ⟨b, hb⟩ : ∃ b, rightSp ⟨lo', hi'⟩ = b := ⟨_, rfl⟩
  have HB := Lib.hid hb
  clear hb
  go_enter Tryd.func23, Tryd.ntmps23
  have Gs0 : Blk (((w).alloc (.cells #[.string ⟨lo.toArray⟩, .string ⟨hi.toArray⟩] 23)).alloc (.cells #[.string ⟨lo'.toArray⟩, .string ⟨hi'.toArray⟩] 23)) (w.heap.size) 23 #[.string ⟨lo.toArray⟩, .string ⟨hi.toArray⟩] := Blk.alloc (Blk.new _ _ _) _
  have Gt0 : Blk (((w).alloc (.cells #[.string ⟨lo.toArray⟩, .string ⟨hi.toArray⟩] 23)).alloc (.cells #[.string ⟨lo'.toArray⟩, .string ⟨hi'.toArray⟩] 23)) (w.heap.size + 1) 23 #[.string ⟨lo'.toArray⟩, .string ⟨hi'.toArray⟩] := Blk.new' _ _ _ _ (by simp)
  go_wp2_with fail
  refine (refspright_any lo hi zlo zhi _).mono ?_
  rintro e w1 ⟨rfl, hb1⟩
  have hB1 : Below w.heap.size w w1 := bt (by (repeat (first | with_reducible exact b0 _ | with_reducible assumption | with_reducible refine Below.drew ?_ | with_reducible refine below_drewN ?_ _ | with_reducible refine bal ?_ _ | ((with_reducible refine bst ?_ ?_ _); rotate_left; focus (first | exact Nat.le_refl _ | assumption | (simp; done) | (simp; omega) | omega)) | exact below_left (by with_reducible assumption)))) hb1
  rw [HA.out]
  have Gs1 := Blk.keep Gs0 hb1
  have Gt1 := Blk.keep Gt0 hb1
  obtain ⟨sl, s0, s1, s2, s3⟩ := Gs1.c2
  obtain ⟨tl, t0, t1, t2, t3⟩ := Gt1.c2
  cases a
  case false =>
    go_wp2
    go_ret
    exact ⟨ret_bool (by simp [refMeetSp, HA.out]), by (repeat (first | with_reducible exact b0 _ | with_reducible assumption | with_reducible refine Below.drew ?_ | with_reducible refine below_drewN ?_ _ | with_reducible refine bal ?_ _ | ((with_reducible refine bst ?_ ?_ _); rotate_left; focus (first | exact Nat.le_refl _ | assumption | (simp; done) | (simp; omega) | omega)) | exact below_left (by with_reducible assumption)))⟩
  case true =>
    go_wp2_with fail
    refine (refspright_any lo' hi' zlo' zhi' _).mono ?_
    rintro e w2 ⟨rfl, hb2⟩
    have hB2 : Below w.heap.size w w2 := bt (by (repeat (first | with_reducible exact b0 _ | with_reducible assumption | with_reducible refine Below.drew ?_ | with_reducible refine below_drewN ?_ _ | with_reducible refine bal ?_ _ | ((with_reducible refine bst ?_ ?_ _); rotate_left; focus (first | exact Nat.le_refl _ | assumption | (simp; done) | (simp; omega) | omega)) | exact below_left (by with_reducible assumption)))) hb2
    rw [HB.out]
    have Gs2 := Blk.keep Gs1 hb2
    have Gt2 := Blk.keep Gt1 hb2
    clear sl s0 s1 s2 s3 tl t0 t1 t2 t3
    obtain ⟨sl, s0, s1, s2, s3⟩ := Gs2.c2
    obtain ⟨tl, t0, t1, t2, t3⟩ := Gt2.c2
    cases b
    case false =>
      go_wp2
      go_ret
      exact ⟨ret_bool (by simp [refMeetSp, HA.out, HB.out]), by (repeat (first | with_reducible exact b0 _ | with_reducible assumption | with_reducible refine Below.drew ?_ | with_reducible refine below_drewN ?_ _ | with_reducible refine bal ?_ _ | ((with_reducible refine bst ?_ ?_ _); rotate_left; focus (first | exact Nat.le_refl _ | assumption | (simp; done) | (simp; omega) | omega)) | exact below_left (by with_reducible assumption)))⟩
    case true =>
      have zl := lo40 HA
      have zh := hi40 HA
      have zl' := lo40 HB
      have zh' := hi40 HB
      simp only at zl zh zl' zh'
      go_wp2_with fail
      refine (refcompare_any lo' lo zl' zl _).mono ?_
      rintro e w3 ⟨rfl, hb3⟩
      have hB3 : Below w.heap.size w w3 := bt (by (repeat (first | with_reducible exact b0 _ | with_reducible assumption | with_reducible refine Below.drew ?_ | with_reducible refine below_drewN ?_ _ | with_reducible refine bal ?_ _ | ((with_reducible refine bst ?_ ?_ _); rotate_left; focus (first | exact Nat.le_refl _ | assumption | (simp; done) | (simp; omega) | omega)) | exact below_left (by with_reducible assumption)))) hb3
      have Gs3 := Blk.keep (Blk.alloc Gs2 _) hb3
      have Gt3 := Blk.keep (Blk.alloc Gt2 _) hb3
      have Gq3 : Blk w3 w2.heap.size 23 #[.string ⟨lo.toArray⟩, .string ⟨hi.toArray⟩] := Blk.keep (Blk.new w2 _ _) hb3
      have hz3 : w.heap.size + 1 < w2.heap.size := Gt2.lt
      have hz3' : w.heap.size ≤ w2.heap.size := by omega
      clear sl s0 s1 s2 s3 tl t0 t1 t2 t3
      by_cases h1 : 0 < cmpL lo' lo
      case pos =>
        have N1 := Lib.hid h1
        obtain ⟨tl, t0, t1, t2, t3⟩ := Gt3.c2
        obtain ⟨ql, q0, q1, q2, q3⟩ := Gq3.c2
        obtain ⟨W, hW⟩ : ∃ W : World, W = w3.setCell ⟨w2.heap.size, 0, none⟩ (.string ⟨lo'.toArray⟩) := ⟨_, rfl⟩
        have GtW : Blk W (w.heap.size + 1) 23 #[.string ⟨lo'.toArray⟩, .string ⟨hi'.toArray⟩] := by rw [hW]; exact Gt3.far (by simp; omega) _
        have GqW : Blk W w2.heap.size 23 #[.string ⟨lo'.toArray⟩, .string ⟨hi.toArray⟩] := by rw [hW]; exact Gq3.set 0 _
        have hBW : Below w.heap.size w W := by rw [hW]; (repeat (first | with_reducible exact b0 _ | with_reducible assumption | with_reducible refine Below.drew ?_ | with_reducible refine below_drewN ?_ _ | with_reducible refine bal ?_ _ | ((with_reducible refine bst ?_ ?_ _); rotate_left; focus (first | exact Nat.le_refl _ | assumption | (simp; done) | (simp; omega) | omega)) | exact below_left (by with_reducible assumption)))
        go_upto_region 6 with (fail)
        rw [← hW]
        clear hW tl t0 t1 t2 t3 ql q0 q1 q2 q3
        obtain ⟨tl, t0, t1, t2, t3⟩ := GtW.c2
        obtain ⟨ql, q0, q1, q2, q3⟩ := GqW.c2
        by_cases hh' : hi' = []
        case pos =>
          subst hh'
          go_wp2_with fail
          refine (refspright_any lo' hi zlo' zhi _).mono ?_
          rintro e w4 ⟨rfl, hb4⟩
          go_wp2
          go_ret
          exact ⟨ret_bool (by simp [refMeetSp, meetOf, HA.out, HB.out, N1.out]), bt (by (repeat (first | with_reducible exact b0 _ | with_reducible assumption | with_reducible refine Below.drew ?_ | with_reducible refine below_drewN ?_ _ | with_reducible refine bal ?_ _ | ((with_reducible refine bst ?_ ?_ _); rotate_left; focus (first | exact Nat.le_refl _ | assumption | (simp; done) | (simp; omega) | omega)) | exact below_left (by with_reducible assumption)))) hb4⟩
        case neg =>
          have ehi' := mk_ne hi' hh'
          have phi' := len_pos hh'
          have qhi' := len_beq hh'
          have nhi' := len_ne hh'
          have Nhi' := Lib.hid hh'
          clear hh'
          by_cases hhi : hi = []
          case pos =>
            subst hhi
            go_wp2_with fail
            refine (refspright_any lo' hi' zlo' zhi' _).mono ?_
            rintro e w4 ⟨rfl, hb4⟩
            go_wp2
            go_ret
            exact ⟨ret_bool (by simp [refMeetSp, meetOf, HA.out, HB.out, N1.out, Nhi'.out]), bt (by (repeat (first | with_reducible exact b0 _ | with_reducible assumption | with_reducible refine Below.drew ?_ | with_reducible refine below_drewN ?_ _ | with_reducible refine bal ?_ _ | ((with_reducible refine bst ?_ ?_ _); rotate_left; focus (first | exact Nat.le_refl _ | assumption | (simp; done) | (simp; omega) | omega)) | exact below_left (by with_reducible assumption)))) hb4⟩
          case neg =>
            have ehi := mk_ne hi hhi
            have phi := len_pos hhi
            have qhi := len_beq hhi
            have nhi := len_ne hhi
            have Nhi := Lib.hid hhi
            clear hhi
            go_wp2_with fail
            refine (refcompare_any hi' hi zh' zh _).mono ?_
            rintro e w4 ⟨rfl, hb4⟩
            have hB4 : Below w.heap.size w w4 := bt hBW hb4
            have Gt4 := Blk.keep GtW hb4
            have Gq4 := Blk.keep GqW hb4
            clear tl t0 t1 t2 t3 ql q0 q1 q2 q3
            obtain ⟨tl, t0, t1, t2, t3⟩ := Gt4.c2
            obtain ⟨ql, q0, q1, q2, q3⟩ := Gq4.c2
            by_cases h2 : cmpL hi' hi < 0
            case pos =>
              have N2 := Lib.hid h2
              go_wp2_with fail
              refine (refspright_any lo' hi' zlo' zhi' _).mono ?_
              rintro e w5 ⟨rfl, hb5⟩
              go_wp2
              go_ret
              exact ⟨ret_bool (by simp [refMeetSp, meetOf, HA.out, HB.out, N1.out, Nhi'.out, Nhi.out, N2.out]), bt (by (repeat (first | with_reducible exact b0 _ | with_reducible assumption | with_reducible refine Below.drew ?_ | with_reducible refine below_drewN ?_ _ | with_reducible refine bal ?_ _ | ((with_reducible refine bst ?_ ?_ _); rotate_left; focus (first | exact Nat.le_refl _ | assumption | (simp; done) | (simp; omega) | omega)) | exact below_left (by with_reducible assumption)))) hb5⟩
            case neg =>
              have N2 := Lib.hid h2
              go_wp2_with fail
              refine (refspright_any lo' hi zlo' zhi _).mono ?_
              rintro e w5 ⟨rfl, hb5⟩
              go_wp2
              go_ret
              exact ⟨ret_bool (by simp [refMeetSp, meetOf, HA.out, HB.out, N1.out, Nhi'.out, Nhi.out, Int.not_lt.2 N2.out]), bt (by (repeat (first | with_reducible exact b0 _ | with_reducible assumption | with_reducible refine Below.drew ?_ | with_reducible refine below_drewN ?_ _ | with_reducible refine bal ?_ _ | ((with_reducible refine bst ?_ ?_ _); rotate_left; focus (first | exact Nat.le_refl _ | assumption | (simp; done) | (simp; omega) | omega)) | exact below_left (by with_reducible assumption)))) hb5⟩
      case neg =>
        have N1 := Lib.hid h1
        obtain ⟨tl, t0, t1, t2, t3⟩ := Gt3.c2
        obtain ⟨ql, q0, q1, q2, q3⟩ := Gq3.c2
        obtain ⟨W, hW⟩ : ∃ W : World, W = w3 := ⟨_, rfl⟩
        have GtW : Blk W (w.heap.size + 1) 23 #[.string ⟨lo'.toArray⟩, .string ⟨hi'.toArray⟩] := by rw [hW]; exact Gt3
        have GqW : Blk W w2.heap.size 23 #[.string ⟨lo.toArray⟩, .string ⟨hi.toArray⟩] := by rw [hW]; exact Gq3
        have hBW : Below w.heap.size w W := by rw [hW]; (repeat (first | with_reducible exact b0 _ | with_reducible assumption | with_reducible refine Below.drew ?_ | with_reducible refine below_drewN ?_ _ | with_reducible refine bal ?_ _ | ((with_reducible refine bst ?_ ?_ _); rotate_left; focus (first | exact Nat.le_refl _ | assumption | (simp; done) | (simp; omega) | omega)) | exact below_left (by with_reducible assumption)))
        go_upto_region 6 with (fail)
        rw [← hW]
        clear hW tl t0 t1 t2 t3 ql q0 q1 q2 q3
        obtain ⟨tl, t0, t1, t2, t3⟩ := GtW.c2
        obtain ⟨ql, q0, q1, q2, q3⟩ := GqW.c2
        by_cases hh' : hi' = []
        case pos =>
          subst hh'
          go_wp2_with fail
          refine (refspright_any lo hi zlo zhi _).mono ?_
          rintro e w4 ⟨rfl, hb4⟩
          go_wp2
          go_ret
          exact ⟨ret_bool (by simp [refMeetSp, meetOf, HA.out, HB.out, Int.not_lt.2 N1.out]), bt (by (repeat (first | with_reducible exact b0 _ | with_reducible assumption | with_reducible refine Below.drew ?_ | with_reducible refine below_drewN ?_ _ | with_reducible refine bal ?_ _ | ((with_reducible refine bst ?_ ?_ _); rotate_left; focus (first | exact Nat.le_refl _ | assumption | (simp; done) | (simp; omega) | omega)) | exact below_left (by with_reducible assumption)))) hb4⟩
        case neg =>
          have ehi' := mk_ne hi' hh'
          have phi' := len_pos hh'
          have qhi' := len_beq hh'
          have nhi' := len_ne hh'
          have Nhi' := Lib.hid hh'
          clear hh'
          by_cases hhi : hi = []
          case pos =>
            subst hhi
            go_wp2_with fail
            refine (refspright_any lo hi' zlo zhi' _).mono ?_
            rintro e w4 ⟨rfl, hb4⟩
            go_wp2
            go_ret
            exact ⟨ret_bool (by simp [refMeetSp, meetOf, HA.out, HB.out, Int.not_lt.2 N1.out, Nhi'.out]), bt (by (repeat (first | with_reducible exact b0 _ | with_reducible assumption | with_reducible refine Below.drew ?_ | with_reducible refine below_drewN ?_ _ | with_reducible refine bal ?_ _ | ((with_reducible refine bst ?_ ?_ _); rotate_left; focus (first | exact Nat.le_refl _ | assumption | (simp; done) | (simp; omega) | omega)) | exact below_left (by with_reducible assumption)))) hb4⟩
          case neg =>
            have ehi := mk_ne hi hhi
            have phi := len_pos hhi
            have qhi := len_beq hhi
            have nhi := len_ne hhi
            have Nhi := Lib.hid hhi
            clear hhi
            go_wp2_with fail
            refine (refcompare_any hi' hi zh' zh _).mono ?_
            rintro e w4 ⟨rfl, hb4⟩
            have hB4 : Below w.heap.size w w4 := bt hBW hb4
            have Gt4 := Blk.keep GtW hb4
            have Gq4 := Blk.keep GqW hb4
            clear tl t0 t1 t2 t3 ql q0 q1 q2 q3
            obtain ⟨tl, t0, t1, t2, t3⟩ := Gt4.c2
            obtain ⟨ql, q0, q1, q2, q3⟩ := Gq4.c2
            by_cases h2 : cmpL hi' hi < 0
            case pos =>
              have N2 := Lib.hid h2
              go_wp2_with fail
              refine (refspright_any lo hi' zlo zhi' _).mono ?_
              rintro e w5 ⟨rfl, hb5⟩
              go_wp2
              go_ret
              exact ⟨ret_bool (by simp [refMeetSp, meetOf, HA.out, HB.out, Int.not_lt.2 N1.out, Nhi'.out, Nhi.out, N2.out]), bt (by (repeat (first | with_reducible exact b0 _ | with_reducible assumption | with_reducible refine Below.drew ?_ | with_reducible refine below_drewN ?_ _ | with_reducible refine bal ?_ _ | ((with_reducible refine bst ?_ ?_ _); rotate_left; focus (first | exact Nat.le_refl _ | assumption | (simp; done) | (simp; omega) | omega)) | exact below_left (by with_reducible assumption)))) hb5⟩
            case neg =>
              have N2 := Lib.hid h2
              go_wp2_with fail
              refine (refspright_any lo hi zlo zhi _).mono ?_
              rintro e w5 ⟨rfl, hb5⟩
              go_wp2
              go_ret
              exact ⟨ret_bool (by simp [refMeetSp, meetOf, HA.out, HB.out, Int.not_lt.2 N1.out, Nhi'.out, Nhi.out, Int.not_lt.2 N2.out]), bt (by (repeat (first | with_reducible exact b0 _ | with_reducible assumption | with_reducible refine Below.drew ?_ | with_reducible refine below_drewN ?_ _ | with_reducible refine bal ?_ _ | ((with_reducible refine bst ?_ ?_ _); rotate_left; focus (first | exact Nat.le_refl _ | assumption | (simp; done) | (simp; omega) | omega)) | exact below_left (by with_reducible assumption)))) hb5⟩
set_option maxHeartbeats 1600000 in
set_option maxRecDepth 100000 in
theorem refspcut_any (lo hi : List UInt8) (zlo : lo.length ≤ 9223372036854775807) (zhi : hi.length ≤ 9223372036854775807) (x : List UInt8) (zx : x.length ≤ 9223372036854775807) (w : World) :
    Calls Tryd.prog 16 #[spV ⟨lo, hi⟩, .string ⟨x.toArray⟩] w fun e w' => e = .returned (.tuple #[spV (refCutSp ⟨lo, hi⟩ x).1, spV (refCutSp ⟨lo, hi⟩ x).2.1, .int .i64 (refCutSp ⟨lo, hi⟩ x).2.2]) ∧ Below w.heap.size w w' := by
  obtain ⟨a, ha⟩ : ∃ b, rightSp ⟨lo, hi⟩ = b := ⟨_, rfl⟩
  have HA := Lib.hid ha
  clear ha
  obtain ⟨b, hb⟩ : ∃ b, rightL x = b := ⟨_, rfl⟩
  have HB := Lib.hid hb
  clear hb
  obtain ⟨c, hc⟩ : ∃ b, rightSp ⟨lo, x⟩ = b := ⟨_, rfl⟩
  have HC := Lib.hid hc
  clear hc
  obtain ⟨d, hd⟩ : ∃ b, rightSp ⟨x, hi⟩ = b := ⟨_, rfl⟩
  have HD := Lib.hid hd
  clear hd
  go_enter Tryd.func16, Tryd.ntmps16
  have Gs0 : Blk ((((w).alloc (.cells #[.string ⟨lo.toArray⟩, .string ⟨hi.toArray⟩] 23)).alloc (.cells #[.string ⟨#[]⟩, .string ⟨#[]⟩] 23)).alloc (.cells #[.string ⟨#[]⟩, .string ⟨#[]⟩] 23)) (w.heap.size) 23 #[.string ⟨lo.toArray⟩, .string ⟨hi.toArray⟩] := Blk.alloc (Blk.alloc (Blk.new _ _ _) _) _
  have Gu0 : Blk ((((w).alloc (.cells #[.string ⟨lo.toArray⟩, .string ⟨hi.toArray⟩] 23)).alloc (.cells #[.string ⟨#[]⟩, .string ⟨#[]⟩] 23)).alloc (.cells #[.string ⟨#[]⟩, .string ⟨#[]⟩] 23)) (w.heap.size + 1) 23 #[.string ⟨#[]⟩, .string ⟨#[]⟩] := Blk.alloc (Blk.new' _ _ _ _ (by simp)) _
  have Gv0 : Blk ((((w).alloc (.cells #[.string ⟨lo.toArray⟩, .string ⟨hi.toArray⟩] 23)).alloc (.cells #[.string ⟨#[]⟩, .string ⟨#[]⟩] 23)).alloc (.cells #[.string ⟨#[]⟩, .string ⟨#[]⟩] 23)) (w.heap.size + 1 + 1) 23 #[.string ⟨#[]⟩, .string ⟨#[]⟩] := Blk.new' _ _ _ _ (by simp)
  go_wp2_with fail
  refine (refspright_any lo hi zlo zhi _).mono ?_
  rintro e w1 ⟨rfl, hb1⟩
  have hB1 : Below w.heap.size w w1 := bt (by (repeat (first | with_reducible exact b0 _ | with_reducible assumption | with_reducible refine Below.drew ?_ | with_reducible refine below_drewN ?_ _ | with_reducible refine bal ?_ _ | ((with_reducible refine bst ?_ ?_ _); rotate_left; focus (first | exact Nat.le_refl _ | assumption | (simp; done) | (simp; omega) | omega)) | exact below_left (by with_reducible assumption)))) hb1
  rw [HA.out]
  have Gs1 := Blk.keep Gs0 hb1
  have Gu1 := Blk.keep Gu0 hb1
  have Gv1 := Blk.keep Gv0 hb1
  obtain ⟨sl, s0, s1, s2, s3⟩ := Gs1.c2
  obtain ⟨ul, u0, u1, u2, u3⟩ := Gu1.c2
  obtain ⟨vl, v0, v1, v2, v3⟩ := Gv1.c2
  cases a
  case false =>
    go_wp2
    refine bodyPost_ret (v := .tuple #[spV ⟨[], []⟩, spV ⟨[], []⟩, .int .i64 1]) (by simp [results, Tryd.results16, go_sem, *]) rfl ⟨by rw [show refCutSp ⟨lo, hi⟩ x = (zSp, zSp, 1) from by simp [refCutSp, HA.out]] <;> rfl, ?_⟩
    (repeat (first | with_reducible exact b0 _ | with_reducible assumption | with_reducible refine Below.drew ?_ | with_reducible refine below_drewN ?_ _ | with_reducible refine bal ?_ _ | ((with_reducible refine bst ?_ ?_ _); rotate_left; focus (first | exact Nat.le_refl _ | assumption | (simp; done) | (simp; omega) | omega)) | exact below_left (by with_reducible assumption)))
  case true =>
    go_wp2_with fail
    refine (refkright_below x (by omega) _).mono ?_
    rintro e w2 ⟨rfl, hb2⟩
    have hB2 : Below w.heap.size w w2 := bt (by (repeat (first | with_reducible exact b0 _ | with_reducible assumption | with_reducible refine Below.drew ?_ | with_reducible refine below_drewN ?_ _ | with_reducible refine bal ?_ _ | ((with_reducible refine bst ?_ ?_ _); rotate_left; focus (first | exact Nat.le_refl _ | assumption | (simp; done) | (simp; omega) | omega)) | exact below_left (by with_reducible assumption)))) hb2
    rw [HB.out]
    have Gs2 := Blk.keep Gs1 hb2
    have Gu2 := Blk.keep Gu1 hb2
    have Gv2 := Blk.keep Gv1 hb2
    clear sl s0 s1 s2 s3 ul u0 u1 u2 u3 vl v0 v1 v2 v3
    obtain ⟨sl, s0, s1, s2, s3⟩ := Gs2.c2
    obtain ⟨ul, u0, u1, u2, u3⟩ := Gu2.c2
    obtain ⟨vl, v0, v1, v2, v3⟩ := Gv2.c2
    cases b
    case false =>
      go_wp2
      refine bodyPost_ret (v := .tuple #[spV ⟨[], []⟩, spV ⟨[], []⟩, .int .i64 1]) (by simp [results, Tryd.results16, go_sem, *]) rfl ⟨by rw [show refCutSp ⟨lo, hi⟩ x = (zSp, zSp, 1) from by simp [refCutSp, HA.out, HB.out]] <;> rfl, ?_⟩
      (repeat (first | with_reducible exact b0 _ | with_reducible assumption | with_reducible refine Below.drew ?_ | with_reducible refine below_drewN ?_ _ | with_reducible refine bal ?_ _ | ((with_reducible refine bst ?_ ?_ _); rotate_left; focus (first | exact Nat.le_refl _ | assumption | (simp; done) | (simp; omega) | omega)) | exact below_left (by with_reducible assumption)))
    case true =>
      go_upto_region 3 with (fail)
      go_cut [7, 8] (fun s7 s8 wx => CutCut w2 23 #[.string ⟨lo.toArray⟩, .string ⟨x.toArray⟩] #[.string ⟨x.toArray⟩, .string ⟨hi.toArray⟩] s7 s8 wx)
      case first =>
        go_region
        all_goals
          go_wp2_with fail
          go_meet
          case rel =>
            exact ⟨_, _, rfl, rfl, by (first | exact Nat.le_refl _ | assumption | omega | (simp; done) | (simp; omega)), by (first | exact Nat.le_refl _ | assumption | omega | (simp; done) | (simp; omega)), by (repeat (first | with_reducible assumption | with_reducible exact Blk.new _ _ _ | with_reducible refine Blk.drew ?_ | with_reducible refine Blk.drewN ?_ _ | ((with_reducible refine Blk.new' _ _ _ _ ?_); focus (first | (simp; done) | (simp; omega))) | with_reducible refine Blk.alloc ?_ _ | ((with_reducible refine Blk.far ?_ ?_ _); rotate_left; focus (first | (simp; done) | (simp; omega))))), by (repeat (first | with_reducible assumption | with_reducible exact Blk.new _ _ _ | with_reducible refine Blk.drew ?_ | with_reducible refine Blk.drewN ?_ _ | ((with_reducible refine Blk.new' _ _ _ _ ?_); focus (first | (simp; done) | (simp; omega))) | with_reducible refine Blk.alloc ?_ _ | ((with_reducible refine Blk.far ?_ ?_ _); rotate_left; focus (first | (simp; done) | (simp; omega))))), by (repeat (first | with_reducible exact b0 _ | with_reducible assumption | with_reducible refine Below.drew ?_ | with_reducible refine below_drewN ?_ _ | with_reducible refine bal ?_ _ | ((with_reducible refine bst ?_ ?_ _); rotate_left; focus (first | exact Nat.le_refl _ | assumption | (simp; done) | (simp; omega) | omega)) | exact below_left (by with_reducible assumption)))⟩
      case rest =>
        obtain ⟨ga, gb, rfl, rfl, hga, hgb, Ga3, Gb3, hBc⟩ := hcut
        have hB3 : Below w.heap.size w wc := bt hB2 hBc
        clear sl s0 s1 s2 s3 ul u0 u1 u2 u3 vl v0 v1 v2 v3
        have Gs3 := Blk.keep Gs2 hBc
        have Gu3 := Blk.keep Gu2 hBc
        have Gv3 := Blk.keep Gv2 hBc
        obtain ⟨al, a0, a1, a2, a3⟩ := Ga3.c2
        go_wp2_with fail
        refine (refspright_any lo x zlo zx _).mono ?_
        rintro e w4 ⟨rfl, hb4⟩
        rw [HC.out]
        have hB4 : Below w.heap.size w w4 := bt hB3 hb4
        clear al a0 a1 a2 a3
        have Gs4 := Blk.keep Gs3 hb4
        have Gu4 := Blk.keep Gu3 hb4
        have Gv4 := Blk.keep Gv3 hb4
        have Ga4 := Blk.keep Ga3 hb4
        have Gb4 := Blk.keep Gb3 hb4
        cases c
        case false =>
          obtain ⟨ul, u0, u1, u2, u3⟩ := Gu4.c2
          obtain ⟨vl, v0, v1, v2, v3⟩ := Gv4.c2
          go_wp2
          refine bodyPost_ret (v := .tuple #[spV ⟨[], []⟩, spV ⟨[], []⟩, .int .i64 9]) (by simp [results, Tryd.results16, go_sem, *]) rfl ⟨by rw [show refCutSp ⟨lo, hi⟩ x = (zSp, zSp, 9) from by simp [refCutSp, HA.out, HB.out, HC.out]] <;> rfl, ?_⟩
          (repeat (first | with_reducible exact b0 _ | with_reducible assumption | with_reducible refine Below.drew ?_ | with_reducible refine below_drewN ?_ _ | with_reducible refine bal ?_ _ | ((with_reducible refine bst ?_ ?_ _); rotate_left; focus (first | exact Nat.le_refl _ | assumption | (simp; done) | (simp; omega) | omega)) | exact below_left (by with_reducible assumption)))
        case true =>
          obtain ⟨bl, b0, b1, b2, b3⟩ := Gb4.c2
          go_wp2_with fail
          refine (refspright_any x hi zx zhi _).mono ?_
          rintro e w5 ⟨rfl, hb5⟩
          rw [HD.out]
          have hB5 : Below w.heap.size w w5 := bt hB4 hb5
          clear bl b0 b1 b2 b3
          have Gs5 := Blk.keep Gs4 hb5
          have Gu5 := Blk.keep Gu4 hb5
          have Gv5 := Blk.keep Gv4 hb5
          have Ga5 := Blk.keep Ga4 hb5
          have Gb5 := Blk.keep Gb4 hb5
          cases d
          case false =>
            obtain ⟨ul, u0, u1, u2, u3⟩ := Gu5.c2
            obtain ⟨vl, v0, v1, v2, v3⟩ := Gv5.c2
            go_wp2
            refine bodyPost_ret (v := .tuple #[spV ⟨[], []⟩, spV ⟨[], []⟩, .int .i64 9]) (by simp [results, Tryd.results16, go_sem, *]) rfl ⟨by rw [show refCutSp ⟨lo, hi⟩ x = (zSp, zSp, 9) from by simp [refCutSp, HA.out, HB.out, HC.out, HD.out]] <;> rfl, ?_⟩
            (repeat (first | with_reducible exact b0 _ | with_reducible assumption | with_reducible refine Below.drew ?_ | with_reducible refine below_drewN ?_ _ | with_reducible refine bal ?_ _ | ((with_reducible refine bst ?_ ?_ _); rotate_left; focus (first | exact Nat.le_refl _ | assumption | (simp; done) | (simp; omega) | omega)) | exact below_left (by with_reducible assumption)))
          case true =>
            obtain ⟨ul, u0, u1, u2, u3⟩ := Gu5.c2
            obtain ⟨vl, v0, v1, v2, v3⟩ := Gv5.c2
            obtain ⟨al, a0, a1, a2, a3⟩ := Ga5.c2
            obtain ⟨bl, b0, b1, b2, b3⟩ := Gb5.c2
            have hv2 := Gv2.lt
            have d0 : ¬ ga = w.heap.size + 1 := by omega
            have e0 : ¬ w.heap.size + 1 = ga := by omega
            have d1 : ¬ ga = w.heap.size + 1 + 1 := by omega
            have e1 : ¬ w.heap.size + 1 + 1 = ga := by omega
            have d2 : ¬ gb = w.heap.size + 1 := by omega
            have e2 : ¬ w.heap.size + 1 = gb := by omega
            have d3 : ¬ gb = w.heap.size + 1 + 1 := by omega
            have e3 : ¬ w.heap.size + 1 + 1 = gb := by omega
            go_wp2
            go_region
            all_goals
              go_wp2
              refine bodyPost_ret (v := .tuple #[spV ⟨lo, x⟩, spV ⟨x, hi⟩, .int .i64 0]) (by simp [results, Tryd.results16, go_sem, *]) rfl ⟨by rw [show refCutSp ⟨lo, hi⟩ x = (⟨lo, x⟩, ⟨x, hi⟩, 0) from by simp [refCutSp, HA.out, HB.out, HC.out, HD.out]] <;> rfl, ?_⟩
              (repeat (first | with_reducible exact b0 _ | with_reducible assumption | with_reducible refine Below.drew ?_ | with_reducible refine below_drewN ?_ _ | with_reducible refine bal ?_ _ | ((with_reducible refine bst ?_ ?_ _); rotate_left; focus (first | exact Nat.le_refl _ | assumption | (simp; done) | (simp; omega) | omega)) | exact below_left (by with_reducible assumption)))
end Go.Proofs.YtjckniebocjefaaDoor
