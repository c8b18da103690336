/- The walks of spans: Cut, Join, Meet, and the document's. -/
import Derived.Test.YtjckniebocjefaaDoorSpanW2
import Derived.Deep.DrawnRows
namespace Go.Proofs.YtjckniebocjefaaDoor
open Go.RowKit
attribute [local go_sem] ByteArray.mk_append_mk ByteArray.extract_mk
theorem str_ne {a b : List UInt8} (h : ¬ a = b) : (a == b) = false := beq_eq_false_iff_ne.2 h
set_option maxHeartbeats 1600000 in
set_option maxRecDepth 100000 in
theorem spcut_any (lo hi : List UInt8) (zlo : lo.length ≤ 9223372036854775807) (zhi : hi.length ≤ 9223372036854775807) (x : List UInt8) (zx : x.length ≤ 9223372036854775807) (w : World) (hT : Go.Lib.Utf8Tabs 0 1 w) :
    Calls Tryd.prog 15 #[spV ⟨lo, hi⟩, .string ⟨x.toArray⟩] w fun e w' => e = .returned (.tuple #[spV (cutSp ⟨lo, hi⟩ x).1, spV (cutSp ⟨lo, hi⟩ x).2.1, .int .i64 (cutSp ⟨lo, hi⟩ x).2.2]) ∧ Below w.heap.size w w' := by
  obtain ⟨a, ha⟩ : ∃ b, rightSp ⟨lo, hi⟩ = b := ⟨_, rfl⟩
  have HA := Lib.hid ha
  clear ha
  obtain ⟨b, hb⟩ : ∃ b, rightL x = b := ⟨_, rfl⟩
  have HB := Lib.hid hb
  clear hb
  go_enter Tryd.func15, Tryd.ntmps15
  have Gs0 : Blk ((((w).alloc (.cells #[.string ⟨lo.toArray⟩, .string ⟨hi.toArray⟩] 23)).alloc (.cells #[.string ⟨#[]⟩, .string ⟨#[]⟩] 23)).alloc (.cells #[.string ⟨#[]⟩, .string ⟨#[]⟩] 23)) (w.heap.size) 23 #[.string ⟨lo.toArray⟩, .string ⟨hi.toArray⟩] := Blk.alloc (Blk.alloc (Blk.new _ _ _) _) _
  have Gu0 : Blk ((((w).alloc (.cells #[.string ⟨lo.toArray⟩, .string ⟨hi.toArray⟩] 23)).alloc (.cells #[.string ⟨#[]⟩, .string ⟨#[]⟩] 23)).alloc (.cells #[.string ⟨#[]⟩, .string ⟨#[]⟩] 23)) (w.heap.size + 1) 23 #[.string ⟨#[]⟩, .string ⟨#[]⟩] := Blk.alloc (Blk.new' _ _ _ _ (by simp)) _
  have Gv0 : Blk ((((w).alloc (.cells #[.string ⟨lo.toArray⟩, .string ⟨hi.toArray⟩] 23)).alloc (.cells #[.string ⟨#[]⟩, .string ⟨#[]⟩] 23)).alloc (.cells #[.string ⟨#[]⟩, .string ⟨#[]⟩] 23)) (w.heap.size + 1 + 1) 23 #[.string ⟨#[]⟩, .string ⟨#[]⟩] := Blk.new' _ _ _ _ (by simp)
  go_wp2_with fail
  refine (spright_any lo hi zlo zhi _ (Utf8Tabs_below hT (by (repeat (first | with_reducible exact b0 _ | with_reducible assumption | with_reducible refine Below.drew ?_ | with_reducible refine below_drewN ?_ _ | with_reducible refine bal ?_ _ | ((with_reducible refine bst ?_ ?_ _); rotate_left; focus (first | exact Nat.le_refl _ | assumption | (simp; done) | (simp; omega) | omega)) | exact below_left (by with_reducible assumption)))))).mono ?_
  rintro e w1 ⟨rfl, hb1⟩
  have hB1 : Below w.heap.size w w1 := bt (by (repeat (first | with_reducible exact b0 _ | with_reducible assumption | with_reducible refine Below.drew ?_ | with_reducible refine below_drewN ?_ _ | with_reducible refine bal ?_ _ | ((with_reducible refine bst ?_ ?_ _); rotate_left; focus (first | exact Nat.le_refl _ | assumption | (simp; done) | (simp; omega) | omega)) | exact below_left (by with_reducible assumption)))) hb1
  rw [HA.out]
  have Gs1 := Blk.keep Gs0 hb1
  have Gu1 := Blk.keep Gu0 hb1
  have Gv1 := Blk.keep Gv0 hb1
  obtain ⟨sl, s0, s1, s2, s3⟩ := Gs1.c2
  obtain ⟨ul, u0, u1, u2, u3⟩ := Gu1.c2
  obtain ⟨vl, v0, v1, v2, v3⟩ := Gv1.c2
  cases a
  case false =>
    go_wp2
    refine bodyPost_ret (v := .tuple #[spV ⟨[], []⟩, spV ⟨[], []⟩, .int .i64 1]) (by simp [results, Tryd.results15, go_sem, *]) rfl ⟨by rw [show cutSp ⟨lo, hi⟩ x = (zSp, zSp, 1) from by simp [cutSp, HA.out]] <;> rfl, ?_⟩
    (repeat (first | with_reducible exact b0 _ | with_reducible assumption | with_reducible refine Below.drew ?_ | with_reducible refine below_drewN ?_ _ | with_reducible refine bal ?_ _ | ((with_reducible refine bst ?_ ?_ _); rotate_left; focus (first | exact Nat.le_refl _ | assumption | (simp; done) | (simp; omega) | omega)) | exact below_left (by with_reducible assumption)))
  case true =>
    go_wp2_with fail
    refine (keyright_any x zx _ (Utf8Tabs_below hT (by (repeat (first | with_reducible exact b0 _ | with_reducible assumption | with_reducible refine Below.drew ?_ | with_reducible refine below_drewN ?_ _ | with_reducible refine bal ?_ _ | ((with_reducible refine bst ?_ ?_ _); rotate_left; focus (first | exact Nat.le_refl _ | assumption | (simp; done) | (simp; omega) | omega)) | exact below_left (by with_reducible assumption)))))).mono ?_
    rintro e w2 ⟨rfl, hb2⟩
    have hB2 : Below w.heap.size w w2 := bt (by (repeat (first | with_reducible exact b0 _ | with_reducible assumption | with_reducible refine Below.drew ?_ | with_reducible refine below_drewN ?_ _ | with_reducible refine bal ?_ _ | ((with_reducible refine bst ?_ ?_ _); rotate_left; focus (first | exact Nat.le_refl _ | assumption | (simp; done) | (simp; omega) | omega)) | exact below_left (by with_reducible assumption)))) hb2
    rw [HB.out]
    have Gs2 := Blk.keep Gs1 hb2
    have Gu2 := Blk.keep Gu1 hb2
    have Gv2 := Blk.keep Gv1 hb2
    clear sl s0 s1 s2 s3 ul u0 u1 u2 u3 vl v0 v1 v2 v3
    obtain ⟨sl, s0, s1, s2, s3⟩ := Gs2.c2
    obtain ⟨ul, u0, u1, u2, u3⟩ := Gu2.c2
    obtain ⟨vl, v0, v1, v2, v3⟩ := Gv2.c2
    cases b
    case false =>
      go_wp2
      refine bodyPost_ret (v := .tuple #[spV ⟨[], []⟩, spV ⟨[], []⟩, .int .i64 1]) (by simp [results, Tryd.results15, go_sem, *]) rfl ⟨by rw [show cutSp ⟨lo, hi⟩ x = (zSp, zSp, 1) from by simp [cutSp, HA.out, HB.out]] <;> rfl, ?_⟩
      (repeat (first | with_reducible exact b0 _ | with_reducible assumption | with_reducible refine Below.drew ?_ | with_reducible refine below_drewN ?_ _ | with_reducible refine bal ?_ _ | ((with_reducible refine bst ?_ ?_ _); rotate_left; focus (first | exact Nat.le_refl _ | assumption | (simp; done) | (simp; omega) | omega)) | exact below_left (by with_reducible assumption)))
    case true =>
      by_cases hx : lo = x
      case pos =>
        subst hx
        go_wp2
        refine bodyPost_ret (v := .tuple #[spV ⟨[], []⟩, spV ⟨[], []⟩, .int .i64 9]) (by simp [results, Tryd.results15, go_sem, *]) rfl ⟨by rw [show cutSp ⟨lo, hi⟩ lo = (zSp, zSp, 9) from by simp [cutSp, HA.out, HB.out]] <;> rfl, ?_⟩
        (repeat (first | with_reducible exact b0 _ | with_reducible assumption | with_reducible refine Below.drew ?_ | with_reducible refine below_drewN ?_ _ | with_reducible refine bal ?_ _ | ((with_reducible refine bst ?_ ?_ _); rotate_left; focus (first | exact Nat.le_refl _ | assumption | (simp; done) | (simp; omega) | omega)) | exact below_left (by with_reducible assumption)))
      case neg =>
        have hx : ¬ x = lo := fun e => hx e.symm
        have ex := str_ne hx
        have NX := Lib.hid hx
        obtain ⟨c, hc⟩ : ∃ b, hasSp ⟨lo, hi⟩ x = b := ⟨_, rfl⟩
        have HC := Lib.hid hc
        clear hc
        go_wp2_with fail
        refine (sphas_any lo hi zlo zhi x zx _ (Utf8Tabs_below hT (by (repeat (first | with_reducible exact b0 _ | with_reducible assumption | with_reducible refine Below.drew ?_ | with_reducible refine below_drewN ?_ _ | with_reducible refine bal ?_ _ | ((with_reducible refine bst ?_ ?_ _); rotate_left; focus (first | exact Nat.le_refl _ | assumption | (simp; done) | (simp; omega) | omega)) | exact below_left (by with_reducible assumption)))))).mono ?_
        rintro e w3 ⟨rfl, hb3⟩
        have hB3 : Below w.heap.size w w3 := bt (by (repeat (first | with_reducible exact b0 _ | with_reducible assumption | with_reducible refine Below.drew ?_ | with_reducible refine below_drewN ?_ _ | with_reducible refine bal ?_ _ | ((with_reducible refine bst ?_ ?_ _); rotate_left; focus (first | exact Nat.le_refl _ | assumption | (simp; done) | (simp; omega) | omega)) | exact below_left (by with_reducible assumption)))) hb3
        rw [HC.out]
        have Gs3 := Blk.keep Gs2 hb3
        have Gu3 := Blk.keep Gu2 hb3
        have Gv3 := Blk.keep Gv2 hb3
        clear sl s0 s1 s2 s3 ul u0 u1 u2 u3 vl v0 v1 v2 v3
        obtain ⟨sl, s0, s1, s2, s3⟩ := Gs3.c2
        obtain ⟨ul, u0, u1, u2, u3⟩ := Gu3.c2
        obtain ⟨vl, v0, v1, v2, v3⟩ := Gv3.c2
        cases c
        case false =>
          go_wp2
          refine bodyPost_ret (v := .tuple #[spV ⟨[], []⟩, spV ⟨[], []⟩, .int .i64 9]) (by simp [results, Tryd.results15, go_sem, *]) rfl ⟨by rw [show cutSp ⟨lo, hi⟩ x = (zSp, zSp, 9) from by simp [cutSp, HA.out, HB.out, HC.out, NX.out]] <;> rfl, ?_⟩
          (repeat (first | with_reducible exact b0 _ | with_reducible assumption | with_reducible refine Below.drew ?_ | with_reducible refine below_drewN ?_ _ | with_reducible refine bal ?_ _ | ((with_reducible refine bst ?_ ?_ _); rotate_left; focus (first | exact Nat.le_refl _ | assumption | (simp; done) | (simp; omega) | omega)) | exact below_left (by with_reducible assumption)))
        case true =>
          go_wp2
          go_region
          all_goals
            go_wp2
            refine bodyPost_ret (v := .tuple #[spV ⟨lo, x⟩, spV ⟨x, hi⟩, .int .i64 0]) (by simp [results, Tryd.results15, go_sem, *]) rfl ⟨by rw [show cutSp ⟨lo, hi⟩ x = (⟨lo, x⟩, ⟨x, hi⟩, 0) from by simp [cutSp, HA.out, HB.out, HC.out, NX.out]] <;> rfl, ?_⟩
            (repeat (first | with_reducible exact b0 _ | with_reducible assumption | with_reducible refine Below.drew ?_ | with_reducible refine below_drewN ?_ _ | with_reducible refine bal ?_ _ | ((with_reducible refine bst ?_ ?_ _); rotate_left; focus (first | exact Nat.le_refl _ | assumption | (simp; done) | (simp; omega) | omega)) | exact below_left (by with_reducible assumption)))
set_option maxHeartbeats 1600000 in
set_option maxRecDepth 100000 in
theorem spjoin_any (lo hi : List UInt8) (zlo : lo.length ≤ 9223372036854775807) (zhi : hi.length ≤ 9223372036854775807) (lo' hi' : List UInt8) (zlo' : lo'.length ≤ 9223372036854775807) (zhi' : hi'.length ≤ 9223372036854775807) (w : World) (hT : Go.Lib.Utf8Tabs 0 1 w) :
    Calls Tryd.prog 21 #[spV ⟨lo, hi⟩, spV ⟨lo', hi'⟩] w fun e w' => e = .returned (.tuple #[spV (joinSp ⟨lo, hi⟩ ⟨lo', hi'⟩).1, .int .i64 (joinSp ⟨lo, hi⟩ ⟨lo', hi'⟩).2]) ∧ Below w.heap.size w w' := by
  obtain ⟨a, ha⟩ : ∃ b, rightSp ⟨lo, hi⟩ = b := ⟨_, rfl⟩
  have HA := Lib.hid ha
  clear ha
  obtain ⟨b, hb⟩ : ∃ b, rightSp ⟨lo', hi'⟩ = b := ⟨_, rfl⟩
  have HB := Lib.hid hb
  clear hb
  go_enter Tryd.func21, Tryd.ntmps21
  have Gs0 : Blk ((((w).alloc (.cells #[.string ⟨lo.toArray⟩, .string ⟨hi.toArray⟩] 23)).alloc (.cells #[.string ⟨lo'.toArray⟩, .string ⟨hi'.toArray⟩] 23)).alloc (.cells #[.string ⟨#[]⟩, .string ⟨#[]⟩] 23)) (w.heap.size) 23 #[.string ⟨lo.toArray⟩, .string ⟨hi.toArray⟩] := Blk.alloc (Blk.alloc (Blk.new _ _ _) _) _
  have Gt0 : Blk ((((w).alloc (.cells #[.string ⟨lo.toArray⟩, .string ⟨hi.toArray⟩] 23)).alloc (.cells #[.string ⟨lo'.toArray⟩, .string ⟨hi'.toArray⟩] 23)).alloc (.cells #[.string ⟨#[]⟩, .string ⟨#[]⟩] 23)) (w.heap.size + 1) 23 #[.string ⟨lo'.toArray⟩, .string ⟨hi'.toArray⟩] := Blk.alloc (Blk.new' _ _ _ _ (by simp)) _
  have Gu0 : Blk ((((w).alloc (.cells #[.string ⟨lo.toArray⟩, .string ⟨hi.toArray⟩] 23)).alloc (.cells #[.string ⟨lo'.toArray⟩, .string ⟨hi'.toArray⟩] 23)).alloc (.cells #[.string ⟨#[]⟩, .string ⟨#[]⟩] 23)) (w.heap.size + 1 + 1) 23 #[.string ⟨#[]⟩, .string ⟨#[]⟩] := Blk.new' _ _ _ _ (by simp)
  go_wp2_with fail
  refine (spright_any lo hi zlo zhi _ (Utf8Tabs_below hT (by (repeat (first | with_reducible exact b0 _ | with_reducible assumption | with_reducible refine Below.drew ?_ | with_reducible refine below_drewN ?_ _ | with_reducible refine bal ?_ _ | ((with_reducible refine bst ?_ ?_ _); rotate_left; focus (first | exact Nat.le_refl _ | assumption | (simp; done) | (simp; omega) | omega)) | exact below_left (by with_reducible assumption)))))).mono ?_
  rintro e w1 ⟨rfl, hb1⟩
  have hB1 : Below w.heap.size w w1 := bt (by (repeat (first | with_reducible exact b0 _ | with_reducible assumption | with_reducible refine Below.drew ?_ | with_reducible refine below_drewN ?_ _ | with_reducible refine bal ?_ _ | ((with_reducible refine bst ?_ ?_ _); rotate_left; focus (first | exact Nat.le_refl _ | assumption | (simp; done) | (simp; omega) | omega)) | exact below_left (by with_reducible assumption)))) hb1
  rw [HA.out]
  have Gs1 := Blk.keep Gs0 hb1
  have Gt1 := Blk.keep Gt0 hb1
  have Gu1 := Blk.keep Gu0 hb1
  obtain ⟨sl, s0, s1, s2, s3⟩ := Gs1.c2
  obtain ⟨tl, t0, t1, t2, t3⟩ := Gt1.c2
  obtain ⟨ul, u0, u1, u2, u3⟩ := Gu1.c2
  cases a
  case false =>
    go_wp2
    refine bodyPost_ret (v := .tuple #[spV ⟨[], []⟩, .int .i64 1]) (by simp [results, Tryd.results21, go_sem, *]) rfl ⟨by rw [show joinSp ⟨lo, hi⟩ ⟨lo', hi'⟩ = (zSp, 1) from by simp [joinSp, HA.out]] <;> rfl, ?_⟩
    (repeat (first | with_reducible exact b0 _ | with_reducible assumption | with_reducible refine Below.drew ?_ | with_reducible refine below_drewN ?_ _ | with_reducible refine bal ?_ _ | ((with_reducible refine bst ?_ ?_ _); rotate_left; focus (first | exact Nat.le_refl _ | assumption | (simp; done) | (simp; omega) | omega)) | exact below_left (by with_reducible assumption)))
  case true =>
    go_wp2_with fail
    refine (spright_any lo' hi' zlo' zhi' _ (Utf8Tabs_below hT (by (repeat (first | with_reducible exact b0 _ | with_reducible assumption | with_reducible refine Below.drew ?_ | with_reducible refine below_drewN ?_ _ | with_reducible refine bal ?_ _ | ((with_reducible refine bst ?_ ?_ _); rotate_left; focus (first | exact Nat.le_refl _ | assumption | (simp; done) | (simp; omega) | omega)) | exact below_left (by with_reducible assumption)))))).mono ?_
    rintro e w2 ⟨rfl, hb2⟩
    have hB2 : Below w.heap.size w w2 := bt (by (repeat (first | with_reducible exact b0 _ | with_reducible assumption | with_reducible refine Below.drew ?_ | with_reducible refine below_drewN ?_ _ | with_reducible refine bal ?_ _ | ((with_reducible refine bst ?_ ?_ _); rotate_left; focus (first | exact Nat.le_refl _ | assumption | (simp; done) | (simp; omega) | omega)) | exact below_left (by with_reducible assumption)))) hb2
    rw [HB.out]
    have Gs2 := Blk.keep Gs1 hb2
    have Gt2 := Blk.keep Gt1 hb2
    have Gu2 := Blk.keep Gu1 hb2
    clear sl s0 s1 s2 s3 tl t0 t1 t2 t3 ul u0 u1 u2 u3
    obtain ⟨sl, s0, s1, s2, s3⟩ := Gs2.c2
    obtain ⟨tl, t0, t1, t2, t3⟩ := Gt2.c2
    obtain ⟨ul, u0, u1, u2, u3⟩ := Gu2.c2
    cases b
    case false =>
      go_wp2
      refine bodyPost_ret (v := .tuple #[spV ⟨[], []⟩, .int .i64 1]) (by simp [results, Tryd.results21, go_sem, *]) rfl ⟨by rw [show joinSp ⟨lo, hi⟩ ⟨lo', hi'⟩ = (zSp, 1) from by simp [joinSp, HA.out, HB.out]] <;> rfl, ?_⟩
      (repeat (first | with_reducible exact b0 _ | with_reducible assumption | with_reducible refine Below.drew ?_ | with_reducible refine below_drewN ?_ _ | with_reducible refine bal ?_ _ | ((with_reducible refine bst ?_ ?_ _); rotate_left; focus (first | exact Nat.le_refl _ | assumption | (simp; done) | (simp; omega) | omega)) | exact below_left (by with_reducible assumption)))
    case true =>
      by_cases hhi : hi = []
      case pos =>
        subst hhi
        go_wp2
        refine bodyPost_ret (v := .tuple #[spV ⟨[], []⟩, .int .i64 9]) (by simp [results, Tryd.results21, go_sem, *]) rfl ⟨by rw [show joinSp ⟨lo, []⟩ ⟨lo', hi'⟩ = (zSp, 9) from by simp [joinSp, HA.out, HB.out]] <;> rfl, ?_⟩
        (repeat (first | with_reducible exact b0 _ | with_reducible assumption | with_reducible refine Below.drew ?_ | with_reducible refine below_drewN ?_ _ | with_reducible refine bal ?_ _ | ((with_reducible refine bst ?_ ?_ _); rotate_left; focus (first | exact Nat.le_refl _ | assumption | (simp; done) | (simp; omega) | omega)) | exact below_left (by with_reducible assumption)))
      case neg =>
        have ehi := mk_ne hi hhi
        have phi := len_pos hhi
        have qhi := len_beq hhi
        have nhi := len_ne hhi
        have Nhi := Lib.hid hhi
        clear hhi
        by_cases hj : hi = lo'
        case pos =>
          subst hj
          go_wp2
          refine bodyPost_ret (v := .tuple #[spV ⟨lo, hi'⟩, .int .i64 0]) (by simp [results, Tryd.results21, go_sem, *]) rfl ⟨by rw [show joinSp ⟨lo, hi⟩ ⟨hi, hi'⟩ = (⟨lo, hi'⟩, 0) from by simp [joinSp, HA.out, HB.out, Nhi.out]] <;> rfl, ?_⟩
          (repeat (first | with_reducible exact b0 _ | with_reducible assumption | with_reducible refine Below.drew ?_ | with_reducible refine below_drewN ?_ _ | with_reducible refine bal ?_ _ | ((with_reducible refine bst ?_ ?_ _); rotate_left; focus (first | exact Nat.le_refl _ | assumption | (simp; done) | (simp; omega) | omega)) | exact below_left (by with_reducible assumption)))
        case neg =>
          have ej := str_ne hj
          have NJ := Lib.hid hj
          go_wp2
          refine bodyPost_ret (v := .tuple #[spV ⟨[], []⟩, .int .i64 9]) (by simp [results, Tryd.results21, go_sem, *]) rfl ⟨by rw [show joinSp ⟨lo, hi⟩ ⟨lo', hi'⟩ = (zSp, 9) from by simp [joinSp, HA.out, HB.out, Nhi.out, NJ.out]] <;> rfl, ?_⟩
          (repeat (first | with_reducible exact b0 _ | with_reducible assumption | with_reducible refine Below.drew ?_ | with_reducible refine below_drewN ?_ _ | with_reducible refine bal ?_ _ | ((with_reducible refine bst ?_ ?_ _); rotate_left; focus (first | exact Nat.le_refl _ | assumption | (simp; done) | (simp; omega) | omega)) | exact below_left (by with_reducible assumption)))
set_option maxHeartbeats 1600000 in
set_option maxRecDepth 100000 in
theorem refspjoin_any (lo hi : List UInt8) (zlo : lo.length ≤ 9223372036854775807) (zhi : hi.length ≤ 9223372036854775807) (lo' hi' : List UInt8) (zlo' : lo'.length ≤ 9223372036854775807) (zhi' : hi'.length ≤ 9223372036854775807) (w : World) :
    Calls Tryd.prog 22 #[spV ⟨lo, hi⟩, spV ⟨lo', hi'⟩] w fun e w' => e = .returned (.tuple #[spV (joinSp ⟨lo, hi⟩ ⟨lo', hi'⟩).1, .int .i64 (joinSp ⟨lo, hi⟩ ⟨lo', hi'⟩).2]) ∧ Below w.heap.size w w' := by
  obtain ⟨a, ha⟩ : ∃ b, rightSp ⟨lo, hi⟩ = b := ⟨_, rfl⟩
  have HA := Lib.hid ha
  clear ha
  obtain ⟨b, hb⟩ : ∃ b, rightSp ⟨lo', hi'⟩ = b := ⟨_, rfl⟩
  have HB := Lib.hid hb
  clear hb
  go_enter Tryd.func22, Tryd.ntmps22
  have Gs0 : Blk ((((w).alloc (.cells #[.string ⟨lo.toArray⟩, .string ⟨hi.toArray⟩] 23)).alloc (.cells #[.string ⟨lo'.toArray⟩, .string ⟨hi'.toArray⟩] 23)).alloc (.cells #[.string ⟨#[]⟩, .string ⟨#[]⟩] 23)) (w.heap.size) 23 #[.string ⟨lo.toArray⟩, .string ⟨hi.toArray⟩] := Blk.alloc (Blk.alloc (Blk.new _ _ _) _) _
  have Gt0 : Blk ((((w).alloc (.cells #[.string ⟨lo.toArray⟩, .string ⟨hi.toArray⟩] 23)).alloc (.cells #[.string ⟨lo'.toArray⟩, .string ⟨hi'.toArray⟩] 23)).alloc (.cells #[.string ⟨#[]⟩, .string ⟨#[]⟩] 23)) (w.heap.size + 1) 23 #[.string ⟨lo'.toArray⟩, .string ⟨hi'.toArray⟩] := Blk.alloc (Blk.new' _ _ _ _ (by simp)) _
  have Gu0 : Blk ((((w).alloc (.cells #[.string ⟨lo.toArray⟩, .string ⟨hi.toArray⟩] 23)).alloc (.cells #[.string ⟨lo'.toArray⟩, .string ⟨hi'.toArray⟩] 23)).alloc (.cells #[.string ⟨#[]⟩, .string ⟨#[]⟩] 23)) (w.heap.size + 1 + 1) 23 #[.string ⟨#[]⟩, .string ⟨#[]⟩] := Blk.new' _ _ _ _ (by simp)
  go_wp2_with fail
  refine (refspright_any lo hi zlo zhi _).mono ?_
  rintro e w1 ⟨rfl, hb1⟩
  have hB1 : Below w.heap.size w w1 := bt (by (repeat (first | with_reducible exact b0 _ | with_reducible assumption | with_reducible refine Below.drew ?_ | with_reducible refine below_drewN ?_ _ | with_reducible refine bal ?_ _ | ((with_reducible refine bst ?_ ?_ _); rotate_left; focus (first | exact Nat.le_refl _ | assumption | (simp; done) | (simp; omega) | omega)) | exact below_left (by with_reducible assumption)))) hb1
  rw [HA.out]
  have Gs1 := Blk.keep Gs0 hb1
  have Gt1 := Blk.keep Gt0 hb1
  have Gu1 := Blk.keep Gu0 hb1
  obtain ⟨sl, s0, s1, s2, s3⟩ := Gs1.c2
  obtain ⟨tl, t0, t1, t2, t3⟩ := Gt1.c2
  obtain ⟨ul, u0, u1, u2, u3⟩ := Gu1.c2
  cases a
  case false =>
    go_wp2
    refine bodyPost_ret (v := .tuple #[spV ⟨[], []⟩, .int .i64 1]) (by simp [results, Tryd.results22, go_sem, *]) rfl ⟨by rw [show joinSp ⟨lo, hi⟩ ⟨lo', hi'⟩ = (zSp, 1) from by simp [joinSp, HA.out]] <;> rfl, ?_⟩
    (repeat (first | with_reducible exact b0 _ | with_reducible assumption | with_reducible refine Below.drew ?_ | with_reducible refine below_drewN ?_ _ | with_reducible refine bal ?_ _ | ((with_reducible refine bst ?_ ?_ _); rotate_left; focus (first | exact Nat.le_refl _ | assumption | (simp; done) | (simp; omega) | omega)) | exact below_left (by with_reducible assumption)))
  case true =>
    go_wp2_with fail
    refine (refspright_any lo' hi' zlo' zhi' _).mono ?_
    rintro e w2 ⟨rfl, hb2⟩
    have hB2 : Below w.heap.size w w2 := bt (by (repeat (first | with_reducible exact b0 _ | with_reducible assumption | with_reducible refine Below.drew ?_ | with_reducible refine below_drewN ?_ _ | with_reducible refine bal ?_ _ | ((with_reducible refine bst ?_ ?_ _); rotate_left; focus (first | exact Nat.le_refl _ | assumption | (simp; done) | (simp; omega) | omega)) | exact below_left (by with_reducible assumption)))) hb2
    rw [HB.out]
    have Gs2 := Blk.keep Gs1 hb2
    have Gt2 := Blk.keep Gt1 hb2
    have Gu2 := Blk.keep Gu1 hb2
    clear sl s0 s1 s2 s3 tl t0 t1 t2 t3 ul u0 u1 u2 u3
    obtain ⟨sl, s0, s1, s2, s3⟩ := Gs2.c2
    obtain ⟨tl, t0, t1, t2, t3⟩ := Gt2.c2
    obtain ⟨ul, u0, u1, u2, u3⟩ := Gu2.c2
    cases b
    case false =>
      go_wp2
      refine bodyPost_ret (v := .tuple #[spV ⟨[], []⟩, .int .i64 1]) (by simp [results, Tryd.results22, go_sem, *]) rfl ⟨by rw [show joinSp ⟨lo, hi⟩ ⟨lo', hi'⟩ = (zSp, 1) from by simp [joinSp, HA.out, HB.out]] <;> rfl, ?_⟩
      (repeat (first | with_reducible exact b0 _ | with_reducible assumption | with_reducible refine Below.drew ?_ | with_reducible refine below_drewN ?_ _ | with_reducible refine bal ?_ _ | ((with_reducible refine bst ?_ ?_ _); rotate_left; focus (first | exact Nat.le_refl _ | assumption | (simp; done) | (simp; omega) | omega)) | exact below_left (by with_reducible assumption)))
    case true =>
      by_cases hhi : hi = []
      case pos =>
        subst hhi
        go_wp2
        refine bodyPost_ret (v := .tuple #[spV ⟨[], []⟩, .int .i64 9]) (by simp [results, Tryd.results22, go_sem, *]) rfl ⟨by rw [show joinSp ⟨lo, []⟩ ⟨lo', hi'⟩ = (zSp, 9) from by simp [joinSp, HA.out, HB.out]] <;> rfl, ?_⟩
        (repeat (first | with_reducible exact b0 _ | with_reducible assumption | with_reducible refine Below.drew ?_ | with_reducible refine below_drewN ?_ _ | with_reducible refine bal ?_ _ | ((with_reducible refine bst ?_ ?_ _); rotate_left; focus (first | exact Nat.le_refl _ | assumption | (simp; done) | (simp; omega) | omega)) | exact below_left (by with_reducible assumption)))
      case neg =>
        have ehi := mk_ne hi hhi
        have phi := len_pos hhi
        have qhi := len_beq hhi
        have nhi := len_ne hhi
        have Nhi := Lib.hid hhi
        clear hhi
        by_cases hj : hi = lo'
        case pos =>
          subst hj
          go_wp2
          refine bodyPost_ret (v := .tuple #[spV ⟨lo, hi'⟩, .int .i64 0]) (by simp [results, Tryd.results22, go_sem, *]) rfl ⟨by rw [show joinSp ⟨lo, hi⟩ ⟨hi, hi'⟩ = (⟨lo, hi'⟩, 0) from by simp [joinSp, HA.out, HB.out, Nhi.out]] <;> rfl, ?_⟩
          (repeat (first | with_reducible exact b0 _ | with_reducible assumption | with_reducible refine Below.drew ?_ | with_reducible refine below_drewN ?_ _ | with_reducible refine bal ?_ _ | ((with_reducible refine bst ?_ ?_ _); rotate_left; focus (first | exact Nat.le_refl _ | assumption | (simp; done) | (simp; omega) | omega)) | exact below_left (by with_reducible assumption)))
        case neg =>
          have ej := str_ne hj
          have NJ := Lib.hid hj
          go_wp2
          refine bodyPost_ret (v := .tuple #[spV ⟨[], []⟩, .int .i64 9]) (by simp [results, Tryd.results22, go_sem, *]) rfl ⟨by rw [show joinSp ⟨lo, hi⟩ ⟨lo', hi'⟩ = (zSp, 9) from by simp [joinSp, HA.out, HB.out, Nhi.out, NJ.out]] <;> rfl, ?_⟩
          (repeat (first | with_reducible exact b0 _ | with_reducible assumption | with_reducible refine Below.drew ?_ | with_reducible refine below_drewN ?_ _ | with_reducible refine bal ?_ _ | ((with_reducible refine bst ?_ ?_ _); rotate_left; focus (first | exact Nat.le_refl _ | assumption | (simp; done) | (simp; omega) | omega)) | exact below_left (by with_reducible assumption)))
set_option maxHeartbeats 1600000 in
set_option maxRecDepth 100000 in
theorem spmeet_any (lo hi : List UInt8) (zlo : lo.length ≤ 9223372036854775807) (zhi : hi.length ≤ 9223372036854775807) (lo' hi' : List UInt8) (zlo' : lo'.length ≤ 9223372036854775807) (zhi' : hi'.length ≤ 9223372036854775807) (w : World) (hT : Go.Lib.Utf8Tabs 0 1 w) :
    Calls Tryd.prog 17 #[spV ⟨lo, hi⟩, spV ⟨lo', hi'⟩] w fun e w' => e = .returned (.bool (meetSp ⟨lo, hi⟩ ⟨lo', hi'⟩)) ∧ Below w.heap.size w w' := by
  obtain ⟨a, ha⟩ : ∃ b, rightSp ⟨lo, hi⟩ = b := ⟨_, rfl⟩
  have HA := Lib.hid ha
  clear ha
  obtain ⟨b, hb⟩ : ∃ b, rightSp ⟨lo', hi'⟩ = b := ⟨_, rfl⟩
  have HB := Lib.hid hb
  clear hb
  obtain ⟨c, hc⟩ : ∃ b, aheadSp lo hi' = b := ⟨_, rfl⟩
  have HC := Lib.hid hc
  clear hc
  obtain ⟨d, hd⟩ : ∃ b, aheadSp lo' hi = b := ⟨_, rfl⟩
  have HD := Lib.hid hd
  clear hd
  go_enter Tryd.func17, Tryd.ntmps17
  have Gs0 : Blk (((w).alloc (.cells #[.string ⟨lo.toArray⟩, .string ⟨hi.toArray⟩] 23)).alloc (.cells #[.string ⟨lo'.toArray⟩, .string ⟨hi'.toArray⟩] 23)) (w.heap.size) 23 #[.string ⟨lo.toArray⟩, .string ⟨hi.toArray⟩] := Blk.alloc (Blk.new _ _ _) _
  have Gt0 : Blk (((w).alloc (.cells #[.string ⟨lo.toArray⟩, .string ⟨hi.toArray⟩] 23)).alloc (.cells #[.string ⟨lo'.toArray⟩, .string ⟨hi'.toArray⟩] 23)) (w.heap.size + 1) 23 #[.string ⟨lo'.toArray⟩, .string ⟨hi'.toArray⟩] := Blk.new' _ _ _ _ (by simp)
  go_wp2_with fail
  refine (spright_any lo hi zlo zhi _ (Utf8Tabs_below hT (by (repeat (first | with_reducible exact b0 _ | with_reducible assumption | with_reducible refine Below.drew ?_ | with_reducible refine below_drewN ?_ _ | with_reducible refine bal ?_ _ | ((with_reducible refine bst ?_ ?_ _); rotate_left; focus (first | exact Nat.le_refl _ | assumption | (simp; done) | (simp; omega) | omega)) | exact below_left (by with_reducible assumption)))))).mono ?_
  rintro e w1 ⟨rfl, hb1⟩
  have hB1 : Below w.heap.size w w1 := bt (by (repeat (first | with_reducible exact b0 _ | with_reducible assumption | with_reducible refine Below.drew ?_ | with_reducible refine below_drewN ?_ _ | with_reducible refine bal ?_ _ | ((with_reducible refine bst ?_ ?_ _); rotate_left; focus (first | exact Nat.le_refl _ | assumption | (simp; done) | (simp; omega) | omega)) | exact below_left (by with_reducible assumption)))) hb1
  rw [HA.out]
  have Gs1 := Blk.keep Gs0 hb1
  have Gt1 := Blk.keep Gt0 hb1
  obtain ⟨sl, s0, s1, s2, s3⟩ := Gs1.c2
  obtain ⟨tl, t0, t1, t2, t3⟩ := Gt1.c2
  cases a
  case false =>
    go_wp2
    go_ret
    exact ⟨ret_bool (by simp [meetSp, HA.out]), by (repeat (first | with_reducible exact b0 _ | with_reducible assumption | with_reducible refine Below.drew ?_ | with_reducible refine below_drewN ?_ _ | with_reducible refine bal ?_ _ | ((with_reducible refine bst ?_ ?_ _); rotate_left; focus (first | exact Nat.le_refl _ | assumption | (simp; done) | (simp; omega) | omega)) | exact below_left (by with_reducible assumption)))⟩
  case true =>
    go_wp2_with fail
    refine (spright_any lo' hi' zlo' zhi' _ (Utf8Tabs_below hT (by (repeat (first | with_reducible exact b0 _ | with_reducible assumption | with_reducible refine Below.drew ?_ | with_reducible refine below_drewN ?_ _ | with_reducible refine bal ?_ _ | ((with_reducible refine bst ?_ ?_ _); rotate_left; focus (first | exact Nat.le_refl _ | assumption | (simp; done) | (simp; omega) | omega)) | exact below_left (by with_reducible assumption)))))).mono ?_
    rintro e w2 ⟨rfl, hb2⟩
    have hB2 : Below w.heap.size w w2 := bt (by (repeat (first | with_reducible exact b0 _ | with_reducible assumption | with_reducible refine Below.drew ?_ | with_reducible refine below_drewN ?_ _ | with_reducible refine bal ?_ _ | ((with_reducible refine bst ?_ ?_ _); rotate_left; focus (first | exact Nat.le_refl _ | assumption | (simp; done) | (simp; omega) | omega)) | exact below_left (by with_reducible assumption)))) hb2
    rw [HB.out]
    have Gs2 := Blk.keep Gs1 hb2
    have Gt2 := Blk.keep Gt1 hb2
    clear sl s0 s1 s2 s3 tl t0 t1 t2 t3
    obtain ⟨sl, s0, s1, s2, s3⟩ := Gs2.c2
    obtain ⟨tl, t0, t1, t2, t3⟩ := Gt2.c2
    cases b
    case false =>
      go_wp2
      go_ret
      exact ⟨ret_bool (by simp [meetSp, HA.out, HB.out]), by (repeat (first | with_reducible exact b0 _ | with_reducible assumption | with_reducible refine Below.drew ?_ | with_reducible refine below_drewN ?_ _ | with_reducible refine bal ?_ _ | ((with_reducible refine bst ?_ ?_ _); rotate_left; focus (first | exact Nat.le_refl _ | assumption | (simp; done) | (simp; omega) | omega)) | exact below_left (by with_reducible assumption)))⟩
    case true =>
      have zl := lo40 HA
      have zh := hi40 HA
      have zl' := lo40 HB
      have zh' := hi40 HB
      simp only at zl zh zl' zh'
      go_wp2_with fail
      refine (ahead_any lo hi' zl zh' _ (Utf8Tabs_below hT (by (repeat (first | with_reducible exact b0 _ | with_reducible assumption | with_reducible refine Below.drew ?_ | with_reducible refine below_drewN ?_ _ | with_reducible refine bal ?_ _ | ((with_reducible refine bst ?_ ?_ _); rotate_left; focus (first | exact Nat.le_refl _ | assumption | (simp; done) | (simp; omega) | omega)) | exact below_left (by with_reducible assumption)))))).mono ?_
      rintro e w3 ⟨rfl, hb3⟩
      have hB3 : Below w.heap.size w w3 := bt (by (repeat (first | with_reducible exact b0 _ | with_reducible assumption | with_reducible refine Below.drew ?_ | with_reducible refine below_drewN ?_ _ | with_reducible refine bal ?_ _ | ((with_reducible refine bst ?_ ?_ _); rotate_left; focus (first | exact Nat.le_refl _ | assumption | (simp; done) | (simp; omega) | omega)) | exact below_left (by with_reducible assumption)))) hb3
      rw [HC.out]
      have Gs3 := Blk.keep Gs2 hb3
      have Gt3 := Blk.keep Gt2 hb3
      clear sl s0 s1 s2 s3 tl t0 t1 t2 t3
      obtain ⟨sl, s0, s1, s2, s3⟩ := Gs3.c2
      obtain ⟨tl, t0, t1, t2, t3⟩ := Gt3.c2
      cases c
      case false =>
        go_wp2
        go_ret
        exact ⟨ret_bool (by simp [meetSp, HA.out, HB.out, HC.out]), by (repeat (first | with_reducible exact b0 _ | with_reducible assumption | with_reducible refine Below.drew ?_ | with_reducible refine below_drewN ?_ _ | with_reducible refine bal ?_ _ | ((with_reducible refine bst ?_ ?_ _); rotate_left; focus (first | exact Nat.le_refl _ | assumption | (simp; done) | (simp; omega) | omega)) | exact below_left (by with_reducible assumption)))⟩
      case true =>
        go_wp2_with fail
        refine (ahead_any lo' hi zl' zh _ (Utf8Tabs_below hT (by (repeat (first | with_reducible exact b0 _ | with_reducible assumption | with_reducible refine Below.drew ?_ | with_reducible refine below_drewN ?_ _ | with_reducible refine bal ?_ _ | ((with_reducible refine bst ?_ ?_ _); rotate_left; focus (first | exact Nat.le_refl _ | assumption | (simp; done) | (simp; omega) | omega)) | exact below_left (by with_reducible assumption)))))).mono ?_
        rintro e w4 ⟨rfl, hb4⟩
        have hB4 : Below w.heap.size w w4 := bt (by (repeat (first | with_reducible exact b0 _ | with_reducible assumption | with_reducible refine Below.drew ?_ | with_reducible refine below_drewN ?_ _ | with_reducible refine bal ?_ _ | ((with_reducible refine bst ?_ ?_ _); rotate_left; focus (first | exact Nat.le_refl _ | assumption | (simp; done) | (simp; omega) | omega)) | exact below_left (by with_reducible assumption)))) hb4
        rw [HD.out]
        have Gs4 := Blk.keep Gs3 hb4
        have Gt4 := Blk.keep Gt3 hb4
        clear sl s0 s1 s2 s3 tl t0 t1 t2 t3
        obtain ⟨sl, s0, s1, s2, s3⟩ := Gs4.c2
        obtain ⟨tl, t0, t1, t2, t3⟩ := Gt4.c2
        go_wp2
        go_ret
        exact ⟨ret_bool (by simp [meetSp, HA.out, HB.out, HC.out, HD.out]), by (repeat (first | with_reducible exact b0 _ | with_reducible assumption | with_reducible refine Below.drew ?_ | with_reducible refine below_drewN ?_ _ | with_reducible refine bal ?_ _ | ((with_reducible refine bst ?_ ?_ _); rotate_left; focus (first | exact Nat.le_refl _ | assumption | (simp; done) | (simp; omega) | omega)) | exact below_left (by with_reducible assumption)))⟩
end Go.Proofs.YtjckniebocjefaaDoor
