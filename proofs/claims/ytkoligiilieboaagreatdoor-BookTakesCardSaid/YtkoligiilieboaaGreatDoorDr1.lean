/- The document's one, nought, number; whether an answer, a version is right. -/
import Derived.Test.YtkoligiilieboaaGreatDoorRgt
import Derived.Test.YtkoligiilieboaaGreatDoorMgB
set_option linter.unusedSimpArgs false
set_option linter.unusedVariables false
namespace Go.Proofs.YtkoligiilieboaaGreatDoor
open Go.RowKit
attribute [local go_sem] ByteArray.mk_append_mk ByteArray.extract_mk
attribute [local go_sem ↓] Go.wp_at_zero Go.wp_at_succ
theorem rone_any (z : Int) (w : World) : Calls Tryz.prog 45 #[.int .i64 z] w fun e w' => e = .returned (.bool (oneB z)) ∧ w = w' := by
 by_cases h0 : 1 ≤ z
 case neg =>
  have hv : oneB z = false := by simp [oneB, h0]
  have HV := Lib.hid hv
  clear hv
  have k0 : ¬ (0 : Int) < z := by omega
  go_enter Tryz.func45, Tryz.ntmps45
  go_wp2
  go_ret
  exact ⟨by rw [HV.out] <;> rfl, rfl⟩
 case pos =>
 have k0 : (0 : Int) < z := by omega
 by_cases h1 : z ≤ 1099511627776
 case neg =>
  have hv : oneB z = false := by simp [oneB, h1]
  have HV := Lib.hid hv
  clear hv
  go_enter Tryz.func45, Tryz.ntmps45
  go_wp2
  go_ret
  exact ⟨by rw [HV.out] <;> rfl, rfl⟩
 case pos =>
  have hv : oneB z = true := by simp [oneB, h0, h1]
  have HV := Lib.hid hv
  clear hv
  go_enter Tryz.func45, Tryz.ntmps45
  go_wp2
  go_ret
  exact ⟨by rw [HV.out] <;> rfl, rfl⟩
theorem rnumb_any (z : Int) (w : World) : Calls Tryz.prog 88 #[.int .i64 z] w fun e w' => e = .returned (.bool (oneB z)) ∧ w = w' := by
 by_cases h0 : 1 ≤ z
 case neg =>
  have hv : oneB z = false := by simp [oneB, h0]
  have HV := Lib.hid hv
  clear hv
  have k0 : ¬ (0 : Int) < z := by omega
  go_enter Tryz.func88, Tryz.ntmps88
  go_wp2
  go_ret
  exact ⟨by rw [HV.out] <;> rfl, rfl⟩
 case pos =>
 have k0 : (0 : Int) < z := by omega
 by_cases h1 : z ≤ 1099511627776
 case neg =>
  have hv : oneB z = false := by simp [oneB, h1]
  have HV := Lib.hid hv
  clear hv
  go_enter Tryz.func88, Tryz.ntmps88
  go_wp2
  go_ret
  exact ⟨by rw [HV.out] <;> rfl, rfl⟩
 case pos =>
  have hv : oneB z = true := by simp [oneB, h0, h1]
  have HV := Lib.hid hv
  clear hv
  go_enter Tryz.func88, Tryz.ntmps88
  go_wp2
  go_ret
  exact ⟨by rw [HV.out] <;> rfl, rfl⟩
theorem rnought_any (z : Int) (w : World) : Calls Tryz.prog 46 #[.int .i64 z] w fun e w' => e = .returned (.bool (fitsB z)) ∧ w = w' := by
 by_cases h0 : z = 0
 case pos =>
  subst h0
  go_enter Tryz.func46, Tryz.ntmps46
  go_wp2
  go_ret
  exact ⟨rfl, rfl⟩
 case neg =>
  have hv : oneB z = fitsB z := by
   rw [Bool.eq_iff_iff]
   simp [oneB, fitsB]
   omega
  have k0 : (z == 0) = false := by simp [h0]
  have HV := Lib.hid hv
  clear hv
  go_enter Tryz.func46, Tryz.ntmps46
  go_wp2_with fail
  refine (rone_any z w).mono ?_
  rintro e w1 ⟨rfl, rfl⟩
  rw [HV.out]
  go_wp2
  go_ret
  exact ⟨rfl, rfl⟩
set_option maxHeartbeats 3200000 in
set_option maxRecDepth 100000 in
theorem rplain_any (an : An) (w : World) : Calls Tryz.prog 89 #[.agg (anA an)] w fun e w' => e = .returned (.bool (ansB an)) ∧ Below w.heap.size w w' := by
 obtain ⟨er, a, t, n, fd, vl, itA, itn, itc, nx, mo⟩ := an
 obtain ⟨q, hq⟩ : ∃ q, ansB ⟨er, a, t, n, fd, vl, itA, itn, itc, nx, mo⟩ = q := ⟨_, rfl⟩
 rw [hq]
 have HV := Lib.hid hq
 clear hq
 have B0 : Blk (w.alloc (.cells (anA ⟨er, a, t, n, fd, vl, itA, itn, itc, nx, mo⟩) 47)) w.heap.size 47 (anA ⟨er, a, t, n, fd, vl, itA, itn, itc, nx, mo⟩) := Blk.new w _ _
 have hb0 : Below w.heap.size w (w.alloc (.cells (anA ⟨er, a, t, n, fd, vl, itA, itn, itc, nx, mo⟩) 47)) := bal (b0 w) _
 go_enter Tryz.func89, Tryz.ntmps89
 go_upto_region 1 with (fail)
 generalize w.alloc (.cells (anA ⟨er, a, t, n, fd, vl, itA, itn, itc, nx, mo⟩) 47) = W at *
 obtain ⟨gl, c0, c1, c2, c3, c5, c6, c7, c8⟩ := B0.an
 simp only at c0 c1 c2 c3 c5 c6 c7 c8
 by_cases h0 : 0 ≤ er
 case neg =>
  have hv : q = false := by rw [← HV.out]; simp [ansB, h0]
  subst hv
  have k0 : er < 0 := by omega
  go_wp2
  go_ret
  exact ⟨rfl, hb0⟩
 case pos =>
 have k0 : ¬ er < 0 := by omega
 by_cases h1 : er ≤ 16
 case neg =>
  have hv : q = false := by rw [← HV.out]; simp [ansB, h1]
  subst hv
  have k1 : 16 < er := by omega
  go_wp2
  go_ret
  exact ⟨rfl, hb0⟩
 case pos =>
 have k1 : ¬ 16 < er := by omega
 by_cases h2 : vl.length ≤ 16
 case neg =>
  have hv : q = false := by rw [← HV.out]; simp [ansB, h2]
  subst hv
  have k2 : (16 : Int) < (vl.length : Int) := by omega
  go_wp2
  go_ret
  exact ⟨rfl, hb0⟩
 case pos =>
 have k2 : ¬ (16 : Int) < (vl.length : Int) := by omega
 by_cases h3 : itn = 0
 case neg =>
  have hv : q = false := by rw [← HV.out]; simp [ansB, h3]
  subst hv
  have k3 : (0 : Int) < (itn : Int) := by omega
  go_wp2
  go_ret
  exact ⟨rfl, hb0⟩
 case pos =>
 subst h3
 by_cases h4 : nx = []
 case neg =>
  have hl : 0 < nx.length := List.length_pos_iff.2 h4
  have hv : q = false := by rw [← HV.out]; simp [ansB, h4]
  subst hv
  have k4 : (0 : Int) < (nx.length : Int) := by omega
  have HE := Lib.hid h4
  clear h4
  go_wp2
  go_ret
  exact ⟨rfl, hb0⟩
 case pos =>
 subst h4
 cases mo
 case true =>
  have hv : q = false := by rw [← HV.out]; simp [ansB]
  subst hv
  go_wp2
  go_ret
  exact ⟨rfl, hb0⟩
 case false =>
 go_wp2_with fail
 refine (refright_any a t n _).mono ?_
 rintro e w1 ⟨rfl, d1⟩
 obtain ⟨q2, hq2⟩ : ∃ b, rightB a t n = b := ⟨_, rfl⟩
 rw [hq2]
 have hv : q = q2 := by rw [← HV.out]; simp [ansB, h0, h1, h2, hq2]
 subst hv
 clear hq2
 go_wp2
 go_ret
 exact ⟨rfl, bt hb0 d1⟩
set_option maxRecDepth 100000 in
theorem vone_any (v : Vs) (w : World) : Calls Tryz.prog 115 #[.agg (vsA v)] w fun e w' => e = .returned (.bool (vsB v)) ∧ Below w.heap.size w w' := by
 obtain ⟨a, t, n, gone, val⟩ := v
 obtain ⟨q, hq⟩ : ∃ q, vsB ⟨a, t, n, gone, val⟩ = q := ⟨_, rfl⟩
 rw [hq]
 have HV := Lib.hid hq
 clear hq
 have B0 : Blk (w.alloc (.cells (vsA ⟨a, t, n, gone, val⟩) 105)) w.heap.size 105 (vsA ⟨a, t, n, gone, val⟩) := Blk.new w _ _
 have hb0 : Below w.heap.size w (w.alloc (.cells (vsA ⟨a, t, n, gone, val⟩) 105)) := bal (b0 w) _
 go_enter Tryz.func115, Tryz.ntmps115
 go_upto_region 1 with (fail)
 generalize w.alloc (.cells (vsA ⟨a, t, n, gone, val⟩) 105) = W at *
 obtain ⟨gl, c0, c1, c2, c3, c4, f0, f1, f2, f3, f4⟩ := B0.c5
 cases gone
 case false =>
  have HG := Lib.hid (show (!false || decide (val = [])) = true from rfl)
  go_wp2_with fail
  refine (refright_any a t n _).mono ?_
  rintro e w1 ⟨rfl, d1⟩
  have B1 := B0.keep d1
  have hb1 := bt hb0 d1
  clear gl c0 c1 c2 c3 c4 f0 f1 f2 f3 f4 B0 hb0
  obtain ⟨gl, c0, c1, c2, c3, c4, f0, f1, f2, f3, f4⟩ := B1.c5
  cases hr : rightB a t n
  case false =>
   have hv : q = false := by rw [← HV.out]; simp [vsB, hr]
   subst hv
   clear hr
   go_wp2
   go_ret
   exact ⟨rfl, hb1⟩
  case true =>
  by_cases hl : val.length ≤ 16
  case neg =>
   have hv : q = false := by rw [← HV.out]; simp [vsB, hl]
   subst hv
   have h2 : ¬ (val.length : Int) < 17 := by omega
   clear hr
   go_wp2
   go_ret
   exact ⟨by first | rfl | (simp; omega), hb1⟩
  case pos =>
   have hv : q = true := by rw [← HV.out]; simp only [vsB, hr, HG.out, decide_eq_true hl]; rfl
   subst hv
   have h2 : (val.length : Int) < 17 := by omega
   clear hr
   go_wp2
   go_ret
   exact ⟨by first | rfl | (simp; omega), hb1⟩
 case true =>
 by_cases he : val = []
 case pos =>
  subst he
  have hv0 : vsB ⟨a, t, n, true, []⟩ = rightB a t n := by simp [vsB]
  have HV0 := Lib.hid hv0
  clear hv0
  go_wp2_with fail
  refine (refright_any a t n _).mono ?_
  rintro e w1 ⟨rfl, d1⟩
  have B1 := B0.keep d1
  have hb1 := bt hb0 d1
  clear gl c0 c1 c2 c3 c4 f0 f1 f2 f3 f4 B0 hb0
  obtain ⟨gl, c0, c1, c2, c3, c4, f0, f1, f2, f3, f4⟩ := B1.c5
  obtain ⟨q2, hq2⟩ : ∃ b, rightB a t n = b := ⟨_, rfl⟩
  rw [hq2]
  have hv : q = q2 := by rw [← HV.out, HV0.out, hq2]
  subst hv
  clear hq2
  cases q
  case false =>
   go_wp2
   go_ret
   exact ⟨rfl, hb1⟩
  case true =>
   go_wp2
   go_ret
   exact ⟨rfl, hb1⟩
 case neg =>
  have hl : 0 < val.length := List.length_pos_iff.2 he
  have hv : q = false := by rw [← HV.out]; simp [vsB, he]
  subst hv
  have k : (0 : Int) < (val.length : Int) := by omega
  clear he
  go_wp2
  go_ret
  exact ⟨rfl, hb0⟩
end Go.Proofs.YtkoligiilieboaaGreatDoor
