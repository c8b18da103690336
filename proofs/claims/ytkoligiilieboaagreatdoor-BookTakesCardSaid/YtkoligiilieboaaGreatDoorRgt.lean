/- chain.right, dedup.number, dedup.plain: whether a version, a number, an answer is right. -/
import Derived.Test.YtkoligiilieboaaGreatDoorMgC
import Derived.Test.YtkoligiilieboaaGreatDoorMgE
import Derived.Test.YtkoligiilieboaaGreatDoorMgB
set_option linter.unusedSimpArgs false
set_option linter.unusedVariables false
namespace Go.Proofs.YtkoligiilieboaaGreatDoor
open Go.RowKit
attribute [local go_sem] ByteArray.mk_append_mk ByteArray.extract_mk
attribute [local go_sem ↓] Go.wp_at_zero Go.wp_at_succ
abbrev vsA (v : Vs) : Array Value := #[.int .i64 v.a, .int .i64 v.t, .int .i64 v.n, .bool v.gone, .string ⟨v.val.toArray⟩]
set_option maxRecDepth 100000 in
theorem vright_any (v : Vs) (w : World) : Calls Tryz.prog 120 #[.agg (vsA v)] w fun e w' => e = .returned (.bool (vsB v)) ∧ Below w.heap.size w w' := by
 obtain ⟨a, t, n, gone, val⟩ := v
 obtain ⟨q, hq⟩ : ∃ q, vsB ⟨a, t, n, gone, val⟩ = q := ⟨_, rfl⟩
 rw [hq]
 have HV := Lib.hid hq
 clear hq
 have B0 : Blk (w.alloc (.cells (vsA ⟨a, t, n, gone, val⟩) 105)) w.heap.size 105 (vsA ⟨a, t, n, gone, val⟩) := Blk.new w _ _
 have hb0 : Below w.heap.size w (w.alloc (.cells (vsA ⟨a, t, n, gone, val⟩) 105)) := bal (b0 w) _
 go_enter Tryz.func120, Tryz.ntmps120
 go_upto_region 1 with (fail)
 generalize w.alloc (.cells (vsA ⟨a, t, n, gone, val⟩) 105) = W at *
 obtain ⟨gl, c0, c1, c2, c3, c4, f0, f1, f2, f3, f4⟩ := B0.c5
 go_wp2_with fail
 refine (right_any a t n _).mono ?_
 rintro e w1 ⟨rfl, d1⟩
 have B1 := B0.keep d1
 have hb1 := bt hb0 d1
 clear gl c0 c1 c2 c3 c4 f0 f1 f2 f3 f4 B0 hb0
 obtain ⟨gl, c0, c1, c2, c3, c4, f0, f1, f2, f3, f4⟩ := B1.c5
 cases hr : rightB a t n
 case false =>
  have hv : q = false := by rw [← HV.out]; simp [vsB, hr]
  subst hv
  clear hr
  go_wp2
  go_ret
  exact ⟨rfl, hb1⟩
 case true =>
 by_cases hl : val.length ≤ 16
 case neg =>
  have hv : q = false := by rw [← HV.out]; simp [vsB, hr, hl]
  subst hv
  have h2 : ¬ (val.length : Int) ≤ 16 := by omega
  clear hr
  go_wp2
  go_ret
  exact ⟨rfl, hb1⟩
 case pos =>
 have h2 : (val.length : Int) ≤ 16 := by omega
 cases gone
 case false =>
  have hv : q = true := by rw [← HV.out]; simp [vsB, hr, hl]
  subst hv
  clear hr
  go_wp2
  go_ret
  exact ⟨rfl, hb1⟩
 case true =>
 by_cases he : val = []
 case pos =>
  have hv : q = true := by rw [← HV.out]; simp [vsB, hr, he]
  subst hv
  subst he
  clear hr
  go_wp2
  go_ret
  exact ⟨rfl, hb1⟩
 case neg =>
  have hv : q = false := by rw [← HV.out]; simp [vsB, hr, he]
  subst hv
  have hie := is_ne he
  have hie2 : (val == []) = false := by simp [he]
  have HE := Lib.hid he
  clear hr he
  go_wp2
  go_ret
  exact ⟨rfl, hb1⟩
theorem dnum1_any (z : Int) (w : World) : Calls Tryz.prog 105 #[.int .i64 z] w fun e w' => e = .returned (.bool (oneB z)) ∧ w = w' := by
 by_cases h1 : 1 ≤ z
 case neg =>
  have hv : oneB z = false := by simp [oneB, h1]
  have HV := Lib.hid hv
  clear hv
  go_enter Tryz.func105, Tryz.ntmps105
  go_wp2
  go_ret
  exact ⟨by rw [HV.out] <;> rfl, rfl⟩
 case pos =>
 by_cases h2 : z ≤ 1099511627776
 case neg =>
  have hv : oneB z = false := by simp [oneB, h2]
  have HV := Lib.hid hv
  clear hv
  go_enter Tryz.func105, Tryz.ntmps105
  go_wp2
  go_ret
  exact ⟨by rw [HV.out] <;> rfl, rfl⟩
 case pos =>
  have hv : oneB z = true := by simp [oneB, h1, h2]
  have HV := Lib.hid hv
  clear hv
  go_enter Tryz.func105, Tryz.ntmps105
  go_wp2
  go_ret
  exact ⟨by rw [HV.out] <;> rfl, rfl⟩
theorem Blk.an {w : World} {g : Nat} {t : TypeId} {a : An} (h : Blk w g t (anA a)) : g < w.heap.size ∧ w.cell? ⟨g, 0, none⟩ = some (.int .i64 a.er) ∧ w.cell? ⟨g, 1, none⟩ = some (.int .i64 a.a) ∧ w.cell? ⟨g, 2, none⟩ = some (.int .i64 a.t) ∧ w.cell? ⟨g, 3, none⟩ = some (.int .i64 a.n) ∧
  w.cell? ⟨g, 5, none⟩ = some (.string ⟨a.vl.toArray⟩) ∧ w.cell? ⟨g, 6, none⟩ = some (.slice a.itA a.itn a.itc) ∧ w.cell? ⟨g, 7, none⟩ = some (.string ⟨a.nx.toArray⟩) ∧ w.cell? ⟨g, 8, none⟩ = some (.bool a.mo) :=
 ⟨h.lt, h.cell 0, h.cell 1, h.cell 2, h.cell 3, h.cell 5, h.cell 6, h.cell 7, h.cell 8⟩
set_option maxHeartbeats 1600000 in
set_option maxRecDepth 100000 in
theorem plain_an (an : An) (w : World) : Calls Tryz.prog 106 #[.agg (anA an)] w fun e w' => e = .returned (.bool (ansB an)) ∧ Below w.heap.size w w' := by
 obtain ⟨er, a, t, n, fd, vl, itA, itn, itc, nx, mo⟩ := an
 obtain ⟨q, hq⟩ : ∃ q, ansB ⟨er, a, t, n, fd, vl, itA, itn, itc, nx, mo⟩ = q := ⟨_, rfl⟩
 rw [hq]
 have HV := Lib.hid hq
 clear hq
 have B0 : Blk (w.alloc (.cells (anA ⟨er, a, t, n, fd, vl, itA, itn, itc, nx, mo⟩) 47)) w.heap.size 47 (anA ⟨er, a, t, n, fd, vl, itA, itn, itc, nx, mo⟩) := Blk.new w _ _
 have hb0 : Below w.heap.size w (w.alloc (.cells (anA ⟨er, a, t, n, fd, vl, itA, itn, itc, nx, mo⟩) 47)) := bal (b0 w) _
 go_enter Tryz.func106, Tryz.ntmps106
 go_upto_region 1 with (fail)
 generalize w.alloc (.cells (anA ⟨er, a, t, n, fd, vl, itA, itn, itc, nx, mo⟩) 47) = W at *
 obtain ⟨gl, c0, c1, c2, c3, c5, c6, c7, c8⟩ := B0.an
 simp only at c0 c1 c2 c3 c5 c6 c7 c8
 by_cases h1 : 0 ≤ er
 case neg =>
  have hv : q = false := by rw [← HV.out]; simp [ansB, h1]
  subst hv
  go_wp2
  go_ret
  exact ⟨rfl, hb0⟩
 case pos =>
 by_cases h2 : er ≤ 16
 case neg =>
  have hv : q = false := by rw [← HV.out]; simp [ansB, h2]
  subst hv
  go_wp2
  go_ret
  exact ⟨rfl, hb0⟩
 case pos =>
 go_wp2_with fail
 refine (right_any a t n _).mono ?_
 rintro e w1 ⟨rfl, d1⟩
 have B1 := B0.keep d1
 have hb1 := bt hb0 d1
 clear gl c0 c1 c2 c3 c5 c6 c7 c8 B0 hb0
 obtain ⟨gl, c0, c1, c2, c3, c5, c6, c7, c8⟩ := B1.an
 simp only at c0 c1 c2 c3 c5 c6 c7 c8
 cases hr : rightB a t n
 case false =>
  have hv : q = false := by rw [← HV.out]; simp [ansB, hr]
  subst hv
  clear hr
  go_wp2
  go_ret
  exact ⟨rfl, hb1⟩
 case true =>
 by_cases h3 : vl.length ≤ 16
 case neg =>
  have hv : q = false := by rw [← HV.out]; simp [ansB, h3]
  subst hv
  clear hr
  have h4 : ¬ (vl.length : Int) ≤ 16 := by omega
  go_wp2
  go_ret
  exact ⟨rfl, hb1⟩
 case pos =>
 have h4 : (vl.length : Int) ≤ 16 := by omega
 by_cases h5 : itn = 0
 case neg =>
  have hv : q = false := by rw [← HV.out]; simp [ansB, h5]
  subst hv
  clear hr
  have h6 : ((itn : Int) == 0) = false := by simp; omega
  have h7 : ¬ (itn : Int) = 0 := by omega
  go_wp2
  go_ret
  exact ⟨rfl, hb1⟩
 case pos =>
 subst h5
 by_cases he : nx = []
 case neg =>
  have hv : q = false := by rw [← HV.out]; simp [ansB, he]
  subst hv
  have hie := is_ne he
  have hie2 : (nx == []) = false := by simp [he]
  have HE := Lib.hid he
  clear hr he
  go_wp2
  go_ret
  exact ⟨rfl, hb1⟩
 case pos =>
 subst he
 have hv : q = !mo := by rw [← HV.out]; simp [ansB, h1, h2, hr, h3]
 have HQ := Lib.hid hv
 clear hv hr
 go_wp2
 go_ret
 exact ⟨by rw [HQ.out] <;> rfl, hb1⟩
end Go.Proofs.YtkoligiilieboaaGreatDoor
