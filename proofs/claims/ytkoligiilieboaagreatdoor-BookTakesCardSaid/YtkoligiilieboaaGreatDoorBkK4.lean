/- The document's equality of shards and cells. -/
import Derived.Test.YtkoligiilieboaaGreatDoorBkK3
set_option linter.unusedSimpArgs false
set_option linter.unusedVariables false
namespace Go.Proofs.YtkoligiilieboaaGreatDoor
open Go.RowKit
attribute [local go_sem] ByteArray.mk_append_mk ByteArray.extract_mk
attribute [local go_sem ↓] Go.wp_at_zero Go.wp_at_succ run_eql_St run_eql_Sp
section
variable {P : Program} {ops : Array Oper} {Q : Exit → Act → World → Prop} {a : Act} {w : World} {rest : List Oper}
end
theorem shEq_n0 (s u : Sh) (h : shL s = shL u) : (s.id == u.id) = true := by
  simp only [shL, shH, Prod.mk.injEq] at h
  simp [eqSt, eqSp, h]
theorem shEq_n1 (s u : Sh) (h : shL s = shL u) : (s.epoch == u.epoch) = true := by
  simp only [shL, shH, Prod.mk.injEq] at h
  simp [eqSt, eqSp, h]
theorem shEq_n2 (s u : Sh) (h : shL s = shL u) : eqSp s.lo u.lo s.hi u.hi = true := by
  simp only [shL, shH, Prod.mk.injEq] at h
  simp [eqSt, eqSp, h]
theorem shEq_n3 (s u : Sh) (h : shL s = shL u) : (s.phase == u.phase) = true := by
  simp only [shL, shH, Prod.mk.injEq] at h
  simp [eqSt, eqSp, h]
theorem shEq_n4 (s u : Sh) (h : shL s = shL u) : eqSt s.ma u.ma s.mt u.mt s.mn u.mn = true := by
  simp only [shL, shH, Prod.mk.injEq] at h
  simp [eqSt, eqSp, h]
theorem shEq_n5 (s u : Sh) (h : shL s = shL u) : eqSt s.ta u.ta s.tt u.tt s.tn u.tn = true := by
  simp only [shL, shH, Prod.mk.injEq] at h
  simp [eqSt, eqSp, h]
theorem shEq_n6 (s u : Sh) (h : shL s = shL u) : (s.hold == u.hold) = true := by
  simp only [shL, shH, Prod.mk.injEq] at h
  simp [eqSt, eqSp, h]
theorem shEq_n7 (s u : Sh) (h : shL s = shL u) : (s.seen == u.seen) = true := by
  simp only [shL, shH, Prod.mk.injEq] at h
  simp [eqSt, eqSp, h]
theorem shEq_n8 (s u : Sh) (h : shL s = shL u) : (s.move == u.move) = true := by
  simp only [shL, shH, Prod.mk.injEq] at h
  simp [eqSt, eqSp, h]
theorem shEq_n9 (s u : Sh) (h : shL s = shL u) : (s.closed == u.closed) = true := by
  simp only [shL, shH, Prod.mk.injEq] at h
  simp [eqSt, eqSp, h]
theorem shEq_e (s u : Sh) (c0 : (s.id == u.id) = true) (c1 : (s.epoch == u.epoch) = true) (c2 : eqSp s.lo u.lo s.hi u.hi = true) (c3 : (s.phase == u.phase) = true) (c4 : eqSt s.ma u.ma s.mt u.mt s.mn u.mn = true) (c5 : eqSt s.ta u.ta s.tt u.tt s.tn u.tn = true) (c6 : (s.hold == u.hold) = true) (c7 : (s.seen == u.seen) = true) (c8 : (s.move == u.move) = true) (c9 : (s.closed == u.closed) = true) (he : s.es.map enL = u.es.map enL) (hd : s.ds.map dnL = u.ds.map dnL) : shL s = shL u := by
  simp only [beq_iff_eq, eqSt, eqSp, Bool.and_eq_true, shL, shH, Prod.mk.injEq] at *
  simp [*]
theorem shEq_es {s u : Sh} (h : shL s = shL u) : s.es.map enL = u.es.map enL := congrArg (·.2.1) h
theorem shEq_ds {s u : Sh} (h : shL s = shL u) : s.ds.map dnL = u.ds.map dnL := congrArg (·.2.2) h
set_option maxHeartbeats 12800000 in
set_option maxRecDepth 100000 in
theorem sheq_any (s u : Sh) (w : World) (hI : ShIn w w.heap.size s) (hI' : ShIn w w.heap.size u) :
    Calls Tryz.prog 12 #[shV s, shV u] w (EqPost (shL s) (shL u) w) := by
  have S0 := TwoB.new w 30 (shA s) (shA u)
  go_enter Tryz.func12, Tryz.ntmps12
  go_upto_region 1 with (fail)
  generalize (w.alloc (.cells (shA s) 30)).alloc (.cells (shA u) 30) = W0 at *
  generalize hgh : w.heap.size + 1 = gh at *
  refine wp_region_lit ?_
  refine wpl_take (v := .pointer (some ⟨w.heap.size, 0, none⟩)) (some 5) rfl (by kernel_rfl) (by go_simp) ?_
  try simp only [Act.put, aset]
  refine wpl_take (v := .int .i64 s.id) (some 6) rfl (by kernel_rfl) (by have hc : _ = some (.int .i64 s.id : Value) := S0.ba.cell 0; go_simp) ?_
  try simp only [Act.put, aset]
  refine wpl_take (v := .pointer (some ⟨gh, 0, none⟩)) (some 7) rfl (by kernel_rfl) (by go_simp) ?_
  try simp only [Act.put, aset]
  refine wpl_take (v := .int .i64 u.id) (some 8) rfl (by kernel_rfl) (by have hc : _ = some (.int .i64 u.id : Value) := S0.bb.cell 0; go_simp) ?_
  try simp only [Act.put, aset]
  obtain ⟨q0, hq⟩ : ∃ q, (s.id == u.id) = q := ⟨_, rfl⟩
  refine wpl_take (v := .bool q0) (some 9) rfl (by kernel_rfl) (by rw [← hq]; exact ex_bin _ _ _ _ _ rfl (.int .i64 s.id) (.int .i64 u.id) _ (by kernel_rfl) (by kernel_rfl) (guard_int _ _ _ _ _ _ _ _ _) (run_eql_int _ _ _ _)) ?_
  try simp only [Act.put, aset]
  have HQ0 := Lib.hid hq
  clear hq
  refine wpl_take (v := .bool q0) (some 10) rfl (by kernel_rfl) (by go_simp) ?_
  try simp only [Act.put, aset]
  refine wpl_conj (u1 := .pointer (some ⟨w.heap.size, 1, none⟩)) (u2 := .int .i64 s.epoch) (u3 := .pointer (some ⟨gh, 1, none⟩)) (u4 := .int .i64 u.epoch) q0 ((s.epoch == u.epoch)) rfl rfl rfl rfl rfl rfl (by cases q0 <;> kernel_rfl) (by intro _; cases q0 <;> kernel_rfl) (by intro _ _; cases q0 <;> kernel_rfl) (by intro _ _ _; cases q0 <;> kernel_rfl) (by intro _ _ _ _; cases q0 <;> kernel_rfl) (by intro _ _ _ _ _; kernel_rfl) (by go_simp) (by have hc : _ = some (.int .i64 s.epoch : Value) := S0.ba.cell 1; go_simp) (by intro _; go_simp) (by have hc : _ = some (.int .i64 u.epoch : Value) := S0.bb.cell 1; go_simp) (ex_bin _ _ _ _ _ rfl (.int .i64 s.epoch) (.int .i64 u.epoch) _ (by kernel_rfl) (by kernel_rfl) (guard_int _ _ _ _ _ _ _ _ _) (run_eql_int _ _ _ _)) (fun _ _ _ _ hb => ex_pick _ _ _ rfl q0 _ (by kernel_rfl) (fun _ => by kernel_rfl) (fun h => by rw [hb] at h; cases h)) (fun _ _ _ _ _ hb => ex_pick _ _ _ rfl q0 _ (by kernel_rfl) (fun h => by rw [hb] at h; cases h) (fun _ => by kernel_rfl)) ?_
  intro j0a j0b j0c j0d j0e
  try simp only [Act.put, aset]
  obtain ⟨q1, hq⟩ : ∃ q', (q0 && (s.epoch == u.epoch)) = q' := ⟨_, rfl⟩
  rw [hq]
  have HQ1 := Lib.hid hq
  clear hq
  refine wpl_take (v := .bool q1) (some 17) rfl (by kernel_rfl) (by go_simp) ?_
  try simp only [Act.put, aset]
  refine wpl_conj (u1 := .pointer (some ⟨w.heap.size, 2, none⟩)) (u2 := .agg #[.string ⟨s.lo.toArray⟩, .string ⟨s.hi.toArray⟩]) (u3 := .pointer (some ⟨gh, 2, none⟩)) (u4 := .agg #[.string ⟨u.lo.toArray⟩, .string ⟨u.hi.toArray⟩]) q1 (eqSp s.lo u.lo s.hi u.hi) rfl rfl rfl rfl rfl rfl (by cases q1 <;> kernel_rfl) (by intro _; cases q1 <;> kernel_rfl) (by intro _ _; cases q1 <;> kernel_rfl) (by intro _ _ _; cases q1 <;> kernel_rfl) (by intro _ _ _ _; cases q1 <;> kernel_rfl) (by intro _ _ _ _ _; kernel_rfl) (by go_simp) (ex_ldm S0.ba 24 _ rfl 2 (by kernel_rfl) ([.string ⟨s.lo.toArray⟩, .string ⟨s.hi.toArray⟩] : List Value) (by kernel_rfl) _ Tryz.underlying24 (by kernel_rfl) (by with_unfolding_all rfl)) (by intro _; go_simp) (ex_ldm S0.bb 24 _ rfl 2 (by kernel_rfl) ([.string ⟨u.lo.toArray⟩, .string ⟨u.hi.toArray⟩] : List Value) (by kernel_rfl) _ Tryz.underlying24 (by kernel_rfl) (by with_unfolding_all rfl)) (ex_bin _ _ _ _ _ rfl (.agg #[.string ⟨s.lo.toArray⟩, .string ⟨s.hi.toArray⟩]) (.agg #[.string ⟨u.lo.toArray⟩, .string ⟨u.hi.toArray⟩]) _ (by kernel_rfl) (by kernel_rfl) (run_eqGuard_agg _ _ _ _ _ _ _ (by kernel_rfl)) (run_eql_Sp s.lo u.lo s.hi u.hi _)) (fun _ _ _ _ hb => ex_pick _ _ _ rfl q1 _ (by kernel_rfl) (fun _ => by kernel_rfl) (fun h => by rw [hb] at h; cases h)) (fun _ _ _ _ _ hb => ex_pick _ _ _ rfl q1 _ (by kernel_rfl) (fun h => by rw [hb] at h; cases h) (fun _ => by kernel_rfl)) ?_
  intro j1a j1b j1c j1d j1e
  try simp only [Act.put, aset]
  obtain ⟨q2, hq⟩ : ∃ q', (q1 && eqSp s.lo u.lo s.hi u.hi) = q' := ⟨_, rfl⟩
  rw [hq]
  have HQ2 := Lib.hid hq
  clear hq
  refine wpl_take (v := .bool q2) (some 24) rfl (by kernel_rfl) (by go_simp) ?_
  try simp only [Act.put, aset]
  refine wpl_conj (u1 := .pointer (some ⟨w.heap.size, 4, none⟩)) (u2 := .int .i64 s.phase) (u3 := .pointer (some ⟨gh, 4, none⟩)) (u4 := .int .i64 u.phase) q2 ((s.phase == u.phase)) rfl rfl rfl rfl rfl rfl (by cases q2 <;> kernel_rfl) (by intro _; cases q2 <;> kernel_rfl) (by intro _ _; cases q2 <;> kernel_rfl) (by intro _ _ _; cases q2 <;> kernel_rfl) (by intro _ _ _ _; cases q2 <;> kernel_rfl) (by intro _ _ _ _ _; kernel_rfl) (by go_simp) (by have hc : _ = some (.int .i64 s.phase : Value) := S0.ba.cell 4; go_simp) (by intro _; go_simp) (by have hc : _ = some (.int .i64 u.phase : Value) := S0.bb.cell 4; go_simp) (ex_bin _ _ _ _ _ rfl (.int .i64 s.phase) (.int .i64 u.phase) _ (by kernel_rfl) (by kernel_rfl) (guard_int _ _ _ _ _ _ _ _ _) (run_eql_int _ _ _ _)) (fun _ _ _ _ hb => ex_pick _ _ _ rfl q2 _ (by kernel_rfl) (fun _ => by kernel_rfl) (fun h => by rw [hb] at h; cases h)) (fun _ _ _ _ _ hb => ex_pick _ _ _ rfl q2 _ (by kernel_rfl) (fun h => by rw [hb] at h; cases h) (fun _ => by kernel_rfl)) ?_
  intro j2a j2b j2c j2d j2e
  try simp only [Act.put, aset]
  obtain ⟨q3, hq⟩ : ∃ q', (q2 && (s.phase == u.phase)) = q' := ⟨_, rfl⟩
  rw [hq]
  have HQ3 := Lib.hid hq
  clear hq
  have HALLa := Lib.hid (show shL s = shL u → q3 = true from fun h => by rw [← HQ3.out, ← HQ2.out, ← HQ1.out, ← HQ0.out, shEq_n0 s u h, shEq_n1 s u h, shEq_n2 s u h, shEq_n3 s u h]; rfl)
  have HBa := Lib.hid (show q3 = true → (s.id == u.id) = true ∧ (s.epoch == u.epoch) = true ∧ eqSp s.lo u.lo s.hi u.hi = true ∧ (s.phase == u.phase) = true from fun h => by rw [← HQ3.out, ← HQ2.out, ← HQ1.out, ← HQ0.out] at h; simp only [Bool.and_eq_true] at h; obtain ⟨⟨⟨c0, c1⟩, c2⟩, c3⟩ := h; exact ⟨c0, c1, c2, c3⟩)
  clear HQ0 HQ1 HQ2 HQ3
  cases q3
  case false =>
    go_wp2
    go_ret
    exact ⟨⟨_, rfl, ⟨fun h => absurd h Bool.false_ne_true, fun h => absurd (HALLa.out h) Bool.false_ne_true⟩⟩, S0.below⟩
  case true =>
  refine wpl_take (v := .bool true) (some 31) rfl (by kernel_rfl) (by go_simp) ?_
  try simp only [Act.put, aset]
  refine wpl_take (v := .pointer (some ⟨w.heap.size, 5, none⟩)) (some 32) rfl (by kernel_rfl) (by go_simp) ?_
  try simp only [Act.put, aset]
  refine wpl_take (v := .slice s.eA s.en s.ec) (some 33) rfl (by kernel_rfl) (by have hc : _ = some (.slice s.eA s.en s.ec : Value) := S0.ba.cell 5; go_simp) ?_
  try simp only [Act.put, aset]
  refine wpl_take (v := .pointer (some ⟨gh, 5, none⟩)) (some 34) rfl (by kernel_rfl) (by go_simp) ?_
  try simp only [Act.put, aset]
  refine wpl_take (v := .slice u.eA u.en u.ec) (some 35) rfl (by kernel_rfl) (by have hc : _ = some (.slice u.eA u.en u.ec : Value) := S0.bb.cell 5; go_simp) ?_
  try simp only [Act.put, aset]
  refine wpList_step fun K hK => ?_
  rw [if_pos (by kernel_rfl)]
  go_simp
  refine (eneq_any s.eA u.eA s.en u.en s.ec u.ec s.es u.es hI.elen hI'.elen hI.e63 hI'.e63 _ (RdR.more (hI.erow.below S0.below (Nat.le_refl _)) S0.below.size) (RdR.more (hI'.erow.below S0.below (Nat.le_refl _)) S0.below.size) (fun x hx => ((hI.es x hx).below S0.below (Nat.le_refl _)).more S0.below.size) (fun x hx => ((hI'.es x hx).below S0.below (Nat.le_refl _)).more S0.below.size)).mono ?_
  rintro ex va ⟨⟨qa, rfl, hq⟩, d⟩
  have S1 := S0.call d
  have HCa := Lib.hid hq
  clear hq d
  refine hK _ _ ?_
  clear hK K
  try simp only [Act.put, aset]
  refine wpl_take (v := .bool qa) (some 37) rfl (by kernel_rfl) (by go_simp) ?_
  try simp only [Act.put, aset]
  obtain ⟨q10, hq⟩ : ∃ q, qa = q := ⟨_, rfl⟩
  rw [hq]
  have HQ10 := Lib.hid hq
  clear hq
  refine wpl_take (v := .bool q10) (some 38) rfl (by kernel_rfl) (by go_simp) ?_
  try simp only [Act.put, aset]
  refine wpl_conj (u1 := .pointer (some ⟨w.heap.size, 6, none⟩)) (u2 := .agg #[.int .i64 s.ma, .int .i64 s.mt, .int .i64 s.mn]) (u3 := .pointer (some ⟨gh, 6, none⟩)) (u4 := .agg #[.int .i64 u.ma, .int .i64 u.mt, .int .i64 u.mn]) q10 (eqSt s.ma u.ma s.mt u.mt s.mn u.mn) rfl rfl rfl rfl rfl rfl (by cases q10 <;> kernel_rfl) (by intro _; cases q10 <;> kernel_rfl) (by intro _ _; cases q10 <;> kernel_rfl) (by intro _ _ _; cases q10 <;> kernel_rfl) (by intro _ _ _ _; cases q10 <;> kernel_rfl) (by intro _ _ _ _ _; kernel_rfl) (by go_simp) (ex_ldm S1.ba 27 _ rfl 6 (by kernel_rfl) ([.int .i64 s.ma, .int .i64 s.mt, .int .i64 s.mn] : List Value) (by kernel_rfl) _ Tryz.underlying27 (by kernel_rfl) (by with_unfolding_all rfl)) (by intro _; go_simp) (ex_ldm S1.bb 27 _ rfl 6 (by kernel_rfl) ([.int .i64 u.ma, .int .i64 u.mt, .int .i64 u.mn] : List Value) (by kernel_rfl) _ Tryz.underlying27 (by kernel_rfl) (by with_unfolding_all rfl)) (ex_bin _ _ _ _ _ rfl (.agg #[.int .i64 s.ma, .int .i64 s.mt, .int .i64 s.mn]) (.agg #[.int .i64 u.ma, .int .i64 u.mt, .int .i64 u.mn]) _ (by kernel_rfl) (by kernel_rfl) (run_eqGuard_agg _ _ _ _ _ _ _ (by kernel_rfl)) (run_eql_St s.ma u.ma s.mt u.mt s.mn u.mn _)) (fun _ _ _ _ hb => ex_pick _ _ _ rfl q10 _ (by kernel_rfl) (fun _ => by kernel_rfl) (fun h => by rw [hb] at h; cases h)) (fun _ _ _ _ _ hb => ex_pick _ _ _ rfl q10 _ (by kernel_rfl) (fun h => by rw [hb] at h; cases h) (fun _ => by kernel_rfl)) ?_
  intro j10a j10b j10c j10d j10e
  try simp only [Act.put, aset]
  obtain ⟨q11, hq⟩ : ∃ q', (q10 && eqSt s.ma u.ma s.mt u.mt s.mn u.mn) = q' := ⟨_, rfl⟩
  rw [hq]
  have HQ11 := Lib.hid hq
  clear hq
  refine wpl_take (v := .bool q11) (some 45) rfl (by kernel_rfl) (by go_simp) ?_
  try simp only [Act.put, aset]
  refine wpl_conj (u1 := .pointer (some ⟨w.heap.size, 9, none⟩)) (u2 := .agg #[.int .i64 s.ta, .int .i64 s.tt, .int .i64 s.tn]) (u3 := .pointer (some ⟨gh, 9, none⟩)) (u4 := .agg #[.int .i64 u.ta, .int .i64 u.tt, .int .i64 u.tn]) q11 (eqSt s.ta u.ta s.tt u.tt s.tn u.tn) rfl rfl rfl rfl rfl rfl (by cases q11 <;> kernel_rfl) (by intro _; cases q11 <;> kernel_rfl) (by intro _ _; cases q11 <;> kernel_rfl) (by intro _ _ _; cases q11 <;> kernel_rfl) (by intro _ _ _ _; cases q11 <;> kernel_rfl) (by intro _ _ _ _ _; kernel_rfl) (by go_simp) (ex_ldm S1.ba 27 _ rfl 9 (by kernel_rfl) ([.int .i64 s.ta, .int .i64 s.tt, .int .i64 s.tn] : List Value) (by kernel_rfl) _ Tryz.underlying27 (by kernel_rfl) (by with_unfolding_all rfl)) (by intro _; go_simp) (ex_ldm S1.bb 27 _ rfl 9 (by kernel_rfl) ([.int .i64 u.ta, .int .i64 u.tt, .int .i64 u.tn] : List Value) (by kernel_rfl) _ Tryz.underlying27 (by kernel_rfl) (by with_unfolding_all rfl)) (ex_bin _ _ _ _ _ rfl (.agg #[.int .i64 s.ta, .int .i64 s.tt, .int .i64 s.tn]) (.agg #[.int .i64 u.ta, .int .i64 u.tt, .int .i64 u.tn]) _ (by kernel_rfl) (by kernel_rfl) (run_eqGuard_agg _ _ _ _ _ _ _ (by kernel_rfl)) (run_eql_St s.ta u.ta s.tt u.tt s.tn u.tn _)) (fun _ _ _ _ hb => ex_pick _ _ _ rfl q11 _ (by kernel_rfl) (fun _ => by kernel_rfl) (fun h => by rw [hb] at h; cases h)) (fun _ _ _ _ _ hb => ex_pick _ _ _ rfl q11 _ (by kernel_rfl) (fun h => by rw [hb] at h; cases h) (fun _ => by kernel_rfl)) ?_
  intro j11a j11b j11c j11d j11e
  try simp only [Act.put, aset]
  obtain ⟨q12, hq⟩ : ∃ q', (q11 && eqSt s.ta u.ta s.tt u.tt s.tn u.tn) = q' := ⟨_, rfl⟩
  rw [hq]
  have HQ12 := Lib.hid hq
  clear hq
  have HALLb := Lib.hid (show shL s = shL u → q12 = true from fun h => by rw [← HQ12.out, ← HQ11.out, ← HQ10.out, HCa.out.2 (shEq_es h), shEq_n4 s u h, shEq_n5 s u h]; rfl)
  have HBb := Lib.hid (show q12 = true → s.es.map enL = u.es.map enL ∧ eqSt s.ma u.ma s.mt u.mt s.mn u.mn = true ∧ eqSt s.ta u.ta s.tt u.tt s.tn u.tn = true from fun h => by rw [← HQ12.out, ← HQ11.out, ← HQ10.out] at h; simp only [Bool.and_eq_true] at h; obtain ⟨⟨c0, c1⟩, c2⟩ := h; exact ⟨HCa.out.1 c0, c1, c2⟩)
  clear HQ10 HQ11 HQ12
  cases q12
  case false =>
    go_wp2
    go_ret
    exact ⟨⟨_, rfl, ⟨fun h => absurd h Bool.false_ne_true, fun h => absurd (HALLb.out h) Bool.false_ne_true⟩⟩, S1.below⟩
  case true =>
  refine wpl_take (v := .bool true) (some 52) rfl (by kernel_rfl) (by go_simp) ?_
  try simp only [Act.put, aset]
  refine wpl_take (v := .pointer (some ⟨w.heap.size, 12, none⟩)) (some 53) rfl (by kernel_rfl) (by go_simp) ?_
  try simp only [Act.put, aset]
  refine wpl_take (v := .slice s.dA s.dn s.dc) (some 54) rfl (by kernel_rfl) (by have hc : _ = some (.slice s.dA s.dn s.dc : Value) := S1.ba.cell 12; go_simp) ?_
  try simp only [Act.put, aset]
  refine wpl_take (v := .pointer (some ⟨gh, 12, none⟩)) (some 55) rfl (by kernel_rfl) (by go_simp) ?_
  try simp only [Act.put, aset]
  refine wpl_take (v := .slice u.dA u.dn u.dc) (some 56) rfl (by kernel_rfl) (by have hc : _ = some (.slice u.dA u.dn u.dc : Value) := S1.bb.cell 12; go_simp) ?_
  try simp only [Act.put, aset]
  refine wpList_step fun K hK => ?_
  rw [if_pos (by kernel_rfl)]
  go_simp
  refine (dneq_any s.dA u.dA s.dn u.dn s.dc u.dc s.ds u.ds hI.dlen hI'.dlen hI.d63 hI'.d63 _ (RdR.more (hI.drow.below S1.below (Nat.le_refl _)) S1.below.size) (RdR.more (hI'.drow.below S1.below (Nat.le_refl _)) S1.below.size) (fun x hx => ((hI.ds x hx).below S1.below (Nat.le_refl _)).more S1.below.size) (fun x hx => ((hI'.ds x hx).below S1.below (Nat.le_refl _)).more S1.below.size)).mono ?_
  rintro ex vb ⟨⟨qb, rfl, hq⟩, d⟩
  have S2 := S1.call d
  have HCb := Lib.hid hq
  clear hq d
  refine hK _ _ ?_
  clear hK K
  try simp only [Act.put, aset]
  refine wpl_take (v := .bool qb) (some 58) rfl (by kernel_rfl) (by go_simp) ?_
  try simp only [Act.put, aset]
  obtain ⟨q20, hq⟩ : ∃ q, qb = q := ⟨_, rfl⟩
  rw [hq]
  have HQ20 := Lib.hid hq
  clear hq
  refine wpl_take (v := .bool q20) (some 59) rfl (by kernel_rfl) (by go_simp) ?_
  try simp only [Act.put, aset]
  refine wpl_conj (u1 := .pointer (some ⟨w.heap.size, 13, none⟩)) (u2 := .int .i64 s.hold) (u3 := .pointer (some ⟨gh, 13, none⟩)) (u4 := .int .i64 u.hold) q20 ((s.hold == u.hold)) rfl rfl rfl rfl rfl rfl (by cases q20 <;> kernel_rfl) (by intro _; cases q20 <;> kernel_rfl) (by intro _ _; cases q20 <;> kernel_rfl) (by intro _ _ _; cases q20 <;> kernel_rfl) (by intro _ _ _ _; cases q20 <;> kernel_rfl) (by intro _ _ _ _ _; kernel_rfl) (by go_simp) (by have hc : _ = some (.int .i64 s.hold : Value) := S2.ba.cell 13; go_simp) (by intro _; go_simp) (by have hc : _ = some (.int .i64 u.hold : Value) := S2.bb.cell 13; go_simp) (ex_bin _ _ _ _ _ rfl (.int .i64 s.hold) (.int .i64 u.hold) _ (by kernel_rfl) (by kernel_rfl) (guard_int _ _ _ _ _ _ _ _ _) (run_eql_int _ _ _ _)) (fun _ _ _ _ hb => ex_pick _ _ _ rfl q20 _ (by kernel_rfl) (fun _ => by kernel_rfl) (fun h => by rw [hb] at h; cases h)) (fun _ _ _ _ _ hb => ex_pick _ _ _ rfl q20 _ (by kernel_rfl) (fun h => by rw [hb] at h; cases h) (fun _ => by kernel_rfl)) ?_
  intro j20a j20b j20c j20d j20e
  try simp only [Act.put, aset]
  obtain ⟨q21, hq⟩ : ∃ q', (q20 && (s.hold == u.hold)) = q' := ⟨_, rfl⟩
  rw [hq]
  have HQ21 := Lib.hid hq
  clear hq
  refine wpl_take (v := .bool q21) (some 66) rfl (by kernel_rfl) (by go_simp) ?_
  try simp only [Act.put, aset]
  refine wpl_conj (u1 := .pointer (some ⟨w.heap.size, 14, none⟩)) (u2 := .int .i64 s.seen) (u3 := .pointer (some ⟨gh, 14, none⟩)) (u4 := .int .i64 u.seen) q21 ((s.seen == u.seen)) rfl rfl rfl rfl rfl rfl (by cases q21 <;> kernel_rfl) (by intro _; cases q21 <;> kernel_rfl) (by intro _ _; cases q21 <;> kernel_rfl) (by intro _ _ _; cases q21 <;> kernel_rfl) (by intro _ _ _ _; cases q21 <;> kernel_rfl) (by intro _ _ _ _ _; kernel_rfl) (by go_simp) (by have hc : _ = some (.int .i64 s.seen : Value) := S2.ba.cell 14; go_simp) (by intro _; go_simp) (by have hc : _ = some (.int .i64 u.seen : Value) := S2.bb.cell 14; go_simp) (ex_bin _ _ _ _ _ rfl (.int .i64 s.seen) (.int .i64 u.seen) _ (by kernel_rfl) (by kernel_rfl) (guard_int _ _ _ _ _ _ _ _ _) (run_eql_int _ _ _ _)) (fun _ _ _ _ hb => ex_pick _ _ _ rfl q21 _ (by kernel_rfl) (fun _ => by kernel_rfl) (fun h => by rw [hb] at h; cases h)) (fun _ _ _ _ _ hb => ex_pick _ _ _ rfl q21 _ (by kernel_rfl) (fun h => by rw [hb] at h; cases h) (fun _ => by kernel_rfl)) ?_
  intro j21a j21b j21c j21d j21e
  try simp only [Act.put, aset]
  obtain ⟨q22, hq⟩ : ∃ q', (q21 && (s.seen == u.seen)) = q' := ⟨_, rfl⟩
  rw [hq]
  have HQ22 := Lib.hid hq
  clear hq
  refine wpl_take (v := .bool q22) (some 73) rfl (by kernel_rfl) (by go_simp) ?_
  try simp only [Act.put, aset]
  refine wpl_conj (u1 := .pointer (some ⟨w.heap.size, 15, none⟩)) (u2 := .int .i64 s.move) (u3 := .pointer (some ⟨gh, 15, none⟩)) (u4 := .int .i64 u.move) q22 ((s.move == u.move)) rfl rfl rfl rfl rfl rfl (by cases q22 <;> kernel_rfl) (by intro _; cases q22 <;> kernel_rfl) (by intro _ _; cases q22 <;> kernel_rfl) (by intro _ _ _; cases q22 <;> kernel_rfl) (by intro _ _ _ _; cases q22 <;> kernel_rfl) (by intro _ _ _ _ _; kernel_rfl) (by go_simp) (by have hc : _ = some (.int .i64 s.move : Value) := S2.ba.cell 15; go_simp) (by intro _; go_simp) (by have hc : _ = some (.int .i64 u.move : Value) := S2.bb.cell 15; go_simp) (ex_bin _ _ _ _ _ rfl (.int .i64 s.move) (.int .i64 u.move) _ (by kernel_rfl) (by kernel_rfl) (guard_int _ _ _ _ _ _ _ _ _) (run_eql_int _ _ _ _)) (fun _ _ _ _ hb => ex_pick _ _ _ rfl q22 _ (by kernel_rfl) (fun _ => by kernel_rfl) (fun h => by rw [hb] at h; cases h)) (fun _ _ _ _ _ hb => ex_pick _ _ _ rfl q22 _ (by kernel_rfl) (fun h => by rw [hb] at h; cases h) (fun _ => by kernel_rfl)) ?_
  intro j22a j22b j22c j22d j22e
  try simp only [Act.put, aset]
  obtain ⟨q23, hq⟩ : ∃ q', (q22 && (s.move == u.move)) = q' := ⟨_, rfl⟩
  rw [hq]
  have HQ23 := Lib.hid hq
  clear hq
  refine wpl_take (v := .bool q23) (some 80) rfl (by kernel_rfl) (by go_simp) ?_
  try simp only [Act.put, aset]
  refine wpl_conj (u1 := .pointer (some ⟨w.heap.size, 16, none⟩)) (u2 := .int .i64 s.closed) (u3 := .pointer (some ⟨gh, 16, none⟩)) (u4 := .int .i64 u.closed) q23 ((s.closed == u.closed)) rfl rfl rfl rfl rfl rfl (by cases q23 <;> kernel_rfl) (by intro _; cases q23 <;> kernel_rfl) (by intro _ _; cases q23 <;> kernel_rfl) (by intro _ _ _; cases q23 <;> kernel_rfl) (by intro _ _ _ _; cases q23 <;> kernel_rfl) (by intro _ _ _ _ _; kernel_rfl) (by go_simp) (by have hc : _ = some (.int .i64 s.closed : Value) := S2.ba.cell 16; go_simp) (by intro _; go_simp) (by have hc : _ = some (.int .i64 u.closed : Value) := S2.bb.cell 16; go_simp) (ex_bin _ _ _ _ _ rfl (.int .i64 s.closed) (.int .i64 u.closed) _ (by kernel_rfl) (by kernel_rfl) (guard_int _ _ _ _ _ _ _ _ _) (run_eql_int _ _ _ _)) (fun _ _ _ _ hb => ex_pick _ _ _ rfl q23 _ (by kernel_rfl) (fun _ => by kernel_rfl) (fun h => by rw [hb] at h; cases h)) (fun _ _ _ _ _ hb => ex_pick _ _ _ rfl q23 _ (by kernel_rfl) (fun h => by rw [hb] at h; cases h) (fun _ => by kernel_rfl)) ?_
  intro j23a j23b j23c j23d j23e
  try simp only [Act.put, aset]
  obtain ⟨q24, hq⟩ : ∃ q', (q23 && (s.closed == u.closed)) = q' := ⟨_, rfl⟩
  rw [hq]
  have HQ24 := Lib.hid hq
  clear hq
  have hall : q24 = true ↔ shL s = shL u := by
    rw [← HQ24.out, ← HQ23.out, ← HQ22.out, ← HQ21.out, ← HQ20.out]
    constructor
    · intro h
      simp only [Bool.and_eq_true] at h
      obtain ⟨⟨⟨⟨c0, c1⟩, c2⟩, c3⟩, c4⟩ := h
      obtain ⟨a0, a1, a2, a3⟩ := HBa.out rfl
      obtain ⟨b0, b1, b2⟩ := HBb.out rfl
      exact shEq_e s u a0 a1 a2 a3 b1 b2 c1 c2 c3 c4 b0 (HCb.out.1 c0)
    · intro h
      rw [HCb.out.2 (shEq_ds h), shEq_n6 s u h, shEq_n7 s u h, shEq_n8 s u h, shEq_n9 s u h]
      rfl
  clear HQ20 HQ21 HQ22 HQ23 HQ24
  go_wp2
  go_ret
  exact ⟨⟨q24, rfl, hall⟩, S2.below⟩
end Go.Proofs.YtkoligiilieboaaGreatDoor
