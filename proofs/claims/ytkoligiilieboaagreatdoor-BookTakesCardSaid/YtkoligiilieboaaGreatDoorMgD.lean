/- The document's equality of answers and messages. The document's equality of messages. -/
import Derived.Test.YtkoligiilieboaaGreatDoorBkJ
import Derived.Test.YtkoligiilieboaaGreatDoorMgC
import Derived.Test.YtkoligiilieboaaGreatDoorMgA
set_option linter.unusedSimpArgs false
set_option linter.unusedVariables false
namespace Go.Proofs.YtkoligiilieboaaGreatDoor
open Go.RowKit
attribute [local go_sem] ByteArray.mk_append_mk ByteArray.extract_mk
attribute [local go_sem ↓] Go.wp_at_zero Go.wp_at_succ run_eql_St run_eql_Rq run_eql_Sp
structure TwoB (w : World) (g h : Nat) (T : TypeId) (ca cb : Array Value) (W : World) : Prop where
 below : Below w.heap.size w W
 ba : Blk W g T ca
 bb : Blk W h T cb
section
variable {w W W' : World} {g h : Nat} {T : TypeId} {ca cb : Array Value}
theorem TwoB.drew (H : TwoB w g h T ca cb W) : TwoB w g h T ca cb W.drew := ⟨H.below.drew, H.ba.drew, H.bb.drew⟩
theorem TwoB.call (H : TwoB w g h T ca cb W) (d : Below W.heap.size W W') : TwoB w g h T ca cb W' := ⟨bt H.below d, H.ba.keep d, H.bb.keep d⟩
theorem TwoB.new (w : World) (T : TypeId) (ca cb : Array Value) : TwoB w w.heap.size (w.heap.size + 1) T ca cb ((w.alloc (.cells ca T)).alloc (.cells cb T)) :=
 ⟨bal (bal (b0 w) _) _, (Blk.new w _ _).alloc _, Blk.new' _ _ _ _ (by simp)⟩
end
theorem guard_str (b : BinOp) (t : TypeId) (x y : Operand) (k k' : ByteArray) (w : World) {P : Program} : (eqGuard b t x y (.string k) (.string k')).run P w = .ok () w := by
 cases b <;> simp [eqGuard]
theorem run_eql_int (t : TypeId) (i j : Int) (w : World) {P : Program} : (Go.binOp .eql t (.int .i64 i) (.int .i64 j)).run P w = .ok (.bool (i == j)) w := by
 simp [Go.binOp, Op.intCmp, go_sem]
theorem run_eql_str (t : TypeId) (l m : List UInt8) (w : World) {P : Program} : (Go.binOp .eql t (.string ⟨l.toArray⟩) (.string ⟨m.toArray⟩)).run P w = .ok (.bool (l == m)) w := by
 simp [Go.binOp, Op.stringOp, go_sem]
def anL (a : An) (its : List It) := (a.er, (a.a, a.t, a.n), a.fd, a.vl, a.nx, a.mo, its)
theorem anEq_n0 (a b : An) (its jts : List It) (h : anL a its = anL b jts) : (a.er == b.er) = true := by
 simp only [anL, Prod.mk.injEq] at h
 simp [eqSt, eqRq, eqSp, h]
theorem anEq_n1 (a b : An) (its jts : List It) (h : anL a its = anL b jts) : eqSt a.a b.a a.t b.t a.n b.n = true := by
 simp only [anL, Prod.mk.injEq] at h
 simp [eqSt, eqRq, eqSp, h]
theorem anEq_n2 (a b : An) (its jts : List It) (h : anL a its = anL b jts) : (a.fd == b.fd) = true := by
 simp only [anL, Prod.mk.injEq] at h
 simp [eqSt, eqRq, eqSp, h]
theorem anEq_n3 (a b : An) (its jts : List It) (h : anL a its = anL b jts) : (a.vl == b.vl) = true := by
 simp only [anL, Prod.mk.injEq] at h
 simp [eqSt, eqRq, eqSp, h]
theorem anEq_n4 (a b : An) (its jts : List It) (h : anL a its = anL b jts) : (a.nx == b.nx) = true := by
 simp only [anL, Prod.mk.injEq] at h
 simp [eqSt, eqRq, eqSp, h]
theorem anEq_n5 (a b : An) (its jts : List It) (h : anL a its = anL b jts) : (a.mo == b.mo) = true := by
 simp only [anL, Prod.mk.injEq] at h
 simp [eqSt, eqRq, eqSp, h]
theorem anEq_e (a b : An) (its jts : List It) (c0 : (a.er == b.er) = true) (c1 : eqSt a.a b.a a.t b.t a.n b.n = true) (c2 : (a.fd == b.fd) = true) (c3 : (a.vl == b.vl) = true) (c4 : (a.nx == b.nx) = true) (c5 : (a.mo == b.mo) = true) (hi : its = jts) : anL a its = anL b jts := by
 simp only [beq_iff_eq, eqSt, eqRq, eqSp, Bool.and_eq_true, anL, Prod.mk.injEq] at *
 simp [*]
set_option maxHeartbeats 64000000 in
set_option maxRecDepth 100000 in
theorem saneq_any (a b : An) (its jts : List It) (hx : its.length = a.itn) (hy : jts.length = b.itn) (hm : a.itn ≤ 9223372036854775807) (hm' : b.itn ≤ 9223372036854775807) (w : World) (hR : RdR itC 2 w w.heap.size a.itA its) (hR' : RdR itC 2 w w.heap.size b.itA jts) :
  Calls Tryz.prog 41 #[.agg (anA a), .agg (anA b)] w (EqPost (anL a its) (anL b jts) w) := by
 have S0 := TwoB.new w 47 (anA a) (anA b)
 go_enter Tryz.func41, Tryz.ntmps41
 go_upto_region 1 with (fail)
 generalize (w.alloc (.cells (anA a) 47)).alloc (.cells (anA b) 47) = W0 at *
 generalize hgh : w.heap.size + 1 = gh at *
 have a6 : W0.cell? ⟨w.heap.size, 6, none⟩ = some (.slice a.itA a.itn a.itc) := S0.ba.cell 6
 have b6 : W0.cell? ⟨gh, 6, none⟩ = some (.slice b.itA b.itn b.itc) := S0.bb.cell 6
 by_cases hn : a.itn = b.itn
 case neg =>
  have b1 : ((a.itn : Int) != (b.itn : Int)) = true := by simp; omega
  have b2 : ((a.itn : Int) == (b.itn : Int)) = false := by simp; omega
  go_wp2
  go_ret
  exact ⟨⟨false, rfl, by simp [anL]; intro _ _ _ _ _ _ _ _ h; subst h; omega⟩, S0.below⟩
 case pos =>
  have hn2 : (b.itn : Int) = (a.itn : Int) := by omega
  have e1 : ((a.itn : Int) != (b.itn : Int)) = false := by simp; omega
  go_wp2_with fail
  clear a6 b6 hn2 e1
  go_loopw [5] (fun i wr => ∃ k : Nat, i = .int .i64 k ∧ k ≤ a.itn ∧ its.take k = jts.take k ∧ TwoB w w.heap.size gh 47 (anA a) (anA b) wr) (fun i _ => a.itn - (intOf i).toNat)
  case atStart => exact ⟨0, rfl, Nat.zero_le _, rfl, S0⟩
  case round =>
   clear S0
   obtain ⟨k, rfl, hk, ht, S1⟩ := hrel
   have i0 : (0 : Int) ≤ (k : Int) := by omega
   have HT := Lib.hid ht
   clear ht
   have a6 : wr.cell? ⟨w.heap.size, 6, none⟩ = some (.slice a.itA a.itn a.itc) := S1.ba.cell 6
   by_cases hlt : k < a.itn
   case pos =>
    have i1 : (k : Int) < (a.itn : Int) := by omega
    have i2 : (k : Int) < (b.itn : Int) := by omega
    obtain ⟨b0, off, hA, hbB, rx⟩ := hR.at k (by omega)
    obtain ⟨b1, off', hA', hbB', ry⟩ := hR'.at k (by omega)
    have HA := Lib.hid hA
    have HA' := Lib.hid hA'
    clear hA hA'
    have hs := fun (he : its[k]'(by omega) = jts[k]'(by omega)) => take_eq_succ (by omega) (by omega) HT.out he
    have hne := fun (he : its[k]'(by omega) ≠ jts[k]'(by omega)) => ne_at (by omega) (by omega) he
    obtain ⟨x, hxk⟩ : ∃ x, its[k]'(by omega) = x := ⟨_, rfl⟩
    obtain ⟨y, hyk⟩ : ∃ y, jts[k]'(by omega) = y := ⟨_, rfl⟩
    rw [hxk] at rx hs hne
    rw [hyk] at ry hs hne
    have HS := Lib.hid hs
    have HNE := Lib.hid hne
    clear hxk hyk hs hne
    go_wp2_with fail
    clear a6
    refine wp_region_held_drew (S := (fun W' => TwoB w w.heap.size gh 47 (anA a) (anA b) W')) (by kernel_rfl) S1.drew (fun hH => ?_)
    refine tk 0 (.pointer (some ⟨w.heap.size, 6, none⟩)) 20 rfl rfl (by kernel_rfl) (fun _ _ _ h => h) (.inl ⟨by rfl, by intro W' hS; go_simp⟩) hH ?_
    try simp only [Act.put, aset]
    refine tk 1 (.slice (some ⟨b0, off, none⟩) a.itn a.itc) 21 rfl rfl (by kernel_rfl) (fun _ _ _ h => h) (.inl ⟨by rfl, by intro W' hS; have hc : W'.cell? ⟨w.heap.size, 6, none⟩ = some (.slice (some ⟨b0, off, none⟩) a.itn a.itc) := (hS.ba.cell 6).trans (by rw [← HA.out]; rfl); go_simp⟩) hH ?_
    try simp only [Act.put, aset]
    refine tk 2 (.int .i64 k) 22 rfl rfl (by kernel_rfl) (fun _ _ _ h => h) (.inl ⟨by rfl, by intro W' hS; go_simp⟩) hH ?_
    try simp only [Act.put, aset]
    refine tk 3 (.pointer (some ⟨b0, off + k * 2, none⟩)) 23 rfl rfl (by kernel_rfl) (fun _ _ _ h => h) (.inl ⟨by rfl, by intro W' hS; go_simp⟩) hH ?_
    try simp only [Act.put, aset]
    refine tk 4 (.agg #[.string ⟨x.ky.toArray⟩, .string ⟨x.vl.toArray⟩]) 24 rfl rfl (by kernel_rfl) (fun _ _ _ h => h) (yieldsIf_load_mid (by rfl) 79 _ rfl (b0) (off + k * 2) (by rfl) [.string ⟨x.ky.toArray⟩, .string ⟨x.vl.toArray⟩] _ (fun _ h => rng_below rx h.below hbB) Tryz.underlying79 (by with_unfolding_all rfl) (by with_unfolding_all rfl)) hH ?_
    try simp only [Act.put, aset]
    refine tk 5 (.pointer (some ⟨gh, 6, none⟩)) 25 rfl rfl (by kernel_rfl) (fun _ _ _ h => h) (.inl ⟨by rfl, by intro W' hS; go_simp⟩) hH ?_
    try simp only [Act.put, aset]
    refine tk 6 (.slice (some ⟨b1, off', none⟩) b.itn b.itc) 26 rfl rfl (by kernel_rfl) (fun _ _ _ h => h) (.inl ⟨by rfl, by intro W' hS; have hc : W'.cell? ⟨gh, 6, none⟩ = some (.slice (some ⟨b1, off', none⟩) b.itn b.itc) := (hS.bb.cell 6).trans (by rw [← HA'.out]; rfl); go_simp⟩) hH ?_
    try simp only [Act.put, aset]
    refine tk 7 (.int .i64 k) 27 rfl rfl (by kernel_rfl) (fun _ _ _ h => h) (.inl ⟨by rfl, by intro W' hS; go_simp⟩) hH ?_
    try simp only [Act.put, aset]
    refine tk 8 (.pointer (some ⟨b1, off' + k * 2, none⟩)) 28 rfl rfl (by kernel_rfl) (fun _ _ _ h => h) (.inl ⟨by rfl, by intro W' hS; go_simp⟩) hH ?_
    try simp only [Act.put, aset]
    refine tk 9 (.agg #[.string ⟨y.ky.toArray⟩, .string ⟨y.vl.toArray⟩]) 29 rfl rfl (by kernel_rfl) (fun _ _ _ h => h) (yieldsIf_load_mid (by rfl) 79 _ rfl (b1) (off' + k * 2) (by rfl) [.string ⟨y.ky.toArray⟩, .string ⟨y.vl.toArray⟩] _ (fun _ h => rng_below ry h.below hbB') Tryz.underlying79 (by with_unfolding_all rfl) (by with_unfolding_all rfl)) hH ?_
    try simp only [Act.put, aset]
    obtain ⟨q, hq⟩ : ∃ q, eqIt x.ky y.ky x.vl y.vl = q := ⟨_, rfl⟩
    refine tk 10 (.bool (!q)) 30 rfl rfl (by kernel_rfl) (fun _ _ _ h => h) (by rw [← hq]; exact yif_bin (by rfl) _ _ _ _ _ rfl (.agg #[.string ⟨x.ky.toArray⟩, .string ⟨x.vl.toArray⟩]) (.agg #[.string ⟨y.ky.toArray⟩, .string ⟨y.vl.toArray⟩]) _ (by rfl) (by rfl) (fun _ => run_eqGuard_agg _ _ _ _ _ _ _ (by kernel_rfl)) (fun w => run_neq_It x.ky y.ky x.vl y.vl w)) hH ?_
    try simp only [Act.put, aset]
    have HQ := Lib.hid hq
    clear hq
    refine wpAnyH_done (by kernel_rfl) ?_ _
    clear hH
    cases q
    case false =>
     go_wp2
     go_ret
     exact ⟨⟨false, rfl, by simp [anL]; intro _ _ _ _ _ _ _ _; refine HNE.out fun h => ?_; subst h; have := HQ.out; simp [eqIt] at this⟩, S1.below.drew⟩
    case true =>
     go_wp2_with fail
     go_roundw
     case rel => exact ⟨k + 1, by go_num, by omega, HS.out (by have := eqIt_iff.1 HQ.out; cases x; cases y; simp_all), S1.drew⟩
     case measure => simp [intOf]; omega
   case neg =>
    have hit : its = jts := eq_of_take (by omega) (by omega) HT.out
    have HIT := Lib.hid hit
    clear hit HT i0
    go_upto_region 8 with (fail)
    clear a6
    have a0 : wr.cell? ⟨w.heap.size, 0, none⟩ = some (.int .i64 a.er) := S1.ba.cell 0
    have a1 : wr.cell? ⟨w.heap.size, 1, none⟩ = some (.int .i64 a.a) := S1.ba.cell 1
    have a2 : wr.cell? ⟨w.heap.size, 2, none⟩ = some (.int .i64 a.t) := S1.ba.cell 2
    have a3 : wr.cell? ⟨w.heap.size, 3, none⟩ = some (.int .i64 a.n) := S1.ba.cell 3
    have a4 : wr.cell? ⟨w.heap.size, 4, none⟩ = some (.bool a.fd) := S1.ba.cell 4
    have a5 : wr.cell? ⟨w.heap.size, 5, none⟩ = some (.string ⟨a.vl.toArray⟩) := S1.ba.cell 5
    have a7 : wr.cell? ⟨w.heap.size, 7, none⟩ = some (.string ⟨a.nx.toArray⟩) := S1.ba.cell 7
    have a8 : wr.cell? ⟨w.heap.size, 8, none⟩ = some (.bool a.mo) := S1.ba.cell 8
    have b0 : wr.cell? ⟨gh, 0, none⟩ = some (.int .i64 b.er) := S1.bb.cell 0
    have b1 : wr.cell? ⟨gh, 1, none⟩ = some (.int .i64 b.a) := S1.bb.cell 1
    have b2 : wr.cell? ⟨gh, 2, none⟩ = some (.int .i64 b.t) := S1.bb.cell 2
    have b3 : wr.cell? ⟨gh, 3, none⟩ = some (.int .i64 b.n) := S1.bb.cell 3
    have b4 : wr.cell? ⟨gh, 4, none⟩ = some (.bool b.fd) := S1.bb.cell 4
    have b5 : wr.cell? ⟨gh, 5, none⟩ = some (.string ⟨b.vl.toArray⟩) := S1.bb.cell 5
    have b7 : wr.cell? ⟨gh, 7, none⟩ = some (.string ⟨b.nx.toArray⟩) := S1.bb.cell 7
    have b8 : wr.cell? ⟨gh, 8, none⟩ = some (.bool b.mo) := S1.bb.cell 8
    cases h0 : (a.er == b.er)
    case false =>
     go_wp2
     go_ret
     exact ⟨⟨_, rfl, ⟨fun h => absurd h (by first | exact Bool.false_ne_true | (rw [h0]; exact Bool.false_ne_true)), fun h => absurd ((anEq_n0 a b its jts h).symm.trans h0) (by decide)⟩⟩, S1.below⟩
    case true =>
     cases h1 : eqSt a.a b.a a.t b.t a.n b.n
     case false =>
      go_wp2
      go_ret
      exact ⟨⟨_, rfl, ⟨fun h => absurd h (by first | exact Bool.false_ne_true | (rw [h1]; exact Bool.false_ne_true)), fun h => absurd ((anEq_n1 a b its jts h).symm.trans h1) (by decide)⟩⟩, S1.below⟩
     case true =>
      cases h2 : (a.fd == b.fd)
      case false =>
       go_wp2
       go_ret
       exact ⟨⟨_, rfl, ⟨fun h => absurd h (by first | exact Bool.false_ne_true | (rw [h2]; exact Bool.false_ne_true)), fun h => absurd ((anEq_n2 a b its jts h).symm.trans h2) (by decide)⟩⟩, S1.below⟩
      case true =>
       cases h3 : (a.vl == b.vl)
       case false =>
        go_wp2
        go_ret
        exact ⟨⟨_, rfl, ⟨fun h => absurd h (by first | exact Bool.false_ne_true | (rw [h3]; exact Bool.false_ne_true)), fun h => absurd ((anEq_n3 a b its jts h).symm.trans h3) (by decide)⟩⟩, S1.below⟩
       case true =>
        cases h4 : (a.nx == b.nx)
        case false =>
         go_wp2
         go_ret
         exact ⟨⟨_, rfl, ⟨fun h => absurd h (by first | exact Bool.false_ne_true | (rw [h4]; exact Bool.false_ne_true)), fun h => absurd ((anEq_n4 a b its jts h).symm.trans h4) (by decide)⟩⟩, S1.below⟩
        case true =>
         cases h5 : (a.mo == b.mo)
         case false =>
          go_wp2
          go_ret
          exact ⟨⟨_, rfl, ⟨fun h => absurd h (by first | exact Bool.false_ne_true | (rw [h5]; exact Bool.false_ne_true)), fun h => absurd ((anEq_n5 a b its jts h).symm.trans h5) (by decide)⟩⟩, S1.below⟩
         case true =>
          go_wp2
          go_ret
          exact ⟨⟨_, rfl, ⟨fun _ => anEq_e a b its jts h0 h1 h2 h3 h4 h5 HIT.out, fun _ => by first | rfl | exact h5⟩⟩, S1.below⟩
end Go.Proofs.YtkoligiilieboaaGreatDoor
namespace Go.Proofs.YtkoligiilieboaaGreatDoor
open Go.RowKit
attribute [local go_sem] ByteArray.mk_append_mk ByteArray.extract_mk
attribute [local go_sem ↓] Go.wp_at_zero Go.wp_at_succ run_eql_St run_eql_Rq run_eql_Sp
section
variable {P : Program} {w : World} {g : Nat} {t : TypeId} {cs : Array Value}
theorem wpl_ldmg {ops : Array Oper} {rest : List Oper} {op : Oper} {a : Act} {Q : Exit → Act → World → Prop} (H : Blk w g t cs) (hgd : Region.wanted op (yielded ops a.tmps) = true) (ty : TypeId) (x : Operand) (ho : op.op = .load ty x)
  (o : Nat) (hx : a.eval x = .pointer (some ⟨g, o, none⟩)) (out : List Value) (hr : (cs.toList.drop o).take out.length = out) (d : TypeDesc)
  (hu : P.underlying ty = some d) (hd : d.isRow = true) (hi : (P.info? ty).map (·.size) = some out.length)
  (h : wpList P ops Q rest (a.put op.dst (.agg out.toArray)) w) : wpList P ops Q (op :: rest) a w :=
 wpList_step fun K hK => by rw [if_pos hgd]; exact wp_load_mid ty x ho g o hx out d (H.range o out hr) hu hd hi (hK _ _ h)
end
theorem msEq_n0 (m n : Ms) (its jts : List It) (ps qs : List Pl) (ls ks : List Int) (h : tupM m its ps ls = tupM n jts qs ks) : (m.kind == n.kind) = true := by
 simp only [tupM, anL, Prod.mk.injEq] at h
 simp [eqSt, eqRq, eqSp, h]
theorem msEq_n1 (m n : Ms) (its jts : List It) (ps qs : List Pl) (ls ks : List Int) (h : tupM m its ps ls = tupM n jts qs ks) : (m.frm == n.frm) = true := by
 simp only [tupM, anL, Prod.mk.injEq] at h
 simp [eqSt, eqRq, eqSp, h]
theorem msEq_n2 (m n : Ms) (its jts : List It) (ps qs : List Pl) (ls ks : List Int) (h : tupM m its ps ls = tupM n jts qs ks) : (m.to == n.to) = true := by
 simp only [tupM, anL, Prod.mk.injEq] at h
 simp [eqSt, eqRq, eqSp, h]
theorem msEq_n3 (m n : Ms) (its jts : List It) (ps qs : List Pl) (ls ks : List Int) (h : tupM m its ps ls = tupM n jts qs ks) : (m.shard == n.shard) = true := by
 simp only [tupM, anL, Prod.mk.injEq] at h
 simp [eqSt, eqRq, eqSp, h]
theorem msEq_n4 (m n : Ms) (its jts : List It) (ps qs : List Pl) (ls ks : List Int) (h : tupM m its ps ls = tupM n jts qs ks) : (m.epoch == n.epoch) = true := by
 simp only [tupM, anL, Prod.mk.injEq] at h
 simp [eqSt, eqRq, eqSp, h]
theorem msEq_n5 (m n : Ms) (its jts : List It) (ps qs : List Pl) (ls ks : List Int) (h : tupM m its ps ls = tupM n jts qs ks) : (m.move == n.move) = true := by
 simp only [tupM, anL, Prod.mk.injEq] at h
 simp [eqSt, eqRq, eqSp, h]
theorem msEq_n6 (m n : Ms) (its jts : List It) (ps qs : List Pl) (ls ks : List Int) (h : tupM m its ps ls = tupM n jts qs ks) : (m.lease == n.lease) = true := by
 simp only [tupM, anL, Prod.mk.injEq] at h
 simp [eqSt, eqRq, eqSp, h]
theorem msEq_n7 (m n : Ms) (its jts : List It) (ps qs : List Pl) (ls ks : List Int) (h : tupM m its ps ls = tupM n jts qs ks) : (m.num == n.num) = true := by
 simp only [tupM, anL, Prod.mk.injEq] at h
 simp [eqSt, eqRq, eqSp, h]
theorem msEq_n8 (m n : Ms) (its jts : List It) (ps qs : List Pl) (ls ks : List Int) (h : tupM m its ps ls = tupM n jts qs ks) : (m.of == n.of) = true := by
 simp only [tupM, anL, Prod.mk.injEq] at h
 simp [eqSt, eqRq, eqSp, h]
theorem msEq_n9 (m n : Ms) (its jts : List It) (ps qs : List Pl) (ls ks : List Int) (h : tupM m its ps ls = tupM n jts qs ks) : eqSt m.a n.a m.t n.t m.n n.n = true := by
 simp only [tupM, anL, Prod.mk.injEq] at h
 simp [eqSt, eqRq, eqSp, h]
theorem msEq_n10 (m n : Ms) (its jts : List It) (ps qs : List Pl) (ls ks : List Int) (h : tupM m its ps ls = tupM n jts qs ks) : (m.text == n.text) = true := by
 simp only [tupM, anL, Prod.mk.injEq] at h
 simp [eqSt, eqRq, eqSp, h]
theorem msEq_n11 (m n : Ms) (its jts : List It) (ps qs : List Pl) (ls ks : List Int) (h : tupM m its ps ls = tupM n jts qs ks) : eqRq m.req.cl n.req.cl m.req.rq n.req.rq m.req.kd n.req.kd m.req.ky n.req.ky m.req.vl n.req.vl m.req.had n.req.had m.req.old n.req.old m.req.a n.req.a m.req.t n.req.t m.req.n n.req.n m.req.hi n.req.hi m.req.lim n.req.lim = true := by
 simp only [tupM, anL, Prod.mk.injEq] at h
 simp [eqSt, eqRq, eqSp, h]
theorem msEq_e (m n : Ms) (its jts : List It) (ps qs : List Pl) (ls ks : List Int) (c0 : (m.kind == n.kind) = true) (c1 : (m.frm == n.frm) = true) (c2 : (m.to == n.to) = true) (c3 : (m.shard == n.shard) = true) (c4 : (m.epoch == n.epoch) = true) (c5 : (m.move == n.move) = true) (c6 : (m.lease == n.lease) = true) (c7 : (m.num == n.num) = true) (c8 : (m.of == n.of) = true) (c9 : eqSt m.a n.a m.t n.t m.n n.n = true) (c10 : (m.text == n.text) = true) (c11 : eqRq m.req.cl n.req.cl m.req.rq n.req.rq m.req.kd n.req.kd m.req.ky n.req.ky m.req.vl n.req.vl m.req.had n.req.had m.req.old n.req.old m.req.a n.req.a m.req.t n.req.t m.req.n n.req.n m.req.hi n.req.hi m.req.lim n.req.lim = true) (ha : anL m.ans its = anL n.ans jts) (hp : ps = qs) (hl : ls = ks) : tupM m its ps ls = tupM n jts qs ks := by
 simp only [beq_iff_eq, eqSt, eqRq, eqSp, Bool.and_eq_true, tupM, anL, Prod.mk.injEq] at *
 simp [*]
theorem msEq_an (m n : Ms) (its jts : List It) (ps qs : List Pl) (ls ks : List Int) (h : tupM m its ps ls = tupM n jts qs ks) : anL m.ans its = anL n.ans jts := by
 simp only [tupM, Prod.mk.injEq] at h
 simp [anL, h]
theorem msEq_pl (m n : Ms) (its jts : List It) (ps qs : List Pl) (ls ks : List Int) (h : tupM m its ps ls = tupM n jts qs ks) : ps = qs := by
 simp only [tupM, Prod.mk.injEq] at h
 simp [h]
theorem msEq_ls (m n : Ms) (its jts : List It) (ps qs : List Pl) (ls ks : List Int) (h : tupM m its ps ls = tupM n jts qs ks) : ls = ks := by
 simp only [tupM, Prod.mk.injEq] at h
 simp [h]
set_option maxHeartbeats 64000000 in
set_option maxRecDepth 100000 in
theorem msgeq_any (m n : Ms) (its jts : List It) (ps qs : List Pl) (ls ks : List Int) (w : World) (hM : MsgIn m its ps ls w) (hN : MsgIn n jts qs ks w) :
  Calls Tryz.prog 14 #[msV m, msV n] w (EqPost (tupM m its ps ls) (tupM n jts qs ks) w) := by
 have hnl := hM.nl
 have hnl' := hN.nl
 have hl63 := hM.l63
 have hl63' := hN.l63
 have S0 := TwoB.new w 51 (msA m) (msA n)
 go_enter Tryz.func14, Tryz.ntmps14
 go_upto_region 1 with (fail)
 generalize (w.alloc (.cells (msA m) 51)).alloc (.cells (msA n) 51) = W0 at *
 generalize hgh : w.heap.size + 1 = gh at *
 have a35 : W0.cell? ⟨w.heap.size, 35, none⟩ = some (.slice m.mA m.mn m.mc) := S0.ba.cell 35
 have b35 : W0.cell? ⟨gh, 35, none⟩ = some (.slice n.mA n.mn n.mc) := S0.bb.cell 35
 by_cases hn : m.mn = n.mn
 case neg =>
  have b1 : ((m.mn : Int) != (n.mn : Int)) = true := by simp; omega
  have b2 : ((m.mn : Int) == (n.mn : Int)) = false := by simp; omega
  go_wp2
  go_ret
  exact ⟨⟨false, rfl, ⟨fun h => absurd h Bool.false_ne_true, fun h => by have := msEq_ls m n its jts ps qs ls ks h; subst this; omega⟩⟩, S0.below⟩
 case pos =>
  have hn2 : (n.mn : Int) = (m.mn : Int) := by omega
  have e1 : ((m.mn : Int) != (n.mn : Int)) = false := by simp; omega
  go_wp2_with fail
  clear a35 b35 hn2 e1
  go_loopw [5] (fun i wr => ∃ k : Nat, i = .int .i64 k ∧ k ≤ m.mn ∧ ls.take k = ks.take k ∧ TwoB w w.heap.size gh 51 (msA m) (msA n) wr) (fun i _ => m.mn - (intOf i).toNat)
  case atStart => exact ⟨0, rfl, Nat.zero_le _, rfl, S0⟩
  case round =>
   clear S0
   obtain ⟨k, rfl, hk, ht, S1⟩ := hrel
   have i0 : (0 : Int) ≤ (k : Int) := by omega
   have HT := Lib.hid ht
   clear ht
   have a35 : wr.cell? ⟨w.heap.size, 35, none⟩ = some (.slice m.mA m.mn m.mc) := S1.ba.cell 35
   by_cases hlt : k < m.mn
   case pos =>
    have i1 : (k : Int) < (m.mn : Int) := by omega
    have i2 : (k : Int) < (n.mn : Int) := by omega
    obtain ⟨b0, off, hA, hbB, rx⟩ := ldc_cells hM.rl k (by omega)
    obtain ⟨b1, off', hA', hbB', ry⟩ := ldc_cells hN.rl k (by omega)
    have HA := Lib.hid hA
    have HA' := Lib.hid hA'
    clear hA hA'
    have hs := fun (he : ls[k]'(by omega) = ks[k]'(by omega)) => take_eq_succ (by omega) (by omega) HT.out he
    have hne := fun (he : ls[k]'(by omega) ≠ ks[k]'(by omega)) => ne_at (by omega) (by omega) he
    obtain ⟨x, hxk⟩ : ∃ x, ls[k]'(by omega) = x := ⟨_, rfl⟩
    obtain ⟨y, hyk⟩ : ∃ y, ks[k]'(by omega) = y := ⟨_, rfl⟩
    rw [hxk] at rx hs hne
    rw [hyk] at ry hs hne
    have HS := Lib.hid hs
    have HNE := Lib.hid hne
    have RX := Lib.hid rx
    have RY := Lib.hid ry
    clear hxk hyk hs hne rx ry
    go_wp2_with fail
    clear a35
    refine wp_region_held_drew (S := (fun W' => TwoB w w.heap.size gh 51 (msA m) (msA n) W')) (by kernel_rfl) S1.drew (fun hH => ?_)
    refine tk 0 (.pointer (some ⟨w.heap.size, 35, none⟩)) 20 rfl rfl (by kernel_rfl) (fun _ _ _ h => h) (.inl ⟨by rfl, by intro W' hS; go_simp⟩) hH ?_
    try simp only [Act.put, aset]
    refine tk 1 (.slice (some ⟨b0, off, none⟩) m.mn m.mc) 21 rfl rfl (by kernel_rfl) (fun _ _ _ h => h) (.inl ⟨by rfl, by intro W' hS; have hc : W'.cell? ⟨w.heap.size, 35, none⟩ = some (.slice (some ⟨b0, off, none⟩) m.mn m.mc) := (hS.ba.cell 35).trans (by rw [← HA.out]; rfl); go_simp⟩) hH ?_
    try simp only [Act.put, aset]
    refine tk 2 (.int .i64 k) 22 rfl rfl (by kernel_rfl) (fun _ _ _ h => h) (.inl ⟨by rfl, by intro W' hS; go_simp⟩) hH ?_
    try simp only [Act.put, aset]
    refine tk 3 (.pointer (some ⟨b0, off + k, none⟩)) 23 rfl rfl (by kernel_rfl) (fun _ _ _ h => h) (.inl ⟨by rfl, by intro W' hS; go_simp⟩) hH ?_
    try simp only [Act.put, aset]
    refine tk 4 (.int .i64 x) 24 rfl rfl (by kernel_rfl) (fun _ _ _ h => h) (.inl ⟨by rfl, by intro W' hS; have hc := (hS.below.cell (p := ⟨b0, _, none⟩) hbB).trans RX.out; go_simp⟩) hH ?_
    try simp only [Act.put, aset]
    refine tk 5 (.pointer (some ⟨gh, 35, none⟩)) 25 rfl rfl (by kernel_rfl) (fun _ _ _ h => h) (.inl ⟨by rfl, by intro W' hS; go_simp⟩) hH ?_
    try simp only [Act.put, aset]
    refine tk 6 (.slice (some ⟨b1, off', none⟩) n.mn n.mc) 26 rfl rfl (by kernel_rfl) (fun _ _ _ h => h) (.inl ⟨by rfl, by intro W' hS; have hc : W'.cell? ⟨gh, 35, none⟩ = some (.slice (some ⟨b1, off', none⟩) n.mn n.mc) := (hS.bb.cell 35).trans (by rw [← HA'.out]; rfl); go_simp⟩) hH ?_
    try simp only [Act.put, aset]
    refine tk 7 (.int .i64 k) 27 rfl rfl (by kernel_rfl) (fun _ _ _ h => h) (.inl ⟨by rfl, by intro W' hS; go_simp⟩) hH ?_
    try simp only [Act.put, aset]
    refine tk 8 (.pointer (some ⟨b1, off' + k, none⟩)) 28 rfl rfl (by kernel_rfl) (fun _ _ _ h => h) (.inl ⟨by rfl, by intro W' hS; go_simp⟩) hH ?_
    try simp only [Act.put, aset]
    refine tk 9 (.int .i64 y) 29 rfl rfl (by kernel_rfl) (fun _ _ _ h => h) (.inl ⟨by rfl, by intro W' hS; have hc := (hS.below.cell (p := ⟨b1, _, none⟩) hbB').trans RY.out; go_simp⟩) hH ?_
    try simp only [Act.put, aset]
    obtain ⟨q, hq⟩ : ∃ q, (x == y) = q := ⟨_, rfl⟩
    refine tk 10 (.bool (!q)) 30 rfl rfl (by kernel_rfl) (fun _ _ _ h => h) (by rw [← hq]; exact yif_bin (by rfl) _ _ _ _ _ rfl (.int .i64 x) (.int .i64 y) _ (by rfl) (by rfl) (fun _ => guard_int _ _ _ _ _ _ _ _ _) (fun _ => run_neq_int _ _ _ _)) hH ?_
    try simp only [Act.put, aset]
    have HQ := Lib.hid hq
    clear hq
    refine wpAnyH_done (by kernel_rfl) ?_ _
    clear hH
    cases q
    case false =>
     go_wp2
     go_ret
     exact ⟨⟨false, rfl, ⟨fun h => absurd h Bool.false_ne_true, fun h => absurd (msEq_ls m n its jts ps qs ls ks h) (HNE.out fun h2 => by have := HQ.out; rw [h2] at this; simp at this)⟩⟩, S1.below.drew⟩
    case true =>
     go_wp2_with fail
     go_roundw
     case rel => exact ⟨k + 1, by go_num, by omega, HS.out (eq_of_beq HQ.out), S1.drew⟩
     case measure => simp [intOf]; omega
   case neg =>
    have hil : ls = ks := eq_of_take (by omega) (by omega) HT.out
    have HIL := Lib.hid hil
    clear hil HT i0
    go_upto_region 8 with (fail)
    clear a35
    refine wp_region_lit ?_
    refine wpl_take (v := .pointer (some ⟨w.heap.size, 0, none⟩)) (some 31) rfl (by kernel_rfl) (by go_simp) ?_
    try simp only [Act.put, aset]
    refine wpl_take (v := .int .i64 m.kind) (some 32) rfl (by kernel_rfl) (by have hc : _ = some (.int .i64 m.kind : Value) := S1.ba.cell 0; go_simp) ?_
    try simp only [Act.put, aset]
    refine wpl_take (v := .pointer (some ⟨gh, 0, none⟩)) (some 33) rfl (by kernel_rfl) (by go_simp) ?_
    try simp only [Act.put, aset]
    refine wpl_take (v := .int .i64 n.kind) (some 34) rfl (by kernel_rfl) (by have hc : _ = some (.int .i64 n.kind : Value) := S1.bb.cell 0; go_simp) ?_
    try simp only [Act.put, aset]
    obtain ⟨q0, hq⟩ : ∃ q, (m.kind == n.kind) = q := ⟨_, rfl⟩
    refine wpl_take (v := .bool q0) (some 35) rfl (by kernel_rfl) (by rw [← hq]; exact ex_bin _ _ _ _ _ rfl (.int .i64 m.kind) (.int .i64 n.kind) _ (by kernel_rfl) (by kernel_rfl) (guard_int _ _ _ _ _ _ _ _ _) (run_eql_int _ _ _ _)) ?_
    try simp only [Act.put, aset]
    have HQ0 := Lib.hid hq
    clear hq
    refine wpl_take (v := .bool q0) (some 36) rfl (by kernel_rfl) (by go_simp) ?_
    try simp only [Act.put, aset]
    refine wpl_conj (u1 := .pointer (some ⟨w.heap.size, 1, none⟩)) (u2 := .int .i64 m.frm) (u3 := .pointer (some ⟨gh, 1, none⟩)) (u4 := .int .i64 n.frm) q0 ((m.frm == n.frm)) rfl rfl rfl rfl rfl rfl (by cases q0 <;> kernel_rfl) (by intro _; cases q0 <;> kernel_rfl) (by intro _ _; cases q0 <;> kernel_rfl) (by intro _ _ _; cases q0 <;> kernel_rfl) (by intro _ _ _ _; cases q0 <;> kernel_rfl) (by intro _ _ _ _ _; kernel_rfl) (by go_simp) (by have hc : _ = some (.int .i64 m.frm : Value) := S1.ba.cell 1; go_simp) (by intro _; go_simp) (by have hc : _ = some (.int .i64 n.frm : Value) := S1.bb.cell 1; go_simp) (ex_bin _ _ _ _ _ rfl (.int .i64 m.frm) (.int .i64 n.frm) _ (by kernel_rfl) (by kernel_rfl) (guard_int _ _ _ _ _ _ _ _ _) (run_eql_int _ _ _ _)) (fun _ _ _ _ hb => ex_pick _ _ _ rfl q0 _ (by kernel_rfl) (fun _ => by kernel_rfl) (fun h => by rw [hb] at h; cases h)) (fun _ _ _ _ _ hb => ex_pick _ _ _ rfl q0 _ (by kernel_rfl) (fun h => by rw [hb] at h; cases h) (fun _ => by kernel_rfl)) ?_
    intro j0a j0b j0c j0d j0e
    try simp only [Act.put, aset]
    obtain ⟨q1, hq⟩ : ∃ q', (q0 && (m.frm == n.frm)) = q' := ⟨_, rfl⟩
    rw [hq]
    have HQ1 := Lib.hid hq
    clear hq
    refine wpl_take (v := .bool q1) (some 43) rfl (by kernel_rfl) (by go_simp) ?_
    try simp only [Act.put, aset]
    refine wpl_conj (u1 := .pointer (some ⟨w.heap.size, 2, none⟩)) (u2 := .int .i64 m.to) (u3 := .pointer (some ⟨gh, 2, none⟩)) (u4 := .int .i64 n.to) q1 ((m.to == n.to)) rfl rfl rfl rfl rfl rfl (by cases q1 <;> kernel_rfl) (by intro _; cases q1 <;> kernel_rfl) (by intro _ _; cases q1 <;> kernel_rfl) (by intro _ _ _; cases q1 <;> kernel_rfl) (by intro _ _ _ _; cases q1 <;> kernel_rfl) (by intro _ _ _ _ _; kernel_rfl) (by go_simp) (by have hc : _ = some (.int .i64 m.to : Value) := S1.ba.cell 2; go_simp) (by intro _; go_simp) (by have hc : _ = some (.int .i64 n.to : Value) := S1.bb.cell 2; go_simp) (ex_bin _ _ _ _ _ rfl (.int .i64 m.to) (.int .i64 n.to) _ (by kernel_rfl) (by kernel_rfl) (guard_int _ _ _ _ _ _ _ _ _) (run_eql_int _ _ _ _)) (fun _ _ _ _ hb => ex_pick _ _ _ rfl q1 _ (by kernel_rfl) (fun _ => by kernel_rfl) (fun h => by rw [hb] at h; cases h)) (fun _ _ _ _ _ hb => ex_pick _ _ _ rfl q1 _ (by kernel_rfl) (fun h => by rw [hb] at h; cases h) (fun _ => by kernel_rfl)) ?_
    intro j1a j1b j1c j1d j1e
    try simp only [Act.put, aset]
    obtain ⟨q2, hq⟩ : ∃ q', (q1 && (m.to == n.to)) = q' := ⟨_, rfl⟩
    rw [hq]
    have HQ2 := Lib.hid hq
    clear hq
    refine wpl_take (v := .bool q2) (some 50) rfl (by kernel_rfl) (by go_simp) ?_
    try simp only [Act.put, aset]
    refine wpl_conj (u1 := .pointer (some ⟨w.heap.size, 3, none⟩)) (u2 := .int .i64 m.shard) (u3 := .pointer (some ⟨gh, 3, none⟩)) (u4 := .int .i64 n.shard) q2 ((m.shard == n.shard)) rfl rfl rfl rfl rfl rfl (by cases q2 <;> kernel_rfl) (by intro _; cases q2 <;> kernel_rfl) (by intro _ _; cases q2 <;> kernel_rfl) (by intro _ _ _; cases q2 <;> kernel_rfl) (by intro _ _ _ _; cases q2 <;> kernel_rfl) (by intro _ _ _ _ _; kernel_rfl) (by go_simp) (by have hc : _ = some (.int .i64 m.shard : Value) := S1.ba.cell 3; go_simp) (by intro _; go_simp) (by have hc : _ = some (.int .i64 n.shard : Value) := S1.bb.cell 3; go_simp) (ex_bin _ _ _ _ _ rfl (.int .i64 m.shard) (.int .i64 n.shard) _ (by kernel_rfl) (by kernel_rfl) (guard_int _ _ _ _ _ _ _ _ _) (run_eql_int _ _ _ _)) (fun _ _ _ _ hb => ex_pick _ _ _ rfl q2 _ (by kernel_rfl) (fun _ => by kernel_rfl) (fun h => by rw [hb] at h; cases h)) (fun _ _ _ _ _ hb => ex_pick _ _ _ rfl q2 _ (by kernel_rfl) (fun h => by rw [hb] at h; cases h) (fun _ => by kernel_rfl)) ?_
    intro j2a j2b j2c j2d j2e
    try simp only [Act.put, aset]
    obtain ⟨q3, hq⟩ : ∃ q', (q2 && (m.shard == n.shard)) = q' := ⟨_, rfl⟩
    rw [hq]
    have HQ3 := Lib.hid hq
    clear hq
    refine wpl_take (v := .bool q3) (some 57) rfl (by kernel_rfl) (by go_simp) ?_
    try simp only [Act.put, aset]
    refine wpl_conj (u1 := .pointer (some ⟨w.heap.size, 4, none⟩)) (u2 := .int .i64 m.epoch) (u3 := .pointer (some ⟨gh, 4, none⟩)) (u4 := .int .i64 n.epoch) q3 ((m.epoch == n.epoch)) rfl rfl rfl rfl rfl rfl (by cases q3 <;> kernel_rfl) (by intro _; cases q3 <;> kernel_rfl) (by intro _ _; cases q3 <;> kernel_rfl) (by intro _ _ _; cases q3 <;> kernel_rfl) (by intro _ _ _ _; cases q3 <;> kernel_rfl) (by intro _ _ _ _ _; kernel_rfl) (by go_simp) (by have hc : _ = some (.int .i64 m.epoch : Value) := S1.ba.cell 4; go_simp) (by intro _; go_simp) (by have hc : _ = some (.int .i64 n.epoch : Value) := S1.bb.cell 4; go_simp) (ex_bin _ _ _ _ _ rfl (.int .i64 m.epoch) (.int .i64 n.epoch) _ (by kernel_rfl) (by kernel_rfl) (guard_int _ _ _ _ _ _ _ _ _) (run_eql_int _ _ _ _)) (fun _ _ _ _ hb => ex_pick _ _ _ rfl q3 _ (by kernel_rfl) (fun _ => by kernel_rfl) (fun h => by rw [hb] at h; cases h)) (fun _ _ _ _ _ hb => ex_pick _ _ _ rfl q3 _ (by kernel_rfl) (fun h => by rw [hb] at h; cases h) (fun _ => by kernel_rfl)) ?_
    intro j3a j3b j3c j3d j3e
    try simp only [Act.put, aset]
    obtain ⟨q4, hq⟩ : ∃ q', (q3 && (m.epoch == n.epoch)) = q' := ⟨_, rfl⟩
    rw [hq]
    have HQ4 := Lib.hid hq
    clear hq
    refine wpl_take (v := .bool q4) (some 64) rfl (by kernel_rfl) (by go_simp) ?_
    try simp only [Act.put, aset]
    refine wpl_conj (u1 := .pointer (some ⟨w.heap.size, 5, none⟩)) (u2 := .int .i64 m.move) (u3 := .pointer (some ⟨gh, 5, none⟩)) (u4 := .int .i64 n.move) q4 ((m.move == n.move)) rfl rfl rfl rfl rfl rfl (by cases q4 <;> kernel_rfl) (by intro _; cases q4 <;> kernel_rfl) (by intro _ _; cases q4 <;> kernel_rfl) (by intro _ _ _; cases q4 <;> kernel_rfl) (by intro _ _ _ _; cases q4 <;> kernel_rfl) (by intro _ _ _ _ _; kernel_rfl) (by go_simp) (by have hc : _ = some (.int .i64 m.move : Value) := S1.ba.cell 5; go_simp) (by intro _; go_simp) (by have hc : _ = some (.int .i64 n.move : Value) := S1.bb.cell 5; go_simp) (ex_bin _ _ _ _ _ rfl (.int .i64 m.move) (.int .i64 n.move) _ (by kernel_rfl) (by kernel_rfl) (guard_int _ _ _ _ _ _ _ _ _) (run_eql_int _ _ _ _)) (fun _ _ _ _ hb => ex_pick _ _ _ rfl q4 _ (by kernel_rfl) (fun _ => by kernel_rfl) (fun h => by rw [hb] at h; cases h)) (fun _ _ _ _ _ hb => ex_pick _ _ _ rfl q4 _ (by kernel_rfl) (fun h => by rw [hb] at h; cases h) (fun _ => by kernel_rfl)) ?_
    intro j4a j4b j4c j4d j4e
    try simp only [Act.put, aset]
    obtain ⟨q5, hq⟩ : ∃ q', (q4 && (m.move == n.move)) = q' := ⟨_, rfl⟩
    rw [hq]
    have HQ5 := Lib.hid hq
    clear hq
    refine wpl_take (v := .bool q5) (some 71) rfl (by kernel_rfl) (by go_simp) ?_
    try simp only [Act.put, aset]
    refine wpl_conj (u1 := .pointer (some ⟨w.heap.size, 6, none⟩)) (u2 := .int .i64 m.lease) (u3 := .pointer (some ⟨gh, 6, none⟩)) (u4 := .int .i64 n.lease) q5 ((m.lease == n.lease)) rfl rfl rfl rfl rfl rfl (by cases q5 <;> kernel_rfl) (by intro _; cases q5 <;> kernel_rfl) (by intro _ _; cases q5 <;> kernel_rfl) (by intro _ _ _; cases q5 <;> kernel_rfl) (by intro _ _ _ _; cases q5 <;> kernel_rfl) (by intro _ _ _ _ _; kernel_rfl) (by go_simp) (by have hc : _ = some (.int .i64 m.lease : Value) := S1.ba.cell 6; go_simp) (by intro _; go_simp) (by have hc : _ = some (.int .i64 n.lease : Value) := S1.bb.cell 6; go_simp) (ex_bin _ _ _ _ _ rfl (.int .i64 m.lease) (.int .i64 n.lease) _ (by kernel_rfl) (by kernel_rfl) (guard_int _ _ _ _ _ _ _ _ _) (run_eql_int _ _ _ _)) (fun _ _ _ _ hb => ex_pick _ _ _ rfl q5 _ (by kernel_rfl) (fun _ => by kernel_rfl) (fun h => by rw [hb] at h; cases h)) (fun _ _ _ _ _ hb => ex_pick _ _ _ rfl q5 _ (by kernel_rfl) (fun h => by rw [hb] at h; cases h) (fun _ => by kernel_rfl)) ?_
    intro j5a j5b j5c j5d j5e
    try simp only [Act.put, aset]
    obtain ⟨q6, hq⟩ : ∃ q', (q5 && (m.lease == n.lease)) = q' := ⟨_, rfl⟩
    rw [hq]
    have HQ6 := Lib.hid hq
    clear hq
    refine wpl_take (v := .bool q6) (some 78) rfl (by kernel_rfl) (by go_simp) ?_
    try simp only [Act.put, aset]
    refine wpl_conj (u1 := .pointer (some ⟨w.heap.size, 7, none⟩)) (u2 := .int .i64 m.num) (u3 := .pointer (some ⟨gh, 7, none⟩)) (u4 := .int .i64 n.num) q6 ((m.num == n.num)) rfl rfl rfl rfl rfl rfl (by cases q6 <;> kernel_rfl) (by intro _; cases q6 <;> kernel_rfl) (by intro _ _; cases q6 <;> kernel_rfl) (by intro _ _ _; cases q6 <;> kernel_rfl) (by intro _ _ _ _; cases q6 <;> kernel_rfl) (by intro _ _ _ _ _; kernel_rfl) (by go_simp) (by have hc : _ = some (.int .i64 m.num : Value) := S1.ba.cell 7; go_simp) (by intro _; go_simp) (by have hc : _ = some (.int .i64 n.num : Value) := S1.bb.cell 7; go_simp) (ex_bin _ _ _ _ _ rfl (.int .i64 m.num) (.int .i64 n.num) _ (by kernel_rfl) (by kernel_rfl) (guard_int _ _ _ _ _ _ _ _ _) (run_eql_int _ _ _ _)) (fun _ _ _ _ hb => ex_pick _ _ _ rfl q6 _ (by kernel_rfl) (fun _ => by kernel_rfl) (fun h => by rw [hb] at h; cases h)) (fun _ _ _ _ _ hb => ex_pick _ _ _ rfl q6 _ (by kernel_rfl) (fun h => by rw [hb] at h; cases h) (fun _ => by kernel_rfl)) ?_
    intro j6a j6b j6c j6d j6e
    try simp only [Act.put, aset]
    obtain ⟨q7, hq⟩ : ∃ q', (q6 && (m.num == n.num)) = q' := ⟨_, rfl⟩
    rw [hq]
    have HQ7 := Lib.hid hq
    clear hq
    refine wpl_take (v := .bool q7) (some 85) rfl (by kernel_rfl) (by go_simp) ?_
    try simp only [Act.put, aset]
    refine wpl_conj (u1 := .pointer (some ⟨w.heap.size, 8, none⟩)) (u2 := .int .i64 m.of) (u3 := .pointer (some ⟨gh, 8, none⟩)) (u4 := .int .i64 n.of) q7 ((m.of == n.of)) rfl rfl rfl rfl rfl rfl (by cases q7 <;> kernel_rfl) (by intro _; cases q7 <;> kernel_rfl) (by intro _ _; cases q7 <;> kernel_rfl) (by intro _ _ _; cases q7 <;> kernel_rfl) (by intro _ _ _ _; cases q7 <;> kernel_rfl) (by intro _ _ _ _ _; kernel_rfl) (by go_simp) (by have hc : _ = some (.int .i64 m.of : Value) := S1.ba.cell 8; go_simp) (by intro _; go_simp) (by have hc : _ = some (.int .i64 n.of : Value) := S1.bb.cell 8; go_simp) (ex_bin _ _ _ _ _ rfl (.int .i64 m.of) (.int .i64 n.of) _ (by kernel_rfl) (by kernel_rfl) (guard_int _ _ _ _ _ _ _ _ _) (run_eql_int _ _ _ _)) (fun _ _ _ _ hb => ex_pick _ _ _ rfl q7 _ (by kernel_rfl) (fun _ => by kernel_rfl) (fun h => by rw [hb] at h; cases h)) (fun _ _ _ _ _ hb => ex_pick _ _ _ rfl q7 _ (by kernel_rfl) (fun h => by rw [hb] at h; cases h) (fun _ => by kernel_rfl)) ?_
    intro j7a j7b j7c j7d j7e
    try simp only [Act.put, aset]
    obtain ⟨q8, hq⟩ : ∃ q', (q7 && (m.of == n.of)) = q' := ⟨_, rfl⟩
    rw [hq]
    have HQ8 := Lib.hid hq
    clear hq
    refine wpl_take (v := .bool q8) (some 92) rfl (by kernel_rfl) (by go_simp) ?_
    try simp only [Act.put, aset]
    refine wpl_conj (u1 := .pointer (some ⟨w.heap.size, 9, none⟩)) (u2 := .agg #[.int .i64 m.a, .int .i64 m.t, .int .i64 m.n]) (u3 := .pointer (some ⟨gh, 9, none⟩)) (u4 := .agg #[.int .i64 n.a, .int .i64 n.t, .int .i64 n.n]) q8 (eqSt m.a n.a m.t n.t m.n n.n) rfl rfl rfl rfl rfl rfl (by cases q8 <;> kernel_rfl) (by intro _; cases q8 <;> kernel_rfl) (by intro _ _; cases q8 <;> kernel_rfl) (by intro _ _ _; cases q8 <;> kernel_rfl) (by intro _ _ _ _; cases q8 <;> kernel_rfl) (by intro _ _ _ _ _; kernel_rfl) (by go_simp) (ex_ldm S1.ba 27 _ rfl 9 (by kernel_rfl) ([.int .i64 m.a, .int .i64 m.t, .int .i64 m.n] : List Value) (by kernel_rfl) _ Tryz.underlying27 (by kernel_rfl) (by with_unfolding_all rfl)) (by intro _; go_simp) (ex_ldm S1.bb 27 _ rfl 9 (by kernel_rfl) ([.int .i64 n.a, .int .i64 n.t, .int .i64 n.n] : List Value) (by kernel_rfl) _ Tryz.underlying27 (by kernel_rfl) (by with_unfolding_all rfl)) (ex_bin _ _ _ _ _ rfl (.agg #[.int .i64 m.a, .int .i64 m.t, .int .i64 m.n]) (.agg #[.int .i64 n.a, .int .i64 n.t, .int .i64 n.n]) _ (by kernel_rfl) (by kernel_rfl) (run_eqGuard_agg _ _ _ _ _ _ _ (by kernel_rfl)) (run_eql_St m.a n.a m.t n.t m.n n.n _)) (fun _ _ _ _ hb => ex_pick _ _ _ rfl q8 _ (by kernel_rfl) (fun _ => by kernel_rfl) (fun h => by rw [hb] at h; cases h)) (fun _ _ _ _ _ hb => ex_pick _ _ _ rfl q8 _ (by kernel_rfl) (fun h => by rw [hb] at h; cases h) (fun _ => by kernel_rfl)) ?_
    intro j8a j8b j8c j8d j8e
    try simp only [Act.put, aset]
    obtain ⟨q9, hq⟩ : ∃ q', (q8 && eqSt m.a n.a m.t n.t m.n n.n) = q' := ⟨_, rfl⟩
    rw [hq]
    have HQ9 := Lib.hid hq
    clear hq
    refine wpl_take (v := .bool q9) (some 99) rfl (by kernel_rfl) (by go_simp) ?_
    try simp only [Act.put, aset]
    refine wpl_conj (u1 := .pointer (some ⟨w.heap.size, 12, none⟩)) (u2 := .string ⟨m.text.toArray⟩) (u3 := .pointer (some ⟨gh, 12, none⟩)) (u4 := .string ⟨n.text.toArray⟩) q9 ((m.text == n.text)) rfl rfl rfl rfl rfl rfl (by cases q9 <;> kernel_rfl) (by intro _; cases q9 <;> kernel_rfl) (by intro _ _; cases q9 <;> kernel_rfl) (by intro _ _ _; cases q9 <;> kernel_rfl) (by intro _ _ _ _; cases q9 <;> kernel_rfl) (by intro _ _ _ _ _; kernel_rfl) (by go_simp) (by have hc : _ = some (.string ⟨m.text.toArray⟩ : Value) := S1.ba.cell 12; go_simp) (by intro _; go_simp) (by have hc : _ = some (.string ⟨n.text.toArray⟩ : Value) := S1.bb.cell 12; go_simp) (ex_bin _ _ _ _ _ rfl (.string ⟨m.text.toArray⟩) (.string ⟨n.text.toArray⟩) _ (by kernel_rfl) (by kernel_rfl) (guard_str _ _ _ _ _ _ _) (run_eql_str _ _ _ _)) (fun _ _ _ _ hb => ex_pick _ _ _ rfl q9 _ (by kernel_rfl) (fun _ => by kernel_rfl) (fun h => by rw [hb] at h; cases h)) (fun _ _ _ _ _ hb => ex_pick _ _ _ rfl q9 _ (by kernel_rfl) (fun h => by rw [hb] at h; cases h) (fun _ => by kernel_rfl)) ?_
    intro j9a j9b j9c j9d j9e
    try simp only [Act.put, aset]
    obtain ⟨q10, hq⟩ : ∃ q', (q9 && (m.text == n.text)) = q' := ⟨_, rfl⟩
    rw [hq]
    have HQ10 := Lib.hid hq
    clear hq
    refine wpl_take (v := .bool q10) (some 106) rfl (by kernel_rfl) (by go_simp) ?_
    try simp only [Act.put, aset]
    refine wpl_conj (u1 := .pointer (some ⟨w.heap.size, 13, none⟩)) (u2 := .agg #[.int .i64 m.req.cl, .int .i64 m.req.rq, .int .i64 m.req.kd, .string ⟨m.req.ky.toArray⟩, .string ⟨m.req.vl.toArray⟩, .bool m.req.had, .string ⟨m.req.old.toArray⟩, .int .i64 m.req.a, .int .i64 m.req.t, .int .i64 m.req.n, .string ⟨m.req.hi.toArray⟩, .int .i64 m.req.lim]) (u3 := .pointer (some ⟨gh, 13, none⟩)) (u4 := .agg #[.int .i64 n.req.cl, .int .i64 n.req.rq, .int .i64 n.req.kd, .string ⟨n.req.ky.toArray⟩, .string ⟨n.req.vl.toArray⟩, .bool n.req.had, .string ⟨n.req.old.toArray⟩, .int .i64 n.req.a, .int .i64 n.req.t, .int .i64 n.req.n, .string ⟨n.req.hi.toArray⟩, .int .i64 n.req.lim]) q10 (eqRq m.req.cl n.req.cl m.req.rq n.req.rq m.req.kd n.req.kd m.req.ky n.req.ky m.req.vl n.req.vl m.req.had n.req.had m.req.old n.req.old m.req.a n.req.a m.req.t n.req.t m.req.n n.req.n m.req.hi n.req.hi m.req.lim n.req.lim) rfl rfl rfl rfl rfl rfl (by cases q10 <;> kernel_rfl) (by intro _; cases q10 <;> kernel_rfl) (by intro _ _; cases q10 <;> kernel_rfl) (by intro _ _ _; cases q10 <;> kernel_rfl) (by intro _ _ _ _; cases q10 <;> kernel_rfl) (by intro _ _ _ _ _; kernel_rfl) (by go_simp) (ex_ldm S1.ba 44 _ rfl 13 (by kernel_rfl) ([.int .i64 m.req.cl, .int .i64 m.req.rq, .int .i64 m.req.kd, .string ⟨m.req.ky.toArray⟩, .string ⟨m.req.vl.toArray⟩, .bool m.req.had, .string ⟨m.req.old.toArray⟩, .int .i64 m.req.a, .int .i64 m.req.t, .int .i64 m.req.n, .string ⟨m.req.hi.toArray⟩, .int .i64 m.req.lim] : List Value) (by kernel_rfl) _ Tryz.underlying44 (by kernel_rfl) (by with_unfolding_all rfl)) (by intro _; go_simp) (ex_ldm S1.bb 44 _ rfl 13 (by kernel_rfl) ([.int .i64 n.req.cl, .int .i64 n.req.rq, .int .i64 n.req.kd, .string ⟨n.req.ky.toArray⟩, .string ⟨n.req.vl.toArray⟩, .bool n.req.had, .string ⟨n.req.old.toArray⟩, .int .i64 n.req.a, .int .i64 n.req.t, .int .i64 n.req.n, .string ⟨n.req.hi.toArray⟩, .int .i64 n.req.lim] : List Value) (by kernel_rfl) _ Tryz.underlying44 (by kernel_rfl) (by with_unfolding_all rfl)) (ex_bin _ _ _ _ _ rfl (.agg #[.int .i64 m.req.cl, .int .i64 m.req.rq, .int .i64 m.req.kd, .string ⟨m.req.ky.toArray⟩, .string ⟨m.req.vl.toArray⟩, .bool m.req.had, .string ⟨m.req.old.toArray⟩, .int .i64 m.req.a, .int .i64 m.req.t, .int .i64 m.req.n, .string ⟨m.req.hi.toArray⟩, .int .i64 m.req.lim]) (.agg #[.int .i64 n.req.cl, .int .i64 n.req.rq, .int .i64 n.req.kd, .string ⟨n.req.ky.toArray⟩, .string ⟨n.req.vl.toArray⟩, .bool n.req.had, .string ⟨n.req.old.toArray⟩, .int .i64 n.req.a, .int .i64 n.req.t, .int .i64 n.req.n, .string ⟨n.req.hi.toArray⟩, .int .i64 n.req.lim]) _ (by kernel_rfl) (by kernel_rfl) (run_eqGuard_agg _ _ _ _ _ _ _ (by kernel_rfl)) (run_eql_Rq m.req.cl n.req.cl m.req.rq n.req.rq m.req.kd n.req.kd m.req.ky n.req.ky m.req.vl n.req.vl m.req.had n.req.had m.req.old n.req.old m.req.a n.req.a m.req.t n.req.t m.req.n n.req.n m.req.hi n.req.hi m.req.lim n.req.lim _)) (fun _ _ _ _ hb => ex_pick _ _ _ rfl q10 _ (by kernel_rfl) (fun _ => by kernel_rfl) (fun h => by rw [hb] at h; cases h)) (fun _ _ _ _ _ hb => ex_pick _ _ _ rfl q10 _ (by kernel_rfl) (fun h => by rw [hb] at h; cases h) (fun _ => by kernel_rfl)) ?_
    intro j10a j10b j10c j10d j10e
    try simp only [Act.put, aset]
    obtain ⟨q11, hq⟩ : ∃ q', (q10 && eqRq m.req.cl n.req.cl m.req.rq n.req.rq m.req.kd n.req.kd m.req.ky n.req.ky m.req.vl n.req.vl m.req.had n.req.had m.req.old n.req.old m.req.a n.req.a m.req.t n.req.t m.req.n n.req.n m.req.hi n.req.hi m.req.lim n.req.lim) = q' := ⟨_, rfl⟩
    rw [hq]
    have HQ11 := Lib.hid hq
    clear hq
    have hall : tupM m its ps ls = tupM n jts qs ks → q11 = true := fun h => by rw [← HQ11.out, ← HQ10.out, ← HQ9.out, ← HQ8.out, ← HQ7.out, ← HQ6.out, ← HQ5.out, ← HQ4.out, ← HQ3.out, ← HQ2.out, ← HQ1.out, ← HQ0.out, msEq_n0 m n its jts ps qs ls ks h, msEq_n1 m n its jts ps qs ls ks h, msEq_n2 m n its jts ps qs ls ks h, msEq_n3 m n its jts ps qs ls ks h, msEq_n4 m n its jts ps qs ls ks h, msEq_n5 m n its jts ps qs ls ks h, msEq_n6 m n its jts ps qs ls ks h, msEq_n7 m n its jts ps qs ls ks h, msEq_n8 m n its jts ps qs ls ks h, msEq_n9 m n its jts ps qs ls ks h, msEq_n10 m n its jts ps qs ls ks h, msEq_n11 m n its jts ps qs ls ks h]; rfl
    have hback : q11 = true → anL m.ans its = anL n.ans jts → ps = qs → tupM m its ps ls = tupM n jts qs ks := fun h ha hp => by
     rw [← HQ11.out, ← HQ10.out, ← HQ9.out, ← HQ8.out, ← HQ7.out, ← HQ6.out, ← HQ5.out, ← HQ4.out, ← HQ3.out, ← HQ2.out, ← HQ1.out, ← HQ0.out] at h
     simp only [Bool.and_eq_true] at h
     obtain ⟨⟨⟨⟨⟨⟨⟨⟨⟨⟨⟨c0, c1⟩, c2⟩, c3⟩, c4⟩, c5⟩, c6⟩, c7⟩, c8⟩, c9⟩, c10⟩, c11⟩ := h
     exact msEq_e m n its jts ps qs ls ks c0 c1 c2 c3 c4 c5 c6 c7 c8 c9 c10 c11 ha hp HIL.out
    have HALL := Lib.hid hall
    have HBACK := Lib.hid hback
    clear hall hback HQ0 HQ1 HQ2 HQ3 HQ4 HQ5 HQ6 HQ7 HQ8 HQ9 HQ10 HQ11
    cases q11
    case false =>
     go_wp2
     go_ret
     exact ⟨⟨_, rfl, ⟨fun h => absurd h Bool.false_ne_true, fun h => absurd (HALL.out h) Bool.false_ne_true⟩⟩, S1.below⟩
    case true =>
     go_wp2_with (first | (with_reducible refine wpl_ldmg S1.ba (by with_unfolding_all rfl) 47 _ (by with_unfolding_all rfl) 25 (by with_unfolding_all rfl) [.int .i64 m.ans.er, .int .i64 m.ans.a, .int .i64 m.ans.t, .int .i64 m.ans.n, .bool m.ans.fd, .string ⟨m.ans.vl.toArray⟩, .slice m.ans.itA m.ans.itn m.ans.itc, .string ⟨m.ans.nx.toArray⟩, .bool m.ans.mo] (by with_unfolding_all rfl) _ Tryz.underlying47 (by with_unfolding_all rfl) (by with_unfolding_all rfl) ?_) | (with_reducible refine wpl_ldmg S1.bb (by with_unfolding_all rfl) 47 _ (by with_unfolding_all rfl) 25 (by with_unfolding_all rfl) [.int .i64 n.ans.er, .int .i64 n.ans.a, .int .i64 n.ans.t, .int .i64 n.ans.n, .bool n.ans.fd, .string ⟨n.ans.vl.toArray⟩, .slice n.ans.itA n.ans.itn n.ans.itc, .string ⟨n.ans.nx.toArray⟩, .bool n.ans.mo] (by with_unfolding_all rfl) _ Tryz.underlying47 (by with_unfolding_all rfl) (by with_unfolding_all rfl) ?_))
     refine (saneq_any m.ans n.ans its jts hM.ni hN.ni hM.i63 hN.i63 _ (RdR.more (hM.ri.below S1.below (Nat.le_refl _)) S1.below.size) (RdR.more (hN.ri.below S1.below (Nat.le_refl _)) S1.below.size)).mono ?_
     rintro e v1 ⟨⟨q, rfl, hq⟩, d1⟩
     have S2 := S1.call d1
     have HQ := Lib.hid hq
     clear hq
     have m34 : v1.cell? ⟨w.heap.size, 34, none⟩ = some (.slice m.pA m.pn m.pc) := S2.ba.cell 34
     have n34 : v1.cell? ⟨gh, 34, none⟩ = some (.slice n.pA n.pn n.pc) := S2.bb.cell 34
     cases q
     case false =>
      go_wp2
      go_ret
      exact ⟨⟨_, rfl, ⟨fun h => absurd h Bool.false_ne_true, fun h => absurd (HQ.out.2 (msEq_an m n its jts ps qs ls ks h)) Bool.false_ne_true⟩⟩, S2.below⟩
     case true =>
      go_wp2_with fail
      refine (pleq_any m.pA n.pA m.pn n.pn m.pc n.pc ps qs hM.np hN.np hM.p63 hN.p63 _ (RdR.more (hM.rp.below S2.below (Nat.le_refl _)) S2.below.size) (RdR.more (hN.rp.below S2.below (Nat.le_refl _)) S2.below.size)).mono ?_
      rintro e v2 ⟨⟨q2, rfl, hq2⟩, d2⟩
      have S3 := S2.call d2
      have HQ2 := Lib.hid hq2
      clear hq2 m34 n34
      go_wp2
      go_ret
      exact ⟨⟨_, rfl, ⟨fun h => HBACK.out (by simp) (HQ.out.1 (by simp)) (HQ2.out.1 h), fun h => HQ2.out.2 (msEq_pl m n its jts ps qs ls ks h)⟩⟩, S3.below⟩
end Go.Proofs.YtkoligiilieboaaGreatDoor
