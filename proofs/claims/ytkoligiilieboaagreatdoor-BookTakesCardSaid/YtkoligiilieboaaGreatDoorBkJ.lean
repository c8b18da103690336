/- '==' of structs of plain cells, told by one bool; the document's equality of rows. -/
import Derived.Test.YtkoligiilieboaaGreatDoorMgC
import Derived.Test.YtkoligiilieboaaGreatDoorMgA
import Derived.Laws.StructEq
import Derived.Deep.CutRange
set_option linter.unusedSimpArgs false
set_option linter.unusedVariables false
namespace Go.Proofs.YtkoligiilieboaaGreatDoor
open Go.RowKit
attribute [local go_sem] ByteArray.mk_append_mk ByteArray.extract_mk
attribute [local go_sem ↓] Go.wp_at_zero Go.wp_at_succ
section
variable {β : Type} {X Y : List β} {k : Nat}
theorem take_eq_succ (hk : k < X.length) (hk' : k < Y.length) (h : X.take k = Y.take k) (he : X[k] = Y[k]) : X.take (k + 1) = Y.take (k + 1) := by
 rw [List.take_succ_eq_append_getElem hk, List.take_succ_eq_append_getElem hk', h, he]
theorem ne_at (hk : k < X.length) (hk' : k < Y.length) (he : X[k] ≠ Y[k]) : X ≠ Y := by
 intro h
 subst h
 exact he rfl
theorem eq_of_take (hk : X.length ≤ k) (hk' : Y.length ≤ k) (h : X.take k = Y.take k) : X = Y := by
 rwa [List.take_of_length_le hk, List.take_of_length_le hk'] at h
end
theorem RdR.at {α : Type} {cs : α → List Value} {s : Nat} {w : World} {B : Nat} {A : Option Addr} {xs : List α} (h : RdR cs s w B A xs) (k : Nat) (hk : k < xs.length) :
  ∃ b off, A = some ⟨b, off, none⟩ ∧ b < B ∧ w.rangeAt b (off + k * s) (cs xs[k]) := by
 obtain ⟨b, off, hA, hb, hc⟩ := h (by omega)
 refine ⟨b, off, hA, hb, fun j u hu => ?_⟩
 rw [Nat.add_assoc]
 exact hc k hk j u hu
theorem rng_below {w w' : World} {B b o : Nat} {l : List Value} (h : w.rangeAt b o l) (hb : Below B w w') (hlt : b < B) : w'.rangeAt b o l := fun j v hv => (hb.cell (p := ⟨b, _, none⟩) hlt).trans (h j v hv)
def eqSt (x0 y0 : Int) (x1 y1 : Int) (x2 y2 : Int) : Bool := x0 == y0 && (x1 == y1 && (x2 == y2))
set_option maxRecDepth 100000 in
theorem run_eql_St (x0 y0 : Int) (x1 y1 : Int) (x2 y2 : Int) (w : World) : (binOp .eql 27 (.agg #[.int .i64 x0, .int .i64 x1, .int .i64 x2]) (.agg #[.int .i64 y0, .int .i64 y1, .int .i64 y2])).run Tryz.prog w = .ok (.bool (eqSt x0 y0 x1 y1 x2 y2)) w := by
 unfold eqSt
 cases h0 : x0 == y0
 · simp [h0, go_sem, Tryz.underlying27, Tryz.underlying3]
 cases h1 : x1 == y1
 · simp [h0, h1, go_sem, Tryz.underlying27, Tryz.underlying3]
 cases h2 : x2 == y2
 · simp [h0, h1, h2, go_sem, Tryz.underlying27, Tryz.underlying3]
 simp [h0, h1, h2, go_sem, Tryz.underlying27, Tryz.underlying3]
set_option maxRecDepth 100000 in
theorem run_neq_St (x0 y0 : Int) (x1 y1 : Int) (x2 y2 : Int) (w : World) : (binOp .neq 27 (.agg #[.int .i64 x0, .int .i64 x1, .int .i64 x2]) (.agg #[.int .i64 y0, .int .i64 y1, .int .i64 y2])).run Tryz.prog w = .ok (.bool (!eqSt x0 y0 x1 y1 x2 y2)) w := by
 unfold eqSt
 cases h0 : x0 == y0
 · simp [h0, go_sem, Tryz.underlying27, Tryz.underlying3]
 cases h1 : x1 == y1
 · simp [h0, h1, go_sem, Tryz.underlying27, Tryz.underlying3]
 cases h2 : x2 == y2
 · simp [h0, h1, h2, go_sem, Tryz.underlying27, Tryz.underlying3]
 simp [h0, h1, h2, go_sem, Tryz.underlying27, Tryz.underlying3]
def eqIt (x0 y0 : List UInt8) (x1 y1 : List UInt8) : Bool := x0 == y0 && (x1 == y1)
theorem eqIt_iff {x0 y0 : List UInt8} {x1 y1 : List UInt8} : eqIt x0 y0 x1 y1 = true ↔ (x0, x1) = (y0, y1) := by simp [eqIt]
set_option maxRecDepth 100000 in
theorem run_neq_It (x0 y0 : List UInt8) (x1 y1 : List UInt8) (w : World) : (binOp .neq 79 (.agg #[.string ⟨x0.toArray⟩, .string ⟨x1.toArray⟩]) (.agg #[.string ⟨y0.toArray⟩, .string ⟨y1.toArray⟩])).run Tryz.prog w = .ok (.bool (!eqIt x0 y0 x1 y1)) w := by
 unfold eqIt
 cases h0 : x0 == y0
 · simp [h0, go_sem, Tryz.underlying79, Tryz.underlying9]
 cases h1 : x1 == y1
 · simp [h0, h1, go_sem, Tryz.underlying79, Tryz.underlying9]
 simp [h0, h1, go_sem, Tryz.underlying79, Tryz.underlying9]
def eqSp (x0 y0 : List UInt8) (x1 y1 : List UInt8) : Bool := x0 == y0 && (x1 == y1)
set_option maxRecDepth 100000 in
theorem run_eql_Sp (x0 y0 : List UInt8) (x1 y1 : List UInt8) (w : World) : (binOp .eql 24 (.agg #[.string ⟨x0.toArray⟩, .string ⟨x1.toArray⟩]) (.agg #[.string ⟨y0.toArray⟩, .string ⟨y1.toArray⟩])).run Tryz.prog w = .ok (.bool (eqSp x0 y0 x1 y1)) w := by
 unfold eqSp
 cases h0 : x0 == y0
 · simp [h0, go_sem, Tryz.underlying24, Tryz.underlying9]
 cases h1 : x1 == y1
 · simp [h0, h1, go_sem, Tryz.underlying24, Tryz.underlying9]
 simp [h0, h1, go_sem, Tryz.underlying24, Tryz.underlying9]
def eqPl (x0 y0 : List UInt8) (x1 y1 : List UInt8) (x2 y2 : Int) (x3 y3 : Int) (x4 y4 : Int) : Bool := x0 == y0 && (x1 == y1 && (x2 == y2 && (x3 == y3 && (x4 == y4))))
theorem eqPl_iff {x0 y0 : List UInt8} {x1 y1 : List UInt8} {x2 y2 : Int} {x3 y3 : Int} {x4 y4 : Int} : eqPl x0 y0 x1 y1 x2 y2 x3 y3 x4 y4 = true ↔ (x0, x1, x2, x3, x4) = (y0, y1, y2, y3, y4) := by simp [eqPl]
set_option maxRecDepth 100000 in
theorem run_neq_Pl (x0 y0 : List UInt8) (x1 y1 : List UInt8) (x2 y2 : Int) (x3 y3 : Int) (x4 y4 : Int) (w : World) : (binOp .neq 81 (.agg #[.string ⟨x0.toArray⟩, .string ⟨x1.toArray⟩, .int .i64 x2, .int .i64 x3, .int .i64 x4]) (.agg #[.string ⟨y0.toArray⟩, .string ⟨y1.toArray⟩, .int .i64 y2, .int .i64 y3, .int .i64 y4])).run Tryz.prog w = .ok (.bool (!eqPl x0 y0 x1 y1 x2 y2 x3 y3 x4 y4)) w := by
 unfold eqPl
 cases h0 : x0 == y0
 · simp [h0, go_sem, Tryz.underlying81, Tryz.underlying24, Tryz.underlying9, Tryz.underlying3]
 cases h1 : x1 == y1
 · simp [h0, h1, go_sem, Tryz.underlying81, Tryz.underlying24, Tryz.underlying9, Tryz.underlying3]
 cases h2 : x2 == y2
 · simp [h0, h1, h2, go_sem, Tryz.underlying81, Tryz.underlying24, Tryz.underlying9, Tryz.underlying3]
 cases h3 : x3 == y3
 · simp [h0, h1, h2, h3, go_sem, Tryz.underlying81, Tryz.underlying24, Tryz.underlying9, Tryz.underlying3]
 cases h4 : x4 == y4
 · simp [h0, h1, h2, h3, h4, go_sem, Tryz.underlying81, Tryz.underlying24, Tryz.underlying9, Tryz.underlying3]
 simp [h0, h1, h2, h3, h4, go_sem, Tryz.underlying81, Tryz.underlying24, Tryz.underlying9, Tryz.underlying3]
def eqVs (x0 y0 : Int) (x1 y1 : Int) (x2 y2 : Int) (x3 y3 : Bool) (x4 y4 : List UInt8) : Bool := x0 == y0 && (x1 == y1 && (x2 == y2 && (x3 == y3 && (x4 == y4))))
theorem eqVs_iff {x0 y0 : Int} {x1 y1 : Int} {x2 y2 : Int} {x3 y3 : Bool} {x4 y4 : List UInt8} : eqVs x0 y0 x1 y1 x2 y2 x3 y3 x4 y4 = true ↔ (x0, x1, x2, x3, x4) = (y0, y1, y2, y3, y4) := by simp [eqVs]
set_option maxRecDepth 100000 in
theorem run_neq_Vs (x0 y0 : Int) (x1 y1 : Int) (x2 y2 : Int) (x3 y3 : Bool) (x4 y4 : List UInt8) (w : World) : (binOp .neq 105 (.agg #[.int .i64 x0, .int .i64 x1, .int .i64 x2, .bool x3, .string ⟨x4.toArray⟩]) (.agg #[.int .i64 y0, .int .i64 y1, .int .i64 y2, .bool y3, .string ⟨y4.toArray⟩])).run Tryz.prog w = .ok (.bool (!eqVs x0 y0 x1 y1 x2 y2 x3 y3 x4 y4)) w := by
 unfold eqVs
 cases h0 : x0 == y0
 · simp [h0, go_sem, Tryz.underlying105, Tryz.underlying27, Tryz.underlying9, Tryz.underlying3, Tryz.underlying4]
 cases h1 : x1 == y1
 · simp [h0, h1, go_sem, Tryz.underlying105, Tryz.underlying27, Tryz.underlying9, Tryz.underlying3, Tryz.underlying4]
 cases h2 : x2 == y2
 · simp [h0, h1, h2, go_sem, Tryz.underlying105, Tryz.underlying27, Tryz.underlying9, Tryz.underlying3, Tryz.underlying4]
 cases h3 : x3 == y3
 · simp [h0, h1, h2, h3, go_sem, Tryz.underlying105, Tryz.underlying27, Tryz.underlying9, Tryz.underlying3, Tryz.underlying4]
 cases h4 : x4 == y4
 · simp [h0, h1, h2, h3, h4, go_sem, Tryz.underlying105, Tryz.underlying27, Tryz.underlying9, Tryz.underlying3, Tryz.underlying4]
 simp [h0, h1, h2, h3, h4, go_sem, Tryz.underlying105, Tryz.underlying27, Tryz.underlying9, Tryz.underlying3, Tryz.underlying4]
def eqRq (x0 y0 : Int) (x1 y1 : Int) (x2 y2 : Int) (x3 y3 : List UInt8) (x4 y4 : List UInt8) (x5 y5 : Bool) (x6 y6 : List UInt8) (x7 y7 : Int) (x8 y8 : Int) (x9 y9 : Int) (x10 y10 : List UInt8) (x11 y11 : Int) : Bool := x0 == y0 && (x1 == y1 && (x2 == y2 && (x3 == y3 && (x4 == y4 && (x5 == y5 && (x6 == y6 && (x7 == y7 && (x8 == y8 && (x9 == y9 && (x10 == y10 && (x11 == y11)))))))))))
set_option maxRecDepth 100000 in
theorem run_eql_Rq (x0 y0 : Int) (x1 y1 : Int) (x2 y2 : Int) (x3 y3 : List UInt8) (x4 y4 : List UInt8) (x5 y5 : Bool) (x6 y6 : List UInt8) (x7 y7 : Int) (x8 y8 : Int) (x9 y9 : Int) (x10 y10 : List UInt8) (x11 y11 : Int) (w : World) : (binOp .eql 44 (.agg #[.int .i64 x0, .int .i64 x1, .int .i64 x2, .string ⟨x3.toArray⟩, .string ⟨x4.toArray⟩, .bool x5, .string ⟨x6.toArray⟩, .int .i64 x7, .int .i64 x8, .int .i64 x9, .string ⟨x10.toArray⟩, .int .i64 x11]) (.agg #[.int .i64 y0, .int .i64 y1, .int .i64 y2, .string ⟨y3.toArray⟩, .string ⟨y4.toArray⟩, .bool y5, .string ⟨y6.toArray⟩, .int .i64 y7, .int .i64 y8, .int .i64 y9, .string ⟨y10.toArray⟩, .int .i64 y11])).run Tryz.prog w = .ok (.bool (eqRq x0 y0 x1 y1 x2 y2 x3 y3 x4 y4 x5 y5 x6 y6 x7 y7 x8 y8 x9 y9 x10 y10 x11 y11)) w := by
 unfold eqRq
 cases h0 : x0 == y0
 · simp [h0, go_sem, Tryz.underlying44, Tryz.underlying27, Tryz.underlying9, Tryz.underlying3, Tryz.underlying4]
 cases h1 : x1 == y1
 · simp [h0, h1, go_sem, Tryz.underlying44, Tryz.underlying27, Tryz.underlying9, Tryz.underlying3, Tryz.underlying4]
 cases h2 : x2 == y2
 · simp [h0, h1, h2, go_sem, Tryz.underlying44, Tryz.underlying27, Tryz.underlying9, Tryz.underlying3, Tryz.underlying4]
 cases h3 : x3 == y3
 · simp [h0, h1, h2, h3, go_sem, Tryz.underlying44, Tryz.underlying27, Tryz.underlying9, Tryz.underlying3, Tryz.underlying4]
 cases h4 : x4 == y4
 · simp [h0, h1, h2, h3, h4, go_sem, Tryz.underlying44, Tryz.underlying27, Tryz.underlying9, Tryz.underlying3, Tryz.underlying4]
 cases h5 : x5 == y5
 · simp [h0, h1, h2, h3, h4, h5, go_sem, Tryz.underlying44, Tryz.underlying27, Tryz.underlying9, Tryz.underlying3, Tryz.underlying4]
 cases h6 : x6 == y6
 · simp [h0, h1, h2, h3, h4, h5, h6, go_sem, Tryz.underlying44, Tryz.underlying27, Tryz.underlying9, Tryz.underlying3, Tryz.underlying4]
 cases h7 : x7 == y7
 · simp [h0, h1, h2, h3, h4, h5, h6, h7, go_sem, Tryz.underlying44, Tryz.underlying27, Tryz.underlying9, Tryz.underlying3, Tryz.underlying4]
 cases h8 : x8 == y8
 · simp [h0, h1, h2, h3, h4, h5, h6, h7, h8, go_sem, Tryz.underlying44, Tryz.underlying27, Tryz.underlying9, Tryz.underlying3, Tryz.underlying4]
 cases h9 : x9 == y9
 · simp [h0, h1, h2, h3, h4, h5, h6, h7, h8, h9, go_sem, Tryz.underlying44, Tryz.underlying27, Tryz.underlying9, Tryz.underlying3, Tryz.underlying4]
 cases h10 : x10 == y10
 · simp [h0, h1, h2, h3, h4, h5, h6, h7, h8, h9, h10, go_sem, Tryz.underlying44, Tryz.underlying27, Tryz.underlying9, Tryz.underlying3, Tryz.underlying4]
 cases h11 : x11 == y11
 · simp [h0, h1, h2, h3, h4, h5, h6, h7, h8, h9, h10, h11, go_sem, Tryz.underlying44, Tryz.underlying27, Tryz.underlying9, Tryz.underlying3, Tryz.underlying4]
 simp [h0, h1, h2, h3, h4, h5, h6, h7, h8, h9, h10, h11, go_sem, Tryz.underlying44, Tryz.underlying27, Tryz.underlying9, Tryz.underlying3, Tryz.underlying4]
section
variable {P : Program}
theorem yif_bin {ops : Array Oper} {S : World → Prop} {op : Oper} {a : Act} (hw : Region.wanted op (yielded ops a.tmps) = true) (b : BinOp) (t u : TypeId) (x y : Operand) (ho : op.op = .binOp b t x y u) (X Y v : Value)
  (hx : a.eval x = X) (hy : a.eval y = Y) (hg : ∀ w, (eqGuard b t x y X Y).run P w = .ok () w) (hr : ∀ w, (Go.binOp b t X Y).run P w = .ok v w) : YieldsIf P ops S op v a :=
 .inl ⟨hw, fun w _ => by
  unfold execOp
  simp only [ho, hx, hy, Sem.run_bind, hg, Result.andThen_ok, hr, Sem.run_pure]⟩
theorem guard_int (b : BinOp) (t : TypeId) (x y : Operand) (k k' : IntKind) (i j : Int) (w : World) : (eqGuard b t x y (.int k i) (.int k' j)).run P w = .ok () w := by
 cases b <;> simp [eqGuard]
theorem run_neq_int (t : TypeId) (i j : Int) (w : World) : (Go.binOp .neq t (.int .i64 i) (.int .i64 j)).run P w = .ok (.bool (!(i == j))) w := by
 simp [Go.binOp, Op.intCmp, bne, go_sem]
end
def EqPost {β : Type} (X Y : β) (w : World) (e : Ending) (w' : World) : Prop := (∃ q : Bool, e = .returned (.bool q) ∧ (q = true ↔ X = Y)) ∧ Below w.heap.size w w'
set_option maxHeartbeats 1600000 in
set_option maxRecDepth 100000 in
theorem pleq_any (A A' : Option Addr) (n n' c c' : Nat) (xs ys : List Pl) (hx : xs.length = n) (hy : ys.length = n') (hm : n ≤ 9223372036854775807) (hm' : n' ≤ 9223372036854775807) (w : World) (hR : RdR plC 5 w w.heap.size A xs) (hR' : RdR plC 5 w w.heap.size A' ys) :
  Calls Tryz.prog 42 #[.slice A n c, .slice A' n' c'] w (EqPost xs ys w) := by
 by_cases hn : n = n'
 case neg =>
  have b1 : ((n : Int) != (n' : Int)) = true := by simp; omega
  have b2 : ((n : Int) == (n' : Int)) = false := by simp; omega
  go_enter Tryz.func42, Tryz.ntmps42
  go_wp2
  go_ret
  exact ⟨⟨false, rfl, by simp; intro h; subst h; omega⟩, Below.refl _ _⟩
 case pos =>
  subst hn
  go_enter Tryz.func42, Tryz.ntmps42
  go_wp2_with fail
  go_loopw [5] (fun i wr => ∃ k : Nat, i = .int .i64 k ∧ k ≤ n ∧ xs.take k = ys.take k ∧ Below w.heap.size w wr) (fun i _ => n - (intOf i).toNat)
  case atStart => exact ⟨0, rfl, Nat.zero_le _, rfl, Below.refl _ _⟩
  case round =>
   obtain ⟨k, rfl, hk, ht, hb⟩ := hrel
   have i0 : (0 : Int) ≤ (k : Int) := by omega
   have HT := Lib.hid ht
   clear ht
   by_cases hlt : k < n
   case pos =>
    have i1 : (k : Int) < (n : Int) := by omega
    obtain ⟨b, off, rfl, hbB, rx⟩ := hR.at k (by omega)
    obtain ⟨b', off', rfl, hbB', ry⟩ := hR'.at k (by omega)
    have hs := fun (he : xs[k]'(by omega) = ys[k]'(by omega)) => take_eq_succ (by omega) (by omega) HT.out he
    have hne := fun (he : xs[k]'(by omega) ≠ ys[k]'(by omega)) => ne_at (by omega) (by omega) he
    obtain ⟨x, hxk⟩ : ∃ x, xs[k]'(by omega) = x := ⟨_, rfl⟩
    obtain ⟨y, hyk⟩ : ∃ y, ys[k]'(by omega) = y := ⟨_, rfl⟩
    rw [hxk] at rx hs hne
    rw [hyk] at ry hs hne
    have HS := Lib.hid hs
    have HNE := Lib.hid hne
    clear hxk hyk hs hne
    go_wp2_with fail
    refine wp_region_held_drew (S := (fun W' => Below w.heap.size w W')) (by kernel_rfl) hb.drew (fun hH => ?_)
    refine tk 0 (.slice (some ⟨b, off, none⟩) n c) 17 rfl rfl (by kernel_rfl) (fun _ _ _ h => h) (.inl ⟨by rfl, by intro W' hS; go_simp⟩) hH ?_
    try simp only [Act.put, aset]
    refine tk 1 (.int .i64 k) 18 rfl rfl (by kernel_rfl) (fun _ _ _ h => h) (.inl ⟨by rfl, by intro W' hS; go_simp⟩) hH ?_
    try simp only [Act.put, aset]
    refine tk 2 (.pointer (some ⟨b, off + k * 5, none⟩)) 19 rfl rfl (by kernel_rfl) (fun _ _ _ h => h) (.inl ⟨by rfl, by intro W' hS; go_simp⟩) hH ?_
    try simp only [Act.put, aset]
    refine tk 3 (.agg #[.string ⟨x.lo.toArray⟩, .string ⟨x.hi.toArray⟩, .int .i64 x.sh, .int .i64 x.ce, .int .i64 x.ep]) 20 rfl rfl (by kernel_rfl) (fun _ _ _ h => h) (yieldsIf_load_mid (by rfl) 81 _ rfl (b) (off + k * 5) (by rfl) [.string ⟨x.lo.toArray⟩, .string ⟨x.hi.toArray⟩, .int .i64 x.sh, .int .i64 x.ce, .int .i64 x.ep] _ (fun _ h => rng_below rx h hbB) Tryz.underlying81 (by with_unfolding_all rfl) (by with_unfolding_all rfl)) hH ?_
    try simp only [Act.put, aset]
    refine tk 4 (.slice (some ⟨b', off', none⟩) n c') 21 rfl rfl (by kernel_rfl) (fun _ _ _ h => h) (.inl ⟨by rfl, by intro W' hS; go_simp⟩) hH ?_
    try simp only [Act.put, aset]
    refine tk 5 (.int .i64 k) 22 rfl rfl (by kernel_rfl) (fun _ _ _ h => h) (.inl ⟨by rfl, by intro W' hS; go_simp⟩) hH ?_
    try simp only [Act.put, aset]
    refine tk 6 (.pointer (some ⟨b', off' + k * 5, none⟩)) 23 rfl rfl (by kernel_rfl) (fun _ _ _ h => h) (.inl ⟨by rfl, by intro W' hS; go_simp⟩) hH ?_
    try simp only [Act.put, aset]
    refine tk 7 (.agg #[.string ⟨y.lo.toArray⟩, .string ⟨y.hi.toArray⟩, .int .i64 y.sh, .int .i64 y.ce, .int .i64 y.ep]) 24 rfl rfl (by kernel_rfl) (fun _ _ _ h => h) (yieldsIf_load_mid (by rfl) 81 _ rfl (b') (off' + k * 5) (by rfl) [.string ⟨y.lo.toArray⟩, .string ⟨y.hi.toArray⟩, .int .i64 y.sh, .int .i64 y.ce, .int .i64 y.ep] _ (fun _ h => rng_below ry h hbB') Tryz.underlying81 (by with_unfolding_all rfl) (by with_unfolding_all rfl)) hH ?_
    try simp only [Act.put, aset]
    obtain ⟨q, hq⟩ : ∃ q, eqPl x.lo y.lo x.hi y.hi x.sh y.sh x.ce y.ce x.ep y.ep = q := ⟨_, rfl⟩
    refine tk 8 (.bool (!q)) 25 rfl rfl (by kernel_rfl) (fun _ _ _ h => h) (by rw [← hq]; exact yif_bin (by rfl) _ _ _ _ _ rfl (.agg #[.string ⟨x.lo.toArray⟩, .string ⟨x.hi.toArray⟩, .int .i64 x.sh, .int .i64 x.ce, .int .i64 x.ep]) (.agg #[.string ⟨y.lo.toArray⟩, .string ⟨y.hi.toArray⟩, .int .i64 y.sh, .int .i64 y.ce, .int .i64 y.ep]) _ (by rfl) (by rfl) (fun _ => run_eqGuard_agg _ _ _ _ _ _ _ (by kernel_rfl)) (fun w => run_neq_Pl x.lo y.lo x.hi y.hi x.sh y.sh x.ce y.ce x.ep y.ep w)) hH ?_
    try simp only [Act.put, aset]
    have HQ := Lib.hid hq
    clear hq
    refine wpAnyH_done (by kernel_rfl) ?_ _
    clear hH
    cases q
    case false =>
     go_wp2
     go_ret
     exact ⟨⟨false, rfl, by simp; refine HNE.out fun h => ?_; subst h; have := HQ.out; simp [eqPl] at this⟩, hb.drew⟩
    case true =>
     go_wp2_with fail
     go_roundw
     case rel => exact ⟨k + 1, by go_num, by omega, HS.out (by have := eqPl_iff.1 HQ.out; cases x; cases y; simp_all), hb.drew⟩
     case measure => simp [intOf]; omega
   case neg =>
    go_wp2
    go_ret
    exact ⟨⟨true, rfl, by simp; exact eq_of_take (by omega) (by omega) HT.out⟩, hb⟩
set_option maxHeartbeats 1600000 in
set_option maxRecDepth 100000 in
theorem vseq_any (A A' : Option Addr) (n n' c c' : Nat) (xs ys : List Vs) (hx : xs.length = n) (hy : ys.length = n') (hm : n ≤ 9223372036854775807) (hm' : n' ≤ 9223372036854775807) (w : World) (hR : RdR vsC 5 w w.heap.size A xs) (hR' : RdR vsC 5 w w.heap.size A' ys) :
  Calls Tryz.prog 82 #[.slice A n c, .slice A' n' c'] w (EqPost xs ys w) := by
 by_cases hn : n = n'
 case neg =>
  have b1 : ((n : Int) != (n' : Int)) = true := by simp; omega
  have b2 : ((n : Int) == (n' : Int)) = false := by simp; omega
  go_enter Tryz.func82, Tryz.ntmps82
  go_wp2
  go_ret
  exact ⟨⟨false, rfl, by simp; intro h; subst h; omega⟩, Below.refl _ _⟩
 case pos =>
  subst hn
  go_enter Tryz.func82, Tryz.ntmps82
  go_wp2_with fail
  go_loopw [5] (fun i wr => ∃ k : Nat, i = .int .i64 k ∧ k ≤ n ∧ xs.take k = ys.take k ∧ Below w.heap.size w wr) (fun i _ => n - (intOf i).toNat)
  case atStart => exact ⟨0, rfl, Nat.zero_le _, rfl, Below.refl _ _⟩
  case round =>
   obtain ⟨k, rfl, hk, ht, hb⟩ := hrel
   have i0 : (0 : Int) ≤ (k : Int) := by omega
   have HT := Lib.hid ht
   clear ht
   by_cases hlt : k < n
   case pos =>
    have i1 : (k : Int) < (n : Int) := by omega
    obtain ⟨b, off, rfl, hbB, rx⟩ := hR.at k (by omega)
    obtain ⟨b', off', rfl, hbB', ry⟩ := hR'.at k (by omega)
    have hs := fun (he : xs[k]'(by omega) = ys[k]'(by omega)) => take_eq_succ (by omega) (by omega) HT.out he
    have hne := fun (he : xs[k]'(by omega) ≠ ys[k]'(by omega)) => ne_at (by omega) (by omega) he
    obtain ⟨x, hxk⟩ : ∃ x, xs[k]'(by omega) = x := ⟨_, rfl⟩
    obtain ⟨y, hyk⟩ : ∃ y, ys[k]'(by omega) = y := ⟨_, rfl⟩
    rw [hxk] at rx hs hne
    rw [hyk] at ry hs hne
    have HS := Lib.hid hs
    have HNE := Lib.hid hne
    clear hxk hyk hs hne
    go_wp2_with fail
    refine wp_region_held_drew (S := (fun W' => Below w.heap.size w W')) (by kernel_rfl) hb.drew (fun hH => ?_)
    refine tk 0 (.slice (some ⟨b, off, none⟩) n c) 17 rfl rfl (by kernel_rfl) (fun _ _ _ h => h) (.inl ⟨by rfl, by intro W' hS; go_simp⟩) hH ?_
    try simp only [Act.put, aset]
    refine tk 1 (.int .i64 k) 18 rfl rfl (by kernel_rfl) (fun _ _ _ h => h) (.inl ⟨by rfl, by intro W' hS; go_simp⟩) hH ?_
    try simp only [Act.put, aset]
    refine tk 2 (.pointer (some ⟨b, off + k * 5, none⟩)) 19 rfl rfl (by kernel_rfl) (fun _ _ _ h => h) (.inl ⟨by rfl, by intro W' hS; go_simp⟩) hH ?_
    try simp only [Act.put, aset]
    refine tk 3 (.agg #[.int .i64 x.a, .int .i64 x.t, .int .i64 x.n, .bool x.gone, .string ⟨x.val.toArray⟩]) 20 rfl rfl (by kernel_rfl) (fun _ _ _ h => h) (yieldsIf_load_mid (by rfl) 105 _ rfl (b) (off + k * 5) (by rfl) [.int .i64 x.a, .int .i64 x.t, .int .i64 x.n, .bool x.gone, .string ⟨x.val.toArray⟩] _ (fun _ h => rng_below rx h hbB) Tryz.underlying105 (by with_unfolding_all rfl) (by with_unfolding_all rfl)) hH ?_
    try simp only [Act.put, aset]
    refine tk 4 (.slice (some ⟨b', off', none⟩) n c') 21 rfl rfl (by kernel_rfl) (fun _ _ _ h => h) (.inl ⟨by rfl, by intro W' hS; go_simp⟩) hH ?_
    try simp only [Act.put, aset]
    refine tk 5 (.int .i64 k) 22 rfl rfl (by kernel_rfl) (fun _ _ _ h => h) (.inl ⟨by rfl, by intro W' hS; go_simp⟩) hH ?_
    try simp only [Act.put, aset]
    refine tk 6 (.pointer (some ⟨b', off' + k * 5, none⟩)) 23 rfl rfl (by kernel_rfl) (fun _ _ _ h => h) (.inl ⟨by rfl, by intro W' hS; go_simp⟩) hH ?_
    try simp only [Act.put, aset]
    refine tk 7 (.agg #[.int .i64 y.a, .int .i64 y.t, .int .i64 y.n, .bool y.gone, .string ⟨y.val.toArray⟩]) 24 rfl rfl (by kernel_rfl) (fun _ _ _ h => h) (yieldsIf_load_mid (by rfl) 105 _ rfl (b') (off' + k * 5) (by rfl) [.int .i64 y.a, .int .i64 y.t, .int .i64 y.n, .bool y.gone, .string ⟨y.val.toArray⟩] _ (fun _ h => rng_below ry h hbB') Tryz.underlying105 (by with_unfolding_all rfl) (by with_unfolding_all rfl)) hH ?_
    try simp only [Act.put, aset]
    obtain ⟨q, hq⟩ : ∃ q, eqVs x.a y.a x.t y.t x.n y.n x.gone y.gone x.val y.val = q := ⟨_, rfl⟩
    refine tk 8 (.bool (!q)) 25 rfl rfl (by kernel_rfl) (fun _ _ _ h => h) (by rw [← hq]; exact yif_bin (by rfl) _ _ _ _ _ rfl (.agg #[.int .i64 x.a, .int .i64 x.t, .int .i64 x.n, .bool x.gone, .string ⟨x.val.toArray⟩]) (.agg #[.int .i64 y.a, .int .i64 y.t, .int .i64 y.n, .bool y.gone, .string ⟨y.val.toArray⟩]) _ (by rfl) (by rfl) (fun _ => run_eqGuard_agg _ _ _ _ _ _ _ (by kernel_rfl)) (fun w => run_neq_Vs x.a y.a x.t y.t x.n y.n x.gone y.gone x.val y.val w)) hH ?_
    try simp only [Act.put, aset]
    have HQ := Lib.hid hq
    clear hq
    refine wpAnyH_done (by kernel_rfl) ?_ _
    clear hH
    cases q
    case false =>
     go_wp2
     go_ret
     exact ⟨⟨false, rfl, by simp; refine HNE.out fun h => ?_; subst h; have := HQ.out; simp [eqVs] at this⟩, hb.drew⟩
    case true =>
     go_wp2_with fail
     go_roundw
     case rel => exact ⟨k + 1, by go_num, by omega, HS.out (by have := eqVs_iff.1 HQ.out; cases x; cases y; simp_all), hb.drew⟩
     case measure => simp [intOf]; omega
   case neg =>
    go_wp2
    go_ret
    exact ⟨⟨true, rfl, by simp; exact eq_of_take (by omega) (by omega) HT.out⟩, hb⟩
end Go.Proofs.YtkoligiilieboaaGreatDoor
