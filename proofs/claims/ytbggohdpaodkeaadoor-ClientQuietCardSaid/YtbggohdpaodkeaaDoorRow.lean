/- Whole rows read and written by one law each. -/
import Derived.Test.YtbggohdpaodkeaaDoorBlk
import Derived.Laws.Tables
import Derived.Deep.WholeRow
namespace Go.Proofs.YtbggohdpaodkeaaDoor
open Go.RowKit
section
variable {P : Program} {w : World} {g : Nat} {t : TypeId} {cs : Array Value}
theorem addr_add (g o j : Nat) : (⟨g, o, none⟩ : Addr).add j = ⟨g, o + j, none⟩ := by unfold Addr.add; split <;> simp_all
/-- a stretch of a block that is known whole -/
theorem Blk.ld (h : Blk w g t cs) (o k : Nat) (out : List Value) (hl : out.length = k) (ho : (cs.toList.drop o).take k = out) : (loadCellsFrom ⟨g, o, none⟩ 0 k #[]).run P w = .ok out.toArray w := by
  subst hl
  have := run_loadCells_list (P := P) w ⟨g, o, none⟩ out (fun j v hv => by
    rw [addr_add, h.cell (o + j)]
    rw [← ho, List.getElem?_take] at hv
    split at hv
    · rw [List.getElem?_drop] at hv
      simpa using hv
    · cases hv)
  simpa [loadCells] using this
/-- a block that is known whole is written whole -/
theorem Blk.st (h : Blk w g t cs) (vs : List Value) (hl : vs.length = cs.size) (h1 : (vs.all (·.oneCell')) = true) : (storeCells ⟨g, 0, none⟩ vs 0).run P w = .ok () (w.setRow g vs.toArray) := by
  have := run_storeCells_from (P := P) g t vs 0 cs w h (by omega) (fun v hv => List.all_eq_true.1 h1 v hv)
  simpa using this
theorem Blk.row (h : Blk w g t cs) (vs : Array Value) : Blk (w.setRow g vs) g t vs := setRow_heap w g cs vs t (0, 0) h
theorem Blk.row_far (h : Blk w g t cs) {g' : Nat} (hg : g ≠ g') (vs : Array Value) : Blk (w.setRow g' vs) g t cs := (setRow_other w g' g vs hg).trans h
theorem below_row {B : Nat} {a : World} (h : Below B a w) (hg : B ≤ g) (vs : Array Value) : Below B a (w.setRow g vs) :=
  h.trans ⟨rfl, rfl, rfl, by simp [World.setRow], fun i hi => setRow_other w g i vs (by omega)⟩
theorem size_row (w : World) (g : Nat) (vs : Array Value) : (w.setRow g vs).heap.size = w.heap.size := by simp [World.setRow]
/-- a whole block is read by one operation, in a list of operations -/
theorem wpl_ld {ops : Array Oper} {rest : List Oper} {op : Oper} {a : Act} {Q : Exit → Act → World → Prop} (H : Blk w g t cs) (hgd : op.guard = none) (ty : TypeId) (x : Operand) (ho : op.op = .load ty x)
    (hx : a.eval x = .pointer (some ⟨g, 0, none⟩)) (d : TypeDesc) (hu : P.underlying ty = some d) (hd : (match d with | .struct _ | .array _ _ => true | _ => false) = true) (hi : (P.info? ty).map (·.size) = some cs.size)
    (h : wpList P ops Q rest (a.put op.dst (.agg cs)) w) : wpList P ops Q (op :: rest) a w :=
  wpList_load_row hgd ty x ho g hx t cs (0, 0) d H hu hd hi h
/-- a whole block is written by one operation; the world behind it gets a name -/
theorem wpl_st {ops : Array Oper} {rest : List Oper} {op : Oper} {a : Act} {Q : Exit → Act → World → Prop} (H : Blk w g t cs) (hgd : op.guard = none) (ty : TypeId) (x y : Operand) (ho : op.op = .store ty x y)
    (vs : Array Value) (hx : a.eval x = .pointer (some ⟨g, 0, none⟩)) (hy : a.eval y = .agg vs) (hs : vs.size = cs.size) (hi : (P.info? ty).map (·.size) = some vs.size) (h1 : vs.toList.all (·.oneCell') = true)
    (h : ∀ w', w' = w.setRow g vs → wpList P ops Q rest (a.put op.dst undef) w') : wpList P ops Q (op :: rest) a w :=
  wpList_plain hgd fun _ hK => by
    unfold Oper.wp execOp
    have hst : (storeVar ty ⟨g, 0, none⟩ (.agg vs)).run P w = .ok () (w.setRow g vs) := by
      have e := H.st (P := P) vs.toList (by simpa using hs) h1
      cases hq : P.info? ty with
      | none => simp [hq] at hi
      | some i =>
        have hz : i.size = vs.size := by simpa [hq] using hi
        simp [storeVar, Sem.run_bind, sizeOf, typeInfo, hq, hz, Value.cells, e]
    simp only [ho, hx, hy, Instr.storeAt, Instr.sureAddr, Sem.run_bind, Sem.run_pure, Result.andThen_ok, hst]
    exact hK _ _ (h _ rfl)
/-- a result that lies in a block that is known whole -/
theorem res_row {fn : Func} {p : Tmp} {ty : TypeId} {tmps : Array Value} (H : Blk w g t cs) (h : fn.results = #[.cell p ty]) (hp : tmps.getD p undef = .pointer (some ⟨g, 0, none⟩)) (d : TypeDesc)
    (hu : P.underlying ty = some d) (hd : (match d with | .struct _ | .array _ _ => true | _ => false) = true) (hi : (P.info? ty).map (·.size) = some cs.size) : (results fn tmps).run P w = .ok (.agg cs) w :=
  results_cell_row h tmps w g t cs (0, 0) d hp H hu hd hi
/-- the like, where a guard stands and holds -/
theorem wpl_ldg {ops : Array Oper} {rest : List Oper} {op : Oper} {a : Act} {Q : Exit → Act → World → Prop} (H : Blk w g t cs) (hgd : Region.wanted op (yielded ops a.tmps) = true) (ty : TypeId) (x : Operand) (ho : op.op = .load ty x)
    (hx : a.eval x = .pointer (some ⟨g, 0, none⟩)) (d : TypeDesc) (hu : P.underlying ty = some d) (hd : (match d with | .struct _ | .array _ _ => true | _ => false) = true) (hi : (P.info? ty).map (·.size) = some cs.size)
    (h : wpList P ops Q rest (a.put op.dst (.agg cs)) w) : wpList P ops Q (op :: rest) a w :=
  wpList_step fun K hK => by rw [if_pos hgd]; exact wp_load_row ty x ho g hx t cs (0, 0) d H hu hd hi (hK _ _ h)
/-- three results, of which the first and the third lie in blocks that are known whole -/
theorem res3 {fn : Func} {p q r : Tmp} {ty1 ty2 : TypeId} {tmps : Array Value} {g1 g2 : Nat} {t1 t2 : TypeId} {c1 c2 : Array Value} (H1 : Blk w g1 t1 c1) (H2 : Blk w g2 t2 c2) (h : fn.results = #[.cell p ty1, .tmp q, .cell r ty2])
    (hp : tmps.getD p undef = .pointer (some ⟨g1, 0, none⟩)) (hr : tmps.getD r undef = .pointer (some ⟨g2, 0, none⟩)) (v : Value) (hq : tmps.getD q undef = v) (d1 d2 : TypeDesc)
    (hu1 : P.underlying ty1 = some d1) (hd1 : (match d1 with | .struct _ | .array _ _ => true | _ => false) = true) (hi1 : (P.info? ty1).map (·.size) = some c1.size)
    (hu2 : P.underlying ty2 = some d2) (hd2 : (match d2 with | .struct _ | .array _ _ => true | _ => false) = true) (hi2 : (P.info? ty2).map (·.size) = some c2.size) :
    (results fn tmps).run P w = .ok (.tuple #[.agg c1, v, .agg c2]) w := by
  have hp' : tmps[p]?.getD undef = .pointer (some ⟨g1, 0, none⟩) := by simpa using hp
  have hr' : tmps[r]?.getD undef = .pointer (some ⟨g2, 0, none⟩) := by simpa using hr
  have hq' : tmps[q]?.getD undef = v := by simpa using hq
  simp [results, h, hp', hr', hq', asAddr, run_loadVar_row w g1 t1 ty1 c1 (0, 0) d1 H1 hu1 hd1 hi1, run_loadVar_row w g2 t2 ty2 c2 (0, 0) d2 H2 hu2 hd2 hi2]
end
end Go.Proofs.YtbggohdpaodkeaaDoor
