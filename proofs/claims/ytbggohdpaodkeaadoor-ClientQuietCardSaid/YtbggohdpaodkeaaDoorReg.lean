/- Steps of a region that draws its order: whole blocks loaded and stored. -/
import Derived.Test.YtbggohdpaodkeaaDoorRow
import Derived.Deep.RegionHeld3
import Derived.Deep.MidRow
namespace Go.Proofs.YtbggohdpaodkeaaDoor
open Go.RowKit
section
variable {P : Program} {g : Nat} {t : TypeId} {cs : Array Value}
/-- one operation is taken first: the slot that it fills is told, so that the state can be laid out behind it -/
theorem take_at {md : Region.Mode} {ops : Array Oper} {Q : Exit → Act → World → Prop} {S : World → Prop} {i : Nat} {oi : Oper} {v : Value} {fuel : Nat} {listed : Array Bool} {a : Act} {w : World} (d : Option Tmp) (hi : ops[i]? = some oi) (hd : oi.dst = d)
    (hs : Region.noSelect ops = true) (hf : Region.free md ops listed i = true) (hr : (Region.ready md ops listed).contains i = true)
    (hQ : ∀ c a w, Q (.panic c) (a.put oi.dst v) w → Q (.panic c) a w) (hy : YieldsIf P ops S oi v a) (hS : S w)
    (h : wpAnyH P md ops Q S fuel (listed.setIfInBounds i true) (a.put d v) w) : wpAnyH P md ops Q S (fuel + 1) listed a w := by
  subst hd
  exact wpAnyH_take hi hs hf hr hQ hy hS h
theorem yif_ld {ops : Array Oper} {S : World → Prop} {op : Oper} {a : Act} (hw : Region.wanted op (yielded ops a.tmps) = true) (ty : TypeId) (x : Operand) (ho : op.op = .load ty x)
    (hx : a.eval x = .pointer (some ⟨g, 0, none⟩)) (hS : ∀ w, S w → Blk w g t cs) (d : TypeDesc)
    (hu : P.underlying ty = some d) (hd : (match d with | .struct _ | .array _ _ => true | _ => false) = true) (hi : (P.info? ty).map (·.size) = some cs.size) : YieldsIf P ops S op (.agg cs) a :=
  .inl ⟨hw, fun w hw' => by
    unfold execOp
    simp only [ho, hx, Instr.loadAt, Instr.sureAddr, Sem.run_bind, Sem.run_pure, Result.andThen_ok, run_loadVar_row w g t ty cs (0, 0) d (hS w hw') hu hd hi]⟩
theorem wp_st {op : Oper} {a : Act} {w : World} {K : Act → World → Prop} {Q : Exit → Act → World → Prop} {E : Prop} {b : Bool} (H : Blk w g t cs) (hb : b = true) (ty : TypeId) (x y : Operand) (ho : op.op = .store ty x y)
    (vs : Array Value) (hx : a.eval x = .pointer (some ⟨g, 0, none⟩)) (hy : a.eval y = .agg vs) (hs : vs.size = cs.size) (hi : (P.info? ty).map (·.size) = some vs.size) (h1 : vs.toList.all (·.oneCell') = true)
    (h : ∀ w', w' = w.setRow g vs → K (a.put op.dst undef) w') : if b = true then op.wp P a w K Q else E := by
  rw [if_pos hb]
  have hst : (storeVar ty ⟨g, 0, none⟩ (.agg vs)).run P w = .ok () (w.setRow g vs) := by
    have e := H.st (P := P) vs.toList (by simpa using hs) h1
    cases hq : P.info? ty with
    | none => simp [hq] at hi
    | some i =>
      have hz : i.size = vs.size := by simpa [hq] using hi
      simp [storeVar, Sem.run_bind, sizeOf, typeInfo, hq, hz, Value.cells, e]
  unfold Oper.wp execOp
  simp only [ho, hx, hy, Instr.storeAt, Instr.sureAddr, Sem.run_bind, Sem.run_pure, Result.andThen_ok, hst]
  exact h _ rfl
theorem Blk.range {w : World} (h : Blk w g t cs) (o : Nat) (out : List Value) (ho : (cs.toList.drop o).take out.length = out) : w.rangeAt g o out := fun j v hv => by
  rw [h.cell (o + j)]
  rw [← ho, List.getElem?_take] at hv
  split at hv
  · rw [List.getElem?_drop] at hv
    simpa using hv
  · cases hv
end
end Go.Proofs.YtbggohdpaodkeaaDoor
