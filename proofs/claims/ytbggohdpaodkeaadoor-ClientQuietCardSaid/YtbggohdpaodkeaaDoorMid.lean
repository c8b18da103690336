/- A stretch of a block that is known whole, written by one operation. -/
import Derived.Test.YtbggohdpaodkeaaDoorRow
import Derived.Deep.MidRow
namespace Go.Proofs.YtbggohdpaodkeaaDoor
open Go.RowKit
def putAll (cs : Array Value) (o : Nat) : List Value → Array Value
  | [] => cs
  | v :: r => putAll (cs.setIfInBounds o v) (o + 1) r
section
variable {P : Program} {w : World} {g : Nat} {t : TypeId} {cs : Array Value}
theorem Blk.setCells (vs : List Value) : ∀ (o : Nat) (cs : Array Value) (w : World), Blk w g t cs → Blk (w.setCells g o vs) g t (putAll cs o vs) := by
  induction vs with
  | nil => intro o cs w h; exact h
  | cons v r ih => intro o cs w h; exact ih (o + 1) _ _ (h.set o v)
theorem Blk.setCells_far (vs : List Value) {g' : Nat} (hg : g ≠ g') : ∀ (o : Nat) (w : World), Blk w g t cs → Blk (w.setCells g' o vs) g t cs := by
  induction vs with
  | nil => intro o w h; exact h
  | cons v r ih => intro o w h; exact ih (o + 1) _ (h.far (p := ⟨g', o, none⟩) hg v)
theorem below_setCells {B : Nat} {a : World} (vs : List Value) (hg : B ≤ g) : ∀ (o : Nat) (w : World), Below B a w → Below B a (w.setCells g o vs) := by
  induction vs with
  | nil => intro o w h; exact h
  | cons v r ih => intro o w h; exact ih (o + 1) _ (h.setCell (p := ⟨g, o, none⟩) hg v)
/-- a stretch of a block is written by one operation; the world behind it gets a name -/
theorem wpl_stm {ops : Array Oper} {rest : List Oper} {op : Oper} {a : Act} {Q : Exit → Act → World → Prop} (H : Blk w g t cs) (hgd : op.guard = none) (ty : TypeId) (x y : Operand) (ho : op.op = .store ty x y)
    (o : Nat) (vs : Array Value) (hx : a.eval x = .pointer (some ⟨g, o, none⟩)) (hy : a.eval y = .agg vs) (hs : o + vs.size ≤ cs.size) (hi : (P.info? ty).map (·.size) = some vs.size) (h1 : vs.all (·.oneCell') = true)
    (h : ∀ w', w' = w.setCells g o vs.toList → wpList P ops Q rest (a.put op.dst undef) w') : wpList P ops Q (op :: rest) a w := by
  refine wpList_store_mid hgd ty x y ho g o vs hx hy (fun j hj => ⟨?_, H.frozen _⟩) hi h1 (h _ rfl)
  rw [H.cell (o + j), Array.getElem?_eq_getElem (by omega)]
  rfl
end
end Go.Proofs.YtbggohdpaodkeaaDoor
