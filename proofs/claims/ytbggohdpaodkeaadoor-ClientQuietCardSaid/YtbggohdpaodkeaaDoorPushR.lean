/- append of one struct; rows of spans that the call owns. -/
import Derived.Test.YtbggohdpaodkeaaDoorOwn
import Derived.Test.YtbggohdpaodkeaaDoorSl
import Derived.Test.YtbggohdpaodkeaaDoorPl
import Derived.Test.YtbggohdpaodkeaaDoorSpans
import Derived.Deep.AppendLies
namespace Go.Proofs.YtbggohdpaodkeaaDoor
open Go.RowKit
section
variable {P : Program}
theorem wpList_pushR {ops : Array Oper} {rest : List Oper} {o : Oper} {a : Act} {Q : Exit → Act → World → Prop} (hgd : o.guard = none) (s x : Operand) (t : TypeId)
    (ho : o.op = .call { callee := .builtin .append, args := #[s, x], argTypes := #[t, t] })
    (base : Nat) (e : TypeId) (i : TypeInfo) (z : Value) (size bytes : Nat) (ht : P.underlying t = some (.slice e)) (hi : P.info? e = some i) (hz : i.zero = some z)
    (hsize : i.size = size) (hby : i.bytes = bytes) (hzs : z.cells.size = size) (h0 : 0 < size)
    (W : World) (v : Value) (n : Nat) (xs : List Value) (hs : a.eval s = v) (hown : W.ownsRow base e size v n xs)
    (us : List Value) (hlu : us.length = size) (hu : ∀ u ∈ us, u.oneCell' = true) (c : Nat) (hx : a.eval x = .slice (some ⟨W.heap.size, 0, none⟩) 1 c)
    (h63 : n + 1 ≤ 9223372036854775807) (hbytes : (n + 1) * bytes ≤ 140737488355328) (hbase : base ≤ W.heap.size)
    (h : ∀ g cap w', w'.ownsRow base e size (.slice (some ⟨g, 0, none⟩) (n + 1) cap) (n + 1) (xs ++ us) → Below base W w' → wpList P ops Q rest (a.put o.dst (.slice (some ⟨g, 0, none⟩) (n + 1) cap)) w') :
    wpList P ops Q (o :: rest) a (W.alloc (.cells us.toArray e)) := by
  refine wpList_append_lies (P := P) (W.alloc (.cells us.toArray e)) hgd s x t ho base e i z size bytes ht hi hz hsize hby hzs h0 v n xs hs (hown.alloc _) ⟨W.heap.size, 0, none⟩ 1 c us hx (by omega) ?_ hu (by omega) (by unfold maxLen; omega) hbytes (by simp; omega) _ rfl ?_
  · intro j y hj
    have : (⟨W.heap.size, 0, none⟩ : Addr).add j = ⟨W.heap.size, j, none⟩ := by unfold Addr.add; split <;> simp_all
    rw [this, cell_of_row _ _ _ _ _ _ (heap_alloc_new W _)]
    simpa using hj
  · intro g cap w' hown' hg _ _
    refine h g cap w' hown' ?_
    refine ((Below.refl _ W).alloc hbase _).trans (below_of_grown hg (by simp; omega) ?_)
    intro k hk
    exact (hown.lt k hk).1
end
def spF (l : List Sp) : List Value := l.flatMap spC
theorem spF_snoc (l : List Sp) (x : Sp) : spF (l ++ [x]) = spF l ++ spC x := by simp [spF]
theorem spF_at (l : List Sp) (k : Nat) (h : k < l.length) (j : Nat) (u : Value) (hu : (spC l[k])[j]? = some u) : (spF l)[k * 2 + j]? = some u := by
  induction l generalizing k with
  | nil => cases h
  | cons a r ih =>
    have hl : (spC a).length = 2 := rfl
    have hj : j < 2 := by
      have := (List.getElem?_eq_some_iff.1 hu).1
      have : (spC ((a :: r)[k])).length = 2 := rfl
      omega
    cases k with
    | zero =>
      rw [show spF (a :: r) = spC a ++ spF r from rfl, List.getElem?_append_left (by omega)]
      simpa using hu
    | succ k =>
      rw [show spF (a :: r) = spC a ++ spF r from rfl, List.getElem?_append_right (by omega), show (k + 1) * 2 + j - (spC a).length = k * 2 + j by omega]
      exact ih k (by simpa using h) (by simpa using hu)
theorem own_spans {w : World} {base : Nat} {e : TypeId} {A : Option Addr} {n c : Nat} {l : List Sp} (h : w.ownsRow base e 2 (.slice A n c) n (spF l)) (hn : l.length = n) : RdR spC 2 w w.heap.size A l := by
  intro h0
  have hr := Rd.of_own h
  obtain ⟨b, off, hA, hb, hc⟩ := hr.2 (by omega)
  exact ⟨b, off, hA, hb, fun k hk j u hu => hc (k * 2 + j) u (spF_at l k hk j u hu)⟩
theorem RdR.take {α : Type} {cs : α → List Value} {s : Nat} {w : World} {B : Nat} {A : Option Addr} {xs : List α} (h : RdR cs s w B A xs) (k : Nat) : RdR cs s w B A (xs.take k) := fun h0 => by
  obtain ⟨b, off, hA, hb, hc⟩ := h (by simp at h0; omega)
  exact ⟨b, off, hA, hb, fun i hi j u hu => hc i (by simp at hi; omega) j u (by simpa using hu)⟩
end Go.Proofs.YtbggohdpaodkeaaDoor
