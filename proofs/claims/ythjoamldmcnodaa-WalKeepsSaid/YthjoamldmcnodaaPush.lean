/- append(s, x) to a row that the call owns: what becomes of the blocks of other types. -/
import Derived.Test.YthjoamldmcnodaaPuts
import Derived.Test.YthjoamldmcnodaaOwn
namespace Go.Proofs.Ythjoamldmcnodaa
open Go.RowKit
section
variable {P : Program}
theorem wpList_push2 {ops : Array Oper} {rest : List Oper} {o : Oper} {a : Act} {Q : Exit → Act → World → Prop} (hgd : o.guard = none) (s x : Operand) (t : TypeId)
    (ho : o.op = .call { callee := .builtin .append, args := #[s, x], argTypes := #[t, t] })
    (base : Nat) (e : TypeId) (i : TypeInfo) (z : Value) (bytes : Nat) (ht : P.underlying t = some (.slice e)) (hi : P.info? e = some i) (hz : i.zero = some z)
    (hsize : i.size = 1) (hby : i.bytes = bytes) (hzs : z.cells.size = 1)
    (W : World) (v : Value) (n : Nat) (xs : List Value) (hs : a.eval s = v) (hown : W.ownsRow base e 1 v n xs)
    (u : Value) (hu : u.oneCell' = true) (c : Nat) (hx : a.eval x = .slice (some ⟨W.heap.size, 0, none⟩) 1 c)
    (h63 : n + 1 ≤ 9223372036854775807) (hbytes : (n + 1) * bytes ≤ 140737488355328) (hbase : base ≤ W.heap.size)
    (h : ∀ g cap w', w'.ownsRow base e 1 (.slice (some ⟨g, 0, none⟩) (n + 1) cap) (n + 1) (xs ++ [u]) → Below base W w' → (∀ g2 T cs, T ≠ e → Blk W g2 T cs → Blk w' g2 T cs) → wpList P ops Q rest (a.put o.dst (.slice (some ⟨g, 0, none⟩) (n + 1) cap)) w') :
    wpList P ops Q (o :: rest) a (W.alloc (.cells #[u] e)) := by
  refine wpList_append_lies (P := P) (W.alloc (.cells #[u] e)) hgd s x t ho base e i z 1 bytes ht hi hz hsize hby hzs (by omega) v n xs hs (hown.alloc _) ⟨W.heap.size, 0, none⟩ 1 c [u] hx rfl ?_ ?_ (by omega) (by unfold maxLen; omega) hbytes (by simp; omega) _ rfl ?_
  · intro j y hj
    match j, hj with
    | 0, hj =>
      simp at hj; subst hj
      have : (⟨W.heap.size, 0, none⟩ : Addr).add 0 = ⟨W.heap.size, 0, none⟩ := rfl
      rw [this, cell_of_row _ _ _ _ _ _ (heap_alloc_new W _)]
      rfl
  · intro y hy
    simp at hy; subst hy; exact hu
  · intro g cap w' hown' hg _ _
    refine h g cap w' hown' (((Below.refl _ W).alloc hbase _).trans (below_of_grown hg (by simp; omega) fun k hk => (hown.lt k hk).1)) ?_
    intro g2 T cs hT hB
    refine (hg.block g2 (by have := hB.lt; simp; omega) ?_).trans (hB.alloc _)
    intro hk
    rcases hown.2 with ⟨hv, _⟩ | ⟨g0, cp0, cur, hv, _, h0, _⟩
    · rw [hv] at hk
      cases hk
    · rw [hv] at hk
      injection hk with hk
      subst hk
      rw [hB] at h0
      injection h0 with h0
      injection h0 with _ h0 _
      exact hT h0
end
end Go.Proofs.Ythjoamldmcnodaa
