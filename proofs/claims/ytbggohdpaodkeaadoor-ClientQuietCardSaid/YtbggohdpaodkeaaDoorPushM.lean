/- append of several ints; append of nothing; rows of ints that the call owns. -/
import Derived.Test.YtbggohdpaodkeaaDoorPushR
import Derived.Deep.Upon
namespace Go.Proofs.YtbggohdpaodkeaaDoor
open Go.RowKit
section
variable {P : Program}
theorem wpList_pushM {ops : Array Oper} {rest : List Oper} {o : Oper} {a : Act} {Q : Exit → Act → World → Prop} (hgd : o.guard = none) (s x : Operand) (t : TypeId)
    (ho : o.op = .call { callee := .builtin .append, args := #[s, x], argTypes := #[t, t] })
    (base : Nat) (e : TypeId) (i : TypeInfo) (z : Value) (bytes : Nat) (ht : P.underlying t = some (.slice e)) (hi : P.info? e = some i) (hz : i.zero = some z)
    (hsize : i.size = 1) (hby : i.bytes = bytes) (hzs : z.cells.size = 1)
    (W : World) (v : Value) (n : Nat) (xs : List Value) (hs : a.eval s = v) (hown : W.ownsRow base e 1 v n xs)
    (us : List Value) (m : Nat) (hlu : us.length = m) (h0 : 0 < m) (hu : ∀ u ∈ us, u.oneCell' = true) (c : Nat) (hx : a.eval x = .slice (some ⟨W.heap.size, 0, none⟩) m c)
    (h63 : n + m ≤ 9223372036854775807) (hbytes : (n + m) * bytes ≤ 140737488355328) (hbase : base ≤ W.heap.size)
    (h : ∀ g cap w', w'.ownsRow base e 1 (.slice (some ⟨g, 0, none⟩) (n + m) cap) (n + m) (xs ++ us) → Below base W w' → wpList P ops Q rest (a.put o.dst (.slice (some ⟨g, 0, none⟩) (n + m) cap)) w') :
    wpList P ops Q (o :: rest) a (W.alloc (.cells us.toArray e)) := by
  refine wpList_append_lies (P := P) (W.alloc (.cells us.toArray e)) hgd s x t ho base e i z 1 bytes ht hi hz hsize hby hzs (by omega) v n xs hs (hown.alloc _) ⟨W.heap.size, 0, none⟩ m c us hx (by omega) ?_ hu h0 (by unfold maxLen; omega) hbytes (by simp; omega) _ rfl ?_
  · intro j y hj
    have : (⟨W.heap.size, 0, none⟩ : Addr).add j = ⟨W.heap.size, j, none⟩ := by unfold Addr.add; split <;> simp_all
    rw [this, cell_of_row _ _ _ _ _ _ (heap_alloc_new W _)]
    simpa using hj
  · intro g cap w' hown' hg _ _
    refine h g cap w' hown' ?_
    refine ((Below.refl _ W).alloc hbase _).trans (below_of_grown hg (by simp; omega) ?_)
    intro k hk
    exact (hown.lt k hk).1
/-- nothing is appended -/
theorem wpl_app0 {ops : Array Oper} {rest : List Oper} {o : Oper} {a : Act} {w : World} {Q : Exit → Act → World → Prop} (hgd : o.guard = none) (s x : Operand) (t : TypeId)
    (ho : o.op = .call { callee := .builtin .append, args := #[s, x], argTypes := #[t, t] })
    (e : TypeId) (i : TypeInfo) (ht : P.underlying t = some (.slice e)) (hi : P.info? e = some i)
    (A : Option Addr) (n c : Nat) (hle : n ≤ c) (B : Option Addr) (c' : Nat) (hs : a.eval s = .slice A n c) (hx : a.eval x = .slice B 0 c')
    (h : wpList P ops Q rest (a.put o.dst (.slice A n c)) w) : wpList P ops Q (o :: rest) a w :=
  wpList_plain hgd fun _ hK => by
    have hsrc : Src P i.size t (.slice B 0 c') 0 [] w := by
      cases B with
      | none => exact Src.ofNil w ht c'
      | some ad => exact Src.ofSlice w ht ad 0 c' [] (by simp) (by simp) (by simp)
    have hr := run_append_nothing (P := P) w t t o.type e i ht hi A n c hle (.slice B 0 c') hsrc
    unfold Oper.wp execOp
    simp only [ho, resolve, invoke, builtin, Sem.run_bind, Sem.run_pure, Result.andThen_ok, List.map_toArray, List.map_cons, List.map_nil, hs, hx, hr]
    exact hK _ _ h
end
def ivF (l : List Int) : List Value := l.map (Value.int .i64)
theorem ivF_one (l : List Int) : ∀ u ∈ ivF l, u.oneCell' = true := by
  intro u hu
  obtain ⟨x, _, rfl⟩ := List.mem_map.1 hu
  rfl
theorem own_i64s {w : World} {base : Nat} {e : TypeId} {A : Option Addr} {n c : Nat} {l : List Int} (h : w.ownsRow base e 1 (.slice A n c) n (ivF l)) : RdR ldC 1 w w.heap.size A l ∧ l.length = n ∧ n ≤ c := by
  have hn : l.length = n := by have := h.1; simpa [ivF] using this
  refine ⟨fun h0 => ?_, hn, ?_⟩
  · have hr := Rd.of_own h
    obtain ⟨b, off, hA, hb, hc⟩ := hr.2 (by omega)
    refine ⟨b, off, hA, hb, fun k hk j u hu => hc (k * 1 + j) u ?_⟩
    have hj : j = 0 := by
      have h1 := (List.getElem?_eq_some_iff.1 hu).1
      have h2 : (ldC l[k]).length = 1 := rfl
      omega
    subst hj
    simp only [ldC, List.getElem?_cons_zero, Option.some.injEq] at hu
    subst hu
    simp [ivF, hk]
  · rcases h.2 with ⟨hv, h0⟩ | ⟨g, cap, cur, hv, _, _, h1, _⟩
    · injection hv with _ _ h3; omega
    · injection hv with _ _ h3; omega
end Go.Proofs.YtbggohdpaodkeaaDoor
