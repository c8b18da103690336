/- Laws on a slice that the call itself fills: one element pushed, the bytes as a string. -/
import Derived.Test.YtbggohdpaodkeaaDoorBase
import Derived.Deep.AppendLies
import Derived.Laws.AppendOwn
import Derived.OwnWalk
namespace Go.Proofs.YtbggohdpaodkeaaDoor
open Go.RowKit
/-- a byte as a cell -/
def bv (b : UInt8) : Value := .int .u8 (b.toNat : Int)
theorem bv_ofNat (n : Nat) (h : n < 256) : bv (UInt8.ofNat n) = .int .u8 (n : Int) := by
  unfold bv
  have : (UInt8.ofNat n).toNat = n := by simp; omega
  rw [this]
theorem bv_one (b : UInt8) : (bv b).oneCell' = true := rfl
/-- an int as a cell -/
def iv (n : Nat) : Value := .int .i64 (n : Int)
section
variable {P : Program}
theorem below_of_grown {W w' : World} {base : Nat} {row : Option Nat} (hg : W.grownBy w' row) (hb : base ≤ W.heap.size) (hr : ∀ k, row = some k → base ≤ k) : Below base W w' :=
  (Below.refl _ _).grown hg hb hr
theorem wpList_push {ops : Array Oper} {rest : List Oper} {o : Oper} {a : Act} {Q : Exit → Act → World → Prop} (hgd : o.guard = none) (s x : Operand) (t : TypeId)
    (ho : o.op = .call { callee := .builtin .append, args := #[s, x], argTypes := #[t, t] })
    (base : Nat) (e : TypeId) (i : TypeInfo) (z : Value) (bytes : Nat) (ht : P.underlying t = some (.slice e)) (hi : P.info? e = some i) (hz : i.zero = some z)
    (hsize : i.size = 1) (hby : i.bytes = bytes) (hzs : z.cells.size = 1)
    (W : World) (v : Value) (n : Nat) (xs : List Value) (hs : a.eval s = v) (hown : W.ownsRow base e 1 v n xs)
    (u : Value) (hu : u.oneCell' = true) (c : Nat) (hx : a.eval x = .slice (some ⟨W.heap.size, 0, none⟩) 1 c)
    (h63 : n + 1 ≤ 9223372036854775807) (hbytes : (n + 1) * bytes ≤ 140737488355328) (hbase : base ≤ W.heap.size)
    (h : ∀ g cap w', w'.ownsRow base e 1 (.slice (some ⟨g, 0, none⟩) (n + 1) cap) (n + 1) (xs ++ [u]) → Below base W w' → wpList P ops Q rest (a.put o.dst (.slice (some ⟨g, 0, none⟩) (n + 1) cap)) w') :
    wpList P ops Q (o :: rest) a (W.alloc (.cells #[u] e)) := by
  refine wpList_append_lies (P := P) (W.alloc (.cells #[u] e)) hgd s x t ho base e i z 1 bytes ht hi hz hsize hby hzs (by omega) v n xs hs (hown.alloc _) ⟨W.heap.size, 0, none⟩ 1 c [u] hx rfl ?_ ?_ (by omega) (by unfold maxLen; omega) hbytes (by simp; omega) _ rfl ?_
  · intro j y hj
    match j, hj with
    | 0, hj =>
      simp at hj; subst hj
      have : (⟨W.heap.size, 0, none⟩ : Addr).add 0 = ⟨W.heap.size, 0, none⟩ := rfl
      rw [this, cell_of_row _ _ _ _ _ _ (heap_alloc_new W _)]
      rfl
  · intro y hy
    simp at hy; subst hy; exact hu
  · intro g cap w' hown' hg _ _
    refine h g cap w' hown' ?_
    refine ((Below.refl _ W).alloc hbase _).trans (below_of_grown hg (by simp; omega) ?_)
    intro k hk
    exact (hown.lt k hk).1
/-- a row that a literal has just made -/
theorem own_lit (W : World) (base : Nat) (e : TypeId) (us : List Value) (n : Nat) (hn : us.length = n) (hm : n ≤ 1000000) (hb : base ≤ W.heap.size) :
    (W.alloc (.cells us.toArray e)).ownsRow base e 1 (.slice (some ⟨W.heap.size, 0, none⟩) n n) n us := by
  refine ⟨by omega, .inr ⟨W.heap.size, n, us.toArray, rfl, hb, heap_alloc_new W _, Nat.le_refl _, by unfold maxLen; omega, by simp [hn], ?_⟩⟩
  simp [← hn]
/-- string(b) of a row that the call owns -/
theorem run_conv_own (w : World) {src dst e : TypeId} (hs : P.underlying src = some (.slice e)) (he : P.underlying e = some (.int .u8)) (hd : P.underlying dst = some .string)
    {base g n cap : Nat} {xs : List UInt8} (hown : w.ownsRow base e 1 (.slice (some ⟨g, 0, none⟩) n cap) n (xs.map bv)) :
    (convert src dst (.slice (some ⟨g, 0, none⟩) n cap)).run P w = .ok (.string ⟨xs.toArray⟩) w := by
  have hlen : xs.length = n := by have := hown.1; simpa using this
  have h := run_convert_bytes_arg w src e hs he g 0 n cap (xs.map fun b => (b.toNat : Int)) (by simpa using hlen) (fun i hi => by
    have hc := hown.cells (g := g) rfl i (bv (xs[i]'(by omega))) (by simp [hlen, hi])
    have ha : (⟨g, 0, none⟩ : Addr).add i = ⟨g, 0 + i, none⟩ := by unfold Addr.add; split <;> simp_all
    rw [ha] at hc
    rw [hc]
    simp [bv, hlen, hi]) dst hd
  rw [h]
  have hx : strOfNums (xs.map fun b => (b.toNat : Int)) = ⟨xs.toArray⟩ := by
    unfold strOfNums
    congr 2
    rw [List.map_map]
    conv => rhs; rw [← List.map_id xs]
    apply List.map_congr_left
    intro b _
    simp
  rw [hx]
end
end Go.Proofs.YtbggohdpaodkeaaDoor
