/- Slices that come in: what a walk knows of them; a string joined to a row of bytes that the call owns. -/
import Derived.Test.YtbggohdpaodkeaaDoorOwn
import Derived.Lib.AppendStr
namespace Go.Proofs.YtbggohdpaodkeaaDoor
open Go.RowKit
/-- a slice of n elements of s cells each, that reads as these cells and lies below block B -/
def Rd (w : World) (B s : Nat) (A : Option Addr) (n : Nat) (xs : List Value) : Prop :=
  xs.length = n * s ∧ (0 < n → ∃ b off, A = some ⟨b, off, none⟩ ∧ b < B ∧ ∀ j u, xs[j]? = some u → w.cell? ⟨b, off + j, none⟩ = some u)
theorem Rd.len1 {w : World} {B n : Nat} {A : Option Addr} {xs : List Value} (h : Rd w B 1 A n xs) : xs.length = n := by have := h.1; omega
theorem Rd.keep {w w' : World} {B s n : Nat} {A : Option Addr} {xs : List Value} (h : Rd w B s A n xs) (hk : ∀ b o, b < B → w'.cell? ⟨b, o, none⟩ = w.cell? ⟨b, o, none⟩) : Rd w' B s A n xs :=
  ⟨h.1, fun hn => by
    obtain ⟨b, off, e, hb, hc⟩ := h.2 hn
    exact ⟨b, off, e, hb, fun j u hu => (hk _ _ hb).trans (hc j u hu)⟩⟩
theorem Rd.below {w w' : World} {B B' s n : Nat} {A : Option Addr} {xs : List Value} (h : Rd w B s A n xs) (hb : Below B' w w') (hB : B ≤ B') : Rd w' B s A n xs :=
  h.keep fun b o hlt => hb.cell (p := ⟨b, o, none⟩) (by show b < B'; omega)
theorem Rd.more {w : World} {B B' s n : Nat} {A : Option Addr} {xs : List Value} (h : Rd w B s A n xs) (hB : B ≤ B') : Rd w B' s A n xs :=
  ⟨h.1, fun hn => by
    obtain ⟨b, off, e, hb, hc⟩ := h.2 hn
    exact ⟨b, off, e, by omega, hc⟩⟩
theorem Rd.nil (w : World) (B s : Nat) (A : Option Addr) : Rd w B s A 0 [] := ⟨by simp, fun h => by omega⟩
theorem Rd.of_own {w : World} {base s n c : Nat} {e : TypeId} {A : Option Addr} {xs : List Value} (h : w.ownsRow base e s (.slice A n c) n xs) : Rd w w.heap.size s A n xs := by
  refine ⟨h.1, fun hn => ?_⟩
  obtain ⟨g, cap, hv, _, hlt⟩ := h.form hn
  have hA : A = some ⟨g, 0, none⟩ := by injection hv
  subst hA
  refine ⟨g, 0, rfl, hlt, fun j u hu => ?_⟩
  have hc := h.cells (g := g) rfl j u hu
  have ha : (⟨g, 0, none⟩ : Addr).add j = ⟨g, 0 + j, none⟩ := by unfold Addr.add; split <;> simp_all
  rw [ha] at hc
  exact hc
theorem own_below {W w' : World} {base B s n : Nat} {e : TypeId} {v : Value} {xs : List Value} (h : W.ownsRow base e s v n xs) (hb : Below B W w') (hB : W.heap.size ≤ B) : w'.ownsRow base e s v n xs := by
  refine ⟨h.1, ?_⟩
  rcases h.2 with h0 | ⟨g, cap, cur, hv, hbg, hg, h1, h2, h3, h4⟩
  · exact .inl h0
  · refine .inr ⟨g, cap, cur, hv, hbg, ?_, h1, h2, h3, h4⟩
    have hlt : g < W.heap.size := by
      rcases Nat.lt_or_ge g W.heap.size with h5 | h5
      · exact h5
      · rw [Array.getElem?_eq_none h5] at hg; cases hg
    rw [hb.block g (by omega)]
    exact hg
theorem own_slice {W : World} {base s n : Nat} {e : TypeId} {v : Value} {xs : List Value} (h : W.ownsRow base e s v n xs) : ∃ A cap, v = .slice A n cap := by
  rcases h.2 with ⟨rfl, rfl⟩ | ⟨g, cap, cur, hv, _⟩
  · exact ⟨none, 0, rfl⟩
  · exact ⟨_, cap, hv⟩
theorem Rd.take {w : World} {B n : Nat} {A : Option Addr} {xs : List Value} (h : Rd w B 1 A n xs) (k : Nat) (hk : k ≤ n) : Rd w B 1 A k (xs.take k) := by
  have hl := h.len1
  refine ⟨by simp; omega, fun hn => ?_⟩
  obtain ⟨b, off, e, hb, hc⟩ := h.2 (by omega)
  refine ⟨b, off, e, hb, fun j u hu => hc j u ?_⟩
  rw [List.getElem?_take] at hu
  split at hu
  · exact hu
  · cases hu
theorem strCells_bv (l : List UInt8) : Lib.strCells ⟨l.toArray⟩ = l.map bv := by
  unfold Lib.strCells
  simp
  exact fun _ _ => rfl
theorem size_mk (l : List UInt8) : (⟨l.toArray⟩ : ByteArray).size = l.length := by show l.toArray.size = _; simp
section
variable {P : Program}
/-- append(b, s...) with s a string -/
theorem wpList_apstr {ops : Array Oper} {rest : List Oper} {o : Oper} {a : Act} {Q : Exit → Act → World → Prop} (hgd : o.guard = none) (sl x : Operand) (t u : TypeId)
    (ho : o.op = .call { callee := .builtin .append, args := #[sl, x], argTypes := #[t, u] })
    (base : Nat) (e : TypeId) (i : TypeInfo) (ht : P.underlying t = some (.slice e)) (hu : P.underlying u = some .string) (hi : P.info? e = some i) (hz : i.zero = some (.int .u8 0))
    (hsize : i.size = 1) (hby : i.bytes = 1)
    (w : World) (v : Value) (xs : List UInt8) (hs : a.eval sl = v) (hown : w.ownsRow base e 1 v xs.length (xs.map bv)) (s : List UInt8) (hx : a.eval x = .string ⟨s.toArray⟩)
    (hbytes : xs.length + s.length ≤ 140737488355328) (hbase : base ≤ w.heap.size)
    (h : ∀ v' w', w'.ownsRow base e 1 v' (xs ++ s).length ((xs ++ s).map bv) → Below base w w' → wpList P ops Q rest (a.put o.dst v') w') : wpList P ops Q (o :: rest) a w := by
  refine Lib.wpList_append_own_string (P := P) w hgd sl x t u ho base e i ht hu hi hz hsize hby v xs.length (xs.map bv) hs hown ⟨s.toArray⟩ hx (by rw [size_mk]; unfold maxLen; omega) (by rw [size_mk]; exact hbytes) hbase ?_
  intro v' w' hown' hg _
  refine h v' w' ?_ ?_
  · rw [strCells_bv, size_mk, ← List.map_append, ← List.length_append] at hown'
    exact hown'
  · exact below_of_grown hg hbase (fun k hk => (hown.lt k hk).1)
/-- string(b) of a row that the call owns, nil too -/
theorem run_conv_any (w : World) {src dst e : TypeId} (hs : P.underlying src = some (.slice e)) (he : P.underlying e = some (.int .u8)) (hd : P.underlying dst = some .string)
    {base n : Nat} {v : Value} {xs : List UInt8} (hown : w.ownsRow base e 1 v n (xs.map bv)) :
    (convert src dst v).run P w = .ok (.string ⟨xs.toArray⟩) w := by
  rcases hown.2 with ⟨hv, hn⟩ | ⟨g, cap, cur, hv, _⟩
  · subst hv
    subst hn
    have : xs = [] := by have := hown.1; simpa using this
    subst this
    simp [convert, run_underlying hs, run_underlying he, run_underlying hd]
    simp [Conv.bytesToString]
    rfl
  · subst hv
    exact run_conv_own w hs he hd hown
end
end Go.Proofs.YtbggohdpaodkeaaDoor
