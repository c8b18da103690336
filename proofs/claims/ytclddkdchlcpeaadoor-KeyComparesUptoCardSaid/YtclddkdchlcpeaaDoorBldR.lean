/- WriteString onto a builder of the call's own, told with the row that it writes: every other block is kept. -/
import Derived.Test.YtclddkdchlcpeaaDoorBldW
namespace Go.Proofs.YtclddkdchlcpeaaDoor
open Go.RowKit Go.Shelf
section
variable {P : Program}
theorem app_str_row (w : World) (t u ty e : TypeId) (i : TypeInfo) (ht : P.underlying t = some (.slice e)) (hu : P.underlying u = some .string) (hi : P.info? e = some i) (hz : i.zero = some (.int .u8 0))
    (hsize : i.size = 1) (hby : i.bytes = 1) (base : Nat)
    (v : Value) (n : Nat) (xs : List Value) (hown : w.ownsRowF base e 1 v n xs) (s : ByteArray) (hlen : n + s.size ≤ 140737488355328) (hbase : base ≤ w.heap.size) :
    ∃ v' w', (Builtin.append_ #[t, u] ty #[v, .string s]).run P w = .ok v' w' ∧ w'.ownsRowF base e 1 v' (n + s.size) (xs ++ Lib.strCells s) ∧ w.grownBy w' v.ownBlock ∧
      (v'.ownBlock = v.ownBlock ∨ ∃ g, v'.ownBlock = some g ∧ w.heap.size ≤ g) := by
  have h63 : n + s.size ≤ maxLen := by unfold maxLen; omega
  obtain ⟨v', w', hr, h2, h3, _⟩ := Lib.run_append_own_stringF (P := P) w base t u ty e i ht hu hi hz hsize hby v n xs hown s h63 hlen hbase
  refine ⟨v', w', hr, h2, h3, ?_⟩
  rcases hown.2 with ⟨rfl, rfl⟩ | ⟨g, cap, cur, fz, rfl, hbg, hg, hfz, hnc, hcm, hcs, htake⟩
  · obtain ⟨v'', w'', hr', h2', _, _⟩ := Lib.run_append_own_stringF (P := P) w w.heap.size t u ty e i ht hu hi hz hsize hby (.slice none 0 0) 0 xs ⟨hown.1, .inl ⟨rfl, rfl⟩⟩ s h63 hlen (Nat.le_refl _)
    rw [hr] at hr'
    injection hr' with hv hw
    subst hv
    subst hw
    cases hb : v'.ownBlock with
    | none => exact .inl rfl
    | some g => exact .inr ⟨g, rfl, (h2'.lt g hb).1⟩
  · have hcs' : cur.size = cap := by simpa using hcs
    have hxl : xs.length = n := by simpa using hown.1
    by_cases hroom : n + s.size ≤ cap
    · have hr' := Lib.run_append_room_stringF (P := P) w t u ty e i ht hu hi hsize g n cap cur fz hg (by simpa using hfz) s hroom (by omega)
      rw [hr] at hr'
      injection hr' with hv hw
      subst hv
      exact .inl rfl
    · have holds : ∀ j u, xs[j]? = some u → w.cell? ((⟨g, 0, none⟩ : Addr).add j) = some u := hown.cells (g := g) rfl
      have hr' := Lib.run_append_grow_string (P := P) w t u ty e i (.int .u8 0) ht hu hi hz ⟨g, 0, none⟩ n cap xs (by rw [hsize]; simpa using hxl) holds s (by omega) (by unfold maxLen at h63; omega) (by rw [hby]; exact growslice_fits (by omega) (by omega))
      rw [hr] at hr'
      injection hr' with hv hw
      subst hv
      exact .inr ⟨w.heap.size, rfl, Nat.le_refl _⟩
theorem wpList_app_str (w : World) {ops : Array Oper} {rest : List Oper} {o : Oper} {a : Act} {Q : Exit → Act → World → Prop} (hgd : o.guard = none) (sl x : Operand) (t u : TypeId)
    (ho : o.op = .call { callee := .builtin .append, args := #[sl, x], argTypes := #[t, u] })
    (base : Nat) (e : TypeId) (i : TypeInfo) (ht : P.underlying t = some (.slice e)) (hu : P.underlying u = some .string) (hi : P.info? e = some i) (hz : i.zero = some (.int .u8 0))
    (hsize : i.size = 1) (hby : i.bytes = 1)
    (v : Value) (n : Nat) (xs : List Value) (hs : a.eval sl = v) (hown : w.ownsRowF base e 1 v n xs) (s : ByteArray) (hx : a.eval x = .string s)
    (hlen : n + s.size ≤ 140737488355328) (hbase : base ≤ w.heap.size)
    (h : ∀ v' w', w'.ownsRowF base e 1 v' (n + s.size) (xs ++ Lib.strCells s) → w.grownBy w' v.ownBlock → (v'.ownBlock = v.ownBlock ∨ ∃ g, v'.ownBlock = some g ∧ w.heap.size ≤ g) → wpList P ops Q rest (a.put o.dst v') w') : wpList P ops Q (o :: rest) a w := by
  refine wpList_plain hgd fun K hK => ?_
  obtain ⟨v', w', hr, h2, h3, h4⟩ := app_str_row (P := P) w t u o.type e i ht hu hi hz hsize hby base v n xs hown s hlen hbase
  unfold Oper.wp execOp
  simp only [ho, resolve, invoke, builtin, Sem.run_bind, Sem.run_pure, Result.andThen_ok, List.map_toArray, List.map_cons, List.map_nil, hs, hx, hr]
  exact hK _ _ (h v' w' h2 h3 h4)
end
/-- a builder whose bytes lie in this row -/
def BldR (B b : Nat) (row : Option Nat) (bs : List Value) (w : World) : Prop :=
  B ≤ b ∧ ∃ p v, w.heap[b]? = some (.cells #[p, v] 42 (0, 0)) ∧ (p = .pointer none ∨ p = .pointer (some ⟨b, 0, none⟩)) ∧ w.ownsRowF B 5 1 v bs.length bs ∧ v.ownBlock ≠ some b ∧ v.ownBlock = row
def RKept (b : Nat) (row : Option Nat) (w w' : World) : Prop := ∀ k o, w.heap[k]? = some o → k ≠ b → some k ≠ row → w'.heap[k]? = some o
theorem BldR.of {B b : Nat} {bs : List Value} {w : World} (h : Bld B b bs w) : ∃ row, BldR B b row bs w := by
  rcases h with ⟨hB, v, h1, h2, h3⟩ | ⟨hB, v, h1, h2, h3⟩
  · exact ⟨_, hB, _, v, h1, .inl rfl, h2, h3, rfl⟩
  · exact ⟨_, hB, _, v, h1, .inr rfl, h2, h3, rfl⟩
theorem BldR.to {B b : Nat} {row : Option Nat} {bs : List Value} {w : World} (h : BldR B b row bs w) : Bld B b bs w := by
  obtain ⟨hB, p, v, h1, h2, h3, h4, _⟩ := h
  rcases h2 with rfl | rfl
  · exact Or.inl ⟨hB, v, h1, h3, h4⟩
  · exact Or.inr ⟨hB, v, h1, h3, h4⟩
theorem BldR.row_lt {B b : Nat} {row : Option Nat} {bs : List Value} {w : World} (h : BldR B b row bs w) : ∀ g, row = some g → g < w.heap.size := by
  obtain ⟨hB, p, v, h1, h2, h3, h4, h5⟩ := h
  intro g hg
  exact (h3.lt g (h5.trans hg)).2
theorem BldR.lt {B b : Nat} {row : Option Nat} {bs : List Value} {w : World} (h : BldR B b row bs w) : b < w.heap.size := by
  obtain ⟨hB, p, v, h1, _⟩ := h
  exact (Array.getElem?_eq_some_iff.1 h1).1
theorem BldR.below {B b : Nat} {row : Option Nat} {bs : List Value} {w w' : World} (h : BldR B b row bs w) (hb : Below w.heap.size w w') : BldR B b row bs w' := by
  have hl := h.lt
  have hr := h.row_lt
  obtain ⟨hB, p, v, h1, h2, h3, h4, h5⟩ := h
  refine ⟨hB, p, v, (hb.block _ hl).trans h1, h2, ?_, h4, h5⟩
  refine ⟨h3.1, ?_⟩
  rcases h3.2 with hn | ⟨g, cap, cur, fz, rfl, hbg, hg, rest⟩
  · exact .inl hn
  · exact .inr ⟨g, cap, cur, fz, rfl, hbg, (hb.block _ (Array.getElem?_eq_some_iff.1 hg).1).trans hg, rest⟩
set_option maxHeartbeats 800000 in
set_option maxRecDepth 100000 in
theorem bstr_row (B b : Nat) (row : Option Nat) (bs : List Value) (s : ByteArray) (w : World) (h : BldR B b row bs w) (hlen : bs.length + s.size ≤ 140737488355328) (hBw : B ≤ w.heap.size) :
    Calls Tryd.prog 25 #[.pointer (some ⟨b, 0, none⟩), .string s] w fun e w' => e = .returned (.tuple #[.int .i64 s.size, .nilIface]) ∧ ∃ row', BldR B b row' (bs ++ Lib.strCells s) w' ∧ (row' = row ∨ ∃ g, row' = some g ∧ w.heap.size ≤ g) ∧ Below B w w' ∧ RKept b row w w' := by
  obtain ⟨i0, hi, hz0, hz1, hz2⟩ := info_parts infoB
  have hl := h.lt
  have C : Calls Tryd.prog 33 #[.pointer (some ⟨b, 0, none⟩)] w fun e w' => e = .returned (.tuple #[]) ∧ (B ≤ b ∧ ∃ v, w'.heap[b]? = some (.cells #[.pointer (some ⟨b, 0, none⟩), v] 42 (0, 0)) ∧ w'.ownsRowF B 5 1 v bs.length bs ∧ v.ownBlock ≠ some b ∧ v.ownBlock = row) ∧ Below B w w' ∧ w'.heap.size = w.heap.size ∧ RKept b row w w' := by
    obtain ⟨hB, p, v, h1, h2, h3, h4, h5⟩ := h
    rcases h2 with rfl | rfl
    · have hh : Lib.BuilderAtF 42 5 B b (.pointer none) bs w := ⟨hB, v, h1, h3, h4⟩
      refine (bcheck_fresh b w hh.cell0 hh.shape hh.frozen0).mono ?_
      rintro e w' ⟨rfl, rfl⟩
      have hk : ∀ k, k ≠ b → (w.setCell ⟨b, 0, none⟩ (.pointer (some ⟨b, 0, none⟩))).heap[k]? = w.heap[k]? := fun k hk => Below.heap_setCell _ _ _ _ (fun e => hk (by simp [e]))
      refine ⟨rfl, ⟨hB, v, ?_, ?_, h4, h5⟩, (Below.refl B w).setCell (p := ⟨b, 0, none⟩) hB _, by simp [World.setCell], fun k o ho hkb _ => by rw [hk k hkb]; exact ho⟩
      · simp [World.setCell, Array.getElem?_modify, h1]
      · refine h3.kept (row := some b) ⟨rfl, rfl, rfl, by simp [World.setCell], fun k _ hkb => hk k (fun e => hkb (by simp [e]))⟩ (Or.inr h4)
    · refine (bcheck_used b w (by rw [Lib.cell_of_heap h1]; rfl)).mono ?_
      rintro e w' ⟨rfl, rfl⟩
      exact ⟨rfl, ⟨hB, v, h1, h3, h4, h5⟩, Below.refl B _, rfl, fun k o ho _ _ => ho⟩
  clear h
  go_enter Tryd.func25, Tryd.ntmps25
  go_wp2_with fail
  refine C.mono ?_
  rintro e w1 ⟨rfl, h1, hb1, hs1, hk1⟩
  obtain ⟨hB, v, hbk, hown, hne, hrow⟩ := h1
  have HR := Lib.hid hrow
  have HS := Lib.hid hs1
  clear hrow hs1 C
  have c0 : w1.cell? ⟨b, 0, none⟩ = some (.pointer (some ⟨b, 0, none⟩)) := by rw [Lib.cell_of_heap hbk]; rfl
  have c1 : w1.cell? ⟨b, 1, none⟩ = some v := by rw [Lib.cell_of_heap hbk]; rfl
  go_wp2_with (at_builtin; refine wpList_app_str _ rfl _ _ 40 9 rfl B 5 i0 Tryd.underlying40 Tryd.underlying9 hi hz0 hz1 hz2 _ _ _ rfl hown s rfl ?c4 ?c5 ?_)
  case c4 => omega
  case c5 => have := hb1.size; omega
  intro v' w2 hown' hgrow hv'
  have HV := Lib.hid hv'
  clear hv'
  have hlt : b < w1.heap.size := (Array.getElem?_eq_some_iff.1 hbk).1
  have hb2 : w2.heap[b]? = some (.cells #[.pointer (some ⟨b, 0, none⟩), v] 42 (0, 0)) := by
    rw [hgrow.block b hlt (fun e => hne e.symm)]
    exact hbk
  have d0 : w2.cell? ⟨b, 0, none⟩ = some (.pointer (some ⟨b, 0, none⟩)) := by rw [Lib.cell_of_heap hb2]; rfl
  have d1 : w2.cell? ⟨b, 1, none⟩ = some v := by rw [Lib.cell_of_heap hb2]; rfl
  have f1 : w2.frozen? ⟨b, 1, none⟩ = false := Lib.frozen_of_heap hb2 1
  obtain ⟨ao, n', cap, rfl⟩ : ∃ ao n' cap, v' = .slice ao n' cap := by
    rcases hown'.2 with ⟨hv, _⟩ | ⟨g, cap, cur, fz, hv, _⟩
    · exact ⟨_, _, _, hv⟩
    · exact ⟨_, _, _, hv⟩
  go_wp2
  go_ret2
  have hk2 : ∀ k, k ≠ b → (w2.setCell ⟨b, 1, none⟩ (.slice ao n' cap)).heap[k]? = w2.heap[k]? := fun k hk => Below.heap_setCell _ _ _ _ (fun e => hk (by simp [e]))
  have hne2 := Lib.ownBlock_neF hown' hb2 (by decide)
  refine ⟨rfl, _, ⟨hB, _, _, ?_, .inr rfl, ?_, hne2, rfl⟩, ?_, ?_, ?_⟩
  · simp [World.setCell, Array.getElem?_modify, hb2]
  · have ho : w2.ownsRowF B 5 1 (.slice ao n' cap) (bs ++ Lib.strCells s).length (bs ++ Lib.strCells s) := by simpa [Lib.strCells_length] using hown'
    exact ho.kept (row := some b) ⟨rfl, rfl, rfl, by simp [World.setCell], fun k _ hk => hk2 k (fun e => hk (by simp [e]))⟩ (Or.inr hne2)
  · rcases HV.out with h | ⟨g, h, hg⟩
    · exact .inl (h.trans HR.out)
    · exact .inr ⟨g, h, by rw [HS.out] at hg; exact hg⟩
  · exact (hb1.grown hgrow (by have := hb1.size; omega) (fun k hk => (hown.lt k hk).1)).setCell (p := ⟨b, 1, none⟩) hB _
  · intro k o ho hkb hkr
    rw [hk2 k hkb]
    have h1 := hk1 k o ho hkb hkr
    rw [hgrow.block k (Array.getElem?_eq_some_iff.1 h1).1 (by rw [HR.out]; exact hkr)]
    exact h1
end Go.Proofs.YtclddkdchlcpeaaDoor
