/- The writer's methods: numbers, texts, flag, stamps. The writer's methods: flag, texts, stamps. The writer's methods: stamps. Structs that come in, opened field by field. book.RightMsg, exactly: the numbers of a message, whether each fits. book.RightMsg and the document's: is a message right? The reader's methods: number, text, flag, stamp, list. The reader's list; the formats of numbers, texts, flags, stamps, lists, as book reads them. What stands while PutMsg goes on; rows that a literal has just made; the bytes of a message. What stands while TakeMsg goes on; the reader's methods with the outcome told. append of one struct: what becomes of the blocks of other types; steps of drawn regions. The end of TakeMsg: the request and the answer laid into the message; own rows as what a message's lists are. The format of a message, as book reads it. What PutMsg writes is what the format of a message says; it is read back. Shards and cells, plain: what they hold, whether they are right. The document's number, text, flag and stamp as bytes. -/
import Derived.Test.YtkoligiilieboaaGreatDoorMgB
import Derived.Test.YtkoligiilieboaaGreatDoorMgA
import Derived.Deep.RegionHeld3
import Derived.Deep.RegionLaw
import Derived.Test.YtkoligiilieboaaGreatDoorProg
import Derived.Deep.Upon
import Derived.Deep.CutRange
import Derived.Deep.AppendLies
set_option linter.unusedSimpArgs false
set_option linter.unusedVariables false
namespace Go.Proofs.YtkoligiilieboaaGreatDoor
open Go.RowKit
structure Kp (base x : Nat) (e : TypeId) (w w' : World) : Prop where
  below : Below base w w'
  kept : ∀ g T cs, g ≠ x → T ≠ e → Blk w g T cs → Blk w' g T cs
section
variable {base x : Nat} {e : TypeId} {w w1 w2 : World}
theorem Kp.refl : Kp base x e w w := ⟨Below.refl _ _, fun _ _ _ _ _ h => h⟩
theorem Kp.trans (h1 : Kp base x e w w1) (h2 : Kp base x e w1 w2) : Kp base x e w w2 := ⟨h1.below.trans h2.below, fun g T cs hg hT h => h2.kept g T cs hg hT (h1.kept g T cs hg hT h)⟩
theorem Kp.size (h : Kp base x e w w1) : w.heap.size ≤ w1.heap.size := h.below.size
theorem Kp.call (h : Kp base x e w w1) (hb : base ≤ w.heap.size) (d : Below w1.heap.size w1 w2) : Kp base x e w w2 :=
  ⟨h.below.trans (d.mono (Nat.le_trans hb h.size)), fun g T cs hg hT hB => (h.kept g T cs hg hT hB).keep d⟩
theorem Kp.alloc (h : Kp base x e w w1) (hb : base ≤ w.heap.size) (o : Obj) : Kp base x e w (w1.alloc o) :=
  ⟨h.below.alloc (Nat.le_trans hb h.size) o, fun g T cs hg hT hB => (h.kept g T cs hg hT hB).alloc o⟩
theorem Kp.drew (h : Kp base x e w w1) : Kp base x e w w1.drew := ⟨h.below.drew, fun g T cs hg hT hB => (h.kept g T cs hg hT hB).drew⟩
theorem Kp.set (h : Kp base x e w w1) (hx : base ≤ x) (i : Nat) (u : Value) : Kp base x e w (w1.setCell ⟨x, i, none⟩ u) :=
  ⟨h.below.setCell (p := ⟨x, i, none⟩) hx u, fun g T cs hg hT hB => (h.kept g T cs hg hT hB).far (p := ⟨x, i, none⟩) hg u⟩
theorem Kp.blk (h : Kp base x e w w1) {g : Nat} {T : TypeId} {cs : Array Value} (hB : Blk w g T cs) (hg : g ≠ x) (hT : T ≠ e) : Blk w1 g T cs := h.kept g T cs hg hT hB
end
def Wr (base gw : Nat) (bs : List UInt8) (W : World) : Prop := ∃ v, Blk W gw 90 #[v] ∧ W.ownsRow base 5 1 v bs.length (bs.map bv)
abbrev KW (base gw : Nat) (w w' : World) : Prop := Kp base gw 5 w w'
section
variable {P : Program}
theorem wpList_apstr2 {ops : Array Oper} {rest : List Oper} {o : Oper} {a : Act} {Q : Exit → Act → World → Prop} (hgd : o.guard = none) (sl x : Operand) (t u : TypeId)
    (ho : o.op = .call { callee := .builtin .append, args := #[sl, x], argTypes := #[t, u] })
    (base : Nat) (e : TypeId) (i : TypeInfo) (ht : P.underlying t = some (.slice e)) (hu : P.underlying u = some .string) (hi : P.info? e = some i) (hz : i.zero = some (.int .u8 0))
    (hsize : i.size = 1) (hby : i.bytes = 1)
    (w : World) (v : Value) (xs : List UInt8) (hs : a.eval sl = v) (hown : w.ownsRow base e 1 v xs.length (xs.map bv)) (s : List UInt8) (hx : a.eval x = .string ⟨s.toArray⟩)
    (hbytes : xs.length + s.length ≤ 140737488355328) (hbase : base ≤ w.heap.size)
    (h : ∀ A n c w', w'.ownsRow base e 1 (.slice A n c) (xs ++ s).length ((xs ++ s).map bv) → Below base w w' → (∀ g2 T cs, T ≠ e → Blk w g2 T cs → Blk w' g2 T cs) → wpList P ops Q rest (a.put o.dst (.slice A n c)) w') : wpList P ops Q (o :: rest) a w := by
  refine Lib.wpList_append_own_string (P := P) w hgd sl x t u ho base e i ht hu hi hz hsize hby v xs.length (xs.map bv) hs hown ⟨s.toArray⟩ hx (by rw [size_mk]; unfold maxLen; omega) (by rw [size_mk]; exact hbytes) hbase ?_
  intro v' w' hown' hg _
  rw [strCells_bv, size_mk, ← List.map_append, ← List.length_append] at hown'
  obtain ⟨A, c, rfl⟩ := own_slice hown'
  refine h _ _ _ w' hown' (below_of_grown hg hbase (fun k hk => (hown.lt k hk).1)) ?_
  intro g2 T cs hT hB
  refine (hg.block g2 hB.lt ?_).trans hB
  intro hk
  rcases hown.2 with ⟨hv, _⟩ | ⟨g0, cp0, cur, hv, _, h0, _⟩
  · rw [hv] at hk
    cases hk
  · rw [hv] at hk
    injection hk with hk
    subst hk
    rw [hB] at h0
    injection h0 with h0
    injection h0 with _ h0 _
    exact hT h0
end
theorem Wr.call {base gw : Nat} {bs : List UInt8} {w w1 : World} (h : Wr base gw bs w) (d : Below w.heap.size w w1) : Wr base gw bs w1 := by
  obtain ⟨v, hB, hown⟩ := h
  exact ⟨v, hB.keep d, own_below hown d (Nat.le_refl _)⟩
theorem Wr.alloc {base gw : Nat} {bs : List UInt8} {w : World} (h : Wr base gw bs w) (o : Obj) : Wr base gw bs (w.alloc o) := by
  obtain ⟨v, hB, hown⟩ := h
  exact ⟨v, hB.alloc o, hown.alloc o⟩
theorem Wr.drew {base gw : Nat} {bs : List UInt8} {w : World} (h : Wr base gw bs w) : Wr base gw bs w.drew := h
theorem own_setT {w : World} {base size n : Nat} {e : TypeId} {v : Value} {xs : List Value} (h : w.ownsRow base e size v n xs) {p : Addr} (u : Value) {T : TypeId} {cs : Array Value} (hB : Blk w p.block T cs) (hT : T ≠ e) : (w.setCell p u).ownsRow base e size v n xs := by
  refine ⟨h.1, ?_⟩
  rcases h.2 with h0 | ⟨g, cap, cur, hv, hbg, hg, rest⟩
  · exact .inl h0
  · refine .inr ⟨g, cap, cur, hv, hbg, ?_, rest⟩
    rw [Below.heap_setCell]
    · exact hg
    · intro hgp
      subst hgp
      rw [hB] at hg
      injection hg with hg
      injection hg with _ h0 _
      exact hT h0
theorem Wr.far {base gw : Nat} {bs : List UInt8} {w : World} (h : Wr base gw bs w) {p : Addr} (hp : p.block ≠ gw) (u : Value) {T : TypeId} {cs : Array Value} (hB : Blk w p.block T cs) (hT : T ≠ 5) : Wr base gw bs (w.setCell p u) := by
  obtain ⟨v, hG, hown⟩ := h
  exact ⟨v, hG.far (fun h => hp h.symm) u, own_setT hown u hB hT⟩
theorem Wr.lt {base gw : Nat} {bs : List UInt8} {w : World} (h : Wr base gw bs w) : gw < w.heap.size := h.choose_spec.1.lt
def WnRel (base gw : Nat) (bs : List UInt8) (n : Nat) (f : Nat → List UInt8) (w : World) (i : Value) (wr : World) : Prop :=
  ∃ k : Nat, i = .int .i64 k ∧ k ≤ n ∧ Wr base gw (bs ++ f k) wr ∧ KW base gw w wr
set_option maxHeartbeats 800000 in
set_option maxRecDepth 100000 in
theorem wnums_any (base gw : Nat) (hbg : base ≤ gw) (bs : List UInt8) (zs : List Int) (A : Option Addr) (cap : Nat) (w : World) (hz : ∀ z ∈ zs, z ≤ 9223372036854775807) (hlen : bs.length + 9 * zs.length ≤ 140737488355328) (hm : zs.length ≤ 1000000)
    (hbw : base ≤ w.heap.size) (hW : Wr base gw bs w) (hL : ∀ w', KW base gw w w' → RdR ldC 1 w' w'.heap.size A zs) :
    Calls Tryz.prog 57 #[.pointer (some ⟨gw, 0, none⟩), .slice A zs.length cap] w fun e w' => e = .returned (.tuple #[]) ∧ Wr base gw (bs ++ numsB zs) w' ∧ KW base gw w w' := by
  obtain ⟨i0, hi, hz0, hz1, hz2⟩ := info_parts infoU8
  go_enter Tryz.func57, Tryz.ntmps57
  go_wp2
  go_loopw [10] (fun i wr => WnRel base gw bs zs.length (fun k => numsB (zs.take k)) w i wr) (fun i _ => zs.length - (intOf i).toNat)
  case atStart => exact ⟨0, rfl, Nat.zero_le _, by simpa [numsB] using hW, Kp.refl⟩
  case round =>
    obtain ⟨k, rfl, hk, hwr, hkw⟩ := hrel
    simp only at hwr
    have hbs := hkw.size
    have hnl := numsB_len (zs.take k)
    rw [List.length_take, Nat.min_eq_left hk] at hnl
    by_cases hlt : k < zs.length
    · obtain ⟨b, off, rfl, hbB, hc1⟩ := ldc_cells (hL wr hkw) k hlt
      obtain ⟨z, hzk⟩ : ∃ z, zs[k] = z := ⟨_, rfl⟩
      rw [hzk] at hc1
      have hz63 := hz zs[k] (List.getElem_mem hlt)
      rw [hzk] at hz63
      have hsn := numsB_snoc zs k hlt
      rw [hzk] at hsn
      have HSN := Lib.hid hsn
      clear hsn hzk
      generalize numsB (zs.take k) = ns at *
      have hpl := putI_len z
      have i1 : (k : Int) < (zs.length : Int) := by omega
      go_wp2_with fail
      refine (put_int z (by omega) wr).mono ?_
      rintro e w1 ⟨rfl, hb1⟩
      generalize (putI z).1 = ps at *
      obtain ⟨cs, hcs⟩ : ∃ cs, bs ++ ns = cs := ⟨_, rfl⟩
      have hcl : cs.length ≤ bs.length + 9 * k := by rw [← hcs, List.length_append]; omega
      rw [hcs] at hwr
      have HCS := Lib.hid hcs
      clear hcs
      obtain ⟨v, hB, hown⟩ := hwr.call hb1
      obtain ⟨A1, c1, rfl⟩ := own_slice hown
      have hkw1 := hkw.call hbw hb1
      have hbs1 := hkw1.size
      obtain ⟨gl, v0, v1⟩ := hB.c1
      go_wp2_with (at_builtin; refine wpList_apstr2 (by rfl) _ _ _ _ (by rfl) base 5 i0 Tryz.underlying88 Tryz.underlying9 hi hz0 hz1 hz2 w1 _ cs (by rfl) hown ps (by rfl) ?hl1 ?hl2 ?_; (focus omega); (focus omega); intro A2 n2 c2 w2 hown2 hb2 hk2; have hB2 := hk2 _ _ _ (by decide) hB; clear v0 v1; obtain ⟨gl2, u0, u1⟩ := hB2.c1)
      go_roundw
      case rel =>
        refine ⟨k + 1, by go_num, by omega, ⟨_, hB2.set 0 _, ?_⟩, ?_⟩
        · have : bs ++ numsB (zs.take (k + 1)) = cs ++ ps := by rw [HSN.out, ← HCS.out, List.append_assoc]
          rw [this]
          exact own_setT (p := ⟨gw, 0, none⟩) hown2 _ hB2 (by decide)
        · exact (hkw1.trans ⟨hb2, fun g T cs _ hT hB => hk2 g T cs hT hB⟩).set hbg 0 _
      case measure => simp [intOf]; omega
    · have hkl : k = zs.length := by omega
      have htk : zs.take k = zs := List.take_of_length_le (by omega)
      rw [htk] at hwr
      clear htk
      go_wp2
      go_end0
      exact ⟨rfl, hwr, hkw⟩
end Go.Proofs.YtkoligiilieboaaGreatDoor
namespace Go.Proofs.YtkoligiilieboaaGreatDoor
open Go.RowKit
attribute [local go_sem] ByteArray.mk_append_mk ByteArray.extract_mk
attribute [local go_sem ↓] Go.wp_at_zero Go.wp_at_succ
section
variable {P : Program}
theorem step_apstr2 {ops : Array Oper} {o : Oper} {a : Act} {K : Act → World → Prop} {Q : Exit → Act → World → Prop} {E : Prop} (hgd : o.guard = none) (sl x : Operand) (t u : TypeId)
    (ho : o.op = .call { callee := .builtin .append, args := #[sl, x], argTypes := #[t, u] })
    (base : Nat) (e : TypeId) (i : TypeInfo) (ht : P.underlying t = some (.slice e)) (hu : P.underlying u = some .string) (hi : P.info? e = some i) (hz : i.zero = some (.int .u8 0))
    (hsize : i.size = 1) (hby : i.bytes = 1)
    (w : World) (v : Value) (xs : List UInt8) (hs : a.eval sl = v) (hown : w.ownsRow base e 1 v xs.length (xs.map bv)) (s : List UInt8) (hx : a.eval x = .string ⟨s.toArray⟩)
    (hbytes : xs.length + s.length ≤ 140737488355328) (hbase : base ≤ w.heap.size)
    (h : ∀ A n c w', w'.ownsRow base e 1 (.slice A n c) (xs ++ s).length ((xs ++ s).map bv) → Below base w w' → (∀ g2 T cs, T ≠ e → Blk w g2 T cs → Blk w' g2 T cs) → K (a.put o.dst (.slice A n c)) w') :
    if Region.wanted o (yielded ops a.tmps) = true then Oper.wp P o a w K Q else E := by
  have hw : Region.wanted o (yielded ops a.tmps) = true := by simp [Region.wanted, hgd]
  rw [if_pos hw]
  obtain ⟨v', w', hr, hown', hg, _⟩ := Lib.run_append_own_string (P := P) w base t u o.type e i ht hu hi hz hsize hby v xs.length (xs.map bv) hown ⟨s.toArray⟩ (by rw [size_mk]; unfold maxLen; omega) (by rw [size_mk]; exact hbytes) hbase
  rw [strCells_bv, size_mk, ← List.map_append, ← List.length_append] at hown'
  obtain ⟨A, c, rfl⟩ := own_slice hown'
  unfold Oper.wp execOp
  simp only [ho, resolve, invoke, builtin, Sem.run_bind, Sem.run_pure, Result.andThen_ok, List.map_toArray, List.map_cons, List.map_nil, hs, hx, hr]
  refine h _ _ _ w' hown' (below_of_grown hg hbase (fun k hk => (hown.lt k hk).1)) ?_
  intro g2 T cs hT hB
  refine (hg.block g2 hB.lt ?_).trans hB
  intro hk
  rcases hown.2 with ⟨hv, _⟩ | ⟨g0, cp0, cur, hv, _, h0, _⟩
  · rw [hv] at hk
    cases hk
  · rw [hv] at hk
    injection hk with hk
    subst hk
    rw [hB] at h0
    injection h0 with h0
    injection h0 with _ h0 _
    exact hT h0
end
theorem flagL_len (on : Bool) : (flagL on).length = 1 := by cases on <;> rfl
set_option maxHeartbeats 800000 in
set_option maxRecDepth 100000 in
theorem wflag_any (base gw : Nat) (hbg : base ≤ gw) (bs : List UInt8) (on : Bool) (w : World) (hlen : bs.length + 1 ≤ 140737488355328)
    (hbw : base ≤ w.heap.size) (hW : Wr base gw bs w) :
    Calls Tryz.prog 60 #[.pointer (some ⟨gw, 0, none⟩), .bool on] w fun e w' => e = .returned (.tuple #[]) ∧ Wr base gw (bs ++ flagL on) w' ∧ KW base gw w w' := by
  obtain ⟨i0, hi, hz0, hz1, hz2⟩ := info_parts infoU8
  obtain ⟨v, hB, hown⟩ := hW
  obtain ⟨A1, c1, rfl⟩ := own_slice hown
  obtain ⟨gl, v0, v1⟩ := hB.c1
  have hfl := flagL_len on
  go_enter Tryz.func60, Tryz.ntmps60
  go_wp2_with fail
  go_region_law (first
    | (go_simp; go_at_call 99; refine (flag_any on _).mono ?_; rintro e w1 ⟨rfl, d1⟩; have hB1 := hB.drew.keep d1; have hown1 := own_below (W := w.drew) hown d1 (Nat.le_refl _); have hs1 := d1.size; have hs0 : w.heap.size ≤ w1.heap.size := hs1; obtain ⟨gl1, z0, z1⟩ := hB1.c1)
    | (refine step_apstr2 (by rfl) _ _ _ _ (by rfl) base 5 i0 Tryz.underlying88 Tryz.underlying9 hi hz0 hz1 hz2 w1 _ bs (by rfl) hown1 (flagL on) (by rfl) ?hl1 ?hl2 ?_; (case hl1 => omega); (case hl2 => omega); intro A2 n2 c2 w2 hown2 hb2 hk2; have hB2 := hk2 _ _ _ (by decide) hB1; obtain ⟨gl2, u0, u1⟩ := hB2.c1))
  all_goals
    go_wp2
    go_end0
    refine ⟨rfl, ⟨_, hB2.set 0 _, own_setT (p := ⟨gw, 0, none⟩) hown2 _ hB2 (by decide)⟩, ?_⟩
    exact (((Kp.refl.drew).call hbw d1).trans ⟨hb2, fun g T cs _ hT hB => hk2 g T cs hT hB⟩).set hbg 0 _
theorem textL_len (l : List UInt8) : (textL l).length ≤ 9 + l.length := by
  have := putL_len l.length
  unfold textL
  rw [List.length_append]
  omega
def stC (x : List UInt8) : List Value := [.string ⟨x.toArray⟩]
theorem stc_cells {w : World} {B : Nat} {A : Option Addr} {ls : List (List UInt8)} (hR : RdR stC 1 w B A ls) (k : Nat) (hk : k < ls.length) :
    ∃ b off, A = some ⟨b, off, none⟩ ∧ b < B ∧ w.cell? ⟨b, off + k, none⟩ = some (.string ⟨ls[k].toArray⟩) := by
  obtain ⟨b, off, hA, hb, hc⟩ := hR (by omega)
  exact ⟨b, off, hA, hb, by simpa using hc k hk 0 _ rfl⟩
def textsB (l : List (List UInt8)) : List UInt8 := l.flatMap textL
theorem textsB_snoc (l : List (List UInt8)) (k : Nat) (h : k < l.length) : textsB (l.take (k + 1)) = textsB (l.take k) ++ textL l[k] := by
  unfold textsB
  rw [List.take_succ_eq_append_getElem h, List.flatMap_append]
  simp
theorem textsB_take (l : List (List UInt8)) (k : Nat) : (textsB (l.take k)).length ≤ (textsB l).length := by
  conv => rhs; rw [← List.take_append_drop k l]
  unfold textsB
  rw [List.flatMap_append, List.length_append]
  omega
theorem textsB_two (l : List (List UInt8)) (k : Nat) (h : k < l.length) : (textsB (l.take k)).length + (textL l[k]).length ≤ (textsB l).length := by
  have := textsB_take l (k + 1)
  rw [textsB_snoc l k h, List.length_append] at this
  exact this
set_option maxHeartbeats 1600000 in
set_option maxRecDepth 100000 in
theorem wtexts_any (base gw : Nat) (hbg : base ≤ gw) (bs : List UInt8) (ss : List (List UInt8)) (A : Option Addr) (cap : Nat) (w : World) (hlen : bs.length + (textsB ss).length ≤ 140737488355328) (hm : ss.length ≤ 1000000)
    (hbw : base ≤ w.heap.size) (hW : Wr base gw bs w) (hL : ∀ w', KW base gw w w' → RdR stC 1 w' w'.heap.size A ss) :
    Calls Tryz.prog 59 #[.pointer (some ⟨gw, 0, none⟩), .slice A ss.length cap] w fun e w' => e = .returned (.tuple #[]) ∧ Wr base gw (bs ++ textsB ss) w' ∧ KW base gw w w' := by
  obtain ⟨i0, hi, hz0, hz1, hz2⟩ := info_parts infoU8
  go_enter Tryz.func59, Tryz.ntmps59
  go_wp2
  go_loopw [8] (fun i wr => WnRel base gw bs ss.length (fun k => textsB (ss.take k)) w i wr) (fun i _ => ss.length - (intOf i).toNat)
  case atStart => exact ⟨0, rfl, Nat.zero_le _, by simpa [textsB] using hW, Kp.refl⟩
  case round =>
    obtain ⟨k, rfl, hk, hwr, hkw⟩ := hrel
    simp only at hwr
    have hbs := hkw.size
    by_cases hlt : k < ss.length
    · obtain ⟨b, off, rfl, hbB, hc1⟩ := stc_cells (hL wr hkw) k hlt
      have hsn := textsB_snoc ss k hlt
      have h2 := textsB_two ss k hlt
      have hln : ss[k].length ≤ (textL ss[k]).length := by unfold textL; rw [List.length_append]; omega
      obtain ⟨z, hzk⟩ : ∃ z, ss[k] = z := ⟨_, rfl⟩
      rw [hzk] at hc1 hsn h2 hln
      have HSN := Lib.hid hsn
      clear hsn hzk
      generalize textsB (ss.take k) = ns at *
      obtain ⟨cs, hcs⟩ : ∃ cs, bs ++ ns = cs := ⟨_, rfl⟩
      have hcl : cs.length + (textL z).length ≤ 140737488355328 := by rw [← hcs, List.length_append]; omega
      rw [hcs] at hwr
      have HCS := Lib.hid hcs
      clear hcs h2
      have i1 : (k : Int) < (ss.length : Int) := by omega
      obtain ⟨v, hB, hown⟩ := hwr
      obtain ⟨A1, c1, rfl⟩ := own_slice hown
      obtain ⟨gl, v0, v1⟩ := hB.c1
      have hzl : z.length ≤ 140737488355328 := by omega
      go_wp2_with fail
      go_region_law (first
        | (go_simp; go_at_call 98; refine (text_any z (by omega) _).mono ?_; rintro e w1 ⟨rfl, d1⟩; have hB1 := hB.drew.keep d1; have hown1 := own_below (W := wr.drew) hown d1 (Nat.le_refl _); have hs1 := d1.size; have hs0 : wr.heap.size ≤ w1.heap.size := hs1; obtain ⟨gl1, z0, z1⟩ := hB1.c1)
        | (refine step_apstr2 (by rfl) _ _ _ _ (by rfl) base 5 i0 Tryz.underlying88 Tryz.underlying9 hi hz0 hz1 hz2 w1 _ cs (by rfl) hown1 (textL z) (by rfl) ?hl1 ?hl2 ?_; (case hl1 => omega); (case hl2 => omega); intro A2 n2 c2 w2 hown2 hb2 hk2; have hB2 := hk2 _ _ _ (by decide) hB1; obtain ⟨gl2, u0, u1⟩ := hB2.c1))
      all_goals
        go_wp2_with fail
        go_roundw
        case rel =>
          refine ⟨k + 1, by go_num, by omega, ⟨_, hB2.set 0 _, ?_⟩, ?_⟩
          · have : bs ++ textsB (ss.take (k + 1)) = cs ++ textL z := by rw [HSN.out, ← HCS.out, List.append_assoc]
            rw [this]
            exact own_setT (p := ⟨gw, 0, none⟩) hown2 _ hB2 (by decide)
          · exact (((hkw.drew).call hbw d1).trans ⟨hb2, fun g T cs _ hT hB => hk2 g T cs hT hB⟩).set hbg 0 _
        case measure => simp [intOf]; omega
    · have hkl : k = ss.length := by omega
      have htk : ss.take k = ss := List.take_of_length_le (by omega)
      rw [htk] at hwr
      clear htk
      go_wp2
      go_end0
      exact ⟨rfl, hwr, hkw⟩
end Go.Proofs.YtkoligiilieboaaGreatDoor
namespace Go.Proofs.YtkoligiilieboaaGreatDoor
open Go.RowKit
attribute [local go_sem] ByteArray.mk_append_mk ByteArray.extract_mk
attribute [local go_sem ↓] Go.wp_at_zero Go.wp_at_succ
abbrev Stm := Int × Int × Int
def smC (x : Stm) : List Value := [.int .i64 x.1, .int .i64 x.2.1, .int .i64 x.2.2]
theorem smc_cells {w : World} {B : Nat} {A : Option Addr} {ls : List Stm} (hR : RdR smC 3 w B A ls) (k : Nat) (hk : k < ls.length) :
    ∃ b off, A = some ⟨b, off, none⟩ ∧ b < B ∧ w.cell? ⟨b, off + k * 3, none⟩ = some (.int .i64 ls[k].1) ∧ w.cell? ⟨b, off + k * 3 + 1, none⟩ = some (.int .i64 ls[k].2.1) ∧ w.cell? ⟨b, off + k * 3 + 2, none⟩ = some (.int .i64 ls[k].2.2) := by
  obtain ⟨b, off, hA, hb, hc⟩ := hR (by omega)
  exact ⟨b, off, hA, hb, hc k hk 0 _ rfl, hc k hk 1 _ rfl, hc k hk 2 _ rfl⟩
def stampB (x : Stm) : List UInt8 := (bytesS x.1 x.2.1 x.2.2).1
theorem bytesS_len (a t n : Int) : (bytesS a t n).1.length ≤ 27 := by
  unfold bytesS
  split
  · exact numsB_len _
  · simp
def stampsB (l : List Stm) : List UInt8 := l.flatMap stampB
theorem stampsB_snoc (l : List Stm) (k : Nat) (h : k < l.length) : stampsB (l.take (k + 1)) = stampsB (l.take k) ++ stampB l[k] := by
  unfold stampsB
  rw [List.take_succ_eq_append_getElem h, List.flatMap_append]
  simp
theorem stampsB_len (l : List Stm) : (stampsB l).length ≤ 27 * l.length := by
  induction l with
  | nil => simp [stampsB]
  | cons x l ih =>
    have := bytesS_len x.1 x.2.1 x.2.2
    unfold stampsB at *
    simp only [List.flatMap_cons, List.length_append, List.length_cons, stampB]
    omega
set_option maxHeartbeats 1600000 in
set_option maxRecDepth 100000 in
theorem wstamps_any (base gw : Nat) (hbg : base ≤ gw) (bs : List UInt8) (ss : List Stm) (A : Option Addr) (cap : Nat) (w : World) (hlen : bs.length + 27 * ss.length ≤ 140737488355328) (hm : ss.length ≤ 1000000)
    (hbw : base ≤ w.heap.size) (hW : Wr base gw bs w) (hL : ∀ w', KW base gw w w' → RdR smC 3 w' w'.heap.size A ss) :
    Calls Tryz.prog 56 #[.pointer (some ⟨gw, 0, none⟩), .slice A ss.length cap] w fun e w' => e = .returned (.tuple #[]) ∧ Wr base gw (bs ++ stampsB ss) w' ∧ KW base gw w w' := by
  obtain ⟨i0, hi, hz0, hz1, hz2⟩ := info_parts infoU8
  go_enter Tryz.func56, Tryz.ntmps56
  go_wp2
  go_loopw [10] (fun i wr => WnRel base gw bs ss.length (fun k => stampsB (ss.take k)) w i wr) (fun i _ => ss.length - (intOf i).toNat)
  case atStart => exact ⟨0, rfl, Nat.zero_le _, by simpa [stampsB] using hW, Kp.refl⟩
  case round =>
    obtain ⟨k, rfl, hk, hwr, hkw⟩ := hrel
    simp only at hwr
    have hbs := hkw.size
    by_cases hlt : k < ss.length
    · obtain ⟨b, off, rfl, hbB, hc1, hc2, hc3⟩ := smc_cells (hL wr hkw) k hlt
      have hsn := stampsB_snoc ss k hlt
      have hnl := stampsB_len (ss.take k)
      rw [List.length_take, Nat.min_eq_left hk] at hnl
      obtain ⟨⟨za, zt, zn⟩, hzk⟩ : ∃ z, ss[k] = z := ⟨_, rfl⟩
      rw [hzk] at hc1 hc2 hc3 hsn
      simp only at hc1 hc2 hc3
      have HSN := Lib.hid hsn
      clear hsn hzk
      generalize stampsB (ss.take k) = ns at *
      obtain ⟨cs, hcs⟩ : ∃ cs, bs ++ ns = cs := ⟨_, rfl⟩
      have hcl : cs.length ≤ bs.length + 27 * k := by rw [← hcs, List.length_append]; omega
      rw [hcs] at hwr
      have HCS := Lib.hid hcs
      clear hcs
      have i1 : (k : Int) < (ss.length : Int) := by omega
      go_wp2_with fail
      refine (stbytes_any za zt zn _).mono ?_
      rintro e w1 ⟨rfl, hb1⟩
      have hpl := bytesS_len za zt zn
      have hkw1 := (hkw.alloc hbw (.cells #[.int .i64 za, .int .i64 zt, .int .i64 zn] 27)).call hbw hb1
      obtain ⟨v, hB, hown⟩ := (hwr.alloc (.cells #[.int .i64 za, .int .i64 zt, .int .i64 zn] 27)).call hb1
      obtain ⟨ps, hps⟩ : ∃ ps, (bytesS za zt zn).1 = ps := ⟨_, rfl⟩
      rw [hps] at hpl ⊢
      have HPS := Lib.hid hps
      clear hps
      generalize (bytesS za zt zn).2 = en at *
      obtain ⟨A1, c1, rfl⟩ := own_slice hown
      have hbs1 := hkw1.size
      obtain ⟨gl, v0, v1⟩ := hB.c1
      go_wp2_with (at_builtin; refine wpList_apstr2 (by rfl) _ _ _ _ (by rfl) base 5 i0 Tryz.underlying88 Tryz.underlying9 hi hz0 hz1 hz2 w1 _ cs (by rfl) hown ps (by rfl) ?hl1 ?hl2 ?_; (focus omega); (focus omega); intro A2 n2 c2 w2 hown2 hb2 hk2; have hB2 := hk2 _ _ _ (by decide) hB; clear v0 v1; obtain ⟨gl2, u0, u1⟩ := hB2.c1)
      go_roundw
      case rel =>
        refine ⟨k + 1, by go_num, by omega, ⟨_, hB2.set 0 _, ?_⟩, ?_⟩
        · have : bs ++ stampsB (ss.take (k + 1)) = cs ++ ps := by rw [HSN.out, ← HCS.out, List.append_assoc, stampB, HPS.out]
          rw [this]
          exact own_setT (p := ⟨gw, 0, none⟩) hown2 _ hB2 (by decide)
        · exact (hkw1.trans ⟨hb2, fun g T cs _ hT hB => hk2 g T cs hT hB⟩).set hbg 0 _
      case measure => simp [intOf]; omega
    · have hkl : k = ss.length := by omega
      have htk : ss.take k = ss := List.take_of_length_le (by omega)
      rw [htk] at hwr
      clear htk
      go_wp2
      go_end0
      exact ⟨rfl, hwr, hkw⟩
end Go.Proofs.YtkoligiilieboaaGreatDoor
namespace Go.Proofs.YtkoligiilieboaaGreatDoor
open Go.ChangeShapes Go.WideShapes Go.ChangeAt Go.RowKit Go.Deep
theorem size_mkL (l : List UInt8) : (⟨l.toArray⟩ : ByteArray).size = l.length := by show l.toArray.size = _; simp
def iok (n : Int) : Prop := (Lit.int .i64 n).wf = true
section
variable {H : Type} {enc : TypeId × Value → H} {w : World} {held : Bool}
def rqOk (r : Rq) : Prop := iok r.cl ∧ iok r.rq ∧ iok r.kd ∧ iok r.lim ∧ (iok r.a ∧ iok r.t ∧ iok r.n) ∧ r.ky.length ≤ 9223372036854775807 ∧ r.vl.length ≤ 9223372036854775807 ∧ r.old.length ≤ 9223372036854775807 ∧ r.hi.length ≤ 9223372036854775807
structure It where
  ky : List UInt8
  vl : List UInt8
instance : Inhabited It := ⟨⟨[], []⟩⟩
def itC (x : It) : List Value := [.string ⟨x.ky.toArray⟩, .string ⟨x.vl.toArray⟩]
def anOk (r : An) : Prop := iok r.er ∧ (iok r.a ∧ iok r.t ∧ iok r.n) ∧ r.vl.length ≤ 9223372036854775807 ∧ r.nx.length ≤ 9223372036854775807
def msOk (m : Ms) : Prop := iok m.kind ∧ iok m.frm ∧ iok m.to ∧ iok m.shard ∧ iok m.epoch ∧ iok m.move ∧ iok m.lease ∧ iok m.num ∧ iok m.of ∧ (iok m.a ∧ iok m.t ∧ iok m.n) ∧ m.text.length ≤ 9223372036854775807 ∧ rqOk m.req ∧ anOk m.ans
end
end Go.Proofs.YtkoligiilieboaaGreatDoor
namespace Go.Proofs.YtkoligiilieboaaGreatDoor
open Go.RowKit
attribute [local go_sem] ByteArray.mk_append_mk ByteArray.extract_mk
attribute [local go_sem ↓] Go.wp_at_zero Go.wp_at_succ
theorem infoI0 : (Tryz.prog.info? 3).map (fun i => (i.zero, i.size, i.bytes)) = some (some (.int .i64 0), 1, 8) := by kernel_rfl
abbrev plA (p : Pl) : Array Value := #[.string ⟨p.lo.toArray⟩, .string ⟨p.hi.toArray⟩, .int .i64 p.sh, .int .i64 p.ce, .int .i64 p.ep]
abbrev zpA : Array Value := #[.string ⟨#[]⟩, .string ⟨#[]⟩, .int .i64 0, .int .i64 0, .int .i64 0]
theorem iok_le {n : Int} (h : iok n) : n ≤ 9223372036854775807 := by
  unfold iok at h
  simp [Lit.wf] at h
  omega
def fitsB (n : Int) : Bool := decide (0 ≤ n) && decide (n ≤ 1099511627776)
def badN (n : Int) : Bool := !fitsB n
theorem badN_lo {n : Int} (h : n < 0) : badN n = true := by simp [badN, fitsB]; omega
theorem badN_hi {n : Int} (h : 1099511627776 < n) : badN n = true := by simp [badN, fitsB]; omega
theorem badN_ok {n : Int} (h0 : ¬ n < 0) (h : ¬ 1099511627776 < n) : badN n = false := by simp [badN, fitsB]; omega
theorem badn_any (n : Int) (w : World) : Calls Tryz.prog 78 #[.int .i64 n] w fun e w' => e = .returned (.bool (badN n)) ∧ w = w' := by
  by_cases h1 : n < 0
  case pos =>
    rw [badN_lo h1]
    go_enter Tryz.func78, Tryz.ntmps78
    go_wp2
    go_ret
    exact ⟨rfl, rfl⟩
  case neg =>
    by_cases h2 : 1099511627776 < n
    case pos =>
      rw [badN_hi h2]
      go_enter Tryz.func78, Tryz.ntmps78
      go_wp2
      go_ret
      exact ⟨rfl, rfl⟩
    case neg =>
      rw [badN_ok h1 h2]
      go_enter Tryz.func78, Tryz.ntmps78
      go_wp2
      go_ret
      exact ⟨rfl, rfl⟩
def IdRel (ls : List Int) (W : World) (i : Value) (wr : World) : Prop := ∃ k : Nat, i = .int .i64 k ∧ k ≤ ls.length ∧ (ls.take k).any badN = false ∧ Below W.heap.size W wr
set_option maxHeartbeats 1600000 in
set_option maxRecDepth 100000 in
theorem idxr (A : Option Addr) (cap : Nat) (ls : List Int) (hmax : ls.length ≤ 9223372036854775807) (w : World) (hL : RdR ldC 1 w w.heap.size A ls) :
    Calls Tryz.prog 111 #[.slice A ls.length cap, .func (.func 78) #[] #[]] w fun e w' => (∃ i : Int, e = .returned (.int .i64 i) ∧ ls.any badN = decide (0 ≤ i)) ∧ Below w.heap.size w w' := by
  go_enter Tryz.func111, Tryz.ntmps111
  go_wp2
  go_loopw [8] (fun i wr => IdRel ls w i wr) (fun i _ => ls.length - (intOf i).toNat)
  case atStart =>
    exact ⟨0, rfl, Nat.zero_le _, rfl, Below.refl _ _⟩
  case round =>
    obtain ⟨k, rfl, hk, hbad, hb⟩ := hrel
    have hbs := hb.size
    have i0 : (0 : Int) ≤ (k : Int) := by omega
    have HB := Lib.hid hbad
    clear hbad
    by_cases hlt : k < ls.length
    case pos =>
      obtain ⟨b, off, rfl, hbB, g0⟩ := ldc_cells hL k hlt
      have c0 := (hb.cell (p := ⟨b, _, none⟩) hbB).trans g0
      have i1 : (k : Int) < (ls.length : Int) := by omega
      have hmem : ls[k] ∈ ls := List.getElem_mem hlt
      have hsn : (ls.take (k + 1)).any badN = badN ls[k] := by rw [List.take_succ_eq_append_getElem hlt, List.any_append, HB.out]; simp
      obtain ⟨x, hx⟩ : ∃ x, ls[k] = x := ⟨_, rfl⟩
      rw [hx] at c0 hmem hsn
      have HM := Lib.hid hmem
      have HS := Lib.hid hsn
      clear hx g0 hmem hsn
      go_wp2_with fail
      refine (badn_any x _).mono ?_
      rintro e w1 ⟨rfl, rfl⟩
      obtain ⟨q, hq⟩ : ∃ q, badN x = q := ⟨_, rfl⟩
      have HQ := Lib.hid hq
      rw [hq]
      clear hq
      cases q
      case true =>
        go_wp2
        go_ret
        refine ⟨⟨k, rfl, ?_⟩, hb⟩
        rw [List.any_eq_true.2 ⟨x, HM.out, HQ.out⟩]
        simp
      case false =>
        go_wp2
        go_roundw
        case rel =>
          exact ⟨k + 1, by go_num, by omega, by rw [HS.out, HQ.out], hb⟩
        case measure =>
          simp [intOf]; omega
    case neg =>
      have hke : k = ls.length := by omega
      subst hke
      go_wp2
      go_ret
      refine ⟨⟨-1, rfl, ?_⟩, hb⟩
      have := HB.out
      rw [List.take_length] at this
      rw [this]
      rfl
theorem hasr (A : Option Addr) (cap : Nat) (ls : List Int) (hmax : ls.length ≤ 9223372036854775807) (w : World) (hL : RdR ldC 1 w w.heap.size A ls) :
    Calls Tryz.prog 76 #[.slice A ls.length cap, .func (.func 78) #[] #[]] w fun e w' => e = .returned (.bool (ls.any badN)) ∧ Below w.heap.size w w' := by
  go_enter Tryz.func76, Tryz.ntmps76
  go_wp2_with fail
  refine (idxr A cap ls hmax w hL).mono ?_
  rintro e w1 ⟨⟨i, rfl, hi⟩, hb1⟩
  have HI := Lib.hid hi
  clear hi
  by_cases h0 : 0 ≤ i
  case pos =>
    go_wp2
    go_ret
    exact ⟨by rw [HI.out]; simp [h0], hb1⟩
  case neg =>
    go_wp2
    go_ret
    exact ⟨by rw [HI.out]; simp [h0], hb1⟩
structure MsgIn (m : Ms) (its : List It) (ps : List Pl) (ls : List Int) (w : World) : Prop where
  ni : its.length = m.ans.itn
  np : ps.length = m.pn
  nl : ls.length = m.mn
  icap : m.ans.itn ≤ m.ans.itc
  pcap : m.pn ≤ m.pc
  lcap : m.mn ≤ m.mc
  i63 : m.ans.itn ≤ 9223372036854775807
  p63 : m.pn ≤ 9223372036854775807
  l63 : m.mn ≤ 9223372036854775807
  ri : RdR itC 2 w w.heap.size m.ans.itA its
  rp : RdR plC 5 w w.heap.size m.pA ps
  rl : RdR ldC 1 w w.heap.size m.mA ls
theorem MsgIn.keep {m : Ms} {its : List It} {ps : List Pl} {ls : List Int} {w w' : World} (h : MsgIn m its ps ls w) (hb : Below w.heap.size w w') : MsgIn m its ps ls w' :=
  { h with ri := RdR.more (h.ri.below hb (Nat.le_refl _)) hb.size, rp := RdR.more (h.rp.below hb (Nat.le_refl _)) hb.size, rl := RdR.more (h.rl.below hb (Nat.le_refl _)) hb.size }
def numsM (m : Ms) (ps : List Pl) (ls : List Int) : List Int :=
  [m.kind, m.frm, m.to, m.shard, m.epoch, m.move, m.lease, m.num, m.of, m.req.cl, m.req.rq, m.req.kd, m.req.lim] ++ ps.flatMap (fun p => [p.sh, p.ce, p.ep]) ++ ls
def num3 (p : Pl) : List Int := [p.sh, p.ce, p.ep]
theorem num3_len (ps : List Pl) : (ps.flatMap num3).length = 3 * ps.length := by
  induction ps with
  | nil => rfl
  | cons p r ih => simp only [List.flatMap_cons, List.length_append, ih, List.length_cons, num3]; simp; omega
theorem num3_snoc (ps : List Pl) (k : Nat) (h : k < ps.length) : (ps.take (k + 1)).flatMap num3 = (ps.take k).flatMap num3 ++ num3 ps[k] := by
  rw [List.take_succ_eq_append_getElem h, List.flatMap_append]
  simp
abbrev nm13 (m : Ms) : List Int := [m.kind, m.frm, m.to, m.shard, m.epoch, m.move, m.lease, m.num, m.of, m.req.cl, m.req.rq, m.req.kd, m.req.lim]
def NumsPost (m : Ms) (ps : List Pl) (ls : List Int) (w : World) (e : Ending) (w' : World) : Prop :=
  ∃ A c, e = .returned (.slice A (numsM m ps ls).length c) ∧ (numsM m ps ls).length ≤ 1000 ∧ RdR ldC 1 w' w'.heap.size A (numsM m ps ls) ∧ Below w.heap.size w w'
theorem Blk.ms {w : World} {g : Nat} {t : TypeId} {m : Ms} (h : Blk w g t (msA m)) : g < w.heap.size ∧ w.cell? ⟨g, 0, none⟩ = some (.int .i64 m.kind) ∧ w.cell? ⟨g, 34, none⟩ = some (.slice m.pA m.pn m.pc) ∧ w.cell? ⟨g, 35, none⟩ = some (.slice m.mA m.mn m.mc) :=
  ⟨h.lt, h.cell 0, h.cell 34, h.cell 35⟩
def NumRl (m : Ms) (ps : List Pl) (n : Nat) (W : World) (sl i : Value) (wr : World) : Prop :=
  ∃ (k : Nat) (l : List Int), i = .int .i64 k ∧ k ≤ n ∧ l = nm13 m ++ (ps.take k).flatMap num3 ∧ wr.ownsRow W.heap.size 3 1 sl l.length (ivF l) ∧ Below W.heap.size W wr
set_option maxHeartbeats 3200000 in
set_option maxRecDepth 100000 in
theorem bnums_any (m : Ms) (its : List It) (ps : List Pl) (ls : List Int) (w : World) (hM : MsgIn m its ps ls w) (hp40 : m.pn ≤ 40) (hl40 : m.mn ≤ 40) : Calls Tryz.prog 77 #[msV m] w (NumsPost m ps ls w) := by
  obtain ⟨is, his, hz0, hz1, hz2⟩ := info_parts infoI0
  have hpn := hM.np
  have hln := hM.nl
  have B0 : Blk (w.alloc (.cells (msA m) 51)) w.heap.size 51 (msA m) := Blk.new w _ _
  have hbW : Below w.heap.size w (w.alloc (.cells (msA m) 51)) := bal (b0 w) _
  go_enter Tryz.func77, Tryz.ntmps77
  go_wp2_with fail
  have hlit := own_lit (w.alloc (.cells (msA m) 51)) (w.alloc (.cells (msA m) 51)).heap.size 3 (ivF (nm13 m)) 13 rfl (by decide) (Nat.le_refl _)
  go_loopw [3, 40] (fun sl i wr => NumRl m ps m.pn (w.alloc (.cells (msA m) 51)) sl i wr) (fun _ i _ => m.pn - (intOf i).toNat)
  case atStart =>
    refine ⟨0, nm13 m, rfl, Nat.zero_le _, by simp, ?_, bal (b0 _) _⟩
    simpa [ivF] using hlit
  case round =>
    obtain ⟨k, l, rfl, hk, hl, hown, hb⟩ := hrel
    clear hlit
    have B1 := B0.keep hb
    have hM1 := (hM.keep hbW).keep hb
    generalize (w.alloc (.cells (msA m) 51)) = W at *
    have i0 : (0 : Int) ≤ (k : Int) := by omega
    obtain ⟨A0, c00, rfl⟩ := own_slice hown
    have hlb : l.length ≤ 200 := by
      rw [hl, List.length_append, num3_len, List.length_take]
      simp
      omega
    have HL := Lib.hid hl
    clear hl
    by_cases hlt : k < m.pn
    case pos =>
      have i1 : (k : Int) < (m.pn : Int) := by omega
      have hsn := num3_snoc ps k (by omega)
      obtain ⟨b, off, hA, hbB, c0, c1, c2, c3, c4⟩ := plc_cells hM1.rp k (by omega)
      obtain ⟨x, hx⟩ : ∃ x, ps[k] = x := ⟨_, rfl⟩
      rw [hx] at c0 c1 c2 c3 c4 hsn
      have HSN := Lib.hid hsn
      clear hx hsn
      simp only [hA]
      have G : Blk (wr.alloc (.cells zpA 81)) wr.heap.size 81 zpA := Blk.new wr _ _
      have hbx : ∀ w', w' = (wr.alloc (.cells zpA 81)).setRow wr.heap.size (plA x) → Below wr.heap.size wr w' ∧ Blk w' wr.heap.size 81 (plA x) := by
        rintro _ rfl
        exact ⟨below_row (bal (b0 wr) _) (Nat.le_refl _) _, G.row _⟩
      have hbs := hb.size
      go_wp2_with (first | (with_reducible refine wpl_st G (by with_unfolding_all rfl) _ _ _ (by with_unfolding_all rfl) (plA x) (by with_unfolding_all rfl) (by with_unfolding_all rfl) (by with_unfolding_all rfl) (by with_unfolding_all rfl) (by with_unfolding_all rfl) ?_; intro w1 e1; obtain ⟨b1, B1x⟩ := hbx w1 e1; clear e1 hbx G c0 c1 c2 c3 c4; obtain ⟨z0, z1, z2, z3, z4, z5, z6, z7, z8, z9, z10⟩ := B1x.c5; have own1 := own_below hown b1 (Nat.le_refl _); have b1s := b1.size) | (at_builtin; refine wpList_pushM (by rfl) _ _ _ (by rfl) W.heap.size 3 is _ 8 Tryz.underlying49 his hz0 hz1 hz2 rfl w1 _ l.length (ivF l) (by rfl) own1 (ivF [x.sh, x.ce, x.ep]) 3 rfl (by decide) (ivF_one _) 3 (by rfl) (by omega) (by omega) (by omega) ?_; intro g cap' w6 hown6 hb6) | fail)
      go_roundw
      case rel =>
        refine ⟨k + 1, l ++ [x.sh, x.ce, x.ep], by go_num, by omega, by rw [HL.out, HSN.out, List.append_assoc]; rfl, ?_, (hb.trans (b1.mono hbs)).trans hb6⟩
        rw [List.length_append, ivF, List.map_append]
        exact hown6
      case measure =>
        simp [intOf]; omega
    case neg =>
      obtain ⟨hRl, hln2, hlc⟩ := own_i64s hown
      have hke : (k : Int) = (m.pn : Int) := by omega
      have hall : l ++ ls = numsM m ps ls := by
        rw [HL.out, List.take_of_length_le (by omega)]
        rfl
      have hlen1000 : (numsM m ps ls).length ≤ 1000 := by rw [← hall, List.length_append]; omega
      obtain ⟨ag, a0, a34, a35⟩ := B1.ms
      by_cases hz : m.mn = 0
      case pos =>
        rw [hz] at a35
        have hls : ls = [] := List.eq_nil_of_length_eq_zero (by omega)
        have hall2 : l = numsM m ps ls := by rw [← hall, hls, List.append_nil]
        have HALL := Lib.hid hall2
        clear hall hall2 hls
        clear a0 a34
        go_wp2_with (at_builtin; refine wpl_app0 (by rfl) _ _ _ (by rfl) 3 is Tryz.underlying49 his A0 l.length c00 hlc m.mA m.mc (by rfl) (by rfl) ?_)
        go_ret
        exact ⟨A0, c00, by rw [← HALL.out] <;> rfl, hlen1000, by rw [← HALL.out]; exact hRl, hbW.trans (hb.mono hbW.size)⟩
      case neg =>
        obtain ⟨b', off', hA', _, hcs⟩ := hM1.rl (by omega)
        rw [hA'] at a35
        have hbs := hb.size
        clear a0 a34
        have hnews : ∀ j u, (ivF ls)[j]? = some u → wr.cell? ((⟨b', off', none⟩ : Addr).add j) = some u := by
          intro j u hu
          obtain ⟨hj, hu2⟩ := List.getElem?_eq_some_iff.1 hu
          have hj2 : j < ls.length := by simpa [ivF] using hj
          rw [addr_add]
          have := hcs j hj2 0 u (by rw [← hu2]; simp [ivF, ldC])
          simpa using this
        have HALL := Lib.hid hall
        clear hall
        go_wp2_with (at_builtin; refine wpList_append_lies wr (by rfl) _ _ _ (by rfl) W.heap.size 3 is _ 1 8 Tryz.underlying49 his hz0 hz1 hz2 rfl (by decide) _ l.length (ivF l) (by rfl) hown ⟨b', off', none⟩ m.mn m.mc (ivF ls) (by rfl) (by simp [ivF]; omega) hnews (ivF_one _) (by omega) (by unfold maxLen; omega) (by omega) (by omega) _ rfl ?_; intro g cap' w6 hown6 hg6 _ _)
        go_ret
        have hb6 : Below W.heap.size W w6 := hb.trans (below_of_grown hg6 hbs (fun q hq => (hown.lt q hq).1))
        have hown7 : w6.ownsRow W.heap.size 3 1 (.slice (some ⟨g, 0, none⟩) (l.length + m.mn) cap') (l.length + m.mn) (ivF (l ++ ls)) := by rw [ivF, List.map_append]; exact hown6
        obtain ⟨hR6, hl6, _⟩ := own_i64s hown7
        exact ⟨_, _, by rw [← HALL.out, List.length_append, hln] <;> rfl, hlen1000, by rw [← HALL.out]; exact hR6, hbW.trans (hb6.mono hbW.size)⟩
end Go.Proofs.YtkoligiilieboaaGreatDoor
namespace Go.Proofs.YtkoligiilieboaaGreatDoor
open Go.RowKit
attribute [local go_sem] ByteArray.mk_append_mk ByteArray.extract_mk
attribute [local go_sem ↓] Go.wp_at_zero Go.wp_at_succ
def headB (m : Ms) : Bool := decide (1 ≤ m.kind) && decide (m.kind ≤ 37) && decide (0 ≤ m.ans.er) && decide (m.ans.er ≤ 16) && decide (m.ans.itn ≤ 8) && decide (m.pn ≤ 8) && decide (m.mn ≤ 8)
def rightM (m : Ms) (ps : List Pl) (ls : List Int) : Bool := headB m && ((!(numsM m ps ls).any badN) && (rightB m.a m.t m.n && (rightB m.req.a m.req.t m.req.n && rightB m.ans.a m.ans.t m.ans.n)))
theorem rightM_head {m : Ms} {ps : List Pl} {ls : List Int} (h : headB m = false) : rightM m ps ls = false := by simp [rightM, h]
theorem rightM_num {m : Ms} {ps : List Pl} {ls : List Int} {x : Int} (hx : x ∈ numsM m ps ls) (h : fitsB x = false) : rightM m ps ls = false := by
  have : (numsM m ps ls).any badN = true := List.any_eq_true.2 ⟨x, hx, by simp [badN, h]⟩
  simp [rightM, this]
theorem rightM_nums {m : Ms} {ps : List Pl} {ls : List Int} (h : (numsM m ps ls).any badN = true) : rightM m ps ls = false := by simp [rightM, h]
theorem rightM_rest {m : Ms} {ps : List Pl} {ls : List Int} (h : headB m = true) (h2 : (numsM m ps ls).any badN = false) : rightM m ps ls = (rightB m.a m.t m.n && (rightB m.req.a m.req.t m.req.n && rightB m.ans.a m.ans.t m.ans.n)) := by simp [rightM, h, h2]
theorem head_iff {m : Ms} (h : headB m = true) : (1 ≤ m.kind ∧ m.kind ≤ 37) ∧ (0 ≤ m.ans.er ∧ m.ans.er ≤ 16) ∧ m.ans.itn ≤ 8 ∧ m.pn ≤ 8 ∧ m.mn ≤ 8 := by
  simp [headB] at h
  omega
theorem Blk.ms9 {w : World} {g : Nat} {t : TypeId} {m : Ms} (h : Blk w g t (msA m)) : w.cell? ⟨g, 9, none⟩ = some (.int .i64 m.a) ∧ w.cell? ⟨g, 10, none⟩ = some (.int .i64 m.t) ∧ w.cell? ⟨g, 11, none⟩ = some (.int .i64 m.n) := ⟨h.cell 9, h.cell 10, h.cell 11⟩
theorem Blk.ms20 {w : World} {g : Nat} {t : TypeId} {m : Ms} (h : Blk w g t (msA m)) : w.cell? ⟨g, 20, none⟩ = some (.int .i64 m.req.a) ∧ w.cell? ⟨g, 21, none⟩ = some (.int .i64 m.req.t) ∧ w.cell? ⟨g, 22, none⟩ = some (.int .i64 m.req.n) := ⟨h.cell 20, h.cell 21, h.cell 22⟩
theorem Blk.ms26 {w : World} {g : Nat} {t : TypeId} {m : Ms} (h : Blk w g t (msA m)) : w.cell? ⟨g, 26, none⟩ = some (.int .i64 m.ans.a) ∧ w.cell? ⟨g, 27, none⟩ = some (.int .i64 m.ans.t) ∧ w.cell? ⟨g, 28, none⟩ = some (.int .i64 m.ans.n) := ⟨h.cell 26, h.cell 27, h.cell 28⟩
set_option maxHeartbeats 3200000 in
set_option maxRecDepth 100000 in
theorem rightmsg_any (m : Ms) (its : List It) (ps : List Pl) (ls : List Int) (w : World) (hM : MsgIn m its ps ls w) : Calls Tryz.prog 34 #[msV m] w fun e w' => e = .returned (.bool (rightM m ps ls)) ∧ Below w.heap.size w w' := by
  by_cases h0 : m.kind < 1
  case pos =>
    have hf : headB m = false := by simp [headB]; omega
    have HF := Lib.hid (rightM_head (ps := ps) (ls := ls) hf)
    clear hf
    go_enter Tryz.func34, Tryz.ntmps34
    go_wp2
    go_ret
    exact ⟨by rw [HF.out] <;> rfl, bal (b0 w) _⟩
  case neg =>
  by_cases h1 : 37 < m.kind
  case pos =>
    have hf : headB m = false := by simp [headB]; omega
    have HF := Lib.hid (rightM_head (ps := ps) (ls := ls) hf)
    clear hf
    go_enter Tryz.func34, Tryz.ntmps34
    go_wp2
    go_ret
    exact ⟨by rw [HF.out] <;> rfl, bal (b0 w) _⟩
  case neg =>
  by_cases h2 : m.ans.er < 0
  case pos =>
    have hf : headB m = false := by simp [headB]; omega
    have HF := Lib.hid (rightM_head (ps := ps) (ls := ls) hf)
    clear hf
    go_enter Tryz.func34, Tryz.ntmps34
    go_wp2
    go_ret
    exact ⟨by rw [HF.out] <;> rfl, bal (b0 w) _⟩
  case neg =>
  by_cases h3 : 16 < m.ans.er
  case pos =>
    have hf : headB m = false := by simp [headB]; omega
    have HF := Lib.hid (rightM_head (ps := ps) (ls := ls) hf)
    clear hf
    go_enter Tryz.func34, Tryz.ntmps34
    go_wp2
    go_ret
    exact ⟨by rw [HF.out] <;> rfl, bal (b0 w) _⟩
  case neg =>
  by_cases h4 : (8 : Int) < (m.ans.itn : Int)
  case pos =>
    have hf : headB m = false := by simp [headB]; omega
    have HF := Lib.hid (rightM_head (ps := ps) (ls := ls) hf)
    clear hf
    go_enter Tryz.func34, Tryz.ntmps34
    go_wp2
    go_ret
    exact ⟨by rw [HF.out] <;> rfl, bal (b0 w) _⟩
  case neg =>
  by_cases h5 : (8 : Int) < (m.pn : Int)
  case pos =>
    have hf : headB m = false := by simp [headB]; omega
    have HF := Lib.hid (rightM_head (ps := ps) (ls := ls) hf)
    clear hf
    go_enter Tryz.func34, Tryz.ntmps34
    go_wp2
    go_ret
    exact ⟨by rw [HF.out] <;> rfl, bal (b0 w) _⟩
  case neg =>
  by_cases h6 : (8 : Int) < (m.mn : Int)
  case pos =>
    have hf : headB m = false := by simp [headB]; omega
    have HF := Lib.hid (rightM_head (ps := ps) (ls := ls) hf)
    clear hf
    go_enter Tryz.func34, Tryz.ntmps34
    go_wp2
    go_ret
    exact ⟨by rw [HF.out] <;> rfl, bal (b0 w) _⟩
  case neg =>
  have hh : headB m = true := by simp [headB]; omega
  have hp40 : m.pn ≤ 40 := by omega
  have hl40 : m.mn ≤ 40 := by omega
  have B00 : Blk (w.alloc (.cells (msA m) 51)) w.heap.size 51 (msA m) := Blk.new w _ _
  have hbW : Below w.heap.size w (w.alloc (.cells (msA m) 51)) := bal (b0 w) _
  have hMW := hM.keep hbW
  go_enter Tryz.func34, Tryz.ntmps34
  go_wp2_with (with_reducible refine wpl_ld B00 (by with_unfolding_all rfl) _ _ (by with_unfolding_all rfl) (by with_unfolding_all rfl) _ Tryz.underlying51 (by with_unfolding_all rfl) (by with_unfolding_all rfl) ?_)
  clear h0 h1 h2 h3 h4 h5 h6
  generalize (w.alloc (.cells (msA m) 51)) = W at *
  refine (bnums_any m its ps ls W hMW hp40 hl40).mono ?_
  rintro e w1 ⟨A, c, rfl, hl, hR, d1⟩
  go_wp2_with fail
  refine (hasr A c (numsM m ps ls) (by omega) w1 hR).mono ?_
  rintro e w2 ⟨rfl, d2⟩
  have hb0 : Below w.heap.size w w2 := bt (bt hbW d1) d2
  have B0 := (B00.keep d1).keep d2
  clear B00 hR
  cases hq : (numsM m ps ls).any badN
  case true =>
    have HF := Lib.hid (rightM_nums hq)
    clear hq
    go_wp2
    go_ret
    exact ⟨by rw [HF.out] <;> rfl, hb0⟩
  case false =>
  have HR := Lib.hid (rightM_rest hh hq)
  clear hq hh
  obtain ⟨x0, y0, z0⟩ := B0.ms9
  go_wp2_with fail
  refine (right_any m.a m.t m.n _).mono ?_
  rintro e v1 ⟨rfl, d1⟩
  clear x0 y0 z0
  have hb1 := bt hb0 d1
  have B1 := B0.keep d1
  clear B0
  cases hq0 : rightB m.a m.t m.n
  case false =>
    have HQ0 := Lib.hid hq0
    clear hq0
    go_wp2
    go_ret
    exact ⟨by rw [HR.out] <;> simp [ HQ0.out], hb1⟩
  case true =>
  have HQ0 := Lib.hid hq0
  clear hq0
  obtain ⟨x1, y1, z1⟩ := B1.ms20
  go_wp2_with fail
  refine (right_any m.req.a m.req.t m.req.n _).mono ?_
  rintro e v2 ⟨rfl, d2⟩
  clear x1 y1 z1
  have hb2 := bt hb1 d2
  have B2 := B1.keep d2
  clear B1
  cases hq1 : rightB m.req.a m.req.t m.req.n
  case false =>
    have HQ1 := Lib.hid hq1
    clear hq1
    go_wp2
    go_ret
    exact ⟨by rw [HR.out] <;> simp [HQ0.out, HQ1.out], hb2⟩
  case true =>
  have HQ1 := Lib.hid hq1
  clear hq1
  obtain ⟨x2, y2, z2⟩ := B2.ms26
  go_wp2_with fail
  refine (right_any m.ans.a m.ans.t m.ans.n _).mono ?_
  rintro e v3 ⟨rfl, d3⟩
  clear x2 y2 z2
  have hb3 := bt hb2 d3
  have B3 := B2.keep d3
  clear B2
  cases hq2 : rightB m.ans.a m.ans.t m.ans.n
  all_goals
    have HQ2 := Lib.hid hq2
    clear hq2
    go_wp2
    go_ret
    exact ⟨by rw [HR.out] <;> simp [HQ0.out, HQ1.out, HQ2.out], hb3⟩
end Go.Proofs.YtkoligiilieboaaGreatDoor
namespace Go.Proofs.YtkoligiilieboaaGreatDoor
open Go.RowKit
attribute [local go_sem] ByteArray.mk_append_mk ByteArray.extract_mk
attribute [local go_sem ↓] Go.wp_at_zero Go.wp_at_succ
abbrev rsA (r : RS) : Array Value := #[.string ⟨r.s.toArray⟩, .bool r.bad]
structure Kr (g : Nat) (w w' : World) : Prop where
  below : Below g w w'
  kept : ∀ i T cs, i ≠ g → Blk w i T cs → Blk w' i T cs
section
variable {g : Nat} {w w1 w2 : World}
theorem Kr.refl : Kr g w w := ⟨Below.refl _ _, fun _ _ _ _ h => h⟩
theorem Kr.trans (h1 : Kr g w w1) (h2 : Kr g w1 w2) : Kr g w w2 := ⟨h1.below.trans h2.below, fun i T cs hi h => h2.kept i T cs hi (h1.kept i T cs hi h)⟩
theorem Kr.size (h : Kr g w w1) : w.heap.size ≤ w1.heap.size := h.below.size
theorem Kr.call (h : Kr g w w1) (hg : g < w.heap.size) (d : Below w1.heap.size w1 w2) : Kr g w w2 :=
  ⟨h.below.trans (d.mono (Nat.le_of_lt (Nat.lt_of_lt_of_le hg h.size))), fun i T cs hi hB => (h.kept i T cs hi hB).keep d⟩
theorem Kr.alloc (h : Kr g w w1) (hg : g < w.heap.size) (o : Obj) : Kr g w (w1.alloc o) :=
  ⟨h.below.alloc (Nat.le_of_lt (Nat.lt_of_lt_of_le hg h.size)) o, fun i T cs hi hB => (h.kept i T cs hi hB).alloc o⟩
theorem Kr.drew (h : Kr g w w1) : Kr g w w1.drew := ⟨h.below.drew, fun i T cs hi hB => (h.kept i T cs hi hB).drew⟩
theorem Kr.set (h : Kr g w w1) (i : Nat) (u : Value) : Kr g w (w1.setCell ⟨g, i, none⟩ u) :=
  ⟨h.below.setCell (p := ⟨g, i, none⟩) (Nat.le_refl _) u, fun j T cs hj hB => (h.kept j T cs hj hB).far (p := ⟨g, i, none⟩) hj u⟩
theorem Kr.far {b : Nat} (h : Kr g w w1) (hg : g < w.heap.size) (hb : w.heap.size ≤ b) (i : Nat) (u : Value) : Kr g w (w1.setCell ⟨b, i, none⟩ u) :=
  ⟨h.below.setCell (p := ⟨b, i, none⟩) (by show g ≤ b; omega) u, fun j T cs hj hB => (h.kept j T cs hj hB).far (p := ⟨b, i, none⟩) (by have := hB.lt; show j ≠ b; omega) u⟩
theorem Kr.row {b : Nat} (h : Kr g w w1) (hg : g < w.heap.size) (hb : w.heap.size ≤ b) (vs : Array Value) : Kr g w (w1.setRow b vs) :=
  ⟨below_row h.below (by omega) vs, fun j T cs hj hB => (h.kept j T cs hj hB).row_far (by have := hB.lt; omega) vs⟩
theorem own_kept {base size n : Nat} {e T0 : TypeId} {v : Value} {xs : List Value} {cs0 : Array Value} (h : w.ownsRow base e size v n xs) (hk : ∀ i T cs, i ≠ g → Blk w i T cs → Blk w1 i T cs) (hB : Blk w g T0 cs0) (hT : T0 ≠ e) : w1.ownsRow base e size v n xs := by
  refine ⟨h.1, ?_⟩
  rcases h.2 with h0 | ⟨r, cap, cur, hv, hbg, hg, rest⟩
  · exact .inl h0
  · refine .inr ⟨r, cap, cur, hv, hbg, hk r e cur ?_ hg, rest⟩
    intro hr
    subst hr
    unfold Blk at hB
    rw [hB] at hg
    injection hg with hg
    injection hg with _ h0 _
    exact hT h0
end
def takeN (l : List UInt8) : Int × List UInt8 × Nat := (((takeL l).1 : Int), (takeL l).2.1, (takeL l).2.2)
def rNum (r : RS) : Int × RS := rdOne takeN 0 r
def rText (r : RS) : List UInt8 × RS := rdOne takeTextL [] r
def rFlag (r : RS) : Bool × RS := rdOne takeFlagL false r
def rStamp (r : RS) : Stm × RS := rdOne takeStampL (0, 0, 0) r
theorem rdOne_bad {α : Type} (tk : List UInt8 → α × List UInt8 × Nat) (z : α) (s : List UInt8) : rdOne tk z ⟨true, s⟩ = (z, ⟨true, s⟩) := by simp [rdOne]
theorem rdOne_err {α : Type} (tk : List UInt8 → α × List UInt8 × Nat) (z : α) (s : List UInt8) {v : α} {r : List UInt8} {e : Nat} (h : tk s = (v, r, e)) (he : e ≠ 0) : rdOne tk z ⟨false, s⟩ = (z, ⟨true, s⟩) := by simp [rdOne, h, he]
theorem rdOne_ok {α : Type} (tk : List UInt8 → α × List UInt8 × Nat) (z : α) (s : List UInt8) {v : α} {r : List UInt8} (h : tk s = (v, r, 0)) : rdOne tk z ⟨false, s⟩ = (v, ⟨false, r⟩) := by simp [rdOne, h]
theorem taken_any (s : List UInt8) (hl : s.length ≤ 281474976710656) (w : World) : Calls Tryz.prog 70 #[.string ⟨s.toArray⟩] w fun e w' => e = .returned (.tuple #[.int .i64 (takeN s).1, .string ⟨(takeN s).2.1.toArray⟩, .int .i64 (takeN s).2.2]) ∧ Below w.heap.size w w' := take_any s hl w
set_option maxHeartbeats 800000 in
set_option maxRecDepth 100000 in
theorem rnumber_any (g : Nat) (r : RS) (w : World) (hB : Blk w g 70 (rsA r)) (hl : r.s.length ≤ 281474976710656) :
    Calls Tryz.prog 27 #[.pointer (some ⟨g, 0, none⟩)] w fun e w' => e = .returned (.int .i64 (rNum r).1) ∧ Blk w' g 70 (rsA (rNum r).2) ∧ Kr g w w' := by
  obtain ⟨bad, s⟩ := r
  simp only at hl
  have hgl := hB.lt
  obtain ⟨gl, s0, s1, f0, f1⟩ := hB.c2
  obtain ⟨⟨v, rest, en⟩, htk⟩ : ∃ x, takeN s = x := ⟨_, rfl⟩
  have HT := Lib.hid htk
  cases bad
  case true =>
    have hv : rNum ⟨true, s⟩ = (0, ⟨true, s⟩) := rdOne_bad _ _ _
    have HV := Lib.hid hv
    clear hv htk
    go_enter Tryz.func27, Tryz.ntmps27
    go_wp2_with fail
    refine (taken_any s hl w).mono ?_
    rintro e w1 ⟨rfl, d1⟩
    rw [HT.out]
    have hB1 := hB.keep d1
    have hk1 := (Kr.refl (g := g) (w := w)).call hgl d1
    clear gl s0 s1 f0 f1
    obtain ⟨gl, s0, s1, f0, f1⟩ := hB1.c2
    go_wp2
    go_ret
    exact ⟨by rw [HV.out] <;> rfl, by rw [HV.out]; exact hB1.set 1 _, hk1.set 1 _⟩
  case false =>
  by_cases he : en = 0
  case neg =>
    have hv : rNum ⟨false, s⟩ = (0, ⟨true, s⟩) := rdOne_err _ _ _ htk he
    have HV := Lib.hid hv
    clear hv htk
    have b1 : ((en : Int) != 0) = true := by simp; omega
    go_enter Tryz.func27, Tryz.ntmps27
    go_wp2_with fail
    refine (taken_any s hl w).mono ?_
    rintro e w1 ⟨rfl, d1⟩
    rw [HT.out]
    have hB1 := hB.keep d1
    have hk1 := (Kr.refl (g := g) (w := w)).call hgl d1
    clear gl s0 s1 f0 f1
    obtain ⟨gl, s0, s1, f0, f1⟩ := hB1.c2
    go_wp2
    go_ret
    exact ⟨by rw [HV.out] <;> rfl, by rw [HV.out]; exact hB1.set 1 _, hk1.set 1 _⟩
  case pos =>
    subst he
    have hv : rNum ⟨false, s⟩ = (v, ⟨false, rest⟩) := rdOne_ok _ _ _ htk
    have HV := Lib.hid hv
    clear hv htk
    go_enter Tryz.func27, Tryz.ntmps27
    go_wp2_with fail
    refine (taken_any s hl w).mono ?_
    rintro e w1 ⟨rfl, d1⟩
    rw [HT.out]
    have hB1 := hB.keep d1
    have hk1 := (Kr.refl (g := g) (w := w)).call hgl d1
    clear gl s0 s1 f0 f1
    obtain ⟨gl, s0, s1, f0, f1⟩ := hB1.c2
    go_wp2
    go_ret
    exact ⟨by rw [HV.out] <;> rfl, by rw [HV.out]; exact hB1.set 0 _, hk1.set 0 _⟩
set_option maxHeartbeats 800000 in
set_option maxRecDepth 100000 in
theorem rtext_any (g : Nat) (r : RS) (w : World) (hB : Blk w g 70 (rsA r)) (hl : r.s.length ≤ 281474976710656) :
    Calls Tryz.prog 32 #[.pointer (some ⟨g, 0, none⟩)] w fun e w' => e = .returned (.string ⟨(rText r).1.toArray⟩) ∧ Blk w' g 70 (rsA (rText r).2) ∧ Kr g w w' := by
  obtain ⟨bad, s⟩ := r
  simp only at hl
  have hgl := hB.lt
  obtain ⟨gl, s0, s1, f0, f1⟩ := hB.c2
  obtain ⟨⟨v, rest, en⟩, htk⟩ : ∃ x, takeTextL s = x := ⟨_, rfl⟩
  have HT := Lib.hid htk
  cases bad
  case true =>
    have hv : rText ⟨true, s⟩ = ([], ⟨true, s⟩) := rdOne_bad _ _ _
    have HV := Lib.hid hv
    clear hv htk
    go_enter Tryz.func32, Tryz.ntmps32
    go_wp2_with fail
    refine (taketext_any s hl w).mono ?_
    rintro e w1 ⟨rfl, d1⟩
    rw [HT.out]
    have hB1 := hB.keep d1
    have hk1 := (Kr.refl (g := g) (w := w)).call hgl d1
    clear gl s0 s1 f0 f1
    obtain ⟨gl, s0, s1, f0, f1⟩ := hB1.c2
    go_wp2
    go_ret
    exact ⟨by rw [HV.out] <;> rfl, by rw [HV.out]; exact hB1.set 1 _, hk1.set 1 _⟩
  case false =>
  by_cases he : en = 0
  case neg =>
    have hv : rText ⟨false, s⟩ = ([], ⟨true, s⟩) := rdOne_err _ _ _ htk he
    have HV := Lib.hid hv
    clear hv htk
    have b1 : ((en : Int) != 0) = true := by simp; omega
    go_enter Tryz.func32, Tryz.ntmps32
    go_wp2_with fail
    refine (taketext_any s hl w).mono ?_
    rintro e w1 ⟨rfl, d1⟩
    rw [HT.out]
    have hB1 := hB.keep d1
    have hk1 := (Kr.refl (g := g) (w := w)).call hgl d1
    clear gl s0 s1 f0 f1
    obtain ⟨gl, s0, s1, f0, f1⟩ := hB1.c2
    go_wp2
    go_ret
    exact ⟨by rw [HV.out] <;> rfl, by rw [HV.out]; exact hB1.set 1 _, hk1.set 1 _⟩
  case pos =>
    subst he
    have hv : rText ⟨false, s⟩ = (v, ⟨false, rest⟩) := rdOne_ok _ _ _ htk
    have HV := Lib.hid hv
    clear hv htk
    go_enter Tryz.func32, Tryz.ntmps32
    go_wp2_with fail
    refine (taketext_any s hl w).mono ?_
    rintro e w1 ⟨rfl, d1⟩
    rw [HT.out]
    have hB1 := hB.keep d1
    have hk1 := (Kr.refl (g := g) (w := w)).call hgl d1
    clear gl s0 s1 f0 f1
    obtain ⟨gl, s0, s1, f0, f1⟩ := hB1.c2
    go_wp2
    go_ret
    exact ⟨by rw [HV.out] <;> rfl, by rw [HV.out]; exact hB1.set 0 _, hk1.set 0 _⟩
set_option maxHeartbeats 800000 in
set_option maxRecDepth 100000 in
theorem rflag_any (g : Nat) (r : RS) (w : World) (hB : Blk w g 70 (rsA r)) (hl : r.s.length ≤ 281474976710656) :
    Calls Tryz.prog 33 #[.pointer (some ⟨g, 0, none⟩)] w fun e w' => e = .returned (.bool (rFlag r).1) ∧ Blk w' g 70 (rsA (rFlag r).2) ∧ Kr g w w' := by
  obtain ⟨bad, s⟩ := r
  simp only at hl
  have hgl := hB.lt
  obtain ⟨gl, s0, s1, f0, f1⟩ := hB.c2
  obtain ⟨⟨v, rest, en⟩, htk⟩ : ∃ x, takeFlagL s = x := ⟨_, rfl⟩
  have HT := Lib.hid htk
  cases bad
  case true =>
    have hv : rFlag ⟨true, s⟩ = (false, ⟨true, s⟩) := rdOne_bad _ _ _
    have HV := Lib.hid hv
    clear hv htk
    go_enter Tryz.func33, Tryz.ntmps33
    go_wp2_with fail
    refine (takeflag_any s hl w).mono ?_
    rintro e w1 ⟨rfl, d1⟩
    rw [HT.out]
    have hB1 := hB.keep d1
    have hk1 := (Kr.refl (g := g) (w := w)).call hgl d1
    clear gl s0 s1 f0 f1
    obtain ⟨gl, s0, s1, f0, f1⟩ := hB1.c2
    go_wp2
    go_ret
    exact ⟨by rw [HV.out] <;> rfl, by rw [HV.out]; exact hB1.set 1 _, hk1.set 1 _⟩
  case false =>
  by_cases he : en = 0
  case neg =>
    have hv : rFlag ⟨false, s⟩ = (false, ⟨true, s⟩) := rdOne_err _ _ _ htk he
    have HV := Lib.hid hv
    clear hv htk
    have b1 : ((en : Int) != 0) = true := by simp; omega
    go_enter Tryz.func33, Tryz.ntmps33
    go_wp2_with fail
    refine (takeflag_any s hl w).mono ?_
    rintro e w1 ⟨rfl, d1⟩
    rw [HT.out]
    have hB1 := hB.keep d1
    have hk1 := (Kr.refl (g := g) (w := w)).call hgl d1
    clear gl s0 s1 f0 f1
    obtain ⟨gl, s0, s1, f0, f1⟩ := hB1.c2
    go_wp2
    go_ret
    exact ⟨by rw [HV.out] <;> rfl, by rw [HV.out]; exact hB1.set 1 _, hk1.set 1 _⟩
  case pos =>
    subst he
    have hv : rFlag ⟨false, s⟩ = (v, ⟨false, rest⟩) := rdOne_ok _ _ _ htk
    have HV := Lib.hid hv
    clear hv htk
    go_enter Tryz.func33, Tryz.ntmps33
    go_wp2_with fail
    refine (takeflag_any s hl w).mono ?_
    rintro e w1 ⟨rfl, d1⟩
    rw [HT.out]
    have hB1 := hB.keep d1
    have hk1 := (Kr.refl (g := g) (w := w)).call hgl d1
    clear gl s0 s1 f0 f1
    obtain ⟨gl, s0, s1, f0, f1⟩ := hB1.c2
    go_wp2
    go_ret
    exact ⟨by rw [HV.out] <;> rfl, by rw [HV.out]; exact hB1.set 0 _, hk1.set 0 _⟩
set_option maxHeartbeats 800000 in
set_option maxRecDepth 100000 in
theorem rstamp_any (g : Nat) (r : RS) (w : World) (hB : Blk w g 70 (rsA r)) (hl : r.s.length ≤ 281474976710656) :
    Calls Tryz.prog 26 #[.pointer (some ⟨g, 0, none⟩)] w fun e w' => e = .returned (stampT (rStamp r).1) ∧ Blk w' g 70 (rsA (rStamp r).2) ∧ Kr g w w' := by
  obtain ⟨bad, s⟩ := r
  simp only at hl
  have hgl := hB.lt
  have hB0 := hB.alloc (.cells #[.int .i64 0, .int .i64 0, .int .i64 0] 27)
  have hk0 := (Kr.refl (g := g) (w := w)).alloc hgl (.cells #[.int .i64 0, .int .i64 0, .int .i64 0] 27)
  have hS0 : Blk (w.alloc (.cells #[.int .i64 0, .int .i64 0, .int .i64 0] 27)) w.heap.size 27 #[.int .i64 0, .int .i64 0, .int .i64 0] := Blk.new w _ _
  obtain ⟨gl, s0, s1, f0, f1⟩ := hB.c2
  obtain ⟨⟨⟨a, t, n⟩, rest, en⟩, htk⟩ : ∃ x, takeStampL s = x := ⟨_, rfl⟩
  have HT := Lib.hid htk
  cases bad
  case true =>
    have hv : rStamp ⟨true, s⟩ = ((0, 0, 0), ⟨true, s⟩) := rdOne_bad _ _ _
    have HV := Lib.hid hv
    clear hv htk
    go_enter Tryz.func26, Tryz.ntmps26
    go_wp2_with fail
    refine (sttake_any s hl _).mono ?_
    rintro e w1 ⟨rfl, d1⟩
    rw [HT.out]
    have hB1 := hB0.keep d1
    have hS1 := hS0.keep d1
    have hk1 := hk0.call hgl d1
    have hw1 : w.heap.size < w1.heap.size := hS1.lt
    have hne : g ≠ w.heap.size := by omega
    clear gl s0 s1 f0 f1
    obtain ⟨gl, s0, s1, f0, f1⟩ := hB1.c2
    obtain ⟨sl, z0, z1, z2, y0, y1, y2⟩ := hS1.c3
    go_wp2
    refine bodyPost_ret (v := stampV 0 0 0) (by simp [results, Tryz.results26, go_sem, *]) rfl ⟨by rw [HV.out] <;> rfl, by rw [HV.out]; exact ((((hB1.set 1 _).far hne _).far hne _).far hne _).alloc _, ((((hk1.set 1 _).far hgl (Nat.le_refl _) 0 _).far hgl (Nat.le_refl _) 1 _).far hgl (Nat.le_refl _) 2 _).alloc hgl _⟩
  case false =>
  by_cases he : en = 0
  case neg =>
    have hv : rStamp ⟨false, s⟩ = ((0, 0, 0), ⟨true, s⟩) := rdOne_err _ _ _ htk he
    have HV := Lib.hid hv
    clear hv htk
    have b1 : ((en : Int) != 0) = true := by simp; omega
    go_enter Tryz.func26, Tryz.ntmps26
    go_wp2_with fail
    refine (sttake_any s hl _).mono ?_
    rintro e w1 ⟨rfl, d1⟩
    rw [HT.out]
    have hB1 := hB0.keep d1
    have hS1 := hS0.keep d1
    have hk1 := hk0.call hgl d1
    have hw1 : w.heap.size < w1.heap.size := hS1.lt
    have hne : g ≠ w.heap.size := by omega
    clear gl s0 s1 f0 f1
    obtain ⟨gl, s0, s1, f0, f1⟩ := hB1.c2
    obtain ⟨sl, z0, z1, z2, y0, y1, y2⟩ := hS1.c3
    go_wp2
    refine bodyPost_ret (v := stampV 0 0 0) (by simp [results, Tryz.results26, go_sem, *]) rfl ⟨by rw [HV.out] <;> rfl, by rw [HV.out]; exact ((((hB1.set 1 _).far hne _).far hne _).far hne _).alloc _, ((((hk1.set 1 _).far hgl (Nat.le_refl _) 0 _).far hgl (Nat.le_refl _) 1 _).far hgl (Nat.le_refl _) 2 _).alloc hgl _⟩
  case pos =>
    subst he
    have hv : rStamp ⟨false, s⟩ = ((a, t, n), ⟨false, rest⟩) := rdOne_ok _ _ _ htk
    have HV := Lib.hid hv
    clear hv htk
    go_enter Tryz.func26, Tryz.ntmps26
    go_wp2_with fail
    refine (sttake_any s hl _).mono ?_
    rintro e w1 ⟨rfl, d1⟩
    rw [HT.out]
    have hB1 := hB0.keep d1
    have hS1 := hS0.keep d1
    have hk1 := hk0.call hgl d1
    have hw1 : w.heap.size < w1.heap.size := hS1.lt
    have hne : g ≠ w.heap.size := by omega
    clear gl s0 s1 f0 f1
    obtain ⟨gl, s0, s1, f0, f1⟩ := hB1.c2
    obtain ⟨sl, z0, z1, z2, y0, y1, y2⟩ := hS1.c3
    go_wp2
    refine bodyPost_ret (v := stampV a t n) (by simp [results, Tryz.results26, go_sem, *]) rfl ⟨by rw [HV.out] <;> rfl, by rw [HV.out]; exact ((((hB1.set 0 _).far hne _).far hne _).far hne _).alloc _, ((((hk1.set 0 _).far hgl (Nat.le_refl _) 0 _).far hgl (Nat.le_refl _) 1 _).far hgl (Nat.le_refl _) 2 _).alloc hgl _⟩
end Go.Proofs.YtkoligiilieboaaGreatDoor
namespace Go.Proofs.YtkoligiilieboaaGreatDoor
open Go.RowKit
attribute [local go_sem] ByteArray.mk_append_mk ByteArray.extract_mk
attribute [local go_sem ↓] Go.wp_at_zero Go.wp_at_succ
def rCount (r : RS) : Int × RS := if ((rNum r).2.s.length : Int) < (rNum r).1 then (0, ⟨true, (rNum r).2.s⟩) else rNum r
theorem takeN_ok {s : List UInt8} {v : Int} {r : List UInt8} (h : takeN s = (v, r, 0)) : s = (putI v).1 ++ r ∧ 0 ≤ v ∧ v < 9223372036854775808 := by
  unfold takeN at h
  obtain ⟨⟨n, r', e⟩, ht⟩ : ∃ x, takeL s = x := ⟨_, rfl⟩
  rw [ht] at h
  simp only [Prod.mk.injEq] at h
  obtain ⟨rfl, rfl, rfl⟩ := h
  obtain ⟨h1, h2, _, _⟩ := take_ok s n r' ht
  rw [putI_nat]
  exact ⟨h2, by omega, by omega⟩
theorem takeN_put {v : Int} (more : List UInt8) (h0 : 0 ≤ v) (h : v < 9223372036854775808) : takeN ((putI v).1 ++ more) = (v, more, 0) := by
  obtain ⟨n, rfl⟩ := Int.eq_ofNat_of_zero_le h0
  unfold takeN
  rw [putI_nat, take_put n more (by omega)]
theorem rNum_slen (r : RS) : (rNum r).2.s.length ≤ r.s.length := by
  unfold rNum rdOne
  split
  · exact Nat.le_refl _
  · rename_i hn
    have h0 : (takeN r.s).2.2 = 0 := by simp at hn; exact hn.2
    have := (takeN_ok (show takeN r.s = ((takeN r.s).1, (takeN r.s).2.1, 0) by rw [← h0])).1
    have := congrArg List.length this
    simp at this ⊢
    omega
theorem rNum_nn (r : RS) : 0 ≤ (rNum r).1 := by
  unfold rNum rdOne
  split
  · exact Int.le_refl _
  · unfold takeN; simp
theorem rCount_nn (r : RS) : 0 ≤ (rCount r).1 ∧ (rCount r).1 ≤ (rCount r).2.s.length ∧ (rCount r).2.s.length ≤ r.s.length := by
  have h1 := rNum_slen r
  have h2 := rNum_nn r
  unfold rCount
  split
  · simp; exact h1
  · omega
set_option maxHeartbeats 800000 in
set_option maxRecDepth 100000 in
theorem rlist_any (g : Nat) (r : RS) (w : World) (hB : Blk w g 70 (rsA r)) (hl : r.s.length ≤ 281474976710656) :
    Calls Tryz.prog 28 #[.pointer (some ⟨g, 0, none⟩)] w fun e w' => e = .returned (.int .i64 (rCount r).1) ∧ Blk w' g 70 (rsA (rCount r).2) ∧ Kr g w w' := by
  have hgl := hB.lt
  have h1 := rNum_slen r
  by_cases hc : ((rNum r).2.s.length : Int) < (rNum r).1
  case pos =>
    have hv : rCount r = (0, ⟨true, (rNum r).2.s⟩) := if_pos hc
    have HV := Lib.hid hv
    clear hv
    go_enter Tryz.func28, Tryz.ntmps28
    go_wp2_with fail
    refine (rnumber_any g r w hB hl).mono ?_
    rintro e w1 ⟨rfl, hB1, hk1⟩
    generalize rNum r = q at *
    obtain ⟨n, bad, s⟩ := q
    simp only at hc h1
    obtain ⟨gl, s0, s1, f0, f1⟩ := hB1.c2
    go_wp2
    go_ret
    exact ⟨by rw [HV.out] <;> rfl, by rw [HV.out]; exact hB1.set 1 _, hk1.set 1 _⟩
  case neg =>
    have hv : rCount r = rNum r := if_neg hc
    have HV := Lib.hid hv
    clear hv
    go_enter Tryz.func28, Tryz.ntmps28
    go_wp2_with fail
    refine (rnumber_any g r w hB hl).mono ?_
    rintro e w1 ⟨rfl, hB1, hk1⟩
    generalize hq : rNum r = q at *
    have HQ := Lib.hid hq
    clear hq
    obtain ⟨n, bad, s⟩ := q
    simp only at hc h1
    obtain ⟨gl, s0, s1, f0, f1⟩ := hB1.c2
    go_wp2
    go_ret
    exact ⟨by rw [HV.out] <;> rfl, by rw [HV.out]; exact hB1, hk1⟩
end Go.Proofs.YtkoligiilieboaaGreatDoor
namespace Go.Proofs.YtkoligiilieboaaGreatDoor
open Go.RowKit
attribute [local go_sem] ByteArray.mk_append_mk ByteArray.extract_mk
attribute [local go_sem ↓] Go.wp_at_zero Go.wp_at_succ
section
variable {base gw : Nat} {W : World}
theorem lit_nums (zs : List Int) (p : Nat) (hp : p = W.heap.size) (hg : gw < W.heap.size) : ∀ w', KW base gw (W.alloc (.cells (ivF zs).toArray 3)) w' → RdR ldC 1 w' w'.heap.size (some ⟨p, 0, none⟩) zs := fun w' hk _ => by
  subst hp
  have hB := hk.blk (Blk.new W 3 (ivF zs).toArray) (by omega) (by decide)
  refine ⟨W.heap.size, 0, rfl, hB.lt, fun k hk2 j u hu => ?_⟩
  have hj : j = 0 := by
    have h1 := (List.getElem?_eq_some_iff.1 hu).1
    have h2 : (ldC zs[k]).length = 1 := rfl
    omega
  subst hj
  rw [hB.cell]
  simp only [ldC, List.getElem?_cons_zero, Option.some.injEq] at hu
  subst hu
  simp [ivF, hk2]
theorem lit_texts (zs : List (List UInt8)) (p : Nat) (hp : p = W.heap.size) (hg : gw < W.heap.size) : ∀ w', KW base gw (W.alloc (.cells (zs.map fun x => Value.string ⟨x.toArray⟩).toArray 9)) w' → RdR stC 1 w' w'.heap.size (some ⟨p, 0, none⟩) zs := fun w' hk _ => by
  subst hp
  have hB := hk.blk (Blk.new W 9 (zs.map fun x => Value.string ⟨x.toArray⟩).toArray) (by omega) (by decide)
  refine ⟨W.heap.size, 0, rfl, hB.lt, fun k hk2 j u hu => ?_⟩
  have hj : j = 0 := by
    have h1 := (List.getElem?_eq_some_iff.1 hu).1
    have h2 : (stC zs[k]).length = 1 := rfl
    omega
  subst hj
  rw [hB.cell]
  simp only [stC, List.getElem?_cons_zero, Option.some.injEq] at hu
  subst hu
  simp [hk2]
theorem lit_stamp (a t n : Int) (p : Nat) (hp : p = W.heap.size) (hg : gw < W.heap.size) : ∀ w', KW base gw (W.alloc (.cells #[.int .i64 a, .int .i64 t, .int .i64 n] 27)) w' → RdR smC 3 w' w'.heap.size (some ⟨p, 0, none⟩) [(a, t, n)] := fun w' hk _ => by
  subst hp
  have hB := hk.blk (Blk.new W 27 #[.int .i64 a, .int .i64 t, .int .i64 n]) (by omega) (by decide)
  refine ⟨W.heap.size, 0, rfl, hB.lt, fun k hk2 j u hu => ?_⟩
  have hk0 : k = 0 := by simpa using hk2
  subst hk0
  rw [hB.cell]
  simpa [smC] using hu
end
structure PM (w : World) (gw : Nat) (m : Ms) (W : World) (bs : List UInt8) : Prop where
  lt : w.heap.size < gw
  below : Below w.heap.size w W
  wr : Wr w.heap.size gw bs W
  bm : Blk W w.heap.size 51 (msA m)
structure PQ (w : World) (gw gq ga : Nat) (m : Ms) (W : World) (bs : List UInt8) : Prop extends PM w gw m W bs where
  nq : gq ≠ gw
  na : ga ≠ gw
  bq : Blk W gq 44 (rqA m.req)
  ba : Blk W ga 47 (anA m.ans)
section
variable {w W W1 W' : World} {gw gq ga : Nat} {m : Ms} {bs bs' : List UInt8}
theorem PM.glt (h : PM w gw m W bs) : gw < W.heap.size := h.wr.lt
theorem PM.hbw (h : PM w gw m W bs) : w.heap.size ≤ W.heap.size := h.below.size
theorem PM.step (h : PM w gw m W bs) (o : Obj) (hw : Wr w.heap.size gw bs' W') (hk : KW w.heap.size gw (W.alloc o) W') : PM w gw m W' bs' :=
  ⟨h.lt, (bal h.below o).trans hk.below, hw, hk.blk (h.bm.alloc o) (by have := h.lt; omega) (by decide)⟩
theorem PM.step0 (h : PM w gw m W bs) (hw : Wr w.heap.size gw bs' W') (hk : KW w.heap.size gw W W') : PM w gw m W' bs' :=
  ⟨h.lt, h.below.trans hk.below, hw, hk.blk h.bm (by have := h.lt; omega) (by decide)⟩
theorem PQ.step (h : PQ w gw gq ga m W bs) (o : Obj) (hw : Wr w.heap.size gw bs' W') (hk : KW w.heap.size gw (W.alloc o) W') : PQ w gw gq ga m W' bs' :=
  ⟨h.toPM.step o hw hk, h.nq, h.na, hk.blk (h.bq.alloc o) h.nq (by decide), hk.blk (h.ba.alloc o) h.na (by decide)⟩
theorem PQ.step0 (h : PQ w gw gq ga m W bs) (hw : Wr w.heap.size gw bs' W') (hk : KW w.heap.size gw W W') : PQ w gw gq ga m W' bs' :=
  ⟨h.toPM.step0 hw hk, h.nq, h.na, hk.blk h.bq h.nq (by decide), hk.blk h.ba h.na (by decide)⟩
theorem PM.drew (h : PM w gw m W bs) : PM w gw m W.drew bs := ⟨h.lt, h.below.drew, h.wr.drew, h.bm.drew⟩
theorem Wr.row {base : Nat} {b : Nat} {T : TypeId} {cs : Array Value} (h : Wr base gw bs W) (hb : b ≠ gw) (hB : Blk W b T cs) (hT : T ≠ 5) (vs : Array Value) : Wr base gw bs (W.setRow b vs) := by
  obtain ⟨v, hG, hown⟩ := h
  refine ⟨v, hG.row_far (fun h => hb h.symm) vs, hown.1, ?_⟩
  rcases hown.2 with h0 | ⟨g, cap, cur, hv, hbg, hg, rest⟩
  · exact .inl h0
  · refine .inr ⟨g, cap, cur, hv, hbg, ?_, rest⟩
    have hne : g ≠ b := by
      intro hgb
      subst hgb
      unfold Blk at hB
      rw [hB] at hg
      injection hg with hg
      injection hg with _ h0 _
      exact hT h0
    exact (setRow_other W b g vs hne).trans hg
theorem PM.row {b : Nat} {T : TypeId} {cs : Array Value} (h : PM w gw m W bs) (hb : b ≠ gw) (hb2 : w.heap.size < b) (hB : Blk W b T cs) (hT : T ≠ 5) (vs : Array Value) : PM w gw m (W.setRow b vs) bs :=
  ⟨h.lt, below_row h.below (by omega) vs, h.wr.row hb hB hT vs, h.bm.row_far (by omega) vs⟩
theorem PM.alloc (h : PM w gw m W bs) (o : Obj) : PM w gw m (W.alloc o) bs := ⟨h.lt, bal h.below o, h.wr.alloc o, h.bm.alloc o⟩
theorem PQ.alloc (h : PQ w gw gq ga m W bs) (o : Obj) : PQ w gw gq ga m (W.alloc o) bs := ⟨h.toPM.alloc o, h.nq, h.na, h.bq.alloc o, h.ba.alloc o⟩
end
theorem itc_cells {w : World} {B : Nat} {A : Option Addr} {ls : List It} (hR : RdR itC 2 w B A ls) (k : Nat) (hk : k < ls.length) :
    ∃ b off, A = some ⟨b, off, none⟩ ∧ b < B ∧ w.cell? ⟨b, off + k * 2, none⟩ = some (.string ⟨ls[k].ky.toArray⟩) ∧ w.cell? ⟨b, off + k * 2 + 1, none⟩ = some (.string ⟨ls[k].vl.toArray⟩) := by
  obtain ⟨b, off, hA, hb, hc⟩ := hR (by omega)
  exact ⟨b, off, hA, hb, hc k hk 0 _ rfl, hc k hk 1 _ rfl⟩
def itsB (l : List It) : List UInt8 := l.flatMap fun x => textsB [x.ky, x.vl]
def plsB (l : List Pl) : List UInt8 := l.flatMap fun p => textsB [p.lo, p.hi] ++ numsB [p.sh, p.ce, p.ep]
abbrev zqA : Array Value := #[.int .i64 0, .int .i64 0, .int .i64 0, .string ⟨#[]⟩, .string ⟨#[]⟩, .bool false, .string ⟨#[]⟩, .int .i64 0, .int .i64 0, .int .i64 0, .string ⟨#[]⟩, .int .i64 0]
abbrev zaA : Array Value := #[.int .i64 0, .int .i64 0, .int .i64 0, .int .i64 0, .bool false, .string ⟨#[]⟩, .slice none 0 0, .string ⟨#[]⟩, .bool false]
theorem itsB_snoc (l : List It) (k : Nat) (h : k < l.length) : itsB (l.take (k + 1)) = itsB (l.take k) ++ textsB [l[k].ky, l[k].vl] := by
  unfold itsB
  rw [List.take_succ_eq_append_getElem h, List.flatMap_append]
  simp
theorem plsB_snoc (l : List Pl) (k : Nat) (h : k < l.length) : plsB (l.take (k + 1)) = plsB (l.take k) ++ textsB [l[k].lo, l[k].hi] ++ numsB [l[k].sh, l[k].ce, l[k].ep] := by
  unfold plsB
  rw [List.take_succ_eq_append_getElem h, List.flatMap_append]
  simp
theorem texts1 (a : List UInt8) : (textsB [a]).length ≤ 9 + a.length := by have := textL_len a; simpa [textsB] using this
theorem texts2 (a b : List UInt8) : (textsB [a, b]).length ≤ 18 + a.length + b.length := by
  have h1 := textL_len a
  have h2 := textL_len b
  simp [textsB]
  omega
structure SzM (m : Ms) (its : List It) (ps : List Pl) : Prop where
  text : m.text.length ≤ 2097152
  ky : m.req.ky.length ≤ 2097152
  vl : m.req.vl.length ≤ 2097152
  old : m.req.old.length ≤ 2097152
  hi : m.req.hi.length ≤ 2097152
  av : m.ans.vl.length ≤ 2097152
  an : m.ans.nx.length ≤ 2097152
  its : ∀ x ∈ its, x.ky.length ≤ 2097152 ∧ x.vl.length ≤ 2097152
  ps : ∀ x ∈ ps, x.lo.length ≤ 2097152 ∧ x.hi.length ≤ 2097152
theorem itsB_len (l : List It) (h : ∀ x ∈ l, x.ky.length ≤ 2097152 ∧ x.vl.length ≤ 2097152) : (itsB l).length ≤ 4194400 * l.length := by
  induction l with
  | nil => simp [itsB]
  | cons x l ih =>
    have h1 := texts2 x.ky x.vl
    have h2 := h x List.mem_cons_self
    have h3 := ih fun y hy => h y (List.mem_cons_of_mem _ hy)
    unfold itsB at *
    simp only [List.flatMap_cons, List.length_append, List.length_cons]
    omega
theorem plsB_len (l : List Pl) (h : ∀ x ∈ l, x.lo.length ≤ 2097152 ∧ x.hi.length ≤ 2097152) : (plsB l).length ≤ 4194400 * l.length := by
  induction l with
  | nil => simp [plsB]
  | cons x l ih =>
    have h1 := texts2 x.lo x.hi
    have h2 := h x List.mem_cons_self
    have h3 := ih fun y hy => h y (List.mem_cons_of_mem _ hy)
    have h4 := numsB_len [x.sh, x.ce, x.ep]
    simp only [List.length_cons, List.length_nil] at h4
    unfold plsB at *
    simp only [List.flatMap_cons, List.length_append, List.length_cons]
    omega
def msgB (m : Ms) (its : List It) (ps : List Pl) (ls : List Int) : List UInt8 :=
  [] ++ numsB [m.kind, m.frm, m.to, m.shard, m.epoch, m.move, m.lease, m.num, m.of] ++ stampsB [(m.a, m.t, m.n)] ++ textsB [m.text]
    ++ numsB [m.req.cl, m.req.rq, m.req.kd] ++ textsB [m.req.ky, m.req.vl] ++ flagL m.req.had ++ textsB [m.req.old] ++ stampsB [(m.req.a, m.req.t, m.req.n)] ++ textsB [m.req.hi] ++ numsB [m.req.lim, m.ans.er]
    ++ stampsB [(m.ans.a, m.ans.t, m.ans.n)] ++ flagL m.ans.fd ++ textsB [m.ans.vl] ++ numsB [(m.ans.itn : Int)] ++ itsB its ++ textsB [m.ans.nx] ++ flagL m.ans.mo
    ++ numsB [(m.pn : Int)] ++ plsB ps ++ numsB [(m.mn : Int)] ++ numsB ls
end Go.Proofs.YtkoligiilieboaaGreatDoor
namespace Go.Proofs.YtkoligiilieboaaGreatDoor
open Go.RowKit
attribute [local go_sem] ByteArray.mk_append_mk ByteArray.extract_mk
attribute [local go_sem ↓] Go.wp_at_zero Go.wp_at_succ
section
variable {g : Nat} {r r' : RS} {w : World}
theorem rnum_c (g : Nat) (r : RS) (v : Int) (r' : RS) (w : World) (h : rNum r = (v, r')) (hB : Blk w g 70 (rsA r)) (hl : r.s.length ≤ 281474976710656) :
    Calls Tryz.prog 27 #[.pointer (some ⟨g, 0, none⟩)] w fun e w' => e = .returned (.int .i64 v) ∧ Blk w' g 70 (rsA r') ∧ Kr g w w' := by
  have := rnumber_any g r w hB hl
  rw [h] at this
  exact this
theorem rtext_c (g : Nat) (r : RS) (v : List UInt8) (r' : RS) (w : World) (h : rText r = (v, r')) (hB : Blk w g 70 (rsA r)) (hl : r.s.length ≤ 281474976710656) :
    Calls Tryz.prog 32 #[.pointer (some ⟨g, 0, none⟩)] w fun e w' => e = .returned (.string ⟨v.toArray⟩) ∧ Blk w' g 70 (rsA r') ∧ Kr g w w' := by
  have := rtext_any g r w hB hl
  rw [h] at this
  exact this
theorem rflag_c (g : Nat) (r : RS) (v : Bool) (r' : RS) (w : World) (h : rFlag r = (v, r')) (hB : Blk w g 70 (rsA r)) (hl : r.s.length ≤ 281474976710656) :
    Calls Tryz.prog 33 #[.pointer (some ⟨g, 0, none⟩)] w fun e w' => e = .returned (.bool v) ∧ Blk w' g 70 (rsA r') ∧ Kr g w w' := by
  have := rflag_any g r w hB hl
  rw [h] at this
  exact this
theorem rstamp_c (g : Nat) (r : RS) (a t n : Int) (r' : RS) (w : World) (h : rStamp r = ((a, t, n), r')) (hB : Blk w g 70 (rsA r)) (hl : r.s.length ≤ 281474976710656) :
    Calls Tryz.prog 26 #[.pointer (some ⟨g, 0, none⟩)] w fun e w' => e = .returned (stampV a t n) ∧ Blk w' g 70 (rsA r') ∧ Kr g w w' := by
  have := rstamp_any g r w hB hl
  rw [h] at this
  exact this
theorem rlist_c (g : Nat) (r : RS) (v : Int) (r' : RS) (w : World) (h : rCount r = (v, r')) (hB : Blk w g 70 (rsA r)) (hl : r.s.length ≤ 281474976710656) :
    Calls Tryz.prog 28 #[.pointer (some ⟨g, 0, none⟩)] w fun e w' => e = .returned (.int .i64 v) ∧ Blk w' g 70 (rsA r') ∧ Kr g w w' := by
  have := rlist_any g r w hB hl
  rw [h] at this
  exact this
end
theorem rdOne_slen {α : Type} {tk : List UInt8 → α × List UInt8 × Nat} {z : α} (h : ∀ s, (tk s).2.1.length ≤ s.length) (r : RS) : (rdOne tk z r).2.s.length ≤ r.s.length := by
  unfold rdOne
  split
  · exact Nat.le_refl _
  · exact h _
theorem takeL_slen (s : List UInt8) : (takeL s).2.1.length ≤ s.length := (take_shorter s _ _ _ rfl).1
theorem takeText_slen (s : List UInt8) : (takeTextL s).2.1.length ≤ s.length := by
  have := takeL_slen s
  unfold takeTextL
  split
  · simp
  · split
    · simp
    · simp; omega
theorem takeFlag_slen (s : List UInt8) : (takeFlagL s).2.1.length ≤ s.length := by
  cases s with
  | nil => simp [takeFlagL]
  | cons b r =>
    show (if 1 < b.toNat then ((false, [], 3) : Bool × List UInt8 × Nat) else (b.toNat == 1, r, 0)).2.1.length ≤ _
    split <;> simp
theorem takeStamp_slen (s : List UInt8) : (takeStampL s).2.1.length ≤ s.length := by
  have h1 := takeL_slen s
  have h2 := takeL_slen (takeL s).2.1
  have h3 := takeL_slen (takeL (takeL s).2.1).2.1
  unfold takeStampL
  split
  · simp
  · split
    · simp
    · split
      · simp
      · split
        · simp
        · simp; omega
theorem rNum_sl {r r' : RS} {v : Int} {N : Nat} (h : rNum r = (v, r')) (hl : r.s.length ≤ N) : r'.s.length ≤ N := by
  have := rNum_slen r
  rw [h] at this
  simp only at this
  omega
theorem rText_sl {r r' : RS} {v : List UInt8} {N : Nat} (h : rText r = (v, r')) (hl : r.s.length ≤ N) : r'.s.length ≤ N := by
  have := rdOne_slen (z := ([] : List UInt8)) takeText_slen r
  unfold rText at h
  rw [h] at this
  simp only at this
  omega
theorem rFlag_sl {r r' : RS} {v : Bool} {N : Nat} (h : rFlag r = (v, r')) (hl : r.s.length ≤ N) : r'.s.length ≤ N := by
  have := rdOne_slen (z := false) takeFlag_slen r
  unfold rFlag at h
  rw [h] at this
  simp only at this
  omega
theorem rStamp_sl {r r' : RS} {v : Stm} {N : Nat} (h : rStamp r = (v, r')) (hl : r.s.length ≤ N) : r'.s.length ≤ N := by
  have := rdOne_slen (z := ((0, 0, 0) : Stm)) takeStamp_slen r
  unfold rStamp at h
  rw [h] at this
  simp only at this
  omega
theorem rCount_sl {r r' : RS} {v : Int} {N : Nat} (h : rCount r = (v, r')) (hl : r.s.length ≤ N) : r'.s.length ≤ N ∧ 0 ≤ v ∧ v ≤ r'.s.length := by
  have := rCount_nn r
  rw [h] at this
  simp only at this
  omega
abbrev zmA : Array Value := #[.int .i64 0, .int .i64 0, .int .i64 0, .int .i64 0, .int .i64 0, .int .i64 0, .int .i64 0, .int .i64 0, .int .i64 0, .int .i64 0, .int .i64 0, .int .i64 0, .string ⟨#[]⟩, .int .i64 0, .int .i64 0, .int .i64 0, .string ⟨#[]⟩, .string ⟨#[]⟩, .bool false, .string ⟨#[]⟩, .int .i64 0, .int .i64 0, .int .i64 0, .string ⟨#[]⟩, .int .i64 0, .int .i64 0, .int .i64 0, .int .i64 0, .int .i64 0, .bool false, .string ⟨#[]⟩, .slice none 0 0, .string ⟨#[]⟩, .bool false, .slice none 0 0, .slice none 0 0]
structure TM (w : World) (gz gr gm gq ga : Nat) (mc qc ac : Array Value) (r : RS) (W : World) : Prop where
  below : Below w.heap.size w W
  l0 : w.heap.size ≤ gz
  l1 : gz < gr
  l2 : gr < gm
  l3 : gm < gq
  l4 : gq < ga
  bz : Blk W gz 51 zmA
  br : Blk W gr 70 (rsA r)
  bm : Blk W gm 51 mc
  bq : Blk W gq 44 qc
  ba : Blk W ga 47 ac
section
variable {w W W' : World} {gz gr gm gq ga : Nat} {mc qc ac : Array Value} {r r' : RS}
theorem TM.call (h : TM w gz gr gm gq ga mc qc ac r W) (hB : Blk W' gr 70 (rsA r')) (hk : Kr gr W W') : TM w gz gr gm gq ga mc qc ac r' W' :=
  { h with
    below := h.below.trans (hk.below.mono (by have := h.l0; have := h.l1; omega))
    bz := hk.kept _ _ _ (by have := h.l1; omega) h.bz
    br := hB
    bm := hk.kept _ _ _ (by have := h.l2; omega) h.bm
    bq := hk.kept _ _ _ (by have := h.l2; have := h.l3; omega) h.bq
    ba := hk.kept _ _ _ (by have := h.l2; have := h.l3; have := h.l4; omega) h.ba }
theorem TM.setm (h : TM w gz gr gm gq ga mc qc ac r W) (i : Nat) (v : Value) : TM w gz gr gm gq ga (mc.setIfInBounds i v) qc ac r (W.setCell ⟨gm, i, none⟩ v) :=
  { h with
    below := bst h.below (by have := h.l0; have := h.l1; have := h.l2; show w.heap.size ≤ gm; omega) _
    bz := h.bz.far (by have := h.l1; have := h.l2; show gz ≠ gm; omega) _
    br := h.br.far (by have := h.l2; show gr ≠ gm; omega) _
    bm := h.bm.set i v
    bq := h.bq.far (by have := h.l3; show gq ≠ gm; omega) _
    ba := h.ba.far (by have := h.l3; have := h.l4; show ga ≠ gm; omega) _ }
theorem TM.setq (h : TM w gz gr gm gq ga mc qc ac r W) (i : Nat) (v : Value) : TM w gz gr gm gq ga mc (qc.setIfInBounds i v) ac r (W.setCell ⟨gq, i, none⟩ v) :=
  { h with
    below := bst h.below (by have := h.l0; have := h.l1; have := h.l2; have := h.l3; show w.heap.size ≤ gq; omega) _
    bz := h.bz.far (by have := h.l1; have := h.l2; have := h.l3; show gz ≠ gq; omega) _
    br := h.br.far (by have := h.l2; have := h.l3; show gr ≠ gq; omega) _
    bm := h.bm.far (by have := h.l3; show gm ≠ gq; omega) _
    bq := h.bq.set i v
    ba := h.ba.far (by have := h.l4; show ga ≠ gq; omega) _ }
theorem TM.seta (h : TM w gz gr gm gq ga mc qc ac r W) (i : Nat) (v : Value) : TM w gz gr gm gq ga mc qc (ac.setIfInBounds i v) r (W.setCell ⟨ga, i, none⟩ v) :=
  { h with
    below := bst h.below (by have := h.l0; have := h.l1; have := h.l2; have := h.l3; have := h.l4; show w.heap.size ≤ ga; omega) _
    bz := h.bz.far (by have := h.l1; have := h.l2; have := h.l3; have := h.l4; show gz ≠ ga; omega) _
    br := h.br.far (by have := h.l2; have := h.l3; have := h.l4; show gr ≠ ga; omega) _
    bm := h.bm.far (by have := h.l3; have := h.l4; show gm ≠ ga; omega) _
    bq := h.bq.far (by have := h.l4; show gq ≠ ga; omega) _
    ba := h.ba.set i v }
theorem TM.drew (h : TM w gz gr gm gq ga mc qc ac r W) : TM w gz gr gm gq ga mc qc ac r W.drew :=
  { h with below := h.below.drew, bz := h.bz.drew, br := h.br.drew, bm := h.bm.drew, bq := h.bq.drew, ba := h.ba.drew }
theorem TM.alloc (h : TM w gz gr gm gq ga mc qc ac r W) (o : Obj) : TM w gz gr gm gq ga mc qc ac r (W.alloc o) :=
  { h with below := bal h.below o, bz := h.bz.alloc o, br := h.br.alloc o, bm := h.bm.alloc o, bq := h.bq.alloc o, ba := h.ba.alloc o }
theorem TM.grow {e : TypeId} (h : TM w gz gr gm gq ga mc qc ac r W) (hb : Below w.heap.size W W') (hk : ∀ g T cs, T ≠ e → Blk W g T cs → Blk W' g T cs) (h1 : 51 ≠ e) (h2 : 70 ≠ e) (h3 : 44 ≠ e) (h4 : 47 ≠ e) : TM w gz gr gm gq ga mc qc ac r W' :=
  { h with below := h.below.trans hb, bz := hk _ _ _ h1 h.bz, br := hk _ _ _ h2 h.br, bm := hk _ _ _ h1 h.bm, bq := hk _ _ _ h3 h.bq, ba := hk _ _ _ h4 h.ba }
end
end Go.Proofs.YtkoligiilieboaaGreatDoor
namespace Go.Proofs.YtkoligiilieboaaGreatDoor
open Go.RowKit
section
variable {P : Program}
theorem grown_kept {W w' : World} {base n size : Nat} {e : TypeId} {v : Value} {xs : List Value} (hown : W.ownsRow base e size v n xs) {o : Obj} (hg : (W.alloc o).grownBy w' v.ownBlock) : ∀ g2 T cs, T ≠ e → Blk W g2 T cs → Blk w' g2 T cs := by
  intro g2 T cs hT hB
  refine (hg.block g2 (by have := hB.lt; simp; omega) ?_).trans (hB.alloc _)
  intro hk
  rcases hown.2 with ⟨hv, _⟩ | ⟨g0, cp0, cur, hv, _, h0, _⟩
  · rw [hv] at hk
    cases hk
  · rw [hv] at hk
    injection hk with hk
    subst hk
    rw [hB] at h0
    injection h0 with h0
    injection h0 with _ h0 _
    exact hT h0
theorem step_pushR {ops : Array Oper} {o : Oper} {a : Act} {K : Act → World → Prop} {Q : Exit → Act → World → Prop} {E : Prop} (hgd : o.guard = none) (s x : Operand) (t : TypeId)
    (ho : o.op = .call { callee := .builtin .append, args := #[s, x], argTypes := #[t, t] })
    (base : Nat) (e : TypeId) (i : TypeInfo) (z : Value) (size bytes : Nat) (ht : P.underlying t = some (.slice e)) (hi : P.info? e = some i) (hz : i.zero = some z)
    (hsize : i.size = size) (hby : i.bytes = bytes) (hzs : z.cells.size = size) (h0 : 0 < size)
    (W : World) (v : Value) (n : Nat) (xs : List Value) (hs : a.eval s = v) (hown : W.ownsRow base e size v n xs)
    (us : List Value) (hlu : us.length = size) (hu : ∀ u ∈ us, u.oneCell' = true) (c : Nat) (hx : a.eval x = .slice (some ⟨W.heap.size, 0, none⟩) 1 c)
    (h63 : n + 1 ≤ 9223372036854775807) (hbytes : (n + 1) * bytes ≤ 140737488355328) (hbase : base ≤ W.heap.size)
    (h : ∀ g cap w', w'.ownsRow base e size (.slice (some ⟨g, 0, none⟩) (n + 1) cap) (n + 1) (xs ++ us) → Below base W w' → (∀ g2 T cs, T ≠ e → Blk W g2 T cs → Blk w' g2 T cs) → K (a.put o.dst (.slice (some ⟨g, 0, none⟩) (n + 1) cap)) w') :
    if Region.wanted o (yielded ops a.tmps) = true then Oper.wp P o a (W.alloc (.cells us.toArray e)) K Q else E := by
  refine step_append_lies (P := P) (w := W.alloc (.cells us.toArray e)) hgd s x t ho base e i z size bytes ht hi hz hsize hby hzs h0 v n xs hs (hown.alloc _) ⟨W.heap.size, 0, none⟩ 1 c us hx (by omega) ?_ hu (by omega) (by unfold maxLen; omega) hbytes (by simp; omega) _ rfl ?_
  · intro j y hj
    have : (⟨W.heap.size, 0, none⟩ : Addr).add j = ⟨W.heap.size, j, none⟩ := by unfold Addr.add; split <;> simp_all
    rw [this, cell_of_row _ _ _ _ _ _ (heap_alloc_new W _)]
    simpa using hj
  · intro g cap w' hown' hg _ _
    refine h g cap w' hown' ?_ (grown_kept hown hg)
    refine ((Below.refl _ W).alloc hbase _).trans (below_of_grown hg (by simp; omega) ?_)
    intro k hk
    exact (hown.lt k hk).1
theorem wpl_pushR {ops : Array Oper} {rest : List Oper} {o : Oper} {a : Act} {Q : Exit → Act → World → Prop} (hgd : o.guard = none) (s x : Operand) (t : TypeId)
    (ho : o.op = .call { callee := .builtin .append, args := #[s, x], argTypes := #[t, t] })
    (base : Nat) (e : TypeId) (i : TypeInfo) (z : Value) (size bytes : Nat) (ht : P.underlying t = some (.slice e)) (hi : P.info? e = some i) (hz : i.zero = some z)
    (hsize : i.size = size) (hby : i.bytes = bytes) (hzs : z.cells.size = size) (h0 : 0 < size)
    (W : World) (v : Value) (n : Nat) (xs : List Value) (hs : a.eval s = v) (hown : W.ownsRow base e size v n xs)
    (us : List Value) (hlu : us.length = size) (hu : ∀ u ∈ us, u.oneCell' = true) (c : Nat) (hx : a.eval x = .slice (some ⟨W.heap.size, 0, none⟩) 1 c)
    (h63 : n + 1 ≤ 9223372036854775807) (hbytes : (n + 1) * bytes ≤ 140737488355328) (hbase : base ≤ W.heap.size)
    (h : ∀ g cap w', w'.ownsRow base e size (.slice (some ⟨g, 0, none⟩) (n + 1) cap) (n + 1) (xs ++ us) → Below base W w' → (∀ g2 T cs, T ≠ e → Blk W g2 T cs → Blk w' g2 T cs) → wpList P ops Q rest (a.put o.dst (.slice (some ⟨g, 0, none⟩) (n + 1) cap)) w') :
    wpList P ops Q (o :: rest) a (W.alloc (.cells us.toArray e)) := by
  refine wpList_append_lies (P := P) (W.alloc (.cells us.toArray e)) hgd s x t ho base e i z size bytes ht hi hz hsize hby hzs h0 v n xs hs (hown.alloc _) ⟨W.heap.size, 0, none⟩ 1 c us hx (by omega) ?_ hu (by omega) (by unfold maxLen; omega) hbytes (by simp; omega) _ rfl ?_
  · intro j y hj
    have : (⟨W.heap.size, 0, none⟩ : Addr).add j = ⟨W.heap.size, j, none⟩ := by unfold Addr.add; split <;> simp_all
    rw [this, cell_of_row _ _ _ _ _ _ (heap_alloc_new W _)]
    simpa using hj
  · intro g cap w' hown' hg _ _
    refine h g cap w' hown' ?_ (grown_kept hown hg)
    refine ((Below.refl _ W).alloc hbase _).trans (below_of_grown hg (by simp; omega) ?_)
    intro k hk
    exact (hown.lt k hk).1
end
theorem own_keptT {w w1 : World} {base size n : Nat} {e e1 : TypeId} {v : Value} {xs : List Value} (h : w.ownsRow base e size v n xs) (hk : ∀ i T cs, T ≠ e1 → Blk w i T cs → Blk w1 i T cs) (hT : e ≠ e1) : w1.ownsRow base e size v n xs := by
  refine ⟨h.1, ?_⟩
  rcases h.2 with h0 | ⟨r, cap, cur, hv, hbg, hg, rest⟩
  · exact .inl h0
  · exact .inr ⟨r, cap, cur, hv, hbg, hk r e cur hT hg, rest⟩
theorem own_setN {w : World} {base size n : Nat} {e : TypeId} {v : Value} {xs : List Value} (h : w.ownsRow base e size v n xs) {p : Addr} (u : Value) (hne : ∀ g, v.ownBlock = some g → g ≠ p.block) : (w.setCell p u).ownsRow base e size v n xs := by
  refine ⟨h.1, ?_⟩
  rcases h.2 with h0 | ⟨r, cap, cur, hv, hbg, hg, rest⟩
  · exact .inl h0
  · refine .inr ⟨r, cap, cur, hv, hbg, ?_, rest⟩
    rw [Below.heap_setCell]
    · exact hg
    · exact hne r (by rw [hv]; rfl)
theorem own_far3 {w : World} {base size n gp : Nat} {e : TypeId} {v a b c : Value} {xs : List Value} (h : w.ownsRow base e size v n xs) (hne : ∀ g, v.ownBlock = some g → g ≠ gp) : (((w.setCell ⟨gp, 2, none⟩ a).setCell ⟨gp, 3, none⟩ b).setCell ⟨gp, 4, none⟩ c).ownsRow base e size v n xs :=
  own_setN (p := ⟨gp, 4, none⟩) (own_setN (p := ⟨gp, 3, none⟩) (own_setN (p := ⟨gp, 2, none⟩) h a hne) b hne) c hne
theorem TM.setx {w W : World} {gz gr gm gq ga : Nat} {mc qc ac : Array Value} {r : RS} {b : Nat} (h : TM w gz gr gm gq ga mc qc ac r W) (hb : ga < b) (i : Nat) (v : Value) : TM w gz gr gm gq ga mc qc ac r (W.setCell ⟨b, i, none⟩ v) :=
  { h with
    below := bst h.below (by have := h.l0; have := h.l1; have := h.l2; have := h.l3; have := h.l4; show w.heap.size ≤ b; omega) _
    bz := h.bz.far (by have := h.l1; have := h.l2; have := h.l3; have := h.l4; show gz ≠ b; omega) _
    br := h.br.far (by have := h.l2; have := h.l3; have := h.l4; show gr ≠ b; omega) _
    bm := h.bm.far (by have := h.l3; have := h.l4; show gm ≠ b; omega) _
    bq := h.bq.far (by have := h.l4; show gq ≠ b; omega) _
    ba := h.ba.far (by show ga ≠ b; omega) _ }
theorem infoIt : (Tryz.prog.info? 79).map (fun i => (i.zero, i.size, i.bytes)) = some (some (.agg #[.string ⟨#[]⟩, .string ⟨#[]⟩]), 2, 32) := by kernel_rfl
theorem infoPl : (Tryz.prog.info? 81).map (fun i => (i.zero, i.size, i.bytes)) = some (some (.agg zpA), 5, 56) := by kernel_rfl
def itF (l : List It) : List Value := l.flatMap itC
def plF (l : List Pl) : List Value := l.flatMap plC
theorem itF_snoc (l : List It) (x : It) : itF (l ++ [x]) = itF l ++ itC x := by simp [itF]
theorem plF_snoc (l : List Pl) (x : Pl) : plF (l ++ [x]) = plF l ++ plC x := by simp [plF]
def rItem (r : RS) : It × RS := (⟨(rText r).1, (rText (rText r).2).1⟩, (rText (rText r).2).2)
def rPlace (r : RS) : Pl × RS :=
  (⟨(rText r).1, (rText (rText r).2).1, (rNum (rText (rText r).2).2).1, (rNum (rNum (rText (rText r).2).2).2).1, (rNum (rNum (rNum (rText (rText r).2).2).2).2).1⟩, (rNum (rNum (rNum (rText (rText r).2).2).2).2).2)
theorem rItem_eq {r a b : RS} {x y : List UInt8} (h1 : rText r = (x, a)) (h2 : rText a = (y, b)) : rItem r = (⟨x, y⟩, b) := by simp [rItem, h1, h2]
theorem rPlace_eq {r a b c d e : RS} {x y : List UInt8} {i j k : Int} (h1 : rText r = (x, a)) (h2 : rText a = (y, b)) (h3 : rNum b = (i, c)) (h4 : rNum c = (j, d)) (h5 : rNum d = (k, e)) : rPlace r = (⟨x, y, i, j, k⟩, e) := by simp [rPlace, h1, h2, h3, h4, h5]
theorem rdN_succ {α : Type} (f : RS → α × RS) (k : Nat) (r rr r' : RS) (xs : List α) (x : α) (h : rdN f k r = (xs, rr)) (hx : f rr = (x, r')) : rdN f (k + 1) r = (xs ++ [x], r') := by simp [rdN, h, hx]
end Go.Proofs.YtkoligiilieboaaGreatDoor
namespace Go.Proofs.YtkoligiilieboaaGreatDoor
open Go.RowKit
section
variable {P : Program} {g : Nat} {t : TypeId} {cs : Array Value}
theorem wp_stm {op : Oper} {a : Act} {w : World} {K : Act → World → Prop} {Q : Exit → Act → World → Prop} {E : Prop} {b : Bool} (H : Blk w g t cs) (hb : b = true) (ty : TypeId) (x y : Operand) (ho : op.op = .store ty x y)
    (o : Nat) (vs : Array Value) (hx : a.eval x = .pointer (some ⟨g, o, none⟩)) (hy : a.eval y = .agg vs) (hs : o + vs.size ≤ cs.size) (hi : (P.info? ty).map (·.size) = some vs.size) (h1 : vs.all (·.oneCell') = true)
    (h : ∀ w', w' = w.setCells g o vs.toList → K (a.put op.dst undef) w') : if b = true then op.wp P a w K Q else E := by
  rw [if_pos hb]
  refine wp_store_mid ty x y ho g o vs hx hy (fun j hj => ⟨?_, H.frozen _⟩) hi h1 (h _ rfl)
  rw [H.cell (o + j), Array.getElem?_eq_getElem (by omega)]
  rfl
end
theorem own_setCells {base size n g : Nat} {e T : TypeId} {v : Value} {xs : List Value} (hT : T ≠ e) (vs : List Value) : ∀ (o : Nat) (cs : Array Value) (w : World), Blk w g T cs → w.ownsRow base e size v n xs → (w.setCells g o vs).ownsRow base e size v n xs := by
  induction vs with
  | nil => intro o cs w _ h; exact h
  | cons u r ih => intro o cs w hB h; exact ih (o + 1) _ _ (hB.set o u) (own_setT (p := ⟨g, o, none⟩) h u hB hT)
theorem putAll_size (vs : List Value) : ∀ (cs : Array Value) (o : Nat), (putAll cs o vs).size = cs.size := by
  induction vs with
  | nil => intro cs o; rfl
  | cons v r ih => intro cs o; rw [putAll, ih]; simp
theorem TM.setms {w : World} {gz gr gm gq ga : Nat} {qc ac : Array Value} {r : RS} (vs : List Value) : ∀ (o : Nat) (mc : Array Value) (W : World), TM w gz gr gm gq ga mc qc ac r W → TM w gz gr gm gq ga (putAll mc o vs) qc ac r (W.setCells gm o vs) := by
  induction vs with
  | nil => intro o mc W h; exact h
  | cons u k ih => intro o mc W h; exact ih (o + 1) _ _ (h.setm o u)
theorem own_cap {w : World} {base size n c : Nat} {e : TypeId} {A : Option Addr} {xs : List Value} (h : w.ownsRow base e size (.slice A n c) n xs) : n ≤ c := by
  rcases h.2 with ⟨hv, h0⟩ | ⟨g, cap, cur, hv, _, _, h1, _⟩
  · injection hv with _ _ h3; omega
  · injection hv with _ _ h3; omega
theorem flat_at {α : Type} (cs : α → List Value) (s : Nat) (hs : ∀ x, (cs x).length = s) (l : List α) (k : Nat) (h : k < l.length) (j : Nat) (u : Value) (hu : (cs l[k])[j]? = some u) : (l.flatMap cs)[k * s + j]? = some u := by
  induction l generalizing k with
  | nil => cases h
  | cons a r ih =>
    have hj : j < s := by
      have := (List.getElem?_eq_some_iff.1 hu).1
      rw [hs] at this
      exact this
    have hl := hs a
    cases k with
    | zero =>
      rw [List.flatMap_cons, List.getElem?_append_left (by omega)]
      simpa using hu
    | succ k =>
      have e : (k + 1) * s + j - (cs a).length = k * s + j := by rw [hl, Nat.succ_mul]; omega
      rw [List.flatMap_cons, List.getElem?_append_right (by rw [hl, Nat.succ_mul]; omega), e]
      exact ih k (by simpa using h) (by simpa using hu)
theorem own_rdr {α : Type} (cs : α → List Value) (s : Nat) (hs : ∀ x, (cs x).length = s) {w : World} {base : Nat} {e : TypeId} {A : Option Addr} {n c : Nat} {l : List α} (h : w.ownsRow base e s (.slice A n c) n (l.flatMap cs)) (hn : l.length = n) : RdR cs s w w.heap.size A l := by
  intro h0
  have hr := Rd.of_own h
  obtain ⟨b, off, hA, hb, hc⟩ := hr.2 (by omega)
  exact ⟨b, off, hA, hb, fun k hk j u hu => hc (k * s + j) u (flat_at cs s hs l k hk j u hu)⟩
theorem TM.rowz {w W : World} {gz gr gm gq ga : Nat} {mc qc ac : Array Value} {r : RS} (h : TM w gz gr gm gq ga mc qc ac r W) (vs : Array Value) : Below w.heap.size w (W.setRow gz vs) ∧ Blk (W.setRow gz vs) gz 51 vs :=
  ⟨below_row h.below h.l0 vs, h.bz.row vs⟩
theorem own_rowT {w : World} {base size n g : Nat} {e T : TypeId} {v : Value} {xs : List Value} {cs : Array Value} (h : w.ownsRow base e size v n xs) (hB : Blk w g T cs) (hT : T ≠ e) (vs : Array Value) : (w.setRow g vs).ownsRow base e size v n xs := by
  refine ⟨h.1, ?_⟩
  rcases h.2 with h0 | ⟨r, cap, cur, hv, hbg, hg, rest⟩
  · exact .inl h0
  · refine .inr ⟨r, cap, cur, hv, hbg, ?_, rest⟩
    have hne : r ≠ g := by
      intro e1
      subst e1
      unfold Blk at hB
      rw [hB] at hg
      injection hg with hg
      injection hg with _ h0 _
      exact hT h0
    exact (setRow_other w g r vs hne).trans hg
theorem RdR.row {α : Type} {cs : α → List Value} {s : Nat} {w : World} {B g : Nat} {A : Option Addr} {xs : List α} (h : RdR cs s w B A xs) (vs : Array Value) (hne : ∀ b off, A = some ⟨b, off, none⟩ → 0 < xs.length → b ≠ g) : RdR cs s (w.setRow g vs) B A xs := fun h0 => by
  obtain ⟨b, off, hA, hb, hc⟩ := h h0
  refine ⟨b, off, hA, hb, fun k hk j u hu => ?_⟩
  rw [World.cell?_of_block (w := w) (w' := w.setRow g vs) (setRow_other w g b vs (hne b off hA h0))]
  exact hc k hk j u hu
section
variable {P : Program} {w : World}
theorem res2c {fn : Func} {p q : Tmp} {ty1 : TypeId} {tmps : Array Value} {g1 : Nat} {t1 : TypeId} {c1 : Array Value} (H1 : Blk w g1 t1 c1) (h : fn.results = #[.cell p ty1, .tmp q])
    (hp : tmps.getD p undef = .pointer (some ⟨g1, 0, none⟩)) (v : Value) (hq : tmps.getD q undef = v) (d1 : TypeDesc)
    (hu1 : P.underlying ty1 = some d1) (hd1 : (match d1 with | .struct _ | .array _ _ => true | _ => false) = true) (hi1 : (P.info? ty1).map (·.size) = some c1.size) :
    (results fn tmps).run P w = .ok (.tuple #[.agg c1, v]) w := by
  have hp' : tmps[p]?.getD undef = .pointer (some ⟨g1, 0, none⟩) := by simpa using hp
  have hq' : tmps[q]?.getD undef = v := by simpa using hq
  simp [results, h, hp', hq', asAddr, run_loadVar_row w g1 t1 ty1 c1 (0, 0) d1 H1 hu1 hd1 hi1]
end
theorem is_ne {l : List UInt8} (h : l ≠ []) : l.isEmpty = false := by
  cases l <;> simp at h ⊢
end Go.Proofs.YtkoligiilieboaaGreatDoor
namespace Go.Proofs.YtkoligiilieboaaGreatDoor
theorem seq_eq {α β : Type} {f : Fmt α} {g : Fmt β} {r r1 r2 : RS} {v : α} {u : β} (h1 : f.rd r = (v, r1)) (h2 : g.rd r1 = (u, r2)) : (f.seq g).rd r = ((v, u), r2) := by
  simp only [Fmt.seq, h1, h2]
theorem right_bytes {a t n : Int} (h : rightB a t n = true) : stampB (a, t, n) = numsB [a, t, n] := by simp [stampB, bytesS, h]
theorem takeStamp_put {a t n : Int} (more : List UInt8) (h : rightB a t n = true) : takeStampL (stampB (a, t, n) ++ more) = ((a, t, n), more, 0) := by
  obtain ⟨⟨p1, p2⟩, ⟨p3, p4⟩, ⟨p5, p6⟩⟩ := right_pos a t n h
  obtain ⟨a, rfl⟩ := Int.eq_ofNat_of_zero_le p1
  obtain ⟨t, rfl⟩ := Int.eq_ofNat_of_zero_le p3
  obtain ⟨n, rfl⟩ := Int.eq_ofNat_of_zero_le p5
  rw [right_bytes h]
  have e : numsB [(a : Int), (t : Int), (n : Int)] ++ more = putL a ++ (putL t ++ (putL n ++ more)) := by simp [numsB, putI_nat]
  rw [e]
  unfold takeStampL
  rw [take_put a _ (by omega)]
  simp only [ne_eq, not_true, if_false]
  rw [take_put t _ (by omega)]
  simp only [not_true, if_false]
  rw [take_put n _ (by omega)]
  simp only [not_true, if_false, h]
  rfl
theorem takeStamp_ok {s : List UInt8} {v : Stm} {r : List UInt8} (h : takeStampL s = (v, r, 0)) : s = stampB v ++ r ∧ rightB v.1 v.2.1 v.2.2 = true := by
  obtain ⟨⟨a, r1, e1⟩, h1⟩ : ∃ x, takeL s = x := ⟨_, rfl⟩
  obtain ⟨⟨b, r2, e2⟩, h2⟩ : ∃ x, takeL r1 = x := ⟨_, rfl⟩
  obtain ⟨⟨c, r3, e3⟩, h3⟩ : ∃ x, takeL r2 = x := ⟨_, rfl⟩
  unfold takeStampL at h
  simp only [h1, h2, h3] at h
  split at h
  · simp only [Prod.mk.injEq] at h; omega
  · split at h
    · simp only [Prod.mk.injEq] at h; omega
    · split at h
      · simp only [Prod.mk.injEq] at h; omega
      · split at h
        · simp only [Prod.mk.injEq] at h; omega
        · rename_i g1 g2 g3 g4
          simp only [Prod.mk.injEq] at h
          obtain ⟨rfl, rfl, _⟩ := h
          obtain rfl : e1 = 0 := by omega
          obtain rfl : e2 = 0 := by omega
          obtain rfl : e3 = 0 := by omega
          obtain ⟨_, k1, _, _⟩ := take_ok _ _ _ h1
          obtain ⟨_, k2, _, _⟩ := take_ok _ _ _ h2
          obtain ⟨_, k3, _, _⟩ := take_ok _ _ _ h3
          have hr : rightB (a : Int) (b : Int) (c : Int) = true := by simpa using g4
          refine ⟨?_, hr⟩
          rw [right_bytes hr]
          simp only [numsB, List.flatMap_cons, List.flatMap_nil, putI_nat, List.append_nil]
          rw [k1, k2, k3]
          simp
theorem takeText_ok {s v r : List UInt8} (h : takeTextL s = (v, r, 0)) : s = textL v ++ r ∧ v.length < 9223372036854775808 := by
  obtain ⟨⟨n, r1, e1⟩, h1⟩ : ∃ x, takeL s = x := ⟨_, rfl⟩
  unfold takeTextL at h
  simp only [h1] at h
  split at h
  · simp only [Prod.mk.injEq] at h; omega
  · split at h
    · simp only [Prod.mk.injEq] at h; omega
    · rename_i g1 g2
      simp only [Prod.mk.injEq] at h
      obtain ⟨rfl, rfl, _⟩ := h
      obtain rfl : e1 = 0 := by omega
      obtain ⟨k0, k1, _, _⟩ := take_ok _ _ _ h1
      have hl : (r1.take n).length = n := by rw [List.length_take]; omega
      refine ⟨?_, by omega⟩
      unfold textL
      rw [hl, k1]
      simp
theorem takeFlag_ok {s : List UInt8} {v : Bool} {r : List UInt8} (h : takeFlagL s = (v, r, 0)) : s = flagL v ++ r ∧ True := by
  cases s with
  | nil => simp [takeFlagL] at h
  | cons b s =>
    have h : (if 1 < b.toNat then ((false, [], 3) : Bool × List UInt8 × Nat) else (b.toNat == 1, s, 0)) = (v, r, 0) := h
    split at h
    · simp only [Prod.mk.injEq] at h; omega
    · rename_i g
      simp only [Prod.mk.injEq] at h
      obtain ⟨rfl, rfl, _⟩ := h
      refine ⟨?_, trivial⟩
      have hb : b.toNat = 0 ∨ b.toNat = 1 := by omega
      rcases hb with hb | hb
      · have : b = 0 := UInt8.toNat_inj.1 (by simpa using hb)
        subst this
        rfl
      · have : b = 1 := UInt8.toNat_inj.1 (by simpa using hb)
        subst this
        rfl
def fNum : Fmt Int := Fmt.one takeN 0 (fun z => (putI z).1) (fun z => 0 ≤ z ∧ z < 9223372036854775808) (fun _ more h => takeN_put more h.1 h.2) (fun _ _ _ h => ⟨(takeN_ok h).1, (takeN_ok h).2⟩)
def fText : Fmt (List UInt8) := Fmt.one takeTextL [] textL (fun l => l.length < 9223372036854775808) (fun v more h => takeText_text v more (by omega)) (fun _ _ _ h => takeText_ok h)
def fFlag : Fmt Bool := Fmt.one takeFlagL false flagL (fun _ => True) (fun v more _ => takeFlag_flag v more) (fun _ _ _ h => takeFlag_ok h)
def fStamp : Fmt Stm := Fmt.one takeStampL (0, 0, 0) stampB (fun v => rightB v.1 v.2.1 v.2.2 = true) (fun _ more h => takeStamp_put more h) (fun _ _ _ h => takeStamp_ok h)
def fList {α : Type} (f : Fmt α) (hp : ∀ v, f.ok v → 0 < (f.enc v).length) : Fmt (List α) where
  enc l := (putI (l.length : Int)).1 ++ encL f l
  ok l := l.length < 9223372036854775808 ∧ ∀ x ∈ l, f.ok x
  rd r := rdN f.rd (rCount r).1.toNat (rCount r).2
  fwd l more h := by
    have hlen : l.length ≤ (encL f l).length := by
      have h2 := h.2
      clear h
      induction l with
      | nil => simp
      | cons x l ih =>
        have := hp x (h2 x List.mem_cons_self)
        have := ih (fun y hy => h2 y (List.mem_cons_of_mem _ hy))
        rw [encL_cons, List.length_append, List.length_cons]
        omega
    have h1 : rNum ⟨false, (putI (l.length : Int)).1 ++ encL f l ++ more⟩ = ((l.length : Int), ⟨false, encL f l ++ more⟩) := by
      rw [List.append_assoc]
      exact rdOne_ok _ _ _ (takeN_put _ (by omega) (by omega))
    have hc : rCount ⟨false, (putI (l.length : Int)).1 ++ encL f l ++ more⟩ = ((l.length : Int), ⟨false, encL f l ++ more⟩) := by
      unfold rCount
      rw [h1]
      rw [if_neg (by simp; omega)]
    rw [hc]
    exact f.rdN_fwd l more h.2
  bwd s l r h hb := by
    obtain ⟨⟨c, ⟨cb, cs⟩⟩, hc⟩ : ∃ x, rCount ⟨false, s⟩ = x := ⟨_, rfl⟩
    rw [hc] at h
    simp only at h
    cases cb with
    | true =>
      have := f.rdN_bad c.toNat cs
      rw [h] at this
      rw [this] at hb
      cases hb
    | false =>
      obtain ⟨e2, o2⟩ := f.rdN_bwd _ _ _ _ h hb
      have hl := rdN_len f.rd c.toNat ⟨false, cs⟩
      rw [h] at hl
      simp only at hl
      unfold rCount at hc
      split at hc
      · simp only [Prod.mk.injEq, RS.mk.injEq] at hc
        exact absurd hc.2.1 (by simp)
      · unfold rNum rdOne at hc
        split at hc
        · simp only [Prod.mk.injEq, RS.mk.injEq] at hc
          exact absurd hc.2.1 (by simp)
        · rename_i hn
          have h0 : (takeN s).2.2 = 0 := by simpa using hn
          simp only [Prod.mk.injEq, RS.mk.injEq] at hc
          obtain ⟨rfl, _, rfl⟩ := hc
          obtain ⟨e1, p1, p2⟩ := takeN_ok (show takeN s = ((takeN s).1, (takeN s).2.1, 0) by rw [← h0])
          refine ⟨?_, by omega, o2⟩
          rw [show ((l.length : Nat) : Int) = (takeN s).1 by omega, List.append_assoc, ← e2]
          exact e1
  bad s := by
    have hc : (rCount ⟨true, s⟩).2.bad = true := by
      unfold rCount
      split
      · rfl
      · unfold rNum; rw [rdOne_bad]
    obtain ⟨⟨c, ⟨cb, cs⟩⟩, h⟩ : ∃ x, rCount ⟨true, s⟩ = x := ⟨_, rfl⟩
    rw [h] at hc ⊢
    simp only at hc
    subst hc
    exact f.rdN_bad _ _
  len r := Nat.le_trans (f.rdN_slen _ _) (rCount_nn r).2.2
theorem textL_pos (l : List UInt8) : 0 < (textL l).length := by
  have := putL_pos l.length
  unfold textL
  rw [List.length_append]
  omega
theorem putI_pos {z : Int} (h : 0 ≤ z) : 0 < (putI z).1.length := by
  obtain ⟨n, rfl⟩ := Int.eq_ofNat_of_zero_le h
  rw [putI_nat]
  exact putL_pos n
def fItem : Fmt It := (fText.seq fText).as (fun p => ⟨p.1, p.2⟩) (fun x => (x.ky, x.vl)) (fun _ => rfl) (fun _ => rfl)
theorem fItem_pos (v : It) (_ : fItem.ok v) : 0 < (fItem.enc v).length := by
  have := textL_pos v.ky
  show 0 < (textL v.ky ++ textL v.vl).length
  rw [List.length_append]
  omega
def fPlace : Fmt Pl := (fText.seq (fText.seq (fNum.seq (fNum.seq fNum)))).as (fun p => ⟨p.1, p.2.1, p.2.2.1, p.2.2.2.1, p.2.2.2.2⟩) (fun x => (x.lo, x.hi, x.sh, x.ce, x.ep)) (fun _ => rfl) (fun _ => rfl)
theorem fPlace_pos (v : Pl) (_ : fPlace.ok v) : 0 < (fPlace.enc v).length := by
  have := textL_pos v.lo
  show 0 < (textL v.lo ++ _).length
  rw [List.length_append]
  omega
def fItems : Fmt (List It) := fList fItem fItem_pos
def fPlaces : Fmt (List Pl) := fList fPlace fPlace_pos
def fInts : Fmt (List Int) := fList fNum (fun _ h => putI_pos h.1)
theorem list_eq {α : Type} {f : Fmt α} {hp : ∀ v, f.ok v → 0 < (f.enc v).length} {r r1 r2 : RS} {c : Int} {k : Nat} {l : List α} (h1 : rCount r = (c, r1)) (hk : (k : Int) = c) (h2 : rdN f.rd k r1 = (l, r2)) : (fList f hp).rd r = (l, r2) := by
  show rdN f.rd (rCount r).1.toNat (rCount r).2 = _
  rw [h1]
  simp only
  rw [show c.toNat = k by omega]
  exact h2
def fMsg := fNum.seq (fNum.seq (fNum.seq (fNum.seq (fNum.seq (fNum.seq (fNum.seq (fNum.seq (fNum.seq (fStamp.seq (fText.seq (fNum.seq (fNum.seq (fNum.seq (fText.seq (fText.seq (fFlag.seq (fText.seq (fStamp.seq (fText.seq (fNum.seq (fNum.seq (fStamp.seq (fFlag.seq (fText.seq (fItems.seq (fText.seq (fFlag.seq (fPlaces.seq fInts))))))))))))))))))))))))))))
def tupM (m : Ms) (its : List It) (ps : List Pl) (ls : List Int) :=
  (m.kind, m.frm, m.to, m.shard, m.epoch, m.move, m.lease, m.num, m.of, (m.a, m.t, m.n), m.text, m.req.cl, m.req.rq, m.req.kd, m.req.ky, m.req.vl, m.req.had, m.req.old, (m.req.a, m.req.t, m.req.n), m.req.hi, m.req.lim, m.ans.er, (m.ans.a, m.ans.t, m.ans.n), m.ans.fd, m.ans.vl, its, m.ans.nx, m.ans.mo, ps, ls)
end Go.Proofs.YtkoligiilieboaaGreatDoor
namespace Go.Proofs.YtkoligiilieboaaGreatDoor
theorem nums_cons (z : Int) (l : List Int) : numsB (z :: l) = (putI z).1 ++ numsB l := rfl
theorem encItems (l : List It) : encL fItem l = itsB l := by
  unfold encL itsB
  congr 1
  funext x
  show textL x.ky ++ textL x.vl = textsB [x.ky, x.vl]
  simp [textsB]
theorem encPlaces (l : List Pl) : encL fPlace l = plsB l := by
  unfold encL plsB
  congr 1
  funext x
  show textL x.lo ++ (textL x.hi ++ ((putI x.sh).1 ++ ((putI x.ce).1 ++ (putI x.ep).1))) = textsB [x.lo, x.hi] ++ numsB [x.sh, x.ce, x.ep]
  simp [textsB, numsB]
theorem encInts (l : List Int) : encL fNum l = numsB l := rfl
theorem msg_enc0 (m : Ms) (its : List It) (ps : List Pl) (ls : List Int) : fMsg.enc (tupM m its ps ls) = (putI m.kind).1 ++ ((putI m.frm).1 ++ ((putI m.to).1 ++ ((putI m.shard).1 ++ ((putI m.epoch).1 ++ ((putI m.move).1 ++ ((putI m.lease).1 ++ ((putI m.num).1 ++ ((putI m.of).1 ++ (stampB (m.a, m.t, m.n) ++ (textL m.text ++ ((putI m.req.cl).1 ++ ((putI m.req.rq).1 ++ ((putI m.req.kd).1 ++ (textL m.req.ky ++ (textL m.req.vl ++ (flagL m.req.had ++ (textL m.req.old ++ (stampB (m.req.a, m.req.t, m.req.n) ++ (textL m.req.hi ++ ((putI m.req.lim).1 ++ ((putI m.ans.er).1 ++ (stampB (m.ans.a, m.ans.t, m.ans.n) ++ (flagL m.ans.fd ++ (textL m.ans.vl ++ (fItems.enc its ++ (textL m.ans.nx ++ (flagL m.ans.mo ++ (fPlaces.enc ps ++ fInts.enc ls)))))))))))))))))))))))))))) := by kernel_rfl
theorem enc_its (its : List It) : fItems.enc its = numsB [(its.length : Int)] ++ itsB its := by
  show (putI (its.length : Int)).1 ++ encL fItem its = _
  rw [encItems]
  simp [numsB]
theorem enc_pls (ps : List Pl) : fPlaces.enc ps = numsB [(ps.length : Int)] ++ plsB ps := by
  show (putI (ps.length : Int)).1 ++ encL fPlace ps = _
  rw [encPlaces]
  simp [numsB]
theorem enc_ints (ls : List Int) : fInts.enc ls = numsB [(ls.length : Int)] ++ numsB ls := by
  show (putI (ls.length : Int)).1 ++ encL fNum ls = _
  rw [encInts]
  simp [numsB]
theorem nums_nil : numsB [] = [] := rfl
theorem texts_nil : textsB [] = [] := rfl
theorem texts_cons (x : List UInt8) (l : List (List UInt8)) : textsB (x :: l) = textL x ++ textsB l := rfl
theorem stamps_one (x : Stm) : stampsB [x] = stampB x := by simp [stampsB]
theorem msg_enc (m : Ms) (its : List It) (ps : List Pl) (ls : List Int) (hi : its.length = m.ans.itn) (hp : ps.length = m.pn) (hl : ls.length = m.mn) : fMsg.enc (tupM m its ps ls) = msgB m its ps ls := by
  refine (msg_enc0 m its ps ls).trans ?_
  rw [enc_its, enc_pls, enc_ints, hi, hp, hl]
  unfold msgB
  simp only [nums_cons, nums_nil, texts_cons, texts_nil, stamps_one, List.append_nil, List.nil_append, List.append_assoc]
theorem fits_ok {z : Int} (h : fitsB z = true) : 0 ≤ z ∧ z < 9223372036854775808 := by
  simp [fitsB] at h
  omega
theorem all_fits {m : Ms} {ps : List Pl} {ls : List Int} (h : rightM m ps ls = true) : ∀ x ∈ numsM m ps ls, fitsB x = true := by
  intro x hx
  cases hf : fitsB x with
  | true => rfl
  | false => rw [rightM_num hx hf] at h; cases h
theorem right_parts {m : Ms} {ps : List Pl} {ls : List Int} (h : rightM m ps ls = true) : headB m = true ∧ rightB m.a m.t m.n = true ∧ rightB m.req.a m.req.t m.req.n = true ∧ rightB m.ans.a m.ans.t m.ans.n = true := by
  unfold rightM at h
  simp only [Bool.and_eq_true] at h
  exact ⟨h.1, h.2.2.1, h.2.2.2.1, h.2.2.2.2⟩
theorem mem_pl' {m : Ms} {ps : List Pl} {ls : List Int} {p : Pl} (hp : p ∈ ps) : p.sh ∈ numsM m ps ls ∧ p.ce ∈ numsM m ps ls ∧ p.ep ∈ numsM m ps ls := by
  unfold numsM
  refine ⟨?_, ?_, ?_⟩ <;> refine List.mem_append_left _ (List.mem_append_right _ (List.mem_flatMap.2 ⟨p, hp, by simp⟩))
theorem mem_lm' {m : Ms} {ps : List Pl} {ls : List Int} {x : Int} (h : x ∈ ls) : x ∈ numsM m ps ls := List.mem_append_right _ h
theorem mem_13' {m : Ms} {ps : List Pl} {ls : List Int} {x : Int} (h : x ∈ nm13 m) : x ∈ numsM m ps ls := List.mem_append_left _ (List.mem_append_left _ h)
theorem msg_ok (m : Ms) (its : List It) (ps : List Pl) (ls : List Int) (hr : rightM m ps ls = true) (hi : its.length = m.ans.itn) (hp : ps.length = m.pn) (hl : ls.length = m.mn) (hZ : SzM m its ps) : fMsg.ok (tupM m its ps ls) := by
  have hf := all_fits hr
  obtain ⟨hh, r1, r2, r3⟩ := right_parts hr
  obtain ⟨⟨hk1, hk2⟩, ⟨he1, he2⟩, hi8, hp8, hl8⟩ := head_iff hh
  have h13 : ∀ x ∈ nm13 m, 0 ≤ x ∧ x < 9223372036854775808 := fun x hx => fits_ok (hf x (mem_13' hx))
  have hpl : ∀ p ∈ ps, fPlace.ok p := fun p hp2 => by
    obtain ⟨z1, z2⟩ := hZ.ps p hp2
    obtain ⟨m1, m2, m3⟩ := mem_pl' (m := m) (ls := ls) hp2
    exact ⟨by show p.lo.length < _; omega, by show p.hi.length < _; omega, fits_ok (hf _ m1), fits_ok (hf _ m2), fits_ok (hf _ m3)⟩
  have hit : ∀ x ∈ its, fItem.ok x := fun x hx => by
    obtain ⟨z1, z2⟩ := hZ.its x hx
    exact ⟨by show x.ky.length < _; omega, by show x.vl.length < _; omega⟩
  have hin : ∀ x ∈ ls, fNum.ok x := fun x hx => fits_ok (hf _ (mem_lm' hx))
  have t1 := hZ.text
  have t2 := hZ.ky
  have t3 := hZ.vl
  have t4 := hZ.old
  have t5 := hZ.hi
  have t6 := hZ.av
  have t7 := hZ.an
  exact ⟨h13 m.kind (by simp), h13 m.frm (by simp), h13 m.to (by simp), h13 m.shard (by simp), h13 m.epoch (by simp), h13 m.move (by simp), h13 m.lease (by simp), h13 m.num (by simp), h13 m.of (by simp), r1, (by show m.text.length < _; omega), h13 m.req.cl (by simp), h13 m.req.rq (by simp), h13 m.req.kd (by simp),
    (by show m.req.ky.length < _; omega), (by show m.req.vl.length < _; omega), trivial, (by show m.req.old.length < _; omega), r2, (by show m.req.hi.length < _; omega), h13 m.req.lim (by simp), (by show 0 ≤ m.ans.er ∧ m.ans.er < _; omega), r3, trivial, (by show m.ans.vl.length < _; omega),
    ⟨by show its.length < _; omega, hit⟩, (by show m.ans.nx.length < _; omega), trivial, ⟨by show ps.length < _; omega, hpl⟩, ⟨by show ls.length < _; omega, hin⟩⟩
theorem msg_back (m : Ms) (its : List It) (ps : List Pl) (ls : List Int) (hr : rightM m ps ls = true) (hi : its.length = m.ans.itn) (hp : ps.length = m.pn) (hl : ls.length = m.mn) (hZ : SzM m its ps) : fMsg.rd ⟨false, msgB m its ps ls⟩ = (tupM m its ps ls, ⟨false, []⟩) := by
  have := fMsg.fwd _ [] (msg_ok m its ps ls hr hi hp hl hZ)
  rw [List.append_nil, msg_enc m its ps ls hi hp hl] at this
  exact this
end Go.Proofs.YtkoligiilieboaaGreatDoor
namespace Go.Proofs.YtkoligiilieboaaGreatDoor
open Go.RowKit
structure Vs where
  a : Int
  t : Int
  n : Int
  gone : Bool
  val : List UInt8
instance : Inhabited Vs := ⟨⟨0, 0, 0, false, []⟩⟩
def vsC (v : Vs) : List Value := [.int .i64 v.a, .int .i64 v.t, .int .i64 v.n, .bool v.gone, .string ⟨v.val.toArray⟩]
structure En where
  key : List UInt8
  A : Option Addr
  n : Nat
  c : Nat
  vs : List Vs
instance : Inhabited En := ⟨⟨[], none, 0, 0, []⟩⟩
def enC (e : En) : List Value := [.string ⟨e.key.toArray⟩, .slice e.A e.n e.c]
structure Dn where
  cl : Int
  rq : Int
  ans : An
  its : List It
instance : Inhabited Dn := ⟨⟨0, 0, ⟨0, 0, 0, 0, false, [], none, 0, 0, [], false⟩, []⟩⟩
def dnC (d : Dn) : List Value := [.int .i64 d.cl, .int .i64 d.rq, .int .i64 d.ans.er, .int .i64 d.ans.a, .int .i64 d.ans.t, .int .i64 d.ans.n, .bool d.ans.fd, .string ⟨d.ans.vl.toArray⟩, .slice d.ans.itA d.ans.itn d.ans.itc, .string ⟨d.ans.nx.toArray⟩, .bool d.ans.mo]
structure Sh where
  id : Int
  epoch : Int
  lo : List UInt8
  hi : List UInt8
  phase : Int
  eA : Option Addr
  en : Nat
  ec : Nat
  ma : Int
  mt : Int
  mn : Int
  ta : Int
  tt : Int
  tn : Int
  dA : Option Addr
  dn : Nat
  dc : Nat
  hold : Int
  seen : Int
  move : Int
  closed : Int
  es : List En
  ds : List Dn
instance : Inhabited Sh := ⟨⟨0, 0, [], [], 0, none, 0, 0, 0, 0, 0, 0, 0, 0, none, 0, 0, 0, 0, 0, 0, [], []⟩⟩
abbrev shA (s : Sh) : Array Value := #[.int .i64 s.id, .int .i64 s.epoch, .string ⟨s.lo.toArray⟩, .string ⟨s.hi.toArray⟩, .int .i64 s.phase, .slice s.eA s.en s.ec, .int .i64 s.ma, .int .i64 s.mt, .int .i64 s.mn, .int .i64 s.ta, .int .i64 s.tt, .int .i64 s.tn, .slice s.dA s.dn s.dc, .int .i64 s.hold, .int .i64 s.seen, .int .i64 s.move, .int .i64 s.closed]
abbrev shV (s : Sh) : Value := .agg (shA s)
def shC (s : Sh) : List Value := [.int .i64 s.id, .int .i64 s.epoch, .string ⟨s.lo.toArray⟩, .string ⟨s.hi.toArray⟩, .int .i64 s.phase, .slice s.eA s.en s.ec, .int .i64 s.ma, .int .i64 s.mt, .int .i64 s.mn, .int .i64 s.ta, .int .i64 s.tt, .int .i64 s.tn, .slice s.dA s.dn s.dc, .int .i64 s.hold, .int .i64 s.seen, .int .i64 s.move, .int .i64 s.closed]
structure Ce where
  sA : Option Addr
  sn : Nat
  sc : Nat
  ta : Int
  tt : Int
  tn : Int
  drop : Int
  ss : List Sh
abbrev ceA (c : Ce) : Array Value := #[.slice c.sA c.sn c.sc, .int .i64 c.ta, .int .i64 c.tt, .int .i64 c.tn, .int .i64 c.drop]
abbrev ceV (c : Ce) : Value := .agg (ceA c)
/-! rows in order -/
section
variable {α : Type}
def stepB (ok : α → Bool) (lt : α → α → Bool) (l : List α) (k : Nat) : Bool :=
  match l[k]? with
  | none => true
  | some x => ok x && (match k with
    | 0 => true
    | j + 1 => match l[j]? with
      | none => true
      | some y => lt y x)
def rowB (ok : α → Bool) (lt : α → α → Bool) (l : List α) : Bool := (List.range l.length).all (stepB ok lt l)
variable {ok : α → Bool} {lt : α → α → Bool} {l : List α}
theorem stepB_zero (h : 0 < l.length) : stepB ok lt l 0 = ok l[0] := by simp [stepB, h]
theorem stepB_succ {k : Nat} (h : k + 1 < l.length) : stepB ok lt l (k + 1) = (ok l[k + 1] && lt l[k] l[k + 1]) := by
  have h2 : k < l.length := by omega
  simp [stepB, h, h2]
theorem rowB_false {k : Nat} (hk : k < l.length) (h : stepB ok lt l k = false) : rowB ok lt l = false := by
  unfold rowB
  rw [List.all_eq_false]
  exact ⟨k, List.mem_range.2 hk, by simp [h]⟩
theorem rowB_true (h : ∀ j, j < l.length → stepB ok lt l j = true) : rowB ok lt l = true := by
  unfold rowB
  rw [List.all_eq_true]
  exact fun j hj => h j (List.mem_range.1 hj)
theorem rowB_step (h : rowB ok lt l = true) {k : Nat} (hk : k < l.length) : stepB ok lt l k = true := List.all_eq_true.1 h k (List.mem_range.2 hk)
theorem rowB_ok (h : rowB ok lt l = true) {k : Nat} (hk : k < l.length) : ok l[k] = true := by
  have h1 := rowB_step h hk
  cases k with
  | zero => rw [stepB_zero hk] at h1; exact h1
  | succ k => rw [stepB_succ hk] at h1; exact (Bool.and_eq_true_iff.1 h1).1
theorem rowB_mem (h : rowB ok lt l = true) {x : α} (hx : x ∈ l) : ok x = true := by
  obtain ⟨k, hk, rfl⟩ := List.getElem_of_mem hx
  exact rowB_ok h hk
theorem rowB_lt (h : rowB ok lt l = true) {k : Nat} (hk : k + 1 < l.length) : lt l[k] l[k + 1] = true := by
  have h1 := rowB_step h hk
  rw [stepB_succ hk] at h1
  exact (Bool.and_eq_true_iff.1 h1).2
theorem steps_succ {k : Nat} (h : ∀ j, j < k → stepB ok lt l j = true) (h1 : stepB ok lt l k = true) : ∀ j, j < k + 1 → stepB ok lt l j = true := fun j hj => by
  rcases Nat.lt_or_ge j k with h2 | h2
  · exact h j h2
  · obtain rfl : j = k := by omega
    exact h1
end
/-! what is right -/
def vsB (v : Vs) : Bool := rightB v.a v.t v.n && (decide (v.val.length ≤ 16) && (!v.gone || decide (v.val = [])))
def vlt (u v : Vs) : Bool := decide (cmpS u.a u.t u.n v.a v.t v.n < 0)
def chB (l : List Vs) : Bool := decide (l.length ≤ 64) && rowB vsB vlt l
def enB (e : En) : Bool := rightL e.key && (chB e.vs && decide (0 < e.vs.length))
def elt (d e : En) : Bool := decide (cmpL d.key e.key < 0)
def ixB (es : List En) : Bool := decide (es.length ≤ 64) && rowB enB elt es
def oneB (z : Int) : Bool := decide (1 ≤ z) && decide (z ≤ 1099511627776)
def ansB (a : An) : Bool := (decide (0 ≤ a.er) && decide (a.er ≤ 16)) && (rightB a.a a.t a.n && (decide (a.vl.length ≤ 16) && (decide (a.itn = 0) && (decide (a.nx = []) && !a.mo))))
def dnB (d : Dn) : Bool := oneB d.cl && (oneB d.rq && ansB d.ans)
def dlt (d e : Dn) : Bool := decide (d.cl < e.cl)
def ddB (ds : List Dn) : Bool := decide (ds.length ≤ 8) && rowB dnB dlt ds
def hasB (s : Sh) : Bool := s.es.all fun e => hasSp ⟨s.lo, s.hi⟩ e.key
def numB (s : Sh) : Bool := (oneB s.id && oneB s.epoch) && ((fitsB s.hold && (fitsB s.seen && (fitsB s.move && fitsB s.closed))) && (decide (1 ≤ s.phase) && decide (s.phase ≤ 3)))
def shB (s : Sh) : Bool := numB s && (rightSp ⟨s.lo, s.hi⟩ && (ixB s.es && (rightB s.ma s.mt s.mn && (rightB s.ta s.tt s.tn && (ddB s.ds && hasB s)))))
def upB (s : Sh) (a t n : Int) : Bool := s.es.all fun e => e.vs.all fun v => !decide (cmpS a t n v.a v.t v.n < 0)
def slt (s u : Sh) : Bool := decide (s.id < u.id)
def ceB (c : Ce) : Bool := (decide (c.ss.length ≤ 8) && (rightB c.ta c.tt c.tn && fitsB c.drop)) && rowB (fun s => shB s && upB s c.ta c.tt c.tn) slt c.ss
/-! what they hold -/
abbrev Stp := Int × Int × Int
abbrev EnL := List UInt8 × List Vs
abbrev DnF := Int × Int × Int × Stp × Bool × List UInt8
abbrev DnL := DnF × List It × List UInt8 × Bool
def enL (e : En) : EnL := (e.key, e.vs)
def dnF (d : Dn) : DnF := (d.cl, d.rq, d.ans.er, (d.ans.a, d.ans.t, d.ans.n), d.ans.fd, d.ans.vl)
def dnL (d : Dn) : DnL := (dnF d, d.its, d.ans.nx, d.ans.mo)
abbrev ShH := Int × Int × Int × Int × Int × Int × Int × List UInt8 × List UInt8 × Stp × Stp
def shH (s : Sh) : ShH := (s.id, s.epoch, s.phase, s.hold, s.seen, s.move, s.closed, s.lo, s.hi, (s.ma, s.mt, s.mn), (s.ta, s.tt, s.tn))
abbrev ShL := ShH × List EnL × List DnL
def shL (s : Sh) : ShL := (shH s, s.es.map enL, s.ds.map dnL)
abbrev CeL := Stp × Int × List ShL
def ceL (c : Ce) : CeL := ((c.ta, c.tt, c.tn), c.drop, c.ss.map shL)
/-! what a walk knows of them -/
structure EnIn (w : World) (B : Nat) (e : En) : Prop where
  len : e.vs.length = e.n
  cap : e.n ≤ e.c
  m63 : e.n ≤ 9223372036854775807
  row : RdR vsC 5 w B e.A e.vs
structure DnIn (w : World) (B : Nat) (d : Dn) : Prop where
  len : d.its.length = d.ans.itn
  cap : d.ans.itn ≤ d.ans.itc
  m63 : d.ans.itn ≤ 9223372036854775807
  row : RdR itC 2 w B d.ans.itA d.its
structure ShIn (w : World) (B : Nat) (s : Sh) : Prop where
  elen : s.es.length = s.en
  ecap : s.en ≤ s.ec
  e63 : s.en ≤ 9223372036854775807
  erow : RdR enC 2 w B s.eA s.es
  es : ∀ e ∈ s.es, EnIn w B e
  dlen : s.ds.length = s.dn
  dcap : s.dn ≤ s.dc
  d63 : s.dn ≤ 9223372036854775807
  drow : RdR dnC 11 w B s.dA s.ds
  ds : ∀ d ∈ s.ds, DnIn w B d
structure CeIn (w : World) (B : Nat) (c : Ce) : Prop where
  len : c.ss.length = c.sn
  cap : c.sn ≤ c.sc
  m63 : c.sn ≤ 9223372036854775807
  row : RdR shC 17 w B c.sA c.ss
  ss : ∀ s ∈ c.ss, ShIn w B s
section
variable {w w' : World} {B B' : Nat}
theorem EnIn.below {e : En} (h : EnIn w B e) (hb : Below B' w w') (hB : B ≤ B') : EnIn w' B e := { h with row := h.row.below hb hB }
theorem DnIn.below {e : Dn} (h : DnIn w B e) (hb : Below B' w w') (hB : B ≤ B') : DnIn w' B e := { h with row := h.row.below hb hB }
theorem ShIn.below {s : Sh} (h : ShIn w B s) (hb : Below B' w w') (hB : B ≤ B') : ShIn w' B s :=
  { h with erow := h.erow.below hb hB, drow := h.drow.below hb hB, es := fun e he => (h.es e he).below hb hB, ds := fun e he => (h.ds e he).below hb hB }
theorem CeIn.below {s : Ce} (h : CeIn w B s) (hb : Below B' w w') (hB : B ≤ B') : CeIn w' B s :=
  { h with row := h.row.below hb hB, ss := fun e he => (h.ss e he).below hb hB }
theorem EnIn.more {e : En} (h : EnIn w B e) (hB : B ≤ B') : EnIn w B' e := { h with row := h.row.more hB }
theorem DnIn.more {e : Dn} (h : DnIn w B e) (hB : B ≤ B') : DnIn w B' e := { h with row := h.row.more hB }
theorem ShIn.more {s : Sh} (h : ShIn w B s) (hB : B ≤ B') : ShIn w B' s :=
  { h with erow := h.erow.more hB, drow := h.drow.more hB, es := fun e he => (h.es e he).more hB, ds := fun e he => (h.ds e he).more hB }
theorem CeIn.more {s : Ce} (h : CeIn w B s) (hB : B ≤ B') : CeIn w B' s :=
  { h with row := h.row.more hB, ss := fun e he => (h.ss e he).more hB }
end
theorem enc_cells {w : World} {B : Nat} {A : Option Addr} {xs : List En} (hR : RdR enC 2 w B A xs) (k : Nat) (hk : k < xs.length) :
    ∃ b off, A = some ⟨b, off, none⟩ ∧ b < B ∧ w.cell? ⟨b, off + k * 2, none⟩ = some (.string ⟨xs[k].key.toArray⟩) ∧ w.cell? ⟨b, off + k * 2 + 1, none⟩ = some (.slice xs[k].A xs[k].n xs[k].c) := by
  obtain ⟨b, off, hA, hb, hc⟩ := hR (by omega)
  exact ⟨b, off, hA, hb, hc k hk 0 _ rfl, hc k hk 1 _ rfl⟩
theorem rowc {α : Type} {cs : α → List Value} {s : Nat} {w : World} {B : Nat} {A : Option Addr} {xs : List α} (hR : RdR cs s w B A xs) (k : Nat) (hk : k < xs.length) :
    ∃ b off, A = some ⟨b, off, none⟩ ∧ b < B ∧ ∀ j u, (cs xs[k])[j]? = some u → w.cell? ⟨b, off + (k * s + j), none⟩ = some u := by
  obtain ⟨b, off, hA, hb, hc⟩ := hR (by omega)
  exact ⟨b, off, hA, hb, hc k hk⟩
/-! the last version of a right chain is the latest -/
theorem cmpS_trans {a t n a' t' n' a'' t'' n'' : Int} (h1 : cmpS a t n a' t' n' < 0) (h2 : cmpS a' t' n' a'' t'' n'' < 0) : cmpS a t n a'' t'' n'' < 0 := by
  rw [before_iff] at *
  omega
theorem chain_lt {l : List Vs} (h : rowB vsB vlt l = true) (i j : Nat) (hij : i < j) (hj : j < l.length) : cmpS l[i].a l[i].t l[i].n l[j].a l[j].t l[j].n < 0 := by
  induction j with
  | zero => omega
  | succ j ih =>
    have h1 := rowB_lt h hj
    unfold vlt at h1
    have h1 := of_decide_eq_true h1
    rcases Nat.lt_or_ge i j with h2 | h2
    · exact cmpS_trans (ih h2 (by omega)) h1
    · obtain rfl : i = j := by omega
      exact h1
theorem chain_last {l : List Vs} (h : rowB vsB vlt l = true) (h0 : 0 < l.length) (a t n : Int) : (l.all fun v => !decide (cmpS a t n v.a v.t v.n < 0)) = decide (cmpS l[l.length - 1].a l[l.length - 1].t l[l.length - 1].n a t n ≤ 0) := by
  have hL : (0 < cmpS l[l.length - 1].a l[l.length - 1].t l[l.length - 1].n a t n) ↔ cmpS a t n l[l.length - 1].a l[l.length - 1].t l[l.length - 1].n < 0 := by
    rw [after_iff, before_iff]
    omega
  by_cases hc : cmpS l[l.length - 1].a l[l.length - 1].t l[l.length - 1].n a t n ≤ 0
  · rw [decide_eq_true hc, List.all_eq_true]
    intro v hv
    obtain ⟨i, hi, rfl⟩ := List.getElem_of_mem hv
    simp only [Bool.not_eq_true', decide_eq_false_iff_not]
    intro hlt
    rcases Nat.lt_or_ge i (l.length - 1) with h2 | h2
    · have := cmpS_trans hlt (chain_lt h i (l.length - 1) h2 (by omega))
      omega
    · have e : i = l.length - 1 := by omega
      subst e
      omega
  · rw [decide_eq_false hc, List.all_eq_false]
    exact ⟨l[l.length - 1], List.getElem_mem _, by simp; omega⟩
end Go.Proofs.YtkoligiilieboaaGreatDoor
namespace Go.Proofs.YtkoligiilieboaaGreatDoor
open Go.RowKit
attribute [local go_sem] ByteArray.mk_append_mk ByteArray.extract_mk
attribute [local go_sem ↓] Go.wp_at_zero Go.wp_at_succ
theorem dnum_any (z : Int) (h : z ≤ 9223372036854775807) (w : World) :
    Calls Tryz.prog 52 #[.int .i64 z] w fun e w' => e = .returned (.string ⟨((putI z).1).toArray⟩) ∧ Below w.heap.size w w' := by
  go_enter Tryz.func52, Tryz.ntmps52
  go_wp2_with fail
  refine (refput_int z h w).mono ?_
  rintro e w1 ⟨rfl, hb1⟩
  go_wp2
  go_ret
  exact ⟨rfl, hb1⟩
theorem dtext_any (l : List UInt8) (h : l.length ≤ 281474976710656) (w : World) :
    Calls Tryz.prog 53 #[.string ⟨l.toArray⟩] w fun e w' => e = .returned (.string ⟨(textL l).toArray⟩) ∧ Below w.heap.size w w' := by
  go_enter Tryz.func53, Tryz.ntmps53
  go_wp2_with fail
  refine (reftext_any l h w).mono ?_
  rintro e w1 ⟨rfl, hb1⟩
  go_wp2
  go_ret
  exact ⟨rfl, hb1⟩
theorem dflag_any (on : Bool) (w : World) :
    Calls Tryz.prog 55 #[.bool on] w fun e w' => e = .returned (.string ⟨(flagL on).toArray⟩) ∧ Below w.heap.size w w' := by
  go_enter Tryz.func55, Tryz.ntmps55
  go_wp2_with fail
  refine (refflag_any on w).mono ?_
  rintro e w1 ⟨rfl, hb1⟩
  go_wp2
  go_ret
  exact ⟨rfl, hb1⟩
theorem dstamp_any (a t n : Int) (hq : rightB a t n = true) (w : World) :
    Calls Tryz.prog 54 #[stampV a t n] w fun e w' => e = .returned (.string ⟨(stampB (a, t, n)).toArray⟩) ∧ Below w.heap.size w w' := by
  have HQ := Lib.hid hq
  clear hq
  go_enter Tryz.func54, Tryz.ntmps54
  go_wp2_with fail
  refine (refstbytes_any a t n HQ.out _).mono ?_
  rintro e w1 ⟨rfl, hb1⟩
  rw [← right_bytes HQ.out]
  go_wp2
  go_ret
  exact ⟨rfl, bt (bal (b0 w) _) hb1⟩
section
variable {P : Program} {w w1 : World}
theorem yif_cat {ops : Array Oper} {S : World → Prop} {op : Oper} {a : Act} (hw : Region.wanted op (yielded ops a.tmps) = true) (t u : TypeId) (x y : Operand) (ho : op.op = .binOp .add t x y u)
    (l m : List UInt8) (hx : a.eval x = .string ⟨l.toArray⟩) (hy : a.eval y = .string ⟨m.toArray⟩) (hl : l.length + m.length ≤ 9223372036854775807) : YieldsIf P ops S op (.string ⟨(l ++ m).toArray⟩) a :=
  .inl ⟨hw, fun w _ => by
    have hsz : ¬ (9223372036854775807 < (l.length : Int) + (m.length : Int)) := by omega
    unfold execOp
    simp only [ho, hx, hy]
    simp [Go.binOp, Op.stringOp, ByteArray.mk_append_mk, hsz, go_sem, size_mkL]⟩
end
end Go.Proofs.YtkoligiilieboaaGreatDoor
