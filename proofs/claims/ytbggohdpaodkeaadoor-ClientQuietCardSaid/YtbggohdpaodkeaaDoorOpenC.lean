/- Structs that come in, opened field by field. -/
import Derived.Test.YtbggohdpaodkeaaDoorPl
import Derived.Test.YtbggohdpaodkeaaDoorCli
import Derived.Test.YtbggohdpaodkeaaDoorProg
namespace Go.Proofs.YtbggohdpaodkeaaDoor
open Go.ChangeShapes Go.WideShapes Go.ChangeAt Go.RowKit Go.Deep
theorem size_mkL (l : List UInt8) : (⟨l.toArray⟩ : ByteArray).size = l.length := by show l.toArray.size = _; simp
/-- an int that a machine can hold -/
def iok (n : Int) : Prop := (Lit.int .i64 n).wf = true
theorem dsplit {α : Type} (l : List α) (o s q : Nat) (h : o + s = q) : (List.drop o l).take s ++ List.drop q l = List.drop o l := by
  subst h
  rw [← List.drop_drop, List.take_append_drop]
section
variable {H : Type} {enc : TypeId × Value → H} {w : World} {held : Bool}
theorem open_rows2 {P : Program} {α : Type} [Inhabited α] (cs : α → List Value) (s : Nat) (ok : α → Prop) {t e : TypeId} {cl : List Value} {fuel : Nat} {y : DataW H × List MemPlace} (ht : P.underlying t = some (.slice e)) (hc : P.cellsOf e = s) (hs : 0 < s)
    (hcs : ∀ x, (cs x).length = s)
    (hopen : ∀ (n : Nat) (l : List Value) (y : DataW H × List MemPlace), DataW.trod enc P w 0 (fun _ => true) held n e l = some y → ∃ x : α, l = cs x ∧ ok x)
    (hf : DataW.trod enc P w 0 (fun _ => true) held fuel t cl = some y) :
    ∃ (A : Option Addr) (n cap : Nat) (xs : List α), cl = [.slice A n cap] ∧ xs.length = n ∧ n ≤ 9223372036854775807 ∧ n ≤ cap ∧ (∀ x ∈ xs, ok x) ∧ RdR cs s w w.heap.size A xs := by
  rcases open_slice ht hf with ⟨hcs2, _⟩ | ⟨a, len, cap', m, fl, D, Pl, hcs2, _, hl, hm, hmm, _, hx⟩
  · exact ⟨none, 0, 0, [], hcs2, rfl, by omega, by omega, (fun x hx => by cases hx), fun h => absurd h (by simp)⟩
  · simp only [if_true] at hmm
    have each : ∀ i, i < len → ∃ x : α, ok x ∧ ∀ j u, (cs x)[j]? = some u → w.cell? (a.add (i * s + j)) = some u := fun i hi => by
      obtain ⟨l, hc1, ht1⟩ := hx i (by omega)
      obtain ⟨x, hl2, ho⟩ := hopen _ _ _ ht1
      refine ⟨x, ho, fun j u hu => ?_⟩
      obtain ⟨_, hcl, hat⟩ := World.cells?_some hc1
      have hj : j < s := by
        have := (List.getElem?_eq_some_iff.1 hu).1
        rw [hcs x] at this
        exact this
      have h2 := hat j (by rw [hc]; exact hj)
      rw [hc, Go.Deep.add_add] at h2
      rw [h2, hl2]
      exact hu
    obtain ⟨X, hX⟩ := choose_lt each
    refine ⟨some a, len, cap', (List.range len).map X, hcs2, by simp, by unfold maxLen at hm; omega, hl, fun x hx2 => ?_, fun hn => ?_⟩
    · obtain ⟨i, hi, rfl⟩ := List.mem_map.1 hx2
      exact (hX i (List.mem_range.1 hi)).1
    · have hn : 0 < len := by simpa using hn
      have h0 := (hX 0 hn).2 0
      have hlen := hcs (X 0)
      have hc0 := h0 _ (List.getElem?_eq_getElem (by omega))
      obtain ⟨b, off, spot⟩ := a
      have hspot : spot = none := by simpa [Addr.add] using World.cell?_spot hc0
      subst hspot
      refine ⟨b, off, rfl, ?_, fun k hk j u hu => ?_⟩
      · have := cell_lt2 hc0
        simpa [Addr.add] using this
      · have hk : k < len := by simpa using hk
        have h2 := (hX k hk).2 j u (by simpa using hu)
        have ha : (⟨b, off, none⟩ : Addr).add (k * s + j) = ⟨b, off + (k * s + j), none⟩ := by unfold Addr.add; split <;> simp_all
        rw [ha] at h2
        exact h2
theorem tr_ld {n : Nat} {l : List Value} {y : DataW H × List MemPlace} (h : DataW.trod enc Tryd.prog w 0 (fun _ => true) held n 3 l = some y) : ∃ x : Int, l = ldC x ∧ iok x := by
  obtain ⟨i, q, _, hw⟩ := DataW.trod_int Tryd.underlying3 h
  exact ⟨i, q, hw⟩
set_option maxRecDepth 100000 in
theorem tr_stamp {n : Nat} {l : List Value} {y : DataW H × List MemPlace} (h : DataW.trod enc Tryd.prog w 0 (fun _ => true) held n 25 l = some y) : ∃ a b c : Int, l = [.int .i64 a, .int .i64 b, .int .i64 c] ∧ iok a ∧ iok b ∧ iok c := by
  obtain ⟨f0, f1, f2, hs, e0, e1, e2⟩ : ∃ f0 f1 f2 : Field, Tryd.prog.underlying 25 = some (.struct #[f0, f1, f2]) ∧ (f0.type = 3 ∧ f0.offset = 0) ∧ (f1.type = 3 ∧ f1.offset = 1) ∧ (f2.type = 3 ∧ f2.offset = 2) := ⟨_, _, _, Tryd.underlying25, ⟨rfl, rfl⟩, ⟨rfl, rfl⟩, ⟨rfl, rfl⟩⟩
  obtain ⟨xs, m, _, _, hlen, hxs, hf⟩ := DataW.trod_struct hs h
  rw [show Tryd.prog.cellsOf 25 = 3 by kernel_rfl] at hlen
  have hxs : xs.length = 3 := hxs
  clear h hs
  have hl : l = (List.drop 0 l).take 1 ++ ((List.drop 1 l).take 1 ++ ((List.drop 2 l).take 1 ++ (List.drop 3 l))) := by
    rw [dsplit l 2 1 3 rfl, dsplit l 1 1 2 rfl, dsplit l 0 1 1 rfl, List.drop_zero]
  rw [List.drop_of_length_le (Nat.le_of_eq hlen)] at hl
  have h0 := hf 0 f0 rfl
  rw [e0.1, e0.2, show Tryd.prog.cellsOf 3 = 1 by kernel_rfl, List.getElem?_eq_getElem (show 0 < xs.length by omega)] at h0
  obtain ⟨i0, q0, _, w0⟩ := DataW.trod_int Tryd.underlying3 h0
  rw [q0] at hl
  have h1 := hf 1 f1 rfl
  rw [e1.1, e1.2, show Tryd.prog.cellsOf 3 = 1 by kernel_rfl, List.getElem?_eq_getElem (show 1 < xs.length by omega)] at h1
  obtain ⟨i1, q1, _, w1⟩ := DataW.trod_int Tryd.underlying3 h1
  rw [q1] at hl
  have h2 := hf 2 f2 rfl
  rw [e2.1, e2.2, show Tryd.prog.cellsOf 3 = 1 by kernel_rfl, List.getElem?_eq_getElem (show 2 < xs.length by omega)] at h2
  obtain ⟨i2, q2, _, w2⟩ := DataW.trod_int Tryd.underlying3 h2
  rw [q2] at hl
  exact ⟨i0, i1, i2, hl, w0, w1, w2⟩
set_option maxRecDepth 100000 in
theorem tr_span {n : Nat} {l : List Value} {y : DataW H × List MemPlace} (h : DataW.trod enc Tryd.prog w 0 (fun _ => true) held n 57 l = some y) : ∃ a b : List UInt8, l = [.string ⟨a.toArray⟩, .string ⟨b.toArray⟩] ∧ a.length ≤ 9223372036854775807 ∧ b.length ≤ 9223372036854775807 := by
  obtain ⟨f0, f1, hs, e0, e1⟩ : ∃ f0 f1 : Field, Tryd.prog.underlying 57 = some (.struct #[f0, f1]) ∧ (f0.type = 9 ∧ f0.offset = 0) ∧ (f1.type = 9 ∧ f1.offset = 1) := ⟨_, _, Tryd.underlying57, ⟨rfl, rfl⟩, ⟨rfl, rfl⟩⟩
  obtain ⟨xs, m, _, _, hlen, hxs, hf⟩ := DataW.trod_struct hs h
  rw [show Tryd.prog.cellsOf 57 = 2 by kernel_rfl] at hlen
  have hxs : xs.length = 2 := hxs
  clear h hs
  have hl : l = (List.drop 0 l).take 1 ++ ((List.drop 1 l).take 1 ++ (List.drop 2 l)) := by
    rw [dsplit l 1 1 2 rfl, dsplit l 0 1 1 rfl, List.drop_zero]
  rw [List.drop_of_length_le (Nat.le_of_eq hlen)] at hl
  have h0 := hf 0 f0 rfl
  rw [e0.1, e0.2, show Tryd.prog.cellsOf 9 = 1 by kernel_rfl, List.getElem?_eq_getElem (show 0 < xs.length by omega)] at h0
  obtain ⟨s0, q0, _, w0⟩ := DataW.trod_string Tryd.underlying9 h0
  rw [q0] at hl
  obtain ⟨l0, rfl⟩ : ∃ l : List UInt8, s0 = ⟨l.toArray⟩ := ⟨s0.data.toList, by cases s0; simp⟩
  rw [size_mkL] at w0
  have h1 := hf 1 f1 rfl
  rw [e1.1, e1.2, show Tryd.prog.cellsOf 9 = 1 by kernel_rfl, List.getElem?_eq_getElem (show 1 < xs.length by omega)] at h1
  obtain ⟨s1, q1, _, w1⟩ := DataW.trod_string Tryd.underlying9 h1
  rw [q1] at hl
  obtain ⟨l1, rfl⟩ : ∃ l : List UInt8, s1 = ⟨l.toArray⟩ := ⟨s1.data.toList, by cases s1; simp⟩
  rw [size_mkL] at w1
  exact ⟨l0, l1, hl, w0, w1⟩
set_option maxRecDepth 100000 in
theorem tr_pl {n : Nat} {l : List Value} {y : DataW H × List MemPlace} (h : DataW.trod enc Tryd.prog w 0 (fun _ => true) held n 59 l = some y) : ∃ p : Pl, l = plC p ∧ plOk p := by
  obtain ⟨f0, f1, f2, f3, hs, e0, e1, e2, e3⟩ : ∃ f0 f1 f2 f3 : Field, Tryd.prog.underlying 59 = some (.struct #[f0, f1, f2, f3]) ∧ (f0.type = 57 ∧ f0.offset = 0) ∧ (f1.type = 3 ∧ f1.offset = 2) ∧ (f2.type = 3 ∧ f2.offset = 3) ∧ (f3.type = 3 ∧ f3.offset = 4) := ⟨_, _, _, _, Tryd.underlying59, ⟨rfl, rfl⟩, ⟨rfl, rfl⟩, ⟨rfl, rfl⟩, ⟨rfl, rfl⟩⟩
  obtain ⟨xs, m, _, _, hlen, hxs, hf⟩ := DataW.trod_struct hs h
  rw [show Tryd.prog.cellsOf 59 = 5 by kernel_rfl] at hlen
  have hxs : xs.length = 4 := hxs
  clear h hs
  have hl : l = (List.drop 0 l).take 2 ++ ((List.drop 2 l).take 1 ++ ((List.drop 3 l).take 1 ++ ((List.drop 4 l).take 1 ++ (List.drop 5 l)))) := by
    rw [dsplit l 4 1 5 rfl, dsplit l 3 1 4 rfl, dsplit l 2 1 3 rfl, dsplit l 0 2 2 rfl, List.drop_zero]
  rw [List.drop_of_length_le (Nat.le_of_eq hlen)] at hl
  have h0 := hf 0 f0 rfl
  rw [e0.1, e0.2, show Tryd.prog.cellsOf 57 = 2 by kernel_rfl, List.getElem?_eq_getElem (show 0 < xs.length by omega)] at h0
  obtain ⟨ua0, ub0, q0, w0⟩ := tr_span h0
  rw [q0] at hl
  have h1 := hf 1 f1 rfl
  rw [e1.1, e1.2, show Tryd.prog.cellsOf 3 = 1 by kernel_rfl, List.getElem?_eq_getElem (show 1 < xs.length by omega)] at h1
  obtain ⟨i1, q1, _, w1⟩ := DataW.trod_int Tryd.underlying3 h1
  rw [q1] at hl
  have h2 := hf 2 f2 rfl
  rw [e2.1, e2.2, show Tryd.prog.cellsOf 3 = 1 by kernel_rfl, List.getElem?_eq_getElem (show 2 < xs.length by omega)] at h2
  obtain ⟨i2, q2, _, w2⟩ := DataW.trod_int Tryd.underlying3 h2
  rw [q2] at hl
  have h3 := hf 3 f3 rfl
  rw [e3.1, e3.2, show Tryd.prog.cellsOf 3 = 1 by kernel_rfl, List.getElem?_eq_getElem (show 3 < xs.length by omega)] at h3
  obtain ⟨i3, q3, _, w3⟩ := DataW.trod_int Tryd.underlying3 h3
  rw [q3] at hl
  exact ⟨⟨ua0, ub0, i1, i2, i3⟩, hl, w0⟩
def rqOk (r : Rq) : Prop := iok r.cl ∧ iok r.rq ∧ iok r.kd ∧ iok r.lim ∧ (iok r.a ∧ iok r.t ∧ iok r.n) ∧ r.ky.length ≤ 9223372036854775807 ∧ r.vl.length ≤ 9223372036854775807 ∧ r.old.length ≤ 9223372036854775807 ∧ r.hi.length ≤ 9223372036854775807
set_option maxRecDepth 100000 in
theorem tr_rq {n : Nat} {l : List Value} {y : DataW H × List MemPlace} (h : DataW.trod enc Tryd.prog w 0 (fun _ => true) held n 27 l = some y) : ∃ r : Rq, l = (rqA r).toList ∧ rqOk r := by
  obtain ⟨f0, f1, f2, f3, f4, f5, f6, f7, f8, f9, hs, e0, e1, e2, e3, e4, e5, e6, e7, e8, e9⟩ : ∃ f0 f1 f2 f3 f4 f5 f6 f7 f8 f9 : Field, Tryd.prog.underlying 27 = some (.struct #[f0, f1, f2, f3, f4, f5, f6, f7, f8, f9]) ∧ (f0.type = 3 ∧ f0.offset = 0) ∧ (f1.type = 3 ∧ f1.offset = 1) ∧ (f2.type = 3 ∧ f2.offset = 2) ∧ (f3.type = 9 ∧ f3.offset = 3) ∧ (f4.type = 9 ∧ f4.offset = 4) ∧ (f5.type = 4 ∧ f5.offset = 5) ∧ (f6.type = 9 ∧ f6.offset = 6) ∧ (f7.type = 25 ∧ f7.offset = 7) ∧ (f8.type = 9 ∧ f8.offset = 10) ∧ (f9.type = 3 ∧ f9.offset = 11) := ⟨_, _, _, _, _, _, _, _, _, _, Tryd.underlying27, ⟨rfl, rfl⟩, ⟨rfl, rfl⟩, ⟨rfl, rfl⟩, ⟨rfl, rfl⟩, ⟨rfl, rfl⟩, ⟨rfl, rfl⟩, ⟨rfl, rfl⟩, ⟨rfl, rfl⟩, ⟨rfl, rfl⟩, ⟨rfl, rfl⟩⟩
  obtain ⟨xs, m, _, _, hlen, hxs, hf⟩ := DataW.trod_struct hs h
  rw [show Tryd.prog.cellsOf 27 = 12 by kernel_rfl] at hlen
  have hxs : xs.length = 10 := hxs
  clear h hs
  have hl : l = (List.drop 0 l).take 1 ++ ((List.drop 1 l).take 1 ++ ((List.drop 2 l).take 1 ++ ((List.drop 3 l).take 1 ++ ((List.drop 4 l).take 1 ++ ((List.drop 5 l).take 1 ++ ((List.drop 6 l).take 1 ++ ((List.drop 7 l).take 3 ++ ((List.drop 10 l).take 1 ++ ((List.drop 11 l).take 1 ++ (List.drop 12 l)))))))))) := by
    rw [dsplit l 11 1 12 rfl, dsplit l 10 1 11 rfl, dsplit l 7 3 10 rfl, dsplit l 6 1 7 rfl, dsplit l 5 1 6 rfl, dsplit l 4 1 5 rfl, dsplit l 3 1 4 rfl, dsplit l 2 1 3 rfl, dsplit l 1 1 2 rfl, dsplit l 0 1 1 rfl, List.drop_zero]
  rw [List.drop_of_length_le (Nat.le_of_eq hlen)] at hl
  have h0 := hf 0 f0 rfl
  rw [e0.1, e0.2, show Tryd.prog.cellsOf 3 = 1 by kernel_rfl, List.getElem?_eq_getElem (show 0 < xs.length by omega)] at h0
  obtain ⟨i0, q0, _, w0⟩ := DataW.trod_int Tryd.underlying3 h0
  rw [q0] at hl
  have h1 := hf 1 f1 rfl
  rw [e1.1, e1.2, show Tryd.prog.cellsOf 3 = 1 by kernel_rfl, List.getElem?_eq_getElem (show 1 < xs.length by omega)] at h1
  obtain ⟨i1, q1, _, w1⟩ := DataW.trod_int Tryd.underlying3 h1
  rw [q1] at hl
  have h2 := hf 2 f2 rfl
  rw [e2.1, e2.2, show Tryd.prog.cellsOf 3 = 1 by kernel_rfl, List.getElem?_eq_getElem (show 2 < xs.length by omega)] at h2
  obtain ⟨i2, q2, _, w2⟩ := DataW.trod_int Tryd.underlying3 h2
  rw [q2] at hl
  have h3 := hf 3 f3 rfl
  rw [e3.1, e3.2, show Tryd.prog.cellsOf 9 = 1 by kernel_rfl, List.getElem?_eq_getElem (show 3 < xs.length by omega)] at h3
  obtain ⟨s3, q3, _, w3⟩ := DataW.trod_string Tryd.underlying9 h3
  rw [q3] at hl
  obtain ⟨l3, rfl⟩ : ∃ l : List UInt8, s3 = ⟨l.toArray⟩ := ⟨s3.data.toList, by cases s3; simp⟩
  rw [size_mkL] at w3
  have h4 := hf 4 f4 rfl
  rw [e4.1, e4.2, show Tryd.prog.cellsOf 9 = 1 by kernel_rfl, List.getElem?_eq_getElem (show 4 < xs.length by omega)] at h4
  obtain ⟨s4, q4, _, w4⟩ := DataW.trod_string Tryd.underlying9 h4
  rw [q4] at hl
  obtain ⟨l4, rfl⟩ : ∃ l : List UInt8, s4 = ⟨l.toArray⟩ := ⟨s4.data.toList, by cases s4; simp⟩
  rw [size_mkL] at w4
  have h5 := hf 5 f5 rfl
  rw [e5.1, e5.2, show Tryd.prog.cellsOf 4 = 1 by kernel_rfl, List.getElem?_eq_getElem (show 5 < xs.length by omega)] at h5
  obtain ⟨b5, q5, _⟩ := DataW.trod_bool Tryd.underlying4 h5
  rw [q5] at hl
  have h6 := hf 6 f6 rfl
  rw [e6.1, e6.2, show Tryd.prog.cellsOf 9 = 1 by kernel_rfl, List.getElem?_eq_getElem (show 6 < xs.length by omega)] at h6
  obtain ⟨s6, q6, _, w6⟩ := DataW.trod_string Tryd.underlying9 h6
  rw [q6] at hl
  obtain ⟨l6, rfl⟩ : ∃ l : List UInt8, s6 = ⟨l.toArray⟩ := ⟨s6.data.toList, by cases s6; simp⟩
  rw [size_mkL] at w6
  have h7 := hf 7 f7 rfl
  rw [e7.1, e7.2, show Tryd.prog.cellsOf 25 = 3 by kernel_rfl, List.getElem?_eq_getElem (show 7 < xs.length by omega)] at h7
  obtain ⟨ua7, ub7, uc7, q7, w7⟩ := tr_stamp h7
  rw [q7] at hl
  have h8 := hf 8 f8 rfl
  rw [e8.1, e8.2, show Tryd.prog.cellsOf 9 = 1 by kernel_rfl, List.getElem?_eq_getElem (show 8 < xs.length by omega)] at h8
  obtain ⟨s8, q8, _, w8⟩ := DataW.trod_string Tryd.underlying9 h8
  rw [q8] at hl
  obtain ⟨l8, rfl⟩ : ∃ l : List UInt8, s8 = ⟨l.toArray⟩ := ⟨s8.data.toList, by cases s8; simp⟩
  rw [size_mkL] at w8
  have h9 := hf 9 f9 rfl
  rw [e9.1, e9.2, show Tryd.prog.cellsOf 3 = 1 by kernel_rfl, List.getElem?_eq_getElem (show 9 < xs.length by omega)] at h9
  obtain ⟨i9, q9, _, w9⟩ := DataW.trod_int Tryd.underlying3 h9
  rw [q9] at hl
  exact ⟨⟨i0, i1, i2, l3, l4, b5, l6, ua7, ub7, uc7, l8, i9⟩, hl, w0, w1, w2, w9, w7, w3, w4, w6, w8⟩
structure It where
  ky : List UInt8
  vl : List UInt8
instance : Inhabited It := ⟨⟨[], []⟩⟩
def itC (x : It) : List Value := [.string ⟨x.ky.toArray⟩, .string ⟨x.vl.toArray⟩]
def itOk (x : It) : Prop := x.ky.length ≤ 9223372036854775807 ∧ x.vl.length ≤ 9223372036854775807
set_option maxRecDepth 100000 in
theorem tr_it {n : Nat} {l : List Value} {y : DataW H × List MemPlace} (h : DataW.trod enc Tryd.prog w 0 (fun _ => true) held n 109 l = some y) : ∃ x : It, l = itC x ∧ itOk x := by
  obtain ⟨f0, f1, hs, e0, e1⟩ : ∃ f0 f1 : Field, Tryd.prog.underlying 109 = some (.struct #[f0, f1]) ∧ (f0.type = 9 ∧ f0.offset = 0) ∧ (f1.type = 9 ∧ f1.offset = 1) := ⟨_, _, Tryd.underlying109, ⟨rfl, rfl⟩, ⟨rfl, rfl⟩⟩
  obtain ⟨xs, m, _, _, hlen, hxs, hf⟩ := DataW.trod_struct hs h
  rw [show Tryd.prog.cellsOf 109 = 2 by kernel_rfl] at hlen
  have hxs : xs.length = 2 := hxs
  clear h hs
  have hl : l = (List.drop 0 l).take 1 ++ ((List.drop 1 l).take 1 ++ (List.drop 2 l)) := by
    rw [dsplit l 1 1 2 rfl, dsplit l 0 1 1 rfl, List.drop_zero]
  rw [List.drop_of_length_le (Nat.le_of_eq hlen)] at hl
  have h0 := hf 0 f0 rfl
  rw [e0.1, e0.2, show Tryd.prog.cellsOf 9 = 1 by kernel_rfl, List.getElem?_eq_getElem (show 0 < xs.length by omega)] at h0
  obtain ⟨s0, q0, _, w0⟩ := DataW.trod_string Tryd.underlying9 h0
  rw [q0] at hl
  obtain ⟨l0, rfl⟩ : ∃ l : List UInt8, s0 = ⟨l.toArray⟩ := ⟨s0.data.toList, by cases s0; simp⟩
  rw [size_mkL] at w0
  have h1 := hf 1 f1 rfl
  rw [e1.1, e1.2, show Tryd.prog.cellsOf 9 = 1 by kernel_rfl, List.getElem?_eq_getElem (show 1 < xs.length by omega)] at h1
  obtain ⟨s1, q1, _, w1⟩ := DataW.trod_string Tryd.underlying9 h1
  rw [q1] at hl
  obtain ⟨l1, rfl⟩ : ∃ l : List UInt8, s1 = ⟨l.toArray⟩ := ⟨s1.data.toList, by cases s1; simp⟩
  rw [size_mkL] at w1
  exact ⟨⟨l0, l1⟩, hl, w0, w1⟩
/-- what is known of a slice that lies in a struct -/
def SlOk {α : Type} (cs : α → List Value) (s : Nat) (ok : α → Prop) (w : World) (A : Option Addr) (n cap : Nat) (xs : List α) : Prop := xs.length = n ∧ n ≤ 9223372036854775807 ∧ n ≤ cap ∧ (∀ x ∈ xs, ok x) ∧ RdR cs s w w.heap.size A xs
def anOk (r : An) : Prop := iok r.er ∧ (iok r.a ∧ iok r.t ∧ iok r.n) ∧ r.vl.length ≤ 9223372036854775807 ∧ r.nx.length ≤ 9223372036854775807
set_option maxRecDepth 100000 in
theorem tr_an {n : Nat} {l : List Value} {y : DataW H × List MemPlace} (h : DataW.trod enc Tryd.prog w 0 (fun _ => true) held n 33 l = some y) : ∃ (r : An) (its : List It), l = (anA r).toList ∧ anOk r ∧ SlOk itC 2 itOk w r.itA r.itn r.itc its := by
  obtain ⟨f0, f1, f2, f3, f4, f5, f6, hs, e0, e1, e2, e3, e4, e5, e6⟩ : ∃ f0 f1 f2 f3 f4 f5 f6 : Field, Tryd.prog.underlying 33 = some (.struct #[f0, f1, f2, f3, f4, f5, f6]) ∧ (f0.type = 30 ∧ f0.offset = 0) ∧ (f1.type = 25 ∧ f1.offset = 1) ∧ (f2.type = 4 ∧ f2.offset = 4) ∧ (f3.type = 9 ∧ f3.offset = 5) ∧ (f4.type = 31 ∧ f4.offset = 6) ∧ (f5.type = 9 ∧ f5.offset = 7) ∧ (f6.type = 4 ∧ f6.offset = 8) := ⟨_, _, _, _, _, _, _, Tryd.underlying33, ⟨rfl, rfl⟩, ⟨rfl, rfl⟩, ⟨rfl, rfl⟩, ⟨rfl, rfl⟩, ⟨rfl, rfl⟩, ⟨rfl, rfl⟩, ⟨rfl, rfl⟩⟩
  obtain ⟨xs, m, _, _, hlen, hxs, hf⟩ := DataW.trod_struct hs h
  rw [show Tryd.prog.cellsOf 33 = 9 by kernel_rfl] at hlen
  have hxs : xs.length = 7 := hxs
  clear h hs
  have hl : l = (List.drop 0 l).take 1 ++ ((List.drop 1 l).take 3 ++ ((List.drop 4 l).take 1 ++ ((List.drop 5 l).take 1 ++ ((List.drop 6 l).take 1 ++ ((List.drop 7 l).take 1 ++ ((List.drop 8 l).take 1 ++ (List.drop 9 l))))))) := by
    rw [dsplit l 8 1 9 rfl, dsplit l 7 1 8 rfl, dsplit l 6 1 7 rfl, dsplit l 5 1 6 rfl, dsplit l 4 1 5 rfl, dsplit l 1 3 4 rfl, dsplit l 0 1 1 rfl, List.drop_zero]
  rw [List.drop_of_length_le (Nat.le_of_eq hlen)] at hl
  have h0 := hf 0 f0 rfl
  rw [e0.1, e0.2, show Tryd.prog.cellsOf 30 = 1 by kernel_rfl, List.getElem?_eq_getElem (show 0 < xs.length by omega)] at h0
  obtain ⟨i0, q0, _, w0⟩ := DataW.trod_int Tryd.underlying30 h0
  rw [q0] at hl
  have h1 := hf 1 f1 rfl
  rw [e1.1, e1.2, show Tryd.prog.cellsOf 25 = 3 by kernel_rfl, List.getElem?_eq_getElem (show 1 < xs.length by omega)] at h1
  obtain ⟨ua1, ub1, uc1, q1, w1⟩ := tr_stamp h1
  rw [q1] at hl
  have h2 := hf 2 f2 rfl
  rw [e2.1, e2.2, show Tryd.prog.cellsOf 4 = 1 by kernel_rfl, List.getElem?_eq_getElem (show 2 < xs.length by omega)] at h2
  obtain ⟨b2, q2, _⟩ := DataW.trod_bool Tryd.underlying4 h2
  rw [q2] at hl
  have h3 := hf 3 f3 rfl
  rw [e3.1, e3.2, show Tryd.prog.cellsOf 9 = 1 by kernel_rfl, List.getElem?_eq_getElem (show 3 < xs.length by omega)] at h3
  obtain ⟨s3, q3, _, w3⟩ := DataW.trod_string Tryd.underlying9 h3
  rw [q3] at hl
  obtain ⟨l3, rfl⟩ : ∃ l : List UInt8, s3 = ⟨l.toArray⟩ := ⟨s3.data.toList, by cases s3; simp⟩
  rw [size_mkL] at w3
  have h4 := hf 4 f4 rfl
  rw [e4.1, e4.2, show Tryd.prog.cellsOf 31 = 1 by kernel_rfl, List.getElem?_eq_getElem (show 4 < xs.length by omega)] at h4
  obtain ⟨A4, n4, k4, xs4, q4, z4⟩ := open_rows2 itC 2 itOk Tryd.underlying31 (by kernel_rfl) (by omega) (fun _ => rfl) (fun _ _ _ h => tr_it h) h4
  rw [q4] at hl
  have h5 := hf 5 f5 rfl
  rw [e5.1, e5.2, show Tryd.prog.cellsOf 9 = 1 by kernel_rfl, List.getElem?_eq_getElem (show 5 < xs.length by omega)] at h5
  obtain ⟨s5, q5, _, w5⟩ := DataW.trod_string Tryd.underlying9 h5
  rw [q5] at hl
  obtain ⟨l5, rfl⟩ : ∃ l : List UInt8, s5 = ⟨l.toArray⟩ := ⟨s5.data.toList, by cases s5; simp⟩
  rw [size_mkL] at w5
  have h6 := hf 6 f6 rfl
  rw [e6.1, e6.2, show Tryd.prog.cellsOf 4 = 1 by kernel_rfl, List.getElem?_eq_getElem (show 6 < xs.length by omega)] at h6
  obtain ⟨b6, q6, _⟩ := DataW.trod_bool Tryd.underlying4 h6
  rw [q6] at hl
  exact ⟨⟨i0, ua1, ub1, uc1, b2, l3, A4, n4, k4, l5, b6⟩, xs4, hl, ⟨w0, w1, w3, w5⟩, z4⟩
def cliOk (c : Cli) : Prop := iok c.id ∧ iok c.nx ∧ rqOk c.req ∧ iok c.tr
set_option maxRecDepth 100000 in
theorem tr_cli {n : Nat} {l : List Value} {y : DataW H × List MemPlace} (h : DataW.trod enc Tryd.prog w 0 (fun _ => true) held n 29 l = some y) : ∃ (c : Cli) (ps : List Pl) (ls : List Int), l = (cliA c).toList ∧ cliOk c ∧ SlOk plC 5 plOk w c.pA c.pn c.pc ps ∧ SlOk ldC 1 iok w c.lA c.ln c.lc ls := by
  obtain ⟨f0, f1, f2, f3, f4, f5, f6, hs, e0, e1, e2, e3, e4, e5, e6⟩ : ∃ f0 f1 f2 f3 f4 f5 f6 : Field, Tryd.prog.underlying 29 = some (.struct #[f0, f1, f2, f3, f4, f5, f6]) ∧ (f0.type = 3 ∧ f0.offset = 0) ∧ (f1.type = 3 ∧ f1.offset = 1) ∧ (f2.type = 22 ∧ f2.offset = 2) ∧ (f3.type = 23 ∧ f3.offset = 3) ∧ (f4.type = 27 ∧ f4.offset = 4) ∧ (f5.type = 4 ∧ f5.offset = 16) ∧ (f6.type = 3 ∧ f6.offset = 17) := ⟨_, _, _, _, _, _, _, Tryd.underlying29, ⟨rfl, rfl⟩, ⟨rfl, rfl⟩, ⟨rfl, rfl⟩, ⟨rfl, rfl⟩, ⟨rfl, rfl⟩, ⟨rfl, rfl⟩, ⟨rfl, rfl⟩⟩
  obtain ⟨xs, m, _, _, hlen, hxs, hf⟩ := DataW.trod_struct hs h
  rw [show Tryd.prog.cellsOf 29 = 18 by kernel_rfl] at hlen
  have hxs : xs.length = 7 := hxs
  clear h hs
  have hl : l = (List.drop 0 l).take 1 ++ ((List.drop 1 l).take 1 ++ ((List.drop 2 l).take 1 ++ ((List.drop 3 l).take 1 ++ ((List.drop 4 l).take 12 ++ ((List.drop 16 l).take 1 ++ ((List.drop 17 l).take 1 ++ (List.drop 18 l))))))) := by
    rw [dsplit l 17 1 18 rfl, dsplit l 16 1 17 rfl, dsplit l 4 12 16 rfl, dsplit l 3 1 4 rfl, dsplit l 2 1 3 rfl, dsplit l 1 1 2 rfl, dsplit l 0 1 1 rfl, List.drop_zero]
  rw [List.drop_of_length_le (Nat.le_of_eq hlen)] at hl
  have h0 := hf 0 f0 rfl
  rw [e0.1, e0.2, show Tryd.prog.cellsOf 3 = 1 by kernel_rfl, List.getElem?_eq_getElem (show 0 < xs.length by omega)] at h0
  obtain ⟨i0, q0, _, w0⟩ := DataW.trod_int Tryd.underlying3 h0
  rw [q0] at hl
  have h1 := hf 1 f1 rfl
  rw [e1.1, e1.2, show Tryd.prog.cellsOf 3 = 1 by kernel_rfl, List.getElem?_eq_getElem (show 1 < xs.length by omega)] at h1
  obtain ⟨i1, q1, _, w1⟩ := DataW.trod_int Tryd.underlying3 h1
  rw [q1] at hl
  have h2 := hf 2 f2 rfl
  rw [e2.1, e2.2, show Tryd.prog.cellsOf 22 = 1 by kernel_rfl, List.getElem?_eq_getElem (show 2 < xs.length by omega)] at h2
  obtain ⟨A2, n2, k2, xs2, q2, z2⟩ := open_rows2 plC 5 plOk Tryd.underlying22 (by kernel_rfl) (by omega) (fun _ => rfl) (fun _ _ _ h => tr_pl h) h2
  rw [q2] at hl
  have h3 := hf 3 f3 rfl
  rw [e3.1, e3.2, show Tryd.prog.cellsOf 23 = 1 by kernel_rfl, List.getElem?_eq_getElem (show 3 < xs.length by omega)] at h3
  obtain ⟨A3, n3, k3, xs3, q3, z3⟩ := open_rows2 ldC 1 iok Tryd.underlying23 (by kernel_rfl) (by omega) (fun _ => rfl) (fun _ _ _ h => tr_ld h) h3
  rw [q3] at hl
  have h4 := hf 4 f4 rfl
  rw [e4.1, e4.2, show Tryd.prog.cellsOf 27 = 12 by kernel_rfl, List.getElem?_eq_getElem (show 4 < xs.length by omega)] at h4
  obtain ⟨r4, q4, w4⟩ := tr_rq h4
  rw [q4] at hl
  have h5 := hf 5 f5 rfl
  rw [e5.1, e5.2, show Tryd.prog.cellsOf 4 = 1 by kernel_rfl, List.getElem?_eq_getElem (show 5 < xs.length by omega)] at h5
  obtain ⟨b5, q5, _⟩ := DataW.trod_bool Tryd.underlying4 h5
  rw [q5] at hl
  have h6 := hf 6 f6 rfl
  rw [e6.1, e6.2, show Tryd.prog.cellsOf 3 = 1 by kernel_rfl, List.getElem?_eq_getElem (show 6 < xs.length by omega)] at h6
  obtain ⟨i6, q6, _, w6⟩ := DataW.trod_int Tryd.underlying3 h6
  rw [q6] at hl
  exact ⟨⟨i0, i1, A2, n2, k2, A3, n3, k3, r4, b5, i6⟩, xs2, xs3, hl, ⟨w0, w1, w4, w6⟩, z2, z3⟩
def msOk (m : Ms) : Prop := iok m.kind ∧ iok m.frm ∧ iok m.to ∧ iok m.shard ∧ iok m.epoch ∧ iok m.move ∧ iok m.lease ∧ iok m.num ∧ iok m.of ∧ (iok m.a ∧ iok m.t ∧ iok m.n) ∧ m.text.length ≤ 9223372036854775807 ∧ rqOk m.req ∧ anOk m.ans
set_option maxRecDepth 100000 in
theorem tr_ms {n : Nat} {l : List Value} {y : DataW H × List MemPlace} (h : DataW.trod enc Tryd.prog w 0 (fun _ => true) held n 35 l = some y) : ∃ (m : Ms) (its : List It) (ps : List Pl) (ls : List Int), l = (msA m).toList ∧ msOk m ∧ SlOk itC 2 itOk w m.ans.itA m.ans.itn m.ans.itc its ∧ SlOk plC 5 plOk w m.pA m.pn m.pc ps ∧ SlOk ldC 1 iok w m.mA m.mn m.mc ls := by
  obtain ⟨f0, f1, f2, f3, f4, f5, f6, f7, f8, f9, f10, f11, f12, f13, f14, hs, e0, e1, e2, e3, e4, e5, e6, e7, e8, e9, e10, e11, e12, e13, e14⟩ : ∃ f0 f1 f2 f3 f4 f5 f6 f7 f8 f9 f10 f11 f12 f13 f14 : Field, Tryd.prog.underlying 35 = some (.struct #[f0, f1, f2, f3, f4, f5, f6, f7, f8, f9, f10, f11, f12, f13, f14]) ∧ (f0.type = 3 ∧ f0.offset = 0) ∧ (f1.type = 3 ∧ f1.offset = 1) ∧ (f2.type = 3 ∧ f2.offset = 2) ∧ (f3.type = 3 ∧ f3.offset = 3) ∧ (f4.type = 3 ∧ f4.offset = 4) ∧ (f5.type = 3 ∧ f5.offset = 5) ∧ (f6.type = 3 ∧ f6.offset = 6) ∧ (f7.type = 3 ∧ f7.offset = 7) ∧ (f8.type = 3 ∧ f8.offset = 8) ∧ (f9.type = 25 ∧ f9.offset = 9) ∧ (f10.type = 9 ∧ f10.offset = 12) ∧ (f11.type = 27 ∧ f11.offset = 13) ∧ (f12.type = 33 ∧ f12.offset = 25) ∧ (f13.type = 22 ∧ f13.offset = 34) ∧ (f14.type = 23 ∧ f14.offset = 35) := ⟨_, _, _, _, _, _, _, _, _, _, _, _, _, _, _, Tryd.underlying35, ⟨rfl, rfl⟩, ⟨rfl, rfl⟩, ⟨rfl, rfl⟩, ⟨rfl, rfl⟩, ⟨rfl, rfl⟩, ⟨rfl, rfl⟩, ⟨rfl, rfl⟩, ⟨rfl, rfl⟩, ⟨rfl, rfl⟩, ⟨rfl, rfl⟩, ⟨rfl, rfl⟩, ⟨rfl, rfl⟩, ⟨rfl, rfl⟩, ⟨rfl, rfl⟩, ⟨rfl, rfl⟩⟩
  obtain ⟨xs, m, _, _, hlen, hxs, hf⟩ := DataW.trod_struct hs h
  rw [show Tryd.prog.cellsOf 35 = 36 by kernel_rfl] at hlen
  have hxs : xs.length = 15 := hxs
  clear h hs
  have hl : l = (List.drop 0 l).take 1 ++ ((List.drop 1 l).take 1 ++ ((List.drop 2 l).take 1 ++ ((List.drop 3 l).take 1 ++ ((List.drop 4 l).take 1 ++ ((List.drop 5 l).take 1 ++ ((List.drop 6 l).take 1 ++ ((List.drop 7 l).take 1 ++ ((List.drop 8 l).take 1 ++ ((List.drop 9 l).take 3 ++ ((List.drop 12 l).take 1 ++ ((List.drop 13 l).take 12 ++ ((List.drop 25 l).take 9 ++ ((List.drop 34 l).take 1 ++ ((List.drop 35 l).take 1 ++ (List.drop 36 l))))))))))))))) := by
    rw [dsplit l 35 1 36 rfl, dsplit l 34 1 35 rfl, dsplit l 25 9 34 rfl, dsplit l 13 12 25 rfl, dsplit l 12 1 13 rfl, dsplit l 9 3 12 rfl, dsplit l 8 1 9 rfl, dsplit l 7 1 8 rfl, dsplit l 6 1 7 rfl, dsplit l 5 1 6 rfl, dsplit l 4 1 5 rfl, dsplit l 3 1 4 rfl, dsplit l 2 1 3 rfl, dsplit l 1 1 2 rfl, dsplit l 0 1 1 rfl, List.drop_zero]
  rw [List.drop_of_length_le (Nat.le_of_eq hlen)] at hl
  have h0 := hf 0 f0 rfl
  rw [e0.1, e0.2, show Tryd.prog.cellsOf 3 = 1 by kernel_rfl, List.getElem?_eq_getElem (show 0 < xs.length by omega)] at h0
  obtain ⟨i0, q0, _, w0⟩ := DataW.trod_int Tryd.underlying3 h0
  rw [q0] at hl
  have h1 := hf 1 f1 rfl
  rw [e1.1, e1.2, show Tryd.prog.cellsOf 3 = 1 by kernel_rfl, List.getElem?_eq_getElem (show 1 < xs.length by omega)] at h1
  obtain ⟨i1, q1, _, w1⟩ := DataW.trod_int Tryd.underlying3 h1
  rw [q1] at hl
  have h2 := hf 2 f2 rfl
  rw [e2.1, e2.2, show Tryd.prog.cellsOf 3 = 1 by kernel_rfl, List.getElem?_eq_getElem (show 2 < xs.length by omega)] at h2
  obtain ⟨i2, q2, _, w2⟩ := DataW.trod_int Tryd.underlying3 h2
  rw [q2] at hl
  have h3 := hf 3 f3 rfl
  rw [e3.1, e3.2, show Tryd.prog.cellsOf 3 = 1 by kernel_rfl, List.getElem?_eq_getElem (show 3 < xs.length by omega)] at h3
  obtain ⟨i3, q3, _, w3⟩ := DataW.trod_int Tryd.underlying3 h3
  rw [q3] at hl
  have h4 := hf 4 f4 rfl
  rw [e4.1, e4.2, show Tryd.prog.cellsOf 3 = 1 by kernel_rfl, List.getElem?_eq_getElem (show 4 < xs.length by omega)] at h4
  obtain ⟨i4, q4, _, w4⟩ := DataW.trod_int Tryd.underlying3 h4
  rw [q4] at hl
  have h5 := hf 5 f5 rfl
  rw [e5.1, e5.2, show Tryd.prog.cellsOf 3 = 1 by kernel_rfl, List.getElem?_eq_getElem (show 5 < xs.length by omega)] at h5
  obtain ⟨i5, q5, _, w5⟩ := DataW.trod_int Tryd.underlying3 h5
  rw [q5] at hl
  have h6 := hf 6 f6 rfl
  rw [e6.1, e6.2, show Tryd.prog.cellsOf 3 = 1 by kernel_rfl, List.getElem?_eq_getElem (show 6 < xs.length by omega)] at h6
  obtain ⟨i6, q6, _, w6⟩ := DataW.trod_int Tryd.underlying3 h6
  rw [q6] at hl
  have h7 := hf 7 f7 rfl
  rw [e7.1, e7.2, show Tryd.prog.cellsOf 3 = 1 by kernel_rfl, List.getElem?_eq_getElem (show 7 < xs.length by omega)] at h7
  obtain ⟨i7, q7, _, w7⟩ := DataW.trod_int Tryd.underlying3 h7
  rw [q7] at hl
  have h8 := hf 8 f8 rfl
  rw [e8.1, e8.2, show Tryd.prog.cellsOf 3 = 1 by kernel_rfl, List.getElem?_eq_getElem (show 8 < xs.length by omega)] at h8
  obtain ⟨i8, q8, _, w8⟩ := DataW.trod_int Tryd.underlying3 h8
  rw [q8] at hl
  have h9 := hf 9 f9 rfl
  rw [e9.1, e9.2, show Tryd.prog.cellsOf 25 = 3 by kernel_rfl, List.getElem?_eq_getElem (show 9 < xs.length by omega)] at h9
  obtain ⟨ua9, ub9, uc9, q9, w9⟩ := tr_stamp h9
  rw [q9] at hl
  have h10 := hf 10 f10 rfl
  rw [e10.1, e10.2, show Tryd.prog.cellsOf 9 = 1 by kernel_rfl, List.getElem?_eq_getElem (show 10 < xs.length by omega)] at h10
  obtain ⟨s10, q10, _, w10⟩ := DataW.trod_string Tryd.underlying9 h10
  rw [q10] at hl
  obtain ⟨l10, rfl⟩ : ∃ l : List UInt8, s10 = ⟨l.toArray⟩ := ⟨s10.data.toList, by cases s10; simp⟩
  rw [size_mkL] at w10
  have h11 := hf 11 f11 rfl
  rw [e11.1, e11.2, show Tryd.prog.cellsOf 27 = 12 by kernel_rfl, List.getElem?_eq_getElem (show 11 < xs.length by omega)] at h11
  obtain ⟨r11, q11, w11⟩ := tr_rq h11
  rw [q11] at hl
  have h12 := hf 12 f12 rfl
  rw [e12.1, e12.2, show Tryd.prog.cellsOf 33 = 9 by kernel_rfl, List.getElem?_eq_getElem (show 12 < xs.length by omega)] at h12
  obtain ⟨r12, its12, q12, w12, z12⟩ := tr_an h12
  rw [q12] at hl
  have h13 := hf 13 f13 rfl
  rw [e13.1, e13.2, show Tryd.prog.cellsOf 22 = 1 by kernel_rfl, List.getElem?_eq_getElem (show 13 < xs.length by omega)] at h13
  obtain ⟨A13, n13, k13, xs13, q13, z13⟩ := open_rows2 plC 5 plOk Tryd.underlying22 (by kernel_rfl) (by omega) (fun _ => rfl) (fun _ _ _ h => tr_pl h) h13
  rw [q13] at hl
  have h14 := hf 14 f14 rfl
  rw [e14.1, e14.2, show Tryd.prog.cellsOf 23 = 1 by kernel_rfl, List.getElem?_eq_getElem (show 14 < xs.length by omega)] at h14
  obtain ⟨A14, n14, k14, xs14, q14, z14⟩ := open_rows2 ldC 1 iok Tryd.underlying23 (by kernel_rfl) (by omega) (fun _ => rfl) (fun _ _ _ h => tr_ld h) h14
  rw [q14] at hl
  exact ⟨⟨i0, i1, i2, i3, i4, i5, i6, i7, i8, ua9, ub9, uc9, l10, r11, r12, A13, n13, k13, A14, n14, k14⟩, its12, xs13, xs14, hl, ⟨w0, w1, w2, w3, w4, w5, w6, w7, w8, w9, w10, w11, w12⟩, z12, z13, z14⟩
theorem open_cli {r : Reach} {b0 : Nat} {v : Value} {d : DataW H} {p : List MemPlace} (hv : Value.okWide Tryd.prog w r b0 29 v) (h : DataW.Trod enc Tryd.prog w 0 (fun _ => true) held 29 v d p) : ∃ (c : Cli) (ps : List Pl) (ls : List Int), v = .agg (cliA c) ∧ cliOk c ∧ SlOk plC 5 plOk w c.pA c.pn c.pc ps ∧ SlOk ldC 1 iok w c.lA c.ln c.lc ls := by
  obtain ⟨cs', rfl, hsz⟩ := okWide_struct Tryd.underlying29 hv
  obtain ⟨fuel, hf⟩ := h
  have hf : DataW.trod enc Tryd.prog w 0 (fun _ => true) held fuel 29 cs'.toList = some (d, p) := hf
  obtain ⟨c, ps, ls, hl, h⟩ := tr_cli hf
  exact ⟨c, ps, ls, congrArg Value.agg (Array.toList_inj.1 hl), h⟩
theorem open_ms {r : Reach} {b0 : Nat} {v : Value} {d : DataW H} {p : List MemPlace} (hv : Value.okWide Tryd.prog w r b0 35 v) (h : DataW.Trod enc Tryd.prog w 0 (fun _ => true) held 35 v d p) : ∃ (m : Ms) (its : List It) (ps : List Pl) (ls : List Int), v = .agg (msA m) ∧ msOk m ∧ SlOk itC 2 itOk w m.ans.itA m.ans.itn m.ans.itc its ∧ SlOk plC 5 plOk w m.pA m.pn m.pc ps ∧ SlOk ldC 1 iok w m.mA m.mn m.mc ls := by
  obtain ⟨cs', rfl, hsz⟩ := okWide_struct Tryd.underlying35 hv
  obtain ⟨fuel, hf⟩ := h
  have hf : DataW.trod enc Tryd.prog w 0 (fun _ => true) held fuel 35 cs'.toList = some (d, p) := hf
  obtain ⟨m, its, ps, ls, hl, h⟩ := tr_ms hf
  exact ⟨m, its, ps, ls, congrArg Value.agg (Array.toList_inj.1 hl), h⟩
end
end Go.Proofs.YtbggohdpaodkeaaDoor
