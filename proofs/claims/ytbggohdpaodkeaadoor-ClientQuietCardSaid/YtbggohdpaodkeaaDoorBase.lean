/- Small lemmas that all walks use: bits on int, what a world keeps, results. -/
import Derived.WalkKit
import Derived.WalkLawsBesides
import Derived.WalkSpells
import Derived.Lib.Hide
import Derived.Laws.BitsAllLaws
import Derived.Laws.BitsLemmas
import Derived.Below
import Derived.IntWalk
import Derived.Laws.BytesArg
import Derived.OpenShut
namespace Go.Proofs.YtbggohdpaodkeaaDoor
open Go.RowKit
theorem ofInt_i64 (a : Nat) (ha : a < 9223372036854775808) : (BitVec.ofInt 64 (a : Int)).toNat = a := by
  rw [BitVec.ofInt_natCast, BitVec.toNat_ofNat]; exact Nat.mod_eq_of_lt (by omega)
theorem i64_and_nat (a b : Nat) (ha : a < 9223372036854775808) (hb : b < 9223372036854775808) : bits .and .i64 (a : Int) (b : Int) = ((a &&& b : Nat) : Int) := by
  have hx : a &&& b < 2 ^ 63 := Nat.and_lt_two_pow _ (by omega)
  show IntKind.i64.wrap ((BitVec.ofInt 64 (a : Int) &&& BitVec.ofInt 64 (b : Int)).toNat : Int) = _
  rw [BitVec.toNat_and, ofInt_i64 a ha, ofInt_i64 b hb, IntKind.wrap_i64]
  omega
theorem i64_or_nat (a b : Nat) (ha : a < 9223372036854775808) (hb : b < 9223372036854775808) : bits .or .i64 (a : Int) (b : Int) = ((a ||| b : Nat) : Int) := by
  have hx : a ||| b < 2 ^ 63 := Nat.or_lt_two_pow (by omega) (by omega)
  show IntKind.i64.wrap ((BitVec.ofInt 64 (a : Int) ||| BitVec.ofInt 64 (b : Int)).toNat : Int) = _
  rw [BitVec.toNat_or, ofInt_i64 a ha, ofInt_i64 b hb, IntKind.wrap_i64]
  omega
theorem i64_xor_nat (a b : Nat) (ha : a < 9223372036854775808) (hb : b < 9223372036854775808) : bits .xor .i64 (a : Int) (b : Int) = ((a ^^^ b : Nat) : Int) := by
  have hx : a ^^^ b < 2 ^ 63 := Nat.xor_lt_two_pow (by omega) (by omega)
  show IntKind.i64.wrap ((BitVec.ofInt 64 (a : Int) ^^^ BitVec.ofInt 64 (b : Int)).toNat : Int) = _
  rw [BitVec.toNat_xor, ofInt_i64 a ha, ofInt_i64 b hb, IntKind.wrap_i64]
  omega
theorem ret_int {k : IntKind} {a b : Int} (h : a = b) : Ending.returned (.int k a) = .returned (.int k b) := by rw [h]
theorem int_eq {k : IntKind} {a b : Int} (h : a = b) : Value.int k a = .int k b := by rw [h]
theorem ret_str {a b : ByteArray} (h : a = b) : Ending.returned (.string a) = .returned (.string b) := by rw [h]
theorem bcell {W w1 : World} (hb : Below W.heap.size W w1) : (∀ b o, b < W.heap.size → w1.cell? ⟨b, o, none⟩ = W.cell? ⟨b, o, none⟩) ∧ (∀ b o, b < W.heap.size → w1.frozen? ⟨b, o, none⟩ = W.frozen? ⟨b, o, none⟩) :=
  ⟨fun b o h => hb.cell (p := ⟨b, o, none⟩) h, fun b o h => hb.frozen (p := ⟨b, o, none⟩) h⟩
theorem results_tmp4 {fn : Func} {t u v x : Tmp} (h : fn.results = #[.tmp t, .tmp u, .tmp v, .tmp x]) (tmps : Array Value) (P : Program) (w : World) :
    (results fn tmps).run P w = .ok (.tuple #[tmps.getD t undef, tmps.getD u undef, tmps.getD v undef, tmps.getD x undef]) w := by simp [results, h]
theorem bt {w w1 w2 : World} (h1 : Below w.heap.size w w1) (h2 : Below w1.heap.size w1 w2) : Below w.heap.size w w2 := h1.trans (h2.mono h1.size)
theorem b0 (w : World) : Below w.heap.size w w := Below.refl _ _
theorem bal {w W : World} (h : Below w.heap.size w W) (o : Obj) : Below w.heap.size w (W.alloc o) := h.alloc h.size o
theorem bst {w W : World} (h : Below w.heap.size w W) {p : Addr} (hp : w.heap.size ≤ p.block) (u : Value) : Below w.heap.size w (W.setCell p u) := h.setCell hp u
theorem below_drewN {B : Nat} {a w : World} (h : Below B a w) (n : Nat) : Below B a (w.drewN n) := ⟨h.os, h.tape, h.output, h.size, h.block⟩
/-- a list of bytes as a string -/
abbrev strL (l : List UInt8) : Value := .string ⟨l.toArray⟩
theorem str_eq {a b : ByteArray} (h : a.data.toList = b.data.toList) : a = b := by
  cases a; cases b; simp at h; rw [h]
theorem ofList_toList (s : ByteArray) : (⟨s.data.toList.toArray⟩ : ByteArray) = s := by cases s; simp
theorem getL (s : ByteArray) (k : Nat) (h : k < s.size) : s.data.toList[k]? = some s[k] := by
  rw [List.getElem?_eq_getElem (by simpa using h)]; rfl
theorem take_snoc (s : ByteArray) (k : Nat) (h : k < s.size) : s.data.toList.take (k + 1) = s.data.toList.take k ++ [s[k]] := by
  rw [List.take_succ_eq_append_getElem (by simpa using h)]; rfl
theorem take_all (s : ByteArray) (k : Nat) (h : s.size ≤ k) : s.data.toList.take k = s.data.toList := List.take_of_length_le (by simpa using h)
section
variable {P : Program} (w : World) {t : TypeId} (ht : P.underlying t = some .string)
include ht
/-- s[k] of a string, the byte under a name of its own -/
theorem run_at (l : List UInt8) (i : Int) (k b : Nat) (hi : i = k) (hk : k < l.length) (hb : (l[k]?.getD 0).toNat = b) : (Instr.index t (.string ⟨l.toArray⟩) (.int .i64 i)).run P w = .ok (.int .u8 (b : Int)) w := by
  subst hi
  have hz : (⟨l.toArray⟩ : ByteArray).size = l.length := by show l.toArray.size = _; simp
  rw [run_index_string w t _ _ _ ht, dif_pos ⟨by omega, by rw [hz]; omega⟩]
  rw [← hb]
  have : (⟨l.toArray⟩ : ByteArray)[(k : Int).toNat]'(by rw [hz]; omega) = l[k] := by
    show l.toArray[(k : Int).toNat]'_ = _
    simp
  rw [this]
  simp [hk]
theorem run_from (l : List UInt8) (i : Int) (k : Nat) (hi : i = k) (hk : k ≤ l.length) : (Instr.slice t (.string ⟨l.toArray⟩) (some (.int .i64 i)) none none).run P w = .ok (.string ⟨(l.drop k).toArray⟩) w := by
  subst hi
  have hz : (⟨l.toArray⟩ : ByteArray).size = l.length := by show l.toArray.size = _; simp
  rw [run_slice_string_from_if w t _ _ _ ht, if_pos ⟨by omega, by rw [hz]; omega⟩, ByteArray.extract_mk, hz, Int.toNat_natCast, List.take_of_length_le (by simp)]
theorem run_to (l : List UInt8) (j : Int) (k : Nat) (hj : j = k) (hk : k ≤ l.length) : (Instr.slice t (.string ⟨l.toArray⟩) none (some (.int .i64 j)) none).run P w = .ok (.string ⟨(l.take k).toArray⟩) w := by
  subst hj
  have hz : (⟨l.toArray⟩ : ByteArray).size = l.length := by show l.toArray.size = _; simp
  rw [run_slice_string_to_if w t _ _ _ ht, if_pos ⟨by omega, by rw [hz]; omega⟩, ByteArray.extract_mk]
  simp
theorem run_mid (l : List UInt8) (i j : Int) (a k : Nat) (hi : i = a) (hj : j = k) (ha : a ≤ k) (hk : k ≤ l.length) : (Instr.slice t (.string ⟨l.toArray⟩) (some (.int .i64 i)) (some (.int .i64 j)) none).run P w = .ok (.string ⟨((l.drop a).take (k - a)).toArray⟩) w := by
  subst hi hj
  have hz : (⟨l.toArray⟩ : ByteArray).size = l.length := by show l.toArray.size = _; simp
  rw [run_slice_string w t _ _ _ _ _ ht (by omega) (by omega) (by rw [hz]; omega), ByteArray.extract_mk]
  simp
end
section
variable {P : Program} (w : World) {src dst e : TypeId} (hs : P.underlying src = some (.slice e)) (he : P.underlying e = some (.int .u8)) (hd : P.underlying dst = some .string)
include hs he hd
/-- string(b) of a row that was just made -/
theorem run_conv_new (xs : List Int) (len cap : Nat) (hlen : xs.length = len) :
    (convert src dst (.slice (some ⟨w.heap.size, 0, none⟩) len cap)).run P (w.alloc (.cells (xs.map (Value.int .u8)).toArray e)) =
      .ok (.string (strOfNums xs)) (w.alloc (.cells (xs.map (Value.int .u8)).toArray e)) := by
  refine run_convert_bytes_arg _ src e hs he _ 0 len cap xs hlen (fun i hi => ?_) dst hd
  rw [cell_of_row _ _ _ _ _ _ (heap_alloc_new w _)]
  simp [hlen, hi]
theorem run_conv1 (cap : Nat) (a : Int) :
    (convert src dst (.slice (some ⟨w.heap.size, 0, none⟩) 1 cap)).run P (w.alloc (.cells #[.int .u8 a] e)) =
      .ok (.string ⟨#[UInt8.ofNat a.toNat]⟩) (w.alloc (.cells #[.int .u8 a] e)) := run_conv_new w hs he hd [a] 1 cap rfl
theorem run_conv3 (cap : Nat) (a b c : Int) :
    (convert src dst (.slice (some ⟨w.heap.size, 0, none⟩) 3 cap)).run P (w.alloc (.cells #[.int .u8 a, .int .u8 b, .int .u8 c] e)) =
      .ok (.string ⟨#[UInt8.ofNat a.toNat, UInt8.ofNat b.toNat, UInt8.ofNat c.toNat]⟩) (w.alloc (.cells #[.int .u8 a, .int .u8 b, .int .u8 c] e)) := run_conv_new w hs he hd [a, b, c] 3 cap rfl
theorem run_conv4 (cap : Nat) (a b c d : Int) :
    (convert src dst (.slice (some ⟨w.heap.size, 0, none⟩) 4 cap)).run P (w.alloc (.cells #[.int .u8 a, .int .u8 b, .int .u8 c, .int .u8 d] e)) =
      .ok (.string ⟨#[UInt8.ofNat a.toNat, UInt8.ofNat b.toNat, UInt8.ofNat c.toNat, UInt8.ofNat d.toNat]⟩) (w.alloc (.cells #[.int .u8 a, .int .u8 b, .int .u8 c, .int .u8 d] e)) := run_conv_new w hs he hd [a, b, c, d] 4 cap rfl
end
end Go.Proofs.YtbggohdpaodkeaaDoor
