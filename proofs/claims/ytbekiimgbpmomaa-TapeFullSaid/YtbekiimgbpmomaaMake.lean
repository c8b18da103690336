/- string(make([]byte, n)): n zero bytes. -/
import Derived.Test.YtbekiimgbpmomaaOwn
import Derived.Laws.MakeOwn
import Derived.Laws.OwnMore
namespace Go.Proofs.Ytbekiimgbpmomaa
open Go.RowKit
/-- n zero bytes as cells -/
def zb (n : Nat) : Array Value := madeCells #[.int .u8 0] n
/-- n zero bytes -/
def zs (n : Nat) : List UInt8 := List.replicate n 0
theorem zs_len (n : Nat) : (zs n).length = n := by simp [zs]
theorem zb_eq (n : Nat) : zb n = ((List.replicate n (0 : Int)).map (Value.int .u8)).toArray := by
  apply Array.ext'
  unfold zb
  rw [toList_madeCells_one]
  simp
section
variable {P : Program} {t dst e : TypeId} {i : TypeInfo} (ht : P.underlying t = some (.slice e)) (he : P.underlying e = some (.int .u8)) (hd : P.underlying dst = some .string)
include ht
theorem run_make_u8 (hi : P.info? e = some i) (hz : i.zero = some (.int .u8 0)) (hs : i.size = 1) (hb : i.bytes = 1) (n : Nat) (x : Int) (hx : x = n) (hn : n ≤ 281474976710656) (w : World) :
    (Instr.makeSlice t (.int .i64 x) (.int .i64 x)).run P w = .ok (.slice (some ⟨w.heap.size, 0, none⟩) n n) (w.alloc (.cells (zb n) e)) := by
  subst hx
  have h := run_make (P := P) w t e i (.int .u8 0) ht hi hz .i64 .i64 (n : Int) (n : Int) (by omega) (by omega) (by rw [hb]; omega) (by omega)
  rw [h, hs]
  simp only [Int.toNat_natCast, Nat.mul_one]
  rfl
include he hd
theorem run_conv_zb (n : Nat) (w : World) :
    (convert t dst (.slice (some ⟨w.heap.size, 0, none⟩) n n)).run P (w.alloc (.cells (zb n) e)) = .ok (.string ⟨(zs n).toArray⟩) (w.alloc (.cells (zb n) e)) := by
  rw [zb_eq]
  rw [run_conv_new w ht he hd (List.replicate n 0) n n (by simp)]
  have : strOfNums (List.replicate n 0) = ⟨(zs n).toArray⟩ := by unfold strOfNums zs; simp
  rw [this]
end
end Go.Proofs.Ytbekiimgbpmomaa
