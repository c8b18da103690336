/- The walks through flags and texts, the program's and the document's. -/
import Derived.Test.YthjoamldmcnodaaRef1W
import Derived.Outline
namespace Go.Proofs.Ythjoamldmcnodaa
open Go.RowKit
attribute [local go_sem] ByteArray.mk_append_mk
theorem take_rest_len (l : List UInt8) : (takeL l).2.1.length ≤ l.length := by
  unfold takeL
  split
  · simp
  split
  · simp
  split
  · simp
  · simp

set_option maxHeartbeats 400000 in
set_option maxRecDepth 100000 in
theorem text_any (l : List UInt8) (hl : l.length ≤ 281474976710656) (w : World) : Calls Try.prog 35 #[.string ⟨l.toArray⟩] w fun e w' => e = .returned (.string ⟨(textL l).toArray⟩) ∧ Below w.heap.size w w' := by
  have hp := putL_len l.length
  have hx : textL l = putL l.length ++ l := rfl
  have HX := Lib.hid hx
  clear hx
  go_enter Try.func35, Try.ntmps35
  go_wp2_with fail
  refine (put_any l.length (by omega) w).mono ?_
  rintro e w1 ⟨rfl, hb1⟩
  go_wp2
  go_ret
  exact ⟨by rw [HX.out]; rfl, hb1⟩
set_option maxHeartbeats 400000 in
set_option maxRecDepth 100000 in
theorem reftext_any (l : List UInt8) (hl : l.length ≤ 281474976710656) (w : World) : Calls Try.prog 40 #[.string ⟨l.toArray⟩] w fun e w' => e = .returned (.string ⟨(textL l).toArray⟩) ∧ Below w.heap.size w w' := by
  have hp := putL_len l.length
  have hx : textL l = putL l.length ++ l := rfl
  have HX := Lib.hid hx
  clear hx
  go_enter Try.func40, Try.ntmps40
  go_wp2_with fail
  refine (refput_any l.length (by omega) w).mono ?_
  rintro e w1 ⟨rfl, hb1⟩
  go_wp2
  go_ret
  exact ⟨by rw [HX.out]; rfl, hb1⟩
end Go.Proofs.Ythjoamldmcnodaa
