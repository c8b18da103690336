/- The walks of the document's Plain, Right, Letters, Compare of keys. -/
import Derived.Test.YtkoligiilieboaaDoorLetterW
import Derived.Test.YtkoligiilieboaaDoorMgA
import Derived.Deep.DrawnRows
namespace Go.Proofs.YtkoligiilieboaaDoor
open Go.RowKit
attribute [local go_sem] ByteArray.mk_append_mk ByteArray.extract_mk
def strLn : Value → Nat | .string s => s.size | _ => 0
theorem letL_cases (l : List UInt8) : (letL l = (-1, 1) ∧ decL l = (65533, 1)) ∨ letL l = (((decL l).1 : Int), (decL l).2) := by
  unfold letL
  split
  · exact .inl ⟨rfl, by assumption⟩
  · exact .inr rfl
theorem letL_snd (l : List UInt8) : (letL l).2 = (decL l).2 := by
  rcases letL_cases l with ⟨h1, h2⟩ | h
  · rw [h1, h2]
  · rw [h]
theorem letL_max (l : List UInt8) : -1 ≤ (letL l).1 ∧ (letL l).1 ≤ 1114111 := by
  have := decL_max l
  rcases letL_cases l with ⟨h1, h2⟩ | h
  · rw [h1]; exact ⟨by omega, by omega⟩
  · rw [h]; exact ⟨by simp only; omega, by simp only; omega⟩
theorem letL_code (l : List UInt8) : ((letL l).1 < 0 → (decL l).1 = 65533) ∧ (0 ≤ (letL l).1 → (letL l).1 = (decL l).1) := by
  rcases letL_cases l with ⟨h1, h2⟩ | h
  · rw [h1, h2]; exact ⟨fun _ => rfl, fun h => by simp only at h; omega⟩
  · rw [h]; exact ⟨fun h => by simp only at h; omega, fun _ => rfl⟩
def RRel (l : List UInt8) (w : World) (x : Value) (wr : World) : Prop :=
  ∃ rl : List UInt8, x = .string ⟨rl.toArray⟩ ∧ plainL l = plainL rl ∧ rl.length ≤ l.length ∧ w = wr
theorem infoI : (Tryd.prog.info? 3).map (fun i => (i.zero, i.size, i.bytes)) = some (some (.int .i64 0), 1, 8) := by kernel_rfl
/-- ints in a row of the call's own -/
def OwnInts (w : World) (ns : List Nat) (e : Ending) (w' : World) : Prop :=
  ∃ A cap, e = .returned (.slice A ns.length cap) ∧ w'.ownsRow w.heap.size 3 1 (.slice A ns.length cap) ns.length (ns.map iv) ∧ Below w.heap.size w w'
theorem own_ints {w w' : World} {ns : List Nat} {e : Ending} {v : Value} (he : e = .returned v) (hown : w'.ownsRow w.heap.size 3 1 v ns.length (ns.map iv)) (hb : Below w.heap.size w w') : OwnInts w ns e w' := by
  obtain ⟨A, cap, hv⟩ := own_slice hown
  subst hv
  exact ⟨A, cap, he, hown, hb⟩
def LsRel (l : List UInt8) (w : World) (s v : Value) (wr : World) : Prop :=
  ∃ (pre : List Nat) (rl : List UInt8), s = .string ⟨rl.toArray⟩ ∧ lettersL l = pre ++ lettersL rl ∧ pre.length + rl.length ≤ l.length ∧
    wr.ownsRow w.heap.size 3 1 v pre.length (pre.map iv) ∧ Below w.heap.size w wr
end Go.Proofs.YtkoligiilieboaaDoor
