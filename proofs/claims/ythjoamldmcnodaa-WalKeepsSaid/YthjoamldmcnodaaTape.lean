/- The plain law of a tape: what each call makes of it. No program in sight. -/
namespace Go.Proofs.Ythjoamldmcnodaa
structure Tp where
  f : List UInt8
  lo : List UInt8
  n : Int
  ar : Bool
  dn : Bool
def rightTp (t : Tp) : Bool := decide (t.f.length + t.lo.length ≤ 1048576) && (decide (0 ≤ t.n) && (decide (t.n ≤ 1099511627776) && (t.ar || t.n == 0)))
def readyT (t : Tp) : Nat := if rightTp t = false then 1 else if t.dn then 16 else 0
def spendT (t : Tp) : Tp × Bool :=
  if t.ar = true ∧ t.n = 0 then ({ t with dn := true }, false) else if t.ar then ({ t with n := t.n - 1 }, true) else (t, true)
def appendT (t : Tp) (s : List UInt8) : Tp × Nat :=
  if readyT t ≠ 0 then (t, readyT t) else if 1048576 < t.f.length + t.lo.length + s.length then (t, 6)
  else if (spendT t).2 then ({ (spendT t).1 with lo := t.lo ++ s }, 0) else ((spendT t).1, 16)
def syncT (t : Tp) : Tp × Nat :=
  if readyT t ≠ 0 then (t, readyT t)
  else if (spendT t).2 then ({ (spendT t).1 with f := t.f ++ t.lo, lo := [] }, 0) else ((spendT t).1, 16)
def cutT (t : Tp) (k : Int) : Tp × Nat :=
  if readyT t ≠ 0 then (t, readyT t) else if k < 0 ∨ ((t.f.length + t.lo.length : Nat) : Int) < k then (t, 1)
  else if (spendT t).2 then ({ (spendT t).1 with f := (t.f ++ t.lo).take k.toNat, lo := [] }, 0) else ((spendT t).1, 16)
def swapT (t : Tp) (s : List UInt8) : Tp × Nat :=
  if readyT t ≠ 0 then (t, readyT t) else if 1048576 < s.length then (t, 6)
  else if (spendT t).2 then ({ (spendT t).1 with f := s, lo := [] }, 0) else ((spendT t).1, 16)
def armT (t : Tp) (k : Int) : Tp := if rightTp t = false then t else { t with ar := decide (0 ≤ k), n := min (max k 0) 1099511627776 }
def crashT (t : Tp) (k : Int) : Tp := if rightTp t = false then t else ⟨t.f ++ t.lo.take (min k.toNat t.lo.length), [], 0, false, false⟩
def textT (t : Tp) : List UInt8 × Nat := if readyT t ≠ 0 then ([], readyT t) else (t.f ++ t.lo, 0)
theorem right_parts (t : Tp) (h : rightTp t = true) : t.f.length + t.lo.length ≤ 1048576 ∧ 0 ≤ t.n ∧ t.n ≤ 1099511627776 ∧ (t.ar = true ∨ t.n = 0) := by
  unfold rightTp at h
  simpa using h
theorem ready_right (t : Tp) (h : readyT t = 0) : rightTp t = true ∧ t.dn = false := by
  unfold readyT at h
  split at h
  · simp at h
  · split at h
    · simp at h
    · simp_all
theorem ready_vals (t : Tp) : readyT t = 0 ∨ readyT t = 1 ∨ readyT t = 16 := by
  unfold readyT
  split
  · simp
  · split <;> simp
end Go.Proofs.Ythjoamldmcnodaa
