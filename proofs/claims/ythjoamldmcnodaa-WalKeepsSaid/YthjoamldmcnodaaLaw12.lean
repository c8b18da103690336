/- The walks of the document's Right, the laws' small things, and TapeTexts. -/
import Derived.Test.YthjoamldmcnodaaTape4W
namespace Go.Proofs.Ythjoamldmcnodaa
open Go.RowKit
attribute [local go_sem] ByteArray.mk_append_mk ByteArray.extract_mk
set_option maxHeartbeats 1600000 in
set_option maxRecDepth 100000 in
theorem refright12_any (f lo : List UInt8) (n : Int) (ar dn : Bool) (hf : f.length ≤ 140737488351232) (hl : lo.length ≤ 140737488351232) (w : World) : Calls Try.prog 28 #[tapeV ⟨f, lo, n, ar, dn⟩] w fun e w' => e = .returned (.bool (rightTp ⟨f, lo, n, ar, dn⟩)) ∧ Below w.heap.size w w' := by
  by_cases h1 : n < 0
  · skip
    have hv : rightTp ⟨f, lo, n, ar, dn⟩ = false := by simp [rightTp] <;> omega
    have HV := Lib.hid hv
    clear hv
    go_enter Try.func28, Try.ntmps28
    go_wp2
    go_ret
    exact ⟨by rw [HV.out] <;> rfl, bal (b0 w) _⟩
  · by_cases h2 : 1099511627776 < n
    · skip
      have hv : rightTp ⟨f, lo, n, ar, dn⟩ = false := by simp [rightTp] <;> omega
      have HV := Lib.hid hv
      clear hv
      go_enter Try.func28, Try.ntmps28
      go_wp2
      go_ret
      exact ⟨by rw [HV.out] <;> rfl, bal (b0 w) _⟩
    · cases ar
      · by_cases h3 : 0 < n
        · skip
          have hv : rightTp ⟨f, lo, n, false, dn⟩ = false := by simp [rightTp] <;> omega
          have HV := Lib.hid hv
          clear hv
          go_enter Try.func28, Try.ntmps28
          go_wp2
          go_ret
          exact ⟨by rw [HV.out] <;> rfl, bal (b0 w) _⟩
        · skip
          by_cases h4 : f.length ≤ 1048576
          · have h4' : (f.length : Int) ≤ 1048576 := by omega
            by_cases h5 : f.length + lo.length ≤ 1048576
            · have h5' : (lo.length : Int) ≤ 1048576 - f.length := by omega
              have hv : rightTp ⟨f, lo, n, false, dn⟩ = true := by simp [rightTp] <;> omega
              have HV := Lib.hid hv
              clear hv
              go_enter Try.func28, Try.ntmps28
              go_wp2
              go_ret
              exact ⟨by rw [HV.out] <;> rfl, bal (b0 w) _⟩
            · have h5' : ¬ ((lo.length : Int) ≤ 1048576 - f.length) := by omega
              have hv : rightTp ⟨f, lo, n, false, dn⟩ = false := by simp [rightTp] <;> omega
              have HV := Lib.hid hv
              clear hv
              go_enter Try.func28, Try.ntmps28
              go_wp2
              go_ret
              exact ⟨by rw [HV.out] <;> rfl, bal (b0 w) _⟩
          · have h4' : ¬ ((f.length : Int) ≤ 1048576) := by omega
            have hv : rightTp ⟨f, lo, n, false, dn⟩ = false := by simp [rightTp] <;> omega
            have HV := Lib.hid hv
            clear hv
            go_enter Try.func28, Try.ntmps28
            go_wp2
            go_ret
            exact ⟨by rw [HV.out] <;> rfl, bal (b0 w) _⟩
      · by_cases h3 : 0 < n
        · skip
          by_cases h4 : f.length ≤ 1048576
          · have h4' : (f.length : Int) ≤ 1048576 := by omega
            by_cases h5 : f.length + lo.length ≤ 1048576
            · have h5' : (lo.length : Int) ≤ 1048576 - f.length := by omega
              have hv : rightTp ⟨f, lo, n, true, dn⟩ = true := by simp [rightTp] <;> omega
              have HV := Lib.hid hv
              clear hv
              go_enter Try.func28, Try.ntmps28
              go_wp2
              go_ret
              exact ⟨by rw [HV.out] <;> rfl, bal (b0 w) _⟩
            · have h5' : ¬ ((lo.length : Int) ≤ 1048576 - f.length) := by omega
              have hv : rightTp ⟨f, lo, n, true, dn⟩ = false := by simp [rightTp] <;> omega
              have HV := Lib.hid hv
              clear hv
              go_enter Try.func28, Try.ntmps28
              go_wp2
              go_ret
              exact ⟨by rw [HV.out] <;> rfl, bal (b0 w) _⟩
          · have h4' : ¬ ((f.length : Int) ≤ 1048576) := by omega
            have hv : rightTp ⟨f, lo, n, true, dn⟩ = false := by simp [rightTp] <;> omega
            have HV := Lib.hid hv
            clear hv
            go_enter Try.func28, Try.ntmps28
            go_wp2
            go_ret
            exact ⟨by rw [HV.out] <;> rfl, bal (b0 w) _⟩
        · skip
          by_cases h4 : f.length ≤ 1048576
          · have h4' : (f.length : Int) ≤ 1048576 := by omega
            by_cases h5 : f.length + lo.length ≤ 1048576
            · have h5' : (lo.length : Int) ≤ 1048576 - f.length := by omega
              have hv : rightTp ⟨f, lo, n, true, dn⟩ = true := by simp [rightTp] <;> omega
              have HV := Lib.hid hv
              clear hv
              go_enter Try.func28, Try.ntmps28
              go_wp2
              go_ret
              exact ⟨by rw [HV.out] <;> rfl, bal (b0 w) _⟩
            · have h5' : ¬ ((lo.length : Int) ≤ 1048576 - f.length) := by omega
              have hv : rightTp ⟨f, lo, n, true, dn⟩ = false := by simp [rightTp] <;> omega
              have HV := Lib.hid hv
              clear hv
              go_enter Try.func28, Try.ntmps28
              go_wp2
              go_ret
              exact ⟨by rw [HV.out] <;> rfl, bal (b0 w) _⟩
          · have h4' : ¬ ((f.length : Int) ≤ 1048576) := by omega
            have hv : rightTp ⟨f, lo, n, true, dn⟩ = false := by simp [rightTp] <;> omega
            have HV := Lib.hid hv
            clear hv
            go_enter Try.func28, Try.ntmps28
            go_wp2
            go_ret
            exact ⟨by rw [HV.out] <;> rfl, bal (b0 w) _⟩
def smallB (f lo : List UInt8) : Bool := decide (f.length ≤ 4096) && decide (lo.length ≤ 4096)
theorem aw1 : appendT ⟨[], [], 0, false, false⟩ [97, 98] = (⟨[], [97, 98], 0, false, false⟩, 0) := by first | rfl | simp [appendT, readyT, rightTp]
theorem aw2 : syncT ⟨[], [97, 98], 0, false, false⟩ = (⟨[97, 98], [], 0, false, false⟩, 0) := by first | rfl | simp [syncT, readyT, rightTp]
theorem aw3 : crashT ⟨[97, 98], [], 0, false, false⟩ 0 = ⟨[97, 98], [], 0, false, false⟩ := by first | rfl | simp [crashT]
end Go.Proofs.Ythjoamldmcnodaa
