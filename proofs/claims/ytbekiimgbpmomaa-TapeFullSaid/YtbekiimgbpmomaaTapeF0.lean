/- The plain law of TapeFull. -/
import Derived.Test.YtbekiimgbpmomaaMake
import Derived.Test.YtbekiimgbpmomaaLaw12
import Derived.Deep.RegionHeld3
import Derived.Deep.RegionWith
import Derived.Deep.DrawnRows
namespace Go.Proofs.Ytbekiimgbpmomaa
open Go.RowKit
attribute [local go_sem] ByteArray.mk_append_mk ByteArray.extract_mk
theorem infoU8 : (Try.prog.info? 5).map (fun i => (i.zero, i.size, i.bytes)) = some (some (.int .u8 0), 1, 1) := by kernel_rfl
theorem full_yes (f s : List UInt8) (h : f.length ≤ 1048576) (h2 : 1048576 < f.length + s.length) : appendT ⟨f, [], 0, false, false⟩ s = (⟨f, [], 0, false, false⟩, 6) := by
  have hr : readyT ⟨f, [], 0, false, false⟩ = 0 := by simp [readyT, rightTp, h]
  unfold appendT
  rw [hr, if_neg (by simp), if_pos (by simpa using h2)]
theorem full_no (f s : List UInt8) (h2 : f.length + s.length ≤ 1048576) : appendT ⟨f, [], 0, false, false⟩ s = (⟨f, s, 0, false, false⟩, 0) := by
  have hr : readyT ⟨f, [], 0, false, false⟩ = 0 := by simp [readyT, rightTp]; omega
  unfold appendT
  rw [hr, if_neg (by simp), if_neg (by simp; omega)]
  simp [spendT]
theorem full_right (f s : List UInt8) (h2 : f.length + s.length ≤ 1048576) : rightTp ⟨f, s, 0, false, false⟩ = true := by simp [rightTp]; omega
end Go.Proofs.Ytbekiimgbpmomaa
