/- Small walks of which only a bool is wanted: numbers, cells, the closures, and slices.ContainsFunc over them. -/
import Derived.Test.YtbggohdpaodkeaaDoorCliW
import Derived.Test.YtbggohdpaodkeaaDoorPl
namespace Go.Proofs.YtbggohdpaodkeaaDoor
open Go.RowKit
attribute [local go_sem] ByteArray.mk_append_mk ByteArray.extract_mk
attribute [local go_sem ↓] Go.wp_at_zero Go.wp_at_succ
/-- some bool comes back; what was there is as it was -/
def SB (w : World) (e : Ending) (w' : World) : Prop := ∃ b, e = .returned (.bool b) ∧ Below w.heap.size w w'
/-- some int comes back; what was there is as it was -/
def SI (w : World) (e : Ending) (w' : World) : Prop := ∃ i : Int, e = .returned (.int .i64 i) ∧ Below w.heap.size w w'
def CntRelW (n : Nat) (w : World) (i : Value) (wr : World) : Prop :=
  ∃ (k : Nat), i = .int .i64 k ∧ k ≤ n ∧ Below w.heap.size w wr
theorem num_sb (n : Int) (w : World) : Calls Tryd.prog 38 #[.int .i64 n] w (SB w) := by
  by_cases h1 : n < 1
  case pos =>
    go_enter Tryd.func38, Tryd.ntmps38
    go_wp2
    go_ret
    exact ⟨_, rfl, b0 w⟩
  case neg =>
    by_cases h2 : 1099511627776 < n
    all_goals
      go_enter Tryd.func38, Tryd.ntmps38
      go_wp2
      go_ret
      exact ⟨_, rfl, b0 w⟩
theorem cell_sb (n : Int) (w : World) : Calls Tryd.prog 39 #[.int .i64 n] w (SB w) := by
  by_cases h1 : n < 1
  case pos =>
    go_enter Tryd.func39, Tryd.ntmps39
    go_wp2
    go_ret
    exact ⟨_, rfl, b0 w⟩
  case neg =>
    by_cases h2 : 3 < n
    all_goals
      go_enter Tryd.func39, Tryd.ntmps39
      go_wp2
      go_ret
      exact ⟨_, rfl, b0 w⟩
theorem known1_sb (n : Int) (w : World) : Calls Tryd.prog 31 #[.int .i64 n] w (SB w) := by
  by_cases h1 : n < 1
  case pos =>
    go_enter Tryd.func31, Tryd.ntmps31
    go_wp2
    go_ret
    exact ⟨_, rfl, b0 w⟩
  case neg =>
    by_cases h2 : 3 < n
    all_goals
      go_enter Tryd.func31, Tryd.ntmps31
      go_wp2
      go_ret
      exact ⟨_, rfl, b0 w⟩
theorem rm1_sb (n : Int) (w : World) : Calls Tryd.prog 28 #[.int .i64 n] w (SB w) := by
  by_cases h1 : n < 0
  case pos =>
    go_enter Tryd.func28, Tryd.ntmps28
    go_wp2
    go_ret
    exact ⟨_, rfl, b0 w⟩
  case neg =>
    by_cases h2 : 1099511627776 < n
    all_goals
      go_enter Tryd.func28, Tryd.ntmps28
      go_wp2
      go_ret
      exact ⟨_, rfl, b0 w⟩
set_option maxHeartbeats 1600000 in
set_option maxRecDepth 100000 in
theorem idxk (A : Option Addr) (cap : Nat) (ls : List Int) (hmax : ls.length ≤ 9223372036854775807) (w : World) (hL : RdR ldC 1 w w.heap.size A ls) :
    Calls Tryd.prog 36 #[.slice A ls.length cap, .func (.func 31) #[] #[]] w (SI w) := by
  go_enter Tryd.func36, Tryd.ntmps36
  go_wp2
  go_loopw [8] (fun i wr => CntRelW ls.length w i wr) (fun i _ => ls.length - (intOf i).toNat)
  case atStart =>
    exact ⟨0, rfl, Nat.zero_le _, Below.refl _ _⟩
  case round =>
    obtain ⟨k, rfl, hk, hb⟩ := hrel
    have hbs := hb.size
    have i0 : (0 : Int) ≤ (k : Int) := by omega
    by_cases hlt : k < ls.length
    case pos =>
      obtain ⟨b, off, rfl, hbB, g0⟩ := ldc_cells hL k hlt
      have c0 := (hb.cell (p := ⟨b, _, none⟩) hbB).trans g0
      have i1 : (k : Int) < (ls.length : Int) := by omega
      obtain ⟨x, hx⟩ : ∃ x, ls[k] = x := ⟨_, rfl⟩
      rw [hx] at c0
      clear hx g0
      go_wp2_with fail
      refine (known1_sb x _).mono ?_
      rintro e w1 ⟨q, rfl, hb1⟩
      cases q
      case true =>
        go_wp2
        go_ret
        exact ⟨_, rfl, bt hb hb1⟩
      case false =>
        go_wp2
        go_roundw
        case rel =>
          exact ⟨k + 1, by go_num, by omega, bt hb hb1⟩
        case measure =>
          simp [intOf]; omega
    case neg =>
      have hke : k = ls.length := by omega
      subst hke
      go_wp2
      go_ret
      exact ⟨_, rfl, hb⟩
theorem idxk_has (A : Option Addr) (cap : Nat) (ls : List Int) (hmax : ls.length ≤ 9223372036854775807) (w : World) (hL : RdR ldC 1 w w.heap.size A ls) :
    Calls Tryd.prog 26 #[.slice A ls.length cap, .func (.func 31) #[] #[]] w (SB w) := by
  go_enter Tryd.func26, Tryd.ntmps26
  go_wp2_with fail
  refine (idxk A cap ls hmax w hL).mono ?_
  rintro e w1 ⟨i, rfl, hb1⟩
  go_wp2
  go_ret
  exact ⟨_, rfl, hb1⟩
set_option maxHeartbeats 1600000 in
set_option maxRecDepth 100000 in
theorem idxr (A : Option Addr) (cap : Nat) (ls : List Int) (hmax : ls.length ≤ 9223372036854775807) (w : World) (hL : RdR ldC 1 w w.heap.size A ls) :
    Calls Tryd.prog 36 #[.slice A ls.length cap, .func (.func 28) #[] #[]] w (SI w) := by
  go_enter Tryd.func36, Tryd.ntmps36
  go_wp2
  go_loopw [8] (fun i wr => CntRelW ls.length w i wr) (fun i _ => ls.length - (intOf i).toNat)
  case atStart =>
    exact ⟨0, rfl, Nat.zero_le _, Below.refl _ _⟩
  case round =>
    obtain ⟨k, rfl, hk, hb⟩ := hrel
    have hbs := hb.size
    have i0 : (0 : Int) ≤ (k : Int) := by omega
    by_cases hlt : k < ls.length
    case pos =>
      obtain ⟨b, off, rfl, hbB, g0⟩ := ldc_cells hL k hlt
      have c0 := (hb.cell (p := ⟨b, _, none⟩) hbB).trans g0
      have i1 : (k : Int) < (ls.length : Int) := by omega
      obtain ⟨x, hx⟩ : ∃ x, ls[k] = x := ⟨_, rfl⟩
      rw [hx] at c0
      clear hx g0
      go_wp2_with fail
      refine (rm1_sb x _).mono ?_
      rintro e w1 ⟨q, rfl, hb1⟩
      cases q
      case true =>
        go_wp2
        go_ret
        exact ⟨_, rfl, bt hb hb1⟩
      case false =>
        go_wp2
        go_roundw
        case rel =>
          exact ⟨k + 1, by go_num, by omega, bt hb hb1⟩
        case measure =>
          simp [intOf]; omega
    case neg =>
      have hke : k = ls.length := by omega
      subst hke
      go_wp2
      go_ret
      exact ⟨_, rfl, hb⟩
theorem idxr_has (A : Option Addr) (cap : Nat) (ls : List Int) (hmax : ls.length ≤ 9223372036854775807) (w : World) (hL : RdR ldC 1 w w.heap.size A ls) :
    Calls Tryd.prog 26 #[.slice A ls.length cap, .func (.func 28) #[] #[]] w (SB w) := by
  go_enter Tryd.func26, Tryd.ntmps26
  go_wp2_with fail
  refine (idxr A cap ls hmax w hL).mono ?_
  rintro e w1 ⟨i, rfl, hb1⟩
  go_wp2
  go_ret
  exact ⟨_, rfl, hb1⟩
end Go.Proofs.YtbggohdpaodkeaaDoor
