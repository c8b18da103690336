/- atlas.Right: some bool, for any places. -/
import Derived.Test.YtbggohdpaodkeaaDoorCliK
import Derived.Test.YtbggohdpaodkeaaDoorPushR
import Derived.Test.YtbggohdpaodkeaaDoorSpanW5
namespace Go.Proofs.YtbggohdpaodkeaaDoor
open Go.RowKit
attribute [local go_sem] ByteArray.mk_append_mk ByteArray.extract_mk
attribute [local go_sem ↓] Go.wp_at_zero Go.wp_at_succ
abbrev plA (p : Pl) : Array Value := #[.string ⟨p.lo.toArray⟩, .string ⟨p.hi.toArray⟩, .int .i64 p.sh, .int .i64 p.ce, .int .i64 p.ep]
abbrev zpA : Array Value := #[.string ⟨#[]⟩, .string ⟨#[]⟩, .int .i64 0, .int .i64 0, .int .i64 0]
set_option maxHeartbeats 800000 in
theorem al1_sb (p : Pl) (g : Nat) (s : Int) (w : World) (hg : g < w.heap.size) (hs : w.cell? ⟨g, 2, none⟩ = some (.int .i64 s)) :
    Calls Tryd.prog 41 #[.agg (plA p), .pointer (some ⟨g, 0, none⟩)] w (SB w) := by
  have hs2 : (w.alloc (.cells (plA p) 59)).cell? ⟨g, 2, none⟩ = some (.int .i64 s) := by rw [(bal (b0 w) _).cell (p := ⟨g, 2, none⟩) hg]; exact hs
  go_enter Tryd.func41, Tryd.ntmps41
  go_wp2
  go_ret
  exact ⟨_, rfl, bal (b0 w) _⟩
set_option maxHeartbeats 1600000 in
set_option maxRecDepth 100000 in
theorem idxp (A : Option Addr) (cap : Nat) (ps : List Pl) (hmax : ps.length ≤ 9223372036854775807) (g : Nat) (s : Int) (w : World) (hg : g < w.heap.size) (hs : w.cell? ⟨g, 2, none⟩ = some (.int .i64 s)) (hR : RdR plC 5 w w.heap.size A ps) :
    Calls Tryd.prog 46 #[.slice A ps.length cap, .func (.func 41) #[] #[.pointer (some ⟨g, 0, none⟩)]] w (SI w) := by
  go_enter Tryd.func46, Tryd.ntmps46
  go_wp2
  go_loopw [8] (fun i wr => CntRelW ps.length w i wr) (fun i _ => ps.length - (intOf i).toNat)
  case atStart =>
    exact ⟨0, rfl, Nat.zero_le _, Below.refl _ _⟩
  case round =>
    obtain ⟨k, rfl, hk, hb⟩ := hrel
    have hbs := hb.size
    have i0 : (0 : Int) ≤ (k : Int) := by omega
    by_cases hlt : k < ps.length
    case pos =>
      obtain ⟨b, off, rfl, hbB, g0, g1, g2, g3, g4⟩ := plc_cells hR k hlt
      have c0 := (hb.cell (p := ⟨b, _, none⟩) hbB).trans g0
      have c1 := (hb.cell (p := ⟨b, _, none⟩) hbB).trans g1
      have c2 := (hb.cell (p := ⟨b, _, none⟩) hbB).trans g2
      have c3 := (hb.cell (p := ⟨b, _, none⟩) hbB).trans g3
      have c4 := (hb.cell (p := ⟨b, _, none⟩) hbB).trans g4
      have i1 : (k : Int) < (ps.length : Int) := by omega
      have hsr := (hb.cell (p := ⟨g, 2, none⟩) hg).trans hs
      have H5 := Lib.hid hsr
      clear hsr
      obtain ⟨x, hx⟩ : ∃ x, ps[k] = x := ⟨_, rfl⟩
      rw [hx] at c0 c1 c2 c3 c4
      clear hx g0 g1 g2 g3 g4
      go_wp2_with fail
      refine (al1_sb x g s _ (by omega) H5.out).mono ?_
      rintro e w1 ⟨q, rfl, hb1⟩
      cases q
      case true =>
        go_wp2
        go_ret
        exact ⟨_, rfl, bt hb hb1⟩
      case false =>
        go_wp2
        go_roundw
        case rel =>
          exact ⟨k + 1, by go_num, by omega, bt hb hb1⟩
        case measure =>
          simp [intOf]; omega
    case neg =>
      have hke : k = ps.length := by omega
      subst hke
      go_wp2
      go_ret
      exact ⟨_, rfl, hb⟩
theorem idxp_has (A : Option Addr) (cap : Nat) (ps : List Pl) (hmax : ps.length ≤ 9223372036854775807) (g : Nat) (s : Int) (w : World) (hg : g < w.heap.size) (hs : w.cell? ⟨g, 2, none⟩ = some (.int .i64 s)) (hR : RdR plC 5 w w.heap.size A ps) :
    Calls Tryd.prog 40 #[.slice A ps.length cap, .func (.func 41) #[] #[.pointer (some ⟨g, 0, none⟩)]] w (SB w) := by
  go_enter Tryd.func40, Tryd.ntmps40
  go_wp2_with fail
  refine (idxp A cap ps hmax g s w hg hs hR).mono ?_
  rintro e w1 ⟨i, rfl, hb1⟩
  go_wp2
  go_ret
  exact ⟨_, rfl, hb1⟩
end Go.Proofs.YtbggohdpaodkeaaDoor
