/- A client is equal to itself. -/
import Derived.Test.YtbggohdpaodkeaaDoorCliW
import Derived.Test.YtbggohdpaodkeaaDoorPl
import Derived.BigQuiet
namespace Go.Proofs.YtbggohdpaodkeaaDoor
open Go.RowKit
attribute [local go_sem] ByteArray.mk_append_mk ByteArray.extract_mk
attribute [local go_sem ↓] Go.wp_at_zero Go.wp_at_succ
def CntRel (n : Nat) (w : World) (i : Value) (wr : World) : Prop :=
  ∃ (k : Nat), i = .int .i64 k ∧ k ≤ n ∧ Below w.heap.size w wr
set_option maxHeartbeats 1600000 in
set_option maxRecDepth 100000 in
theorem eq15_any (A : Option Addr) (cap : Nat) (ps : List Pl) (hmax : ps.length ≤ 9223372036854775807) (w : World) (hR : RdR plC 5 w w.heap.size A ps) :
    Calls Tryd.prog 20 #[.slice A ps.length cap, .slice A ps.length cap] w fun e w' => e = .returned (.bool true) ∧ Below w.heap.size w w' := by
  go_enter Tryd.func20, Tryd.ntmps20
  go_wp2
  go_loopw [5] (fun i wr => CntRel ps.length w i wr) (fun i _ => ps.length - (intOf i).toNat)
  case atStart =>
    exact ⟨0, rfl, Nat.zero_le _, Below.refl _ _⟩
  case round =>
    obtain ⟨k, rfl, hk, hb⟩ := hrel
    have hbs := hb.size
    have i0 : (0 : Int) ≤ (k : Int) := by omega
    by_cases hlt : k < ps.length
    case pos =>
      obtain ⟨b, off, rfl, hbB, g0, g1, g2, g3, g4⟩ := plc_cells hR k hlt
      have c0 := (hb.cell (p := ⟨b, _, none⟩) hbB).trans g0
      have c1 := (hb.cell (p := ⟨b, _, none⟩) hbB).trans g1
      have c2 := (hb.cell (p := ⟨b, _, none⟩) hbB).trans g2
      have c3 := (hb.cell (p := ⟨b, _, none⟩) hbB).trans g3
      have c4 := (hb.cell (p := ⟨b, _, none⟩) hbB).trans g4
      have i1 : (k : Int) < (ps.length : Int) := by omega
      obtain ⟨x, hx⟩ : ∃ x, ps[k] = x := ⟨_, rfl⟩
      rw [hx] at c0 c1 c2 c3 c4
      clear hx g0 g1 g2 g3 g4
      go_wp2_with fail
      go_quiet (fail)
      go_wp2
      go_roundw
      case rel =>
        exact ⟨k + 1, by go_num, by omega, below_drewN hb _⟩
      case measure =>
        simp [intOf]; omega
    case neg =>
      have hke : k = ps.length := by omega
      subst hke
      go_wp2
      go_ret
      exact ⟨rfl, hb⟩
set_option maxHeartbeats 1600000 in
set_option maxRecDepth 100000 in
theorem eq20_any (c : Cli) (ps : List Pl) (hmax : ps.length ≤ 9223372036854775807) (hps : ps.length = c.pn) (ls : List Int) (hls : ls.length = c.ln) (hmax2 : ls.length ≤ 9223372036854775807) (w : World) (hR : RdR plC 5 w w.heap.size c.pA ps) (hL : RdR ldC 1 w w.heap.size c.lA ls) :
    Calls Tryd.prog 9 #[cliV c, cliV c] w fun e w' => e = .returned (.bool true) ∧ Below w.heap.size w w' := by
  go_enter Tryd.func9, Tryd.ntmps9
  go_wp2_with fail
  have A1 : Blk ((w.alloc (.cells (cliA c) 46)).alloc (.cells (cliA c) 46)) w.heap.size 46 (cliA c) := (Blk.new w _ _).alloc _
  have A2 : Blk ((w.alloc (.cells (cliA c) 46)).alloc (.cells (cliA c) 46)) (w.heap.size + 1) 46 (cliA c) := Blk.new' _ _ _ _ (by simp)
  have hb0 : Below w.heap.size w ((w.alloc (.cells (cliA c) 46)).alloc (.cells (cliA c) 46)) := bal (bal (b0 w) _) _
  generalize hW : (w.alloc (.cells (cliA c) 46)).alloc (.cells (cliA c) 46) = W at A1 A2 hb0 ⊢
  clear hW
  go_loopw [5] (fun i wr => CntRel ls.length W i wr) (fun i _ => ls.length - (intOf i).toNat)
  case atStart =>
    exact ⟨0, rfl, Nat.zero_le _, Below.refl _ _⟩
  case round =>
    obtain ⟨k, rfl, hk, hbW⟩ := hrel
    have hb : Below w.heap.size w wr := hb0.trans (hbW.mono hb0.size)
    have hbs := hb.size
    have i0 : (0 : Int) ≤ (k : Int) := by omega
    obtain ⟨ag, a0, a1, a2, a3, a4, a5, a6, a7, a8, a9, a10, a11, a12, a13, a14, a15, a16, a17⟩ := (A1.keep hbW).cli
    obtain ⟨bg, d0, d1, d2, d3, d4, d5, d6, d7, d8, d9, d10, d11, d12, d13, d14, d15, d16, d17⟩ := (A2.keep hbW).cli
    by_cases hlt : k < ls.length
    case pos =>
      obtain ⟨b, off, hA, hbB, g0⟩ := ldc_cells hL k hlt
      have c0 := (hb.cell (p := ⟨b, _, none⟩) hbB).trans g0
      have i1 : (k : Int) < (c.ln : Int) := by omega
      obtain ⟨x, hx⟩ : ∃ x, ls[k] = x := ⟨_, rfl⟩
      rw [hx] at c0
      rw [hA] at a3 d3
      clear hx g0
      go_wp2_with fail
      go_quiet (fail)
      go_wp2
      go_roundw
      case rel =>
        exact ⟨k + 1, by go_num, by omega, below_drewN hbW _⟩
      case measure =>
        simp [intOf]; omega
    case neg =>
      have hke : k = ls.length := by omega
      have hke2 : (k : Int) = (c.ln : Int) := by omega
      go_wp2_with fail
      have hPc : RdR plC 5 wr wr.heap.size c.pA ps := RdR.more (hR.below hb (Nat.le_refl _)) hbs
      rw [← hps]
      refine (eq15_any c.pA c.pc ps hmax wr hPc).mono ?_
      rintro e w1 ⟨rfl, hb1⟩
      obtain ⟨ag, a0, a1, a2, a3, a4, a5, a6, a7, a8, a9, a10, a11, a12, a13, a14, a15, a16, a17⟩ := ((A1.keep hbW).keep hb1).cli
      obtain ⟨bg, d0, d1, d2, d3, d4, d5, d6, d7, d8, d9, d10, d11, d12, d13, d14, d15, d16, d17⟩ := ((A2.keep hbW).keep hb1).cli
      go_wp2
      go_ret
      exact ⟨rfl, bt hb hb1⟩
end Go.Proofs.YtbggohdpaodkeaaDoor
