/- client.Right of a client that has nothing pending: some bool. -/
import Derived.Test.YtbggohdpaodkeaaDoorCliB
namespace Go.Proofs.YtbggohdpaodkeaaDoor
open Go.RowKit
attribute [local go_sem] ByteArray.mk_append_mk ByteArray.extract_mk
attribute [local go_sem ↓] Go.wp_at_zero Go.wp_at_succ
/-- what a walk knows of a client that comes in -/
structure CliIn (c : Cli) (ps : List Pl) (ls : List Int) (w : World) : Prop where
  pn : ps.length = c.pn
  ln : ls.length = c.ln
  p40 : c.pn ≤ 40
  l40 : c.ln ≤ 40
  pcap : c.pn ≤ c.pc
  ok : ∀ x ∈ ps, plOk x
  rp : RdR plC 5 w w.heap.size c.pA ps
  rl : RdR ldC 1 w w.heap.size c.lA ls
  tab : Go.Lib.Utf8Tabs 0 1 w
theorem CliIn.keep {c : Cli} {ps : List Pl} {ls : List Int} {w w' : World} (h : CliIn c ps ls w) (hb : Below w.heap.size w w') : CliIn c ps ls w' :=
  { h with rp := RdR.more (h.rp.below hb (Nat.le_refl _)) hb.size, rl := RdR.more (h.rl.below hb (Nat.le_refl _)) hb.size, tab := Utf8Tabs_below h.tab hb }
theorem CliIn.known {c : Cli} {ps : List Pl} {ls : List Int} {w : World} (h : CliIn c ps ls w) : Calls Tryd.prog 17 #[.slice c.pA c.pn c.pc, .slice c.lA c.ln c.lc] w (SB w) := by
  have := known_sb c.pA c.pc ps (by have := h.pn; have := h.p40; omega) (by have := h.pn; have := h.pcap; omega) h.ok c.lA c.lc ls (by have := h.ln; have := h.l40; omega) w h.rp h.rl h.tab
  rw [h.pn, h.ln] at this
  exact this.mono fun e w' ⟨b, he, _, hb⟩ => ⟨b, he, hb⟩
set_option maxHeartbeats 1600000 in
set_option maxRecDepth 100000 in
theorem cliright_sb (c : Cli) (ps : List Pl) (ls : List Int) (h0 : c.req.rq = 0) (w : World) (hC : CliIn c ps ls w) : Calls Tryd.prog 13 #[cliV c] w (SB w) := by
  by_cases h1 : c.id < 1
  case pos =>
    go_enter Tryd.func13, Tryd.ntmps13
    go_wp2
    go_ret
    exact ⟨_, rfl, bal (b0 w) _⟩
  case neg =>
  by_cases h2 : 8 < c.id
  case pos =>
    go_enter Tryd.func13, Tryd.ntmps13
    go_wp2
    go_ret
    exact ⟨_, rfl, bal (b0 w) _⟩
  case neg =>
  by_cases h3 : c.nx < 1
  case pos =>
    go_enter Tryd.func13, Tryd.ntmps13
    go_wp2
    go_ret
    exact ⟨_, rfl, bal (b0 w) _⟩
  case neg =>
  by_cases h4 : 1099511627776 < c.nx
  case pos =>
    go_enter Tryd.func13, Tryd.ntmps13
    go_wp2
    go_ret
    exact ⟨_, rfl, bal (b0 w) _⟩
  case neg =>
  by_cases h5 : c.tr < 0
  case pos =>
    go_enter Tryd.func13, Tryd.ntmps13
    go_wp2
    go_ret
    exact ⟨_, rfl, bal (b0 w) _⟩
  case neg =>
  by_cases h6 : 12 < c.tr
  case pos =>
    go_enter Tryd.func13, Tryd.ntmps13
    go_wp2
    go_ret
    exact ⟨_, rfl, bal (b0 w) _⟩
  case neg =>
  have hp40 := hC.p40
  have hl40 := hC.l40
  have hs : IntKind.i64.wrap ((c.pn : Int) + (c.ln : Int)) = (c.pn : Int) + (c.ln : Int) := by
    rw [IntKind.wrap_i64]; omega
  by_cases h7 : (0 : Int) < (c.pn : Int) + (c.ln : Int)
  case neg =>
    go_enter Tryd.func13, Tryd.ntmps13
    go_wp2
    go_ret
    exact ⟨_, rfl, bal (b0 w) _⟩
  case pos =>
    go_enter Tryd.func13, Tryd.ntmps13
    go_wp2_with fail
    refine (hC.keep (bal (b0 w) _)).known.mono ?_
    rintro e w1 ⟨q1, rfl, d1⟩
    have B1 : Blk w1 w.heap.size 29 (cliA c) := (Blk.new w _ _).keep d1
    have hb1 : Below w.heap.size w w1 := bt (bal (b0 w) _) d1
    obtain ⟨ag, a0, a1, a2, a3, a4, a5, a6, a7, a8, a9, a10, a11, a12, a13, a14, a15, a16, a17⟩ := B1.cli
    rw [h0] at a5
    cases q1
    all_goals
      go_wp2
      go_ret
      exact ⟨_, rfl, hb1⟩
end Go.Proofs.YtbggohdpaodkeaaDoor
