/- engine.from at numbers that are in their range; engine.RightRequest of the request that 'awake' makes. -/
import Derived.Test.YtbggohdpaodkeaaDoorCliI
import Derived.Test.YtbggohdpaodkeaaDoorKRightW
namespace Go.Proofs.YtbggohdpaodkeaaDoor
open Go.RowKit
attribute [local go_sem] ByteArray.mk_append_mk ByteArray.extract_mk
attribute [local go_sem ↓] Go.wp_at_zero Go.wp_at_succ
theorem from1_no (x : Int) (h1 : 1 ≤ x) (h2 : x ≤ 1099511627776) (g : Nat) (w : World) (hs : w.cell? ⟨g, 0, none⟩ = some (.int .i64 1)) :
    Calls Tryd.prog 45 #[.int .i64 x, .pointer (some ⟨g, 0, none⟩)] w fun e w' => e = .returned (.bool false) ∧ Below w.heap.size w w' := by
  go_enter Tryd.func45, Tryd.ntmps45
  go_wp2
  go_ret
  exact ⟨by simp; omega, b0 w⟩
set_option maxHeartbeats 1600000 in
set_option maxRecDepth 100000 in
theorem idxf_no (A : Option Addr) (cap : Nat) (ls : List Int) (hmax : ls.length ≤ 9223372036854775807) (hin : ∀ x ∈ ls, 1 ≤ x ∧ x ≤ 1099511627776) (g : Nat) (w : World) (hg : g < w.heap.size) (hs : w.cell? ⟨g, 0, none⟩ = some (.int .i64 1)) (hL : RdR ldC 1 w w.heap.size A ls) :
    Calls Tryd.prog 36 #[.slice A ls.length cap, .func (.func 45) #[] #[.pointer (some ⟨g, 0, none⟩)]] w fun e w' => e = .returned (.int .i64 (-1)) ∧ Below w.heap.size w w' := by
  go_enter Tryd.func36, Tryd.ntmps36
  go_wp2
  go_loopw [8] (fun i wr => CntRelW ls.length w i wr) (fun i _ => ls.length - (intOf i).toNat)
  case atStart =>
    exact ⟨0, rfl, Nat.zero_le _, Below.refl _ _⟩
  case round =>
    obtain ⟨k, rfl, hk, hb⟩ := hrel
    have hbs := hb.size
    have i0 : (0 : Int) ≤ (k : Int) := by omega
    by_cases hlt : k < ls.length
    case pos =>
      obtain ⟨b, off, rfl, hbB, g0⟩ := ldc_cells hL k hlt
      have c0 := (hb.cell (p := ⟨b, _, none⟩) hbB).trans g0
      have i1 : (k : Int) < (ls.length : Int) := by omega
      have H5 := Lib.hid ((hb.cell (p := ⟨g, 0, none⟩) hg).trans hs)
      have hi := hin ls[k] (List.getElem_mem hlt)
      obtain ⟨x, hx⟩ : ∃ x, ls[k] = x := ⟨_, rfl⟩
      rw [hx] at c0 hi
      clear hx g0 hs
      go_wp2_with fail
      refine (from1_no x hi.1 hi.2 g _ H5.out).mono ?_
      rintro e w1 ⟨rfl, hb1⟩
      go_wp2
      go_roundw
      case rel =>
        exact ⟨k + 1, by go_num, by omega, bt hb hb1⟩
      case measure =>
        simp [intOf]; omega
    case neg =>
      have hke : k = ls.length := by omega
      subst hke
      go_wp2
      go_ret
      exact ⟨rfl, hb⟩
theorem hasf_no (A : Option Addr) (cap : Nat) (ls : List Int) (hmax : ls.length ≤ 9223372036854775807) (hin : ∀ x ∈ ls, 1 ≤ x ∧ x ≤ 1099511627776) (g : Nat) (w : World) (hg : g < w.heap.size) (hs : w.cell? ⟨g, 0, none⟩ = some (.int .i64 1)) (hL : RdR ldC 1 w w.heap.size A ls) :
    Calls Tryd.prog 26 #[.slice A ls.length cap, .func (.func 45) #[] #[.pointer (some ⟨g, 0, none⟩)]] w fun e w' => e = .returned (.bool false) ∧ Below w.heap.size w w' := by
  go_enter Tryd.func26, Tryd.ntmps26
  go_wp2_with fail
  refine (idxf_no A cap ls hmax hin g w hg hs hL).mono ?_
  rintro e w1 ⟨rfl, d1⟩
  go_wp2
  go_ret
  exact ⟨rfl, d1⟩
theorem from_ok (A : Option Addr) (cap : Nat) (ls : List Int) (hmax : ls.length ≤ 9223372036854775807) (hin : ∀ x ∈ ls, 1 ≤ x ∧ x ≤ 1099511627776) (w : World) (hL : RdR ldC 1 w w.heap.size A ls) :
    Calls Tryd.prog 34 #[.int .i64 1, .slice A ls.length cap] w fun e w' => e = .returned (.bool true) ∧ Below w.heap.size w w' := by
  go_enter Tryd.func34, Tryd.ntmps34
  go_wp2_with fail
  have B1 : Blk (w.alloc (.cells #[.int .i64 1] 3)) w.heap.size 3 #[.int .i64 1] := Blk.new w _ _
  have hb1 : Below w.heap.size w (w.alloc (.cells #[.int .i64 1] 3)) := bal (b0 w) _
  refine (hasf_no A cap ls hmax hin w.heap.size _ B1.lt (B1.cell 0) (RdR.more (hL.below hb1 (Nat.le_refl _)) hb1.size)).mono ?_
  rintro e w1 ⟨rfl, d1⟩
  go_wp2
  go_ret
  exact ⟨rfl, bt hb1 d1⟩
/-- the request that is pending -/
abbrev rqP : Array Value := #[.int .i64 1, .int .i64 1, .int .i64 4, .string ⟨#[97]⟩, .string ⟨#[]⟩, .bool false, .string ⟨#[]⟩, .int .i64 0, .int .i64 0, .int .i64 0, .string ⟨#[]⟩, .int .i64 0]
theorem within_ok (n k : Int) (h1 : 0 ≤ n) (h2 : n ≤ k) (w : World) : Calls Tryd.prog 37 #[.int .i64 n, .int .i64 k] w fun e w' => e = .returned (.bool true) ∧ w' = w := by
  go_enter Tryd.func37, Tryd.ntmps37
  go_wp2
  go_ret
  exact ⟨by first | (simp; done) | (simp; omega), rfl⟩
theorem st0_ok (w : World) : Calls Tryd.prog 29 #[.agg #[.int .i64 0, .int .i64 0, .int .i64 0]] w fun e w' => e = .returned (.bool true) ∧ Below w.heap.size w w' := by
  go_enter Tryd.func29, Tryd.ntmps29
  go_wp2_with (first | (go_at_call 37; refine (within_ok _ _ (by omega) (by omega) _).mono ?_; rintro e w1 ⟨rfl, rfl⟩) | fail)
  go_ret
  exact ⟨rfl, bal (b0 w) _⟩
theorem Blk.rqP {w : World} {g : Nat} {t : TypeId} (h : Blk w g t rqP) : g < w.heap.size ∧ w.cell? ⟨g, 0, none⟩ = some (.int .i64 1) ∧ w.cell? ⟨g, 1, none⟩ = some (.int .i64 1) ∧ w.cell? ⟨g, 2, none⟩ = some (.int .i64 4) ∧ w.cell? ⟨g, 3, none⟩ = some (.string ⟨#[97]⟩) ∧ w.cell? ⟨g, 4, none⟩ = some (.string ⟨#[]⟩) ∧ w.cell? ⟨g, 5, none⟩ = some (.bool false) ∧ w.cell? ⟨g, 6, none⟩ = some (.string ⟨#[]⟩) ∧ w.cell? ⟨g, 7, none⟩ = some (.int .i64 0) ∧ w.cell? ⟨g, 8, none⟩ = some (.int .i64 0) ∧ w.cell? ⟨g, 9, none⟩ = some (.int .i64 0) ∧ w.cell? ⟨g, 10, none⟩ = some (.string ⟨#[]⟩) ∧ w.cell? ⟨g, 11, none⟩ = some (.int .i64 0) :=
  ⟨h.lt, h.cell 0, h.cell 1, h.cell 2, h.cell 3, h.cell 4, h.cell 5, h.cell 6, h.cell 7, h.cell 8, h.cell 9, h.cell 10, h.cell 11⟩
set_option maxHeartbeats 1600000 in
set_option maxRecDepth 100000 in
theorem rr_ok (w : World) (hT : Go.Lib.Utf8Tabs 0 1 w) : Calls Tryd.prog 24 #[.agg rqP] w fun e w' => e = .returned (.bool true) ∧ Below w.heap.size w w' := by
  go_enter Tryd.func24, Tryd.ntmps24
  have B1 : Blk ((w.alloc (.cells rqP 27)).alloc (.cells #[.int .i64 1, .int .i64 1] 3)) w.heap.size 27 rqP := (Blk.new w _ _).alloc _
  have hb1 : Below w.heap.size w ((w.alloc (.cells rqP 27)).alloc (.cells #[.int .i64 1, .int .i64 1] 3)) := bal (bal (b0 w) _) _
  have hlit := own_lit (w.alloc (.cells rqP 27)) 0 3 (ivF [1, 1]) 2 rfl (by decide) (Nat.zero_le _)
  go_wp2_with fail
  obtain ⟨hRl, _, _⟩ := own_i64s hlit
  clear hlit
  have hfr : Calls Tryd.prog 34 #[.int .i64 1, .slice (some ⟨w.heap.size + 1, 0, none⟩) 2 2] ((w.alloc (.cells rqP 27)).alloc (.cells #[.int .i64 1, .int .i64 1] 3)) fun e w' => e = .returned (.bool true) ∧ Below ((w.alloc (.cells rqP 27)).alloc (.cells #[.int .i64 1, .int .i64 1] 3)).heap.size ((w.alloc (.cells rqP 27)).alloc (.cells #[.int .i64 1, .int .i64 1] 3)) w' := by
    have hf := from_ok _ 2 [1, 1] (by decide) (by decide) _ hRl
    simpa [ivF] using hf
  refine hfr.mono ?_
  clear hfr hRl
  rintro e w1 ⟨rfl, d1⟩
  have C1 := B1.keep d1
  have hb2 : Below w.heap.size w w1 := bt hb1 d1
  clear B1 hb1 d1
  obtain ⟨lg, a0, a1, a2, a3, a4, a5, a6, a7, a8, a9, a10, a11⟩ := C1.rqP
  go_wp2_with fail
  refine (st0_ok w1).mono ?_
  rintro e w2 ⟨rfl, d2⟩
  have C2 := C1.keep d2
  have hb3 : Below w.heap.size w w2 := bt hb2 d2
  clear C1 hb2 d2
  clear lg a0 a1 a2 a3 a4 a5 a6 a7 a8 a9 a10 a11
  obtain ⟨lg, a0, a1, a2, a3, a4, a5, a6, a7, a8, a9, a10, a11⟩ := C2.rqP
  go_wp2_with fail
  refine (keyright_any [97] (by decide) w2 (Utf8Tabs_below hT hb3)).mono ?_
  rintro e w3 ⟨rfl, d3⟩
  go_wp2
  go_ret
  exact ⟨ret_bool (by decide +kernel), bt hb3 d3⟩
end Go.Proofs.YtbggohdpaodkeaaDoor
