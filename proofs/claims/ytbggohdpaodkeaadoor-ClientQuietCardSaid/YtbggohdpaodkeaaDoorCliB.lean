/- atlas.Right: some bool, for any places; client.known: the like. -/
import Derived.Test.YtbggohdpaodkeaaDoorCliA
namespace Go.Proofs.YtbggohdpaodkeaaDoor
open Go.RowKit
attribute [local go_sem] ByteArray.mk_append_mk ByteArray.extract_mk
attribute [local go_sem ↓] Go.wp_at_zero Go.wp_at_succ
def plSp (p : Pl) : Sp := ⟨p.lo, p.hi⟩
/-- some bool comes back, which is false where there is nothing -/
def SBn (n : Nat) (w : World) (e : Ending) (w' : World) : Prop := ∃ b, e = .returned (.bool b) ∧ (b = true → 0 < n) ∧ Below w.heap.size w w'
def AtRel (ps : List Pl) (w : World) (sl i : Value) (wr : World) : Prop :=
  ∃ (k : Nat), i = .int .i64 k ∧ k ≤ ps.length ∧ wr.ownsRow w.heap.size 57 2 sl k (spF ((ps.take k).map plSp)) ∧ Below w.heap.size w wr
theorem infoS : (Tryd.prog.info? 57).map (fun i => (i.zero, i.size, i.bytes)) = some (some (.agg #[.string ByteArray.empty, .string ByteArray.empty]), 2, 32) := by kernel_rfl
set_option maxHeartbeats 3200000 in
set_option maxRecDepth 100000 in
theorem atright_sb (A : Option Addr) (cap : Nat) (ps : List Pl) (hmax : ps.length ≤ 9223372036854775807) (hcap : ps.length ≤ cap) (hok : ∀ x ∈ ps, plOk x) (w : World) (hR : RdR plC 5 w w.heap.size A ps) (hT : Go.Lib.Utf8Tabs 0 1 w) :
    Calls Tryd.prog 30 #[.slice A ps.length cap] w (SBn ps.length w) := by
  obtain ⟨is, his, hz0, hz1, hz2⟩ := info_parts infoS
  by_cases h8 : 8 < (ps.length : Int)
  case pos =>
    go_enter Tryd.func30, Tryd.ntmps30
    go_wp2
    go_ret
    exact ⟨_, rfl, by simp, b0 w⟩
  case neg =>
  go_enter Tryd.func30, Tryd.ntmps30
  go_wp2
  go_loopw [3, 11] (fun sl i wr => AtRel ps w sl i wr) (fun _ i _ => ps.length - (intOf i).toNat)
  case atStart =>
    exact ⟨0, rfl, Nat.zero_le _, ⟨rfl, .inl ⟨rfl, rfl⟩⟩, Below.refl _ _⟩
  case round =>
    obtain ⟨k, rfl, hk, hown, hb⟩ := hrel
    have hbs := hb.size
    have i0 : (0 : Int) ≤ (k : Int) := by omega
    by_cases hlt : k < ps.length
    case pos =>
      obtain ⟨b, off, rfl, hbB, g0, g1, g2, g3, g4⟩ := plc_cells hR k hlt
      have c0 := (hb.cell (p := ⟨b, _, none⟩) hbB).trans g0
      have c1 := (hb.cell (p := ⟨b, _, none⟩) hbB).trans g1
      have c2 := (hb.cell (p := ⟨b, _, none⟩) hbB).trans g2
      have c3 := (hb.cell (p := ⟨b, _, none⟩) hbB).trans g3
      have c4 := (hb.cell (p := ⟨b, _, none⟩) hbB).trans g4
      have i1 : (k : Int) < (ps.length : Int) := by omega
      have hsn : (ps.take (k + 1)).map plSp = (ps.take k).map plSp ++ [plSp ps[k]] := by
        rw [List.take_succ_eq_append_getElem hlt, List.map_append]; rfl
      obtain ⟨x, hx⟩ : ∃ x, ps[k] = x := ⟨_, rfl⟩
      rw [hx] at c0 c1 c2 c3 c4 hsn
      clear hx g0 g1 g2 g3 g4
      obtain ⟨A0, c00, rfl⟩ := own_slice hown
      have G : Blk (wr.alloc (.cells zpA 59)) wr.heap.size 59 zpA := Blk.new wr _ _
      have hbx : ∀ w', w' = (wr.alloc (.cells zpA 59)).setRow wr.heap.size (plA x) → Below wr.heap.size wr w' ∧ Blk w' wr.heap.size 59 (plA x) := by
        rintro _ rfl
        exact ⟨below_row (bal (b0 wr) _) (Nat.le_refl _) _, G.row _⟩
      have j1 : (k : Int) ≤ (cap : Int) := by omega
      have HS := Lib.hid hsn
      clear hsn
      go_wp2_with (first | (with_reducible refine wpl_st G (by with_unfolding_all rfl) _ _ _ (by with_unfolding_all rfl) (plA x) (by with_unfolding_all rfl) (by with_unfolding_all rfl) (by with_unfolding_all rfl) (by with_unfolding_all rfl) (by with_unfolding_all rfl) ?_; intro w1 e1; obtain ⟨b1, B1⟩ := hbx w1 e1; clear e1 hbx G c0 c1 c2 c3 c4; obtain ⟨z0, z1, z2, z3, z4, z5, z6, z7, z8, z9, z10⟩ := B1.c5; go_wp2_with fail) | fail)
      refine (num_sb _ _).mono ?_
      rintro e w2 ⟨q1, rfl, d1⟩
      have e1 := d1
      have B2 := B1.keep d1
      obtain ⟨z0, z1, z2, z3, z4, z5, z6, z7, z8, z9, z10⟩ := B2.c5
      cases q1
      case false =>
        go_wp2
        go_ret
        exact ⟨_, rfl, by simp, bt hb (bt b1 e1)⟩
      case true =>
      go_wp2_with fail
      refine (num_sb _ _).mono ?_
      rintro e w3 ⟨q2, rfl, d2⟩
      have e2 := bt e1 d2
      have B3 := B2.keep d2
      obtain ⟨z0, z1, z2, z3, z4, z5, z6, z7, z8, z9, z10⟩ := B3.c5
      cases q2
      case false =>
        go_wp2
        go_ret
        exact ⟨_, rfl, by simp, bt hb (bt b1 e2)⟩
      case true =>
      go_wp2_with fail
      refine (cell_sb _ _).mono ?_
      rintro e w4 ⟨q3, rfl, d3⟩
      have e3 := bt e2 d3
      have B4 := B3.keep d3
      obtain ⟨z0, z1, z2, z3, z4, z5, z6, z7, z8, z9, z10⟩ := B4.c5
      cases q3
      case false =>
        go_wp2
        go_ret
        exact ⟨_, rfl, by simp, bt hb (bt b1 e3)⟩
      case true =>
      go_wp2_with fail
      have hbw4 : Below w.heap.size w w4 := bt hb (bt b1 e3)
      have b4 : Below wr.heap.size wr w4 := bt b1 e3
      have hR4 : RdR plC 5 w4 w4.heap.size (some ⟨b, off, none⟩) (ps.take k) := (RdR.more (hR.below hbw4 (Nat.le_refl _)) hbw4.size).take k
      have hcf := idxp_has (some ⟨b, off, none⟩) cap (ps.take k) (by simp; omega) wr.heap.size x.sh w4 z0 z3 hR4
      rw [List.length_take, Nat.min_eq_left (Nat.le_of_lt hlt)] at hcf
      refine hcf.mono ?_
      clear hcf hR4
      rintro e w5 ⟨q4, rfl, d4⟩
      have B5 := B4.keep d4
      obtain ⟨z0, z1, z2, z3, z4, z5, z6, z7, z8, z9, z10⟩ := B5.c5
      have hb5 : Below w.heap.size w w5 := bt hbw4 d4
      cases q4
      case true =>
        go_wp2
        go_ret
        exact ⟨_, rfl, by simp, hb5⟩
      case false =>
      have hown5 := own_below hown (bt b4 d4) (Nat.le_refl _)
      have hb5s := hb5.size
      go_wp2_with (at_builtin; refine wpList_pushR (by rfl) _ _ _ (by rfl) w.heap.size 57 is _ 2 32 Tryd.underlying79 his hz0 hz1 hz2 rfl (by decide) w5 _ k (spF ((ps.take k).map plSp)) (by rfl) hown5 (spC (plSp x)) rfl (by intro u hu; simp [spC] at hu; rcases hu with rfl | rfl <;> rfl) 1 (by rfl) (by omega) (by omega) hb5s ?_; intro g cap' w6 hown6 hb6)
      go_roundw
      case rel =>
        refine ⟨k + 1, by go_num, by omega, ?_, hb5.trans hb6⟩
        rw [HS.out, spF_snoc]
        exact hown6
      case measure =>
        simp [intOf]; omega
    case neg =>
      have hke : k = ps.length := by omega
      subst hke
      obtain ⟨A0, c00, rfl⟩ := own_slice hown
      have hR2 : RdR spC 2 wr wr.heap.size A0 (ps.map plSp) := own_spans (by simpa using hown) (by simp)
      have hwh := spwhole_any A0 c00 (ps.map plSp) (by simpa using hmax) (by
        intro y hy
        obtain ⟨p, hp, rfl⟩ := List.mem_map.1 hy
        exact hok p hp) wr hR2 (Utf8Tabs_below hT hb)
      rw [List.length_map] at hwh
      go_wp2_with fail
      refine hwh.mono ?_
      rintro e w1 ⟨rfl, d1⟩
      clear hwh
      go_wp2
      go_ret
      exact ⟨_, rfl, fun hq => by (rcases Nat.eq_zero_or_pos ps.length with h0 | h0; (rw [List.eq_nil_of_length_eq_zero h0] at hq; cases hq); exact h0), bt hb d1⟩
theorem known_sb (A : Option Addr) (cap : Nat) (ps : List Pl) (hmax : ps.length ≤ 9223372036854775807) (hcap : ps.length ≤ cap) (hok : ∀ x ∈ ps, plOk x) (B : Option Addr) (cl : Nat) (ls : List Int) (hml : ls.length ≤ 9223372036854775807) (w : World) (hR : RdR plC 5 w w.heap.size A ps)
    (hL : RdR ldC 1 w w.heap.size B ls) (hT : Go.Lib.Utf8Tabs 0 1 w) : Calls Tryd.prog 17 #[.slice A ps.length cap, .slice B ls.length cl] w (SBn (min ps.length ls.length) w) := by
  go_enter Tryd.func17, Tryd.ntmps17
  go_wp2_with fail
  refine (atright_sb A cap ps hmax hcap hok w hR hT).mono ?_
  rintro e w1 ⟨q1, rfl, hq1, d1⟩
  cases q1
  case false =>
    go_wp2
    go_ret
    exact ⟨_, rfl, by simp, d1⟩
  case true =>
    by_cases h3 : (ls.length : Int) = 3
    case neg =>
      go_wp2
      go_ret
      exact ⟨_, rfl, by simp, d1⟩
    case pos =>
      go_wp2_with fail
      refine (idxk_has B cl ls hml w1 (RdR.more (hL.below d1 (Nat.le_refl _)) d1.size)).mono ?_
      rintro e w2 ⟨q2, rfl, d2⟩
      cases q2
      all_goals
        go_wp2
        go_ret
        exact ⟨_, rfl, fun _ => by have h0 : 0 < ps.length := (by first | exact hq1 trivial | exact hq1 rfl | exact hq1); omega, bt d1 d2⟩
end Go.Proofs.YtbggohdpaodkeaaDoor
