/- book.PutShard, book.TakeShard. -/
import Derived.Test.YtkoligiilieboaaGreatDoorBkI3
set_option linter.unusedSimpArgs false
set_option linter.unusedVariables false
namespace Go.Proofs.YtkoligiilieboaaGreatDoor
open Go.RowKit
attribute [local go_sem] ByteArray.mk_append_mk ByteArray.extract_mk
attribute [local go_sem ↓] Go.wp_at_zero Go.wp_at_succ
def TakeShardPost (t : List UInt8) (w : World) (e : Ending) (w' : World) : Prop :=
 (∃ s, e = .returned (.tuple #[shV s, .int .i64 0]) ∧ fSh.rd ⟨false, t⟩ = (shF s, ⟨false, []⟩) ∧ shB s = true ∧ ShIn w' w'.heap.size s ∧ plainSh s ∧ Below w.heap.size w w') ∨
 (e = .returned (.tuple #[.agg zsA, .int .i64 3]) ∧ (∃ s r, fSh.rd ⟨false, t⟩ = (shF s, r) ∧ plainSh s ∧ (r.bad = true ∨ r.s ≠ [] ∨ shB s = false)) ∧ Below w.heap.size w w')
set_option maxHeartbeats 25600000 in
set_option maxRecDepth 100000 in
theorem takeshard_any (t : List UInt8) (N : Nat) (hN : N ≤ 4194304) (hN2 : t.length ≤ N) (w : World) (hT : Go.Lib.Utf8Tabs 0 1 w) :
  Calls Tryz.prog 6 #[.string ⟨t.toArray⟩] w (TakeShardPost t w) := by
 have hho : zsA.toList.all (·.oneCell') = true := (by with_unfolding_all rfl)
 go_enter Tryz.func6, Tryz.ntmps6
 go_upto_region 2 with (fail)
 have bz0 : Blk ((w.alloc (.cells zsA 30)).alloc (.cells (rsA ⟨false, t⟩) 70)) w.heap.size 30 zsA := (Blk.new w _ _).alloc _
 have br0 : Blk ((w.alloc (.cells zsA 30)).alloc (.cells (rsA ⟨false, t⟩) 70)) (w.heap.size + 1) 70 (rsA ⟨false, t⟩) := Blk.new' _ _ _ _ (by simp)
 have hb0 : Below w.heap.size w ((w.alloc (.cells zsA 30)).alloc (.cells (rsA ⟨false, t⟩) 70)) := bal (bal (b0 w) _) _
 generalize (w.alloc (.cells zsA 30)).alloc (.cells (rsA ⟨false, t⟩) 70) = W0 at *
 generalize hg1 : w.heap.size + 1 = gr at *
 go_wp2_with fail
 refine (rshd_any gr ⟨false, t⟩ N hN hN2 _ br0).mono ?_
 rintro e w1 ⟨mm, rr, rfl, hread, hlr, br1, hk, hO1⟩
 have bz1 := hk.kept _ _ _ (by omega) bz0
 have hb1 := hb0.trans (hk.below.mono (by omega))
 have hO := hO1.base (B' := w.heap.size) hb0.size
 have HREAD := Lib.hid hread
 have HPL := Lib.hid hO.pl
 have hsz : rr = ⟨false, []⟩ → (shBy mm).length ≤ N := fun h => by
  have h1 := fSh.bwd t _ _ hread (by rw [h])
  rw [shard_enc hO.inn, h] at h1
  have h2 := congrArg List.length h1.1
  simp at h2
  omega
 have HSZ := Lib.hid hsz
 clear hk br0 bz0 hb0 hO1 hread hsz
 have G : Blk (w1.alloc (.cells zsA 30)) w1.heap.size 30 zsA := Blk.new w1 _ _
 have hgr := br1.lt
 have hgz := bz1.lt
 have D : ∀ w', w' = (w1.alloc (.cells zsA 30)).setRow w1.heap.size (shA mm) → Below w.heap.size w w' ∧ Blk w' w.heap.size 30 zsA ∧ Blk w' gr 70 (rsA rr) ∧ Blk w' w1.heap.size 30 (shA mm) ∧ OwnSh w.heap.size mm w' := by
  rintro _ rfl
  have d : Below w1.heap.size w1 ((w1.alloc (.cells zsA 30)).setRow w1.heap.size (shA mm)) := below_row (bal (b0 w1) _) (Nat.le_refl _) _
  exact ⟨hb1.trans (d.mono hb1.size), bz1.keep d, br1.keep d, G.row _, hO.below d (Nat.le_refl _)⟩
 have hom : (shA mm).toList.all (·.oneCell') = true := (by with_unfolding_all rfl)
 go_wp2_with (with_reducible refine wpl_st G (by with_unfolding_all rfl) 30 _ _ (by with_unfolding_all rfl) (shA mm) (by with_unfolding_all rfl) (by with_unfolding_all rfl) (by with_unfolding_all rfl) (by with_unfolding_all rfl) hom ?_; refine Classical.byContradiction fun hno => ?_)
 refine hno ?_
 clear hno
 intro w2 e2
 obtain ⟨hb2, bz2, br2, bs2, hO2⟩ := D w2 e2
 clear e2 D G hO hb1 bz1 br1 hgr hgz
 generalize w1.heap.size = gs at *
 obtain ⟨bd, rs⟩ := rr
 have z0 : w2.cell? ⟨gr, 0, none⟩ = some (.string ⟨rs.toArray⟩) := br2.cell 0
 have z1 : w2.cell? ⟨gr, 1, none⟩ = some (.bool bd) := br2.cell 1
 have zl := br2.lt
 cases bd
 case true =>
  have D : ∀ w', w' = w2.setRow w.heap.size zsA → Below w.heap.size w w' ∧ Blk w' w.heap.size 30 zsA := by
   rintro _ rfl
   exact ⟨below_row hb2 (Nat.le_refl _) _, bz2.row _⟩
  go_wp2_with (with_reducible refine wpl_st bz2 (by with_unfolding_all rfl) 30 _ _ (by with_unfolding_all rfl) zsA (by with_unfolding_all rfl) (by with_unfolding_all rfl) (by with_unfolding_all rfl) (by with_unfolding_all rfl) hho ?_; refine Classical.byContradiction fun hno => ?_)
  refine hno ?_
  clear hno
  intro wz ez
  obtain ⟨bz, Fz⟩ := D wz ez
  clear ez D
  go_wp2_with fail
  exact bodyPost_ret (res2c Fz rfl rfl _ rfl _ Tryz.underlying30 rfl rfl) rfl (Or.inr ⟨rfl, ⟨mm, _, HREAD.out, HPL.out, Or.inl rfl⟩, bz⟩)
 case false =>
 by_cases hrs : rs = []
 case neg =>
  have hie := is_ne hrs
  have HRS := Lib.hid hrs
  clear hrs
  have D : ∀ w', w' = w2.setRow w.heap.size zsA → Below w.heap.size w w' ∧ Blk w' w.heap.size 30 zsA := by
   rintro _ rfl
   exact ⟨below_row hb2 (Nat.le_refl _) _, bz2.row _⟩
  go_wp2_with (with_reducible refine wpl_st bz2 (by with_unfolding_all rfl) 30 _ _ (by with_unfolding_all rfl) zsA (by with_unfolding_all rfl) (by with_unfolding_all rfl) (by with_unfolding_all rfl) (by with_unfolding_all rfl) hho ?_; refine Classical.byContradiction fun hno => ?_)
  refine hno ?_
  clear hno
  intro wz ez
  obtain ⟨bz, Fz⟩ := D wz ez
  clear ez D
  go_wp2_with fail
  exact bodyPost_ret (res2c Fz rfl rfl _ rfl _ Tryz.underlying30 rfl rfl) rfl (Or.inr ⟨rfl, ⟨mm, _, HREAD.out, HPL.out, Or.inr (Or.inl HRS.out)⟩, bz⟩)
 case pos =>
 subst hrs
 have hsz := HSZ.out (by first | trivial | rfl)
 obtain ⟨s1, s2, s3⟩ := sh_sizes hsz
 go_wp2_with (with_reducible refine wpl_ldg bs2 (by with_unfolding_all rfl) 30 _ (by with_unfolding_all rfl) (by with_unfolding_all rfl) _ Tryz.underlying30 (by with_unfolding_all rfl) (by with_unfolding_all rfl) ?_)
 refine (rshard_any mm w2 ⟨hO2.inn, by omega, by omega, fun x hx => by have := s3 x hx; omega⟩ (Utf8Tabs_below hT hb2)).mono ?_
 rintro e W3 ⟨rfl, d3⟩
 have hb3 := bt hb2 d3
 have bz3 := bz2.keep d3
 have bs3 := bs2.keep d3
 have hO3 := hO2.below d3 (Nat.le_refl _)
 clear z0 z1 zl hb2 bz2 bs2 br2 hO2 d3 s1 s2 s3 hsz
 cases hr : shB mm
 case false =>
  have HR := Lib.hid hr
  clear hr
  have D : ∀ w', w' = W3.setRow w.heap.size zsA → Below w.heap.size w w' ∧ Blk w' w.heap.size 30 zsA := by
   rintro _ rfl
   exact ⟨below_row hb3 (Nat.le_refl _) _, bz3.row _⟩
  go_wp2_with (with_reducible refine wpl_st bz3 (by with_unfolding_all rfl) 30 _ _ (by with_unfolding_all rfl) zsA (by with_unfolding_all rfl) (by with_unfolding_all rfl) (by with_unfolding_all rfl) (by with_unfolding_all rfl) hho ?_; refine Classical.byContradiction fun hno => ?_)
  refine hno ?_
  clear hno
  intro wz ez
  obtain ⟨bz, Fz⟩ := D wz ez
  clear ez D
  go_wp2_with fail
  exact bodyPost_ret (res2c Fz rfl rfl _ rfl _ Tryz.underlying30 rfl rfl) rfl (Or.inr ⟨rfl, ⟨mm, _, HREAD.out, HPL.out, Or.inr (Or.inr HR.out)⟩, bz⟩)
 case true =>
  have HR := Lib.hid hr
  clear hr
  have D : ∀ w', w' = W3.setRow w.heap.size (shA mm) → Below w.heap.size w w' ∧ Blk w' w.heap.size 30 (shA mm) ∧ ShIn w' w'.heap.size mm := by
   rintro _ rfl
   exact ⟨below_row hb3 (Nat.le_refl _) _, bz3.row _, (hO3.rowT bz3 (by decide) (by decide) (by decide) _).inn⟩
  go_wp2_with (first | (with_reducible refine wpl_ld bs3 (by with_unfolding_all rfl) 30 _ (by with_unfolding_all rfl) (by with_unfolding_all rfl) _ Tryz.underlying30 (by with_unfolding_all rfl) (by with_unfolding_all rfl) ?_) | (with_reducible refine wpl_st bz3 (by with_unfolding_all rfl) 30 _ _ (by with_unfolding_all rfl) (shA mm) (by with_unfolding_all rfl) (by with_unfolding_all rfl) (by with_unfolding_all rfl) (by with_unfolding_all rfl) hom ?_; refine Classical.byContradiction fun hno => ?_))
  refine hno ?_
  clear hno
  intro wz ez
  obtain ⟨bz, Fz, hMz⟩ := D wz ez
  clear ez D
  go_wp2_with fail
  exact bodyPost_ret (res2c Fz rfl rfl _ rfl _ Tryz.underlying30 rfl rfl) rfl (Or.inl ⟨mm, rfl, HREAD.out, HR.out, hMz, HPL.out, bz⟩)
end Go.Proofs.YtkoligiilieboaaGreatDoor
