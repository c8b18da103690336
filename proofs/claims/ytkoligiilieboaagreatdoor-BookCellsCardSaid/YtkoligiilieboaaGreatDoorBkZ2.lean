/- book.PutCell: a cell as bytes. -/
import Derived.Test.YtkoligiilieboaaGreatDoorBkZ
set_option linter.unusedSimpArgs false
set_option linter.unusedVariables false
namespace Go.Proofs.YtkoligiilieboaaGreatDoor
open Go.RowKit
attribute [local go_sem] ByteArray.mk_append_mk ByteArray.extract_mk
attribute [local go_sem ↓] Go.wp_at_zero Go.wp_at_succ
def putC (c : Ce) : List UInt8 × Nat := if ceB c = true then (ceBy c, 0) else ([], 1)
theorem ssBy_len (l : List Sh) (h : ∀ s ∈ l, (shBy s).length ≤ 300000) : (l.flatMap shBy).length ≤ 300000 * l.length := by
 induction l with
 | nil => simp
 | cons e l ih =>
  have h1 := ih fun x hx => h x (List.mem_cons_of_mem _ hx)
  have h2 := h e List.mem_cons_self
  simp only [List.flatMap_cons, List.length_append, List.length_cons]
  omega
set_option maxHeartbeats 12800000 in
set_option maxRecDepth 100000 in
theorem putcell_any (c : Ce) (w : World) (hI : CeOk w w.heap.size c) (hT : Go.Lib.Utf8Tabs 0 1 w) :
  Calls Tryz.prog 19 #[ceV c] w fun e w' => e = .returned (.tuple #[.string ⟨(putC c).1.toArray⟩, .int .i64 (putC c).2]) ∧ Below w.heap.size w w' := by
 have B0 : Blk (w.alloc (.cells (ceA c) 38)) w.heap.size 38 (ceA c) := Blk.new w _ _
 have hb0 : Below w.heap.size w (w.alloc (.cells (ceA c) 38)) := bal (b0 w) _
 go_enter Tryz.func19, Tryz.ntmps19
 go_upto_region 1 with (fail)
 generalize w.alloc (.cells (ceA c) 38) = W at *
 go_wp2_with (with_reducible refine wpl_ld B0 (by with_unfolding_all rfl) 38 _ (by with_unfolding_all rfl) (by with_unfolding_all rfl) _ Tryz.underlying38 (by with_unfolding_all rfl) (by with_unfolding_all rfl) ?_)
 refine (cright_any c W (hI.kept hb0) (Utf8Tabs_below hT hb0)).mono ?_
 rintro e w1 ⟨rfl, d1⟩
 have B1 := B0.keep d1
 have hb1 := bt hb0 d1
 clear B0 d1 hT
 cases hr : ceB c
 case false =>
  have hv : putC c = ([], 1) := by unfold putC; rw [if_neg (by rw [hr]; simp)]
  have HV := Lib.hid hv
  clear hv hr
  go_wp2
  go_ret2
  exact ⟨by rw [HV.out] <;> rfl, hb1⟩
 case true =>
 have hv : putC c = (ceBy c, 0) := by unfold putC; rw [if_pos hr]
 have HV := Lib.hid hv
 clear hv
 obtain ⟨hs8, hrt, hdr, hsh⟩ := ceB_parts hr
 have hd63 : c.drop ≤ 9223372036854775807 := by omega
 have HSH := Lib.hid hsh
 clear hr hrt hdr hsh
 have hsn := hI.inn.len
 have h63 := hI.inn.m63
 have HI := Lib.hid hI
 clear hI
 have hwr : Blk (w1.alloc (.cells #[.slice none 0 0] 90)) w1.heap.size 90 #[.slice none 0 0] := Blk.new w1 _ _
 have W1 : Wr w.heap.size w1.heap.size [] (w1.alloc (.cells #[.slice none 0 0] 90)) := ⟨_, hwr, World.ownsRow_nil _ _ _ _⟩
 have hb2 : Below w.heap.size w (w1.alloc (.cells #[.slice none 0 0] 90)) := bal hb1 _
 have B2 := B1.alloc (.cells #[.slice none 0 0] 90)
 have hbg : w.heap.size < w1.heap.size := B1.lt
 go_upto_region 4 with (fail)
 generalize w1.alloc (.cells #[.slice none 0 0] 90) = V0 at *
 generalize w1.heap.size = gw at *
 clear hb1 B1 hwr hb0
 have hbw0 : w.heap.size ≤ V0.heap.size := hb2.size
 have hne : w.heap.size ≠ gw := by omega
 have K0 : KW w.heap.size gw V0 V0 := Kp.refl
 have c1 : V0.cell? ⟨w.heap.size, 1, none⟩ = some (.int .i64 c.ta) := B2.cell 1
 have c2 : V0.cell? ⟨w.heap.size, 2, none⟩ = some (.int .i64 c.tt) := B2.cell 2
 have c3 : V0.cell? ⟨w.heap.size, 3, none⟩ = some (.int .i64 c.tn) := B2.cell 3
 have gl := B2.lt
 go_wp2_with fail
 refine (wstamps_any w.heap.size gw (Nat.le_of_lt hbg) [] [(c.ta, c.tt, c.tn)] (some ⟨V0.heap.size, 0, none⟩) 1 (V0.alloc (.cells #[.int .i64 c.ta, .int .i64 c.tt, .int .i64 c.tn] 27)) (by simp) (by simp) (Nat.le_trans hbw0 (by simp)) (W1.alloc _) (lit_stamp _ _ _ _ rfl W1.lt)).mono ?_
 rintro e V1 ⟨rfl, W2, hk⟩
 have K1 := (K0.alloc hbw0 _).trans hk
 have B3 := K1.blk B2 hne (by decide)
 clear c1 c2 c3 gl W1 K0 hk
 have c0 : V1.cell? ⟨w.heap.size, 0, none⟩ = some (.slice c.sA c.sn c.sc) := B3.cell 0
 have c4 : V1.cell? ⟨w.heap.size, 4, none⟩ = some (.int .i64 c.drop) := B3.cell 4
 have gl := B3.lt
 go_wp2_with fail
 have hl1 := stamps1 (c.ta, c.tt, c.tn)
 refine (wnums_any w.heap.size gw (Nat.le_of_lt hbg) _ [c.drop, (c.sn : Int)] (some ⟨V1.heap.size, 0, none⟩) 2 (V1.alloc (.cells #[.int .i64 c.drop, .int .i64 (c.sn : Int)] 3)) ?hz ?hlen (by simp) (Nat.le_trans hbw0 (Nat.le_trans K1.size (by simp))) (W2.alloc _) (lit_nums [c.drop, (c.sn : Int)] _ rfl W2.lt)).mono ?_
 case hz => intro z hz; simp only [List.mem_cons, List.not_mem_nil, or_false] at hz; rcases hz with rfl | rfl <;> omega
 case hlen => rw [List.length_append]; simp only [List.length_cons, List.length_nil]; omega
 rintro e V2 ⟨rfl, W3, hk⟩
 have K2 := (K1.alloc hbw0 _).trans hk
 have B4 := K2.blk B2 hne (by decide)
 clear c0 c4 gl W2 K1 hk B3
 have hl2 := numsB_len [c.drop, (c.sn : Int)]
 simp only [List.length_cons, List.length_nil] at hl2
 have c0 : V2.cell? ⟨w.heap.size, 0, none⟩ = some (.slice c.sA c.sn c.sc) := B4.cell 0
 have gl := B4.lt
 go_wp2_with fail
 clear c0 gl B4
 go_loopw [24] (fun i wr => ∃ k : Nat, i = .int .i64 k ∧ k ≤ c.sn ∧ KW w.heap.size gw V0 wr ∧ Wr w.heap.size gw ([] ++ stampsB [(c.ta, c.tt, c.tn)] ++ numsB [c.drop, (c.sn : Int)] ++ (c.ss.take k).flatMap shBy) wr) (fun i _ => c.sn - (intOf i).toNat)
 case atStart => exact ⟨0, rfl, Nat.zero_le _, K2, by simpa using W3⟩
 case round =>
  clear K2 W3
  obtain ⟨k, rfl, hk, KA, WA⟩ := hrel
  have i0 : (0 : Int) ≤ (k : Int) := by omega
  by_cases hlt : k < c.sn
  case pos =>
   have i1 : (k : Int) < (c.sn : Int) := by omega
   have hbA : Below w.heap.size w wr := hb2.trans KA.below
   have hin := HI.out.inn.below hbA (Nat.le_refl _)
   obtain ⟨b, off, hA, hbB, rx⟩ := hin.row.at k (by omega)
   have hss := hin.ss (c.ss[k]'(by omega)) (List.getElem_mem (by omega))
   have hsn2 := flatMap_snoc shBy c.ss k (by omega)
   have hsb := HSH.out (c.ss[k]'(by omega)) (List.getElem_mem (by omega))
   have hll := ssBy_len (c.ss.take k) (fun x hx => shBy_len (hin.ss x (List.mem_of_mem_take hx)) (HSH.out x (List.mem_of_mem_take hx)))
   rw [List.length_take] at hll
   obtain ⟨x, hx⟩ : ∃ x, c.ss[k]'(by omega) = x := ⟨_, rfl⟩
   simp only [hx] at rx hss hsn2 hsb
   have HSN := Lib.hid hsn2
   have HSS := Lib.hid hss
   have HSB := Lib.hid hsb
   clear hx hsn2 hss hsb hin
   rw [hA]
   have G : Blk (wr.alloc (.cells zsA 30)) wr.heap.size 30 zsA := Blk.new wr _ _
   have hgd : wr.heap.size ≠ gw := by have := WA.lt; omega
   have hwl : V0.heap.size ≤ wr.heap.size := KA.size
   have D1 : ∀ w', w' = (wr.alloc (.cells zsA 30)).setRow wr.heap.size (shA x) → KW w.heap.size gw V0 w' ∧ Wr w.heap.size gw ([] ++ stampsB [(c.ta, c.tt, c.tn)] ++ numsB [c.drop, (c.sn : Int)] ++ (c.ss.take k).flatMap shBy) w' ∧ Blk w' wr.heap.size 30 (shA x) ∧ ShIn w' w.heap.size x := by
    rintro _ rfl
    have hkk : KW w.heap.size gw wr ((wr.alloc (.cells zsA 30)).setRow wr.heap.size (shA x)) := (Kp.refl.alloc (Nat.le_trans hbw0 hwl) _).rowN (Nat.le_refl _) (Nat.le_trans hbw0 hwl) _
    exact ⟨KA.trans hkk, (WA.alloc _).row hgd G (by decide) _, G.row _, HSS.out.below hkk.below (Nat.le_refl _)⟩
   go_wp2_with (first | (with_reducible refine wpl_ldr b (off + k * 17) (shC x) rx (by with_unfolding_all rfl) 30 _ (by with_unfolding_all rfl) (by with_unfolding_all rfl) _ Tryz.underlying30 (by with_unfolding_all rfl) (by with_unfolding_all rfl) ?_) | (with_reducible refine wpl_st G (by with_unfolding_all rfl) _ _ _ (by with_unfolding_all rfl) (shA x) (by with_unfolding_all rfl) (by with_unfolding_all rfl) (by with_unfolding_all rfl) (by with_unfolding_all rfl) (by with_unfolding_all rfl) ?_; refine Classical.byContradiction fun hno => ?_))
   refine hno ?_
   clear hno
   intro w1 e1
   obtain ⟨KB, WB, BD, IX⟩ := D1 w1 e1
   clear e1 D1 G rx KA WA hbA
   generalize wr.heap.size = gd at *
   go_wp2_with (with_reducible refine wpl_ld BD (by with_unfolding_all rfl) 30 _ (by with_unfolding_all rfl) (by with_unfolding_all rfl) _ Tryz.underlying30 (by with_unfolding_all rfl) (by with_unfolding_all rfl) ?_)
   refine (wshard_any w.heap.size gw (Nat.le_of_lt hbg) _ x w1 (wok_of HSB.out) ?hlen (Nat.le_trans hbw0 KB.size) WB IX).mono ?_
   case hlen => simp only [List.length_append, List.length_nil]; omega
   rintro e V9 ⟨rfl, WC, hk9⟩
   have KC := KB.trans hk9
   clear KB hk9 WB IX BD hll
   go_wp2_with fail
   go_roundw
   case rel => exact ⟨k + 1, by go_num, by omega, KC, by rw [HSN.out, ← List.append_assoc]; exact WC⟩
   case measure => simp [intOf]; omega
  case neg =>
   have hke : k = c.sn := by omega
   have htk : c.ss.take k = c.ss := take_full _ _ (by omega)
   rw [htk] at WA
   have SZ : Wr w.heap.size gw (ceBy c) wr := by simpa [ceBy, List.append_assoc] using WA
   have hbz := hb2.trans KA.below
   clear htk WA
   obtain ⟨v, hB, hown⟩ := SZ
   obtain ⟨gl, v0, v1⟩ := hB.c1
   obtain ⟨Az, cz, rfl⟩ := own_slice hown
   have kc := run_conv_any (P := Tryz.prog) wr Tryz.underlying88 Tryz.underlying5 Tryz.underlying9 hown
   clear hown hB
   go_wp2
   go_ret2
   exact ⟨by rw [HV.out] <;> rfl, hbz⟩
end Go.Proofs.YtkoligiilieboaaGreatDoor
