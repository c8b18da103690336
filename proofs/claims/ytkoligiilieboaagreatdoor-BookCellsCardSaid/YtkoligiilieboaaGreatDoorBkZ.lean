/- The writer's shard. -/
import Derived.Test.YtkoligiilieboaaGreatDoorBkY4
import Derived.Test.YtkoligiilieboaaGreatDoorBkH
set_option linter.unusedSimpArgs false
set_option linter.unusedVariables false
namespace Go.Proofs.YtkoligiilieboaaGreatDoor
open Go.RowKit
attribute [local go_sem] ByteArray.mk_append_mk ByteArray.extract_mk
attribute [local go_sem ↓] Go.wp_at_zero Go.wp_at_succ
section
variable {base gw : Nat} {W w w1 : World}
theorem lit_stamps (zs : List Stm) (p : Nat) (hp : p = W.heap.size) (hg : gw < W.heap.size) (cs : Array Value) (hc : ∀ k (h : k < zs.length), cs[k * 3]? = some (.int .i64 zs[k].1) ∧ cs[k * 3 + 1]? = some (.int .i64 zs[k].2.1) ∧ cs[k * 3 + 2]? = some (.int .i64 zs[k].2.2)) :
    ∀ w', KW base gw (W.alloc (.cells cs 27)) w' → RdR smC 3 w' w'.heap.size (some ⟨p, 0, none⟩) zs := fun w' hk _ => by
  subst hp
  have hB := hk.blk (Blk.new W 27 cs) (by omega) (by decide)
  refine ⟨W.heap.size, 0, rfl, hB.lt, fun k hk2 j u hu => ?_⟩
  rw [Nat.zero_add, hB.cell]
  obtain ⟨h0, h1, h2⟩ := hc k hk2
  have hj : j < 3 := (List.getElem?_eq_some_iff.1 hu).1
  rcases (by omega : j = 0 ∨ j = 1 ∨ j = 2) with rfl | rfl | rfl
  · rw [Nat.add_zero, h0]; exact hu
  · rw [h1]; exact hu
  · rw [h2]; exact hu
theorem lit_stamp2 (a t n a' t' n' : Int) (p : Nat) (hp : p = W.heap.size) (hg : gw < W.heap.size) : ∀ w', KW base gw (W.alloc (.cells #[.int .i64 a, .int .i64 t, .int .i64 n, .int .i64 a', .int .i64 t', .int .i64 n'] 27)) w' → RdR smC 3 w' w'.heap.size (some ⟨p, 0, none⟩) [(a, t, n), (a', t', n')] :=
  lit_stamps _ p hp hg _ fun k h => by
    have h : k < 2 := h
    rcases (by omega : k = 0 ∨ k = 1) with rfl | rfl
    · exact ⟨rfl, rfl, rfl⟩
    · exact ⟨rfl, rfl, rfl⟩
theorem Kp.rowN {x : Nat} {e : TypeId} {b : Nat} (h : Kp base x e w w1) (hb : w.heap.size ≤ b) (hbb : base ≤ b) (vs : Array Value) : Kp base x e w (w1.setRow b vs) :=
  ⟨below_row h.below hbb vs, fun g T cs hg hT hB => (h.kept g T cs hg hT hB).row_far (fun hh => by have := hB.lt; omega) vs⟩
end
theorem stamps2 (x y : Stm) : (stampsB [x, y]).length ≤ 54 := by
  have h1 := stamps1 x
  have h2 := stamps1 y
  have : (stampsB [x, y]).length = (stampsB [x]).length + (stampsB [y]).length := by simp [stampsB]
  omega
theorem take_full {α : Type} (l : List α) (n : Nat) (h : l.length = n) : l.take n = l := List.take_of_length_le (by omega)
/-- what the writer asks of a shard -/
structure WOk (s : Sh) : Prop where
  num : ∀ z ∈ [s.id, s.epoch, s.phase, s.hold, s.seen, s.move, s.closed], z ≤ 9223372036854775807
  lo : s.lo.length ≤ 16
  hi : s.hi.length ≤ 16
  en : s.es.length ≤ 64
  es : ∀ e ∈ s.es, e.key.length ≤ 16 ∧ e.vs.length ≤ 64 ∧ ∀ v ∈ e.vs, v.val.length ≤ 16
  dn : s.ds.length ≤ 8
  ds : ∀ d ∈ s.ds, (∀ z ∈ [d.cl, d.rq, d.ans.er], z ≤ 9223372036854775807) ∧ d.ans.vl.length ≤ 16
theorem wok_of {s : Sh} (h : shB s = true) : WOk s := by
  obtain ⟨h1, h2, h3, h4, h5, h6, _⟩ := shB_parts h
  obtain ⟨⟨a1, a2⟩, ⟨b1, b2⟩, ⟨c1, c2⟩, ⟨d1, d2⟩, ⟨e1, e2⟩, ⟨f1, f2⟩, g1, g2⟩ := numB_parts h1
  have l1 := lo_len h2
  have l2 := hi_len h2
  simp only at l1 l2
  unfold ixB at h3
  simp only [Bool.and_eq_true, decide_eq_true_eq] at h3
  unfold ddB at h6
  simp only [Bool.and_eq_true, decide_eq_true_eq] at h6
  refine ⟨?_, by omega, by omega, h3.1, fun e he => ?_, h6.1, fun d hd => ?_⟩
  · intro z hz
    simp only [List.mem_cons, List.not_mem_nil, or_false] at hz
    rcases hz with rfl | rfl | rfl | rfl | rfl | rfl | rfl <;> omega
  · obtain ⟨k1, k2, k3, k4⟩ := enB_parts (rowB_mem h3.2 he)
    exact ⟨k1, k2, fun v hv => (vsB_parts (rowB_mem k4 hv)).2⟩
  · obtain ⟨p1, p2, p3, _, p4⟩ := dnB_parts (rowB_mem h6.2 hd)
    refine ⟨?_, p4⟩
    intro z hz
    simp only [List.mem_cons, List.not_mem_nil, or_false] at hz
    rcases hz with rfl | rfl | rfl <;> omega
theorem enBy_len2 {e : En} (h : e.key.length ≤ 16 ∧ e.vs.length ≤ 64 ∧ ∀ v ∈ e.vs, v.val.length ≤ 16) : (enBy e).length ≤ 4000 := by
  have h1 := chBy_len e.vs h.2.2
  have h2 := texts1 e.key
  have h3 := numsB_len [(e.n : Int)]
  simp only [List.length_cons, List.length_nil] at h3
  unfold enBy
  simp only [List.length_append]
  omega
set_option maxHeartbeats 12800000 in
set_option maxRecDepth 100000 in
theorem wshard_any (base gw : Nat) (hbg : base ≤ gw) (bs : List UInt8) (s : Sh) (w : World) (hO : WOk s) (hlen : bs.length ≤ 100000000) (hbw : base ≤ w.heap.size) (hW : Wr base gw bs w) (hI : ShIn w base s) :
    Calls Tryz.prog 44 #[.pointer (some ⟨gw, 0, none⟩), shV s] w fun e w' => e = .returned (.tuple #[]) ∧ Wr base gw (bs ++ shBy s) w' ∧ KW base gw w w' := by
  have B0 : Blk (w.alloc (.cells (shA s) 30)) w.heap.size 30 (shA s) := Blk.new w _ _
  have KO : KW base gw w (w.alloc (.cells (shA s) 30)) := Kp.refl.alloc hbw _
  have WR0 := hW.alloc (.cells (shA s) 30)
  have hgw := hW.lt
  have I0 := hI.below KO.below (Nat.le_refl _)
  have hen := hI.elen
  have hdn := hI.dlen
  have he63 := hI.e63
  have hd63 := hI.d63
  have HNm := Lib.hid hO.num
  have HEs := Lib.hid hO.es
  have HDs := Lib.hid hO.ds
  have hlo := hO.lo
  have hhi := hO.hi
  have hn64 := hO.en
  have hd8 := hO.dn
  clear hO
  go_enter Tryz.func44, Tryz.ntmps44
  go_upto_region 1 with (fail)
  clear hW hI
  have hbw0 : base ≤ (w.alloc (.cells (shA s) 30)).heap.size := Nat.le_trans hbw KO.size
  generalize w.alloc (.cells (shA s) 30) = W0 at *
  obtain ⟨gs, hgs⟩ : ∃ gs, w.heap.size = gs := ⟨_, rfl⟩
  have hne : gs ≠ gw := by omega
  rw [hgs] at B0 hgw
  simp only [hgs]
  clear hgs
  have HI := Lib.hid I0
  clear I0
  have K0 : KW base gw W0 W0 := Kp.refl
  have HL0 := hlen
  have gB := K0.blk B0 hne (by decide)
  have c0 : W0.cell? ⟨gs, 0, none⟩ = some (.int .i64 s.id) := gB.cell 0
  have c1 : W0.cell? ⟨gs, 1, none⟩ = some (.int .i64 s.epoch) := gB.cell 1
  have c4 : W0.cell? ⟨gs, 4, none⟩ = some (.int .i64 s.phase) := gB.cell 4
  have c13 : W0.cell? ⟨gs, 13, none⟩ = some (.int .i64 s.hold) := gB.cell 13
  have c14 : W0.cell? ⟨gs, 14, none⟩ = some (.int .i64 s.seen) := gB.cell 14
  have c15 : W0.cell? ⟨gs, 15, none⟩ = some (.int .i64 s.move) := gB.cell 15
  have c16 : W0.cell? ⟨gs, 16, none⟩ = some (.int .i64 s.closed) := gB.cell 16
  have gl := gB.lt
  go_wp2_with fail
  refine (wnums_any base gw hbg _ [s.id, s.epoch, s.phase, s.hold, s.seen, s.move, s.closed] (some ⟨W0.heap.size, 0, none⟩) 7 (W0.alloc (.cells #[.int .i64 (s.id), .int .i64 (s.epoch), .int .i64 (s.phase), .int .i64 (s.hold), .int .i64 (s.seen), .int .i64 (s.move), .int .i64 (s.closed)] 3)) ?hz ?hlen (by simp) (Nat.le_trans hbw0 (Nat.le_trans K0.size (by simp))) (WR0.alloc _) (lit_nums [s.id, s.epoch, s.phase, s.hold, s.seen, s.move, s.closed] _ rfl WR0.lt)).mono ?_
  case hz => exact HNm.out
  case hlen => simp only [List.length_cons, List.length_nil]; omega
  rintro e0 V1 ⟨rfl, hw, hk⟩
  have K1 := (K0.alloc hbw0 _).trans hk
  have WR1 := hw
  clear hw hk WR0 K0 c0 c1 c4 c13 c14 c15 c16 gB gl
  have HL1 : (bs ++ numsB [s.id, s.epoch, s.phase, s.hold, s.seen, s.move, s.closed]).length ≤ 100000063 := by rw [List.length_append]; have hlx := numsB_len [s.id, s.epoch, s.phase, s.hold, s.seen, s.move, s.closed]; simp only [List.length_cons, List.length_nil] at hlx; omega
  clear HL0
  have gB := K1.blk B0 hne (by decide)
  have c2 : V1.cell? ⟨gs, 2, none⟩ = some (.string ⟨s.lo.toArray⟩) := gB.cell 2
  have c3 : V1.cell? ⟨gs, 3, none⟩ = some (.string ⟨s.hi.toArray⟩) := gB.cell 3
  have gl := gB.lt
  go_wp2_with fail
  have hlx := texts2 (s.lo) (s.hi)
  refine (wtexts_any base gw hbg _ [s.lo, s.hi] (some ⟨V1.heap.size, 0, none⟩) 2 (V1.alloc (.cells #[.string ⟨(s.lo).toArray⟩, .string ⟨(s.hi).toArray⟩] 9)) ?hlen (by simp) (Nat.le_trans hbw0 (Nat.le_trans K1.size (by simp))) (WR1.alloc _) (lit_texts [s.lo, s.hi] _ rfl WR1.lt)).mono ?_
  case hlen => omega
  rintro e1 V2 ⟨rfl, hw, hk⟩
  have K2 := (K1.alloc hbw0 _).trans hk
  have WR2 := hw
  clear hw hk WR1 K1 c2 c3 gB gl
  have HL2 : (bs ++ numsB [s.id, s.epoch, s.phase, s.hold, s.seen, s.move, s.closed] ++ textsB [s.lo, s.hi]).length ≤ 100000113 := by rw [List.length_append]; skip; omega
  clear HL1
  clear hlx
  have gB := K2.blk B0 hne (by decide)
  have c6 : V2.cell? ⟨gs, 6, none⟩ = some (.int .i64 s.ma) := gB.cell 6
  have c7 : V2.cell? ⟨gs, 7, none⟩ = some (.int .i64 s.mt) := gB.cell 7
  have c8 : V2.cell? ⟨gs, 8, none⟩ = some (.int .i64 s.mn) := gB.cell 8
  have c9 : V2.cell? ⟨gs, 9, none⟩ = some (.int .i64 s.ta) := gB.cell 9
  have c10 : V2.cell? ⟨gs, 10, none⟩ = some (.int .i64 s.tt) := gB.cell 10
  have c11 : V2.cell? ⟨gs, 11, none⟩ = some (.int .i64 s.tn) := gB.cell 11
  have gl := gB.lt
  go_wp2_with fail
  refine (wstamps_any base gw hbg _ [(s.ma, s.mt, s.mn), (s.ta, s.tt, s.tn)] (some ⟨V2.heap.size, 0, none⟩) 2 (V2.alloc (.cells #[.int .i64 s.ma, .int .i64 s.mt, .int .i64 s.mn, .int .i64 s.ta, .int .i64 s.tt, .int .i64 s.tn] 27)) ?hlen (by simp) (Nat.le_trans hbw0 (Nat.le_trans K2.size (by simp))) (WR2.alloc _) (lit_stamp2 _ _ _ _ _ _ _ rfl WR2.lt)).mono ?_
  case hlen => simp only [List.length_cons, List.length_nil]; omega
  rintro e2 V3 ⟨rfl, hw, hk⟩
  have K3 := (K2.alloc hbw0 _).trans hk
  have WR3 := hw
  clear hw hk WR2 K2 c6 c7 c8 c9 c10 c11 gB gl
  have HL3 : (bs ++ numsB [s.id, s.epoch, s.phase, s.hold, s.seen, s.move, s.closed] ++ textsB [s.lo, s.hi] ++ stampsB [(s.ma, s.mt, s.mn), (s.ta, s.tt, s.tn)]).length ≤ 100000167 := by rw [List.length_append]; have hlx := stamps2 (s.ma, s.mt, s.mn) (s.ta, s.tt, s.tn); omega
  clear HL2
  have gB := K3.blk B0 hne (by decide)
  have c5 : V3.cell? ⟨gs, 5, none⟩ = some (.slice s.eA s.en s.ec) := gB.cell 5
  have gl := gB.lt
  go_wp2_with fail
  refine (wnums_any base gw hbg _ [(s.en : Int)] (some ⟨V3.heap.size, 0, none⟩) 1 (V3.alloc (.cells #[.int .i64 ((s.en : Int))] 3)) ?hz ?hlen (by simp) (Nat.le_trans hbw0 (Nat.le_trans K3.size (by simp))) (WR3.alloc _) (lit_nums [(s.en : Int)] _ rfl WR3.lt)).mono ?_
  case hz => intro z hz; simp only [List.mem_cons, List.not_mem_nil, or_false] at hz; omega
  case hlen => simp only [List.length_cons, List.length_nil]; omega
  rintro e3 V4 ⟨rfl, hw, hk⟩
  have K4 := (K3.alloc hbw0 _).trans hk
  have WR4 := hw
  clear hw hk WR3 K3 c5 gB gl
  have HL4 : (bs ++ numsB [s.id, s.epoch, s.phase, s.hold, s.seen, s.move, s.closed] ++ textsB [s.lo, s.hi] ++ stampsB [(s.ma, s.mt, s.mn), (s.ta, s.tt, s.tn)] ++ numsB [(s.en : Int)]).length ≤ 100000176 := by rw [List.length_append]; have hlx := numsB_len [(s.en : Int)]; simp only [List.length_cons, List.length_nil] at hlx; omega
  clear HL3
  have gB := K4.blk B0 hne (by decide)
  have c5 : V4.cell? ⟨gs, 5, none⟩ = some (.slice s.eA s.en s.ec) := gB.cell 5
  have gl := gB.lt
  go_wp2_with fail
  clear c5 gB gl
  go_loopw [52] (fun i wr => ∃ k : Nat, i = .int .i64 k ∧ k ≤ s.en ∧ KW base gw W0 wr ∧ Wr base gw (bs ++ numsB [s.id, s.epoch, s.phase, s.hold, s.seen, s.move, s.closed] ++ textsB [s.lo, s.hi] ++ stampsB [(s.ma, s.mt, s.mn), (s.ta, s.tt, s.tn)] ++ numsB [(s.en : Int)] ++ esBy (s.es.take k)) wr) (fun i _ => s.en - (intOf i).toNat)
  case atStart => exact ⟨0, rfl, Nat.zero_le _, K4, by simpa [esBy] using WR4⟩
  case round =>
    clear K4 WR4
    obtain ⟨k, rfl, hk, KA, WA⟩ := hrel
    have i0 : (0 : Int) ≤ (k : Int) := by omega
    by_cases hlt : k < s.en
    case pos =>
      have i1 : (k : Int) < (s.en : Int) := by omega
      obtain ⟨b, off, hA, hbB, c0, c1⟩ := enc_cells (HI.out.below KA.below (Nat.le_refl _)).erow k (by omega)
      have hin := (HI.out.below KA.below (Nat.le_refl _)).es (s.es[k]'(by omega)) (List.getElem_mem (by omega))
      have hsn := flatMap_snoc enBy s.es k (by omega)
      have hex := HEs.out (s.es[k]'(by omega)) (List.getElem_mem (by omega))
      have hll := esBy_len (s.es.take k) (fun x hx => enBy_len2 (HEs.out x (List.mem_of_mem_take hx)))
      rw [List.length_take] at hll
      obtain ⟨x, hx⟩ : ∃ x, s.es[k]'(by omega) = x := ⟨_, rfl⟩
      simp only [hx] at c0 c1 hsn hex hin
      have HSN := Lib.hid hsn
      have hk16 := hex.1
      have hv64 := hex.2.1
      have HVs := Lib.hid hex.2.2
      have hxl := hin.len
      have hx63 := hin.m63
      clear hx hsn hex
      have hEx := Lib.hid hin
      clear hin
      rw [hA]
      have BA : Blk (wr.alloc (.cells #[.string ⟨x.key.toArray⟩, .slice x.A x.n x.c] 100)) wr.heap.size 100 #[.string ⟨x.key.toArray⟩, .slice x.A x.n x.c] := Blk.new wr _ _
      have KB : KW base gw W0 (wr.alloc (.cells #[.string ⟨x.key.toArray⟩, .slice x.A x.n x.c] 100)) := KA.alloc hbw0 _
      have WB := WA.alloc (.cells #[.string ⟨x.key.toArray⟩, .slice x.A x.n x.c] 100)
      have hge : wr.heap.size ≠ gw := by have := WA.lt; omega
      go_upto_region 8 with (fail)
      have hbv : base ≤ (wr.alloc (.cells #[.string ⟨x.key.toArray⟩, .slice x.A x.n x.c] 100)).heap.size := Nat.le_trans hbw0 KB.size
      skip
      clear c0 c1
      have hbv : base ≤ (wr.alloc (.cells #[.string ⟨x.key.toArray⟩, .slice x.A x.n x.c] 100)).heap.size := Nat.le_trans hbw0 KB.size
      have hbv : base ≤ (wr.alloc (.cells #[.string ⟨x.key.toArray⟩, .slice x.A x.n x.c] 100)).heap.size := Nat.le_trans hbw0 KB.size
      have hEy := Lib.hid (hEx.out.below (show Below base wr (wr.alloc (.cells #[.string ⟨x.key.toArray⟩, .slice x.A x.n x.c] 100)) from (Kp.refl (x := gw) (e := 5)).alloc (Nat.le_trans hbw0 KA.size) _ |>.below) (Nat.le_refl _))
      clear hEx KA WA
      generalize wr.alloc (.cells #[.string ⟨x.key.toArray⟩, .slice x.A x.n x.c] 100) = U0 at *
      generalize wr.heap.size = ge at *
      have K20 : KW base gw U0 U0 := Kp.refl
      have WR20 := WB
      clear WB
      have HL20 : (bs ++ numsB [s.id, s.epoch, s.phase, s.hold, s.seen, s.move, s.closed] ++ textsB [s.lo, s.hi] ++ stampsB [(s.ma, s.mt, s.mn), (s.ta, s.tt, s.tn)] ++ numsB [(s.en : Int)] ++ esBy (s.es.take k)).length ≤ 100256176 := by rw [List.length_append]; omega
      clear hll
      have gB := K20.blk BA hge (by decide)
      have y0 : U0.cell? ⟨ge, 0, none⟩ = some (.string ⟨x.key.toArray⟩) := gB.cell 0
      have gl := gB.lt
      go_wp2_with fail
      have hlx := texts1 (x.key)
      refine (wtexts_any base gw hbg _ [x.key] (some ⟨U0.heap.size, 0, none⟩) 1 (U0.alloc (.cells #[.string ⟨(x.key).toArray⟩] 9)) ?hlen (by simp) (Nat.le_trans hbv (Nat.le_trans K20.size (by simp))) (WR20.alloc _) (lit_texts [x.key] _ rfl WR20.lt)).mono ?_
      case hlen => omega
      rintro e20 V21 ⟨rfl, hw, hk⟩
      have K21 := (K20.alloc hbv _).trans hk
      have WR21 := hw
      clear hw hk WR20 K20 y0 gB gl
      have HL21 : (bs ++ numsB [s.id, s.epoch, s.phase, s.hold, s.seen, s.move, s.closed] ++ textsB [s.lo, s.hi] ++ stampsB [(s.ma, s.mt, s.mn), (s.ta, s.tt, s.tn)] ++ numsB [(s.en : Int)] ++ esBy (s.es.take k) ++ textsB [x.key]).length ≤ 100256201 := by rw [List.length_append]; skip; omega
      clear HL20
      clear hlx
      have gB := K21.blk BA hge (by decide)
      have y1 : V21.cell? ⟨ge, 1, none⟩ = some (.slice x.A x.n x.c) := gB.cell 1
      have gl := gB.lt
      go_wp2_with fail
      refine (wnums_any base gw hbg _ [(x.n : Int)] (some ⟨V21.heap.size, 0, none⟩) 1 (V21.alloc (.cells #[.int .i64 ((x.n : Int))] 3)) ?hz ?hlen (by simp) (Nat.le_trans hbv (Nat.le_trans K21.size (by simp))) (WR21.alloc _) (lit_nums [(x.n : Int)] _ rfl WR21.lt)).mono ?_
      case hz => intro z hz; simp only [List.mem_cons, List.not_mem_nil, or_false] at hz; omega
      case hlen => simp only [List.length_cons, List.length_nil]; omega
      rintro e21 V22 ⟨rfl, hw, hk⟩
      have K22 := (K21.alloc hbv _).trans hk
      have WR22 := hw
      clear hw hk WR21 K21 y1 gB gl
      have HL22 : (bs ++ numsB [s.id, s.epoch, s.phase, s.hold, s.seen, s.move, s.closed] ++ textsB [s.lo, s.hi] ++ stampsB [(s.ma, s.mt, s.mn), (s.ta, s.tt, s.tn)] ++ numsB [(s.en : Int)] ++ esBy (s.es.take k) ++ textsB [x.key] ++ numsB [(x.n : Int)]).length ≤ 100256210 := by rw [List.length_append]; have hlx := numsB_len [(x.n : Int)]; simp only [List.length_cons, List.length_nil] at hlx; omega
      clear HL21
      have gB := K22.blk BA hge (by decide)
      have y1 : V22.cell? ⟨ge, 1, none⟩ = some (.slice x.A x.n x.c) := gB.cell 1
      have gl := gB.lt
      go_wp2_with fail
      clear y1 gB gl
      go_loopw [70] (fun i wr => ∃ j : Nat, i = .int .i64 j ∧ j ≤ x.n ∧ KW base gw U0 wr ∧ Wr base gw (bs ++ numsB [s.id, s.epoch, s.phase, s.hold, s.seen, s.move, s.closed] ++ textsB [s.lo, s.hi] ++ stampsB [(s.ma, s.mt, s.mn), (s.ta, s.tt, s.tn)] ++ numsB [(s.en : Int)] ++ esBy (s.es.take k) ++ textsB [x.key] ++ numsB [(x.n : Int)] ++ chBy (x.vs.take j)) wr) (fun i _ => x.n - (intOf i).toNat)
      case atStart => exact ⟨0, rfl, Nat.zero_le _, K22, by simpa [chBy] using WR22⟩
      case round =>
        clear K22 WR22
        obtain ⟨j, rfl, hj, KC, WC⟩ := hrel
        have j0 : (0 : Int) ≤ (j : Int) := by omega
        by_cases hjt : j < x.n
        case pos =>
          have j1 : (j : Int) < (x.n : Int) := by omega
          obtain ⟨bv', of', hA2, hbv', d0, d1, d2, d3, d4⟩ := vsc_cells (hEy.out.below KC.below (Nat.le_refl _)).row j (by omega)
          have hsj := flatMap_snoc vsB1 x.vs j (by omega)
          have hvx := HVs.out (x.vs[j]'(by omega)) (List.getElem_mem (by omega))
          have hlj := chBy_len (x.vs.take j) (fun y hy => HVs.out y (List.mem_of_mem_take hy))
          rw [List.length_take] at hlj
          obtain ⟨v, hv⟩ : ∃ v, x.vs[j]'(by omega) = v := ⟨_, rfl⟩
          simp only [hv] at d0 d1 d2 d3 d4 hsj hvx
          have HSJ := Lib.hid hsj
          clear hv hsj
          rw [hA2]
          have BV : Blk (wr.alloc (.cells (vsA v) 105)) wr.heap.size 105 (vsA v) := Blk.new wr _ _
          have KD : KW base gw U0 (wr.alloc (.cells (vsA v) 105)) := KC.alloc hbv _
          have WD := WC.alloc (.cells (vsA v) 105)
          have hgv : wr.heap.size ≠ gw := by have := WC.lt; omega
          go_upto_region 13 with (fail)
          clear d0 d1 d2 d3 d4
          have hbx : base ≤ (wr.alloc (.cells (vsA v) 105)).heap.size := Nat.le_trans hbv KD.size
          clear KC WC
          generalize wr.alloc (.cells (vsA v) 105) = X0 at *
          generalize wr.heap.size = gv at *
          have K40 : KW base gw X0 X0 := Kp.refl
          have WR40 := WD
          clear WD
          have HL40 : (bs ++ numsB [s.id, s.epoch, s.phase, s.hold, s.seen, s.move, s.closed] ++ textsB [s.lo, s.hi] ++ stampsB [(s.ma, s.mt, s.mn), (s.ta, s.tt, s.tn)] ++ numsB [(s.en : Int)] ++ esBy (s.es.take k) ++ textsB [x.key] ++ numsB [(x.n : Int)] ++ chBy (x.vs.take j)).length ≤ 100260050 := by rw [List.length_append]; omega
          clear hlj
          have gB := K40.blk BV hgv (by decide)
          have z0 : X0.cell? ⟨gv, 0, none⟩ = some (.int .i64 v.a) := gB.cell 0
          have z1 : X0.cell? ⟨gv, 1, none⟩ = some (.int .i64 v.t) := gB.cell 1
          have z2 : X0.cell? ⟨gv, 2, none⟩ = some (.int .i64 v.n) := gB.cell 2
          have gl := gB.lt
          go_wp2_with fail
          refine (wstamps_any base gw hbg _ [(v.a, v.t, v.n)] (some ⟨X0.heap.size, 0, none⟩) 1 (X0.alloc (.cells #[.int .i64 v.a, .int .i64 v.t, .int .i64 v.n] 27)) ?hlen (by simp) (Nat.le_trans hbx (Nat.le_trans K40.size (by simp))) (WR40.alloc _) (lit_stamp _ _ _ _ rfl WR40.lt)).mono ?_
          case hlen => simp only [List.length_cons, List.length_nil]; omega
          rintro e40 V41 ⟨rfl, hw, hk⟩
          have K41 := (K40.alloc hbx _).trans hk
          have WR41 := hw
          clear hw hk WR40 K40 z0 z1 z2 gB gl
          have HL41 : (bs ++ numsB [s.id, s.epoch, s.phase, s.hold, s.seen, s.move, s.closed] ++ textsB [s.lo, s.hi] ++ stampsB [(s.ma, s.mt, s.mn), (s.ta, s.tt, s.tn)] ++ numsB [(s.en : Int)] ++ esBy (s.es.take k) ++ textsB [x.key] ++ numsB [(x.n : Int)] ++ chBy (x.vs.take j) ++ stampsB [(v.a, v.t, v.n)]).length ≤ 100260077 := by rw [List.length_append]; have hlx := stamps1 (v.a, v.t, v.n); omega
          clear HL40
          have gB := K41.blk BV hgv (by decide)
          have z3 : V41.cell? ⟨gv, 3, none⟩ = some (.bool v.gone) := gB.cell 3
          have gl := gB.lt
          go_wp2_with fail
          refine (wflag_any base gw hbg _ v.gone V41 ?hlen (Nat.le_trans hbx K41.size) WR41).mono ?_
          case hlen => omega
          rintro e41 V42 ⟨rfl, hw, hk⟩
          have K42 := K41.trans hk
          have WR42 := hw
          clear hw hk WR41 K41 z3 gB gl
          have HL42 : (bs ++ numsB [s.id, s.epoch, s.phase, s.hold, s.seen, s.move, s.closed] ++ textsB [s.lo, s.hi] ++ stampsB [(s.ma, s.mt, s.mn), (s.ta, s.tt, s.tn)] ++ numsB [(s.en : Int)] ++ esBy (s.es.take k) ++ textsB [x.key] ++ numsB [(x.n : Int)] ++ chBy (x.vs.take j) ++ stampsB [(v.a, v.t, v.n)] ++ flagL v.gone).length ≤ 100260078 := by rw [List.length_append]; have hlx := flagL_len v.gone; omega
          clear HL41
          have gB := K42.blk BV hgv (by decide)
          have z4 : V42.cell? ⟨gv, 4, none⟩ = some (.string ⟨v.val.toArray⟩) := gB.cell 4
          have gl := gB.lt
          go_wp2_with fail
          have hlx := texts1 (v.val)
          refine (wtexts_any base gw hbg _ [v.val] (some ⟨V42.heap.size, 0, none⟩) 1 (V42.alloc (.cells #[.string ⟨(v.val).toArray⟩] 9)) ?hlen (by simp) (Nat.le_trans hbx (Nat.le_trans K42.size (by simp))) (WR42.alloc _) (lit_texts [v.val] _ rfl WR42.lt)).mono ?_
          case hlen => omega
          rintro e42 V43 ⟨rfl, hw, hk⟩
          have K43 := (K42.alloc hbx _).trans hk
          have WR43 := hw
          clear hw hk WR42 K42 z4 gB gl
          have HL43 : (bs ++ numsB [s.id, s.epoch, s.phase, s.hold, s.seen, s.move, s.closed] ++ textsB [s.lo, s.hi] ++ stampsB [(s.ma, s.mt, s.mn), (s.ta, s.tt, s.tn)] ++ numsB [(s.en : Int)] ++ esBy (s.es.take k) ++ textsB [x.key] ++ numsB [(x.n : Int)] ++ chBy (x.vs.take j) ++ stampsB [(v.a, v.t, v.n)] ++ flagL v.gone ++ textsB [v.val]).length ≤ 100260103 := by rw [List.length_append]; skip; omega
          clear HL42
          clear hlx
          go_wp2_with fail
          go_roundw
          case rel => exact ⟨j + 1, by go_num, by omega, KD.trans K43, by rw [chBy, HSJ.out]; simpa [vsB1, chBy, List.append_assoc] using WR43⟩
          case measure => simp [intOf]; omega
        case neg =>
          have hje : j = x.n := by omega
          have htj : x.vs.take j = x.vs := take_full _ _ (by omega)
          rw [htj] at WC
          clear htj
          go_wp2_with fail
          go_roundw
          case rel => exact ⟨k + 1, by go_num, by omega, KB.trans KC, by rw [esBy, HSN.out]; simpa [enBy, esBy, List.append_assoc] using WC⟩
          case measure => simp [intOf]; omega
    case neg =>
      have hke : k = s.en := by omega
      have htk : s.es.take k = s.es := take_full _ _ (by omega)
      rw [htk] at WA
      clear htk
      have hll := esBy_len s.es (fun x hx => enBy_len2 (HEs.out x hx))
      have K60 := KA
      have WR60 := WA
      clear WA KA
      have HL60 : (bs ++ numsB [s.id, s.epoch, s.phase, s.hold, s.seen, s.move, s.closed] ++ textsB [s.lo, s.hi] ++ stampsB [(s.ma, s.mt, s.mn), (s.ta, s.tt, s.tn)] ++ numsB [(s.en : Int)] ++ esBy s.es).length ≤ 100256176 := by rw [List.length_append]; omega
      clear hll
      have gB := K60.blk B0 hne (by decide)
      have c12 : wr.cell? ⟨gs, 12, none⟩ = some (.slice s.dA s.dn s.dc) := gB.cell 12
      have gl := gB.lt
      go_wp2_with fail
      refine (wnums_any base gw hbg _ [(s.dn : Int)] (some ⟨wr.heap.size, 0, none⟩) 1 (wr.alloc (.cells #[.int .i64 ((s.dn : Int))] 3)) ?hz ?hlen (by simp) (Nat.le_trans hbw0 (Nat.le_trans K60.size (by simp))) (WR60.alloc _) (lit_nums [(s.dn : Int)] _ rfl WR60.lt)).mono ?_
      case hz => intro z hz; simp only [List.mem_cons, List.not_mem_nil, or_false] at hz; omega
      case hlen => simp only [List.length_cons, List.length_nil]; omega
      rintro e60 V61 ⟨rfl, hw, hk⟩
      have K61 := (K60.alloc hbw0 _).trans hk
      have WR61 := hw
      clear hw hk WR60 K60 c12 gB gl
      have HL61 : (bs ++ numsB [s.id, s.epoch, s.phase, s.hold, s.seen, s.move, s.closed] ++ textsB [s.lo, s.hi] ++ stampsB [(s.ma, s.mt, s.mn), (s.ta, s.tt, s.tn)] ++ numsB [(s.en : Int)] ++ esBy s.es ++ numsB [(s.dn : Int)]).length ≤ 100256185 := by rw [List.length_append]; have hlx := numsB_len [(s.dn : Int)]; simp only [List.length_cons, List.length_nil] at hlx; omega
      clear HL60
      have gB := K61.blk B0 hne (by decide)
      have c12 : V61.cell? ⟨gs, 12, none⟩ = some (.slice s.dA s.dn s.dc) := gB.cell 12
      have gl := gB.lt
      go_wp2_with fail
      clear c12 gB gl
      go_loopw [99] (fun i wr => ∃ k : Nat, i = .int .i64 k ∧ k ≤ s.dn ∧ KW base gw W0 wr ∧ Wr base gw (bs ++ numsB [s.id, s.epoch, s.phase, s.hold, s.seen, s.move, s.closed] ++ textsB [s.lo, s.hi] ++ stampsB [(s.ma, s.mt, s.mn), (s.ta, s.tt, s.tn)] ++ numsB [(s.en : Int)] ++ esBy s.es ++ numsB [(s.dn : Int)] ++ dsBy (s.ds.take k)) wr) (fun i _ => s.dn - (intOf i).toNat)
      case atStart => exact ⟨0, rfl, Nat.zero_le _, K61, by simpa [dsBy] using WR61⟩
      case round =>
        clear K61 WR61 hlt hke hk i0
        obtain ⟨k, rfl, hk, KA, WA⟩ := hrel
        have i0 : (0 : Int) ≤ (k : Int) := by omega
        by_cases hlt : k < s.dn
        case pos =>
          have i1 : (k : Int) < (s.dn : Int) := by omega
          obtain ⟨b, off, hA, hbB, rx⟩ := (HI.out.below KA.below (Nat.le_refl _)).drow.at k (by omega)
          have hsn := flatMap_snoc dnBy s.ds k (by omega)
          have hex := HDs.out (s.ds[k]'(by omega)) (List.getElem_mem (by omega))
          have hll := dsBy_len (s.ds.take k) (fun x hx => (HDs.out x (List.mem_of_mem_take hx)).2)
          rw [List.length_take] at hll
          obtain ⟨x, hx⟩ : ∃ x, s.ds[k]'(by omega) = x := ⟨_, rfl⟩
          simp only [hx] at rx hsn hex
          have HSN := Lib.hid hsn
          have HX := Lib.hid hex.1
          have hv16 := hex.2
          clear hx hsn hex
          rw [hA]
          have G : Blk (wr.alloc (.cells zdA 108)) wr.heap.size 108 zdA := Blk.new wr _ _
          have hgd : wr.heap.size ≠ gw := by have := WA.lt; omega
          have D1 : ∀ w', w' = (wr.alloc (.cells zdA 108)).setRow wr.heap.size (dnA x) → KW base gw W0 w' ∧ Wr base gw (bs ++ numsB [s.id, s.epoch, s.phase, s.hold, s.seen, s.move, s.closed] ++ textsB [s.lo, s.hi] ++ stampsB [(s.ma, s.mt, s.mn), (s.ta, s.tt, s.tn)] ++ numsB [(s.en : Int)] ++ esBy s.es ++ numsB [(s.dn : Int)] ++ dsBy (s.ds.take k)) w' ∧ Blk w' wr.heap.size 108 (dnA x) := by
            rintro _ rfl
            exact ⟨(KA.alloc hbw0 _).rowN KA.size (Nat.le_trans hbw0 KA.size) _, (WA.alloc _).row hgd G (by decide) _, G.row _⟩
          go_wp2_with (first | (with_reducible refine wpl_ldr b (off + k * 11) (dnC x) rx (by with_unfolding_all rfl) 108 _ (by with_unfolding_all rfl) (by with_unfolding_all rfl) _ Tryz.underlying108 (by with_unfolding_all rfl) (by with_unfolding_all rfl) ?_) | (with_reducible refine wpl_st G (by with_unfolding_all rfl) _ _ _ (by with_unfolding_all rfl) (dnA x) (by with_unfolding_all rfl) (by with_unfolding_all rfl) (by with_unfolding_all rfl) (by with_unfolding_all rfl) (by with_unfolding_all rfl) ?_; refine Classical.byContradiction fun hno => ?_))
          refine hno ?_
          clear hno
          intro w1 e1
          obtain ⟨KB, WB, BD⟩ := D1 w1 e1
          clear e1 D1 G rx KA WA
          have hbv : base ≤ w1.heap.size := Nat.le_trans hbw0 KB.size
          generalize wr.heap.size = gd at *
          have K80 : KW base gw w1 w1 := Kp.refl
          have WR80 := WB
          clear WB
          have HL80 : (bs ++ numsB [s.id, s.epoch, s.phase, s.hold, s.seen, s.move, s.closed] ++ textsB [s.lo, s.hi] ++ stampsB [(s.ma, s.mt, s.mn), (s.ta, s.tt, s.tn)] ++ numsB [(s.en : Int)] ++ esBy s.es ++ numsB [(s.dn : Int)] ++ dsBy (s.ds.take k)).length ≤ 100256985 := by rw [List.length_append]; omega
          clear hll
          have gB := K80.blk BD hgd (by decide)
          have y0 : w1.cell? ⟨gd, 0, none⟩ = some (.int .i64 x.cl) := gB.cell 0
          have y1 : w1.cell? ⟨gd, 1, none⟩ = some (.int .i64 x.rq) := gB.cell 1
          have y2 : w1.cell? ⟨gd, 2, none⟩ = some (.int .i64 x.ans.er) := gB.cell 2
          have gl := gB.lt
          go_wp2_with fail
          refine (wnums_any base gw hbg _ [x.cl, x.rq, x.ans.er] (some ⟨w1.heap.size, 0, none⟩) 3 (w1.alloc (.cells #[.int .i64 (x.cl), .int .i64 (x.rq), .int .i64 (x.ans.er)] 3)) ?hz ?hlen (by simp) (Nat.le_trans hbv (Nat.le_trans K80.size (by simp))) (WR80.alloc _) (lit_nums [x.cl, x.rq, x.ans.er] _ rfl WR80.lt)).mono ?_
          case hz => exact HX.out
          case hlen => simp only [List.length_cons, List.length_nil]; omega
          rintro e80 V81 ⟨rfl, hw, hk⟩
          have K81 := (K80.alloc hbv _).trans hk
          have WR81 := hw
          clear hw hk WR80 K80 y0 y1 y2 gB gl
          have HL81 : (bs ++ numsB [s.id, s.epoch, s.phase, s.hold, s.seen, s.move, s.closed] ++ textsB [s.lo, s.hi] ++ stampsB [(s.ma, s.mt, s.mn), (s.ta, s.tt, s.tn)] ++ numsB [(s.en : Int)] ++ esBy s.es ++ numsB [(s.dn : Int)] ++ dsBy (s.ds.take k) ++ numsB [x.cl, x.rq, x.ans.er]).length ≤ 100257012 := by rw [List.length_append]; have hlx := numsB_len [x.cl, x.rq, x.ans.er]; simp only [List.length_cons, List.length_nil] at hlx; omega
          clear HL80
          have gB := K81.blk BD hgd (by decide)
          have y3 : V81.cell? ⟨gd, 3, none⟩ = some (.int .i64 x.ans.a) := gB.cell 3
          have y4 : V81.cell? ⟨gd, 4, none⟩ = some (.int .i64 x.ans.t) := gB.cell 4
          have y5 : V81.cell? ⟨gd, 5, none⟩ = some (.int .i64 x.ans.n) := gB.cell 5
          have gl := gB.lt
          go_wp2_with fail
          refine (wstamps_any base gw hbg _ [(x.ans.a, x.ans.t, x.ans.n)] (some ⟨V81.heap.size, 0, none⟩) 1 (V81.alloc (.cells #[.int .i64 x.ans.a, .int .i64 x.ans.t, .int .i64 x.ans.n] 27)) ?hlen (by simp) (Nat.le_trans hbv (Nat.le_trans K81.size (by simp))) (WR81.alloc _) (lit_stamp _ _ _ _ rfl WR81.lt)).mono ?_
          case hlen => simp only [List.length_cons, List.length_nil]; omega
          rintro e81 V82 ⟨rfl, hw, hk⟩
          have K82 := (K81.alloc hbv _).trans hk
          have WR82 := hw
          clear hw hk WR81 K81 y3 y4 y5 gB gl
          have HL82 : (bs ++ numsB [s.id, s.epoch, s.phase, s.hold, s.seen, s.move, s.closed] ++ textsB [s.lo, s.hi] ++ stampsB [(s.ma, s.mt, s.mn), (s.ta, s.tt, s.tn)] ++ numsB [(s.en : Int)] ++ esBy s.es ++ numsB [(s.dn : Int)] ++ dsBy (s.ds.take k) ++ numsB [x.cl, x.rq, x.ans.er] ++ stampsB [(x.ans.a, x.ans.t, x.ans.n)]).length ≤ 100257039 := by rw [List.length_append]; have hlx := stamps1 (x.ans.a, x.ans.t, x.ans.n); omega
          clear HL81
          have gB := K82.blk BD hgd (by decide)
          have y6 : V82.cell? ⟨gd, 6, none⟩ = some (.bool x.ans.fd) := gB.cell 6
          have gl := gB.lt
          go_wp2_with fail
          refine (wflag_any base gw hbg _ x.ans.fd V82 ?hlen (Nat.le_trans hbv K82.size) WR82).mono ?_
          case hlen => omega
          rintro e82 V83 ⟨rfl, hw, hk⟩
          have K83 := K82.trans hk
          have WR83 := hw
          clear hw hk WR82 K82 y6 gB gl
          have HL83 : (bs ++ numsB [s.id, s.epoch, s.phase, s.hold, s.seen, s.move, s.closed] ++ textsB [s.lo, s.hi] ++ stampsB [(s.ma, s.mt, s.mn), (s.ta, s.tt, s.tn)] ++ numsB [(s.en : Int)] ++ esBy s.es ++ numsB [(s.dn : Int)] ++ dsBy (s.ds.take k) ++ numsB [x.cl, x.rq, x.ans.er] ++ stampsB [(x.ans.a, x.ans.t, x.ans.n)] ++ flagL x.ans.fd).length ≤ 100257040 := by rw [List.length_append]; have hlx := flagL_len x.ans.fd; omega
          clear HL82
          have gB := K83.blk BD hgd (by decide)
          have y7 : V83.cell? ⟨gd, 7, none⟩ = some (.string ⟨x.ans.vl.toArray⟩) := gB.cell 7
          have gl := gB.lt
          go_wp2_with fail
          have hlx := texts1 (x.ans.vl)
          refine (wtexts_any base gw hbg _ [x.ans.vl] (some ⟨V83.heap.size, 0, none⟩) 1 (V83.alloc (.cells #[.string ⟨(x.ans.vl).toArray⟩] 9)) ?hlen (by simp) (Nat.le_trans hbv (Nat.le_trans K83.size (by simp))) (WR83.alloc _) (lit_texts [x.ans.vl] _ rfl WR83.lt)).mono ?_
          case hlen => omega
          rintro e83 V84 ⟨rfl, hw, hk⟩
          have K84 := (K83.alloc hbv _).trans hk
          have WR84 := hw
          clear hw hk WR83 K83 y7 gB gl
          have HL84 : (bs ++ numsB [s.id, s.epoch, s.phase, s.hold, s.seen, s.move, s.closed] ++ textsB [s.lo, s.hi] ++ stampsB [(s.ma, s.mt, s.mn), (s.ta, s.tt, s.tn)] ++ numsB [(s.en : Int)] ++ esBy s.es ++ numsB [(s.dn : Int)] ++ dsBy (s.ds.take k) ++ numsB [x.cl, x.rq, x.ans.er] ++ stampsB [(x.ans.a, x.ans.t, x.ans.n)] ++ flagL x.ans.fd ++ textsB [x.ans.vl]).length ≤ 100257065 := by rw [List.length_append]; skip; omega
          clear HL83
          clear hlx
          go_wp2_with fail
          go_roundw
          case rel => exact ⟨k + 1, by go_num, by omega, KB.trans K84, by rw [dsBy, HSN.out]; simpa [dnBy, dsBy, List.append_assoc] using WR84⟩
          case measure => simp [intOf]; omega
        case neg =>
          have hke : k = s.dn := by omega
          have htk : s.ds.take k = s.ds := take_full _ _ (by omega)
          rw [htk] at WA
          clear htk
          go_wp2
          go_end0
          exact ⟨rfl, by simpa [shBy, List.append_assoc] using WA, KO.trans KA⟩
end Go.Proofs.YtkoligiilieboaaGreatDoor
