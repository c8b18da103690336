/- engine.from: whether each number lies from least to the greatest. A cell that holds nothing: it is right, and written as five zero bytes. A message and a cell that come in, opened field by field, with the bulk of their texts. How long the bytes of a message are; what a message holds decides whether it is right; few; the fixed answer. -/
import Derived.Test.YtkoligiilieboaaGreatDoorMgC
import Derived.Deep.CutRange
import Derived.Test.YtkoligiilieboaaGreatDoorRows
import Derived.Test.YtkoligiilieboaaGreatDoorBkX
import Derived.Test.YtkoligiilieboaaGreatDoorBkO
import Derived.Test.YtkoligiilieboaaGreatDoorMgA
set_option linter.unusedSimpArgs false
set_option linter.unusedVariables false
namespace Go.Proofs.YtkoligiilieboaaGreatDoor
open Go.RowKit
attribute [local go_sem ↓] Go.wp_at_zero Go.wp_at_succ
def outB (least n : Int) : Bool := decide (n < least) || decide (1099511627776 < n)
theorem from1_any (least n : Int) (g : Nat) (w : World) (hc : w.cell? ⟨g, 0, none⟩ = some (.int .i64 least)) :
    Calls Tryz.prog 100 #[.int .i64 n, .pointer (some ⟨g, 0, none⟩)] w fun e w' => e = .returned (.bool (outB least n)) ∧ w = w' := by
  by_cases h1 : n < least
  case pos =>
    have hv : outB least n = true := by simp [outB, h1]
    rw [hv]
    clear hv
    go_enter Tryz.func100, Tryz.ntmps100
    go_wp2
    go_ret
    exact ⟨rfl, rfl⟩
  case neg =>
    by_cases h2 : 1099511627776 < n
    case pos =>
      have hv : outB least n = true := by simp [outB, h2]
      rw [hv]
      clear hv
      go_enter Tryz.func100, Tryz.ntmps100
      go_wp2
      go_ret
      exact ⟨rfl, rfl⟩
    case neg =>
      have hv : outB least n = false := by simp [outB]; omega
      rw [hv]
      clear hv
      go_enter Tryz.func100, Tryz.ntmps100
      go_wp2
      go_ret
      exact ⟨rfl, rfl⟩
set_option maxHeartbeats 1600000 in
set_option maxRecDepth 100000 in
theorem idxf_any (A : Option Addr) (cap : Nat) (ls : List Int) (hmax : ls.length ≤ 9223372036854775807) (least : Int) (g : Nat) (w : World) (hL : RdR ldC 1 w w.heap.size A ls) (hg : g < w.heap.size) (hc : w.cell? ⟨g, 0, none⟩ = some (.int .i64 least)) :
    Calls Tryz.prog 111 #[.slice A ls.length cap, .func (.func 100) #[] #[.pointer (some ⟨g, 0, none⟩)]] w fun e w' => (∃ i : Int, e = .returned (.int .i64 i) ∧ ls.any (outB least) = decide (0 ≤ i)) ∧ Below w.heap.size w w' := by
  go_enter Tryz.func111, Tryz.ntmps111
  go_wp2
  go_loopw [8] (fun i wr => ∃ k : Nat, i = .int .i64 k ∧ k ≤ ls.length ∧ (ls.take k).any (outB least) = false ∧ Below w.heap.size w wr) (fun i _ => ls.length - (intOf i).toNat)
  case atStart =>
    exact ⟨0, rfl, Nat.zero_le _, rfl, Below.refl _ _⟩
  case round =>
    obtain ⟨k, rfl, hk, hbad, hb⟩ := hrel
    have hbs := hb.size
    have i0 : (0 : Int) ≤ (k : Int) := by omega
    have HB := Lib.hid hbad
    clear hbad
    by_cases hlt : k < ls.length
    case pos =>
      obtain ⟨b, off, rfl, hbB, g0⟩ := ldc_cells hL k hlt
      have c0 := (hb.cell (p := ⟨b, _, none⟩) hbB).trans g0
      have cg := (hb.cell (p := ⟨g, _, none⟩) hg).trans hc
      have i1 : (k : Int) < (ls.length : Int) := by omega
      have hmem : ls[k] ∈ ls := List.getElem_mem hlt
      have hsn : (ls.take (k + 1)).any (outB least) = outB least ls[k] := by rw [List.take_succ_eq_append_getElem hlt, List.any_append, HB.out]; simp
      obtain ⟨x, hx⟩ : ∃ x, ls[k] = x := ⟨_, rfl⟩
      rw [hx] at c0 hmem hsn
      have HM := Lib.hid hmem
      have HS := Lib.hid hsn
      clear hx g0 hmem hsn
      go_wp2_with fail
      refine (from1_any least x g _ cg).mono ?_
      rintro e w1 ⟨rfl, rfl⟩
      obtain ⟨q, hq⟩ : ∃ q, outB least x = q := ⟨_, rfl⟩
      have HQ := Lib.hid hq
      rw [hq]
      clear hq
      cases q
      case true =>
        go_wp2
        go_ret
        refine ⟨⟨k, rfl, ?_⟩, hb⟩
        rw [List.any_eq_true.2 ⟨x, HM.out, HQ.out⟩]
        simp
      case false =>
        go_wp2
        go_roundw
        case rel =>
          exact ⟨k + 1, by go_num, by omega, by rw [HS.out, HQ.out], hb⟩
        case measure =>
          simp [intOf]; omega
    case neg =>
      have hke : k = ls.length := by omega
      subst hke
      go_wp2
      go_ret
      refine ⟨⟨-1, rfl, ?_⟩, hb⟩
      have := HB.out
      rw [List.take_length] at this
      rw [this]
      rfl
set_option maxRecDepth 100000 in
theorem hasf_any (A : Option Addr) (cap : Nat) (ls : List Int) (hmax : ls.length ≤ 9223372036854775807) (least : Int) (g : Nat) (w : World) (hL : RdR ldC 1 w w.heap.size A ls) (hg : g < w.heap.size) (hc : w.cell? ⟨g, 0, none⟩ = some (.int .i64 least)) :
    Calls Tryz.prog 76 #[.slice A ls.length cap, .func (.func 100) #[] #[.pointer (some ⟨g, 0, none⟩)]] w fun e w' => e = .returned (.bool (ls.any (outB least))) ∧ Below w.heap.size w w' := by
  go_enter Tryz.func76, Tryz.ntmps76
  go_wp2_with fail
  refine (idxf_any A cap ls hmax least g w hL hg hc).mono ?_
  rintro e w1 ⟨⟨i, rfl, hi⟩, hb1⟩
  have HI := Lib.hid hi
  clear hi
  by_cases h0 : 0 ≤ i
  case pos =>
    go_wp2
    go_ret
    exact ⟨by rw [HI.out]; simp [h0], hb1⟩
  case neg =>
    go_wp2
    go_ret
    exact ⟨by rw [HI.out]; simp [h0], hb1⟩
set_option maxRecDepth 100000 in
theorem from_any (least : Int) (A : Option Addr) (cap : Nat) (ls : List Int) (hmax : ls.length ≤ 9223372036854775807) (w : World) (hL : RdR ldC 1 w w.heap.size A ls) :
    Calls Tryz.prog 61 #[.int .i64 least, .slice A ls.length cap] w fun e w' => e = .returned (.bool (!(ls.any (outB least)))) ∧ Below w.heap.size w w' := by
  go_enter Tryz.func61, Tryz.ntmps61
  go_wp2_with fail
  refine (hasf_any A cap ls hmax least w.heap.size _ (RdR.more (hL.below (bal (b0 w) _) (Nat.le_refl _)) (by simp)) (by simp) ((Blk.new w _ _).cell 0)).mono ?_
  rintro e w1 ⟨rfl, hb1⟩
  go_wp2
  go_ret
  exact ⟨rfl, bt (bal (b0 w) _) hb1⟩
theorem outB_one (z : Int) : (!outB 1 z) = (decide (1 ≤ z) && decide (z ≤ 1099511627776)) := by
  rw [Bool.eq_iff_iff]
  simp [outB]
theorem outB_zero (z : Int) : (!outB 0 z) = fitsB z := by
  rw [Bool.eq_iff_iff]
  simp [outB, fitsB]
end Go.Proofs.YtkoligiilieboaaGreatDoor
namespace Go.Proofs.YtkoligiilieboaaGreatDoor
open Go.RowKit
attribute [local go_sem] ByteArray.mk_append_mk ByteArray.extract_mk
attribute [local go_sem ↓] Go.wp_at_zero Go.wp_at_succ
abbrev z5A : Array Value := #[.slice none 0 0, .int .i64 0, .int .i64 0, .int .i64 0, .int .i64 0]
theorem lit_int0 (W : World) (z : Int) : RdR ldC 1 (W.alloc (.cells #[.int .i64 z] 3)) (W.alloc (.cells #[.int .i64 z] 3)).heap.size (some ⟨W.heap.size, 0, none⟩) [z] := fun _ => by
  have hB := Blk.new W 3 #[.int .i64 z]
  refine ⟨W.heap.size, 0, rfl, hB.lt, fun k hk j u hu => ?_⟩
  obtain rfl : k = 0 := by simpa using hk
  have hj : j = 0 := by
    have h1 := (List.getElem?_eq_some_iff.1 hu).1
    have h2 : (ldC ([z][0])).length = 1 := rfl
    omega
  subst hj
  rw [hB.cell]
  simpa [ldC] using hu
set_option maxRecDepth 100000 in
theorem eright0_any (w : World) : Calls Tryz.prog 29 #[.agg z5A] w fun e w' => e = .returned (.bool true) ∧ Below w.heap.size w w' := by
  have hr0 : rightB 0 0 0 = true := by decide
  have B0 : Blk (w.alloc (.cells z5A 38)) w.heap.size 38 z5A := Blk.new w _ _
  have hb0 : Below w.heap.size w (w.alloc (.cells z5A 38)) := bal (b0 w) _
  go_enter Tryz.func29, Tryz.ntmps29
  go_upto_region 2 with (fail)
  generalize w.alloc (.cells z5A 38) = W at *
  obtain ⟨gl, c0, c1, c2, c3, c4, f0, f1, f2, f3, f4⟩ := B0.c5
  go_wp2_with fail
  clear c0 c1 c2 c3 c4 f0 f1 f2 f3 f4
  go_loopw [3, 9] (fun s i wr => s = .int .i64 0 ∧ i = .int .i64 0 ∧ Below w.heap.size w wr ∧ Blk wr w.heap.size 38 z5A) (fun _ _ _ => 0)
  case atStart => exact ⟨rfl, rfl, hb0, B0⟩
  case round =>
    clear hb0 B0
    obtain ⟨rfl, rfl, hb, B1⟩ := hrel
    obtain ⟨gl, c0, c1, c2, c3, c4, f0, f1, f2, f3, f4⟩ := B1.c5
    go_wp2_with fail
    refine (right_any 0 0 0 _).mono ?_
    rintro e w1 ⟨rfl, d1⟩
    rw [hr0]
    have B2 := B1.keep d1
    have hb2 := bt hb d1
    clear gl c0 c1 c2 c3 c4 f0 f1 f2 f3 f4 B1
    obtain ⟨gl, c0, c1, c2, c3, c4, f0, f1, f2, f3, f4⟩ := B2.c5
    go_wp2_with fail
    have hcon := from_any 0 (some ⟨w1.heap.size, 0, none⟩) 1 [0] (by simp) _ (lit_int0 w1 0)
    refine hcon.mono ?_
    clear hcon
    rintro e w2 ⟨rfl, d2⟩
    go_wp2
    go_ret
    exact ⟨rfl, bt (bal hb2 _) d2⟩
set_option maxHeartbeats 1600000 in
set_option maxRecDepth 100000 in
theorem putcell0_any (w : World) : Calls Tryz.prog 19 #[.agg z5A] w fun e w' => e = .returned (.tuple #[.string ⟨([0, 0, 0, 0, 0] : List UInt8).toArray⟩, .int .i64 0]) ∧ Below w.heap.size w w' := by
  have B0 : Blk (w.alloc (.cells z5A 38)) w.heap.size 38 z5A := Blk.new w _ _
  have hb0 : Below w.heap.size w (w.alloc (.cells z5A 38)) := bal (b0 w) _
  go_enter Tryz.func19, Tryz.ntmps19
  go_upto_region 1 with (fail)
  generalize w.alloc (.cells z5A 38) = W at *
  obtain ⟨gl, c0, c1, c2, c3, c4, f0, f1, f2, f3, f4⟩ := B0.c5
  go_wp2_with fail
  refine (eright0_any _).mono ?_
  rintro e w1 ⟨rfl, d1⟩
  have B1 := B0.keep d1
  have hb1 := bt hb0 d1
  clear gl c0 c1 c2 c3 c4 f0 f1 f2 f3 f4 B0 hb0
  have hwr : Blk (w1.alloc (.cells #[.slice none 0 0] 90)) w1.heap.size 90 #[.slice none 0 0] := Blk.new w1 _ _
  have W1 : Wr w.heap.size w1.heap.size [] (w1.alloc (.cells #[.slice none 0 0] 90)) := ⟨_, hwr, World.ownsRow_nil _ _ _ _⟩
  have hb2 : Below w.heap.size w (w1.alloc (.cells #[.slice none 0 0] 90)) := bal hb1 _
  have B2 := B1.alloc (.cells #[.slice none 0 0] 90)
  have hgw : w.heap.size < w1.heap.size := B1.lt
  go_upto_region 4 with (fail)
  generalize w1.alloc (.cells #[.slice none 0 0] 90) = V at *
  generalize w1.heap.size = gw at *
  obtain ⟨gl, c0, c1, c2, c3, c4, f0, f1, f2, f3, f4⟩ := B2.c5
  go_wp2_with fail
  have hsz := hb2.size
  refine (wstamps_any w.heap.size gw (Nat.le_of_lt hgw) [] [(0, 0, 0)] (some ⟨V.heap.size, 0, none⟩) 1 _ (by simp) (by simp) (by simp; omega) (W1.alloc _) (lit_stamp 0 0 0 _ rfl W1.lt)).mono ?_
  rintro e w2 ⟨rfl, W2, k2⟩
  have hb3 := (bal hb2 (.cells #[.int .i64 0, .int .i64 0, .int .i64 0] 27)).trans k2.below
  have B3 := k2.blk (B2.alloc _) (by omega) (by decide)
  clear gl c0 c1 c2 c3 c4 f0 f1 f2 f3 f4 k2 B2 W1 hb2 hsz
  obtain ⟨gl, c0, c1, c2, c3, c4, f0, f1, f2, f3, f4⟩ := B3.c5
  have hsz := hb3.size
  go_wp2_with fail
  refine (wnums_any w.heap.size gw (Nat.le_of_lt hgw) _ [0, 0] (some ⟨w2.heap.size, 0, none⟩) 2 _ (by simp) (by decide) (by simp) (by simp; omega) (W2.alloc _) (lit_nums [0, 0] _ rfl W2.lt)).mono ?_
  rintro e w3 ⟨rfl, W3, k3⟩
  have hb4 := (bal hb3 (.cells #[.int .i64 0, .int .i64 0] 3)).trans k3.below
  have B4 := k3.blk (B3.alloc _) (by omega) (by decide)
  clear gl c0 c1 c2 c3 c4 f0 f1 f2 f3 f4 k3 B3 W2 hb3 hsz
  obtain ⟨gl, c0, c1, c2, c3, c4, f0, f1, f2, f3, f4⟩ := B4.c5
  rw [show ([] ++ stampsB [(0, 0, 0)] ++ numsB [0, 0] : List UInt8) = [0, 0, 0, 0, 0] by decide] at W3
  obtain ⟨l, hl⟩ : ∃ l : List UInt8, [0, 0, 0, 0, 0] = l := ⟨_, rfl⟩
  rw [hl] at W3
  have HL := Lib.hid hl
  clear hl
  go_wp2_with fail
  clear gl c0 c1 c2 c3 c4 f0 f1 f2 f3 f4
  go_loopw [24] (fun i wr => i = .int .i64 0 ∧ Below w.heap.size w wr ∧ Wr w.heap.size gw l wr) (fun _ _ => 0)
  case atStart => exact ⟨rfl, hb4, W3⟩
  case round =>
    clear hb4 W3 B4
    obtain ⟨rfl, hb, W4⟩ := hrel
    obtain ⟨v, hB, hown⟩ := W4
    obtain ⟨gl, v0, v1⟩ := hB.c1
    obtain ⟨Az, cz, rfl⟩ := own_slice hown
    have kc := run_conv_any (P := Tryz.prog) wr Tryz.underlying88 Tryz.underlying5 Tryz.underlying9 hown
    clear hown hB
    go_wp2
    go_ret2
    exact ⟨by rw [HL.out] <;> rfl, hb⟩
end Go.Proofs.YtkoligiilieboaaGreatDoor
namespace Go.Proofs.YtkoligiilieboaaGreatDoor
open Go.ChangeShapes Go.WideShapes Go.ChangeAt Go.RowKit Go.Deep
def wtPl (p : Pl) : Nat := p.lo.length + p.hi.length
def wtIt (x : It) : Nat := x.ky.length + x.vl.length
def wtRq (r : Rq) : Nat := r.ky.length + r.vl.length + r.old.length + r.hi.length
def wtAn (a : An) (its : List It) : Nat := a.vl.length + a.nx.length + (its.map wtIt).sum
def wtMs (m : Ms) (its : List It) (ps : List Pl) : Nat := m.text.length + wtRq m.req + wtAn m.ans its + (ps.map wtPl).sum
section
variable {H : Type} {enc : TypeId × Value → H} {w : World} {held : Bool}
end
end Go.Proofs.YtkoligiilieboaaGreatDoor
namespace Go.Proofs.YtkoligiilieboaaGreatDoor
open Go.RowKit
attribute [local go_sem] ByteArray.mk_append_mk ByteArray.extract_mk
attribute [local go_sem ↓] Go.wp_at_zero Go.wp_at_succ
theorem mem_sum {α : Type} (f : α → Nat) {l : List α} {x : α} (h : x ∈ l) : f x ≤ (l.map f).sum := by
  induction l with
  | nil => cases h
  | cons a r ih =>
    simp only [List.map_cons, List.sum_cons]
    rcases List.mem_cons.1 h with rfl | h
    · omega
    · have := ih h; omega
theorem itsB_len2 (l : List It) : (itsB l).length ≤ (l.map wtIt).sum + 18 * l.length := by
  induction l with
  | nil => simp [itsB]
  | cons x l ih =>
    have h1 := texts2 x.ky x.vl
    unfold itsB at *
    simp only [List.flatMap_cons, List.length_append, List.length_cons, List.map_cons, List.sum_cons, wtIt]
    omega
theorem plsB_len2 (l : List Pl) : (plsB l).length ≤ (l.map wtPl).sum + 45 * l.length := by
  induction l with
  | nil => simp [plsB]
  | cons x l ih =>
    have h1 := texts2 x.lo x.hi
    have h4 := numsB_len [x.sh, x.ce, x.ep]
    simp only [List.length_cons, List.length_nil] at h4
    unfold plsB at *
    simp only [List.flatMap_cons, List.length_append, List.length_cons, List.map_cons, List.sum_cons, wtPl]
    omega
theorem stamps_len1 (x : Stm) : (stampsB [x]).length ≤ 27 := by
  have h : stampsB [x] = stampB x := by simp [stampsB]
  rw [h]
  unfold stampB bytesS
  split
  · have := numsB_len [x.1, x.2.1, x.2.2]
    simpa using this
  · simp
theorem msgB_len (m : Ms) (its : List It) (ps : List Pl) (ls : List Int) (h1 : its.length ≤ 8) (h2 : ps.length ≤ 8) (h3 : ls.length ≤ 8) : (msgB m its ps ls).length ≤ wtMs m its ps + 2000 := by
  have a1 := numsB_len [m.kind, m.frm, m.to, m.shard, m.epoch, m.move, m.lease, m.num, m.of]
  have a2 := stamps_len1 (m.a, m.t, m.n)
  have a3 := texts1 m.text
  have a4 := numsB_len [m.req.cl, m.req.rq, m.req.kd]
  have a5 := texts2 m.req.ky m.req.vl
  have a6 := flagL_len m.req.had
  have a7 := texts1 m.req.old
  have a8 := stamps_len1 (m.req.a, m.req.t, m.req.n)
  have a9 := texts1 m.req.hi
  have b1 := numsB_len [m.req.lim, m.ans.er]
  have b2 := stamps_len1 (m.ans.a, m.ans.t, m.ans.n)
  have b3 := flagL_len m.ans.fd
  have b4 := texts1 m.ans.vl
  have b5 := numsB_len [(m.ans.itn : Int)]
  have b6 := itsB_len2 its
  have b7 := texts1 m.ans.nx
  have b8 := flagL_len m.ans.mo
  have b9 := numsB_len [(m.pn : Int)]
  have c1 := plsB_len2 ps
  have c2 := numsB_len [(m.mn : Int)]
  have c3 := numsB_len ls
  simp only [List.length_cons, List.length_nil] at a1 a4 b1 b5 b9 c2
  unfold msgB wtMs wtRq wtAn
  simp only [List.length_append, List.length_nil]
  omega
theorem sz_of_wt {m : Ms} {its : List It} {ps : List Pl} (h : wtMs m its ps ≤ 2097152) : SzM m its ps := by
  unfold wtMs wtRq wtAn at h
  refine ⟨by omega, by omega, by omega, by omega, by omega, by omega, by omega, fun x hx => ?_, fun x hx => ?_⟩
  · have : x.ky.length + x.vl.length ≤ (its.map wtIt).sum := mem_sum wtIt hx
    omega
  · have : x.lo.length + x.hi.length ≤ (ps.map wtPl).sum := mem_sum wtPl hx
    omega
theorem rightM_congr {m n : Ms} {its jts : List It} {ps qs : List Pl} {ls ks : List Int} (h : tupM m its ps ls = tupM n jts qs ks) (a1 : its.length = m.ans.itn) (a2 : ps.length = m.pn) (a3 : ls.length = m.mn) (b1 : jts.length = n.ans.itn) (b2 : qs.length = n.pn) (b3 : ks.length = n.mn) : rightM m ps ls = rightM n qs ks := by
  simp only [tupM, Prod.mk.injEq] at h
  obtain ⟨e1, e2, e3, e4, e5, e6, e7, e8, e9, ⟨e10, e11, e12⟩, _, f1, f2, f3, _, _, _, _, ⟨f4, f5, f6⟩, _, f7, g1, ⟨g2, g3, g4⟩, _, _, rfl, _, _, rfl, rfl⟩ := h
  unfold rightM headB numsM
  rw [← a1, ← a2, ← a3, ← b1, ← b2, ← b3, e1, e2, e3, e4, e5, e6, e7, e8, e9, e10, e11, e12, f1, f2, f3, f4, f5, f6, f7, g1, g2, g3, g4]
theorem took_right {m : Ms} {its : List It} {ps : List Pl} {ls : List Int} {w w' : World} {e : Ending} (hr : rightM m ps ls = true) (hi : its.length = m.ans.itn) (hp : ps.length = m.pn) (hl : ls.length = m.mn) (hZ : SzM m its ps)
    (h : TakeMsgPost (msgB m its ps ls) w e w') : ∃ n jts qs ks, e = .returned (.tuple #[msV n, .int .i64 0]) ∧ tupM n jts qs ks = tupM m its ps ls ∧ MsgIn n jts qs ks w' ∧ Below w.heap.size w w' := by
  have hb := msg_back m its ps ls hr hi hp hl hZ
  rcases h with ⟨n, jts, qs, ks, he, h1, _, h3, h4⟩ | ⟨_, n, jts, qs, ks, r, h1, i1, i2, i3, h5, _⟩
  · rw [hb] at h1
    injection h1 with h1 _
    exact ⟨n, jts, qs, ks, he, h1.symm, h3, h4⟩
  · rw [hb] at h1
    injection h1 with h1 h2
    subst h2
    rcases h5 with h5 | h5 | h5
    · cases h5
    · exact absurd rfl h5
    · rw [← rightM_congr h1 hi hp hl i1 i2 i3, hr] at h5
      cases h5
def m0 : Ms := ⟨3, 11, 0, 0, 0, 0, 0, 0, 0, 0, 0, 0, [], ⟨0, 0, 0, [], [], false, [], 0, 0, 0, [], 0⟩, ⟨0, 0, 0, 0, false, [], none, 0, 0, [], false⟩, none, 0, 0, none, 0, 0⟩
theorem m0_right : rightM m0 [] [] = true := by decide
theorem m0_in (w : World) : MsgIn m0 [] [] [] w :=
  ⟨rfl, rfl, rfl, Nat.le_refl _, Nat.le_refl _, Nat.le_refl _, by decide, by decide, by decide, fun h => absurd h (by simp), fun h => absurd h (by simp), fun h => absurd h (by simp)⟩
theorem iok_dec {z : Int} (h : (Lit.int .i64 z).wf = true) : iok z := h
theorem m0_ok : msOk m0 := by
  refine ⟨by first | exact iok_dec (by decide) | decide, by first | exact iok_dec (by decide) | decide, by first | exact iok_dec (by decide) | decide, by first | exact iok_dec (by decide) | decide, by first | exact iok_dec (by decide) | decide, by first | exact iok_dec (by decide) | decide, by first | exact iok_dec (by decide) | decide, by first | exact iok_dec (by decide) | decide, by first | exact iok_dec (by decide) | decide, ⟨by first | exact iok_dec (by decide) | decide, by first | exact iok_dec (by decide) | decide, by first | exact iok_dec (by decide) | decide⟩, by first | exact iok_dec (by decide) | decide, ⟨by first | exact iok_dec (by decide) | decide, by first | exact iok_dec (by decide) | decide, by first | exact iok_dec (by decide) | decide, by first | exact iok_dec (by decide) | decide, ⟨by first | exact iok_dec (by decide) | decide, by first | exact iok_dec (by decide) | decide, by first | exact iok_dec (by decide) | decide⟩, by first | exact iok_dec (by decide) | decide, by first | exact iok_dec (by decide) | decide, by first | exact iok_dec (by decide) | decide, by first | exact iok_dec (by decide) | decide⟩, ⟨by first | exact iok_dec (by decide) | decide, ⟨by first | exact iok_dec (by decide) | decide, by first | exact iok_dec (by decide) | decide, by first | exact iok_dec (by decide) | decide⟩, by first | exact iok_dec (by decide) | decide, by first | exact iok_dec (by decide) | decide⟩⟩
theorem m0_sz : SzM m0 [] [] := sz_of_wt (by decide)
theorem m0_put : putM m0 [] [] [] = (msgB m0 [] [] [], 0) := by unfold putM; rw [if_pos m0_right]
theorem m0_len : (msgB m0 [] [] []).length ≤ 4194304 := by
  have := msgB_len m0 [] [] [] (by decide) (by decide) (by decide)
  have h2 : wtMs m0 [] [] = 0 := by decide
  omega
set_option maxHeartbeats 6400000 in
set_option maxRecDepth 100000 in
theorem awake17 (w : World) : Calls Tryz.prog 5 #[] w fun e w' => e = .returned (.bool true) ∧ Below w.heap.size w w' := by
  go_enter Tryz.func5, Tryz.ntmps5
  go_wp2_with fail
  refine (putcell0_any w).mono ?_
  rintro e w1 ⟨rfl, d1⟩
  have hb1 : Below w.heap.size w w1 := d1
  go_wp2_with fail
  refine (putmsg_any m0 [] [] [] w1 (m0_in w1) m0_ok (fun _ h => by cases h) (fun _ h => by cases h) m0_sz).mono ?_
  rintro e w2 ⟨rfl, d2⟩
  rw [m0_put]
  have hb2 := bt hb1 d2
  obtain ⟨t, ht⟩ : ∃ t, msgB m0 [] [] [] = t := ⟨_, rfl⟩
  have htl := m0_len
  rw [ht] at htl
  rw [ht]
  have HT := Lib.hid ht
  clear ht
  go_wp2_with fail
  refine (takemsg_any t 4194304 (Nat.le_refl _) htl w2).mono ?_
  intro e w3 hpost
  rw [← HT.out] at hpost
  obtain ⟨n, jts, qs, ks, rfl, hn, hN, d3⟩ := took_right m0_right rfl rfl rfl m0_sz hpost
  have hfr : n.frm = 11 := by
    simp only [tupM, Prod.mk.injEq] at hn
    exact hn.2.1
  have hb3 := bt hb2 d3
  clear hn hN hpost d3
  have B3 : Blk (w3.alloc (.cells zmA 51)) w3.heap.size 51 zmA := Blk.new w3 _ _
  have hon : (msA n).toList.all (·.oneCell') = true := (by with_unfolding_all rfl)
  have D : ∀ w', w' = (w3.alloc (.cells zmA 51)).setRow w3.heap.size (msA n) → Below w.heap.size w w' ∧ Blk w' w3.heap.size 51 (msA n) := by
    rintro _ rfl
    exact ⟨below_row (bal hb3 _) hb3.size _, B3.row _⟩
  go_wp2_with (with_reducible refine wpl_st B3 (by with_unfolding_all rfl) 51 _ _ (by with_unfolding_all rfl) (msA n) (by with_unfolding_all rfl) (by with_unfolding_all rfl) (by with_unfolding_all rfl) (by with_unfolding_all rfl) hon ?_; refine Classical.byContradiction fun hno => ?_)
  refine hno ?_
  clear hno
  intro w4 e4
  obtain ⟨hb4, B4⟩ := D w4 e4
  clear e4 D B3
  have c1 : w4.cell? ⟨w3.heap.size, 1, none⟩ = some (.int .i64 11) := (B4.cell 1).trans (by rw [← hfr]; rfl)
  have g4 := B4.lt
  go_wp2
  go_ret
  exact ⟨rfl, hb4⟩
end Go.Proofs.YtkoligiilieboaaGreatDoor
