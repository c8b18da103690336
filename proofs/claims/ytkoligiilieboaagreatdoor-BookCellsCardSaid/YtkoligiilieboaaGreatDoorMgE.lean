/- engine.from: whether each number lies from least to the greatest. A cell that holds nothing: it is right, and written as five zero bytes. A message and a cell that come in, opened field by field, with the bulk of their texts. How long the bytes of a message are; what a message holds decides whether it is right; few; the fixed answer. -/
import Derived.Test.YtkoligiilieboaaGreatDoorMgC
import Derived.Deep.CutRange
import Derived.Test.YtkoligiilieboaaGreatDoorRows
import Derived.Test.YtkoligiilieboaaGreatDoorBkX
import Derived.Test.YtkoligiilieboaaGreatDoorBkO
import Derived.Test.YtkoligiilieboaaGreatDoorMgA
set_option linter.unusedSimpArgs false
set_option linter.unusedVariables false
namespace Go.Proofs.YtkoligiilieboaaGreatDoor
open Go.RowKit
attribute [local go_sem ↓] Go.wp_at_zero Go.wp_at_succ
def outB (least n : Int) : Bool := decide (n < least) || decide (1099511627776 < n)
theorem from1_any (least n : Int) (g : Nat) (w : World) (hc : w.cell? ⟨g, 0, none⟩ = some (.int .i64 least)) :
    Calls Tryz.prog 100 #[.int .i64 n, .pointer (some ⟨g, 0, none⟩)] w fun e w' => e = .returned (.bool (outB least n)) ∧ w = w' := by
  by_cases h1 : n < least
  case pos =>
    have hv : outB least n = true := by simp [outB, h1]
    rw [hv]
    clear hv
    go_enter Tryz.func100, Tryz.ntmps100
    go_wp2
    go_ret
    exact ⟨rfl, rfl⟩
  case neg =>
    by_cases h2 : 1099511627776 < n
    case pos =>
      have hv : outB least n = true := by simp [outB, h2]
      rw [hv]
      clear hv
      go_enter Tryz.func100, Tryz.ntmps100
      go_wp2
      go_ret
      exact ⟨rfl, rfl⟩
    case neg =>
      have hv : outB least n = false := by simp [outB]; omega
      rw [hv]
      clear hv
      go_enter Tryz.func100, Tryz.ntmps100
      go_wp2
      go_ret
      exact ⟨rfl, rfl⟩
set_option maxHeartbeats 1600000 in
set_option maxRecDepth 100000 in
theorem idxf_any (A : Option Addr) (cap : Nat) (ls : List Int) (hmax : ls.length ≤ 9223372036854775807) (least : Int) (g : Nat) (w : World) (hL : RdR ldC 1 w w.heap.size A ls) (hg : g < w.heap.size) (hc : w.cell? ⟨g, 0, none⟩ = some (.int .i64 least)) :
    Calls Tryz.prog 111 #[.slice A ls.length cap, .func (.func 100) #[] #[.pointer (some ⟨g, 0, none⟩)]] w fun e w' => (∃ i : Int, e = .returned (.int .i64 i) ∧ ls.any (outB least) = decide (0 ≤ i)) ∧ Below w.heap.size w w' := by
  go_enter Tryz.func111, Tryz.ntmps111
  go_wp2
  go_loopw [8] (fun i wr => ∃ k : Nat, i = .int .i64 k ∧ k ≤ ls.length ∧ (ls.take k).any (outB least) = false ∧ Below w.heap.size w wr) (fun i _ => ls.length - (intOf i).toNat)
  case atStart =>
    exact ⟨0, rfl, Nat.zero_le _, rfl, Below.refl _ _⟩
  case round =>
    obtain ⟨k, rfl, hk, hbad, hb⟩ := hrel
    have hbs := hb.size
    have i0 : (0 : Int) ≤ (k : Int) := by omega
    have HB := Lib.hid hbad
    clear hbad
    by_cases hlt : k < ls.length
    case pos =>
      obtain ⟨b, off, rfl, hbB, g0⟩ := ldc_cells hL k hlt
      have c0 := (hb.cell (p := ⟨b, _, none⟩) hbB).trans g0
      have cg := (hb.cell (p := ⟨g, _, none⟩) hg).trans hc
      have i1 : (k : Int) < (ls.length : Int) := by omega
      have hmem : ls[k] ∈ ls := List.getElem_mem hlt
      have hsn : (ls.take (k + 1)).any (outB least) = outB least ls[k] := by rw [List.take_succ_eq_append_getElem hlt, List.any_append, HB.out]; simp
      obtain ⟨x, hx⟩ : ∃ x, ls[k] = x := ⟨_, rfl⟩
      rw [hx] at c0 hmem hsn
      have HM := Lib.hid hmem
      have HS := Lib.hid hsn
      clear hx g0 hmem hsn
      go_wp2_with fail
      refine (from1_any least x g _ cg).mono ?_
      rintro e w1 ⟨rfl, rfl⟩
      obtain ⟨q, hq⟩ : ∃ q, outB least x = q := ⟨_, rfl⟩
      have HQ := Lib.hid hq
      rw [hq]
      clear hq
      cases q
      case true =>
        go_wp2
        go_ret
        refine ⟨⟨k, rfl, ?_⟩, hb⟩
        rw [List.any_eq_true.2 ⟨x, HM.out, HQ.out⟩]
        simp
      case false =>
        go_wp2
        go_roundw
        case rel =>
          exact ⟨k + 1, by go_num, by omega, by rw [HS.out, HQ.out], hb⟩
        case measure =>
          simp [intOf]; omega
    case neg =>
      have hke : k = ls.length := by omega
      subst hke
      go_wp2
      go_ret
      refine ⟨⟨-1, rfl, ?_⟩, hb⟩
      have := HB.out
      rw [List.take_length] at this
      rw [this]
      rfl
set_option maxRecDepth 100000 in
theorem hasf_any (A : Option Addr) (cap : Nat) (ls : List Int) (hmax : ls.length ≤ 9223372036854775807) (least : Int) (g : Nat) (w : World) (hL : RdR ldC 1 w w.heap.size A ls) (hg : g < w.heap.size) (hc : w.cell? ⟨g, 0, none⟩ = some (.int .i64 least)) :
    Calls Tryz.prog 76 #[.slice A ls.length cap, .func (.func 100) #[] #[.pointer (some ⟨g, 0, none⟩)]] w fun e w' => e = .returned (.bool (ls.any (outB least))) ∧ Below w.heap.size w w' := by
  go_enter Tryz.func76, Tryz.ntmps76
  go_wp2_with fail
  refine (idxf_any A cap ls hmax least g w hL hg hc).mono ?_
  rintro e w1 ⟨⟨i, rfl, hi⟩, hb1⟩
  have HI := Lib.hid hi
  clear hi
  by_cases h0 : 0 ≤ i
  case pos =>
    go_wp2
    go_ret
    exact ⟨by rw [HI.out]; simp [h0], hb1⟩
  case neg =>
    go_wp2
    go_ret
    exact ⟨by rw [HI.out]; simp [h0], hb1⟩
set_option maxRecDepth 100000 in
theorem from_any (least : Int) (A : Option Addr) (cap : Nat) (ls : List Int) (hmax : ls.length ≤ 9223372036854775807) (w : World) (hL : RdR ldC 1 w w.heap.size A ls) :
    Calls Tryz.prog 61 #[.int .i64 least, .slice A ls.length cap] w fun e w' => e = .returned (.bool (!(ls.any (outB least)))) ∧ Below w.heap.size w w' := by
  go_enter Tryz.func61, Tryz.ntmps61
  go_wp2_with fail
  refine (hasf_any A cap ls hmax least w.heap.size _ (RdR.more (hL.below (bal (b0 w) _) (Nat.le_refl _)) (by simp)) (by simp) ((Blk.new w _ _).cell 0)).mono ?_
  rintro e w1 ⟨rfl, hb1⟩
  go_wp2
  go_ret
  exact ⟨rfl, bt (bal (b0 w) _) hb1⟩
theorem outB_one (z : Int) : (!outB 1 z) = (decide (1 ≤ z) && decide (z ≤ 1099511627776)) := by
  rw [Bool.eq_iff_iff]
  simp [outB]
theorem outB_zero (z : Int) : (!outB 0 z) = fitsB z := by
  rw [Bool.eq_iff_iff]
  simp [outB, fitsB]
end Go.Proofs.YtkoligiilieboaaGreatDoor
namespace Go.Proofs.YtkoligiilieboaaGreatDoor
open Go.RowKit
attribute [local go_sem] ByteArray.mk_append_mk ByteArray.extract_mk
attribute [local go_sem ↓] Go.wp_at_zero Go.wp_at_succ
abbrev z5A : Array Value := #[.slice none 0 0, .int .i64 0, .int .i64 0, .int .i64 0, .int .i64 0]
theorem lit_int0 (W : World) (z : Int) : RdR ldC 1 (W.alloc (.cells #[.int .i64 z] 3)) (W.alloc (.cells #[.int .i64 z] 3)).heap.size (some ⟨W.heap.size, 0, none⟩) [z] := fun _ => by
  have hB := Blk.new W 3 #[.int .i64 z]
  refine ⟨W.heap.size, 0, rfl, hB.lt, fun k hk j u hu => ?_⟩
  obtain rfl : k = 0 := by simpa using hk
  have hj : j = 0 := by
    have h1 := (List.getElem?_eq_some_iff.1 hu).1
    have h2 : (ldC ([z][0])).length = 1 := rfl
    omega
  subst hj
  rw [hB.cell]
  simpa [ldC] using hu
set_option maxRecDepth 100000 in
theorem eright0_any (w : World) : Calls Tryz.prog 29 #[.agg z5A] w fun e w' => e = .returned (.bool true) ∧ Below w.heap.size w w' := by
  have hr0 : rightB 0 0 0 = true := by decide
  have B0 : Blk (w.alloc (.cells z5A 38)) w.heap.size 38 z5A := Blk.new w _ _
  have hb0 : Below w.heap.size w (w.alloc (.cells z5A 38)) := bal (b0 w) _
  go_enter Tryz.func29, Tryz.ntmps29
  go_upto_region 2 with (fail)
  generalize w.alloc (.cells z5A 38) = W at *
  obtain ⟨gl, c0, c1, c2, c3, c4, f0, f1, f2, f3, f4⟩ := B0.c5
  go_wp2_with fail
  clear c0 c1 c2 c3 c4 f0 f1 f2 f3 f4
  go_loopw [3, 9] (fun s i wr => s = .int .i64 0 ∧ i = .int .i64 0 ∧ Below w.heap.size w wr ∧ Blk wr w.heap.size 38 z5A) (fun _ _ _ => 0)
  case atStart => exact ⟨rfl, rfl, hb0, B0⟩
  case round =>
    clear hb0 B0
    obtain ⟨rfl, rfl, hb, B1⟩ := hrel
    obtain ⟨gl, c0, c1, c2, c3, c4, f0, f1, f2, f3, f4⟩ := B1.c5
    go_wp2_with fail
    refine (right_any 0 0 0 _).mono ?_
    rintro e w1 ⟨rfl, d1⟩
    rw [hr0]
    have B2 := B1.keep d1
    have hb2 := bt hb d1
    clear gl c0 c1 c2 c3 c4 f0 f1 f2 f3 f4 B1
    obtain ⟨gl, c0, c1, c2, c3, c4, f0, f1, f2, f3, f4⟩ := B2.c5
    go_wp2_with fail
    have hcon := from_any 0 (some ⟨w1.heap.size, 0, none⟩) 1 [0] (by simp) _ (lit_int0 w1 0)
    refine hcon.mono ?_
    clear hcon
    rintro e w2 ⟨rfl, d2⟩
    go_wp2
    go_ret
    exact ⟨rfl, bt (bal hb2 _) d2⟩
set_option maxHeartbeats 1600000 in
set_option maxRecDepth 100000 in
theorem putcell0_any (w : World) : Calls Tryz.prog 19 #[.agg z5A] w fun e w' => e = .returned (.tuple #[.string ⟨([0, 0, 0, 0, 0] : List UInt8).toArray⟩, .int .i64 0]) ∧ Below w.heap.size w w' := by
  have B0 : Blk (w.alloc (.cells z5A 38)) w.heap.size 38 z5A := Blk.new w _ _
  have hb0 : Below w.heap.size w (w.alloc (.cells z5A 38)) := bal (b0 w) _
  go_enter Tryz.func19, Tryz.ntmps19
  go_upto_region 1 with (fail)
  generalize w.alloc (.cells z5A 38) = W at *
  obtain ⟨gl, c0, c1, c2, c3, c4, f0, f1, f2, f3, f4⟩ := B0.c5
  go_wp2_with fail
  refine (eright0_any _).mono ?_
  rintro e w1 ⟨rfl, d1⟩
  have B1 := B0.keep d1
  have hb1 := bt hb0 d1
  clear gl c0 c1 c2 c3 c4 f0 f1 f2 f3 f4 B0 hb0
  have hwr : Blk (w1.alloc (.cells #[.slice none 0 0] 90)) w1.heap.size 90 #[.slice none 0 0] := Blk.new w1 _ _
  have W1 : Wr w.heap.size w1.heap.size [] (w1.alloc (.cells #[.slice none 0 0] 90)) := ⟨_, hwr, World.ownsRow_nil _ _ _ _⟩
  have hb2 : Below w.heap.size w (w1.alloc (.cells #[.slice none 0 0] 90)) := bal hb1 _
  have B2 := B1.alloc (.cells #[.slice none 0 0] 90)
  have hgw : w.heap.size < w1.heap.size := B1.lt
  go_upto_region 4 with (fail)
  generalize w1.alloc (.cells #[.slice none 0 0] 90) = V at *
  generalize w1.heap.size = gw at *
  obtain ⟨gl, c0, c1, c2, c3, c4, f0, f1, f2, f3, f4⟩ := B2.c5
  go_wp2_with fail
  have hsz := hb2.size
  refine (wstamps_any w.heap.size gw (Nat.le_of_lt hgw) [] [(0, 0, 0)] (some ⟨V.heap.size, 0, none⟩) 1 _ (by simp) (by simp) (by simp; omega) (W1.alloc _) (lit_stamp 0 0 0 _ rfl W1.lt)).mono ?_
  rintro e w2 ⟨rfl, W2, k2⟩
  have hb3 := (bal hb2 (.cells #[.int .i64 0, .int .i64 0, .int .i64 0] 27)).trans k2.below
  have B3 := k2.blk (B2.alloc _) (by omega) (by decide)
  clear gl c0 c1 c2 c3 c4 f0 f1 f2 f3 f4 k2 B2 W1 hb2 hsz
  obtain ⟨gl, c0, c1, c2, c3, c4, f0, f1, f2, f3, f4⟩ := B3.c5
  have hsz := hb3.size
  go_wp2_with fail
  refine (wnums_any w.heap.size gw (Nat.le_of_lt hgw) _ [0, 0] (some ⟨w2.heap.size, 0, none⟩) 2 _ (by simp) (by decide) (by simp) (by simp; omega) (W2.alloc _) (lit_nums [0, 0] _ rfl W2.lt)).mono ?_
  rintro e w3 ⟨rfl, W3, k3⟩
  have hb4 := (bal hb3 (.cells #[.int .i64 0, .int .i64 0] 3)).trans k3.below
  have B4 := k3.blk (B3.alloc _) (by omega) (by decide)
  clear gl c0 c1 c2 c3 c4 f0 f1 f2 f3 f4 k3 B3 W2 hb3 hsz
  obtain ⟨gl, c0, c1, c2, c3, c4, f0, f1, f2, f3, f4⟩ := B4.c5
  rw [show ([] ++ stampsB [(0, 0, 0)] ++ numsB [0, 0] : List UInt8) = [0, 0, 0, 0, 0] by decide] at W3
  obtain ⟨l, hl⟩ : ∃ l : List UInt8, [0, 0, 0, 0, 0] = l := ⟨_, rfl⟩
  rw [hl] at W3
  have HL := Lib.hid hl
  clear hl
  go_wp2_with fail
  clear gl c0 c1 c2 c3 c4 f0 f1 f2 f3 f4
  go_loopw [24] (fun i wr => i = .int .i64 0 ∧ Below w.heap.size w wr ∧ Wr w.heap.size gw l wr) (fun _ _ => 0)
  case atStart => exact ⟨rfl, hb4, W3⟩
  case round =>
    clear hb4 W3 B4
    obtain ⟨rfl, hb, W4⟩ := hrel
    obtain ⟨v, hB, hown⟩ := W4
    obtain ⟨gl, v0, v1⟩ := hB.c1
    obtain ⟨Az, cz, rfl⟩ := own_slice hown
    have kc := run_conv_any (P := Tryz.prog) wr Tryz.underlying88 Tryz.underlying5 Tryz.underlying9 hown
    clear hown hB
    go_wp2
    go_ret2
    exact ⟨by rw [HL.out] <;> rfl, hb⟩
end Go.Proofs.YtkoligiilieboaaGreatDoor
namespace Go.Proofs.YtkoligiilieboaaGreatDoor
open Go.ChangeShapes Go.WideShapes Go.ChangeAt Go.RowKit Go.Deep
theorem len_cons {α : Type} {l : List α} {n : Nat} (h : l.length = n + 1) : ∃ a t, l = a :: t ∧ t.length = n := by
  cases l with
  | nil => simp at h
  | cons a t => exact ⟨a, t, rfl, by simpa using h⟩
theorem bulkAll_range {H α : Type} (D : Nat → DataW H) (X : Nat → α) (wt : α → Nat) (n : Nat) (h : ∀ i, i < n → wt (X i) ≤ Rows.uptoBulk (D i)) : (((List.range n).map X).map wt).sum ≤ Rows.uptoBulkAll ((List.range n).map D) := by
  have gen : ∀ l : List Nat, (∀ i ∈ l, i < n) → ((l.map X).map wt).sum ≤ Rows.uptoBulkAll (l.map D) := fun l => by
    induction l with
    | nil => intro _; simp [Rows.uptoBulkAll]
    | cons i r ih =>
      intro hl
      have h1 := ih fun j hj => hl j (List.mem_cons_of_mem _ hj)
      have h2 := h i (hl i List.mem_cons_self)
      simp only [List.map_cons, List.sum_cons, Rows.uptoBulkAll]
      omega
  exact gen _ fun i hi => List.mem_range.1 hi
def wtPl (p : Pl) : Nat := p.lo.length + p.hi.length
def wtLd (_ : Int) : Nat := 0
def wtIt (x : It) : Nat := x.ky.length + x.vl.length
def wtRq (r : Rq) : Nat := r.ky.length + r.vl.length + r.old.length + r.hi.length
def wtAn (a : An) (its : List It) : Nat := a.vl.length + a.nx.length + (its.map wtIt).sum
def wtMs (m : Ms) (its : List It) (ps : List Pl) : Nat := m.text.length + wtRq m.req + wtAn m.ans its + (ps.map wtPl).sum
def wtVs (v : Vs) : Nat := v.val.length
def wtEn (e : En) : Nat := e.key.length + (e.vs.map wtVs).sum
def wtDn (d : Dn) : Nat := wtAn d.ans d.its
def wtSh (s : Sh) : Nat := s.lo.length + s.hi.length + (s.es.map wtEn).sum + (s.ds.map wtDn).sum
def wtCe (c : Ce) : Nat := (c.ss.map wtSh).sum
section
variable {H : Type} {enc : TypeId × Value → H} {w : World} {held : Bool}
theorem open_rowsB {P : Program} {α : Type} [Inhabited α] (cs : α → List Value) (s : Nat) (ok : α → Prop) (wt : α → Nat) {t e : TypeId} {cl : List Value} {fuel : Nat} {y : DataW H × List MemPlace} (ht : P.underlying t = some (.slice e)) (hc : P.cellsOf e = s) (hs : 0 < s)
    (hcs : ∀ x, (cs x).length = s)
    (hopen : ∀ (n : Nat) (l : List Value) (y : DataW H × List MemPlace), DataW.trod enc P w 0 (fun _ => true) held n e l = some y → ∃ x : α, l = cs x ∧ ok x ∧ wt x ≤ Rows.uptoBulk y.1)
    (hf : DataW.trod enc P w 0 (fun _ => true) held fuel t cl = some y) :
    ∃ (A : Option Addr) (n cap : Nat) (xs : List α), cl = [.slice A n cap] ∧ SlOk cs s ok w A n cap xs ∧ (xs.map wt).sum ≤ Rows.uptoBulk y.1 := by
  rcases open_slice ht hf with ⟨hcs2, _⟩ | ⟨a, len, cap', m, fl, D, Pl, hcs2, _, hl, hm, hmm, hyy, hx⟩
  · exact ⟨none, 0, 0, [], hcs2, ⟨rfl, by omega, by omega, (fun x hx => by cases hx), fun h => absurd h (by simp)⟩, by simp⟩
  · simp only [if_true] at hmm
    have each : ∀ i, i < len → ∃ x : α, (ok x ∧ wt x ≤ Rows.uptoBulk (D i)) ∧ ∀ j u, (cs x)[j]? = some u → w.cell? (a.add (i * s + j)) = some u := fun i hi => by
      obtain ⟨l, hc1, ht1⟩ := hx i (by omega)
      obtain ⟨x, hl2, ho, hwt⟩ := hopen _ _ _ ht1
      refine ⟨x, ⟨ho, hwt⟩, fun j u hu => ?_⟩
      obtain ⟨_, hcl, hat⟩ := World.cells?_some hc1
      have hj : j < s := by
        have := (List.getElem?_eq_some_iff.1 hu).1
        rw [hcs x] at this
        exact this
      have h2 := hat j (by rw [hc]; exact hj)
      rw [hc, Go.Deep.add_add] at h2
      rw [h2, hl2]
      exact hu
    obtain ⟨X, hX⟩ := choose_lt each
    refine ⟨some a, len, cap', (List.range len).map X, hcs2, ⟨by simp, by unfold maxLen at hm; omega, hl, fun x hx2 => ?_, fun hn => ?_⟩, ?_⟩
    · obtain ⟨i, hi, rfl⟩ := List.mem_map.1 hx2
      exact (hX i (List.mem_range.1 hi)).1.1
    · have hn : 0 < len := by simpa using hn
      have h0 := (hX 0 hn).2 0
      have hlen := hcs (X 0)
      have hc0 := h0 _ (List.getElem?_eq_getElem (by omega))
      obtain ⟨b, off, spot⟩ := a
      have hspot : spot = none := by simpa [Addr.add] using World.cell?_spot hc0
      subst hspot
      refine ⟨b, off, rfl, ?_, fun k hk j u hu => ?_⟩
      · have := cell_lt2 hc0
        simpa [Addr.add] using this
      · have hk : k < len := by simpa using hk
        have h2 := (hX k hk).2 j u (by simpa using hu)
        have ha : (⟨b, off, none⟩ : Addr).add (k * s + j) = ⟨b, off + (k * s + j), none⟩ := by unfold Addr.add; split <;> simp_all
        rw [ha] at h2
        exact h2
    · have h1 := bulkAll_range D X wt len fun i hi => (hX i hi).1.2
      rw [hyy]
      show _ ≤ Rows.uptoBulkAll _ + Rows.uptoBulkAll _ + 1
      omega
theorem tb_ld {n : Nat} {l : List Value} {y : DataW H × List MemPlace} (h : DataW.trod enc Tryz.prog w 0 (fun _ => true) held n 3 l = some y) : ∃ x : Int, l = ldC x ∧ iok x ∧ wtLd x ≤ Rows.uptoBulk y.1 := by
  obtain ⟨i, q, _, hw⟩ := DataW.trod_int Tryz.underlying3 h
  exact ⟨i, q, hw, Nat.zero_le _⟩
set_option maxRecDepth 100000 in
theorem tb_span {n : Nat} {l : List Value} {y : DataW H × List MemPlace} (h : DataW.trod enc Tryz.prog w 0 (fun _ => true) held n 24 l = some y) : ∃ a b : List UInt8, l = [.string ⟨a.toArray⟩, .string ⟨b.toArray⟩] ∧ (a.length ≤ 9223372036854775807 ∧ b.length ≤ 9223372036854775807) ∧ a.length + b.length ≤ Rows.uptoBulk y.1 := by
  obtain ⟨f0, f1, hs, e0, e1⟩ : ∃ f0 f1 : Field, Tryz.prog.underlying 24 = some (.struct #[f0, f1]) ∧ (f0.type = 9 ∧ f0.offset = 0) ∧ (f1.type = 9 ∧ f1.offset = 1) := ⟨_, _, Tryz.underlying24, ⟨rfl, rfl⟩, ⟨rfl, rfl⟩⟩
  obtain ⟨xs, m, _, hy, hlen, hxs, hf⟩ := DataW.trod_struct hs h
  rw [show Tryz.prog.cellsOf 24 = 2 by kernel_rfl] at hlen
  have hxs : xs.length = 2 := hxs
  obtain ⟨y0, t0, rfl, g0⟩ := len_cons hxs
  obtain ⟨y1, t1, rfl, g1⟩ := len_cons g0
  obtain rfl := List.eq_nil_of_length_eq_zero g1
  clear h hs hxs
  have hl : l = (List.drop 0 l).take 1 ++ ((List.drop 1 l).take 1 ++ (List.drop 2 l)) := by
    rw [dsplit l 1 1 2 rfl, dsplit l 0 1 1 rfl, List.drop_zero]
  rw [List.drop_of_length_le (Nat.le_of_eq hlen)] at hl
  have h0 : DataW.trod enc Tryz.prog w 0 (fun _ => true) held m f0.type ((l.drop f0.offset).take (Tryz.prog.cellsOf f0.type)) = some y0 := hf 0 f0 rfl
  rw [e0.1, e0.2, show Tryz.prog.cellsOf 9 = 1 by kernel_rfl] at h0
  obtain ⟨s0, q0, z0, w0⟩ := DataW.trod_string Tryz.underlying9 h0
  obtain ⟨l0, rfl⟩ : ∃ l : List UInt8, s0 = ⟨l.toArray⟩ := ⟨s0.data.toList, by cases s0; simp⟩
  rw [size_mkL] at w0
  have k0 : l0.length ≤ Rows.uptoBulk y0.1 := by rw [z0]; simp [Rows.uptoBulk]
  rw [q0] at hl
  have h1 : DataW.trod enc Tryz.prog w 0 (fun _ => true) held m f1.type ((l.drop f1.offset).take (Tryz.prog.cellsOf f1.type)) = some y1 := hf 1 f1 rfl
  rw [e1.1, e1.2, show Tryz.prog.cellsOf 9 = 1 by kernel_rfl] at h1
  obtain ⟨s1, q1, z1, w1⟩ := DataW.trod_string Tryz.underlying9 h1
  obtain ⟨l1, rfl⟩ : ∃ l : List UInt8, s1 = ⟨l.toArray⟩ := ⟨s1.data.toList, by cases s1; simp⟩
  rw [size_mkL] at w1
  have k1 : l1.length ≤ Rows.uptoBulk y1.1 := by rw [z1]; simp [Rows.uptoBulk]
  rw [q1] at hl
  have hK : l0.length + l1.length ≤ Rows.uptoBulk y.1 := by
    rw [hy]
    show _ ≤ Rows.uptoBulkAll [y0.1, y1.1] + 1
    simp only [Rows.uptoBulkAll]
    omega
  exact ⟨l0, l1, hl, ⟨w0, w1⟩, hK⟩
def plOk2 (p : Pl) : Prop := (p.lo.length ≤ 9223372036854775807 ∧ p.hi.length ≤ 9223372036854775807) ∧ iok p.sh ∧ iok p.ce ∧ iok p.ep
set_option maxRecDepth 100000 in
theorem tb_pl {n : Nat} {l : List Value} {y : DataW H × List MemPlace} (h : DataW.trod enc Tryz.prog w 0 (fun _ => true) held n 81 l = some y) : ∃ p : Pl, l = plC p ∧ plOk2 p ∧ wtPl p ≤ Rows.uptoBulk y.1 := by
  obtain ⟨f0, f1, f2, f3, hs, e0, e1, e2, e3⟩ : ∃ f0 f1 f2 f3 : Field, Tryz.prog.underlying 81 = some (.struct #[f0, f1, f2, f3]) ∧ (f0.type = 24 ∧ f0.offset = 0) ∧ (f1.type = 3 ∧ f1.offset = 2) ∧ (f2.type = 3 ∧ f2.offset = 3) ∧ (f3.type = 3 ∧ f3.offset = 4) := ⟨_, _, _, _, Tryz.underlying81, ⟨rfl, rfl⟩, ⟨rfl, rfl⟩, ⟨rfl, rfl⟩, ⟨rfl, rfl⟩⟩
  obtain ⟨xs, m, _, hy, hlen, hxs, hf⟩ := DataW.trod_struct hs h
  rw [show Tryz.prog.cellsOf 81 = 5 by kernel_rfl] at hlen
  have hxs : xs.length = 4 := hxs
  obtain ⟨y0, t0, rfl, g0⟩ := len_cons hxs
  obtain ⟨y1, t1, rfl, g1⟩ := len_cons g0
  obtain ⟨y2, t2, rfl, g2⟩ := len_cons g1
  obtain ⟨y3, t3, rfl, g3⟩ := len_cons g2
  obtain rfl := List.eq_nil_of_length_eq_zero g3
  clear h hs hxs
  have hl : l = (List.drop 0 l).take 2 ++ ((List.drop 2 l).take 1 ++ ((List.drop 3 l).take 1 ++ ((List.drop 4 l).take 1 ++ (List.drop 5 l)))) := by
    rw [dsplit l 4 1 5 rfl, dsplit l 3 1 4 rfl, dsplit l 2 1 3 rfl, dsplit l 0 2 2 rfl, List.drop_zero]
  rw [List.drop_of_length_le (Nat.le_of_eq hlen)] at hl
  have h0 : DataW.trod enc Tryz.prog w 0 (fun _ => true) held m f0.type ((l.drop f0.offset).take (Tryz.prog.cellsOf f0.type)) = some y0 := hf 0 f0 rfl
  rw [e0.1, e0.2, show Tryz.prog.cellsOf 24 = 2 by kernel_rfl] at h0
  obtain ⟨ua0, ub0, q0, w0, k0⟩ := tb_span h0
  rw [q0] at hl
  have h1 : DataW.trod enc Tryz.prog w 0 (fun _ => true) held m f1.type ((l.drop f1.offset).take (Tryz.prog.cellsOf f1.type)) = some y1 := hf 1 f1 rfl
  rw [e1.1, e1.2, show Tryz.prog.cellsOf 3 = 1 by kernel_rfl] at h1
  obtain ⟨i1, q1, _, w1⟩ := DataW.trod_int Tryz.underlying3 h1
  rw [q1] at hl
  have h2 : DataW.trod enc Tryz.prog w 0 (fun _ => true) held m f2.type ((l.drop f2.offset).take (Tryz.prog.cellsOf f2.type)) = some y2 := hf 2 f2 rfl
  rw [e2.1, e2.2, show Tryz.prog.cellsOf 3 = 1 by kernel_rfl] at h2
  obtain ⟨i2, q2, _, w2⟩ := DataW.trod_int Tryz.underlying3 h2
  rw [q2] at hl
  have h3 : DataW.trod enc Tryz.prog w 0 (fun _ => true) held m f3.type ((l.drop f3.offset).take (Tryz.prog.cellsOf f3.type)) = some y3 := hf 3 f3 rfl
  rw [e3.1, e3.2, show Tryz.prog.cellsOf 3 = 1 by kernel_rfl] at h3
  obtain ⟨i3, q3, _, w3⟩ := DataW.trod_int Tryz.underlying3 h3
  rw [q3] at hl
  have hK : ua0.length + ub0.length ≤ Rows.uptoBulk y.1 := by
    rw [hy]
    show _ ≤ Rows.uptoBulkAll [y0.1, y1.1, y2.1, y3.1] + 1
    simp only [Rows.uptoBulkAll]
    omega
  exact ⟨⟨ua0, ub0, i1, i2, i3⟩, hl, ⟨w0, w1, w2, w3⟩, hK⟩
set_option maxRecDepth 100000 in
theorem tb_rq {n : Nat} {l : List Value} {y : DataW H × List MemPlace} (h : DataW.trod enc Tryz.prog w 0 (fun _ => true) held n 44 l = some y) : ∃ r : Rq, l = (rqA r).toList ∧ rqOk r ∧ wtRq r ≤ Rows.uptoBulk y.1 := by
  obtain ⟨f0, f1, f2, f3, f4, f5, f6, f7, f8, f9, hs, e0, e1, e2, e3, e4, e5, e6, e7, e8, e9⟩ : ∃ f0 f1 f2 f3 f4 f5 f6 f7 f8 f9 : Field, Tryz.prog.underlying 44 = some (.struct #[f0, f1, f2, f3, f4, f5, f6, f7, f8, f9]) ∧ (f0.type = 3 ∧ f0.offset = 0) ∧ (f1.type = 3 ∧ f1.offset = 1) ∧ (f2.type = 3 ∧ f2.offset = 2) ∧ (f3.type = 9 ∧ f3.offset = 3) ∧ (f4.type = 9 ∧ f4.offset = 4) ∧ (f5.type = 4 ∧ f5.offset = 5) ∧ (f6.type = 9 ∧ f6.offset = 6) ∧ (f7.type = 27 ∧ f7.offset = 7) ∧ (f8.type = 9 ∧ f8.offset = 10) ∧ (f9.type = 3 ∧ f9.offset = 11) := ⟨_, _, _, _, _, _, _, _, _, _, Tryz.underlying44, ⟨rfl, rfl⟩, ⟨rfl, rfl⟩, ⟨rfl, rfl⟩, ⟨rfl, rfl⟩, ⟨rfl, rfl⟩, ⟨rfl, rfl⟩, ⟨rfl, rfl⟩, ⟨rfl, rfl⟩, ⟨rfl, rfl⟩, ⟨rfl, rfl⟩⟩
  obtain ⟨xs, m, _, hy, hlen, hxs, hf⟩ := DataW.trod_struct hs h
  rw [show Tryz.prog.cellsOf 44 = 12 by kernel_rfl] at hlen
  have hxs : xs.length = 10 := hxs
  obtain ⟨y0, t0, rfl, g0⟩ := len_cons hxs
  obtain ⟨y1, t1, rfl, g1⟩ := len_cons g0
  obtain ⟨y2, t2, rfl, g2⟩ := len_cons g1
  obtain ⟨y3, t3, rfl, g3⟩ := len_cons g2
  obtain ⟨y4, t4, rfl, g4⟩ := len_cons g3
  obtain ⟨y5, t5, rfl, g5⟩ := len_cons g4
  obtain ⟨y6, t6, rfl, g6⟩ := len_cons g5
  obtain ⟨y7, t7, rfl, g7⟩ := len_cons g6
  obtain ⟨y8, t8, rfl, g8⟩ := len_cons g7
  obtain ⟨y9, t9, rfl, g9⟩ := len_cons g8
  obtain rfl := List.eq_nil_of_length_eq_zero g9
  clear h hs hxs
  have hl : l = (List.drop 0 l).take 1 ++ ((List.drop 1 l).take 1 ++ ((List.drop 2 l).take 1 ++ ((List.drop 3 l).take 1 ++ ((List.drop 4 l).take 1 ++ ((List.drop 5 l).take 1 ++ ((List.drop 6 l).take 1 ++ ((List.drop 7 l).take 3 ++ ((List.drop 10 l).take 1 ++ ((List.drop 11 l).take 1 ++ (List.drop 12 l)))))))))) := by
    rw [dsplit l 11 1 12 rfl, dsplit l 10 1 11 rfl, dsplit l 7 3 10 rfl, dsplit l 6 1 7 rfl, dsplit l 5 1 6 rfl, dsplit l 4 1 5 rfl, dsplit l 3 1 4 rfl, dsplit l 2 1 3 rfl, dsplit l 1 1 2 rfl, dsplit l 0 1 1 rfl, List.drop_zero]
  rw [List.drop_of_length_le (Nat.le_of_eq hlen)] at hl
  have h0 : DataW.trod enc Tryz.prog w 0 (fun _ => true) held m f0.type ((l.drop f0.offset).take (Tryz.prog.cellsOf f0.type)) = some y0 := hf 0 f0 rfl
  rw [e0.1, e0.2, show Tryz.prog.cellsOf 3 = 1 by kernel_rfl] at h0
  obtain ⟨i0, q0, _, w0⟩ := DataW.trod_int Tryz.underlying3 h0
  rw [q0] at hl
  have h1 : DataW.trod enc Tryz.prog w 0 (fun _ => true) held m f1.type ((l.drop f1.offset).take (Tryz.prog.cellsOf f1.type)) = some y1 := hf 1 f1 rfl
  rw [e1.1, e1.2, show Tryz.prog.cellsOf 3 = 1 by kernel_rfl] at h1
  obtain ⟨i1, q1, _, w1⟩ := DataW.trod_int Tryz.underlying3 h1
  rw [q1] at hl
  have h2 : DataW.trod enc Tryz.prog w 0 (fun _ => true) held m f2.type ((l.drop f2.offset).take (Tryz.prog.cellsOf f2.type)) = some y2 := hf 2 f2 rfl
  rw [e2.1, e2.2, show Tryz.prog.cellsOf 3 = 1 by kernel_rfl] at h2
  obtain ⟨i2, q2, _, w2⟩ := DataW.trod_int Tryz.underlying3 h2
  rw [q2] at hl
  have h3 : DataW.trod enc Tryz.prog w 0 (fun _ => true) held m f3.type ((l.drop f3.offset).take (Tryz.prog.cellsOf f3.type)) = some y3 := hf 3 f3 rfl
  rw [e3.1, e3.2, show Tryz.prog.cellsOf 9 = 1 by kernel_rfl] at h3
  obtain ⟨s3, q3, z3, w3⟩ := DataW.trod_string Tryz.underlying9 h3
  obtain ⟨l3, rfl⟩ : ∃ l : List UInt8, s3 = ⟨l.toArray⟩ := ⟨s3.data.toList, by cases s3; simp⟩
  rw [size_mkL] at w3
  have k3 : l3.length ≤ Rows.uptoBulk y3.1 := by rw [z3]; simp [Rows.uptoBulk]
  rw [q3] at hl
  have h4 : DataW.trod enc Tryz.prog w 0 (fun _ => true) held m f4.type ((l.drop f4.offset).take (Tryz.prog.cellsOf f4.type)) = some y4 := hf 4 f4 rfl
  rw [e4.1, e4.2, show Tryz.prog.cellsOf 9 = 1 by kernel_rfl] at h4
  obtain ⟨s4, q4, z4, w4⟩ := DataW.trod_string Tryz.underlying9 h4
  obtain ⟨l4, rfl⟩ : ∃ l : List UInt8, s4 = ⟨l.toArray⟩ := ⟨s4.data.toList, by cases s4; simp⟩
  rw [size_mkL] at w4
  have k4 : l4.length ≤ Rows.uptoBulk y4.1 := by rw [z4]; simp [Rows.uptoBulk]
  rw [q4] at hl
  have h5 : DataW.trod enc Tryz.prog w 0 (fun _ => true) held m f5.type ((l.drop f5.offset).take (Tryz.prog.cellsOf f5.type)) = some y5 := hf 5 f5 rfl
  rw [e5.1, e5.2, show Tryz.prog.cellsOf 4 = 1 by kernel_rfl] at h5
  obtain ⟨b5, q5, _⟩ := DataW.trod_bool Tryz.underlying4 h5
  rw [q5] at hl
  have h6 : DataW.trod enc Tryz.prog w 0 (fun _ => true) held m f6.type ((l.drop f6.offset).take (Tryz.prog.cellsOf f6.type)) = some y6 := hf 6 f6 rfl
  rw [e6.1, e6.2, show Tryz.prog.cellsOf 9 = 1 by kernel_rfl] at h6
  obtain ⟨s6, q6, z6, w6⟩ := DataW.trod_string Tryz.underlying9 h6
  obtain ⟨l6, rfl⟩ : ∃ l : List UInt8, s6 = ⟨l.toArray⟩ := ⟨s6.data.toList, by cases s6; simp⟩
  rw [size_mkL] at w6
  have k6 : l6.length ≤ Rows.uptoBulk y6.1 := by rw [z6]; simp [Rows.uptoBulk]
  rw [q6] at hl
  have h7 : DataW.trod enc Tryz.prog w 0 (fun _ => true) held m f7.type ((l.drop f7.offset).take (Tryz.prog.cellsOf f7.type)) = some y7 := hf 7 f7 rfl
  rw [e7.1, e7.2, show Tryz.prog.cellsOf 27 = 3 by kernel_rfl] at h7
  obtain ⟨ua7, ub7, uc7, q7, w7⟩ := tr_stamp h7
  rw [q7] at hl
  have h8 : DataW.trod enc Tryz.prog w 0 (fun _ => true) held m f8.type ((l.drop f8.offset).take (Tryz.prog.cellsOf f8.type)) = some y8 := hf 8 f8 rfl
  rw [e8.1, e8.2, show Tryz.prog.cellsOf 9 = 1 by kernel_rfl] at h8
  obtain ⟨s8, q8, z8, w8⟩ := DataW.trod_string Tryz.underlying9 h8
  obtain ⟨l8, rfl⟩ : ∃ l : List UInt8, s8 = ⟨l.toArray⟩ := ⟨s8.data.toList, by cases s8; simp⟩
  rw [size_mkL] at w8
  have k8 : l8.length ≤ Rows.uptoBulk y8.1 := by rw [z8]; simp [Rows.uptoBulk]
  rw [q8] at hl
  have h9 : DataW.trod enc Tryz.prog w 0 (fun _ => true) held m f9.type ((l.drop f9.offset).take (Tryz.prog.cellsOf f9.type)) = some y9 := hf 9 f9 rfl
  rw [e9.1, e9.2, show Tryz.prog.cellsOf 3 = 1 by kernel_rfl] at h9
  obtain ⟨i9, q9, _, w9⟩ := DataW.trod_int Tryz.underlying3 h9
  rw [q9] at hl
  have hK : l3.length + l4.length + l6.length + l8.length ≤ Rows.uptoBulk y.1 := by
    rw [hy]
    show _ ≤ Rows.uptoBulkAll [y0.1, y1.1, y2.1, y3.1, y4.1, y5.1, y6.1, y7.1, y8.1, y9.1] + 1
    simp only [Rows.uptoBulkAll]
    omega
  exact ⟨⟨i0, i1, i2, l3, l4, b5, l6, ua7, ub7, uc7, l8, i9⟩, hl, ⟨w0, w1, w2, w9, w7, w3, w4, w6, w8⟩, hK⟩
set_option maxRecDepth 100000 in
theorem tb_it {n : Nat} {l : List Value} {y : DataW H × List MemPlace} (h : DataW.trod enc Tryz.prog w 0 (fun _ => true) held n 79 l = some y) : ∃ x : It, l = itC x ∧ itOk x ∧ wtIt x ≤ Rows.uptoBulk y.1 := by
  obtain ⟨f0, f1, hs, e0, e1⟩ : ∃ f0 f1 : Field, Tryz.prog.underlying 79 = some (.struct #[f0, f1]) ∧ (f0.type = 9 ∧ f0.offset = 0) ∧ (f1.type = 9 ∧ f1.offset = 1) := ⟨_, _, Tryz.underlying79, ⟨rfl, rfl⟩, ⟨rfl, rfl⟩⟩
  obtain ⟨xs, m, _, hy, hlen, hxs, hf⟩ := DataW.trod_struct hs h
  rw [show Tryz.prog.cellsOf 79 = 2 by kernel_rfl] at hlen
  have hxs : xs.length = 2 := hxs
  obtain ⟨y0, t0, rfl, g0⟩ := len_cons hxs
  obtain ⟨y1, t1, rfl, g1⟩ := len_cons g0
  obtain rfl := List.eq_nil_of_length_eq_zero g1
  clear h hs hxs
  have hl : l = (List.drop 0 l).take 1 ++ ((List.drop 1 l).take 1 ++ (List.drop 2 l)) := by
    rw [dsplit l 1 1 2 rfl, dsplit l 0 1 1 rfl, List.drop_zero]
  rw [List.drop_of_length_le (Nat.le_of_eq hlen)] at hl
  have h0 : DataW.trod enc Tryz.prog w 0 (fun _ => true) held m f0.type ((l.drop f0.offset).take (Tryz.prog.cellsOf f0.type)) = some y0 := hf 0 f0 rfl
  rw [e0.1, e0.2, show Tryz.prog.cellsOf 9 = 1 by kernel_rfl] at h0
  obtain ⟨s0, q0, z0, w0⟩ := DataW.trod_string Tryz.underlying9 h0
  obtain ⟨l0, rfl⟩ : ∃ l : List UInt8, s0 = ⟨l.toArray⟩ := ⟨s0.data.toList, by cases s0; simp⟩
  rw [size_mkL] at w0
  have k0 : l0.length ≤ Rows.uptoBulk y0.1 := by rw [z0]; simp [Rows.uptoBulk]
  rw [q0] at hl
  have h1 : DataW.trod enc Tryz.prog w 0 (fun _ => true) held m f1.type ((l.drop f1.offset).take (Tryz.prog.cellsOf f1.type)) = some y1 := hf 1 f1 rfl
  rw [e1.1, e1.2, show Tryz.prog.cellsOf 9 = 1 by kernel_rfl] at h1
  obtain ⟨s1, q1, z1, w1⟩ := DataW.trod_string Tryz.underlying9 h1
  obtain ⟨l1, rfl⟩ : ∃ l : List UInt8, s1 = ⟨l.toArray⟩ := ⟨s1.data.toList, by cases s1; simp⟩
  rw [size_mkL] at w1
  have k1 : l1.length ≤ Rows.uptoBulk y1.1 := by rw [z1]; simp [Rows.uptoBulk]
  rw [q1] at hl
  have hK : l0.length + l1.length ≤ Rows.uptoBulk y.1 := by
    rw [hy]
    show _ ≤ Rows.uptoBulkAll [y0.1, y1.1] + 1
    simp only [Rows.uptoBulkAll]
    omega
  exact ⟨⟨l0, l1⟩, hl, ⟨w0, w1⟩, hK⟩
set_option maxRecDepth 100000 in
theorem tb_an {n : Nat} {l : List Value} {y : DataW H × List MemPlace} (h : DataW.trod enc Tryz.prog w 0 (fun _ => true) held n 47 l = some y) : ∃ (r : An) (its : List It), l = (anA r).toList ∧ anOk r ∧ SlOk itC 2 itOk w r.itA r.itn r.itc its ∧ wtAn r its ≤ Rows.uptoBulk y.1 := by
  obtain ⟨f0, f1, f2, f3, f4, f5, f6, hs, e0, e1, e2, e3, e4, e5, e6⟩ : ∃ f0 f1 f2 f3 f4 f5 f6 : Field, Tryz.prog.underlying 47 = some (.struct #[f0, f1, f2, f3, f4, f5, f6]) ∧ (f0.type = 31 ∧ f0.offset = 0) ∧ (f1.type = 27 ∧ f1.offset = 1) ∧ (f2.type = 4 ∧ f2.offset = 4) ∧ (f3.type = 9 ∧ f3.offset = 5) ∧ (f4.type = 45 ∧ f4.offset = 6) ∧ (f5.type = 9 ∧ f5.offset = 7) ∧ (f6.type = 4 ∧ f6.offset = 8) := ⟨_, _, _, _, _, _, _, Tryz.underlying47, ⟨rfl, rfl⟩, ⟨rfl, rfl⟩, ⟨rfl, rfl⟩, ⟨rfl, rfl⟩, ⟨rfl, rfl⟩, ⟨rfl, rfl⟩, ⟨rfl, rfl⟩⟩
  obtain ⟨xs, m, _, hy, hlen, hxs, hf⟩ := DataW.trod_struct hs h
  rw [show Tryz.prog.cellsOf 47 = 9 by kernel_rfl] at hlen
  have hxs : xs.length = 7 := hxs
  obtain ⟨y0, t0, rfl, g0⟩ := len_cons hxs
  obtain ⟨y1, t1, rfl, g1⟩ := len_cons g0
  obtain ⟨y2, t2, rfl, g2⟩ := len_cons g1
  obtain ⟨y3, t3, rfl, g3⟩ := len_cons g2
  obtain ⟨y4, t4, rfl, g4⟩ := len_cons g3
  obtain ⟨y5, t5, rfl, g5⟩ := len_cons g4
  obtain ⟨y6, t6, rfl, g6⟩ := len_cons g5
  obtain rfl := List.eq_nil_of_length_eq_zero g6
  clear h hs hxs
  have hl : l = (List.drop 0 l).take 1 ++ ((List.drop 1 l).take 3 ++ ((List.drop 4 l).take 1 ++ ((List.drop 5 l).take 1 ++ ((List.drop 6 l).take 1 ++ ((List.drop 7 l).take 1 ++ ((List.drop 8 l).take 1 ++ (List.drop 9 l))))))) := by
    rw [dsplit l 8 1 9 rfl, dsplit l 7 1 8 rfl, dsplit l 6 1 7 rfl, dsplit l 5 1 6 rfl, dsplit l 4 1 5 rfl, dsplit l 1 3 4 rfl, dsplit l 0 1 1 rfl, List.drop_zero]
  rw [List.drop_of_length_le (Nat.le_of_eq hlen)] at hl
  have h0 : DataW.trod enc Tryz.prog w 0 (fun _ => true) held m f0.type ((l.drop f0.offset).take (Tryz.prog.cellsOf f0.type)) = some y0 := hf 0 f0 rfl
  rw [e0.1, e0.2, show Tryz.prog.cellsOf 31 = 1 by kernel_rfl] at h0
  obtain ⟨i0, q0, _, w0⟩ := DataW.trod_int Tryz.underlying31 h0
  rw [q0] at hl
  have h1 : DataW.trod enc Tryz.prog w 0 (fun _ => true) held m f1.type ((l.drop f1.offset).take (Tryz.prog.cellsOf f1.type)) = some y1 := hf 1 f1 rfl
  rw [e1.1, e1.2, show Tryz.prog.cellsOf 27 = 3 by kernel_rfl] at h1
  obtain ⟨ua1, ub1, uc1, q1, w1⟩ := tr_stamp h1
  rw [q1] at hl
  have h2 : DataW.trod enc Tryz.prog w 0 (fun _ => true) held m f2.type ((l.drop f2.offset).take (Tryz.prog.cellsOf f2.type)) = some y2 := hf 2 f2 rfl
  rw [e2.1, e2.2, show Tryz.prog.cellsOf 4 = 1 by kernel_rfl] at h2
  obtain ⟨b2, q2, _⟩ := DataW.trod_bool Tryz.underlying4 h2
  rw [q2] at hl
  have h3 : DataW.trod enc Tryz.prog w 0 (fun _ => true) held m f3.type ((l.drop f3.offset).take (Tryz.prog.cellsOf f3.type)) = some y3 := hf 3 f3 rfl
  rw [e3.1, e3.2, show Tryz.prog.cellsOf 9 = 1 by kernel_rfl] at h3
  obtain ⟨s3, q3, z3, w3⟩ := DataW.trod_string Tryz.underlying9 h3
  obtain ⟨l3, rfl⟩ : ∃ l : List UInt8, s3 = ⟨l.toArray⟩ := ⟨s3.data.toList, by cases s3; simp⟩
  rw [size_mkL] at w3
  have k3 : l3.length ≤ Rows.uptoBulk y3.1 := by rw [z3]; simp [Rows.uptoBulk]
  rw [q3] at hl
  have h4 : DataW.trod enc Tryz.prog w 0 (fun _ => true) held m f4.type ((l.drop f4.offset).take (Tryz.prog.cellsOf f4.type)) = some y4 := hf 4 f4 rfl
  rw [e4.1, e4.2, show Tryz.prog.cellsOf 45 = 1 by kernel_rfl] at h4
  obtain ⟨A4, n4, c4, xs4, q4, z4, k4⟩ := open_rowsB itC 2 itOk wtIt Tryz.underlying45 (by kernel_rfl) (by omega) (fun _ => rfl) (fun _ _ _ h => tb_it h) h4
  rw [q4] at hl
  have h5 : DataW.trod enc Tryz.prog w 0 (fun _ => true) held m f5.type ((l.drop f5.offset).take (Tryz.prog.cellsOf f5.type)) = some y5 := hf 5 f5 rfl
  rw [e5.1, e5.2, show Tryz.prog.cellsOf 9 = 1 by kernel_rfl] at h5
  obtain ⟨s5, q5, z5, w5⟩ := DataW.trod_string Tryz.underlying9 h5
  obtain ⟨l5, rfl⟩ : ∃ l : List UInt8, s5 = ⟨l.toArray⟩ := ⟨s5.data.toList, by cases s5; simp⟩
  rw [size_mkL] at w5
  have k5 : l5.length ≤ Rows.uptoBulk y5.1 := by rw [z5]; simp [Rows.uptoBulk]
  rw [q5] at hl
  have h6 : DataW.trod enc Tryz.prog w 0 (fun _ => true) held m f6.type ((l.drop f6.offset).take (Tryz.prog.cellsOf f6.type)) = some y6 := hf 6 f6 rfl
  rw [e6.1, e6.2, show Tryz.prog.cellsOf 4 = 1 by kernel_rfl] at h6
  obtain ⟨b6, q6, _⟩ := DataW.trod_bool Tryz.underlying4 h6
  rw [q6] at hl
  have hK : l3.length + l5.length + (xs4.map wtIt).sum ≤ Rows.uptoBulk y.1 := by
    rw [hy]
    show _ ≤ Rows.uptoBulkAll [y0.1, y1.1, y2.1, y3.1, y4.1, y5.1, y6.1] + 1
    simp only [Rows.uptoBulkAll]
    omega
  exact ⟨⟨i0, ua1, ub1, uc1, b2, l3, A4, n4, c4, l5, b6⟩, xs4, hl, ⟨w0, w1, w3, w5⟩, z4, hK⟩
set_option maxRecDepth 100000 in
theorem tb_ms {n : Nat} {l : List Value} {y : DataW H × List MemPlace} (h : DataW.trod enc Tryz.prog w 0 (fun _ => true) held n 51 l = some y) : ∃ (m : Ms) (its : List It) (ps : List Pl) (ls : List Int), l = (msA m).toList ∧ msOk m ∧ SlOk itC 2 itOk w m.ans.itA m.ans.itn m.ans.itc its ∧ SlOk plC 5 plOk2 w m.pA m.pn m.pc ps ∧ SlOk ldC 1 iok w m.mA m.mn m.mc ls ∧ wtMs m its ps ≤ Rows.uptoBulk y.1 := by
  obtain ⟨f0, f1, f2, f3, f4, f5, f6, f7, f8, f9, f10, f11, f12, f13, f14, hs, e0, e1, e2, e3, e4, e5, e6, e7, e8, e9, e10, e11, e12, e13, e14⟩ : ∃ f0 f1 f2 f3 f4 f5 f6 f7 f8 f9 f10 f11 f12 f13 f14 : Field, Tryz.prog.underlying 51 = some (.struct #[f0, f1, f2, f3, f4, f5, f6, f7, f8, f9, f10, f11, f12, f13, f14]) ∧ (f0.type = 3 ∧ f0.offset = 0) ∧ (f1.type = 3 ∧ f1.offset = 1) ∧ (f2.type = 3 ∧ f2.offset = 2) ∧ (f3.type = 3 ∧ f3.offset = 3) ∧ (f4.type = 3 ∧ f4.offset = 4) ∧ (f5.type = 3 ∧ f5.offset = 5) ∧ (f6.type = 3 ∧ f6.offset = 6) ∧ (f7.type = 3 ∧ f7.offset = 7) ∧ (f8.type = 3 ∧ f8.offset = 8) ∧ (f9.type = 27 ∧ f9.offset = 9) ∧ (f10.type = 9 ∧ f10.offset = 12) ∧ (f11.type = 44 ∧ f11.offset = 13) ∧ (f12.type = 47 ∧ f12.offset = 25) ∧ (f13.type = 48 ∧ f13.offset = 34) ∧ (f14.type = 49 ∧ f14.offset = 35) := ⟨_, _, _, _, _, _, _, _, _, _, _, _, _, _, _, Tryz.underlying51, ⟨rfl, rfl⟩, ⟨rfl, rfl⟩, ⟨rfl, rfl⟩, ⟨rfl, rfl⟩, ⟨rfl, rfl⟩, ⟨rfl, rfl⟩, ⟨rfl, rfl⟩, ⟨rfl, rfl⟩, ⟨rfl, rfl⟩, ⟨rfl, rfl⟩, ⟨rfl, rfl⟩, ⟨rfl, rfl⟩, ⟨rfl, rfl⟩, ⟨rfl, rfl⟩, ⟨rfl, rfl⟩⟩
  obtain ⟨xs, m, _, hy, hlen, hxs, hf⟩ := DataW.trod_struct hs h
  rw [show Tryz.prog.cellsOf 51 = 36 by kernel_rfl] at hlen
  have hxs : xs.length = 15 := hxs
  obtain ⟨y0, t0, rfl, g0⟩ := len_cons hxs
  obtain ⟨y1, t1, rfl, g1⟩ := len_cons g0
  obtain ⟨y2, t2, rfl, g2⟩ := len_cons g1
  obtain ⟨y3, t3, rfl, g3⟩ := len_cons g2
  obtain ⟨y4, t4, rfl, g4⟩ := len_cons g3
  obtain ⟨y5, t5, rfl, g5⟩ := len_cons g4
  obtain ⟨y6, t6, rfl, g6⟩ := len_cons g5
  obtain ⟨y7, t7, rfl, g7⟩ := len_cons g6
  obtain ⟨y8, t8, rfl, g8⟩ := len_cons g7
  obtain ⟨y9, t9, rfl, g9⟩ := len_cons g8
  obtain ⟨y10, t10, rfl, g10⟩ := len_cons g9
  obtain ⟨y11, t11, rfl, g11⟩ := len_cons g10
  obtain ⟨y12, t12, rfl, g12⟩ := len_cons g11
  obtain ⟨y13, t13, rfl, g13⟩ := len_cons g12
  obtain ⟨y14, t14, rfl, g14⟩ := len_cons g13
  obtain rfl := List.eq_nil_of_length_eq_zero g14
  clear h hs hxs
  have hl : l = (List.drop 0 l).take 1 ++ ((List.drop 1 l).take 1 ++ ((List.drop 2 l).take 1 ++ ((List.drop 3 l).take 1 ++ ((List.drop 4 l).take 1 ++ ((List.drop 5 l).take 1 ++ ((List.drop 6 l).take 1 ++ ((List.drop 7 l).take 1 ++ ((List.drop 8 l).take 1 ++ ((List.drop 9 l).take 3 ++ ((List.drop 12 l).take 1 ++ ((List.drop 13 l).take 12 ++ ((List.drop 25 l).take 9 ++ ((List.drop 34 l).take 1 ++ ((List.drop 35 l).take 1 ++ (List.drop 36 l))))))))))))))) := by
    rw [dsplit l 35 1 36 rfl, dsplit l 34 1 35 rfl, dsplit l 25 9 34 rfl, dsplit l 13 12 25 rfl, dsplit l 12 1 13 rfl, dsplit l 9 3 12 rfl, dsplit l 8 1 9 rfl, dsplit l 7 1 8 rfl, dsplit l 6 1 7 rfl, dsplit l 5 1 6 rfl, dsplit l 4 1 5 rfl, dsplit l 3 1 4 rfl, dsplit l 2 1 3 rfl, dsplit l 1 1 2 rfl, dsplit l 0 1 1 rfl, List.drop_zero]
  rw [List.drop_of_length_le (Nat.le_of_eq hlen)] at hl
  have h0 : DataW.trod enc Tryz.prog w 0 (fun _ => true) held m f0.type ((l.drop f0.offset).take (Tryz.prog.cellsOf f0.type)) = some y0 := hf 0 f0 rfl
  rw [e0.1, e0.2, show Tryz.prog.cellsOf 3 = 1 by kernel_rfl] at h0
  obtain ⟨i0, q0, _, w0⟩ := DataW.trod_int Tryz.underlying3 h0
  rw [q0] at hl
  have h1 : DataW.trod enc Tryz.prog w 0 (fun _ => true) held m f1.type ((l.drop f1.offset).take (Tryz.prog.cellsOf f1.type)) = some y1 := hf 1 f1 rfl
  rw [e1.1, e1.2, show Tryz.prog.cellsOf 3 = 1 by kernel_rfl] at h1
  obtain ⟨i1, q1, _, w1⟩ := DataW.trod_int Tryz.underlying3 h1
  rw [q1] at hl
  have h2 : DataW.trod enc Tryz.prog w 0 (fun _ => true) held m f2.type ((l.drop f2.offset).take (Tryz.prog.cellsOf f2.type)) = some y2 := hf 2 f2 rfl
  rw [e2.1, e2.2, show Tryz.prog.cellsOf 3 = 1 by kernel_rfl] at h2
  obtain ⟨i2, q2, _, w2⟩ := DataW.trod_int Tryz.underlying3 h2
  rw [q2] at hl
  have h3 : DataW.trod enc Tryz.prog w 0 (fun _ => true) held m f3.type ((l.drop f3.offset).take (Tryz.prog.cellsOf f3.type)) = some y3 := hf 3 f3 rfl
  rw [e3.1, e3.2, show Tryz.prog.cellsOf 3 = 1 by kernel_rfl] at h3
  obtain ⟨i3, q3, _, w3⟩ := DataW.trod_int Tryz.underlying3 h3
  rw [q3] at hl
  have h4 : DataW.trod enc Tryz.prog w 0 (fun _ => true) held m f4.type ((l.drop f4.offset).take (Tryz.prog.cellsOf f4.type)) = some y4 := hf 4 f4 rfl
  rw [e4.1, e4.2, show Tryz.prog.cellsOf 3 = 1 by kernel_rfl] at h4
  obtain ⟨i4, q4, _, w4⟩ := DataW.trod_int Tryz.underlying3 h4
  rw [q4] at hl
  have h5 : DataW.trod enc Tryz.prog w 0 (fun _ => true) held m f5.type ((l.drop f5.offset).take (Tryz.prog.cellsOf f5.type)) = some y5 := hf 5 f5 rfl
  rw [e5.1, e5.2, show Tryz.prog.cellsOf 3 = 1 by kernel_rfl] at h5
  obtain ⟨i5, q5, _, w5⟩ := DataW.trod_int Tryz.underlying3 h5
  rw [q5] at hl
  have h6 : DataW.trod enc Tryz.prog w 0 (fun _ => true) held m f6.type ((l.drop f6.offset).take (Tryz.prog.cellsOf f6.type)) = some y6 := hf 6 f6 rfl
  rw [e6.1, e6.2, show Tryz.prog.cellsOf 3 = 1 by kernel_rfl] at h6
  obtain ⟨i6, q6, _, w6⟩ := DataW.trod_int Tryz.underlying3 h6
  rw [q6] at hl
  have h7 : DataW.trod enc Tryz.prog w 0 (fun _ => true) held m f7.type ((l.drop f7.offset).take (Tryz.prog.cellsOf f7.type)) = some y7 := hf 7 f7 rfl
  rw [e7.1, e7.2, show Tryz.prog.cellsOf 3 = 1 by kernel_rfl] at h7
  obtain ⟨i7, q7, _, w7⟩ := DataW.trod_int Tryz.underlying3 h7
  rw [q7] at hl
  have h8 : DataW.trod enc Tryz.prog w 0 (fun _ => true) held m f8.type ((l.drop f8.offset).take (Tryz.prog.cellsOf f8.type)) = some y8 := hf 8 f8 rfl
  rw [e8.1, e8.2, show Tryz.prog.cellsOf 3 = 1 by kernel_rfl] at h8
  obtain ⟨i8, q8, _, w8⟩ := DataW.trod_int Tryz.underlying3 h8
  rw [q8] at hl
  have h9 : DataW.trod enc Tryz.prog w 0 (fun _ => true) held m f9.type ((l.drop f9.offset).take (Tryz.prog.cellsOf f9.type)) = some y9 := hf 9 f9 rfl
  rw [e9.1, e9.2, show Tryz.prog.cellsOf 27 = 3 by kernel_rfl] at h9
  obtain ⟨ua9, ub9, uc9, q9, w9⟩ := tr_stamp h9
  rw [q9] at hl
  have h10 : DataW.trod enc Tryz.prog w 0 (fun _ => true) held m f10.type ((l.drop f10.offset).take (Tryz.prog.cellsOf f10.type)) = some y10 := hf 10 f10 rfl
  rw [e10.1, e10.2, show Tryz.prog.cellsOf 9 = 1 by kernel_rfl] at h10
  obtain ⟨s10, q10, z10, w10⟩ := DataW.trod_string Tryz.underlying9 h10
  obtain ⟨l10, rfl⟩ : ∃ l : List UInt8, s10 = ⟨l.toArray⟩ := ⟨s10.data.toList, by cases s10; simp⟩
  rw [size_mkL] at w10
  have k10 : l10.length ≤ Rows.uptoBulk y10.1 := by rw [z10]; simp [Rows.uptoBulk]
  rw [q10] at hl
  have h11 : DataW.trod enc Tryz.prog w 0 (fun _ => true) held m f11.type ((l.drop f11.offset).take (Tryz.prog.cellsOf f11.type)) = some y11 := hf 11 f11 rfl
  rw [e11.1, e11.2, show Tryz.prog.cellsOf 44 = 12 by kernel_rfl] at h11
  obtain ⟨r11, q11, w11, k11⟩ := tb_rq h11
  rw [q11] at hl
  have h12 : DataW.trod enc Tryz.prog w 0 (fun _ => true) held m f12.type ((l.drop f12.offset).take (Tryz.prog.cellsOf f12.type)) = some y12 := hf 12 f12 rfl
  rw [e12.1, e12.2, show Tryz.prog.cellsOf 47 = 9 by kernel_rfl] at h12
  obtain ⟨r12, its12, q12, w12, z12, k12⟩ := tb_an h12
  rw [q12] at hl
  have h13 : DataW.trod enc Tryz.prog w 0 (fun _ => true) held m f13.type ((l.drop f13.offset).take (Tryz.prog.cellsOf f13.type)) = some y13 := hf 13 f13 rfl
  rw [e13.1, e13.2, show Tryz.prog.cellsOf 48 = 1 by kernel_rfl] at h13
  obtain ⟨A13, n13, c13, xs13, q13, z13, k13⟩ := open_rowsB plC 5 plOk2 wtPl Tryz.underlying48 (by kernel_rfl) (by omega) (fun _ => rfl) (fun _ _ _ h => tb_pl h) h13
  rw [q13] at hl
  have h14 : DataW.trod enc Tryz.prog w 0 (fun _ => true) held m f14.type ((l.drop f14.offset).take (Tryz.prog.cellsOf f14.type)) = some y14 := hf 14 f14 rfl
  rw [e14.1, e14.2, show Tryz.prog.cellsOf 49 = 1 by kernel_rfl] at h14
  obtain ⟨A14, n14, c14, xs14, q14, z14, k14⟩ := open_rowsB ldC 1 iok wtLd Tryz.underlying49 (by kernel_rfl) (by omega) (fun _ => rfl) (fun _ _ _ h => tb_ld h) h14
  rw [q14] at hl
  have hK : l10.length + wtRq r11 + wtAn r12 its12 + (xs13.map wtPl).sum ≤ Rows.uptoBulk y.1 := by
    rw [hy]
    show _ ≤ Rows.uptoBulkAll [y0.1, y1.1, y2.1, y3.1, y4.1, y5.1, y6.1, y7.1, y8.1, y9.1, y10.1, y11.1, y12.1, y13.1, y14.1] + 1
    simp only [Rows.uptoBulkAll]
    omega
  exact ⟨⟨i0, i1, i2, i3, i4, i5, i6, i7, i8, ua9, ub9, uc9, l10, r11, r12, A13, n13, c13, A14, n14, c14⟩, its12, xs13, xs14, hl, ⟨w0, w1, w2, w3, w4, w5, w6, w7, w8, w9, w10, w11, w12⟩, z12, z13, z14, hK⟩
def vsOk (v : Vs) : Prop := (iok v.a ∧ iok v.t ∧ iok v.n) ∧ v.val.length ≤ 9223372036854775807
set_option maxRecDepth 100000 in
theorem tb_vs {n : Nat} {l : List Value} {y : DataW H × List MemPlace} (h : DataW.trod enc Tryz.prog w 0 (fun _ => true) held n 105 l = some y) : ∃ x : Vs, l = vsC x ∧ vsOk x ∧ wtVs x ≤ Rows.uptoBulk y.1 := by
  obtain ⟨f0, f1, f2, hs, e0, e1, e2⟩ : ∃ f0 f1 f2 : Field, Tryz.prog.underlying 105 = some (.struct #[f0, f1, f2]) ∧ (f0.type = 27 ∧ f0.offset = 0) ∧ (f1.type = 4 ∧ f1.offset = 3) ∧ (f2.type = 9 ∧ f2.offset = 4) := ⟨_, _, _, Tryz.underlying105, ⟨rfl, rfl⟩, ⟨rfl, rfl⟩, ⟨rfl, rfl⟩⟩
  obtain ⟨xs, m, _, hy, hlen, hxs, hf⟩ := DataW.trod_struct hs h
  rw [show Tryz.prog.cellsOf 105 = 5 by kernel_rfl] at hlen
  have hxs : xs.length = 3 := hxs
  obtain ⟨y0, t0, rfl, g0⟩ := len_cons hxs
  obtain ⟨y1, t1, rfl, g1⟩ := len_cons g0
  obtain ⟨y2, t2, rfl, g2⟩ := len_cons g1
  obtain rfl := List.eq_nil_of_length_eq_zero g2
  clear h hs hxs
  have hl : l = (List.drop 0 l).take 3 ++ ((List.drop 3 l).take 1 ++ ((List.drop 4 l).take 1 ++ (List.drop 5 l))) := by
    rw [dsplit l 4 1 5 rfl, dsplit l 3 1 4 rfl, dsplit l 0 3 3 rfl, List.drop_zero]
  rw [List.drop_of_length_le (Nat.le_of_eq hlen)] at hl
  have h0 : DataW.trod enc Tryz.prog w 0 (fun _ => true) held m f0.type ((l.drop f0.offset).take (Tryz.prog.cellsOf f0.type)) = some y0 := hf 0 f0 rfl
  rw [e0.1, e0.2, show Tryz.prog.cellsOf 27 = 3 by kernel_rfl] at h0
  obtain ⟨ua0, ub0, uc0, q0, w0⟩ := tr_stamp h0
  rw [q0] at hl
  have h1 : DataW.trod enc Tryz.prog w 0 (fun _ => true) held m f1.type ((l.drop f1.offset).take (Tryz.prog.cellsOf f1.type)) = some y1 := hf 1 f1 rfl
  rw [e1.1, e1.2, show Tryz.prog.cellsOf 4 = 1 by kernel_rfl] at h1
  obtain ⟨b1, q1, _⟩ := DataW.trod_bool Tryz.underlying4 h1
  rw [q1] at hl
  have h2 : DataW.trod enc Tryz.prog w 0 (fun _ => true) held m f2.type ((l.drop f2.offset).take (Tryz.prog.cellsOf f2.type)) = some y2 := hf 2 f2 rfl
  rw [e2.1, e2.2, show Tryz.prog.cellsOf 9 = 1 by kernel_rfl] at h2
  obtain ⟨s2, q2, z2, w2⟩ := DataW.trod_string Tryz.underlying9 h2
  obtain ⟨l2, rfl⟩ : ∃ l : List UInt8, s2 = ⟨l.toArray⟩ := ⟨s2.data.toList, by cases s2; simp⟩
  rw [size_mkL] at w2
  have k2 : l2.length ≤ Rows.uptoBulk y2.1 := by rw [z2]; simp [Rows.uptoBulk]
  rw [q2] at hl
  have hK : l2.length ≤ Rows.uptoBulk y.1 := by
    rw [hy]
    show _ ≤ Rows.uptoBulkAll [y0.1, y1.1, y2.1] + 1
    simp only [Rows.uptoBulkAll]
    omega
  exact ⟨⟨ua0, ub0, uc0, b1, l2⟩, hl, ⟨w0, w2⟩, hK⟩
def enOk (w : World) (e : En) : Prop := e.key.length ≤ 9223372036854775807 ∧ SlOk vsC 5 vsOk w e.A e.n e.c e.vs
set_option maxRecDepth 100000 in
theorem tb_en {n : Nat} {l : List Value} {y : DataW H × List MemPlace} (h : DataW.trod enc Tryz.prog w 0 (fun _ => true) held n 100 l = some y) : ∃ x : En, l = enC x ∧ enOk w x ∧ wtEn x ≤ Rows.uptoBulk y.1 := by
  obtain ⟨f0, f1, hs, e0, e1⟩ : ∃ f0 f1 : Field, Tryz.prog.underlying 100 = some (.struct #[f0, f1]) ∧ (f0.type = 9 ∧ f0.offset = 0) ∧ (f1.type = 98 ∧ f1.offset = 1) := ⟨_, _, Tryz.underlying100, ⟨rfl, rfl⟩, ⟨rfl, rfl⟩⟩
  obtain ⟨xs, m, _, hy, hlen, hxs, hf⟩ := DataW.trod_struct hs h
  rw [show Tryz.prog.cellsOf 100 = 2 by kernel_rfl] at hlen
  have hxs : xs.length = 2 := hxs
  obtain ⟨y0, t0, rfl, g0⟩ := len_cons hxs
  obtain ⟨y1, t1, rfl, g1⟩ := len_cons g0
  obtain rfl := List.eq_nil_of_length_eq_zero g1
  clear h hs hxs
  have hl : l = (List.drop 0 l).take 1 ++ ((List.drop 1 l).take 1 ++ (List.drop 2 l)) := by
    rw [dsplit l 1 1 2 rfl, dsplit l 0 1 1 rfl, List.drop_zero]
  rw [List.drop_of_length_le (Nat.le_of_eq hlen)] at hl
  have h0 : DataW.trod enc Tryz.prog w 0 (fun _ => true) held m f0.type ((l.drop f0.offset).take (Tryz.prog.cellsOf f0.type)) = some y0 := hf 0 f0 rfl
  rw [e0.1, e0.2, show Tryz.prog.cellsOf 9 = 1 by kernel_rfl] at h0
  obtain ⟨s0, q0, z0, w0⟩ := DataW.trod_string Tryz.underlying9 h0
  obtain ⟨l0, rfl⟩ : ∃ l : List UInt8, s0 = ⟨l.toArray⟩ := ⟨s0.data.toList, by cases s0; simp⟩
  rw [size_mkL] at w0
  have k0 : l0.length ≤ Rows.uptoBulk y0.1 := by rw [z0]; simp [Rows.uptoBulk]
  rw [q0] at hl
  have h1 : DataW.trod enc Tryz.prog w 0 (fun _ => true) held m f1.type ((l.drop f1.offset).take (Tryz.prog.cellsOf f1.type)) = some y1 := hf 1 f1 rfl
  rw [e1.1, e1.2, show Tryz.prog.cellsOf 98 = 1 by kernel_rfl] at h1
  obtain ⟨A1, n1, c1, xs1, q1, z1, k1⟩ := open_rowsB vsC 5 vsOk wtVs Tryz.underlying98 (by kernel_rfl) (by omega) (fun _ => rfl) (fun _ _ _ h => tb_vs h) h1
  rw [q1] at hl
  have hK : l0.length + (xs1.map wtVs).sum ≤ Rows.uptoBulk y.1 := by
    rw [hy]
    show _ ≤ Rows.uptoBulkAll [y0.1, y1.1] + 1
    simp only [Rows.uptoBulkAll]
    omega
  exact ⟨⟨l0, A1, n1, c1, xs1⟩, hl, ⟨w0, z1⟩, hK⟩
def dnOk (w : World) (d : Dn) : Prop := (iok d.cl ∧ iok d.rq) ∧ anOk d.ans ∧ SlOk itC 2 itOk w d.ans.itA d.ans.itn d.ans.itc d.its
set_option maxRecDepth 100000 in
theorem tb_dn {n : Nat} {l : List Value} {y : DataW H × List MemPlace} (h : DataW.trod enc Tryz.prog w 0 (fun _ => true) held n 108 l = some y) : ∃ x : Dn, l = dnC x ∧ dnOk w x ∧ wtDn x ≤ Rows.uptoBulk y.1 := by
  obtain ⟨f0, f1, f2, hs, e0, e1, e2⟩ : ∃ f0 f1 f2 : Field, Tryz.prog.underlying 108 = some (.struct #[f0, f1, f2]) ∧ (f0.type = 3 ∧ f0.offset = 0) ∧ (f1.type = 3 ∧ f1.offset = 1) ∧ (f2.type = 47 ∧ f2.offset = 2) := ⟨_, _, _, Tryz.underlying108, ⟨rfl, rfl⟩, ⟨rfl, rfl⟩, ⟨rfl, rfl⟩⟩
  obtain ⟨xs, m, _, hy, hlen, hxs, hf⟩ := DataW.trod_struct hs h
  rw [show Tryz.prog.cellsOf 108 = 11 by kernel_rfl] at hlen
  have hxs : xs.length = 3 := hxs
  obtain ⟨y0, t0, rfl, g0⟩ := len_cons hxs
  obtain ⟨y1, t1, rfl, g1⟩ := len_cons g0
  obtain ⟨y2, t2, rfl, g2⟩ := len_cons g1
  obtain rfl := List.eq_nil_of_length_eq_zero g2
  clear h hs hxs
  have hl : l = (List.drop 0 l).take 1 ++ ((List.drop 1 l).take 1 ++ ((List.drop 2 l).take 9 ++ (List.drop 11 l))) := by
    rw [dsplit l 2 9 11 rfl, dsplit l 1 1 2 rfl, dsplit l 0 1 1 rfl, List.drop_zero]
  rw [List.drop_of_length_le (Nat.le_of_eq hlen)] at hl
  have h0 : DataW.trod enc Tryz.prog w 0 (fun _ => true) held m f0.type ((l.drop f0.offset).take (Tryz.prog.cellsOf f0.type)) = some y0 := hf 0 f0 rfl
  rw [e0.1, e0.2, show Tryz.prog.cellsOf 3 = 1 by kernel_rfl] at h0
  obtain ⟨i0, q0, _, w0⟩ := DataW.trod_int Tryz.underlying3 h0
  rw [q0] at hl
  have h1 : DataW.trod enc Tryz.prog w 0 (fun _ => true) held m f1.type ((l.drop f1.offset).take (Tryz.prog.cellsOf f1.type)) = some y1 := hf 1 f1 rfl
  rw [e1.1, e1.2, show Tryz.prog.cellsOf 3 = 1 by kernel_rfl] at h1
  obtain ⟨i1, q1, _, w1⟩ := DataW.trod_int Tryz.underlying3 h1
  rw [q1] at hl
  have h2 : DataW.trod enc Tryz.prog w 0 (fun _ => true) held m f2.type ((l.drop f2.offset).take (Tryz.prog.cellsOf f2.type)) = some y2 := hf 2 f2 rfl
  rw [e2.1, e2.2, show Tryz.prog.cellsOf 47 = 9 by kernel_rfl] at h2
  obtain ⟨r2, its2, q2, w2, z2, k2⟩ := tb_an h2
  rw [q2] at hl
  have hK : wtAn r2 its2 ≤ Rows.uptoBulk y.1 := by
    rw [hy]
    show _ ≤ Rows.uptoBulkAll [y0.1, y1.1, y2.1] + 1
    simp only [Rows.uptoBulkAll]
    omega
  exact ⟨⟨i0, i1, r2, its2⟩, hl, ⟨⟨w0, w1⟩, w2, z2⟩, hK⟩
def shOk (w : World) (s : Sh) : Prop := (iok s.id ∧ iok s.epoch ∧ iok s.phase) ∧ (s.lo.length ≤ 9223372036854775807 ∧ s.hi.length ≤ 9223372036854775807) ∧ SlOk enC 2 (enOk w) w s.eA s.en s.ec s.es ∧ (iok s.ma ∧ iok s.mt ∧ iok s.mn) ∧ (iok s.ta ∧ iok s.tt ∧ iok s.tn) ∧ SlOk dnC 11 (dnOk w) w s.dA s.dn s.dc s.ds ∧ (iok s.hold ∧ iok s.seen ∧ iok s.move ∧ iok s.closed)
set_option maxRecDepth 100000 in
theorem tb_sh {n : Nat} {l : List Value} {y : DataW H × List MemPlace} (h : DataW.trod enc Tryz.prog w 0 (fun _ => true) held n 30 l = some y) : ∃ x : Sh, l = shC x ∧ shOk w x ∧ wtSh x ≤ Rows.uptoBulk y.1 := by
  obtain ⟨f0, f1, f2, f3, f4, f5, f6, f7, f8, f9, f10, f11, hs, e0, e1, e2, e3, e4, e5, e6, e7, e8, e9, e10, e11⟩ : ∃ f0 f1 f2 f3 f4 f5 f6 f7 f8 f9 f10 f11 : Field, Tryz.prog.underlying 30 = some (.struct #[f0, f1, f2, f3, f4, f5, f6, f7, f8, f9, f10, f11]) ∧ (f0.type = 3 ∧ f0.offset = 0) ∧ (f1.type = 3 ∧ f1.offset = 1) ∧ (f2.type = 24 ∧ f2.offset = 2) ∧ (f3.type = 3 ∧ f3.offset = 4) ∧ (f4.type = 25 ∧ f4.offset = 5) ∧ (f5.type = 27 ∧ f5.offset = 6) ∧ (f6.type = 27 ∧ f6.offset = 9) ∧ (f7.type = 28 ∧ f7.offset = 12) ∧ (f8.type = 3 ∧ f8.offset = 13) ∧ (f9.type = 3 ∧ f9.offset = 14) ∧ (f10.type = 3 ∧ f10.offset = 15) ∧ (f11.type = 3 ∧ f11.offset = 16) := ⟨_, _, _, _, _, _, _, _, _, _, _, _, Tryz.underlying30, ⟨rfl, rfl⟩, ⟨rfl, rfl⟩, ⟨rfl, rfl⟩, ⟨rfl, rfl⟩, ⟨rfl, rfl⟩, ⟨rfl, rfl⟩, ⟨rfl, rfl⟩, ⟨rfl, rfl⟩, ⟨rfl, rfl⟩, ⟨rfl, rfl⟩, ⟨rfl, rfl⟩, ⟨rfl, rfl⟩⟩
  obtain ⟨xs, m, _, hy, hlen, hxs, hf⟩ := DataW.trod_struct hs h
  rw [show Tryz.prog.cellsOf 30 = 17 by kernel_rfl] at hlen
  have hxs : xs.length = 12 := hxs
  obtain ⟨y0, t0, rfl, g0⟩ := len_cons hxs
  obtain ⟨y1, t1, rfl, g1⟩ := len_cons g0
  obtain ⟨y2, t2, rfl, g2⟩ := len_cons g1
  obtain ⟨y3, t3, rfl, g3⟩ := len_cons g2
  obtain ⟨y4, t4, rfl, g4⟩ := len_cons g3
  obtain ⟨y5, t5, rfl, g5⟩ := len_cons g4
  obtain ⟨y6, t6, rfl, g6⟩ := len_cons g5
  obtain ⟨y7, t7, rfl, g7⟩ := len_cons g6
  obtain ⟨y8, t8, rfl, g8⟩ := len_cons g7
  obtain ⟨y9, t9, rfl, g9⟩ := len_cons g8
  obtain ⟨y10, t10, rfl, g10⟩ := len_cons g9
  obtain ⟨y11, t11, rfl, g11⟩ := len_cons g10
  obtain rfl := List.eq_nil_of_length_eq_zero g11
  clear h hs hxs
  have hl : l = (List.drop 0 l).take 1 ++ ((List.drop 1 l).take 1 ++ ((List.drop 2 l).take 2 ++ ((List.drop 4 l).take 1 ++ ((List.drop 5 l).take 1 ++ ((List.drop 6 l).take 3 ++ ((List.drop 9 l).take 3 ++ ((List.drop 12 l).take 1 ++ ((List.drop 13 l).take 1 ++ ((List.drop 14 l).take 1 ++ ((List.drop 15 l).take 1 ++ ((List.drop 16 l).take 1 ++ (List.drop 17 l)))))))))))) := by
    rw [dsplit l 16 1 17 rfl, dsplit l 15 1 16 rfl, dsplit l 14 1 15 rfl, dsplit l 13 1 14 rfl, dsplit l 12 1 13 rfl, dsplit l 9 3 12 rfl, dsplit l 6 3 9 rfl, dsplit l 5 1 6 rfl, dsplit l 4 1 5 rfl, dsplit l 2 2 4 rfl, dsplit l 1 1 2 rfl, dsplit l 0 1 1 rfl, List.drop_zero]
  rw [List.drop_of_length_le (Nat.le_of_eq hlen)] at hl
  have h0 : DataW.trod enc Tryz.prog w 0 (fun _ => true) held m f0.type ((l.drop f0.offset).take (Tryz.prog.cellsOf f0.type)) = some y0 := hf 0 f0 rfl
  rw [e0.1, e0.2, show Tryz.prog.cellsOf 3 = 1 by kernel_rfl] at h0
  obtain ⟨i0, q0, _, w0⟩ := DataW.trod_int Tryz.underlying3 h0
  rw [q0] at hl
  have h1 : DataW.trod enc Tryz.prog w 0 (fun _ => true) held m f1.type ((l.drop f1.offset).take (Tryz.prog.cellsOf f1.type)) = some y1 := hf 1 f1 rfl
  rw [e1.1, e1.2, show Tryz.prog.cellsOf 3 = 1 by kernel_rfl] at h1
  obtain ⟨i1, q1, _, w1⟩ := DataW.trod_int Tryz.underlying3 h1
  rw [q1] at hl
  have h2 : DataW.trod enc Tryz.prog w 0 (fun _ => true) held m f2.type ((l.drop f2.offset).take (Tryz.prog.cellsOf f2.type)) = some y2 := hf 2 f2 rfl
  rw [e2.1, e2.2, show Tryz.prog.cellsOf 24 = 2 by kernel_rfl] at h2
  obtain ⟨ua2, ub2, q2, w2, k2⟩ := tb_span h2
  rw [q2] at hl
  have h3 : DataW.trod enc Tryz.prog w 0 (fun _ => true) held m f3.type ((l.drop f3.offset).take (Tryz.prog.cellsOf f3.type)) = some y3 := hf 3 f3 rfl
  rw [e3.1, e3.2, show Tryz.prog.cellsOf 3 = 1 by kernel_rfl] at h3
  obtain ⟨i3, q3, _, w3⟩ := DataW.trod_int Tryz.underlying3 h3
  rw [q3] at hl
  have h4 : DataW.trod enc Tryz.prog w 0 (fun _ => true) held m f4.type ((l.drop f4.offset).take (Tryz.prog.cellsOf f4.type)) = some y4 := hf 4 f4 rfl
  rw [e4.1, e4.2, show Tryz.prog.cellsOf 25 = 1 by kernel_rfl] at h4
  obtain ⟨A4, n4, c4, xs4, q4, z4, k4⟩ := open_rowsB enC 2 (enOk w) wtEn Tryz.underlying25 (by kernel_rfl) (by omega) (fun _ => rfl) (fun _ _ _ h => tb_en h) h4
  rw [q4] at hl
  have h5 : DataW.trod enc Tryz.prog w 0 (fun _ => true) held m f5.type ((l.drop f5.offset).take (Tryz.prog.cellsOf f5.type)) = some y5 := hf 5 f5 rfl
  rw [e5.1, e5.2, show Tryz.prog.cellsOf 27 = 3 by kernel_rfl] at h5
  obtain ⟨ua5, ub5, uc5, q5, w5⟩ := tr_stamp h5
  rw [q5] at hl
  have h6 : DataW.trod enc Tryz.prog w 0 (fun _ => true) held m f6.type ((l.drop f6.offset).take (Tryz.prog.cellsOf f6.type)) = some y6 := hf 6 f6 rfl
  rw [e6.1, e6.2, show Tryz.prog.cellsOf 27 = 3 by kernel_rfl] at h6
  obtain ⟨ua6, ub6, uc6, q6, w6⟩ := tr_stamp h6
  rw [q6] at hl
  have h7 : DataW.trod enc Tryz.prog w 0 (fun _ => true) held m f7.type ((l.drop f7.offset).take (Tryz.prog.cellsOf f7.type)) = some y7 := hf 7 f7 rfl
  rw [e7.1, e7.2, show Tryz.prog.cellsOf 28 = 1 by kernel_rfl] at h7
  obtain ⟨A7, n7, c7, xs7, q7, z7, k7⟩ := open_rowsB dnC 11 (dnOk w) wtDn Tryz.underlying28 (by kernel_rfl) (by omega) (fun _ => rfl) (fun _ _ _ h => tb_dn h) h7
  rw [q7] at hl
  have h8 : DataW.trod enc Tryz.prog w 0 (fun _ => true) held m f8.type ((l.drop f8.offset).take (Tryz.prog.cellsOf f8.type)) = some y8 := hf 8 f8 rfl
  rw [e8.1, e8.2, show Tryz.prog.cellsOf 3 = 1 by kernel_rfl] at h8
  obtain ⟨i8, q8, _, w8⟩ := DataW.trod_int Tryz.underlying3 h8
  rw [q8] at hl
  have h9 : DataW.trod enc Tryz.prog w 0 (fun _ => true) held m f9.type ((l.drop f9.offset).take (Tryz.prog.cellsOf f9.type)) = some y9 := hf 9 f9 rfl
  rw [e9.1, e9.2, show Tryz.prog.cellsOf 3 = 1 by kernel_rfl] at h9
  obtain ⟨i9, q9, _, w9⟩ := DataW.trod_int Tryz.underlying3 h9
  rw [q9] at hl
  have h10 : DataW.trod enc Tryz.prog w 0 (fun _ => true) held m f10.type ((l.drop f10.offset).take (Tryz.prog.cellsOf f10.type)) = some y10 := hf 10 f10 rfl
  rw [e10.1, e10.2, show Tryz.prog.cellsOf 3 = 1 by kernel_rfl] at h10
  obtain ⟨i10, q10, _, w10⟩ := DataW.trod_int Tryz.underlying3 h10
  rw [q10] at hl
  have h11 : DataW.trod enc Tryz.prog w 0 (fun _ => true) held m f11.type ((l.drop f11.offset).take (Tryz.prog.cellsOf f11.type)) = some y11 := hf 11 f11 rfl
  rw [e11.1, e11.2, show Tryz.prog.cellsOf 3 = 1 by kernel_rfl] at h11
  obtain ⟨i11, q11, _, w11⟩ := DataW.trod_int Tryz.underlying3 h11
  rw [q11] at hl
  have hK : ua2.length + ub2.length + (xs4.map wtEn).sum + (xs7.map wtDn).sum ≤ Rows.uptoBulk y.1 := by
    rw [hy]
    show _ ≤ Rows.uptoBulkAll [y0.1, y1.1, y2.1, y3.1, y4.1, y5.1, y6.1, y7.1, y8.1, y9.1, y10.1, y11.1] + 1
    simp only [Rows.uptoBulkAll]
    omega
  exact ⟨⟨i0, i1, ua2, ub2, i3, A4, n4, c4, ua5, ub5, uc5, ua6, ub6, uc6, A7, n7, c7, i8, i9, i10, i11, xs4, xs7⟩, hl, ⟨⟨w0, w1, w3⟩, w2, z4, w5, w6, z7, w8, w9, w10, w11⟩, hK⟩
def ceOk (w : World) (c : Ce) : Prop := SlOk shC 17 (shOk w) w c.sA c.sn c.sc c.ss ∧ (iok c.ta ∧ iok c.tt ∧ iok c.tn) ∧ iok c.drop
set_option maxRecDepth 100000 in
theorem tb_ce {n : Nat} {l : List Value} {y : DataW H × List MemPlace} (h : DataW.trod enc Tryz.prog w 0 (fun _ => true) held n 38 l = some y) : ∃ x : Ce, l = (ceA x).toList ∧ ceOk w x ∧ wtCe x ≤ Rows.uptoBulk y.1 := by
  obtain ⟨f0, f1, f2, hs, e0, e1, e2⟩ : ∃ f0 f1 f2 : Field, Tryz.prog.underlying 38 = some (.struct #[f0, f1, f2]) ∧ (f0.type = 36 ∧ f0.offset = 0) ∧ (f1.type = 27 ∧ f1.offset = 1) ∧ (f2.type = 3 ∧ f2.offset = 4) := ⟨_, _, _, Tryz.underlying38, ⟨rfl, rfl⟩, ⟨rfl, rfl⟩, ⟨rfl, rfl⟩⟩
  obtain ⟨xs, m, _, hy, hlen, hxs, hf⟩ := DataW.trod_struct hs h
  rw [show Tryz.prog.cellsOf 38 = 5 by kernel_rfl] at hlen
  have hxs : xs.length = 3 := hxs
  obtain ⟨y0, t0, rfl, g0⟩ := len_cons hxs
  obtain ⟨y1, t1, rfl, g1⟩ := len_cons g0
  obtain ⟨y2, t2, rfl, g2⟩ := len_cons g1
  obtain rfl := List.eq_nil_of_length_eq_zero g2
  clear h hs hxs
  have hl : l = (List.drop 0 l).take 1 ++ ((List.drop 1 l).take 3 ++ ((List.drop 4 l).take 1 ++ (List.drop 5 l))) := by
    rw [dsplit l 4 1 5 rfl, dsplit l 1 3 4 rfl, dsplit l 0 1 1 rfl, List.drop_zero]
  rw [List.drop_of_length_le (Nat.le_of_eq hlen)] at hl
  have h0 : DataW.trod enc Tryz.prog w 0 (fun _ => true) held m f0.type ((l.drop f0.offset).take (Tryz.prog.cellsOf f0.type)) = some y0 := hf 0 f0 rfl
  rw [e0.1, e0.2, show Tryz.prog.cellsOf 36 = 1 by kernel_rfl] at h0
  obtain ⟨A0, n0, c0, xs0, q0, z0, k0⟩ := open_rowsB shC 17 (shOk w) wtSh Tryz.underlying36 (by kernel_rfl) (by omega) (fun _ => rfl) (fun _ _ _ h => tb_sh h) h0
  rw [q0] at hl
  have h1 : DataW.trod enc Tryz.prog w 0 (fun _ => true) held m f1.type ((l.drop f1.offset).take (Tryz.prog.cellsOf f1.type)) = some y1 := hf 1 f1 rfl
  rw [e1.1, e1.2, show Tryz.prog.cellsOf 27 = 3 by kernel_rfl] at h1
  obtain ⟨ua1, ub1, uc1, q1, w1⟩ := tr_stamp h1
  rw [q1] at hl
  have h2 : DataW.trod enc Tryz.prog w 0 (fun _ => true) held m f2.type ((l.drop f2.offset).take (Tryz.prog.cellsOf f2.type)) = some y2 := hf 2 f2 rfl
  rw [e2.1, e2.2, show Tryz.prog.cellsOf 3 = 1 by kernel_rfl] at h2
  obtain ⟨i2, q2, _, w2⟩ := DataW.trod_int Tryz.underlying3 h2
  rw [q2] at hl
  have hK : (xs0.map wtSh).sum ≤ Rows.uptoBulk y.1 := by
    rw [hy]
    show _ ≤ Rows.uptoBulkAll [y0.1, y1.1, y2.1] + 1
    simp only [Rows.uptoBulkAll]
    omega
  exact ⟨⟨A0, n0, c0, ua1, ub1, uc1, i2, xs0⟩, hl, ⟨z0, w1, w2⟩, hK⟩
set_option maxRecDepth 100000 in
theorem openb_ms {r : Reach} {b0 : Nat} {v : Value} {d : DataW H} {p : List MemPlace} (hv : Value.okWide Tryz.prog w r b0 51 v) (h : DataW.Trod enc Tryz.prog w 0 (fun _ => true) held 51 v d p) : ∃ (m : Ms) (its : List It) (ps : List Pl) (ls : List Int), v = .agg (msA m) ∧ msOk m ∧ SlOk itC 2 itOk w m.ans.itA m.ans.itn m.ans.itc its ∧ SlOk plC 5 plOk2 w m.pA m.pn m.pc ps ∧ SlOk ldC 1 iok w m.mA m.mn m.mc ls ∧ wtMs m its ps ≤ Rows.uptoBulk d := by
  obtain ⟨cs', rfl, hsz⟩ := okWide_struct Tryz.underlying51 hv
  obtain ⟨fuel, hf⟩ := h
  have hf : DataW.trod enc Tryz.prog w 0 (fun _ => true) held fuel 51 cs'.toList = some (d, p) := hf
  obtain ⟨m, its, ps, ls, hl, h⟩ := tb_ms hf
  exact ⟨m, its, ps, ls, congrArg Value.agg (Array.toList_inj.1 hl), h⟩
set_option maxRecDepth 100000 in
theorem openb_ce {r : Reach} {b0 : Nat} {v : Value} {d : DataW H} {p : List MemPlace} (hv : Value.okWide Tryz.prog w r b0 38 v) (h : DataW.Trod enc Tryz.prog w 0 (fun _ => true) held 38 v d p) : ∃ c : Ce, v = .agg (ceA c) ∧ ceOk w c ∧ wtCe c ≤ Rows.uptoBulk d := by
  obtain ⟨cs', rfl, hsz⟩ := okWide_struct Tryz.underlying38 hv
  obtain ⟨fuel, hf⟩ := h
  have hf : DataW.trod enc Tryz.prog w 0 (fun _ => true) held fuel 38 cs'.toList = some (d, p) := hf
  obtain ⟨c, hl, h⟩ := tb_ce hf
  exact ⟨c, congrArg Value.agg (Array.toList_inj.1 hl), h⟩
end
theorem SlOk.en {w : World} {e : En} (h : enOk w e) : EnIn w w.heap.size e := ⟨h.2.1, h.2.2.2.1, h.2.2.1, h.2.2.2.2.2⟩
theorem SlOk.dn {w : World} {d : Dn} (h : dnOk w d) : DnIn w w.heap.size d := ⟨h.2.2.1, h.2.2.2.2.1, h.2.2.2.1, h.2.2.2.2.2.2⟩
theorem SlOk.sh {w : World} {s : Sh} (h : shOk w s) : ShIn w w.heap.size s := by
  obtain ⟨_, _, e, _, _, d, _⟩ := h
  exact ⟨e.1, e.2.2.1, e.2.1, e.2.2.2.2, fun x hx => SlOk.en (e.2.2.2.1 x hx), d.1, d.2.2.1, d.2.1, d.2.2.2.2, fun x hx => SlOk.dn (d.2.2.2.1 x hx)⟩
theorem SlOk.ce {w : World} {c : Ce} (h : ceOk w c) : CeIn w w.heap.size c := by
  obtain ⟨e, _⟩ := h
  exact ⟨e.1, e.2.2.1, e.2.1, e.2.2.2.2, fun x hx => SlOk.sh (e.2.2.2.1 x hx)⟩
end Go.Proofs.YtkoligiilieboaaGreatDoor
namespace Go.Proofs.YtkoligiilieboaaGreatDoor
open Go.RowKit
attribute [local go_sem] ByteArray.mk_append_mk ByteArray.extract_mk
attribute [local go_sem ↓] Go.wp_at_zero Go.wp_at_succ
theorem mem_sum {α : Type} (f : α → Nat) {l : List α} {x : α} (h : x ∈ l) : f x ≤ (l.map f).sum := by
  induction l with
  | nil => cases h
  | cons a r ih =>
    simp only [List.map_cons, List.sum_cons]
    rcases List.mem_cons.1 h with rfl | h
    · omega
    · have := ih h; omega
theorem itsB_len2 (l : List It) : (itsB l).length ≤ (l.map wtIt).sum + 18 * l.length := by
  induction l with
  | nil => simp [itsB]
  | cons x l ih =>
    have h1 := texts2 x.ky x.vl
    unfold itsB at *
    simp only [List.flatMap_cons, List.length_append, List.length_cons, List.map_cons, List.sum_cons, wtIt]
    omega
theorem plsB_len2 (l : List Pl) : (plsB l).length ≤ (l.map wtPl).sum + 45 * l.length := by
  induction l with
  | nil => simp [plsB]
  | cons x l ih =>
    have h1 := texts2 x.lo x.hi
    have h4 := numsB_len [x.sh, x.ce, x.ep]
    simp only [List.length_cons, List.length_nil] at h4
    unfold plsB at *
    simp only [List.flatMap_cons, List.length_append, List.length_cons, List.map_cons, List.sum_cons, wtPl]
    omega
theorem stamps_len1 (x : Stm) : (stampsB [x]).length ≤ 27 := by
  have h : stampsB [x] = stampB x := by simp [stampsB]
  rw [h]
  unfold stampB bytesS
  split
  · have := numsB_len [x.1, x.2.1, x.2.2]
    simpa using this
  · simp
theorem msgB_len (m : Ms) (its : List It) (ps : List Pl) (ls : List Int) (h1 : its.length ≤ 8) (h2 : ps.length ≤ 8) (h3 : ls.length ≤ 8) : (msgB m its ps ls).length ≤ wtMs m its ps + 2000 := by
  have a1 := numsB_len [m.kind, m.frm, m.to, m.shard, m.epoch, m.move, m.lease, m.num, m.of]
  have a2 := stamps_len1 (m.a, m.t, m.n)
  have a3 := texts1 m.text
  have a4 := numsB_len [m.req.cl, m.req.rq, m.req.kd]
  have a5 := texts2 m.req.ky m.req.vl
  have a6 := flagL_len m.req.had
  have a7 := texts1 m.req.old
  have a8 := stamps_len1 (m.req.a, m.req.t, m.req.n)
  have a9 := texts1 m.req.hi
  have b1 := numsB_len [m.req.lim, m.ans.er]
  have b2 := stamps_len1 (m.ans.a, m.ans.t, m.ans.n)
  have b3 := flagL_len m.ans.fd
  have b4 := texts1 m.ans.vl
  have b5 := numsB_len [(m.ans.itn : Int)]
  have b6 := itsB_len2 its
  have b7 := texts1 m.ans.nx
  have b8 := flagL_len m.ans.mo
  have b9 := numsB_len [(m.pn : Int)]
  have c1 := plsB_len2 ps
  have c2 := numsB_len [(m.mn : Int)]
  have c3 := numsB_len ls
  simp only [List.length_cons, List.length_nil] at a1 a4 b1 b5 b9 c2
  unfold msgB wtMs wtRq wtAn
  simp only [List.length_append, List.length_nil]
  omega
theorem sz_of_wt {m : Ms} {its : List It} {ps : List Pl} (h : wtMs m its ps ≤ 2097152) : SzM m its ps := by
  unfold wtMs wtRq wtAn at h
  refine ⟨by omega, by omega, by omega, by omega, by omega, by omega, by omega, fun x hx => ?_, fun x hx => ?_⟩
  · have : x.ky.length + x.vl.length ≤ (its.map wtIt).sum := mem_sum wtIt hx
    omega
  · have : x.lo.length + x.hi.length ≤ (ps.map wtPl).sum := mem_sum wtPl hx
    omega
theorem rightM_congr {m n : Ms} {its jts : List It} {ps qs : List Pl} {ls ks : List Int} (h : tupM m its ps ls = tupM n jts qs ks) (a1 : its.length = m.ans.itn) (a2 : ps.length = m.pn) (a3 : ls.length = m.mn) (b1 : jts.length = n.ans.itn) (b2 : qs.length = n.pn) (b3 : ks.length = n.mn) : rightM m ps ls = rightM n qs ks := by
  simp only [tupM, Prod.mk.injEq] at h
  obtain ⟨e1, e2, e3, e4, e5, e6, e7, e8, e9, ⟨e10, e11, e12⟩, _, f1, f2, f3, _, _, _, _, ⟨f4, f5, f6⟩, _, f7, g1, ⟨g2, g3, g4⟩, _, _, rfl, _, _, rfl, rfl⟩ := h
  unfold rightM headB numsM
  rw [← a1, ← a2, ← a3, ← b1, ← b2, ← b3, e1, e2, e3, e4, e5, e6, e7, e8, e9, e10, e11, e12, f1, f2, f3, f4, f5, f6, f7, g1, g2, g3, g4]
/-- what TakeMsg tells of bytes that are a right message's -/
theorem took_right {m : Ms} {its : List It} {ps : List Pl} {ls : List Int} {w w' : World} {e : Ending} (hr : rightM m ps ls = true) (hi : its.length = m.ans.itn) (hp : ps.length = m.pn) (hl : ls.length = m.mn) (hZ : SzM m its ps)
    (h : TakeMsgPost (msgB m its ps ls) w e w') : ∃ n jts qs ks, e = .returned (.tuple #[msV n, .int .i64 0]) ∧ tupM n jts qs ks = tupM m its ps ls ∧ MsgIn n jts qs ks w' ∧ Below w.heap.size w w' := by
  have hb := msg_back m its ps ls hr hi hp hl hZ
  rcases h with ⟨n, jts, qs, ks, he, h1, _, h3, h4⟩ | ⟨_, n, jts, qs, ks, r, h1, i1, i2, i3, h5, _⟩
  · rw [hb] at h1
    injection h1 with h1 _
    exact ⟨n, jts, qs, ks, he, h1.symm, h3, h4⟩
  · rw [hb] at h1
    injection h1 with h1 h2
    subst h2
    rcases h5 with h5 | h5 | h5
    · cases h5
    · exact absurd rfl h5
    · rw [← rightM_congr h1 hi hp hl i1 i2 i3, hr] at h5
      cases h5
/-- the message of the fixed answer -/
def m0 : Ms := ⟨3, 11, 0, 0, 0, 0, 0, 0, 0, 0, 0, 0, [], ⟨0, 0, 0, [], [], false, [], 0, 0, 0, [], 0⟩, ⟨0, 0, 0, 0, false, [], none, 0, 0, [], false⟩, none, 0, 0, none, 0, 0⟩
theorem m0_right : rightM m0 [] [] = true := by decide
theorem m0_in (w : World) : MsgIn m0 [] [] [] w :=
  ⟨rfl, rfl, rfl, Nat.le_refl _, Nat.le_refl _, Nat.le_refl _, by decide, by decide, by decide, fun h => absurd h (by simp), fun h => absurd h (by simp), fun h => absurd h (by simp)⟩
theorem iok_dec {z : Int} (h : (Lit.int .i64 z).wf = true) : iok z := h
theorem m0_ok : msOk m0 := by
  refine ⟨by first | exact iok_dec (by decide) | decide, by first | exact iok_dec (by decide) | decide, by first | exact iok_dec (by decide) | decide, by first | exact iok_dec (by decide) | decide, by first | exact iok_dec (by decide) | decide, by first | exact iok_dec (by decide) | decide, by first | exact iok_dec (by decide) | decide, by first | exact iok_dec (by decide) | decide, by first | exact iok_dec (by decide) | decide, ⟨by first | exact iok_dec (by decide) | decide, by first | exact iok_dec (by decide) | decide, by first | exact iok_dec (by decide) | decide⟩, by first | exact iok_dec (by decide) | decide, ⟨by first | exact iok_dec (by decide) | decide, by first | exact iok_dec (by decide) | decide, by first | exact iok_dec (by decide) | decide, by first | exact iok_dec (by decide) | decide, ⟨by first | exact iok_dec (by decide) | decide, by first | exact iok_dec (by decide) | decide, by first | exact iok_dec (by decide) | decide⟩, by first | exact iok_dec (by decide) | decide, by first | exact iok_dec (by decide) | decide, by first | exact iok_dec (by decide) | decide, by first | exact iok_dec (by decide) | decide⟩, ⟨by first | exact iok_dec (by decide) | decide, ⟨by first | exact iok_dec (by decide) | decide, by first | exact iok_dec (by decide) | decide, by first | exact iok_dec (by decide) | decide⟩, by first | exact iok_dec (by decide) | decide, by first | exact iok_dec (by decide) | decide⟩⟩
theorem m0_sz : SzM m0 [] [] := sz_of_wt (by decide)
theorem m0_put : putM m0 [] [] [] = (msgB m0 [] [] [], 0) := by unfold putM; rw [if_pos m0_right]
theorem m0_len : (msgB m0 [] [] []).length ≤ 4194304 := by
  have := msgB_len m0 [] [] [] (by decide) (by decide) (by decide)
  have h2 : wtMs m0 [] [] = 0 := by decide
  omega
set_option maxHeartbeats 6400000 in
set_option maxRecDepth 100000 in
theorem awake17 (w : World) : Calls Tryz.prog 5 #[] w fun e w' => e = .returned (.bool true) ∧ Below w.heap.size w w' := by
  go_enter Tryz.func5, Tryz.ntmps5
  go_wp2_with fail
  refine (putcell0_any w).mono ?_
  rintro e w1 ⟨rfl, d1⟩
  have hb1 : Below w.heap.size w w1 := d1
  go_wp2_with fail
  refine (putmsg_any m0 [] [] [] w1 (m0_in w1) m0_ok (fun _ h => by cases h) (fun _ h => by cases h) m0_sz).mono ?_
  rintro e w2 ⟨rfl, d2⟩
  rw [m0_put]
  have hb2 := bt hb1 d2
  obtain ⟨t, ht⟩ : ∃ t, msgB m0 [] [] [] = t := ⟨_, rfl⟩
  have htl := m0_len
  rw [ht] at htl
  rw [ht]
  have HT := Lib.hid ht
  clear ht
  go_wp2_with fail
  refine (takemsg_any t 4194304 (Nat.le_refl _) htl w2).mono ?_
  intro e w3 hpost
  rw [← HT.out] at hpost
  obtain ⟨n, jts, qs, ks, rfl, hn, hN, d3⟩ := took_right m0_right rfl rfl rfl m0_sz hpost
  have hfr : n.frm = 11 := by
    simp only [tupM, Prod.mk.injEq] at hn
    exact hn.2.1
  have hb3 := bt hb2 d3
  clear hn hN hpost d3
  have B3 : Blk (w3.alloc (.cells zmA 51)) w3.heap.size 51 zmA := Blk.new w3 _ _
  have hon : (msA n).toList.all (·.oneCell') = true := (by with_unfolding_all rfl)
  have D : ∀ w', w' = (w3.alloc (.cells zmA 51)).setRow w3.heap.size (msA n) → Below w.heap.size w w' ∧ Blk w' w3.heap.size 51 (msA n) := by
    rintro _ rfl
    exact ⟨below_row (bal hb3 _) hb3.size _, B3.row _⟩
  go_wp2_with (with_reducible refine wpl_st B3 (by with_unfolding_all rfl) 51 _ _ (by with_unfolding_all rfl) (msA n) (by with_unfolding_all rfl) (by with_unfolding_all rfl) (by with_unfolding_all rfl) (by with_unfolding_all rfl) hon ?_; refine Classical.byContradiction fun hno => ?_)
  refine hno ?_
  clear hno
  intro w4 e4
  obtain ⟨hb4, B4⟩ := D w4 e4
  clear e4 D B3
  have c1 : w4.cell? ⟨w3.heap.size, 1, none⟩ = some (.int .i64 11) := (B4.cell 1).trans (by rw [← hfr]; rfl)
  have g4 := B4.lt
  go_wp2
  go_ret
  exact ⟨rfl, hb4⟩
end Go.Proofs.YtkoligiilieboaaGreatDoor
