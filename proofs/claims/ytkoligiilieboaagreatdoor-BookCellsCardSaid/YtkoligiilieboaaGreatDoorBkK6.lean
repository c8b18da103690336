/- The document's Small: whether a cell is short enough. -/
import Derived.Test.YtkoligiilieboaaGreatDoorBkK5
set_option linter.unusedSimpArgs false
set_option linter.unusedVariables false
namespace Go.Proofs.YtkoligiilieboaaGreatDoor
open Go.RowKit
attribute [local go_sem] ByteArray.mk_append_mk ByteArray.extract_mk
attribute [local go_sem ↓] Go.wp_at_zero Go.wp_at_succ
def smE1 (e : En) : Bool := decide (e.n ≤ 80) && decide (e.key.length ≤ 100)
def smE (es : List En) : Bool := decide (es.length ≤ 80) && es.all smE1
def smD1 (d : Dn) : Bool := decide (d.ans.itn ≤ 100)
def smD (ds : List Dn) : Bool := decide (ds.length ≤ 40) && ds.all smD1
def smS (s : Sh) : Bool := smE s.es && (smD s.ds && (decide (s.lo.length < 100) && decide (s.hi.length < 100)))
def smCe (c : Ce) : Bool := decide (c.ss.length ≤ 12) && c.ss.all smS
theorem all_take_succ {α : Type} {l : List α} {p : α → Bool} {k : Nat} (hk : k < l.length) (h : (l.take k).all p = true) (h1 : p l[k] = true) : (l.take (k + 1)).all p = true := by
 rw [List.take_succ_eq_append_getElem hk, List.all_append, h]
 simp [h1]
theorem all_at_false {α : Type} {l : List α} {p : α → Bool} {k : Nat} (hk : k < l.length) (h1 : p l[k] = false) : l.all p = false := List.all_eq_false.2 ⟨l[k], List.getElem_mem hk, by simp [h1]⟩
theorem all_full {α : Type} {l : List α} {p : α → Bool} {k : Nat} (hk : l.length ≤ k) (h : (l.take k).all p = true) : l.all p = true := by rwa [List.take_of_length_le hk] at h
set_option maxHeartbeats 1600000 in
set_option maxRecDepth 100000 in
theorem small08_any (A : Option Addr) (n c : Nat) (xs : List En) (hx : xs.length = n) (hm : n ≤ 9223372036854775807) (w : World) (hR : RdR enC 2 w w.heap.size A xs) :
  Calls Tryz.prog 83 #[.slice A n c] w fun e w' => e = .returned (.bool (decide (xs.length ≤ 80) && xs.all smE1)) ∧ Below w.heap.size w w' := by
 obtain ⟨r, hr⟩ : ∃ r, (decide (xs.length ≤ 80) && xs.all smE1) = r := ⟨_, rfl⟩
 rw [hr]
 have HV := Lib.hid hr
 clear hr
 go_enter Tryz.func83, Tryz.ntmps83
 by_cases hl : n ≤ 80
 case neg =>
  have h2 : (80 : Int) < (n : Int) := by omega
  have hv : r = false := by rw [← HV.out, hx, decide_eq_false hl]; rfl
  subst hv
  go_wp2
  go_ret
  exact ⟨rfl, Below.refl _ _⟩
 case pos =>
 have h2 : ¬ (80 : Int) < (n : Int) := by omega
 go_wp2_with fail
 clear h2
 go_loopw [3] (fun i wr => ∃ k : Nat, i = .int .i64 k ∧ k ≤ n ∧ (xs.take k).all smE1 = true ∧ Below w.heap.size w wr) (fun i _ => n - (intOf i).toNat)
 case atStart => exact ⟨0, rfl, Nat.zero_le _, rfl, Below.refl _ _⟩
 case round =>
  obtain ⟨k, rfl, hk, ht, hb⟩ := hrel
  have i0 : (0 : Int) ≤ (k : Int) := by omega
  have HT := Lib.hid ht
  clear ht
  by_cases hlt : k < n
  case pos =>
   have i1 : (k : Int) < (n : Int) := by omega
   obtain ⟨b, off, rfl, hbB, rx⟩ := hR.at k (by omega)
   have hs := fun (h : smE1 (xs[k]'(by omega)) = true) => all_take_succ (by omega) HT.out h
   have hf := fun (h : smE1 (xs[k]'(by omega)) = false) => all_at_false (by omega) h
   obtain ⟨x, hxk⟩ : ∃ x, xs[k]'(by omega) = x := ⟨_, rfl⟩
   rw [hxk] at rx hs hf
   have HS := Lib.hid hs
   have HF := Lib.hid hf
   clear hxk hs hf
   have ry := rng_below rx hb hbB
   have c0 : wr.cell? ⟨b, off + k * 2, none⟩ = some (.string ⟨x.key.toArray⟩) := rng0 ry
   have c1 : wr.cell? ⟨b, off + k * 2 + 1, none⟩ = some (.slice x.A x.n x.c) := rng1 ry
   by_cases p0 : x.n ≤ 80
   case neg =>
    have q0 : (80 : Int) < (x.n : Int) := by omega
    have hv : r = false := by rw [← HV.out, HF.out (by unfold smE1; rw [decide_eq_false p0]; rfl)]; simp
    subst hv
    go_wp2
    go_ret
    exact ⟨rfl, hb⟩
   case pos =>
   have q0 : ¬ (80 : Int) < (x.n : Int) := by omega
   by_cases p1 : x.key.length ≤ 100
   case neg =>
    have q1 : (100 : Int) < (x.key.length : Int) := by omega
    have hv : r = false := by rw [← HV.out, HF.out (by unfold smE1; rw [decide_eq_false p1, Bool.and_false])]; simp
    subst hv
    go_wp2
    go_ret
    exact ⟨rfl, hb⟩
   case pos =>
    have q1 : ¬ (100 : Int) < (x.key.length : Int) := by omega
    have HP := Lib.hid (show smE1 x = true by unfold smE1; rw [decide_eq_true p0, decide_eq_true p1]; rfl)
    go_wp2_with fail
    go_roundw
    case rel => exact ⟨k + 1, by go_num, by omega, HS.out (HP.out), hb⟩
    case measure => simp [intOf]; omega
  case neg =>
   have hv : r = true := by rw [← HV.out, all_full (k := k) (by omega) HT.out, hx, decide_eq_true hl]; rfl
   subst hv
   go_wp2
   go_ret
   exact ⟨rfl, hb⟩
set_option maxHeartbeats 1600000 in
set_option maxRecDepth 100000 in
theorem small10_any (A : Option Addr) (n c : Nat) (xs : List Dn) (hx : xs.length = n) (hm : n ≤ 9223372036854775807) (w : World) (hR : RdR dnC 11 w w.heap.size A xs) :
  Calls Tryz.prog 84 #[.slice A n c] w fun e w' => e = .returned (.bool (decide (xs.length ≤ 40) && xs.all smD1)) ∧ Below w.heap.size w w' := by
 obtain ⟨r, hr⟩ : ∃ r, (decide (xs.length ≤ 40) && xs.all smD1) = r := ⟨_, rfl⟩
 rw [hr]
 have HV := Lib.hid hr
 clear hr
 go_enter Tryz.func84, Tryz.ntmps84
 by_cases hl : n ≤ 40
 case neg =>
  have h2 : (40 : Int) < (n : Int) := by omega
  have hv : r = false := by rw [← HV.out, hx, decide_eq_false hl]; rfl
  subst hv
  go_wp2
  go_ret
  exact ⟨rfl, Below.refl _ _⟩
 case pos =>
 have h2 : ¬ (40 : Int) < (n : Int) := by omega
 go_wp2_with fail
 clear h2
 go_loopw [3] (fun i wr => ∃ k : Nat, i = .int .i64 k ∧ k ≤ n ∧ (xs.take k).all smD1 = true ∧ Below w.heap.size w wr) (fun i _ => n - (intOf i).toNat)
 case atStart => exact ⟨0, rfl, Nat.zero_le _, rfl, Below.refl _ _⟩
 case round =>
  obtain ⟨k, rfl, hk, ht, hb⟩ := hrel
  have i0 : (0 : Int) ≤ (k : Int) := by omega
  have HT := Lib.hid ht
  clear ht
  by_cases hlt : k < n
  case pos =>
   have i1 : (k : Int) < (n : Int) := by omega
   obtain ⟨b, off, rfl, hbB, rx⟩ := hR.at k (by omega)
   have hs := fun (h : smD1 (xs[k]'(by omega)) = true) => all_take_succ (by omega) HT.out h
   have hf := fun (h : smD1 (xs[k]'(by omega)) = false) => all_at_false (by omega) h
   obtain ⟨x, hxk⟩ : ∃ x, xs[k]'(by omega) = x := ⟨_, rfl⟩
   rw [hxk] at rx hs hf
   have HS := Lib.hid hs
   have HF := Lib.hid hf
   clear hxk hs hf
   have ry := rng_below rx hb hbB
   have c0 : wr.cell? ⟨b, off + k * 11 + 8, none⟩ = some (.slice x.ans.itA x.ans.itn x.ans.itc) := ry 8 _ rfl
   by_cases p0 : x.ans.itn ≤ 100
   case neg =>
    have q0 : (100 : Int) < (x.ans.itn : Int) := by omega
    have hv : r = false := by rw [← HV.out, HF.out (by unfold smD1; rw [decide_eq_false p0])]; simp
    subst hv
    go_wp2
    go_ret
    exact ⟨rfl, hb⟩
   case pos =>
    have q0 : ¬ (100 : Int) < (x.ans.itn : Int) := by omega
    have HP := Lib.hid (show smD1 x = true by unfold smD1; rw [decide_eq_true p0])
    go_wp2_with fail
    go_roundw
    case rel => exact ⟨k + 1, by go_num, by omega, HS.out (HP.out), hb⟩
    case measure => simp [intOf]; omega
  case neg =>
   have hv : r = true := by rw [← HV.out, all_full (k := k) (by omega) HT.out, hx, decide_eq_true hl]; rfl
   subst hv
   go_wp2
   go_ret
   exact ⟨rfl, hb⟩
set_option maxHeartbeats 1600000 in
set_option maxRecDepth 100000 in
theorem smallsh_any (s : Sh) (w : World) (hI : ShIn w w.heap.size s) :
  Calls Tryz.prog 43 #[shV s] w fun e w' => e = .returned (.bool (smS s)) ∧ Below w.heap.size w w' := by
 obtain ⟨r, hr⟩ : ∃ r, smS s = r := ⟨_, rfl⟩
 rw [hr]
 have HV := Lib.hid hr
 clear hr
 have B0 : Blk (w.alloc (.cells (shA s) 30)) w.heap.size 30 (shA s) := Blk.new w _ _
 have hb0 : Below w.heap.size w (w.alloc (.cells (shA s) 30)) := bal (b0 w) _
 go_enter Tryz.func43, Tryz.ntmps43
 go_upto_region 1 with (fail)
 generalize w.alloc (.cells (shA s) 30) = W at *
 have c5 : W.cell? ⟨w.heap.size, 5, none⟩ = some (.slice s.eA s.en s.ec) := B0.cell 5
 have gl := B0.lt
 go_wp2_with fail
 refine (small08_any s.eA s.en s.ec s.es hI.elen hI.e63 W (hI.erow.kept hb0)).mono ?_
 rintro e v1 ⟨rfl, d1⟩
 have B1 := B0.keep d1
 have hb1 := bt hb0 d1
 clear d1 B0 gl c5
 obtain ⟨q1, hq⟩ : ∃ q, (decide (s.es.length ≤ 80) && s.es.all smE1) = q := ⟨_, rfl⟩
 rw [hq]
 have hq1 : smE s.es = q1 := hq
 have HQ1 := Lib.hid hq1
 clear hq hq1
 have c12 : v1.cell? ⟨w.heap.size, 12, none⟩ = some (.slice s.dA s.dn s.dc) := B1.cell 12
 have c2 : v1.cell? ⟨w.heap.size, 2, none⟩ = some (.string ⟨s.lo.toArray⟩) := B1.cell 2
 have c3 : v1.cell? ⟨w.heap.size, 3, none⟩ = some (.string ⟨s.hi.toArray⟩) := B1.cell 3
 have gl := B1.lt
 cases q1
 case false =>
  have hv : r = false := by rw [← HV.out, smS, HQ1.out]; rfl
  subst hv
  go_wp2
  go_ret
  exact ⟨by first | rfl | (simp [k2]; done) | (simp; omega), hb1⟩
 case true =>
 go_wp2_with fail
 refine (small10_any s.dA s.dn s.dc s.ds hI.dlen hI.d63 v1 (hI.drow.kept hb1)).mono ?_
 rintro e v2 ⟨rfl, d2⟩
 have B2 := B1.keep d2
 have hb2 := bt hb1 d2
 clear d2 B1 gl c12 c2 c3
 obtain ⟨q2, hq⟩ : ∃ q, (decide (s.ds.length ≤ 40) && s.ds.all smD1) = q := ⟨_, rfl⟩
 rw [hq]
 have hq2 : smD s.ds = q2 := hq
 have HQ2 := Lib.hid hq2
 clear hq hq2
 have c2 : v2.cell? ⟨w.heap.size, 2, none⟩ = some (.string ⟨s.lo.toArray⟩) := B2.cell 2
 have c3 : v2.cell? ⟨w.heap.size, 3, none⟩ = some (.string ⟨s.hi.toArray⟩) := B2.cell 3
 have gl := B2.lt
 cases q2
 case false =>
  have hv : r = false := by rw [← HV.out, smS, HQ1.out, HQ2.out]; rfl
  subst hv
  go_wp2
  go_ret
  exact ⟨by first | rfl | (simp [k2]; done) | (simp; omega), hb2⟩
 case true =>
 by_cases h1 : s.lo.length < 100
 case neg =>
  have hv : r = false := by rw [← HV.out, smS, decide_eq_false h1]; simp
  subst hv
  have k1 : ¬ (s.lo.length : Int) < 100 := by omega
  go_wp2
  go_ret
  exact ⟨by first | rfl | (simp [k2]; done) | (simp; omega), hb2⟩
 case pos =>
 have k1 : (s.lo.length : Int) < 100 := by omega
 by_cases h2 : s.hi.length < 100
 case neg =>
  have hv : r = false := by rw [← HV.out, smS, decide_eq_false h2]; simp
  subst hv
  have k2 : ¬ (s.hi.length : Int) < 100 := by omega
  go_wp2
  go_ret
  exact ⟨by first | rfl | (simp [k2]; done) | (simp; omega), hb2⟩
 case pos =>
 have k2 : (s.hi.length : Int) < 100 := by omega
 have hv : r = true := by rw [← HV.out, smS, HQ1.out, HQ2.out, decide_eq_true h1, decide_eq_true h2]; rfl
 subst hv
 go_wp2
 go_ret
 exact ⟨by first | rfl | (simp [k2]; done) | (simp; omega), hb2⟩
set_option maxHeartbeats 1600000 in
set_option maxRecDepth 100000 in
theorem smallce_any (c : Ce) (w : World) (hI : CeIn w w.heap.size c) :
  Calls Tryz.prog 15 #[ceV c] w fun e w' => e = .returned (.bool (smCe c)) ∧ Below w.heap.size w w' := by
 obtain ⟨r, hr⟩ : ∃ r, smCe c = r := ⟨_, rfl⟩
 rw [hr]
 have HV := Lib.hid hr
 clear hr
 have B0 : Blk (w.alloc (.cells (ceA c) 38)) w.heap.size 38 (ceA c) := Blk.new w _ _
 have hb0 : Below w.heap.size w (w.alloc (.cells (ceA c) 38)) := bal (b0 w) _
 have hx := hI.len
 have hm := hI.m63
 go_enter Tryz.func15, Tryz.ntmps15
 go_upto_region 1 with (fail)
 generalize w.alloc (.cells (ceA c) 38) = W at *
 have c0 : W.cell? ⟨w.heap.size, 0, none⟩ = some (.slice c.sA c.sn c.sc) := B0.cell 0
 have gl := B0.lt
 by_cases hl : c.sn ≤ 12
 case neg =>
  have h2 : (12 : Int) < (c.sn : Int) := by omega
  have hv : r = false := by rw [← HV.out, smCe, hx, decide_eq_false hl]; rfl
  subst hv
  go_wp2
  go_ret
  exact ⟨rfl, hb0⟩
 case pos =>
 have h2 : ¬ (12 : Int) < (c.sn : Int) := by omega
 go_wp2_with fail
 clear h2 c0 gl
 go_loopw [3] (fun i wr => ∃ k : Nat, i = .int .i64 k ∧ k ≤ c.sn ∧ (c.ss.take k).all smS = true ∧ Below w.heap.size w wr ∧ Blk wr w.heap.size 38 (ceA c)) (fun i _ => c.sn - (intOf i).toNat)
 case atStart => exact ⟨0, rfl, Nat.zero_le _, rfl, hb0, B0⟩
 case round =>
  clear hb0 B0
  obtain ⟨k, rfl, hk, ht, hb, B1⟩ := hrel
  have i0 : (0 : Int) ≤ (k : Int) := by omega
  have HT := Lib.hid ht
  clear ht
  have c0 : wr.cell? ⟨w.heap.size, 0, none⟩ = some (.slice c.sA c.sn c.sc) := B1.cell 0
  have gl := B1.lt
  by_cases hlt : k < c.sn
  case pos =>
   have i1 : (k : Int) < (c.sn : Int) := by omega
   obtain ⟨b, off, hA, hbB, rx⟩ := hI.row.at k (by omega)
   have hs := fun (h : smS (c.ss[k]'(by omega)) = true) => all_take_succ (by omega) HT.out h
   have hf := fun (h : smS (c.ss[k]'(by omega)) = false) => all_at_false (by omega) h
   have hin := hI.ss (c.ss[k]'(by omega)) (List.getElem_mem (by omega))
   obtain ⟨x, hxk⟩ : ∃ x, c.ss[k]'(by omega) = x := ⟨_, rfl⟩
   rw [hxk] at rx hs hf hin
   have HS := Lib.hid hs
   have HF := Lib.hid hf
   have HIN := Lib.hid hin
   clear hxk hs hf hin
   have ry := rng_below rx hb hbB
   have c0' : wr.cell? ⟨w.heap.size, 0, none⟩ = some (.slice (some ⟨b, off, none⟩) c.sn c.sc) := by rw [c0, hA]
   have HA := Lib.hid hA
   clear hA
   clear c0
   go_wp2_with (with_reducible refine wpl_ldr b (off + k * 17) (shC x) ry (by with_unfolding_all rfl) 30 _ (by with_unfolding_all rfl) (by with_unfolding_all rfl) _ Tryz.underlying30 (by with_unfolding_all rfl) (by with_unfolding_all rfl) ?_)
   refine (smallsh_any x wr ((HIN.out.below hb (Nat.le_refl _)).more hb.size)).mono ?_
   rintro e v2 ⟨rfl, d2⟩
   have B2 := B1.keep d2
   have hb2 := bt hb d2
   clear d2 B1 hb c0' gl ry
   cases hq : smS x
   case false =>
    have hv : r = false := by rw [← HV.out, smCe, HF.out hq]; simp
    subst hv
    clear hq
    go_wp2
    go_ret
    exact ⟨rfl, hb2⟩
   case true =>
    have HQ := Lib.hid hq
    clear hq
    go_wp2_with fail
    go_roundw
    case rel => exact ⟨k + 1, by go_num, by omega, HS.out HQ.out, hb2, B2⟩
    case measure => simp [intOf]; omega
  case neg =>
   have hv : r = true := by rw [← HV.out, smCe, all_full (k := k) (by omega) HT.out, hx, decide_eq_true hl]; rfl
   subst hv
   go_wp2
   go_ret
   exact ⟨rfl, hb⟩
end Go.Proofs.YtkoligiilieboaaGreatDoor
