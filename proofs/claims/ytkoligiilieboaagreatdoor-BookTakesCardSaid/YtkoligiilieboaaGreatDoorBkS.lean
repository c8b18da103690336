/- The document's RightMsg. -/
import Derived.Test.YtkoligiilieboaaGreatDoorMgC
set_option linter.unusedSimpArgs false
set_option linter.unusedVariables false
namespace Go.Proofs.YtkoligiilieboaaGreatDoor
open Go.RowKit
attribute [local go_sem] ByteArray.mk_append_mk ByteArray.extract_mk
attribute [local go_sem ↓] Go.wp_at_zero Go.wp_at_succ
theorem fits_any (n : Int) (w : World) : Calls Tryz.prog 81 #[.int .i64 n] w fun e w' => e = .returned (.bool (fitsB n)) ∧ w = w' := by
 by_cases h1 : 0 ≤ n
 case neg =>
  have hf : fitsB n = false := by simp [fitsB]; omega
  rw [hf]
  clear hf
  go_enter Tryz.func81, Tryz.ntmps81
  go_wp2
  go_ret
  exact ⟨rfl, rfl⟩
 case pos =>
  by_cases h2 : n ≤ 1099511627776
  case pos =>
   have hf : fitsB n = true := by simp [fitsB]; omega
   rw [hf]
   clear hf
   go_enter Tryz.func81, Tryz.ntmps81
   go_wp2
   go_ret
   exact ⟨rfl, rfl⟩
  case neg =>
   have hf : fitsB n = false := by simp [fitsB]; omega
   rw [hf]
   clear hf
   go_enter Tryz.func81, Tryz.ntmps81
   go_wp2
   go_ret
   exact ⟨rfl, rfl⟩
theorem nums_ok {m : Ms} {ps : List Pl} {ls : List Int} (h13 : (nm13 m).all fitsB = true) (hp : (ps.flatMap num3).all fitsB = true) (hl : ls.all fitsB = true) : (numsM m ps ls).any badN = false := by
 have : (numsM m ps ls).all fitsB = true := by
  show ((nm13 m ++ ps.flatMap num3) ++ ls).all fitsB = true
  rw [List.all_append, List.all_append, h13, hp, hl]
  rfl
 rw [List.any_eq_false]
 intro x hx
 simp [badN, List.all_eq_true.1 this x hx]
theorem mem_pl {m : Ms} {ps : List Pl} {ls : List Int} {p : Pl} (hp : p ∈ ps) : p.sh ∈ numsM m ps ls ∧ p.ce ∈ numsM m ps ls ∧ p.ep ∈ numsM m ps ls := by
 unfold numsM
 refine ⟨?_, ?_, ?_⟩ <;> refine List.mem_append_left _ (List.mem_append_right _ (List.mem_flatMap.2 ⟨p, hp, by simp⟩))
theorem mem_lm {m : Ms} {ps : List Pl} {ls : List Int} {x : Int} (h : x ∈ ls) : x ∈ numsM m ps ls := List.mem_append_right _ h
theorem mem_13 {m : Ms} {ps : List Pl} {ls : List Int} {x : Int} (h : x ∈ nm13 m) : x ∈ numsM m ps ls := List.mem_append_left _ (List.mem_append_left _ h)
def FitRl (xs : List Int) (W : World) (n : Nat) (i : Value) (wr : World) : Prop := ∃ k : Nat, i = .int .i64 k ∧ k ≤ n ∧ (xs.take k).all fitsB = true ∧ Below W.heap.size W wr
def FitPl (ps : List Pl) (W : World) (i : Value) (wr : World) : Prop := ∃ k : Nat, i = .int .i64 k ∧ k ≤ ps.length ∧ ((ps.take k).flatMap num3).all fitsB = true ∧ Below W.heap.size W wr
set_option maxHeartbeats 3200000 in
set_option maxRecDepth 100000 in
theorem refrightmsg_any (m : Ms) (its : List It) (ps : List Pl) (ls : List Int) (w : World) (hM : MsgIn m its ps ls w) : Calls Tryz.prog 37 #[msV m] w fun e w' => e = .returned (.bool (rightM m ps ls)) ∧ Below w.heap.size w w' := by
 by_cases h0 : m.kind < 1
 case pos =>
  have hf : headB m = false := by simp [headB]; omega
  have HF := Lib.hid (rightM_head (ps := ps) (ls := ls) hf)
  clear hf
  go_enter Tryz.func37, Tryz.ntmps37
  go_wp2
  go_ret
  exact ⟨by rw [HF.out] <;> rfl, bal (b0 w) _⟩
 case neg =>
 by_cases h1 : 37 < m.kind
 case pos =>
  have hf : headB m = false := by simp [headB]; omega
  have HF := Lib.hid (rightM_head (ps := ps) (ls := ls) hf)
  clear hf
  go_enter Tryz.func37, Tryz.ntmps37
  go_wp2
  go_ret
  exact ⟨by rw [HF.out] <;> rfl, bal (b0 w) _⟩
 case neg =>
 by_cases h2 : m.ans.er < 0
 case pos =>
  have hf : headB m = false := by simp [headB]; omega
  have HF := Lib.hid (rightM_head (ps := ps) (ls := ls) hf)
  clear hf
  go_enter Tryz.func37, Tryz.ntmps37
  go_wp2
  go_ret
  exact ⟨by rw [HF.out] <;> rfl, bal (b0 w) _⟩
 case neg =>
 by_cases h3 : 16 < m.ans.er
 case pos =>
  have hf : headB m = false := by simp [headB]; omega
  have HF := Lib.hid (rightM_head (ps := ps) (ls := ls) hf)
  clear hf
  go_enter Tryz.func37, Tryz.ntmps37
  go_wp2
  go_ret
  exact ⟨by rw [HF.out] <;> rfl, bal (b0 w) _⟩
 case neg =>
 by_cases h4 : (8 : Int) < (m.ans.itn : Int)
 case pos =>
  have hf : headB m = false := by simp [headB]; omega
  have HF := Lib.hid (rightM_head (ps := ps) (ls := ls) hf)
  clear hf
  go_enter Tryz.func37, Tryz.ntmps37
  go_wp2
  go_ret
  exact ⟨by rw [HF.out] <;> rfl, bal (b0 w) _⟩
 case neg =>
 by_cases h5 : (8 : Int) < (m.pn : Int)
 case pos =>
  have hf : headB m = false := by simp [headB]; omega
  have HF := Lib.hid (rightM_head (ps := ps) (ls := ls) hf)
  clear hf
  go_enter Tryz.func37, Tryz.ntmps37
  go_wp2
  go_ret
  exact ⟨by rw [HF.out] <;> rfl, bal (b0 w) _⟩
 case neg =>
 by_cases h6 : (8 : Int) < (m.mn : Int)
 case pos =>
  have hf : headB m = false := by simp [headB]; omega
  have HF := Lib.hid (rightM_head (ps := ps) (ls := ls) hf)
  clear hf
  go_enter Tryz.func37, Tryz.ntmps37
  go_wp2
  go_ret
  exact ⟨by rw [HF.out] <;> rfl, bal (b0 w) _⟩
 case neg =>
 have hh : headB m = true := by simp [headB]; omega
 have hkind : fitsB m.kind = true := by simp [fitsB]; omega
 have HH := Lib.hid hh
 have HK := Lib.hid hkind
 clear hh hkind
 have B : Blk (w.alloc (.cells (msA m) 51)) w.heap.size 51 (msA m) := Blk.new w _ _
 have hbW : Below w.heap.size w (w.alloc (.cells (msA m) 51)) := bal (b0 w) _
 go_enter Tryz.func37, Tryz.ntmps37
 have W0 : ∃ W, W = (w.alloc (.cells (msA m) 51)) := ⟨_, rfl⟩
 go_upto_region 3 with (fail)
 clear h0 h1 h2 h3 W0
 generalize (w.alloc (.cells (msA m) 51)) = W at *
 go_cut [117] from 43 to 117 (fun c wx => c = .bool (!(nm13 m).all fitsB) ∧ W = wx)
 case first =>
  have hall : (nm13 m).all fitsB = (fitsB m.frm && (fitsB m.to && (fitsB m.shard && (fitsB m.epoch && (fitsB m.move && (fitsB m.lease && (fitsB m.num && (fitsB m.of && (fitsB m.req.cl && (fitsB m.req.rq && (fitsB m.req.kd && fitsB m.req.lim))))))))))) := by
   simp only [nm13, List.all_cons, List.all_nil, Bool.and_true, HK.out, Bool.true_and]
  have HALL := Lib.hid hall
  clear hall
  have c0 : W.cell? ⟨w.heap.size, 1, none⟩ = some (.int .i64 m.frm) := B.cell 1
  go_wp2_with fail
  clear c0
  refine (fits_any m.frm W).mono ?_
  rintro e w1 ⟨rfl, rfl⟩
  cases hq : fitsB m.frm
  case false =>
   have HF0 := Lib.hid hq
   clear hq
   go_wp2_with fail
   go_meet
   exact ⟨by rw [HALL.out] <;> simp [ HF0.out], rfl⟩
  case true =>
  have HF0 := Lib.hid hq
  clear hq
  have c1 : W.cell? ⟨w.heap.size, 2, none⟩ = some (.int .i64 m.to) := B.cell 2
  go_wp2_with fail
  clear c1
  refine (fits_any m.to W).mono ?_
  rintro e w1 ⟨rfl, rfl⟩
  cases hq : fitsB m.to
  case false =>
   have HF1 := Lib.hid hq
   clear hq
   go_wp2_with fail
   go_meet
   exact ⟨by rw [HALL.out] <;> simp [HF0.out, HF1.out], rfl⟩
  case true =>
  have HF1 := Lib.hid hq
  clear hq
  have c2 : W.cell? ⟨w.heap.size, 3, none⟩ = some (.int .i64 m.shard) := B.cell 3
  go_wp2_with fail
  clear c2
  refine (fits_any m.shard W).mono ?_
  rintro e w1 ⟨rfl, rfl⟩
  cases hq : fitsB m.shard
  case false =>
   have HF2 := Lib.hid hq
   clear hq
   go_wp2_with fail
   go_meet
   exact ⟨by rw [HALL.out] <;> simp [HF0.out, HF1.out, HF2.out], rfl⟩
  case true =>
  have HF2 := Lib.hid hq
  clear hq
  have c3 : W.cell? ⟨w.heap.size, 4, none⟩ = some (.int .i64 m.epoch) := B.cell 4
  go_wp2_with fail
  clear c3
  refine (fits_any m.epoch W).mono ?_
  rintro e w1 ⟨rfl, rfl⟩
  cases hq : fitsB m.epoch
  case false =>
   have HF3 := Lib.hid hq
   clear hq
   go_wp2_with fail
   go_meet
   exact ⟨by rw [HALL.out] <;> simp [HF0.out, HF1.out, HF2.out, HF3.out], rfl⟩
  case true =>
  have HF3 := Lib.hid hq
  clear hq
  have c4 : W.cell? ⟨w.heap.size, 5, none⟩ = some (.int .i64 m.move) := B.cell 5
  go_wp2_with fail
  clear c4
  refine (fits_any m.move W).mono ?_
  rintro e w1 ⟨rfl, rfl⟩
  cases hq : fitsB m.move
  case false =>
   have HF4 := Lib.hid hq
   clear hq
   go_wp2_with fail
   go_meet
   exact ⟨by rw [HALL.out] <;> simp [HF0.out, HF1.out, HF2.out, HF3.out, HF4.out], rfl⟩
  case true =>
  have HF4 := Lib.hid hq
  clear hq
  have c5 : W.cell? ⟨w.heap.size, 6, none⟩ = some (.int .i64 m.lease) := B.cell 6
  go_wp2_with fail
  clear c5
  refine (fits_any m.lease W).mono ?_
  rintro e w1 ⟨rfl, rfl⟩
  cases hq : fitsB m.lease
  case false =>
   have HF5 := Lib.hid hq
   clear hq
   go_wp2_with fail
   go_meet
   exact ⟨by rw [HALL.out] <;> simp [HF0.out, HF1.out, HF2.out, HF3.out, HF4.out, HF5.out], rfl⟩
  case true =>
  have HF5 := Lib.hid hq
  clear hq
  have c6 : W.cell? ⟨w.heap.size, 7, none⟩ = some (.int .i64 m.num) := B.cell 7
  go_wp2_with fail
  clear c6
  refine (fits_any m.num W).mono ?_
  rintro e w1 ⟨rfl, rfl⟩
  cases hq : fitsB m.num
  case false =>
   have HF6 := Lib.hid hq
   clear hq
   go_wp2_with fail
   go_meet
   exact ⟨by rw [HALL.out] <;> simp [HF0.out, HF1.out, HF2.out, HF3.out, HF4.out, HF5.out, HF6.out], rfl⟩
  case true =>
  have HF6 := Lib.hid hq
  clear hq
  have c7 : W.cell? ⟨w.heap.size, 8, none⟩ = some (.int .i64 m.of) := B.cell 8
  go_wp2_with fail
  clear c7
  refine (fits_any m.of W).mono ?_
  rintro e w1 ⟨rfl, rfl⟩
  cases hq : fitsB m.of
  case false =>
   have HF7 := Lib.hid hq
   clear hq
   go_wp2_with fail
   go_meet
   exact ⟨by rw [HALL.out] <;> simp [HF0.out, HF1.out, HF2.out, HF3.out, HF4.out, HF5.out, HF6.out, HF7.out], rfl⟩
  case true =>
  have HF7 := Lib.hid hq
  clear hq
  have c8 : W.cell? ⟨w.heap.size, 13, none⟩ = some (.int .i64 m.req.cl) := B.cell 13
  go_wp2_with fail
  clear c8
  refine (fits_any m.req.cl W).mono ?_
  rintro e w1 ⟨rfl, rfl⟩
  cases hq : fitsB m.req.cl
  case false =>
   have HF8 := Lib.hid hq
   clear hq
   go_wp2_with fail
   go_meet
   exact ⟨by rw [HALL.out] <;> simp [HF0.out, HF1.out, HF2.out, HF3.out, HF4.out, HF5.out, HF6.out, HF7.out, HF8.out], rfl⟩
  case true =>
  have HF8 := Lib.hid hq
  clear hq
  have c9 : W.cell? ⟨w.heap.size, 14, none⟩ = some (.int .i64 m.req.rq) := B.cell 14
  go_wp2_with fail
  clear c9
  refine (fits_any m.req.rq W).mono ?_
  rintro e w1 ⟨rfl, rfl⟩
  cases hq : fitsB m.req.rq
  case false =>
   have HF9 := Lib.hid hq
   clear hq
   go_wp2_with fail
   go_meet
   exact ⟨by rw [HALL.out] <;> simp [HF0.out, HF1.out, HF2.out, HF3.out, HF4.out, HF5.out, HF6.out, HF7.out, HF8.out, HF9.out], rfl⟩
  case true =>
  have HF9 := Lib.hid hq
  clear hq
  have c10 : W.cell? ⟨w.heap.size, 15, none⟩ = some (.int .i64 m.req.kd) := B.cell 15
  go_wp2_with fail
  clear c10
  refine (fits_any m.req.kd W).mono ?_
  rintro e w1 ⟨rfl, rfl⟩
  cases hq : fitsB m.req.kd
  case false =>
   have HF10 := Lib.hid hq
   clear hq
   go_wp2_with fail
   go_meet
   exact ⟨by rw [HALL.out] <;> simp [HF0.out, HF1.out, HF2.out, HF3.out, HF4.out, HF5.out, HF6.out, HF7.out, HF8.out, HF9.out, HF10.out], rfl⟩
  case true =>
  have HF10 := Lib.hid hq
  clear hq
  have c11 : W.cell? ⟨w.heap.size, 24, none⟩ = some (.int .i64 m.req.lim) := B.cell 24
  go_wp2_with fail
  clear c11
  refine (fits_any m.req.lim W).mono ?_
  rintro e w1 ⟨rfl, rfl⟩
  cases hq : fitsB m.req.lim
  case false =>
   have HF11 := Lib.hid hq
   clear hq
   go_wp2_with fail
   go_meet
   exact ⟨by rw [HALL.out] <;> simp [HF0.out, HF1.out, HF2.out, HF3.out, HF4.out, HF5.out, HF6.out, HF7.out, HF8.out, HF9.out, HF10.out, HF11.out], rfl⟩
  case true =>
  have HF11 := Lib.hid hq
  clear hq
  go_wp2_with fail
  go_meet
  exact ⟨by rw [HALL.out] <;> simp [HF0.out, HF1.out, HF2.out, HF3.out, HF4.out, HF5.out, HF6.out, HF7.out, HF8.out, HF9.out, HF10.out, HF11.out], rfl⟩
 case rest =>
 obtain ⟨rfl, rfl⟩ := hcut
 clear HK
 cases hq : (nm13 m).all fitsB
 case false =>
  obtain ⟨x, hx, hf⟩ := List.all_eq_false.1 hq
  have HF := Lib.hid (rightM_num (ps := ps) (ls := ls) (mem_13 hx) (by simpa using hf))
  clear hq hf
  go_wp2
  go_ret
  exact ⟨by rw [HF.out] <;> rfl, hbW⟩
 case true =>
 have H13 := Lib.hid hq
 clear hq
 have hMW := hM.keep hbW
 have hpn := hMW.np
 have hln := hMW.nl
 go_wp2_with fail
 go_loopw [3] (fun i wr => FitPl ps W i wr) (fun i _ => ps.length - (intOf i).toNat)
 case atStart => exact ⟨0, rfl, Nat.zero_le _, rfl, Below.refl _ _⟩
 case round =>
  obtain ⟨k, rfl, hk, hall, hb⟩ := hrel
  have hbs := hb.size
  have i0 : (0 : Int) ≤ (k : Int) := by omega
  have BW := B.keep hb
  have c34 : wr.cell? ⟨w.heap.size, 34, none⟩ = some (.slice m.pA m.pn m.pc) := BW.cell 34
  have HA := Lib.hid hall
  clear hall
  by_cases hlt : k < ps.length
  case pos =>
   have i1 : (k : Int) < (m.pn : Int) := by omega
   obtain ⟨b, off, hA, hbB, _, _, g2, g3, g4⟩ := plc_cells (hMW.keep hb).rp k hlt
   have hmem : ps[k] ∈ ps := List.getElem_mem hlt
   have hsn := num3_snoc ps k hlt
   obtain ⟨x, hx⟩ : ∃ x, ps[k] = x := ⟨_, rfl⟩
   rw [hx] at g2 g3 g4 hmem hsn
   rw [hA] at c34
   clear hA
   have HM := Lib.hid (mem_pl (m := m) (ls := ls) hmem)
   have HS := Lib.hid hsn
   clear hx hmem hsn
   go_wp2_with fail
   refine (fits_any x.sh wr).mono ?_
   rintro e w1 ⟨rfl, rfl⟩
   cases hq : fitsB x.sh
   case false =>
    have HF := Lib.hid (rightM_num HM.out.1 hq)
    clear hq
    go_wp2
    go_ret
    exact ⟨by rw [HF.out] <;> rfl, hbW.trans (hb.mono hbW.size)⟩
   case true =>
   have Q0 := Lib.hid hq
   clear hq
   go_wp2_with fail
   refine (fits_any x.ce wr).mono ?_
   rintro e w1 ⟨rfl, rfl⟩
   cases hq : fitsB x.ce
   case false =>
    have HF := Lib.hid (rightM_num HM.out.2.1 hq)
    clear hq
    go_wp2
    go_ret
    exact ⟨by rw [HF.out] <;> rfl, hbW.trans (hb.mono hbW.size)⟩
   case true =>
   have Q1 := Lib.hid hq
   clear hq
   go_wp2_with fail
   refine (fits_any x.ep wr).mono ?_
   rintro e w1 ⟨rfl, rfl⟩
   cases hq : fitsB x.ep
   case false =>
    have HF := Lib.hid (rightM_num HM.out.2.2 hq)
    clear hq
    go_wp2
    go_ret
    exact ⟨by rw [HF.out] <;> rfl, hbW.trans (hb.mono hbW.size)⟩
   case true =>
   have Q2 := Lib.hid hq
   clear hq
   go_wp2_with fail
   go_roundw
   case rel => exact ⟨k + 1, by go_num, by omega, by rw [HS.out, List.all_append, HA.out]; simp [num3, Q0.out, Q1.out, Q2.out], hb⟩
   case measure => simp [intOf]; omega
  case neg =>
   have hke : (k : Int) = (m.pn : Int) := by omega
   have hP : (ps.flatMap num3).all fitsB = true := by
    have := HA.out
    rwa [List.take_of_length_le (by omega)] at this
   have HP := Lib.hid hP
   have hMR := hMW.keep hb
   have hbR : Below w.heap.size w wr := hbW.trans (hb.mono hbW.size)
   clear hP HA i0 hk hlt
   obtain ⟨wq, hwq⟩ : ∃ x, x = wr := ⟨_, rfl⟩
   subst hwq
   go_wp2_with fail
   clear hke c34
   go_loopw [4] (fun i wr => FitRl ls wq ls.length i wr) (fun i _ => ls.length - (intOf i).toNat)
   case atStart => exact ⟨0, rfl, Nat.zero_le _, rfl, Below.refl _ _⟩
   case round =>
    obtain ⟨k, rfl, hk, hall, hb2⟩ := hrel
    have hbs2 := hb2.size
    have i0 : (0 : Int) ≤ (k : Int) := by omega
    have hb0 : Below w.heap.size w wr := hbR.trans (hb2.mono hbR.size)
    have B0 := BW.keep hb2
    have c35 : wr.cell? ⟨w.heap.size, 35, none⟩ = some (.slice m.mA m.mn m.mc) := B0.cell 35
    have HA := Lib.hid hall
    clear hall
    by_cases hlt : k < ls.length
    case pos =>
     have i1 : (k : Int) < (m.mn : Int) := by omega
     obtain ⟨b, off, hA, hbB, g0⟩ := ldc_cells (hMR.keep hb2).rl k hlt
     have hmem : ls[k] ∈ ls := List.getElem_mem hlt
     have hsn : (ls.take (k + 1)).all fitsB = ((ls.take k).all fitsB && fitsB ls[k]) := by rw [List.take_succ_eq_append_getElem hlt, List.all_append]; simp
     obtain ⟨x, hx⟩ : ∃ x, ls[k] = x := ⟨_, rfl⟩
     rw [hx] at g0 hmem hsn
     rw [hA] at c35
     clear hA
     have HM := Lib.hid (mem_lm (m := m) (ps := ps) hmem)
     have HS := Lib.hid hsn
     clear hx hmem hsn
     go_wp2_with fail
     refine (fits_any x _).mono ?_
     rintro e w1 ⟨rfl, rfl⟩
     cases hq : fitsB x
     case false =>
      have HF := Lib.hid (rightM_num HM.out hq)
      clear hq
      go_wp2
      go_ret
      exact ⟨by rw [HF.out] <;> rfl, hb0⟩
     case true =>
     have Q0 := Lib.hid hq
     clear hq
     go_wp2_with fail
     go_roundw
     case rel => exact ⟨k + 1, by go_num, by omega, by rw [HS.out, HA.out, Q0.out]; rfl, hb2⟩
     case measure => simp [intOf]; omega
    case neg =>
    have hke : (k : Int) = (m.mn : Int) := by omega
    have hL : ls.all fitsB = true := by
     have := HA.out
     rwa [List.take_of_length_le (by omega)] at this
    have HR := Lib.hid (rightM_rest HH.out (nums_ok H13.out HP.out hL))
    clear hL HA hlt
    obtain ⟨x0, y0, z0⟩ := B0.ms9
    go_wp2_with fail
    refine (refright_any m.a m.t m.n _).mono ?_
    rintro e v1 ⟨rfl, d1⟩
    clear x0 y0 z0
    have hb1 := bt hb0 d1
    have B1 := B0.keep d1
    clear B0
    cases hq0 : rightB m.a m.t m.n
    case false =>
     have HQ0 := Lib.hid hq0
     clear hq0
     go_wp2
     go_ret
     exact ⟨by rw [HR.out] <;> simp [ HQ0.out], hb1⟩
    case true =>
    have HQ0 := Lib.hid hq0
    clear hq0
    obtain ⟨x1, y1, z1⟩ := B1.ms20
    go_wp2_with fail
    refine (refright_any m.req.a m.req.t m.req.n _).mono ?_
    rintro e v2 ⟨rfl, d2⟩
    clear x1 y1 z1
    have hb2 := bt hb1 d2
    have B2 := B1.keep d2
    clear B1
    cases hq1 : rightB m.req.a m.req.t m.req.n
    case false =>
     have HQ1 := Lib.hid hq1
     clear hq1
     go_wp2
     go_ret
     exact ⟨by rw [HR.out] <;> simp [HQ0.out, HQ1.out], hb2⟩
    case true =>
    have HQ1 := Lib.hid hq1
    clear hq1
    obtain ⟨x2, y2, z2⟩ := B2.ms26
    go_wp2_with fail
    refine (refright_any m.ans.a m.ans.t m.ans.n _).mono ?_
    rintro e v3 ⟨rfl, d3⟩
    clear x2 y2 z2
    have hb3 := bt hb2 d3
    have B3 := B2.keep d3
    clear B2
    cases hq2 : rightB m.ans.a m.ans.t m.ans.n
    all_goals
     have HQ2 := Lib.hid hq2
     clear hq2
     go_wp2
     go_ret
     exact ⟨by rw [HR.out] <;> simp [HQ0.out, HQ1.out, HQ2.out], hb3⟩
end Go.Proofs.YtkoligiilieboaaGreatDoor
