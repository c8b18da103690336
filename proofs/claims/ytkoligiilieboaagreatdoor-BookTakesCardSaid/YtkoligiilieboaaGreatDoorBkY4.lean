/- engine.Right: whether a cell is right. -/
import Derived.Test.YtkoligiilieboaaGreatDoorBkY3
set_option linter.unusedSimpArgs false
set_option linter.unusedVariables false
namespace Go.Proofs.YtkoligiilieboaaGreatDoor
open Go.RowKit
attribute [local go_sem] ByteArray.mk_append_mk ByteArray.extract_mk
attribute [local go_sem ↓] Go.wp_at_zero Go.wp_at_succ
section
variable {P : Program} {w : World}
theorem wpl_ldr {ops : Array Oper} {rest : List Oper} {op : Oper} {a : Act} {Q : Exit → Act → World → Prop} (b o : Nat) (out : List Value) (H : w.rangeAt b o out) (hgd : op.guard = none) (ty : TypeId) (x : Operand) (ho : op.op = .load ty x)
    (hx : a.eval x = .pointer (some ⟨b, o, none⟩)) (d : TypeDesc) (hu : P.underlying ty = some d) (hd : d.isRow = true) (hi : (P.info? ty).map (·.size) = some out.length)
    (h : wpList P ops Q rest (a.put op.dst (.agg out.toArray)) w) : wpList P ops Q (op :: rest) a w :=
  wpList_plain hgd fun _ hK => by
    unfold Oper.wp execOp
    simp only [ho, hx, Instr.loadAt, Instr.sureAddr, Sem.run_bind, Sem.run_pure, Result.andThen_ok, run_loadVar_mid w b o ty out d H hu hd hi]
    exact hK _ _ h
end
abbrev zsA : Array Value := #[.int .i64 0, .int .i64 0, .string ⟨#[]⟩, .string ⟨#[]⟩, .int .i64 0, .slice none 0 0, .int .i64 0, .int .i64 0, .int .i64 0, .int .i64 0, .int .i64 0, .int .i64 0, .slice none 0 0, .int .i64 0, .int .i64 0, .int .i64 0, .int .i64 0]
structure CeOk (w : World) (B : Nat) (c : Ce) : Prop where
  inn : CeIn w B c
  oks : ∀ s ∈ c.ss, ShOk w B s
theorem CeOk.kept {w w' : World} {c : Ce} (h : CeOk w w.heap.size c) (hb : Below w.heap.size w w') : CeOk w' w'.heap.size c := ⟨(h.inn.below hb (Nat.le_refl _)).more hb.size, fun s hs => (h.oks s hs).kept hb⟩
def lastS (ss : List Sh) (k : Nat) : Int :=
  match k with
  | 0 => 0
  | j + 1 => match ss[j]? with
    | none => 0
    | some d => d.id
theorem lastS_succ {ss : List Sh} {k : Nat} (h : k < ss.length) : lastS ss (k + 1) = ss[k].id := by simp [lastS, h]
theorem shB_id {s : Sh} (h : shB s = true) : 1 ≤ s.id := by
  unfold shB numB oneB at h
  simp only [Bool.and_eq_true, decide_eq_true_eq] at h
  exact h.1.1.1.1
theorem shB_ix {s : Sh} (h : shB s = true) : ixB s.es = true := by
  unfold shB at h
  simp only [Bool.and_eq_true] at h
  exact h.2.2.1
theorem step_sh {ss : List Sh} {f : Sh → Bool} {k : Nat} (h : k < ss.length) : stepB (fun s => shB s && f s) slt ss k = (decide (lastS ss k < ss[k].id) && (shB ss[k] && f ss[k])) := by
  cases k with
  | zero =>
    rw [stepB_zero h]
    cases hd : shB ss[0]
    · simp
    · have h1 := shB_id hd
      have : lastS ss 0 < ss[0].id := by show (0 : Int) < _; omega
      simp [this]
  | succ k =>
    rw [stepB_succ h, lastS_succ (by omega), Bool.and_comm]
    rfl
set_option maxHeartbeats 12800000 in
set_option maxRecDepth 100000 in
theorem cright_any (c : Ce) (w : World) (hI : CeOk w w.heap.size c) (hT : Go.Lib.Utf8Tabs 0 1 w) :
    Calls Tryz.prog 29 #[ceV c] w fun e w' => e = .returned (.bool (ceB c)) ∧ Below w.heap.size w w' := by
  obtain ⟨r, hr⟩ : ∃ r, ceB c = r := ⟨_, rfl⟩
  rw [hr]
  have HV := Lib.hid hr
  clear hr
  have B0 : Blk (w.alloc (.cells (ceA c) 38)) w.heap.size 38 (ceA c) := Blk.new w _ _
  have hb0 : Below w.heap.size w (w.alloc (.cells (ceA c) 38)) := bal (b0 w) _
  have hsn := hI.inn.len
  have h63 := hI.inn.m63
  go_enter Tryz.func29, Tryz.ntmps29
  go_upto_region 2 with (fail)
  generalize w.alloc (.cells (ceA c) 38) = W0 at *
  have c0 : W0.cell? ⟨w.heap.size, 0, none⟩ = some (.slice c.sA c.sn c.sc) := B0.cell 0
  have gl := B0.lt
  go_wp2_with fail
  clear c0 gl
  obtain ⟨f, hf⟩ : ∃ f : Sh → Bool, (fun s => upB s c.ta c.tt c.tn) = f := ⟨_, rfl⟩
  have hff : ∀ s, upB s c.ta c.tt c.tn = f s := fun s => by rw [← hf]
  have hrow0 : ceB c = ((decide (c.ss.length ≤ 8) && (rightB c.ta c.tt c.tn && fitsB c.drop)) && rowB (fun s => shB s && f s) slt c.ss) := by rw [← hf]; rfl
  have HF := Lib.hid hff
  have HR := Lib.hid hrow0
  clear hf hff hrow0
  have HI := Lib.hid hI
  have HT := Lib.hid hT
  clear hI hT
  have H63 := Lib.hid h63
  go_loopw [3, 9] (fun s3 i wr => ∃ k : Nat, s3 = .int .i64 (lastS c.ss k) ∧ i = .int .i64 k ∧ k ≤ c.sn ∧ (∀ j, j < k → stepB (fun s => shB s && f s) slt c.ss j = true) ∧ Below w.heap.size w wr ∧ Blk wr w.heap.size 38 (ceA c)) (fun _ i _ => c.sn - (intOf i).toNat)
  case atStart => exact ⟨0, rfl, rfl, Nat.zero_le _, (fun j hj => absurd hj (Nat.not_lt_zero _)), hb0, B0⟩
  case round =>
    clear hb0 B0
    obtain ⟨k, rfl, rfl, hk, ht, hb, B1⟩ := hrel
    have i0 : (0 : Int) ≤ (k : Int) := by omega
    have HS := Lib.hid ht
    clear ht
    by_cases hlt : k < c.sn
    case pos =>
      have i1 : (k : Int) < (c.sn : Int) := by omega
      have hs0 := step_sh (ss := c.ss) (f := f) (k := k) (by omega)
      have hn0 := lastS_succ (ss := c.ss) (k := k) (by omega)
      have hf := fun (h : stepB (fun s => shB s && f s) slt c.ss k = false) => (rowB_false (ok := (fun s => shB s && f s)) (lt := slt) (l := c.ss) (by omega) h)
      have hok := HI.out.oks (c.ss[k]'(by omega)) (List.getElem_mem (by omega))
      obtain ⟨b, off, hA, hbB, rx⟩ := HI.out.inn.row.at k (by omega)
      obtain ⟨x, hxk⟩ : ∃ x, c.ss[k]'(by omega) = x := ⟨_, rfl⟩
      simp only [hxk] at hs0 hn0 hok rx
      have hrA : c.sA = some ⟨b, off, none⟩ := hA
      have HK := Lib.hid hs0
      have HN := Lib.hid hn0
      have HX := Lib.hid hf
      have HO := Lib.hid hok
      clear hxk hs0 hf hn0 hok hA
      obtain ⟨la, hla⟩ : ∃ la, lastS c.ss k = la := ⟨_, rfl⟩
      have HL := Lib.hid hla
      rw [hla]
      clear hla
      have ry := rng_below rx hb hbB
      have D := OneB.new (T := 30) (cs0 := zsA) hb (shA x)
      have G : Blk (wr.alloc (.cells zsA 30)) wr.heap.size 30 zsA := Blk.new wr _ _
      have hwr := hb.size
      have hlc := B1.lt
      have C1 : ∀ w', w' = (wr.alloc (.cells zsA 30)).setRow wr.heap.size (shA x) → Blk w' w.heap.size 38 (ceA c) := by
        rintro _ rfl
        exact (B1.alloc _).row_far (by omega) _
      rw [hrA]
      go_wp2_with (first | (with_reducible refine wpl_ldr b (off + k * 17) (shC x) ry (by with_unfolding_all rfl) 30 _ (by with_unfolding_all rfl) (by with_unfolding_all rfl) _ Tryz.underlying30 (by with_unfolding_all rfl) (by with_unfolding_all rfl) ?_) | (with_reducible refine wpl_st G (by with_unfolding_all rfl) _ _ _ (by with_unfolding_all rfl) (shA x) (by with_unfolding_all rfl) (by with_unfolding_all rfl) (by with_unfolding_all rfl) (by with_unfolding_all rfl) (by with_unfolding_all rfl) ?_; refine Classical.byContradiction fun hno => ?_))
      refine hno ?_
      clear hno
      intro w1 e1
      have S1 := D w1 e1
      have B2 := C1 w1 e1
      clear e1 D G C1 ry B1 hb hlc
      generalize wr.heap.size = gx at *
      have y0 : w1.cell? ⟨gx, 0, none⟩ = some (.int .i64 x.id) := S1.b.cell 0
      have yl := S1.b.lt
      by_cases h1 : x.id ≤ la
      case pos =>
        have hv : r = false := by rw [← HV.out, HR.out, HX.out (by rw [HK.out, HL.out, decide_eq_false (by omega)]; simp only [Bool.false_and])]; simp
        subst hv
        clear hlt
        go_wp2
        go_ret
        exact ⟨by kernel_rfl, S1.below⟩
      case neg =>
        go_wp2_with (with_reducible refine wpl_ldg S1.b (by with_unfolding_all rfl) 30 _ (by with_unfolding_all rfl) (by with_unfolding_all rfl) _ Tryz.underlying30 (by with_unfolding_all rfl) (by with_unfolding_all rfl) ?_)
        refine (rshard_any x _ (HO.out.kept S1.below) (Utf8Tabs_below HT.out S1.below)).mono ?_
        rintro ex v2 ⟨rfl, d2⟩
        have S2 := S1.call d2
        have B3 := B2.keep d2
        clear d2 S1 B2 y0 yl
        cases hq : shB x
        case false =>
          have HQ := Lib.hid hq
          clear hq
          have hv : r = false := by rw [← HV.out, HR.out, HX.out (by rw [HK.out, HQ.out]; simp only [Bool.false_and, Bool.and_false])]; simp
          subst hv
          clear hlt
          go_wp2
          go_ret
          exact ⟨by kernel_rfl, S2.below⟩
        case true =>
        have HQ := Lib.hid hq
        clear hq
        have y0 : v2.cell? ⟨gx, 0, none⟩ = some (.int .i64 x.id) := S2.b.cell 0
        have yl := S2.b.lt
        have c1 : v2.cell? ⟨w.heap.size, 1, none⟩ = some (.int .i64 c.ta) := B3.cell 1
        have c2 : v2.cell? ⟨w.heap.size, 2, none⟩ = some (.int .i64 c.tt) := B3.cell 2
        have c3 : v2.cell? ⟨w.heap.size, 3, none⟩ = some (.int .i64 c.tn) := B3.cell 3
        have cl := B3.lt
        go_wp2_with (with_reducible refine wpl_ldg S2.b (by with_unfolding_all rfl) 30 _ (by with_unfolding_all rfl) (by with_unfolding_all rfl) _ Tryz.underlying30 (by with_unfolding_all rfl) (by with_unfolding_all rfl) ?_)
        refine (upto_any x c.ta c.tt c.tn _ (HO.out.kept S2.below).inn (shB_ix HQ.out)).mono ?_
        rintro ex v3 ⟨rfl, d3⟩
        rw [HF.out]
        have S3 := S2.call d3
        have B4 := B3.keep d3
        clear d3 S2 B3 y0 yl c1 c2 c3 cl
        cases hq2 : f x
        case false =>
          have HQ2 := Lib.hid hq2
          clear hq2
          have hv : r = false := by rw [← HV.out, HR.out, HX.out (by rw [HK.out, HQ2.out]; simp only [Bool.and_false])]; simp
          subst hv
          clear hlt
          go_wp2
          go_ret
          exact ⟨by kernel_rfl, S3.below⟩
        case true =>
        have HQ2 := Lib.hid hq2
        clear hq2
        have y0 : v3.cell? ⟨gx, 0, none⟩ = some (.int .i64 x.id) := S3.b.cell 0
        have yl := S3.b.lt
        go_wp2_with fail
        go_roundw
        case rel => exact ⟨k + 1, by rw [HN.out], by go_num, by omega, steps_succ HS.out (by rw [HK.out, HL.out, HQ.out, HQ2.out]; simp; omega), S3.below, B4⟩
        case measure => simp [intOf]; omega
    case neg =>
      have hke : k = c.sn := by omega
      have hrow : rowB (fun s => shB s && f s) slt c.ss = true := rowB_true (by rw [hsn, ← hke]; exact HS.out)
      have hv : r = (decide (c.sn ≤ 8) && (rightB c.ta c.tt c.tn && fitsB c.drop)) := by rw [← HV.out, HR.out, hrow, hsn, Bool.and_true]
      have HV2 := Lib.hid hv
      clear hrow hv HV
      have c0 : wr.cell? ⟨w.heap.size, 0, none⟩ = some (.slice c.sA c.sn c.sc) := B1.cell 0
      have c1 : wr.cell? ⟨w.heap.size, 1, none⟩ = some (.int .i64 c.ta) := B1.cell 1
      have c2 : wr.cell? ⟨w.heap.size, 2, none⟩ = some (.int .i64 c.tt) := B1.cell 2
      have c3 : wr.cell? ⟨w.heap.size, 3, none⟩ = some (.int .i64 c.tn) := B1.cell 3
      have cl := B1.lt
      by_cases h8 : c.sn ≤ 8
      case neg =>
        have h9 : ¬ (c.sn : Int) ≤ 8 := by omega
        have hv : r = false := by rw [HV2.out]; simp [h8]
        subst hv
        clear hlt h8
        go_wp2
        go_ret
        exact ⟨by kernel_rfl, hb⟩
      case pos =>
      have h9 : (c.sn : Int) ≤ 8 := by omega
      clear hlt
      go_wp2_with fail
      refine (right_any c.ta c.tt c.tn _).mono ?_
      rintro ex v2 ⟨rfl, d2⟩
      have B2 := B1.keep d2
      have hb2 := bt hb d2
      clear d2 B1 hb c0 c1 c2 c3 cl
      cases hq : rightB c.ta c.tt c.tn
      case false =>
        have hv : r = false := by rw [HV2.out, hq]; simp
        subst hv
        clear hq
        go_wp2
        go_ret
        exact ⟨by kernel_rfl, hb2⟩
      case true =>
      have HQ := Lib.hid hq
      clear hq
      have c4 : v2.cell? ⟨w.heap.size, 4, none⟩ = some (.int .i64 c.drop) := B2.cell 4
      have cl := B2.lt
      go_wp2_with fail
      refine (from_lit 0 [c.drop] 1 rfl (by omega) v2 w.heap.size cl).mono ?_
      rintro ex v3 ⟨rfl, d3⟩
      rw [any_nought1]
      have hb3 := bt hb2 d3
      clear d3 B2 hb2 c4 cl
      obtain ⟨q, hq⟩ : ∃ q, fitsB c.drop = q := ⟨_, rfl⟩
      rw [hq]
      have hv : r = q := by rw [HV2.out, HQ.out, hq, decide_eq_true h8]; simp
      subst hv
      clear hq HV2
      cases r
      case false =>
        go_wp2
        go_ret
        exact ⟨by kernel_rfl, hb3⟩
      case true =>
        go_wp2
        go_ret
        exact ⟨by kernel_rfl, hb3⟩
end Go.Proofs.YtkoligiilieboaaGreatDoor
