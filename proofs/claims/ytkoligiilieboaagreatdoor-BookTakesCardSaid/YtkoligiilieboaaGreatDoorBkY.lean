/- dedup.Right: whether a table is right. -/
import Derived.Test.YtkoligiilieboaaGreatDoorRgt2
set_option linter.unusedSimpArgs false
set_option linter.unusedVariables false
namespace Go.Proofs.YtkoligiilieboaaGreatDoor
open Go.RowKit
attribute [local go_sem] ByteArray.mk_append_mk ByteArray.extract_mk
attribute [local go_sem ↓] Go.wp_at_zero Go.wp_at_succ
abbrev dnA (d : Dn) : Array Value := #[.int .i64 d.cl, .int .i64 d.rq, .int .i64 d.ans.er, .int .i64 d.ans.a, .int .i64 d.ans.t, .int .i64 d.ans.n, .bool d.ans.fd, .string ⟨d.ans.vl.toArray⟩, .slice d.ans.itA d.ans.itn d.ans.itc, .string ⟨d.ans.nx.toArray⟩, .bool d.ans.mo]
abbrev zdA : Array Value := #[.int .i64 0, .int .i64 0, .int .i64 0, .int .i64 0, .int .i64 0, .int .i64 0, .bool false, .string ⟨#[]⟩, .slice none 0 0, .string ⟨#[]⟩, .bool false]
def lastD (ds : List Dn) (k : Nat) : Int :=
  match k with
  | 0 => 0
  | j + 1 => match ds[j]? with
    | none => 0
    | some d => d.cl
theorem lastD_succ {ds : List Dn} {k : Nat} (h : k < ds.length) : lastD ds (k + 1) = ds[k].cl := by simp [lastD, h]
theorem step_dn {ds : List Dn} {k : Nat} (h : k < ds.length) : stepB dnB dlt ds k = (decide (lastD ds k < ds[k].cl) && dnB ds[k]) := by
  cases k with
  | zero =>
    rw [stepB_zero h]
    cases hd : dnB ds[0]
    · simp
    · have : oneB ds[0].cl = true := by unfold dnB at hd; exact (Bool.and_eq_true_iff.1 hd).1
      have h1 : 1 ≤ ds[0].cl := by unfold oneB at this; simp at this; exact this.1
      have : lastD ds 0 < ds[0].cl := by show (0 : Int) < _; omega
      simp [this]
  | succ k =>
    rw [stepB_succ h, lastD_succ (by omega), Bool.and_comm]
    rfl
set_option maxHeartbeats 12800000 in
set_option maxRecDepth 100000 in
theorem ddright_any (A : Option Addr) (n c : Nat) (xs : List Dn) (hx : xs.length = n) (hm : n ≤ 9223372036854775807) (w : World) (hR : RdR dnC 11 w w.heap.size A xs) :
    Calls Tryz.prog 65 #[.slice A n c] w fun e w' => e = .returned (.bool (ddB xs)) ∧ Below w.heap.size w w' := by
  obtain ⟨r, hr⟩ : ∃ r, ddB xs = r := ⟨_, rfl⟩
  rw [hr]
  have HV := Lib.hid hr
  clear hr
  go_enter Tryz.func65, Tryz.ntmps65
  go_wp2_with fail
  go_loopw [3, 8] (fun s3 i wr => ∃ k : Nat, s3 = .int .i64 (lastD xs k) ∧ i = .int .i64 k ∧ k ≤ n ∧ (∀ j, j < k → stepB dnB dlt xs j = true) ∧ Below w.heap.size w wr) (fun _ i _ => n - (intOf i).toNat)
  case atStart => exact ⟨0, rfl, rfl, Nat.zero_le _, (fun j hj => absurd hj (Nat.not_lt_zero _)), Below.refl _ _⟩
  case round =>
    obtain ⟨k, rfl, rfl, hk, ht, hb⟩ := hrel
    have i0 : (0 : Int) ≤ (k : Int) := by omega
    have HT := Lib.hid ht
    clear ht
    by_cases hlt : k < n
    case pos =>
      have i1 : (k : Int) < (n : Int) := by omega
      have hs0 := step_dn (ds := xs) (k := k) (by omega)
      have hn0 := lastD_succ (ds := xs) (k := k) (by omega)
      have hf := fun (h : stepB dnB dlt xs k = false) => (rowB_false (ok := dnB) (lt := dlt) (l := xs) (by omega) h)
      obtain ⟨b, off, rfl, hbB, rx⟩ := rowc hR k (by omega)
      obtain ⟨x, hxk⟩ : ∃ x, xs[k]'(by omega) = x := ⟨_, rfl⟩
      rw [hxk] at rx
      simp only [hxk] at hs0 hn0
      have HS := Lib.hid hs0
      have HN := Lib.hid hn0
      have HF := Lib.hid hf
      clear hxk hs0 hf hn0
      obtain ⟨la, hla⟩ : ∃ la, lastD xs k = la := ⟨_, rfl⟩
      have HL := Lib.hid hla
      rw [hla]
      clear hla
      have x0 : wr.cell? ⟨b, off + k * 11, none⟩ = some (.int .i64 x.cl) := (hb.cell (p := ⟨b, _, none⟩) hbB).trans (rx 0 _ rfl)
      have x1 : wr.cell? ⟨b, off + k * 11 + 1, none⟩ = some (.int .i64 x.rq) := (hb.cell (p := ⟨b, _, none⟩) hbB).trans (rx 1 _ rfl)
      have x2 : wr.cell? ⟨b, off + k * 11 + 2, none⟩ = some (.int .i64 x.ans.er) := (hb.cell (p := ⟨b, _, none⟩) hbB).trans (rx 2 _ rfl)
      have x3 : wr.cell? ⟨b, off + k * 11 + 3, none⟩ = some (.int .i64 x.ans.a) := (hb.cell (p := ⟨b, _, none⟩) hbB).trans (rx 3 _ rfl)
      have x4 : wr.cell? ⟨b, off + k * 11 + 4, none⟩ = some (.int .i64 x.ans.t) := (hb.cell (p := ⟨b, _, none⟩) hbB).trans (rx 4 _ rfl)
      have x5 : wr.cell? ⟨b, off + k * 11 + 5, none⟩ = some (.int .i64 x.ans.n) := (hb.cell (p := ⟨b, _, none⟩) hbB).trans (rx 5 _ rfl)
      have x6 : wr.cell? ⟨b, off + k * 11 + 6, none⟩ = some (.bool x.ans.fd) := (hb.cell (p := ⟨b, _, none⟩) hbB).trans (rx 6 _ rfl)
      have x7 : wr.cell? ⟨b, off + k * 11 + 7, none⟩ = some (.string ⟨x.ans.vl.toArray⟩) := (hb.cell (p := ⟨b, _, none⟩) hbB).trans (rx 7 _ rfl)
      have x8 : wr.cell? ⟨b, off + k * 11 + 8, none⟩ = some (.slice x.ans.itA x.ans.itn x.ans.itc) := (hb.cell (p := ⟨b, _, none⟩) hbB).trans (rx 8 _ rfl)
      have x9 : wr.cell? ⟨b, off + k * 11 + 9, none⟩ = some (.string ⟨x.ans.nx.toArray⟩) := (hb.cell (p := ⟨b, _, none⟩) hbB).trans (rx 9 _ rfl)
      have x10 : wr.cell? ⟨b, off + k * 11 + 10, none⟩ = some (.bool x.ans.mo) := (hb.cell (p := ⟨b, _, none⟩) hbB).trans (rx 10 _ rfl)
      have D := OneB.new (T := 108) (cs0 := zdA) hb (dnA x)
      have G : Blk (wr.alloc (.cells zdA 108)) wr.heap.size 108 zdA := Blk.new wr _ _
      have hwr := hb.size
      go_wp2_with (with_reducible refine wpl_st G (by with_unfolding_all rfl) _ _ _ (by with_unfolding_all rfl) (dnA x) (by with_unfolding_all rfl) (by with_unfolding_all rfl) (by with_unfolding_all rfl) (by with_unfolding_all rfl) (by with_unfolding_all rfl) ?_; refine Classical.byContradiction fun hno => ?_)
      refine hno ?_
      clear hno
      intro w1 e1
      have S1 := D w1 e1
      clear e1 D G x0 x1 x2 x3 x4 x5 x6 x7 x8 x9 x10
      generalize wr.heap.size = gx at *
      have y0 : w1.cell? ⟨gx, 0, none⟩ = some (.int .i64 x.cl) := S1.b.cell 0
      have y1 : w1.cell? ⟨gx, 1, none⟩ = some (.int .i64 x.rq) := S1.b.cell 1
      have y2 : w1.cell? ⟨gx, 2, none⟩ = some (.int .i64 x.ans.er) := S1.b.cell 2
      have y3 : w1.cell? ⟨gx, 3, none⟩ = some (.int .i64 x.ans.a) := S1.b.cell 3
      have y4 : w1.cell? ⟨gx, 4, none⟩ = some (.int .i64 x.ans.t) := S1.b.cell 4
      have y5 : w1.cell? ⟨gx, 5, none⟩ = some (.int .i64 x.ans.n) := S1.b.cell 5
      have y6 : w1.cell? ⟨gx, 6, none⟩ = some (.bool x.ans.fd) := S1.b.cell 6
      have y7 : w1.cell? ⟨gx, 7, none⟩ = some (.string ⟨x.ans.vl.toArray⟩) := S1.b.cell 7
      have y8 : w1.cell? ⟨gx, 8, none⟩ = some (.slice x.ans.itA x.ans.itn x.ans.itc) := S1.b.cell 8
      have y9 : w1.cell? ⟨gx, 9, none⟩ = some (.string ⟨x.ans.nx.toArray⟩) := S1.b.cell 9
      have y10 : w1.cell? ⟨gx, 10, none⟩ = some (.bool x.ans.mo) := S1.b.cell 10
      by_cases h1 : x.cl ≤ la
      case pos =>
        have hv : r = false := by
          rw [← HV.out, ddB, HF.out (by rw [HS.out, HL.out]; simp; intro h; omega)]
          simp
        subst hv
        clear hlt
        go_wp2
        go_ret
        exact ⟨rfl, S1.below⟩
      case neg =>
        go_wp2_with fail
        refine (dnum1_any x.cl _).mono ?_
        rintro e v1 ⟨rfl, rfl⟩
        cases hq1 : oneB x.cl
        case false =>
          have hv : r = false := by
            rw [← HV.out, ddB, HF.out (by rw [HS.out, dnB, hq1]; simp)]
            simp
          subst hv
          clear hq1
          go_wp2
          go_ret
          exact ⟨rfl, S1.below⟩
        case true =>
        have HQ1 := Lib.hid hq1
        clear hq1
        go_wp2_with fail
        refine (dnum1_any x.rq _).mono ?_
        rintro e v2 ⟨rfl, rfl⟩
        cases hq2 : oneB x.rq
        case false =>
          have hv : r = false := by
            rw [← HV.out, ddB, HF.out (by rw [HS.out, dnB, hq2]; simp)]
            simp
          subst hv
          clear hq2
          go_wp2
          go_ret
          exact ⟨rfl, S1.below⟩
        case true =>
        have HQ2 := Lib.hid hq2
        clear hq2
        go_wp2_with fail
        refine (plain_an x.ans _).mono ?_
        rintro e v3 ⟨rfl, d3⟩
        have S3 := S1.call d3
        have z0 : v3.cell? ⟨gx, 0, none⟩ = some (.int .i64 x.cl) := S3.b.cell 0
        clear d3 y0 y1 y2 y3 y4 y5 y6 y7 y8 y9 y10
        cases hq3 : ansB x.ans
        case false =>
          have hv : r = false := by
            rw [← HV.out, ddB, HF.out (by rw [HS.out, dnB, hq3]; simp)]
            simp
          subst hv
          clear hq3
          go_wp2
          go_ret
          exact ⟨rfl, S3.below⟩
        case true =>
        have HQ3 := Lib.hid hq3
        clear hq3
        go_wp2_with fail
        go_roundw
        case rel => exact ⟨k + 1, by rw [HN.out], by go_num, by omega, steps_succ HT.out (by rw [HS.out, HL.out, dnB, HQ1.out, HQ2.out, HQ3.out]; simp; omega), S3.below⟩
        case measure => simp [intOf]; omega
    case neg =>
      have hke : k = n := by omega
      have hrow : rowB dnB dlt xs = true := rowB_true (by rw [hx, ← hke]; exact HT.out)
      have hv : r = decide (n ≤ 8) := by rw [← HV.out, ddB, hrow, hx]; simp
      clear hrow
      by_cases h64 : n ≤ 8
      case pos =>
        have h65 : (n : Int) ≤ 8 := by omega
        have hv2 : r = true := by rw [hv]; simp [h64]
        subst hv2
        clear hv
        go_wp2
        go_ret
        exact ⟨rfl, hb⟩
      case neg =>
        have h65 : ¬ (n : Int) ≤ 8 := by omega
        have hv2 : r = false := by rw [hv]; simp [h64]
        subst hv2
        clear hv
        go_wp2
        go_ret
        exact ⟨rfl, hb⟩
end Go.Proofs.YtkoligiilieboaaGreatDoor
