/- The walk of the law TapeArms. -/
import Derived.Test.YtbekiimgbpmomaaLaw12c
import Derived.Deep.RegionHeld3
import Derived.Deep.DrawnRows
import Derived.Deep.DeepCutAuto
import Derived.Deep.QuietTactic
import Derived.BigQuiet
import Derived.StillTailTactics
namespace Go.Proofs.Ytbekiimgbpmomaa
open Go.RowKit
attribute [local go_sem] ByteArray.mk_append_mk ByteArray.extract_mk
attribute [local go_sem ↓] Go.wp_at_zero Go.wp_at_succ
def ArmsRel (xs : List Ac) (w : World) (g N : Nat) (d i : Value) (wr : World) : Prop :=
  ∃ (k m : Nat) (t : Tp), i = .int .i64 k ∧ d = .int .i64 m ∧ k ≤ xs.length ∧ k ≤ 40 ∧ ArmInv N m t ∧ t.f.length + t.lo.length ≤ 100 * k ∧ m ≤ k ∧ Blk wr g 25 (tapeA t) ∧ Below w.heap.size w wr
set_option maxHeartbeats 1600000 in
set_option maxRecDepth 100000 in
theorem tapeArms_walk (y : Int) (hy : (Lit.int .i64 y).wf = true) (A : Option Addr) (n cap : Nat) (xs : List Ac) (hn : xs.length = n) (hmax : n ≤ 9223372036854775807) (_hcap : n ≤ cap) (hok : ∀ x ∈ xs, acOk x) (w : World) (hR : RdR acC 3 w w.heap.size A xs) :
    Calls Try.prog 6 #[.int .i64 y, .slice A n cap] w fun e w' => e = .returned (.bool true) ∧ Below w.heap.size w w' := by
  subst hn
  by_cases hyr : 0 ≤ y ∧ y ≤ 40
  case neg =>
    clear hy
    by_cases hy0 : y < 0
    all_goals
      have hy40 : y < 0 ∨ 40 < y := by omega
      clear hyr
      try (have hy41 : 40 < y := by omega)
      clear hy40
      go_enter Try.func6, Try.ntmps6
      go_wp2_with fail
      refine (awake12 _).mono ?_
      rintro e w1 ⟨rfl, hb1⟩
      go_wp2
      go_ret
      exact ⟨rfl, hb1⟩
  case pos =>
  obtain ⟨hy0, hy1⟩ := hyr
  clear hy
  obtain ⟨N, rfl⟩ := Int.eq_ofNat_of_zero_le hy0
  have hN : N ≤ 40 := by omega
  have has := arm_start N hN
  obtain ⟨⟨f0, l0, n0, a0, d0⟩, hA0⟩ : ∃ x : Tp, armT ⟨[], [], 0, false, false⟩ N = x := ⟨_, rfl⟩
  have hfl : f0 = [] ∧ l0 = [] := by
    have h := hA0
    unfold armT at h
    simp [rightTp] at h
    exact ⟨h.1, h.2.1⟩
  obtain ⟨rfl, rfl⟩ := hfl
  rw [hA0] at has
  have HA0 := Lib.hid hA0
  have HAS := Lib.hid has
  clear hA0 has
  go_enter Try.func6, Try.ntmps6
  go_wp2_with fail
  refine (arm_any [] [] 0 false false (by simp) (by simp) N ⟨by omega, by omega⟩ _).mono ?_
  rintro e w0 ⟨rfl, hb0⟩
  rw [HA0.out]
  simp only [tapeV]
  go_wp2
  go_loopw [6, 7] (fun d i wr => ArmsRel xs w w0.heap.size N d i wr) (fun _ i _ => xs.length - (intOf i).toNat)
  case atStart => exact ⟨0, 0, ⟨[], [], n0, a0, d0⟩, rfl, rfl, Nat.zero_le _, by omega, HAS.out, by simp, by omega, Blk.new _ _ _, bal hb0 _⟩
  case round =>
    obtain ⟨k, m, ⟨f, lo, n, ar, dn⟩, rfl, rfl, hk, hk40, hinv, hsz, hmk, hB, hb⟩ := hrel
    have hr := hinv.1
    have hmN := hinv.2.2.1
    obtain ⟨hfl, hll⟩ := right_len _ hr
    simp only at hfl hll hsz
    have HR := Lib.hid hr
    have HI := Lib.hid hinv
    clear hr hinv
    obtain ⟨lt, t0, t1, t2, t3, t4, z0, z1, z2, z3, z4⟩ := hB.c5
    have hbs := hb.size
    have hgs : w.heap.size ≤ w0.heap.size := hb0.size
    by_cases hlt : k < xs.length ∧ k < 40
    · obtain ⟨hlt, h40⟩ := hlt
      obtain ⟨b, off, rfl, hbB, hc⟩ := hR (by omega)
      have hox := hok xs[k] (List.getElem_mem hlt)
      have hcx := hc k hlt
      obtain ⟨⟨kd, kn, s⟩, hx⟩ : ∃ x, xs[k] = x := ⟨_, rfl⟩
      rw [hx] at hox hcx
      obtain ⟨_, hkn, hs63⟩ := hox
      simp only at hkn hs63
      have a0 : wr.cell? ⟨b, off + k * 3, none⟩ = some (.int .i64 kd) := (hb.cell (p := ⟨b, _, none⟩) hbB).trans (hcx 0 _ rfl)
      have a1 : wr.cell? ⟨b, off + k * 3 + 1, none⟩ = some (.int .i64 kn) := (hb.cell (p := ⟨b, _, none⟩) hbB).trans (hcx 1 _ rfl)
      have a2 : wr.cell? ⟨b, off + k * 3 + 2, none⟩ = some (.string ⟨s.toArray⟩) := (hb.cell (p := ⟨b, _, none⟩) hbB).trans (hcx 2 _ rfl)
      clear hcx hc hx
      have i0 : (0 : Int) ≤ (k : Int) := by omega
      have i1 : (k : Int) < (xs.length : Int) := by omega
      obtain ⟨v, hv, hv5⟩ := kind_ex kd
      by_cases hskip : v ≤ 2 ∧ s.length ≤ 100
      case neg =>
        by_cases hv2 : v ≤ 2
        all_goals
          try (have hs100 : (100 : Int) < s.length := by omega)
          clear hskip
          go_wp2
          go_roundw
          case rel => exact ⟨k + 1, m, ⟨f, lo, n, ar, dn⟩, by go_num, rfl, by omega, by omega, HI.out, by simp only; omega, by omega, hB, hb⟩
          case measure => simp [intOf]; omega
      case pos =>
        obtain ⟨hv2, hs100⟩ := hskip
        obtain ⟨⟨⟨f', lo', n', ar', dn'⟩, e'⟩, hE⟩ : ∃ x : Tp × Nat, actT ⟨f, lo, n, ar, dn⟩ v kn s = x := ⟨_, rfl⟩
        obtain ⟨hsz', hcase⟩ := arm_act N m _ _ v kn s e' (100 * k) HI.out hv2 hsz (by omega) hE
        simp only at hsz'
        have HE := Lib.hid hE
        have HC := Lib.hid hcase
        clear hE hcase
        have hltb : b < wr.heap.size := by omega
        have HS : ∀ w', Below wr.heap.size wr w' → (Below wr.heap.size wr w' ∧ w'.cell? ⟨w0.heap.size, 0, none⟩ = some (.string ⟨f.toArray⟩) ∧ w'.cell? ⟨w0.heap.size, 1, none⟩ = some (.string ⟨lo.toArray⟩) ∧ w'.cell? ⟨w0.heap.size, 2, none⟩ = some (.int .i64 n) ∧ w'.cell? ⟨w0.heap.size, 3, none⟩ = some (.bool ar) ∧ w'.cell? ⟨w0.heap.size, 4, none⟩ = some (.bool dn) ∧ w'.cell? ⟨b, off + k * 3, none⟩ = some (.int .i64 kd) ∧ w'.cell? ⟨b, off + k * 3 + 1, none⟩ = some (.int .i64 kn) ∧ w'.cell? ⟨b, off + k * 3 + 2, none⟩ = some (.string ⟨s.toArray⟩)) := fun w' h => by
          obtain ⟨hc, _⟩ := bcell h
          exact ⟨h, by rw [hc _ _ lt]; exact t0, by rw [hc _ _ lt]; exact t1, by rw [hc _ _ lt]; exact t2, by rw [hc _ _ lt]; exact t3, by rw [hc _ _ lt]; exact t4, by rw [hc _ _ hltb]; exact a0, by rw [hc _ _ hltb]; exact a1, by rw [hc _ _ hltb]; exact a2⟩
        go_upto_region 10 with (fail)
        go_cut [9, 10] (fun s5 s6 wx => FirmCut wr ⟨f', lo', n', ar', dn'⟩ e' s5 s6 wx)
        case first =>
          have HM := Lib.hid hv
          clear hv
          go_region_held3 (fun w' => Below wr.heap.size wr w' ∧ w'.cell? ⟨w0.heap.size, 0, none⟩ = some (.string ⟨f.toArray⟩) ∧ w'.cell? ⟨w0.heap.size, 1, none⟩ = some (.string ⟨lo.toArray⟩) ∧ w'.cell? ⟨w0.heap.size, 2, none⟩ = some (.int .i64 n) ∧ w'.cell? ⟨w0.heap.size, 3, none⟩ = some (.bool ar) ∧ w'.cell? ⟨w0.heap.size, 4, none⟩ = some (.bool dn) ∧ w'.cell? ⟨b, off + k * 3, none⟩ = some (.int .i64 kd) ∧ w'.cell? ⟨b, off + k * 3 + 1, none⟩ = some (.int .i64 kn) ∧ w'.cell? ⟨b, off + k * 3 + 2, none⟩ = some (.string ⟨s.toArray⟩)) (first | with_reducible assumption | (refine HS _ ?_; (repeat (first | with_reducible exact b0 _ | with_reducible assumption | with_reducible refine Below.drew ?_ | with_reducible refine below_drewN ?_ _ | with_reducible refine bal ?_ _ | ((with_reducible refine bst ?_ ?_ _); rotate_left; focus (first | exact Nat.le_refl _ | assumption | (simp; done) | (simp; omega) | omega)) | exact below_left (by with_reducible assumption))))) (first
            | (go_at_call 15; refine (act_any f lo n ar dn hfl hll kd kn s v HM.out hv5 hkn (by omega) _).mono ?_; rintro e w1 ⟨rfl, hb1⟩; rw [HE.out]; simp only [tapeV]; obtain ⟨hc1, hf1⟩ := bcell hb1; have hB1 : Below wr.heap.size wr w1 := (by refine bt ?_ hb1; (repeat (first | with_reducible exact b0 _ | with_reducible assumption | with_reducible refine Below.drew ?_ | with_reducible refine below_drewN ?_ _ | with_reducible refine bal ?_ _ | ((with_reducible refine bst ?_ ?_ _); rotate_left; focus (first | exact Nat.le_refl _ | assumption | (simp; done) | (simp; omega) | omega)) | exact below_left (by with_reducible assumption)))); have hz1 := hB1.size; have hk := HS w1 hB1))
          all_goals
            go_wp2_with fail
            go_meet
            case rel =>
              first
                | (refine ⟨w1.heap.size, (by with_reducible rfl), rfl, hz1, (by (repeat (first | (with_reducible assumption) | (with_reducible refine Blk.drew ?_) | (with_reducible refine Blk.drewN ?_ _) | (with_reducible exact Blk.new _ _ _) | (with_reducible refine Blk.alloc ?_ _)))), (by (repeat (first | with_reducible exact b0 _ | with_reducible assumption | with_reducible refine Below.drew ?_ | with_reducible refine below_drewN ?_ _ | with_reducible refine bal ?_ _ | ((with_reducible refine bst ?_ ?_ _); rotate_left; focus (first | exact Nat.le_refl _ | assumption | (simp; done) | (simp; omega) | omega)) | exact below_left (by with_reducible assumption))))⟩)
                | (refine ⟨wr.heap.size, (by with_reducible rfl), rfl, Nat.le_refl _, blk_put5 ((Blk.new wr 25 #[.string ⟨#[]⟩, .string ⟨#[]⟩, .int .i64 0, .bool false, .bool false]).drew.keep hb1), (by (repeat (first | with_reducible exact b0 _ | with_reducible assumption | with_reducible refine Below.drew ?_ | with_reducible refine below_drewN ?_ _ | with_reducible refine bal ?_ _ | ((with_reducible refine bst ?_ ?_ _); rotate_left; focus (first | exact Nat.le_refl _ | assumption | (simp; done) | (simp; omega) | omega)) | exact below_left (by with_reducible assumption))))⟩)
        case rest =>
          obtain ⟨g, rfl, rfl, hg, hBu, hbx⟩ := hcut
          have hBt := hB.below hbx lt
          have hbw : Below w.heap.size w wc := bt hb hbx
          clear t0 t1 t2 t3 t4 z0 z1 z2 z3 z4 HS
          obtain ⟨lt2, t0, t1, t2, t3, t4, z0, z1, z2, z3, z4⟩ := hBt.c5
          obtain ⟨lu, u0, u1, u2, u3, u4, y0, y1, y2, y3, y4⟩ := hBu.c5
          clear a0 a1 a2
          rcases HC.out with ⟨rfl, hdn, hinv⟩ | ⟨rfl, hdn, rfl, hinv⟩
          · have hm1 := hinv.2.2.1
            simp only at hdn
            subst hdn
            have HJ := Lib.hid hinv
            clear hinv
            go_wp2
            go_roundw
            case rel => exact ⟨k + 1, m + 1, ⟨f', lo', n', ar', false⟩, by go_num, by go_num, by omega, by omega, HJ.out, by simp only; omega, by omega, (by (with_reducible refine blk_put5 (c0 := .string ⟨f.toArray⟩) (c1 := .string ⟨lo.toArray⟩) (c2 := .int .i64 n) (c3 := .bool ar) (c4 := .bool dn) ?_); exact hBt), (by (repeat (first | with_reducible exact b0 _ | with_reducible assumption | with_reducible refine Below.drew ?_ | with_reducible refine below_drewN ?_ _ | with_reducible refine bal ?_ _ | ((with_reducible refine bst ?_ ?_ _); rotate_left; focus (first | exact Nat.le_refl _ | assumption | (simp; done) | (simp; omega) | omega)) | exact below_left (by with_reducible assumption))))⟩
            case measure => simp [intOf]; omega
          · simp only at hdn
            subst hdn
            have HJ := Lib.hid hinv
            clear hinv
            go_wp2
            go_roundw
            case rel => exact ⟨k + 1, m, ⟨f', lo', n', ar', true⟩, by go_num, by go_num, by omega, by omega, HJ.out, by simp only; omega, by omega, (by (with_reducible refine blk_put5 (c0 := .string ⟨f.toArray⟩) (c1 := .string ⟨lo.toArray⟩) (c2 := .int .i64 n) (c3 := .bool ar) (c4 := .bool dn) ?_); exact hBt), (by (repeat (first | with_reducible exact b0 _ | with_reducible assumption | with_reducible refine Below.drew ?_ | with_reducible refine below_drewN ?_ _ | with_reducible refine bal ?_ _ | ((with_reducible refine bst ?_ ?_ _); rotate_left; focus (first | exact Nat.le_refl _ | assumption | (simp; done) | (simp; omega) | omega)) | exact below_left (by with_reducible assumption))))⟩
            case measure => simp [intOf]; omega
    · have hcr := crash_right _ 0 HR.out
      have hcs := crash_sync _ HR.out
      obtain ⟨⟨fc, lc, nc, ac, dc⟩, hC⟩ : ∃ x : Tp, crashT ⟨f, lo, n, ar, dn⟩ 0 = x := ⟨_, rfl⟩
      rw [hC] at hcr hcs
      obtain ⟨hfl', hll'⟩ := right_len _ hcr
      simp only at hfl' hll'
      obtain ⟨⟨⟨fs, ls, ns, as', ds⟩, es⟩, hY⟩ : ∃ x : Tp × Nat, syncT ⟨fc, lc, nc, ac, dc⟩ = x := ⟨_, rfl⟩
      rw [hY] at hcs
      simp only at hcs
      subst hcs
      have HC := Lib.hid hC
      have HY := Lib.hid hY
      clear hC hcr hY
      by_cases hlt2 : k < xs.length
      all_goals
        go_wp2_with fail
        refine (crash_any f lo n ar dn hfl hll 0 ⟨by omega, by omega⟩ _).mono ?_
        rintro e w1 ⟨rfl, hb1⟩
        rw [HC.out]
        simp only [tapeV]
        have hBt := hB.keep hb1
        have hbw : Below w.heap.size w w1 := bt hb hb1
        clear t0 t1 t2 t3 t4 z0 z1 z2 z3 z4
        obtain ⟨lt2, t0, t1, t2, t3, t4, z0, z1, z2, z3, z4⟩ := hBt.c5
        go_wp2_with fail
        refine (sync_any fc lc nc ac dc hfl' hll' _).mono ?_
        rintro e w2 ⟨rfl, hb2⟩
        rw [HY.out]
        simp only [tapeV]
        have hbw2 : Below w.heap.size w w2 := (by refine bt ?_ hb2; (repeat (first | with_reducible exact b0 _ | with_reducible assumption | with_reducible refine Below.drew ?_ | with_reducible refine below_drewN ?_ _ | with_reducible refine bal ?_ _ | ((with_reducible refine bst ?_ ?_ _); rotate_left; focus (first | exact Nat.le_refl _ | assumption | (simp; done) | (simp; omega) | omega)) | exact below_left (by with_reducible assumption))))
        go_wp2_with fail
        refine (awake12 _).mono ?_
        rintro e w3 ⟨rfl, hb3⟩
        go_wp2
        go_ret
        exact ⟨rfl, (by refine bt ?_ hb3; (repeat (first | with_reducible exact b0 _ | with_reducible assumption | with_reducible refine Below.drew ?_ | with_reducible refine below_drewN ?_ _ | with_reducible refine bal ?_ _ | ((with_reducible refine bst ?_ ?_ _); rotate_left; focus (first | exact Nat.le_refl _ | assumption | (simp; done) | (simp; omega) | omega)) | exact below_left (by with_reducible assumption))))⟩
end Go.Proofs.Ytbekiimgbpmomaa
