/- The walk of the law TapeFirm. -/
import Derived.Test.YtbekiimgbpmomaaActW
import Derived.Deep.RegionHeld3
import Derived.Deep.DrawnRows
import Derived.Deep.DeepCutAuto
import Derived.Deep.QuietTactic
import Derived.BigQuiet
import Derived.StillTailTactics
namespace Go.Proofs.Ytbekiimgbpmomaa
open Go.RowKit
attribute [local go_sem] ByteArray.mk_append_mk ByteArray.extract_mk
attribute [local go_sem ↓] Go.wp_at_zero Go.wp_at_succ
abbrev tapeA (t : Tp) : Array Value := #[.string ⟨t.f.toArray⟩, .string ⟨t.lo.toArray⟩, .int .i64 t.n, .bool t.ar, .bool t.dn]
def FirmRel (xs : List Ac) (w : World) (i : Value) (wr : World) : Prop :=
  ∃ (k : Nat) (t : Tp), i = .int .i64 k ∧ k ≤ xs.length ∧ rightTp t = true ∧ Blk wr w.heap.size 25 (tapeA t) ∧ Below w.heap.size w wr
def FirmCut (wr : World) (u : Tp) (e : Nat) (s5 s6 : Value) (wx : World) : Prop :=
  ∃ g, s5 = .pointer (some ⟨g, 0, none⟩) ∧ s6 = .int .i64 e ∧ wr.heap.size ≤ g ∧ Blk wx g 25 (tapeA u) ∧ Below wr.heap.size wr wx
theorem below_left {B : Nat} {w w' : World} {q : Prop} (h : Below B w w' ∧ q) : Below B w w' := h.1
theorem right_len (t : Tp) (h : rightTp t = true) : t.f.length ≤ 140737488351232 ∧ t.lo.length ≤ 140737488351232 := by
  have := (right_parts t h).1
  omega
theorem kind_ex (kd : Int) : ∃ m : Nat, (IntKind.u64.wrap kd).tmod 5 = (m : Int) ∧ m < 5 := by
  have h : 0 ≤ IntKind.u64.wrap kd := by rw [IntKind.wrap_u64]; omega
  refine ⟨((IntKind.u64.wrap kd) % 5).toNat, ?_, by omega⟩
  rw [Int.tmod_eq_emod_of_nonneg h]
  omega
theorem blk_put5 {w : World} {g : Nat} {t : TypeId} {c0 c1 c2 c3 c4 u0 u1 u2 u3 u4 : Value} (h : Blk w g t #[c0, c1, c2, c3, c4]) :
    Blk (((((w.setCell ⟨g, 0, none⟩ u0).setCell ⟨g, 1, none⟩ u1).setCell ⟨g, 2, none⟩ u2).setCell ⟨g, 3, none⟩ u3).setCell ⟨g, 4, none⟩ u4) g t #[u0, u1, u2, u3, u4] := by
  have h5 := ((((h.set 0 u0).set 1 u1).set 2 u2).set 3 u3).set 4 u4
  simpa using h5
set_option maxHeartbeats 1600000 in
set_option maxRecDepth 100000 in
theorem tapeFirm_walk (A : Option Addr) (n cap : Nat) (xs : List Ac) (hn : xs.length = n) (hmax : n ≤ 9223372036854775807) (_hcap : n ≤ cap) (hok : ∀ x ∈ xs, acOk x) (w : World) (hR : RdR acC 3 w w.heap.size A xs) :
    Calls Try.prog 5 #[.slice A n cap] w fun e w' => e = .returned (.bool true) ∧ Below w.heap.size w w' := by
  subst hn
  go_enter Try.func5, Try.ntmps5
  go_wp2
  go_loopw [4] (fun i wr => FirmRel xs w i wr) (fun i _ => xs.length - (intOf i).toNat)
  case atStart => exact ⟨0, ⟨[], [], 0, false, false⟩, rfl, Nat.zero_le _, by decide, Blk.new _ _ _, bal (b0 w) _⟩
  case round =>
    obtain ⟨k, ⟨f, lo, n, ar, dn⟩, rfl, hk, hr, hB, hb⟩ := hrel
    obtain ⟨hfl, hll⟩ := right_len _ hr
    have hsum := (right_parts _ hr).1
    simp only at hfl hll hsum
    have HR := Lib.hid hr
    clear hr
    obtain ⟨lt, t0, t1, t2, t3, t4, z0, z1, z2, z3, z4⟩ := hB.c5
    have hbs := hb.size
    by_cases hlt : k < xs.length ∧ k < 40
    · obtain ⟨hlt, h40⟩ := hlt
      obtain ⟨b, off, rfl, hbB, hc⟩ := hR (by omega)
      have hox := hok xs[k] (List.getElem_mem hlt)
      have hcx := hc k hlt
      obtain ⟨⟨kd, kn, s⟩, hx⟩ : ∃ x, xs[k] = x := ⟨_, rfl⟩
      rw [hx] at hox hcx
      obtain ⟨_, hkn, hs63⟩ := hox
      simp only at hkn hs63
      have a0 : wr.cell? ⟨b, off + k * 3, none⟩ = some (.int .i64 kd) := (hb.cell (p := ⟨b, _, none⟩) hbB).trans (hcx 0 _ rfl)
      have a1 : wr.cell? ⟨b, off + k * 3 + 1, none⟩ = some (.int .i64 kn) := (hb.cell (p := ⟨b, _, none⟩) hbB).trans (hcx 1 _ rfl)
      have a2 : wr.cell? ⟨b, off + k * 3 + 2, none⟩ = some (.string ⟨s.toArray⟩) := (hb.cell (p := ⟨b, _, none⟩) hbB).trans (hcx 2 _ rfl)
      clear hcx hc hx
      have i0 : (0 : Int) ≤ (k : Int) := by omega
      have i1 : (k : Int) < (xs.length : Int) := by omega
      by_cases h100 : 100 < s.length
      · go_wp2_with fail
        refine (awake12 _).mono ?_
        rintro e w1 ⟨rfl, hb1⟩
        go_wp2
        go_ret
        exact ⟨rfl, bt hb hb1⟩
      · obtain ⟨m, hm, hm5⟩ := kind_ex kd
        obtain ⟨⟨⟨f', lo', n', ar', dn'⟩, e'⟩, hE⟩ : ∃ x : Tp × Nat, actT ⟨f, lo, n, ar, dn⟩ m kn s = x := ⟨_, rfl⟩
        obtain ⟨hr', hl1, hl2, hkd4⟩ := firm_act _ _ _ _ _ _ HR.out hE
        obtain ⟨hfl', hll'⟩ := right_len _ hr'
        simp only at hl1 hl2 hkd4 hfl' hll'
        have HE := Lib.hid hE
        have HR' := Lib.hid hr'
        have HL2 := Lib.hid hl2
        have HK4 := Lib.hid hkd4
        have HM := Lib.hid hm
        clear hE hr' hl2 hkd4 hm
        have hltb : b < wr.heap.size := by omega
        have HS : ∀ w', Below wr.heap.size wr w' → (Below wr.heap.size wr w' ∧ w'.cell? ⟨w.heap.size, 0, none⟩ = some (.string ⟨f.toArray⟩) ∧ w'.cell? ⟨w.heap.size, 1, none⟩ = some (.string ⟨lo.toArray⟩) ∧ w'.cell? ⟨w.heap.size, 2, none⟩ = some (.int .i64 n) ∧ w'.cell? ⟨w.heap.size, 3, none⟩ = some (.bool ar) ∧ w'.cell? ⟨w.heap.size, 4, none⟩ = some (.bool dn) ∧ w'.cell? ⟨b, off + k * 3, none⟩ = some (.int .i64 kd) ∧ w'.cell? ⟨b, off + k * 3 + 1, none⟩ = some (.int .i64 kn) ∧ w'.cell? ⟨b, off + k * 3 + 2, none⟩ = some (.string ⟨s.toArray⟩)) := fun w' h => by
          obtain ⟨hc, _⟩ := bcell h
          exact ⟨h, by rw [hc _ _ lt]; exact t0, by rw [hc _ _ lt]; exact t1, by rw [hc _ _ lt]; exact t2, by rw [hc _ _ lt]; exact t3, by rw [hc _ _ lt]; exact t4, by rw [hc _ _ hltb]; exact a0, by rw [hc _ _ hltb]; exact a1, by rw [hc _ _ hltb]; exact a2⟩
        go_upto_region 7 with (fail)
        go_cut [5, 6] (fun s5 s6 wx => FirmCut wr ⟨f', lo', n', ar', dn'⟩ e' s5 s6 wx)
        case first =>
          go_region_held3 (fun w' => Below wr.heap.size wr w' ∧ w'.cell? ⟨w.heap.size, 0, none⟩ = some (.string ⟨f.toArray⟩) ∧ w'.cell? ⟨w.heap.size, 1, none⟩ = some (.string ⟨lo.toArray⟩) ∧ w'.cell? ⟨w.heap.size, 2, none⟩ = some (.int .i64 n) ∧ w'.cell? ⟨w.heap.size, 3, none⟩ = some (.bool ar) ∧ w'.cell? ⟨w.heap.size, 4, none⟩ = some (.bool dn) ∧ w'.cell? ⟨b, off + k * 3, none⟩ = some (.int .i64 kd) ∧ w'.cell? ⟨b, off + k * 3 + 1, none⟩ = some (.int .i64 kn) ∧ w'.cell? ⟨b, off + k * 3 + 2, none⟩ = some (.string ⟨s.toArray⟩)) (first | with_reducible assumption | (refine HS _ ?_; (repeat (first | with_reducible exact b0 _ | with_reducible assumption | with_reducible refine Below.drew ?_ | with_reducible refine below_drewN ?_ _ | with_reducible refine bal ?_ _ | ((with_reducible refine bst ?_ ?_ _); rotate_left; focus (first | exact Nat.le_refl _ | assumption | (simp; done) | (simp; omega) | omega)) | exact below_left (by with_reducible assumption))))) (first
            | (go_at_call 15; refine (act_any f lo n ar dn hfl hll kd kn s m HM.out hm5 hkn (by omega) _).mono ?_; rintro e w1 ⟨rfl, hb1⟩; rw [HE.out]; simp only [tapeV]; obtain ⟨hc1, hf1⟩ := bcell hb1; have hB1 : Below wr.heap.size wr w1 := (by refine bt ?_ hb1; (repeat (first | with_reducible exact b0 _ | with_reducible assumption | with_reducible refine Below.drew ?_ | with_reducible refine below_drewN ?_ _ | with_reducible refine bal ?_ _ | ((with_reducible refine bst ?_ ?_ _); rotate_left; focus (first | exact Nat.le_refl _ | assumption | (simp; done) | (simp; omega) | omega)) | exact below_left (by with_reducible assumption)))); have hz1 := hB1.size; have hk := HS w1 hB1))
          all_goals
            go_wp2_with fail
            go_meet
            case rel =>
              first
                | (refine ⟨w1.heap.size, (by with_reducible rfl), rfl, hz1, (by (repeat (first | (with_reducible assumption) | (with_reducible refine Blk.drew ?_) | (with_reducible refine Blk.drewN ?_ _) | (with_reducible exact Blk.new _ _ _) | (with_reducible refine Blk.alloc ?_ _)))), (by (repeat (first | with_reducible exact b0 _ | with_reducible assumption | with_reducible refine Below.drew ?_ | with_reducible refine below_drewN ?_ _ | with_reducible refine bal ?_ _ | ((with_reducible refine bst ?_ ?_ _); rotate_left; focus (first | exact Nat.le_refl _ | assumption | (simp; done) | (simp; omega) | omega)) | exact below_left (by with_reducible assumption))))⟩)
                | (refine ⟨wr.heap.size, (by with_reducible rfl), rfl, Nat.le_refl _, blk_put5 ((Blk.new wr 25 #[.string ⟨#[]⟩, .string ⟨#[]⟩, .int .i64 0, .bool false, .bool false]).drew.keep hb1), (by (repeat (first | with_reducible exact b0 _ | with_reducible assumption | with_reducible refine Below.drew ?_ | with_reducible refine below_drewN ?_ _ | with_reducible refine bal ?_ _ | ((with_reducible refine bst ?_ ?_ _); rotate_left; focus (first | exact Nat.le_refl _ | assumption | (simp; done) | (simp; omega) | omega)) | exact below_left (by with_reducible assumption))))⟩)
        case rest =>
          obtain ⟨g, rfl, rfl, hg, hBu, hbx⟩ := hcut
          have hBt := hB.below hbx lt
          clear lt t0 t1 t2 t3 t4 z0 z1 z2 z3 z4 HS
          obtain ⟨lt, t0, t1, t2, t3, t4, z0, z1, z2, z3, z4⟩ := hBt.c5
          obtain ⟨lu, u0, u1, u2, u3, u4, y0, y1, y2, y3, y4⟩ := hBu.c5
          have Q0 := Lib.hid a0
          have q0 := ((bcell hbx).1 _ _ hltb).trans a0
          clear a0 a1 a2
          have HS : ∀ w', Below wc.heap.size wc w' → (Below wc.heap.size wc w' ∧ w'.cell? ⟨w.heap.size, 0, none⟩ = some (.string ⟨f.toArray⟩) ∧ w'.cell? ⟨w.heap.size, 1, none⟩ = some (.string ⟨lo.toArray⟩) ∧ w'.cell? ⟨w.heap.size, 2, none⟩ = some (.int .i64 n) ∧ w'.cell? ⟨w.heap.size, 3, none⟩ = some (.bool ar) ∧ w'.cell? ⟨w.heap.size, 4, none⟩ = some (.bool dn) ∧ w'.cell? ⟨g, 0, none⟩ = some (.string ⟨f'.toArray⟩) ∧ w'.cell? ⟨g, 1, none⟩ = some (.string ⟨lo'.toArray⟩) ∧ w'.cell? ⟨g, 2, none⟩ = some (.int .i64 n') ∧ w'.cell? ⟨g, 3, none⟩ = some (.bool ar') ∧ w'.cell? ⟨g, 4, none⟩ = some (.bool dn')) := fun w' h => by
            obtain ⟨hc, _⟩ := bcell h
            exact ⟨h, by rw [hc _ _ lt]; exact t0, by rw [hc _ _ lt]; exact t1, by rw [hc _ _ lt]; exact t2, by rw [hc _ _ lt]; exact t3, by rw [hc _ _ lt]; exact t4, by rw [hc _ _ lu]; exact u0, by rw [hc _ _ lu]; exact u1, by rw [hc _ _ lu]; exact u2, by rw [hc _ _ lu]; exact u3, by rw [hc _ _ lu]; exact u4⟩
          have d1 : decide ((f'.length : Int) < (f.length : Int)) = false := by simp; omega
          have hs1 := fun w => run_to (P := Try.prog) w Try.underlying9 f' f.length f.length rfl hl1
          rw [HL2.out] at hs1
          go_wp2_with fail
          go_still_tail 20, (by kernel_rfl)
          go_wp2_with fail
          refine (tright_any f' lo' n' ar' dn' hfl' hll' _).mono ?_
          rintro e w1 ⟨rfl, hb1⟩
          rw [HR'.out]
          have hbx1 : Below wr.heap.size wr w1 := bt (Below.drew hbx) hb1
          have hbw : Below w.heap.size w w1 := bt hb hbx1
          have hBt1 := hBt.drew.keep hb1
          have hBu1 := hBu.drew.keep hb1
          clear lt t0 t1 t2 t3 t4 z0 z1 z2 z3 z4 lu u0 u1 u2 u3 u4 y0 y1 y2 y3 y4 q0 HS hs1 d1
          obtain ⟨lt, t0, t1, t2, t3, t4, z0, z1, z2, z3, z4⟩ := hBt1.c5
          obtain ⟨lu, u0, u1, u2, u3, u4, y0, y1, y2, y3, y4⟩ := hBu1.c5
          have q0 := ((bcell hbx1).1 _ _ hltb).trans Q0.out
          clear hBt hBu hb1
          have hm := HM.out
          by_cases h4 : m = 4
          · subst h4
            obtain ⟨k1, k2, k3, k4⟩ := HK4.out rfl
            subst k3 k4
            simp at hm
            have d1 : decide ((f.length : Int) + lo.length < (f'.length : Int)) = false := by simp; omega
            have hs1 := fun w => run_to (P := Try.prog) w Try.underlying9 (f ++ lo) f'.length f'.length rfl (by simp; omega)
            rw [k2] at hs1
            clear k2
            go_wp2_with fail
            go_quiet (fail)
            go_wp2
            go_roundw
            case rel =>
              exact ⟨k + 1, ⟨f', [], n', ar', false⟩, by go_num, by omega, HR'.out, (by first | (with_reducible refine blk_put5 (c0 := .string ⟨f.toArray⟩) (c1 := .string ⟨lo.toArray⟩) (c2 := .int .i64 n) (c3 := .bool ar) (c4 := .bool dn) ?_; first | exact hBt1 | exact hBt1.drewN _ | exact (hBt1.drewN _).drew | trace_state) | trace_state), (by first | ((repeat (first | with_reducible exact b0 _ | with_reducible assumption | with_reducible refine Below.drew ?_ | with_reducible refine below_drewN ?_ _ | with_reducible refine bal ?_ _ | ((with_reducible refine bst ?_ ?_ _); rotate_left; focus (first | exact Nat.le_refl _ | assumption | (simp; done) | (simp; omega) | omega)) | exact below_left (by with_reducible assumption)))) | trace_state)⟩
            case measure => simp [intOf]; omega
          · have hm4 : ((m : Int) == 4) = false := by simp; omega
            go_wp2_with fail
            go_quiet (fail)
            go_wp2
            go_roundw
            case rel =>
              exact ⟨k + 1, ⟨f', lo', n', ar', dn'⟩, by go_num, by omega, HR'.out, (by first | (with_reducible refine blk_put5 (c0 := .string ⟨f.toArray⟩) (c1 := .string ⟨lo.toArray⟩) (c2 := .int .i64 n) (c3 := .bool ar) (c4 := .bool dn) ?_; first | exact hBt1 | exact hBt1.drewN _ | exact (hBt1.drewN _).drew | trace_state) | trace_state), (by first | ((repeat (first | with_reducible exact b0 _ | with_reducible assumption | with_reducible refine Below.drew ?_ | with_reducible refine below_drewN ?_ _ | with_reducible refine bal ?_ _ | ((with_reducible refine bst ?_ ?_ _); rotate_left; focus (first | exact Nat.le_refl _ | assumption | (simp; done) | (simp; omega) | omega)) | exact below_left (by with_reducible assumption)))) | trace_state)⟩
            case measure => simp [intOf]; omega
    · clear t0 t1 t2 t3 t4 z0 z1 z2 z3 z4
      by_cases hlt2 : k < xs.length
      all_goals
        go_wp2_with fail
        refine (awake12 _).mono ?_
        rintro e w1 ⟨rfl, hb1⟩
        go_wp2
        go_ret
        exact ⟨rfl, bt hb hb1⟩
end Go.Proofs.Ytbekiimgbpmomaa
