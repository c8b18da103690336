/- The walk of the law WalKeeps. -/
import Derived.Test.YthjoamldmcnodaaBegins
import Derived.Test.YthjoamldmcnodaaPush
import Derived.Test.YthjoamldmcnodaaActs
import Derived.Test.YthjoamldmcnodaaWal
import Derived.Deep.RegionHeld3
import Derived.Deep.DrawnRows
import Derived.Deep.DeepCutAuto
import Derived.Deep.QuietTactic
import Derived.BigQuiet
import Derived.StillTailTactics
namespace Go.Proofs.Ythjoamldmcnodaa
open Go.RowKit
attribute [local go_sem] ByteArray.mk_append_mk ByteArray.extract_mk
attribute [local go_sem ↓] Go.wp_at_zero Go.wp_at_succ
abbrev tapeA (t : Tp) : Array Value := #[.string ⟨t.f.toArray⟩, .string ⟨t.lo.toArray⟩, .int .i64 t.n, .bool t.ar, .bool t.dn]
def KeepRel (xs : List Ac) (w : World) (v4 v5 v6 v7 : Value) (wr : World) : Prop :=
  ∃ (k : Nat) (now : List (List UInt8)) (nx : List UInt8) (cut : Bool) (t : Tp) (C : Option Addr) (cp : Nat), v4 = .slice C now.length cp ∧ v5 = .string ⟨nx.toArray⟩ ∧ v6 = .bool cut ∧ v7 = .int .i64 k ∧ k ≤ xs.length ∧ k ≤ 40 ∧
    (now.length ≤ k ∧ (∀ y ∈ now, y.length ≤ 200) ∧ nx.length ≤ 200 ∧ (cut = true → now.length + 1 ≤ k)) ∧ WalInv now nx cut t ∧ Blk wr w.heap.size 26 (tapeA t) ∧ wr.ownsRow (w.heap.size + 1) 9 1 (.slice C now.length cp) now.length (now.map strL) ∧ Below w.heap.size w wr
def KeepCut (wr : World) (T : TypeId) (u : Array Value) (e : Nat) (s11 s12 : Value) (wx : World) : Prop :=
  ∃ g, s11 = .pointer (some ⟨g, 0, none⟩) ∧ s12 = .int .i64 e ∧ wr.heap.size ≤ g ∧ Blk wx g T u ∧ Below wr.heap.size wr wx
def KeepCut2 (wr : World) (T R : TypeId) (u : Array Value) (m : List (List UInt8)) (e : Nat) (s8 s9 s10 : Value) (wx : World) : Prop :=
  ∃ g C cp, s8 = .pointer (some ⟨g, 0, none⟩) ∧ s9 = .slice C m.length cp ∧ s10 = .int .i64 e ∧ wr.heap.size ≤ g ∧ Blk wx g T u ∧ wx.ownsRow wr.heap.size R 1 (.slice C m.length cp) m.length (m.map strL) ∧ Below wr.heap.size wr wx
theorem kind_ex (kd : Int) : ∃ m : Nat, (IntKind.u64.wrap kd).tmod 5 = (m : Int) ∧ m < 5 := by
  have h : 0 ≤ IntKind.u64.wrap kd := by rw [IntKind.wrap_u64]; omega
  refine ⟨((IntKind.u64.wrap kd) % 5).toNat, ?_, by omega⟩
  rw [Int.tmod_eq_emod_of_nonneg h]
  omega
theorem wraps_small (ls : List (List UInt8)) (h : ∀ y ∈ ls, y.length ≤ 200) : (wrapsL ls).length ≤ 213 * ls.length := by
  induction ls with
  | nil => simp [wrapsL]
  | cons b ls ih =>
    have h1 := wrapL_le b
    have h2 := h b (by simp)
    have h3 := ih fun y hy => h y (by simp [hy])
    have e : wrapsL (b :: ls) = wrapL b ++ wrapsL ls := by unfold wrapsL; simp
    rw [e, List.length_append, List.length_cons]
    omega
theorem inv_len (now : List (List UInt8)) (nx : List UInt8) (cut : Bool) (t : Tp) (h : WalInv now nx cut t) : t.f.length ≤ 1048576 ∧ t.lo.length ≤ 1048576 := by
  have := (right_parts t h.right).1
  omega
theorem snoc_le {now : List (List UInt8)} {s : List UInt8} (h : ∀ y ∈ now, y.length ≤ 200) (hs : s.length ≤ 200) : ∀ y ∈ now ++ [s], y.length ≤ 200 := by
  intro y hy
  rcases List.mem_append.1 hy with hy | hy
  · exact h y hy
  · simp at hy
    rw [hy]
    exact hs
theorem own_snoc {w : World} {base c : Nat} {e : TypeId} {A : Option Addr} {now : List (List UInt8)} {s : List UInt8} (h : w.ownsRow base e 1 (.slice A (now.length + 1) c) (now.length + 1) (now.map strL ++ [.string ⟨s.toArray⟩])) :
    w.ownsRow base e 1 (.slice A (now ++ [s]).length c) (now ++ [s]).length ((now ++ [s]).map strL) := by
  rw [List.map_append, List.length_append]
  exact h
theorem own_cap {w : World} {base s n c : Nat} {e : TypeId} {A : Option Addr} {xs : List Value} (h : w.ownsRow base e s (.slice A n c) n xs) : n ≤ c := by
  rcases h.2 with ⟨_, rfl⟩ | ⟨g, cap, cur, hv, _, _, h3, _⟩
  · exact Nat.zero_le _
  · injection hv with _ _ hc
    omega
theorem own_five {W : World} {base s n : Nat} {e : TypeId} {v : Value} {xs : List Value} (h : W.ownsRow base e s v n xs) (g : Nat) (hg : g < base) (a b c d k : Value) :
    (((((W.setCell ⟨g, 0, none⟩ a).setCell ⟨g, 1, none⟩ b).setCell ⟨g, 2, none⟩ c).setCell ⟨g, 3, none⟩ d).setCell ⟨g, 4, none⟩ k).ownsRow base e s v n xs :=
  own_set (own_set (own_set (own_set (own_set h hg _) hg _) hg _) hg _) hg _
set_option maxHeartbeats 6400000 in
set_option maxRecDepth 100000 in
theorem walKeeps_walk (A : Option Addr) (n cap : Nat) (xs : List Ac) (hn : xs.length = n) (hmax : n ≤ 9223372036854775807) (_hcap : n ≤ cap) (hok : ∀ x ∈ xs, acOk x) (w : World) (hR : RdR acC 3 w w.heap.size A xs) :
    Calls Try.prog 5 #[.slice A n cap] w fun e w' => e = .returned (.bool true) ∧ Below w.heap.size w w' := by
  subst hn
  go_enter Try.func5, Try.ntmps5
  go_wp2
  go_loopw [4, 5, 6, 7] (fun v4 v5 v6 v7 wr => KeepRel xs w v4 v5 v6 v7 wr) (fun _ _ _ v7 _ => xs.length - (intOf v7).toNat)
  case atStart => exact ⟨0, [], [], false, ⟨[], [], 0, false, false⟩, none, 0, rfl, rfl, rfl, rfl, Nat.zero_le _, by omega, ⟨by simp, by simp, by simp, by simp⟩, wal_start, Blk.new _ _ _, World.ownsRow_nil _ _ _ _, bal (b0 w) _⟩
  case round =>
    obtain ⟨k, now, nx, cut, ⟨f, lo, n, ar, dn⟩, C, cp, rfl, rfl, rfl, rfl, hk, hk40, ⟨hnk, hn2, hx2, hcutk⟩, hinv, hB, hown, hb⟩ := hrel
    obtain ⟨hfl, hll⟩ := inv_len _ _ _ _ hinv
    simp only at hfl hll
    have HI := Lib.hid hinv
    clear hinv
    obtain ⟨lt, t0, t1, t2, t3, t4, z0, z1, z2, z3, z4⟩ := hB.c5
    have hbs := hb.size
    have hws := wraps_small now hn2
    by_cases hlt : k < xs.length ∧ k < 40
    case pos =>
      obtain ⟨hlt, h40⟩ := hlt
      obtain ⟨b, off, rfl, hbB, hc⟩ := hR (by omega)
      have hox := hok xs[k] (List.getElem_mem hlt)
      have hcx := hc k hlt
      obtain ⟨⟨kd, kn, s⟩, hx⟩ : ∃ x, xs[k] = x := ⟨_, rfl⟩
      rw [hx] at hox hcx
      obtain ⟨_, hkn, hs63⟩ := hox
      simp only at hkn hs63
      have a0 : wr.cell? ⟨b, off + k * 3, none⟩ = some (.int .i64 kd) := (hb.cell (p := ⟨b, _, none⟩) hbB).trans (hcx 0 _ rfl)
      have a1 : wr.cell? ⟨b, off + k * 3 + 1, none⟩ = some (.int .i64 kn) := (hb.cell (p := ⟨b, _, none⟩) hbB).trans (hcx 1 _ rfl)
      have a2 : wr.cell? ⟨b, off + k * 3 + 2, none⟩ = some (.string ⟨s.toArray⟩) := (hb.cell (p := ⟨b, _, none⟩) hbB).trans (hcx 2 _ rfl)
      clear hcx hc hx
      have i0 : (0 : Int) ≤ (k : Int) := by omega
      have i1 : (k : Int) < (xs.length : Int) := by omega
      have i2 : (k : Int) < 40 := by omega
      have hltb : b < wr.heap.size := by omega
      by_cases h200 : 200 < s.length
      case pos =>
        go_wp2_with fail
        refine (awake13 _).mono ?_
        rintro e w1 ⟨rfl, hb1⟩
        go_wp2
        go_ret
        exact ⟨rfl, bt hb hb1⟩
      case neg =>
        obtain ⟨m, hm, hm5⟩ := kind_ex kd
        by_cases h3 : m = 3
        case pos =>
          subst h3
          simp at hm
          obtain ⟨⟨f', lo', n', ar', dn'⟩, hE⟩ : ∃ y : Tp, armT ⟨f, lo, n, ar, dn⟩ kn = y := ⟨_, rfl⟩
          have hinv' := wal_arm now nx cut _ kn HI.out
          rw [hE] at hinv'
          have HE := Lib.hid hE
          have HI' := Lib.hid hinv'
          clear hE hinv'
          go_upto_region 19 with (fail)
          go_region_with (first
            | (go_at_call 16; refine (arm_any f lo n ar dn (by omega) (by omega) kn hkn _).mono ?_; rintro e w2 ⟨rfl, hb2⟩; rw [HE.out]; simp only [tapeV]; have hB2 := (show Blk _ _ _ _ from hB.drew).keep hb2; have hbw2 : Below w.heap.size w w2 := bt (Below.drew hb) hb2; have ho2 := own_below (hown.drew) hb2 (Nat.le_refl _); have k2 := hB2.c5))
          all_goals
            go_wp2
            go_roundw
            case rel => exact ⟨k + 1, now, nx, cut, ⟨f', lo', n', ar', dn'⟩, C, cp, rfl, rfl, rfl, by go_num, by omega, by omega, ⟨by omega, hn2, hx2, by intro h; have := hcutk h; omega⟩, HI'.out, (by repeat (first | with_reducible assumption | (with_reducible refine Blk.drew ?_) | (with_reducible refine Blk.drewN ?_ _) | (with_reducible refine blk_put5 (c0 := .string ⟨f.toArray⟩) (c1 := .string ⟨lo.toArray⟩) (c2 := .int .i64 n) (c3 := .bool ar) (c4 := .bool dn) ?_))), (by repeat (first | with_reducible assumption | (with_reducible refine World.ownsRow.drew ?_) | (refine own_set ?_ (Nat.lt_add_one _) _))), by (repeat (first | with_reducible exact b0 _ | with_reducible assumption | with_reducible refine Below.drew ?_ | with_reducible refine below_drewN ?_ _ | with_reducible refine bal ?_ _ | ((with_reducible refine bst ?_ ?_ _); rotate_left; focus (first | exact Nat.le_refl _ | assumption | (simp; done) | (simp; omega) | omega)) | exact below_left (by with_reducible assumption)))⟩
            case measure => simp [intOf]; omega
        case neg =>
          by_cases h4 : m = 4
          case pos =>
            subst h4
            simp at hm
            clear h3
            obtain ⟨⟨cf, cl, cn, ca, cd⟩, hE⟩ : ∃ y : Tp, crashT ⟨f, lo, n, ar, dn⟩ kn = y := ⟨_, rfl⟩
            have hcr := crash_right ⟨f, lo, n, ar, dn⟩ kn HI.out.right
            have hop := wal_crash now nx cut _ kn HI.out (fun y hy => by have := hn2 y hy; omega) (by omega)
            rw [hE] at hop hcr
            obtain ⟨mm, ⟨f', lo', n', ar', dn'⟩, hop, hmm, hinv', hlo0⟩ := hop
            have hcl := (right_parts _ hcr).1
            simp only at hcl hlo0
            subst hlo0
            have HE := Lib.hid hE
            have HO := Lib.hid hop
            have HI' := Lib.hid hinv'
            clear hE hinv' hop hcr
            have hml : mm.length ≤ k := by rcases hmm with h | ⟨h1, h2⟩; rw [h]; exact hnk; rw [h2]; have := hcutk h1; simp; omega
            have hm2 : ∀ y ∈ mm, y.length ≤ 200 := by rcases hmm with h | ⟨h1, h2⟩; rw [h]; exact hn2; rw [h2]; intro y hy; rcases List.mem_append.1 hy with hy | hy; exact hn2 y hy; simp at hy; rw [hy]; exact hx2
            have HMM := Lib.hid hmm
            clear hmm
            have HS : ∀ w', Below wr.heap.size wr w' → (Below wr.heap.size wr w' ∧ w'.cell? ⟨w.heap.size, 0, none⟩ = some (.string ⟨f.toArray⟩) ∧ w'.cell? ⟨w.heap.size, 1, none⟩ = some (.string ⟨lo.toArray⟩) ∧ w'.cell? ⟨w.heap.size, 2, none⟩ = some (.int .i64 n) ∧ w'.cell? ⟨w.heap.size, 3, none⟩ = some (.bool ar) ∧ w'.cell? ⟨w.heap.size, 4, none⟩ = some (.bool dn) ∧ w'.cell? ⟨b, off + k * 3 + 1, none⟩ = some (.int .i64 kn)) := fun w' h => by
              obtain ⟨hc, _⟩ := bcell h
              exact ⟨h, by rw [hc _ _ lt]; exact t0, by rw [hc _ _ lt]; exact t1, by rw [hc _ _ lt]; exact t2, by rw [hc _ _ lt]; exact t3, by rw [hc _ _ lt]; exact t4, by rw [hc _ _ hltb]; exact a1⟩
            go_upto_region 21 with (fail)
            go_cut [8, 9, 10] (fun s8 s9 s10 wx => KeepCut2 wr 26 9 (tapeA ⟨f', [], n', ar', dn'⟩) mm 0 s8 s9 s10 wx)
            case first =>
              go_region_held3 (fun w' => Below wr.heap.size wr w' ∧ w'.cell? ⟨w.heap.size, 0, none⟩ = some (.string ⟨f.toArray⟩) ∧ w'.cell? ⟨w.heap.size, 1, none⟩ = some (.string ⟨lo.toArray⟩) ∧ w'.cell? ⟨w.heap.size, 2, none⟩ = some (.int .i64 n) ∧ w'.cell? ⟨w.heap.size, 3, none⟩ = some (.bool ar) ∧ w'.cell? ⟨w.heap.size, 4, none⟩ = some (.bool dn) ∧ w'.cell? ⟨b, off + k * 3 + 1, none⟩ = some (.int .i64 kn)) (first | with_reducible assumption | (refine HS _ ?_; (repeat (first | with_reducible exact b0 _ | with_reducible assumption | with_reducible refine Below.drew ?_ | with_reducible refine below_drewN ?_ _ | with_reducible refine bal ?_ _ | ((with_reducible refine bst ?_ ?_ _); rotate_left; focus (first | exact Nat.le_refl _ | assumption | (simp; done) | (simp; omega) | omega)) | exact below_left (by with_reducible assumption))))) (first
                | (go_at_call 17; refine (crash_any f lo n ar dn (by omega) (by omega) kn hkn _).mono ?_; rintro e w1 ⟨rfl, hb1⟩; rw [HE.out]; simp only [tapeV]; have hz1 := hb1.size; (try simp at hz1); obtain ⟨hc1, hf1⟩ := bcell hb1; (try (by_cases hA0 : wr.heap.size < w1.heap.size; rotate_left; focus (exfalso; omega))); have hB1 : Below wr.heap.size wr w1 := (by refine bt ?_ hb1; (repeat (first | with_reducible exact b0 _ | with_reducible assumption | with_reducible refine Below.drew ?_ | with_reducible refine below_drewN ?_ _ | with_reducible refine bal ?_ _ | ((with_reducible refine bst ?_ ?_ _); rotate_left; focus (first | exact Nat.le_refl _ | assumption | (simp; done) | (simp; omega) | omega)) | exact below_left (by with_reducible assumption)))); have hk := HS w1 hB1)
                | (go_at_call 11; refine (walopen_any cf cl cn ca cd (by omega) (by omega) _).mono ?_; rintro e w2 ⟨C2, cp2, rfl, ho2, hb2⟩; rw [HO.out] at ho2 ⊢; simp only at ho2; simp only [tapeV]; have hz2 := hb2.size; (try simp at hz2); obtain ⟨hc2, hf2⟩ := bcell hb2; (try (by_cases hA0 : wr.heap.size < w2.heap.size; rotate_left; focus (exfalso; omega))); (try (by_cases hA1 : w1.heap.size < w2.heap.size; rotate_left; focus (exfalso; omega))); have hB2 : Below wr.heap.size wr w2 := (by refine bt ?_ hb2; (repeat (first | with_reducible exact b0 _ | with_reducible assumption | with_reducible refine Below.drew ?_ | with_reducible refine below_drewN ?_ _ | with_reducible refine bal ?_ _ | ((with_reducible refine bst ?_ ?_ _); rotate_left; focus (first | exact Nat.le_refl _ | assumption | (simp; done) | (simp; omega) | omega)) | exact below_left (by with_reducible assumption)))); have hk := HS w2 hB2))
              all_goals
                go_wp2_with fail
                go_meet
                case rel =>
                  have hzz1 := hB1.size
                  have hzz2 := hB2.size
                  refine ⟨_, C2, cp2, rfl, rfl, rfl, by (first | exact Nat.le_refl _ | assumption | omega | (simp; done) | (simp; omega)), by (repeat (first | with_reducible assumption | with_reducible exact Blk.new _ _ _ | with_reducible refine Blk.drew ?_ | ((with_reducible refine Blk.new' _ _ _ _ ?_); focus (first | (simp; done) | (simp; omega))) | with_reducible refine Blk.alloc ?_ _ | with_reducible refine blk_put5 (c0 := .string ⟨#[]⟩) (c1 := .string ⟨#[]⟩) (c2 := .int .i64 0) (c3 := .bool false) (c4 := .bool false) ?_ | with_reducible refine Blk.keep ?_ hb2 | with_reducible refine Blk.keep ?_ hb1)), (by first | ((with_reducible refine own_base (World.ownsRow.alloc ho2 _) ?_); omega) | ((with_reducible refine own_base (own_five ho2 _ ?_ _ _ _ _ _) ?_) <;> (first | omega | (simp; done) | (simp; omega)))), by (repeat (first | with_reducible exact b0 _ | with_reducible assumption | with_reducible refine Below.drew ?_ | with_reducible refine below_drewN ?_ _ | with_reducible refine bal ?_ _ | ((with_reducible refine bst ?_ ?_ _); rotate_left; focus (first | exact Nat.le_refl _ | assumption | (simp; done) | (simp; omega) | omega)) | exact below_left (by with_reducible assumption)))⟩
            case rest =>
              obtain ⟨g, C2, cp2, rfl, rfl, rfl, hg, Gu, ho2, hbx⟩ := hcut
              clear HS
              have ltr := lt
              have hbw := bt hb hbx
              have hcap2 := own_cap ho2
              have ho1 := own_below hown hbx (Nat.le_refl _)
              have hB1 := hB.keep hbx
              have hsz := hbx.size
              go_wp2_with fail
              refine (begins_any mm now nx cut HMM.out C2 C _ _ cp2 cp rfl rfl (by omega) (by omega) hcap2 _ (rd_own ho2) (rd_own ho1)).mono ?_
              rintro e w3 ⟨rfl, hb3⟩
              have Gu3 := Gu.keep hb3
              have hB3 := hB1.keep hb3
              have ho3 := own_below ho2 hb3 (Nat.le_refl _)
              have hbw3 := bt hbw hb3
              clear lt t0 t1 t2 t3 t4 z0 z1 z2 z3 z4
              obtain ⟨lt, t0, t1, t2, t3, t4, z0, z1, z2, z3, z4⟩ := hB3.c5
              obtain ⟨lu, u0, u1, u2, u3, u4, y0, y1, y2, y3, y4⟩ := Gu3.c5
              go_wp2
              go_roundw
              case rel => exact ⟨k + 1, mm, nx, false, ⟨f', [], n', ar', dn'⟩, C2, cp2, rfl, rfl, rfl, by go_num, by omega, by omega, ⟨by omega, hm2, hx2, by simp⟩, HI'.out, (by repeat (first | with_reducible assumption | (with_reducible refine Blk.drew ?_) | (with_reducible refine Blk.drewN ?_ _) | (with_reducible refine blk_put5 (c0 := .string ⟨f.toArray⟩) (c1 := .string ⟨lo.toArray⟩) (c2 := .int .i64 n) (c3 := .bool ar) (c4 := .bool dn) ?_))), own_base (base := wr.heap.size) (by repeat (first | with_reducible assumption | (with_reducible refine World.ownsRow.drew ?_) | (refine own_set ?_ ltr _))) (by omega), by (repeat (first | with_reducible exact b0 _ | with_reducible assumption | with_reducible refine Below.drew ?_ | with_reducible refine below_drewN ?_ _ | with_reducible refine bal ?_ _ | ((with_reducible refine bst ?_ ?_ _); rotate_left; focus (first | exact Nat.le_refl _ | assumption | (simp; done) | (simp; omega) | omega)) | exact below_left (by with_reducible assumption)))⟩
              case measure => simp [intOf]; omega
          case neg =>
            have hm3 : ((m : Int) == 3) = false := by simp; omega
            have hm4 : ((m : Int) == 4) = false := by simp; omega
            clear h3 h4
            obtain ⟨⟨⟨f', lo', n', ar', dn'⟩, er⟩, hE⟩ : ∃ y : Tp × Nat, putW ⟨f, lo, n, ar, dn⟩ s = y := ⟨_, rfl⟩
            have hwl := wrapL_le s
            have h3 := wal_put now nx cut _ _ s er HI.out (by omega) hE
            have HE := Lib.hid hE
            clear hE
            have HS : ∀ w', Below wr.heap.size wr w' → (Below wr.heap.size wr w' ∧ w'.cell? ⟨w.heap.size, 0, none⟩ = some (.string ⟨f.toArray⟩) ∧ w'.cell? ⟨w.heap.size, 1, none⟩ = some (.string ⟨lo.toArray⟩) ∧ w'.cell? ⟨w.heap.size, 2, none⟩ = some (.int .i64 n) ∧ w'.cell? ⟨w.heap.size, 3, none⟩ = some (.bool ar) ∧ w'.cell? ⟨w.heap.size, 4, none⟩ = some (.bool dn) ∧ w'.cell? ⟨b, off + k * 3 + 2, none⟩ = some (.string ⟨s.toArray⟩)) := fun w' h => by
              obtain ⟨hc, _⟩ := bcell h
              exact ⟨h, by rw [hc _ _ lt]; exact t0, by rw [hc _ _ lt]; exact t1, by rw [hc _ _ lt]; exact t2, by rw [hc _ _ lt]; exact t3, by rw [hc _ _ lt]; exact t4, by rw [hc _ _ hltb]; exact a2⟩
            go_upto_region 10 with (fail)
            go_cut [11, 12] (fun s11 s12 wx => KeepCut wr 26 (tapeA ⟨f', lo', n', ar', dn'⟩) er s11 s12 wx)
            case first =>
              clear h3
              go_region_held3 (fun w' => Below wr.heap.size wr w' ∧ w'.cell? ⟨w.heap.size, 0, none⟩ = some (.string ⟨f.toArray⟩) ∧ w'.cell? ⟨w.heap.size, 1, none⟩ = some (.string ⟨lo.toArray⟩) ∧ w'.cell? ⟨w.heap.size, 2, none⟩ = some (.int .i64 n) ∧ w'.cell? ⟨w.heap.size, 3, none⟩ = some (.bool ar) ∧ w'.cell? ⟨w.heap.size, 4, none⟩ = some (.bool dn) ∧ w'.cell? ⟨b, off + k * 3 + 2, none⟩ = some (.string ⟨s.toArray⟩)) (first | with_reducible assumption | (refine HS _ ?_; (repeat (first | with_reducible exact b0 _ | with_reducible assumption | with_reducible refine Below.drew ?_ | with_reducible refine below_drewN ?_ _ | with_reducible refine bal ?_ _ | ((with_reducible refine bst ?_ ?_ _); rotate_left; focus (first | exact Nat.le_refl _ | assumption | (simp; done) | (simp; omega) | omega)) | exact below_left (by with_reducible assumption))))) (first
                | (go_at_call 10; refine (walput_any f lo n ar dn (by omega) (by omega) s (by omega) _).mono ?_; rintro e w1 ⟨rfl, hb1⟩; rw [HE.out]; simp only [tapeV]; have hz1 := hb1.size; (try simp at hz1); obtain ⟨hc1, hf1⟩ := bcell hb1; (try (by_cases hA0 : wr.heap.size < w1.heap.size; rotate_left; focus (exfalso; omega))); have hB1 : Below wr.heap.size wr w1 := (by refine bt ?_ hb1; (repeat (first | with_reducible exact b0 _ | with_reducible assumption | with_reducible refine Below.drew ?_ | with_reducible refine below_drewN ?_ _ | with_reducible refine bal ?_ _ | ((with_reducible refine bst ?_ ?_ _); rotate_left; focus (first | exact Nat.le_refl _ | assumption | (simp; done) | (simp; omega) | omega)) | exact below_left (by with_reducible assumption)))); have hk := HS w1 hB1))
              all_goals
                go_wp2_with fail
                go_meet
                case rel =>
                  have hzz1 := hB1.size
                  exact ⟨_, rfl, rfl, by (first | exact Nat.le_refl _ | assumption | omega | (simp; done) | (simp; omega)), by (repeat (first | with_reducible assumption | with_reducible exact Blk.new _ _ _ | with_reducible refine Blk.drew ?_ | ((with_reducible refine Blk.new' _ _ _ _ ?_); focus (first | (simp; done) | (simp; omega))) | with_reducible refine Blk.alloc ?_ _ | with_reducible refine blk_put5 (c0 := .string ⟨#[]⟩) (c1 := .string ⟨#[]⟩) (c2 := .int .i64 0) (c3 := .bool false) (c4 := .bool false) ?_ | with_reducible refine Blk.keep ?_ hb1)), by (repeat (first | with_reducible exact b0 _ | with_reducible assumption | with_reducible refine Below.drew ?_ | with_reducible refine below_drewN ?_ _ | with_reducible refine bal ?_ _ | ((with_reducible refine bst ?_ ?_ _); rotate_left; focus (first | exact Nat.le_refl _ | assumption | (simp; done) | (simp; omega) | omega)) | exact below_left (by with_reducible assumption)))⟩
            case rest =>
              obtain ⟨g, rfl, rfl, hg, Gu, hbx⟩ := hcut
              clear HS
              have ltr := lt
              have hbw := bt hb hbx
              have ho1 := own_below hown hbx (Nat.le_refl _)
              have hB1 := hB.keep hbx
              have hsz := hbx.size
              have q2 := ((bcell hbx).1 _ _ hltb).trans a2
              clear lt t0 t1 t2 t3 t4 z0 z1 z2 z3 z4 a0 a1 a2
              obtain ⟨lt, t0, t1, t2, t3, t4, z0, z1, z2, z3, z4⟩ := hB1.c5
              obtain ⟨lu, u0, u1, u2, u3, u4, y0, y1, y2, y3, y4⟩ := Gu.c5
              rcases h3 with ⟨rfl, rfl, hu⟩ | ⟨rfl, rfl, hinv'⟩ | ⟨rfl, rfl, hinv'⟩
              · have HI' : Hid (WalInv now nx true ⟨f', lo', n', ar', dn'⟩) := Lib.hid (by rw [hu]; exact HI.out)
                clear hu
                go_wp2
                go_roundw
                case rel => exact ⟨k + 1, now, nx, true, ⟨f', lo', n', ar', dn'⟩, C, cp, rfl, rfl, rfl, by go_num, by omega, by omega, ⟨by omega, hn2, hx2, by intro _; have := hcutk rfl; omega⟩, HI'.out, (by repeat (first | with_reducible assumption | (with_reducible refine Blk.drew ?_) | (with_reducible refine Blk.drewN ?_ _) | (with_reducible refine blk_put5 (c0 := .string ⟨f.toArray⟩) (c1 := .string ⟨lo.toArray⟩) (c2 := .int .i64 n) (c3 := .bool ar) (c4 := .bool dn) ?_))), (by repeat (first | with_reducible assumption | (with_reducible refine World.ownsRow.drew ?_) | (refine own_set ?_ (Nat.lt_add_one _) _))), by (repeat (first | with_reducible exact b0 _ | with_reducible assumption | with_reducible refine Below.drew ?_ | with_reducible refine below_drewN ?_ _ | with_reducible refine bal ?_ _ | ((with_reducible refine bst ?_ ?_ _); rotate_left; focus (first | exact Nat.le_refl _ | assumption | (simp; done) | (simp; omega) | omega)) | exact below_left (by with_reducible assumption)))⟩
                case measure => simp [intOf]; omega
              · have HI' := Lib.hid hinv'
                clear hinv'
                have hbr := (Nat.succ_le_of_lt (Nat.lt_of_lt_of_le ltr hsz))
                obtain ⟨i0, hi, hz0, hz1, hz2⟩ := info_parts infoStr
                go_wp2_with (at_builtin; refine wpList_push2 (by rfl) _ _ _ (by rfl) (w.heap.size + 1) 9 i0 (.string ByteArray.empty) 16 Try.underlying22 hi hz0 hz1 hz2 rfl wc _ now.length (now.map strL) (by rfl) ho1 (.string ⟨s.toArray⟩) rfl 1 (by rfl) (by omega) (by omega) hbr ?_; intro g2 cap2 w2 ho2 hb2 hk2; have hB2 := hk2 _ _ _ (by decide) hB1; have Gu2 := hk2 _ _ _ (by decide) Gu; have ho3 := own_snoc ho2; have hbw2 : Below w.heap.size w w2 := hbw.trans (hb2.mono (Nat.le_succ _)); have kb := hB2.c5; have ku := Gu2.c5; clear lt t0 t1 t2 t3 t4 z0 z1 z2 z3 z4 lu u0 u1 u2 u3 u4 y0 y1 y2 y3 y4)
                skip
                go_roundw
                case rel => exact ⟨k + 1, now ++ [s], nx, false, ⟨f', lo', n', ar', dn'⟩, some ⟨g2, 0, none⟩, cap2, by simp, rfl, rfl, by go_num, by omega, by omega, ⟨by simp; omega, snoc_le hn2 (by omega), hx2, by simp⟩, HI'.out, (by repeat (first | with_reducible assumption | (with_reducible refine Blk.drew ?_) | (with_reducible refine Blk.drewN ?_ _) | (with_reducible refine blk_put5 (c0 := .string ⟨f.toArray⟩) (c1 := .string ⟨lo.toArray⟩) (c2 := .int .i64 n) (c3 := .bool ar) (c4 := .bool dn) ?_))), (by repeat (first | with_reducible assumption | (with_reducible refine World.ownsRow.drew ?_) | (refine own_set ?_ (Nat.lt_add_one _) _))), by (repeat (first | with_reducible exact b0 _ | with_reducible assumption | with_reducible refine Below.drew ?_ | with_reducible refine below_drewN ?_ _ | with_reducible refine bal ?_ _ | ((with_reducible refine bst ?_ ?_ _); rotate_left; focus (first | exact Nat.le_refl _ | assumption | (simp; done) | (simp; omega) | omega)) | exact below_left (by with_reducible assumption)))⟩
                case measure => simp [intOf]; omega
              · have HI' := Lib.hid hinv'
                clear hinv'
                go_wp2
                go_roundw
                case rel => exact ⟨k + 1, now, s, true, ⟨f', lo', n', ar', dn'⟩, C, cp, rfl, rfl, rfl, by go_num, by omega, by omega, ⟨by omega, hn2, by omega, by intro _; omega⟩, HI'.out, (by repeat (first | with_reducible assumption | (with_reducible refine Blk.drew ?_) | (with_reducible refine Blk.drewN ?_ _) | (with_reducible refine blk_put5 (c0 := .string ⟨f.toArray⟩) (c1 := .string ⟨lo.toArray⟩) (c2 := .int .i64 n) (c3 := .bool ar) (c4 := .bool dn) ?_))), (by repeat (first | with_reducible assumption | (with_reducible refine World.ownsRow.drew ?_) | (refine own_set ?_ (Nat.lt_add_one _) _))), by (repeat (first | with_reducible exact b0 _ | with_reducible assumption | with_reducible refine Below.drew ?_ | with_reducible refine below_drewN ?_ _ | with_reducible refine bal ?_ _ | ((with_reducible refine bst ?_ ?_ _); rotate_left; focus (first | exact Nat.le_refl _ | assumption | (simp; done) | (simp; omega) | omega)) | exact below_left (by with_reducible assumption)))⟩
                case measure => simp [intOf]; omega
    case neg =>
      clear t0 t1 t2 t3 t4 z0 z1 z2 z3 z4
      by_cases hlt2 : k < xs.length
      all_goals
        go_wp2_with fail
        refine (awake13 _).mono ?_
        rintro e w1 ⟨rfl, hb1⟩
        go_wp2
        go_ret
        exact ⟨rfl, bt hb hb1⟩
end Go.Proofs.Ythjoamldmcnodaa
