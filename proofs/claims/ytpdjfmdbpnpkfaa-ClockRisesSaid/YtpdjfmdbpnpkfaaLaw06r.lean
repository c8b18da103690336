/- The walk of the law ClockRises. -/
import Derived.Test.YtpdjfmdbpnpkfaaRiseP
import Derived.Test.YtpdjfmdbpnpkfaaLaw06
import Derived.Test.YtpdjfmdbpnpkfaaBlk
import Derived.Test.YtpdjfmdbpnpkfaaTicks
import Derived.Deep.RegionHeld3
import Derived.Deep.RegionWith
import Derived.Deep.DrawnRows
import Derived.Deep.DeepCutAuto
import Derived.Deep.QuietTactic
import Derived.BigQuiet
import Derived.BigRegion
namespace Go.Proofs.Ytpdjfmdbpnpkfaa
open Go.RowKit
attribute [local go_sem ↓] Go.wp_at_zero Go.wp_at_succ
theorem below_left {B : Nat} {w w' : World} {q : Prop} (h : Below B w w' ∧ q) : Below B w w' := h.1
theorem blk_put3 {w : World} {g : Nat} {t : TypeId} {c0 c1 c2 u0 u1 u2 : Value} (h : Blk w g t #[c0, c1, c2]) :
    Blk (((w.setCell ⟨g, 0, none⟩ u0).setCell ⟨g, 1, none⟩ u1).setCell ⟨g, 2, none⟩ u2) g t #[u0, u1, u2] := by
  have h5 := ((h.set 0 u0).set 1 u1).set 2 u2
  simpa using h5
theorem blk_new1 (w : World) (o : Obj) (t : TypeId) (cs : Array Value) : Blk ((w.alloc o).alloc (.cells cs t)) (w.heap.size + 1) t cs := Blk.new' _ _ _ _ (by simp)
theorem blk_far3 {w : World} {g g' : Nat} {t : TypeId} {cs : Array Value} {u0 u1 u2 : Value} (h : Blk w g t cs) (hne : g ≠ g') :
    Blk (((w.setCell ⟨g', 0, none⟩ u0).setCell ⟨g', 1, none⟩ u1).setCell ⟨g', 2, none⟩ u2) g t cs := ((h.far hne _).far hne _).far hne _
def ck (a t n : Int) : Array Value := #[.int .i64 a, .int .i64 t, .int .i64 n]
def RiseRel (xs : List Tk) (w w1 : World) (N : Int) (i : Value) (wr : World) : Prop :=
  ∃ (k : Nat) (a t x y z : Int), i = .int .i64 k ∧ k ≤ xs.length ∧ Under x y a t ∧ Blk wr w1.heap.size 25 #[.int .i64 a, .int .i64 t, .int .i64 N] ∧ Blk wr (w1.heap.size + 1) 23 #[.int .i64 x, .int .i64 y, .int .i64 z] ∧ Below w.heap.size w wr
def HearCut (wr : World) (p1 p2 p3 e : Int) (s9 s10 : Value) (wx : World) : Prop :=
  ∃ g, s9 = .pointer (some ⟨g, 0, none⟩) ∧ s10 = .int .i64 e ∧ wr.heap.size ≤ g ∧ Blk wx g 25 #[.int .i64 p1, .int .i64 p2, .int .i64 p3] ∧ Below wr.heap.size wr wx
def LateCut (w w1 : World) (p1 p2 p3 q1 q2 q3 : Int) (_s : Value) (wx : World) : Prop :=
  Blk wx w1.heap.size 25 #[.int .i64 p1, .int .i64 p2, .int .i64 p3] ∧ Blk wx (w1.heap.size + 1) 23 #[.int .i64 q1, .int .i64 q2, .int .i64 q3] ∧ Below w.heap.size w wx
def NowCut (wr : World) (p1 p2 p3 e : Int) (s11 s12 s13 : Value) (wx : World) : Prop :=
  ∃ g h, s11 = .pointer (some ⟨g, 0, none⟩) ∧ s12 = .pointer (some ⟨h, 0, none⟩) ∧ s13 = .int .i64 e ∧ wr.heap.size ≤ g ∧ wr.heap.size ≤ h ∧
    Blk wx g 25 #[.int .i64 p1, .int .i64 p2, .int .i64 p3] ∧ Blk wx h 23 #[.int .i64 p1, .int .i64 p2, .int .i64 p3] ∧ Below wr.heap.size wr wx
set_option maxHeartbeats 3200000 in
set_option maxRecDepth 100000 in
theorem clockRises_walk (N : Int) (hNw : (Lit.int .i64 N).wf = true) (A : Option Addr) (n cap : Nat) (xs : List Tk) (hn : xs.length = n) (hmax : n ≤ 9223372036854775807) (_hcap : n ≤ cap) (hok : ∀ x ∈ xs, tkOk x) (w : World) (hR : RdR tkC 5 w w.heap.size A xs) :
    Calls Try.prog 8 #[.int .i64 N, .slice A n cap] w fun e w' => e = .returned (.bool true) ∧ Below w.heap.size w w' := by
  subst hn
  clear hNw
  obtain ⟨⟨⟨c0, c1, c2⟩, ce⟩, hN⟩ : ∃ x : (Int × Int × Int) × Int, newT N = x := ⟨_, rfl⟩
  rcases new_node N c0 c1 c2 ce hN with ⟨rfl, rfl, rfl, rfl⟩ | ⟨rfl, rfl, rfl, rfl⟩
  case inl =>
    have HN := Lib.hid hN
    clear hN
    go_enter Try.func8, Try.ntmps8
    go_wp2_with fail
    refine (new_any N _).mono ?_
    rintro e w1 ⟨rfl, hb1⟩
    rw [HN.out]
    go_wp2_with fail
    refine (awake06 _).mono ?_
    rintro e w2 ⟨rfl, hb2⟩
    go_wp2
    go_ret
    exact ⟨rfl, (by refine bt ?_ hb2; (repeat (first | with_reducible exact b0 _ | with_reducible assumption | with_reducible refine Below.drew ?_ | with_reducible refine below_drewN ?_ _ | with_reducible refine bal ?_ _ | ((with_reducible refine bst ?_ ?_ _); rotate_left; focus (first | exact Nat.le_refl _ | assumption | (simp; done) | (simp; omega) | omega)) | exact below_left (by with_reducible assumption))))⟩
  case inr =>
  have HN := Lib.hid hN
  clear hN
  go_enter Try.func8, Try.ntmps8
  go_wp2_with fail
  refine (new_any N _).mono ?_
  rintro e w1 ⟨rfl, hb1⟩
  rw [HN.out]
  go_wp2
  go_loopw [8] (fun i wr => RiseRel xs w w1 N i wr) (fun i _ => xs.length - (intOf i).toNat)
  case atStart => exact ⟨0, 0, 0, 0, 0, 0, rfl, Nat.zero_le _, .inr ⟨rfl, by omega⟩, (Blk.new w1 _ _).alloc _, Blk.new' _ _ _ _ (by simp), bal (bal hb1 _) _⟩
  case round =>
    obtain ⟨k, a, t, x, y, z, rfl, hk, hu, hB5, hB7, hb⟩ := hrel
    have HU := Lib.hid hu
    clear hu
    obtain ⟨l5, c0, c1, c2, fc0, fc1, fc2⟩ := hB5.c3
    obtain ⟨l7, d0, d1, d2, fd0, fd1, fd2⟩ := hB7.c3
    have hbs := hb.size
    have hgs : w.heap.size ≤ w1.heap.size := hb1.size
    by_cases hlt : k < xs.length ∧ k < 200
    case neg =>
      clear c0 c1 c2 fc0 fc1 fc2 d0 d1 d2 fd0 fd1 fd2
      by_cases hlt2 : k < xs.length
      all_goals
        go_wp2_with fail
        refine (awake06 _).mono ?_
        rintro e w2 ⟨rfl, hb2⟩
        go_wp2
        go_ret
        exact ⟨rfl, bt hb hb2⟩
    case pos =>
    obtain ⟨hlt, h40⟩ := hlt
    obtain ⟨b, off, rfl, hbB, hc⟩ := hR (by omega)
    have hcx := hc k hlt
    obtain ⟨⟨wl, hears, a', t', n'⟩, hx⟩ : ∃ x, xs[k] = x := ⟨_, rfl⟩
    rw [hx] at hcx
    have e0 : wr.cell? ⟨b, off + k * 5, none⟩ = some (.int .i64 wl) := (hb.cell (p := ⟨b, _, none⟩) hbB).trans (hcx 0 _ rfl)
    have e1 : wr.cell? ⟨b, off + k * 5 + 1, none⟩ = some (.bool hears) := (hb.cell (p := ⟨b, _, none⟩) hbB).trans (hcx 1 _ rfl)
    have e2 : wr.cell? ⟨b, off + k * 5 + 2, none⟩ = some (.int .i64 a') := (hb.cell (p := ⟨b, _, none⟩) hbB).trans (hcx 2 _ rfl)
    have e3 : wr.cell? ⟨b, off + k * 5 + 3, none⟩ = some (.int .i64 t') := (hb.cell (p := ⟨b, _, none⟩) hbB).trans (hcx 3 _ rfl)
    have e4 : wr.cell? ⟨b, off + k * 5 + 4, none⟩ = some (.int .i64 n') := (hb.cell (p := ⟨b, _, none⟩) hbB).trans (hcx 4 _ rfl)
    clear hcx hc hx
    have i0 : (0 : Int) ≤ (k : Int) := by omega
    have i1 : (k : Int) < (xs.length : Int) := by omega
    have hltb : b < wr.heap.size := by omega
    cases hears
    · -- the wall is read
      obtain ⟨⟨⟨p1, p2, p3⟩, pe⟩, hN⟩ : ∃ x : (Int × Int × Int) × Int, nowT a t N wl = x := ⟨_, rfl⟩
      have HN2 := Lib.hid hN
      clear hN
      have HS : ∀ w', Below wr.heap.size wr w' → (Below wr.heap.size wr w' ∧ w'.cell? ⟨w1.heap.size, 0, none⟩ = some (.int .i64 a) ∧ w'.cell? ⟨w1.heap.size, 1, none⟩ = some (.int .i64 t) ∧ w'.cell? ⟨w1.heap.size, 2, none⟩ = some (.int .i64 N) ∧ w'.cell? ⟨b, off + k * 5, none⟩ = some (.int .i64 wl)) := fun w' h => by
        obtain ⟨hc, _⟩ := bcell h
        exact ⟨h, by rw [hc _ _ l5]; exact c0, by rw [hc _ _ l5]; exact c1, by rw [hc _ _ l5]; exact c2, by rw [hc _ _ hltb]; exact e0⟩
      go_upto_region 12 with (fail)
      go_cut [11, 12, 13] (fun s11 s12 s13 wx => NowCut wr p1 p2 p3 pe s11 s12 s13 wx)
      case first =>
        go_region_held3 (fun w' => Below wr.heap.size wr w' ∧ w'.cell? ⟨w1.heap.size, 0, none⟩ = some (.int .i64 a) ∧ w'.cell? ⟨w1.heap.size, 1, none⟩ = some (.int .i64 t) ∧ w'.cell? ⟨w1.heap.size, 2, none⟩ = some (.int .i64 N) ∧ w'.cell? ⟨b, off + k * 5, none⟩ = some (.int .i64 wl)) (first | with_reducible assumption | (refine HS _ ?_; (repeat (first | with_reducible exact b0 _ | with_reducible assumption | with_reducible refine Below.drew ?_ | with_reducible refine below_drewN ?_ _ | with_reducible refine bal ?_ _ | ((with_reducible refine bst ?_ ?_ _); rotate_left; focus (first | exact Nat.le_refl _ | assumption | (simp; done) | (simp; omega) | omega)) | exact below_left (by with_reducible assumption))))) (first
          | (go_at_call 10; refine (now_any a t N wl _).mono ?_; rintro e w2 ⟨rfl, hb1⟩; rw [HN2.out]; simp only [stampT]; have hB1 : Below wr.heap.size wr w2 := (by refine bt ?_ hb1; (repeat (first | with_reducible exact b0 _ | with_reducible assumption | with_reducible refine Below.drew ?_ | with_reducible refine below_drewN ?_ _ | with_reducible refine bal ?_ _ | ((with_reducible refine bst ?_ ?_ _); rotate_left; focus (first | exact Nat.le_refl _ | assumption | (simp; done) | (simp; omega) | omega)) | exact below_left (by with_reducible assumption)))); have hz1 := hB1.size; have hz2 := hb1.size; (try simp at hz2); (try have lz0 : wr.heap.size < w2.heap.size := (by omega)); (try have lz1 : wr.heap.size + 1 < w2.heap.size := (by omega)); (try have lz2 : wr.heap.size ≠ w2.heap.size := (by omega)); (try have lz3 : w2.heap.size ≠ wr.heap.size := (by omega)); (first | (with_reducible have zb0 : Blk w2 (wr.heap.size) 25 #[.int .i64 0, .int .i64 0, .int .i64 0] := Blk.keep ((Blk.new wr 25 #[.int .i64 0, .int .i64 0, .int .i64 0]).drew) hb1; have zc0 := zb0.c3) | (with_reducible have zb0 : Blk w2 (wr.heap.size) 25 #[.int .i64 0, .int .i64 0, .int .i64 0] := Blk.keep (((Blk.new wr 25 #[.int .i64 0, .int .i64 0, .int .i64 0]).alloc _).drew) hb1; have zc0 := zb0.c3) | skip); (first | (with_reducible have zb1 : Blk w2 (wr.heap.size) 23 #[.int .i64 0, .int .i64 0, .int .i64 0] := Blk.keep ((Blk.new wr 23 #[.int .i64 0, .int .i64 0, .int .i64 0]).drew) hb1; have zc1 := zb1.c3) | (with_reducible have zb1 : Blk w2 (wr.heap.size) 23 #[.int .i64 0, .int .i64 0, .int .i64 0] := Blk.keep (((Blk.new wr 23 #[.int .i64 0, .int .i64 0, .int .i64 0]).alloc _).drew) hb1; have zc1 := zb1.c3) | skip); (first | (with_reducible have zb2 : Blk w2 (wr.heap.size + 1) 25 #[.int .i64 0, .int .i64 0, .int .i64 0] := Blk.keep ((blk_new1 wr _ 25 #[.int .i64 0, .int .i64 0, .int .i64 0]).drew) hb1; have zc2 := zb2.c3) | skip); (first | (with_reducible have zb3 : Blk w2 (wr.heap.size + 1) 23 #[.int .i64 0, .int .i64 0, .int .i64 0] := Blk.keep ((blk_new1 wr _ 23 #[.int .i64 0, .int .i64 0, .int .i64 0]).drew) hb1; have zc3 := zb3.c3) | skip); have hk := HS w2 hB1))
        all_goals
          go_wp2_with fail
          go_meet
          case rel =>
            refine ⟨_, _, rfl, rfl, rfl, ?_, ?_, ?_, ?_, ?_⟩
            · first | exact Nat.le_refl _ | omega
            · first | exact Nat.le_refl _ | omega
            · (repeat (first | (with_reducible assumption) | (with_reducible refine Blk.drew ?_) | (with_reducible refine Blk.drewN ?_ _) | (with_reducible exact Blk.new _ _ _) | (with_reducible exact Blk.new' _ _ _ _ (by simp)) | (with_reducible refine blk_put3 (c0 := .int .i64 0) (c1 := .int .i64 0) (c2 := .int .i64 0) ?_) | (with_reducible refine Blk.alloc ?_ _) | (with_reducible refine blk_far3 ?_ (by first | omega | (simp; omega)))))
            · (repeat (first | (with_reducible assumption) | (with_reducible refine Blk.drew ?_) | (with_reducible refine Blk.drewN ?_ _) | (with_reducible exact Blk.new _ _ _) | (with_reducible exact Blk.new' _ _ _ _ (by simp)) | (with_reducible refine blk_put3 (c0 := .int .i64 0) (c1 := .int .i64 0) (c2 := .int .i64 0) ?_) | (with_reducible refine Blk.alloc ?_ _) | (with_reducible refine blk_far3 ?_ (by first | omega | (simp; omega)))))
            · (repeat (first | with_reducible exact b0 _ | with_reducible assumption | with_reducible refine Below.drew ?_ | with_reducible refine below_drewN ?_ _ | with_reducible refine bal ?_ _ | ((with_reducible refine bst ?_ ?_ _); rotate_left; focus (first | exact Nat.le_refl _ | assumption | (simp; done) | (simp; omega) | omega)) | exact below_left (by with_reducible assumption)))
      case rest =>
        obtain ⟨g, h, rfl, rfl, rfl, hg, hh, hBg, hBh, hbx⟩ := hcut
        have hB5' := hB5.below hbx l5
        have hB7' := hB7.below hbx l7
        have hbw : Below w.heap.size w wc := bt hb hbx
        have hne : w1.heap.size ≠ g := by omega
        have hne1 : w1.heap.size ≠ h := by omega
        have hne2 : w1.heap.size + 1 ≠ g := by omega
        have hne3 : w1.heap.size + 1 ≠ h := by omega
        clear c0 c1 c2 fc0 fc1 fc2 d0 d1 d2 fd0 fd1 fd2 HS e0 e1 e2 e3 e4
        obtain ⟨l5', c0, c1, c2, fc0, fc1, fc2⟩ := hB5'.c3
        obtain ⟨l7', d0, d1, d2, fd0, fd1, fd2⟩ := hB7'.c3
        obtain ⟨lg, g0, g1, g2, fg0, fg1, fg2⟩ := hBg.c3
        obtain ⟨lh, h0, h1, h2, fh0, fh1, fh2⟩ := hBh.c3
        by_cases hpe : pe = 0
        · subst hpe
          obtain ⟨rfl, hr, hcp, hu'⟩ := now_later _ _ _ _ _ _ z _ _ _ HU.out HN2.out
          have HR := Lib.hid hr
          have HU' := Lib.hid hu'
          have hq : ¬ (cmpS p1 p2 p3 x y z ≤ 0) := by omega
          clear hr hu'
          go_wp2_with fail
          refine (compare_any p1 p2 p3 x y z _).mono ?_
          rintro e w2 ⟨rfl, hb2⟩
          have hB5'' := hB5'.keep hb2
          have hB7'' := hB7'.keep hb2
          have hBg'' := hBg.keep hb2
          have hBh'' := hBh.keep hb2
          have hbw2 : Below w.heap.size w w2 := bt hbw hb2
          clear c0 c1 c2 fc0 fc1 fc2 d0 d1 d2 fd0 fd1 fd2 g0 g1 g2 fg0 fg1 fg2 h0 h1 h2 fh0 fh1 fh2
          obtain ⟨lh2, h0, h1, h2, fh0, fh1, fh2⟩ := hBh''.c3
          go_wp2_with fail
          refine (right_any p1 p2 p3 _).mono ?_
          rintro e w3 ⟨rfl, hb3⟩
          rw [HR.out]
          have hB53 := hB5''.keep hb3
          have hB73 := hB7''.keep hb3
          have hBg3 := hBg''.keep hb3
          have hBh3 := hBh''.keep hb3
          have hbw3 : Below w.heap.size w w3 := bt hbw2 hb3
          clear h0 h1 h2 fh0 fh1 fh2
          obtain ⟨l53, c0, c1, c2, fc0, fc1, fc2⟩ := hB53.c3
          obtain ⟨l73, d0, d1, d2, fd0, fd1, fd2⟩ := hB73.c3
          obtain ⟨lg3, g0, g1, g2, fg0, fg1, fg2⟩ := hBg3.c3
          obtain ⟨lh3, h0, h1, h2, fh0, fh1, fh2⟩ := hBh3.c3
          go_wp2_with fail
          go_region
          all_goals
            go_wp2
            go_roundw
            case rel => exact ⟨k + 1, p1, p2, p1, p2, p3, by go_num, by omega, HU'.out, (by repeat (first | with_reducible assumption | (with_reducible refine Blk.drew ?_) | (with_reducible refine Blk.drewN ?_ _) | (with_reducible refine blk_put3 (c0 := .int .i64 a) (c1 := .int .i64 t) (c2 := .int .i64 p3) ?_) | (with_reducible refine blk_far3 ?_ (by omega)))), (by repeat (first | with_reducible assumption | (with_reducible refine Blk.drew ?_) | (with_reducible refine Blk.drewN ?_ _) | (with_reducible refine blk_put3 (c0 := .int .i64 x) (c1 := .int .i64 y) (c2 := .int .i64 z) ?_) | (with_reducible refine blk_far3 ?_ (by omega)))), (by (repeat (first | with_reducible exact b0 _ | with_reducible assumption | with_reducible refine Below.drew ?_ | with_reducible refine below_drewN ?_ _ | with_reducible refine bal ?_ _ | ((with_reducible refine bst ?_ ?_ _); rotate_left; focus (first | exact Nat.le_refl _ | assumption | (simp; done) | (simp; omega) | omega)) | exact below_left (by with_reducible assumption))))⟩
            case measure => simp [intOf]; omega
        · have hq : (pe == 0) = false := by simp [hpe]
          have hq2 : (pe != 0) = true := by simp [hpe]
          go_wp2
          go_roundw
          case rel => exact ⟨k + 1, a, t, x, y, z, by go_num, by omega, HU.out, hB5', hB7', hbw⟩
          case measure => simp [intOf]; omega
    · -- a stamp is heard
      obtain ⟨⟨⟨p1, p2, p3⟩, pe⟩, hN⟩ : ∃ x : (Int × Int × Int) × Int, hearT a t N wl a' t' n' = x := ⟨_, rfl⟩
      have HN2 := Lib.hid hN
      clear hN
      have HS : ∀ w', Below wr.heap.size wr w' → (Below wr.heap.size wr w' ∧ w'.cell? ⟨w1.heap.size, 0, none⟩ = some (.int .i64 a) ∧ w'.cell? ⟨w1.heap.size, 1, none⟩ = some (.int .i64 t) ∧ w'.cell? ⟨w1.heap.size, 2, none⟩ = some (.int .i64 N) ∧ w'.cell? ⟨b, off + k * 5, none⟩ = some (.int .i64 wl) ∧ w'.cell? ⟨b, off + k * 5 + 2, none⟩ = some (.int .i64 a') ∧ w'.cell? ⟨b, off + k * 5 + 3, none⟩ = some (.int .i64 t') ∧ w'.cell? ⟨b, off + k * 5 + 4, none⟩ = some (.int .i64 n')) := fun w' h => by
        obtain ⟨hc, _⟩ := bcell h
        exact ⟨h, by rw [hc _ _ l5]; exact c0, by rw [hc _ _ l5]; exact c1, by rw [hc _ _ l5]; exact c2, by rw [hc _ _ hltb]; exact e0, by rw [hc _ _ hltb]; exact e2, by rw [hc _ _ hltb]; exact e3, by rw [hc _ _ hltb]; exact e4⟩
      go_upto_region 9 with (fail)
      go_cut [9, 10] (fun s9 s10 wx => HearCut wr p1 p2 p3 pe s9 s10 wx)
      case first =>
        go_region_held3 (fun w' => Below wr.heap.size wr w' ∧ w'.cell? ⟨w1.heap.size, 0, none⟩ = some (.int .i64 a) ∧ w'.cell? ⟨w1.heap.size, 1, none⟩ = some (.int .i64 t) ∧ w'.cell? ⟨w1.heap.size, 2, none⟩ = some (.int .i64 N) ∧ w'.cell? ⟨b, off + k * 5, none⟩ = some (.int .i64 wl) ∧ w'.cell? ⟨b, off + k * 5 + 2, none⟩ = some (.int .i64 a') ∧ w'.cell? ⟨b, off + k * 5 + 3, none⟩ = some (.int .i64 t') ∧ w'.cell? ⟨b, off + k * 5 + 4, none⟩ = some (.int .i64 n')) (first | with_reducible assumption | (refine HS _ ?_; (repeat (first | with_reducible exact b0 _ | with_reducible assumption | with_reducible refine Below.drew ?_ | with_reducible refine below_drewN ?_ _ | with_reducible refine bal ?_ _ | ((with_reducible refine bst ?_ ?_ _); rotate_left; focus (first | exact Nat.le_refl _ | assumption | (simp; done) | (simp; omega) | omega)) | exact below_left (by with_reducible assumption))))) (first
          | (go_at_call 15; refine (hear_any a t N wl a' t' n' _).mono ?_; rintro e w2 ⟨rfl, hb1⟩; rw [HN2.out]; simp only [stampT]; have hB1 : Below wr.heap.size wr w2 := (by refine bt ?_ hb1; (repeat (first | with_reducible exact b0 _ | with_reducible assumption | with_reducible refine Below.drew ?_ | with_reducible refine below_drewN ?_ _ | with_reducible refine bal ?_ _ | ((with_reducible refine bst ?_ ?_ _); rotate_left; focus (first | exact Nat.le_refl _ | assumption | (simp; done) | (simp; omega) | omega)) | exact below_left (by with_reducible assumption)))); have hz1 := hB1.size; have hz2 := hb1.size; (try simp at hz2); (try have lz0 : wr.heap.size < w2.heap.size := (by omega)); (try have lz1 : wr.heap.size + 1 < w2.heap.size := (by omega)); (try have lz2 : wr.heap.size ≠ w2.heap.size := (by omega)); (try have lz3 : w2.heap.size ≠ wr.heap.size := (by omega)); (first | (with_reducible have zb0 : Blk w2 (wr.heap.size) 25 #[.int .i64 0, .int .i64 0, .int .i64 0] := Blk.keep ((Blk.new wr 25 #[.int .i64 0, .int .i64 0, .int .i64 0]).drew) hb1; have zc0 := zb0.c3) | skip); have hk := HS w2 hB1))
        all_goals
          go_wp2_with fail
          go_meet
          case rel =>
            refine ⟨_, rfl, rfl, ?_, ?_, ?_⟩
            · first | exact Nat.le_refl _ | omega
            · (repeat (first | (with_reducible assumption) | (with_reducible refine Blk.drew ?_) | (with_reducible refine Blk.drewN ?_ _) | (with_reducible exact Blk.new _ _ _) | (with_reducible exact Blk.new' _ _ _ _ (by simp)) | (with_reducible refine blk_put3 (c0 := .int .i64 0) (c1 := .int .i64 0) (c2 := .int .i64 0) ?_) | (with_reducible refine Blk.alloc ?_ _) | (with_reducible refine blk_far3 ?_ (by first | omega | (simp; omega)))))
            · (repeat (first | with_reducible exact b0 _ | with_reducible assumption | with_reducible refine Below.drew ?_ | with_reducible refine below_drewN ?_ _ | with_reducible refine bal ?_ _ | ((with_reducible refine bst ?_ ?_ _); rotate_left; focus (first | exact Nat.le_refl _ | assumption | (simp; done) | (simp; omega) | omega)) | exact below_left (by with_reducible assumption)))
      case rest =>
        obtain ⟨g, rfl, rfl, hg, hBg, hbx⟩ := hcut
        have hB5' := hB5.below hbx l5
        have hB7' := hB7.below hbx l7
        have hbw : Below w.heap.size w wc := bt hb hbx
        have hne : w1.heap.size ≠ g := by omega
        have hne2 : w1.heap.size + 1 ≠ g := by omega
        have x2 := ((bcell hbx).1 _ _ hltb).trans e2
        have x3 := ((bcell hbx).1 _ _ hltb).trans e3
        have x4 := ((bcell hbx).1 _ _ hltb).trans e4
        clear c0 c1 c2 fc0 fc1 fc2 d0 d1 d2 fd0 fd1 fd2 HS e0 e1 e2 e3 e4
        obtain ⟨l5', c0, c1, c2, fc0, fc1, fc2⟩ := hB5'.c3
        obtain ⟨l7', d0, d1, d2, fd0, fd1, fd2⟩ := hB7'.c3
        obtain ⟨lg, g0, g1, g2, fg0, fg1, fg2⟩ := hBg.c3
        by_cases hpe : pe = 0
        · subst hpe
          obtain ⟨⟨q1, q2, q3⟩, hQ⟩ : ∃ q : Int × Int × Int, laterT x y z a' t' n' = q := ⟨_, rfl⟩
          obtain ⟨rfl, hu'⟩ := hear_under _ _ _ _ _ _ _ _ _ _ _ _ _ _ _ _ HU.out HN2.out hQ
          have HQ := Lib.hid hQ
          have HU' := Lib.hid hu'
          clear hQ hu'
          go_upto_region 11 with (fail)
          go_cut [60] (fun s wx => LateCut w w1 p1 p2 p3 q1 q2 q3 s wx)
          case first =>
            go_region_with (first
              | (go_at_call 19; refine (later_any x y z a' t' n' _).mono ?_; rintro e w2 ⟨rfl, hb2⟩; rw [HQ.out]; simp only [stampT]; have hB53 := hB5'.drew.keep hb2; have hB73 := hB7'.drew.keep hb2; have hBg3 := hBg.drew.keep hb2; have hbw3 : Below w.heap.size w w2 := bt (Below.drew hbw) hb2; have k5 := hB53.c3; have k7 := hB73.c3; have kg := hBg3.c3))
            all_goals
              go_wp2_with fail
              go_meet
              case rel => exact ⟨(by repeat (first | with_reducible assumption | (with_reducible refine Blk.drew ?_) | (with_reducible refine Blk.drewN ?_ _) | (with_reducible refine blk_put3 (c0 := .int .i64 a) (c1 := .int .i64 t) (c2 := .int .i64 p3) ?_) | (with_reducible refine blk_far3 ?_ (by omega)))), (by repeat (first | with_reducible assumption | (with_reducible refine Blk.drew ?_) | (with_reducible refine Blk.drewN ?_ _) | (with_reducible refine blk_put3 (c0 := .int .i64 x) (c1 := .int .i64 y) (c2 := .int .i64 z) ?_) | (with_reducible refine blk_far3 ?_ (by omega)))), (by (repeat (first | with_reducible exact b0 _ | with_reducible assumption | with_reducible refine Below.drew ?_ | with_reducible refine below_drewN ?_ _ | with_reducible refine bal ?_ _ | ((with_reducible refine bst ?_ ?_ _); rotate_left; focus (first | exact Nat.le_refl _ | assumption | (simp; done) | (simp; omega) | omega)) | exact below_left (by with_reducible assumption))))⟩
          case rest =>
            obtain ⟨hB53, hB73, hbw3⟩ := hcut
            go_wp2
            go_roundw
            case rel => exact ⟨k + 1, p1, p2, q1, q2, q3, by go_num, by omega, HU'.out, hB53, hB73, hbw3⟩
            case measure => simp [intOf]; omega
        · have hq : (pe == 0) = false := by simp [hpe]
          have hq2 : (pe != 0) = true := by simp [hpe]
          go_wp2
          go_roundw
          case rel => exact ⟨k + 1, a, t, x, y, z, by go_num, by omega, HU.out, hB5', hB7', hbw⟩
          case measure => simp [intOf]; omega
end Go.Proofs.Ytpdjfmdbpnpkfaa
