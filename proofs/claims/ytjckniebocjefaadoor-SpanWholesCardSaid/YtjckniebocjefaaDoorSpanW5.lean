/- The walks of span.Whole and the document's, and of the laws SpanWholes and SpanOnce. -/
import Derived.Test.YtjckniebocjefaaDoorLaw09
import Derived.Test.YtjckniebocjefaaDoorSpans
namespace Go.Proofs.YtjckniebocjefaaDoor
open Go.RowKit
attribute [local go_sem] ByteArray.mk_append_mk ByteArray.extract_mk
attribute [local go_sem ↓] Go.wp_at_zero Go.wp_at_succ
theorem spc_cells {w : World} {B : Nat} {A : Option Addr} {xs : List Sp} (hR : RdR spC 2 w B A xs) (k : Nat) (hk : k < xs.length) :
    ∃ b off, A = some ⟨b, off, none⟩ ∧ b < B ∧ w.cell? ⟨b, off + k * 2, none⟩ = some (.string ⟨xs[k].lo.toArray⟩) ∧ w.cell? ⟨b, off + k * 2 + 1, none⟩ = some (.string ⟨xs[k].hi.toArray⟩) := by
  obtain ⟨b, off, hA, hb, hc⟩ := hR (by omega)
  exact ⟨b, off, hA, hb, hc k hk 0 _ rfl, hc k hk 1 _ rfl⟩
theorem chain_step (first : Bool) (la : List UInt8) (xs : List Sp) (k : Nat) (h : k < xs.length) :
    chainF first la (xs.drop k) = (rightSp xs[k] && (decide (xs[k].lo = la) && ((first || !decide (la = [])) && chainF false xs[k].hi (xs.drop (k + 1))))) := by
  rw [List.drop_eq_getElem_cons h]
  rfl
def WhRel (xs : List Sp) (w : World) (l i : Value) (wr : World) : Prop :=
  ∃ (k : Nat) (la : List UInt8), i = .int .i64 k ∧ l = .string ⟨la.toArray⟩ ∧ k ≤ xs.length ∧ wholeSp xs = chainF (decide (k = 0)) la (xs.drop k) ∧ Below w.heap.size w wr
set_option maxHeartbeats 1600000 in
set_option maxRecDepth 100000 in
theorem spwhole_any (A : Option Addr) (cap : Nat) (xs : List Sp) (hmax : xs.length ≤ 9223372036854775807) (hok : ∀ x ∈ xs, spOk x) (w : World) (hR : RdR spC 2 w w.heap.size A xs) (hT : Go.Lib.Utf8Tabs 0 1 w) :
    Calls Tryd.prog 18 #[.slice A xs.length cap] w fun e w' => e = .returned (.bool (wholeSp xs)) ∧ Below w.heap.size w w' := by
  go_enter Tryd.func18, Tryd.ntmps18
  go_wp2
  go_loopw [3, 8] (fun l i wr => WhRel xs w l i wr) (fun _ i _ => xs.length - (intOf i).toNat)
  case atStart =>
    exact ⟨0, [], rfl, rfl, Nat.zero_le _, rfl, Below.refl _ _⟩
  case round =>
    obtain ⟨k, la, rfl, rfl, hk, hch, hb⟩ := hrel
    have hbs := hb.size
    have i0 : (0 : Int) ≤ (k : Int) := by omega
    by_cases hlt : k < xs.length
    case pos =>
      have hst := chain_step (decide (k = 0)) la xs k hlt
      obtain ⟨b, off, rfl, hbB, g0, g1⟩ := spc_cells hR k hlt
      have hox := hok xs[k] (List.getElem_mem hlt)
      have c0 := (hb.cell (p := ⟨b, _, none⟩) hbB).trans g0
      have c1 := (hb.cell (p := ⟨b, _, none⟩) hbB).trans g1
      have i1 : (k : Int) < (xs.length : Int) := by omega
      obtain ⟨⟨lo, hi⟩, hx⟩ : ∃ x, xs[k] = x := ⟨_, rfl⟩
      rw [hx] at hst hox c0 c1
      simp only at hst c0 c1
      obtain ⟨hlo63, hhi63⟩ := hox
      simp only at hlo63 hhi63
      rw [hst] at hch
      have HC := Lib.hid hch
      clear hch hst hx g0 g1
      obtain ⟨q, hq⟩ : ∃ q, rightSp ⟨lo, hi⟩ = q := ⟨_, rfl⟩
      have HQ := Lib.hid hq
      clear hq
      go_wp2_with fail
      refine (spright_any lo hi hlo63 hhi63 _ (Utf8Tabs_below hT (by (repeat (first | with_reducible exact b0 _ | with_reducible assumption | with_reducible refine Below.drew ?_ | with_reducible refine below_drewN ?_ _ | with_reducible refine bal ?_ _ | ((with_reducible refine bst ?_ ?_ _); rotate_left; focus (first | exact Nat.le_refl _ | assumption | (simp; done) | (simp; omega) | omega)) | exact below_left (by with_reducible assumption)))))).mono ?_
      rintro e w1 ⟨rfl, hb1⟩
      rw [HQ.out]
      have hB1 : Below w.heap.size w w1 := bt (by (repeat (first | with_reducible exact b0 _ | with_reducible assumption | with_reducible refine Below.drew ?_ | with_reducible refine below_drewN ?_ _ | with_reducible refine bal ?_ _ | ((with_reducible refine bst ?_ ?_ _); rotate_left; focus (first | exact Nat.le_refl _ | assumption | (simp; done) | (simp; omega) | omega)) | exact below_left (by with_reducible assumption)))) hb1
      have Gs1 : Blk w1 wr.heap.size 23 #[.string ⟨lo.toArray⟩, .string ⟨hi.toArray⟩] := Blk.keep (Blk.new wr _ _) hb1
      obtain ⟨sl, s0, s1, s2, s3⟩ := Gs1.c2
      clear c0 c1
      cases q
      case false =>
        go_wp2
        go_ret
        exact ⟨ret_bool (by rw [HC.out]; simp [HQ.out]), by (repeat (first | with_reducible exact b0 _ | with_reducible assumption | with_reducible refine Below.drew ?_ | with_reducible refine below_drewN ?_ _ | with_reducible refine bal ?_ _ | ((with_reducible refine bst ?_ ?_ _); rotate_left; focus (first | exact Nat.le_refl _ | assumption | (simp; done) | (simp; omega) | omega)) | exact below_left (by with_reducible assumption)))⟩
      case true =>
        by_cases hl : lo = la
        case neg =>
          have el := str_ne hl
          have NL := Lib.hid hl
          go_wp2
          go_ret
          exact ⟨ret_bool (by rw [HC.out]; simp [HQ.out, NL.out]), by (repeat (first | with_reducible exact b0 _ | with_reducible assumption | with_reducible refine Below.drew ?_ | with_reducible refine below_drewN ?_ _ | with_reducible refine bal ?_ _ | ((with_reducible refine bst ?_ ?_ _); rotate_left; focus (first | exact Nat.le_refl _ | assumption | (simp; done) | (simp; omega) | omega)) | exact below_left (by with_reducible assumption)))⟩
        case pos =>
          subst hl
          by_cases hk0 : k = 0
          case pos =>
            subst hk0
            go_wp2
            go_roundw
            case rel =>
              exact ⟨1, hi, by go_num, rfl, by omega, by rw [HC.out]; simp [HQ.out], by (repeat (first | with_reducible exact b0 _ | with_reducible assumption | with_reducible refine Below.drew ?_ | with_reducible refine below_drewN ?_ _ | with_reducible refine bal ?_ _ | ((with_reducible refine bst ?_ ?_ _); rotate_left; focus (first | exact Nat.le_refl _ | assumption | (simp; done) | (simp; omega) | omega)) | exact below_left (by with_reducible assumption)))⟩
            case measure =>
              simp [intOf]; omega
          case neg =>
            have hk1 : (0 : Int) < k := by omega
            have NK := Lib.hid hk0
            by_cases hn : lo = []
            case pos =>
              subst hn
              go_wp2
              go_ret
              exact ⟨ret_bool (by rw [HC.out]; simp [HQ.out, NK.out]), by (repeat (first | with_reducible exact b0 _ | with_reducible assumption | with_reducible refine Below.drew ?_ | with_reducible refine below_drewN ?_ _ | with_reducible refine bal ?_ _ | ((with_reducible refine bst ?_ ?_ _); rotate_left; focus (first | exact Nat.le_refl _ | assumption | (simp; done) | (simp; omega) | omega)) | exact below_left (by with_reducible assumption)))⟩
            case neg =>
              have en := mk_ne lo hn
              have NN := Lib.hid hn
              go_wp2
              go_roundw
              case rel =>
                exact ⟨k + 1, hi, by go_num, rfl, by omega, by rw [HC.out]; simp [HQ.out, NK.out, NN.out], by (repeat (first | with_reducible exact b0 _ | with_reducible assumption | with_reducible refine Below.drew ?_ | with_reducible refine below_drewN ?_ _ | with_reducible refine bal ?_ _ | ((with_reducible refine bst ?_ ?_ _); rotate_left; focus (first | exact Nat.le_refl _ | assumption | (simp; done) | (simp; omega) | omega)) | exact below_left (by with_reducible assumption)))⟩
              case measure =>
                simp [intOf]; omega
    case neg =>
      have hke : k = xs.length := by omega
      subst hke
      rw [List.drop_length] at hch
      have hcf : wholeSp xs = (!decide (xs.length = 0) && decide (la = [])) := hch
      have HC := Lib.hid hcf
      clear hch hcf
      by_cases hn0 : xs.length = 0
      case pos =>
        have hz : ((xs.length : Int)) = 0 := by omega
        have NZ := Lib.hid hn0
        go_wp2
        go_ret
        exact ⟨ret_bool (by rw [HC.out]; simp [NZ.out]), by (repeat (first | with_reducible exact b0 _ | with_reducible assumption | with_reducible refine Below.drew ?_ | with_reducible refine below_drewN ?_ _ | with_reducible refine bal ?_ _ | ((with_reducible refine bst ?_ ?_ _); rotate_left; focus (first | exact Nat.le_refl _ | assumption | (simp; done) | (simp; omega) | omega)) | exact below_left (by with_reducible assumption)))⟩
      case neg =>
        have hz : (0 : Int) < (xs.length : Int) := by omega
        have NZ := Lib.hid hn0
        by_cases hn : la = []
        case pos =>
          subst hn
          go_wp2
          go_ret
          exact ⟨ret_bool (by rw [HC.out]; simp [NZ.out]), by (repeat (first | with_reducible exact b0 _ | with_reducible assumption | with_reducible refine Below.drew ?_ | with_reducible refine below_drewN ?_ _ | with_reducible refine bal ?_ _ | ((with_reducible refine bst ?_ ?_ _); rotate_left; focus (first | exact Nat.le_refl _ | assumption | (simp; done) | (simp; omega) | omega)) | exact below_left (by with_reducible assumption)))⟩
        case neg =>
          have en := mk_ne la hn
          have NN := Lib.hid hn
          go_wp2
          go_ret
          exact ⟨ret_bool (by rw [HC.out]; simp [NZ.out, NN.out]), by (repeat (first | with_reducible exact b0 _ | with_reducible assumption | with_reducible refine Below.drew ?_ | with_reducible refine below_drewN ?_ _ | with_reducible refine bal ?_ _ | ((with_reducible refine bst ?_ ?_ _); rotate_left; focus (first | exact Nat.le_refl _ | assumption | (simp; done) | (simp; omega) | omega)) | exact below_left (by with_reducible assumption)))⟩
def JCut (W : World) (T : TypeId) (cu : Array Value) (en : Nat) (s5 s6 : Value) (wx : World) : Prop :=
  ∃ gu, s5 = .pointer (some ⟨gu, 0, none⟩) ∧ s6 = .int .i64 en ∧ W.heap.size ≤ gu ∧ Blk wx gu T cu ∧ Below W.heap.size W wx
theorem join_len (a b u : Sp) (n : Nat) (h : joinSp a b = (u, n)) (ha : a.lo.length ≤ 9223372036854775807) (hb : b.hi.length ≤ 9223372036854775807) : u.lo.length ≤ 9223372036854775807 ∧ u.hi.length ≤ 9223372036854775807 := by
  unfold joinSp zSp at h
  split at h
  · injection h with h1 h2; subst h1; simp
  · split at h
    · injection h with h1 h2; subst h1; simp
    · injection h with h1 h2; subst h1; exact ⟨ha, hb⟩
theorem rwF_step (s u : Sp) (n : Nat) (xs : List Sp) (k : Nat) (hk : k < xs.length) (h : joinSp s xs[k] = (u, n)) : rwF s (xs.drop k) = if n ≠ 0 then false else rwF u (xs.drop (k + 1)) := by
  rw [List.drop_eq_getElem_cons hk]
  simp only [rwF, h]
def RwRel (xs : List Sp) (w : World) (g : Nat) (i : Value) (wr : World) : Prop :=
  ∃ (k : Nat) (lo hi : List UInt8), i = .int .i64 k ∧ 1 ≤ k ∧ k ≤ xs.length ∧ lo.length ≤ 9223372036854775807 ∧ hi.length ≤ 9223372036854775807 ∧ refWholeSp xs = rwF ⟨lo, hi⟩ (xs.drop k) ∧ Blk wr g 23 #[.string ⟨lo.toArray⟩, .string ⟨hi.toArray⟩] ∧ Below w.heap.size w wr
set_option maxHeartbeats 1600000 in
set_option maxRecDepth 100000 in
theorem refspwhole_any (A : Option Addr) (cap : Nat) (xs : List Sp) (hmax : xs.length ≤ 9223372036854775807) (hok : ∀ x ∈ xs, spOk x) (w : World) (hR : RdR spC 2 w w.heap.size A xs) :
    Calls Tryd.prog 19 #[.slice A xs.length cap] w fun e w' => e = .returned (.bool (refWholeSp xs)) ∧ Below w.heap.size w w' := by
  by_cases hn0 : xs.length = 0
  case pos =>
    have hr : refWholeSp xs = false := by rw [List.eq_nil_of_length_eq_zero hn0]; rfl
    have HR := Lib.hid hr
    clear hr
    have hz : ((xs.length : Int) == 0) = true := by rw [hn0]; rfl
    have hz2 : (xs.length : Int) = 0 := by omega
    go_enter Tryd.func19, Tryd.ntmps19
    go_wp2
    go_ret
    exact ⟨by rw [HR.out] <;> rfl, Below.refl _ _⟩
  case neg =>
    have hz : ((xs.length : Int) == 0) = false := by rw [beq_eq_false_iff_ne]; omega
    have hz2 : ¬ (xs.length : Int) = 0 := by omega
    have hp : 0 < xs.length := by omega
    obtain ⟨b, off, rfl, hbB, g0, g1⟩ := spc_cells hR 0 hp
    rw [Nat.zero_mul, Nat.add_zero] at g0 g1
    have hox := hok xs[0] (List.getElem_mem hp)
    have hw : refWholeSp xs = (rightSp xs[0] && rwF xs[0] (xs.drop 1)) := by
      conv => lhs; rw [← List.drop_zero (l := xs), List.drop_eq_getElem_cons hp]
      rfl
    obtain ⟨⟨lo, hi⟩, hx⟩ : ∃ x, xs[0] = x := ⟨_, rfl⟩
    rw [hx] at hw hox g0 g1
    simp only at g0 g1
    obtain ⟨hlo63, hhi63⟩ := hox
    simp only at hlo63 hhi63
    have HW := Lib.hid hw
    clear hw hx
    obtain ⟨q, hq⟩ : ∃ q, rightSp ⟨lo, hi⟩ = q := ⟨_, rfl⟩
    have HQ := Lib.hid hq
    clear hq
    go_enter Tryd.func19, Tryd.ntmps19
    go_wp2_with fail
    refine (refspright_any lo hi hlo63 hhi63 _).mono ?_
    rintro e w1 ⟨rfl, hb1⟩
    rw [HQ.out]
    cases q
    case false =>
      go_wp2
      go_ret
      exact ⟨ret_bool (by rw [HW.out, HQ.out]; rfl), by (repeat (first | with_reducible exact b0 _ | with_reducible assumption | with_reducible refine Below.drew ?_ | with_reducible refine below_drewN ?_ _ | with_reducible refine bal ?_ _ | ((with_reducible refine bst ?_ ?_ _); rotate_left; focus (first | exact Nat.le_refl _ | assumption | (simp; done) | (simp; omega) | omega)) | exact below_left (by with_reducible assumption)))⟩
    case true =>
      have c0 := (hb1.cell (p := ⟨b, _, none⟩) hbB).trans g0
      have c1 := (hb1.cell (p := ⟨b, _, none⟩) hbB).trans g1
      clear g0 g1
      have hs1 := hb1.size
      go_wp2
      go_loopw [4] (fun i wr => RwRel xs w w1.heap.size i wr) (fun i _ => xs.length - (intOf i).toNat)
      case atStart =>
        exact ⟨1, lo, hi, rfl, by omega, by omega, hlo63, hhi63, by rw [HW.out, HQ.out]; rfl, Blk.new w1 _ _, by (repeat (first | with_reducible exact b0 _ | with_reducible assumption | with_reducible refine Below.drew ?_ | with_reducible refine below_drewN ?_ _ | with_reducible refine bal ?_ _ | ((with_reducible refine bst ?_ ?_ _); rotate_left; focus (first | exact Nat.le_refl _ | assumption | (simp; done) | (simp; omega) | omega)) | exact below_left (by with_reducible assumption)))⟩
      case round =>
        clear c0 c1 hlo63 hhi63 HW HQ
        obtain ⟨k, lo, hi, rfl, hk1, hk, hlo63, hhi63, hch, hB, hb⟩ := hrel
        have hbs := hb.size
        have i0 : (0 : Int) ≤ (k : Int) := by omega
        obtain ⟨sl, s0, s1, s2, s3⟩ := hB.c2
        by_cases hlt : k < xs.length
        case pos =>
          obtain ⟨b', off', hA, hbB', g0, g1⟩ := spc_cells hR k hlt
          obtain ⟨rfl, rfl⟩ : b' = b ∧ off' = off := by injection hA with h; injection h with h1 h2; exact ⟨h1.symm, h2.symm⟩
          clear hA hbB'
          have hox := hok xs[k] (List.getElem_mem hlt)
          have c0 := (hb.cell (p := ⟨b', _, none⟩) hbB).trans g0
          have c1 := (hb.cell (p := ⟨b', _, none⟩) hbB).trans g1
          have i1 : (k : Int) < (xs.length : Int) := by omega
          obtain ⟨⟨jo, ji⟩, en, hj⟩ : ∃ (u : Sp) (n : Nat), joinSp ⟨lo, hi⟩ xs[k] = (u, n) := ⟨_, _, rfl⟩
          have hst := rwF_step _ _ _ xs k hlt hj
          have hjl := join_len _ _ _ _ hj hlo63 hox.2
          simp only at hjl
          obtain ⟨⟨lo', hi'⟩, hx⟩ : ∃ x, xs[k] = x := ⟨_, rfl⟩
          rw [hx] at hj hox c0 c1
          simp only at c0 c1
          obtain ⟨hlo', hhi'⟩ := hox
          simp only at hlo' hhi'
          rw [hst] at hch
          have HC := Lib.hid hch
          have HJ := Lib.hid hj
          clear hch hst hx hj g0 g1
          have hltb : b' < wr.heap.size := by omega
          go_upto_region 7 with (fail)
          go_cut [5, 6] (fun s5 s6 wx => JCut wr 23 #[.string ⟨jo.toArray⟩, .string ⟨ji.toArray⟩] en s5 s6 wx)
          case first =>
            have HS : ∀ w', Below wr.heap.size wr w' → (Below wr.heap.size wr w' ∧ w'.cell? ⟨w1.heap.size, 0, none⟩ = some (.string ⟨lo.toArray⟩) ∧ w'.cell? ⟨w1.heap.size, 1, none⟩ = some (.string ⟨hi.toArray⟩) ∧ w'.cell? ⟨b', off' + k * 2, none⟩ = some (.string ⟨lo'.toArray⟩) ∧ w'.cell? ⟨b', off' + k * 2 + 1, none⟩ = some (.string ⟨hi'.toArray⟩)) := fun w' h => by
              obtain ⟨hc, _⟩ := bcell h
              exact ⟨h, by rw [hc _ _ sl]; exact s0, by rw [hc _ _ sl]; exact s1, by rw [hc _ _ hltb]; exact c0, by rw [hc _ _ hltb]; exact c1⟩
            go_region_held3 (fun w' => (Below wr.heap.size wr w' ∧ w'.cell? ⟨w1.heap.size, 0, none⟩ = some (.string ⟨lo.toArray⟩) ∧ w'.cell? ⟨w1.heap.size, 1, none⟩ = some (.string ⟨hi.toArray⟩) ∧ w'.cell? ⟨b', off' + k * 2, none⟩ = some (.string ⟨lo'.toArray⟩) ∧ w'.cell? ⟨b', off' + k * 2 + 1, none⟩ = some (.string ⟨hi'.toArray⟩))) (first | with_reducible assumption | (refine HS _ ?_; (repeat (first | with_reducible exact b0 _ | with_reducible assumption | with_reducible refine Below.drew ?_ | with_reducible refine below_drewN ?_ _ | with_reducible refine bal ?_ _ | ((with_reducible refine bst ?_ ?_ _); rotate_left; focus (first | exact Nat.le_refl _ | assumption | (simp; done) | (simp; omega) | omega)) | exact below_left (by with_reducible assumption))))) (first
                  | (go_at_call 22; refine (refspjoin_any lo hi hlo63 hhi63 lo' hi' hlo' hhi' _).mono ?_; rintro e wv ⟨rfl, hbwv⟩; rw [HJ.out]; have hzwv := hbwv.size; (try simp at hzwv); obtain ⟨hcwv, hfwv⟩ := bcell hbwv; (try (by_cases hA0 : wr.heap.size < wv.heap.size; rotate_left; focus (exfalso; omega))); have hBwv : Below wr.heap.size wr wv := (by refine bt ?_ hbwv; (repeat (first | with_reducible exact b0 _ | with_reducible assumption | with_reducible refine Below.drew ?_ | with_reducible refine below_drewN ?_ _ | with_reducible refine bal ?_ _ | ((with_reducible refine bst ?_ ?_ _); rotate_left; focus (first | exact Nat.le_refl _ | assumption | (simp; done) | (simp; omega) | omega)) | exact below_left (by with_reducible assumption)))); have hk := HS wv hBwv))
            all_goals
              clear hk HS
              go_wp2_with fail
              go_meet
              case rel =>
                exact ⟨_, rfl, rfl, by (first | exact Nat.le_refl _ | assumption | omega | (simp; done) | (simp; omega)), by (repeat (first | with_reducible assumption | with_reducible exact Blk.new _ _ _ | with_reducible refine Blk.drew ?_ | with_reducible refine Blk.drewN ?_ _ | ((with_reducible refine Blk.new' _ _ _ _ ?_); focus (first | (simp; done) | (simp; omega))) | with_reducible refine Blk.alloc ?_ _ | ((with_reducible refine Blk.far ?_ ?_ _); rotate_left; focus (first | (simp; done) | (simp; omega))) | with_reducible refine blk_put2 (c0 := .string ⟨#[]⟩) (c1 := .string ⟨#[]⟩) ?_ | with_reducible refine Blk.keep ?_ hbwv)), by (repeat (first | with_reducible exact b0 _ | with_reducible assumption | with_reducible refine Below.drew ?_ | with_reducible refine below_drewN ?_ _ | with_reducible refine bal ?_ _ | ((with_reducible refine bst ?_ ?_ _); rotate_left; focus (first | exact Nat.le_refl _ | assumption | (simp; done) | (simp; omega) | omega)) | exact below_left (by with_reducible assumption)))⟩
          case rest =>
            obtain ⟨gu, rfl, rfl, hgu, Gu, hBc⟩ := hcut
            have hBx := bt hb hBc
            have hBt := hB.keep hBc
            clear sl s0 s1 s2 s3 c0 c1
            obtain ⟨sl, s0, s1, s2, s3⟩ := hBt.c2
            obtain ⟨ul, u0, u1, u2, u3⟩ := Gu.c2
            by_cases he : en = 0
            case pos =>
              subst he
              have hx1 := hBt
              go_wp2
              go_roundw
              case rel =>
                exact ⟨k + 1, jo, ji, by go_num, by omega, by omega, hjl.1, hjl.2, by rw [HC.out]; simp, blk_put2 hBt, bst (bst hBx (by show _ ≤ w1.heap.size; omega) _) (by show _ ≤ w1.heap.size; omega) _⟩
              case measure =>
                simp [intOf]; omega
            case neg =>
              have hne : ((en : Int) != 0) = true := by simp; omega
              have NE := Lib.hid he
              go_wp2
              go_ret
              exact ⟨ret_bool (by rw [HC.out]; simp [NE.out]), by (repeat (first | with_reducible exact b0 _ | with_reducible assumption | with_reducible refine Below.drew ?_ | with_reducible refine below_drewN ?_ _ | with_reducible refine bal ?_ _ | ((with_reducible refine bst ?_ ?_ _); rotate_left; focus (first | exact Nat.le_refl _ | assumption | (simp; done) | (simp; omega) | omega)) | exact below_left (by with_reducible assumption)))⟩
        case neg =>
          have hke : k = xs.length := by omega
          subst hke
          rw [List.drop_length] at hch
          have hcf : refWholeSp xs = (decide (lo = []) && decide (hi = [])) := by rw [hch]; simp [rwF, zSp]
          have HC := Lib.hid hcf
          clear hch hcf
          by_cases ho : lo = []
          case pos =>
            subst ho
            by_cases hh : hi = []
            case pos =>
              subst hh
              go_wp2
              go_ret
              exact ⟨ret_bool (by rw [HC.out]; rfl), by (repeat (first | with_reducible exact b0 _ | with_reducible assumption | with_reducible refine Below.drew ?_ | with_reducible refine below_drewN ?_ _ | with_reducible refine bal ?_ _ | ((with_reducible refine bst ?_ ?_ _); rotate_left; focus (first | exact Nat.le_refl _ | assumption | (simp; done) | (simp; omega) | omega)) | exact below_left (by with_reducible assumption)))⟩
            case neg =>
              have eh := mk_ne hi hh
              have NH := Lib.hid hh
              go_wp2
              go_ret
              exact ⟨ret_bool (by rw [HC.out]; simp [NH.out]), by (repeat (first | with_reducible exact b0 _ | with_reducible assumption | with_reducible refine Below.drew ?_ | with_reducible refine below_drewN ?_ _ | with_reducible refine bal ?_ _ | ((with_reducible refine bst ?_ ?_ _); rotate_left; focus (first | exact Nat.le_refl _ | assumption | (simp; done) | (simp; omega) | omega)) | exact below_left (by with_reducible assumption)))⟩
          case neg =>
            have eo := mk_ne lo ho
            have NO := Lib.hid ho
            go_wp2
            go_ret
            exact ⟨ret_bool (by rw [HC.out]; simp [NO.out]), by (repeat (first | with_reducible exact b0 _ | with_reducible assumption | with_reducible refine Below.drew ?_ | with_reducible refine below_drewN ?_ _ | with_reducible refine bal ?_ _ | ((with_reducible refine bst ?_ ?_ _); rotate_left; focus (first | exact Nat.le_refl _ | assumption | (simp; done) | (simp; omega) | omega)) | exact below_left (by with_reducible assumption)))⟩
set_option maxHeartbeats 1600000 in
set_option maxRecDepth 100000 in
theorem spanWholes_walk (A : Option Addr) (n cap : Nat) (xs : List Sp) (hn : xs.length = n) (hmax : n ≤ 9223372036854775807) (_hcap : n ≤ cap) (hok : ∀ x ∈ xs, spOk x) (w : World) (hR : RdR spC 2 w w.heap.size A xs) (hT : Go.Lib.Utf8Tabs 0 1 w) :
    Calls Tryd.prog 6 #[.slice A n cap] w fun e w' => e = .returned (.bool true) ∧ Below w.heap.size w w' := by
  subst hn
  by_cases h100 : 100 < xs.length
  case pos =>
    have g100 : (100 : Int) < xs.length := by omega
    go_enter Tryd.func6, Tryd.ntmps6
    go_wp2_with fail
    refine (awake09 _ (Utf8Tabs_below hT (by (repeat (first | with_reducible exact b0 _ | with_reducible assumption | with_reducible refine Below.drew ?_ | with_reducible refine below_drewN ?_ _ | with_reducible refine bal ?_ _ | ((with_reducible refine bst ?_ ?_ _); rotate_left; focus (first | exact Nat.le_refl _ | assumption | (simp; done) | (simp; omega) | omega)) | exact below_left (by with_reducible assumption)))))).mono ?_
    rintro e w1 ⟨rfl, hb1⟩
    go_wp2
    go_ret
    exact ⟨rfl, bt (by (repeat (first | with_reducible exact b0 _ | with_reducible assumption | with_reducible refine Below.drew ?_ | with_reducible refine below_drewN ?_ _ | with_reducible refine bal ?_ _ | ((with_reducible refine bst ?_ ?_ _); rotate_left; focus (first | exact Nat.le_refl _ | assumption | (simp; done) | (simp; omega) | omega)) | exact below_left (by with_reducible assumption)))) hb1⟩
  case neg =>
    have g100 : ¬ ((100 : Int) < xs.length) := by omega
    obtain ⟨q, hq⟩ : ∃ q, wholeSp xs = q := ⟨_, rfl⟩
    have HQ := Lib.hid hq
    have HQ2 : Hid (refWholeSp xs = q) := Lib.hid (by rw [refWhole_eq, hq])
    clear hq
    go_enter Tryd.func6, Tryd.ntmps6
    go_wp2_with fail
    refine (spwhole_any A cap xs hmax hok _ hR hT).mono ?_
    rintro e w1 ⟨rfl, hb1⟩
    rw [HQ.out]
    have hR1 := (hR.below hb1 (Nat.le_refl _)).more hb1.size
    go_wp2_with fail
    refine (refspwhole_any A cap xs hmax hok _ hR1).mono ?_
    rintro e w2 ⟨rfl, hb2⟩
    rw [HQ2.out]
    have hB2 : Below w.heap.size w w2 := bt hb1 hb2
    have em : (q == q) = true := by simp
    go_wp2_with fail
    refine (awake09 _ (Utf8Tabs_below hT (by (repeat (first | with_reducible exact b0 _ | with_reducible assumption | with_reducible refine Below.drew ?_ | with_reducible refine below_drewN ?_ _ | with_reducible refine bal ?_ _ | ((with_reducible refine bst ?_ ?_ _); rotate_left; focus (first | exact Nat.le_refl _ | assumption | (simp; done) | (simp; omega) | omega)) | exact below_left (by with_reducible assumption)))))).mono ?_
    rintro e w3 ⟨rfl, hb3⟩
    go_wp2
    go_ret
    exact ⟨rfl, bt (by (repeat (first | with_reducible exact b0 _ | with_reducible assumption | with_reducible refine Below.drew ?_ | with_reducible refine below_drewN ?_ _ | with_reducible refine bal ?_ _ | ((with_reducible refine bst ?_ ?_ _); rotate_left; focus (first | exact Nat.le_refl _ | assumption | (simp; done) | (simp; omega) | omega)) | exact below_left (by with_reducible assumption)))) hb3⟩
def OnRel (kk : List UInt8) (xs : List Sp) (w : World) (c i : Value) (wr : World) : Prop :=
  ∃ k m : Nat, i = .int .i64 k ∧ c = .int .i64 m ∧ k ≤ xs.length ∧ m ≤ k ∧ m + countSp kk (xs.drop k) = 1 ∧ Below w.heap.size w wr
theorem count_step (kk : List UInt8) (xs : List Sp) (k : Nat) (h : k < xs.length) : countSp kk (xs.drop k) = (if hasSp xs[k] kk = true then 1 else 0) + countSp kk (xs.drop (k + 1)) := by
  rw [List.drop_eq_getElem_cons h]
  rfl
set_option maxHeartbeats 1600000 in
set_option maxRecDepth 100000 in
theorem spanOnce_walk (A : Option Addr) (n cap : Nat) (xs : List Sp) (hn : xs.length = n) (hmax : n ≤ 9223372036854775807) (_hcap : n ≤ cap) (hok : ∀ x ∈ xs, spOk x) (y : List UInt8) (zy : y.length ≤ 140737488351232) (w : World) (hR : RdR spC 2 w w.heap.size A xs) (hT : Go.Lib.Utf8Tabs 0 1 w) :
    Calls Tryd.prog 7 #[.slice A n cap, .string ⟨y.toArray⟩] w fun e w' => e = .returned (.bool true) ∧ Below w.heap.size w w' := by
  subst hn
  by_cases h100 : 100 < xs.length
  case pos =>
    have g100 : (100 : Int) < xs.length := by omega
    go_enter Tryd.func7, Tryd.ntmps7
    go_wp2_with fail
    refine (awake09 _ (Utf8Tabs_below hT (by (repeat (first | with_reducible exact b0 _ | with_reducible assumption | with_reducible refine Below.drew ?_ | with_reducible refine below_drewN ?_ _ | with_reducible refine bal ?_ _ | ((with_reducible refine bst ?_ ?_ _); rotate_left; focus (first | exact Nat.le_refl _ | assumption | (simp; done) | (simp; omega) | omega)) | exact below_left (by with_reducible assumption)))))).mono ?_
    rintro e w1 ⟨rfl, hb1⟩
    go_wp2
    go_ret
    exact ⟨rfl, bt (by (repeat (first | with_reducible exact b0 _ | with_reducible assumption | with_reducible refine Below.drew ?_ | with_reducible refine below_drewN ?_ _ | with_reducible refine bal ?_ _ | ((with_reducible refine bst ?_ ?_ _); rotate_left; focus (first | exact Nat.le_refl _ | assumption | (simp; done) | (simp; omega) | omega)) | exact below_left (by with_reducible assumption)))) hb1⟩
  case neg =>
    have g100 : ¬ ((100 : Int) < xs.length) := by omega
    obtain ⟨q, hq⟩ : ∃ q, wholeSp xs = q := ⟨_, rfl⟩
    obtain ⟨r, hr⟩ : ∃ q, rightL y = q := ⟨_, rfl⟩
    have hon : q = true → r = true → countSp y xs = 1 := fun a b => once y xs (by rw [hr, b]) (by rw [hq, a])
    have HO := Lib.hid hon
    have HQ := Lib.hid hq
    have HR := Lib.hid hr
    clear hq hr hon
    go_enter Tryd.func7, Tryd.ntmps7
    go_wp2_with fail
    refine (spwhole_any A cap xs hmax hok _ hR hT).mono ?_
    rintro e w1 ⟨rfl, hb1⟩
    rw [HQ.out]
    cases q
    case false =>
      go_wp2_with fail
      refine (awake09 _ (Utf8Tabs_below hT (by (repeat (first | with_reducible exact b0 _ | with_reducible assumption | with_reducible refine Below.drew ?_ | with_reducible refine below_drewN ?_ _ | with_reducible refine bal ?_ _ | ((with_reducible refine bst ?_ ?_ _); rotate_left; focus (first | exact Nat.le_refl _ | assumption | (simp; done) | (simp; omega) | omega)) | exact below_left (by with_reducible assumption)))))).mono ?_
      rintro e w2 ⟨rfl, hb2⟩
      go_wp2
      go_ret
      exact ⟨rfl, bt (by (repeat (first | with_reducible exact b0 _ | with_reducible assumption | with_reducible refine Below.drew ?_ | with_reducible refine below_drewN ?_ _ | with_reducible refine bal ?_ _ | ((with_reducible refine bst ?_ ?_ _); rotate_left; focus (first | exact Nat.le_refl _ | assumption | (simp; done) | (simp; omega) | omega)) | exact below_left (by with_reducible assumption)))) hb2⟩
    case true =>
      go_wp2_with fail
      refine (refkright_below y (by omega) _).mono ?_
      rintro e w2 ⟨rfl, hb2⟩
      rw [HR.out]
      have hB2 : Below w.heap.size w w2 := bt hb1 hb2
      cases r
      case false =>
        go_wp2_with fail
        refine (awake09 _ (Utf8Tabs_below hT (by (repeat (first | with_reducible exact b0 _ | with_reducible assumption | with_reducible refine Below.drew ?_ | with_reducible refine below_drewN ?_ _ | with_reducible refine bal ?_ _ | ((with_reducible refine bst ?_ ?_ _); rotate_left; focus (first | exact Nat.le_refl _ | assumption | (simp; done) | (simp; omega) | omega)) | exact below_left (by with_reducible assumption)))))).mono ?_
        rintro e w3 ⟨rfl, hb3⟩
        go_wp2
        go_ret
        exact ⟨rfl, bt (by (repeat (first | with_reducible exact b0 _ | with_reducible assumption | with_reducible refine Below.drew ?_ | with_reducible refine below_drewN ?_ _ | with_reducible refine bal ?_ _ | ((with_reducible refine bst ?_ ?_ _); rotate_left; focus (first | exact Nat.le_refl _ | assumption | (simp; done) | (simp; omega) | omega)) | exact below_left (by with_reducible assumption)))) hb3⟩
      case true =>
        have h1 : countSp y xs = 1 := by have h := HO.out; simpa using h
        have H1 := Lib.hid h1
        clear h1
        go_wp2
        go_loopw [5, 24] (fun c i wr => OnRel y xs w c i wr) (fun _ i _ => xs.length - (intOf i).toNat)
        case atStart =>
          exact ⟨0, 0, rfl, rfl, Nat.zero_le _, Nat.le_refl _, by rw [List.drop_zero, H1.out], hB2⟩
        case round =>
          obtain ⟨k, m, rfl, rfl, hk, hm, hct, hb⟩ := hrel
          have hbs := hb.size
          have i0 : (0 : Int) ≤ (k : Int) := by omega
          by_cases hlt : k < xs.length
          case pos =>
            obtain ⟨b, off, rfl, hbB, g0, g1⟩ := spc_cells hR k hlt
            have hst := count_step y xs k hlt
            have hox := hok xs[k] (List.getElem_mem hlt)
            have c0 := (hb.cell (p := ⟨b, _, none⟩) hbB).trans g0
            have c1 := (hb.cell (p := ⟨b, _, none⟩) hbB).trans g1
            have i1 : (k : Int) < (xs.length : Int) := by omega
            obtain ⟨⟨lo, hi⟩, hx⟩ : ∃ x, xs[k] = x := ⟨_, rfl⟩
            rw [hx] at hst hox c0 c1
            simp only at c0 c1
            obtain ⟨hlo63, hhi63⟩ := hox
            simp only at hlo63 hhi63
            rw [hst] at hct
            have HC := Lib.hid hct
            clear hct hst hx g0 g1
            obtain ⟨q, hq⟩ : ∃ q, hasSp ⟨lo, hi⟩ y = q := ⟨_, rfl⟩
            have HH := Lib.hid hq
            clear hq
            go_wp2_with fail
            refine (sphas_any lo hi hlo63 hhi63 y (by omega) _ (Utf8Tabs_below hT (by (repeat (first | with_reducible exact b0 _ | with_reducible assumption | with_reducible refine Below.drew ?_ | with_reducible refine below_drewN ?_ _ | with_reducible refine bal ?_ _ | ((with_reducible refine bst ?_ ?_ _); rotate_left; focus (first | exact Nat.le_refl _ | assumption | (simp; done) | (simp; omega) | omega)) | exact below_left (by with_reducible assumption)))))).mono ?_
            rintro e w3 ⟨rfl, hb3⟩
            rw [HH.out]
            have hB3 : Below w.heap.size w w3 := bt (by (repeat (first | with_reducible exact b0 _ | with_reducible assumption | with_reducible refine Below.drew ?_ | with_reducible refine below_drewN ?_ _ | with_reducible refine bal ?_ _ | ((with_reducible refine bst ?_ ?_ _); rotate_left; focus (first | exact Nat.le_refl _ | assumption | (simp; done) | (simp; omega) | omega)) | exact below_left (by with_reducible assumption)))) hb3
            cases q
            case false =>
              go_wp2
              go_roundw
              case rel =>
                exact ⟨k + 1, m, by go_num, rfl, by omega, by omega, by have h := HC.out; rw [HH.out] at h; simpa using h, hB3⟩
              case measure =>
                simp [intOf]; omega
            case true =>
              go_wp2
              go_roundw
              case rel =>
                exact ⟨k + 1, m + 1, by go_num, by go_num, by omega, by omega, by have h := HC.out; rw [HH.out] at h; simp at h; omega, hB3⟩
              case measure =>
                simp [intOf]; omega
          case neg =>
            have hke : k = xs.length := by omega
            subst hke
            rw [List.drop_length] at hct
            have hm1 : m = 1 := by simpa [countSp] using hct
            subst hm1
            clear hct
            go_wp2_with fail
            refine (awake09 _ (Utf8Tabs_below hT (by (repeat (first | with_reducible exact b0 _ | with_reducible assumption | with_reducible refine Below.drew ?_ | with_reducible refine below_drewN ?_ _ | with_reducible refine bal ?_ _ | ((with_reducible refine bst ?_ ?_ _); rotate_left; focus (first | exact Nat.le_refl _ | assumption | (simp; done) | (simp; omega) | omega)) | exact below_left (by with_reducible assumption)))))).mono ?_
            rintro e w3 ⟨rfl, hb3⟩
            go_wp2
            go_ret
            exact ⟨rfl, bt (by (repeat (first | with_reducible exact b0 _ | with_reducible assumption | with_reducible refine Below.drew ?_ | with_reducible refine below_drewN ?_ _ | with_reducible refine bal ?_ _ | ((with_reducible refine bst ?_ ?_ _); rotate_left; focus (first | exact Nat.le_refl _ | assumption | (simp; done) | (simp; omega) | omega)) | exact below_left (by with_reducible assumption)))) hb3⟩
end Go.Proofs.YtjckniebocjefaaDoor
