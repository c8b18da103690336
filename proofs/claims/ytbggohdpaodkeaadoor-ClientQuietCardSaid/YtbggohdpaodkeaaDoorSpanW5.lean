/- The walks of span.Whole and the document's, and of the laws SpanWholes and SpanOnce. -/
import Derived.Test.YtbggohdpaodkeaaDoorLaw09
import Derived.Test.YtbggohdpaodkeaaDoorSpans
namespace Go.Proofs.YtbggohdpaodkeaaDoor
open Go.RowKit
attribute [local go_sem] ByteArray.mk_append_mk ByteArray.extract_mk
attribute [local go_sem ↓] Go.wp_at_zero Go.wp_at_succ
theorem spc_cells {w : World} {B : Nat} {A : Option Addr} {xs : List Sp} (hR : RdR spC 2 w B A xs) (k : Nat) (hk : k < xs.length) :
    ∃ b off, A = some ⟨b, off, none⟩ ∧ b < B ∧ w.cell? ⟨b, off + k * 2, none⟩ = some (.string ⟨xs[k].lo.toArray⟩) ∧ w.cell? ⟨b, off + k * 2 + 1, none⟩ = some (.string ⟨xs[k].hi.toArray⟩) := by
  obtain ⟨b, off, hA, hb, hc⟩ := hR (by omega)
  exact ⟨b, off, hA, hb, hc k hk 0 _ rfl, hc k hk 1 _ rfl⟩
theorem chain_step (first : Bool) (la : List UInt8) (xs : List Sp) (k : Nat) (h : k < xs.length) :
    chainF first la (xs.drop k) = (rightSp xs[k] && (decide (xs[k].lo = la) && ((first || !decide (la = [])) && chainF false xs[k].hi (xs.drop (k + 1))))) := by
  rw [List.drop_eq_getElem_cons h]
  rfl
def WhRel (xs : List Sp) (w : World) (l i : Value) (wr : World) : Prop :=
  ∃ (k : Nat) (la : List UInt8), i = .int .i64 k ∧ l = .string ⟨la.toArray⟩ ∧ k ≤ xs.length ∧ wholeSp xs = chainF (decide (k = 0)) la (xs.drop k) ∧ Below w.heap.size w wr
set_option maxHeartbeats 1600000 in
set_option maxRecDepth 100000 in
theorem spwhole_any (A : Option Addr) (cap : Nat) (xs : List Sp) (hmax : xs.length ≤ 9223372036854775807) (hok : ∀ x ∈ xs, spOk x) (w : World) (hR : RdR spC 2 w w.heap.size A xs) (hT : Go.Lib.Utf8Tabs 0 1 w) :
    Calls Tryd.prog 42 #[.slice A xs.length cap] w fun e w' => e = .returned (.bool (wholeSp xs)) ∧ Below w.heap.size w w' := by
  go_enter Tryd.func42, Tryd.ntmps42
  go_wp2
  go_loopw [3, 8] (fun l i wr => WhRel xs w l i wr) (fun _ i _ => xs.length - (intOf i).toNat)
  case atStart =>
    exact ⟨0, [], rfl, rfl, Nat.zero_le _, rfl, Below.refl _ _⟩
  case round =>
    obtain ⟨k, la, rfl, rfl, hk, hch, hb⟩ := hrel
    have hbs := hb.size
    have i0 : (0 : Int) ≤ (k : Int) := by omega
    by_cases hlt : k < xs.length
    case pos =>
      have hst := chain_step (decide (k = 0)) la xs k hlt
      obtain ⟨b, off, rfl, hbB, g0, g1⟩ := spc_cells hR k hlt
      have hox := hok xs[k] (List.getElem_mem hlt)
      have c0 := (hb.cell (p := ⟨b, _, none⟩) hbB).trans g0
      have c1 := (hb.cell (p := ⟨b, _, none⟩) hbB).trans g1
      have i1 : (k : Int) < (xs.length : Int) := by omega
      obtain ⟨⟨lo, hi⟩, hx⟩ : ∃ x, xs[k] = x := ⟨_, rfl⟩
      rw [hx] at hst hox c0 c1
      simp only at hst c0 c1
      obtain ⟨hlo63, hhi63⟩ := hox
      simp only at hlo63 hhi63
      rw [hst] at hch
      have HC := Lib.hid hch
      clear hch hst hx g0 g1
      obtain ⟨q, hq⟩ : ∃ q, rightSp ⟨lo, hi⟩ = q := ⟨_, rfl⟩
      have HQ := Lib.hid hq
      clear hq
      go_wp2_with fail
      refine (spright_any lo hi hlo63 hhi63 _ (Utf8Tabs_below hT (by (repeat (first | with_reducible exact b0 _ | with_reducible assumption | with_reducible refine Below.drew ?_ | with_reducible refine below_drewN ?_ _ | with_reducible refine bal ?_ _ | ((with_reducible refine bst ?_ ?_ _); rotate_left; focus (first | exact Nat.le_refl _ | assumption | (simp; done) | (simp; omega) | omega)) | exact below_left (by with_reducible assumption)))))).mono ?_
      rintro e w1 ⟨rfl, hb1⟩
      rw [HQ.out]
      have hB1 : Below w.heap.size w w1 := bt (by (repeat (first | with_reducible exact b0 _ | with_reducible assumption | with_reducible refine Below.drew ?_ | with_reducible refine below_drewN ?_ _ | with_reducible refine bal ?_ _ | ((with_reducible refine bst ?_ ?_ _); rotate_left; focus (first | exact Nat.le_refl _ | assumption | (simp; done) | (simp; omega) | omega)) | exact below_left (by with_reducible assumption)))) hb1
      have Gs1 : Blk w1 wr.heap.size 57 #[.string ⟨lo.toArray⟩, .string ⟨hi.toArray⟩] := Blk.keep (Blk.new wr _ _) hb1
      obtain ⟨sl, s0, s1, s2, s3⟩ := Gs1.c2
      clear c0 c1
      cases q
      case false =>
        go_wp2
        go_ret
        exact ⟨ret_bool (by rw [HC.out]; simp [HQ.out]), by (repeat (first | with_reducible exact b0 _ | with_reducible assumption | with_reducible refine Below.drew ?_ | with_reducible refine below_drewN ?_ _ | with_reducible refine bal ?_ _ | ((with_reducible refine bst ?_ ?_ _); rotate_left; focus (first | exact Nat.le_refl _ | assumption | (simp; done) | (simp; omega) | omega)) | exact below_left (by with_reducible assumption)))⟩
      case true =>
        by_cases hl : lo = la
        case neg =>
          have el := str_ne hl
          have NL := Lib.hid hl
          go_wp2
          go_ret
          exact ⟨ret_bool (by rw [HC.out]; simp [HQ.out, NL.out]), by (repeat (first | with_reducible exact b0 _ | with_reducible assumption | with_reducible refine Below.drew ?_ | with_reducible refine below_drewN ?_ _ | with_reducible refine bal ?_ _ | ((with_reducible refine bst ?_ ?_ _); rotate_left; focus (first | exact Nat.le_refl _ | assumption | (simp; done) | (simp; omega) | omega)) | exact below_left (by with_reducible assumption)))⟩
        case pos =>
          subst hl
          by_cases hk0 : k = 0
          case pos =>
            subst hk0
            go_wp2
            go_roundw
            case rel =>
              exact ⟨1, hi, by go_num, rfl, by omega, by rw [HC.out]; simp [HQ.out], by (repeat (first | with_reducible exact b0 _ | with_reducible assumption | with_reducible refine Below.drew ?_ | with_reducible refine below_drewN ?_ _ | with_reducible refine bal ?_ _ | ((with_reducible refine bst ?_ ?_ _); rotate_left; focus (first | exact Nat.le_refl _ | assumption | (simp; done) | (simp; omega) | omega)) | exact below_left (by with_reducible assumption)))⟩
            case measure =>
              simp [intOf]; omega
          case neg =>
            have hk1 : (0 : Int) < k := by omega
            have NK := Lib.hid hk0
            by_cases hn : lo = []
            case pos =>
              subst hn
              go_wp2
              go_ret
              exact ⟨ret_bool (by rw [HC.out]; simp [HQ.out, NK.out]), by (repeat (first | with_reducible exact b0 _ | with_reducible assumption | with_reducible refine Below.drew ?_ | with_reducible refine below_drewN ?_ _ | with_reducible refine bal ?_ _ | ((with_reducible refine bst ?_ ?_ _); rotate_left; focus (first | exact Nat.le_refl _ | assumption | (simp; done) | (simp; omega) | omega)) | exact below_left (by with_reducible assumption)))⟩
            case neg =>
              have en := mk_ne lo hn
              have NN := Lib.hid hn
              go_wp2
              go_roundw
              case rel =>
                exact ⟨k + 1, hi, by go_num, rfl, by omega, by rw [HC.out]; simp [HQ.out, NK.out, NN.out], by (repeat (first | with_reducible exact b0 _ | with_reducible assumption | with_reducible refine Below.drew ?_ | with_reducible refine below_drewN ?_ _ | with_reducible refine bal ?_ _ | ((with_reducible refine bst ?_ ?_ _); rotate_left; focus (first | exact Nat.le_refl _ | assumption | (simp; done) | (simp; omega) | omega)) | exact below_left (by with_reducible assumption)))⟩
              case measure =>
                simp [intOf]; omega
    case neg =>
      have hke : k = xs.length := by omega
      subst hke
      rw [List.drop_length] at hch
      have hcf : wholeSp xs = (!decide (xs.length = 0) && decide (la = [])) := hch
      have HC := Lib.hid hcf
      clear hch hcf
      by_cases hn0 : xs.length = 0
      case pos =>
        have hz : ((xs.length : Int)) = 0 := by omega
        have NZ := Lib.hid hn0
        go_wp2
        go_ret
        exact ⟨ret_bool (by rw [HC.out]; simp [NZ.out]), by (repeat (first | with_reducible exact b0 _ | with_reducible assumption | with_reducible refine Below.drew ?_ | with_reducible refine below_drewN ?_ _ | with_reducible refine bal ?_ _ | ((with_reducible refine bst ?_ ?_ _); rotate_left; focus (first | exact Nat.le_refl _ | assumption | (simp; done) | (simp; omega) | omega)) | exact below_left (by with_reducible assumption)))⟩
      case neg =>
        have hz : (0 : Int) < (xs.length : Int) := by omega
        have NZ := Lib.hid hn0
        by_cases hn : la = []
        case pos =>
          subst hn
          go_wp2
          go_ret
          exact ⟨ret_bool (by rw [HC.out]; simp [NZ.out]), by (repeat (first | with_reducible exact b0 _ | with_reducible assumption | with_reducible refine Below.drew ?_ | with_reducible refine below_drewN ?_ _ | with_reducible refine bal ?_ _ | ((with_reducible refine bst ?_ ?_ _); rotate_left; focus (first | exact Nat.le_refl _ | assumption | (simp; done) | (simp; omega) | omega)) | exact below_left (by with_reducible assumption)))⟩
        case neg =>
          have en := mk_ne la hn
          have NN := Lib.hid hn
          go_wp2
          go_ret
          exact ⟨ret_bool (by rw [HC.out]; simp [NZ.out, NN.out]), by (repeat (first | with_reducible exact b0 _ | with_reducible assumption | with_reducible refine Below.drew ?_ | with_reducible refine below_drewN ?_ _ | with_reducible refine bal ?_ _ | ((with_reducible refine bst ?_ ?_ _); rotate_left; focus (first | exact Nat.le_refl _ | assumption | (simp; done) | (simp; omega) | omega)) | exact below_left (by with_reducible assumption)))⟩
def JCut (W : World) (T : TypeId) (cu : Array Value) (en : Nat) (s5 s6 : Value) (wx : World) : Prop :=
  ∃ gu, s5 = .pointer (some ⟨gu, 0, none⟩) ∧ s6 = .int .i64 en ∧ W.heap.size ≤ gu ∧ Blk wx gu T cu ∧ Below W.heap.size W wx
theorem join_len (a b u : Sp) (n : Nat) (h : joinSp a b = (u, n)) (ha : a.lo.length ≤ 9223372036854775807) (hb : b.hi.length ≤ 9223372036854775807) : u.lo.length ≤ 9223372036854775807 ∧ u.hi.length ≤ 9223372036854775807 := by
  unfold joinSp zSp at h
  split at h
  · injection h with h1 h2; subst h1; simp
  · split at h
    · injection h with h1 h2; subst h1; simp
    · injection h with h1 h2; subst h1; exact ⟨ha, hb⟩
theorem rwF_step (s u : Sp) (n : Nat) (xs : List Sp) (k : Nat) (hk : k < xs.length) (h : joinSp s xs[k] = (u, n)) : rwF s (xs.drop k) = if n ≠ 0 then false else rwF u (xs.drop (k + 1)) := by
  rw [List.drop_eq_getElem_cons hk]
  simp only [rwF, h]
def RwRel (xs : List Sp) (w : World) (g : Nat) (i : Value) (wr : World) : Prop :=
  ∃ (k : Nat) (lo hi : List UInt8), i = .int .i64 k ∧ 1 ≤ k ∧ k ≤ xs.length ∧ lo.length ≤ 9223372036854775807 ∧ hi.length ≤ 9223372036854775807 ∧ refWholeSp xs = rwF ⟨lo, hi⟩ (xs.drop k) ∧ Blk wr g 57 #[.string ⟨lo.toArray⟩, .string ⟨hi.toArray⟩] ∧ Below w.heap.size w wr
def OnRel (kk : List UInt8) (xs : List Sp) (w : World) (c i : Value) (wr : World) : Prop :=
  ∃ k m : Nat, i = .int .i64 k ∧ c = .int .i64 m ∧ k ≤ xs.length ∧ m ≤ k ∧ m + countSp kk (xs.drop k) = 1 ∧ Below w.heap.size w wr
theorem count_step (kk : List UInt8) (xs : List Sp) (k : Nat) (h : k < xs.length) : countSp kk (xs.drop k) = (if hasSp xs[k] kk = true then 1 else 0) + countSp kk (xs.drop (k + 1)) := by
  rw [List.drop_eq_getElem_cons h]
  rfl
end Go.Proofs.YtbggohdpaodkeaaDoor
