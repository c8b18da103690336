/- The walk of key.Read. -/
import Derived.Test.YtclddkdchlcpeaaDoorShow2W
namespace Go.Proofs.YtclddkdchlcpeaaDoor
open Go.RowKit
attribute [local go_sem] ByteArray.mk_append_mk ByteArray.extract_mk
attribute [local go_sem ↓] Go.wp_at_zero Go.wp_at_succ
theorem read_of {W : List UInt8} (h37 : W ≠ [37]) {s : List UInt8} (hp : parseL W = some s) : readL W = if showL s = W then some s else none := by
  unfold readL
  rw [if_neg h37, hp]
  simp only
  by_cases h : showL s = W
  · rw [if_pos h, if_pos ⟨fun e => by subst e; exact h37 h.symm, h⟩]
  · rw [if_neg h, if_neg fun x => h x.2]
theorem read_bad {W : List UInt8} (h37 : W ≠ [37]) (hp : parseL W = none) : readL W = none := by
  unfold readL
  rw [if_neg h37, hp]
theorem pstep_char (W : List UInt8) (p : Nat) (h : p < W.length) (hb : (W[p]).toNat ≠ 37) : parseL (W.drop p) = (parseL (W.drop (p + 1))).map ([W[p]] ++ ·) := by
  rw [List.drop_eq_getElem_cons h, parse_char _ _ (fun e => hb (by rw [e]; rfl))]
  rfl
theorem pstep_short (W : List UInt8) (p : Nat) (h : p < W.length) (hb : (W[p]).toNat = 37) (h2 : W.length ≤ p + 2) : parseL (W.drop p) = none := by
  have e : W[p] = 37 := by rw [← UInt8.toNat_inj]; exact hb
  rw [List.drop_eq_getElem_cons h, e, parse_short _ (by simp; omega)]
theorem pstep_hex (W : List UInt8) (p : Nat) (h : p + 2 < W.length) (hb : (W[p]).toNat = 37) :
    parseL (W.drop p) = if valL W[p + 1] = 99 ∨ valL W[p + 2] = 99 then none else (parseL (W.drop (p + 3))).map ([UInt8.ofNat (16 * valL W[p + 1] + valL W[p + 2])] ++ ·) := by
  have e : W[p] = 37 := by rw [← UInt8.toNat_inj]; exact hb
  rw [List.drop_eq_getElem_cons (by omega : p < W.length), e, List.drop_eq_getElem_cons (by omega : p + 1 < W.length), List.drop_eq_getElem_cons (by omega : p + 1 + 1 < W.length), parse_hex]
  rfl
def readT (W : List UInt8) : Value := match readL W with
  | some s => .tuple #[.string ⟨s.toArray⟩, .int .i64 0]
  | none => .tuple #[.string ⟨#[]⟩, .int .i64 3]
def RdKRel (W : List UInt8) (w : World) (v4 v5 : Value) (wr : World) : Prop :=
  ∃ (p : Nat) (acc : List UInt8), v5 = .int .i64 p ∧ p ≤ W.length ∧ acc.length ≤ p ∧ parseL W = (parseL (W.drop p)).map (acc ++ ·) ∧ wr.ownsRow w.heap.size 5 1 v4 acc.length (acc.map bv) ∧ Below w.heap.size w wr
theorem map_nil_app (o : Option (List UInt8)) : o = o.map (([] : List UInt8) ++ ·) := by cases o <;> rfl
theorem or16 (a c : Nat) (ha : a < 16) (hc : c < 16) : bits .or .u8 ((a : Int) * 16) (c : Int) = ((UInt8.ofNat (16 * a + c)).toNat : Int) := by
  have h := u8_or_nat (a * 16) c (by omega) (by omega)
  have e : ∀ a c : Fin 16, a.val * 16 ||| c.val = 16 * a.val + c.val := by decide
  rw [e ⟨a, ha⟩ ⟨c, hc⟩] at h
  rw [show ((a : Int) * 16) = ((a * 16 : Nat) : Int) by omega, h]
  simp
  omega
set_option maxHeartbeats 1600000 in
set_option maxRecDepth 100000 in
theorem keyread_any (W : List UInt8) (hl : W.length ≤ 1099511627776) (w : World) (hT : Go.Lib.Utf8Tabs 0 1 w) :
    Calls Tryd.prog 16 #[.string ⟨W.toArray⟩] w fun e w' => e = .returned (readT W) ∧ Below w.heap.size w w' := by
  obtain ⟨i0, hi, hz0, hz1, hz2⟩ := info_parts infoB
  by_cases h37 : W = [37]
  case pos =>
    subst h37
    go_enter Tryd.func16, Tryd.ntmps16
    go_wp2
    go_loopw [4, 5] (fun v4 v5 wr => v4 = .slice none 0 0 ∧ v5 = .int .i64 0 ∧ wr = w) (fun _ _ _ => 0)
    case atStart => exact ⟨rfl, rfl, rfl⟩
    case round =>
      obtain ⟨rfl, rfl, rfl⟩ := hrel
      have hcv := run_conv_any wr (src := 40) (dst := 9) Tryd.underlying40 Tryd.underlying5 Tryd.underlying9 (World.ownsRow_nil wr wr.heap.size 5 1) (xs := [])
      have hq : (showL [] == [37]) = true := rfl
      go_wp2_with fail
      refine (keyshow_any [] (by simp) _ hT).mono ?_
      rintro e w1 ⟨rfl, hb1⟩
      go_wp2
      go_ret2
      exact ⟨rfl, hb1⟩
  case neg =>
    have h37b : (W == [37]) = false := by simpa using h37
    have h37c : (W != [37]) = true := by simpa using h37
    have RO := fun s => read_of (s := s) h37
    have RB := read_bad h37
    have RO' := Lib.hid RO
    have RB' := Lib.hid RB
    clear RO RB h37
    go_enter Tryd.func16, Tryd.ntmps16
    go_wp2
    go_loopw [4, 5] (fun v4 v5 wr => RdKRel W w v4 v5 wr) (fun _ v5 _ => W.length - (intOf v5).toNat)
    case atStart => exact ⟨0, [], rfl, Nat.zero_le _, Nat.le_refl _, map_nil_app _, World.ownsRow_nil _ _ _ _, b0 w⟩
    case round =>
      obtain ⟨p, acc, rfl, hp, hap, hps, hown, hb⟩ := hrel
      have HP := Lib.hid hps
      clear hps
      have hbs := hb.size
      have p0 : (0 : Int) ≤ (p : Int) := by omega
      by_cases hlt : p < W.length
      case pos =>
        have hat := fun w => run_at (P := Tryd.prog) w Tryd.underlying9 W (p : Int) p (W[p]).toNat rfl hlt (by rw [List.getElem?_eq_getElem hlt]; rfl)
        by_cases hb37 : (W[p]).toNat = 37
        case neg =>
          have hst := pstep_char W p hlt hb37
          obtain ⟨x, hx⟩ : ∃ x, W[p] = x := ⟨_, rfl⟩
          rw [hx] at hat hb37 hst
          have h1 : parseL W = (parseL (W.drop (p + 1))).map ((acc ++ [x]) ++ ·) := by rw [HP.out, hst, map_map_app]
          have HX := Lib.hid h1
          have hne : ((x.toNat : Int) != 37) = true := by simp; omega
          clear hst h1 hx hb37
          go_wp2_with (at_builtin; refine wpList_push (by rfl) _ _ _ (by rfl) w.heap.size 5 i0 (.int .u8 0) 1 Tryd.underlying40 hi hz0 hz1 hz2 rfl wr _ acc.length (acc.map bv) (by rfl) hown (bv x) rfl 1 (by rfl) (by omega) (by omega) (by omega) ?_; intro g cap w2 hown2 hb2)
          go_roundw
          case rel => exact ⟨p + 1, acc ++ [x], by go_num, by omega, by simp; omega, HX.out, by rw [List.map_append, List.length_append]; exact hown2, hb.trans hb2⟩
          case measure => simp [intOf]; omega
        case pos =>
          have hat37 : ∀ w, (Instr.index 9 (.string ⟨W.toArray⟩) (.int .i64 p)).run Tryd.prog w = .ok (.int .u8 37) w := fun w => by rw [hat w, hb37]; rfl
          clear hat
          by_cases hsh : W.length ≤ p + 2
          case pos =>
            have hpn : parseL W = none := by rw [HP.out, pstep_short W p hlt hb37 hsh]; rfl
            have hrd : readT W = .tuple #[.string ⟨#[]⟩, .int .i64 3] := by unfold readT; rw [RB'.out hpn]
            have HR := Lib.hid hrd
            have s1 : ((W.length : Int) ≤ (p : Int) + 2) := by omega
            clear hpn hrd hb37
            go_wp2
            go_ret2
            exact ⟨by rw [HR.out]; rfl, hb⟩
          case neg =>
            have hst := pstep_hex W p (by omega) hb37
            have hat1 := fun w => run_at (P := Tryd.prog) w Tryd.underlying9 W ((p : Int) + 1) (p + 1) (W[p + 1]).toNat (by omega) (by omega) (by rw [List.getElem?_eq_getElem (by omega : p + 1 < W.length)]; rfl)
            have hat2 := fun w => run_at (P := Tryd.prog) w Tryd.underlying9 W ((p : Int) + 2) (p + 2) (W[p + 2]).toNat (by omega) (by omega) (by rw [List.getElem?_eq_getElem (by omega : p + 2 < W.length)]; rfl)
            obtain ⟨x, hx⟩ : ∃ x, W[p + 1] = x := ⟨_, rfl⟩
            obtain ⟨y, hy⟩ : ∃ x, W[p + 2] = x := ⟨_, rfl⟩
            rw [hx] at hat1
            rw [hy] at hat2
            rw [hx, hy] at hst
            have D1 := digit_any x.toNat (UInt8.toNat_lt _)
            have D2 := digit_any y.toNat (UInt8.toNat_lt _)
            unfold digT at D1 D2
            rw [UInt8.ofNat_toNat] at D1 D2
            have v1 := val_lt x
            have v2 := val_lt y
            obtain ⟨a, ha⟩ : ∃ a, valL x = a := ⟨_, rfl⟩
            obtain ⟨c, hc⟩ : ∃ a, valL y = a := ⟨_, rfl⟩
            rw [ha] at D1 v1
            rw [hc] at D2 v2
            rw [ha, hc] at hst
            have hsh' : ¬ ((W.length : Int) ≤ (p : Int) + 2) := by omega
            have HST := Lib.hid hst
            clear hst hx hy ha hc hb37
            by_cases hbad : a = 99 ∨ c = 99
            case pos =>
              have hpn : parseL W = none := by rw [HP.out, HST.out, if_pos hbad]; rfl
              have hrd : readT W = .tuple #[.string ⟨#[]⟩, .int .i64 3] := by unfold readT; rw [RB'.out hpn]
              have HR := Lib.hid hrd
              clear hpn hrd
              have HB := Lib.hid hbad
              clear hbad
              by_cases h1 : a = 99
              case pos =>
                subst h1
                rw [if_pos rfl, show (!decide ((99 : Nat) = 99)) = false from rfl] at D1
                go_wp2_with fail
                refine (D1 _).mono ?_
                rintro e w1 ⟨rfl, rfl⟩
                go_wp2_with fail
                refine (D2 _).mono ?_
                rintro e w1 ⟨rfl, rfl⟩
                go_wp2
                all_goals
                  go_ret2
                  exact ⟨by rw [HR.out]; rfl, hb⟩
              case neg =>
                have h2 : c = 99 := HB.out.resolve_left h1
                subst h2
                rw [if_pos rfl, show (!decide ((99 : Nat) = 99)) = false from rfl] at D2
                rw [if_neg h1, show (!decide (a = 99)) = true by simp [h1]] at D1
                clear h1
                go_wp2_with fail
                refine (D1 _).mono ?_
                rintro e w1 ⟨rfl, rfl⟩
                go_wp2_with fail
                refine (D2 _).mono ?_
                rintro e w1 ⟨rfl, rfl⟩
                go_wp2
                go_ret2
                exact ⟨by rw [HR.out]; rfl, hb⟩
            case neg =>
              have h1 : a ≠ 99 := fun h => hbad (.inl h)
              have h2 : c ≠ 99 := fun h => hbad (.inr h)
              have v1' := v1 h1
              have v2' := v2 h2
              have hpp : parseL W = (parseL (W.drop (p + 3))).map ((acc ++ [UInt8.ofNat (16 * a + c)]) ++ ·) := by rw [HP.out, HST.out, if_neg hbad, map_map_app]
              have HX := Lib.hid hpp
              rw [if_neg h1, show (!decide (a = 99)) = true by simp [h1]] at D1
              rw [if_neg h2, show (!decide (c = 99)) = true by simp [h2]] at D2
              clear hpp hbad h1 h2 v1 v2 HST
              go_wp2_with fail
              refine (D1 _).mono ?_
              rintro e w1 ⟨rfl, rfl⟩
              go_wp2_with fail
              refine (D2 _).mono ?_
              rintro e w1 ⟨rfl, rfl⟩
              go_upto_region 13 with (fail)
              have z0 : (0 : Int) ≤ (a : Int) := by omega
              have z1 : (0 : Int) ≤ (c : Int) := by omega
              have hor := or16 a c v1' v2'
              go_wp2_with (at_builtin; refine wpList_push (by rfl) _ _ _ (by rfl) w.heap.size 5 i0 (.int .u8 0) 1 Tryd.underlying40 hi hz0 hz1 hz2 rfl wr _ acc.length (acc.map bv) (by rfl) hown (bv (UInt8.ofNat (16 * a + c))) rfl 1 (by rfl) (by omega) (by omega) (by omega) ?_; intro g cap w2 hown2 hb2)
              go_roundw
              case rel => exact ⟨p + 3, acc ++ [UInt8.ofNat (16 * a + c)], by go_num, by omega, by simp; omega, HX.out, by rw [List.map_append, List.length_append]; exact hown2, hb.trans hb2⟩
              case measure => simp [intOf]; omega
      case neg =>
        have hpe : p = W.length := by omega
        subst hpe
        have hpp : parseL W = some acc := by rw [HP.out, List.drop_length, parse_nil]; simp
        have hrr := RO'.out acc hpp
        have hcv := run_conv_any wr (src := 40) (dst := 9) Tryd.underlying40 Tryd.underlying5 Tryd.underlying9 hown
        obtain ⟨A, cap, rfl⟩ := own_slice hown
        obtain ⟨sh, hsh⟩ : ∃ s, showL acc = s := ⟨_, rfl⟩
        rw [hsh] at hrr
        have HSH := Lib.hid hsh
        clear hpp hsh
        by_cases heq : sh = W
        case pos =>
          subst heq
          have hrd : readT sh = .tuple #[.string ⟨acc.toArray⟩, .int .i64 0] := by unfold readT; rw [hrr, if_pos rfl]
          have HR := Lib.hid hrd
          clear hrr hrd
          go_wp2_with fail
          refine (keyshow_any acc (by omega) _ (Utf8Tabs_below hT hb)).mono ?_
          rintro e w1 ⟨rfl, hb1⟩
          rw [HSH.out]
          go_wp2
          go_ret2
          exact ⟨by rw [HR.out]; rfl, bt hb hb1⟩
        case neg =>
          have hrd : readT W = .tuple #[.string ⟨#[]⟩, .int .i64 3] := by unfold readT; rw [hrr, if_neg heq]
          have HR := Lib.hid hrd
          have hq : (sh == W) = false := by simpa using heq
          clear hrr hrd heq
          go_wp2_with fail
          refine (keyshow_any acc (by omega) _ (Utf8Tabs_below hT hb)).mono ?_
          rintro e w1 ⟨rfl, hb1⟩
          rw [HSH.out]
          go_wp2
          go_ret2
          exact ⟨by rw [HR.out]; rfl, bt hb hb1⟩
end Go.Proofs.YtclddkdchlcpeaaDoor
