/- The walk of the document's Read of keys. -/
import Derived.Test.YtclddkdchlcpeaaDoorReadW
import Derived.Deep.RegionHeld3
import Derived.Deep.DrawnRows
namespace Go.Proofs.YtclddkdchlcpeaaDoor
open Go.RowKit
attribute [local go_sem] ByteArray.mk_append_mk ByteArray.extract_mk
attribute [local go_sem ↓] Go.wp_at_zero Go.wp_at_succ
def refReadT (W : List UInt8) : Value := match readL W with
  | some s => .tuple #[.string ⟨s.toArray⟩, .bool true]
  | none => .tuple #[.string ⟨#[]⟩, .bool false]
def RrRel (W : List UInt8) (w : World) (v4 v5 : Value) (wr : World) : Prop :=
  ∃ (p : Nat) (acc : List UInt8), v5 = .int .i64 p ∧ p ≤ W.length ∧ acc.length ≤ p ∧ parseL W = (parseL (W.drop p)).map (acc ++ ·) ∧ v4 = .string ⟨acc.toArray⟩ ∧ Below w.heap.size w wr
def CatCut (w : World) (acc : List UInt8) (z : UInt8) (s4 : Value) (wx : World) : Prop := s4 = .string ⟨(acc ++ [z]).toArray⟩ ∧ Below w.heap.size w wx
theorem value_still (b : Nat) (hb : b < 256) (w : World) : Calls Tryd.prog 31 #[.int .u8 (b : Nat)] w fun e w' => e = .returned (.int .i64 (valL (UInt8.ofNat b))) ∧ w' = w :=
  (value_any b hb w).mono fun _ _ h => ⟨h.1, h.2.symm⟩
theorem conv_one (w : World) (cap n : Nat) (x : Int) (hx : x = (n : Int)) :
    (convert 40 9 (.slice (some ⟨w.heap.size, 0, none⟩) 1 cap)).run Tryd.prog (w.alloc (.cells #[.int .u8 x] 5)) = .ok (.string ⟨[UInt8.ofNat n].toArray⟩) (w.alloc (.cells #[.int .u8 x] 5)) := by
  subst hx
  rw [run_conv1 w Tryd.underlying40 Tryd.underlying5 Tryd.underlying9]
  simp
set_option maxHeartbeats 1600000 in
set_option maxRecDepth 100000 in
theorem refread_any (W : List UInt8) (hl : W.length ≤ 1099511627776) (w : World) :
    Calls Tryd.prog 17 #[.string ⟨W.toArray⟩] w fun e w' => e = .returned (refReadT W) ∧ Below w.heap.size w w' := by
  by_cases h37 : W = [37]
  case pos =>
    subst h37
    go_enter Tryd.func17, Tryd.ntmps17
    go_wp2
    go_ret2
    exact ⟨rfl, b0 _⟩
  case neg =>
    have h37b : (W == [37]) = false := by simpa using h37
    have RO' := Lib.hid (fun s => read_of (s := s) h37)
    have RB' := Lib.hid (read_bad h37)
    clear h37
    go_enter Tryd.func17, Tryd.ntmps17
    go_wp2
    go_loopw [4, 5] (fun v4 v5 wr => RrRel W w v4 v5 wr) (fun _ v5 _ => W.length - (intOf v5).toNat)
    case atStart => exact ⟨0, [], rfl, Nat.zero_le _, Nat.le_refl _, map_nil_app _, rfl, b0 w⟩
    case round =>
      obtain ⟨p, acc, rfl, hp, hap, hps, rfl, hb⟩ := hrel
      have HP := Lib.hid hps
      clear hps
      have hbs := hb.size
      have p0 : (0 : Int) ≤ (p : Int) := by omega
      by_cases hlt : p < W.length
      case pos =>
        have hat := fun w => run_at (P := Tryd.prog) w Tryd.underlying9 W (p : Int) p (W[p]).toNat rfl hlt (by rw [List.getElem?_eq_getElem hlt]; rfl)
        by_cases hb37 : (W[p]).toNat = 37
        case neg =>
          have hst := pstep_char W p hlt hb37
          have hsl : ∀ w, (Instr.slice 9 (.string ⟨W.toArray⟩) (some (.int .i64 p)) (some (.int .i64 ((p : Int) + 1))) none).run Tryd.prog w = .ok (.string ⟨[W[p]].toArray⟩) w := fun w => by
            have h := run_mid (P := Tryd.prog) w Tryd.underlying9 W (p : Int) ((p : Int) + 1) p (p + 1) rfl (by omega) (by omega) (by omega)
            rw [List.drop_eq_getElem_cons hlt, Nat.add_sub_cancel_left] at h
            exact h
          obtain ⟨x, hx⟩ : ∃ x, W[p] = x := ⟨_, rfl⟩
          rw [hx] at hat hb37 hst hsl
          have h1 : parseL W = (parseL (W.drop (p + 1))).map ((acc ++ [x]) ++ ·) := by rw [HP.out, hst, map_map_app]
          have HX := Lib.hid h1
          have hne : ((x.toNat : Int) != 37) = true := by simp; omega
          clear hst h1 hx hb37
          go_wp2
          go_roundw
          case rel => exact ⟨p + 1, acc ++ [x], by go_num, by omega, by simp; omega, HX.out, by simp, hb⟩
          case measure => simp [intOf]; omega
        case pos =>
          have hat37 : ∀ w, (Instr.index 9 (.string ⟨W.toArray⟩) (.int .i64 p)).run Tryd.prog w = .ok (.int .u8 37) w := fun w => by rw [hat w, hb37]; rfl
          clear hat
          by_cases hsh : W.length ≤ p + 2
          case pos =>
            have hpn : parseL W = none := by rw [HP.out, pstep_short W p hlt hb37 hsh]; rfl
            have hrd : refReadT W = .tuple #[.string ⟨#[]⟩, .bool false] := by unfold refReadT; rw [RB'.out hpn]
            have HR := Lib.hid hrd
            have s1 : ((W.length : Int) - (p : Int) < 3) := by omega
            clear hpn hrd hb37
            go_wp2
            go_ret2
            exact ⟨by rw [HR.out]; rfl, hb⟩
          case neg =>
            have hst := pstep_hex W p (by omega) hb37
            have hat1 := fun w => run_at (P := Tryd.prog) w Tryd.underlying9 W ((p : Int) + 1) (p + 1) (W[p + 1]).toNat (by omega) (by omega) (by rw [List.getElem?_eq_getElem (by omega : p + 1 < W.length)]; rfl)
            have hat2 := fun w => run_at (P := Tryd.prog) w Tryd.underlying9 W ((p : Int) + 2) (p + 2) (W[p + 2]).toNat (by omega) (by omega) (by rw [List.getElem?_eq_getElem (by omega : p + 2 < W.length)]; rfl)
            obtain ⟨x, hx⟩ : ∃ x, W[p + 1] = x := ⟨_, rfl⟩
            obtain ⟨y, hy⟩ : ∃ x, W[p + 2] = x := ⟨_, rfl⟩
            rw [hx] at hat1
            rw [hy] at hat2
            rw [hx, hy] at hst
            have D1 := value_still x.toNat (UInt8.toNat_lt _)
            have D2 := value_still y.toNat (UInt8.toNat_lt _)
            rw [UInt8.ofNat_toNat] at D1 D2
            have v1 := val_lt x
            have v2 := val_lt y
            obtain ⟨a, ha⟩ : ∃ a, valL x = a := ⟨_, rfl⟩
            obtain ⟨c, hc⟩ : ∃ a, valL y = a := ⟨_, rfl⟩
            rw [ha] at D1 v1
            rw [hc] at D2 v2
            rw [ha, hc] at hst
            have hsh' : ¬ ((W.length : Int) - (p : Int) < 3) := by omega
            have HST := Lib.hid hst
            clear hst hx hy ha hc hb37
            by_cases h1 : a = 99
            case pos =>
              subst h1
              have hpn : parseL W = none := by rw [HP.out, HST.out, if_pos (.inl rfl)]; rfl
              have hrd : refReadT W = .tuple #[.string ⟨#[]⟩, .bool false] := by unfold refReadT; rw [RB'.out hpn]
              have HR := Lib.hid hrd
              clear hpn hrd v1
              go_wp2_with fail
              refine (D1 _).mono ?_
              rintro e w1 ⟨rfl, rfl⟩
              go_wp2
              go_ret2
              exact ⟨by rw [HR.out]; rfl, hb⟩
            case neg =>
              have v1' := v1 h1
              have q1 : ((a : Int) == 99) = false := by simp; omega
              by_cases h2 : c = 99
              case pos =>
                subst h2
                have hpn : parseL W = none := by rw [HP.out, HST.out, if_pos (.inr rfl)]; rfl
                have hrd : refReadT W = .tuple #[.string ⟨#[]⟩, .bool false] := by unfold refReadT; rw [RB'.out hpn]
                have HR := Lib.hid hrd
                clear hpn hrd v1 h1 v2
                go_wp2_with fail
                refine (D1 _).mono ?_
                rintro e w1 ⟨rfl, rfl⟩
                go_wp2_with fail
                refine (D2 _).mono ?_
                rintro e w1 ⟨rfl, rfl⟩
                go_wp2
                go_ret2
                exact ⟨by rw [HR.out]; rfl, hb⟩
              case neg =>
                have v2' := v2 h2
                have q2 : ((c : Int) == 99) = false := by simp; omega
                have hpp : parseL W = (parseL (W.drop (p + 3))).map ((acc ++ [UInt8.ofNat (16 * a + c)]) ++ ·) := by rw [HP.out, HST.out, if_neg (by omega), map_map_app]
                have HX := Lib.hid hpp
                clear hpp h1 h2 v1 v2 HST
                go_wp2_with fail
                refine (D1 _).mono ?_
                rintro e w1 ⟨rfl, rfl⟩
                go_wp2_with fail
                refine (D2 _).mono ?_
                rintro e w1 ⟨rfl, rfl⟩
                go_upto_region 11 with (fail)
                have z0 : (0 : Int) ≤ (a : Int) := by omega
                have z1 : (0 : Int) ≤ (c : Int) := by omega
                have k1 : IntKind.i64.wrap ((p : Int) + 1) = (p : Int) + 1 := IntWalk.i64_in _ (by omega)
                have k2 : IntKind.i64.wrap ((p : Int) + 2) = (p : Int) + 2 := IntWalk.i64_in _ (by omega)
                have k3 : IntKind.i64.wrap (16 * (a : Int)) = 16 * (a : Int) := IntWalk.i64_in _ (by omega)
                have k4 : IntKind.i64.wrap (16 * (a : Int) + (c : Int)) = 16 * (a : Int) + (c : Int) := IntWalk.i64_in _ (by omega)
                have k5 : IntKind.u8.wrap (16 * (a : Int) + (c : Int)) = 16 * (a : Int) + (c : Int) := by rw [IntKind.wrap_u8]; omega
                have hcv : (convert 40 9 (.slice (some ⟨w1.heap.size, 0, none⟩) 1 1)).run Tryd.prog (w1.alloc (.cells #[.int .u8 (16 * (a : Int) + (c : Int))] 5)).drew = .ok (.string ⟨[UInt8.ofNat (16 * a + c)].toArray⟩) (w1.alloc (.cells #[.int .u8 (16 * (a : Int) + (c : Int))] 5)).drew := conv_one w1.drew 1 (16 * a + c) _ (by omega)
                obtain ⟨z, hz⟩ : ∃ z, UInt8.ofNat (16 * a + c) = z := ⟨_, rfl⟩
                have HX2 : Hid (parseL W = (parseL (W.drop (p + 3))).map ((acc ++ [z]) ++ ·)) := Lib.hid (by rw [← hz]; exact HX.out)
                rw [hz] at hcv
                clear hz HX
                go_cut [4] (fun s4 wx => CatCut w acc z s4 wx)
                case first =>
                  go_region_with (first
                    | (go_at_call_of 31 (Value.int IntKind.u8 (x.toNat : Int)); refine (D1 _).mono ?_; rintro e wq ⟨rfl, rfl⟩)
                    | (go_at_call_of 31 (Value.int IntKind.u8 (y.toNat : Int)); refine (D2 _).mono ?_; rintro e wq ⟨rfl, rfl⟩))
                  all_goals
                    go_wp2_with fail
                    go_meet
                    case rel => exact ⟨by simp, bal (Below.drew hb) _⟩
                case rest =>
                  obtain ⟨rfl, hbx⟩ := hcut
                  clear hcv
                  go_wp2
                  exact ⟨⟨p + 3, acc ++ [z], by go_num, by omega, by simp; omega, HX2.out, rfl, hbx⟩, by simp [intOf]; omega⟩
      case neg =>
        have hpe : p = W.length := by omega
        subst hpe
        have hpp : parseL W = some acc := by rw [HP.out, List.drop_length, parse_nil]; simp
        have hrr := RO'.out acc hpp
        obtain ⟨sh, hsh⟩ : ∃ s, showL acc = s := ⟨_, rfl⟩
        rw [hsh] at hrr
        have HSH := Lib.hid hsh
        clear hpp hsh
        by_cases h0 : acc = []
        case pos =>
          subst h0
          have hsw : sh ≠ W := fun h => by
            have h2 := HSH.out
            have h3 : showL [] = [37] := rfl
            rw [h3, h] at h2
            rw [← h2] at h37b
            simp at h37b
          have hrd : refReadT W = .tuple #[.string ⟨#[]⟩, .bool false] := by unfold refReadT; rw [hrr, if_neg hsw]
          have HR := Lib.hid hrd
          clear hrr hrd hsw
          go_wp2
          go_ret2
          exact ⟨by rw [HR.out]; rfl, hb⟩
        case neg =>
          have hz := len_beq' h0
          have hz2 := len_ne' h0
          by_cases heq : sh = W
          case pos =>
            subst heq
            have hrd : refReadT sh = .tuple #[.string ⟨acc.toArray⟩, .bool true] := by unfold refReadT; rw [hrr, if_pos rfl]
            have HR := Lib.hid hrd
            clear hrr hrd h0
            go_wp2_with fail
            refine (refshow_any acc (by omega) _).mono ?_
            rintro e w1 ⟨rfl, hb1⟩
            rw [HSH.out]
            go_wp2
            go_ret2
            exact ⟨by rw [HR.out]; rfl, bt hb hb1⟩
          case neg =>
            have hrd : refReadT W = .tuple #[.string ⟨#[]⟩, .bool false] := by unfold refReadT; rw [hrr, if_neg heq]
            have HR := Lib.hid hrd
            have hq : (sh == W) = false := by simpa using heq
            have hq2 : (sh != W) = true := by simpa using heq
            clear hrr hrd heq h0
            go_wp2_with fail
            refine (refshow_any acc (by omega) _).mono ?_
            rintro e w1 ⟨rfl, hb1⟩
            rw [HSH.out]
            go_wp2
            go_ret2
            exact ⟨by rw [HR.out]; rfl, bt hb hb1⟩
end Go.Proofs.YtclddkdchlcpeaaDoor
