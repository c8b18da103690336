/- The walks of the document's Show and the program's. -/
import Derived.Test.YtclddkdchlcpeaaDoorHexW
import Derived.Test.YtclddkdchlcpeaaDoorRCmpW
import Derived.Test.YtclddkdchlcpeaaDoorBldW
namespace Go.Proofs.YtclddkdchlcpeaaDoor
open Go.RowKit
attribute [local go_sem] ByteArray.mk_append_mk ByteArray.extract_mk
attribute [local go_sem ↓] Go.wp_at_zero Go.wp_at_succ
theorem one_of_let (l : List UInt8) : oneL l = if plainR (letL l).1 && !((letL l).1 == 37) then l.take (letL l).2 else (l.take (letL l).2).flatMap hexL := by
  have hp := plain_eq l
  have h2 := letL_snd l
  unfold oneL
  rw [hp, ← h2]
  cases hq : plainR (letL l).1
  · simp
  · have hge : 0 ≤ (letL l).1 := by
      rcases Int.lt_or_le (letL l).1 0 with h | h
      · exfalso
        unfold plainR at hq
        simp at hq
        omega
      · exact h
    have hc := (letL_code l).2 hge
    have e : ((letL l).1 == 37) = ((decL l).1 == 37) := by
      rw [hc, Bool.eq_iff_iff, beq_iff_eq, beq_iff_eq]
      omega
    rw [e]
theorem flat_snoc (l : List UInt8) (j : Nat) (h : j < l.length) : (l.take (j + 1)).flatMap hexL = (l.take j).flatMap hexL ++ hexL l[j] := by
  rw [List.take_succ_eq_append_getElem h, List.flatMap_append]
  simp
def ShRel (l : List UInt8) (w : World) (s v : Value) (wr : World) : Prop :=
  ∃ rl acc : List UInt8, s = .string ⟨rl.toArray⟩ ∧ v = .string ⟨acc.toArray⟩ ∧ showT l = acc ++ showT rl ∧ rl.length ≤ l.length ∧ Below w.heap.size w wr
def HexRel (rl acc : List UInt8) (n : Nat) (w : World) (v i : Value) (wr : World) : Prop :=
  ∃ j : Nat, i = .int .i64 j ∧ j ≤ n ∧ v = .string ⟨(acc ++ (rl.take j).flatMap hexL).toArray⟩ ∧ Below w.heap.size w wr
theorem len_beq' {l : List UInt8} (h : l ≠ []) : ((l.length : Int) == 0) = false := by have := List.length_pos_iff.2 h; rw [beq_eq_false_iff_ne]; omega
theorem len_ne' {l : List UInt8} (h : l ≠ []) : ¬ (l.length : Int) = 0 := by have := List.length_pos_iff.2 h; omega
set_option maxHeartbeats 1600000 in
set_option maxRecDepth 100000 in
theorem refshow_any (l : List UInt8) (hl : l.length ≤ 140737488351232) (w : World) :
    Calls Tryd.prog 15 #[.string ⟨l.toArray⟩] w fun e w' => e = .returned (.string ⟨(showL l).toArray⟩) ∧ Below w.heap.size w w' := by
  by_cases h0 : l = []
  case pos =>
    subst h0
    go_enter Tryd.func15, Tryd.ntmps15
    go_wp2
    go_ret
    exact ⟨rfl, Below.refl _ _⟩
  case neg =>
    have hz := len_beq' h0
    have hz2 := len_ne' h0
    have hs : showL l = showT l := by unfold showL; rw [if_neg h0]
    have HS := Lib.hid hs
    clear hs h0
    go_enter Tryd.func15, Tryd.ntmps15
    go_wp2
    go_loopw [0, 3] (fun s v wr => ShRel l w s v wr) (fun s _ _ => strLn s)
    case atStart =>
      exact ⟨l, [], rfl, rfl, rfl, Nat.le_refl _, Below.refl _ _⟩
    case round =>
      obtain ⟨rl, acc, rfl, rfl, hsh, hll, hb⟩ := hrel
      have hal : acc.length ≤ 3 * l.length := by have h1 := congrArg List.length hsh; have h2 := (showT_len l).2; rw [List.length_append] at h1; omega
      have HT := Lib.hid hsh
      clear hsh hz hz2
      have hbs := hb.size
      by_cases hlt : 0 < rl.length
      case neg =>
        have hrl : rl = [] := List.eq_nil_of_length_eq_zero (by omega)
        subst hrl
        have hf : showT l = acc := by rw [HT.out, showT_nil, List.append_nil]
        have HF := Lib.hid hf
        clear hf
        go_wp2
        go_ret
        exact ⟨by rw [HS.out, HF.out] <;> rfl, hb⟩
      case pos =>
        have hne : rl ≠ [] := fun e => by subst e; simp at hlt
        have hst := showT_cons rl hne
        have hone := one_of_let rl
        rw [← letL_snd] at hst
        have hsz := decL_le rl hne
        have hps := (decL_pos rl).1
        rw [← letL_snd] at hsz hps
        have LT := letter_any rl hne (by omega)
        obtain ⟨c, hc⟩ : ∃ c, (letL rl).1 = c := ⟨_, rfl⟩
        obtain ⟨n, hn⟩ : ∃ n, (letL rl).2 = n := ⟨_, rfl⟩
        rw [hc, hn] at LT hone
        rw [hn] at hst hsz hps
        have HST := Lib.hid hst
        have HO := Lib.hid hone
        clear hst hone hc hn hne
        have e1 : List.take (rl.length - n) (List.drop n rl) = rl.drop n := by rw [← List.length_drop]; exact List.take_length
        have E1 := Lib.hid e1
        clear e1
        have hzz : (rl.drop n).length < rl.length := by rw [List.length_drop]; omega
        have HZ := Lib.hid hzz
        clear hzz
        go_wp2_with fail
        refine (LT _).mono ?_
        rintro e w1 ⟨rfl, rfl⟩
        go_wp2_with fail
        refine (refplain_any c _).mono ?_
        rintro e w1 ⟨rfl, rfl⟩
        obtain ⟨p, hp⟩ : ∃ p, plainR c = p := ⟨_, rfl⟩
        rw [hp]
        have HP := Lib.hid hp
        clear hp
        cases p
        case false =>
          have hx : oneL rl = (rl.take n).flatMap hexL := by rw [HO.out, HP.out]; rfl
          have HX := Lib.hid hx
          clear hx
          go_wp2
          go_loopw [3, 6] (fun v i wx => HexRel rl acc n wr v i wx) (fun _ i _ => n - (intOf i).toNat)
          case atStart =>
            exact ⟨0, rfl, Nat.zero_le _, by simp, Below.refl _ _⟩
          case round =>
            rename_i wx
            obtain ⟨j, rfl, hj, rfl, hbx⟩ := hrel
            by_cases hjn : j < n
            case pos =>
              have hjl : j < rl.length := by omega
              have hfs := flat_snoc rl j hjl
              obtain ⟨b, hb0⟩ : ∃ b, (rl[j]).toNat = b := ⟨_, rfl⟩
              have hb256 : b < 256 := by rw [← hb0]; exact UInt8.toNat_lt _
              have hbe : UInt8.ofNat b = rl[j] := by rw [← hb0]; simp
              rw [← hbe] at hfs
              have hat := fun w => run_at (P := Tryd.prog) w Tryd.underlying9 rl (j : Int) j b rfl hjl (by rw [List.getElem?_eq_getElem hjl]; exact hb0)
              obtain ⟨hx3, hh3⟩ : ∃ y, hexL (UInt8.ofNat b) = y := ⟨_, rfl⟩
              have hl3 : hx3.length = 3 := by subst hh3; rfl
              have hfl : ((rl.take j).flatMap hexL).length ≤ 3 * rl.length := by rw [hex_len]; simp; omega
              obtain ⟨a2, ha2⟩ : ∃ y, acc ++ (rl.take j).flatMap hexL = y := ⟨_, rfl⟩
              have hl2 : a2.length ≤ 3 * l.length + 3 * rl.length := by rw [← ha2, List.length_append]; omega
              rw [hh3] at hfs
              have hfs2 : acc ++ (rl.take (j + 1)).flatMap hexL = a2 ++ hx3 := by rw [hfs, ← ha2, List.append_assoc]
              have hl3' : hx3.length ≤ 3 := by omega
              have HFS := Lib.hid hfs2
              have H3 := Lib.hid hh3
              rw [ha2]
              clear hfs hfs2 hbe hb0 hh3 ha2 hl3 hfl
              go_wp2_with fail
              refine (hex_any b hb256 _).mono ?_
              rintro e w2 ⟨rfl, hb2⟩
              rw [H3.out]
              go_wp2
              go_roundw
              case rel =>
                exact ⟨j + 1, by go_num, by omega, by rw [HFS.out] <;> simp, bt hbx hb2⟩
              case measure =>
                simp [intOf]; omega
            case neg =>
              have hje : j = n := by omega
              subst hje
              go_wp2
              rw [E1.out]
              refine ⟨⟨rl.drop j, acc ++ (rl.take j).flatMap hexL, rfl, rfl, by rw [HT.out, HST.out, HX.out, List.append_assoc], by simp; omega, bt hb hbx⟩, ?_⟩
              simp only [strLn, size_mk]
              exact HZ.out
        case true =>
          by_cases h37 : c = 37
          case pos =>
            subst h37
            have hx : oneL rl = (rl.take n).flatMap hexL := by rw [HO.out]; simp
            have HX := Lib.hid hx
            clear hx
            go_wp2
            go_loopw [3, 6] (fun v i wx => HexRel rl acc n wr v i wx) (fun _ i _ => n - (intOf i).toNat)
            case atStart =>
              exact ⟨0, rfl, Nat.zero_le _, by simp, Below.refl _ _⟩
            case round =>
              rename_i wx
              obtain ⟨j, rfl, hj, rfl, hbx⟩ := hrel
              by_cases hjn : j < n
              case pos =>
                have hjl : j < rl.length := by omega
                have hfs := flat_snoc rl j hjl
                obtain ⟨b, hb0⟩ : ∃ b, (rl[j]).toNat = b := ⟨_, rfl⟩
                have hb256 : b < 256 := by rw [← hb0]; exact UInt8.toNat_lt _
                have hbe : UInt8.ofNat b = rl[j] := by rw [← hb0]; simp
                rw [← hbe] at hfs
                have hat := fun w => run_at (P := Tryd.prog) w Tryd.underlying9 rl (j : Int) j b rfl hjl (by rw [List.getElem?_eq_getElem hjl]; exact hb0)
                obtain ⟨hx3, hh3⟩ : ∃ y, hexL (UInt8.ofNat b) = y := ⟨_, rfl⟩
                have hl3 : hx3.length = 3 := by subst hh3; rfl
                have hfl : ((rl.take j).flatMap hexL).length ≤ 3 * rl.length := by rw [hex_len]; simp; omega
                obtain ⟨a2, ha2⟩ : ∃ y, acc ++ (rl.take j).flatMap hexL = y := ⟨_, rfl⟩
                have hl2 : a2.length ≤ 3 * l.length + 3 * rl.length := by rw [← ha2, List.length_append]; omega
                rw [hh3] at hfs
                have hfs2 : acc ++ (rl.take (j + 1)).flatMap hexL = a2 ++ hx3 := by rw [hfs, ← ha2, List.append_assoc]
                have hl3' : hx3.length ≤ 3 := by omega
                have HFS := Lib.hid hfs2
                have H3 := Lib.hid hh3
                rw [ha2]
                clear hfs hfs2 hbe hb0 hh3 ha2 hl3 hfl
                go_wp2_with fail
                refine (hex_any b hb256 _).mono ?_
                rintro e w2 ⟨rfl, hb2⟩
                rw [H3.out]
                go_wp2
                go_roundw
                case rel =>
                  exact ⟨j + 1, by go_num, by omega, by rw [HFS.out] <;> simp, bt hbx hb2⟩
                case measure =>
                  simp [intOf]; omega
              case neg =>
                have hje : j = n := by omega
                subst hje
                go_wp2
                rw [E1.out]
                refine ⟨⟨rl.drop j, acc ++ (rl.take j).flatMap hexL, rfl, rfl, by rw [HT.out, HST.out, HX.out, List.append_assoc], by simp; omega, bt hb hbx⟩, ?_⟩
                simp only [strLn, size_mk]
                exact HZ.out
          case neg =>
            have h37b : (c == 37) = false := beq_eq_false_iff_ne.2 h37
            have hx : oneL rl = rl.take n := by rw [HO.out, HP.out, h37b]; rfl
            have HX := Lib.hid hx
            clear hx
            have h37c : (c != 37) = true := by simp [h37]
            go_wp2
            rw [E1.out]
            refine ⟨⟨rl.drop n, acc ++ rl.take n, rfl, rfl, by rw [HT.out, HST.out, HX.out, List.append_assoc], by simp; omega, hb⟩, ?_⟩
            simp only [strLn, size_mk]
            exact HZ.out
end Go.Proofs.YtclddkdchlcpeaaDoor
