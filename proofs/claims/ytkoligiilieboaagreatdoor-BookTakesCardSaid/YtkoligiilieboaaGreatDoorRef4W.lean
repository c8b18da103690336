/- The walks of the document's Plain, Right, Letters, Compare of keys. -/
import Derived.Test.YtkoligiilieboaaGreatDoorLetterW
import Derived.Test.YtkoligiilieboaaGreatDoorMgA
import Derived.Deep.DrawnRows
set_option linter.unusedSimpArgs false
set_option linter.unusedVariables false
namespace Go.Proofs.YtkoligiilieboaaGreatDoor
open Go.RowKit
attribute [local go_sem] ByteArray.mk_append_mk ByteArray.extract_mk
def strLn : Value → Nat | .string s => s.size | _ => 0
set_option maxHeartbeats 400000 in
set_option maxRecDepth 100000 in
theorem refplain_any (c : Int) (w : World) : Calls Tryz.prog 113 #[.int .i64 c] w fun e w' => e = .returned (.bool (plainR c)) ∧ w = w' := by
  by_cases h0 : 32 < c
  case neg =>
    have hr : plainR c = false := by simp [plainR, h0]
    have HR := Lib.hid hr
    clear hr
    go_enter Tryz.func113, Tryz.ntmps113
    go_wp2
    go_ret
    exact ⟨by rw [HR.out]; rfl, rfl⟩
  case pos =>
    by_cases h1 : c = 127
    case pos =>
      subst h1
      go_enter Tryz.func113, Tryz.ntmps113
      go_wp2
      go_ret
      exact ⟨rfl, rfl⟩
    case neg =>
      have h1' : (c != 127) = true := by simp [h1]
      by_cases h2 : c < 128
      case pos =>
        have hr : plainR c = true := by simp [plainR, h0, h1, h2]
        have HR := Lib.hid hr
        clear hr
        go_enter Tryz.func113, Tryz.ntmps113
        go_wp2
        go_ret
        exact ⟨by rw [HR.out]; rfl, rfl⟩
      case neg =>
        by_cases h3 : 159 < c
        case pos =>
          have hr : plainR c = true := by simp [plainR, h0, h1, h3]
          have HR := Lib.hid hr
          clear hr
          go_enter Tryz.func113, Tryz.ntmps113
          go_wp2
          go_ret
          exact ⟨by rw [HR.out]; rfl, rfl⟩
        case neg =>
          have hr : plainR c = false := by simp [plainR, h2, h3]
          have HR := Lib.hid hr
          clear hr
          go_enter Tryz.func113, Tryz.ntmps113
          go_wp2
          go_ret
          exact ⟨by rw [HR.out]; rfl, rfl⟩
theorem letL_cases (l : List UInt8) : (letL l = (-1, 1) ∧ decL l = (65533, 1)) ∨ letL l = (((decL l).1 : Int), (decL l).2) := by
  unfold letL
  split
  · exact .inl ⟨rfl, by assumption⟩
  · exact .inr rfl
theorem letL_snd (l : List UInt8) : (letL l).2 = (decL l).2 := by
  rcases letL_cases l with ⟨h1, h2⟩ | h
  · rw [h1, h2]
  · rw [h]
theorem letL_max (l : List UInt8) : -1 ≤ (letL l).1 ∧ (letL l).1 ≤ 1114111 := by
  have := decL_max l
  rcases letL_cases l with ⟨h1, h2⟩ | h
  · rw [h1]; exact ⟨by omega, by omega⟩
  · rw [h]; exact ⟨by simp only; omega, by simp only; omega⟩
theorem letL_code (l : List UInt8) : ((letL l).1 < 0 → (decL l).1 = 65533) ∧ (0 ≤ (letL l).1 → (letL l).1 = (decL l).1) := by
  rcases letL_cases l with ⟨h1, h2⟩ | h
  · rw [h1, h2]; exact ⟨fun _ => rfl, fun h => by simp only at h; omega⟩
  · rw [h]; exact ⟨fun h => by simp only at h; omega, fun _ => rfl⟩
def RRel (l : List UInt8) (w : World) (x : Value) (wr : World) : Prop :=
  ∃ rl : List UInt8, x = .string ⟨rl.toArray⟩ ∧ plainL l = plainL rl ∧ rl.length ≤ l.length ∧ w = wr
set_option maxHeartbeats 800000 in
set_option maxRecDepth 100000 in
theorem refkright_any (l : List UInt8) (hl : l.length ≤ 9223372036854775807) (w : World) :
    Calls Tryz.prog 85 #[.string ⟨l.toArray⟩] w fun e w' => e = .returned (.bool (rightL l)) ∧ w = w' := by
  by_cases h1 : l.length = 0
  case pos =>
    have hr : rightL l = false := by simp [rightL, h1]
    have HR := Lib.hid hr
    clear hr
    go_enter Tryz.func85, Tryz.ntmps85
    go_wp2
    go_ret
    exact ⟨by rw [HR.out]; rfl, rfl⟩
  case neg =>
    have h1' : ((l.length : Int) == 0) = false := by simp; intro e; subst e; exact h1 rfl
    have h1'' : ¬ (l.length : Int) = 0 := by omega
    by_cases h2 : 16 < l.length
    case pos =>
      have hr : rightL l = false := by simp [rightL]; intros; omega
      have HR := Lib.hid hr
      clear hr
      go_enter Tryz.func85, Tryz.ntmps85
      go_wp2
      go_ret
      exact ⟨by rw [HR.out]; rfl, rfl⟩
    case neg =>
      have hr : rightL l = plainL l := by
        unfold rightL
        have e1 : decide (1 ≤ l.length) = true := by simp; omega
        have e2 : decide (l.length ≤ 16) = true := by simp; omega
        rw [e1, e2]; simp
      have HR := Lib.hid hr
      clear hr
      go_enter Tryz.func85, Tryz.ntmps85
      go_wp2
      go_loopw [0] (fun x wr => RRel l w x wr) (fun x _ => strLn x)
      case atStart => exact ⟨l, rfl, rfl, Nat.le_refl _, rfl⟩
      case round =>
        obtain ⟨rl, rfl, hpl, hll, rfl⟩ := hrel
        have HP := Lib.hid hpl
        clear hpl
        by_cases hlt : 0 < rl.length
        case neg =>
          have hrl : rl = [] := List.eq_nil_of_length_eq_zero (by omega)
          have hp : plainL l = true := by rw [HP.out, hrl]; rfl
          have HP2 := Lib.hid hp
          clear hp
          subst hrl
          go_wp2
          go_ret
          exact ⟨by rw [HR.out, HP2.out]; rfl, rfl⟩
        case pos =>
          have hne : rl ≠ [] := fun e => by subst e; simp at hlt
          have hst := plain_cons rl hne
          rw [plain_eq, ← letL_snd] at hst
          have hsz := decL_le rl hne
          have hps := (decL_pos rl).1
          rw [← letL_snd] at hsz hps
          have LT := letter_any rl hne (by omega)
          obtain ⟨c, hc⟩ : ∃ c, (letL rl).1 = c := ⟨_, rfl⟩
          obtain ⟨n, hn⟩ : ∃ n, (letL rl).2 = n := ⟨_, rfl⟩
          rw [hc, hn] at LT hst
          rw [hn] at hsz hps
          have HS := Lib.hid hst
          clear hst hc hn hne
          go_wp2_with fail
          refine (LT _).mono ?_
          rintro e w1 ⟨rfl, rfl⟩
          go_wp2_with fail
          refine (refplain_any c _).mono ?_
          rintro e w1 ⟨rfl, rfl⟩
          cases hb : plainR c
          case false =>
            have hp : plainL l = false := by rw [HP.out, HS.out, hb]; rfl
            have HP2 := Lib.hid hp
            clear hp hb
            go_wp2
            go_ret
            exact ⟨by rw [HR.out, HP2.out]; rfl, rfl⟩
          case true =>
            have hp : plainL l = plainL (rl.drop n) := by rw [HP.out, HS.out, hb]; rfl
            have HP2 := Lib.hid hp
            clear hp hb
            go_wp2
            have e1 : List.take (rl.length - n) (List.drop n rl) = rl.drop n := by rw [← List.length_drop]; exact List.take_length
            rw [e1]
            refine ⟨⟨rl.drop n, rfl, HP2.out, by simp; omega, rfl⟩, ?_⟩
            have hz : (rl.drop n).length < rl.length := by rw [List.length_drop]; omega
            simp only [strLn, size_mk]
            exact hz
theorem infoI : (Tryz.prog.info? 3).map (fun i => (i.zero, i.size, i.bytes)) = some (some (.int .i64 0), 1, 8) := by kernel_rfl
def OwnInts (w : World) (ns : List Nat) (e : Ending) (w' : World) : Prop :=
  ∃ A cap, e = .returned (.slice A ns.length cap) ∧ w'.ownsRow w.heap.size 3 1 (.slice A ns.length cap) ns.length (ns.map iv) ∧ Below w.heap.size w w'
theorem own_ints {w w' : World} {ns : List Nat} {e : Ending} {v : Value} (he : e = .returned v) (hown : w'.ownsRow w.heap.size 3 1 v ns.length (ns.map iv)) (hb : Below w.heap.size w w') : OwnInts w ns e w' := by
  obtain ⟨A, cap, hv⟩ := own_slice hown
  subst hv
  exact ⟨A, cap, he, hown, hb⟩
def LsRel (l : List UInt8) (w : World) (s v : Value) (wr : World) : Prop :=
  ∃ (pre : List Nat) (rl : List UInt8), s = .string ⟨rl.toArray⟩ ∧ lettersL l = pre ++ lettersL rl ∧ pre.length + rl.length ≤ l.length ∧
    wr.ownsRow w.heap.size 3 1 v pre.length (pre.map iv) ∧ Below w.heap.size w wr
set_option maxHeartbeats 800000 in
set_option maxRecDepth 100000 in
theorem refletters_any (l : List UInt8) (hl : l.length ≤ 1099511627776) (w : World) :
    Calls Tryz.prog 114 #[.string ⟨l.toArray⟩] w (OwnInts w (lettersL l)) := by
  obtain ⟨i0, hi, hz0, hz1, hz2⟩ := info_parts infoI
  go_enter Tryz.func114, Tryz.ntmps114
  go_wp2
  go_loopw [0, 3] (fun s v wr => LsRel l w s v wr) (fun s _ _ => strLn s)
  case atStart => exact ⟨[], l, rfl, rfl, by simp, World.ownsRow_nil _ _ _ _, Below.refl _ _⟩
  case round =>
    obtain ⟨pre, rl, rfl, hls, hlen, hown, hb⟩ := hrel
    have HL := Lib.hid hls
    clear hls
    have hbs := hb.size
    by_cases hlt : 0 < rl.length
    case neg =>
      have hrl : rl = [] := List.eq_nil_of_length_eq_zero (by omega)
      have hp : lettersL l = pre := by rw [HL.out, hrl, letters_nil, List.append_nil]
      have HP2 := Lib.hid hp
      clear hp
      subst hrl
      go_wp2
      go_ret
      rw [HP2.out]
      exact own_ints rfl hown hb
    case pos =>
      have hne : rl ≠ [] := fun e => by subst e; simp at hlt
      have hst := letters_cons rl hne
      have hsz := decL_le rl hne
      have hps := (decL_pos rl).1
      have hcode := letL_code rl
      have hcm := letL_max rl
      have LT := letter_any rl hne (by omega)
      rw [letL_snd] at LT
      obtain ⟨c, hc⟩ : ∃ c, (letL rl).1 = c := ⟨_, rfl⟩
      obtain ⟨d, hd⟩ : ∃ d, (decL rl).1 = d := ⟨_, rfl⟩
      obtain ⟨n, hn⟩ : ∃ n, (decL rl).2 = n := ⟨_, rfl⟩
      rw [hc, hn] at LT
      rw [hd, hn] at hst
      rw [hc, hd] at hcode
      rw [hc] at hcm
      rw [hn] at hsz hps
      have HS := Lib.hid hst
      have HC := Lib.hid hcode
      clear hst hc hn hd hne hcode
      have hp : lettersL l = (pre ++ [d]) ++ lettersL (rl.drop n) := by rw [HL.out, HS.out]; simp
      have HP2 := Lib.hid hp
      clear hp
      have e1 : List.take (rl.length - n) (List.drop n rl) = rl.drop n := by rw [← List.length_drop]; exact List.take_length
      have E1 := Lib.hid e1
      clear e1
      have hzz : (rl.drop n).length < rl.length := by rw [List.length_drop]; omega
      have HZ := Lib.hid hzz
      clear hzz
      by_cases hneg : c < 0
      case pos =>
        have hd2 := HC.out.1 hneg
        subst hd2
        go_wp2_with fail
        refine (LT _).mono ?_
        rintro e w1 ⟨rfl, rfl⟩
        go_wp2_with (at_builtin; refine wpList_push (by rfl) _ _ _ (by rfl) w.heap.size 3 i0 (.int .i64 0) 8 Tryz.underlying49 hi hz0 hz1 hz2 rfl wr _ pre.length (pre.map iv) (by rfl) hown (iv 65533) rfl 1 (by rfl) (by omega) (by omega) (by omega) ?_; intro g cap w2 hown2 hb2)
        rw [E1.out]
        refine ⟨⟨pre ++ [65533], rl.drop n, rfl, HP2.out, by simp; omega, ?_, hb.trans hb2⟩, ?_⟩
        · rw [List.map_append, List.length_append]
          exact hown2
        · simp only [strLn, size_mk]
          exact HZ.out
      case neg =>
        have hd2 := HC.out.2 (by omega)
        subst hd2
        go_wp2_with fail
        refine (LT _).mono ?_
        rintro e w1 ⟨rfl, rfl⟩
        go_wp2_with (at_builtin; refine wpList_push (by rfl) _ _ _ (by rfl) w.heap.size 3 i0 (.int .i64 0) 8 Tryz.underlying49 hi hz0 hz1 hz2 rfl wr _ pre.length (pre.map iv) (by rfl) hown (iv d) rfl 1 (by rfl) (by omega) (by omega) (by omega) ?_; intro g cap w2 hown2 hb2)
        rw [E1.out]
        refine ⟨⟨pre ++ [d], rl.drop n, rfl, HP2.out, by simp; omega, ?_, hb.trans hb2⟩, ?_⟩
        · rw [List.map_append, List.length_append]
          exact hown2
        · simp only [strLn, size_mk]
          exact HZ.out
end Go.Proofs.YtkoligiilieboaaGreatDoor
