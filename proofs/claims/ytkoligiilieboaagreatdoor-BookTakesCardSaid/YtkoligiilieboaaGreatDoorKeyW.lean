/- The walks through key.plain and key.Compare. -/
import Derived.Test.YtkoligiilieboaaGreatDoorShelf09
import Derived.Test.YtkoligiilieboaaGreatDoorMgA
import Derived.Deep.QuietTactic
import Derived.BigQuiet
import Derived.Deep.DrawnRows
import Derived.Outline
set_option linter.unusedSimpArgs false
set_option linter.unusedVariables false
namespace Go.Proofs.YtkoligiilieboaaGreatDoor
open Go.RowKit
attribute [local go_sem] ByteArray.mk_append_mk ByteArray.extract_mk
def plainI (a n : Int) : Bool := decide (33 ≤ a) && (decide (a < 127) || decide (159 < a)) && (!decide (a = 65533) || decide (n = 3))
theorem plainI_nat (c n : Nat) : plainI c n = plainB c n := by
 unfold plainI plainB
 rw [Bool.eq_iff_iff]
 simp
 omega
set_option maxHeartbeats 400000 in
set_option maxRecDepth 100000 in
theorem plain_any (a n : Int) (w : World) : Calls Tryz.prog 119 #[.int .i32 a, .int .i64 n] w fun e w' => e = .returned (.bool (plainI a n)) ∧ w = w' := by
 by_cases h0 : 33 ≤ a
 case neg =>
  have hr : plainI a n = false := by simp [plainI, h0]
  have HR := Lib.hid hr
  clear hr
  go_enter Tryz.func119, Tryz.ntmps119
  go_wp2
  go_ret
  exact ⟨by rw [HR.out]; rfl, rfl⟩
 case pos =>
  by_cases h1 : a < 127
  case pos =>
   have h5 : ¬ a = 65533 := by omega
   have hr : plainI a n = true := by simp [plainI, h0, h1, h5]
   have HR := Lib.hid hr
   clear hr
   go_enter Tryz.func119, Tryz.ntmps119
   go_wp2
   go_ret
   exact ⟨by rw [HR.out]; rfl, rfl⟩
  case neg =>
   by_cases h2 : 159 < a
   case neg =>
    have hr : plainI a n = false := by simp [plainI, h1, h2]
    have HR := Lib.hid hr
    clear hr
    go_enter Tryz.func119, Tryz.ntmps119
    go_wp2
    go_ret
    exact ⟨by rw [HR.out]; rfl, rfl⟩
   case pos =>
    by_cases h3 : a = 65533
    case neg =>
     have hr : plainI a n = true := by simp [plainI, h0, h2, h3]
     have HR := Lib.hid hr
     clear hr
     go_enter Tryz.func119, Tryz.ntmps119
     go_wp2
     go_ret
     exact ⟨by rw [HR.out]; rfl, rfl⟩
    case pos =>
     subst h3
     by_cases h4 : n = 3
     case pos =>
      subst h4
      go_enter Tryz.func119, Tryz.ntmps119
      go_wp2
      go_ret
      exact ⟨rfl, rfl⟩
     case neg =>
      have hr : plainI 65533 n = (n == 3) := by rw [Bool.eq_iff_iff]; simp [plainI]
      have HR := Lib.hid hr
      clear hr
      go_enter Tryz.func119, Tryz.ntmps119
      go_wp2
      go_ret
      exact ⟨by rw [HR.out]; rfl, rfl⟩
theorem decGo_eq (l : List UInt8) (h : l ≠ []) : Go.Lib.decodeGo ⟨l.toArray⟩ = decL l := by
 have hz : (⟨l.toArray⟩ : ByteArray).size = l.length := by show l.toArray.size = _; simp
 unfold Go.Lib.decodeGo
 rw [hz, if_neg (by have := List.length_pos_iff.2 h; omega), decode_eq, List.drop_zero]
theorem decode_any (l : List UInt8) (h : l ≠ []) (w : World) (hT : Go.Lib.Utf8Tabs 0 1 w) :
  Calls Tryz.prog 118 #[.string ⟨l.toArray⟩] w fun e w' => e = .returned (.tuple #[.int .i32 (decL l).1, .int .i64 (decL l).2]) ∧ Below w.heap.size w w' := by
 have := Tryz.utf8_DecodeRuneInString ⟨l.toArray⟩ w hT
 rw [decGo_eq l h] at this
 exact this
theorem cmpL_step (a b : List UInt8) (ha : a ≠ []) (hb : b ≠ []) : cmpL a b = if (decL a).1 < (decL b).1 then -1 else if (decL b).1 < (decL a).1 then 1 else cmpL (a.drop (decL a).2) (b.drop (decL b).2) := by
 unfold cmpL
 rw [letters_cons a ha, letters_cons b hb]
 rfl
theorem cmpL_nil (b : List UInt8) (hb : b ≠ []) : cmpL [] b = -1 := by
 unfold cmpL
 rw [letters_cons b hb]
 rfl
theorem cmpL_cons (a : List UInt8) (ha : a ≠ []) : cmpL a [] = 1 := by
 unfold cmpL
 rw [letters_cons a ha]
 rfl
def strLen : Value → Nat | .string s => s.size | _ => 0
theorem mk_ne (l : List UInt8) (h : l ≠ []) : l.isEmpty = false := by
 cases l <;> simp at h ⊢
def CmpRel (a b : List UInt8) (w : World) (x y : Value) (wr : World) : Prop :=
 ∃ la lb : List UInt8, x = .string ⟨la.toArray⟩ ∧ y = .string ⟨lb.toArray⟩ ∧ cmpL a b = cmpL la lb ∧ la.length ≤ a.length ∧ lb.length ≤ b.length ∧ Below w.heap.size w wr
set_option maxHeartbeats 1600000 in
set_option maxRecDepth 100000 in
theorem compare_all (a b : List UInt8) (w : World) (hT : Go.Lib.Utf8Tabs 0 1 w) :
  Calls Tryz.prog 102 #[.string ⟨a.toArray⟩, .string ⟨b.toArray⟩] w fun e w' => e = .returned (.int .i64 (cmpL a b)) ∧ Below w.heap.size w w' := by
 go_enter Tryz.func102, Tryz.ntmps102
 go_wp2
 go_loopw [0, 1] (fun x y wr => CmpRel a b w x y wr) (fun x _ _ => strLen x)
 case atStart => exact ⟨a, b, rfl, rfl, rfl, Nat.le_refl _, Nat.le_refl _, Below.refl _ _⟩
 case round =>
  obtain ⟨la, lb, rfl, rfl, hcm, hl1, hl2, hb⟩ := hrel
  have hbs := hb.size
  have HC := Lib.hid hcm
  clear hcm
  have hTr := Utf8Tabs_below hT hb
  by_cases ha : la = []
  case pos =>
   subst ha
   by_cases hb0 : lb = []
   case pos =>
    subst hb0
    go_wp2
    go_ret
    exact ⟨by rw [HC.out]; rfl, hb⟩
   case neg =>
    have hn := mk_ne lb hb0
    go_wp2
    go_ret
    exact ⟨by rw [HC.out, cmpL_nil _ hb0]; rfl, hb⟩
  case neg =>
   have hna := mk_ne la ha
   by_cases hb0 : lb = []
   case pos =>
    subst hb0
    go_wp2
    go_ret
    exact ⟨by rw [HC.out, cmpL_cons _ ha]; rfl, hb⟩
   case neg =>
    have hnb := mk_ne lb hb0
    have hst := cmpL_step la lb ha hb0
    have HA := Lib.hid ha
    have HB := Lib.hid hb0
    have hda := decL_le la ha
    have hdb := decL_le lb hb0
    have hpa := (decL_pos la).1
    have DA := decode_any la ha
    have DB := decode_any lb hb0
    obtain ⟨r, hr⟩ : ∃ r, (decL la).1 = r := ⟨_, rfl⟩
    obtain ⟨n, hn⟩ : ∃ n, (decL la).2 = n := ⟨_, rfl⟩
    obtain ⟨q, hq⟩ : ∃ q, (decL lb).1 = q := ⟨_, rfl⟩
    obtain ⟨m, hm⟩ : ∃ m, (decL lb).2 = m := ⟨_, rfl⟩
    rw [hr, hn, hq, hm] at hst
    have HS := Lib.hid hst
    clear hst
    rw [hr, hn] at DA
    rw [hq, hm] at DB
    rw [hn] at hda hpa
    rw [hm] at hdb
    clear hr hn hq hm ha hb0
    go_wp2_with fail
    refine (DA _ hTr).mono ?_
    rintro e w1 ⟨rfl, hb1⟩
    have hT1 := Utf8Tabs_below hTr hb1
    have hb1s := hb1.size
    go_wp2_with fail
    refine (DB _ hT1).mono ?_
    rintro e w2 ⟨rfl, hb2⟩
    have hb2s := hb2.size
    have hBB := (hb.trans (hb1.mono hbs)).trans (hb2.mono (by omega))
    by_cases h1 : (r : Int) < q
    case pos =>
     go_wp2
     go_ret
     exact ⟨by rw [HC.out, HS.out, if_pos (by omega)]; rfl, hBB⟩
    case neg =>
     by_cases h2 : (q : Int) < r
     case pos =>
      go_wp2
      go_ret
      exact ⟨by rw [HC.out, HS.out, if_neg (by omega), if_pos (by omega)]; rfl, hBB⟩
     case neg =>
      go_wp2
      go_region
      go_wp2
      have e1 : List.take (la.length - n) (List.drop n la) = la.drop n := by rw [← List.length_drop]; exact List.take_length
      have e2 : List.take (lb.length - m) (List.drop m lb) = lb.drop m := by rw [← List.length_drop]; exact List.take_length
      rw [e1, e2]
      refine ⟨⟨la.drop n, lb.drop m, rfl, rfl, by rw [HC.out, HS.out, if_neg (by omega), if_neg (by omega)], by simp; omega, by simp; omega, hBB.drew⟩, ?_⟩
      have hz : (la.drop n).length < la.length := by rw [List.length_drop]; have := List.length_pos_iff.2 HA.out; omega
      simp only [strLen, size_mk]
      exact hz
theorem kcompare_any (a b : List UInt8) (w : World) (hT : Go.Lib.Utf8Tabs 0 1 w) (_hla : a.length ≤ 1099511627776) (_hlb : b.length ≤ 1099511627776) :
  Calls Tryz.prog 102 #[.string ⟨a.toArray⟩, .string ⟨b.toArray⟩] w fun e w' => e = .returned (.int .i64 (cmpL a b)) ∧ Below w.heap.size w w' := compare_all a b w hT
end Go.Proofs.YtkoligiilieboaaGreatDoor
