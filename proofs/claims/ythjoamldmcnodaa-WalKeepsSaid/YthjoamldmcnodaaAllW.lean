/- The walks through frame.All, the document's All, Same, Small. -/
import Derived.Test.YthjoamldmcnodaaFrameW
import Derived.Test.YthjoamldmcnodaaFrame2W
import Derived.Test.YthjoamldmcnodaaAll
import Derived.Test.YthjoamldmcnodaaSl
import Derived.Deep.QuietTactic
import Derived.BigQuiet
namespace Go.Proofs.Ythjoamldmcnodaa
open Go.RowKit
theorem infoStr : (Try.prog.info? 9).map (fun i => (i.zero, i.size, i.bytes)) = some (some (.string ByteArray.empty), 1, 16) := by kernel_rfl
def strLen : Value → Nat | .string s => s.size | _ => 0
/-- a list of texts in a row of the call's own, and a number -/
def OwnStrs (w : World) (ls : List (List UInt8)) (n : Nat) (e : Ending) (w' : World) : Prop :=
  ∃ A cap, e = .returned (.tuple #[.slice A ls.length cap, .int .i64 n]) ∧ w'.ownsRow w.heap.size 9 1 (.slice A ls.length cap) ls.length (ls.map strL) ∧ Below w.heap.size w w'
theorem own_strs {w w' : World} {ls : List (List UInt8)} {n : Nat} {m : Int} {e : Ending} {v : Value} (hn : m = n) (he : e = .returned (.tuple #[v, .int .i64 m])) (hown : w'.ownsRow w.heap.size 9 1 v ls.length (ls.map strL)) (hb : Below w.heap.size w w') : OwnStrs w ls n e w' := by
  subst hn
  obtain ⟨A, cap, hv⟩ := own_slice hown
  subst hv
  exact ⟨A, cap, he, hown, hb⟩
def AllRel (l : List UInt8) (w : World) (v r : Value) (wr : World) : Prop :=
  ∃ (pre : List (List UInt8)) (rl : List UInt8), r = .string ⟨rl.toArray⟩ ∧ allL l = pre ++ allL rl ∧ restL l = restL rl ∧ 5 * pre.length + rl.length ≤ l.length ∧
    wr.ownsRow w.heap.size 9 1 v pre.length (pre.map strL) ∧ Below w.heap.size w wr
theorem frame_shorter (l b r : List UInt8) (h : frameTakeL l = (b, r, 0)) : r.length + 5 ≤ l.length := by
  have hs := (frame_some l b r h).1
  have hl := congrArg List.length hs
  rw [List.length_append] at hl
  have hw := wrapL_pos b
  omega
set_option maxHeartbeats 800000 in
set_option maxRecDepth 100000 in
theorem all_any (l : List UInt8) (hl : l.length ≤ 1099511627776) (w : World) :
    Calls Try.prog 26 #[.string ⟨l.toArray⟩] w (OwnStrs w (allL l) (wrapsL (allL l)).length) := by
  obtain ⟨i0, hi, hz0, hz1, hz2⟩ := info_parts infoStr
  go_enter Try.func26, Try.ntmps26
  go_wp2
  go_loopw [4, 5] (fun v r wr => AllRel l w v r wr) (fun _ r _ => strLen r)
  case atStart => exact ⟨[], l, rfl, rfl, rfl, by simp, World.ownsRow_nil _ _ _ _, Below.refl _ _⟩
  case round =>
    obtain ⟨pre, rl, rfl, hall, hrest, hlen, hown, hb⟩ := hrel
    have hbs := hb.size
    have HA := Lib.hid hall
    have HR := Lib.hid hrest
    clear hall hrest
    by_cases he : (frameTakeL rl).2.2 = 0
    · have hq : frameTakeL rl = ((frameTakeL rl).1, (frameTakeL rl).2.1, 0) := by rw [← he]
      obtain ⟨b, hbd⟩ : ∃ b, (frameTakeL rl).1 = b := ⟨_, rfl⟩
      obtain ⟨r, hr⟩ : ∃ r, (frameTakeL rl).2.1 = r := ⟨_, rfl⟩
      rw [hbd, hr] at hq
      have hst := all_step rl b r hq
      have hsh := frame_shorter rl b r hq
      have HQ := Lib.hid hq
      have HS := Lib.hid hst
      clear hq hst he hbd hr
      go_wp2_with fail
      refine (frtake_any rl (by omega) wr).mono ?_
      rintro e w1 ⟨rfl, hb1⟩
      rw [HQ.out]
      have hown1 := own_below hown hb1 (Nat.le_refl _)
      have hb1s := hb1.size
      go_wp2_with (at_builtin; refine wpList_push (by rfl) _ _ _ (by rfl) w.heap.size 9 i0 (.string ByteArray.empty) 16 Try.underlying22 hi hz0 hz1 hz2 rfl w1 _ pre.length (pre.map strL) (by rfl) hown1 (.string ⟨b.toArray⟩) rfl 1 (by rfl) (by omega) (by omega) (by omega) ?_; intro g cap w2 hown2 hb2)
      go_roundw
      case rel =>
        refine ⟨pre ++ [b], r, rfl, by rw [HA.out, HS.out.1]; simp, by rw [HR.out, HS.out.2], by simp; omega, ?_, (hb.trans (hb1.mono hbs)).trans hb2⟩
        rw [List.map_append, List.length_append]
        exact hown2
      case measure => simp [strLen, size_mk]; omega
    · have hst := all_stop rl he
      have hrl := rest_len l
      rw [HR.out, hst.2, HA.out, hst.1, List.append_nil] at hrl
      have hn : allL l = pre := by rw [HA.out, hst.1, List.append_nil]
      have hee := frame_err rl he
      obtain ⟨ee, hE⟩ : ∃ n, (frameTakeL rl).2.2 = n := ⟨_, rfl⟩
      rw [hE] at he
      have hq : ((ee : Int) == 0) = false := by simp; omega
      have HE := Lib.hid hE
      have HN := Lib.hid hn
      have HL := Lib.hid hrl
      clear hst hrl hn he hE hee
      go_wp2_with fail
      refine (frtake_any rl (by omega) wr).mono ?_
      rintro e w1 ⟨rfl, hb1⟩
      rw [HE.out]
      have hown1 := own_below hown hb1 (Nat.le_refl _)
      have hb1s := hb1.size
      go_wp2
      go_ret2
      have hL := HL.out
      have hx : ((wrapsL (allL l)).length : Int) = (l.length : Int) - rl.length := by
        rw [HN.out, ← hL]
        omega
      exact own_strs hx.symm rfl (by rw [HN.out]; exact hown1) (hb.trans (hb1.mono hbs))
def RefAllRel (l : List UInt8) (w : World) (v a : Value) (wr : World) : Prop :=
  ∃ (pre : List (List UInt8)), a = .int .i64 (wrapsL pre).length ∧ (wrapsL pre).length ≤ l.length ∧ allL l = pre ++ allL (l.drop (wrapsL pre).length) ∧ restL l = restL (l.drop (wrapsL pre).length) ∧ 5 * pre.length ≤ (wrapsL pre).length ∧
    wr.ownsRow w.heap.size 9 1 v pre.length (pre.map strL) ∧ Below w.heap.size w wr
theorem wraps_snoc (pre : List (List UInt8)) (b : List UInt8) : (wrapsL (pre ++ [b])).length = (wrapsL pre).length + (wrapL b).length := by
  unfold wrapsL
  simp
set_option maxHeartbeats 800000 in
set_option maxRecDepth 100000 in
theorem refall_any (l : List UInt8) (hl : l.length ≤ 1099511627776) (w : World) :
    Calls Try.prog 14 #[.string ⟨l.toArray⟩] w (OwnStrs w (allL l) (wrapsL (allL l)).length) := by
  obtain ⟨i0, hi, hz0, hz1, hz2⟩ := info_parts infoStr
  go_enter Try.func14, Try.ntmps14
  go_wp2
  go_loopw [4, 5] (fun v r wr => RefAllRel l w v r wr) (fun _ r _ => l.length - (intOf r).toNat)
  case atStart => exact ⟨[], rfl, by simp [wrapsL], rfl, rfl, by simp [wrapsL], World.ownsRow_nil _ _ _ _, Below.refl _ _⟩
  case round =>
    obtain ⟨pre, rfl, hle, hall, hrest, h5, hown, hb⟩ := hrel
    have hbs := hb.size
    have HA := Lib.hid hall
    have HR := Lib.hid hrest
    clear hall hrest
    obtain ⟨n, hn⟩ : ∃ n, (wrapsL pre).length = n := ⟨_, rfl⟩
    rw [hn] at hle h5 HA HR
    rw [hn]
    have HN := Lib.hid hn
    clear hn
    have hsl := fun w => run_from (P := Try.prog) w Try.underlying9 l n n rfl hle
    obtain ⟨rl, hrl⟩ : ∃ rl, l.drop n = rl := ⟨_, rfl⟩
    have hll : rl.length = l.length - n := by rw [← hrl]; simp
    have hlle : rl.length + n ≤ l.length := by omega
    rw [hrl] at hsl HA HR
    have HRL := Lib.hid hrl
    have HLL := Lib.hid hll
    clear hrl hll
    by_cases he : (frameTakeL rl).2.2 = 0
    · have hq : frameTakeL rl = ((frameTakeL rl).1, (frameTakeL rl).2.1, 0) := by rw [← he]
      obtain ⟨b, hbd⟩ : ∃ b, (frameTakeL rl).1 = b := ⟨_, rfl⟩
      obtain ⟨r, hr⟩ : ∃ r, (frameTakeL rl).2.1 = r := ⟨_, rfl⟩
      rw [hbd, hr] at hq
      have hst := all_step rl b r hq
      have hfs := frame_some rl b r hq
      have hlb := congrArg List.length hfs.1
      rw [List.length_append] at hlb
      have hwp := wrapL_pos b
      have hbl := hfs.2
      have hdr : l.drop (n + (wrapL b).length) = r := by
        rw [← List.drop_drop, HRL.out, hfs.1, List.drop_left]
      have hwl : (wrapL b).length + n ≤ l.length := by omega
      have HQ := Lib.hid hq
      have HS := Lib.hid hst
      have HD := Lib.hid hdr
      clear hq hst he hbd hr hfs hlb hdr
      obtain ⟨k, hk⟩ : ∃ k, (wrapL b).length = k := ⟨_, rfl⟩
      rw [hk] at hwl hwp
      go_wp2_with fail
      refine (reffrtake_any rl (by omega) wr).mono ?_
      rintro e w1 ⟨rfl, hb1⟩
      rw [HQ.out]
      have hown1 := own_below hown hb1 (Nat.le_refl _)
      have hb1s := hb1.size
      have HK := Lib.hid hk
      clear hk
      go_wp2_with (at_builtin; refine wpList_push (by rfl) _ _ _ (by rfl) w.heap.size 9 i0 (.string ByteArray.empty) 16 Try.underlying22 hi hz0 hz1 hz2 rfl w1 _ pre.length (pre.map strL) (by rfl) hown1 (.string ⟨b.toArray⟩) rfl 1 (by rfl) (by omega) (by omega) (by omega) ?_; intro g cap w2 hown2 hb2)
      have hb2s := hb2.size
      refine (refwrap_any b (by omega) w2).mono ?_
      rintro e w3 ⟨rfl, hb3⟩
      have hk := HK.out
      go_wp2
      go_roundw
      case rel =>
        refine ⟨pre ++ [b], ?_, ?_, ?_, ?_, ?_, ?_, ?_⟩
        · rw [wraps_snoc, HN.out, HK.out]; go_num
        · rw [wraps_snoc, HN.out, HK.out]; omega
        · rw [wraps_snoc, HN.out, HD.out, HA.out, HS.out.1]; simp
        · rw [wraps_snoc, HN.out, HD.out, HR.out, HS.out.2]
        · rw [wraps_snoc, HN.out, HK.out]; simp; omega
        · rw [List.map_append, List.length_append]
          exact own_below hown2 hb3 (Nat.le_refl _)
        · exact ((hb.trans (hb1.mono hbs)).trans hb2).trans (hb3.mono (by omega))
      case measure => simp [intOf]; omega
    · have hst := all_stop rl he
      have hn : allL l = pre := by rw [HA.out, hst.1, List.append_nil]
      obtain ⟨ee, hE⟩ : ∃ n, (frameTakeL rl).2.2 = n := ⟨_, rfl⟩
      rw [hE] at he
      have hq : ((ee : Int) == 0) = false := by simp; omega
      have HE := Lib.hid hE
      have HN2 := Lib.hid hn
      clear hst hn he hE
      go_wp2_with fail
      refine (reffrtake_any rl (by omega) wr).mono ?_
      rintro e w1 ⟨rfl, hb1⟩
      rw [HE.out]
      have hown1 := own_below hown hb1 (Nat.le_refl _)
      go_wp2
      go_ret2
      exact own_strs (m := (n : Int)) (by rw [HN2.out, HN.out]) rfl (by rw [HN2.out]; exact hown1) (hb.trans (hb1.mono hbs))
def SameRel (xs ys : List (List UInt8)) (w : World) (i : Value) (wr : World) : Prop := ∃ k n : Nat, i = .int .i64 k ∧ k ≤ xs.length ∧ xs.take k = ys.take k ∧ wr = w.drewN n
theorem take_eq_succ {α : Type} (xs ys : List α) (k : Nat) (ha : k < xs.length) (hb : k < ys.length) (h : xs.take k = ys.take k) (he : xs[k] = ys[k]) : xs.take (k + 1) = ys.take (k + 1) := by
  rw [List.take_succ_eq_append_getElem ha, List.take_succ_eq_append_getElem hb, h, he]
set_option maxHeartbeats 800000 in
set_option maxRecDepth 100000 in
theorem same_any (xs ys : List (List UInt8)) (A B : Option Addr) (n m cap cap' : Nat) (w : World) (hn : xs.length = n) (hm : ys.length = m) (hn1 : n ≤ 9223372036854775807) (hm1 : m ≤ 9223372036854775807)
    (hA : Rd w w.heap.size 1 A n (xs.map strL)) (hB : Rd w w.heap.size 1 B m (ys.map strL)) :
    Calls Try.prog 12 #[.slice A n cap, .slice B m cap'] w fun e w' => e = .returned (.bool (xs == ys)) ∧ Below w.heap.size w w' := by
  subst hn hm
  by_cases hlen : xs.length = ys.length
  · have hq : ((xs.length : Int) == (ys.length : Int)) = true := by simp [hlen]
    have hq2 : ((xs.length : Int) != (ys.length : Int)) = false := by simp [hlen]
    have HL := Lib.hid hlen
    have hl1 : xs.length ≤ ys.length := by omega
    have hl2 : ys.length ≤ xs.length := by omega
    clear hlen
    go_enter Try.func12, Try.ntmps12
    go_wp2
    go_loopw [5] (fun i wr => SameRel xs ys w i wr) (fun i _ => xs.length - (intOf i).toNat)
    case atStart => exact ⟨0, 0, rfl, Nat.zero_le _, rfl, rfl⟩
    case round =>
      obtain ⟨k, nd, rfl, hk, htk, rfl⟩ := hrel
      have HT := Lib.hid htk
      clear htk
      by_cases hlt : k < xs.length
      · have hA2 := hA.2
        have hB2 := hB.2
        obtain ⟨ab, ao, rfl, hab, hac⟩ := hA2 (by omega)
        obtain ⟨bb, bo, rfl, hbb, hbc⟩ := hB2 (by omega)
        have hlt2 : k < ys.length := by omega
        have h1 := hac k (strL xs[k]) (by simp [hlt])
        have h2 := hbc k (strL ys[k]) (by simp [hlt2])
        have hts := take_eq_succ xs ys k hlt hlt2 HT.out
        obtain ⟨x, hx⟩ : ∃ x, xs[k] = x := ⟨_, rfl⟩
        obtain ⟨y, hy⟩ : ∃ y, ys[k] = y := ⟨_, rfl⟩
        have hne : x ≠ y → (xs == ys) = false := by
          intro hxy
          rw [beq_eq_false_iff_ne]
          intro e
          subst e
          exact hxy (hx.symm.trans hy)
        rw [hx] at h1 hts
        rw [hy] at h2 hts
        have HTS := Lib.hid hts
        have HNE := Lib.hid hne
        clear hts hne hx hy hac hbc hA2 hB2
        by_cases hxy : x = y
        · subst hxy
          go_wp2
          go_quiet (fail)
          go_wp2
          go_roundw
          case rel => exact ⟨k + 1, _, by go_num, by omega, HTS.out (by simp), rfl⟩
          case measure => simp [intOf]; omega
        · have hxb : (x == y) = false := beq_eq_false_iff_ne.2 hxy
          have hf := HNE.out hxy
          have HF := Lib.hid hf
          clear hf
          go_wp2
          go_quiet (fail)
          go_wp2
          go_ret
          exact ⟨by rw [HF.out]; rfl, below_drewN (below_drewN (Below.refl _ _) _) _⟩
      · have hkl : k = xs.length := by omega
        have ht := HT.out
        rw [List.take_of_length_le (by omega), List.take_of_length_le (by omega)] at ht
        have hf : (xs == ys) = true := by rw [ht]; simp
        have HF := Lib.hid hf
        clear hf ht hkl
        go_wp2
        go_ret
        exact ⟨by rw [HF.out]; rfl, below_drewN (Below.refl _ _) _⟩
  · have hq : ((xs.length : Int) == (ys.length : Int)) = false := by simp; omega
    have hf : (xs == ys) = false := by
      rw [beq_eq_false_iff_ne]
      intro e
      exact hlen (by rw [e])
    have HF := Lib.hid hf
    clear hf hlen
    go_enter Try.func12, Try.ntmps12
    go_wp2
    go_ret
    exact ⟨by rw [HF.out]; rfl, Below.refl _ _⟩
end Go.Proofs.Ythjoamldmcnodaa
