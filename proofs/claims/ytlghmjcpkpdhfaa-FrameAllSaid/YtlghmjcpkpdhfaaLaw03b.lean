/- The walks of the laws FrameAll and FrameRow. -/
import Derived.Test.YtlghmjcpkpdhfaaAllW
namespace Go.Proofs.Ytlghmjcpkpdhfaa
open Go.RowKit
attribute [local go_sem] ByteArray.extract_mk ByteArray.mk_append_mk
set_option maxHeartbeats 800000 in
set_option maxRecDepth 100000 in
theorem frameAll_walk (l : List UInt8) (hl : l.length ≤ 140737488351232) (w : World) :
    Calls Try.prog 8 #[.string ⟨l.toArray⟩] w fun e w' => e = .returned (.bool true) ∧ Below w.heap.size w w' := by
  by_cases h : 4096 < l.length
  · have h1 : (4096 : Int) < l.length := by omega
    go_enter Try.func8, Try.ntmps8
    go_wp2_with fail
    refine (awake03 _).mono ?_
    rintro e w4 ⟨rfl, hb4⟩
    go_wp2
    go_ret
    exact ⟨rfl, hb4⟩
  · have h1 : ¬ ((4096 : Int) < l.length) := by omega
    have hc := all_count l
    obtain ⟨ls, hls⟩ : ∃ ls, allL l = ls := ⟨_, rfl⟩
    obtain ⟨n, hn⟩ : ∃ n, (wrapsL ls).length = n := ⟨_, rfl⟩
    rw [hls] at hc
    have HLS := Lib.hid hls
    have HN := Lib.hid hn
    clear hls hn
    have hsame : (ls == ls) = true := by simp
    have HSA := Lib.hid hsame
    clear hsame
    go_enter Try.func8, Try.ntmps8
    go_wp2_with fail
    refine (all_any l (by omega) _).mono ?_
    rw [HLS.out, HN.out]
    rintro e w1 ⟨A, cap, rfl, hown1, hb1⟩
    go_wp2_with fail
    refine (refall_any l (by omega) _).mono ?_
    rw [HLS.out, HN.out]
    rintro e w2 ⟨B, cap', rfl, hown2, hb2⟩
    have hR1 := ((Rd.of_own hown1).below hb2 (Nat.le_refl _)).more hb2.size
    have hR2 := Rd.of_own hown2
    clear hown1 hown2
    go_wp2_with fail
    refine (same_any ls ls A B ls.length ls.length cap cap' w2 rfl rfl (by omega) (by omega) hR1 hR2).mono ?_
    rintro e w3 ⟨rfl, hb3⟩
    rw [HSA.out]
    go_wp2_with fail
    refine (awake03 _).mono ?_
    rintro e w4 ⟨rfl, hb4⟩
    go_wp2
    go_ret
    exact ⟨rfl, bt (bt (bt hb1 hb2) hb3) hb4⟩
def sumLen (ls : List (List UInt8)) : Nat := (ls.map List.length).sum
theorem sumLen_snoc (ls : List (List UInt8)) (k : Nat) (h : k < ls.length) : sumLen (ls.take (k + 1)) = sumLen (ls.take k) + ls[k].length := by
  unfold sumLen
  rw [List.take_succ_eq_append_getElem h, List.map_append, List.sum_append]
  simp
theorem sumLen_le (ls : List (List UInt8)) (k : Nat) : sumLen (ls.take k) ≤ sumLen ls := by
  unfold sumLen
  conv => rhs; rw [← List.take_append_drop k ls, List.map_append, List.sum_append]
  omega
theorem sumLen_mem (ls : List (List UInt8)) (l : List UInt8) (h : l ∈ ls) : l.length ≤ sumLen ls := by
  unfold sumLen
  induction ls with
  | nil => cases h
  | cons x ls ih =>
    rw [List.map_cons, List.sum_cons]
    rcases List.mem_cons.1 h with rfl | h
    · omega
    · have := ih h; omega
def smallL (ls : List (List UInt8)) (many bytes : Nat) : Bool := decide (ls.length ≤ many) && decide (sumLen ls ≤ bytes)
def SmallRel (ls : List (List UInt8)) (bytes : Nat) (w : World) (n i : Value) (wr : World) : Prop := ∃ k : Nat, i = .int .i64 k ∧ n = .int .i64 (sumLen (ls.take k)) ∧ k ≤ ls.length ∧ sumLen (ls.take k) ≤ bytes ∧ wr = w
set_option maxHeartbeats 800000 in
set_option maxRecDepth 100000 in
theorem smalls_any (ls : List (List UInt8)) (A : Option Addr) (n cap many bytes : Nat) (w : World) (hn : ls.length = n) (hn1 : n ≤ 9223372036854775807) (hm : many ≤ 1000) (hby : bytes ≤ 1000000)
    (hz : ∀ l ∈ ls, l.length ≤ 9223372036854775807) (hA : Rd w w.heap.size 1 A n (ls.map strL)) :
    Calls Try.prog 18 #[.slice A n cap, .int .i64 many, .int .i64 bytes] w fun e w' => e = .returned (.bool (smallL ls many bytes)) ∧ w = w' := by
  subst hn
  by_cases h0 : many < ls.length
  · have hf : smallL ls many bytes = false := by unfold smallL; simp; omega
    have HF := Lib.hid hf
    clear hf
    go_enter Try.func18, Try.ntmps18
    go_wp2
    go_ret
    exact ⟨by rw [HF.out]; rfl, rfl⟩
  · go_enter Try.func18, Try.ntmps18
    go_wp2
    go_loopw [7, 8] (fun x i wr => SmallRel ls bytes w x i wr) (fun _ i _ => ls.length - (intOf i).toNat)
    case atStart => exact ⟨0, rfl, rfl, Nat.zero_le _, Nat.zero_le _, rfl⟩
    case round =>
      obtain ⟨k, rfl, rfl, hk, hsum, rfl⟩ := hrel
      by_cases hlt : k < ls.length
      · have hA2 := hA.2
        obtain ⟨ab, ao, rfl, hab, hac⟩ := hA2 (by omega)
        have h1 := hac k (strL ls[k]) (by simp [hlt])
        have hsn := sumLen_snoc ls k hlt
        have hle := sumLen_le ls (k + 1)
        have hlz := hz ls[k] (List.getElem_mem hlt)
        generalize hx : ls[k] = x at *
        generalize hs : sumLen (ls.take k) = s at *
        rw [hsn] at hle
        have HSN := Lib.hid hsn
        clear hsn hac hA2 hx hs
        by_cases hbig : bytes < s + x.length
        · have hf : smallL ls many bytes = false := by unfold smallL; simp; omega
          have HF := Lib.hid hf
          clear hf
          by_cases hbx : bytes < x.length
          all_goals
            go_wp2
            go_ret
            exact ⟨by rw [HF.out]; rfl, rfl⟩
        · have hbx : ¬ bytes < x.length := by omega
          go_wp2
          go_roundw
          case rel => exact ⟨k + 1, by go_num, by rw [HSN.out]; go_num, by omega, by rw [HSN.out]; omega, rfl⟩
          case measure => simp [intOf]; omega
      · have ht : ls.take k = ls := List.take_of_length_le (by omega)
        rw [ht] at hsum
        rw [ht]
        have hf : smallL ls many bytes = true := by unfold smallL; simp; omega
        have HF := Lib.hid hf
        clear hf ht
        go_wp2
        go_ret
        exact ⟨by rw [HF.out]; rfl, rfl⟩
/-- how many frames are whole in the first c bytes of those of the first k bodies, and their length -/
def CutAt (ls : List (List UInt8)) (c : Int) (k wh en : Nat) : Prop :=
  wh ≤ k ∧ en = (wrapsL (ls.take wh)).length ∧ (0 < wh → (en : Int) ≤ c) ∧ (wh < k → c < (wrapsL (ls.take (wh + 1))).length)
theorem wraps_take (ls : List (List UInt8)) (k : Nat) (h : k < ls.length) : wrapsL (ls.take (k + 1)) = wrapsL (ls.take k) ++ wrapL ls[k] := by
  unfold wrapsL
  rw [List.take_succ_eq_append_getElem h, List.flatMap_append]
  simp
theorem wraps_mono (ls : List (List UInt8)) (j k : Nat) (h : j ≤ k) : (wrapsL (ls.take j)).length ≤ (wrapsL (ls.take k)).length := by
  unfold wrapsL
  have e : ls.take k = ls.take j ++ (ls.take k).drop j := by
    conv => lhs; rw [← List.take_append_drop j (ls.take k), List.take_take, Nat.min_eq_left h]
  rw [e, List.flatMap_append, List.length_append]
  omega
theorem wraps_len (ls : List (List UInt8)) (k : Nat) : (wrapsL (ls.take k)).length ≤ sumLen (ls.take k) + 13 * (ls.take k).length := by
  generalize ls.take k = xs
  unfold wrapsL sumLen
  induction xs with
  | nil => simp
  | cons b xs ih =>
    have h1 := wrapL_len b
    have h2 := putL_len b.length
    rw [List.flatMap_cons, List.length_append, List.map_cons, List.sum_cons, List.length_cons]
    omega
theorem cut_yes (ls : List (List UInt8)) (c : Int) (k wh en : Nat) (_h : k < ls.length) (hc : CutAt ls c k wh en) (hy : ((wrapsL (ls.take (k + 1))).length : Int) ≤ c) :
    CutAt ls c (k + 1) (wh + 1) (wrapsL (ls.take (k + 1))).length := by
  obtain ⟨h1, h2, h3, h4⟩ := hc
  have hw : wh = k := by
    apply Classical.byContradiction
    intro hne
    have := h4 (by omega)
    have := wraps_mono ls (wh + 1) (k + 1) (by omega)
    omega
  subst hw
  exact ⟨by omega, rfl, fun _ => hy, fun h => by omega⟩
theorem cut_no (ls : List (List UInt8)) (c : Int) (k wh en : Nat) (_h : k < ls.length) (hc : CutAt ls c k wh en) (hy : ¬ ((wrapsL (ls.take (k + 1))).length : Int) ≤ c) :
    CutAt ls c (k + 1) wh en := by
  obtain ⟨h1, h2, h3, h4⟩ := hc
  refine ⟨by omega, h2, h3, fun h => ?_⟩
  rcases Nat.lt_or_ge wh k with h5 | h5
  · exact h4 h5
  · have : wh = k := by omega
    subst this
    omega
theorem cut_end (ls : List (List UInt8)) (c wh en : Nat) (hb : ∀ x ∈ ls, x.length ≤ 1048576) (hc : CutAt ls c ls.length wh en) (hle : c ≤ (wrapsL ls).length) :
    allL ((wrapsL ls).take c) = ls.take wh ∧ (wrapsL (ls.take wh)).length = en := by
  obtain ⟨h1, h2, h3, h4⟩ := hc
  refine ⟨?_, h2.symm⟩
  rcases Nat.lt_or_ge wh ls.length with h5 | h5
  · have h6 := h4 h5
    have e : wrapsL ls = wrapsL (ls.take wh) ++ (wrapL ls[wh] ++ wrapsL (ls.drop (wh + 1))) := by
      have e1 : wrapsL ls = wrapsL (ls.take wh) ++ wrapsL (ls.drop wh) := by unfold wrapsL; rw [← List.flatMap_append, List.take_append_drop]
      rw [e1, List.drop_eq_getElem_cons h5]
      rfl
    rw [e]
    rw [wraps_take ls wh h5, List.length_append] at h6
    refine (all_cut (ls.take wh) ls[wh] _ c (fun x hx => hb x (List.mem_of_mem_take hx)) (hb _ (List.getElem_mem h5)) ?_ (by omega)).1
    rcases Nat.eq_zero_or_pos wh with h7 | h7
    · subst h7; simp [wrapsL]
    · have := h3 h7
      omega
  · have hw : wh = ls.length := by omega
    subst hw
    rw [List.take_length]
    rw [List.take_length] at h2
    have hcl : (wrapsL ls).take c = wrapsL ls := by
      rcases Nat.eq_zero_or_pos ls.length with h7 | h7
      · have : ls = [] := List.eq_nil_of_length_eq_zero h7
        subst this
        simp [wrapsL]
      · have := h3 h7
        exact List.take_of_length_le (by omega)
    rw [hcl]
    have := (all_wraps ls [] hb).1
    rw [List.append_nil] at this
    rw [this]
    have : allL [] = [] := (all_stop [] (by decide)).1
    rw [this, List.append_nil]
def RowRel (ls : List (List UInt8)) (c : Int) (w : World) (s wh en i : Value) (wr : World) : Prop :=
  ∃ k a b : Nat, i = .int .i64 k ∧ k ≤ ls.length ∧ s = .string ⟨(wrapsL (ls.take k)).toArray⟩ ∧ wh = .int .i64 a ∧ en = .int .i64 b ∧ CutAt ls c k a b ∧ Below w.heap.size w wr
theorem all_whole (ls : List (List UInt8)) (hb : ∀ x ∈ ls, x.length ≤ 1048576) : allL (wrapsL ls) = ls := by
  have := (all_wraps ls [] hb).1
  rw [List.append_nil] at this
  rw [this, (all_stop [] (by decide)).1, List.append_nil]
set_option maxHeartbeats 1600000 in
set_option maxRecDepth 100000 in
theorem frameRow_walk (ls : List (List UInt8)) (A : Option Addr) (n cap : Nat) (hn : ls.length = n) (hmax : n ≤ 9223372036854775807) (hcap : n ≤ cap) (hz : ∀ l ∈ ls, l.length ≤ 9223372036854775807) (c : Int) (hcw : (Lit.int .i64 c).wf = true) (w : World) (hR : Rd w w.heap.size 1 A n (ls.map strL)) :
    Calls Try.prog 9 #[.slice A n cap, .int .i64 c] w fun e w' => e = .returned (.bool true) ∧ Below w.heap.size w w' := by
  subst hn
  have hcb := bounds_i64 hcw
  clear hcw
  by_cases hs : smallL ls 20 4096 = true
  case neg =>
    have hs : smallL ls 20 4096 = false := by simpa using hs
    have HS := Lib.hid hs
    clear hs
    go_enter Try.func9, Try.ntmps9
    go_wp2_with fail
    refine (smalls_any ls A ls.length cap 20 4096 w rfl hmax (by omega) (by omega) hz hR).mono ?_
    rintro e w1 ⟨rfl, rfl⟩
    rw [HS.out]
    go_wp2_with fail
    refine (awake03 _).mono ?_
    rintro e w4 ⟨rfl, hb4⟩
    go_wp2
    go_ret
    exact ⟨rfl, hb4⟩
  case pos =>
    have hs2 : ls.length ≤ 20 ∧ sumLen ls ≤ 4096 := by unfold smallL at hs; simpa using hs
    obtain ⟨hs3, hs4⟩ := hs2
    have hsz : ∀ x ∈ ls, x.length ≤ 1048576 := fun x hx => by have := sumLen_mem ls x hx; omega
    have HS := Lib.hid hs
    clear hs
    go_enter Try.func9, Try.ntmps9
    go_wp2_with fail
    refine (smalls_any ls A ls.length cap 20 4096 w rfl hmax (by omega) (by omega) hz hR).mono ?_
    rintro e w1 ⟨rfl, rfl⟩
    rw [HS.out]
    go_wp2
    go_loopw [5, 6, 7, 20] (fun s wh en i wr => RowRel ls c w s wh en i wr) (fun _ _ _ i _ => ls.length - (intOf i).toNat)
    case atStart => exact ⟨0, 0, 0, rfl, Nat.zero_le _, rfl, rfl, rfl, ⟨Nat.le_refl _, rfl, fun h => by omega, fun h => by omega⟩, Below.refl _ _⟩
    case round =>
      obtain ⟨k, a, b, rfl, hk, rfl, rfl, rfl, hcut, hb⟩ := hrel
      have hbs := hb.size
      have ha := hcut.1
      have HC := Lib.hid hcut
      clear hcut
      by_cases hlt : k < ls.length
      · have hA2 := hR.2
        obtain ⟨ab, ao, rfl, hab, hac⟩ := hA2 (by omega)
        have h1 := hb.cell (p := ⟨ab, ao + k, none⟩) hab
        rw [hac k (strL ls[k]) (by simp [hlt])] at h1
        have hwt := wraps_take ls k hlt
        have hwl := wraps_len ls (k + 1)
        have hsl := sumLen_le ls (k + 1)
        rw [List.length_take] at hwl
        have hlz := hsz ls[k] (List.getElem_mem hlt)
        have hcy := cut_yes ls c k a b hlt HC.out
        have hcn := cut_no ls c k a b hlt HC.out
        rw [hwt] at hwl hcy hcn
        generalize hx : ls[k] = x at *
        rw [List.length_append] at hwl hcy hcn
        generalize hp : wrapsL (ls.take k) = ps at *
        have HWT := Lib.hid hwt
        have HX := Lib.hid hx
        have HP := Lib.hid hp
        clear hwt hac hA2 hx hp hR
        obtain ⟨wx, hwx⟩ : ∃ wx, wrapL x = wx := ⟨_, rfl⟩
        rw [hwx] at hwl hcy hcn HWT
        have HWX := Lib.hid hwx
        have HCY := Lib.hid hcy
        have HCN := Lib.hid hcn
        clear hwx hcy hcn
        by_cases hge : ((ps.length + wx.length : Nat) : Int) ≤ c
        · have hge2 : (ps.length : Int) + wx.length ≤ c := by omega
          go_wp2_with fail
          refine (wrap_any x hlz wr).mono ?_
          rintro e w1 ⟨rfl, hb1⟩
          rw [HWX.out]
          go_wp2
          go_roundw
          case rel => exact ⟨k + 1, a + 1, _, by go_num, by omega, by rw [HWT.out], by go_num, by go_num, HCY.out hge, hb.trans (hb1.mono hbs)⟩
          case measure => simp [intOf]; omega
        · have hge2 : ¬ (ps.length : Int) + wx.length ≤ c := by omega
          go_wp2_with fail
          refine (wrap_any x hlz wr).mono ?_
          rintro e w1 ⟨rfl, hb1⟩
          rw [HWX.out]
          go_wp2
          go_roundw
          case rel => exact ⟨k + 1, a, b, by go_num, by omega, by rw [HWT.out], rfl, rfl, HCN.out hge, hb.trans (hb1.mono hbs)⟩
          case measure => simp [intOf]; omega
      · have hkl : k = ls.length := by omega
        subst hkl
        have hwl := wraps_len ls ls.length
        rw [List.take_length] at hwl
        rw [List.take_length]
        have hall := all_whole ls hsz
        have hce := cut_end ls c.toNat a b hsz
        obtain ⟨ps, hp⟩ : ∃ ps, wrapsL ls = ps := ⟨_, rfl⟩
        rw [hp] at hwl hall hce
        rw [hp]
        have HP := Lib.hid hp
        have HALL := Lib.hid hall
        have HCE := Lib.hid hce
        clear hp hall hce
        have hsame : (ls == ls) = true := by simp
        have HSA := Lib.hid hsame
        clear hsame
        have hn3 : (wrapsL ls).length = ps.length := by rw [HP.out]
        have HN3 := Lib.hid hn3
        clear hn3
        go_wp2_with fail
        refine (all_any ps (by omega) _).mono ?_
        rw [HALL.out, HN3.out]
        rintro e w1 ⟨A1, cap1, rfl, hown1, hb1⟩
        have hRA := ((hR.below hb (Nat.le_refl _)).more hbs).below hb1 (Nat.le_refl _)
        have hRB := Rd.of_own hown1
        have hb1s := hb1.size
        clear hown1
        go_wp2_with fail
        refine (same_any ls ls A1 A ls.length ls.length cap1 cap w1 rfl rfl (by omega) (by omega) hRB (hRA.more hb1s)).mono ?_
        rintro e w2 ⟨rfl, hb2⟩
        rw [HSA.out]
        have hb2s := hb2.size
        by_cases hc0 : c < 0
        · go_wp2_with fail
          refine (awake03 _).mono ?_
          rintro e w4 ⟨rfl, hb4⟩
          go_wp2
          go_ret
          exact ⟨rfl, bt (bt (bt hb hb1) hb2) hb4⟩
        · by_cases hc1 : (ps.length : Int) < c
          · go_wp2_with fail
            refine (awake03 _).mono ?_
            rintro e w4 ⟨rfl, hb4⟩
            go_wp2
            go_ret
            exact ⟨rfl, bt (bt (bt hb hb1) hb2) hb4⟩
          · obtain ⟨cn, rfl⟩ := Int.eq_ofNat_of_zero_le (show 0 ≤ c by omega)
            rw [Int.toNat_natCast] at HCE
            have hce := HCE.out HC.out (by omega)
            have hal : a ≤ ls.length := ha
            have hs1 := fun w => run_to (P := Try.prog) w Try.underlying9 ps cn cn rfl (by omega)
            obtain ⟨qs, hq⟩ : ∃ qs, ps.take cn = qs := ⟨_, rfl⟩
            have hql : qs.length ≤ ps.length := by rw [← hq]; simp; omega
            rw [hq] at hce hs1
            obtain ⟨ms, hms⟩ : ∃ ms, ls.take a = ms := ⟨_, rfl⟩
            have hml : ms.length = a := by rw [← hms]; simp; omega
            have hRT := ((hRA.more hb1s).below hb2 (Nat.le_refl _)).more hb2s
            have hRT := hRT.take a (by omega)
            rw [← List.map_take, hms] at hRT
            rw [hms] at hce
            have hn4 : (wrapsL ms).length = b := hce.2
            have hsame : (ms == ms) = true := by simp
            have HSM := Lib.hid hsame
            have HN4 := Lib.hid hn4
            have HCA := Lib.hid hce.1
            have HML := Lib.hid hml
            clear hsame hce hn4 hms hq hml
            go_wp2_with fail
            refine (all_any qs (by omega) _).mono ?_
            rw [HCA.out, HN4.out]
            rintro e w3 ⟨A3, cap3, he3, hown3, hb3⟩
            rw [HML.out] at he3 hown3
            subst he3
            have hRC := Rd.of_own hown3
            have hRT3 := (hRT.below hb3 (Nat.le_refl _)).more hb3.size
            clear hown3
            go_wp2_with fail
            refine (same_any ms ms A3 A a a cap3 cap w3 HML.out HML.out (by omega) (by omega) hRC hRT3).mono ?_
            rintro e w4 ⟨rfl, hb4⟩
            rw [HSM.out]
            go_wp2_with fail
            refine (awake03 _).mono ?_
            rintro e w5 ⟨rfl, hb5⟩
            go_wp2
            go_ret
            exact ⟨rfl, bt (bt (bt (bt (bt hb hb1) hb2) hb3) hb4) hb5⟩
end Go.Proofs.Ytlghmjcpkpdhfaa
