/- The walks of the laws FrameAll and FrameRow. -/
import Derived.Test.YthjoamldmcnodaaAllW
namespace Go.Proofs.Ythjoamldmcnodaa
open Go.RowKit
attribute [local go_sem] ByteArray.extract_mk ByteArray.mk_append_mk
def sumLen (ls : List (List UInt8)) : Nat := (ls.map List.length).sum
theorem sumLen_snoc (ls : List (List UInt8)) (k : Nat) (h : k < ls.length) : sumLen (ls.take (k + 1)) = sumLen (ls.take k) + ls[k].length := by
  unfold sumLen
  rw [List.take_succ_eq_append_getElem h, List.map_append, List.sum_append]
  simp
theorem sumLen_le (ls : List (List UInt8)) (k : Nat) : sumLen (ls.take k) ≤ sumLen ls := by
  unfold sumLen
  conv => rhs; rw [← List.take_append_drop k ls, List.map_append, List.sum_append]
  omega
theorem sumLen_mem (ls : List (List UInt8)) (l : List UInt8) (h : l ∈ ls) : l.length ≤ sumLen ls := by
  unfold sumLen
  induction ls with
  | nil => cases h
  | cons x ls ih =>
    rw [List.map_cons, List.sum_cons]
    rcases List.mem_cons.1 h with rfl | h
    · omega
    · have := ih h; omega
def smallL (ls : List (List UInt8)) (many bytes : Nat) : Bool := decide (ls.length ≤ many) && decide (sumLen ls ≤ bytes)
def SmallRel (ls : List (List UInt8)) (bytes : Nat) (w : World) (n i : Value) (wr : World) : Prop := ∃ k : Nat, i = .int .i64 k ∧ n = .int .i64 (sumLen (ls.take k)) ∧ k ≤ ls.length ∧ sumLen (ls.take k) ≤ bytes ∧ wr = w
set_option maxHeartbeats 800000 in
set_option maxRecDepth 100000 in
theorem smalls_any (ls : List (List UInt8)) (A : Option Addr) (n cap many bytes : Nat) (w : World) (hn : ls.length = n) (hn1 : n ≤ 9223372036854775807) (hm : many ≤ 1000) (hby : bytes ≤ 1000000)
    (hz : ∀ l ∈ ls, l.length ≤ 9223372036854775807) (hA : Rd w w.heap.size 1 A n (ls.map strL)) :
    Calls Try.prog 8 #[.slice A n cap, .int .i64 many, .int .i64 bytes] w fun e w' => e = .returned (.bool (smallL ls many bytes)) ∧ w = w' := by
  subst hn
  by_cases h0 : many < ls.length
  · have hf : smallL ls many bytes = false := by unfold smallL; simp; omega
    have HF := Lib.hid hf
    clear hf
    go_enter Try.func8, Try.ntmps8
    go_wp2
    go_ret
    exact ⟨by rw [HF.out]; rfl, rfl⟩
  · go_enter Try.func8, Try.ntmps8
    go_wp2
    go_loopw [7, 8] (fun x i wr => SmallRel ls bytes w x i wr) (fun _ i _ => ls.length - (intOf i).toNat)
    case atStart => exact ⟨0, rfl, rfl, Nat.zero_le _, Nat.zero_le _, rfl⟩
    case round =>
      obtain ⟨k, rfl, rfl, hk, hsum, rfl⟩ := hrel
      by_cases hlt : k < ls.length
      · have hA2 := hA.2
        obtain ⟨ab, ao, rfl, hab, hac⟩ := hA2 (by omega)
        have h1 := hac k (strL ls[k]) (by simp [hlt])
        have hsn := sumLen_snoc ls k hlt
        have hle := sumLen_le ls (k + 1)
        have hlz := hz ls[k] (List.getElem_mem hlt)
        generalize hx : ls[k] = x at *
        generalize hs : sumLen (ls.take k) = s at *
        rw [hsn] at hle
        have HSN := Lib.hid hsn
        clear hsn hac hA2 hx hs
        by_cases hbig : bytes < s + x.length
        · have hf : smallL ls many bytes = false := by unfold smallL; simp; omega
          have HF := Lib.hid hf
          clear hf
          by_cases hbx : bytes < x.length
          all_goals
            go_wp2
            go_ret
            exact ⟨by rw [HF.out]; rfl, rfl⟩
        · have hbx : ¬ bytes < x.length := by omega
          go_wp2
          go_roundw
          case rel => exact ⟨k + 1, by go_num, by rw [HSN.out]; go_num, by omega, by rw [HSN.out]; omega, rfl⟩
          case measure => simp [intOf]; omega
      · have ht : ls.take k = ls := List.take_of_length_le (by omega)
        rw [ht] at hsum
        rw [ht]
        have hf : smallL ls many bytes = true := by unfold smallL; simp; omega
        have HF := Lib.hid hf
        clear hf ht
        go_wp2
        go_ret
        exact ⟨by rw [HF.out]; rfl, rfl⟩
/-- how many frames are whole in the first c bytes of those of the first k bodies, and their length -/
def CutAt (ls : List (List UInt8)) (c : Int) (k wh en : Nat) : Prop :=
  wh ≤ k ∧ en = (wrapsL (ls.take wh)).length ∧ (0 < wh → (en : Int) ≤ c) ∧ (wh < k → c < (wrapsL (ls.take (wh + 1))).length)
theorem wraps_take (ls : List (List UInt8)) (k : Nat) (h : k < ls.length) : wrapsL (ls.take (k + 1)) = wrapsL (ls.take k) ++ wrapL ls[k] := by
  unfold wrapsL
  rw [List.take_succ_eq_append_getElem h, List.flatMap_append]
  simp
theorem wraps_mono (ls : List (List UInt8)) (j k : Nat) (h : j ≤ k) : (wrapsL (ls.take j)).length ≤ (wrapsL (ls.take k)).length := by
  unfold wrapsL
  have e : ls.take k = ls.take j ++ (ls.take k).drop j := by
    conv => lhs; rw [← List.take_append_drop j (ls.take k), List.take_take, Nat.min_eq_left h]
  rw [e, List.flatMap_append, List.length_append]
  omega
theorem wraps_len (ls : List (List UInt8)) (k : Nat) : (wrapsL (ls.take k)).length ≤ sumLen (ls.take k) + 13 * (ls.take k).length := by
  generalize ls.take k = xs
  unfold wrapsL sumLen
  induction xs with
  | nil => simp
  | cons b xs ih =>
    have h1 := wrapL_len b
    have h2 := putL_len b.length
    rw [List.flatMap_cons, List.length_append, List.map_cons, List.sum_cons, List.length_cons]
    omega
theorem cut_yes (ls : List (List UInt8)) (c : Int) (k wh en : Nat) (_h : k < ls.length) (hc : CutAt ls c k wh en) (hy : ((wrapsL (ls.take (k + 1))).length : Int) ≤ c) :
    CutAt ls c (k + 1) (wh + 1) (wrapsL (ls.take (k + 1))).length := by
  obtain ⟨h1, h2, h3, h4⟩ := hc
  have hw : wh = k := by
    apply Classical.byContradiction
    intro hne
    have := h4 (by omega)
    have := wraps_mono ls (wh + 1) (k + 1) (by omega)
    omega
  subst hw
  exact ⟨by omega, rfl, fun _ => hy, fun h => by omega⟩
theorem cut_no (ls : List (List UInt8)) (c : Int) (k wh en : Nat) (_h : k < ls.length) (hc : CutAt ls c k wh en) (hy : ¬ ((wrapsL (ls.take (k + 1))).length : Int) ≤ c) :
    CutAt ls c (k + 1) wh en := by
  obtain ⟨h1, h2, h3, h4⟩ := hc
  refine ⟨by omega, h2, h3, fun h => ?_⟩
  rcases Nat.lt_or_ge wh k with h5 | h5
  · exact h4 h5
  · have : wh = k := by omega
    subst this
    omega
theorem cut_end (ls : List (List UInt8)) (c wh en : Nat) (hb : ∀ x ∈ ls, x.length ≤ 1048576) (hc : CutAt ls c ls.length wh en) (hle : c ≤ (wrapsL ls).length) :
    allL ((wrapsL ls).take c) = ls.take wh ∧ (wrapsL (ls.take wh)).length = en := by
  obtain ⟨h1, h2, h3, h4⟩ := hc
  refine ⟨?_, h2.symm⟩
  rcases Nat.lt_or_ge wh ls.length with h5 | h5
  · have h6 := h4 h5
    have e : wrapsL ls = wrapsL (ls.take wh) ++ (wrapL ls[wh] ++ wrapsL (ls.drop (wh + 1))) := by
      have e1 : wrapsL ls = wrapsL (ls.take wh) ++ wrapsL (ls.drop wh) := by unfold wrapsL; rw [← List.flatMap_append, List.take_append_drop]
      rw [e1, List.drop_eq_getElem_cons h5]
      rfl
    rw [e]
    rw [wraps_take ls wh h5, List.length_append] at h6
    refine (all_cut (ls.take wh) ls[wh] _ c (fun x hx => hb x (List.mem_of_mem_take hx)) (hb _ (List.getElem_mem h5)) ?_ (by omega)).1
    rcases Nat.eq_zero_or_pos wh with h7 | h7
    · subst h7; simp [wrapsL]
    · have := h3 h7
      omega
  · have hw : wh = ls.length := by omega
    subst hw
    rw [List.take_length]
    rw [List.take_length] at h2
    have hcl : (wrapsL ls).take c = wrapsL ls := by
      rcases Nat.eq_zero_or_pos ls.length with h7 | h7
      · have : ls = [] := List.eq_nil_of_length_eq_zero h7
        subst this
        simp [wrapsL]
      · have := h3 h7
        exact List.take_of_length_le (by omega)
    rw [hcl]
    have := (all_wraps ls [] hb).1
    rw [List.append_nil] at this
    rw [this]
    have : allL [] = [] := (all_stop [] (by decide)).1
    rw [this, List.append_nil]
def RowRel (ls : List (List UInt8)) (c : Int) (w : World) (s wh en i : Value) (wr : World) : Prop :=
  ∃ k a b : Nat, i = .int .i64 k ∧ k ≤ ls.length ∧ s = .string ⟨(wrapsL (ls.take k)).toArray⟩ ∧ wh = .int .i64 a ∧ en = .int .i64 b ∧ CutAt ls c k a b ∧ Below w.heap.size w wr
theorem all_whole (ls : List (List UInt8)) (hb : ∀ x ∈ ls, x.length ≤ 1048576) : allL (wrapsL ls) = ls := by
  have := (all_wraps ls [] hb).1
  rw [List.append_nil] at this
  rw [this, (all_stop [] (by decide)).1, List.append_nil]
end Go.Proofs.Ythjoamldmcnodaa
