/- The law's begins: a list is another one, with perhaps one text more. -/
import Derived.Test.YthjoamldmcnodaaLaw13b
import Derived.Test.YthjoamldmcnodaaWalW3
namespace Go.Proofs.Ythjoamldmcnodaa
open Go.RowKit
attribute [local go_sem] ByteArray.mk_append_mk ByteArray.extract_mk
attribute [local go_sem ↓] Go.wp_at_zero Go.wp_at_succ
theorem begins_two (m now : List (List UInt8)) (x : List UInt8) (cut : Bool) (h : m = now ∨ (cut = true ∧ m = now ++ [x])) : m = now ∨ (cut = true ∧ m = now ++ [x] ∧ (m == now) = false) := by
  by_cases e : m = now
  · exact .inl e
  · rcases h with h | ⟨h1, h2⟩
    · exact absurd h e
    · exact .inr ⟨h1, h2, by simpa using e⟩
set_option maxHeartbeats 1600000 in
set_option maxRecDepth 100000 in
theorem begins_any (m now : List (List UInt8)) (x : List UInt8) (cut : Bool) (h : m = now ∨ (cut = true ∧ m = now ++ [x])) (A B : Option Addr) (n k cap cap' : Nat) (hn : m.length = n) (hk : now.length = k) (hn1 : n ≤ 1000000) (hk1 : k ≤ 1000000) (hcap : n ≤ cap) (w : World)
    (hA : Rd w w.heap.size 1 A n (m.map strL)) (hB : Rd w w.heap.size 1 B k (now.map strL)) :
    Calls Try.prog 18 #[.slice A n cap, .slice B k cap', .string ⟨x.toArray⟩, .bool cut] w fun e w' => e = .returned (.bool true) ∧ Below w.heap.size w w' := by
  rcases begins_two m now x cut h with h | ⟨rfl, h, hne⟩
  · subst h
    have hnk : n = k := by omega
    subst hnk
    have el : (m == m) = true := by simp
    go_enter Try.func18, Try.ntmps18
    go_wp2_with fail
    refine (same_any m m A B n n cap cap' _ hn hn (by omega) (by omega) hA hB).mono ?_
    rintro e w1 ⟨rfl, hb1⟩
    rw [el]
    go_wp2
    go_ret
    exact ⟨rfl, hb1⟩
  · have hl : n = k + 1 := by rw [← hn, h, List.length_append, hk]; rfl
    subst hl
    have htk : m.take k = now := by rw [h, List.take_append, List.take_of_length_le (by omega)]; simp [hk]
    have hg : (m.map strL)[k]? = some (strL x) := by rw [h, List.map_append, List.getElem?_append_right (by simp; omega)]; simp [hk]
    have el : (now == now) = true := by simp
    obtain ⟨b, off, rfl, hbB, hc⟩ := hA.2 (by omega)
    have c0 := hc k _ hg
    have i0 : (0 : Int) ≤ (k : Int) := by omega
    have i1 : (k : Int) < ((k + 1 : Nat) : Int) := by omega
    have i2 : (k : Int) ≤ (cap : Int) := by omega
    have i3 : ((k + 1 : Nat) : Int) = (k : Int) + 1 := by omega
    have hAt := hA.take k (by omega)
    rw [← List.map_take, htk] at hAt
    go_enter Try.func18, Try.ntmps18
    go_wp2_with fail
    refine (same_any m now (some ⟨b, off, none⟩) B (k + 1) k cap cap' _ hn hk (by omega) (by omega) hA hB).mono ?_
    rintro e w1 ⟨rfl, hb1⟩
    rw [hne]
    have hAt1 := (hAt.below hb1 (Nat.le_refl _)).more hb1.size
    have hB1 := (hB.below hb1 (Nat.le_refl _)).more hb1.size
    go_wp2_with fail
    refine (same_any now now (some ⟨b, off, none⟩) B k k _ cap' _ hk hk (by omega) (by omega) hAt1 hB1).mono ?_
    rintro e w2 ⟨rfl, hb2⟩
    rw [el]
    have hb12 := bt hb1 hb2
    have c2 := (hb12.cell (p := ⟨b, _, none⟩) hbB).trans c0
    go_wp2
    go_ret
    exact ⟨rfl, hb12⟩
end Go.Proofs.Ythjoamldmcnodaa
