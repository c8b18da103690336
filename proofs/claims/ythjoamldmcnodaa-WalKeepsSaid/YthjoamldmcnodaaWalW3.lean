/- The walks of the log: Open, Records, and the document's Open. -/
import Derived.Test.YthjoamldmcnodaaWalW2
namespace Go.Proofs.Ythjoamldmcnodaa
open Go.RowKit
attribute [local go_sem] ByteArray.mk_append_mk ByteArray.extract_mk
attribute [local go_sem ↓] Go.wp_at_zero Go.wp_at_succ
theorem own_set {w : World} {base s n : Nat} {e : TypeId} {v : Value} {xs : List Value} (h : w.ownsRow base e s v n xs) {p : Addr} (hp : p.block < base) (u : Value) : (w.setCell p u).ownsRow base e s v n xs := by
  refine ⟨h.1, ?_⟩
  rcases h.2 with h0 | ⟨g, cap, cur, hv, hbg, hg, rest⟩
  · exact .inl h0
  · exact .inr ⟨g, cap, cur, hv, hbg, (Below.heap_setCell w p u g (by omega)).trans hg, rest⟩
theorem own_put5 {w : World} {base s n g : Nat} {e : TypeId} {v : Value} {xs : List Value} (u0 u1 u2 u3 u4 : Value) (h : w.ownsRow base e s v n xs) (hg : g < base) : (put5 w g u0 u1 u2 u3 u4).ownsRow base e s v n xs :=
  own_set (own_set (own_set (own_set (own_set h hg _) hg _) hg _) hg _) hg _
def OpenPost (w : World) (t : Tp) (e : Ending) (w' : World) : Prop :=
  ∃ A cap, e = .returned (.tuple #[tapeV (openW t).1, .slice A (openW t).2.1.length cap, .int .i64 (openW t).2.2]) ∧
    w'.ownsRow w.heap.size 9 1 (.slice A (openW t).2.1.length cap) (openW t).2.1.length ((openW t).2.1.map strL) ∧ Below w.heap.size w w'
theorem open_post {w w' : World} {t u : Tp} {ls : List (List UInt8)} {en base : Nat} {v : Value} (hv : openW t = (u, ls, en)) (hown : w'.ownsRow base 9 1 v ls.length (ls.map strL)) (hbase : w.heap.size ≤ base) (hb : Below w.heap.size w w') :
    OpenPost w t (.returned (.tuple #[tapeV u, v, .int .i64 en])) w' := by
  obtain ⟨A, cap, rfl⟩ := own_slice hown
  refine ⟨A, cap, ?_, ?_, hb⟩
  · rw [hv]
  · rw [hv]
    exact own_base hown hbase
set_option maxHeartbeats 3200000 in
set_option maxRecDepth 100000 in
theorem walopen_any (f l : List UInt8) (n : Int) (r d : Bool) (hf : f.length ≤ 140737488351232) (hl : l.length ≤ 140737488351232) (w : World) :
    Calls Try.prog 11 #[tapeV ⟨f, l, n, r, d⟩] w (OpenPost w ⟨f, l, n, r, d⟩) := by
  have hu := used_le (f ++ l)
  obtain ⟨rd, hrd⟩ : ∃ y, readyT ⟨f, l, n, r, d⟩ = y := ⟨_, rfl⟩
  by_cases h0 : rd = 0
  case neg =>
    have hv : openW ⟨f, l, n, r, d⟩ = (⟨f, l, n, r, d⟩, [], rd) := by unfold openW; rw [hrd, if_pos h0]
    have HV := Lib.hid hv
    have ht : textT ⟨f, l, n, r, d⟩ = ([], rd) := by unfold textT; rw [hrd, if_pos h0]
    have HT := Lib.hid ht
    have hne : ((rd : Int) != 0) = true := by simp; omega
    clear hv ht hrd h0
    go_enter Try.func11, Try.ntmps11
    have hB0 : Below w.heap.size w w := b0 w
    go_wp2_with fail
    refine (ttext_any f l n r d hf hl _).mono ?_
    rintro e w1 ⟨rfl, hb1⟩
    rw [HT.out]
    have Gt1 : Blk w1 (w.heap.size) 26 #[.string ⟨f.toArray⟩, .string ⟨l.toArray⟩, .int .i64 n, .bool r, .bool d] := Blk.keep (Blk.alloc (Blk.new' _ _ _ _ (by simp)) _) hb1
    have Gu1 : Blk w1 (w.heap.size + 1) 26 #[.string ⟨#[]⟩, .string ⟨#[]⟩, .int .i64 0, .bool false, .bool false] := Blk.keep (Blk.new' _ _ _ _ (by simp)) hb1
    have hB1 : Below w.heap.size w w1 := bt (bal (bal (hB0) _) _) hb1
    obtain ⟨tl, tc0, tc1, tc2, tc3, tc4, tf0, tf1, tf2, tf3, tf4⟩ := Gt1.c5
    obtain ⟨ul, uc0, uc1, uc2, uc3, uc4, uf0, uf1, uf2, uf3, uf4⟩ := Gu1.c5
    go_wp2
    refine bodyPost_ret (v := .tuple #[tapeV ⟨f, l, n, r, d⟩, .slice none 0 0, .int .i64 rd]) (by simp [results, Try.results11, go_sem, *]) rfl (open_post (base := w.heap.size) HV.out ?_ ?_ ?_)
    · exact World.ownsRow_nil _ _ _ _
    · first | exact Nat.le_refl _ | omega
    · (repeat (first | with_reducible exact b0 _ | with_reducible assumption | with_reducible refine Below.drew ?_ | with_reducible refine below_drewN ?_ _ | with_reducible refine bal ?_ _ | ((with_reducible refine bst ?_ ?_ _); rotate_left; focus (first | exact Nat.le_refl _ | assumption | (simp; done) | (simp; omega) | omega)) | exact below_left (by with_reducible assumption)))
  case pos =>
    subst h0
    obtain ⟨hrr, hdn⟩ := ready_right _ hrd
    have hln := (right_parts _ hrr).1
    simp only at hln hdn
    have HRR := Lib.hid hrr
    subst hdn
    have LA := all_any (f ++ l) (by simp; omega)
    obtain ⟨ls, hls⟩ : ∃ y, allL (f ++ l) = y := ⟨_, rfl⟩
    obtain ⟨k, hk⟩ : ∃ y, usedL (f ++ l) = y := ⟨_, rfl⟩
    rw [show (wrapsL (allL (f ++ l))).length = k from hk, hls] at LA
    rw [hk] at hu
    have hlen : (f ++ l).length = f.length + l.length := by simp
    rw [hlen] at hu
    have ho : openW ⟨f, l, n, r, false⟩ = if k < f.length + l.length then if (cutT ⟨f, l, n, r, false⟩ k).2 ≠ 0 then ((cutT ⟨f, l, n, r, false⟩ k).1, [], (cutT ⟨f, l, n, r, false⟩ k).2) else ((cutT ⟨f, l, n, r, false⟩ k).1, ls, 0) else (⟨f, l, n, r, false⟩, ls, 0) := by
      unfold openW
      rw [hrd, if_neg (by omega)]
      simp only [hk, hls, hlen]
    have ht : textT ⟨f, l, n, r, false⟩ = (f ++ l, 0) := by unfold textT; rw [hrd, if_neg (by omega)]
    have HT := Lib.hid ht
    clear ht
    clear hrd hls hk hrr hlen
    by_cases hkl : k < f.length + l.length
    case neg =>
      have hv := ho
      rw [if_neg hkl] at hv
      have HV := Lib.hid hv
      clear hv ho
      have hke : k = f.length + l.length := by omega
      have hkeq : ((k : Int) == (f.length : Int) + l.length) = true := by simp; omega
      have hkn : ¬ ((k : Int) < (f.length : Int) + l.length) := by omega
      clear hkl
      go_enter Try.func11, Try.ntmps11
      have hB0 : Below w.heap.size w w := b0 w
      go_wp2_with fail
      refine (ttext_any f l n r false hf hl _).mono ?_
      rintro e w1 ⟨rfl, hb1⟩
      rw [HT.out]
      have Gt1 : Blk w1 (w.heap.size) 26 #[.string ⟨f.toArray⟩, .string ⟨l.toArray⟩, .int .i64 n, .bool r, .bool false] := Blk.keep (Blk.alloc (Blk.new' _ _ _ _ (by simp)) _) hb1
      have Gu1 : Blk w1 (w.heap.size + 1) 26 #[.string ⟨#[]⟩, .string ⟨#[]⟩, .int .i64 0, .bool false, .bool false] := Blk.keep (Blk.new' _ _ _ _ (by simp)) hb1
      have hB1 : Below w.heap.size w w1 := bt (bal (bal (hB0) _) _) hb1
      obtain ⟨tl, tc0, tc1, tc2, tc3, tc4, tf0, tf1, tf2, tf3, tf4⟩ := Gt1.c5
      obtain ⟨ul, uc0, uc1, uc2, uc3, uc4, uf0, uf1, uf2, uf3, uf4⟩ := Gu1.c5
      go_wp2_with fail
      refine (LA _).mono ?_
      rintro e w2 ⟨A, cap, rfl, hown, hb2⟩
      have Gt2 := Blk.keep (Gt1) hb2
      have Gu2 := Blk.keep (Gu1) hb2
      have hB2 : Below w.heap.size w w2 := bt (hB1) hb2
      clear tl tc0 tc1 tc2 tc3 tc4 tf0 tf1 tf2 tf3 tf4 ul uc0 uc1 uc2 uc3 uc4 uf0 uf1 uf2 uf3 uf4
      obtain ⟨tl, tc0, tc1, tc2, tc3, tc4, tf0, tf1, tf2, tf3, tf4⟩ := Gt2.c5
      obtain ⟨ul, uc0, uc1, uc2, uc3, uc4, uf0, uf1, uf2, uf3, uf4⟩ := Gu2.c5
      have hs1 := hB1.size
      have hut := Gu1.lt
      go_wp2
      refine bodyPost_ret (v := .tuple #[tapeV ⟨f, l, n, r, false⟩, .slice A ls.length cap, .int .i64 0]) (by simp [results, Try.results11, go_sem, *]) rfl (open_post (base := w1.heap.size) HV.out ?_ ?_ ?_)
      · (repeat (first | with_reducible assumption | with_reducible exact World.ownsRow_nil _ _ _ _ | with_reducible refine World.ownsRow.alloc ?_ _ | ((with_reducible refine own_set ?_ ?_ _); rotate_left; focus (first | (simp; done) | (simp; omega) | omega))))
      · first | exact Nat.le_refl _ | omega
      · (repeat (first | with_reducible exact b0 _ | with_reducible assumption | with_reducible refine Below.drew ?_ | with_reducible refine below_drewN ?_ _ | with_reducible refine bal ?_ _ | ((with_reducible refine bst ?_ ?_ _); rotate_left; focus (first | exact Nat.le_refl _ | assumption | (simp; done) | (simp; omega) | omega)) | exact below_left (by with_reducible assumption)))
    case pos =>
      obtain ⟨⟨⟨f1, l1, n1, r1, d1⟩, e1⟩, hc⟩ : ∃ y : Tp × Nat, cutT ⟨f, l, n, r, false⟩ k = y := ⟨_, rfl⟩
      have hv := ho
      rw [if_pos hkl, hc] at hv
      simp only at hv
      clear ho
      have hkeq : ((k : Int) == (f.length : Int) + l.length) = false := by simp; omega
      have hkn : (k : Int) < (f.length : Int) + l.length := by omega
      have HC := Lib.hid hc
      clear hc hkl
      by_cases he : e1 = 0
      case pos =>
        subst he
        rw [if_neg (by simp)] at hv
        have HV := Lib.hid hv
        clear hv
        go_enter Try.func11, Try.ntmps11
        have hB0 : Below w.heap.size w w := b0 w
        go_wp2_with fail
        refine (ttext_any f l n r false hf hl _).mono ?_
        rintro e w1 ⟨rfl, hb1⟩
        rw [HT.out]
        have Gt1 : Blk w1 (w.heap.size) 26 #[.string ⟨f.toArray⟩, .string ⟨l.toArray⟩, .int .i64 n, .bool r, .bool false] := Blk.keep (Blk.alloc (Blk.new' _ _ _ _ (by simp)) _) hb1
        have Gu1 : Blk w1 (w.heap.size + 1) 26 #[.string ⟨#[]⟩, .string ⟨#[]⟩, .int .i64 0, .bool false, .bool false] := Blk.keep (Blk.new' _ _ _ _ (by simp)) hb1
        have hB1 : Below w.heap.size w w1 := bt (bal (bal (hB0) _) _) hb1
        obtain ⟨tl, tc0, tc1, tc2, tc3, tc4, tf0, tf1, tf2, tf3, tf4⟩ := Gt1.c5
        obtain ⟨ul, uc0, uc1, uc2, uc3, uc4, uf0, uf1, uf2, uf3, uf4⟩ := Gu1.c5
        go_wp2_with fail
        refine (LA _).mono ?_
        rintro e w2 ⟨A, cap, rfl, hown, hb2⟩
        have Gt2 := Blk.keep (Gt1) hb2
        have Gu2 := Blk.keep (Gu1) hb2
        have hB2 : Below w.heap.size w w2 := bt (hB1) hb2
        clear tl tc0 tc1 tc2 tc3 tc4 tf0 tf1 tf2 tf3 tf4 ul uc0 uc1 uc2 uc3 uc4 uf0 uf1 uf2 uf3 uf4
        obtain ⟨tl, tc0, tc1, tc2, tc3, tc4, tf0, tf1, tf2, tf3, tf4⟩ := Gt2.c5
        obtain ⟨ul, uc0, uc1, uc2, uc3, uc4, uf0, uf1, uf2, uf3, uf4⟩ := Gu2.c5
        have hs1 := hB1.size
        have hut := Gu1.lt
        go_wp2_with fail
        refine (cut_any f l n r false hf hl (k : Int) (by omega) _).mono ?_
        rintro e w3 ⟨rfl, hb3⟩
        rw [HC.out]
        simp only [tapeV]
        have Gt3 := Blk.keep (Gt2) hb3
        have Gu3 := Blk.keep (Gu2) hb3
        have hB3 : Below w.heap.size w w3 := bt (hB2) hb3
        clear tl tc0 tc1 tc2 tc3 tc4 tf0 tf1 tf2 tf3 tf4 ul uc0 uc1 uc2 uc3 uc4 uf0 uf1 uf2 uf3 uf4
        obtain ⟨tl, tc0, tc1, tc2, tc3, tc4, tf0, tf1, tf2, tf3, tf4⟩ := Gt3.c5
        obtain ⟨ul, uc0, uc1, uc2, uc3, uc4, uf0, uf1, uf2, uf3, uf4⟩ := Gu3.c5
        have hown3 := own_below hown hb3 (Nat.le_refl _)
        clear hown
        go_upto_region 7 with (fail)
        obtain ⟨w4, hw4⟩ : ∃ W : World, W = (((((w3).setCell ⟨w.heap.size, 0, none⟩ (.string ⟨f1.toArray⟩)).setCell ⟨w.heap.size, 1, none⟩ (.string ⟨l1.toArray⟩)).setCell ⟨w.heap.size, 2, none⟩ (.int .i64 n1)).setCell ⟨w.heap.size, 3, none⟩ (.bool r1)).setCell ⟨w.heap.size, 4, none⟩ (.bool d1) := ⟨_, rfl⟩
        have Gt4 : Blk w4 (w.heap.size) 26 #[.string ⟨f1.toArray⟩, .string ⟨l1.toArray⟩, .int .i64 n1, .bool r1, .bool d1] := by rw [hw4]; exact put5_same Gt3
        have Gu4 : Blk w4 (w.heap.size + 1) 26 #[.string ⟨#[]⟩, .string ⟨#[]⟩, .int .i64 0, .bool false, .bool false] := by rw [hw4]; exact put5_far (.string ⟨f1.toArray⟩) (.string ⟨l1.toArray⟩) (.int .i64 n1) (.bool r1) (.bool d1) Gu3 (by simp; try omega)
        have hB4 : Below w.heap.size w w4 := by rw [hw4]; exact put5_below (.string ⟨f1.toArray⟩) (.string ⟨l1.toArray⟩) (.int .i64 n1) (.bool r1) (.bool d1) hB3 (by first | exact Nat.le_refl _ | omega)
        have hown4 : w4.ownsRow w1.heap.size 9 1 (.slice A ls.length cap) ls.length (ls.map strL) := by rw [hw4]; exact own_put5 (.string ⟨f1.toArray⟩) (.string ⟨l1.toArray⟩) (.int .i64 n1) (.bool r1) (.bool d1) hown3 (by omega)
        rw [← hw4]
        clear hw4
        clear tl tc0 tc1 tc2 tc3 tc4 tf0 tf1 tf2 tf3 tf4 ul uc0 uc1 uc2 uc3 uc4 uf0 uf1 uf2 uf3 uf4
        obtain ⟨tl, tc0, tc1, tc2, tc3, tc4, tf0, tf1, tf2, tf3, tf4⟩ := Gt4.c5
        obtain ⟨ul, uc0, uc1, uc2, uc3, uc4, uf0, uf1, uf2, uf3, uf4⟩ := Gu4.c5
        go_wp2
        refine bodyPost_ret (v := .tuple #[tapeV ⟨f1, l1, n1, r1, d1⟩, .slice A ls.length cap, .int .i64 0]) (by simp [results, Try.results11, go_sem, *]) rfl (open_post (base := w1.heap.size) HV.out ?_ ?_ ?_)
        · (repeat (first | with_reducible assumption | with_reducible exact World.ownsRow_nil _ _ _ _ | with_reducible refine World.ownsRow.alloc ?_ _ | ((with_reducible refine own_set ?_ ?_ _); rotate_left; focus (first | (simp; done) | (simp; omega) | omega))))
        · first | exact Nat.le_refl _ | omega
        · (repeat (first | with_reducible exact b0 _ | with_reducible assumption | with_reducible refine Below.drew ?_ | with_reducible refine below_drewN ?_ _ | with_reducible refine bal ?_ _ | ((with_reducible refine bst ?_ ?_ _); rotate_left; focus (first | exact Nat.le_refl _ | assumption | (simp; done) | (simp; omega) | omega)) | exact below_left (by with_reducible assumption)))
      case neg =>
        rw [if_pos he] at hv
        have hne : ((e1 : Int) != 0) = true := by simp; omega
        have HV := Lib.hid hv
        clear hv he
        go_enter Try.func11, Try.ntmps11
        have hB0 : Below w.heap.size w w := b0 w
        go_wp2_with fail
        refine (ttext_any f l n r false hf hl _).mono ?_
        rintro e w1 ⟨rfl, hb1⟩
        rw [HT.out]
        have Gt1 : Blk w1 (w.heap.size) 26 #[.string ⟨f.toArray⟩, .string ⟨l.toArray⟩, .int .i64 n, .bool r, .bool false] := Blk.keep (Blk.alloc (Blk.new' _ _ _ _ (by simp)) _) hb1
        have Gu1 : Blk w1 (w.heap.size + 1) 26 #[.string ⟨#[]⟩, .string ⟨#[]⟩, .int .i64 0, .bool false, .bool false] := Blk.keep (Blk.new' _ _ _ _ (by simp)) hb1
        have hB1 : Below w.heap.size w w1 := bt (bal (bal (hB0) _) _) hb1
        obtain ⟨tl, tc0, tc1, tc2, tc3, tc4, tf0, tf1, tf2, tf3, tf4⟩ := Gt1.c5
        obtain ⟨ul, uc0, uc1, uc2, uc3, uc4, uf0, uf1, uf2, uf3, uf4⟩ := Gu1.c5
        go_wp2_with fail
        refine (LA _).mono ?_
        rintro e w2 ⟨A, cap, rfl, hown, hb2⟩
        have Gt2 := Blk.keep (Gt1) hb2
        have Gu2 := Blk.keep (Gu1) hb2
        have hB2 : Below w.heap.size w w2 := bt (hB1) hb2
        clear tl tc0 tc1 tc2 tc3 tc4 tf0 tf1 tf2 tf3 tf4 ul uc0 uc1 uc2 uc3 uc4 uf0 uf1 uf2 uf3 uf4
        obtain ⟨tl, tc0, tc1, tc2, tc3, tc4, tf0, tf1, tf2, tf3, tf4⟩ := Gt2.c5
        obtain ⟨ul, uc0, uc1, uc2, uc3, uc4, uf0, uf1, uf2, uf3, uf4⟩ := Gu2.c5
        have hs1 := hB1.size
        have hut := Gu1.lt
        go_wp2_with fail
        refine (cut_any f l n r false hf hl (k : Int) (by omega) _).mono ?_
        rintro e w3 ⟨rfl, hb3⟩
        rw [HC.out]
        simp only [tapeV]
        have Gt3 := Blk.keep (Gt2) hb3
        have Gu3 := Blk.keep (Gu2) hb3
        have hB3 : Below w.heap.size w w3 := bt (hB2) hb3
        clear tl tc0 tc1 tc2 tc3 tc4 tf0 tf1 tf2 tf3 tf4 ul uc0 uc1 uc2 uc3 uc4 uf0 uf1 uf2 uf3 uf4
        obtain ⟨tl, tc0, tc1, tc2, tc3, tc4, tf0, tf1, tf2, tf3, tf4⟩ := Gt3.c5
        obtain ⟨ul, uc0, uc1, uc2, uc3, uc4, uf0, uf1, uf2, uf3, uf4⟩ := Gu3.c5
        have hown3 := own_below hown hb3 (Nat.le_refl _)
        clear hown
        go_upto_region 7 with (fail)
        obtain ⟨w4, hw4⟩ : ∃ W : World, W = (((((w3).setCell ⟨w.heap.size, 0, none⟩ (.string ⟨f1.toArray⟩)).setCell ⟨w.heap.size, 1, none⟩ (.string ⟨l1.toArray⟩)).setCell ⟨w.heap.size, 2, none⟩ (.int .i64 n1)).setCell ⟨w.heap.size, 3, none⟩ (.bool r1)).setCell ⟨w.heap.size, 4, none⟩ (.bool d1) := ⟨_, rfl⟩
        have Gt4 : Blk w4 (w.heap.size) 26 #[.string ⟨f1.toArray⟩, .string ⟨l1.toArray⟩, .int .i64 n1, .bool r1, .bool d1] := by rw [hw4]; exact put5_same Gt3
        have Gu4 : Blk w4 (w.heap.size + 1) 26 #[.string ⟨#[]⟩, .string ⟨#[]⟩, .int .i64 0, .bool false, .bool false] := by rw [hw4]; exact put5_far (.string ⟨f1.toArray⟩) (.string ⟨l1.toArray⟩) (.int .i64 n1) (.bool r1) (.bool d1) Gu3 (by simp; try omega)
        have hB4 : Below w.heap.size w w4 := by rw [hw4]; exact put5_below (.string ⟨f1.toArray⟩) (.string ⟨l1.toArray⟩) (.int .i64 n1) (.bool r1) (.bool d1) hB3 (by first | exact Nat.le_refl _ | omega)
        have hown4 : w4.ownsRow w1.heap.size 9 1 (.slice A ls.length cap) ls.length (ls.map strL) := by rw [hw4]; exact own_put5 (.string ⟨f1.toArray⟩) (.string ⟨l1.toArray⟩) (.int .i64 n1) (.bool r1) (.bool d1) hown3 (by omega)
        rw [← hw4]
        clear hw4
        clear tl tc0 tc1 tc2 tc3 tc4 tf0 tf1 tf2 tf3 tf4 ul uc0 uc1 uc2 uc3 uc4 uf0 uf1 uf2 uf3 uf4
        obtain ⟨tl, tc0, tc1, tc2, tc3, tc4, tf0, tf1, tf2, tf3, tf4⟩ := Gt4.c5
        obtain ⟨ul, uc0, uc1, uc2, uc3, uc4, uf0, uf1, uf2, uf3, uf4⟩ := Gu4.c5
        go_wp2
        refine bodyPost_ret (v := .tuple #[tapeV ⟨f1, l1, n1, r1, d1⟩, .slice none 0 0, .int .i64 e1]) (by simp [results, Try.results11, go_sem, *]) rfl (open_post (base := w1.heap.size) HV.out ?_ ?_ ?_)
        · exact World.ownsRow_nil _ _ _ _
        · first | exact Nat.le_refl _ | omega
        · (repeat (first | with_reducible exact b0 _ | with_reducible assumption | with_reducible refine Below.drew ?_ | with_reducible refine below_drewN ?_ _ | with_reducible refine bal ?_ _ | ((with_reducible refine bst ?_ ?_ _); rotate_left; focus (first | exact Nat.le_refl _ | assumption | (simp; done) | (simp; omega) | omega)) | exact below_left (by with_reducible assumption)))
set_option maxHeartbeats 3200000 in
set_option maxRecDepth 100000 in
theorem refwalopen_any (f l : List UInt8) (n : Int) (r d : Bool) (hf : f.length ≤ 140737488351232) (hl : l.length ≤ 140737488351232) (w : World) :
    Calls Try.prog 13 #[tapeV ⟨f, l, n, r, d⟩] w (OpenPost w ⟨f, l, n, r, d⟩) := by
  have hu := used_le (f ++ l)
  obtain ⟨rd, hrd⟩ : ∃ y, readyT ⟨f, l, n, r, d⟩ = y := ⟨_, rfl⟩
  obtain ⟨q, hq⟩ : ∃ y, rightTp ⟨f, l, n, r, d⟩ = y := ⟨_, rfl⟩
  by_cases h0 : rd = 0
  case neg =>
    have hv : openW ⟨f, l, n, r, d⟩ = (⟨f, l, n, r, d⟩, [], rd) := by unfold openW; rw [hrd, if_pos h0]
    have HV := Lib.hid hv
    clear hv
    cases q
    case false =>
      have e1 : rd = 1 := by unfold readyT at hrd; rw [if_pos hq] at hrd; exact hrd.symm
      subst e1
      have HQ := Lib.hid hq
      clear hq hrd h0
      go_enter Try.func13, Try.ntmps13
      have hB0 : Below w.heap.size w w := b0 w
      go_wp2_with fail
      refine (refright12_any f l n r d hf hl _).mono ?_
      rintro e w1 ⟨rfl, hb1⟩
      rw [HQ.out]
      have Gt1 : Blk w1 (w.heap.size) 34 #[.string ⟨f.toArray⟩, .string ⟨l.toArray⟩, .int .i64 n, .bool r, .bool d] := Blk.keep (Blk.alloc (Blk.new' _ _ _ _ (by simp)) _) hb1
      have Gu1 : Blk w1 (w.heap.size + 1) 34 #[.string ⟨#[]⟩, .string ⟨#[]⟩, .int .i64 0, .bool false, .bool false] := Blk.keep (Blk.new' _ _ _ _ (by simp)) hb1
      have hB1 : Below w.heap.size w w1 := bt (bal (bal (hB0) _) _) hb1
      obtain ⟨tl, tc0, tc1, tc2, tc3, tc4, tf0, tf1, tf2, tf3, tf4⟩ := Gt1.c5
      obtain ⟨ul, uc0, uc1, uc2, uc3, uc4, uf0, uf1, uf2, uf3, uf4⟩ := Gu1.c5
      go_wp2
      refine bodyPost_ret (v := .tuple #[tapeV ⟨f, l, n, r, d⟩, .slice none 0 0, .int .i64 1]) (by simp [results, Try.results13, go_sem, *]) rfl (open_post (base := w.heap.size) HV.out ?_ ?_ ?_)
      · exact World.ownsRow_nil _ _ _ _
      · first | exact Nat.le_refl _ | omega
      · (repeat (first | with_reducible exact b0 _ | with_reducible assumption | with_reducible refine Below.drew ?_ | with_reducible refine below_drewN ?_ _ | with_reducible refine bal ?_ _ | ((with_reducible refine bst ?_ ?_ _); rotate_left; focus (first | exact Nat.le_refl _ | assumption | (simp; done) | (simp; omega) | omega)) | exact below_left (by with_reducible assumption)))
    case true =>
      have hd : d = true ∧ rd = 16 := by unfold readyT at hrd; rw [if_neg (by rw [hq]; simp)] at hrd; cases d; exact absurd hrd.symm h0; exact ⟨rfl, hrd.symm⟩
      obtain ⟨rfl, rfl⟩ := hd
      have HQ := Lib.hid hq
      clear hq hrd h0
      go_enter Try.func13, Try.ntmps13
      have hB0 : Below w.heap.size w w := b0 w
      go_wp2_with fail
      refine (refright12_any f l n r true hf hl _).mono ?_
      rintro e w1 ⟨rfl, hb1⟩
      rw [HQ.out]
      have Gt1 : Blk w1 (w.heap.size) 34 #[.string ⟨f.toArray⟩, .string ⟨l.toArray⟩, .int .i64 n, .bool r, .bool true] := Blk.keep (Blk.alloc (Blk.new' _ _ _ _ (by simp)) _) hb1
      have Gu1 : Blk w1 (w.heap.size + 1) 34 #[.string ⟨#[]⟩, .string ⟨#[]⟩, .int .i64 0, .bool false, .bool false] := Blk.keep (Blk.new' _ _ _ _ (by simp)) hb1
      have hB1 : Below w.heap.size w w1 := bt (bal (bal (hB0) _) _) hb1
      obtain ⟨tl, tc0, tc1, tc2, tc3, tc4, tf0, tf1, tf2, tf3, tf4⟩ := Gt1.c5
      obtain ⟨ul, uc0, uc1, uc2, uc3, uc4, uf0, uf1, uf2, uf3, uf4⟩ := Gu1.c5
      go_wp2
      refine bodyPost_ret (v := .tuple #[tapeV ⟨f, l, n, r, true⟩, .slice none 0 0, .int .i64 16]) (by simp [results, Try.results13, go_sem, *]) rfl (open_post (base := w.heap.size) HV.out ?_ ?_ ?_)
      · exact World.ownsRow_nil _ _ _ _
      · first | exact Nat.le_refl _ | omega
      · (repeat (first | with_reducible exact b0 _ | with_reducible assumption | with_reducible refine Below.drew ?_ | with_reducible refine below_drewN ?_ _ | with_reducible refine bal ?_ _ | ((with_reducible refine bst ?_ ?_ _); rotate_left; focus (first | exact Nat.le_refl _ | assumption | (simp; done) | (simp; omega) | omega)) | exact below_left (by with_reducible assumption)))
  case pos =>
    subst h0
    obtain ⟨hrr, hdn⟩ := ready_right _ hrd
    have hln := (right_parts _ hrr).1
    simp only at hln hdn
    have HRR := Lib.hid hrr
    subst hdn
    have LA := refall_any (f ++ l) (by simp; omega)
    obtain ⟨ls, hls⟩ : ∃ y, allL (f ++ l) = y := ⟨_, rfl⟩
    obtain ⟨k, hk⟩ : ∃ y, usedL (f ++ l) = y := ⟨_, rfl⟩
    rw [show (wrapsL (allL (f ++ l))).length = k from hk, hls] at LA
    rw [hk] at hu
    have hlen : (f ++ l).length = f.length + l.length := by simp
    rw [hlen] at hu
    have ho : openW ⟨f, l, n, r, false⟩ = if k < f.length + l.length then if (cutT ⟨f, l, n, r, false⟩ k).2 ≠ 0 then ((cutT ⟨f, l, n, r, false⟩ k).1, [], (cutT ⟨f, l, n, r, false⟩ k).2) else ((cutT ⟨f, l, n, r, false⟩ k).1, ls, 0) else (⟨f, l, n, r, false⟩, ls, 0) := by
      unfold openW
      rw [hrd, if_neg (by omega)]
      simp only [hk, hls, hlen]
    have HQ := HRR
    clear hrd hls hk hrr hlen hq
    by_cases hkl : k < f.length + l.length
    case neg =>
      have hv := ho
      rw [if_neg hkl] at hv
      have HV := Lib.hid hv
      clear hv ho
      have hke : k = f.length + l.length := by omega
      have hkeq : ((k : Int) == (f.length : Int) + l.length) = true := by simp; omega
      have hkn : ¬ ((k : Int) < (f.length : Int) + l.length) := by omega
      clear hkl
      go_enter Try.func13, Try.ntmps13
      have hB0 : Below w.heap.size w w := b0 w
      go_wp2_with fail
      refine (refright12_any f l n r false hf hl _).mono ?_
      rintro e w1 ⟨rfl, hb1⟩
      rw [HQ.out]
      have Gt1 : Blk w1 (w.heap.size) 34 #[.string ⟨f.toArray⟩, .string ⟨l.toArray⟩, .int .i64 n, .bool r, .bool false] := Blk.keep (Blk.alloc (Blk.new' _ _ _ _ (by simp)) _) hb1
      have Gu1 : Blk w1 (w.heap.size + 1) 34 #[.string ⟨#[]⟩, .string ⟨#[]⟩, .int .i64 0, .bool false, .bool false] := Blk.keep (Blk.new' _ _ _ _ (by simp)) hb1
      have hB1 : Below w.heap.size w w1 := bt (bal (bal (hB0) _) _) hb1
      obtain ⟨tl, tc0, tc1, tc2, tc3, tc4, tf0, tf1, tf2, tf3, tf4⟩ := Gt1.c5
      obtain ⟨ul, uc0, uc1, uc2, uc3, uc4, uf0, uf1, uf2, uf3, uf4⟩ := Gu1.c5
      go_wp2_with fail
      refine (LA _).mono ?_
      rintro e w2 ⟨A, cap, rfl, hown, hb2⟩
      have Gt2 := Blk.keep (Gt1) hb2
      have Gu2 := Blk.keep (Gu1) hb2
      have hB2 : Below w.heap.size w w2 := bt (hB1) hb2
      clear tl tc0 tc1 tc2 tc3 tc4 tf0 tf1 tf2 tf3 tf4 ul uc0 uc1 uc2 uc3 uc4 uf0 uf1 uf2 uf3 uf4
      obtain ⟨tl, tc0, tc1, tc2, tc3, tc4, tf0, tf1, tf2, tf3, tf4⟩ := Gt2.c5
      obtain ⟨ul, uc0, uc1, uc2, uc3, uc4, uf0, uf1, uf2, uf3, uf4⟩ := Gu2.c5
      have hs1 := hB1.size
      have hut := Gu1.lt
      go_wp2
      refine bodyPost_ret (v := .tuple #[tapeV ⟨f, l, n, r, false⟩, .slice A ls.length cap, .int .i64 0]) (by simp [results, Try.results13, go_sem, *]) rfl (open_post (base := w1.heap.size) HV.out ?_ ?_ ?_)
      · (repeat (first | with_reducible assumption | with_reducible exact World.ownsRow_nil _ _ _ _ | with_reducible refine World.ownsRow.alloc ?_ _ | ((with_reducible refine own_set ?_ ?_ _); rotate_left; focus (first | (simp; done) | (simp; omega) | omega))))
      · first | exact Nat.le_refl _ | omega
      · (repeat (first | with_reducible exact b0 _ | with_reducible assumption | with_reducible refine Below.drew ?_ | with_reducible refine below_drewN ?_ _ | with_reducible refine bal ?_ _ | ((with_reducible refine bst ?_ ?_ _); rotate_left; focus (first | exact Nat.le_refl _ | assumption | (simp; done) | (simp; omega) | omega)) | exact below_left (by with_reducible assumption)))
    case pos =>
      obtain ⟨⟨⟨f1, l1, n1, r1, d1⟩, e1⟩, hc⟩ : ∃ y : Tp × Nat, cutT ⟨f, l, n, r, false⟩ k = y := ⟨_, rfl⟩
      have hv := ho
      rw [if_pos hkl, hc] at hv
      simp only at hv
      clear ho
      have hkeq : ((k : Int) == (f.length : Int) + l.length) = false := by simp; omega
      have hkn : (k : Int) < (f.length : Int) + l.length := by omega
      have HC := Lib.hid hc
      clear hc hkl
      by_cases he : e1 = 0
      case pos =>
        subst he
        rw [if_neg (by simp)] at hv
        have HV := Lib.hid hv
        clear hv
        go_enter Try.func13, Try.ntmps13
        have hB0 : Below w.heap.size w w := b0 w
        go_wp2_with fail
        refine (refright12_any f l n r false hf hl _).mono ?_
        rintro e w1 ⟨rfl, hb1⟩
        rw [HQ.out]
        have Gt1 : Blk w1 (w.heap.size) 34 #[.string ⟨f.toArray⟩, .string ⟨l.toArray⟩, .int .i64 n, .bool r, .bool false] := Blk.keep (Blk.alloc (Blk.new' _ _ _ _ (by simp)) _) hb1
        have Gu1 : Blk w1 (w.heap.size + 1) 34 #[.string ⟨#[]⟩, .string ⟨#[]⟩, .int .i64 0, .bool false, .bool false] := Blk.keep (Blk.new' _ _ _ _ (by simp)) hb1
        have hB1 : Below w.heap.size w w1 := bt (bal (bal (hB0) _) _) hb1
        obtain ⟨tl, tc0, tc1, tc2, tc3, tc4, tf0, tf1, tf2, tf3, tf4⟩ := Gt1.c5
        obtain ⟨ul, uc0, uc1, uc2, uc3, uc4, uf0, uf1, uf2, uf3, uf4⟩ := Gu1.c5
        go_wp2_with fail
        refine (LA _).mono ?_
        rintro e w2 ⟨A, cap, rfl, hown, hb2⟩
        have Gt2 := Blk.keep (Gt1) hb2
        have Gu2 := Blk.keep (Gu1) hb2
        have hB2 : Below w.heap.size w w2 := bt (hB1) hb2
        clear tl tc0 tc1 tc2 tc3 tc4 tf0 tf1 tf2 tf3 tf4 ul uc0 uc1 uc2 uc3 uc4 uf0 uf1 uf2 uf3 uf4
        obtain ⟨tl, tc0, tc1, tc2, tc3, tc4, tf0, tf1, tf2, tf3, tf4⟩ := Gt2.c5
        obtain ⟨ul, uc0, uc1, uc2, uc3, uc4, uf0, uf1, uf2, uf3, uf4⟩ := Gu2.c5
        have hs1 := hB1.size
        have hut := Gu1.lt
        go_wp2_with fail
        refine (refdo2_any f l n r false hf hl (k : Int) (by omega) _).mono ?_
        rintro e w3 ⟨rfl, hb3⟩
        rw [HC.out]
        simp only [tapeV]
        have Gt3 := Blk.keep (Gt2) hb3
        have Gu3 := Blk.keep (Gu2) hb3
        have hB3 : Below w.heap.size w w3 := bt (hB2) hb3
        clear tl tc0 tc1 tc2 tc3 tc4 tf0 tf1 tf2 tf3 tf4 ul uc0 uc1 uc2 uc3 uc4 uf0 uf1 uf2 uf3 uf4
        obtain ⟨tl, tc0, tc1, tc2, tc3, tc4, tf0, tf1, tf2, tf3, tf4⟩ := Gt3.c5
        obtain ⟨ul, uc0, uc1, uc2, uc3, uc4, uf0, uf1, uf2, uf3, uf4⟩ := Gu3.c5
        have hown3 := own_below hown hb3 (Nat.le_refl _)
        clear hown
        go_wp2
        refine bodyPost_ret (v := .tuple #[tapeV ⟨f1, l1, n1, r1, d1⟩, .slice A ls.length cap, .int .i64 0]) (by simp [results, Try.results13, go_sem, *]) rfl (open_post (base := w1.heap.size) HV.out ?_ ?_ ?_)
        · (repeat (first | with_reducible assumption | with_reducible exact World.ownsRow_nil _ _ _ _ | with_reducible refine World.ownsRow.alloc ?_ _ | ((with_reducible refine own_set ?_ ?_ _); rotate_left; focus (first | (simp; done) | (simp; omega) | omega))))
        · first | exact Nat.le_refl _ | omega
        · (repeat (first | with_reducible exact b0 _ | with_reducible assumption | with_reducible refine Below.drew ?_ | with_reducible refine below_drewN ?_ _ | with_reducible refine bal ?_ _ | ((with_reducible refine bst ?_ ?_ _); rotate_left; focus (first | exact Nat.le_refl _ | assumption | (simp; done) | (simp; omega) | omega)) | exact below_left (by with_reducible assumption)))
      case neg =>
        rw [if_pos he] at hv
        have hne : ((e1 : Int) != 0) = true := by simp; omega
        have HV := Lib.hid hv
        clear hv he
        go_enter Try.func13, Try.ntmps13
        have hB0 : Below w.heap.size w w := b0 w
        go_wp2_with fail
        refine (refright12_any f l n r false hf hl _).mono ?_
        rintro e w1 ⟨rfl, hb1⟩
        rw [HQ.out]
        have Gt1 : Blk w1 (w.heap.size) 34 #[.string ⟨f.toArray⟩, .string ⟨l.toArray⟩, .int .i64 n, .bool r, .bool false] := Blk.keep (Blk.alloc (Blk.new' _ _ _ _ (by simp)) _) hb1
        have Gu1 : Blk w1 (w.heap.size + 1) 34 #[.string ⟨#[]⟩, .string ⟨#[]⟩, .int .i64 0, .bool false, .bool false] := Blk.keep (Blk.new' _ _ _ _ (by simp)) hb1
        have hB1 : Below w.heap.size w w1 := bt (bal (bal (hB0) _) _) hb1
        obtain ⟨tl, tc0, tc1, tc2, tc3, tc4, tf0, tf1, tf2, tf3, tf4⟩ := Gt1.c5
        obtain ⟨ul, uc0, uc1, uc2, uc3, uc4, uf0, uf1, uf2, uf3, uf4⟩ := Gu1.c5
        go_wp2_with fail
        refine (LA _).mono ?_
        rintro e w2 ⟨A, cap, rfl, hown, hb2⟩
        have Gt2 := Blk.keep (Gt1) hb2
        have Gu2 := Blk.keep (Gu1) hb2
        have hB2 : Below w.heap.size w w2 := bt (hB1) hb2
        clear tl tc0 tc1 tc2 tc3 tc4 tf0 tf1 tf2 tf3 tf4 ul uc0 uc1 uc2 uc3 uc4 uf0 uf1 uf2 uf3 uf4
        obtain ⟨tl, tc0, tc1, tc2, tc3, tc4, tf0, tf1, tf2, tf3, tf4⟩ := Gt2.c5
        obtain ⟨ul, uc0, uc1, uc2, uc3, uc4, uf0, uf1, uf2, uf3, uf4⟩ := Gu2.c5
        have hs1 := hB1.size
        have hut := Gu1.lt
        go_wp2_with fail
        refine (refdo2_any f l n r false hf hl (k : Int) (by omega) _).mono ?_
        rintro e w3 ⟨rfl, hb3⟩
        rw [HC.out]
        simp only [tapeV]
        have Gt3 := Blk.keep (Gt2) hb3
        have Gu3 := Blk.keep (Gu2) hb3
        have hB3 : Below w.heap.size w w3 := bt (hB2) hb3
        clear tl tc0 tc1 tc2 tc3 tc4 tf0 tf1 tf2 tf3 tf4 ul uc0 uc1 uc2 uc3 uc4 uf0 uf1 uf2 uf3 uf4
        obtain ⟨tl, tc0, tc1, tc2, tc3, tc4, tf0, tf1, tf2, tf3, tf4⟩ := Gt3.c5
        obtain ⟨ul, uc0, uc1, uc2, uc3, uc4, uf0, uf1, uf2, uf3, uf4⟩ := Gu3.c5
        have hown3 := own_below hown hb3 (Nat.le_refl _)
        clear hown
        go_wp2
        refine bodyPost_ret (v := .tuple #[tapeV ⟨f1, l1, n1, r1, d1⟩, .slice none 0 0, .int .i64 e1]) (by simp [results, Try.results13, go_sem, *]) rfl (open_post (base := w1.heap.size) HV.out ?_ ?_ ?_)
        · exact World.ownsRow_nil _ _ _ _
        · first | exact Nat.le_refl _ | omega
        · (repeat (first | with_reducible exact b0 _ | with_reducible assumption | with_reducible refine Below.drew ?_ | with_reducible refine below_drewN ?_ _ | with_reducible refine bal ?_ _ | ((with_reducible refine bst ?_ ?_ _); rotate_left; focus (first | exact Nat.le_refl _ | assumption | (simp; done) | (simp; omega) | omega)) | exact below_left (by with_reducible assumption)))
set_option maxHeartbeats 3200000 in
set_option maxRecDepth 100000 in
theorem records_any (l : List UInt8) (hl : l.length ≤ 1099511627776) (w : World) :
    Calls Try.prog 15 #[.string ⟨l.toArray⟩] w fun e w' => ∃ A cap, e = .returned (.slice A (allL l).length cap) ∧ w'.ownsRow w.heap.size 9 1 (.slice A (allL l).length cap) (allL l).length ((allL l).map strL) ∧ Below w.heap.size w w' := by
  go_enter Try.func15, Try.ntmps15
  go_wp2_with fail
  refine (all_any l hl _).mono ?_
  rintro e w1 ⟨A, cap, rfl, hown, hb1⟩
  go_wp2
  go_ret
  exact ⟨A, cap, rfl, hown, hb1⟩
end Go.Proofs.Ythjoamldmcnodaa
