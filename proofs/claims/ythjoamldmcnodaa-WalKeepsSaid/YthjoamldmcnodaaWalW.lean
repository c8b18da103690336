/- The walks of the log: Put, Renew, Records, and the document's. -/
import Derived.Test.YthjoamldmcnodaaAllW
import Derived.Test.YthjoamldmcnodaaLaw12
import Derived.Test.YthjoamldmcnodaaTape4W
import Derived.Test.YthjoamldmcnodaaDo0W
import Derived.Test.YthjoamldmcnodaaDo1W
import Derived.Test.YthjoamldmcnodaaDo2W
import Derived.Test.YthjoamldmcnodaaDo3W
import Derived.Test.YthjoamldmcnodaaWal
import Derived.Test.YthjoamldmcnodaaPuts
import Derived.Deep.RegionHeld3
import Derived.Deep.DrawnRows
import Derived.Deep.DeepCutAuto
namespace Go.Proofs.Ythjoamldmcnodaa
open Go.RowKit
attribute [local go_sem] ByteArray.mk_append_mk ByteArray.extract_mk
attribute [local go_sem ↓] Go.wp_at_zero Go.wp_at_succ
def OneCut (W : World) (T : TypeId) (cu : Array Value) (en : Nat) (s6 s7 : Value) (wx : World) : Prop :=
  ∃ gu, s6 = .pointer (some ⟨gu, 0, none⟩) ∧ s7 = .int .i64 en ∧ W.heap.size ≤ gu ∧ Blk wx gu T cu ∧ Below W.heap.size W wx
set_option maxHeartbeats 3200000 in
set_option maxRecDepth 100000 in
theorem walput_any (f l : List UInt8) (n : Int) (r d : Bool) (hf : f.length ≤ 140737488351232) (hl : l.length ≤ 140737488351232) (x : List UInt8) (hx : x.length ≤ 1048576) (w : World) :
    Calls Try.prog 10 #[tapeV ⟨f, l, n, r, d⟩, .string ⟨x.toArray⟩] w fun e w' => e = .returned (.tuple #[tapeV (putW ⟨f, l, n, r, d⟩ x).1, .int .i64 (putW ⟨f, l, n, r, d⟩ x).2]) ∧ Below w.heap.size w w' := by
  have hwl := wrapL_le x
  obtain ⟨⟨⟨f1, l1, n1, r1, d1⟩, e1⟩, h1⟩ : ∃ y : Tp × Nat, appendT ⟨f, l, n, r, d⟩ (wrapL x) = y := ⟨_, rfl⟩
  by_cases he : e1 = 0
  case pos =>
    subst he
    have hr1 := append_ok ⟨f, l, n, r, d⟩ (wrapL x) (by rw [h1])
    rw [h1] at hr1
    have hln := (right_parts _ hr1).1
    simp only at hln
    clear hr1
    obtain ⟨⟨⟨f2, l2, n2, r2, d2⟩, e2⟩, h2⟩ : ∃ y : Tp × Nat, syncT ⟨f1, l1, n1, r1, d1⟩ = y := ⟨_, rfl⟩
    have hv : putW ⟨f, l, n, r, d⟩ x = (⟨f2, l2, n2, r2, d2⟩, e2) := by unfold putW; rw [h1, if_neg (by simp)]; exact h2
    have HV := Lib.hid hv
    have H1 := Lib.hid h1
    have H2 := Lib.hid h2
    clear hv h1 h2
    go_enter Try.func10, Try.ntmps10
    have hB0 : Below w.heap.size w w := b0 w
    go_wp2_with fail
    refine (wrap_any x hx _).mono ?_
    rintro e w1 ⟨rfl, hb1⟩
    have Gt1 : Blk w1 (w.heap.size) 26 #[.string ⟨f.toArray⟩, .string ⟨l.toArray⟩, .int .i64 n, .bool r, .bool d] := Blk.keep (Blk.alloc (Blk.new' _ _ _ _ (by simp)) _) hb1
    have Gu1 : Blk w1 (w.heap.size + 1) 26 #[.string ⟨#[]⟩, .string ⟨#[]⟩, .int .i64 0, .bool false, .bool false] := Blk.keep (Blk.new' _ _ _ _ (by simp)) hb1
    have hB1 : Below w.heap.size w w1 := bt (bal (bal (hB0) _) _) hb1
    obtain ⟨tl, tc0, tc1, tc2, tc3, tc4, tf0, tf1, tf2, tf3, tf4⟩ := Gt1.c5
    obtain ⟨ul, uc0, uc1, uc2, uc3, uc4, uf0, uf1, uf2, uf3, uf4⟩ := Gu1.c5
    go_wp2_with fail
    refine (append_any f l n r d hf hl (wrapL x) (by omega) _).mono ?_
    rintro e w2 ⟨rfl, hb2⟩
    rw [H1.out]
    simp only [tapeV]
    have Gt2 := Blk.keep (Gt1) hb2
    have Gu2 := Blk.keep (Gu1) hb2
    have hB2 : Below w.heap.size w w2 := bt (hB1) hb2
    clear tl tc0 tc1 tc2 tc3 tc4 tf0 tf1 tf2 tf3 tf4 ul uc0 uc1 uc2 uc3 uc4 uf0 uf1 uf2 uf3 uf4
    obtain ⟨tl, tc0, tc1, tc2, tc3, tc4, tf0, tf1, tf2, tf3, tf4⟩ := Gt2.c5
    obtain ⟨ul, uc0, uc1, uc2, uc3, uc4, uf0, uf1, uf2, uf3, uf4⟩ := Gu2.c5
    go_upto_region 5 with (fail)
    obtain ⟨w3, hw3⟩ : ∃ W : World, W = (((((w2).setCell ⟨w.heap.size, 0, none⟩ (.string ⟨f1.toArray⟩)).setCell ⟨w.heap.size, 1, none⟩ (.string ⟨l1.toArray⟩)).setCell ⟨w.heap.size, 2, none⟩ (.int .i64 n1)).setCell ⟨w.heap.size, 3, none⟩ (.bool r1)).setCell ⟨w.heap.size, 4, none⟩ (.bool d1) := ⟨_, rfl⟩
    have Gt3 : Blk w3 (w.heap.size) 26 #[.string ⟨f1.toArray⟩, .string ⟨l1.toArray⟩, .int .i64 n1, .bool r1, .bool d1] := by rw [hw3]; exact put5_same Gt2
    have Gu3 : Blk w3 (w.heap.size + 1) 26 #[.string ⟨#[]⟩, .string ⟨#[]⟩, .int .i64 0, .bool false, .bool false] := by rw [hw3]; exact put5_far (.string ⟨f1.toArray⟩) (.string ⟨l1.toArray⟩) (.int .i64 n1) (.bool r1) (.bool d1) Gu2 (by simp; try omega)
    have hB3 : Below w.heap.size w w3 := by rw [hw3]; exact put5_below (.string ⟨f1.toArray⟩) (.string ⟨l1.toArray⟩) (.int .i64 n1) (.bool r1) (.bool d1) hB2 (by first | exact Nat.le_refl _ | omega)
    rw [← hw3]
    clear hw3
    clear tl tc0 tc1 tc2 tc3 tc4 tf0 tf1 tf2 tf3 tf4 ul uc0 uc1 uc2 uc3 uc4 uf0 uf1 uf2 uf3 uf4
    obtain ⟨tl, tc0, tc1, tc2, tc3, tc4, tf0, tf1, tf2, tf3, tf4⟩ := Gt3.c5
    obtain ⟨ul, uc0, uc1, uc2, uc3, uc4, uf0, uf1, uf2, uf3, uf4⟩ := Gu3.c5
    go_wp2_with fail
    refine (sync_any f1 l1 n1 r1 d1 (by omega) (by omega) _).mono ?_
    rintro e w4 ⟨rfl, hb4⟩
    rw [H2.out]
    simp only [tapeV]
    have Gt4 := Blk.keep (Gt3) hb4
    have Gu4 := Blk.keep (Gu3) hb4
    have hB4 : Below w.heap.size w w4 := bt (hB3) hb4
    clear tl tc0 tc1 tc2 tc3 tc4 tf0 tf1 tf2 tf3 tf4 ul uc0 uc1 uc2 uc3 uc4 uf0 uf1 uf2 uf3 uf4
    obtain ⟨tl, tc0, tc1, tc2, tc3, tc4, tf0, tf1, tf2, tf3, tf4⟩ := Gt4.c5
    obtain ⟨ul, uc0, uc1, uc2, uc3, uc4, uf0, uf1, uf2, uf3, uf4⟩ := Gu4.c5
    go_wp2
    refine bodyPost_ret (v := .tuple #[tapeV ⟨f2, l2, n2, r2, d2⟩, .int .i64 e2]) (by simp [results, Try.results10, go_sem, *]) rfl ⟨by rw [HV.out] <;> rfl, ?_⟩
    (repeat (first | with_reducible exact b0 _ | with_reducible assumption | with_reducible refine Below.drew ?_ | with_reducible refine below_drewN ?_ _ | with_reducible refine bal ?_ _ | ((with_reducible refine bst ?_ ?_ _); rotate_left; focus (first | exact Nat.le_refl _ | assumption | (simp; done) | (simp; omega) | omega)) | exact below_left (by with_reducible assumption)))
  case neg =>
    have hne : ((e1 : Int) != 0) = true := by simp; omega
    have hv : putW ⟨f, l, n, r, d⟩ x = (⟨f1, l1, n1, r1, d1⟩, e1) := by unfold putW; rw [h1, if_pos he]
    have HV := Lib.hid hv
    have H1 := Lib.hid h1
    clear hv h1 he
    go_enter Try.func10, Try.ntmps10
    have hB0 : Below w.heap.size w w := b0 w
    go_wp2_with fail
    refine (wrap_any x hx _).mono ?_
    rintro e w1 ⟨rfl, hb1⟩
    have Gt1 : Blk w1 (w.heap.size) 26 #[.string ⟨f.toArray⟩, .string ⟨l.toArray⟩, .int .i64 n, .bool r, .bool d] := Blk.keep (Blk.alloc (Blk.new' _ _ _ _ (by simp)) _) hb1
    have Gu1 : Blk w1 (w.heap.size + 1) 26 #[.string ⟨#[]⟩, .string ⟨#[]⟩, .int .i64 0, .bool false, .bool false] := Blk.keep (Blk.new' _ _ _ _ (by simp)) hb1
    have hB1 : Below w.heap.size w w1 := bt (bal (bal (hB0) _) _) hb1
    obtain ⟨tl, tc0, tc1, tc2, tc3, tc4, tf0, tf1, tf2, tf3, tf4⟩ := Gt1.c5
    obtain ⟨ul, uc0, uc1, uc2, uc3, uc4, uf0, uf1, uf2, uf3, uf4⟩ := Gu1.c5
    go_wp2_with fail
    refine (append_any f l n r d hf hl (wrapL x) (by omega) _).mono ?_
    rintro e w2 ⟨rfl, hb2⟩
    rw [H1.out]
    simp only [tapeV]
    have Gt2 := Blk.keep (Gt1) hb2
    have Gu2 := Blk.keep (Gu1) hb2
    have hB2 : Below w.heap.size w w2 := bt (hB1) hb2
    clear tl tc0 tc1 tc2 tc3 tc4 tf0 tf1 tf2 tf3 tf4 ul uc0 uc1 uc2 uc3 uc4 uf0 uf1 uf2 uf3 uf4
    obtain ⟨tl, tc0, tc1, tc2, tc3, tc4, tf0, tf1, tf2, tf3, tf4⟩ := Gt2.c5
    obtain ⟨ul, uc0, uc1, uc2, uc3, uc4, uf0, uf1, uf2, uf3, uf4⟩ := Gu2.c5
    go_upto_region 5 with (fail)
    obtain ⟨w3, hw3⟩ : ∃ W : World, W = (((((w2).setCell ⟨w.heap.size, 0, none⟩ (.string ⟨f1.toArray⟩)).setCell ⟨w.heap.size, 1, none⟩ (.string ⟨l1.toArray⟩)).setCell ⟨w.heap.size, 2, none⟩ (.int .i64 n1)).setCell ⟨w.heap.size, 3, none⟩ (.bool r1)).setCell ⟨w.heap.size, 4, none⟩ (.bool d1) := ⟨_, rfl⟩
    have Gt3 : Blk w3 (w.heap.size) 26 #[.string ⟨f1.toArray⟩, .string ⟨l1.toArray⟩, .int .i64 n1, .bool r1, .bool d1] := by rw [hw3]; exact put5_same Gt2
    have Gu3 : Blk w3 (w.heap.size + 1) 26 #[.string ⟨#[]⟩, .string ⟨#[]⟩, .int .i64 0, .bool false, .bool false] := by rw [hw3]; exact put5_far (.string ⟨f1.toArray⟩) (.string ⟨l1.toArray⟩) (.int .i64 n1) (.bool r1) (.bool d1) Gu2 (by simp; try omega)
    have hB3 : Below w.heap.size w w3 := by rw [hw3]; exact put5_below (.string ⟨f1.toArray⟩) (.string ⟨l1.toArray⟩) (.int .i64 n1) (.bool r1) (.bool d1) hB2 (by first | exact Nat.le_refl _ | omega)
    rw [← hw3]
    clear hw3
    clear tl tc0 tc1 tc2 tc3 tc4 tf0 tf1 tf2 tf3 tf4 ul uc0 uc1 uc2 uc3 uc4 uf0 uf1 uf2 uf3 uf4
    obtain ⟨tl, tc0, tc1, tc2, tc3, tc4, tf0, tf1, tf2, tf3, tf4⟩ := Gt3.c5
    obtain ⟨ul, uc0, uc1, uc2, uc3, uc4, uf0, uf1, uf2, uf3, uf4⟩ := Gu3.c5
    go_wp2
    refine bodyPost_ret (v := .tuple #[tapeV ⟨f1, l1, n1, r1, d1⟩, .int .i64 e1]) (by simp [results, Try.results10, go_sem, *]) rfl ⟨by rw [HV.out] <;> rfl, ?_⟩
    (repeat (first | with_reducible exact b0 _ | with_reducible assumption | with_reducible refine Below.drew ?_ | with_reducible refine below_drewN ?_ _ | with_reducible refine bal ?_ _ | ((with_reducible refine bst ?_ ?_ _); rotate_left; focus (first | exact Nat.le_refl _ | assumption | (simp; done) | (simp; omega) | omega)) | exact below_left (by with_reducible assumption)))
set_option maxHeartbeats 3200000 in
set_option maxRecDepth 100000 in
theorem walrenew_any (f l : List UInt8) (n : Int) (r d : Bool) (hf : f.length ≤ 140737488351232) (hl : l.length ≤ 140737488351232) (x : List UInt8) (hx : x.length ≤ 1048576) (w : World) :
    Calls Try.prog 20 #[tapeV ⟨f, l, n, r, d⟩, .string ⟨x.toArray⟩] w fun e w' => e = .returned (.tuple #[tapeV (renewW ⟨f, l, n, r, d⟩ x).1, .int .i64 (renewW ⟨f, l, n, r, d⟩ x).2]) ∧ Below w.heap.size w w' := by
  have hwl := wrapL_le x
  obtain ⟨⟨⟨f1, l1, n1, r1, d1⟩, e1⟩, h1⟩ : ∃ y : Tp × Nat, swapT ⟨f, l, n, r, d⟩ (wrapL x) = y := ⟨_, rfl⟩
  have hv : renewW ⟨f, l, n, r, d⟩ x = (⟨f1, l1, n1, r1, d1⟩, e1) := h1
  have HV := Lib.hid hv
  have H1 := Lib.hid h1
  clear hv h1
  go_enter Try.func20, Try.ntmps20
  have hB0 : Below w.heap.size w w := b0 w
  go_wp2_with fail
  refine (wrap_any x hx _).mono ?_
  rintro e w1 ⟨rfl, hb1⟩
  have Gt1 : Blk w1 (w.heap.size) 26 #[.string ⟨f.toArray⟩, .string ⟨l.toArray⟩, .int .i64 n, .bool r, .bool d] := Blk.keep (Blk.alloc (Blk.new' _ _ _ _ (by simp)) _) hb1
  have Gu1 : Blk w1 (w.heap.size + 1) 26 #[.string ⟨#[]⟩, .string ⟨#[]⟩, .int .i64 0, .bool false, .bool false] := Blk.keep (Blk.new' _ _ _ _ (by simp)) hb1
  have hB1 : Below w.heap.size w w1 := bt (bal (bal (hB0) _) _) hb1
  obtain ⟨tl, tc0, tc1, tc2, tc3, tc4, tf0, tf1, tf2, tf3, tf4⟩ := Gt1.c5
  obtain ⟨ul, uc0, uc1, uc2, uc3, uc4, uf0, uf1, uf2, uf3, uf4⟩ := Gu1.c5
  go_wp2_with fail
  refine (swap_any f l n r d hf hl (wrapL x) (by omega) _).mono ?_
  rintro e w2 ⟨rfl, hb2⟩
  rw [H1.out]
  simp only [tapeV]
  have Gt2 := Blk.keep (Gt1) hb2
  have Gu2 := Blk.keep (Gu1) hb2
  have hB2 : Below w.heap.size w w2 := bt (hB1) hb2
  clear tl tc0 tc1 tc2 tc3 tc4 tf0 tf1 tf2 tf3 tf4 ul uc0 uc1 uc2 uc3 uc4 uf0 uf1 uf2 uf3 uf4
  obtain ⟨tl, tc0, tc1, tc2, tc3, tc4, tf0, tf1, tf2, tf3, tf4⟩ := Gt2.c5
  obtain ⟨ul, uc0, uc1, uc2, uc3, uc4, uf0, uf1, uf2, uf3, uf4⟩ := Gu2.c5
  go_wp2
  refine bodyPost_ret (v := .tuple #[tapeV ⟨f1, l1, n1, r1, d1⟩, .int .i64 e1]) (by simp [results, Try.results20, go_sem, *]) rfl ⟨by rw [HV.out] <;> rfl, ?_⟩
  (repeat (first | with_reducible exact b0 _ | with_reducible assumption | with_reducible refine Below.drew ?_ | with_reducible refine below_drewN ?_ _ | with_reducible refine bal ?_ _ | ((with_reducible refine bst ?_ ?_ _); rotate_left; focus (first | exact Nat.le_refl _ | assumption | (simp; done) | (simp; omega) | omega)) | exact below_left (by with_reducible assumption)))
end Go.Proofs.Ythjoamldmcnodaa
