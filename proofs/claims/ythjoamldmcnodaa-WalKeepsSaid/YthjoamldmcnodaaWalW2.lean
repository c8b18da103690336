/- The walks of the document's log: Put, Renew. -/
import Derived.Test.YthjoamldmcnodaaWalW
namespace Go.Proofs.Ythjoamldmcnodaa
open Go.RowKit
attribute [local go_sem] ByteArray.mk_append_mk ByteArray.extract_mk
attribute [local go_sem ↓] Go.wp_at_zero Go.wp_at_succ
set_option maxHeartbeats 3200000 in
set_option maxRecDepth 100000 in
theorem refwalput_any (f l : List UInt8) (n : Int) (r d : Bool) (hf : f.length ≤ 140737488351232) (hl : l.length ≤ 140737488351232) (x : List UInt8) (hx : x.length ≤ 1048576) (w : World) :
    Calls Try.prog 19 #[tapeV ⟨f, l, n, r, d⟩, .string ⟨x.toArray⟩] w fun e w' => e = .returned (.tuple #[tapeV (putW ⟨f, l, n, r, d⟩ x).1, .int .i64 (putW ⟨f, l, n, r, d⟩ x).2]) ∧ Below w.heap.size w w' := by
  have hwl := wrapL_le x
  have hx1 : ¬ ((1048576 : Int) < x.length) := by omega
  obtain ⟨⟨⟨f1, l1, n1, r1, d1⟩, e1⟩, h1⟩ : ∃ y : Tp × Nat, appendT ⟨f, l, n, r, d⟩ (wrapL x) = y := ⟨_, rfl⟩
  have H1 := Lib.hid h1
  go_enter Try.func19, Try.ntmps19
  have hB0 : Below w.heap.size w w := b0 w
  go_upto_region 3 with (fail)
  obtain ⟨w1, hw1⟩ : ∃ W : World, W = ((w).alloc (.cells #[.string ⟨f.toArray⟩, .string ⟨l.toArray⟩, .int .i64 n, .bool r, .bool d] 34)).alloc (.cells #[.string ⟨#[]⟩, .string ⟨#[]⟩, .int .i64 0, .bool false, .bool false] 34) := ⟨_, rfl⟩
  have Gt1 : Blk w1 (w.heap.size) 34 #[.string ⟨f.toArray⟩, .string ⟨l.toArray⟩, .int .i64 n, .bool r, .bool d] := by rw [hw1]; exact Blk.alloc (Blk.new' _ _ _ _ (by simp)) _
  have Gu1 : Blk w1 (w.heap.size + 1) 34 #[.string ⟨#[]⟩, .string ⟨#[]⟩, .int .i64 0, .bool false, .bool false] := by rw [hw1]; exact Blk.new' _ _ _ _ (by simp)
  have hB1 : Below w.heap.size w w1 := by rw [hw1]; exact bal (bal (hB0) _) _
  rw [← hw1]
  clear hw1
  by_cases he : e1 = 0
  case pos =>
    subst he
    have hr1 := append_ok ⟨f, l, n, r, d⟩ (wrapL x) (by rw [h1])
    rw [h1] at hr1
    have hln := (right_parts _ hr1).1
    simp only at hln
    clear hr1
    obtain ⟨⟨⟨f2, l2, n2, r2, d2⟩, e2⟩, h2⟩ : ∃ y : Tp × Nat, syncT ⟨f1, l1, n1, r1, d1⟩ = y := ⟨_, rfl⟩
    have hv : putW ⟨f, l, n, r, d⟩ x = (⟨f2, l2, n2, r2, d2⟩, e2) := by unfold putW; rw [h1, if_neg (by simp)]; exact h2
    have HV := Lib.hid hv
    have H2 := Lib.hid h2
    clear hv h1 h2
    go_cut [6, 7] (fun s6 s7 wx => OneCut w1 34 #[.string ⟨f1.toArray⟩, .string ⟨l1.toArray⟩, .int .i64 n1, .bool r1, .bool d1] 0 s6 s7 wx)
    case first =>
      obtain ⟨tl, tc0, tc1, tc2, tc3, tc4, tf0, tf1, tf2, tf3, tf4⟩ := Gt1.c5
      obtain ⟨ul, uc0, uc1, uc2, uc3, uc4, uf0, uf1, uf2, uf3, uf4⟩ := Gu1.c5
      have HS : ∀ w', Below w1.heap.size w1 w' → (Below w1.heap.size w1 w' ∧ w'.cell? ⟨w.heap.size, 0, none⟩ = some (.string ⟨f.toArray⟩) ∧ w'.cell? ⟨w.heap.size, 1, none⟩ = some (.string ⟨l.toArray⟩) ∧ w'.cell? ⟨w.heap.size, 2, none⟩ = some (.int .i64 n) ∧ w'.cell? ⟨w.heap.size, 3, none⟩ = some (.bool r) ∧ w'.cell? ⟨w.heap.size, 4, none⟩ = some (.bool d) ∧ w'.cell? ⟨w.heap.size + 1, 0, none⟩ = some (.string ⟨#[]⟩) ∧ w'.cell? ⟨w.heap.size + 1, 1, none⟩ = some (.string ⟨#[]⟩) ∧ w'.cell? ⟨w.heap.size + 1, 2, none⟩ = some (.int .i64 0) ∧ w'.cell? ⟨w.heap.size + 1, 3, none⟩ = some (.bool false) ∧ w'.cell? ⟨w.heap.size + 1, 4, none⟩ = some (.bool false)) := fun w' h => by
        obtain ⟨hc, _⟩ := bcell h
        exact ⟨h, by rw [hc _ _ tl]; exact tc0, by rw [hc _ _ tl]; exact tc1, by rw [hc _ _ tl]; exact tc2, by rw [hc _ _ tl]; exact tc3, by rw [hc _ _ tl]; exact tc4, by rw [hc _ _ ul]; exact uc0, by rw [hc _ _ ul]; exact uc1, by rw [hc _ _ ul]; exact uc2, by rw [hc _ _ ul]; exact uc3, by rw [hc _ _ ul]; exact uc4⟩
      go_wp2_with fail
      go_region_held3 (fun w' => (Below w1.heap.size w1 w' ∧ w'.cell? ⟨w.heap.size, 0, none⟩ = some (.string ⟨f.toArray⟩) ∧ w'.cell? ⟨w.heap.size, 1, none⟩ = some (.string ⟨l.toArray⟩) ∧ w'.cell? ⟨w.heap.size, 2, none⟩ = some (.int .i64 n) ∧ w'.cell? ⟨w.heap.size, 3, none⟩ = some (.bool r) ∧ w'.cell? ⟨w.heap.size, 4, none⟩ = some (.bool d) ∧ w'.cell? ⟨w.heap.size + 1, 0, none⟩ = some (.string ⟨#[]⟩) ∧ w'.cell? ⟨w.heap.size + 1, 1, none⟩ = some (.string ⟨#[]⟩) ∧ w'.cell? ⟨w.heap.size + 1, 2, none⟩ = some (.int .i64 0) ∧ w'.cell? ⟨w.heap.size + 1, 3, none⟩ = some (.bool false) ∧ w'.cell? ⟨w.heap.size + 1, 4, none⟩ = some (.bool false))) (first | with_reducible assumption | (refine HS _ ?_; (repeat (first | with_reducible exact b0 _ | with_reducible assumption | with_reducible refine Below.drew ?_ | with_reducible refine below_drewN ?_ _ | with_reducible refine bal ?_ _ | ((with_reducible refine bst ?_ ?_ _); rotate_left; focus (first | exact Nat.le_refl _ | assumption | (simp; done) | (simp; omega) | omega)) | exact below_left (by with_reducible assumption))))) (first
            | (go_at_call 31; refine (refwrap_any x (by omega) _).mono ?_; rintro e wa ⟨rfl, hbwa⟩; have hzwa := hbwa.size; (try simp at hzwa); obtain ⟨hcwa, hfwa⟩ := bcell hbwa; (try (by_cases hA0 : w.heap.size < wa.heap.size; rotate_left; focus (exfalso; omega))); (try (by_cases hA1 : w.heap.size + 1 < wa.heap.size; rotate_left; focus (exfalso; omega))); (try (by_cases hA2 : w1.heap.size < wa.heap.size; rotate_left; focus (exfalso; omega))); have hBwa : Below w1.heap.size w1 wa := (by refine bt ?_ hbwa; (repeat (first | with_reducible exact b0 _ | with_reducible assumption | with_reducible refine Below.drew ?_ | with_reducible refine below_drewN ?_ _ | with_reducible refine bal ?_ _ | ((with_reducible refine bst ?_ ?_ _); rotate_left; focus (first | exact Nat.le_refl _ | assumption | (simp; done) | (simp; omega) | omega)) | exact below_left (by with_reducible assumption)))); have hk := HS wa hBwa)
            | (go_at_call 29; refine (refdo0_any f l n r d hf hl (wrapL x) (by omega) _).mono ?_; rintro e wv ⟨rfl, hbwv⟩; rw [H1.out]; simp only [tapeV]; have hzwv := hbwv.size; (try simp at hzwv); obtain ⟨hcwv, hfwv⟩ := bcell hbwv; (try (by_cases hA0 : w.heap.size < wv.heap.size; rotate_left; focus (exfalso; omega))); (try (by_cases hA1 : w.heap.size + 1 < wv.heap.size; rotate_left; focus (exfalso; omega))); (try (by_cases hA2 : w1.heap.size < wv.heap.size; rotate_left; focus (exfalso; omega))); (try (by_cases hA3 : wa.heap.size < wv.heap.size; rotate_left; focus (exfalso; omega))); have hBwv : Below w1.heap.size w1 wv := (by refine bt ?_ hbwv; (repeat (first | with_reducible exact b0 _ | with_reducible assumption | with_reducible refine Below.drew ?_ | with_reducible refine below_drewN ?_ _ | with_reducible refine bal ?_ _ | ((with_reducible refine bst ?_ ?_ _); rotate_left; focus (first | exact Nat.le_refl _ | assumption | (simp; done) | (simp; omega) | omega)) | exact below_left (by with_reducible assumption)))); have hk := HS wv hBwv))
      all_goals
        clear hk HS
        go_wp2_with fail
        go_meet
        case rel =>
          exact ⟨_, rfl, rfl, by (first | exact Nat.le_refl _ | assumption | omega | (simp; done) | (simp; omega)), by (repeat (first | with_reducible assumption | with_reducible exact Blk.new _ _ _ | with_reducible refine Blk.drew ?_ | with_reducible refine Blk.drewN ?_ _ | ((with_reducible refine Blk.new' _ _ _ _ ?_); focus (first | (simp; done) | (simp; omega))) | with_reducible refine Blk.alloc ?_ _ | ((with_reducible refine Blk.far ?_ ?_ _); rotate_left; focus (first | (simp; done) | (simp; omega))) | with_reducible refine blk_put5 (c0 := .string ⟨#[]⟩) (c1 := .string ⟨#[]⟩) (c2 := .int .i64 0) (c3 := .bool false) (c4 := .bool false) ?_ | with_reducible refine Blk.keep ?_ hbwv | with_reducible refine Blk.keep ?_ hbwa)), by (repeat (first | with_reducible exact b0 _ | with_reducible assumption | with_reducible refine Below.drew ?_ | with_reducible refine below_drewN ?_ _ | with_reducible refine bal ?_ _ | ((with_reducible refine bst ?_ ?_ _); rotate_left; focus (first | exact Nat.le_refl _ | assumption | (simp; done) | (simp; omega) | omega)) | exact below_left (by with_reducible assumption)))⟩
    case rest =>
      obtain ⟨gu, rfl, rfl, hgu, Gx, hBc⟩ := hcut
      have Gt2 := Blk.keep (Gt1) hBc
      have Gu2 := Blk.keep (Gu1) hBc
      have hB2 : Below w.heap.size w wc := bt (hB1) hBc
      have Gx2 := Gx
      clear Gx
      obtain ⟨ul, uc0, uc1, uc2, uc3, uc4, uf0, uf1, uf2, uf3, uf4⟩ := Gu2.c5
      obtain ⟨xl, xc0, xc1, xc2, xc3, xc4, xf0, xf1, xf2, xf3, xf4⟩ := Gx2.c5
      go_wp2_with fail
      refine (refdo1_any f1 l1 n1 r1 d1 (by omega) (by omega) _).mono ?_
      rintro e w3 ⟨rfl, hb3⟩
      rw [H2.out]
      simp only [tapeV]
      have Gt3 := Blk.keep (Gt2) hb3
      have Gu3 := Blk.keep (Gu2) hb3
      have Gx3 := Blk.keep (Gx2) hb3
      have hB3 : Below w.heap.size w w3 := bt (hB2) hb3
      clear ul uc0 uc1 uc2 uc3 uc4 uf0 uf1 uf2 uf3 uf4 xl xc0 xc1 xc2 xc3 xc4 xf0 xf1 xf2 xf3 xf4
      obtain ⟨ul, uc0, uc1, uc2, uc3, uc4, uf0, uf1, uf2, uf3, uf4⟩ := Gu3.c5
      obtain ⟨xl, xc0, xc1, xc2, xc3, xc4, xf0, xf1, xf2, xf3, xf4⟩ := Gx3.c5
      go_wp2
      refine bodyPost_ret (v := .tuple #[tapeV ⟨f2, l2, n2, r2, d2⟩, .int .i64 e2]) (by simp [results, Try.results19, go_sem, *]) rfl ⟨by rw [HV.out] <;> rfl, ?_⟩
      (repeat (first | with_reducible exact b0 _ | with_reducible assumption | with_reducible refine Below.drew ?_ | with_reducible refine below_drewN ?_ _ | with_reducible refine bal ?_ _ | ((with_reducible refine bst ?_ ?_ _); rotate_left; focus (first | exact Nat.le_refl _ | assumption | (simp; done) | (simp; omega) | omega)) | exact below_left (by with_reducible assumption)))
  case neg =>
    have hne : ((e1 : Int) != 0) = true := by simp; omega
    have hv : putW ⟨f, l, n, r, d⟩ x = (⟨f1, l1, n1, r1, d1⟩, e1) := by unfold putW; rw [h1, if_pos he]
    have HV := Lib.hid hv
    clear hv h1 he
    go_cut [6, 7] (fun s6 s7 wx => OneCut w1 34 #[.string ⟨f1.toArray⟩, .string ⟨l1.toArray⟩, .int .i64 n1, .bool r1, .bool d1] e1 s6 s7 wx)
    case first =>
      obtain ⟨tl, tc0, tc1, tc2, tc3, tc4, tf0, tf1, tf2, tf3, tf4⟩ := Gt1.c5
      obtain ⟨ul, uc0, uc1, uc2, uc3, uc4, uf0, uf1, uf2, uf3, uf4⟩ := Gu1.c5
      have HS : ∀ w', Below w1.heap.size w1 w' → (Below w1.heap.size w1 w' ∧ w'.cell? ⟨w.heap.size, 0, none⟩ = some (.string ⟨f.toArray⟩) ∧ w'.cell? ⟨w.heap.size, 1, none⟩ = some (.string ⟨l.toArray⟩) ∧ w'.cell? ⟨w.heap.size, 2, none⟩ = some (.int .i64 n) ∧ w'.cell? ⟨w.heap.size, 3, none⟩ = some (.bool r) ∧ w'.cell? ⟨w.heap.size, 4, none⟩ = some (.bool d) ∧ w'.cell? ⟨w.heap.size + 1, 0, none⟩ = some (.string ⟨#[]⟩) ∧ w'.cell? ⟨w.heap.size + 1, 1, none⟩ = some (.string ⟨#[]⟩) ∧ w'.cell? ⟨w.heap.size + 1, 2, none⟩ = some (.int .i64 0) ∧ w'.cell? ⟨w.heap.size + 1, 3, none⟩ = some (.bool false) ∧ w'.cell? ⟨w.heap.size + 1, 4, none⟩ = some (.bool false)) := fun w' h => by
        obtain ⟨hc, _⟩ := bcell h
        exact ⟨h, by rw [hc _ _ tl]; exact tc0, by rw [hc _ _ tl]; exact tc1, by rw [hc _ _ tl]; exact tc2, by rw [hc _ _ tl]; exact tc3, by rw [hc _ _ tl]; exact tc4, by rw [hc _ _ ul]; exact uc0, by rw [hc _ _ ul]; exact uc1, by rw [hc _ _ ul]; exact uc2, by rw [hc _ _ ul]; exact uc3, by rw [hc _ _ ul]; exact uc4⟩
      go_wp2_with fail
      go_region_held3 (fun w' => (Below w1.heap.size w1 w' ∧ w'.cell? ⟨w.heap.size, 0, none⟩ = some (.string ⟨f.toArray⟩) ∧ w'.cell? ⟨w.heap.size, 1, none⟩ = some (.string ⟨l.toArray⟩) ∧ w'.cell? ⟨w.heap.size, 2, none⟩ = some (.int .i64 n) ∧ w'.cell? ⟨w.heap.size, 3, none⟩ = some (.bool r) ∧ w'.cell? ⟨w.heap.size, 4, none⟩ = some (.bool d) ∧ w'.cell? ⟨w.heap.size + 1, 0, none⟩ = some (.string ⟨#[]⟩) ∧ w'.cell? ⟨w.heap.size + 1, 1, none⟩ = some (.string ⟨#[]⟩) ∧ w'.cell? ⟨w.heap.size + 1, 2, none⟩ = some (.int .i64 0) ∧ w'.cell? ⟨w.heap.size + 1, 3, none⟩ = some (.bool false) ∧ w'.cell? ⟨w.heap.size + 1, 4, none⟩ = some (.bool false))) (first | with_reducible assumption | (refine HS _ ?_; (repeat (first | with_reducible exact b0 _ | with_reducible assumption | with_reducible refine Below.drew ?_ | with_reducible refine below_drewN ?_ _ | with_reducible refine bal ?_ _ | ((with_reducible refine bst ?_ ?_ _); rotate_left; focus (first | exact Nat.le_refl _ | assumption | (simp; done) | (simp; omega) | omega)) | exact below_left (by with_reducible assumption))))) (first
            | (go_at_call 31; refine (refwrap_any x (by omega) _).mono ?_; rintro e wa ⟨rfl, hbwa⟩; have hzwa := hbwa.size; (try simp at hzwa); obtain ⟨hcwa, hfwa⟩ := bcell hbwa; (try (by_cases hA0 : w.heap.size < wa.heap.size; rotate_left; focus (exfalso; omega))); (try (by_cases hA1 : w.heap.size + 1 < wa.heap.size; rotate_left; focus (exfalso; omega))); (try (by_cases hA2 : w1.heap.size < wa.heap.size; rotate_left; focus (exfalso; omega))); have hBwa : Below w1.heap.size w1 wa := (by refine bt ?_ hbwa; (repeat (first | with_reducible exact b0 _ | with_reducible assumption | with_reducible refine Below.drew ?_ | with_reducible refine below_drewN ?_ _ | with_reducible refine bal ?_ _ | ((with_reducible refine bst ?_ ?_ _); rotate_left; focus (first | exact Nat.le_refl _ | assumption | (simp; done) | (simp; omega) | omega)) | exact below_left (by with_reducible assumption)))); have hk := HS wa hBwa)
            | (go_at_call 29; refine (refdo0_any f l n r d hf hl (wrapL x) (by omega) _).mono ?_; rintro e wv ⟨rfl, hbwv⟩; rw [H1.out]; simp only [tapeV]; have hzwv := hbwv.size; (try simp at hzwv); obtain ⟨hcwv, hfwv⟩ := bcell hbwv; (try (by_cases hA0 : w.heap.size < wv.heap.size; rotate_left; focus (exfalso; omega))); (try (by_cases hA1 : w.heap.size + 1 < wv.heap.size; rotate_left; focus (exfalso; omega))); (try (by_cases hA2 : w1.heap.size < wv.heap.size; rotate_left; focus (exfalso; omega))); (try (by_cases hA3 : wa.heap.size < wv.heap.size; rotate_left; focus (exfalso; omega))); have hBwv : Below w1.heap.size w1 wv := (by refine bt ?_ hbwv; (repeat (first | with_reducible exact b0 _ | with_reducible assumption | with_reducible refine Below.drew ?_ | with_reducible refine below_drewN ?_ _ | with_reducible refine bal ?_ _ | ((with_reducible refine bst ?_ ?_ _); rotate_left; focus (first | exact Nat.le_refl _ | assumption | (simp; done) | (simp; omega) | omega)) | exact below_left (by with_reducible assumption)))); have hk := HS wv hBwv))
      all_goals
        clear hk HS
        go_wp2_with fail
        go_meet
        case rel =>
          exact ⟨_, rfl, rfl, by (first | exact Nat.le_refl _ | assumption | omega | (simp; done) | (simp; omega)), by (repeat (first | with_reducible assumption | with_reducible exact Blk.new _ _ _ | with_reducible refine Blk.drew ?_ | with_reducible refine Blk.drewN ?_ _ | ((with_reducible refine Blk.new' _ _ _ _ ?_); focus (first | (simp; done) | (simp; omega))) | with_reducible refine Blk.alloc ?_ _ | ((with_reducible refine Blk.far ?_ ?_ _); rotate_left; focus (first | (simp; done) | (simp; omega))) | with_reducible refine blk_put5 (c0 := .string ⟨#[]⟩) (c1 := .string ⟨#[]⟩) (c2 := .int .i64 0) (c3 := .bool false) (c4 := .bool false) ?_ | with_reducible refine Blk.keep ?_ hbwv | with_reducible refine Blk.keep ?_ hbwa)), by (repeat (first | with_reducible exact b0 _ | with_reducible assumption | with_reducible refine Below.drew ?_ | with_reducible refine below_drewN ?_ _ | with_reducible refine bal ?_ _ | ((with_reducible refine bst ?_ ?_ _); rotate_left; focus (first | exact Nat.le_refl _ | assumption | (simp; done) | (simp; omega) | omega)) | exact below_left (by with_reducible assumption)))⟩
    case rest =>
      obtain ⟨gu, rfl, rfl, hgu, Gx, hBc⟩ := hcut
      have Gt2 := Blk.keep (Gt1) hBc
      have Gu2 := Blk.keep (Gu1) hBc
      have hB2 : Below w.heap.size w wc := bt (hB1) hBc
      have Gx2 := Gx
      clear Gx
      obtain ⟨ul, uc0, uc1, uc2, uc3, uc4, uf0, uf1, uf2, uf3, uf4⟩ := Gu2.c5
      obtain ⟨xl, xc0, xc1, xc2, xc3, xc4, xf0, xf1, xf2, xf3, xf4⟩ := Gx2.c5
      have hul := Gu1.lt
      have hdu : ¬ gu = w.heap.size + 1 := by omega
      have hud : ¬ w.heap.size + 1 = gu := by omega
      go_wp2
      refine bodyPost_ret (v := .tuple #[tapeV ⟨f1, l1, n1, r1, d1⟩, .int .i64 e1]) (by simp [results, Try.results19, go_sem, *]) rfl ⟨by rw [HV.out] <;> rfl, ?_⟩
      (repeat (first | with_reducible exact b0 _ | with_reducible assumption | with_reducible refine Below.drew ?_ | with_reducible refine below_drewN ?_ _ | with_reducible refine bal ?_ _ | ((with_reducible refine bst ?_ ?_ _); rotate_left; focus (first | exact Nat.le_refl _ | assumption | (simp; done) | (simp; omega) | omega)) | exact below_left (by with_reducible assumption)))
set_option maxHeartbeats 3200000 in
set_option maxRecDepth 100000 in
theorem refwalrenew_any (f l : List UInt8) (n : Int) (r d : Bool) (hf : f.length ≤ 140737488351232) (hl : l.length ≤ 140737488351232) (x : List UInt8) (hx : x.length ≤ 1048576) (w : World) :
    Calls Try.prog 21 #[tapeV ⟨f, l, n, r, d⟩, .string ⟨x.toArray⟩] w fun e w' => e = .returned (.tuple #[tapeV (renewW ⟨f, l, n, r, d⟩ x).1, .int .i64 (renewW ⟨f, l, n, r, d⟩ x).2]) ∧ Below w.heap.size w w' := by
  have hwl := wrapL_le x
  have hx1 : ¬ ((1048576 : Int) < x.length) := by omega
  obtain ⟨⟨⟨f1, l1, n1, r1, d1⟩, e1⟩, h1⟩ : ∃ y : Tp × Nat, swapT ⟨f, l, n, r, d⟩ (wrapL x) = y := ⟨_, rfl⟩
  have hv : renewW ⟨f, l, n, r, d⟩ x = (⟨f1, l1, n1, r1, d1⟩, e1) := h1
  have HV := Lib.hid hv
  have H1 := Lib.hid h1
  clear hv h1
  go_enter Try.func21, Try.ntmps21
  have hB0 : Below w.heap.size w w := b0 w
  go_upto_region 3 with (fail)
  obtain ⟨w1, hw1⟩ : ∃ W : World, W = ((w).alloc (.cells #[.string ⟨f.toArray⟩, .string ⟨l.toArray⟩, .int .i64 n, .bool r, .bool d] 34)).alloc (.cells #[.string ⟨#[]⟩, .string ⟨#[]⟩, .int .i64 0, .bool false, .bool false] 34) := ⟨_, rfl⟩
  have Gt1 : Blk w1 (w.heap.size) 34 #[.string ⟨f.toArray⟩, .string ⟨l.toArray⟩, .int .i64 n, .bool r, .bool d] := by rw [hw1]; exact Blk.alloc (Blk.new' _ _ _ _ (by simp)) _
  have Gu1 : Blk w1 (w.heap.size + 1) 34 #[.string ⟨#[]⟩, .string ⟨#[]⟩, .int .i64 0, .bool false, .bool false] := by rw [hw1]; exact Blk.new' _ _ _ _ (by simp)
  have hB1 : Below w.heap.size w w1 := by rw [hw1]; exact bal (bal (hB0) _) _
  rw [← hw1]
  clear hw1
  obtain ⟨tl, tc0, tc1, tc2, tc3, tc4, tf0, tf1, tf2, tf3, tf4⟩ := Gt1.c5
  obtain ⟨ul, uc0, uc1, uc2, uc3, uc4, uf0, uf1, uf2, uf3, uf4⟩ := Gu1.c5
  have HB : ∀ w', Below w.heap.size w w' → Blk w' w.heap.size 34 #[.string ⟨f.toArray⟩, .string ⟨l.toArray⟩, .int .i64 n, .bool r, .bool d] → (Below w.heap.size w w' ∧ w'.cell? ⟨w.heap.size, 0, none⟩ = some (.string ⟨f.toArray⟩) ∧ w'.cell? ⟨w.heap.size, 1, none⟩ = some (.string ⟨l.toArray⟩) ∧ w'.cell? ⟨w.heap.size, 2, none⟩ = some (.int .i64 n) ∧ w'.cell? ⟨w.heap.size, 3, none⟩ = some (.bool r) ∧ w'.cell? ⟨w.heap.size, 4, none⟩ = some (.bool d)) := fun w' h g => ⟨h, g.cell 0, g.cell 1, g.cell 2, g.cell 3, g.cell 4⟩
  have HS : ∀ w', Below w1.heap.size w1 w' → (Below w.heap.size w w' ∧ w'.cell? ⟨w.heap.size, 0, none⟩ = some (.string ⟨f.toArray⟩) ∧ w'.cell? ⟨w.heap.size, 1, none⟩ = some (.string ⟨l.toArray⟩) ∧ w'.cell? ⟨w.heap.size, 2, none⟩ = some (.int .i64 n) ∧ w'.cell? ⟨w.heap.size, 3, none⟩ = some (.bool r) ∧ w'.cell? ⟨w.heap.size, 4, none⟩ = some (.bool d)) := fun w' h => HB w' (bt hB1 h) (Blk.keep Gt1 h)
  go_wp2_with fail
  go_region_held3 (fun w' => (Below w.heap.size w w' ∧ w'.cell? ⟨w.heap.size, 0, none⟩ = some (.string ⟨f.toArray⟩) ∧ w'.cell? ⟨w.heap.size, 1, none⟩ = some (.string ⟨l.toArray⟩) ∧ w'.cell? ⟨w.heap.size, 2, none⟩ = some (.int .i64 n) ∧ w'.cell? ⟨w.heap.size, 3, none⟩ = some (.bool r) ∧ w'.cell? ⟨w.heap.size, 4, none⟩ = some (.bool d))) (first | with_reducible assumption | exact hP _ _ _ _ _ | (refine HS _ ?_; (repeat (first | with_reducible exact b0 _ | with_reducible assumption | with_reducible refine Below.drew ?_ | with_reducible refine below_drewN ?_ _ | with_reducible refine bal ?_ _ | ((with_reducible refine bst ?_ ?_ _); rotate_left; focus (first | exact Nat.le_refl _ | assumption | (simp; done) | (simp; omega) | omega)) | exact below_left (by with_reducible assumption))))) (first
        | (go_at_call 31; refine (refwrap_any x (by omega) _).mono ?_; rintro e wa ⟨rfl, hbwa⟩; have hzwa := hbwa.size; (try simp at hzwa); have hBwa : Below w1.heap.size w1 wa := (by refine bt ?_ hbwa; (repeat (first | with_reducible exact b0 _ | with_reducible assumption | with_reducible refine Below.drew ?_ | with_reducible refine below_drewN ?_ _ | with_reducible refine bal ?_ _ | ((with_reducible refine bst ?_ ?_ _); rotate_left; focus (first | exact Nat.le_refl _ | assumption | (simp; done) | (simp; omega) | omega)) | exact below_left (by with_reducible assumption)))); have hk := HS wa hBwa)
        | (go_at_call 29; refine (refdo3_any f l n r d hf hl (wrapL x) (by omega) _).mono ?_; rintro e wv ⟨rfl, hbwv⟩; rw [H1.out]; simp only [tapeV]; have hzwv := hbwv.size; (try simp at hzwv); have hBwv : Below w1.heap.size w1 wv := (by refine bt ?_ hbwv; (repeat (first | with_reducible exact b0 _ | with_reducible assumption | with_reducible refine Below.drew ?_ | with_reducible refine below_drewN ?_ _ | with_reducible refine bal ?_ _ | ((with_reducible refine bst ?_ ?_ _); rotate_left; focus (first | exact Nat.le_refl _ | assumption | (simp; done) | (simp; omega) | omega)) | exact below_left (by with_reducible assumption)))); have hk := HS wv hBwv; have Guv := Blk.keep Gu1 hBwv; obtain ⟨vl, vc0, vc1, vc2, vc3, vc4, vf0, vf1, vf2, vf3, vf4⟩ := Guv.c5; have hP := fun a b c d e => HB (put5 wv (w.heap.size + 1) a b c d e) (put5_below a b c d e (bt hB1 hBwv) (by omega)) (put5_far a b c d e (Blk.keep Gt1 hBwv) (by omega))))
  all_goals
    have hBv : Below w.heap.size w wv := bt hB1 hBwv
    clear HS HB hP tl tc0 tc1 tc2 tc3 tc4 tf0 tf1 tf2 tf3 tf4 ul uc0 uc1 uc2 uc3 uc4 uf0 uf1 uf2 uf3 uf4
    go_wp2
    refine bodyPost_ret (v := .tuple #[tapeV ⟨f1, l1, n1, r1, d1⟩, .int .i64 e1]) (by simp [results, Try.results21, go_sem, *]) rfl ⟨by rw [HV.out] <;> rfl, ?_⟩
    (repeat (first | with_reducible exact b0 _ | with_reducible assumption | with_reducible refine Below.drew ?_ | with_reducible refine below_drewN ?_ _ | with_reducible refine bal ?_ _ | ((with_reducible refine bst ?_ ?_ _); rotate_left; focus (first | exact Nat.le_refl _ | assumption | (simp; done) | (simp; omega) | omega)) | exact below_left (by with_reducible assumption)))
end Go.Proofs.Ythjoamldmcnodaa
