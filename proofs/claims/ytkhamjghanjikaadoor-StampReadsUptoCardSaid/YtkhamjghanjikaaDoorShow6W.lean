/- The walks of stamp.Show and of the document's Show of stamps. -/
import Derived.Test.YtkhamjghanjikaaDoorRefWordW
import Derived.Test.YtkhamjghanjikaaDoorShow5W
import Derived.Deep.DeepCutAuto
namespace Go.Proofs.YtkhamjghanjikaaDoor
open Go.RowKit
attribute [local go_sem] ByteArray.mk_append_mk ByteArray.extract_mk
attribute [local go_sem ↓] Go.wp_at_zero Go.wp_at_succ
theorem below_left {B : Nat} {w w' : World} {q : Prop} (h : Below B w w' ∧ q) : Below B w w' := h.1
theorem right_nat (a b c : Nat) (ha : a ≤ 1099511627776) (hb : b ≤ 1048576) (hc : c ≤ 255) : rightB a b c = true := by
  simp [rightB, withinB]
  omega
theorem word_app (a b c : Nat) : wordL a b c = Lib.decDigits a ++ [46] ++ Lib.decDigits b ++ [46] ++ Lib.decDigits c := by simp [wordL]
set_option maxHeartbeats 1600000 in
set_option maxRecDepth 100000 in
theorem show_any (a b c : Nat) (ha : a ≤ 1099511627776) (hb : b ≤ 1048576) (hc : c ≤ 255) (w : World) (hL : Laid5 w) :
    Calls Tryd.prog 9 #[stampV a b c] w fun e w' => e = .returned (.string ⟨(wordL a b c).toArray⟩) ∧ Below w.heap.size w w' := by
  have la := dec_len 12 a (by omega)
  have lb := dec_len 6 b (by omega)
  have lc := dec_len 2 c (by omega)
  have hw := word_app a b c
  have ITA := fun w hL => itoa_any a (by omega) w hL
  have ITB := fun w hL => itoa_any b (by omega) w hL
  have ITC := fun w hL => itoa_any c (by omega) w hL
  obtain ⟨da, hda⟩ : ∃ d, Lib.decDigits a = d := ⟨_, rfl⟩
  obtain ⟨db, hdb⟩ : ∃ d, Lib.decDigits b = d := ⟨_, rfl⟩
  obtain ⟨dc, hdc⟩ : ∃ d, Lib.decDigits c = d := ⟨_, rfl⟩
  rw [hda, hdb, hdc] at hw
  rw [hda] at ITA la
  rw [hdb] at ITB lb
  rw [hdc] at ITC lc
  have HW := Lib.hid hw
  clear hw hda hdb hdc
  have q1 : ¬ (9223372036854775807 < da.length + 1) := by omega
  have q2 : ¬ (9223372036854775807 < da.length + 1 + db.length) := by omega
  have q3 : ¬ (9223372036854775807 < da.length + (db.length + 1) + 1) := by omega
  have q4 : ¬ (9223372036854775807 < da.length + (db.length + 1 + 1) + dc.length) := by omega
  have hr := right_nat a b c ha hb hc
  go_enter Tryd.func9, Tryd.ntmps9
  go_wp2_with fail
  refine (right_any _ _ _ _).mono ?_
  rintro e w1 ⟨rfl, hb1⟩
  rw [hr]
  have G := (Blk.new w 23 #[.int .i64 (a : Int), .int .i64 (b : Int), .int .i64 (c : Int)]).keep hb1
  have hB1 : Below w.heap.size w w1 := bt (bal (b0 w) _) hb1
  have hL1 := laid5_keep hL hB1
  obtain ⟨xl, x0, x1, x2, f0, f1, f2⟩ := G.c3
  have HS : ∀ w', Below w1.heap.size w1 w' → (Below w1.heap.size w1 w' ∧ w'.cell? ⟨w.heap.size, 0, none⟩ = some (.int .i64 (a : Int)) ∧ w'.cell? ⟨w.heap.size, 1, none⟩ = some (.int .i64 (b : Int)) ∧ w'.cell? ⟨w.heap.size, 2, none⟩ = some (.int .i64 (c : Int))) := fun w' h => by
    obtain ⟨hc, _⟩ := bcell h
    exact ⟨h, by rw [hc _ _ xl]; exact x0, by rw [hc _ _ xl]; exact x1, by rw [hc _ _ xl]; exact x2⟩
  go_wp2_with fail
  go_region_held3 (fun w' => (Below w1.heap.size w1 w' ∧ w'.cell? ⟨w.heap.size, 0, none⟩ = some (.int .i64 (a : Int)) ∧ w'.cell? ⟨w.heap.size, 1, none⟩ = some (.int .i64 (b : Int)) ∧ w'.cell? ⟨w.heap.size, 2, none⟩ = some (.int .i64 (c : Int)))) (first | with_reducible assumption | (refine HS _ ?_; (repeat (first | with_reducible exact b0 _ | with_reducible assumption | with_reducible refine Below.drew ?_ | with_reducible refine below_drewN ?_ _ | with_reducible refine bal ?_ _ | ((with_reducible refine bst ?_ ?_ _); rotate_left; focus (first | exact Nat.le_refl _ | assumption | (simp; done) | (simp; omega) | omega)) | exact below_left (by with_reducible assumption))))) (first
      | (go_at_call_of 26 (Value.int IntKind.i64 (a : Int)); refine (ITA _ (laid5_keep hL1 (by (repeat (first | with_reducible exact b0 _ | with_reducible assumption | with_reducible refine Below.drew ?_ | with_reducible refine below_drewN ?_ _ | with_reducible refine bal ?_ _ | ((with_reducible refine bst ?_ ?_ _); rotate_left; focus (first | exact Nat.le_refl _ | assumption | (simp; done) | (simp; omega) | omega)) | exact below_left (by with_reducible assumption)))))).mono ?_; rintro e wq ⟨rfl, hbq⟩; have hBq : Below w1.heap.size w1 wq := (by refine bt ?_ hbq; (repeat (first | with_reducible exact b0 _ | with_reducible assumption | with_reducible refine Below.drew ?_ | with_reducible refine below_drewN ?_ _ | with_reducible refine bal ?_ _ | ((with_reducible refine bst ?_ ?_ _); rotate_left; focus (first | exact Nat.le_refl _ | assumption | (simp; done) | (simp; omega) | omega)) | exact below_left (by with_reducible assumption)))); have hk := HS wq hBq)
      | (go_at_call_of 26 (Value.int IntKind.i64 (b : Int)); refine (ITB _ (laid5_keep hL1 (by (repeat (first | with_reducible exact b0 _ | with_reducible assumption | with_reducible refine Below.drew ?_ | with_reducible refine below_drewN ?_ _ | with_reducible refine bal ?_ _ | ((with_reducible refine bst ?_ ?_ _); rotate_left; focus (first | exact Nat.le_refl _ | assumption | (simp; done) | (simp; omega) | omega)) | exact below_left (by with_reducible assumption)))))).mono ?_; rintro e wq ⟨rfl, hbq⟩; have hBq : Below w1.heap.size w1 wq := (by refine bt ?_ hbq; (repeat (first | with_reducible exact b0 _ | with_reducible assumption | with_reducible refine Below.drew ?_ | with_reducible refine below_drewN ?_ _ | with_reducible refine bal ?_ _ | ((with_reducible refine bst ?_ ?_ _); rotate_left; focus (first | exact Nat.le_refl _ | assumption | (simp; done) | (simp; omega) | omega)) | exact below_left (by with_reducible assumption)))); have hk := HS wq hBq)
      | (go_at_call_of 26 (Value.int IntKind.i64 (c : Int)); refine (ITC _ (laid5_keep hL1 (by (repeat (first | with_reducible exact b0 _ | with_reducible assumption | with_reducible refine Below.drew ?_ | with_reducible refine below_drewN ?_ _ | with_reducible refine bal ?_ _ | ((with_reducible refine bst ?_ ?_ _); rotate_left; focus (first | exact Nat.le_refl _ | assumption | (simp; done) | (simp; omega) | omega)) | exact below_left (by with_reducible assumption)))))).mono ?_; rintro e wq ⟨rfl, hbq⟩; have hBq : Below w1.heap.size w1 wq := (by refine bt ?_ hbq; (repeat (first | with_reducible exact b0 _ | with_reducible assumption | with_reducible refine Below.drew ?_ | with_reducible refine below_drewN ?_ _ | with_reducible refine bal ?_ _ | ((with_reducible refine bst ?_ ?_ _); rotate_left; focus (first | exact Nat.le_refl _ | assumption | (simp; done) | (simp; omega) | omega)) | exact below_left (by with_reducible assumption)))); have hk := HS wq hBq))
  all_goals
    go_wp2
    go_ret
    exact ⟨by rw [HW.out]; simp, bt hB1 hBq⟩
set_option maxHeartbeats 1600000 in
set_option maxRecDepth 100000 in
theorem show_bad (a t n : Int) (h : rightB a t n = false) (w : World) :
    Calls Tryd.prog 9 #[stampV a t n] w fun e w' => e = .returned (.string ⟨#[]⟩) ∧ Below w.heap.size w w' := by
  go_enter Tryd.func9, Tryd.ntmps9
  go_wp2_with fail
  refine (right_any _ _ _ _).mono ?_
  rintro e w1 ⟨rfl, hb1⟩
  rw [h]
  have hB1 : Below w.heap.size w w1 := bt (bal (b0 w) _) hb1
  go_wp2
  go_ret
  exact ⟨rfl, hB1⟩
set_option maxHeartbeats 1600000 in
set_option maxRecDepth 100000 in
theorem refshow5_any (a b c : Nat) (ha : a ≤ 1099511627776) (hb : b ≤ 1048576) (hc : c ≤ 255) (w : World) :
    Calls Tryd.prog 13 #[stampV a b c] w fun e w' => e = .returned (.string ⟨(wordL a b c).toArray⟩) ∧ Below w.heap.size w w' := by
  have la := dec_len 12 a (by omega)
  have lb := dec_len 6 b (by omega)
  have lc := dec_len 2 c (by omega)
  have hw := word_app a b c
  have ITA := digits_any a (by omega)
  have ITB := digits_any b (by omega)
  have ITC := digits_any c (by omega)
  obtain ⟨da, hda⟩ : ∃ d, Lib.decDigits a = d := ⟨_, rfl⟩
  obtain ⟨db, hdb⟩ : ∃ d, Lib.decDigits b = d := ⟨_, rfl⟩
  obtain ⟨dc, hdc⟩ : ∃ d, Lib.decDigits c = d := ⟨_, rfl⟩
  rw [hda, hdb, hdc] at hw
  rw [hda] at ITA la
  rw [hdb] at ITB lb
  rw [hdc] at ITC lc
  have HW := Lib.hid hw
  clear hw hda hdb hdc
  have q1 : ¬ (9223372036854775807 < da.length + 1) := by omega
  have q2 : ¬ (9223372036854775807 < da.length + 1 + db.length) := by omega
  have q3 : ¬ (9223372036854775807 < da.length + (db.length + 1) + 1) := by omega
  have q4 : ¬ (9223372036854775807 < da.length + (db.length + 1 + 1) + dc.length) := by omega
  go_enter Tryd.func13, Tryd.ntmps13
  go_upto_region 1 with (fail)
  obtain ⟨w1, hw1⟩ : ∃ W : World, W = w.alloc (.cells #[.int .i64 (a : Int), .int .i64 (b : Int), .int .i64 (c : Int)] 23) := ⟨_, rfl⟩
  have G : Blk w1 w.heap.size 23 #[.int .i64 (a : Int), .int .i64 (b : Int), .int .i64 (c : Int)] := by rw [hw1]; exact Blk.new w _ _
  have hB1 : Below w.heap.size w w1 := by rw [hw1]; exact bal (b0 w) _
  rw [← hw1]
  clear hw1
  obtain ⟨xl, x0, x1, x2, f0, f1, f2⟩ := G.c3
  have HS : ∀ w', Below w1.heap.size w1 w' → (Below w1.heap.size w1 w' ∧ w'.cell? ⟨w.heap.size, 0, none⟩ = some (.int .i64 (a : Int)) ∧ w'.cell? ⟨w.heap.size, 1, none⟩ = some (.int .i64 (b : Int)) ∧ w'.cell? ⟨w.heap.size, 2, none⟩ = some (.int .i64 (c : Int))) := fun w' h => by
    obtain ⟨hc, _⟩ := bcell h
    exact ⟨h, by rw [hc _ _ xl]; exact x0, by rw [hc _ _ xl]; exact x1, by rw [hc _ _ xl]; exact x2⟩
  go_wp2_with fail
  go_region_held3 (fun w' => (Below w1.heap.size w1 w' ∧ w'.cell? ⟨w.heap.size, 0, none⟩ = some (.int .i64 (a : Int)) ∧ w'.cell? ⟨w.heap.size, 1, none⟩ = some (.int .i64 (b : Int)) ∧ w'.cell? ⟨w.heap.size, 2, none⟩ = some (.int .i64 (c : Int)))) (first | with_reducible assumption | (refine HS _ ?_; (repeat (first | with_reducible exact b0 _ | with_reducible assumption | with_reducible refine Below.drew ?_ | with_reducible refine below_drewN ?_ _ | with_reducible refine bal ?_ _ | ((with_reducible refine bst ?_ ?_ _); rotate_left; focus (first | exact Nat.le_refl _ | assumption | (simp; done) | (simp; omega) | omega)) | exact below_left (by with_reducible assumption))))) (first
      | (go_at_call_of 29 (Value.int IntKind.i64 (a : Int)); refine (ITA _).mono ?_; rintro e wq ⟨rfl, hbq⟩; have hBq : Below w1.heap.size w1 wq := (by refine bt ?_ hbq; (repeat (first | with_reducible exact b0 _ | with_reducible assumption | with_reducible refine Below.drew ?_ | with_reducible refine below_drewN ?_ _ | with_reducible refine bal ?_ _ | ((with_reducible refine bst ?_ ?_ _); rotate_left; focus (first | exact Nat.le_refl _ | assumption | (simp; done) | (simp; omega) | omega)) | exact below_left (by with_reducible assumption)))); have hk := HS wq hBq)
      | (go_at_call_of 29 (Value.int IntKind.i64 (b : Int)); refine (ITB _).mono ?_; rintro e wq ⟨rfl, hbq⟩; have hBq : Below w1.heap.size w1 wq := (by refine bt ?_ hbq; (repeat (first | with_reducible exact b0 _ | with_reducible assumption | with_reducible refine Below.drew ?_ | with_reducible refine below_drewN ?_ _ | with_reducible refine bal ?_ _ | ((with_reducible refine bst ?_ ?_ _); rotate_left; focus (first | exact Nat.le_refl _ | assumption | (simp; done) | (simp; omega) | omega)) | exact below_left (by with_reducible assumption)))); have hk := HS wq hBq)
      | (go_at_call_of 29 (Value.int IntKind.i64 (c : Int)); refine (ITC _).mono ?_; rintro e wq ⟨rfl, hbq⟩; have hBq : Below w1.heap.size w1 wq := (by refine bt ?_ hbq; (repeat (first | with_reducible exact b0 _ | with_reducible assumption | with_reducible refine Below.drew ?_ | with_reducible refine below_drewN ?_ _ | with_reducible refine bal ?_ _ | ((with_reducible refine bst ?_ ?_ _); rotate_left; focus (first | exact Nat.le_refl _ | assumption | (simp; done) | (simp; omega) | omega)) | exact below_left (by with_reducible assumption)))); have hk := HS wq hBq))
  all_goals
    go_wp2
    go_ret
    exact ⟨by rw [HW.out]; simp, bt hB1 hBq⟩
end Go.Proofs.YtkhamjghanjikaaDoor
