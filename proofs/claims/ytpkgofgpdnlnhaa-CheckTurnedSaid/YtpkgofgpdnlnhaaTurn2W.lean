/- The walk of CheckTurned. -/
import Derived.Test.YtpkgofgpdnlnhaaLaw02
import Derived.Laws.IdiomStrings
import Derived.Laws.BitsAllLaws
namespace Go.Proofs.Ytpkgofgpdnlnhaa
open Go.RowKit
attribute [local go_sem] ByteArray.mk_append_mk ByteArray.extract_mk
theorem bytes_cells (w w2 : World) (W : List UInt8) (cap : Nat) (e : TypeId) (h : w.drew.alloc (.cells (bytesRow ⟨W.toArray⟩ cap) e ((bytesRow ⟨W.toArray⟩ cap).size, (bytesRow ⟨W.toArray⟩ cap).size + 1)) = w2) :
    w2.heap.size = w.heap.size + 1 ∧ (∀ k (hk : k < W.length), w2.cell? ⟨w.heap.size, k, none⟩ = some (.int .u8 ((W[k].toNat : Nat) : Int))) ∧
      (∀ k, k < W.length → w2.frozen? ⟨w.heap.size, k, none⟩ = false) ∧ Below w.heap.size w w2 := by
  subst h
  have hh : (w.drew.alloc (.cells (bytesRow ⟨W.toArray⟩ cap) e ((bytesRow ⟨W.toArray⟩ cap).size, (bytesRow ⟨W.toArray⟩ cap).size + 1))).heap[w.heap.size]? = some (.cells (bytesRow ⟨W.toArray⟩ cap) e ((bytesRow ⟨W.toArray⟩ cap).size, (bytesRow ⟨W.toArray⟩ cap).size + 1)) := heap_alloc_new w.drew _
  refine ⟨by simp, fun k hk => ?_, fun k hk => ?_, ?_⟩
  · rw [cell_of_row _ _ _ _ _ _ hh, bytesRow_at _ _ _ (by simpa using hk)]
    simp
  · have hs : k < (bytesRow ⟨W.toArray⟩ cap).size := by unfold bytesRow; simp; omega
    unfold World.frozen?
    simp only [hh]
    simp
    omega
  · exact (Below.drew (Below.refl _ w)).alloc (by simp) _
theorem cells_set {w2 : World} {b i : Nat} {W : List UInt8} {y : UInt8} {z : Int} (_hi : i < W.length) (hz : z = (y.toNat : Int)) (hc : ∀ k (hk : k < W.length), w2.cell? ⟨b, k, none⟩ = some (.int .u8 ((W[k].toNat : Nat) : Int))) :
    ∀ k (hk : k < (W.set i y).length), (w2.setCell ⟨b, i, none⟩ (.int .u8 z)).cell? ⟨b, k, none⟩ = some (.int .u8 (((W.set i y)[k].toNat : Nat) : Int)) := by
  subst hz
  intro j hj
  have hj' : j < W.length := by simpa using hj
  have h0 := hc j hj'
  rw [List.getElem_set]
  by_cases hij : i = j
  · subst hij
    rw [if_pos rfl]
    exact World.cell?_setCell_same _ _ _ h0
  · rw [if_neg hij, ← h0]
    exact World.cell?_setCell_other _ _ _ _ (by intro he; simp at he <;> omega)
theorem conv_row (w2 : World) (b n cap : Nat) (W : List UInt8) (hn : W.length = n) (hc : ∀ k (hk : k < W.length), w2.cell? ⟨b, k, none⟩ = some (.int .u8 ((W[k].toNat : Nat) : Int))) :
    (convert 35 9 (.slice (some ⟨b, 0, none⟩) n cap)).run Try.prog w2 = .ok (.string ⟨W.toArray⟩) w2 := by
  subst hn
  exact run_convert_bytes_back (P := Try.prog) w2 35 9 5 ⟨b, 0, none⟩ cap W Try.underlying35 Try.underlying5 Try.underlying9 (fun j hj => by
    have ha : (⟨b, 0, none⟩ : Addr).add j = ⟨b, j, none⟩ := by unfold Addr.add; split <;> simp_all
    rw [ha, hc j hj])
theorem conv_row4 (w2 : World) (b n cap : Nat) (W : List UInt8) (hn : W.length = n) (hc : ∀ k (hk : k < W.length), w2.cell? ⟨b, k, none⟩ = some (.int .u8 ((W[k].toNat : Nat) : Int))) :
    (convert 35 9 (.slice (some ⟨b, 0, none⟩) n cap)).run Try.prog w2.drew.drew.drew.drew = .ok (.string ⟨W.toArray⟩) w2.drew.drew.drew.drew :=
  conv_row w2.drew.drew.drew.drew b n cap W hn (fun k hk => hc k hk)
theorem back4 (w2 : World) (b i cap : Nat) (W : List UInt8) (y0 y1 y2 y3 : UInt8) (z0 z1 z2 z3 : Int) (hi : i + 4 ≤ W.length) (h0 : z0 = (y0.toNat : Int)) (h1 : z1 = (y1.toNat : Int)) (h2 : z2 = (y2.toNat : Int)) (h3 : z3 = (y3.toNat : Int))
    (hc : ∀ k (hk : k < W.length), w2.cell? ⟨b, k, none⟩ = some (.int .u8 ((W[k].toNat : Nat) : Int))) :
    (convert 35 9 (.slice (some ⟨b, 0, none⟩) W.length cap)).run Try.prog (((((w2.setCell ⟨b, i, none⟩ (.int .u8 z0)).setCell ⟨b, i + 1, none⟩ (.int .u8 z1)).setCell ⟨b, i + 2, none⟩ (.int .u8 z2)).setCell ⟨b, i + 3, none⟩ (.int .u8 z3)).drew.drew.drew.drew) = .ok (.string ⟨((((W.set i y0).set (i + 1) y1).set (i + 2) y2).set (i + 3) y3).toArray⟩) (((((w2.setCell ⟨b, i, none⟩ (.int .u8 z0)).setCell ⟨b, i + 1, none⟩ (.int .u8 z1)).setCell ⟨b, i + 2, none⟩ (.int .u8 z2)).setCell ⟨b, i + 3, none⟩ (.int .u8 z3)).drew.drew.drew.drew) :=
  conv_row4 _ b W.length cap _ (by simp) (cells_set (by first | omega | (simp; omega)) h3 (cells_set (by first | omega | (simp; omega)) h2 (cells_set (by first | omega | (simp; omega)) h1 (cells_set (by first | omega | (simp; omega)) h0 hc))))
theorem set4 (p q : List UInt8) (x0 x1 x2 x3 y0 y1 y2 y3 : UInt8) : ((((p ++ x0 :: x1 :: x2 :: x3 :: q).set p.length y0).set (p.length + 1) y1).set (p.length + 2) y2).set (p.length + 3) y3 = p ++ [y0, y1, y2, y3] ++ q := by
  simp [List.set_append]
theorem four_parts (W : List UInt8) (i : Nat) (h : i + 4 ≤ W.length) : ∃ p x0 x1 x2 x3 q, W = p ++ x0 :: x1 :: x2 :: x3 :: q ∧ p.length = i := by
  have h4 : 4 ≤ (W.drop i).length := by simp; omega
  match hd : W.drop i, h4 with
  | x0 :: x1 :: x2 :: x3 :: q, _ => exact ⟨W.take i, x0, x1, x2, x3, q, by rw [← hd, List.take_append_drop], by simp; omega⟩
set_option maxRecDepth 100000 in
theorem eq_arr4 (a b c d a' b' c' d' : Int) (w : World) : (Op.equalIn 10000 34 (.agg #[.int .u8 a, .int .u8 b, .int .u8 c, .int .u8 d]) (.agg #[.int .u8 a', .int .u8 b', .int .u8 c', .int .u8 d'])).run Try.prog w = .ok (a == a' && (b == b' && (c == c' && d == d'))) w := by
  have u5 := Try.underlying5
  have a5 : ∀ w, (isAgg 5).run Try.prog w = .ok false w := fun w => by kernel_rfl
  have z5 : ∀ w, (sizeOf 5).run Try.prog w = .ok 1 w := fun w => by kernel_rfl
  rw [show (10000 : Nat) = 9999 + 1 from rfl, Op.equalIn]
  simp only [Sem.run_bind, run_underlying Try.underlying34, Result.andThen_ok]
  simp only [Std.Legacy.Range.forIn_eq_forIn_range', Std.Legacy.Range.size, Nat.sub_zero, Nat.add_sub_cancel, Nat.div_one, List.range'_succ, List.range'_zero, List.forIn_cons, List.forIn_nil]
  go_simp
  by_cases h1 : a = a' <;> by_cases h2 : b = b' <;> by_cases h3 : c = c' <;> by_cases h4 : d = d' <;> simp [h1, h2, h3, h4]
theorem xor_ofNat_zero (x : UInt8) (a : Nat) (ha : a < 256) (h : x ^^^ UInt8.ofNat a = x) : a = 0 := by
  have h2 := congrArg UInt8.toNat h
  rw [UInt8.toNat_xor, show (UInt8.ofNat a).toNat = a from by simp; omega] at h2
  have h3 : x.toNat ^^^ (x.toNat ^^^ a) = x.toNat ^^^ x.toNat := by rw [h2]
  rw [← Nat.xor_assoc, Nat.xor_self, Nat.zero_xor] at h3
  exact h3
theorem turned_case (l W V o1 : List UInt8) (o2 i a b c d : Nat) (ha : a < 256) (hb : b < 256) (hc : c < 256) (hd : d < 256) (hi : i + 4 ≤ W.length) (hW : sealL l = W)
    (hV : ((((W.set i (W[i] ^^^ UInt8.ofNat a)).set (i + 1) (W[i + 1] ^^^ UInt8.ofNat b)).set (i + 2) (W[i + 2] ^^^ UInt8.ofNat c)).set (i + 3) (W[i + 3] ^^^ UInt8.ofNat d)) = V)
    (hO : openL V = (o1, o2)) :
    (a = 0 ∧ b = 0 ∧ c = 0 ∧ d = 0 ∧ o1 = l ∧ o2 = 0) ∨ (((a : Int) == 0 && ((b : Int) == 0 && ((c : Int) == 0 && (d : Int) == 0))) = false ∧ o1 = [] ∧ o2 = 4) := by
  obtain ⟨p, x0, x1, x2, x3, q, hp, hpl⟩ := four_parts W i hi
  subst hpl
  have g0 : W[p.length] = x0 := by simp [hp]
  have g1 : W[p.length + 1] = x1 := by simp [hp]
  have g2 : W[p.length + 2] = x2 := by simp [hp]
  have g3 : W[p.length + 3] = x3 := by simp [hp]
  rw [g0, g1, g2, g3] at hV
  have hV2 : p ++ [x0 ^^^ UInt8.ofNat a, x1 ^^^ UInt8.ofNat b, x2 ^^^ UInt8.ofNat c, x3 ^^^ UInt8.ofNat d] ++ q = V := by rw [← hV, hp, set4]
  have hok : okSeal (p ++ [x0, x1, x2, x3] ++ q) := by
    have h := okSeal_seal l
    rw [hW, hp] at h
    simpa using h
  by_cases hz : a = 0 ∧ b = 0 ∧ c = 0 ∧ d = 0
  · obtain ⟨rfl, rfl, rfl, rfl⟩ := hz
    left
    have e : V = sealL l := by rw [← hV2, hW, hp]; simp
    rw [e, open_seal] at hO
    injection hO with h1 h2
    exact ⟨rfl, rfl, rfl, rfl, h1.symm, h2.symm⟩
  · right
    have hne : [x0, x1, x2, x3] ≠ [x0 ^^^ UInt8.ofNat a, x1 ^^^ UInt8.ofNat b, x2 ^^^ UInt8.ofNat c, x3 ^^^ UInt8.ofNat d] := by
      intro e
      simp only [List.cons.injEq, and_true] at e
      obtain ⟨e0, e1, e2, e3⟩ := e
      exact hz ⟨xor_ofNat_zero _ _ ha e0.symm, xor_ofNat_zero _ _ hb e1.symm, xor_ofNat_zero _ _ hc e2.symm, xor_ofNat_zero _ _ hd e3.symm⟩
    have hbad := turned_bad p q x0 x1 x2 x3 _ _ _ _ hok hne
    rw [hV2] at hbad
    have hl : ¬ V.length < 4 := by rw [← hV2]; simp; omega
    have h2 : openL V = ([], 4) := by unfold openL; rw [if_neg hl, if_neg hbad]
    rw [h2] at hO
    injection hO with h3 h4
    refine ⟨?_, h3.symm, h4.symm⟩
    rw [Bool.eq_false_iff]
    intro h
    simp at h
    exact hz (by omega)
set_option maxHeartbeats 3200000 in
set_option maxRecDepth 100000 in
theorem checkTurned_main (l : List UInt8) (hl : l.length ≤ 140737488351232) (i : Nat) (a b c d : Nat) (ha : a < 256) (hb : b < 256) (hc : c < 256) (hd : d < 256) (w : World) (hi : i + 4 ≤ (sealL l).length) :
    Calls Try.prog 7 #[.string ⟨l.toArray⟩, .int .i64 (i : Int), .agg #[.int .u8 (a : Int), .int .u8 (b : Int), .int .u8 (c : Int), .int .u8 (d : Int)]] w fun e w' => e = .returned (.bool true) ∧ Below w.heap.size w w' := by
  have hlen : (sealL l).length ≤ 140737488351236 := by unfold sealL; simp [four_length]; omega
  generalize hW : sealL l = W at *
  have HW := Lib.hid hW
  clear hW
  have h2 : ¬ ((W.length : Int) - 4 < i) := by omega
  go_enter Try.func7, Try.ntmps7
  go_wp2_with fail
  refine (seal_any l _ (by omega)).mono ?_
  rintro e w1 ⟨rfl, hb1⟩
  rw [HW.out]
  obtain ⟨hc1, hf1⟩ := bcell hb1
  have hz1 := hb1.size
  simp at hz1
  have lt1 : w.heap.size < w1.heap.size := by omega
  have cy0 : w1.cell? ⟨w.heap.size, 0, none⟩ = some (.int .u8 (a : Int)) := by rw [hc1 _ _ (by first | omega | (simp; done) | (simp; omega))]; go_simp
  have cy1 : w1.cell? ⟨w.heap.size, 1, none⟩ = some (.int .u8 (b : Int)) := by rw [hc1 _ _ (by first | omega | (simp; done) | (simp; omega))]; go_simp
  have cy2 : w1.cell? ⟨w.heap.size, 2, none⟩ = some (.int .u8 (c : Int)) := by rw [hc1 _ _ (by first | omega | (simp; done) | (simp; omega))]; go_simp
  have cy3 : w1.cell? ⟨w.heap.size, 3, none⟩ = some (.int .u8 (d : Int)) := by rw [hc1 _ _ (by first | omega | (simp; done) | (simp; omega))]; go_simp
  have hcv := run_bytes_of_string (P := Try.prog) w1 9 35 5 ⟨W.toArray⟩ Try.underlying9 Try.underlying35 Try.underlying5
  generalize grownCap w1 _ 0 5 = cap at hcv
  generalize hw2 : w1.drew.alloc _ = w2 at hcv
  obtain ⟨hs2, hc2, hf2, hb2⟩ := bytes_cells _ _ W cap _ hw2
  clear hw2
  obtain ⟨hd2, he2⟩ := bcell hb2
  have cz0 : w2.cell? ⟨w.heap.size, 0, none⟩ = some (.int .u8 (a : Int)) := by rw [hd2 _ _ lt1, cy0]
  have cz1 : w2.cell? ⟨w.heap.size, 1, none⟩ = some (.int .u8 (b : Int)) := by rw [hd2 _ _ lt1, cy1]
  have cz2 : w2.cell? ⟨w.heap.size, 2, none⟩ = some (.int .u8 (c : Int)) := by rw [hd2 _ _ lt1, cy2]
  have cz3 : w2.cell? ⟨w.heap.size, 3, none⟩ = some (.int .u8 (d : Int)) := by rw [hd2 _ _ lt1, cy3]
  have cx0 := hc2 (i + 0) (by omega)
  have fx0 := hf2 (i + 0) (by omega)
  have cx1 := hc2 (i + 1) (by omega)
  have fx1 := hf2 (i + 1) (by omega)
  have cx2 := hc2 (i + 2) (by omega)
  have fx2 := hf2 (i + 2) (by omega)
  have cx3 := hc2 (i + 3) (by omega)
  have fx3 := hf2 (i + 3) (by omega)
  clear hc1 hf1 hd2 he2
  simp only [Nat.add_zero] at cx0 fx0
  have hx0 : bits .xor .u8 ((W[i].toNat : Nat) : Int) (a : Int) = (((W[i] ^^^ UInt8.ofNat a).toNat : Nat) : Int) := by
    rw [u8_xor_nat _ _ (UInt8.toNat_lt _) ha, UInt8.toNat_xor, show (UInt8.ofNat a).toNat = a from by simp; omega]
  have hx1 : bits .xor .u8 ((W[i + 1].toNat : Nat) : Int) (b : Int) = (((W[i + 1] ^^^ UInt8.ofNat b).toNat : Nat) : Int) := by
    rw [u8_xor_nat _ _ (UInt8.toNat_lt _) hb, UInt8.toNat_xor, show (UInt8.ofNat b).toNat = b from by simp; omega]
  have hx2 : bits .xor .u8 ((W[i + 2].toNat : Nat) : Int) (c : Int) = (((W[i + 2] ^^^ UInt8.ofNat c).toNat : Nat) : Int) := by
    rw [u8_xor_nat _ _ (UInt8.toNat_lt _) hc, UInt8.toNat_xor, show (UInt8.ofNat c).toNat = c from by simp; omega]
  have hx3 : bits .xor .u8 ((W[i + 3].toNat : Nat) : Int) (d : Int) = (((W[i + 3] ^^^ UInt8.ofNat d).toNat : Nat) : Int) := by
    rw [u8_xor_nat _ _ (UInt8.toNat_lt _) hd, UInt8.toNat_xor, show (UInt8.ofNat d).toNat = d from by simp; omega]
  have hback := back4 w2 w1.heap.size i cap W _ _ _ _ _ _ _ _ hi hx0 hx1 hx2 hx3 hc2
  obtain ⟨V, hV⟩ : ∃ V, ((((W.set i (W[i] ^^^ UInt8.ofNat a)).set (i + 1) (W[i + 1] ^^^ UInt8.ofNat b)).set (i + 2) (W[i + 2] ^^^ UInt8.ofNat c)).set (i + 3) (W[i + 3] ^^^ UInt8.ofNat d)) = V := ⟨_, rfl⟩
  rw [hV] at hback
  have hVl : V.length ≤ 281474976710656 := by rw [← hV]; simp; omega
  obtain ⟨o1, o2, ho⟩ : ∃ o1 o2, openL V = (o1, o2) := ⟨_, _, rfl⟩
  have HO := Lib.hid ho
  clear ho
  have HV := Lib.hid hV
  clear hx0 hx1 hx2 hx3 hV
  have HC2 := Lib.hid hc2
  have HF2 := Lib.hid hf2
  clear hc2 hf2
  go_wp2_with fail
  refine wp_loop_rounds 5 ?_
  rw [rounds_succ]
  go_wp2_with fail
  go_region
  go_wp2_with fail
  rw [rounds_succ]
  go_wp2_with fail
  go_region
  go_wp2_with fail
  rw [rounds_succ]
  go_wp2_with fail
  go_region
  go_wp2_with fail
  rw [rounds_succ]
  go_wp2_with fail
  go_region
  go_wp2_with fail
  rw [rounds_succ]
  go_wp2_with fail
  refine (open_any V _ hVl).mono ?_
  rintro e w3 ⟨rfl, hb3⟩
  rw [HO.out]
  obtain ⟨hc3, hf3⟩ := bcell hb3
  have cw0 : w3.cell? ⟨w.heap.size, 0, none⟩ = some (.int .u8 (a : Int)) := by rw [hc3 _ _ (by first | omega | (simp; done) | (simp; omega))]; go_simp
  have cw1 : w3.cell? ⟨w.heap.size, 1, none⟩ = some (.int .u8 (b : Int)) := by rw [hc3 _ _ (by first | omega | (simp; done) | (simp; omega))]; go_simp
  have cw2 : w3.cell? ⟨w.heap.size, 2, none⟩ = some (.int .u8 (c : Int)) := by rw [hc3 _ _ (by first | omega | (simp; done) | (simp; omega))]; go_simp
  have cw3 : w3.cell? ⟨w.heap.size, 3, none⟩ = some (.int .u8 (d : Int)) := by rw [hc3 _ _ (by first | omega | (simp; done) | (simp; omega))]; go_simp
  clear hc3 hf3
  have heq := fun w => eq_arr4 (a : Int) (b : Int) (c : Int) (d : Int) 0 0 0 0 w
  have hW := HW.out
  have hV := HV.out
  have hO := HO.out
  have hcase : (a = 0 ∧ b = 0 ∧ c = 0 ∧ d = 0 ∧ o1 = l ∧ o2 = 0) ∨ (((a : Int) == 0 && ((b : Int) == 0 && ((c : Int) == 0 && (d : Int) == 0))) = false ∧ o1 = [] ∧ o2 = 4) := turned_case l W V o1 o2 i a b c d ha hb hc hd hi hW hV hO
  clear hW hV hO
  rcases hcase with ⟨rfl, rfl, rfl, rfl, rfl, rfl⟩ | ⟨hne, rfl, rfl⟩
  · clear heq
    have heq := fun w => eq_arr4 0 0 0 0 0 0 0 0 w
    simp at heq
    go_wp2_with fail
    refine (awake02 _).mono ?_
    rintro e w4 ⟨rfl, rfl⟩
    go_wp2
    go_ret
    refine ⟨rfl, ?_⟩
    have hz2 := hb2.size
    refine bt ?_ hb3
    have hbw : Below w.heap.size w w2 := bt (bt (bal (b0 w) _) hb1) hb2
    repeat (first | exact hbw | refine Below.drew ?_ | refine bst ?_ ?_ _ | (simp; omega))
  · have HN := Lib.hid hne
    rw [hne] at heq
    clear hne
    go_wp2_with fail
    refine (awake02 _).mono ?_
    rintro e w4 ⟨rfl, rfl⟩
    go_wp2
    go_ret
    refine ⟨rfl, ?_⟩
    have hz2 := hb2.size
    refine bt ?_ hb3
    have hbw : Below w.heap.size w w2 := bt (bt (bal (b0 w) _) hb1) hb2
    repeat (first | exact hbw | refine Below.drew ?_ | refine bst ?_ ?_ _ | (simp; omega))
set_option maxHeartbeats 1600000 in
set_option maxRecDepth 100000 in
theorem checkTurned_walk (l : List UInt8) (hl : l.length ≤ 140737488351232) (j : Int) (_hj : (Lit.int .i64 j).wf = true) (a b c d : Int) (ha : (Lit.int .u8 a).wf = true) (hb : (Lit.int .u8 b).wf = true) (hc : (Lit.int .u8 c).wf = true) (hd : (Lit.int .u8 d).wf = true) (w : World) :
    Calls Try.prog 7 #[.string ⟨l.toArray⟩, .int .i64 j, .agg #[.int .u8 a, .int .u8 b, .int .u8 c, .int .u8 d]] w fun e w' => e = .returned (.bool true) ∧ Below w.heap.size w w' := by
  obtain ⟨ha1, ha2⟩ := bounds_u8 ha
  obtain ⟨hb1, hb2⟩ := bounds_u8 hb
  obtain ⟨hc1, hc2⟩ := bounds_u8 hc
  obtain ⟨hd1, hd2⟩ := bounds_u8 hd
  have hlen : (sealL l).length = l.length + 4 := by unfold sealL; simp [four_length]
  by_cases hin : 0 ≤ j ∧ j + 4 ≤ (sealL l).length
  · obtain ⟨i, rfl⟩ := Int.eq_ofNat_of_zero_le hin.1
    obtain ⟨a, rfl⟩ := Int.eq_ofNat_of_zero_le ha1
    obtain ⟨b, rfl⟩ := Int.eq_ofNat_of_zero_le hb1
    obtain ⟨c, rfl⟩ := Int.eq_ofNat_of_zero_le hc1
    obtain ⟨d, rfl⟩ := Int.eq_ofNat_of_zero_le hd1
    exact checkTurned_main l hl i a b c d (by omega) (by omega) (by omega) (by omega) w (by omega)
  · generalize hW : sealL l = W at *
    have HW := Lib.hid hW
    have HL := Lib.hid hlen
    have hlw : W.length ≤ 140737488351236 := by omega
    clear hW hlen
    clear ha hb hc hd
    have hcase : j < 0 ∨ (0 ≤ j ∧ (W.length : Int) - 4 < j) := by omega
    clear hin
    rcases hcase with h | ⟨h0, h⟩
    all_goals
      go_enter Try.func7, Try.ntmps7
      go_wp2_with fail
      refine (seal_any l _ (by omega)).mono ?_
      rintro e w1 ⟨rfl, hb1⟩
      rw [HW.out]
      have hcv := run_bytes_of_string (P := Try.prog) w1 9 35 5 ⟨W.toArray⟩ Try.underlying9 Try.underlying35 Try.underlying5
      generalize grownCap w1 _ 0 5 = cap at hcv
      generalize hw2 : w1.drew.alloc _ = w2 at hcv
      obtain ⟨hs2, hc2, hf2, hb2⟩ := bytes_cells _ _ W cap _ hw2
      clear hw2 hc2 hf2
      go_wp2_with fail
      refine (awake02 _).mono ?_
      rintro e w4 ⟨rfl, rfl⟩
      go_wp2
      go_ret
      exact ⟨rfl, bt (bt (bal (b0 w) _) hb1) hb2⟩
end Go.Proofs.Ytpkgofgpdnlnhaa
