/- The walk of the document's Read of stamps' words. -/
import Derived.Test.YtkhamjghanjikaaDoorRead6W
import Derived.Test.YtkhamjghanjikaaDoorOwn
namespace Go.Proofs.YtkhamjghanjikaaDoor
open Go.RowKit
attribute [local go_sem] ByteArray.mk_append_mk ByteArray.extract_mk
attribute [local go_sem ↓] Go.wp_at_zero Go.wp_at_succ
theorem infoI5 : (Tryd.prog.info? 3).map (fun i => (i.zero, i.size, i.bytes)) = some (some (.int .i64 0), 1, 8) := by kernel_rfl
def refReadV (l : List UInt8) : Value := match readW l with
  | some (a, b, c) => .tuple #[stampV a b c, .bool true]
  | none => .tuple #[stampV 0 0 0, .bool false]
theorem refReadV_none {l : List UInt8} (h : readW l = none) : refReadV l = .tuple #[stampV 0 0 0, .bool false] := by unfold refReadV; rw [h]
theorem refReadV_some {l : List UInt8} {a b c : Int} (h : readW l = some (a, b, c)) : refReadV l = .tuple #[stampV a b c, .bool true] := by unfold refReadV; rw [h]
theorem own_slice5 {W : World} {base s n : Nat} {e : TypeId} {v : Value} {xs : List Value} (h : W.ownsRow base e s v n xs) : ∃ A cap, v = .slice A n cap := by
  rcases h.2 with ⟨hv, hn⟩ | ⟨g, cap, cur, hv, _⟩
  · exact ⟨none, 0, by rw [hv, hn]⟩
  · exact ⟨_, _, hv⟩
def nv (p : List UInt8) : Value := .int .i64 (numL p)
def Cuts (l : List UInt8) (done : List (List UInt8)) (f k : Nat) : Prop :=
  (k ≤ l.length ∧ f ≤ k ∧ splitL l = done ++ consF ((l.drop f).take (k - f)) (splitL (l.drop k))) ∨ (k = l.length + 1 ∧ splitL l = done)
def RwRel5 (l : List UInt8) (w : World) (v4 v5 v6 : Value) (wr : World) : Prop :=
  ∃ (k f : Nat) (done : List (List UInt8)), v5 = .int .i64 f ∧ v6 = .int .i64 k ∧ k ≤ l.length + 1 ∧ done.length ≤ k ∧ f ≤ l.length + 1 ∧ Cuts l done f k ∧
    wr.ownsRow (w.heap.size + 1) 3 1 v4 done.length (done.map nv) ∧ Blk wr w.heap.size 23 #[.int .i64 0, .int .i64 0, .int .i64 0] ∧ Below w.heap.size w wr
def OutCut (wr : World) (T : TypeId) (cu : Array Value) (s7 : Value) (wx : World) : Prop := ∃ g, s7 = .pointer (some ⟨g, 0, none⟩) ∧ wr.heap.size ≤ g ∧ Blk wx g T cu ∧ Below wr.heap.size wr wx
theorem blk_put3 {w : World} {g : Nat} {t : TypeId} {c0 c1 c2 : Value} (h : Blk w g t #[c0, c1, c2]) (a b c : Value) : Blk (((w.setCell ⟨g, 0, none⟩ a).setCell ⟨g, 1, none⟩ b).setCell ⟨g, 2, none⟩ c) g t #[a, b, c] := by
  have h := ((h.set 0 a).set 1 b).set 2 c
  simpa using h
theorem cuts_start (l : List UInt8) : Cuts l [] 0 0 := .inl ⟨Nat.zero_le _, Nat.le_refl _, by simp [consF_nil (split_ne l)]⟩
theorem cuts_dot {l : List UInt8} {done : List (List UInt8)} {f k : Nat} (h : Cuts l done f k) (hk : k < l.length) (hd : (l[k]).toNat = 46) : Cuts l (done ++ [(l.drop f).take (k - f)]) (k + 1) (k + 1) := by
  have e : l[k] = 46 := by rw [← UInt8.toNat_inj]; exact hd
  rcases h with ⟨_, hf, hs⟩ | ⟨h1, _⟩
  · refine .inl ⟨hk, Nat.le_refl _, ?_⟩
    rw [hs, List.drop_eq_getElem_cons hk, e]
    show done ++ consF _ ([] :: splitL (l.drop (k + 1))) = _
    rw [Nat.sub_self, List.take_zero, consF_nil (split_ne _), List.append_assoc]
    simp [consF]
  · omega
theorem cuts_char {l : List UInt8} {done : List (List UInt8)} {f k : Nat} (h : Cuts l done f k) (hk : k < l.length) (hd : (l[k]).toNat ≠ 46) : Cuts l done f (k + 1) := by
  have e : l[k] ≠ 46 := fun e => hd (by rw [e]; rfl)
  rcases h with ⟨_, hf, hs⟩ | ⟨h1, _⟩
  · refine .inl ⟨hk, by omega, ?_⟩
    have h2 : splitL (l.drop k) = consF [l[k]] (splitL (l.drop (k + 1))) := by
      rw [List.drop_eq_getElem_cons hk]
      exact split_pre [l[k]] _ (by simpa using e)
    have h3 : (l.drop f).take (k + 1 - f) = (l.drop f).take (k - f) ++ [l[k]] := by
      rw [show k + 1 - f = (k - f) + 1 by omega, List.take_succ_eq_append_getElem (by rw [List.length_drop]; omega)]
      congr 2
      rw [List.getElem_drop]
      congr 1
      omega
    rw [hs, h2, h3]
    have hn := split_ne (l.drop (k + 1))
    match hm : splitL (l.drop (k + 1)), hn with
    | q :: qs, _ => simp [consF]
  · omega
theorem cuts_end {l : List UInt8} {done : List (List UInt8)} {f : Nat} (h : Cuts l done f l.length) : splitL l = done ++ [(l.drop f).take (l.length - f)] := by
  rcases h with ⟨_, hf, hs⟩ | ⟨h1, _⟩
  · rw [hs, List.drop_length]
    simp [splitL, consF]
  · omega
theorem cuts_le {l : List UInt8} {done : List (List UInt8)} {f k : Nat} (h : Cuts l done f k) (hk : k ≤ l.length) : f ≤ k := by
  rcases h with ⟨_, hf, _⟩ | ⟨h1, _⟩ <;> omega
set_option maxHeartbeats 3200000 in
set_option maxRecDepth 100000 in
theorem refread5_any (l : List UInt8) (hl : l.length ≤ 1099511627776) (w : World) :
    Calls Tryd.prog 14 #[.string ⟨l.toArray⟩] w fun e w' => e = .returned (refReadV l) ∧ Below w.heap.size w w' := by
  obtain ⟨i0, hi, hz0, hz1, hz2⟩ := info_parts infoI5
  go_enter Tryd.func14, Tryd.ntmps14
  go_wp2
  go_loopw [4, 5, 6] (fun v4 v5 v6 wr => RwRel5 l w v4 v5 v6 wr) (fun _ _ v6 _ => l.length + 1 - (intOf v6).toNat)
  case atStart => exact ⟨0, 0, [], rfl, rfl, Nat.zero_le _, Nat.le_refl _, Nat.zero_le _, cuts_start l, World.ownsRow_nil _ _ _ _, Blk.new w _ _, bal (b0 w) _⟩
  case round =>
    obtain ⟨k, f, done, rfl, rfl, hk, hdk, hf, hcut, hown, hR, hb⟩ := hrel
    have HC := Lib.hid hcut
    clear hcut
    have hbs := hb.size
    have hRl := hR.lt
    have k0 : (0 : Int) ≤ (k : Int) := by omega
    have f0 : (0 : Int) ≤ (f : Int) := by omega
    by_cases hle : k ≤ l.length
    case pos =>
      have hfk := cuts_le HC.out hle
      have gle : ((k : Int) ≤ l.length) := by omega
      have hsl : ∀ w, (Instr.slice 9 (.string ⟨l.toArray⟩) (some (.int .i64 f)) (some (.int .i64 k)) none).run Tryd.prog w = .ok (.string ⟨((l.drop f).take (k - f)).toArray⟩) w := fun w =>
        run_mid (P := Tryd.prog) w Tryd.underlying9 l (f : Int) (k : Int) f k rfl rfl hfk hle
      have hpl : ((l.drop f).take (k - f)).length ≤ l.length := by rw [List.length_take, List.length_drop]; omega
      by_cases hlt : k < l.length
      case pos =>
        have hat := fun w => run_at (P := Tryd.prog) w Tryd.underlying9 l (k : Int) k (l[k]).toNat rfl hlt (by rw [List.getElem?_eq_getElem hlt]; rfl)
        have e1 : ((k : Int) == (l.length : Int)) = false := by rw [beq_eq_false_iff_ne]; omega
        have e2 : ¬ ((k : Int) = (l.length : Int)) := by omega
        by_cases hdot : (l[k]).toNat = 46
        case pos =>
          have hn := Lib.hid (cuts_dot HC.out hlt hdot)
          rw [hdot] at hat
          obtain ⟨p, hp⟩ : ∃ p, (l.drop f).take (k - f) = p := ⟨_, rfl⟩
          have HN : Hid (Cuts l (done ++ [p]) (k + 1) (k + 1)) := Lib.hid (by rw [← hp]; exact hn.out)
          rw [hp] at hsl hpl
          clear hn hdot hp
          go_wp2_with fail
          refine (number_any p (by omega) _).mono ?_
          rintro e w1 ⟨rfl, hw1⟩
          subst hw1
          go_wp2_with (at_builtin; refine wpList_push (by rfl) _ _ _ (by rfl) (w.heap.size + 1) 3 i0 (.int .i64 0) 8 Tryd.underlying52 hi hz0 hz1 hz2 rfl w1 _ done.length (done.map nv) (by rfl) hown (nv p) rfl 1 (by rfl) (by omega) (by omega) (by omega) ?_; intro g cap w2 hown2 hb2)
          go_roundw
          case rel => exact ⟨k + 1, k + 1, done ++ [p], by go_num, by go_num, by omega, by simp; omega, by omega, HN.out, by rw [List.map_append, List.length_append]; exact hown2, hR.below hb2 (Nat.lt_succ_self _), hb.trans (hb2.mono (Nat.le_succ _))⟩
          case measure => simp [intOf]; omega
        case neg =>
          have HN := Lib.hid (cuts_char HC.out hlt hdot)
          obtain ⟨b, hbb⟩ : ∃ b, (l[k]).toNat = b := ⟨_, rfl⟩
          rw [hbb] at hat hdot
          have hne : ((b : Int) == 46) = false := by rw [beq_eq_false_iff_ne]; omega
          clear hdot hbb hsl
          go_wp2
          go_roundw
          case rel => exact ⟨k + 1, f, done, rfl, by go_num, by omega, by omega, hf, HN.out, hown, hR, hb⟩
          case measure => simp [intOf]; omega
      case neg =>
        have hke : k = l.length := by omega
        subst hke
        have hn := Lib.hid (cuts_end HC.out)
        have e1 : ((l.length : Int) == (l.length : Int)) = true := by simp
        obtain ⟨p, hp⟩ : ∃ p, (l.drop f).take (l.length - f) = p := ⟨_, rfl⟩
        have HN : Hid (splitL l = done ++ [p]) := Lib.hid (by rw [← hp]; exact hn.out)
        rw [hp] at hsl hpl
        clear hn hp
        go_wp2_with fail
        refine (number_any p (by omega) _).mono ?_
        rintro e w1 ⟨rfl, hw1⟩
        subst hw1
        go_wp2_with (at_builtin; refine wpList_push (by rfl) _ _ _ (by rfl) (w.heap.size + 1) 3 i0 (.int .i64 0) 8 Tryd.underlying52 hi hz0 hz1 hz2 rfl w1 _ done.length (done.map nv) (by rfl) hown (nv p) rfl 1 (by rfl) (by omega) (by omega) (by omega) ?_; intro g cap w2 hown2 hb2)
        go_roundw
        case rel => exact ⟨l.length + 1, l.length + 1, done ++ [p], by go_num, by go_num, by omega, by simp; omega, by omega, .inr ⟨rfl, HN.out⟩, by rw [List.map_append, List.length_append]; exact hown2, hR.below hb2 (Nat.lt_succ_self _), hb.trans (hb2.mono (Nat.le_succ _))⟩
        case measure => (simp [intOf]) <;> omega
    case neg =>
      have gle : ¬ ((k : Int) ≤ l.length) := by omega
      have hsd : splitL l = done := by
        rcases HC.out with ⟨h1, _⟩ | ⟨_, h2⟩
        · omega
        · exact h2
      obtain ⟨lR, x0, x1, x2, y0, y1, y2⟩ := hR.c3
      by_cases h3 : ∃ p q r, splitL l = [p, q, r]
      case neg =>
        have hr : refReadV l = .tuple #[stampV 0 0 0, .bool false] := refReadV_none (read_short l fun p q r hs => h3 ⟨p, q, r, hs⟩)
        have HR := Lib.hid hr
        have hn : done.length ≠ 3 := by
          intro hn
          match hs : done, hn with
          | [p, q, r], _ => exact h3 ⟨p, q, r, hsd⟩
        have n3 : (((done.length : Nat) : Int) != 3) = true := by simp; omega
        have n4 : ¬ ((done.length : Int) = 3) := by omega
        obtain ⟨A, cap, hA⟩ := own_slice5 hown
        subst hA
        clear hr h3 hsd hn
        go_wp2
        refine bodyPost_ret (v := .tuple #[stampV 0 0 0, .bool false]) (by simp [results, Tryd.results14, go_sem, *]) rfl ⟨by rw [HR.out] <;> rfl, bst (bst (bst hb (Nat.le_refl _) _) (Nat.le_refl _) _) (Nat.le_refl _) _⟩
      case pos =>
        obtain ⟨p, q, r, hs⟩ := h3
        have hd3 : done = [p, q, r] := hsd.symm.trans hs
        subst hd3
        have hrw : readW l = if rightI (numL p) (numL q) (numL r) = true then some (numL p, numL q, numL r) else none := by unfold readW; rw [hs]
        obtain ⟨a, ha⟩ : ∃ a, numL p = a := ⟨_, rfl⟩
        obtain ⟨b, hb'⟩ : ∃ a, numL q = a := ⟨_, rfl⟩
        obtain ⟨c, hc⟩ : ∃ a, numL r = a := ⟨_, rfl⟩
        rw [ha, hb', hc, right_same] at hrw
        have HRW := Lib.hid hrw
        obtain ⟨g, cap, hv, hgl, hgr⟩ := hown.form (by simp)
        have d0 := hown.cells (g := g) (by rw [hv]; rfl) 0 (.int .i64 a) (by simp [nv, ha])
        have d1 := hown.cells (g := g) (by rw [hv]; rfl) 1 (.int .i64 b) (by simp [nv, hb'])
        have d2 := hown.cells (g := g) (by rw [hv]; rfl) 2 (.int .i64 c) (by simp [nv, hc])
        have e0 : wr.cell? ⟨g, 0, none⟩ = some (.int .i64 a) := d0
        have e1 : wr.cell? ⟨g, 1, none⟩ = some (.int .i64 b) := d1
        have e2 : wr.cell? ⟨g, 2, none⟩ = some (.int .i64 c) := d2
        subst hv
        clear d0 d1 d2 hown hrw hs hsd ha hb' hc
        go_upto_region 11 with (fail)
        go_cut [7] (fun s7 wx => OutCut wr 23 #[.int .i64 a, .int .i64 b, .int .i64 c] s7 wx)
        case first =>
          go_region_with (fail)
          all_goals
            go_wp2_with fail
            go_meet
            case rel => exact ⟨_, rfl, by (first | exact Nat.le_refl _ | (simp; done) | (simp; omega)), by (first | exact Blk.new _ _ _ | exact Blk.new' _ _ _ _ (by simp) | exact blk_put3 (c0 := .int .i64 0) (c1 := .int .i64 0) (c2 := .int .i64 0) (Blk.new _ _ _) _ _ _), by (repeat (first | with_reducible exact b0 _ | with_reducible assumption | with_reducible refine Below.drew ?_ | with_reducible refine below_drewN ?_ _ | with_reducible refine bal ?_ _ | ((with_reducible refine bst ?_ ?_ _); rotate_left; focus (first | exact Nat.le_refl _ | assumption | (simp; done) | (simp; omega) | omega))))⟩
        case rest =>
          obtain ⟨g7, rfl, hg7, G7, hbx⟩ := hcut
          have hR2 := hR.keep hbx
          have hB2 := bt hb hbx
          clear lR x0 x1 x2 y0 y1 y2 e0 e1 e2
          obtain ⟨lO, u0, u1, u2, v0, v1, v2⟩ := G7.c3
          go_wp2_with fail
          refine (refright_any a b c _).mono ?_
          rintro e w3 ⟨rfl, hb3⟩
          clear lO u0 u1 u2 v0 v1 v2
          obtain ⟨lO, u0, u1, u2, v0, v1, v2⟩ := (G7.keep hb3).c3
          obtain ⟨lR, x0, x1, x2, y0, y1, y2⟩ := (hR2.keep hb3).c3
          have hB3 := bt hB2 hb3
          cases hq : rightB a b c with
          | false =>
            have hr : refReadV l = .tuple #[stampV 0 0 0, .bool false] := refReadV_none (by rw [HRW.out, hq, if_neg (by simp)])
            have HR := Lib.hid hr
            clear hr
            go_wp2
            refine bodyPost_ret (v := .tuple #[stampV 0 0 0, .bool false]) (by simp [results, Tryd.results14, go_sem, *]) rfl ⟨by rw [HR.out] <;> rfl, bst (bst (bst hB3 (Nat.le_refl _) _) (Nat.le_refl _) _) (Nat.le_refl _) _⟩
          | true =>
            have hr : refReadV l = .tuple #[stampV a b c, .bool true] := refReadV_some (by rw [HRW.out, hq, if_pos rfl])
            have HR := Lib.hid hr
            clear hr
            go_wp2
            refine bodyPost_ret (v := .tuple #[stampV a b c, .bool true]) (by simp [results, Tryd.results14, go_sem, *]) rfl ⟨by rw [HR.out] <;> rfl, bst (bst (bst hB3 (Nat.le_refl _) _) (Nat.le_refl _) _) (Nat.le_refl _) _⟩
end Go.Proofs.YtkhamjghanjikaaDoor
