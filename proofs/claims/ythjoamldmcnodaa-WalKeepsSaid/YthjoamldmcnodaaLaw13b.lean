/- The walks of the laws of the log: WalAgain, WalRenews. -/
import Derived.Test.YthjoamldmcnodaaLaw13
import Derived.Test.YthjoamldmcnodaaLaw03b
namespace Go.Proofs.Ythjoamldmcnodaa
open Go.RowKit
attribute [local go_sem] ByteArray.mk_append_mk ByteArray.extract_mk
attribute [local go_sem ↓] Go.wp_at_zero Go.wp_at_succ
theorem own_eq {w w' : World} {base s n : Nat} {e : TypeId} {v : Value} {xs : List Value} (h : w' = w) (o : w.ownsRow base e s v n xs) : w'.ownsRow base e s v n xs := by rw [h]; exact o
theorem wraps_all (ls : List (List UInt8)) : (wrapsL ls).length ≤ sumLen ls + 13 * ls.length := by
  induction ls with
  | nil => simp [wrapsL]
  | cons b ls ih =>
    have h := wrapL_le b
    unfold wrapsL sumLen at *
    simp only [List.flatMap_cons, List.length_append, List.length_cons]
    simp at ih ⊢
    omega
theorem wraps_take_len (ls : List (List UInt8)) (k : Nat) : (wrapsL (ls.take k)).length ≤ (wrapsL ls).length := by
  have h : wrapsL ls = wrapsL (ls.take k) ++ wrapsL (ls.drop k) := by rw [← wraps_append, List.take_append_drop]
  rw [h, List.length_append]
  omega
theorem mem_sum (ls : List (List UInt8)) (b : List UInt8) (h : b ∈ ls) : b.length ≤ sumLen ls := by
  induction ls with
  | nil => cases h
  | cons a ls ih =>
    unfold sumLen at *
    rcases List.mem_cons.1 h with h | h
    · subst h; simp
    · have := ih h; simp at this ⊢; omega
theorem wraps_snoc_len (ls : List (List UInt8)) (k : Nat) (h : k < ls.length) : (wrapsL (ls.take k)).length + (wrapL ls[k]).length ≤ (wrapsL ls).length := by
  have h1 := wraps_take_len ls (k + 1)
  rw [List.take_succ_eq_append_getElem h, wraps_append, wraps_one, List.length_append] at h1
  exact h1
abbrev firmA (l : List UInt8) : Array Value := #[.string ⟨l.toArray⟩, .string ⟨#[]⟩, .int .i64 0, .bool false, .bool false]
def PutsRel (ls : List (List UInt8)) (w : World) (i : Value) (wr : World) : Prop :=
  ∃ k : Nat, i = .int .i64 k ∧ k ≤ ls.length ∧ Blk wr w.heap.size 26 (firmA (wrapsL (ls.take k))) ∧ Below w.heap.size w wr
theorem small_parts (ls : List (List UInt8)) (h : smallL ls 20 2000 = true) : ls.length ≤ 20 ∧ (wrapsL ls).length ≤ 2260 ∧ ∀ b ∈ ls, b.length ≤ 2000 := by
  unfold smallL at h
  simp at h
  have h1 := wraps_all ls
  refine ⟨h.1, by omega, fun b hb => ?_⟩
  have := mem_sum ls b hb
  omega
set_option maxHeartbeats 3200000 in
set_option maxRecDepth 100000 in
theorem walAgain_walk (ls : List (List UInt8)) (A : Option Addr) (n cap : Nat) (hn : ls.length = n) (hmax : n ≤ 9223372036854775807) (_hcap : n ≤ cap) (hz : ∀ l ∈ ls, l.length ≤ 9223372036854775807) (w : World) (hR : Rd w w.heap.size 1 A n (ls.map strL)) :
    Calls Try.prog 3 #[.slice A n cap] w fun e w' => e = .returned (.bool true) ∧ Below w.heap.size w w' := by
  subst hn
  obtain ⟨q, hq⟩ : ∃ q, smallL ls 20 2000 = q := ⟨_, rfl⟩
  have HQ := Lib.hid hq
  clear hq
  cases q
  case false =>
    go_enter Try.func3, Try.ntmps3
    have hB0 : Below w.heap.size w w := b0 w
    go_wp2_with fail
    refine (smalls_any ls A ls.length cap 20 2000 _ rfl hmax (by omega) (by omega) hz hR).mono ?_
    rintro e w0 ⟨rfl, rfl⟩
    rw [HQ.out]
    go_wp2_with fail
    refine (awake13 _).mono ?_
    rintro e w1 ⟨rfl, hb1⟩
    go_wp2
    go_ret
    exact ⟨rfl, bt (by (repeat (first | with_reducible exact b0 _ | with_reducible assumption | with_reducible refine Below.drew ?_ | with_reducible refine below_drewN ?_ _ | with_reducible refine bal ?_ _ | ((with_reducible refine bst ?_ ?_ _); rotate_left; focus (first | exact Nat.le_refl _ | assumption | (simp; done) | (simp; omega) | omega)) | exact below_left (by with_reducible assumption)))) hb1⟩
  case true =>
    obtain ⟨hl20, hws, hb2⟩ := small_parts ls HQ.out
    go_enter Try.func3, Try.ntmps3
    have hB0 : Below w.heap.size w w := b0 w
    go_wp2_with fail
    refine (smalls_any ls A ls.length cap 20 2000 _ rfl hmax (by omega) (by omega) hz hR).mono ?_
    rintro e w0 ⟨rfl, rfl⟩
    rw [HQ.out]
    go_wp2
    go_loopw [22] (fun i wr => PutsRel ls w i wr) (fun i _ => ls.length - (intOf i).toNat)
    case atStart =>
      exact ⟨0, rfl, Nat.zero_le _, Blk.new w _ _, bal (b0 w) _⟩
    case round =>
      obtain ⟨k, rfl, hk, hB, hb⟩ := hrel
      have hbs := hb.size
      have i0 : (0 : Int) ≤ (k : Int) := by omega
      by_cases hlt : k < ls.length
      case pos =>
        obtain ⟨b, off, rfl, hbB, hc⟩ := hR.2 (by omega)
        have g0 := hc k (strL ls[k]) (by simp [hlt])
        have c0 := (hb.cell (p := ⟨b, _, none⟩) hbB).trans g0
        have hsl := wraps_snoc_len ls k hlt
        have htk : ls.take (k + 1) = ls.take k ++ [ls[k]] := List.take_succ_eq_append_getElem hlt
        have hxl := hb2 ls[k] (List.getElem_mem hlt)
        have i1 : (k : Int) < (ls.length : Int) := by omega
        obtain ⟨x, hx⟩ : ∃ x, ls[k] = x := ⟨_, rfl⟩
        rw [hx] at c0 hsl htk hxl
        have hput := putW_free (ls.take k) x (by omega)
        rw [← htk] at hput
        have htl := wraps_take_len ls k
        obtain ⟨t0, ht0⟩ : ∃ y, wrapsL (ls.take k) = y := ⟨_, rfl⟩
        obtain ⟨t1, ht1⟩ : ∃ y, wrapsL (ls.take (k + 1)) = y := ⟨_, rfl⟩
        rw [ht0] at hput hB hsl htl
        rw [ht1] at hput
        have HP := Lib.hid hput
        have HT1 := Lib.hid ht1
        clear hput ht0 ht1 htk hx g0 hc
        have Gt0 := hB
        have hB0 := hb
        obtain ⟨tl, tc0, tc1, tc2, tc3, tc4, tf0, tf1, tf2, tf3, tf4⟩ := Gt0.c5
        go_wp2_with fail
        refine (walput_any t0 [] 0 false false (by omega) (by simp) x (by omega) _).mono ?_
        rintro e w1 ⟨rfl, hb1⟩
        rw [HP.out]
        simp only [tapeV]
        have Gt1 := Blk.keep (Gt0) hb1
        have hB1 : Below w.heap.size w w1 := bt (hB0) hb1
        clear tl tc0 tc1 tc2 tc3 tc4 tf0 tf1 tf2 tf3 tf4
        obtain ⟨tl, tc0, tc1, tc2, tc3, tc4, tf0, tf1, tf2, tf3, tf4⟩ := Gt1.c5
        go_wp2
        go_roundw
        case rel =>
          exact ⟨k + 1, by go_num, by omega, by rw [HT1.out]; exact Blk.alloc (blk_put5 Gt1) _, by (repeat (first | with_reducible exact b0 _ | with_reducible assumption | with_reducible refine Below.drew ?_ | with_reducible refine below_drewN ?_ _ | with_reducible refine bal ?_ _ | ((with_reducible refine bst ?_ ?_ _); rotate_left; focus (first | exact Nat.le_refl _ | assumption | (simp; done) | (simp; omega) | omega)) | exact below_left (by with_reducible assumption)))⟩
        case measure =>
          simp [intOf]; omega
      case neg =>
        have hke : k = ls.length := by omega
        subst hke
        rw [List.take_length] at hB
        have Hopen : Hid (openW ⟨wrapsL ls, [], 0, false, false⟩ = (⟨wrapsL ls, [], 0, false, false⟩, ls, 0)) := Lib.hid (openW_whole ls 0 false (fun b hb => by have := hb2 b hb; omega) (by unfold rightTp; simp; omega))
        have hin : ls ≠ [] → ∃ (init : List (List UInt8)) (b : List UInt8), ls = init ++ [b] := fun h => ⟨ls.dropLast, ls.getLast h, (List.dropLast_concat_getLast h).symm⟩
        obtain ⟨fs, hfs⟩ : ∃ y, wrapsL ls = y := ⟨_, rfl⟩
        rw [hfs] at hB hws Hopen
        have HF := Lib.hid hfs
        clear hfs
        have Gt0 := hB
        have hB0 := hb
        have el : (ls == ls) = true := by simp
        obtain ⟨tl, tc0, tc1, tc2, tc3, tc4, tf0, tf1, tf2, tf3, tf4⟩ := Gt0.c5
        clear hlt
        go_wp2_with fail
        refine (walopen_any fs [] 0 false false (by omega) (by simp) _).mono ?_
        rintro e w1 ⟨A1, c1, rfl, Oa1, hb1⟩
        have Gt1 := Blk.keep (Gt0) hb1
        have hB1 : Below w.heap.size w w1 := bt (hB0) hb1
        clear tl tc0 tc1 tc2 tc3 tc4 tf0 tf1 tf2 tf3 tf4
        rw [Hopen.out] at Oa1 ⊢
        simp only at Oa1
        simp only [tapeV]
        obtain ⟨tl, tc0, tc1, tc2, tc3, tc4, tf0, tf1, tf2, tf3, tf4⟩ := Gt1.c5
        go_upto_region 13 with (fail)
        obtain ⟨w2, hw2⟩ : ∃ W : World, W = (w1).alloc (.cells #[.string ⟨(fs).toArray⟩, .string ⟨#[]⟩, .int .i64 0, .bool false, .bool false] 26) := ⟨_, rfl⟩
        have Gt2 : Blk w2 (w.heap.size) 26 #[.string ⟨(fs).toArray⟩, .string ⟨#[]⟩, .int .i64 0, .bool false, .bool false] := by rw [hw2]; exact Blk.alloc (Gt1) _
        have Ga2 : Blk w2 (w1.heap.size) 26 #[.string ⟨(fs).toArray⟩, .string ⟨#[]⟩, .int .i64 0, .bool false, .bool false] := by rw [hw2]; exact Blk.new' _ _ _ _ (by simp)
        have hB2 : Below w.heap.size w w2 := by rw [hw2]; exact bal (hB1) _
        have Oa2 := own_eq hw2 (World.ownsRow.alloc (Oa1) _)
        rw [← hw2]
        clear hw2
        clear tl tc0 tc1 tc2 tc3 tc4 tf0 tf1 tf2 tf3 tf4
        obtain ⟨tl, tc0, tc1, tc2, tc3, tc4, tf0, tf1, tf2, tf3, tf4⟩ := Gt2.c5
        obtain ⟨al, ac0, ac1, ac2, ac3, ac4, af0, af1, af2, af3, af4⟩ := Ga2.c5
        have hRi := (hR.below hB2 (Nat.le_refl _)).more hB2.size
        have hRa := rd_own Oa2
        go_wp2_with fail
        refine (same_any ls ls A1 A ls.length ls.length c1 cap _ rfl rfl hmax hmax hRa hRi).mono ?_
        rintro e w3 ⟨rfl, hb3⟩
        rw [el]
        have Gt3 := Blk.keep (Gt2) hb3
        have Ga3 := Blk.keep (Ga2) hb3
        have hB3 : Below w.heap.size w w3 := bt (hB2) hb3
        have Oa3 := own_below (Oa2) hb3 (Nat.le_refl _)
        clear tl tc0 tc1 tc2 tc3 tc4 tf0 tf1 tf2 tf3 tf4 al ac0 ac1 ac2 ac3 ac4 af0 af1 af2 af3 af4
        obtain ⟨tl, tc0, tc1, tc2, tc3, tc4, tf0, tf1, tf2, tf3, tf4⟩ := Gt3.c5
        obtain ⟨al, ac0, ac1, ac2, ac3, ac4, af0, af1, af2, af3, af4⟩ := Ga3.c5
        by_cases h0 : ls.length = 0
        case pos =>
          have hz0 : ((ls.length : Int) == 0) = true := by rw [h0]; rfl
          have hz1 : (ls.length : Int) = 0 := by omega
          go_wp2_with fail
          refine (awake13 _).mono ?_
          rintro e w9 ⟨rfl, hb9⟩
          go_wp2
          go_ret
          exact ⟨rfl, bt (by (repeat (first | with_reducible exact b0 _ | with_reducible assumption | with_reducible refine Below.drew ?_ | with_reducible refine below_drewN ?_ _ | with_reducible refine bal ?_ _ | ((with_reducible refine bst ?_ ?_ _); rotate_left; focus (first | exact Nat.le_refl _ | assumption | (simp; done) | (simp; omega) | omega)) | exact below_left (by with_reducible assumption)))) hb9⟩
        case neg =>
          have hz0 : ((ls.length : Int) == 0) = false := by rw [beq_eq_false_iff_ne]; omega
          have hz1 : ¬ (ls.length : Int) = 0 := by omega
          have hz2 : (1 : Int) ≤ ls.length := by omega
          have hz3 : (0 : Int) ≤ (ls.length : Int) - 1 := by omega
          obtain ⟨init, b, hib⟩ := hin (fun e => h0 (by rw [e]; rfl))
          have hil : ls.length = init.length + 1 := by rw [hib]; simp
          have hfw : fs = wrapsL init ++ wrapL b := by rw [← HF.out, hib, wraps_append, wraps_one]
          have hwp := wrapL_pos b
          have hfl : fs.length = (wrapsL init).length + (wrapL b).length := by rw [hfw]; simp
          have hin2 : ∀ x ∈ init, x.length ≤ 1048576 := fun x hx => by have := hb2 x (by rw [hib]; exact List.mem_append_left _ hx); omega
          have hbl : b.length ≤ 1048576 := by have := hb2 b (by rw [hib]; simp); omega
          have htk : fs.take (fs.length - 1) = wrapsL init ++ (wrapL b).take ((wrapL b).length - 1) := by
            rw [hfl, hfw, List.take_append, List.take_of_length_le (by omega)]
            congr 2
            omega
          have ho2 := openW_torn init b ((wrapL b).length - 1) hin2 hbl (by omega) (by rw [← htk]; unfold rightTp; simp; omega)
          rw [← htk] at ho2
          have ho3 := openW_whole init 0 false hin2 (by unfold rightTp; simp; omega)
          have hinl : ls.take init.length = init := by rw [hib]; simp
          obtain ⟨gs, hgs⟩ : ∃ y, fs.take (fs.length - 1) = y := ⟨_, rfl⟩
          obtain ⟨hs, hhs⟩ : ∃ y, wrapsL init = y := ⟨_, rfl⟩
          have hgl : gs.length ≤ 2260 := by rw [← hgs]; simp; omega
          have hhl : hs.length ≤ 2260 := by rw [← hhs]; omega
          have hsl := fun w => run_to (P := Try.prog) w Try.underlying9 fs ((fs.length : Int) - 1) (fs.length - 1) (by omega) (by omega)
          rw [hgs] at ho2 hsl
          rw [hhs] at ho2 ho3
          have hf1 : (1 : Int) ≤ fs.length := by omega
          have HO2 := Lib.hid ho2
          have HO3 := Lib.hid ho3
          have HIL := Lib.hid hinl
          have HL := Lib.hid hil
          clear ho2 ho3 hgs hhs htk hfw hwp hfl hinl hin2 hbl hib hin hz0
          have hil0 : init.length ≤ 20 := by omega
          have hil2 : ((ls.length : Int) - 1).toNat = init.length := by omega
          have hil3 : (ls.length : Int) - 1 = (init.length : Int) := by omega
          clear hil
          clear h0
          go_wp2_with fail
          refine (walopen_any gs [] 0 false false (by omega) (by simp) _).mono ?_
          rintro e w4 ⟨A2, c2, rfl, Ov4, hb4⟩
          have Gt4 := Blk.keep (Gt3) hb4
          have Ga4 := Blk.keep (Ga3) hb4
          have hB4 : Below w.heap.size w w4 := bt (hB3) hb4
          have Oa4 := own_below (Oa3) hb4 (Nat.le_refl _)
          clear tl tc0 tc1 tc2 tc3 tc4 tf0 tf1 tf2 tf3 tf4 al ac0 ac1 ac2 ac3 ac4 af0 af1 af2 af3 af4
          rw [HO2.out] at Ov4 ⊢
          simp only at Ov4
          simp only [tapeV]
          go_wp2_with fail
          refine (walopen_any hs [] 0 false false (by omega) (by simp) _).mono ?_
          rintro e w5 ⟨A3, c3, rfl, Ok5, hb5⟩
          have Gt5 := Blk.keep (Blk.alloc (Gt4) _) hb5
          have Ga5 := Blk.keep (Blk.alloc (Ga4) _) hb5
          have Gv5 : Blk w5 (w4.heap.size) 26 #[.string ⟨(hs).toArray⟩, .string ⟨#[]⟩, .int .i64 0, .bool false, .bool false] := Blk.keep (Blk.new' _ _ _ _ (by simp)) hb5
          have hB5 : Below w.heap.size w w5 := bt (bal (hB4) _) hb5
          have Oa5 := own_below (World.ownsRow.alloc (Oa4) _) hb5 (Nat.le_refl _)
          have Ov5 := own_below (World.ownsRow.alloc (Ov4) _) hb5 (Nat.le_refl _)
          rw [HO3.out] at Ok5 ⊢
          simp only at Ok5
          simp only [tapeV]
          obtain ⟨vl, vc0, vc1, vc2, vc3, vc4, vf0, vf1, vf2, vf3, vf4⟩ := Gv5.c5
          go_upto_region 19 with (fail)
          obtain ⟨w6, hw6⟩ : ∃ W : World, W = (w5).alloc (.cells #[.string ⟨(hs).toArray⟩, .string ⟨#[]⟩, .int .i64 0, .bool false, .bool false] 26) := ⟨_, rfl⟩
          have Gt6 : Blk w6 (w.heap.size) 26 #[.string ⟨(fs).toArray⟩, .string ⟨#[]⟩, .int .i64 0, .bool false, .bool false] := by rw [hw6]; exact Blk.alloc (Gt5) _
          have Ga6 : Blk w6 (w1.heap.size) 26 #[.string ⟨(fs).toArray⟩, .string ⟨#[]⟩, .int .i64 0, .bool false, .bool false] := by rw [hw6]; exact Blk.alloc (Ga5) _
          have Gv6 : Blk w6 (w4.heap.size) 26 #[.string ⟨(hs).toArray⟩, .string ⟨#[]⟩, .int .i64 0, .bool false, .bool false] := by rw [hw6]; exact Blk.alloc (Gv5) _
          have Gw6 : Blk w6 (w5.heap.size) 26 #[.string ⟨(hs).toArray⟩, .string ⟨#[]⟩, .int .i64 0, .bool false, .bool false] := by rw [hw6]; exact Blk.new' _ _ _ _ (by simp)
          have hB6 : Below w.heap.size w w6 := by rw [hw6]; exact bal (hB5) _
          have Ok6 := own_eq hw6 (World.ownsRow.alloc (Ok5) _)
          have Ov6 := own_eq hw6 (World.ownsRow.alloc (Ov5) _)
          have Oa6 := own_eq hw6 (World.ownsRow.alloc (Oa5) _)
          rw [← hw6]
          clear hw6
          clear vl vc0 vc1 vc2 vc3 vc4 vf0 vf1 vf2 vf3 vf4
          obtain ⟨vl, vc0, vc1, vc2, vc3, vc4, vf0, vf1, vf2, vf3, vf4⟩ := Gv6.c5
          obtain ⟨wl, wc0, wc1, wc2, wc3, wc4, wf0, wf1, wf2, wf3, wf4⟩ := Gw6.c5
          have hRj := (hR.below hB6 (Nat.le_refl _)).more hB6.size
          have hRt : Rd w6 w6.heap.size 1 A init.length (init.map strL) := by
            have h := hRj.take init.length (by have := HL.out; omega)
            rw [← List.map_take, HIL.out] at h
            exact h
          have hRv := rd_own Ov6
          have hRk := rd_own Ok6
          have ei : (init == init) = true := by simp
          go_wp2_with fail
          refine (same_any init init A2 A init.length init.length c2 cap _ rfl rfl (by omega) (by omega) hRv hRt).mono ?_
          rintro e w7 ⟨rfl, hb7⟩
          rw [ei]
          have Gt7 := Blk.keep (Gt6) hb7
          have Ga7 := Blk.keep (Ga6) hb7
          have Gv7 := Blk.keep (Gv6) hb7
          have Gw7 := Blk.keep (Gw6) hb7
          have hB7 : Below w.heap.size w w7 := bt (hB6) hb7
          have Oa7 := own_below (Oa6) hb7 (Nat.le_refl _)
          have Ov7 := own_below (Ov6) hb7 (Nat.le_refl _)
          have Ok7 := own_below (Ok6) hb7 (Nat.le_refl _)
          clear vl vc0 vc1 vc2 vc3 vc4 vf0 vf1 vf2 vf3 vf4 wl wc0 wc1 wc2 wc3 wc4 wf0 wf1 wf2 wf3 wf4
          obtain ⟨vl, vc0, vc1, vc2, vc3, vc4, vf0, vf1, vf2, vf3, vf4⟩ := Gv7.c5
          obtain ⟨wl, wc0, wc1, wc2, wc3, wc4, wf0, wf1, wf2, wf3, wf4⟩ := Gw7.c5
          have hRv2 := (hRv.below hb7 (Nat.le_refl _)).more hb7.size
          have hRk2 := (hRk.below hb7 (Nat.le_refl _)).more hb7.size
          go_wp2_with fail
          refine (same_any init init A3 A2 init.length init.length c3 c2 _ rfl rfl (by omega) (by omega) hRk2 hRv2).mono ?_
          rintro e w8 ⟨rfl, hb8⟩
          rw [ei]
          have Gt8 := Blk.keep (Gt7) hb8
          have Ga8 := Blk.keep (Ga7) hb8
          have Gv8 := Blk.keep (Gv7) hb8
          have Gw8 := Blk.keep (Gw7) hb8
          have hB8 : Below w.heap.size w w8 := bt (hB7) hb8
          have Oa8 := own_below (Oa7) hb8 (Nat.le_refl _)
          have Ov8 := own_below (Ov7) hb8 (Nat.le_refl _)
          have Ok8 := own_below (Ok7) hb8 (Nat.le_refl _)
          clear vl vc0 vc1 vc2 vc3 vc4 vf0 vf1 vf2 vf3 vf4 wl wc0 wc1 wc2 wc3 wc4 wf0 wf1 wf2 wf3 wf4
          go_wp2_with fail
          refine (awake13 _).mono ?_
          rintro e w9 ⟨rfl, hb9⟩
          have Gt9 := Blk.keep (Gt8) hb9
          have Ga9 := Blk.keep (Ga8) hb9
          have Gv9 := Blk.keep (Gv8) hb9
          have Gw9 := Blk.keep (Gw8) hb9
          have hB9 : Below w.heap.size w w9 := bt (hB8) hb9
          have Oa9 := own_below (Oa8) hb9 (Nat.le_refl _)
          have Ov9 := own_below (Ov8) hb9 (Nat.le_refl _)
          have Ok9 := own_below (Ok8) hb9 (Nat.le_refl _)
          go_wp2
          go_ret
          exact ⟨rfl, by (repeat (first | with_reducible exact b0 _ | with_reducible assumption | with_reducible refine Below.drew ?_ | with_reducible refine below_drewN ?_ _ | with_reducible refine bal ?_ _ | ((with_reducible refine bst ?_ ?_ _); rotate_left; focus (first | exact Nat.le_refl _ | assumption | (simp; done) | (simp; omega) | omega)) | exact below_left (by with_reducible assumption)))⟩
theorem swap_right (t : Tp) (s : List UInt8) (h : rightTp t = true) (hs : s.length ≤ 1048576) : rightTp (swapT t s).1 = true := by
  obtain ⟨s1, s2, s3⟩ := spend_facts t h
  unfold swapT
  split
  · exact h
  · split
    · exact h
    · split
      · exact right_mk _ _ _ s3 (by simpa using hs)
      · exact s3
theorem rd_lit1 (w : World) (t : TypeId) (r : List UInt8) : Rd (w.alloc (.cells #[strL r] t)) (w.alloc (.cells #[strL r] t)).heap.size 1 (some ⟨w.heap.size, 0, none⟩) 1 ([r].map strL) := by
  refine ⟨rfl, fun _ => ⟨w.heap.size, 0, rfl, by simp, fun j u hu => ?_⟩⟩
  match j, hu with
  | 0, hu =>
    simp at hu
    subst hu
    simp
theorem arm_form (f : List UInt8) (k : Int) (h : rightTp ⟨f, [], 0, false, false⟩ = true) : armT ⟨f, [], 0, false, false⟩ k = ⟨f, [], min (max k 0) 1099511627776, decide (0 ≤ k), false⟩ := by
  unfold armT
  rw [if_neg (by simp [h])]
theorem renew_all (ls : List (List UInt8)) (r : List UInt8) (n keep : Int) (hls : (wrapsL ls).length ≤ 2260) (hsz : ∀ x ∈ ls, x.length ≤ 2000) (hr2 : r.length ≤ 2000) :
    ∃ a u c v : Tp, armT ⟨wrapsL ls, [], 0, false, false⟩ n = a ∧ rightTp a = true ∧ renewW a r = (u, if n = 0 then 16 else 0) ∧ rightTp u = true ∧ crashT u keep = c ∧ rightTp c = true ∧ openW c = (v, (if n = 0 then ls else [r]), 0) := by
  have hw := wrapL_le r
  have h0 : rightTp ⟨wrapsL ls, [], 0, false, false⟩ = true := by unfold rightTp; simp; omega
  obtain ⟨u, h1, v, h2⟩ := renew_arm ls r n keep (by omega) (fun x hx => by have := hsz x hx; omega) (by omega) (by omega)
  have ha := (arm_right _ n h0).1
  have hu : rightTp u = true := by
    have := swap_right _ (wrapL r) ha (by omega)
    unfold renewW at h1
    rw [h1] at this
    exact this
  exact ⟨_, u, _, v, rfl, ha, h1, hu, rfl, crash_right u keep hu, h2⟩
set_option maxHeartbeats 3200000 in
set_option maxRecDepth 100000 in
theorem walRenews_walk (ls : List (List UInt8)) (A : Option Addr) (n cap : Nat) (hn : ls.length = n) (hmax : n ≤ 9223372036854775807) (_hcap : n ≤ cap) (hz : ∀ l ∈ ls, l.length ≤ 9223372036854775807) (y : List UInt8) (_hy : y.length ≤ 140737488351232) (N : Int) (hN : (Lit.int .i64 N).wf = true) (K : Int) (hK : (Lit.int .i64 K).wf = true) (w : World) (hR : Rd w w.heap.size 1 A n (ls.map strL)) :
    Calls Try.prog 7 #[.slice A n cap, .string ⟨y.toArray⟩, .int .i64 N, .int .i64 K] w fun e w' => e = .returned (.bool true) ∧ Below w.heap.size w w' := by
  subst hn
  obtain ⟨q, hq⟩ : ∃ q, smallL ls 20 2000 = q := ⟨_, rfl⟩
  have HQ := Lib.hid hq
  clear hq
  cases q
  case false =>
    go_enter Try.func7, Try.ntmps7
    have hB0 : Below w.heap.size w w := b0 w
    go_wp2_with fail
    refine (smalls_any ls A ls.length cap 20 2000 _ rfl hmax (by omega) (by omega) hz hR).mono ?_
    rintro e w0 ⟨rfl, rfl⟩
    rw [HQ.out]
    go_wp2_with fail
    refine (awake13 _).mono ?_
    rintro e w1 ⟨rfl, hb1⟩
    go_wp2
    go_ret
    exact ⟨rfl, bt (by (repeat (first | with_reducible exact b0 _ | with_reducible assumption | with_reducible refine Below.drew ?_ | with_reducible refine below_drewN ?_ _ | with_reducible refine bal ?_ _ | ((with_reducible refine bst ?_ ?_ _); rotate_left; focus (first | exact Nat.le_refl _ | assumption | (simp; done) | (simp; omega) | omega)) | exact below_left (by with_reducible assumption)))) hb1⟩
  case true =>
    obtain ⟨hl20, hws, hb2⟩ := small_parts ls HQ.out
    by_cases hbig : 2000 < y.length
    case pos =>
      have gb : (2000 : Int) < y.length := by omega
      go_enter Try.func7, Try.ntmps7
      have hB0 : Below w.heap.size w w := b0 w
      go_wp2_with fail
      refine (smalls_any ls A ls.length cap 20 2000 _ rfl hmax (by omega) (by omega) hz hR).mono ?_
      rintro e w0 ⟨rfl, rfl⟩
      rw [HQ.out]
      go_wp2_with fail
      refine (awake13 _).mono ?_
      rintro e w1 ⟨rfl, hb1⟩
      go_wp2
      go_ret
      exact ⟨rfl, bt (by (repeat (first | with_reducible exact b0 _ | with_reducible assumption | with_reducible refine Below.drew ?_ | with_reducible refine below_drewN ?_ _ | with_reducible refine bal ?_ _ | ((with_reducible refine bst ?_ ?_ _); rotate_left; focus (first | exact Nat.le_refl _ | assumption | (simp; done) | (simp; omega) | omega)) | exact below_left (by with_reducible assumption)))) hb1⟩
    case neg =>
      have gb : ¬ ((2000 : Int) < y.length) := by omega
      have hkN := bounds_i64 hN
      have hkK := bounds_i64 hK
      obtain ⟨⟨f1, l1, n1, r1, d1⟩, ⟨f2, l2, n2, r2, d2⟩, ⟨f3, l3, n3, r3, d3⟩, ⟨f4, l4, n4, r4, d4⟩, ha, hra, hren, hru, hcr, hrc, hop⟩ := renew_all ls y N K hws hb2 (by omega)
      have la := (right_parts _ hra).1
      have lu := (right_parts _ hru).1
      have lc := (right_parts _ hrc).1
      simp only at la lu lc
      have HA := Lib.hid ha
      have HRN := Lib.hid hren
      have HCR := Lib.hid hcr
      have HOP := Lib.hid hop
      clear ha hra hren hru hcr hrc hop hN hK
      go_enter Try.func7, Try.ntmps7
      have hB0 : Below w.heap.size w w := b0 w
      go_wp2_with fail
      refine (smalls_any ls A ls.length cap 20 2000 _ rfl hmax (by omega) (by omega) hz hR).mono ?_
      rintro e w0 ⟨rfl, rfl⟩
      rw [HQ.out]
      go_wp2
      go_loopw [30] (fun i wr => PutsRel ls w i wr) (fun i _ => ls.length - (intOf i).toNat)
      case atStart =>
        exact ⟨0, rfl, Nat.zero_le _, Blk.new w _ _, bal (b0 w) _⟩
      case round =>
        obtain ⟨k, rfl, hk, hB, hb⟩ := hrel
        have hbs := hb.size
        have i0 : (0 : Int) ≤ (k : Int) := by omega
        by_cases hlt : k < ls.length
        case pos =>
          obtain ⟨b, off, rfl, hbB, hc⟩ := hR.2 (by omega)
          have g0 := hc k (strL ls[k]) (by simp [hlt])
          have c0 := (hb.cell (p := ⟨b, _, none⟩) hbB).trans g0
          have hsl := wraps_snoc_len ls k hlt
          have htk : ls.take (k + 1) = ls.take k ++ [ls[k]] := List.take_succ_eq_append_getElem hlt
          have hxl := hb2 ls[k] (List.getElem_mem hlt)
          have i1 : (k : Int) < (ls.length : Int) := by omega
          obtain ⟨x, hx⟩ : ∃ x, ls[k] = x := ⟨_, rfl⟩
          rw [hx] at c0 hsl htk hxl
          have hput := putW_free (ls.take k) x (by omega)
          rw [← htk] at hput
          have htl := wraps_take_len ls k
          obtain ⟨t0, ht0⟩ : ∃ y, wrapsL (ls.take k) = y := ⟨_, rfl⟩
          obtain ⟨t1, ht1⟩ : ∃ y, wrapsL (ls.take (k + 1)) = y := ⟨_, rfl⟩
          rw [ht0] at hput hB hsl htl
          rw [ht1] at hput
          have HP := Lib.hid hput
          have HT1 := Lib.hid ht1
          clear hput ht0 ht1 htk hx g0 hc
          have Gt0 := hB
          have hB0 := hb
          obtain ⟨tl, tc0, tc1, tc2, tc3, tc4, tf0, tf1, tf2, tf3, tf4⟩ := Gt0.c5
          go_wp2_with fail
          refine (walput_any t0 [] 0 false false (by omega) (by simp) x (by omega) _).mono ?_
          rintro e w1 ⟨rfl, hb1⟩
          rw [HP.out]
          simp only [tapeV]
          have Gt1 := Blk.keep (Gt0) hb1
          have hB1 : Below w.heap.size w w1 := bt (hB0) hb1
          clear tl tc0 tc1 tc2 tc3 tc4 tf0 tf1 tf2 tf3 tf4
          obtain ⟨tl, tc0, tc1, tc2, tc3, tc4, tf0, tf1, tf2, tf3, tf4⟩ := Gt1.c5
          go_wp2
          go_roundw
          case rel =>
            exact ⟨k + 1, by go_num, by omega, by rw [HT1.out]; exact Blk.alloc (blk_put5 Gt1) _, by (repeat (first | with_reducible exact b0 _ | with_reducible assumption | with_reducible refine Below.drew ?_ | with_reducible refine below_drewN ?_ _ | with_reducible refine bal ?_ _ | ((with_reducible refine bst ?_ ?_ _); rotate_left; focus (first | exact Nat.le_refl _ | assumption | (simp; done) | (simp; omega) | omega)) | exact below_left (by with_reducible assumption)))⟩
          case measure =>
            simp [intOf]; omega
        case neg =>
          have hke : k = ls.length := by omega
          subst hke
          rw [List.take_length] at hB
          have Hopen : Hid (openW ⟨wrapsL ls, [], 0, false, false⟩ = (⟨wrapsL ls, [], 0, false, false⟩, ls, 0)) := Lib.hid (openW_whole ls 0 false (fun b hb => by have := hb2 b hb; omega) (by unfold rightTp; simp; omega))
          obtain ⟨fs, hfs⟩ : ∃ y, wrapsL ls = y := ⟨_, rfl⟩
          rw [hfs] at hB hws HA
          clear hfs Hopen hlt
          have Gt0 := hB
          have hB0 := hb
          have el : (ls == ls) = true := by simp
          obtain ⟨tl, tc0, tc1, tc2, tc3, tc4, tf0, tf1, tf2, tf3, tf4⟩ := Gt0.c5
          go_wp2_with fail
          refine (arm_any fs [] 0 false false (by omega) (by simp) N hkN _).mono ?_
          rintro e w1 ⟨rfl, hb1⟩
          rw [HA.out]
          simp only [tapeV]
          have Gt1 := Blk.keep (Gt0) hb1
          have hB1 : Below w.heap.size w w1 := bt (hB0) hb1
          clear tl tc0 tc1 tc2 tc3 tc4 tf0 tf1 tf2 tf3 tf4
          obtain ⟨tl, tc0, tc1, tc2, tc3, tc4, tf0, tf1, tf2, tf3, tf4⟩ := Gt1.c5
          go_wp2_with fail
          refine (walrenew_any f1 l1 n1 r1 d1 (by omega) (by omega) y (by omega) _).mono ?_
          rintro e w2 ⟨rfl, hb2⟩
          rw [HRN.out]
          simp only [tapeV]
          have Gt2 := Blk.keep (Gt1) hb2
          have hB2 : Below w.heap.size w w2 := bt (hB1) hb2
          clear tl tc0 tc1 tc2 tc3 tc4 tf0 tf1 tf2 tf3 tf4
          obtain ⟨tl, tc0, tc1, tc2, tc3, tc4, tf0, tf1, tf2, tf3, tf4⟩ := Gt2.c5
          by_cases hN0 : N = 0
          case pos =>
            subst hN0
            have HOP2 : Hid (openW ⟨f3, l3, n3, r3, d3⟩ = (⟨f4, l4, n4, r4, d4⟩, ls, 0)) := Lib.hid (by have h := HOP.out; simpa using h)
            rw [if_pos rfl]
            go_upto_region 13 with (fail)
            obtain ⟨w3, hw3⟩ : ∃ W : World, W = (((((w2).setCell ⟨w.heap.size, 0, none⟩ (.string ⟨f2.toArray⟩)).setCell ⟨w.heap.size, 1, none⟩ (.string ⟨l2.toArray⟩)).setCell ⟨w.heap.size, 2, none⟩ (.int .i64 n2)).setCell ⟨w.heap.size, 3, none⟩ (.bool r2)).setCell ⟨w.heap.size, 4, none⟩ (.bool d2) := ⟨_, rfl⟩
            have Gt3 : Blk w3 (w.heap.size) 26 #[.string ⟨f2.toArray⟩, .string ⟨l2.toArray⟩, .int .i64 n2, .bool r2, .bool d2] := by rw [hw3]; exact put5_same Gt2
            have hB3 : Below w.heap.size w w3 := by rw [hw3]; exact put5_below (.string ⟨f2.toArray⟩) (.string ⟨l2.toArray⟩) (.int .i64 n2) (.bool r2) (.bool d2) hB2 (by first | exact Nat.le_refl _ | omega)
            rw [← hw3]
            clear hw3
            clear tl tc0 tc1 tc2 tc3 tc4 tf0 tf1 tf2 tf3 tf4
            obtain ⟨tl, tc0, tc1, tc2, tc3, tc4, tf0, tf1, tf2, tf3, tf4⟩ := Gt3.c5
            go_wp2_with fail
            refine (crash_any f2 l2 n2 r2 d2 (by omega) (by omega) K hkK _).mono ?_
            rintro e w4 ⟨rfl, hb4⟩
            rw [HCR.out]
            simp only [tapeV]
            have Gt4 := Blk.keep (Gt3) hb4
            have hB4 : Below w.heap.size w w4 := bt (hB3) hb4
            clear tl tc0 tc1 tc2 tc3 tc4 tf0 tf1 tf2 tf3 tf4
            obtain ⟨tl, tc0, tc1, tc2, tc3, tc4, tf0, tf1, tf2, tf3, tf4⟩ := Gt4.c5
            go_wp2_with fail
            refine (walopen_any f3 l3 n3 r3 d3 (by omega) (by omega) _).mono ?_
            rintro e w5 ⟨A1, c1, rfl, Oa5, hb5⟩
            have Gt5 := Blk.keep (Gt4) hb5
            have hB5 : Below w.heap.size w w5 := bt (hB4) hb5
            clear tl tc0 tc1 tc2 tc3 tc4 tf0 tf1 tf2 tf3 tf4
            rw [HOP2.out] at Oa5 ⊢
            simp only at Oa5
            simp only [tapeV]
            go_upto_region 14 with (fail)
            obtain ⟨w6, hw6⟩ : ∃ W : World, W = (w5).alloc (.cells #[.string ⟨f4.toArray⟩, .string ⟨l4.toArray⟩, .int .i64 n4, .bool r4, .bool d4] 26) := ⟨_, rfl⟩
            have Gt6 : Blk w6 (w.heap.size) 26 #[.string ⟨f2.toArray⟩, .string ⟨l2.toArray⟩, .int .i64 n2, .bool r2, .bool d2] := by rw [hw6]; exact Blk.alloc (Gt5) _
            have Gv6 : Blk w6 (w5.heap.size) 26 #[.string ⟨f4.toArray⟩, .string ⟨l4.toArray⟩, .int .i64 n4, .bool r4, .bool d4] := by rw [hw6]; exact Blk.new' _ _ _ _ (by simp)
            have hB6 : Below w.heap.size w w6 := by rw [hw6]; exact bal (hB5) _
            have Oa6 := own_eq hw6 (World.ownsRow.alloc (Oa5) _)
            rw [← hw6]
            clear hw6
            have hRi := (hR.below hB6 (Nat.le_refl _)).more hB6.size
            have hRa := rd_own Oa6
            go_wp2_with fail
            refine (same_any ls ls A1 A ls.length ls.length c1 cap _ rfl rfl hmax hmax hRa hRi).mono ?_
            rintro e w7 ⟨rfl, hb7⟩
            rw [el]
            have Gt7 := Blk.keep (Gt6) hb7
            have Gv7 := Blk.keep (Gv6) hb7
            have hB7 : Below w.heap.size w w7 := bt (hB6) hb7
            have Oa7 := own_below (Oa6) hb7 (Nat.le_refl _)
            go_wp2_with fail
            refine (awake13 _).mono ?_
            rintro e w8 ⟨rfl, hb8⟩
            have Gt8 := Blk.keep (Gt7) hb8
            have Gv8 := Blk.keep (Gv7) hb8
            have hB8 : Below w.heap.size w w8 := bt (hB7) hb8
            have Oa8 := own_below (Oa7) hb8 (Nat.le_refl _)
            go_wp2
            go_ret
            exact ⟨rfl, by (repeat (first | with_reducible exact b0 _ | with_reducible assumption | with_reducible refine Below.drew ?_ | with_reducible refine below_drewN ?_ _ | with_reducible refine bal ?_ _ | ((with_reducible refine bst ?_ ?_ _); rotate_left; focus (first | exact Nat.le_refl _ | assumption | (simp; done) | (simp; omega) | omega)) | exact below_left (by with_reducible assumption)))⟩
          case neg =>
            have hN1 : (N == 0) = false := beq_eq_false_iff_ne.2 hN0
            have HOP2 : Hid (openW ⟨f3, l3, n3, r3, d3⟩ = (⟨f4, l4, n4, r4, d4⟩, [y], 0)) := Lib.hid (by have h := HOP.out; rw [if_neg hN0] at h; exact h)
            rw [if_neg hN0]
            go_upto_region 13 with (fail)
            obtain ⟨w3, hw3⟩ : ∃ W : World, W = (((((w2).setCell ⟨w.heap.size, 0, none⟩ (.string ⟨f2.toArray⟩)).setCell ⟨w.heap.size, 1, none⟩ (.string ⟨l2.toArray⟩)).setCell ⟨w.heap.size, 2, none⟩ (.int .i64 n2)).setCell ⟨w.heap.size, 3, none⟩ (.bool r2)).setCell ⟨w.heap.size, 4, none⟩ (.bool d2) := ⟨_, rfl⟩
            have Gt3 : Blk w3 (w.heap.size) 26 #[.string ⟨f2.toArray⟩, .string ⟨l2.toArray⟩, .int .i64 n2, .bool r2, .bool d2] := by rw [hw3]; exact put5_same Gt2
            have hB3 : Below w.heap.size w w3 := by rw [hw3]; exact put5_below (.string ⟨f2.toArray⟩) (.string ⟨l2.toArray⟩) (.int .i64 n2) (.bool r2) (.bool d2) hB2 (by first | exact Nat.le_refl _ | omega)
            rw [← hw3]
            clear hw3
            clear tl tc0 tc1 tc2 tc3 tc4 tf0 tf1 tf2 tf3 tf4
            obtain ⟨tl, tc0, tc1, tc2, tc3, tc4, tf0, tf1, tf2, tf3, tf4⟩ := Gt3.c5
            go_wp2_with fail
            refine (crash_any f2 l2 n2 r2 d2 (by omega) (by omega) K hkK _).mono ?_
            rintro e w4 ⟨rfl, hb4⟩
            rw [HCR.out]
            simp only [tapeV]
            have Gt4 := Blk.keep (Gt3) hb4
            have hB4 : Below w.heap.size w w4 := bt (hB3) hb4
            clear tl tc0 tc1 tc2 tc3 tc4 tf0 tf1 tf2 tf3 tf4
            obtain ⟨tl, tc0, tc1, tc2, tc3, tc4, tf0, tf1, tf2, tf3, tf4⟩ := Gt4.c5
            go_wp2_with fail
            refine (walopen_any f3 l3 n3 r3 d3 (by omega) (by omega) _).mono ?_
            rintro e w5 ⟨A1, c1, rfl, Oa5, hb5⟩
            have Gt5 := Blk.keep (Gt4) hb5
            have hB5 : Below w.heap.size w w5 := bt (hB4) hb5
            clear tl tc0 tc1 tc2 tc3 tc4 tf0 tf1 tf2 tf3 tf4
            rw [HOP2.out] at Oa5 ⊢
            simp only at Oa5
            simp only [tapeV]
            go_upto_region 14 with (fail)
            obtain ⟨w6, hw6⟩ : ∃ W : World, W = (w5).alloc (.cells #[.string ⟨f4.toArray⟩, .string ⟨l4.toArray⟩, .int .i64 n4, .bool r4, .bool d4] 26) := ⟨_, rfl⟩
            have Gt6 : Blk w6 (w.heap.size) 26 #[.string ⟨f2.toArray⟩, .string ⟨l2.toArray⟩, .int .i64 n2, .bool r2, .bool d2] := by rw [hw6]; exact Blk.alloc (Gt5) _
            have Gv6 : Blk w6 (w5.heap.size) 26 #[.string ⟨f4.toArray⟩, .string ⟨l4.toArray⟩, .int .i64 n4, .bool r4, .bool d4] := by rw [hw6]; exact Blk.new' _ _ _ _ (by simp)
            have hB6 : Below w.heap.size w w6 := by rw [hw6]; exact bal (hB5) _
            have Oa6 := own_eq hw6 (World.ownsRow.alloc (Oa5) _)
            rw [← hw6]
            clear hw6
            have ey : ([y] == [y]) = true := by simp
            have hRl := rd_lit1 w6 9 y
            have hRa := ((rd_own Oa6).below (bal (b0 w6) (.cells #[strL y] 9)) (by simp)).more (B' := (w6.alloc (.cells #[strL y] 9)).heap.size) (by simp)
            go_wp2_with fail
            refine (same_any [y] [y] A1 _ 1 1 c1 1 _ rfl rfl (by omega) (by omega) hRa hRl).mono ?_
            rintro e w7 ⟨rfl, hb7⟩
            rw [ey]
            have Gt7 := Blk.keep (Blk.alloc (Gt6) _) hb7
            have Gv7 := Blk.keep (Blk.alloc (Gv6) _) hb7
            have Gq7 : Blk w7 (w6.heap.size) 9 #[strL y] := Blk.keep (Blk.new' _ _ _ _ (by simp)) hb7
            have hB7 : Below w.heap.size w w7 := bt (bal (hB6) _) hb7
            have Oa7 := own_below (World.ownsRow.alloc (Oa6) _) hb7 (Nat.le_refl _)
            go_wp2_with fail
            refine (awake13 _).mono ?_
            rintro e w8 ⟨rfl, hb8⟩
            have Gt8 := Blk.keep (Gt7) hb8
            have Gv8 := Blk.keep (Gv7) hb8
            have Gq8 := Blk.keep (Gq7) hb8
            have hB8 : Below w.heap.size w w8 := bt (hB7) hb8
            have Oa8 := own_below (Oa7) hb8 (Nat.le_refl _)
            go_wp2
            go_ret
            exact ⟨rfl, by (repeat (first | with_reducible exact b0 _ | with_reducible assumption | with_reducible refine Below.drew ?_ | with_reducible refine below_drewN ?_ _ | with_reducible refine bal ?_ _ | ((with_reducible refine bst ?_ ?_ _); rotate_left; focus (first | exact Nat.le_refl _ | assumption | (simp; done) | (simp; omega) | omega)) | exact below_left (by with_reducible assumption)))⟩
end Go.Proofs.Ythjoamldmcnodaa
