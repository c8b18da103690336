/- The walk of key.Show. -/
import Derived.Test.YtclddkdchlcpeaaDoorShowW
import Derived.Test.YtclddkdchlcpeaaDoorBldR
import Derived.Laws.IdiomStrings
import Derived.StillTailTactics
import Derived.Deep.DeepCutAuto
namespace Go.Proofs.YtclddkdchlcpeaaDoor
open Go.RowKit
attribute [local go_sem] ByteArray.mk_append_mk ByteArray.extract_mk
attribute [local go_sem ↓] Go.wp_at_zero Go.wp_at_succ
theorem byte_obj (cap : Nat) (x : List UInt8) (e : TypeId) (fz : Nat × Nat) (W : World) (g : Nat) (h : W.heap[g]? = some (.cells (bytesRow ⟨x.toArray⟩ cap) e fz)) (k : Nat) (hk : k < x.length) :
    W.cell? ⟨g, k, none⟩ = some (.int .u8 ((x[k].toNat : Nat) : Int)) := by
  rw [cell_of_row _ _ _ _ _ _ h, bytesRow_at _ _ _ (by simpa using hk)]
  simp
/-- the state of the outer loop: so much of the text is shown in the builder -/
def SwRel (l : List UInt8) (w wr : World) : Prop :=
  ∃ (pos : Nat) (acc : List UInt8), pos ≤ l.length ∧ showT l = acc ++ showT (l.drop pos) ∧ wr.heap[w.heap.size + 1]? = some (.stringIter ⟨l.toArray⟩ pos) ∧
    Bld w.heap.size w.heap.size (Lib.byteCells acc) wr ∧ Below w.heap.size w wr
/-- the state of the inner loop: so many bytes of the letter are shown -/
def SiRel (x acc : List UInt8) (B I g n : Nat) (o p : Obj) (w : World) (i : Value) (wx : World) : Prop :=
  ∃ (j : Nat) (row : Option Nat), i = .int .i64 j ∧ j ≤ n ∧ BldR B B row (Lib.byteCells (acc ++ (x.take j).flatMap hexL)) wx ∧ row ≠ some g ∧ row ≠ some I ∧ wx.heap[g]? = some o ∧ wx.heap[I]? = some p ∧ Below B w wx
theorem byteCells_app (a b : List UInt8) : Lib.byteCells (a ++ b) = Lib.byteCells a ++ Lib.byteCells b := by simp [Lib.byteCells]
theorem byteCells_len (a : List UInt8) : (Lib.byteCells a).length = a.length := by simp [Lib.byteCells]
theorem byteCells_str (l : List UInt8) : Lib.strCells ⟨l.toArray⟩ = Lib.byteCells l := strCells_bv l
theorem bld_start (w : World) (o : Obj) : Bld w.heap.size w.heap.size (Lib.byteCells []) ((w.alloc (.cells #[.pointer none, .slice none 0 0] 42)).alloc o) :=
  Or.inl (Lib.BuilderAtF.alloc ⟨Nat.le_refl _, .slice none 0 0, heap_alloc_new w _, World.ownsRowF_nil _ _ _ _, by simp [Value.ownBlock]⟩ _)
theorem bld_iter {B b : Nat} {bs : List Value} {w : World} (h : Bld B b bs w) {k : Nat} {s : ByteArray} {pos : Nat} (hk : w.heap[k]? = some (.stringIter s pos)) (pos' : Nat) : Bld B b bs (w.iterAt k s pos') := by
  rcases h with h | h
  · exact Or.inl (h.iterAt hk pos')
  · exact Or.inr (h.iterAt hk pos')
theorem bld_below {B b : Nat} {bs : List Value} {w w' : World} (h : Bld B b bs w) (hb : Below w.heap.size w w') : Bld B b bs w' := by
  obtain ⟨row, hr⟩ := BldR.of h
  exact (hr.below hb).to
theorem dig_at (w : World) (q : Nat) (hq : q < 16) (i : Int) (hi : i = q) : (Instr.index 9 (.string ⟨#[48, 49, 50, 51, 52, 53, 54, 55, 56, 57, 65, 66, 67, 68, 69, 70]⟩) (.int .u8 i)).run Tryd.prog w = .ok (.int .u8 ((digL q).toNat : Int)) w := by
  subst hi
  have hz : (⟨#[48, 49, 50, 51, 52, 53, 54, 55, 56, 57, 65, 66, 67, 68, 69, 70]⟩ : ByteArray).size = 16 := rfl
  rw [run_index_string w _ _ _ _ Tryd.underlying9, dif_pos ⟨by omega, by rw [hz]; omega⟩]
  have h : ∀ q : Fin 16, ∀ h : q.val < (⟨#[48, 49, 50, 51, 52, 53, 54, 55, 56, 57, 65, 66, 67, 68, 69, 70]⟩ : ByteArray).size, (⟨#[48, 49, 50, 51, 52, 53, 54, 55, 56, 57, 65, 66, 67, 68, 69, 70]⟩ : ByteArray)[q.val]'h = digL q.val := by decide +kernel
  have h2 := h ⟨q, hq⟩ (by rw [hz]; exact hq)
  simp only [Int.toNat_natCast]
  rw [h2]
theorem conv_hex (w : World) (cap b : Nat) (hb : b < 256) (x y : Int) (hx : x = ((digL (b / 16)).toNat : Int)) (hy : y = ((digL (b % 16)).toNat : Int)) :
    (convert 40 9 (.slice (some ⟨w.heap.size, 0, none⟩) 3 cap)).run Tryd.prog (w.alloc (.cells #[.int .u8 37, .int .u8 x, .int .u8 y] 5)) =
      .ok (.string ⟨(hexL (UInt8.ofNat b)).toArray⟩) (w.alloc (.cells #[.int .u8 37, .int .u8 x, .int .u8 y] 5)) := by
  subst hx hy
  rw [run_conv3 w Tryd.underlying40 Tryd.underlying5 Tryd.underlying9]
  have e : (UInt8.ofNat b).toNat = b := by simp; omega
  unfold hexL
  rw [e]
  simp
theorem and15 (b : Nat) (hb : b < 256) : bits .and .u8 (b : Int) 15 = ((b : Int) % 16) := by
  have h := u8_and_nat b 15 hb (by omega)
  have e : b &&& 15 = b % 16 := Nat.and_two_pow_sub_one_eq_mod b 4
  rw [e] at h
  rw [show ((15 : Int)) = ((15 : Nat) : Int) from rfl, h]
  omega
set_option maxHeartbeats 1600000 in
set_option maxRecDepth 100000 in
theorem keyshow_any (l : List UInt8) (hl : l.length ≤ 1099511627776) (w : World) (hT : Go.Lib.Utf8Tabs 0 1 w) :
    Calls Tryd.prog 14 #[.string ⟨l.toArray⟩] w fun e w' => e = .returned (.string ⟨(showL l).toArray⟩) ∧ Below w.heap.size w w' := by
  by_cases h0 : l = []
  case pos =>
    subst h0
    go_enter Tryd.func14, Tryd.ntmps14
    go_wp2
    go_ret
    exact ⟨rfl, Below.refl _ _⟩
  case neg =>
    have hs : showL l = showT l := by unfold showL; rw [if_neg h0]
    have he := mk_ne l h0
    have HS := Lib.hid hs
    clear hs h0
    go_enter Tryd.func14, Tryd.ntmps14
    go_wp2
    clear he
    go_loopw [] (fun wr => SwRel l w wr) (fun wr => l.length - wr.iterPos (w.heap.size + 1))
    case atStart => exact ⟨0, [], Nat.zero_le _, rfl, by have h := World.iter_heap (w.alloc (.cells #[.pointer none, .slice none 0 0] 42)) ⟨l.toArray⟩ 0; simpa using h, bld_start w _, bal (bal (b0 w) _) _⟩
    case round =>
      obtain ⟨pos, acc, hpos, hsh, hit, hbl, hbw⟩ := hrel
      have hal : acc.length ≤ 3 * l.length := by have h1 := congrArg List.length hsh; have h2 := (showT_len l).2; rw [List.length_append] at h1; omega
      have HP := Lib.hid hsh
      clear hsh
      have hsz : w.heap.size + 1 < wr.heap.size := (Array.getElem?_eq_some_iff.1 hit).1
      by_cases hp : pos < l.length
      case pos =>
        have hp' : pos < (⟨l.toArray⟩ : ByteArray).size := by rw [size_mk]; exact hp
        have hnx : ∀ ty, (Instr.next (.pointer (some ⟨w.heap.size + 1, 0, none⟩)) true ty).run Tryd.prog wr = _ := fun ty => Lib.run_next_any_at wr (w.heap.size + 1) ⟨l.toArray⟩ pos ty hit hp'
        rw [decode_eq] at hnx
        have hne := drop_ne hp
        have hst := showT_cons (l.drop pos) hne
        rw [List.drop_drop] at hst
        have hwd := (decL_pos (l.drop pos)).1
        have hwd4 := (decL_pos (l.drop pos)).2
        have hwl := decL_le (l.drop pos) hne
        have hone : oneL (l.drop pos) = if plainB (decL (l.drop pos)).1 (decL (l.drop pos)).2 && !((decL (l.drop pos)).1 == 37) then (l.drop pos).take (decL (l.drop pos)).2 else ((l.drop pos).take (decL (l.drop pos)).2).flatMap hexL := rfl
        have henc : plainB (decL (l.drop pos)).1 (decL (l.drop pos)).2 = true → (l.drop pos).take (decL (l.drop pos)).2 = Lib.encodeRune (decL (l.drop pos)).1 := fun h => take_enc (l.drop pos) hne (plainB_dec h)
        rw [List.length_drop] at hwl
        have DA := decode_any (l.drop pos) hne
        have hmx := decL_max (l.drop pos)
        obtain ⟨r, hr⟩ : ∃ r, (decL (l.drop pos)).1 = r := ⟨_, rfl⟩
        obtain ⟨n, hn⟩ : ∃ n, (decL (l.drop pos)).2 = n := ⟨_, rfl⟩
        rw [hr, hn] at DA hone henc
        rw [hn] at hst
        rw [hr, hn] at hnx
        rw [hr] at hmx
        rw [hn] at hwl hwd hwd4
        have hit2 := Lib.iterAt_heap wr (w.heap.size + 1) ⟨l.toArray⟩ pos (pos + n) hit
        have hbw2 := Lib.below_iterAt hbw (k := w.heap.size + 1) (Nat.le_succ _) ⟨l.toArray⟩ (pos + n)
        have hbl2 := bld_iter hbl hit (pos + n)
        have hT2 := Utf8Tabs_below hT hbw2
        have hit0 := Lib.hid hit
        have hsz2 : w.heap.size + 1 < (wr.iterAt (w.heap.size + 1) ⟨l.toArray⟩ (pos + n)).heap.size := by rw [Lib.iterAt_size]; omega
        have HST := Lib.hid hst
        have HO := Lib.hid hone
        have HE := Lib.hid henc
        have e1 : List.take (l.length - pos) (List.drop pos l) = l.drop pos := by rw [← List.length_drop]; exact List.take_length
        have E1 := Lib.hid e1
        clear hst hone henc hr hn hne e1
        go_wp2_with fail
        rw [E1.out]
        refine (DA _ hT2).mono ?_
        rintro e w1 ⟨rfl, hb1⟩
        have hit3 : w1.heap[w.heap.size + 1]? = some (.stringIter ⟨l.toArray⟩ (pos + n)) := (hb1.block _ hsz2).trans hit2
        have hbl3 := bld_below hbl2 hb1
        have hb1s := hb1.size
        have hB := hbw2.trans (hb1.mono hbw2.size)
        clear hit2 hbw2 hT2 hnx hit hbw hbl2 hbl DA
        go_wp2_with fail
        refine (plain_any r n _).mono ?_
        rintro e w2 ⟨rfl, rfl⟩
        rw [plainI_nat]
        have hBs := hB.size
        have hm : ∀ W : World, W.heap[w.heap.size + 1]? = some (.stringIter ⟨l.toArray⟩ (pos + n)) → l.length - W.iterPos (w.heap.size + 1) < l.length - wr.iterPos (w.heap.size + 1) := by
          intro W hW
          simp only [World.iterPos, hW, hit0.out]
          omega
        obtain ⟨q, hq⟩ : ∃ q, plainB r n = q := ⟨_, rfl⟩
        rw [hq]
        by_cases hw : q = true ∧ r ≠ 37
        case pos =>
          obtain ⟨hw1, hw2⟩ := hw
          subst hw1
          have h37 : ((r : Int) != 37) = true := by simp; omega
          have h37b : (r == 37) = false := by simp; omega
          have hx : oneL (l.drop pos) = Lib.encodeRune (r : Int) := by rw [HO.out, hq, h37b, ← HE.out hq]; rfl
          have hsh2 : showT l = (acc ++ Lib.encodeRune (r : Int)) ++ showT (l.drop (pos + n)) := by rw [HP.out, HST.out, hx, List.append_assoc]
          have HX := Lib.hid hsh2
          clear hsh2 hx hq h37b hw2
          go_wp2_with fail
          refine (brune_any w.heap.size w.heap.size _ r (by omega) (by omega) _ hbl3 (by rw [byteCells_len]; omega) (by omega)).mono ?_
          rintro e w3 ⟨rfl, hbl4, hb3, hk3⟩
          have hit4 := hk3 _ _ hit3 (by simp) (by intro _ _ h; cases h)
          rw [← Lib.byteCells_encodeRune, ← byteCells_app] at hbl4
          go_wp2
          exact ⟨⟨pos + n, _, by omega, HX.out, hit4, hbl4, hB.trans hb3⟩, hm _ hit4⟩
        case neg =>
          have hx : oneL (l.drop pos) = ((l.drop pos).take n).flatMap hexL := by
            rw [HO.out, hq]
            by_cases h1 : q = true
            · have h2 : r = 37 := Decidable.byContradiction fun h => hw ⟨h1, h⟩
              subst h2
              simp
            · have h2 : q = false := by simpa using h1
              rw [h2]
              rfl
          have hqq : q = false ∨ (q = true ∧ r = 37) := by
            by_cases h1 : q = true
            · exact .inr ⟨h1, Decidable.byContradiction fun h => hw ⟨h1, h⟩⟩
            · exact .inl (by simpa using h1)
          have hsl : ∀ w, (Instr.slice 9 (.string ⟨l.toArray⟩) (some (.int .i64 pos)) (some (.int .i64 ((pos : Int) + n))) none).run Tryd.prog w = .ok (.string ⟨((l.drop pos).take n).toArray⟩) w := fun w => by
            have h := run_mid (P := Tryd.prog) w Tryd.underlying9 l (pos : Int) ((pos : Int) + n) pos (pos + n) rfl (by omega) (by omega) (by omega)
            rw [Nat.add_sub_cancel_left] at h
            exact h
          have hxl : ((l.drop pos).take n).length = n := by simp; omega
          have hsh2 : showT l = (acc ++ ((l.drop pos).take n).flatMap hexL) ++ showT (l.drop (pos + n)) := by rw [HP.out, HST.out, hx, List.append_assoc]
          obtain ⟨x, hxx⟩ : ∃ x, (l.drop pos).take n = x := ⟨_, rfl⟩
          rw [hxx] at hsl hxl hsh2
          have HX := Lib.hid hsh2
          have hcv := run_bytes_of_string (P := Tryd.prog) w1 9 40 5 ⟨x.toArray⟩ Tryd.underlying9 Tryd.underlying40 Tryd.underlying5
          rw [size_mk, hxl] at hcv
          have hgo := heap_alloc_new w1.drew (.cells (bytesRow ⟨x.toArray⟩ (grownCap w1 n 0 5)) 5 ((bytesRow ⟨x.toArray⟩ (grownCap w1 n 0 5)).size, (bytesRow ⟨x.toArray⟩ (grownCap w1 n 0 5)).size + 1))
          have hob := byte_obj (grownCap w1 n 0 5) x 5 ((bytesRow ⟨x.toArray⟩ (grownCap w1 n 0 5)).size, (bytesRow ⟨x.toArray⟩ (grownCap w1 n 0 5)).size + 1)
          have hb2 : Below w1.heap.size w1 (w1.drew.alloc (.cells (bytesRow ⟨x.toArray⟩ (grownCap w1 n 0 5)) 5 ((bytesRow ⟨x.toArray⟩ (grownCap w1 n 0 5)).size, (bytesRow ⟨x.toArray⟩ (grownCap w1 n 0 5)).size + 1))) := bal (Below.drew (b0 w1)) _
          generalize grownCap w1 n 0 5 = cap at hcv hgo hob hb2
          generalize (Obj.cells (bytesRow ⟨x.toArray⟩ cap) 5 ((bytesRow ⟨x.toArray⟩ cap).size, (bytesRow ⟨x.toArray⟩ cap).size + 1)) = ob at hcv hgo hob hb2
          generalize hw2 : w1.drew.alloc ob = w2 at hcv hgo hb2
          have hz2 : w1.heap.size < w2.heap.size := by rw [← hw2]; simp
          have HC := Lib.hid hxl
          have HOB := Lib.hid hob
          clear hw2 hx hxx hxl hob hq hw hsh2
          obtain ⟨row, hbr⟩ := BldR.of hbl3
          have hlt1 : w.heap.size + 1 < w1.heap.size := (Array.getElem?_eq_some_iff.1 hit3).1
          have hr1 : row ≠ some w1.heap.size := fun h => by have := hbr.row_lt _ h; omega
          have hr2 : row ≠ some (w.heap.size + 1) := by
            rintro rfl
            obtain ⟨_, p, v, _, _, h3, _, h5⟩ := hbr
            obtain ⟨c, fz, hc⟩ := Lib.ownsRowF_kind h3 _ h5
            rw [hit3] at hc
            cases hc
          have hbr2 := hbr.below hb2
          have hit4 : w2.heap[w.heap.size + 1]? = some (.stringIter ⟨l.toArray⟩ (pos + n)) := (hb2.block _ hlt1).trans hit3
          have hB2 : Below w.heap.size w w2 := bt hB hb2
          rcases hqq with rfl | ⟨rfl, rfl⟩
          all_goals
            go_upto_region 10 with (fail)
            go_wp2
            go_loopw [42] (fun i wx => SiRel x acc w.heap.size (w.heap.size + 1) w1.heap.size n ob (.stringIter ⟨l.toArray⟩ (pos + n)) w i wx) (fun i _ => n - (intOf i).toNat)
            case atStart => exact ⟨0, row, rfl, Nat.zero_le _, by simpa using hbr2, hr1, hr2, hgo, hit4, hB2⟩
            case round =>
              obtain ⟨j, row', rfl, hj, hbr', hg1, hg2, hgx, hix, hBx⟩ := hrel
              clear hcv hsl
              by_cases hjn : j < n
              case pos =>
                have hjl : j < x.length := by rw [HC.out]; exact hjn
                have hfs := flat_snoc x j hjl
                have c0 := HOB.out wr _ hgx j hjl
                obtain ⟨b, hb0⟩ : ∃ b, (x[j]).toNat = b := ⟨_, rfl⟩
                have hb256 : b < 256 := by rw [← hb0]; exact UInt8.toNat_lt _
                have hbe : UInt8.ofNat b = x[j] := by rw [← hb0]; simp
                rw [← hbe] at hfs
                rw [hb0] at c0
                have hfl : ((x.take j).flatMap hexL).length ≤ 12 := by rw [hex_len]; simp; omega
                obtain ⟨a2, ha2⟩ : ∃ y, acc ++ (x.take j).flatMap hexL = y := ⟨_, rfl⟩
                have hl2 : a2.length ≤ 3 * l.length + 12 := by rw [← ha2, List.length_append]; omega
                have hfs2 : acc ++ (x.take (j + 1)).flatMap hexL = a2 ++ hexL (UInt8.ofNat b) := by rw [hfs, ← ha2, List.append_assoc]
                rw [ha2] at hbr'
                have HFS := Lib.hid hfs2
                clear hfs hfs2 hbe hb0 ha2 hfl
                have i0 : (0 : Int) ≤ (j : Int) := by omega
                have b0' : (0 : Int) ≤ (b : Int) := by omega
                have hd1 : ∀ w, (Instr.index 9 (.string ⟨#[48, 49, 50, 51, 52, 53, 54, 55, 56, 57, 65, 66, 67, 68, 69, 70]⟩) (.int .u8 ((b : Int) / 16))).run Tryd.prog w = _ := fun w => dig_at w (b / 16) (by omega) _ (by omega)
                have hd2 : ∀ w, (Instr.index 9 (.string ⟨#[48, 49, 50, 51, 52, 53, 54, 55, 56, 57, 65, 66, 67, 68, 69, 70]⟩) (.int .u8 ((b : Int) % 16))).run Tryd.prog w = _ := fun w => dig_at w (b % 16) (by omega) _ (by omega)
                have ha15 := and15 b hb256
                have hcv3 : (convert 40 9 (.slice (some ⟨wr.heap.size, 0, none⟩) 3 3)).run Tryd.prog (wr.alloc (.cells #[.int .u8 37, .int .u8 ((digL (b / 16)).toNat : Int), .int .u8 ((digL (b % 16)).toNat : Int)] 5)).drew = .ok (.string ⟨(hexL (UInt8.ofNat b)).toArray⟩) (wr.alloc (.cells #[.int .u8 37, .int .u8 ((digL (b / 16)).toNat : Int), .int .u8 ((digL (b % 16)).toNat : Int)] 5)).drew := conv_hex wr.drew 3 b hb256 _ _ rfl rfl
                obtain ⟨hx3, hh3⟩ : ∃ y, hexL (UInt8.ofNat b) = y := ⟨_, rfl⟩
                have hl3 : hx3.length = 3 := by subst hh3; rfl
                have hl3' : hx3.length ≤ 3 := by omega
                rw [hh3] at hcv3
                have H3 := Lib.hid hh3
                clear hh3 hl3
                go_wp2_with fail
                go_still_tail 6, (by kernel_rfl)
                go_wp2_with fail
                have hbr3 := hbr'.below (w' := (wr.alloc (.cells #[.int .u8 37, .int .u8 ((digL (b / 16)).toNat : Int), .int .u8 ((digL (b % 16)).toNat : Int)] 5)).drew) (Below.drew (bal (b0 wr) _))
                have hgl := (Array.getElem?_eq_some_iff.1 hgx).1
                have hil := (Array.getElem?_eq_some_iff.1 hix).1
                have hBxs := hBx.size
                refine (bstr_row w.heap.size w.heap.size row' _ _ _ hbr3 (by rw [byteCells_len, size_mk]; omega) (by simp; omega)).mono ?_
                rintro e w3 ⟨rfl, row2, hbr4, hrow, hb3, hk3⟩
                rw [byteCells_str, ← byteCells_app] at hbr4
                have hB3 : Below w.heap.size w w3 := (Below.drew (bal hBx _)).trans hb3
                have hgx3 : w3.heap[w1.heap.size]? = some ob := hk3 _ _ ((Lib.alloc_old wr _ _ hgl).trans hgx) (by omega) (Ne.symm hg1)
                have hix3 : w3.heap[w.heap.size + 1]? = some (.stringIter ⟨l.toArray⟩ (pos + n)) := hk3 _ _ ((Lib.alloc_old wr _ _ hil).trans hix) (by omega) (Ne.symm hg2)
                have hrow1 : row2 ≠ some w1.heap.size := by
                  rcases hrow with rfl | ⟨g', rfl, hg'⟩
                  · exact hg1
                  · intro h; injection h with h; simp at hg'; omega
                have hrow2 : row2 ≠ some (w.heap.size + 1) := by
                  rcases hrow with rfl | ⟨g', rfl, hg'⟩
                  · exact hg2
                  · intro h; injection h with h; simp at hg'; omega
                clear hrow hb3 hk3 hbr3 hcv3 hd1 hd2 ha15 c0 hbr' hgx hix hit4 hgo
                go_wp2
                go_roundw
                case rel => exact ⟨j + 1, row2, by go_num, by omega, by rw [HFS.out, H3.out]; exact hbr4, hrow1, hrow2, hgx3, hix3, hB3⟩
                case measure => simp [intOf]; omega
              case neg =>
                have hje : j = n := by omega
                subst hje
                go_wp2
                have hxj : x.take j = x := by rw [← HC.out]; exact List.take_length
                rw [hxj] at hbr'
                exact ⟨⟨pos + j, _, by omega, HX.out, hix, hbr'.to, hBx⟩, hm _ hix⟩
      case neg =>
        have hpe : pos = l.length := by omega
        subst hpe
        have hp' : ¬ l.length < (⟨l.toArray⟩ : ByteArray).size := by rw [size_mk]; exact hp
        have hnx : ∀ ty, (Instr.next (.pointer (some ⟨w.heap.size + 1, 0, none⟩)) true ty).run Tryd.prog wr = _ := fun ty => Lib.run_next_end_at wr (w.heap.size + 1) ⟨l.toArray⟩ l.length ty hit hp'
        have hf : showT l = acc := by rw [HP.out, List.drop_length, showT_nil, List.append_nil]
        have HF := Lib.hid hf
        clear hf
        go_wp2_with fail
        refine (Tryd.Builder_String_any_k w.heap.size w.heap.size acc _ hbl hbw.size).mono ?_
        rintro e w3 ⟨rfl, _, hb3, _⟩
        go_wp2
        go_ret
        exact ⟨by rw [HS.out, HF.out] <;> rfl, hbw.trans hb3⟩
end Go.Proofs.YtclddkdchlcpeaaDoor
