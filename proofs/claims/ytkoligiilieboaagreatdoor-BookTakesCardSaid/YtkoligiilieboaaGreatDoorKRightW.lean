/- The walks of key.Right and of the document's Compare of keys. -/
import Derived.Test.YtkoligiilieboaaGreatDoorKeyW
import Derived.Test.YtkoligiilieboaaGreatDoorRef4W
import Derived.Test.YtkoligiilieboaaGreatDoorMgA
import Derived.Lib.OthersKept
set_option linter.unusedSimpArgs false
set_option linter.unusedVariables false
namespace Go.Proofs.YtkoligiilieboaaGreatDoor
open Go.RowKit
attribute [local go_sem] ByteArray.mk_append_mk ByteArray.extract_mk
def KRel (l : List UInt8) (w wr : World) : Prop :=
 ∃ pos : Nat, pos ≤ l.length ∧ plainL l = plainL (l.drop pos) ∧ wr.heap[w.heap.size]? = some (.stringIter ⟨l.toArray⟩ pos) ∧ Below w.heap.size w wr
theorem drop_ne {l : List UInt8} {pos : Nat} (h : pos < l.length) : l.drop pos ≠ [] := by
 intro e
 have := congrArg List.length e
 rw [List.length_drop] at this
 simp at this
 omega
set_option maxHeartbeats 800000 in
set_option maxRecDepth 100000 in
theorem keyright_any (l : List UInt8) (hl : l.length ≤ 9223372036854775807) (w : World) (hT : Go.Lib.Utf8Tabs 0 1 w) :
  Calls Tryz.prog 101 #[.string ⟨l.toArray⟩] w fun e w' => e = .returned (.bool (rightL l)) ∧ Below w.heap.size w w' := by
 go_enter Tryz.func101, Tryz.ntmps101
 go_wp2
 go_loopw [] (fun wr => KRel l w wr) (fun wr => l.length - wr.iterPos w.heap.size)
 case atStart => exact ⟨0, Nat.zero_le _, rfl, World.iter_heap w ⟨l.toArray⟩ 0, (Below.refl _ w).alloc (Nat.le_refl _) _⟩
 case round =>
  obtain ⟨pos, hpos, hpl, hit, hbw⟩ := hrel
  have HP := Lib.hid hpl
  clear hpl
  have hsz : w.heap.size < wr.heap.size := (Array.getElem?_eq_some_iff.1 hit).1
  by_cases hp : pos < l.length
  case pos =>
   have hp' : pos < (⟨l.toArray⟩ : ByteArray).size := by rw [size_mk]; exact hp
   have hnx : ∀ ty, (Instr.next (.pointer (some ⟨w.heap.size, 0, none⟩)) true ty).run Tryz.prog wr = _ := fun ty => Lib.run_next_any_at wr w.heap.size ⟨l.toArray⟩ pos ty hit hp'
   rw [decode_eq] at hnx
   have hne := drop_ne hp
   have hst := plain_cons (l.drop pos) hne
   rw [List.drop_drop] at hst
   have hwd := (decL_pos (l.drop pos)).1
   have hwl := decL_le (l.drop pos) hne
   rw [List.length_drop] at hwl
   have DA := decode_any (l.drop pos) hne
   have hmx := decL_max (l.drop pos)
   obtain ⟨r, hr⟩ : ∃ r, (decL (l.drop pos)).1 = r := ⟨_, rfl⟩
   obtain ⟨n, hn⟩ : ∃ n, (decL (l.drop pos)).2 = n := ⟨_, rfl⟩
   rw [hr, hn] at DA hst
   rw [hr, hn] at hnx
   rw [hr] at hmx
   rw [hn] at hwl hwd
   have hit2 := Lib.iterAt_heap wr w.heap.size ⟨l.toArray⟩ pos (pos + n) hit
   have hbw2 := Lib.below_iterAt hbw (k := w.heap.size) (Nat.le_refl _) ⟨l.toArray⟩ (pos + n)
   have hT2 := Utf8Tabs_below hT hbw2
   have hit0 := Lib.hid hit
   have hsz2 : w.heap.size < (wr.iterAt w.heap.size ⟨l.toArray⟩ (pos + n)).heap.size := by rw [Lib.iterAt_size]; omega
   have HS := Lib.hid hst
   have e1 : List.take (l.length - pos) (List.drop pos l) = l.drop pos := by rw [← List.length_drop]; exact List.take_length
   have E1 := Lib.hid e1
   clear hst hr hn hne e1
   go_wp2_with fail
   rw [E1.out]
   refine (DA _ hT2).mono ?_
   rintro e w1 ⟨rfl, hb1⟩
   have hit3 : w1.heap[w.heap.size]? = some (.stringIter ⟨l.toArray⟩ (pos + n)) := (hb1.block _ hsz2).trans hit2
   have hb1s := hb1.size
   have hB := hbw2.trans (hb1.mono hbw2.size)
   have hT3 := Utf8Tabs_below hT hB
   clear hit2 hbw2 hT2 hnx hit hbw
   cases hb : plainB r n
   case false =>
    have HB := Lib.hid hb
    clear hb
    go_wp2_with fail
    refine (plain_any r n _).mono ?_
    rintro e w2 ⟨rfl, rfl⟩
    rw [plainI_nat, HB.out]
    go_wp2
    go_ret
    exact ⟨by rw [rightL, HP.out, HS.out, HB.out]; rfl, hB⟩
   case true =>
    have HB := Lib.hid hb
    clear hb
    go_wp2_with fail
    refine (plain_any r n _).mono ?_
    rintro e w2 ⟨rfl, rfl⟩
    rw [plainI_nat, HB.out]
    go_wp2
    go_roundw
    case rel => exact ⟨pos + n, by omega, by rw [HP.out, HS.out, HB.out]; rfl, hit3, hB⟩
    case measure =>
     simp only [World.iterPos, hit3, hit0.out]
     omega
  case neg =>
   have hpe : pos = l.length := by omega
   subst hpe
   have hp' : ¬ l.length < (⟨l.toArray⟩ : ByteArray).size := by rw [size_mk]; exact hp
   have hnx : ∀ ty, (Instr.next (.pointer (some ⟨w.heap.size, 0, none⟩)) true ty).run Tryz.prog wr = _ := fun ty => Lib.run_next_end_at wr w.heap.size ⟨l.toArray⟩ l.length ty hit hp'
   have hr : rightL l = (decide (1 ≤ l.length) && decide (l.length ≤ 16)) := by
    have hpl2 : plainL l = true := by rw [HP.out, List.drop_length]; rfl
    unfold rightL
    rw [hpl2]
    rfl
   have HR := Lib.hid hr
   clear hr
   by_cases h1 : 1 ≤ l.length
   case pos =>
    by_cases h2 : l.length ≤ 16
    case pos =>
     go_wp2
     go_ret
     exact ⟨by rw [HR.out]; simp [h1, h2]; omega, hbw⟩
    case neg =>
     go_wp2
     go_ret
     exact ⟨by rw [HR.out]; simp [h1, h2]; omega, hbw⟩
   case neg =>
    go_wp2
    go_ret
    exact ⟨by rw [HR.out]; simp [h1], hbw⟩
end Go.Proofs.YtkoligiilieboaaGreatDoor
