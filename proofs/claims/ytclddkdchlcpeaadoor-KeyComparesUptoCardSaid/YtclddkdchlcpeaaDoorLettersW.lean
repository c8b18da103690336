/- The walk of key.Letters, and string(l) of its letters. -/
import Derived.Test.YtclddkdchlcpeaaDoorRefReadW
import Derived.Test.YtclddkdchlcpeaaDoorKey4
import Derived.Laws.Cover4
namespace Go.Proofs.YtclddkdchlcpeaaDoor
open Go.RowKit
attribute [local go_sem] ByteArray.mk_append_mk ByteArray.extract_mk
attribute [local go_sem ↓] Go.wp_at_zero Go.wp_at_succ
theorem infoR : (Tryd.prog.info? 21).map (fun i => (i.zero, i.size, i.bytes)) = some (some (.int .i32 0), 1, 4) := by kernel_rfl
/-- a rune as a cell -/
def rv (n : Nat) : Value := .int .i32 (n : Int)
/-- runes in a row of the call's own -/
def OwnRunes (w : World) (ns : List Nat) (e : Ending) (w' : World) : Prop :=
  ∃ A cap, e = .returned (.slice A ns.length cap) ∧ w'.ownsRow w.heap.size 21 1 (.slice A ns.length cap) ns.length (ns.map rv) ∧ Below w.heap.size w w'
theorem own_lower {w : World} {base base' s n : Nat} {e : TypeId} {v : Value} {xs : List Value} (h : w.ownsRow base e s v n xs) (hb : base' ≤ base) : w.ownsRow base' e s v n xs := by
  refine ⟨h.1, ?_⟩
  rcases h.2 with h0 | ⟨g, cap, cur, hv, hbg, rest⟩
  · exact .inl h0
  · exact .inr ⟨g, cap, cur, hv, by omega, rest⟩
theorem own_runes {w w' : World} {ns : List Nat} {e : Ending} {v : Value} (he : e = .returned v) (hown : w'.ownsRow (w.heap.size + 1) 21 1 v ns.length (ns.map rv)) (hb : Below w.heap.size w w') : OwnRunes w ns e w' := by
  obtain ⟨A, cap, hv⟩ := own_slice hown
  subst hv
  exact ⟨A, cap, he, own_lower hown (Nat.le_succ _), hb⟩
theorem own_iter {w : World} {base s n : Nat} {e : TypeId} {v : Value} {xs : List Value} (h : w.ownsRow base e s v n xs) {k : Nat} (hk : k < base) (b : ByteArray) (pos : Nat) : (w.iterAt k b pos).ownsRow base e s v n xs := by
  refine ⟨h.1, ?_⟩
  rcases h.2 with h0 | ⟨g, cap, cur, hv, hbg, hg, rest⟩
  · exact .inl h0
  · exact .inr ⟨g, cap, cur, hv, hbg, (Lib.iterAt_other w k g b pos (by omega)).trans hg, rest⟩
def KlRel (l : List UInt8) (w : World) (v : Value) (wr : World) : Prop :=
  ∃ (pos : Nat) (pre : List Nat), pos ≤ l.length ∧ pre.length ≤ pos ∧ lettersL l = pre ++ lettersL (l.drop pos) ∧ wr.heap[w.heap.size]? = some (.stringIter ⟨l.toArray⟩ pos) ∧
    wr.ownsRow (w.heap.size + 1) 21 1 v pre.length (pre.map rv) ∧ Below w.heap.size w wr
set_option maxHeartbeats 800000 in
set_option maxRecDepth 100000 in
theorem keyletters_any (l : List UInt8) (hl : l.length ≤ 1099511627776) (w : World) :
    Calls Tryd.prog 19 #[.string ⟨l.toArray⟩] w (OwnRunes w (lettersL l)) := by
  obtain ⟨i0, hi, hz0, hz1, hz2⟩ := info_parts infoR
  go_enter Tryd.func19, Tryd.ntmps19
  go_wp2
  go_loopw [3] (fun v wr => KlRel l w v wr) (fun _ wr => l.length - wr.iterPos w.heap.size)
  case atStart => exact ⟨0, [], Nat.zero_le _, Nat.zero_le _, rfl, World.iter_heap w ⟨l.toArray⟩ 0, World.ownsRow_nil _ _ _ _, (Below.refl _ w).alloc (Nat.le_refl _) _⟩
  case round =>
    obtain ⟨pos, pre, hpos, hpre, hls, hit, hown, hbw⟩ := hrel
    have HL := Lib.hid hls
    clear hls
    have hsz : w.heap.size < wr.heap.size := (Array.getElem?_eq_some_iff.1 hit).1
    by_cases hp : pos < l.length
    case pos =>
      have hp' : pos < (⟨l.toArray⟩ : ByteArray).size := by rw [size_mk]; exact hp
      have hnx : ∀ ty, (Instr.next (.pointer (some ⟨w.heap.size, 0, none⟩)) true ty).run Tryd.prog wr = _ := fun ty => Lib.run_next_any_at wr w.heap.size ⟨l.toArray⟩ pos ty hit hp'
      rw [decode_eq] at hnx
      have hne := drop_ne hp
      have hst := letters_cons (l.drop pos) hne
      rw [List.drop_drop] at hst
      have hwd := (decL_pos (l.drop pos)).1
      have hwl := decL_le (l.drop pos) hne
      rw [List.length_drop] at hwl
      obtain ⟨r, hr⟩ : ∃ r, (decL (l.drop pos)).1 = r := ⟨_, rfl⟩
      obtain ⟨n, hn⟩ : ∃ n, (decL (l.drop pos)).2 = n := ⟨_, rfl⟩
      rw [hr, hn] at hst hnx
      rw [hn] at hwl hwd
      have hit2 := Lib.iterAt_heap wr w.heap.size ⟨l.toArray⟩ pos (pos + n) hit
      have hbw2 := Lib.below_iterAt hbw (k := w.heap.size) (Nat.le_refl _) ⟨l.toArray⟩ (pos + n)
      have hown2 := own_iter hown (Nat.lt_succ_self _) ⟨l.toArray⟩ (pos + n)
      have hit0 := Lib.hid hit
      have hsz2 : (wr.iterAt w.heap.size ⟨l.toArray⟩ (pos + n)).heap.size = wr.heap.size := Lib.iterAt_size _ _ _ _
      have hsz3 := Nat.le_of_eq hsz2.symm
      have hp2 : lettersL l = (pre ++ [r]) ++ lettersL (l.drop (pos + n)) := by rw [HL.out, hst]; simp
      have HP2 := Lib.hid hp2
      clear hst hr hn hne hp2 hit hbw hown hsz2
      go_wp2_with (at_builtin; refine wpList_push (by rfl) _ _ _ (by rfl) (w.heap.size + 1) 21 i0 (.int .i32 0) 4 Tryd.underlying33 hi hz0 hz1 hz2 rfl (wr.iterAt w.heap.size ⟨l.toArray⟩ (pos + n)) _ pre.length (pre.map rv) (by rfl) hown2 (rv r) rfl 1 (by rfl) (by omega) (by omega) (by omega) ?_; intro g cap w2 hown3 hb2)
      go_roundw
      case rel => exact ⟨pos + n, pre ++ [r], by omega, by simp; omega, HP2.out, (hb2.block _ (Nat.lt_succ_self _)).trans hit2, by rw [List.map_append, List.length_append]; exact hown3, hbw2.trans (hb2.mono (Nat.le_succ _))⟩
      case measure =>
        have hit3 := (hb2.block _ (Nat.lt_succ_self _)).trans hit2
        simp only [World.iterPos, hit3, hit0.out]
        omega
    case neg =>
      have hpe : pos = l.length := by omega
      subst hpe
      have hp' : ¬ l.length < (⟨l.toArray⟩ : ByteArray).size := by rw [size_mk]; exact hp
      have hnx : ∀ ty, (Instr.next (.pointer (some ⟨w.heap.size, 0, none⟩)) true ty).run Tryd.prog wr = _ := fun ty => Lib.run_next_end_at wr w.heap.size ⟨l.toArray⟩ l.length ty hit hp'
      have hp2 : lettersL l = pre := by rw [HL.out, List.drop_length, letters_nil, List.append_nil]
      have HP2 := Lib.hid hp2
      clear hp2
      go_wp2
      go_ret
      rw [HP2.out]
      exact own_runes rfl hown hbw
/-- string(l) of runes that are letters -/
theorem runes_flat (ns : List Nat) (h : ∀ c ∈ ns, okC c) : runesBytes (ns.map fun n : Nat => (n : Int)) = ⟨(ns.flatMap encN).toArray⟩ := by
  have enc : ∀ c, okC c → Utf8.encode (c : Int) = ⟨(encN c).toArray⟩ := by
    intro c hc
    have hv : Utf8.valid (c : Int) = true := by rw [valid_ok]; simpa using hc
    unfold Utf8.encode encN
    rw [if_pos hv]
    simp only [Int.toNat_natCast]
    split
    · rfl
    · split
      · rfl
      · split <;> rfl
  have : ∀ (ns : List Nat) (s : List UInt8), (∀ c ∈ ns, okC c) → (ns.map fun n : Nat => (n : Int)).foldl (fun r n => r ++ Utf8.encode n) (⟨s.toArray⟩ : ByteArray) = ⟨(s ++ ns.flatMap encN).toArray⟩ := by
    intro ns
    induction ns with
    | nil => intro s _; simp
    | cons n ns ih =>
      intro s hh
      have h2 := ih (s ++ encN n) (fun c hc => hh c (by simp [hc]))
      simp only [List.map_cons, List.foldl_cons, List.flatMap_cons]
      rw [enc n (hh n (by simp)), ByteArray.mk_append_mk]
      rw [← List.append_assoc, ← h2]
  have h2 := this ns [] h
  unfold runesBytes
  rw [List.nil_append] at h2
  exact h2
end Go.Proofs.YtclddkdchlcpeaaDoor
