/- slices.Clone at places and at ints: the shelf's contract, applied. -/
import Derived.Shelf.SlicesE.Clone
import Derived.Test.YtbggohdpaodkeaaDoorProg
import Derived.Test.YtbggohdpaodkeaaDoorBase
namespace Go.Proofs.YtbggohdpaodkeaaDoor
open Go.Shelf Go.RowKit
def clP_ren : Go.Shelf.Ren := ⟨fun | 41 => 18 | n => n, fun | 22 => 22 | 23 => 59 | 4 => 4 | n => n, fun | n => n⟩
theorem clP_lay : Go.Proofs.SlLaysE0.n41 Tryd.prog clP_ren := {
  mixed := by kernel_rfl
  f41 := ⟨Tryd.f18.name, by decide, Tryd.func18.trans (congrArg some (by kernel_rfl))⟩
  t4 := Tryd.underlying4
  a4 := Tryd.isAgg4
  z4 := Tryd.sizeOf4
  v4 := Tryd.zeroValue4
  t22 := Tryd.underlying22
  a22 := Tryd.isAgg22
  z22 := Tryd.sizeOf22
  v22 := Tryd.zeroValue22 }
def clI_ren : Go.Shelf.Ren := ⟨fun | 41 => 19 | n => n, fun | 22 => 23 | 23 => 3 | 4 => 4 | n => n, fun | n => n⟩
theorem clI_lay : Go.Proofs.SlLaysE0.n41 Tryd.prog clI_ren := {
  mixed := by kernel_rfl
  f41 := ⟨Tryd.f19.name, by decide, Tryd.func19.trans (congrArg some (by kernel_rfl))⟩
  t4 := Tryd.underlying4
  a4 := Tryd.isAgg4
  z4 := Tryd.sizeOf4
  v4 := Tryd.zeroValue4
  t22 := Tryd.underlying23
  a22 := Tryd.isAgg23
  z22 := Tryd.sizeOf23
  v22 := Tryd.zeroValue23 }
theorem infoP : (Tryd.prog.info? 59).map (fun i => (i.zero, i.size, i.bytes)) = some (some (.agg #[.string ByteArray.empty, .string ByteArray.empty, .int .i64 0, .int .i64 0, .int .i64 0]), 5, 56) := by kernel_rfl
theorem infoI0 : (Tryd.prog.info? 3).map (fun i => (i.zero, i.size, i.bytes)) = some (some (.int .i64 0), 1, 8) := by kernel_rfl
/-- some slice comes back; what was there is as it was -/
def SomeSlice (w : World) (e : Ending) (w' : World) : Prop := ∃ A n c, e = .returned (.slice A n c) ∧ Below w.heap.size w w'
theorem clone_places (b off n c : Nat) (news : List Value) (w : World) (hl : news.length = n * 5) (hn : n ≤ 40) (hc : ∀ j u, news[j]? = some u → w.cell? ⟨b, off + j, none⟩ = some u) (h1 : ∀ u ∈ news, u.oneCell' = true) :
    Calls Tryd.prog 18 #[.slice (some ⟨b, off, none⟩) n c] w (SomeSlice w) := by
  obtain ⟨i0, hi, hz0, hz1, hz2⟩ := info_parts infoP
  refine (AnyE.slices_Clone clP_lay i0 _ 5 56 hi hz0 hz1 hz2 rfl (by decide) Tryd.sizeOf59 b off n c news w hl (by unfold maxLen; omega) (by omega) hc h1).mono ?_
  rintro e w' ⟨v', rfl, hown, _, hb⟩
  rcases hown.2 with ⟨hv, hn0⟩ | ⟨g, cap, cur, hv, _⟩
  · exact ⟨none, 0, 0, by rw [hv], hb⟩
  · exact ⟨_, _, _, by rw [hv], hb⟩
theorem clone_places_nil (n c : Nat) (w : World) : Calls Tryd.prog 18 #[.slice none n c] w (SomeSlice w) :=
  (AnyE.slices_Clone_nil clP_lay n c w).mono fun _ _ ⟨he, hw⟩ => ⟨none, 0, 0, he, by subst hw; exact b0 _⟩
theorem clone_ints (b off n c : Nat) (news : List Value) (w : World) (hl : news.length = n * 1) (hn : n ≤ 40) (hc : ∀ j u, news[j]? = some u → w.cell? ⟨b, off + j, none⟩ = some u) (h1 : ∀ u ∈ news, u.oneCell' = true) :
    Calls Tryd.prog 19 #[.slice (some ⟨b, off, none⟩) n c] w (SomeSlice w) := by
  obtain ⟨i0, hi, hz0, hz1, hz2⟩ := info_parts infoI0
  refine (AnyE.slices_Clone clI_lay i0 _ 1 8 hi hz0 hz1 hz2 rfl (by decide) Tryd.sizeOf3 b off n c news w hl (by unfold maxLen; omega) (by omega) hc h1).mono ?_
  rintro e w' ⟨v', rfl, hown, _, hb⟩
  rcases hown.2 with ⟨hv, hn0⟩ | ⟨g, cap, cur, hv, _⟩
  · exact ⟨none, 0, 0, by rw [hv], hb⟩
  · exact ⟨_, _, _, by rw [hv], hb⟩
theorem clone_ints_nil (n c : Nat) (w : World) : Calls Tryd.prog 19 #[.slice none n c] w (SomeSlice w) :=
  (AnyE.slices_Clone_nil clI_lay n c w).mono fun _ _ ⟨he, hw⟩ => ⟨none, 0, 0, he, by subst hw; exact b0 _⟩
end Go.Proofs.YtbggohdpaodkeaaDoor
