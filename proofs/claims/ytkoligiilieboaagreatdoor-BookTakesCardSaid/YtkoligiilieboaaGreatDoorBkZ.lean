/- The writer's shard. -/
import Derived.Test.YtkoligiilieboaaGreatDoorBkY4
import Derived.Test.YtkoligiilieboaaGreatDoorBkH
set_option linter.unusedSimpArgs false
set_option linter.unusedVariables false
namespace Go.Proofs.YtkoligiilieboaaGreatDoor
open Go.RowKit
attribute [local go_sem] ByteArray.mk_append_mk ByteArray.extract_mk
attribute [local go_sem ↓] Go.wp_at_zero Go.wp_at_succ
section
variable {base gw : Nat} {W w w1 : World}
end
theorem take_full {α : Type} (l : List α) (n : Nat) (h : l.length = n) : l.take n = l := List.take_of_length_le (by omega)
structure WOk (s : Sh) : Prop where
  num : ∀ z ∈ [s.id, s.epoch, s.phase, s.hold, s.seen, s.move, s.closed], z ≤ 9223372036854775807
  lo : s.lo.length ≤ 16
  hi : s.hi.length ≤ 16
  en : s.es.length ≤ 64
  es : ∀ e ∈ s.es, e.key.length ≤ 16 ∧ e.vs.length ≤ 64 ∧ ∀ v ∈ e.vs, v.val.length ≤ 16
  dn : s.ds.length ≤ 8
  ds : ∀ d ∈ s.ds, (∀ z ∈ [d.cl, d.rq, d.ans.er], z ≤ 9223372036854775807) ∧ d.ans.vl.length ≤ 16
theorem wok_of {s : Sh} (h : shB s = true) : WOk s := by
  obtain ⟨h1, h2, h3, h4, h5, h6, _⟩ := shB_parts h
  obtain ⟨⟨a1, a2⟩, ⟨b1, b2⟩, ⟨c1, c2⟩, ⟨d1, d2⟩, ⟨e1, e2⟩, ⟨f1, f2⟩, g1, g2⟩ := numB_parts h1
  have l1 := lo_len h2
  have l2 := hi_len h2
  simp only at l1 l2
  unfold ixB at h3
  simp only [Bool.and_eq_true, decide_eq_true_eq] at h3
  unfold ddB at h6
  simp only [Bool.and_eq_true, decide_eq_true_eq] at h6
  refine ⟨?_, by omega, by omega, h3.1, fun e he => ?_, h6.1, fun d hd => ?_⟩
  · intro z hz
    simp only [List.mem_cons, List.not_mem_nil, or_false] at hz
    rcases hz with rfl | rfl | rfl | rfl | rfl | rfl | rfl <;> omega
  · obtain ⟨k1, k2, k3, k4⟩ := enB_parts (rowB_mem h3.2 he)
    exact ⟨k1, k2, fun v hv => (vsB_parts (rowB_mem k4 hv)).2⟩
  · obtain ⟨p1, p2, p3, _, p4⟩ := dnB_parts (rowB_mem h6.2 hd)
    refine ⟨?_, p4⟩
    intro z hz
    simp only [List.mem_cons, List.not_mem_nil, or_false] at hz
    rcases hz with rfl | rfl | rfl <;> omega
theorem enBy_len2 {e : En} (h : e.key.length ≤ 16 ∧ e.vs.length ≤ 64 ∧ ∀ v ∈ e.vs, v.val.length ≤ 16) : (enBy e).length ≤ 4000 := by
  have h1 := chBy_len e.vs h.2.2
  have h2 := texts1 e.key
  have h3 := numsB_len [(e.n : Int)]
  simp only [List.length_cons, List.length_nil] at h3
  unfold enBy
  simp only [List.length_append]
  omega
end Go.Proofs.YtkoligiilieboaaGreatDoor
