/- Places and leads, as rows. -/
import Derived.Test.YtbggohdpaodkeaaDoorRows0
import Derived.Test.YtbggohdpaodkeaaDoorSpan
namespace Go.Proofs.YtbggohdpaodkeaaDoor
structure Pl where
  lo : List UInt8
  hi : List UInt8
  sh : Int
  ce : Int
  ep : Int
instance : Inhabited Pl := ⟨⟨[], [], 0, 0, 0⟩⟩
def plC (p : Pl) : List Value := [.string ⟨p.lo.toArray⟩, .string ⟨p.hi.toArray⟩, .int .i64 p.sh, .int .i64 p.ce, .int .i64 p.ep]
def plOk (p : Pl) : Prop := p.lo.length ≤ 9223372036854775807 ∧ p.hi.length ≤ 9223372036854775807
def ldC (n : Int) : List Value := [.int .i64 n]
theorem plc_cells {w : World} {B : Nat} {A : Option Addr} {ps : List Pl} (hR : RdR plC 5 w B A ps) (k : Nat) (hk : k < ps.length) :
    ∃ b off, A = some ⟨b, off, none⟩ ∧ b < B ∧ w.cell? ⟨b, off + k * 5, none⟩ = some (.string ⟨ps[k].lo.toArray⟩) ∧ w.cell? ⟨b, off + k * 5 + 1, none⟩ = some (.string ⟨ps[k].hi.toArray⟩) ∧
      w.cell? ⟨b, off + k * 5 + 2, none⟩ = some (.int .i64 ps[k].sh) ∧ w.cell? ⟨b, off + k * 5 + 3, none⟩ = some (.int .i64 ps[k].ce) ∧ w.cell? ⟨b, off + k * 5 + 4, none⟩ = some (.int .i64 ps[k].ep) := by
  obtain ⟨b, off, hA, hb, hc⟩ := hR (by omega)
  exact ⟨b, off, hA, hb, hc k hk 0 _ rfl, hc k hk 1 _ rfl, hc k hk 2 _ rfl, hc k hk 3 _ rfl, hc k hk 4 _ rfl⟩
theorem ldc_cells {w : World} {B : Nat} {A : Option Addr} {ls : List Int} (hR : RdR ldC 1 w B A ls) (k : Nat) (hk : k < ls.length) :
    ∃ b off, A = some ⟨b, off, none⟩ ∧ b < B ∧ w.cell? ⟨b, off + k, none⟩ = some (.int .i64 ls[k]) := by
  obtain ⟨b, off, hA, hb, hc⟩ := hR (by omega)
  exact ⟨b, off, hA, hb, by simpa using hc k hk 0 _ rfl⟩
end Go.Proofs.YtbggohdpaodkeaaDoor
