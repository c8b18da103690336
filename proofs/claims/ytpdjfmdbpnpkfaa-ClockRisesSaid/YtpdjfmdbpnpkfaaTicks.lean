/- Slices of ticks (an int, a bool, a stamp), opened. -/
import Derived.Test.YtpdjfmdbpnpkfaaRows0
import Derived.Test.YtpdjfmdbpnpkfaaOpen
namespace Go.Proofs.Ytpdjfmdbpnpkfaa
open Go.ChangeShapes Go.WideShapes Go.ChangeAt Go.RowKit Go.Deep
structure Tk where
  wl : Int
  hears : Bool
  a : Int
  t : Int
  n : Int
  deriving Inhabited
def tkC (a : Tk) : List Value := [.int .i64 a.wl, .bool a.hears, .int .i64 a.a, .int .i64 a.t, .int .i64 a.n]
def tkOk (_a : Tk) : Prop := True
section
variable {H : Type} {enc : TypeId × Value → H} {P : Program} {w : World} {held : Bool}
theorem open_tk {e ti tb ts : TypeId} {f0 f1 f2 g0 g1 g2 : Field} (hs : P.underlying e = some (.struct #[f0, f1, f2])) (hi : P.underlying ti = some (.int .i64)) (hb : P.underlying tb = some .bool) (hst : P.underlying ts = some (.struct #[g0, g1, g2]))
    (e0 : f0.type = ti ∧ f0.offset = 0) (e1 : f1.type = tb ∧ f1.offset = 1) (e2 : f2.type = ts ∧ f2.offset = 2) (k0 : g0.type = ti ∧ g0.offset = 0) (k1 : g1.type = ti ∧ g1.offset = 1) (k2 : g2.type = ti ∧ g2.offset = 2)
    (hc : P.cellsOf ti = 1) (hcb : P.cellsOf tb = 1) (hcs : P.cellsOf ts = 3) (hct : P.cellsOf e = 5)
    (n : Nat) (l : List Value) (y : DataW H × List MemPlace) (h : DataW.trod enc P w 0 (fun _ => true) held n e l = some y) : ∃ x : Tk, l = tkC x ∧ tkOk x := by
  obtain ⟨xs, m, _, _, hlen, hxs, hf⟩ := DataW.trod_struct hs h
  rw [hct] at hlen
  match l, hlen, xs, hxs with
  | [c0, c1, c2, c3, c4], _, [y0, y1, y2], _ =>
    have h0 := hf 0 f0 rfl
    have h1 := hf 1 f1 rfl
    have h2 := hf 2 f2 rfl
    rw [e0.1, e0.2, hc] at h0
    rw [e1.1, e1.2, hcb] at h1
    rw [e2.1, e2.2, hcs] at h2
    obtain ⟨a, ha, _, _⟩ := DataW.trod_int hi h0
    obtain ⟨q, hq, _⟩ := DataW.trod_bool hb h1
    obtain ⟨a', t', n', hst', _, _, _⟩ := trod_ints3 hst hi k0 k1 k2 hc hcs h2
    simp at ha hq hst'
    obtain ⟨r2, r3, r4⟩ := hst'
    exact ⟨⟨a, q, a', t', n'⟩, by rw [ha, hq, r2, r3, r4]; rfl, trivial⟩
end
end Go.Proofs.Ytpdjfmdbpnpkfaa
