/- What stands while a shard is read; rows of entries, versions, dedup rows that the call owns. -/
import Derived.Test.YtkoligiilieboaaGreatDoorMgC
import Derived.Test.YtkoligiilieboaaGreatDoorBkZ2
set_option linter.unusedSimpArgs false
set_option linter.unusedVariables false
namespace Go.Proofs.YtkoligiilieboaaGreatDoor
open Go.RowKit
def vsF (l : List Vs) : List Value := l.flatMap vsC
def esF (l : List En) : List Value := l.flatMap enC
def dsF (l : List Dn) : List Value := l.flatMap dnC
def shsF (l : List Sh) : List Value := l.flatMap shC
theorem vsF_snoc (l : List Vs) (x : Vs) : vsF (l ++ [x]) = vsF l ++ vsC x := by simp [vsF]
theorem esF_snoc (l : List En) (x : En) : esF (l ++ [x]) = esF l ++ enC x := by simp [esF]
theorem dsF_snoc (l : List Dn) (x : Dn) : dsF (l ++ [x]) = dsF l ++ dnC x := by simp [dsF]
theorem shsF_snoc (l : List Sh) (x : Sh) : shsF (l ++ [x]) = shsF l ++ shC x := by simp [shsF]
theorem infoVs : (Tryz.prog.info? 105).map (fun i => (i.zero, i.size, i.bytes)) = some (some (.agg #[.int .i64 0, .int .i64 0, .int .i64 0, .bool false, .string ⟨#[]⟩]), 5, 48) := by kernel_rfl
theorem infoEn : (Tryz.prog.info? 100).map (fun i => (i.zero, i.size, i.bytes)) = some (some (.agg #[.string ⟨#[]⟩, .slice none 0 0]), 2, 40) := by kernel_rfl
theorem infoDn : (Tryz.prog.info? 108).map (fun i => (i.zero, i.size, i.bytes)) = some (some (.agg zdA), 11, 120) := by kernel_rfl
theorem infoSh : (Tryz.prog.info? 30).map (fun i => (i.zero, i.size, i.bytes)) = some (some (.agg zsA), 17, 184) := by kernel_rfl
section
variable {g : Nat} {w w1 : World}
theorem Kr.cells {b : Nat} (h : Kr g w w1) (hg : g < w.heap.size) (hb : w.heap.size ≤ b) (o : Nat) (vs : List Value) : Kr g w (w1.setCells b o vs) :=
 ⟨below_setCells vs (by omega) o w1 h.below, fun j T cs hj hB => (h.kept j T cs hj hB).setCells_far vs (by have := hB.lt; omega) o w1⟩
theorem Kr.grow (h : Kr g w w1) {w2 : World} (hg : g < w.heap.size) (hb : Below w.heap.size w1 w2) : Kr g w w2 :=
 ⟨h.below.trans (hb.mono (Nat.le_of_lt hg)), fun j T cs hj hB => (h.kept j T cs hj hB).below hb hB.lt⟩
end
theorem own_base {w : World} {base base' size n : Nat} {e : TypeId} {v : Value} {xs : List Value} (h : w.ownsRow base e size v n xs) (hb : base' ≤ base) : w.ownsRow base' e size v n xs := by
 refine ⟨h.1, ?_⟩
 rcases h.2 with h0 | ⟨r, cap, cur, hv, hbg, rest⟩
 · exact .inl h0
 · exact .inr ⟨r, cap, cur, hv, Nat.le_trans hb hbg, rest⟩
structure RB (w : World) (gr gz gs : Nat) (sc : Array Value) (r : RS) (W : World) : Prop where
 kr : Kr gr w W
 lr : gr < w.heap.size
 lz : w.heap.size ≤ gz
 ls : gz < gs
 br : Blk W gr 70 (rsA r)
 bz : Blk W gz 30 zsA
 bs : Blk W gs 30 sc
section
variable {w W W' : World} {gr gz gs : Nat} {sc : Array Value} {r r' : RS}
theorem RB.nz (h : RB w gr gz gs sc r W) : gz ≠ gr := by have := h.lr; have := h.lz; omega
theorem RB.ns (h : RB w gr gz gs sc r W) : gs ≠ gr := by have := h.lr; have := h.lz; have := h.ls; omega
theorem RB.glt (h : RB w gr gz gs sc r W) : gr < W.heap.size := h.br.lt
theorem RB.call (h : RB w gr gz gs sc r W) (hB : Blk W' gr 70 (rsA r')) (hk : Kr gr W W') : RB w gr gz gs sc r' W' :=
 ⟨h.kr.trans hk, h.lr, h.lz, h.ls, hB, hk.kept _ _ _ h.nz h.bz, hk.kept _ _ _ h.ns h.bs⟩
theorem RB.sets (h : RB w gr gz gs sc r W) (i : Nat) (v : Value) : RB w gr gz gs (sc.setIfInBounds i v) r (W.setCell ⟨gs, i, none⟩ v) :=
 ⟨h.kr.far h.lr (by have := h.lz; have := h.ls; omega) i v, h.lr, h.lz, h.ls, h.br.far (p := ⟨gs, i, none⟩) (by have := h.ns; show gr ≠ gs; omega) v, h.bz.far (p := ⟨gs, i, none⟩) (by have := h.ls; show gz ≠ gs; omega) v, h.bs.set i v⟩
theorem RB.drew (h : RB w gr gz gs sc r W) : RB w gr gz gs sc r W.drew := ⟨h.kr.drew, h.lr, h.lz, h.ls, h.br.drew, h.bz.drew, h.bs.drew⟩
theorem RB.grow {e : TypeId} (h : RB w gr gz gs sc r W) (hb : Below w.heap.size W W') (hk : ∀ g T cs, T ≠ e → Blk W g T cs → Blk W' g T cs) (h1 : 30 ≠ e) (h2 : 70 ≠ e) : RB w gr gz gs sc r W' :=
 ⟨h.kr.grow h.lr hb, h.lr, h.lz, h.ls, hk _ _ _ h2 h.br, hk _ _ _ h1 h.bz, hk _ _ _ h1 h.bs⟩
end
def OwnCh (B : Nat) (es : List En) (W : World) : Prop := ∀ e ∈ es, W.ownsRow B 105 5 (.slice e.A e.n e.c) e.n (vsF e.vs) ∧ e.vs.length = e.n ∧ e.n ≤ 4194304
section
variable {W W' : World} {B g : Nat} {es : List En} {T : TypeId} {cs : Array Value}
theorem OwnCh.kept (h : OwnCh B es W) (hk : ∀ i T cs, i ≠ g → Blk W i T cs → Blk W' i T cs) (hB : Blk W g T cs) (hT : T ≠ 105) : OwnCh B es W' := fun e he => ⟨own_kept (h e he).1 hk hB hT, (h e he).2⟩
theorem OwnCh.keptT {e1 : TypeId} (h : OwnCh B es W) (hk : ∀ i T cs, T ≠ e1 → Blk W i T cs → Blk W' i T cs) (hT : 105 ≠ e1) : OwnCh B es W' := fun e he => ⟨own_keptT (h e he).1 hk hT, (h e he).2⟩
theorem OwnCh.setT (h : OwnCh B es W) {p : Addr} (u : Value) (hB : Blk W p.block T cs) (hT : T ≠ 105) : OwnCh B es (W.setCell p u) := fun e he => ⟨own_setT (h e he).1 u hB hT, (h e he).2⟩
theorem OwnCh.rowT (h : OwnCh B es W) (hB : Blk W g T cs) (hT : T ≠ 105) (vs : Array Value) : OwnCh B es (W.setRow g vs) := fun e he => ⟨own_rowT (h e he).1 hB hT vs, (h e he).2⟩
theorem OwnCh.snoc (h : OwnCh B es W) {x : En} (h1 : W.ownsRow B 105 5 (.slice x.A x.n x.c) x.n (vsF x.vs)) (h2 : x.vs.length = x.n) (h3 : x.n ≤ 4194304) : OwnCh B (es ++ [x]) W := fun e he => by
 rcases List.mem_append.1 he with he | he
 · exact h e he
 · simp at he; subst he; exact ⟨h1, h2, h3⟩
theorem OwnCh.nil : OwnCh B [] W := fun e he => by cases he
theorem OwnCh.below (h : OwnCh B es W) {b : Nat} (hb : Below b W W') (hs : W.heap.size ≤ b) : OwnCh B es W' := fun e he => ⟨own_below (h e he).1 hb hs, (h e he).2⟩
end
structure OwnSh (B : Nat) (s : Sh) (W : World) : Prop where
 er : W.ownsRow B 100 2 (.slice s.eA s.en s.ec) s.en (esF s.es)
 el : s.es.length = s.en
 eb : s.en ≤ 4194304
 ch : OwnCh B s.es W
 dr : W.ownsRow B 108 11 (.slice s.dA s.dn s.dc) s.dn (dsF s.ds)
 dl : s.ds.length = s.dn
 db : s.dn ≤ 4194304
 pl : plainSh s
section
variable {W W' : World} {B g : Nat} {s : Sh} {T : TypeId} {cs : Array Value}
theorem OwnSh.kept (h : OwnSh B s W) (hk : ∀ i T cs, i ≠ g → Blk W i T cs → Blk W' i T cs) (hB : Blk W g T cs) (h1 : T ≠ 105) (h2 : T ≠ 100) (h3 : T ≠ 108) : OwnSh B s W' :=
 { h with er := own_kept h.er hk hB h2, ch := h.ch.kept hk hB h1, dr := own_kept h.dr hk hB h3 }
theorem OwnSh.keptT {e1 : TypeId} (h : OwnSh B s W) (hk : ∀ i T cs, T ≠ e1 → Blk W i T cs → Blk W' i T cs) (h1 : 105 ≠ e1) (h2 : 100 ≠ e1) (h3 : 108 ≠ e1) : OwnSh B s W' :=
 { h with er := own_keptT h.er hk h2, ch := h.ch.keptT hk h1, dr := own_keptT h.dr hk h3 }
theorem OwnSh.setT (h : OwnSh B s W) {p : Addr} (u : Value) (hB : Blk W p.block T cs) (h1 : T ≠ 105) (h2 : T ≠ 100) (h3 : T ≠ 108) : OwnSh B s (W.setCell p u) :=
 { h with er := own_setT h.er u hB h2, ch := h.ch.setT u hB h1, dr := own_setT h.dr u hB h3 }
theorem OwnSh.rowT (h : OwnSh B s W) (hB : Blk W g T cs) (h1 : T ≠ 105) (h2 : T ≠ 100) (h3 : T ≠ 108) (vs : Array Value) : OwnSh B s (W.setRow g vs) :=
 { h with er := own_rowT h.er hB h2 vs, ch := h.ch.rowT hB h1 vs, dr := own_rowT h.dr hB h3 vs }
theorem OwnSh.below (h : OwnSh B s W) {b : Nat} (hb : Below b W W') (hs : W.heap.size ≤ b) : OwnSh B s W' :=
 { h with er := own_below h.er hb hs, ch := h.ch.below hb hs, dr := own_below h.dr hb hs }
theorem OwnSh.base {B' : Nat} (h : OwnSh B s W) (hb : B' ≤ B) : OwnSh B' s W :=
 { h with er := own_base h.er hb, ch := fun e he => ⟨own_base (h.ch e he).1 hb, (h.ch e he).2⟩, dr := own_base h.dr hb }
theorem OwnSh.inn (h : OwnSh B s W) : ShIn W W.heap.size s where
 elen := h.el
 ecap := own_cap h.er
 e63 := by have := h.eb; omega
 erow := own_rdr enC 2 (fun _ => rfl) h.er h.el
 es e he := ⟨(h.ch e he).2.1, own_cap (h.ch e he).1, by have := (h.ch e he).2.2; omega, own_rdr vsC 5 (fun _ => rfl) (h.ch e he).1 (h.ch e he).2.1⟩
 dlen := h.dl
 dcap := own_cap h.dr
 d63 := by have := h.db; omega
 drow := own_rdr dnC 11 (fun _ => rfl) h.dr h.dl
 ds d hd := by
  obtain ⟨h1, h2, _, _⟩ := h.pl d hd
  refine ⟨by rw [h2, h1]; rfl, by omega, by omega, ?_⟩
  rw [h2]
  intro h0
  cases h0
end
/-! what was read -/
theorem rVs_eq {r ra rb rc : RS} {a t n : Int} {b : Bool} {v : List UInt8} (h1 : rStamp r = ((a, t, n), ra)) (h2 : rFlag ra = (b, rb)) (h3 : rText rb = (v, rc)) : fVs.rd r = (⟨a, t, n, b, v⟩, rc) := by
 show (mkVs _, _) = _
 have h : (fStamp.seq (fFlag.seq fText)).rd r = (((a, t, n), b, v), rc) := seq_eq h1 (seq_eq h2 h3)
 rw [h]
 rfl
theorem rEn_eq {r ra rb rc : RS} {k : List UInt8} {c : Int} {n : Nat} {vs : List Vs} (h1 : rText r = (k, ra)) (h2 : rCount ra = (c, rb)) (hn : (n : Int) = c) (h3 : rdN fVs.rd n rb = (vs, rc)) : fEn.rd r = ((k, vs), rc) :=
 seq_eq (f := fText) (g := fList fVs fVs_pos) h1 (list_eq h2 hn h3)
theorem rDn_eq {r r1 r2 r3 r4 r5 r6 : RS} {c q e a t n : Int} {b : Bool} {v : List UInt8} (h1 : rNum r = (c, r1)) (h2 : rNum r1 = (q, r2)) (h3 : rNum r2 = (e, r3)) (h4 : rStamp r3 = ((a, t, n), r4)) (h5 : rFlag r4 = (b, r5)) (h6 : rText r5 = (v, r6)) : fDn.rd r = ((c, q, e, (a, t, n), b, v), r6) :=
 seq_eq (f := fNum) h1 (seq_eq (f := fNum) h2 (seq_eq (f := fNum) h3 (seq_eq (f := fStamp) h4 (seq_eq (f := fFlag) (g := fText) h5 h6))))
end Go.Proofs.YtkoligiilieboaaGreatDoor
