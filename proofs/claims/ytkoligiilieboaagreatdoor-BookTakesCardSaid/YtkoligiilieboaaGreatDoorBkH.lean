/- What is right does not hang on where it lies; what is right can be written; the bytes of shards and cells. -/
import Derived.Test.YtkoligiilieboaaGreatDoorBkG
import Derived.Test.YtkoligiilieboaaGreatDoorMgC
set_option linter.unusedSimpArgs false
set_option linter.unusedVariables false
namespace Go.Proofs.YtkoligiilieboaaGreatDoor
open Go.RowKit
section
variable {α β : Type} {ok : β → Bool} {lt : β → β → Bool}
theorem stepB_map (f : α → β) (l : List α) (k : Nat) : stepB ok lt (l.map f) k = stepB (fun x => ok (f x)) (fun x y => lt (f x) (f y)) l k := by
  unfold stepB
  rw [List.getElem?_map]
  cases l[k]? with
  | none => rfl
  | some x =>
    cases k with
    | zero => rfl
    | succ k =>
      simp only [Option.map_some, List.getElem?_map]
      cases l[k]? <;> rfl
theorem rowB_map (f : α → β) (l : List α) : rowB ok lt (l.map f) = rowB (fun x => ok (f x)) (fun x y => lt (f x) (f y)) l := by
  unfold rowB
  rw [List.length_map]
  congr 1
  funext k
  exact stepB_map f l k
theorem stepB_congr {ok' : β → Bool} {l : List β} (h : ∀ x ∈ l, ok x = ok' x) (k : Nat) : stepB ok lt l k = stepB ok' lt l k := by
  unfold stepB
  cases hk : l[k]? with
  | none => rfl
  | some x => simp only [h x (List.mem_of_getElem? hk)]
theorem rowB_congr {ok' : β → Bool} {l : List β} (h : ∀ x ∈ l, ok x = ok' x) : rowB ok lt l = rowB ok' lt l := by
  unfold rowB
  congr 1
  funext k
  exact stepB_congr h k
end
def enBL (e : EnL) : Bool := rightL e.1 && (chB e.2 && decide (0 < e.2.length))
def eltL (d e : EnL) : Bool := decide (cmpL d.1 e.1 < 0)
theorem ixB_L (es : List En) : ixB es = (decide ((es.map enL).length ≤ 64) && rowB enBL eltL (es.map enL)) := by
  rw [rowB_map, List.length_map]
  rfl
def dnBF (d : DnF) : Bool := oneB d.1 && (oneB d.2.1 && ((decide (0 ≤ d.2.2.1) && decide (d.2.2.1 ≤ 16)) && (rightB d.2.2.2.1.1 d.2.2.2.1.2.1 d.2.2.2.1.2.2 && decide (d.2.2.2.2.2.length ≤ 16))))
def dltF (d e : DnF) : Bool := decide (d.1 < e.1)
theorem ddB_F {ds : List Dn} (h : ∀ d ∈ ds, d.ans.itn = 0 ∧ d.its = [] ∧ d.ans.nx = [] ∧ d.ans.mo = false) : ddB ds = (decide ((ds.map dnF).length ≤ 8) && rowB dnBF dltF (ds.map dnF)) := by
  rw [rowB_map, List.length_map]
  unfold ddB
  congr 1
  refine rowB_congr fun d hd => ?_
  obtain ⟨h1, _, h2, h3⟩ := h d hd
  simp [dnB, ansB, dnBF, dnF, h1, h2, h3]
  rfl
theorem hasB_L (s : Sh) : hasB s = (s.es.map enL).all fun e => hasSp ⟨s.lo, s.hi⟩ e.1 := by
  rw [List.all_map]
  rfl
theorem shB_congr {s u : Sh} (hs : plainSh s) (hu : plainSh u) (h : shF s = shF u) : shB s = shB u := by
  unfold shF at h
  simp only [Prod.mk.injEq] at h
  obtain ⟨h1, h2, h3⟩ := h
  unfold shH at h1
  simp only [Prod.mk.injEq] at h1
  obtain ⟨e1, e2, e3, e4, e5, e6, e7, e8, e9, ⟨e10, e11, e12⟩, e13, e14, e15⟩ := h1
  unfold shB numB
  rw [ixB_L, ixB_L, ddB_F hs, ddB_F hu, hasB_L, hasB_L, h2, h3, e1, e2, e3, e4, e5, e6, e7, e8, e9, e10, e11, e12, e13, e14, e15]
theorem upB_L (s : Sh) (a t n : Int) : upB s a t n = (s.es.map enL).all fun e => e.2.all fun v => !decide (cmpS a t n v.a v.t v.n < 0) := by
  rw [List.all_map]
  rfl
theorem all_map2 {α β : Type} {l m : List α} {f : α → β} {ok : α → Bool} {lt : α → α → Bool} (h : l.map f = m.map f) (hok : ∀ x ∈ l, ∀ y ∈ m, f x = f y → ok x = ok y) (hlt : ∀ x y u v, f x = f u → f y = f v → lt x y = lt u v) : rowB ok lt l = rowB ok lt m := by
  have hl : l.length = m.length := by have := congrArg List.length h; simpa using this
  have hf : ∀ k (h1 : k < l.length) (h2 : k < m.length), f l[k] = f m[k] := fun k h1 h2 => by
    have := congrArg (fun z => z[k]?) h
    simpa [h1, h2] using this
  have hs : ∀ k, k < l.length → stepB ok lt l k = stepB ok lt m k := fun k hk => by
    cases k with
    | zero => rw [stepB_zero hk, stepB_zero (by omega)]; exact hok _ (List.getElem_mem _) _ (List.getElem_mem _) (hf 0 hk (by omega))
    | succ k => rw [stepB_succ hk, stepB_succ (by omega), hok _ (List.getElem_mem _) _ (List.getElem_mem _) (hf (k + 1) hk (by omega)), hlt _ _ _ _ (hf k (by omega) (by omega)) (hf (k + 1) hk (by omega))]
  unfold rowB
  rw [← hl]
  have : ∀ x ∈ List.range l.length, stepB ok lt l x = stepB ok lt m x := fun x hx => hs x (List.mem_range.1 hx)
  rw [Bool.eq_iff_iff, List.all_eq_true, List.all_eq_true]
  exact ⟨fun H x hx => by rw [← this x hx]; exact H x hx, fun H x hx => by rw [this x hx]; exact H x hx⟩
theorem ceB_congr {c d : Ce} (hc : plainCe c) (hd : plainCe d) (h : ceF c = ceF d) : ceB c = ceB d := by
  unfold ceF at h
  simp only [Prod.mk.injEq] at h
  obtain ⟨⟨h1, h2, h3⟩, h4, h5⟩ := h
  have hl : c.ss.length = d.ss.length := by have := congrArg List.length h5; simpa using this
  unfold ceB
  rw [h1, h2, h3, h4, hl, all_map2 h5 (fun x hx y hy e => ?_) (fun x y u v e1 e2 => ?_)]
  · rw [shB_congr (hc x hx) (hd y hy) e, upB_L, upB_L]
    rw [show x.es.map enL = y.es.map enL from congrArg (fun z : ShF => z.2.1) e]
  · unfold slt
    rw [show x.id = u.id from congrArg (fun z : ShF => z.1.1) e1, show y.id = v.id from congrArg (fun z : ShF => z.1.1) e2]
/-! bytes -/
def vsB1 (v : Vs) : List UInt8 := stampsB [(v.a, v.t, v.n)] ++ flagL v.gone ++ textsB [v.val]
def chBy (l : List Vs) : List UInt8 := l.flatMap vsB1
def enBy (e : En) : List UInt8 := textsB [e.key] ++ numsB [(e.n : Int)] ++ chBy e.vs
def esBy (l : List En) : List UInt8 := l.flatMap enBy
def dnBy (d : Dn) : List UInt8 := numsB [d.cl, d.rq, d.ans.er] ++ stampsB [(d.ans.a, d.ans.t, d.ans.n)] ++ flagL d.ans.fd ++ textsB [d.ans.vl]
def dsBy (l : List Dn) : List UInt8 := l.flatMap dnBy
def shBy (s : Sh) : List UInt8 := numsB [s.id, s.epoch, s.phase, s.hold, s.seen, s.move, s.closed] ++ textsB [s.lo, s.hi] ++ stampsB [(s.ma, s.mt, s.mn), (s.ta, s.tt, s.tn)] ++ numsB [(s.en : Int)] ++ esBy s.es ++ numsB [(s.dn : Int)] ++ dsBy s.ds
def ceBy (c : Ce) : List UInt8 := stampsB [(c.ta, c.tt, c.tn)] ++ numsB [c.drop, (c.sn : Int)] ++ c.ss.flatMap shBy
theorem flatMap_snoc {α β : Type} (f : α → List β) (l : List α) (k : Nat) (h : k < l.length) : (l.take (k + 1)).flatMap f = (l.take k).flatMap f ++ f l[k] := by
  rw [List.take_succ_eq_append_getElem h, List.flatMap_append]
  simp
theorem encCh (l : List Vs) : encL fVs l = chBy l := by
  unfold encL chBy
  congr 1
  funext v
  show stampB (v.a, v.t, v.n) ++ (flagL v.gone ++ textL v.val) = _
  simp [vsB1, stampsB, textsB]
theorem encEs {w : World} {B : Nat} (l : List En) (h : ∀ e ∈ l, EnIn w B e) : encL fEn (l.map enL) = esBy l := by
  induction l with
  | nil => rfl
  | cons e l ih =>
    rw [List.map_cons, encL_cons, ih fun x hx => h x (List.mem_cons_of_mem _ hx)]
    show (textL e.key ++ ((putI (e.vs.length : Int)).1 ++ encL fVs e.vs)) ++ _ = _
    rw [encCh, (h e List.mem_cons_self).len]
    simp [esBy, enBy, textsB, numsB]
theorem encDs (l : List Dn) : encL fDn (l.map dnF) = dsBy l := by
  induction l with
  | nil => rfl
  | cons d l ih =>
    rw [List.map_cons, encL_cons, ih]
    show ((putI d.cl).1 ++ ((putI d.rq).1 ++ ((putI d.ans.er).1 ++ (stampB (d.ans.a, d.ans.t, d.ans.n) ++ (flagL d.ans.fd ++ textL d.ans.vl))))) ++ _ = _
    simp [dsBy, dnBy, textsB, numsB, stampsB]
theorem shard_enc {w : World} {B : Nat} {s : Sh} (h : ShIn w B s) : fSh.enc (shF s) = shBy s := by
  show ((putI s.id).1 ++ ((putI s.epoch).1 ++ ((putI s.phase).1 ++ ((putI s.hold).1 ++ ((putI s.seen).1 ++ ((putI s.move).1 ++ ((putI s.closed).1 ++ (textL s.lo ++ (textL s.hi ++ (stampB (s.ma, s.mt, s.mn) ++ stampB (s.ta, s.tt, s.tn))))))))))) ++ (((putI ((s.es.map enL).length : Int)).1 ++ encL fEn (s.es.map enL)) ++ ((putI ((s.ds.map dnF).length : Int)).1 ++ encL fDn (s.ds.map dnF))) = _
  rw [encEs s.es h.es, encDs, List.length_map, List.length_map, h.elen, h.dlen]
  simp [shBy, numsB, textsB, stampsB]
theorem encSs {w : World} {B : Nat} (l : List Sh) (h : ∀ s ∈ l, ShIn w B s) : encL fSh (l.map shF) = l.flatMap shBy := by
  induction l with
  | nil => rfl
  | cons s l ih =>
    rw [List.map_cons, encL_cons, ih fun x hx => h x (List.mem_cons_of_mem _ hx), shard_enc (h s List.mem_cons_self)]
    rfl
theorem cell_enc {w : World} {B : Nat} {c : Ce} (h : CeIn w B c) : fCe.enc (ceF c) = ceBy c := by
  show stampB (c.ta, c.tt, c.tn) ++ ((putI c.drop).1 ++ ((putI ((c.ss.map shF).length : Int)).1 ++ encL fSh (c.ss.map shF))) = _
  rw [encSs c.ss h.ss, List.length_map, h.len]
  simp [ceBy, numsB, stampsB]
theorem shB_parts {s : Sh} (h : shB s = true) : numB s = true ∧ rightSp ⟨s.lo, s.hi⟩ = true ∧ ixB s.es = true ∧ rightB s.ma s.mt s.mn = true ∧ rightB s.ta s.tt s.tn = true ∧ ddB s.ds = true ∧ hasB s = true := by
  unfold shB at h
  simpa only [Bool.and_eq_true] using h
theorem numB_parts {s : Sh} (h : numB s = true) : (1 ≤ s.id ∧ s.id ≤ 1099511627776) ∧ (1 ≤ s.epoch ∧ s.epoch ≤ 1099511627776) ∧ (0 ≤ s.hold ∧ s.hold ≤ 1099511627776) ∧ (0 ≤ s.seen ∧ s.seen ≤ 1099511627776) ∧ (0 ≤ s.move ∧ s.move ≤ 1099511627776) ∧ (0 ≤ s.closed ∧ s.closed ≤ 1099511627776) ∧ 1 ≤ s.phase ∧ s.phase ≤ 3 := by
  unfold numB oneB fitsB at h
  simp only [Bool.and_eq_true, decide_eq_true_eq] at h
  obtain ⟨⟨h1, h2⟩, ⟨h3, h4, h5, h6⟩, h7, h8⟩ := h
  exact ⟨h1, h2, h3, h4, h5, h6, h7, h8⟩
theorem enB_parts {e : En} (h : enB e = true) : e.key.length ≤ 16 ∧ e.vs.length ≤ 64 ∧ 0 < e.vs.length ∧ rowB vsB vlt e.vs = true := by
  unfold enB chB at h
  simp only [Bool.and_eq_true, decide_eq_true_eq] at h
  exact ⟨(right_ne h.1).2.2, h.2.1.1, h.2.2, h.2.1.2⟩
theorem vsB_parts {v : Vs} (h : vsB v = true) : rightB v.a v.t v.n = true ∧ v.val.length ≤ 16 := by
  unfold vsB at h
  simp only [Bool.and_eq_true, decide_eq_true_eq] at h
  exact ⟨h.1, h.2.1⟩
theorem dnB_parts {d : Dn} (h : dnB d = true) : (1 ≤ d.cl ∧ d.cl ≤ 1099511627776) ∧ (1 ≤ d.rq ∧ d.rq ≤ 1099511627776) ∧ (0 ≤ d.ans.er ∧ d.ans.er ≤ 16) ∧ rightB d.ans.a d.ans.t d.ans.n = true ∧ d.ans.vl.length ≤ 16 := by
  unfold dnB ansB oneB at h
  simp only [Bool.and_eq_true, decide_eq_true_eq] at h
  exact ⟨h.1, h.2.1, h.2.2.1, h.2.2.2.1, h.2.2.2.2.1⟩
theorem shard_ok {s : Sh} (h : shB s = true) : fSh.ok (shF s) := by
  obtain ⟨h1, h2, h3, h4, h5, h6, _⟩ := shB_parts h
  obtain ⟨⟨a1, a2⟩, ⟨b1, b2⟩, ⟨c1, c2⟩, ⟨d1, d2⟩, ⟨e1, e2⟩, ⟨f1, f2⟩, g1, g2⟩ := numB_parts h1
  have l1 := lo_len h2
  have l2 := hi_len h2
  simp only at l1 l2
  unfold ixB at h3
  simp only [Bool.and_eq_true, decide_eq_true_eq] at h3
  unfold ddB at h6
  simp only [Bool.and_eq_true, decide_eq_true_eq] at h6
  refine ⟨⟨⟨by show 0 ≤ s.id; omega, by show s.id < _; omega⟩, ⟨by show 0 ≤ s.epoch; omega, by show s.epoch < _; omega⟩, ⟨by show 0 ≤ s.phase; omega, by show s.phase < _; omega⟩, ⟨by show 0 ≤ s.hold; omega, by show s.hold < _; omega⟩, ⟨by show 0 ≤ s.seen; omega, by show s.seen < _; omega⟩, ⟨by show 0 ≤ s.move; omega, by show s.move < _; omega⟩, ⟨by show 0 ≤ s.closed; omega, by show s.closed < _; omega⟩, by show s.lo.length < _; omega, by show s.hi.length < _; omega, h4, h5⟩, ⟨by show (s.es.map enL).length < _; rw [List.length_map]; omega, ?_⟩, ⟨by show (s.ds.map dnF).length < _; rw [List.length_map]; omega, ?_⟩⟩
  · intro x hx
    obtain ⟨e, he, rfl⟩ := List.mem_map.1 hx
    obtain ⟨k1, k2, k3, k4⟩ := enB_parts (rowB_mem h3.2 he)
    refine ⟨by show e.key.length < _; omega, by show e.vs.length < _; omega, fun v hv => ?_⟩
    obtain ⟨v1, v2⟩ := vsB_parts (rowB_mem k4 hv)
    exact ⟨v1, trivial, by show v.val.length < _; omega⟩
  · intro x hx
    obtain ⟨d, hd, rfl⟩ := List.mem_map.1 hx
    obtain ⟨⟨p1, p2⟩, ⟨q1, q2⟩, ⟨r1, r2⟩, t1, t2⟩ := dnB_parts (rowB_mem h6.2 hd)
    exact ⟨⟨by show 0 ≤ d.cl; omega, by show d.cl < _; omega⟩, ⟨by show 0 ≤ d.rq; omega, by show d.rq < _; omega⟩, ⟨by show 0 ≤ d.ans.er; omega, by show d.ans.er < _; omega⟩, t1, trivial, by show d.ans.vl.length < _; omega⟩
theorem ceB_parts {c : Ce} (h : ceB c = true) : c.ss.length ≤ 8 ∧ rightB c.ta c.tt c.tn = true ∧ (0 ≤ c.drop ∧ c.drop ≤ 1099511627776) ∧ ∀ s ∈ c.ss, shB s = true := by
  unfold ceB fitsB at h
  simp only [Bool.and_eq_true, decide_eq_true_eq] at h
  refine ⟨h.1.1, h.1.2.1, h.1.2.2, fun s hs => ?_⟩
  have := rowB_mem h.2 hs
  simp only [Bool.and_eq_true] at this
  exact this.1
theorem cell_ok {c : Ce} (h : ceB c = true) : fCe.ok (ceF c) := by
  obtain ⟨h1, h2, ⟨h3, h4⟩, h5⟩ := ceB_parts h
  refine ⟨h2, ⟨by show 0 ≤ c.drop; omega, by show c.drop < _; omega⟩, by show (c.ss.map shF).length < _; rw [List.length_map]; omega, fun x hx => ?_⟩
  obtain ⟨s, hs, rfl⟩ := List.mem_map.1 hx
  exact shard_ok (h5 s hs)
/-! how long the bytes of what is right are -/
theorem stamps1 (x : Stm) : (stampsB [x]).length ≤ 27 := by
  have h : stampsB [x] = stampB x := by simp [stampsB]
  rw [h]
  unfold stampB bytesS
  split
  · have := numsB_len [x.1, x.2.1, x.2.2]
    simpa using this
  · simp
theorem chBy_len (l : List Vs) (h : ∀ v ∈ l, v.val.length ≤ 16) : (chBy l).length ≤ 60 * l.length := by
  induction l with
  | nil => simp [chBy]
  | cons v l ih =>
    have h1 := ih fun x hx => h x (List.mem_cons_of_mem _ hx)
    have h2 := h v List.mem_cons_self
    have h3 := texts1 v.val
    have h4 := stamps1 (v.a, v.t, v.n)
    have h5 := flagL_len v.gone
    unfold chBy at *
    simp only [List.flatMap_cons, List.length_append, List.length_cons, vsB1]
    omega
theorem enBy_len {e : En} {w : World} {B : Nat} (hi : EnIn w B e) (h : enB e = true) : (enBy e).length ≤ 4000 := by
  obtain ⟨k1, k2, k3, k4⟩ := enB_parts h
  have h1 := chBy_len e.vs fun v hv => (vsB_parts (rowB_mem k4 hv)).2
  have h2 := texts1 e.key
  have h3 := numsB_len [(e.n : Int)]
  simp only [List.length_cons, List.length_nil] at h3
  unfold enBy
  simp only [List.length_append]
  omega
theorem esBy_len (l : List En) (h : ∀ e ∈ l, (enBy e).length ≤ 4000) : (esBy l).length ≤ 4000 * l.length := by
  induction l with
  | nil => simp [esBy]
  | cons e l ih =>
    have h1 := ih fun x hx => h x (List.mem_cons_of_mem _ hx)
    have h2 := h e List.mem_cons_self
    unfold esBy at *
    simp only [List.flatMap_cons, List.length_append, List.length_cons]
    omega
theorem dnBy_len {d : Dn} (h : d.ans.vl.length ≤ 16) : (dnBy d).length ≤ 100 := by
  have h1 := numsB_len [d.cl, d.rq, d.ans.er]
  have h2 := texts1 d.ans.vl
  have h3 := stamps1 (d.ans.a, d.ans.t, d.ans.n)
  have h4 := flagL_len d.ans.fd
  simp only [List.length_cons, List.length_nil] at h1
  unfold dnBy
  simp only [List.length_append]
  omega
theorem dsBy_len (l : List Dn) (h : ∀ d ∈ l, d.ans.vl.length ≤ 16) : (dsBy l).length ≤ 100 * l.length := by
  induction l with
  | nil => simp [dsBy]
  | cons d l ih =>
    have h1 := ih fun x hx => h x (List.mem_cons_of_mem _ hx)
    have h2 := dnBy_len (h d List.mem_cons_self)
    unfold dsBy at *
    simp only [List.flatMap_cons, List.length_append, List.length_cons]
    omega
theorem shBy_len {s : Sh} {w : World} {B : Nat} (hi : ShIn w B s) (h : shB s = true) : (shBy s).length ≤ 300000 := by
  obtain ⟨h1, h2, h3, h4, h5, h6, _⟩ := shB_parts h
  have l1 := lo_len h2
  have l2 := hi_len h2
  simp only at l1 l2
  unfold ixB at h3
  simp only [Bool.and_eq_true, decide_eq_true_eq] at h3
  unfold ddB at h6
  simp only [Bool.and_eq_true, decide_eq_true_eq] at h6
  have k1 := esBy_len s.es fun e he => enBy_len (hi.es e he) (rowB_mem h3.2 he)
  have k2 := dsBy_len s.ds fun d hd => (dnB_parts (rowB_mem h6.2 hd)).2.2.2.2
  have k3 := numsB_len [s.id, s.epoch, s.phase, s.hold, s.seen, s.move, s.closed]
  have k4 := texts2 s.lo s.hi
  have k5 := stamps1 (s.ma, s.mt, s.mn)
  have k6 := stamps1 (s.ta, s.tt, s.tn)
  have k7 := numsB_len [(s.en : Int)]
  have k8 := numsB_len [(s.dn : Int)]
  simp only [List.length_cons, List.length_nil] at k3 k7 k8
  have k9 : (stampsB [(s.ma, s.mt, s.mn), (s.ta, s.tt, s.tn)]).length = (stampsB [(s.ma, s.mt, s.mn)]).length + (stampsB [(s.ta, s.tt, s.tn)]).length := by simp [stampsB]
  unfold shBy
  simp only [List.length_append]
  omega
end Go.Proofs.YtkoligiilieboaaGreatDoor
