/- engine.RightShard, engine.upto: whether a shard is right, whether no version is later. -/
import Derived.Test.YtkoligiilieboaaGreatDoorBkY
set_option linter.unusedSimpArgs false
set_option linter.unusedVariables false
namespace Go.Proofs.YtkoligiilieboaaGreatDoor
open Go.RowKit
attribute [local go_sem] ByteArray.mk_append_mk ByteArray.extract_mk
attribute [local go_sem ↓] Go.wp_at_zero Go.wp_at_succ
abbrev enV (e : En) : Value := .agg #[.string ⟨e.key.toArray⟩, .slice e.A e.n e.c]
set_option maxHeartbeats 1600000 in
set_option maxRecDepth 100000 in
theorem idxe1_any (p : En → Bool) (A : Option Addr) (cap : Nat) (es : List En) (hmax : es.length ≤ 9223372036854775807) (g : Nat) (w : World) (hL : RdR enC 2 w w.heap.size A es)
  (hF : ∀ e ∈ es, ∀ W, Below w.heap.size w W → Calls Tryz.prog 67 #[enV e, .pointer (some ⟨g, 0, none⟩)] W fun ex W' => ex = .returned (.bool (p e)) ∧ Below W.heap.size W W') :
  Calls Tryz.prog 107 #[.slice A es.length cap, .func (.func 67) #[] #[.pointer (some ⟨g, 0, none⟩)]] w fun e w' => (∃ i : Int, e = .returned (.int .i64 i) ∧ es.any p = decide (0 ≤ i)) ∧ Below w.heap.size w w' := by
 go_enter Tryz.func107, Tryz.ntmps107
 go_wp2
 go_loopw [8] (fun i wr => ∃ k : Nat, i = .int .i64 k ∧ k ≤ es.length ∧ (es.take k).any p = false ∧ Below w.heap.size w wr) (fun i _ => es.length - (intOf i).toNat)
 case atStart =>
  exact ⟨0, rfl, Nat.zero_le _, rfl, Below.refl _ _⟩
 case round =>
  obtain ⟨k, rfl, hk, hbad, hb⟩ := hrel
  have hbs := hb.size
  have i0 : (0 : Int) ≤ (k : Int) := by omega
  have HB := Lib.hid hbad
  clear hbad
  by_cases hlt : k < es.length
  case pos =>
   obtain ⟨b, off, rfl, hbB, g0, g1⟩ := enc_cells hL k hlt
   have c0 := (hb.cell (p := ⟨b, _, none⟩) hbB).trans g0
   have c1 := (hb.cell (p := ⟨b, _, none⟩) hbB).trans g1
   have i1 : (k : Int) < (es.length : Int) := by omega
   have hmem : es[k] ∈ es := List.getElem_mem hlt
   have hsn : (es.take (k + 1)).any p = p es[k] := by rw [List.take_succ_eq_append_getElem hlt, List.any_append, HB.out]; simp
   obtain ⟨x, hx⟩ : ∃ x, es[k] = x := ⟨_, rfl⟩
   rw [hx] at c0 c1 hmem hsn
   have HM := Lib.hid hmem
   have HS := Lib.hid hsn
   clear hx g0 g1 hmem hsn
   go_wp2_with fail
   refine (hF x HM.out _ hb).mono ?_
   rintro e w1 ⟨rfl, d1⟩
   have hb1 := bt hb d1
   obtain ⟨q, hq⟩ : ∃ q, p x = q := ⟨_, rfl⟩
   have HQ := Lib.hid hq
   rw [hq]
   clear hq d1
   cases q
   case true =>
    go_wp2
    go_ret
    refine ⟨⟨k, rfl, ?_⟩, hb1⟩
    rw [List.any_eq_true.2 ⟨x, HM.out, HQ.out⟩]
    simp
   case false =>
    go_wp2
    go_roundw
    case rel =>
     exact ⟨k + 1, by go_num, by omega, by rw [HS.out, HQ.out], hb1⟩
    case measure =>
     simp [intOf]; omega
  case neg =>
   have hke : k = es.length := by omega
   subst hke
   go_wp2
   go_ret
   refine ⟨⟨-1, rfl, ?_⟩, hb⟩
   have := HB.out
   rw [List.take_length] at this
   rw [this]
   rfl
set_option maxRecDepth 100000 in
theorem hase1_any (p : En → Bool) (A : Option Addr) (n cap : Nat) (es : List En) (hn : es.length = n) (hmax : n ≤ 9223372036854775807) (g : Nat) (w : World) (hL : RdR enC 2 w w.heap.size A es)
  (hF : ∀ e ∈ es, ∀ W, Below w.heap.size w W → Calls Tryz.prog 67 #[enV e, .pointer (some ⟨g, 0, none⟩)] W fun ex W' => ex = .returned (.bool (p e)) ∧ Below W.heap.size W W') :
  Calls Tryz.prog 66 #[.slice A n cap, .func (.func 67) #[] #[.pointer (some ⟨g, 0, none⟩)]] w fun e w' => e = .returned (.bool (es.any p)) ∧ Below w.heap.size w w' := by
 subst hn
 go_enter Tryz.func66, Tryz.ntmps66
 go_wp2_with fail
 refine (idxe1_any p A cap es hmax g w hL hF).mono ?_
 rintro e w1 ⟨⟨i, rfl, hi⟩, hb1⟩
 have HI := Lib.hid hi
 clear hi
 by_cases h0 : 0 ≤ i
 case pos =>
  go_wp2
  go_ret
  exact ⟨by rw [HI.out]; simp [h0], hb1⟩
 case neg =>
  go_wp2
  go_ret
  exact ⟨by rw [HI.out]; simp [h0], hb1⟩
set_option maxHeartbeats 1600000 in
set_option maxRecDepth 100000 in
theorem idxe2_any (p : En → Bool) (A : Option Addr) (cap : Nat) (es : List En) (hmax : es.length ≤ 9223372036854775807) (g : Nat) (w : World) (hL : RdR enC 2 w w.heap.size A es)
  (hF : ∀ e ∈ es, ∀ W, Below w.heap.size w W → Calls Tryz.prog 109 #[enV e, .pointer (some ⟨g, 0, none⟩)] W fun ex W' => ex = .returned (.bool (p e)) ∧ Below W.heap.size W W') :
  Calls Tryz.prog 107 #[.slice A es.length cap, .func (.func 109) #[] #[.pointer (some ⟨g, 0, none⟩)]] w fun e w' => (∃ i : Int, e = .returned (.int .i64 i) ∧ es.any p = decide (0 ≤ i)) ∧ Below w.heap.size w w' := by
 go_enter Tryz.func107, Tryz.ntmps107
 go_wp2
 go_loopw [8] (fun i wr => ∃ k : Nat, i = .int .i64 k ∧ k ≤ es.length ∧ (es.take k).any p = false ∧ Below w.heap.size w wr) (fun i _ => es.length - (intOf i).toNat)
 case atStart =>
  exact ⟨0, rfl, Nat.zero_le _, rfl, Below.refl _ _⟩
 case round =>
  obtain ⟨k, rfl, hk, hbad, hb⟩ := hrel
  have hbs := hb.size
  have i0 : (0 : Int) ≤ (k : Int) := by omega
  have HB := Lib.hid hbad
  clear hbad
  by_cases hlt : k < es.length
  case pos =>
   obtain ⟨b, off, rfl, hbB, g0, g1⟩ := enc_cells hL k hlt
   have c0 := (hb.cell (p := ⟨b, _, none⟩) hbB).trans g0
   have c1 := (hb.cell (p := ⟨b, _, none⟩) hbB).trans g1
   have i1 : (k : Int) < (es.length : Int) := by omega
   have hmem : es[k] ∈ es := List.getElem_mem hlt
   have hsn : (es.take (k + 1)).any p = p es[k] := by rw [List.take_succ_eq_append_getElem hlt, List.any_append, HB.out]; simp
   obtain ⟨x, hx⟩ : ∃ x, es[k] = x := ⟨_, rfl⟩
   rw [hx] at c0 c1 hmem hsn
   have HM := Lib.hid hmem
   have HS := Lib.hid hsn
   clear hx g0 g1 hmem hsn
   go_wp2_with fail
   refine (hF x HM.out _ hb).mono ?_
   rintro e w1 ⟨rfl, d1⟩
   have hb1 := bt hb d1
   obtain ⟨q, hq⟩ : ∃ q, p x = q := ⟨_, rfl⟩
   have HQ := Lib.hid hq
   rw [hq]
   clear hq d1
   cases q
   case true =>
    go_wp2
    go_ret
    refine ⟨⟨k, rfl, ?_⟩, hb1⟩
    rw [List.any_eq_true.2 ⟨x, HM.out, HQ.out⟩]
    simp
   case false =>
    go_wp2
    go_roundw
    case rel =>
     exact ⟨k + 1, by go_num, by omega, by rw [HS.out, HQ.out], hb1⟩
    case measure =>
     simp [intOf]; omega
  case neg =>
   have hke : k = es.length := by omega
   subst hke
   go_wp2
   go_ret
   refine ⟨⟨-1, rfl, ?_⟩, hb⟩
   have := HB.out
   rw [List.take_length] at this
   rw [this]
   rfl
set_option maxRecDepth 100000 in
theorem hase2_any (p : En → Bool) (A : Option Addr) (n cap : Nat) (es : List En) (hn : es.length = n) (hmax : n ≤ 9223372036854775807) (g : Nat) (w : World) (hL : RdR enC 2 w w.heap.size A es)
  (hF : ∀ e ∈ es, ∀ W, Below w.heap.size w W → Calls Tryz.prog 109 #[enV e, .pointer (some ⟨g, 0, none⟩)] W fun ex W' => ex = .returned (.bool (p e)) ∧ Below W.heap.size W W') :
  Calls Tryz.prog 66 #[.slice A n cap, .func (.func 109) #[] #[.pointer (some ⟨g, 0, none⟩)]] w fun e w' => e = .returned (.bool (es.any p)) ∧ Below w.heap.size w w' := by
 subst hn
 go_enter Tryz.func66, Tryz.ntmps66
 go_wp2_with fail
 refine (idxe2_any p A cap es hmax g w hL hF).mono ?_
 rintro e w1 ⟨⟨i, rfl, hi⟩, hb1⟩
 have HI := Lib.hid hi
 clear hi
 by_cases h0 : 0 ≤ i
 case pos =>
  go_wp2
  go_ret
  exact ⟨by rw [HI.out]; simp [h0], hb1⟩
 case neg =>
  go_wp2
  go_ret
  exact ⟨by rw [HI.out]; simp [h0], hb1⟩
set_option maxRecDepth 100000 in
theorem rs1_any (e : En) (s : Sh) (zlo : s.lo.length ≤ 9223372036854775807) (zhi : s.hi.length ≤ 9223372036854775807) (zk : e.key.length ≤ 9223372036854775807) (g : Nat) (w : World) (hB : Blk w g 30 (shA s)) (hT : Go.Lib.Utf8Tabs 0 1 w) :
  Calls Tryz.prog 67 #[enV e, .pointer (some ⟨g, 0, none⟩)] w fun ex w' => ex = .returned (.bool (!hasSp ⟨s.lo, s.hi⟩ e.key)) ∧ Below w.heap.size w w' := by
 have E0 : Blk (w.alloc (.cells #[.string ⟨e.key.toArray⟩, .slice e.A e.n e.c] 100)) w.heap.size 100 #[.string ⟨e.key.toArray⟩, .slice e.A e.n e.c] := Blk.new w _ _
 have hb0 : Below w.heap.size w (w.alloc (.cells #[.string ⟨e.key.toArray⟩, .slice e.A e.n e.c] 100)) := bal (b0 w) _
 have hB0 := hB.keep hb0
 have hg := hB.lt
 go_enter Tryz.func67, Tryz.ntmps67
 go_upto_region 1 with (fail)
 generalize w.alloc (.cells #[.string ⟨e.key.toArray⟩, .slice e.A e.n e.c] 100) = W at *
 have c0 : W.cell? ⟨w.heap.size, 0, none⟩ = some (.string ⟨e.key.toArray⟩) := E0.cell 0
 have c2 : W.cell? ⟨g, 2, none⟩ = some (.string ⟨s.lo.toArray⟩) := hB0.cell 2
 have c3 : W.cell? ⟨g, 3, none⟩ = some (.string ⟨s.hi.toArray⟩) := hB0.cell 3
 have el := E0.lt
 have gl := hB0.lt
 go_wp2_with fail
 refine (sphas_any s.lo s.hi zlo zhi e.key zk _ (Utf8Tabs_below hT hb0)).mono ?_
 rintro ex w1 ⟨rfl, d1⟩
 obtain ⟨q, hq⟩ : ∃ q, hasSp ⟨s.lo, s.hi⟩ e.key = q := ⟨_, rfl⟩
 rw [hq]
 have HQ := Lib.hid hq
 clear hq
 cases q
 case false =>
  go_wp2
  go_ret
  exact ⟨by rw [HQ.out]; rfl, bt hb0 d1⟩
 case true =>
  go_wp2
  go_ret
  exact ⟨by rw [HQ.out]; rfl, bt hb0 d1⟩
def upE (a t n : Int) (e : En) : Bool :=
 match e.vs[e.vs.length - 1]? with
 | none => false
 | some v => decide (0 < cmpS v.a v.t v.n a t n)
set_option maxHeartbeats 3200000 in
set_option maxRecDepth 100000 in
theorem up1_any (e : En) (a t n : Int) (g : Nat) (w : World) (hB : Blk w g 27 #[.int .i64 a, .int .i64 t, .int .i64 n]) (hE : EnIn w w.heap.size e) (h0 : 0 < e.vs.length) :
  Calls Tryz.prog 109 #[enV e, .pointer (some ⟨g, 0, none⟩)] w fun ex w' => ex = .returned (.bool (upE a t n e)) ∧ Below w.heap.size w w' := by
 have hlen := hE.len
 have h63 := hE.m63
 obtain ⟨b, off, hA, hbB, rx⟩ := rowc hE.row (e.vs.length - 1) (by omega)
 have hv : upE a t n e = decide (0 < cmpS (e.vs[e.vs.length - 1]'(by omega)).a (e.vs[e.vs.length - 1]'(by omega)).t (e.vs[e.vs.length - 1]'(by omega)).n a t n) := by
  unfold upE
  rw [List.getElem?_eq_getElem (by omega)]
 rw [hv]
 clear hv
 obtain ⟨v, hvv⟩ : ∃ v, e.vs[e.vs.length - 1]'(by omega) = v := ⟨_, rfl⟩
 rw [hvv] at rx ⊢
 clear hvv
 rw [hlen] at rx
 have hn0 : 0 < e.n := by omega
 clear hlen h0
 have E0 : Blk (w.alloc (.cells #[.string ⟨e.key.toArray⟩, .slice (some ⟨b, off, none⟩) e.n e.c] 100)) w.heap.size 100 #[.string ⟨e.key.toArray⟩, .slice (some ⟨b, off, none⟩) e.n e.c] := Blk.new w _ _
 have hb0 : Below w.heap.size w (w.alloc (.cells #[.string ⟨e.key.toArray⟩, .slice (some ⟨b, off, none⟩) e.n e.c] 100)) := bal (b0 w) _
 have hB0 := hB.keep hb0
 have hg := hB.lt
 unfold enV
 rw [hA]
 clear hA
 generalize hne : e.n = en at *
 generalize e.key = ek at *
 generalize e.c = ec at *
 clear hne hE
 go_enter Tryz.func109, Tryz.ntmps109
 go_upto_region 1 with (fail)
 generalize w.alloc (.cells #[.string ⟨ek.toArray⟩, .slice (some ⟨b, off, none⟩) en ec] 100) = W at *
 have el := E0.lt
 have gl := hB0.lt
 have j0 : (0 : Int) ≤ (en : Int) - 1 := by omega
 have j1 : (en : Int) - 1 < (en : Int) := by omega
 have jt : ((en : Int) - 1).toNat = en - 1 := by omega
 have jw : IntKind.i64.wrap ((en : Int) - 1) = (en : Int) - 1 := by rw [IntKind.wrap_i64]; omega
 have jx : ¬ (en : Int) < 1 := by omega
 have ry : w.rangeAt b (off + (en - 1) * 5) (vsC v) := fun j u hu => by rw [Nat.add_assoc]; exact rx j u hu
 go_wp2_with fail
 refine wp_region_held_drew (S := (fun W' => Below w.heap.size w W' ∧ Blk W' w.heap.size 100 #[.string ⟨ek.toArray⟩, .slice (some ⟨b, off, none⟩) en ec] ∧ Blk W' g 27 #[.int .i64 a, .int .i64 t, .int .i64 n])) (by kernel_rfl) ⟨hb0.drew, E0.drew, hB0.drew⟩ (fun hH => ?_)
 refine tk 0 (.pointer (some ⟨w.heap.size, 1, none⟩)) 4 rfl rfl (by kernel_rfl) (fun _ _ _ h => h) (.inl ⟨by rfl, by intro W' hS; go_simp⟩) hH ?_
 try simp only [Act.put, aset]
 refine tk 1 (.slice (some ⟨b, off, none⟩) en ec) 5 rfl rfl (by kernel_rfl) (fun _ _ _ h => h) (.inl ⟨by rfl, by intro W' hS; have hc : W'.cell? ⟨w.heap.size, 1, none⟩ = some (.slice (some ⟨b, off, none⟩) en ec) := hS.2.1.cell 1; go_simp⟩) hH ?_
 try simp only [Act.put, aset]
 refine tk 2 (.pointer (some ⟨w.heap.size, 1, none⟩)) 6 rfl rfl (by kernel_rfl) (fun _ _ _ h => h) (.inl ⟨by rfl, by intro W' hS; go_simp⟩) hH ?_
 try simp only [Act.put, aset]
 refine tk 3 (.slice (some ⟨b, off, none⟩) en ec) 7 rfl rfl (by kernel_rfl) (fun _ _ _ h => h) (.inl ⟨by rfl, by intro W' hS; have hc : W'.cell? ⟨w.heap.size, 1, none⟩ = some (.slice (some ⟨b, off, none⟩) en ec) := hS.2.1.cell 1; go_simp⟩) hH ?_
 try simp only [Act.put, aset]
 refine tk 4 (.int .i64 en) 8 rfl rfl (by kernel_rfl) (fun _ _ _ h => h) (.inl ⟨by rfl, by intro W' hS; go_simp⟩) hH ?_
 try simp only [Act.put, aset]
 refine tk 5 (.int .i64 ((en : Int) - 1)) 9 rfl rfl (by kernel_rfl) (fun _ _ _ h => h) (.inl ⟨by rfl, by intro W' hS; go_simp⟩) hH ?_
 try simp only [Act.put, aset]
 refine tk 6 (.pointer (some ⟨b, off + (en - 1) * 5, none⟩)) 10 rfl rfl (by kernel_rfl) (fun _ _ _ h => h) (.inl ⟨by rfl, by intro W' hS; go_simp⟩) hH ?_
 try simp only [Act.put, aset]
 refine tk 7 (.pointer (some ⟨b, off + (en - 1) * 5, none⟩)) 11 rfl rfl (by kernel_rfl) (fun _ _ _ h => h) (.inl ⟨by rfl, by intro W' hS; go_simp⟩) hH ?_
 try simp only [Act.put, aset]
 refine tk 8 (stampV v.a v.t v.n) 12 rfl rfl (by kernel_rfl) (fun _ _ _ h => h) (yieldsIf_load_mid (by rfl) 27 _ rfl (b) (off + (en - 1) * 5) (by rfl) [.int .i64 v.a, .int .i64 v.t, .int .i64 v.n] _ (fun _ h => (rng_pre (more := [.bool v.gone, .string ⟨v.val.toArray⟩]) (rng_below ry h.1 hbB))) Tryz.underlying27 (by with_unfolding_all rfl) (by with_unfolding_all rfl)) hH ?_
 try simp only [Act.put, aset]
 refine tk 9 (stampV a t n) 13 rfl rfl (by kernel_rfl) (fun _ _ _ h => h) (yif_ld (by rfl) 27 _ rfl (by rfl) (fun _ h => h.2.2) _ Tryz.underlying27 (by with_unfolding_all rfl) (by with_unfolding_all rfl)) hH ?_
 try simp only [Act.put, aset]
 refine wpAnyH_ready (rs := [10]) (by kernel_rfl) (by simp) ?_
 refine AllReadyH.cons rfl (fun K hK => ?_) AllReadyH.nil
 go_simp
 refine (compare_any v.a v.t v.n a t n _).mono ?_
 rintro ex v2 ⟨rfl, d2⟩
 have S2 := bt hH.1 d2
 have S3 := hH.2.1.keep d2
 have S4 := hH.2.2.keep d2
 clear hH d2
 obtain ⟨cz, hcz⟩ : ∃ z, cmpS v.a v.t v.n a t n = z := ⟨_, rfl⟩
 rw [hcz]
 have HCZ := Lib.hid hcz
 clear hcz
 by_cases hcc : 0 < cz
 case pos =>
  refine hK.out _ _ ⟨S2, S3, S4⟩ (fun hH => ?_)
  clear hK K
  try simp only [Act.put, aset]
  refine tk 11 (.bool true) 15 rfl rfl (by kernel_rfl) (fun _ _ _ h => h) (.inl ⟨by rfl, by intro W' hS; go_simp⟩) hH ?_
  try simp only [Act.put, aset]
  refine tk 12 (.bool true) 3 rfl rfl (by kernel_rfl) (fun _ _ _ h => h) (.inl ⟨by rfl, by intro W' hS; go_simp⟩) hH ?_
  try simp only [Act.put, aset]
  refine wpAnyH_done (by kernel_rfl) ?_ _
  go_wp2
  go_ret
  exact ⟨by rw [HCZ.out]; simp [hcc], hH.1⟩
 case neg =>
  refine hK.out _ _ ⟨S2, S3, S4⟩ (fun hH => ?_)
  clear hK K
  try simp only [Act.put, aset]
  refine tk 11 (.bool false) 15 rfl rfl (by kernel_rfl) (fun _ _ _ h => h) (.inl ⟨by rfl, by intro W' hS; go_simp⟩) hH ?_
  try simp only [Act.put, aset]
  refine tk 12 (.bool false) 3 rfl rfl (by kernel_rfl) (fun _ _ _ h => h) (.inl ⟨by rfl, by intro W' hS; go_simp⟩) hH ?_
  try simp only [Act.put, aset]
  refine wpAnyH_done (by kernel_rfl) ?_ _
  go_wp2
  go_ret
  exact ⟨by rw [HCZ.out]; simp [hcc], hH.1⟩
end Go.Proofs.YtkoligiilieboaaGreatDoor
