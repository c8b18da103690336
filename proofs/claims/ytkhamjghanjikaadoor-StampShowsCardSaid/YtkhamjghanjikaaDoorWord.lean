/- The plain law of stamps' words: digits, numbers, words cut at their dots. No program in sight. -/
import Derived.Lib.ItoaNum
import Derived.Lib.AtoiAll
import Derived.Lib.SplitLaws
import Derived.Lib.CutLaws
import Derived.Lib.IndexBytes
namespace Go.Proofs.YtkhamjghanjikaaDoor
open Go.Lib (decDigits atoiAll atoiSat parseUint10 parseMag)
def isD (b : UInt8) : Bool := decide (48 ≤ b.toNat) && decide (b.toNat ≤ 57)
def valD (acc : Nat) : List UInt8 → Nat
  | [] => acc
  | b :: r => valD (10 * acc + (b.toNat - 48)) r
/-- the number that digits are, as the document takes them; -1: they are none -/
def numL (p : List UInt8) : Int :=
  if p.length = 0 ∨ 13 < p.length ∨ (1 < p.length ∧ p.head? = some 48) ∨ p.all isD = false then -1 else (valD 0 p : Nat)
theorem valD_snoc (q : List UInt8) (b : UInt8) : ∀ acc, valD acc (q ++ [b]) = 10 * valD acc q + (b.toNat - 48) := by
  induction q with
  | nil => intro acc; rfl
  | cons a q ih => intro acc; exact ih _
theorem dec_unfold (u : Nat) : decDigits u = if u < 10 then [UInt8.ofNat (48 + u)] else decDigits (u / 10) ++ [UInt8.ofNat (48 + u % 10)] := by
  rw [decDigits]
  split <;> rfl
theorem dig_nat (d : Nat) (h : d < 10) : (UInt8.ofNat (48 + d)).toNat = 48 + d := by simp; omega
theorem isD_dig (d : Nat) (h : d < 10) : isD (UInt8.ofNat (48 + d)) = true := by
  unfold isD
  rw [dig_nat d h]
  simp
  omega
theorem dec_ne (u : Nat) : decDigits u ≠ [] := by
  rw [dec_unfold]
  split <;> simp
theorem dec_all : ∀ u, (decDigits u).all isD = true := by
  intro u
  induction u using Nat.strongRecOn with
  | ind u ih =>
    rw [dec_unfold]
    split
    · rename_i h
      rw [List.all_cons, isD_dig u h]
      rfl
    · rw [List.all_append, ih (u / 10) (by omega)]
      rw [List.all_cons, isD_dig (u % 10) (by omega)]
      rfl
theorem dec_val : ∀ u, valD 0 (decDigits u) = u := by
  intro u
  induction u using Nat.strongRecOn with
  | ind u ih =>
    rw [dec_unfold]
    split
    · rename_i h
      show 10 * 0 + _ = _
      rw [dig_nat u h]
      omega
    · rw [valD_snoc, ih (u / 10) (by omega), dig_nat (u % 10) (by omega)]
      omega
theorem head_app {a : List UInt8} (h : a ≠ []) (b : List UInt8) : (a ++ b).head? = a.head? := by
  cases a with
  | nil => exact absurd rfl h
  | cons x a => rfl
theorem dec_head : ∀ u, 1 ≤ u → (decDigits u).head? ≠ some 48 := by
  intro u
  induction u using Nat.strongRecOn with
  | ind u ih =>
    intro hu
    rw [dec_unfold]
    split
    · rename_i h
      intro e
      simp only [List.head?_cons, Option.some.injEq] at e
      have := congrArg UInt8.toNat e
      rw [dig_nat u h] at this
      have h48 : (48 : UInt8).toNat = 48 := rfl
      omega
    · rw [head_app (dec_ne _)]
      exact ih (u / 10) (by omega) (by omega)
theorem dec_len : ∀ k u, u < 10 ^ (k + 1) → (decDigits u).length ≤ k + 1 := by
  intro k
  induction k with
  | zero =>
    intro u hu
    rw [dec_unfold, if_pos (by simpa using hu)]
    simp
  | succ k ih =>
    intro u hu
    rw [dec_unfold]
    split
    · simp
    · rw [List.length_append]
      have h2 : u / 10 < 10 ^ (k + 1) := by
        rw [Nat.div_lt_iff_lt_mul (by omega)]
        rw [Nat.pow_succ] at hu
        exact hu
      have := ih (u / 10) h2
      simp
      omega
theorem num_dec (u : Nat) (h : u < 10000000000000) : numL (decDigits u) = u := by
  have h1 := dec_len 12 u h
  have h2 := List.length_pos_iff.2 (dec_ne u)
  unfold numL
  rw [if_neg, dec_val]
  rintro (h3 | h3 | ⟨h3, h4⟩ | h3)
  · omega
  · omega
  · rcases Nat.eq_zero_or_pos u with h5 | h5
    · subst h5
      rw [dec_unfold] at h3
      simp at h3
    · exact dec_head u h5 h4
  · rw [dec_all] at h3
    cases h3
/-- digits without an idle nought are the numeral of their number -/
theorem dec_unique : ∀ (n : Nat) (p : List UInt8), p.length = n + 1 → (1 < p.length → p.head? ≠ some 48) → p.all isD = true → p = decDigits (valD 0 p) := by
  intro n
  induction n with
  | zero =>
    intro p hl _ ha
    match p, hl with
    | [b], _ =>
      simp only [List.all_cons, List.all_nil, Bool.and_true, isD, Bool.and_eq_true, decide_eq_true_eq] at ha
      show [b] = decDigits (10 * 0 + (b.toNat - 48))
      rw [dec_unfold, if_pos (by omega)]
      congr 1
      rw [← UInt8.toNat_inj, dig_nat _ (by omega)]
      omega
  | succ n ih =>
    intro p hl hh ha
    rcases List.eq_nil_or_concat p with h | ⟨q, b, hp⟩
    · subst h; simp at hl
    · have hp2 : p = q ++ [b] := by simpa using hp
      subst hp2
      have hql : q.length = n + 1 := by simpa using hl
      rw [List.all_append, Bool.and_eq_true] at ha
      obtain ⟨ha1, ha2⟩ := ha
      have hq0 : q ≠ [] := by intro e; subst e; simp at hql
      have hhq : q.head? ≠ some 48 := by
        have := hh (by simp; omega)
        rwa [head_app hq0] at this
      have e := ih q hql (fun _ => hhq) ha1
      have hv : 1 ≤ valD 0 q := by
        rcases Nat.eq_zero_or_pos (valD 0 q) with h | h
        · rw [h, dec_unfold] at e
          rw [e] at hhq
          exact absurd rfl hhq
        · exact h
      simp only [List.all_cons, List.all_nil, Bool.and_true, isD, Bool.and_eq_true, decide_eq_true_eq] at ha2
      rw [valD_snoc, dec_unfold, if_neg (by omega), show (10 * valD 0 q + (b.toNat - 48)) / 10 = valD 0 q by omega, show (10 * valD 0 q + (b.toNat - 48)) % 10 = b.toNat - 48 by omega, ← e]
      congr 2
      rw [← UInt8.toNat_inj, dig_nat _ (by omega)]
      omega
theorem num_canon (p : List UInt8) (h : 0 ≤ numL p) : ∃ u : Nat, numL p = u ∧ p = decDigits u := by
  unfold numL at h ⊢
  split at h
  · omega
  · rename_i hc
    rw [if_neg hc]
    refine ⟨_, rfl, ?_⟩
    have h0 : p.length ≠ 0 := fun e => hc (.inl e)
    have h2 : p.all isD = true := by
      cases e : p.all isD with
      | true => rfl
      | false => exact absurd (.inr (.inr (.inr e))) hc
    exact dec_unique (p.length - 1) p (by omega) (fun h1 e => hc (.inr (.inr (.inl ⟨h1, e⟩)))) h2
theorem valD_ge (l : List UInt8) : ∀ acc, acc ≤ valD acc l := by
  induction l with
  | nil => intro acc; exact Nat.le_refl _
  | cons b r ih =>
    intro acc
    have := ih (10 * acc + (b.toNat - 48))
    show acc ≤ valD (10 * acc + (b.toNat - 48)) r
    omega
theorem parse_val (l : List UInt8) : ∀ acc, l.all isD = true → valD acc l < 1000000000000000000 → parseUint10 acc l = .ok (valD acc l) := by
  induction l with
  | nil => intro acc _ _; rfl
  | cons b r ih =>
    intro acc ha hv
    rw [List.all_cons, Bool.and_eq_true] at ha
    obtain ⟨h1, h2⟩ := ha
    simp only [isD, Bool.and_eq_true, decide_eq_true_eq] at h1
    have hg := valD_ge r (10 * acc + (b.toNat - 48))
    have hv' : valD (10 * acc + (b.toNat - 48)) r < 1000000000000000000 := hv
    simp only [parseUint10]
    rw [if_pos h1, if_neg (by omega), if_neg (by omega), show acc * 10 + (b.toNat - 48) = 10 * acc + (b.toNat - 48) by omega]
    exact ih _ h2 hv'
/-- what the program takes a piece for, the error left aside -/
def atoiV (p : List UInt8) : Int := match atoiAll p with
  | .ok v => v
  | .range => atoiSat p
  | _ => 0
theorem atoi_dec (u : Nat) (h : u < 1000000000000000000) : atoiV (decDigits u) = u := by
  have hv := dec_val u
  have ha := dec_all u
  have hn := dec_ne u
  obtain ⟨l, hl⟩ : ∃ l, decDigits u = l := ⟨_, rfl⟩
  rw [hl] at hv ha hn ⊢
  have hp := parse_val l 0 ha (by omega)
  match l, hn with
  | c :: r, _ =>
    have hc : isD c = true := by rw [List.all_cons, Bool.and_eq_true] at ha; exact ha.1
    simp only [isD, Bool.and_eq_true, decide_eq_true_eq] at hc
    have e : atoiAll (c :: r) = .ok (u : Int) := by
      unfold atoiAll
      simp only
      rw [if_neg (by omega)]
      unfold parseMag
      rw [if_neg (by simp), hp, hv]
      simp only
      rw [if_neg (by omega), if_neg (by omega), if_neg (by omega)]
    unfold atoiV
    rw [e]
/-! words cut at their dots -/
def splitL : List UInt8 → List (List UInt8)
  | [] => [[]]
  | b :: r => if b = 46 then [] :: splitL r else match splitL r with
    | [] => [[b]]
    | p :: ps => (b :: p) :: ps
def joinL : List (List UInt8) → List UInt8
  | [] => []
  | [p] => p
  | p :: q :: ps => p ++ 46 :: joinL (q :: ps)
theorem split_ne (w : List UInt8) : splitL w ≠ [] := by
  cases w with
  | nil => simp [splitL]
  | cons b r =>
    simp only [splitL]
    split
    · simp
    · split <;> simp
theorem join_split (w : List UInt8) : joinL (splitL w) = w := by
  induction w with
  | nil => rfl
  | cons b r ih =>
    simp only [splitL]
    split
    · rename_i h
      have hn := split_ne r
      match hs : splitL r, hn with
      | q :: ps, _ =>
        rw [hs] at ih
        show [] ++ 46 :: joinL (q :: ps) = _
        rw [ih, h]
        rfl
    · have hn := split_ne r
      match hs : splitL r, hn with
      | q :: ps, _ =>
        rw [hs] at ih
        simp only
        cases ps with
        | nil => show b :: q = _; rw [← ih]; rfl
        | cons x xs => show (b :: q) ++ 46 :: joinL (x :: xs) = _; rw [← ih]; rfl
def consF (pre : List UInt8) : List (List UInt8) → List (List UInt8)
  | [] => [pre]
  | p :: ps => (pre ++ p) :: ps
theorem consF_nil {l : List (List UInt8)} (h : l ≠ []) : consF [] l = l := by
  cases l with
  | nil => exact absurd rfl h
  | cons p ps => rfl
theorem split_pre (p r : List UInt8) (h : ∀ b ∈ p, b ≠ 46) : splitL (p ++ r) = consF p (splitL r) := by
  induction p with
  | nil => exact (consF_nil (split_ne r)).symm
  | cons a p ih =>
    show splitL (a :: (p ++ r)) = _
    simp only [splitL]
    rw [if_neg (h a (by simp)), ih fun b hb => h b (by simp [hb])]
    have hn := split_ne r
    match hs : splitL r, hn with
    | q :: ps, _ => rfl
theorem split_cut (p r : List UInt8) (h : ∀ b ∈ p, b ≠ 46) : splitL (p ++ 46 :: r) = p :: splitL r := by
  rw [split_pre p _ h]
  show consF p ([] :: splitL r) = _
  simp [consF]
theorem split_one (p : List UInt8) (h : ∀ b ∈ p, b ≠ 46) : splitL p = [p] := by
  have := split_pre p [] h
  rw [List.append_nil] at this
  rw [this]
  simp [splitL, consF]
theorem dec_nodot (u : Nat) : ∀ b ∈ decDigits u, b ≠ 46 := by
  intro b hb e
  have h := List.all_eq_true.1 (dec_all u) b hb
  rw [e] at h
  exact absurd h (by decide)
/-- a stamp's word -/
def wordL (a b c : Nat) : List UInt8 := decDigits a ++ 46 :: (decDigits b ++ 46 :: decDigits c)
theorem split_word (a b c : Nat) : splitL (wordL a b c) = [decDigits a, decDigits b, decDigits c] := by
  unfold wordL
  rw [split_cut _ _ (dec_nodot a), split_cut _ _ (dec_nodot b), split_one _ (dec_nodot c)]
def rightI (a b c : Int) : Bool := decide (0 ≤ a) && decide (a ≤ 1099511627776) && (decide (0 ≤ b) && decide (b ≤ 1048576)) && (decide (0 ≤ c) && decide (c ≤ 255))
theorem right_parts3 {a b c : Int} (h : rightI a b c = true) : (0 ≤ a ∧ a ≤ 1099511627776) ∧ (0 ≤ b ∧ b ≤ 1048576) ∧ (0 ≤ c ∧ c ≤ 255) := by
  simp only [rightI, Bool.and_eq_true, decide_eq_true_eq] at h
  exact ⟨h.1.1, h.1.2, h.2⟩
theorem word_len (a b c : Nat) (ha : a ≤ 1099511627776) (hb : b ≤ 1048576) (hc : c ≤ 255) : (wordL a b c).length ≤ 25 := by
  have h1 := dec_len 12 a (by omega)
  have h2 := dec_len 6 b (by omega)
  have h3 := dec_len 2 c (by omega)
  unfold wordL
  simp only [List.length_append, List.length_cons]
  omega
/-- the stamp that a word is, as the document says -/
def readW (w : List UInt8) : Option (Int × Int × Int) := match splitL w with
  | [p, q, r] => if rightI (numL p) (numL q) (numL r) = true then some (numL p, numL q, numL r) else none
  | _ => none
theorem read_word (a b c : Nat) (ha : a ≤ 1099511627776) (hb : b ≤ 1048576) (hc : c ≤ 255) : readW (wordL a b c) = some ((a : Int), (b : Int), (c : Int)) := by
  unfold readW
  rw [split_word]
  simp only
  rw [num_dec a (by omega), num_dec b (by omega), num_dec c (by omega), if_pos]
  simp [rightI]
  omega
/-- as the program finds it out -/
theorem read_prog (w : List UInt8) : (∀ p q r, splitL w = [p, q, r] → w.length ≤ 30 → rightI (atoiV p) (atoiV q) (atoiV r) = true → wordL (atoiV p).toNat (atoiV q).toNat (atoiV r).toNat = w → readW w = some (atoiV p, atoiV q, atoiV r)) ∧
    (∀ p q r, splitL w = [p, q, r] → (30 < w.length ∨ rightI (atoiV p) (atoiV q) (atoiV r) = false ∨ wordL (atoiV p).toNat (atoiV q).toNat (atoiV r).toNat ≠ w) → readW w = none) := by
  constructor
  · intro p q r hs _ hr hw
    obtain ⟨h1, h2, h3⟩ := right_parts3 hr
    have h := read_word (atoiV p).toNat (atoiV q).toNat (atoiV r).toNat (by omega) (by omega) (by omega)
    rw [hw] at h
    rw [h, Int.toNat_of_nonneg h1.1, Int.toNat_of_nonneg h2.1, Int.toNat_of_nonneg h3.1]
  · intro p q r hs hbad
    unfold readW
    rw [hs]
    simp only
    by_cases hr : rightI (numL p) (numL q) (numL r) = true
    · exfalso
      obtain ⟨h1, h2, h3⟩ := right_parts3 hr
      obtain ⟨a, ha, hp⟩ := num_canon p h1.1
      obtain ⟨b, hb, hq⟩ := num_canon q h2.1
      obtain ⟨c, hc, hr'⟩ := num_canon r h3.1
      have hw : w = wordL a b c := by
        have hj := join_split w
        rw [hs, hp, hq, hr'] at hj
        exact hj.symm
      have ea : atoiV p = a := by rw [hp, atoi_dec a (by omega)]
      have eb : atoiV q = b := by rw [hq, atoi_dec b (by omega)]
      have ec : atoiV r = c := by rw [hr', atoi_dec c (by omega)]
      rw [ea, eb, ec] at hbad
      have hl := word_len a b c (by omega) (by omega) (by omega)
      rw [← hw] at hl
      rcases hbad with h | h | h
      · omega
      · rw [ha, hb, hc] at hr
        rw [hr] at h
        cases h
      · exact h hw.symm
    · rw [if_neg hr]
theorem read_short (w : List UInt8) (h : ∀ p q r, splitL w ≠ [p, q, r]) : readW w = none := by
  unfold readW
  split
  · rename_i p q r hs
    exact absurd hs (h p q r)
  · rfl
/-! the library's split is this one -/
theorem idx_spec (l : List UInt8) : (Lib.indexByte l 46 = -1 ∧ ∀ b ∈ l, b ≠ 46) ∨ ∃ i : Nat, Lib.indexByte l 46 = i ∧ i < l.length ∧ (∀ b ∈ l.take i, b ≠ 46) ∧ l.drop i = 46 :: l.drop (i + 1) := by
  induction l with
  | nil => exact .inl ⟨rfl, by simp⟩
  | cons a l ih =>
    by_cases h : a = 46
    · subst h
      exact .inr ⟨0, by simp [Lib.indexByte], by simp, by simp, by simp⟩
    · have hf : (a == 46) = false := by simpa using h
      rcases ih with ⟨h1, h2⟩ | ⟨i, h1, h2, h3, h4⟩
      · refine .inl ⟨by simp [Lib.indexByte, hf, h1], ?_⟩
        intro b hb
        rcases List.mem_cons.1 hb with e | e
        · rw [e]; exact h
        · exact h2 b e
      · refine .inr ⟨i + 1, ?_, by simpa using h2, ?_, ?_⟩
        · simp only [Lib.indexByte, hf]
          rw [h1]
          have : ((i : Int) == -1) = false := by rw [beq_eq_false_iff_ne]; omega
          simp [this]
        · intro b hb
          rw [List.take_succ_cons] at hb
          rcases List.mem_cons.1 hb with e | e
          · rw [e]; exact h
          · exact h3 b e
        · simpa using h4
theorem idxB (l : List UInt8) : Lib.indexB ⟨l.toArray⟩ ⟨#[46]⟩ = Lib.indexByte l 46 := by
  rw [Lib.one _ _ rfl]
  rfl
theorem split_lib : ∀ (k : Nat) (l : List UInt8), Lib.countB ⟨l.toArray⟩ ⟨#[46]⟩ = k → (Lib.splitB ⟨#[46]⟩ 0 k ⟨l.toArray⟩).map (·.data.toList) = splitL l := by
  intro k
  induction k with
  | zero =>
    intro l hk
    rcases idx_spec l with ⟨h1, h2⟩ | ⟨i, h1, _⟩
    · rw [Lib.splitB_zero, split_one l h2]
      simp
    · exfalso
      have := Lib.countB_hit ⟨l.toArray⟩ ⟨#[46]⟩ i (by decide) (by rw [idxB, h1])
      omega
  | succ k ih =>
    intro l hk
    rcases idx_spec l with ⟨h1, h2⟩ | ⟨i, h1, hi, h3, h4⟩
    · exfalso
      have := Lib.countB_miss ⟨l.toArray⟩ ⟨#[46]⟩ (by rw [idxB, h1])
      omega
    · have e1 : (⟨l.toArray⟩ : ByteArray).extract 0 (i + 0) = ⟨(l.take i).toArray⟩ := by rw [ByteArray.extract_mk]; simp
      have e2 : (⟨l.toArray⟩ : ByteArray).extract (i + (⟨#[46]⟩ : ByteArray).size) (⟨l.toArray⟩ : ByteArray).size = ⟨(l.drop (i + 1)).toArray⟩ := by
        rw [ByteArray.extract_mk]
        have h5 : (⟨l.toArray⟩ : ByteArray).size = l.length := by show l.toArray.size = _; simp
        have h6 : (⟨#[46]⟩ : ByteArray).size = 1 := rfl
        rw [h5, h6, List.take_of_length_le (by simp)]
      have hc := Lib.countB_hit ⟨l.toArray⟩ ⟨#[46]⟩ i (by decide) (by rw [idxB, h1])
      rw [Lib.splitB_hit _ _ _ _ i (by rw [idxB, h1]), e1, e2, List.map_cons, ih (l.drop (i + 1)) (by rw [e2] at hc; omega)]
      have hl : l = l.take i ++ 46 :: l.drop (i + 1) := by rw [← h4, List.take_append_drop]
      conv => rhs; rw [hl, split_cut _ _ h3]
theorem split_len (l : List UInt8) : (splitL l).length = Lib.countB ⟨l.toArray⟩ ⟨#[46]⟩ + 1 := by
  rw [← split_lib _ l rfl, List.length_map]
  exact Lib.splitB_all _ (by decide) 0 _ _ rfl
end Go.Proofs.YtkhamjghanjikaaDoor
