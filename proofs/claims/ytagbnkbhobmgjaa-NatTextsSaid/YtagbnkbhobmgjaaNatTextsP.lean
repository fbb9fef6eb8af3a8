/- Digits are written, and read, just as the document says; what is written is read as the same number. Part 16 of 20. -/
import Derived.Test.YtagbnkbhobmgjaaNatTextsO
import Derived.Test.YtagbnkbhobmgjaaNatTextsK
import Derived.Test.YtagbnkbhobmgjaaNatTextsL
import Derived.Test.YtagbnkbhobmgjaaNatTextsJ
import Derived.Test.YtagbnkbhobmgjaaNatTextsE
section
/- What the guard of the chapter on numbers tells, and what a word's literal says. -/
set_option linter.unusedVariables false
namespace Go.Proofs.Ytagbnkbhobmgjaa.Pure
open Go.RowKit Go.Proofs.Ytagbnkbhobmgjaa.Fn Go.Proofs.YtagbnkbhobmgjaaW.PrintWords Go.Proofs.YtagbnkbhobmgjaaW.PrintMore Go.Proofs.YtagbnkbhobmgjaaW.PrintLast
theorem WD_of {a : List Int} (h : ∀ x ∈ a, (Lit.int .u32 x).wf = true) : WD a := by
  intro x hx
  have := h x hx
  simp [Lit.wf, IntKind.min, IntKind.max, IntKind.bits, IntKind.signed] at this
  omega
theorem rdL2_lt (a : List (List Int)) (i : Nat) (h : i < a.length) : rd_L2 a (i : Int) = a[i] := by
  unfold rd_L2; simp [List.getD_eq_getElem?_getD, h]
theorem small_ev (ls : List (List Int)) (hm : ls.length ≤ 1000000000) : ∀ (d i : Nat), i + d = ls.length → Ev (fun k => flyballlaw02_small.l0 k ls (i : Int)) ((ls.drop i).all fun l => decide (l.length ≤ 24))
  | 0, i, hd => by
    rw [List.drop_eq_nil_of_le (by omega)]
    refine Ev.step (f := fun _ => some true) (fun k => ?_) (Ev.now _)
    simp only [flyballlaw02_small.l0]
    rw [if_neg (by omega)]
  | d + 1, i, hd => by
    rw [List.drop_eq_getElem_cons (by omega : i < ls.length), List.all_cons, ← rdL2_lt ls i (by omega)]
    by_cases h : (rd_L2 ls (i : Int)).length ≤ 24
    · rw [decide_eq_true h, Bool.true_and]
      refine Ev.step (fun k => ?_) (small_ev ls hm d (i + 1) (by omega))
      simp only [flyballlaw02_small.l0]
      rw [if_pos (by omega), if_pos (by omega), if_neg (by omega), w64 (by omega) (by omega)]
      rfl
    · rw [decide_eq_false h, Bool.false_and]
      refine Ev.step (f := fun _ => some false) (fun k => ?_) (Ev.now _)
      simp only [flyballlaw02_small.l0]
      rw [if_pos (by omega), if_pos (by omega), if_pos (by omega)]
theorem small_spec (ls : List (List Int)) (hm : ls.length ≤ 1000000000) : Ev (fun k => flyballlaw02_small.f k ls) (ls.all fun l => decide (l.length ≤ 24)) := small_ev ls hm ls.length 0 (by omega)
theorem bits_wv_len {a : List Int} (ha : WD a) : (bits (wv a)).length ≤ 32 * a.length := by
  refine bits_len _ _ ?_
  have := wv_lt ha
  rw [Nat.pow_mul]; exact this
end Go.Proofs.Ytagbnkbhobmgjaa.Pure
end
section
/- What the quotients' parts are: shifts of words, one word's quotient, and the great quotient's step: plain arithmetic. -/
set_option linter.unusedVariables false
set_option linter.unusedSimpArgs false
namespace Go.Proofs.Ytagbnkbhobmgjaa.Pure
open Go.RowKit Go.Proofs.Ytagbnkbhobmgjaa.Fn Go.Proofs.YtagbnkbhobmgjaaW.PrintWords Go.Proofs.YtagbnkbhobmgjaaW.PrintMore Go.Proofs.YtagbnkbhobmgjaaW.PrintLast
theorem or32 {r x : Int} (r0 : 0 ≤ r) (r1 : r < 4294967296) (x0 : 0 ≤ x) (x1 : x < 4294967296) :
    Go.bits .or .u64 (IntKind.u64.wrap (r * 4294967296)) (IntKind.u64.wrap x) = r * 4294967296 + x := by
  rw [u64i (by omega) (by omega), u64i x0 (by omega)]
  have h := bits_or_u64_nat (r.toNat * 4294967296) x.toNat (by omega) (by omega)
  have e1 : ((r.toNat * 4294967296 : Nat) : Int) = r * 4294967296 := by omega
  have e2 : ((x.toNat : Nat) : Int) = x := by omega
  rw [e1, e2] at h
  rw [h]
  have h2 := Nat.two_pow_add_eq_or_of_lt (i := 32) (b := x.toNat) (by omega) r.toNat
  rw [show (2 : Nat) ^ 32 = 4294967296 from rfl] at h2
  rw [Nat.mul_comm r.toNat, ← h2]; omega
/-! ### shifted -/
/-! ### short -/
theorem word_id (N : Nat) (h : N < 4294967296) : IntKind.u64.wrap (N : Int) % 4294967296 = (N : Int) := by
  rw [u64i (by omega) (by omega)]; omega
theorem short_inv (l : List Int) (hl : WD l) (b : Int) (b0 : 0 < b) (b1 : b < 4294967296) : ∀ (k : Nat), k ≤ l.length →
    (nat_short_st b (List.replicate l.length 0, 0) (bupto (bpair l l.length) k)).1.length = l.length ∧
    WD (nat_short_st b (List.replicate l.length 0, 0) (bupto (bpair l l.length) k)).1 ∧
    (∀ j : Nat, j < l.length - k → rd (nat_short_st b (List.replicate l.length 0, 0) (bupto (bpair l l.length) k)).1 (j : Int) = 0) ∧
    wv (nat_short_st b (List.replicate l.length 0, 0) (bupto (bpair l l.length) k)).1 = BW ^ (l.length - k) * (wv (l.drop (l.length - k)) / b.toNat) ∧
    (nat_short_st b (List.replicate l.length 0, 0) (bupto (bpair l l.length) k)).2 = ((wv (l.drop (l.length - k)) % b.toNat : Nat) : Int)
  | 0, _ => by
    have e : nat_short_st b (List.replicate l.length 0, 0) (bupto (bpair l l.length) 0) = (List.replicate l.length 0, 0) := rfl
    rw [e]
    refine ⟨by simp, WD_rep _, fun j _ => rd_zero_of_lt _ (WD_rep _) j (by rw [wv_rep]; exact Nat.pow_pos BW_pos), ?_, ?_⟩
    · rw [wv_rep, Nat.sub_zero, List.drop_length, wv_nil, Nat.zero_div, Nat.mul_zero]
    · rw [Nat.sub_zero, List.drop_length, wv_nil, Nat.zero_mod]; rfl
  | k + 1, hk => by
    obtain ⟨i1, i2, i3, i4, i5⟩ := short_inv l hl b b0 b1 k (by omega)
    have e : nat_short_st b (List.replicate l.length 0, 0) (bupto (bpair l l.length) (k + 1)) = nat_short_step b (nat_short_st b (List.replicate l.length 0, 0) (bupto (bpair l l.length) k)) (l.length - 1 - k) (l[l.length - 1 - k]?.getD 0) := by
      rw [bupto_succ]; unfold nat_short_st; rw [List.foldl_append]; rfl
    rw [e]
    generalize nat_short_st b (List.replicate l.length 0, 0) (bupto (bpair l l.length) k) = S at *
    obtain ⟨i, hi⟩ : ∃ i, i = l.length - (k + 1) := ⟨_, rfl⟩
    have e1 : l.length - 1 - k = i := by omega
    have e2 : l.length - k = i + 1 := by omega
    rw [e1, ← hi] at *
    rw [e2] at i3 i4 i5
    have ex : l[i]?.getD 0 = rd l (i : Int) := by rw [rd_lt l i (by omega)]; simp [show i < l.length by omega]
    obtain ⟨x0, x1⟩ := WD_rd hl (i : Int)
    have hd := wv_drop l i
    rw [ex]
    unfold nat_short_step
    generalize rd l (i : Int) = x at *
    generalize wv (l.drop (i + 1)) = V at *
    have hb : 0 < b.toNat := by omega
    have hmod := Nat.mod_lt V hb
    have hr0 : 0 ≤ S.2 := by rw [i5]; omega
    have hr1 : S.2 < b := by rw [i5]; omega
    rw [or32 hr0 (by omega) x0 x1, u64i (x := b) (by omega) (by omega)]
    have hcur : 0 ≤ S.2 * 4294967296 + x := by omega
    have eN : S.2 * 4294967296 + x = ((x.toNat + BW * (V % b.toNat) : Nat) : Int) := by rw [i5, BW_eq]; omega
    have eb : b = ((b.toNat : Nat) : Int) := by omega
    rw [Int.tdiv_eq_ediv_of_nonneg hcur, Int.tmod_eq_emod_of_nonneg hcur, eN]
    have eq1 : (((x.toNat + BW * (V % b.toNat) : Nat) : Int)) / b = (((x.toNat + BW * (V % b.toNat)) / b.toNat : Nat) : Int) := by
      conv => lhs; rw [eb]
      exact (Int.natCast_ediv _ _).symm
    have eq2 : (((x.toNat + BW * (V % b.toNat) : Nat) : Int)) % b = (((x.toNat + BW * (V % b.toNat)) % b.toNat : Nat) : Int) := by
      conv => lhs; rw [eb]
      exact (Int.natCast_emod _ _).symm
    rw [eq1, eq2]
    have hx : x.toNat < BW := by rw [BW_eq]; omega
    have hq : (x.toNat + BW * (V % b.toNat)) / b.toNat < BW := by
      rw [Nat.div_lt_iff_lt_mul hb]
      have : BW * (V % b.toNat) + BW ≤ BW * b.toNat := by rw [← Nat.mul_succ]; exact Nat.mul_le_mul_left _ hmod
      omega
    have hq2 : (x.toNat + BW * (V % b.toNat)) / b.toNat < 4294967296 := hq
    have hword := word_id _ hq2
    rw [hword]
    have hsplit : x.toNat + BW * V = (x.toNat + BW * (V % b.toNat)) + b.toNat * (BW * (V / b.toNat)) := by
      have h := Nat.mod_add_div V b.toNat
      have h2 : BW * V = BW * (V % b.toNat) + BW * (b.toNat * (V / b.toNat)) := by rw [← Nat.mul_add, h]
      rw [h2, Nat.mul_left_comm BW b.toNat]; omega
    have hset := wv_set S.1 i ((((x.toNat + BW * (V % b.toNat)) / b.toNat : Nat) : Int)) (by omega)
    rw [i3 i (by omega)] at hset
    refine ⟨by simp [i1], WD_set i2 _ (Int.natCast_nonneg _) (Int.ofNat_lt.2 hq2), fun j hj => by rw [rd_set_ne _ _ _ _ (by omega)]; exact i3 j (by omega), ?_, ?_⟩
    · rw [hd, hsplit, Nat.add_mul_div_left _ _ hb, Nat.mul_add, ← Nat.mul_assoc (BW ^ i) BW, ← Nat.pow_succ, ← i4]
      simp only [Int.toNat_natCast, Int.toNat_zero, Nat.mul_zero, Nat.add_zero] at hset
      rw [hset]; omega
    · rw [hd, hsplit, Nat.add_mul_mod_self_left]
theorem short_spec {l : List Int} (hl : WD l) (hm : l.length ≤ 2000000000) (b : Int) (b0 : 0 < b) (b1 : b < 4294967296) :
    Ev (fun k => nat_Nat_short.f k l b) (words (wv l / b.toNat), words (wv l % b.toNat)) := by
  obtain ⟨i1, i2, i3, i4, i5⟩ := short_inv l hl b b0 b1 l.length (Nat.le_refl _)
  rw [Nat.sub_self, List.drop_zero, Nat.pow_zero, Nat.one_mul] at i4
  rw [Nat.sub_self, List.drop_zero] at i5
  unfold nat_Nat_short.f
  have h1 : l.length < 1099511627776 := by omega
  simp only [if_pos h1]
  simp only [if_neg (show ¬ IntKind.u64.wrap b = 0 by rw [u64i (by omega) (by omega)]; omega)]
  have ht := trim_spec i2 (by omega)
  rw [i4] at ht
  have hmod := Nat.mod_lt (wv l) (show 0 < b.toNat by omega)
  have hn := New_spec ((wv l % b.toNat : Nat) : Int) (Int.natCast_nonneg _) (by
    have : (((wv l % b.toNat : Nat)) : Int) < ((b.toNat : Nat) : Int) := Int.ofNat_lt.2 hmod
    omega)
  rw [Int.toNat_natCast] at hn
  rw [i5]
  exact Ev.bind ht (Ev.bind hn (Ev.now _))
end Go.Proofs.Ytagbnkbhobmgjaa.Pure
end
section
/- What the great quotient's step is: an estimate that is put right, a product that is taken away, and what is given back: plain arithmetic. -/
set_option linter.unusedVariables false
set_option linter.unusedSimpArgs false
namespace Go.Proofs.Ytagbnkbhobmgjaa.Pure
open Go.RowKit Go.Proofs.Ytagbnkbhobmgjaa.Fn Go.Proofs.YtagbnkbhobmgjaaW.PrintWords Go.Proofs.YtagbnkbhobmgjaaW.PrintMore Go.Proofs.YtagbnkbhobmgjaaW.PrintLast
end Go.Proofs.Ytagbnkbhobmgjaa.Pure
end
section
/- Quotients, remainders, shifts to the right, and the greatest common divisor: plain arithmetic. -/
set_option linter.unusedVariables false
set_option linter.unusedSimpArgs false
namespace Go.Proofs.Ytagbnkbhobmgjaa.Pure
open Go.RowKit Go.Proofs.Ytagbnkbhobmgjaa.Fn Go.Proofs.YtagbnkbhobmgjaaW.PrintWords Go.Proofs.YtagbnkbhobmgjaaW.PrintMore Go.Proofs.YtagbnkbhobmgjaaW.PrintLast
/-! ### Shr -/
theorem mod_BW_drop {a : List Int} (ha : WD a) (i : Nat) : wv (a.drop i) % BW = (rd a (i : Int)).toNat := by
  rw [wv_drop a i, Nat.add_mul_mod_self_left]
  have := (WD_rd ha (i : Int)).2
  exact Nat.mod_eq_of_lt (by rw [BW_eq]; omega)
end Go.Proofs.Ytagbnkbhobmgjaa.Pure
end
section
/- Quotients, remainders, shifts to the right, and the greatest common divisor: plain arithmetic. -/
set_option linter.unusedVariables false
set_option linter.unusedSimpArgs false
namespace Go.Proofs.Ytagbnkbhobmgjaa.Pure
open Go.RowKit Go.Proofs.Ytagbnkbhobmgjaa.Fn Go.Proofs.YtagbnkbhobmgjaaW.PrintWords Go.Proofs.YtagbnkbhobmgjaaW.PrintMore Go.Proofs.YtagbnkbhobmgjaaW.PrintLast
/-! ### the loop of Div -/
end Go.Proofs.Ytagbnkbhobmgjaa.Pure
end
section
/- Quotients, remainders, shifts to the right, and the greatest common divisor: plain arithmetic. -/
set_option linter.unusedVariables false
set_option linter.unusedSimpArgs false
namespace Go.Proofs.Ytagbnkbhobmgjaa.Pure
open Go.RowKit Go.Proofs.Ytagbnkbhobmgjaa.Fn Go.Proofs.YtagbnkbhobmgjaaW.PrintWords Go.Proofs.YtagbnkbhobmgjaaW.PrintMore Go.Proofs.YtagbnkbhobmgjaaW.PrintLast
/-! ### Div -/
end Go.Proofs.Ytagbnkbhobmgjaa.Pure
end
section
/- Quotients, remainders, shifts to the right, and the greatest common divisor: plain arithmetic. -/
set_option linter.unusedVariables false
set_option linter.unusedSimpArgs false
namespace Go.Proofs.Ytagbnkbhobmgjaa.Pure
open Go.RowKit Go.Proofs.Ytagbnkbhobmgjaa.Fn Go.Proofs.YtagbnkbhobmgjaaW.PrintWords Go.Proofs.YtagbnkbhobmgjaaW.PrintMore Go.Proofs.YtagbnkbhobmgjaaW.PrintLast
/-! ### Gcd -/
end Go.Proofs.Ytagbnkbhobmgjaa.Pure
end
section
/- How long a number is, its bits, whether it is a word of 64, and what it is, shifted to the left: plain arithmetic. -/
set_option linter.unusedVariables false
set_option linter.unusedSimpArgs false
namespace Go.Proofs.Ytagbnkbhobmgjaa.Pure
open Go.RowKit Go.Proofs.Ytagbnkbhobmgjaa.Fn Go.Proofs.YtagbnkbhobmgjaaW.PrintWords Go.Proofs.YtagbnkbhobmgjaaW.PrintMore Go.Proofs.YtagbnkbhobmgjaaW.PrintLast
/-! ### how long -/
theorem bits_len_le_iff (n k : Nat) : (bits n).length ≤ k ↔ n < 2 ^ k := by
  constructor
  · intro h
    have c := bv_lt (bits n)
    rw [bv_bits] at c
    exact Nat.lt_of_lt_of_le c (Nat.pow_le_pow_right (by decide) h)
  · exact bits_len k n
/-! ### bits -/
theorem bv_drop_div (l : List Bool) (i : Nat) : bv l / 2 ^ i = bv (l.drop i) := by
  by_cases h : i ≤ l.length
  · have h2 : bv l = bv (l.take i) + 2 ^ i * bv (l.drop i) := by
      have : bv l = bv (l.take i ++ l.drop i) := by rw [List.take_append_drop]
      rw [this, bv_append, List.length_take, Nat.min_eq_left h]
    rw [h2, Nat.add_mul_div_left _ _ (Nat.pow_pos (by decide)), Nat.div_eq_of_lt (bv_take_lt l i), Nat.zero_add]
  · rw [List.drop_eq_nil_of_le (by omega), bv_nil]
    exact Nat.div_eq_of_lt (Nat.lt_of_lt_of_le (bv_lt l) (Nat.pow_le_pow_right (by decide) (by omega)))
/-! ### Uint -/
/-! ### Shl -/
/-! ### a word of a row of bits -/
theorem RWords_ev (l : List Bool) (hl : l.length ≤ 1000000000000) : ∀ (d i : Nat), i + d = min l.length 64 → Ev (fun k => flyballref01_Words.l0 k l 1 [((bv (l.take i) : Nat) : Int)] (i : Int)) [((bv (l.take 64) : Nat) : Int)]
  | 0, i, hd => by
    have e : l.take i = l.take 64 := by
      by_cases h : l.length ≤ 64
      · rw [List.take_of_length_le (by omega), List.take_of_length_le h]
      · have : i = 64 := by omega
        rw [this]
    rw [e]
    refine Ev.step (f := fun k => flyballref01_Words.j1 k l 1 [((bv (l.take 64) : Nat) : Int)] (i : Int) false) (fun k => ?_) (Ev.step (f := fun _ => some [((bv (l.take 64) : Nat) : Int)]) (fun k => ?_) (Ev.now _))
    · simp only [flyballref01_Words.l0]
      by_cases h : (i : Int) < (l.length : Int)
      · rw [if_pos h, w64 (by omega) (by omega), decide_eq_false (by omega)]
      · rw [if_neg h]
    · simp only [flyballref01_Words.j1]
      rfl
  | d + 1, i, hd => by
    have ih := RWords_ev l hl d (i + 1) (by omega)
    have hs := bv_take_succ l i
    have hlt := bv_take_lt l i
    have eq : wrap64 (Int.tdiv (i : Int) 64) = 0 := by
      rw [Int.tdiv_eq_ediv_of_nonneg (by omega), w64 (by omega) (by omega)]; omega
    have em : Int.tmod (i : Int) 64 = (i : Int) := by
      rw [Int.tmod_eq_emod_of_nonneg (by omega)]; omega
    refine Ev.step (f := fun k => flyballref01_Words.j1 k l 1 [((bv (l.take i) : Nat) : Int)] (i : Int) true) (fun k => ?_) (Ev.step (fun k => ?_) ih)
    · simp only [flyballref01_Words.l0]
      rw [if_pos (by omega), w64 (by omega) (by omega), decide_eq_true (by omega)]
    · simp only [flyballref01_Words.j1]
      rw [if_pos trivial, if_pos (by omega), if_pos (by omega), w64 (x := (i : Int) + 1) (by omega) (by omega)]
      cases hr : rdOf false l (i : Int) with
      | false =>
        rw [hr] at hs
        rw [if_neg (by simp), hs, bn_false, Nat.mul_zero, Nat.add_zero]
        rfl
      | true =>
        rw [hr] at hs
        have hor := or_u64 (x := ((bv (l.take i) : Nat) : Int)) i (by omega) (by omega) (by rw [Int.toNat_natCast]; exact hlt)
        rw [if_pos rfl, eq, em, if_pos (by omega), if_pos (by simp), if_pos (by rw [u64i (by omega) (by omega)]; omega)]
        have er : rd [((bv (l.take i) : Nat) : Int)] 0 = ((bv (l.take i) : Nat) : Int) := rfl
        rw [er, hor, hs, bn_true, Nat.mul_one]
        rfl
theorem RWords_spec (l : List Bool) (hl : l.length ≤ 1000000000000) : Ev (fun k => flyballref01_Words.f k l 1) [((bv (l.take 64) : Nat) : Int)] := by
  have := RWords_ev l hl (min l.length 64) 0 (by omega)
  unfold flyballref01_Words.f
  exact Ev.congr (fun k => by rw [if_pos (by omega), if_pos (by decide)]; rfl) this
theorem bv_take64 {l : List Bool} (h : bv l < 2 ^ 64) : bv (l.take 64) = bv l := by
  have h2 : bv l = bv (l.take 64) + 2 ^ (l.take 64).length * bv (l.drop 64) := by rw [← bv_append, List.take_append_drop]
  have h3 := bv_drop_div l 64
  rw [Nat.div_eq_of_lt h] at h3
  rw [← h3] at h2; omega
end Go.Proofs.Ytagbnkbhobmgjaa.Pure
end
section
/- Sums, products, quotients of numbers that are told as words of numbers: plain arithmetic. -/
set_option linter.unusedVariables false
set_option linter.unusedSimpArgs false
namespace Go.Proofs.Ytagbnkbhobmgjaa.Pure
open Go.RowKit Go.Proofs.Ytagbnkbhobmgjaa.Fn Go.Proofs.YtagbnkbhobmgjaaW.PrintWords Go.Proofs.YtagbnkbhobmgjaaW.PrintMore Go.Proofs.YtagbnkbhobmgjaaW.PrintLast
/-- A row of words, a number, and how long it may be. -/
structure Is (a : List Int) (A m : Nat) : Prop where
  wd : WD a
  val : wv a = A
  len : a.length ≤ m
theorem Is.lt {a : List Int} {A m : Nat} (h : Is a A m) : A < BW ^ m := by
  rw [← h.val]; exact Nat.lt_of_lt_of_le (wv_lt h.wd) (Nat.pow_le_pow_right BW_pos h.len)
theorem Is.mk' {A m : Nat} (h : A < BW ^ m) : Is (words A) A m := ⟨WD_words A, wv_words A, words_len _ _ h⟩
theorem Is.of {a : List Int} {m : Nat} (h : WD a) (hl : a.length ≤ m) : Is a (wv a) m := ⟨h, rfl, hl⟩
theorem lt_BW_add {x y m n : Nat} (hx : x < BW ^ m) (hy : y < BW ^ n) : x + y < BW ^ (max m n + 1) := by
  have h1 : BW ^ m ≤ BW ^ max m n := Nat.pow_le_pow_right BW_pos (Nat.le_max_left _ _)
  have h2 : BW ^ n ≤ BW ^ max m n := Nat.pow_le_pow_right BW_pos (Nat.le_max_right _ _)
  rw [Nat.pow_succ, BW_eq] at *
  omega
theorem lt_BW_mul {x y m n : Nat} (hx : x < BW ^ m) (hy : y < BW ^ n) : x * y < BW ^ (m + n) := by
  rw [Nat.pow_add]; exact Nat.mul_lt_mul_of_lt_of_lt hx hy
theorem Is.add {a b : List Int} {A B m n : Nat} (ha : Is a A m) (hb : Is b B n) (hm : m ≤ 1000000) (hn : n ≤ 1000000) :
    Ev (fun k => nat_Nat_Add.f k a b) (words (A + B)) ∧ Is (words (A + B)) (A + B) (max m n + 1) := by
  have h := Add_spec ha.wd hb.wd (Nat.le_trans ha.len (by omega)) (Nat.le_trans hb.len (by omega))
  rw [ha.val, hb.val] at h
  exact ⟨h, Is.mk' (lt_BW_add ha.lt hb.lt)⟩
theorem Is.mul {a b : List Int} {A B m n : Nat} (ha : Is a A m) (hb : Is b B n) (hm : m ≤ 1000000) (hn : n ≤ 1000000) :
    Ev (fun k => nat_Nat_Mul.f k a b) (words (A * B)) ∧ Is (words (A * B)) (A * B) (m + n) := by
  have h := Mul_spec ha.wd hb.wd (Nat.le_trans ha.len (by omega)) (Nat.le_trans hb.len (by omega))
  rw [ha.val, hb.val] at h
  exact ⟨h, Is.mk' (lt_BW_mul ha.lt hb.lt)⟩
theorem Is.cmp {a b : List Int} {A B m n : Nat} (ha : Is a A m) (hb : Is b B n) (hm : m ≤ 1000000) (hn : n ≤ 1000000) :
    Ev (fun k => nat_Nat_Cmp.f k a b) (cmpN A B) := by
  have h := Cmp_spec ha.wd hb.wd (Nat.le_trans ha.len (by omega)) (Nat.le_trans hb.len (by omega))
  rw [ha.val, hb.val] at h
  exact h
end Go.Proofs.Ytagbnkbhobmgjaa.Pure
end
section
/- A word as a row of bits, and powers: plain arithmetic. -/
set_option linter.unusedVariables false
set_option linter.unusedSimpArgs false
namespace Go.Proofs.Ytagbnkbhobmgjaa.Pure
open Go.RowKit Go.Proofs.Ytagbnkbhobmgjaa.Fn Go.Proofs.YtagbnkbhobmgjaaW.PrintWords Go.Proofs.YtagbnkbhobmgjaaW.PrintMore Go.Proofs.YtagbnkbhobmgjaaW.PrintLast
/-! ### Of -/
theorem Of_in {v : Int} (v0 : 0 ≤ v) (v1 : v < 18446744073709551616) (R : List Bool) :
    ∀ (d j : Nat) (x : List Bool), j + d = 64 → x.length = j → bv x = v.toNat % 2 ^ j →
      (∀ (x' : List Bool), x'.length = 64 → bv x' = v.toNat → Ev (fun k => flyballref01_Of.l0 k [v] x' 1) R) →
      Ev (fun k => flyballref01_Of.l1 k [v] x 0 (j : Int)) R
  | 0, j, x, hd, hl, hv, hk => by
    have ej : j = 64 := by omega
    subst ej
    rw [Nat.mod_eq_of_lt (by omega)] at hv
    refine Ev.step (fun k => ?_) (hk x (by omega) hv)
    simp only [flyballref01_Of.l1]
    rw [if_neg (by omega), w64 (by omega) (by omega)]
    rfl
  | d + 1, j, x, hd, hl, hv, hk => by
    have hb := bit_u64 v0 v1 j (by omega)
    have ih := Of_in v0 v1 R d (j + 1) (x ++ [(v.toNat / 2 ^ j % 2 == 1)]) (by omega) (by simp; omega) (by
      rw [bv_snoc, hv, hl]
      have : bn (v.toNat / 2 ^ j % 2 == 1) = v.toNat / 2 ^ j % 2 := by
        rcases Nat.mod_two_eq_zero_or_one (v.toNat / 2 ^ j) with e | e <;> rw [e] <;> rfl
      rw [this, Nat.mod_pow_succ]) hk
    refine Ev.step (fun k => ?_) ih
    have er : rd [v] 0 = v := rfl
    simp only [flyballref01_Of.l1]
    rw [if_pos (by omega), if_pos (by omega), if_pos (by simp), er, hb, if_pos (by rw [u64i (by omega) (by omega)]; omega), if_pos (by omega), w64 (by omega) (by omega)]
    rfl
theorem Of_spec {v : Int} (v0 : 0 ≤ v) (v1 : v < 18446744073709551616) : ∃ l, Ev (fun k => flyballref01_Of.f k [v]) l ∧ l.length = 64 ∧ bv l = v.toNat := by
  have key : ∀ x' : List Bool, Ev (fun k => flyballref01_Of.l0 k [v] x' 1) x' := fun x' =>
    Ev.step (f := fun _ => some x') (fun k => by simp only [flyballref01_Of.l0]; rw [if_neg (by simp)]) (Ev.now _)
  obtain ⟨l, hl, hv⟩ : ∃ l : List Bool, l.length = 64 ∧ bv l = v.toNat := by
    refine ⟨bits v.toNat ++ List.replicate (64 - (bits v.toNat).length) false, ?_, ?_⟩
    · have := bits_len 64 v.toNat (by omega)
      simp; omega
    · rw [bv_append, bv_rep, bv_bits, Nat.mul_zero, Nat.add_zero]
  refine ⟨l, ?_, hl, hv⟩
  have huniq : ∀ x' : List Bool, x'.length = 64 → bv x' = v.toNat → x' = l := fun x' h1 h2 => bv_inj' (by omega) (by rw [h2, hv])
  refine Ev.step (fun k => ?_) (Of_in v0 v1 l 64 0 [] (by omega) rfl (by simp [bv_nil, Nat.mod_one]) (fun x' h1 h2 => by rw [huniq x' h1 h2]; exact key l))
  unfold flyballref01_Of.f
  simp only [flyballref01_Of.l0]
  rw [if_pos (by simp)]
  rfl
where
  bv_inj' : ∀ {a b : List Bool}, a.length = b.length → bv a = bv b → a = b
    | [], [], _, _ => rfl
    | [], y :: ys, h, _ => by simp at h
    | x :: xs, [], h, _ => by simp at h
    | x :: xs, y :: ys, h, e => by
      rw [bv_cons, bv_cons] at e
      have hx := bn_le x
      have hy := bn_le y
      have e1 : bn x = bn y := by omega
      have e2 : bv xs = bv ys := by omega
      rw [bv_inj' (by simpa using h) e2]
      cases x <;> cases y <;> simp [bn] at e1 ⊢
/-! ### Pow -/
end Go.Proofs.Ytagbnkbhobmgjaa.Pure
end
