/- A power is the product of as many factors; too long ones are refused. Part 15 of 17. -/
import Derived.Test.YtagbnkbhobmgjaaNatPowersN
import Derived.Test.YtagbnkbhobmgjaaNatPowersM
import Derived.Test.YtagbnkbhobmgjaaNatPowersK
import Derived.Test.YtagbnkbhobmgjaaNatPowersL
import Derived.Test.YtagbnkbhobmgjaaNatPowersJ
import Derived.Test.YtagbnkbhobmgjaaNatPowersE
section
/- What the guard of the chapter on numbers tells, and what a word's literal says. -/
set_option linter.unusedVariables false
namespace Go.Proofs.Ytagbnkbhobmgjaa.Pure
open Go.RowKit Go.Proofs.Ytagbnkbhobmgjaa.Fn Go.Proofs.YtagbnkbhobmgjaaW.PrintWords Go.Proofs.YtagbnkbhobmgjaaW.PrintMore Go.Proofs.YtagbnkbhobmgjaaW.PrintLast
end Go.Proofs.Ytagbnkbhobmgjaa.Pure
end
section
/- What the quotients' parts are: shifts of words, one word's quotient, and the great quotient's step: plain arithmetic. -/
set_option linter.unusedVariables false
set_option linter.unusedSimpArgs false
namespace Go.Proofs.Ytagbnkbhobmgjaa.Pure
open Go.RowKit Go.Proofs.Ytagbnkbhobmgjaa.Fn Go.Proofs.YtagbnkbhobmgjaaW.PrintWords Go.Proofs.YtagbnkbhobmgjaaW.PrintMore Go.Proofs.YtagbnkbhobmgjaaW.PrintLast
theorem BWpow (n : Nat) : BW ^ n = 2 ^ (32 * n) := by rw [Nat.pow_mul]; rfl
theorem lt_2pow_mono {N L M : Nat} (h : N < 2 ^ L) (hL : L ≤ M) : N < 2 ^ M := Nat.lt_of_lt_of_le h (Nat.pow_le_pow_right (by decide) hL)
theorem words_len2 {N L m : Nat} (h : N < 2 ^ L) (hL : L ≤ 32 * m) : (words N).length ≤ m := words_len _ _ (by rw [BWpow]; exact lt_2pow_mono h hL)
/-! ### shifted -/
/-! ### short -/
end Go.Proofs.Ytagbnkbhobmgjaa.Pure
end
section
/- What the great quotient's step is: an estimate that is put right, a product that is taken away, and what is given back: plain arithmetic. -/
set_option linter.unusedVariables false
set_option linter.unusedSimpArgs false
namespace Go.Proofs.Ytagbnkbhobmgjaa.Pure
open Go.RowKit Go.Proofs.Ytagbnkbhobmgjaa.Fn Go.Proofs.YtagbnkbhobmgjaaW.PrintWords Go.Proofs.YtagbnkbhobmgjaaW.PrintMore Go.Proofs.YtagbnkbhobmgjaaW.PrintLast
end Go.Proofs.Ytagbnkbhobmgjaa.Pure
end
section
/- Quotients, remainders, shifts to the right, and the greatest common divisor: plain arithmetic. -/
set_option linter.unusedVariables false
set_option linter.unusedSimpArgs false
namespace Go.Proofs.Ytagbnkbhobmgjaa.Pure
open Go.RowKit Go.Proofs.Ytagbnkbhobmgjaa.Fn Go.Proofs.YtagbnkbhobmgjaaW.PrintWords Go.Proofs.YtagbnkbhobmgjaaW.PrintMore Go.Proofs.YtagbnkbhobmgjaaW.PrintLast
/-! ### Shr -/
theorem bitLenAux_bits : ∀ (f x : Nat), x < 2 ^ f → Lib.bitLenAux f x = (bits x).length
  | 0, x, h => by
    have : x = 0 := by simp at h; exact h
    subst this; rw [bits_zero]; rfl
  | f + 1, x, h => by
    by_cases h0 : x = 0
    · subst h0; rw [bits_zero]; rfl
    · rw [bits_pos h0, List.length_cons]
      have : x / 2 < 2 ^ f := by rw [Nat.div_lt_iff_lt_mul (by decide), ← Nat.pow_succ]; exact h
      simp only [Lib.bitLenAux]
      rw [if_neg h0, bitLenAux_bits f _ this]; omega
theorem bitLen_bits (x : Nat) (h : x < 2 ^ 64) : Lib.bitLen x = (bits x).length := bitLenAux_bits 64 x h
theorem bitLen_lims (x : Nat) (h : x < 2 ^ 64) : x < 2 ^ Lib.bitLen x ∧ (x ≠ 0 → 2 ^ (Lib.bitLen x - 1) ≤ x) := by
  rw [bitLen_bits x h]
  refine ⟨?_, fun h0 => bits_len_lt h0⟩
  have := bv_lt (bits x)
  rw [bv_bits] at this; exact this
end Go.Proofs.Ytagbnkbhobmgjaa.Pure
end
section
/- How long a number is, its bits, whether it is a word of 64, and what it is, shifted to the left: plain arithmetic. -/
set_option linter.unusedVariables false
set_option linter.unusedSimpArgs false
namespace Go.Proofs.Ytagbnkbhobmgjaa.Pure
open Go.RowKit Go.Proofs.Ytagbnkbhobmgjaa.Fn Go.Proofs.YtagbnkbhobmgjaaW.PrintWords Go.Proofs.YtagbnkbhobmgjaaW.PrintMore Go.Proofs.YtagbnkbhobmgjaaW.PrintLast
/-! ### how long -/
theorem bits_len_is {n m : Nat} (h0 : 2 ^ m ≤ n) (h1 : n < 2 ^ (m + 1)) : (bits n).length = m + 1 := by
  have hp : 0 < 2 ^ m := Nat.pow_pos (by decide)
  have a := bits_len _ _ h1
  have b := bits_len_lt (n := n) (by omega)
  have c := bv_lt (bits n)
  rw [bv_bits] at c
  rcases Nat.lt_or_ge (bits n).length (m + 1) with h | h
  · have : 2 ^ (bits n).length ≤ 2 ^ m := Nat.pow_le_pow_right (by decide) (by omega)
    omega
  · omega
theorem bits_len_le_iff (n k : Nat) : (bits n).length ≤ k ↔ n < 2 ^ k := by
  constructor
  · intro h
    have c := bv_lt (bits n)
    rw [bv_bits] at c
    exact Nat.lt_of_lt_of_le c (Nat.pow_le_pow_right (by decide) h)
  · exact bits_len k n
theorem NLen_spec {a : List Int} (ha : WD a) (hm : a.length ≤ 200000000) : Ev (fun k => nat_Nat_Len.f k a) (((bits (wv a)).length : Nat) : Int) := by
  unfold nat_Nat_Len.f
  have hwl : (words (wv a)).length ≤ a.length := words_len _ _ (wv_lt ha)
  refine Ev.bind (trim_spec ha (by omega)) ?_
  by_cases h : wv a = 0
  · rw [h, words_zero, bits_zero]
    exact Ev.now _
  · have hne : words (wv a) ≠ [] := by intro e; have := words_ne h; rw [e] at this; simp at this
    have hn := nrm_words (wv a)
    have hW := WD_words (wv a)
    have hv := wv_words (wv a)
    generalize hN : wv a = N at *
    obtain ⟨xs, x, e⟩ : ∃ xs x, words N = xs ++ [x] := ⟨(words N).dropLast, (words N).getLast hne, (List.dropLast_concat_getLast hne).symm⟩
    rw [e] at hn hW hv hwl
    have hx := hW x (by simp)
    have hx0 : x ≠ 0 := hn x (by simp)
    have hl := wv_lt (WD_left hW)
    rw [wv_snoc] at hv
    obtain ⟨b1, b2⟩ := bitLen_lims x.toNat (by omega)
    have b2' := b2 (by omega)
    have b3 : Lib.bitLen x.toNat ≤ 32 := by rw [bitLen_bits _ (by omega)]; exact bits_len _ _ (by omega)
    have b4 : 0 < Lib.bitLen x.toNat := by
      rcases Nat.eq_zero_or_pos (Lib.bitLen x.toNat) with h0 | h0
      · rw [h0] at b1; omega
      · exact h0
    have hb : (bits N).length = 32 * xs.length + Lib.bitLen x.toNat := by
      have e1 : 32 * xs.length + Lib.bitLen x.toNat = (32 * xs.length + (Lib.bitLen x.toNat - 1)) + 1 := by omega
      rw [e1]
      refine bits_len_is ?_ ?_
      · rw [Nat.pow_add, Nat.pow_mul, ← hv]
        have : (2 ^ 32) ^ xs.length * 2 ^ (Lib.bitLen x.toNat - 1) ≤ BW ^ xs.length * x.toNat := Nat.mul_le_mul_left _ b2'
        omega
      · rw [← e1, Nat.pow_add, Nat.pow_mul, ← hv]
        have h2 : BW ^ xs.length * x.toNat + BW ^ xs.length ≤ (2 ^ 32) ^ xs.length * 2 ^ Lib.bitLen x.toNat := by
          rw [← Nat.mul_succ]; exact Nat.mul_le_mul_left _ b1
        omega
    simp only [List.length_append, List.length_singleton] at hwl
    have hw : wrap64 (((xs ++ [x]).length : Int) - 1) = (((xs ++ [x]).length : Int) - 1) := w64 (by simp <;> omega) (by simp <;> omega)
    rw [e, hb]
    refine Ev.congr (fun k => ?_) (Ev.now _)
    rw [if_neg (by simp; omega), hw, rd_last]
    rw [if_pos (by simp), if_pos (by omega)]
    unfold bits_Len32.f
    rw [if_pos hx.1, if_pos (by omega)]
    simp only [Option.bind_some]
    have e3 : (((xs ++ [x]).length : Int) - 1) = ((xs.length : Nat) : Int) := by simp
    rw [e3, w64 (x := 32 * ((xs.length : Nat) : Int)) (by omega) (by omega), w64 (by omega) (by omega)]
    rfl
/-! ### bits -/
/-! ### Uint -/
/-! ### Shl -/
/-! ### a word of a row of bits -/
end Go.Proofs.Ytagbnkbhobmgjaa.Pure
end
section
/- A word as a row of bits, and powers: plain arithmetic. -/
set_option linter.unusedVariables false
set_option linter.unusedSimpArgs false
namespace Go.Proofs.Ytagbnkbhobmgjaa.Pure
open Go.RowKit Go.Proofs.Ytagbnkbhobmgjaa.Fn Go.Proofs.YtagbnkbhobmgjaaW.PrintWords Go.Proofs.YtagbnkbhobmgjaaW.PrintMore Go.Proofs.YtagbnkbhobmgjaaW.PrintLast
/-! ### Of -/
theorem Of_in {v : Int} (v0 : 0 ≤ v) (v1 : v < 18446744073709551616) (R : List Bool) :
    ∀ (d j : Nat) (x : List Bool), j + d = 64 → x.length = j → bv x = v.toNat % 2 ^ j →
      (∀ (x' : List Bool), x'.length = 64 → bv x' = v.toNat → Ev (fun k => flyballref01_Of.l0 k [v] x' 1) R) →
      Ev (fun k => flyballref01_Of.l1 k [v] x 0 (j : Int)) R
  | 0, j, x, hd, hl, hv, hk => by
    have ej : j = 64 := by omega
    subst ej
    rw [Nat.mod_eq_of_lt (by omega)] at hv
    refine Ev.step (fun k => ?_) (hk x (by omega) hv)
    simp only [flyballref01_Of.l1]
    rw [if_neg (by omega), w64 (by omega) (by omega)]
    rfl
  | d + 1, j, x, hd, hl, hv, hk => by
    have hb := bit_u64 v0 v1 j (by omega)
    have ih := Of_in v0 v1 R d (j + 1) (x ++ [(v.toNat / 2 ^ j % 2 == 1)]) (by omega) (by simp; omega) (by
      rw [bv_snoc, hv, hl]
      have : bn (v.toNat / 2 ^ j % 2 == 1) = v.toNat / 2 ^ j % 2 := by
        rcases Nat.mod_two_eq_zero_or_one (v.toNat / 2 ^ j) with e | e <;> rw [e] <;> rfl
      rw [this, Nat.mod_pow_succ]) hk
    refine Ev.step (fun k => ?_) ih
    have er : rd [v] 0 = v := rfl
    simp only [flyballref01_Of.l1]
    rw [if_pos (by omega), if_pos (by omega), if_pos (by simp), er, hb, if_pos (by rw [u64i (by omega) (by omega)]; omega), if_pos (by omega), w64 (by omega) (by omega)]
    rfl
theorem Of_spec {v : Int} (v0 : 0 ≤ v) (v1 : v < 18446744073709551616) : ∃ l, Ev (fun k => flyballref01_Of.f k [v]) l ∧ l.length = 64 ∧ bv l = v.toNat := by
  have key : ∀ x' : List Bool, Ev (fun k => flyballref01_Of.l0 k [v] x' 1) x' := fun x' =>
    Ev.step (f := fun _ => some x') (fun k => by simp only [flyballref01_Of.l0]; rw [if_neg (by simp)]) (Ev.now _)
  obtain ⟨l, hl, hv⟩ : ∃ l : List Bool, l.length = 64 ∧ bv l = v.toNat := by
    refine ⟨bits v.toNat ++ List.replicate (64 - (bits v.toNat).length) false, ?_, ?_⟩
    · have := bits_len 64 v.toNat (by omega)
      simp; omega
    · rw [bv_append, bv_rep, bv_bits, Nat.mul_zero, Nat.add_zero]
  refine ⟨l, ?_, hl, hv⟩
  have huniq : ∀ x' : List Bool, x'.length = 64 → bv x' = v.toNat → x' = l := fun x' h1 h2 => bv_inj' (by omega) (by rw [h2, hv])
  refine Ev.step (fun k => ?_) (Of_in v0 v1 l 64 0 [] (by omega) rfl (by simp [bv_nil, Nat.mod_one]) (fun x' h1 h2 => by rw [huniq x' h1 h2]; exact key l))
  unfold flyballref01_Of.f
  simp only [flyballref01_Of.l0]
  rw [if_pos (by simp)]
  rfl
where
  bv_inj' : ∀ {a b : List Bool}, a.length = b.length → bv a = bv b → a = b
    | [], [], _, _ => rfl
    | [], y :: ys, h, _ => by simp at h
    | x :: xs, [], h, _ => by simp at h
    | x :: xs, y :: ys, h, e => by
      rw [bv_cons, bv_cons] at e
      have hx := bn_le x
      have hy := bn_le y
      have e1 : bn x = bn y := by omega
      have e2 : bv xs = bv ys := by omega
      rw [bv_inj' (by simpa using h) e2]
      cases x <;> cases y <;> simp [bn] at e1 ⊢
/-! ### Pow -/
theorem and1_i64 (a : Nat) (ha : a < 9223372036854775808) : Go.bits .and .i64 (a : Int) 1 = ((a % 2 : Nat) : Int) := by
  have h1 : (BitVec.ofInt 64 (a : Int)).toNat = a := by
    rw [BitVec.ofInt_natCast, BitVec.toNat_ofNat]; exact Nat.mod_eq_of_lt (by omega)
  have h2 : (BitVec.ofInt 64 (1 : Int)).toNat = 1 := by decide
  show IntKind.i64.wrap ((BitVec.ofInt 64 (a : Int) &&& BitVec.ofInt 64 (1 : Int)).toNat : Int) = _
  rw [BitVec.toNat_and, h1, h2, Nat.and_one_is_mod]
  rw [i64_w]
  exact w64 (by omega) (by omega)
theorem pow_words_lt' {N L : Nat} (m : Nat) (hL : 32 * m = L) (h : N < 2 ^ L) : N < BW ^ m := by rw [BWpow, hL]; exact h
theorem pow_words_lt {N : Nat} (h : N < 2 ^ 65536) : N < BW ^ 2048 := pow_words_lt' (L := 65536) 2048 rfl h
theorem pow_words_len {N : Nat} (h : N < 2 ^ 65536) : (words N).length ≤ 2048 := words_len _ _ (pow_words_lt h)
theorem mul_lt_BW {a b m n : Nat} (ha : a < BW ^ m) (hb : b < BW ^ n) : a * b < BW ^ (m + n) := by
  rw [Nat.pow_add]; exact Nat.mul_lt_mul_of_lt_of_lt ha hb
theorem one_lt_2pow : ∀ t : Nat, t ≠ 0 → 1 < 2 ^ t := fun t h => Nat.one_lt_two_pow h
theorem pow_half (x n i : Nat) : x ^ (n / 2 ^ i) = x ^ (n / 2 ^ (i + 1)) * x ^ (n / 2 ^ (i + 1)) * (if n / 2 ^ i % 2 = 1 then x else 1) := by
  have e : n / 2 ^ (i + 1) = n / 2 ^ i / 2 := by rw [Nat.pow_succ, Nat.div_div_eq_div_mul]
  rw [e]
  generalize n / 2 ^ i = m
  rw [← Nat.pow_add]
  rcases Nat.mod_two_eq_zero_or_one m with h | h
  · rw [if_neg (by omega), Nat.mul_one]; congr 1; omega
  · rw [if_pos h]
    have : m = m / 2 + m / 2 + 1 := by omega
    rw [← Nat.pow_succ]; congr 1
theorem Pow_ev (x n : Nat) (hx : 2 ≤ x) (hx1 : x < 2 ^ 64) (hn : n < 2 ^ 62) (R : Prop) : ∀ (c : Nat), c ≤ 64 → x ^ (n / 2 ^ c) < 2 ^ 65536 →
    ∃ r, Ev (fun k => nat_Pow.l0 k (n : Int) (words (x ^ (n / 2 ^ c))) (words x) ((c : Int) - 1)) r ∧ (r = (words (x ^ n), 0) ∨ r = ([], 20)) ∧ (x ^ n < 2 ^ 65536 → r = (words (x ^ n), 0))
  | 0, hc, hlt => by
    rw [Nat.pow_zero, Nat.div_one] at hlt ⊢
    refine ⟨_, Ev.step (f := fun _ => some (words (x ^ n), 0)) (fun k => ?_) (Ev.now _), Or.inl rfl, fun _ => rfl⟩
    simp only [nat_Pow.l0]
    rw [if_neg (by omega)]
  | c + 1, hc, hlt => by
    have l1 := pow_words_len hlt
    have l2 : (words x).length ≤ 2 := words_len _ _ (by rw [BWpow]; exact hx1)
    have hm := Mul_spec (WD_words (x ^ (n / 2 ^ (c + 1)))) (WD_words (x ^ (n / 2 ^ (c + 1)))) (by omega) (by omega)
    rw [wv_words] at hm
    have ph := pow_half x n c
    have hpl := mul_lt_BW (pow_words_lt hlt) (pow_words_lt hlt)
    have l3 := words_len _ _ hpl
    have hsh := shr_nat .i64 n c (by simp [IntKind.bits]; omega)
    have hand := and1_i64 (n / 2 ^ c) (Nat.lt_of_le_of_lt (Nat.div_le_self _ _) (by omega))
    have ec : (((c + 1 : Nat) : Int) - 1) = (c : Int) := by omega
    rw [ec]
    have hmono : x ^ n < 2 ^ 65536 → x ^ (n / 2 ^ c) < 2 ^ 65536 := fun h => Nat.lt_of_le_of_lt (Nat.pow_le_pow_right (by omega) (Nat.div_le_self _ _)) h
    -- what is left, once the power at this bit is told
    have rest : ∀ (t : List Int), t = words (x ^ (n / 2 ^ c)) → t.length ≤ 10000 → ∃ r, Ev (fun k => (nat_Nat_Len.f k t).bind fun u => if u > 65536 then some (([] : List Int), (20 : Int)) else nat_Pow.l0 k (n : Int) t (words x) (wrap64 ((c : Int) - 1))) r ∧ (r = (words (x ^ n), 0) ∨ r = ([], 20)) ∧ (x ^ n < 2 ^ 65536 → r = (words (x ^ n), 0)) := by
      intro t ht hl
      subst ht
      have hL := NLen_spec (WD_words (x ^ (n / 2 ^ c))) (by omega)
      rw [wv_words] at hL
      have hiff := bits_len_le_iff (x ^ (n / 2 ^ c)) 65536
      by_cases hb : (bits (x ^ (n / 2 ^ c))).length ≤ 65536
      · obtain ⟨r, h1, h2, h3⟩ := Pow_ev x n hx hx1 hn R c (by omega) (hiff.1 hb)
        refine ⟨r, Ev.bind hL (Ev.congr (fun k => ?_) h1), h2, h3⟩
        rw [if_neg (by omega), w64 (by omega) (by omega)]
      · refine ⟨_, Ev.bind hL (Ev.congr (fun k => if_pos (by omega)) (Ev.now _)), Or.inr rfl, fun h => absurd (hiff.2 (hmono h)) hb⟩
    rcases Nat.mod_two_eq_zero_or_one (n / 2 ^ c) with hb | hb
    · rw [if_neg (by omega), Nat.mul_one] at ph
      obtain ⟨r, h1, h2, h3⟩ := rest (words (x ^ (n / 2 ^ (c + 1)) * x ^ (n / 2 ^ (c + 1)))) (by rw [ph]) (by omega)
      refine ⟨r, Ev.step (fun k => ?_) (Ev.bind hm (f := fun k t => (nat_Nat_Len.f k t).bind fun u => if u > 65536 then some (([] : List Int), (20 : Int)) else nat_Pow.l0 k (n : Int) t (words x) (wrap64 ((c : Int) - 1))) h1), h2, h3⟩
      simp only [nat_Pow.l0]
      rw [if_pos (by omega), hsh, hand, hb]
      rfl
    · rw [if_pos hb] at ph
      have hm2 := Mul_spec (WD_words (x ^ (n / 2 ^ (c + 1)) * x ^ (n / 2 ^ (c + 1)))) (WD_words x) (by omega) (by omega)
      rw [wv_words, wv_words, ← ph] at hm2
      have hx2 : x < BW ^ 2 := by rw [BWpow]; exact hx1
      have l4 := words_len _ _ (mul_lt_BW hpl hx2)
      rw [← ph] at l4
      obtain ⟨r, h1, h2, h3⟩ := rest _ rfl (by omega)
      refine ⟨r, Ev.step (fun k => ?_) (Ev.bind hm (f := fun k t => (nat_Nat_Mul.f k t (words x)).bind fun t2 => (nat_Nat_Len.f k t2).bind fun u => if u > 65536 then some (([] : List Int), (20 : Int)) else nat_Pow.l0 k (n : Int) t2 (words x) (wrap64 ((c : Int) - 1))) (Ev.bind hm2 h1)), h2, h3⟩
      simp only [nat_Pow.l0]
      rw [if_pos (by omega), hsh, hand, hb]
      rfl
/-- What a power comes to. -/
theorem Pow_spec (x n : Int) (x0 : 0 ≤ x) (x1 : x < 18446744073709551616) (n0 : -9223372036854775808 ≤ n) (n1 : n ≤ 9223372036854775807) :
    ∃ r, Ev (fun k => nat_Pow.f k x n) r ∧ (r = (words (x.toNat ^ n.toNat), 0) ∨ 2 ≤ x ∧ r = ([], 20)) ∧ (x.toNat ^ n.toNat < 2 ^ 65536 → r = (words (x.toNat ^ n.toNat), 0)) := by
  have h1 := New_spec 1 (by omega) (by omega)
  have hN := New_spec x x0 x1
  unfold nat_Pow.f
  by_cases hn : n ≤ 0
  · have e : x.toNat ^ n.toNat = 1 := by rw [show n.toNat = 0 by omega, Nat.pow_zero]
    rw [e]
    exact ⟨_, Ev.bind h1 (Ev.bind hN (Ev.congr (fun k => if_pos hn) (Ev.now _))), Or.inl rfl, fun _ => rfl⟩
  by_cases hx : x < 2
  · have e : x.toNat ^ n.toNat = x.toNat := by
      rcases (by omega : x.toNat = 0 ∨ x.toNat = 1) with h | h
      · rw [h, Nat.zero_pow (by omega)]
      · rw [h, Nat.one_pow]
    rw [e]
    exact ⟨_, Ev.bind h1 (Ev.bind hN (Ev.congr (fun k => if_neg hn) (Ev.congr (fun k => if_pos hx) (Ev.now _)))), Or.inl rfl, fun _ => rfl⟩
  have hx2 : 2 ≤ x.toNat := by omega
  have hx64 : x.toNat < 2 ^ 64 := by omega
  have big : ∀ t : Nat, 65536 ≤ t → 2 ^ t ≤ x.toNat ^ n.toNat → ¬ x.toNat ^ n.toNat < 2 ^ 65536 := fun t h h2 h3 => by
    have := Nat.pow_le_pow_right (show 0 < 2 by decide) h
    omega
  by_cases hg : n > 65536
  · refine ⟨_, Ev.bind h1 (Ev.bind hN (Ev.congr (fun k => if_neg hn) (Ev.congr (fun k => if_neg hx) (Ev.congr (fun k => if_pos hg) (Ev.now _))))), Or.inr ⟨by omega, rfl⟩, fun h => absurd h (big n.toNat (by omega) (Nat.pow_le_pow_left hx2 _))⟩
  have hL := NLen_spec (WD_words x.toNat) (by have := words_len 2 x.toNat (by rw [BWpow]; exact hx64); omega)
  rw [wv_words] at hL
  have hb1 := bits_len 64 x.toNat hx64
  have hb2 := bits_len_lt (n := x.toNat) (by omega)
  generalize hB : (bits x.toNat).length = B at *
  have hB1 : 1 ≤ B := by
    rcases Nat.eq_zero_or_pos B with h | h
    · have := (bits_len_le_iff x.toNat 0).1 (by omega)
      omega
    · exact h
  have hprod : (B - 1) * n.toNat ≤ 63 * 65536 := Nat.mul_le_mul (by omega) (by omega)
  have hw : wrap64 (wrap64 ((B : Int) - 1) * n) = (((B - 1) * n.toNat : Nat) : Int) := by
    have e1 : wrap64 ((B : Int) - 1) = ((B - 1 : Nat) : Int) := by rw [w64 (by omega) (by omega)]; omega
    have e2 : n = ((n.toNat : Nat) : Int) := by omega
    have e3 : ((B - 1 : Nat) : Int) * ((n.toNat : Nat) : Int) = (((B - 1) * n.toNat : Nat) : Int) := by simp
    rw [e1]
    conv => lhs; rw [e2]
    rw [e3]
    exact w64 (by omega) (by omega)
  by_cases hp : 65536 ≤ (B - 1) * n.toNat
  · refine ⟨_, Ev.bind h1 (Ev.bind hN (Ev.congr (fun k => if_neg hn) (Ev.congr (fun k => if_neg hx) (Ev.congr (fun k => if_neg hg) (Ev.bind hL (Ev.congr (fun k => if_pos (by rw [hw]; omega)) (Ev.now _))))))), Or.inr ⟨by omega, rfl⟩, fun h => absurd h (big ((B - 1) * n.toNat) hp ?_)⟩
    rw [Nat.pow_mul]
    exact Nat.pow_le_pow_left hb2 _
  · have en : IntKind.u64.wrap n = n := u64i (by omega) (by omega)
    have hlen : bits_Len.f (IntKind.u64.wrap n) = some ((Lib.bitLen n.toNat : Nat) : Int) := by
      unfold bits_Len.f bits_Len64.f
      rw [en, if_pos (by omega), if_pos (by omega)]; rfl
    obtain ⟨b1, b2⟩ := bitLen_lims n.toNat (by omega)
    have b3 : Lib.bitLen n.toNat ≤ 64 := by rw [bitLen_bits _ (by omega)]; exact bits_len _ _ (by omega)
    have e0 : n.toNat / 2 ^ Lib.bitLen n.toNat = 0 := Nat.div_eq_of_lt b1
    obtain ⟨r, p1, p2, p3⟩ := Pow_ev x.toNat n.toNat hx2 hx64 (by omega) True (Lib.bitLen n.toNat) b3 (by rw [e0, Nat.pow_zero]; exact one_lt_2pow 65536 (by decide))
    rw [e0, Nat.pow_zero] at p1
    have e2 : ((n.toNat : Nat) : Int) = n := by omega
    rw [e2] at p1
    refine ⟨r, Ev.bind h1 (Ev.bind hN (Ev.congr (fun k => if_neg hn) (Ev.congr (fun k => if_neg hx) (Ev.congr (fun k => if_neg hg) (Ev.bind hL (Ev.congr (fun k => if_neg (by rw [hw]; omega)) (Ev.congr (fun k => ?_) p1))))))), ?_, p3⟩
    · rw [hlen, Option.bind_some, w64 (by omega) (by omega)]; rfl
    · rcases p2 with h | h
      · exact Or.inl h
      · exact Or.inr ⟨by omega, h⟩
end Go.Proofs.Ytagbnkbhobmgjaa.Pure
end
section
/- A power is the product of as many factors; too long ones are refused. -/
set_option linter.unusedVariables false
set_option linter.unusedSimpArgs false
namespace Go.Proofs.Ytagbnkbhobmgjaa.Pure
open Go.RowKit Go.Proofs.Ytagbnkbhobmgjaa.Fn Go.Proofs.YtagbnkbhobmgjaaW.PrintWords Go.Proofs.YtagbnkbhobmgjaaW.PrintMore Go.Proofs.YtagbnkbhobmgjaaW.PrintLast
theorem i64_ofP {a : Int} (h : (Lit.int .i64 a).wf = true) : -9223372036854775808 ≤ a ∧ a ≤ 9223372036854775807 := by
  simp [Lit.wf, IntKind.min, IntKind.max, IntKind.bits, IntKind.signed] at h
  omega
theorem u64_ofP {a : Int} (h : (Lit.int .u64 a).wf = true) : 0 ≤ a ∧ a < 18446744073709551616 := by
  simp [Lit.wf, IntKind.min, IntKind.max, IntKind.bits, IntKind.signed] at h
  omega
theorem pow_lt64 {x : Nat} (h : x < 2 ^ 64) (i : Nat) : x ^ i < 2 ^ (64 * (i + 1)) := by
  have h1 : x ^ i ≤ (2 ^ 64) ^ i := Nat.pow_le_pow_left (by omega) i
  rw [← Nat.pow_mul] at h1
  exact Nat.lt_of_le_of_lt h1 (Nat.pow_lt_pow_right (by decide) (by omega))
theorem NatPowers_ev (x n : Int) (x0 : 0 ≤ x) (x1 : x < 18446744073709551616) (n1 : n ≤ 120) : ∀ (d i : Nat) (l : List Bool), i + d = n.toNat → l.length ≤ 64 * (i + 1) → bv l = x.toNat ^ i →
    Ev (fun k => flyballlaw02_NatPowers.l0 k x n true (words (x.toNat ^ n.toNat)) 0 l (bits x.toNat) (i : Int)) true
  | 0, i, l, hd, hl, hv => by
    have ei : i = n.toNat := by omega
    have hx64 : x.toNat < 2 ^ 64 := by omega
    have hwl : (words (x.toNat ^ n.toNat)).length ≤ 2 * 121 := words_len2 (pow_lt64 hx64 n.toNat) (by omega)
    have hi := Is_spec (words (x.toNat ^ n.toNat)) l (by omega) (by omega)
    rw [hv, ei, decide_eq_true rfl] at hi
    have hN := New_spec x x0 x1
    have hxl : (words x.toNat).length ≤ 2 := words_len2 hx64 (by omega)
    have hb := bits_len 64 x.toNat hx64
    have hi2 := Is_spec (words x.toNat) (bits x.toNat) (by omega) (by omega)
    rw [bv_bits, decide_eq_true rfl] at hi2
    refine Ev.step (f := fun k => (flyballref02_Is.f k (words (x.toNat ^ n.toNat)) l).bind fun t125 => if t125 = true then (nat_New.f k x).bind fun t126 => (flyballref02_Is.f k t126 (bits x.toNat)).bind fun t129 => some t129 else some false) (fun k => ?_) (Ev.bind hi (Ev.congr (fun k => if_pos rfl) (Ev.bind hN (Ev.bind hi2 (Ev.now _)))))
    simp only [flyballlaw02_NatPowers.l0]
    rw [if_neg (by omega)]
    rfl
  | d + 1, i, l, hd, hl, hv => by
    have hx64 : x.toNat < 2 ^ 64 := by omega
    have hb := bits_len 64 x.toNat hx64
    obtain ⟨r, h1, h2, h3⟩ := RMul_spec l (bits x.toNat) (by omega)
    rw [hv, bv_bits, ← Nat.pow_succ] at h2
    have hL := Len_spec r (by omega)
    have hlen : (bits (bv r)).length ≤ 64 * (i + 2) := by rw [h2]; exact bits_len _ _ (pow_lt64 hx64 (i + 1))
    have hrl := bits_bv_len r
    have ih := NatPowers_ev x n x0 x1 n1 d (i + 1) (bits (bv r)) (by omega) (by omega) (by rw [bv_bits, h2])
    refine Ev.step (fun k => ?_) (Ev.bind h1 (f := fun k t118 => (flyballref01_Len.f k t118).bind fun t121 => if 0 ≤ t121 then (if t121 ≤ (t118.length : Int) then flyballlaw02_NatPowers.l0 k x n true (words (x.toNat ^ n.toNat)) 0 (t118.take t121.toNat) (bits x.toNat) ((i + 1 : Nat) : Int) else none) else none) (Ev.bind hL (f := fun k t121 => if 0 ≤ t121 then (if t121 ≤ (r.length : Int) then flyballlaw02_NatPowers.l0 k x n true (words (x.toNat ^ n.toNat)) 0 (r.take t121.toNat) (bits x.toNat) ((i + 1 : Nat) : Int) else none) else none) (Ev.congr (fun k => ?_) ih)))
    · simp only [flyballlaw02_NatPowers.l0]
      rw [if_pos (by omega), w64 (by omega) (by omega)]
      rfl
    · rw [if_pos (by omega), if_pos (by omega), Int.toNat_natCast, bits_take]
theorem NatPowers : flyballlaw02_NatPowers.Pure := by
  intro x n hx hn
  obtain ⟨x0, x1⟩ := u64_ofP hx
  obtain ⟨n0, n1⟩ := i64_ofP hn
  refine Ev.rounds ?_
  unfold flyballlaw02_NatPowers.f
  obtain ⟨r, p1, p2, p3⟩ := Pow_spec x n x0 x1 n0 n1
  refine Ev.bind works02_spec (Ev.congr (fun k => if_pos rfl) (Ev.bind p1 ?_))
  by_cases hg : n > 120
  · rcases p2 with h | ⟨h, h'⟩
    · subst h
      refine Ev.congr (fun k => ?_) (Ev.now true)
      rw [if_pos hg]
      by_cases hx1 : x > 1
      · rw [if_pos hx1]; rfl
      · rw [if_neg hx1]; rfl
    · subst h'
      refine Ev.congr (fun k => ?_) (Ev.now true)
      rw [if_pos hg, if_pos (by omega)]; rfl
  · have hx64 : x.toNat < 2 ^ 64 := by omega
    have hlt : x.toNat ^ n.toNat < 2 ^ 65536 := lt_2pow_mono (M := 65536) (pow_lt64 hx64 n.toNat) (by omega)
    obtain rfl := p3 hlt
    obtain ⟨l, h1, h2, h3⟩ := Of_spec (v := 1) (by omega) (by omega)
    have hxl : (words x.toNat).length ≤ 2 := words_len2 hx64 (by omega)
    have hB := Bits_spec (WD_words x.toNat) (by omega)
    rw [wv_words] at hB
    refine Ev.congr (fun k => if_neg hg) (Ev.bind h1 (Ev.bind (New_spec x x0 x1) (Ev.bind hB ?_)))
    exact NatPowers_ev x n x0 x1 (by omega) n.toNat 0 l (by omega) (by omega) (by rw [h3, Nat.pow_zero]; rfl)
end Go.Proofs.Ytagbnkbhobmgjaa.Pure
end
