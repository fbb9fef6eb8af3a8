/- Rational numbers are made in lowest terms, as the document says: of two naturals, of an integer, of an integer times a power of two. Part 16 of 19. -/
import Derived.Test.YtagbnkbhobmgjaaRatioMakesO
import Derived.Test.YtagbnkbhobmgjaaRatioMakesK
import Derived.Test.YtagbnkbhobmgjaaRatioMakesM
import Derived.Test.YtagbnkbhobmgjaaRatioMakesJ
import Derived.Test.YtagbnkbhobmgjaaRatioMakesE
import Derived.Test.YtagbnkbhobmgjaaRatioMakesL
import Derived.Test.YtagbnkbhobmgjaaRatioMakesN
section
/- What the guard of the chapter on numbers tells, and what a word's literal says. -/
set_option linter.unusedVariables false
namespace Go.Proofs.Ytagbnkbhobmgjaa.Pure
open Go.RowKit Go.Proofs.Ytagbnkbhobmgjaa.Fn Go.Proofs.YtagbnkbhobmgjaaW.PrintWords Go.Proofs.YtagbnkbhobmgjaaW.PrintMore Go.Proofs.YtagbnkbhobmgjaaW.PrintLast
theorem WD_of {a : List Int} (h : ∀ x ∈ a, (Lit.int .u32 x).wf = true) : WD a := by
  intro x hx
  have := h x hx
  simp [Lit.wf, IntKind.min, IntKind.max, IntKind.bits, IntKind.signed] at this
  omega
end Go.Proofs.Ytagbnkbhobmgjaa.Pure
end
section
/- What the quotients' parts are: shifts of words, one word's quotient, and the great quotient's step: plain arithmetic. -/
set_option linter.unusedVariables false
set_option linter.unusedSimpArgs false
namespace Go.Proofs.Ytagbnkbhobmgjaa.Pure
open Go.RowKit Go.Proofs.Ytagbnkbhobmgjaa.Fn Go.Proofs.YtagbnkbhobmgjaaW.PrintWords Go.Proofs.YtagbnkbhobmgjaaW.PrintMore Go.Proofs.YtagbnkbhobmgjaaW.PrintLast
theorem wv_inj : ∀ {a b : List Int}, WD a → WD b → a.length = b.length → wv a = wv b → a = b
  | [], [], _, _, _, _ => rfl
  | [], y :: ys, _, _, hl, _ => by simp at hl
  | x :: xs, [], _, _, hl, _ => by simp at hl
  | x :: xs, y :: ys, ha, hb, hl, he => by
    obtain ⟨hx, hxs⟩ := WD_cons ha
    obtain ⟨hy, hys⟩ := WD_cons hb
    rw [wv_cons, wv_cons, BW_eq] at he
    have e1 : x = y := by omega
    have e2 : wv xs = wv ys := by omega
    rw [e1, wv_inj hxs hys (by simpa using hl) e2]
theorem BWpow (n : Nat) : BW ^ n = 2 ^ (32 * n) := by rw [Nat.pow_mul]; rfl
theorem lt_2pow_mono {N L M : Nat} (h : N < 2 ^ L) (hL : L ≤ M) : N < 2 ^ M := Nat.lt_of_lt_of_le h (Nat.pow_le_pow_right (by decide) hL)
theorem words_len2 {N L m : Nat} (h : N < 2 ^ L) (hL : L ≤ 32 * m) : (words N).length ≤ m := words_len _ _ (by rw [BWpow]; exact lt_2pow_mono h hL)
theorem or32 {r x : Int} (r0 : 0 ≤ r) (r1 : r < 4294967296) (x0 : 0 ≤ x) (x1 : x < 4294967296) :
    Go.bits .or .u64 (IntKind.u64.wrap (r * 4294967296)) (IntKind.u64.wrap x) = r * 4294967296 + x := by
  rw [u64i (by omega) (by omega), u64i x0 (by omega)]
  have h := bits_or_u64_nat (r.toNat * 4294967296) x.toNat (by omega) (by omega)
  have e1 : ((r.toNat * 4294967296 : Nat) : Int) = r * 4294967296 := by omega
  have e2 : ((x.toNat : Nat) : Int) = x := by omega
  rw [e1, e2] at h
  rw [h]
  have h2 := Nat.two_pow_add_eq_or_of_lt (i := 32) (b := x.toNat) (by omega) r.toNat
  rw [show (2 : Nat) ^ 32 = 4294967296 from rfl] at h2
  rw [Nat.mul_comm r.toNat, ← h2]; omega
theorem and_mask {p : Int} (p0 : 0 ≤ p) (p1 : p < 18446744073709551616) : Go.bits .and .u64 p 4294967295 = p % 4294967296 := by
  have h := bits_and_u64_nat p.toNat 4294967295 (by omega) (by omega)
  have e : ((p.toNat : Nat) : Int) = p := by omega
  rw [e] at h
  have h2 : p.toNat &&& 4294967295 = p.toNat % 4294967296 := Nat.and_two_pow_sub_one_eq_mod p.toNat 32
  rw [h2] at h
  have h3 : ((p.toNat % 4294967296 : Nat) : Int) = p % 4294967296 := by omega
  exact h.trans h3
/-- A word that is shifted to the left. -/
theorem shl_word {x : Int} (x0 : 0 ≤ x) (x1 : x < 4294967296) (s : Nat) (hs : s < 32) : shl .u64 x (s : Int) = ((x.toNat * 2 ^ s : Nat) : Int) := by
  unfold shl
  rw [Int.toNat_natCast, Nat.min_eq_left (by simp [IntKind.bits]; omega), u64w]
  have hp : 2 ^ s ≤ 2 ^ 31 := Nat.pow_le_pow_right (by decide) (by omega)
  have h1 : x.toNat * 2 ^ s ≤ 4294967295 * 2 ^ 31 := Nat.mul_le_mul (by omega) hp
  have e : x * 2 ^ s = ((x.toNat * 2 ^ s : Nat) : Int) := by
    rw [Int.natCast_mul, Int.toNat_of_nonneg x0]; simp
  rw [e]; omega
theorem or_shl (a c s : Nat) (hs : s < 32) (hc : c < 2 ^ s) (ha : a * 2 ^ s < 18446744073709551616) : Go.bits .or .u64 ((a * 2 ^ s : Nat) : Int) (c : Int) = ((a * 2 ^ s + c : Nat) : Int) := by
  have hp : 2 ^ s ≤ 2 ^ 31 := Nat.pow_le_pow_right (by decide) (by omega)
  rw [bits_or_u64_nat _ _ ha (by omega), Nat.mul_comm a, ← Nat.two_pow_add_eq_or_of_lt hc a]
theorem shifted_div (x c s : Nat) (hs : s < 32) (hc : c < 2 ^ s) : (x * 2 ^ s + c) / BW = x * 2 ^ s / BW := by
  have e : BW = 2 ^ s * 2 ^ (32 - s) := by rw [← Nat.pow_add, BW_eq]; have : s + (32 - s) = 32 := by omega
                                           rw [this]
  rw [e, ← Nat.div_div_eq_div_mul, ← Nat.div_div_eq_div_mul]
  have hp : 0 < 2 ^ s := Nat.pow_pos (by decide)
  rw [Nat.mul_div_cancel _ hp, Nat.mul_comm x, Nat.mul_add_div hp, Nat.div_eq_of_lt hc, Nat.add_zero]
theorem carry_lt {x : Int} (x0 : 0 ≤ x) (x1 : x < 4294967296) (s : Nat) : x.toNat * 2 ^ s / BW < 2 ^ s := by
  rw [Nat.div_lt_iff_lt_mul BW_pos, Nat.mul_comm]
  exact Nat.mul_lt_mul_of_pos_left (by rw [BW_eq]; omega) (Nat.pow_pos (by decide))
theorem word_shl_lt {x : Int} (x0 : 0 ≤ x) (x1 : x < 4294967296) (s : Nat) (hs : s < 32) : x.toNat * 2 ^ s < 9223372036854775808 := by
  have hp : 2 ^ s ≤ 2 ^ 31 := Nat.pow_le_pow_right (by decide) (by omega)
  have h1 : x.toNat * 2 ^ s ≤ 4294967295 * 2 ^ 31 := Nat.mul_le_mul (by omega) hp
  omega
/-! ### shifted -/
theorem shifted_ev (u : List Int) (hu : WD u) (s : Nat) (hs : s < 32) (n : Nat) (hn : n ≤ 2000000000) : ∀ (d i : Nat) (x : List Int) (c : Nat), i + d = n → x.length = n → WD x → (∀ j : Nat, i ≤ j → rd x (j : Int) = 0) →
    (i = 0 → c = 0) → (∀ j, i = j + 1 → c = (rd u (j : Int)).toNat * 2 ^ s / BW) → wv x + BW ^ i * c = wv (u.take i) * 2 ^ s →
    ∃ r, Ev (fun k => nat_shifted.l0 k u (s : Int) x (n : Int) (i : Int)) r ∧ r.length = n ∧ WD r ∧ ∃ c', wv r + BW ^ n * c' = wv (u.take n) * 2 ^ s
  | 0, i, x, c, hd, hl, hW, hz, h0, h1, hv => by
    have : i = n := by omega
    subst this
    refine ⟨x, Ev.step (f := fun _ => some x) (fun k => ?_) (Ev.now _), hl, hW, c, hv⟩
    simp only [nat_shifted.l0]
    rw [if_neg (by omega)]
  | d + 1, i, x, c, hd, hl, hW, hz, h0, h1, hv => by
    obtain ⟨r0, r1⟩ := WD_rd hu (i : Int)
    have hc : c < 2 ^ s := by
      cases i with
      | zero => rw [h0 rfl]; exact Nat.pow_pos (by decide)
      | succ j => rw [h1 j rfl]; exact carry_lt (WD_rd hu _).1 (WD_rd hu _).2 s
    have hlt := word_shl_lt r0 r1 s hs
    have hp : 2 ^ s ≤ 2 ^ 31 := Nat.pow_le_pow_right (by decide) (by omega)
    have hdiv := shifted_div (rd u (i : Int)).toNat c s hs hc
    have hset := wv_set x i (((rd u (i : Int)).toNat * 2 ^ s + c : Nat) % 4294967296 : Int) (by omega)
    rw [hz i (Nat.le_refl _)] at hset
    obtain ⟨r, e1, e2, e3, e4⟩ := shifted_ev u hu s hs n hn d (i + 1) (x.set i (((rd u (i : Int)).toNat * 2 ^ s + c : Nat) % 4294967296 : Int)) ((rd u (i : Int)).toNat * 2 ^ s / BW) (by omega) (by simp [hl])
      (WD_set hW _ (by omega) (by omega)) (fun j hj => by rw [rd_set_ne _ _ _ _ (by omega)]; exact hz j (by omega)) (by omega) (fun j hj => by rw [show i = j by omega]) (by
        rw [take_succ', Nat.add_mul, ← hv, ← hdiv]
        have e : BW ^ i * (rd u (i : Int)).toNat * 2 ^ s = BW ^ i * ((rd u (i : Int)).toNat * 2 ^ s) := Nat.mul_assoc _ _ _
        rw [e, Nat.pow_succ, Nat.mul_assoc]
        generalize (rd u (i : Int)).toNat * 2 ^ s = t at *
        have hm := Nat.mod_add_div (t + c) BW
        have hm2 : ((((t + c : Nat) : Int) % 4294967296).toNat) = (t + c) % BW := by rw [BW_eq]; omega
        have e5 : BW ^ i * ((t + c) % BW) + BW ^ i * (BW * ((t + c) / BW)) = BW ^ i * t + BW ^ i * c := by rw [← Nat.mul_add, hm, Nat.mul_add]
        rw [hm2] at hset
        simp only [Int.toNat_zero, Nat.mul_zero, Nat.add_zero] at hset
        omega)
    refine ⟨r, Ev.step (fun k => ?_) e1, e2, e3, e4⟩
    simp only [nat_shifted.l0]
    rw [if_pos (by omega), at_spec hu _ (by omega), Option.bind_some, if_pos (by omega)]
    by_cases hi : i = 0
    · rw [if_neg (by omega), if_pos (by omega), if_pos (by omega), shl_word r0 r1 s hs, w64 (by omega) (by omega), h0 hi]
      rfl
    · obtain ⟨j, rfl⟩ : ∃ j, i = j + 1 := ⟨i - 1, by omega⟩
      obtain ⟨q0, q1⟩ := WD_rd hu (j : Int)
      have ej : (((j + 1 : Nat) : Int) - 1) = (j : Int) := by omega
      have hc2 := h1 j rfl
      rw [if_pos (by omega), w64 (x := ((j + 1 : Nat) : Int) - 1) (by omega) (by omega), ej, at_spec hu _ (by omega), Option.bind_some, if_pos (by omega), if_pos (by omega), shl_word r0 r1 s hs, shl_word q0 q1 s hs]
      have ec : (((rd u (j : Int)).toNat * 2 ^ s : Nat) : Int) / 4294967296 = (c : Int) := by rw [hc2, BW_eq]; omega
      rw [ec, or_shl _ _ s hs hc (by omega), w64 (by omega) (by omega)]
      rfl
theorem shifted_spec {u : List Int} (hu : WD u) (s : Nat) (hs : s < 32) (n : Nat) (hn : n ≤ 2000000000) (hl : u.length ≤ n) (hlt : wv u * 2 ^ s < BW ^ n) :
    ∃ r, Ev (fun k => nat_shifted.f k u (s : Int) (n : Int)) r ∧ r.length = n ∧ WD r ∧ wv r = wv u * 2 ^ s := by
  obtain ⟨r, e1, e2, e3, c, e4⟩ := shifted_ev u hu s hs n hn n 0 (List.replicate n 0) 0 (by omega) (by simp) (WD_rep _) (fun j _ => by
    have := rd_zero_of_lt (List.replicate n 0) (WD_rep n) j (by rw [wv_rep]; exact Nat.pow_pos BW_pos)
    exact this) (fun _ => rfl) (fun j hj => by omega) (by simp [wv_rep, wv_nil])
  rw [List.take_of_length_le hl] at e4
  refine ⟨r, ?_, e2, e3, ?_⟩
  · unfold nat_shifted.f
    refine Ev.congr (fun k => ?_) e1
    rw [if_pos (by omega), if_pos (by omega)]
    simp only [Option.bind_some, Int.toNat_natCast, List.length_replicate]
    rfl
  · rcases Nat.eq_zero_or_pos c with h | h
    · rw [h] at e4; omega
    · have := Nat.le_mul_of_pos_right (BW ^ n) h
      omega
/-! ### short -/
theorem word_id (N : Nat) (h : N < 4294967296) : IntKind.u64.wrap (N : Int) % 4294967296 = (N : Int) := by
  rw [u64i (by omega) (by omega)]; omega
theorem short_inv (l : List Int) (hl : WD l) (b : Int) (b0 : 0 < b) (b1 : b < 4294967296) : ∀ (k : Nat), k ≤ l.length →
    (nat_short_st b (List.replicate l.length 0, 0) (bupto (bpair l l.length) k)).1.length = l.length ∧
    WD (nat_short_st b (List.replicate l.length 0, 0) (bupto (bpair l l.length) k)).1 ∧
    (∀ j : Nat, j < l.length - k → rd (nat_short_st b (List.replicate l.length 0, 0) (bupto (bpair l l.length) k)).1 (j : Int) = 0) ∧
    wv (nat_short_st b (List.replicate l.length 0, 0) (bupto (bpair l l.length) k)).1 = BW ^ (l.length - k) * (wv (l.drop (l.length - k)) / b.toNat) ∧
    (nat_short_st b (List.replicate l.length 0, 0) (bupto (bpair l l.length) k)).2 = ((wv (l.drop (l.length - k)) % b.toNat : Nat) : Int)
  | 0, _ => by
    have e : nat_short_st b (List.replicate l.length 0, 0) (bupto (bpair l l.length) 0) = (List.replicate l.length 0, 0) := rfl
    rw [e]
    refine ⟨by simp, WD_rep _, fun j _ => rd_zero_of_lt _ (WD_rep _) j (by rw [wv_rep]; exact Nat.pow_pos BW_pos), ?_, ?_⟩
    · rw [wv_rep, Nat.sub_zero, List.drop_length, wv_nil, Nat.zero_div, Nat.mul_zero]
    · rw [Nat.sub_zero, List.drop_length, wv_nil, Nat.zero_mod]; rfl
  | k + 1, hk => by
    obtain ⟨i1, i2, i3, i4, i5⟩ := short_inv l hl b b0 b1 k (by omega)
    have e : nat_short_st b (List.replicate l.length 0, 0) (bupto (bpair l l.length) (k + 1)) = nat_short_step b (nat_short_st b (List.replicate l.length 0, 0) (bupto (bpair l l.length) k)) (l.length - 1 - k) (l[l.length - 1 - k]?.getD 0) := by
      rw [bupto_succ]; unfold nat_short_st; rw [List.foldl_append]; rfl
    rw [e]
    generalize nat_short_st b (List.replicate l.length 0, 0) (bupto (bpair l l.length) k) = S at *
    obtain ⟨i, hi⟩ : ∃ i, i = l.length - (k + 1) := ⟨_, rfl⟩
    have e1 : l.length - 1 - k = i := by omega
    have e2 : l.length - k = i + 1 := by omega
    rw [e1, ← hi] at *
    rw [e2] at i3 i4 i5
    have ex : l[i]?.getD 0 = rd l (i : Int) := by rw [rd_lt l i (by omega)]; simp [show i < l.length by omega]
    obtain ⟨x0, x1⟩ := WD_rd hl (i : Int)
    have hd := wv_drop l i
    rw [ex]
    unfold nat_short_step
    generalize rd l (i : Int) = x at *
    generalize wv (l.drop (i + 1)) = V at *
    have hb : 0 < b.toNat := by omega
    have hmod := Nat.mod_lt V hb
    have hr0 : 0 ≤ S.2 := by rw [i5]; omega
    have hr1 : S.2 < b := by rw [i5]; omega
    rw [or32 hr0 (by omega) x0 x1, u64i (x := b) (by omega) (by omega)]
    have hcur : 0 ≤ S.2 * 4294967296 + x := by omega
    have eN : S.2 * 4294967296 + x = ((x.toNat + BW * (V % b.toNat) : Nat) : Int) := by rw [i5, BW_eq]; omega
    have eb : b = ((b.toNat : Nat) : Int) := by omega
    rw [Int.tdiv_eq_ediv_of_nonneg hcur, Int.tmod_eq_emod_of_nonneg hcur, eN]
    have eq1 : (((x.toNat + BW * (V % b.toNat) : Nat) : Int)) / b = (((x.toNat + BW * (V % b.toNat)) / b.toNat : Nat) : Int) := by
      conv => lhs; rw [eb]
      exact (Int.natCast_ediv _ _).symm
    have eq2 : (((x.toNat + BW * (V % b.toNat) : Nat) : Int)) % b = (((x.toNat + BW * (V % b.toNat)) % b.toNat : Nat) : Int) := by
      conv => lhs; rw [eb]
      exact (Int.natCast_emod _ _).symm
    rw [eq1, eq2]
    have hx : x.toNat < BW := by rw [BW_eq]; omega
    have hq : (x.toNat + BW * (V % b.toNat)) / b.toNat < BW := by
      rw [Nat.div_lt_iff_lt_mul hb]
      have : BW * (V % b.toNat) + BW ≤ BW * b.toNat := by rw [← Nat.mul_succ]; exact Nat.mul_le_mul_left _ hmod
      omega
    have hq2 : (x.toNat + BW * (V % b.toNat)) / b.toNat < 4294967296 := hq
    have hword := word_id _ hq2
    rw [hword]
    have hsplit : x.toNat + BW * V = (x.toNat + BW * (V % b.toNat)) + b.toNat * (BW * (V / b.toNat)) := by
      have h := Nat.mod_add_div V b.toNat
      have h2 : BW * V = BW * (V % b.toNat) + BW * (b.toNat * (V / b.toNat)) := by rw [← Nat.mul_add, h]
      rw [h2, Nat.mul_left_comm BW b.toNat]; omega
    have hset := wv_set S.1 i ((((x.toNat + BW * (V % b.toNat)) / b.toNat : Nat) : Int)) (by omega)
    rw [i3 i (by omega)] at hset
    refine ⟨by simp [i1], WD_set i2 _ (Int.natCast_nonneg _) (Int.ofNat_lt.2 hq2), fun j hj => by rw [rd_set_ne _ _ _ _ (by omega)]; exact i3 j (by omega), ?_, ?_⟩
    · rw [hd, hsplit, Nat.add_mul_div_left _ _ hb, Nat.mul_add, ← Nat.mul_assoc (BW ^ i) BW, ← Nat.pow_succ, ← i4]
      simp only [Int.toNat_natCast, Int.toNat_zero, Nat.mul_zero, Nat.add_zero] at hset
      rw [hset]; omega
    · rw [hd, hsplit, Nat.add_mul_mod_self_left]
theorem short_spec {l : List Int} (hl : WD l) (hm : l.length ≤ 2000000000) (b : Int) (b0 : 0 < b) (b1 : b < 4294967296) :
    Ev (fun k => nat_Nat_short.f k l b) (words (wv l / b.toNat), words (wv l % b.toNat)) := by
  obtain ⟨i1, i2, i3, i4, i5⟩ := short_inv l hl b b0 b1 l.length (Nat.le_refl _)
  rw [Nat.sub_self, List.drop_zero, Nat.pow_zero, Nat.one_mul] at i4
  rw [Nat.sub_self, List.drop_zero] at i5
  unfold nat_Nat_short.f
  have h1 : l.length < 1099511627776 := by omega
  simp only [if_pos h1]
  simp only [if_neg (show ¬ IntKind.u64.wrap b = 0 by rw [u64i (by omega) (by omega)]; omega)]
  have ht := trim_spec i2 (by omega)
  rw [i4] at ht
  have hmod := Nat.mod_lt (wv l) (show 0 < b.toNat by omega)
  have hn := New_spec ((wv l % b.toNat : Nat) : Int) (Int.natCast_nonneg _) (by
    have : (((wv l % b.toNat : Nat)) : Int) < ((b.toNat : Nat) : Int) := Int.ofNat_lt.2 hmod
    omega)
  rw [Int.toNat_natCast] at hn
  rw [i5]
  exact Ev.bind ht (Ev.bind hn (Ev.now _))
end Go.Proofs.Ytagbnkbhobmgjaa.Pure
end
section
/- What the great quotient's step is: an estimate that is put right, a product that is taken away, and what is given back: plain arithmetic. -/
set_option linter.unusedVariables false
set_option linter.unusedSimpArgs false
namespace Go.Proofs.Ytagbnkbhobmgjaa.Pure
open Go.RowKit Go.Proofs.Ytagbnkbhobmgjaa.Fn Go.Proofs.YtagbnkbhobmgjaaW.PrintWords Go.Proofs.YtagbnkbhobmgjaaW.PrintMore Go.Proofs.YtagbnkbhobmgjaaW.PrintLast
/-- What is given back. -/
theorem step_l2 (v : List Int) (hv : WD v) (Q : Int) (n : Nat) (hn : v.length = n) (hm : n ≤ 1000000000) (T : Nat) : ∀ (d i : Nat) (x : List Int) (c : Int), i + d = n + 1 → x.length = n + 1 → WD x → 0 ≤ c → c ≤ 1 →
    wv x + BW ^ i * c.toNat = T + wv (v.take i) →
    ∃ x' c', Ev (fun k => nat_step.l2 k x v (n : Int) Q c ((n + 1 : Nat) : Int) (i : Int)) ((IntKind.u64.wrap (Q - 1)) % 4294967296, x') ∧ x'.length = n + 1 ∧ WD x' ∧ wv x' + BW ^ (n + 1) * c' = T + wv v
  | 0, i, x, c, hd, hl, hW, c0, c1, hT => by
    have : i = n + 1 := by omega
    subst this
    rw [List.take_of_length_le (by omega)] at hT
    refine ⟨x, c.toNat, Ev.step (f := fun _ => some ((IntKind.u64.wrap (Q - 1)) % 4294967296, x)) (fun k => ?_) (Ev.now _), hl, hW, hT⟩
    simp only [nat_step.l2]
    rw [if_neg (by omega)]
  | d + 1, i, x, c, hd, hl, hW, c0, c1, hT => by
    obtain ⟨x0, x1⟩ := WD_rd hW (i : Int)
    obtain ⟨y0, y1⟩ := WD_rd hv (i : Int)
    have ht := take_succ' (a := v) i
    generalize hy : rd v (i : Int) = y at *
    have hset := wv_set x i ((c + y + rd x (i : Int)) % 4294967296) (by omega)
    generalize hx : rd x (i : Int) = z at *
    have hq : ((c + y + z) % 4294967296).toNat + BW * ((c + y + z) / 4294967296).toNat = c.toNat + y.toNat + z.toNat := by rw [BW_eq]; omega
    obtain ⟨x', c', e1, e2, e3, e4⟩ := step_l2 v hv Q n hn hm T d (i + 1) (x.set i ((c + y + z) % 4294967296)) ((c + y + z) / 4294967296) (by omega) (by simp [hl]) (WD_set hW _ (by omega) (by omega)) (by omega) (by omega) (by
      rw [ht, Nat.pow_succ, Nat.mul_assoc]
      have h3 : BW ^ i * ((c + y + z) % 4294967296).toNat + BW ^ i * (BW * ((c + y + z) / 4294967296).toNat) = BW ^ i * c.toNat + BW ^ i * y.toNat + BW ^ i * z.toNat := by
        rw [← Nat.mul_add, hq, Nat.mul_add, Nat.mul_add]
      omega)
    refine ⟨x', c', Ev.step (fun k => ?_) e1, e2, e3, e4⟩
    simp only [nat_step.l2]
    rw [if_pos (by omega)]
    by_cases hi : i < n
    · rw [if_pos (by omega), if_pos (by omega), if_pos (by omega), if_pos (by omega), hy, hx, u64i y0 (by omega), u64i x0 (by omega), u64i (x := c + y) (by omega) (by omega), u64i (x := c + y + z) (by omega) (by omega), w64 (by omega) (by omega)]
      rfl
    · have hy0 : y = 0 := by rw [← hy]; exact rd_ge v i (by omega)
      subst hy0
      rw [if_neg (by omega), if_pos (by omega), if_pos (by omega), hx, u64i x0 (by omega), u64i (x := c + z) (by omega) (by omega), w64 (by omega) (by omega), Int.add_zero]
      rfl
theorem sub_word {z m b t : Int} (z0 : 0 ≤ z) (z1 : z < 4294967296) (m0 : 0 ≤ m) (m1 : m < 4294967296) (b0 : 0 ≤ b) (b1 : b ≤ 1) (ht : t = (z - m - b) % 18446744073709551616) :
    (t % 4294967296).toNat + m.toNat + b.toNat = z.toNat + BW * (t / 9223372036854775808).toNat := by rw [BW_eq]; omega
theorem mulsub_word {z c p b t : Int} (z0 : 0 ≤ z) (z1 : z < 4294967296) (b0 : 0 ≤ b) (b1 : b ≤ 1) (c0 : 0 ≤ c) (p0 : 0 ≤ p) (ht : t = (z - (c + p) % 4294967296 - b) % 18446744073709551616) :
    (t % 4294967296).toNat + c.toNat + p.toNat + b.toNat = z.toNat + BW * ((t / 9223372036854775808).toNat + ((c + p) / 4294967296).toNat) := by
  have w1 := sub_word z0 z1 (show 0 ≤ (c + p) % 4294967296 by omega) (by omega) b0 b1 ht
  clear ht
  generalize (t % 4294967296).toNat = t1 at *
  generalize (t / 9223372036854775808).toNat = t2 at *
  have w2 : c.toNat + p.toNat = ((c + p) % 4294967296).toNat + BW * ((c + p) / 4294967296).toNat := by rw [BW_eq]; omega
  generalize ((c + p) % 4294967296).toNat = t3 at *
  generalize ((c + p) / 4294967296).toNat = t4 at *
  rw [Nat.mul_add]; omega
/-- The product that is taken away. -/
theorem step_l1 (v : List Int) (hv : WD v) (Q : Int) (Q0 : 0 ≤ Q) (Q1 : Q < 4294967296) (n : Nat) (hn : v.length = n) (hm : n ≤ 1000000000) (U : Nat) (R : Int × List Int) : ∀ (d i : Nat) (x : List Int) (b c : Int), i + d = n + 1 → x.length = n + 1 → WD x →
    0 ≤ b → b ≤ 1 → 0 ≤ c → c < 4294967296 → (n < i → c = 0) →
    wv x + Q.toNat * wv (v.take i) = U + BW ^ i * (b.toNat + c.toNat) →
    (∀ (x' : List Int) (b' : Int), x'.length = n + 1 → WD x' → 0 ≤ b' → b' ≤ 1 → wv x' + Q.toNat * wv v = U + BW ^ (n + 1) * b'.toNat →
      Ev (fun k => if b' = 0 then some (Q % 4294967296, x') else nat_step.l2 k x' v (n : Int) Q 0 (x'.length : Int) 0) R) →
    Ev (fun k => nat_step.l1 k x v (n : Int) Q b c ((n + 1 : Nat) : Int) (i : Int)) R
  | 0, i, x, b, c, hd, hl, hW, b0, b1, c0, c1, hc, hT, hk => by
    have hi : i = n + 1 := by omega
    subst hi
    rw [List.take_of_length_le (by omega), hc (by omega)] at hT
    refine Ev.step (fun k => ?_) (hk x b hl hW b0 b1 (by simpa using hT))
    simp only [nat_step.l1]
    rw [if_neg (by omega)]
  | d + 1, i, x, b, c, hd, hl, hW, b0, b1, c0, c1, hc, hT, hk => by
    obtain ⟨x0, x1⟩ := WD_rd hW (i : Int)
    obtain ⟨y0, y1⟩ := WD_rd hv (i : Int)
    have ht := take_succ' (a := v) i
    have hset := wv_set x i ((IntKind.u64.wrap (IntKind.u64.wrap (rd x (i : Int) - (c + Q * rd v (i : Int)) % 4294967296) - b)) % 4294967296) (by omega)
    generalize hy : rd v (i : Int) = y at *
    generalize hx : rd x (i : Int) = z at *
    obtain ⟨m0, m1⟩ := mul32 Q0 Q1 y0 y1
    have et : Q.toNat * y.toNat = (Q * y).toNat := by rw [Int.toNat_mul Q0 y0]
    have hQy : n ≤ i → Q * y = 0 := fun h => by
      have : y = 0 := by rw [← hy]; exact rd_ge v i (by omega)
      rw [this, Int.mul_zero]
    generalize hp : Q * y = p at *
    have es : IntKind.u64.wrap (IntKind.u64.wrap (z - (c + p) % 4294967296) - b) = (z - (c + p) % 4294967296 - b) % 18446744073709551616 := by rw [u64w, u64w]; omega
    rw [es] at hset
    obtain ⟨t, hts⟩ : ∃ t, t = (z - (c + p) % 4294967296 - b) % 18446744073709551616 := ⟨_, rfl⟩
    rw [← hts] at hset
    have hq : (t % 4294967296).toNat + c.toNat + p.toNat + b.toNat = z.toNat + BW * ((t / 9223372036854775808).toNat + ((c + p) / 4294967296).toNat) := by
      exact mulsub_word x0 x1 b0 b1 c0 m0 hts
    rw [← hts] at es
    have t0 : 0 ≤ t := by rw [hts]; exact Int.emod_nonneg _ (by decide)
    have t1 : t < 18446744073709551616 := by rw [hts]; exact Int.emod_lt_of_pos _ (by decide)
    clear hts
    have g1 : 0 ≤ t % 4294967296 := by omega
    have g2 : t % 4294967296 < 4294967296 := by omega
    have g3 : 0 ≤ t / 9223372036854775808 := by omega
    have g4 : t / 9223372036854775808 ≤ 1 := by omega
    have g5 : 0 ≤ (c + p) / 4294967296 := by omega
    have g6 : (c + p) / 4294967296 < 4294967296 := by omega
    have ih := step_l1 v hv Q Q0 Q1 n hn hm U R d (i + 1) (x.set i (t % 4294967296)) (t / 9223372036854775808) ((c + p) / 4294967296) (by omega) (by simp [hl]) (WD_set hW _ g1 g2) g3 g4 g5 g6 (fun h => by have := hQy (by omega); omega) (by
      rw [ht, Nat.mul_add, Nat.pow_succ, Nat.mul_assoc (BW ^ i) BW]
      have e1 : Q.toNat * (BW ^ i * y.toNat) = BW ^ i * p.toNat := by rw [Nat.mul_left_comm, et]
      have h3 : BW ^ i * (t % 4294967296).toNat + BW ^ i * c.toNat + BW ^ i * p.toNat + BW ^ i * b.toNat = BW ^ i * z.toNat + BW ^ i * (BW * ((t / 9223372036854775808).toNat + ((c + p) / 4294967296).toNat)) := by
        rw [← Nat.mul_add, ← Nat.mul_add, ← Nat.mul_add, hq, Nat.mul_add]
      rw [Nat.mul_add] at hT
      rw [e1]
      omega) hk
    refine Ev.step (fun k => ?_) ih
    simp only [nat_step.l1]
    rw [if_pos (by omega)]
    by_cases hi : i < n
    · rw [if_pos (by omega), if_pos (by omega), if_pos (by omega), if_pos (by omega), hy, hx, u64i y0 (by omega), hp, u64i (x := p) m0 (by omega), u64i (x := c + p) (by omega) (by omega), and_mask (by omega) (by omega), u64i x0 (by omega), es, w64 (by omega) (by omega)]
      rfl
    · have hp0 := hQy (by omega)
      subst hp0
      rw [Int.add_zero] at *
      rw [if_neg (by omega), if_pos (by omega), if_pos (by omega), hx, and_mask (by omega) (by omega), u64i x0 (by omega), es, w64 (by omega) (by omega)]
      rfl
/-- The estimate, put right. -/
theorem step_l0 (u v : List Int) (hu : WD u) (hv : WD v) (n : Nat) (hn : v.length = n) (hl : u.length = n + 1) (h2 : 2 ≤ n) (hm : n ≤ 1000000000) (v1 v2 u2 W P V U V' U' : Nat) (hv2 : rd v ((n - 2 : Nat) : Int) = (v2 : Int)) (hu2 : rd u ((n - 2 : Nat) : Int) = (u2 : Int))
    (hP : 0 < P) (v1p : 1 ≤ v1) (v1l : v1 < BW) (v2l : v2 < BW) (u2l : u2 < BW) (eV : V = v1 * (BW * P) + v2 * P + V') (eU : U = W * (BW * P) + u2 * P + U') (lV : V' < P) (lU : U' < P) (hUV : U < BW * V) (R : Int × List Int)
    (hk : ∀ Q : Nat, Q < BW → U < (Q + 1) * V → Q * V < U + V → Ev (fun k => nat_step.j2 k u v (n : Int) (Q : Int)) R) :
    ∀ (m Q r : Nat), BW ≤ r + m → r < BW → Q ≤ BW + 1 → Q * v1 + r = W → U < (Q + 1) * V → Ev (fun k => nat_step.l0 k u v (n : Int) (v1 : Int) (Q : Int) (r : Int)) R
  | 0, Q, r, hm', hr, hQ, hW, hU => by omega
  | m + 1, Q, r, hm', hr, hQ, hW, hU => by
    have e1 : Q * v1 * (BW * P) + r * (BW * P) = W * (BW * P) := by rw [← Nat.add_mul, hW]
    have eQV : Q * V = Q * v1 * (BW * P) + Q * v2 * P + Q * V' := by rw [eV, Nat.mul_add, Nat.mul_add, Nat.mul_assoc, Nat.mul_assoc]
    have erb : r * BW * P = r * (BW * P) := Nat.mul_assoc _ _ _
    have hX : v2 * P + V' < BW * P := by
      have : v2 * P + P ≤ BW * P := by rw [← Nat.succ_mul]; exact Nat.mul_le_mul_right _ v2l
      omega
    have hVX : BW * P ≤ V := by
      have := Nat.le_mul_of_pos_left (BW * P) v1p
      omega
    -- the round that takes one away
    have low : U < Q * V → Ev (fun k => nat_step.j1 k u v (n : Int) (v1 : Int) (Q : Int) (r : Int) true) R := fun hlt => by
      have hQp : 1 ≤ Q := by
        rcases Nat.eq_zero_or_pos Q with h | h
        · rw [h] at hlt; omega
        · exact h
      obtain ⟨q, rfl⟩ : ∃ q, Q = q + 1 := ⟨Q - 1, by omega⟩
      have eq : IntKind.u64.wrap (((q + 1 : Nat) : Int) - 1) = (q : Int) := by rw [u64i (by omega) (by rw [BW_eq] at hQ; omega)]; omega
      have er : IntKind.u64.wrap ((r : Int) + (v1 : Int)) = ((r + v1 : Nat) : Int) := by rw [BW_eq] at hr v1l; rw [u64i (by omega) (by omega)]; omega
      have eW : q * v1 + (r + v1) = W := by rw [← hW, Nat.succ_mul]; omega
      by_cases hb : BW ≤ r + v1
      · have hqV : q * V ≤ U := by
          have e2 : q * v1 * (BW * P) + (r + v1) * (BW * P) = W * (BW * P) := by rw [← Nat.add_mul, eW]
          have e3 : q * V = q * v1 * (BW * P) + q * (v2 * P + V') := by rw [eV, Nat.add_assoc, Nat.mul_add, Nat.mul_assoc]
          have e4 : q * (v2 * P + V') ≤ (r + v1) * (BW * P) := Nat.mul_le_mul (by omega) (by omega)
          omega
        have hq : q < BW := by
          rcases Nat.lt_or_ge q BW with h | h
          · exact h
          · have := Nat.mul_le_mul_right V h
            omega
        refine Ev.step (fun k => ?_) (hk q hq hlt (by omega))
        simp only [nat_step.j1]
        rw [if_pos trivial, er, if_pos (by rw [BW_eq] at hb; omega), eq]
      · refine Ev.step (fun k => ?_) (step_l0 u v hu hv n hn hl h2 hm v1 v2 u2 W P V U V' U' hv2 hu2 hP v1p v1l v2l u2l eV eU lV lU hUV R hk m q (r + v1) (by omega) (by omega) (by omega) eW hlt)
        simp only [nat_step.j1]
        rw [if_pos trivial, er, if_neg (by rw [BW_eq] at hb; omega), eq]
    have e2 : wrap64 ((n : Int) - 2) = ((n - 2 : Nat) : Int) := by rw [w64 (by omega) (by omega)]; omega
    by_cases hQB : BW ≤ Q
    · have hlt : U < Q * V := Nat.lt_of_lt_of_le hUV (Nat.mul_le_mul_right _ hQB)
      refine Ev.step (fun k => ?_) (low hlt)
      simp only [nat_step.l0]
      rw [if_pos (by rw [BW_eq] at hQB; omega)]
    · have hmul : Q * v2 ≤ 4294967295 * 4294967295 := Nat.mul_le_mul (by rw [BW_eq] at hQB; omega) (by rw [BW_eq] at v2l; omega)
      have e3 : IntKind.u64.wrap ((Q : Int) * IntKind.u64.wrap (v2 : Int)) = ((Q * v2 : Nat) : Int) := by
        rw [u64i (x := (v2 : Int)) (by omega) (by rw [BW_eq] at v2l; omega), ← Int.natCast_mul, u64i (by omega) (by omega)]
      have e4 : Go.bits .or .u64 (IntKind.u64.wrap ((r : Int) * 4294967296)) (IntKind.u64.wrap (u2 : Int)) = ((r * BW + u2 : Nat) : Int) := by
        rw [BW_eq] at hr u2l
        rw [or32 (by omega) (by omega) (by omega) (by omega), BW_eq]; omega
      by_cases hc : r * BW + u2 < Q * v2
      · have hlt : U < Q * V := by
          have h5 : (r * BW + u2 + 1) * P ≤ Q * v2 * P := Nat.mul_le_mul_right _ hc
          rw [Nat.add_mul, Nat.add_mul, Nat.one_mul] at h5
          omega
        refine Ev.step (fun k => ?_) (low hlt)
        simp only [nat_step.l0]
        rw [if_neg (by rw [BW_eq] at hQB; omega), e2, if_pos (by omega), if_pos (by omega), if_pos (by omega), hv2, hu2, e3, e4, decide_eq_true (by omega)]
      · have hqV : Q * V < U + V := by
          have h5 : Q * v2 * P ≤ (r * BW + u2) * P := Nat.mul_le_mul_right _ (by omega)
          rw [Nat.add_mul] at h5
          have h6 : Q * V' ≤ Q * P := Nat.mul_le_mul_left _ (by omega)
          have h7 : (Q + 1) * P ≤ BW * P := Nat.mul_le_mul_right _ (by omega)
          rw [Nat.succ_mul] at h7
          omega
        refine Ev.step (fun k => ?_) (Ev.step (f := fun k => nat_step.j2 k u v (n : Int) (Q : Int)) (g := fun k => nat_step.j1 k u v (n : Int) (v1 : Int) (Q : Int) (r : Int) false) (fun k => ?_) (hk Q (by omega) hU hqV))
        · simp only [nat_step.l0]
          rw [if_neg (by rw [BW_eq] at hQB; omega), e2, if_pos (by omega), if_pos (by omega), if_pos (by omega), hv2, hu2, e3, e4, decide_eq_false (by omega)]
        · simp only [nat_step.j1]
          rw [if_neg (by decide)]
/-- A row of n words and two more: the two top words, and what lies below. -/
theorem wv_top2 {a : List Int} (ha : WD a) (n : Nat) (hl : a.length = n + 2) : wv a = ((rd a ((n + 1 : Nat) : Int)).toNat * BW + (rd a (n : Int)).toNat) * BW ^ n + wv (a.take n) := by
  have h1 := take_succ' (a := a) n
  have h2 := take_succ' (a := a) (n + 1)
  rw [List.take_of_length_le (by omega)] at h2
  rw [h2, h1, Nat.pow_succ, Nat.add_mul, Nat.mul_assoc, Nat.mul_comm (BW ^ n) (BW * _)]
  have e1 : (rd a ((n + 1 : Nat) : Int)).toNat * BW * BW ^ n = BW ^ n * (BW * (rd a ((n + 1 : Nat) : Int)).toNat) := by
    rw [Nat.mul_comm, Nat.mul_comm _ BW]
  have e2 : (rd a (n : Int)).toNat * BW ^ n = BW ^ n * (rd a (n : Int)).toNat := Nat.mul_comm _ _
  rw [e1, e2, Nat.mul_comm (BW * (rd a ((n + 1 : Nat) : Int)).toNat)]
  omega
theorem step_j2 {u v : List Int} (hu : WD u) (hv : WD v) (n : Nat) (hn : v.length = n + 2) (hl : u.length = n + 3) (hm : n ≤ 900000000) (hVpos : 0 < wv v) : ∃ u', (∀ Q : Nat, Q < BW → wv u < (Q + 1) * wv v → Q * wv v < wv u + wv v → Ev (fun k => nat_step.j2 k u v ((n + 2 : Nat) : Int) (Q : Int)) (((wv u / wv v : Nat) : Int), u')) ∧ u'.length = n + 3 ∧ WD u' ∧ wv u' = wv u % wv v := by
  -- the only row of n + 3 words with that value
  have hrem : wv u % wv v < BW ^ (n + 3) := Nat.lt_of_lt_of_le (Nat.mod_lt _ hVpos) (Nat.le_trans (Nat.le_of_lt (wv_lt hv)) (by rw [hn]; exact Nat.pow_le_pow_right BW_pos (by omega)))
  refine ⟨words (wv u % wv v) ++ List.replicate (n + 3 - (words (wv u % wv v)).length) 0, ?_, ?_, ?_, ?_⟩
  · intro Q hQ h1 h2
    have uniq : ∀ x : List Int, x.length = n + 3 → WD x → wv x = wv u % wv v → x = words (wv u % wv v) ++ List.replicate (n + 3 - (words (wv u % wv v)).length) 0 := fun x hx hWx hvx => wv_inj hWx (WD_append (WD_words _) (WD_rep _)) (by
      have := words_len (n + 3) _ hrem
      simp; omega) (by rw [wv_append, wv_words, wv_rep, hvx]; simp)
    have hQ0 : (Q : Int) < 4294967296 := by rw [BW_eq] at hQ; omega
    refine Ev.step (f := fun k => nat_step.l1 k u v ((n + 2 : Nat) : Int) (Q : Int) 0 0 ((n + 2 + 1 : Nat) : Int) ((0 : Nat) : Int)) (fun k => ?_) (step_l1 v hv (Q : Int) (by omega) hQ0 (n + 2) hn (by omega) (wv u) _ (n + 2 + 1) 0 u 0 0 (by omega) (by omega) hu (by omega) (by omega) (by omega) (by omega) (fun _ => rfl) (by simp [wv_nil]) ?_)
    · simp only [nat_step.j2]
      rw [hl]; rfl
    · intro x' b' hx hWx p0 p1 he
      rw [Int.toNat_natCast] at he
      have hxl := wv_lt hWx
      rw [hx] at hxl
      by_cases hb : b' = 0
      · have e1 : wv x' + Q * wv v = wv u := by rw [hb, Int.toNat_zero, Nat.mul_zero, Nat.add_zero] at he; exact he
        have hq : wv u / wv v = Q := Nat.div_eq_of_lt_le (by omega) h1
        have hr : wv x' = wv u % wv v := by
          have := Nat.mod_add_div (wv u) (wv v)
          rw [hq, Nat.mul_comm] at this; omega
        have hxx := uniq x' hx hWx hr
        have hQm : (Q : Int) % 4294967296 = ((wv u / wv v : Nat) : Int) := by rw [hq]; exact Int.emod_eq_of_lt (Int.natCast_nonneg _) hQ0
        rw [← hxx, ← hQm]
        exact Ev.congr (fun k => if_pos hb) (Ev.now _)
      · have hb1 : b' = 1 := by omega
        subst hb1
        simp only [Int.toNat_one, Nat.mul_one] at he
        have hgt : wv u < Q * wv v := by omega
        obtain ⟨q, rfl⟩ : ∃ q, Q = q + 1 := ⟨Q - 1, by
          rcases Nat.eq_zero_or_pos Q with h | h
          · subst h; omega
          · omega⟩
        obtain ⟨x2, c', e1, e2, e3, e4⟩ := step_l2 v hv ((q + 1 : Nat) : Int) (n + 2) hn (by omega) (wv x') (n + 2 + 1) 0 x' 0 (by omega) hx hWx (by omega) (by omega) (by simp [wv_nil])
        have hx2 := wv_lt e3
        rw [e2] at hx2
        have hvl := wv_lt hv
        rw [hn] at hvl
        have hpw : BW ^ (n + 2) ≤ BW ^ (n + 2 + 1) := Nat.pow_le_pow_right BW_pos (by omega)
        have hsucc : (q + 1) * wv v = q * wv v + wv v := Nat.succ_mul _ _
        have hc : c' = 1 := by
          rcases Nat.lt_or_ge c' 1 with h | h
          · have : c' = 0 := by omega
            subst this; omega
          · rcases Nat.lt_or_ge 1 c' with h3 | h3
            · have := Nat.mul_le_mul_left (BW ^ (n + 2 + 1)) h3
              omega
            · omega
        subst hc
        have e5 : wv x2 + q * wv v = wv u := by omega
        have hq : wv u / wv v = q := Nat.div_eq_of_lt_le (by omega) hgt
        have hr : wv x2 = wv u % wv v := by
          have := Nat.mod_add_div (wv u) (wv v)
          rw [hq, Nat.mul_comm] at this; omega
        rw [uniq x2 e2 e3 hr] at e1
        refine Ev.congr (fun k => if_neg hb) ?_
        rw [hx]
        have ew : IntKind.u64.wrap (((q + 1 : Nat) : Int) - 1) % 4294967296 = (q : Int) := by rw [u64i (by omega) (by omega)]; omega
        rw [ew] at e1
        rw [hq]
        exact e1
  · have := words_len (n + 3) _ hrem
    simp; omega
  · exact WD_append (WD_words _) (WD_rep _)
  · rw [wv_append, wv_words, wv_rep]; simp
theorem step_spec {u v : List Int} (hu : WD u) (hv : WD v) (n : Nat) (hn : v.length = n + 2) (hl : u.length = n + 3) (hm : n ≤ 900000000) (htop : 2147483648 ≤ rd v ((n + 1 : Nat) : Int)) (hlt : wv u < BW * wv v) :
    ∃ u', Ev (fun k => nat_step.f k u v) (((wv u / wv v : Nat) : Int), u') ∧ u'.length = n + 3 ∧ WD u' ∧ wv u' = wv u % wv v := by
  have hV := wv_top2 hv n hn
  have hU1 := wv_top2 (WD_take hu (n + 2)) n (by simp; omega)
  have hU2 := take_succ' (a := u) (n + 2)
  rw [List.take_of_length_le (by omega)] at hU2
  have ra : ∀ j : Nat, j < n + 2 → rd (u.take (n + 2)) (j : Int) = rd u (j : Int) := fun j hj => by
    unfold rd; simp only [Int.toNat_natCast, List.getD_eq_getElem?_getD]; rw [List.getElem?_take_of_lt hj]
  rw [ra _ (by omega), ra _ (by omega), List.take_take, Nat.min_eq_left (by omega)] at hU1
  obtain ⟨a0, a1⟩ := WD_rd hu ((n + 2 : Nat) : Int)
  obtain ⟨b0, b1⟩ := WD_rd hu ((n + 1 : Nat) : Int)
  obtain ⟨c0, c1⟩ := WD_rd hu (n : Int)
  obtain ⟨d0, d1⟩ := WD_rd hv ((n + 1 : Nat) : Int)
  obtain ⟨f0, f1⟩ := WD_rd hv (n : Int)
  have lV := take_lt hv n
  have lU := take_lt hu n
  have hPp : 0 < BW ^ n := Nat.pow_pos BW_pos
  generalize hA : rd u ((n + 2 : Nat) : Int) = A at *
  generalize hB : rd u ((n + 1 : Nat) : Int) = B at *
  generalize hC : rd u (n : Int) = C at *
  generalize hD : rd v ((n + 1 : Nat) : Int) = D at *
  generalize hF : rd v (n : Int) = F at *
  generalize hP : BW ^ n = P at *
  obtain ⟨v1, rfl⟩ : ∃ v1 : Nat, D = (v1 : Int) := ⟨D.toNat, by omega⟩
  obtain ⟨v2, rfl⟩ : ∃ v2 : Nat, F = (v2 : Int) := ⟨F.toNat, by omega⟩
  obtain ⟨u2, rfl⟩ : ∃ u2 : Nat, C = (u2 : Int) := ⟨C.toNat, by omega⟩
  obtain ⟨ub, rfl⟩ : ∃ ub : Nat, B = (ub : Int) := ⟨B.toNat, by omega⟩
  obtain ⟨ua, rfl⟩ : ∃ ua : Nat, A = (ua : Int) := ⟨A.toNat, by omega⟩
  simp only [Int.toNat_natCast] at hV hU1 hU2
  have eV : wv v = v1 * (BW * P) + v2 * P + wv (v.take n) := by rw [hV, Nat.add_mul, Nat.mul_assoc]
  have eU : wv u = (ua * BW + ub) * (BW * P) + u2 * P + wv (u.take n) := by
    rw [hU2, hU1, Nat.pow_succ, Nat.pow_succ, hP, Nat.add_mul, Nat.add_mul]
    have e1 : P * BW * BW * ua = ua * BW * (BW * P) := by
      rw [Nat.mul_comm (P * BW * BW) ua, Nat.mul_comm P BW, Nat.mul_comm (BW * P) BW, Nat.mul_assoc ua BW]
    have e2 : ub * BW * P = ub * (BW * P) := Nat.mul_assoc _ _ _
    rw [e1, e2]; omega
  have hVX : wv v < v1 * (BW * P) + BW * P := by
    have : v2 * P + P ≤ BW * P := by rw [← Nat.succ_mul]; exact Nat.mul_le_mul_right _ (by rw [BW_eq]; omega)
    omega
  have hWlt : ua * BW + ub < BW * v1 + BW := by
    have h1 : (ua * BW + ub) * (BW * P) < (BW * v1 + BW) * (BW * P) := by
      have h2 : BW * wv v ≤ BW * (v1 * (BW * P) + BW * P) := Nat.mul_le_mul_left _ (by omega)
      have h3 : BW * (v1 * (BW * P) + BW * P) = (BW * v1 + BW) * (BW * P) := by rw [Nat.mul_add, Nat.add_mul, Nat.mul_assoc]
      omega
    exact Nat.lt_of_mul_lt_mul_right h1
  have v1p : 0 < v1 := by omega
  have hdm := Nat.mod_add_div (ua * BW + ub) v1
  have hml := Nat.mod_lt (ua * BW + ub) v1p
  have hQle : (ua * BW + ub) / v1 ≤ BW + 1 := by
    have : (ua * BW + ub) / v1 < BW + 2 := by
      rw [Nat.div_lt_iff_lt_mul v1p, Nat.add_mul]
      have : BW ≤ 2 * v1 := by rw [BW_eq]; omega
      omega
    omega
  have hVpos : 0 < wv v := by
    have := Nat.le_mul_of_pos_left (BW * P) v1p
    have := Nat.mul_pos BW_pos hPp
    omega
  have hUlt : wv u < ((ua * BW + ub) / v1 + 1) * wv v := by
    have h1 : (ua * BW + ub + 1) ≤ ((ua * BW + ub) / v1 + 1) * v1 := by rw [Nat.add_mul, Nat.one_mul, Nat.mul_comm _ v1]; omega
    have h2 : (ua * BW + ub + 1) * (BW * P) ≤ ((ua * BW + ub) / v1 + 1) * v1 * (BW * P) := Nat.mul_le_mul_right _ h1
    have h3 : ((ua * BW + ub) / v1 + 1) * v1 * (BW * P) ≤ ((ua * BW + ub) / v1 + 1) * wv v := by
      rw [Nat.mul_assoc]; exact Nat.mul_le_mul_left _ (by omega)
    rw [Nat.add_mul, Nat.one_mul] at h2
    have : u2 * P + P ≤ BW * P := by rw [← Nat.succ_mul]; exact Nat.mul_le_mul_right _ (by rw [BW_eq]; omega)
    omega
  obtain ⟨u', hk, h1, h2, h3⟩ := step_j2 hu hv n hn hl hm hVpos
  refine ⟨u', ?_, h1, h2, h3⟩
  have hr : (ua * BW + ub) % v1 < BW := by rw [BW_eq] at *; omega
  have h := step_l0 u v hu hv (n + 2) hn (by omega) (by omega) (by omega) v1 v2 u2 (ua * BW + ub) P (wv v) (wv u) (wv (v.take n)) (wv (u.take n)) (by simpa using hF) (by simpa using hC) hPp v1p (by rw [BW_eq]; omega) (by rw [BW_eq]; omega) (by rw [BW_eq]; omega) eV eU lV lU hlt _ hk
    BW ((ua * BW + ub) / v1) ((ua * BW + ub) % v1) (by omega) hr hQle (by rw [Nat.mul_comm]; omega) hUlt
  unfold nat_step.f
  have el : wrap64 ((v.length : Int) - 1) = ((n + 1 : Nat) : Int) := by rw [w64 (by omega) (by omega)]; omega
  have el2 : (v.length : Int) = ((n + 2 : Nat) : Int) := by omega
  refine Ev.congr (fun k => ?_) h
  rw [if_pos (by omega), if_pos (by omega), el, if_pos (by omega), if_pos (by omega), if_pos (by omega), el2, hA, hB, hD, u64i (x := (ua : Int)) (by omega) (by omega), or32 (by omega) (by omega) (by omega) (by omega), u64i (x := (v1 : Int)) (by omega) (by omega), if_neg (by omega)]
  have eW : (ua : Int) * 4294967296 + (ub : Int) = ((ua * BW + ub : Nat) : Int) := by rw [BW_eq]; omega
  rw [eW, Int.tdiv_eq_ediv_of_nonneg (by omega), Int.tmod_eq_emod_of_nonneg (by omega), ← Int.natCast_ediv, ← Int.natCast_emod, u64i (x := (((ua * BW + ub) / v1 : Nat) : Int)) (Int.natCast_nonneg _) (Int.ofNat_lt.2 (Nat.lt_of_le_of_lt hQle (by rw [BW_eq]; decide)))]
end Go.Proofs.Ytagbnkbhobmgjaa.Pure
end
section
/- Quotients, remainders, shifts to the right, and the greatest common divisor: plain arithmetic. -/
set_option linter.unusedVariables false
set_option linter.unusedSimpArgs false
namespace Go.Proofs.Ytagbnkbhobmgjaa.Pure
open Go.RowKit Go.Proofs.Ytagbnkbhobmgjaa.Fn Go.Proofs.YtagbnkbhobmgjaaW.PrintWords Go.Proofs.YtagbnkbhobmgjaaW.PrintMore Go.Proofs.YtagbnkbhobmgjaaW.PrintLast
theorem wv_split (a : List Int) (i : Nat) (h : i ≤ a.length) : wv a = wv (a.take i) + BW ^ i * wv (a.drop i) := by
  have : wv a = wv (a.take i ++ a.drop i) := by rw [List.take_append_drop]
  rw [this, wv_append, List.length_take, Nat.min_eq_left h]
theorem wv_drop_div {a : List Int} (ha : WD a) (i : Nat) : wv a / BW ^ i = wv (a.drop i) := by
  have hp : 0 < BW ^ i := Nat.pow_pos BW_pos
  by_cases h : i ≤ a.length
  · rw [wv_split a i h, Nat.add_mul_div_left _ _ hp, Nat.div_eq_of_lt (take_lt ha i), Nat.zero_add]
  · rw [List.drop_eq_nil_of_le (by omega), wv_nil]
    exact Nat.div_eq_of_lt (Nat.lt_of_lt_of_le (wv_lt ha) (Nat.pow_le_pow_right BW_pos (by omega)))
/-! ### Shr -/
theorem shr_word (x y T s : Nat) (hs : s < 32) (hx : x < BW) (hy : T % BW = y) :
    (x + BW * T) / 2 ^ s = (x + BW * y) / 2 ^ s % BW + BW * (T / 2 ^ s) := by
  have hp : 0 < 2 ^ s := Nat.pow_pos (by decide)
  have hd : 2 ^ s ∣ BW := ⟨2 ^ (32 - s), by rw [← Nat.pow_add, BW_eq]; have : s + (32 - s) = 32 := by omega
                                            rw [this]⟩
  have key : ∀ t : Nat, (x + BW * t) / 2 ^ s = (x + BW * (t % 2 ^ s)) / 2 ^ s + BW * (t / 2 ^ s) := fun t => by
    have h := Nat.mod_add_div t (2 ^ s)
    have e : x + BW * t = (x + BW * (t % 2 ^ s)) + 2 ^ s * (BW * (t / 2 ^ s)) := by
      have h2 : BW * t = BW * (t % 2 ^ s) + BW * (2 ^ s * (t / 2 ^ s)) := by rw [← Nat.mul_add, h]
      rw [h2, Nat.mul_left_comm BW]; omega
    rw [e, Nat.add_mul_div_left _ _ hp]
  have hlt : ∀ t : Nat, (x + BW * (t % 2 ^ s)) / 2 ^ s < BW := fun t => by
    rw [Nat.div_lt_iff_lt_mul hp]
    have := Nat.mod_lt t hp
    have : BW * (t % 2 ^ s) + BW ≤ BW * 2 ^ s := by rw [← Nat.mul_succ]; exact Nat.mul_le_mul_left _ this
    omega
  have hm : y % 2 ^ s = T % 2 ^ s := by rw [← hy, Nat.mod_mod_of_dvd _ hd]
  rw [key T, key y, hm, Nat.add_mul_mod_self_left, Nat.mod_eq_of_lt (hlt T)]
theorem mod_BW_drop {a : List Int} (ha : WD a) (i : Nat) : wv (a.drop i) % BW = (rd a (i : Int)).toNat := by
  rw [wv_drop a i, Nat.add_mul_mod_self_left]
  have := (WD_rd ha (i : Int)).2
  exact Nat.mod_eq_of_lt (by rw [BW_eq]; omega)
theorem mod_cast32 (N : Nat) : ((N : Nat) : Int) % 4294967296 = ((N % BW : Nat) : Int) := by rw [BW_eq]; omega
theorem or32b {z y : Int} (z0 : 0 ≤ z) (z1 : z < 4294967296) (y0 : 0 ≤ y) (y1 : y < 4294967296) :
    Go.bits .or .u64 z (IntKind.u64.wrap (y * 4294967296)) = ((z.toNat + BW * y.toNat : Nat) : Int) := by
  have h := bits_or_u64_nat z.toNat (y.toNat * 4294967296) (by omega) (by omega)
  have e2 : ((z.toNat : Nat) : Int) = z := by omega
  have e3 : ((y.toNat * 4294967296 : Nat) : Int) = y * 4294967296 := by omega
  rw [e2, e3] at h
  rw [u64i (by omega) (by omega), h]
  have h2 := Nat.two_pow_add_eq_or_of_lt (i := 32) (b := z.toNat) (by omega) y.toNat
  rw [show (2 : Nat) ^ 32 = 4294967296 from rfl] at h2
  rw [Nat.mul_comm y.toNat, Nat.or_comm, ← h2, BW_eq]; omega
theorem bitLenAux_bits : ∀ (f x : Nat), x < 2 ^ f → Lib.bitLenAux f x = (bits x).length
  | 0, x, h => by
    have : x = 0 := by simp at h; exact h
    subst this; rw [bits_zero]; rfl
  | f + 1, x, h => by
    by_cases h0 : x = 0
    · subst h0; rw [bits_zero]; rfl
    · rw [bits_pos h0, List.length_cons]
      have : x / 2 < 2 ^ f := by rw [Nat.div_lt_iff_lt_mul (by decide), ← Nat.pow_succ]; exact h
      simp only [Lib.bitLenAux]
      rw [if_neg h0, bitLenAux_bits f _ this]; omega
theorem bitLen_bits (x : Nat) (h : x < 2 ^ 64) : Lib.bitLen x = (bits x).length := bitLenAux_bits 64 x h
theorem bitLen_lims (x : Nat) (h : x < 2 ^ 64) : x < 2 ^ Lib.bitLen x ∧ (x ≠ 0 → 2 ^ (Lib.bitLen x - 1) ≤ x) := by
  rw [bitLen_bits x h]
  refine ⟨?_, fun h0 => bits_len_lt h0⟩
  have := bv_lt (bits x)
  rw [bv_bits] at this; exact this
set_option maxHeartbeats 2000000 in
theorem Shr_ev (x1 : Int) (s : Nat) (hs : s < 32) (e1 : Int.tmod x1 32 = (s : Int)) (x : List Int) (hx : WD x) (hm : x.length ≤ 2000000000) : ∀ (d i : Nat) (o : List Int), i + d = x.length → o.length = i → WD o →
    wv x / 2 ^ s = wv o + BW ^ i * (wv (x.drop i) / 2 ^ s) → Ev (fun k => nat_Nat_Shr.l0 k x1 x o (x.length : Int) (i : Int)) (words (wv x / 2 ^ s))
  | 0, i, o, hd, hl, hW, hv => by
    rw [List.drop_eq_nil_of_le (by omega), wv_nil, Nat.zero_div, Nat.mul_zero, Nat.add_zero] at hv
    rw [hv]
    refine Ev.step (f := fun k => (nat_trim.f k o).bind fun t => some t) (fun k => ?_) (Ev.bind (trim_spec hW (by omega)) (Ev.now _))
    simp only [nat_Nat_Shr.l0]
    rw [if_neg (by omega)]
  | d + 1, i, o, hd, hl, hW, hv => by
    have co : o.length < 35184372088832 := by omega
    obtain ⟨x0, x1'⟩ := WD_rd hx (i : Int)
    obtain ⟨y0, y1⟩ := WD_rd hx ((i + 1 : Nat) : Int)
    have hdr := wv_drop x i
    have hmod := mod_BW_drop hx (i + 1)
    have hsw := shr_word (rd x (i : Int)).toNat (rd x ((i + 1 : Nat) : Int)).toNat (wv (x.drop (i + 1))) s hs (by rw [BW_eq]; omega) hmod
    rw [← hdr] at hsw
    generalize hz : rd x (i : Int) = z at *
    generalize hy : rd x ((i + 1 : Nat) : Int) = y at *
    have hw : shr .u64 (Go.bits .or .u64 z (IntKind.u64.wrap (y * 4294967296))) (s : Int) % 4294967296 = (((z.toNat + BW * y.toNat) / 2 ^ s % BW : Nat) : Int) := by
      have h1 := or32b x0 x1' y0 y1
      rw [h1, shr_nat _ _ _ (by simp [IntKind.bits]; omega)]
      exact mod_cast32 _
    have hwl : (z.toNat + BW * y.toNat) / 2 ^ s % BW < BW := Nat.mod_lt _ BW_pos
    have ih := Shr_ev x1 s hs e1 x hx hm d (i + 1) (o ++ [(((z.toNat + BW * y.toNat) / 2 ^ s % BW : Nat) : Int)]) (by omega) (by simp [hl]) (WD_append hW (WD_mk (Int.natCast_nonneg _) (Int.ofNat_lt.2 (show _ < 4294967296 from hwl)) WD_nil)) (by
      rw [wv_snoc, Int.toNat_natCast, hl, Nat.pow_succ, Nat.mul_assoc, Nat.add_assoc, ← Nat.mul_add, ← hsw]
      exact hv)
    refine Ev.step (fun k => ?_) ih
    simp only [nat_Nat_Shr.l0]
    have ei : wrap64 ((i : Int) + 1) = ((i + 1 : Nat) : Int) := by rw [w64 (by omega) (by omega)]; rfl
    have a1 := at_spec hx (i : Int) (Int.natCast_nonneg _)
    have a2 := at_spec hx ((i + 1 : Nat) : Int) (Int.natCast_nonneg _)
    have ci : (i : Int) < (x.length : Int) := by omega
    have cs : (0 : Int) ≤ (s : Int) := Int.natCast_nonneg _
    rw [if_pos ci, ei]
    rw [a1]
    rw [a2]
    rw [hz, hy, e1]
    simp only [Option.bind_some]
    rw [if_pos cs, if_pos co, hw]
theorem Shr_spec {a : List Int} (ha : WD a) (hm : a.length ≤ 200000000) (n : Nat) (hn : n ≤ 9000000000000000000) : Ev (fun k => nat_Nat_Shr.f k a (n : Int)) (words (wv a / 2 ^ n)) := by
  unfold nat_Nat_Shr.f
  have e0 : mx (n : Int) 0 = (n : Int) := by unfold mx; split <;> omega
  have e1 : wrap64 ((n : Int) / 32) = ((n / 32 : Nat) : Int) := by rw [w64 (by omega) (by omega)]; omega
  rw [e0, e1, Int.toNat_natCast]
  have e3 : 2 ^ n = BW ^ (n / 32) * 2 ^ (n % 32) := by rw [BWpow, ← Nat.pow_add, Nat.div_add_mod]
  have hdiv : wv a / 2 ^ n = wv (a.drop (n / 32)) / 2 ^ (n % 32) := by rw [e3, ← Nat.div_div_eq_div_mul, wv_drop_div ha]
  by_cases h : a.length ≤ n / 32
  · have hz : wv a / 2 ^ n = 0 := by rw [hdiv, List.drop_eq_nil_of_le h, wv_nil, Nat.zero_div]
    rw [hz, words_zero]
    refine Ev.congr (fun k => if_pos (by omega)) (Ev.now _)
  · rw [hdiv]
    refine Ev.congr (fun k => ?_) ((Shr_ev (n : Int) (n % 32) (by omega) (by rw [Int.tmod_eq_emod_of_nonneg (by omega)]; omega) (a.drop (n / 32)) (WD_drop ha _) (by simp; omega) (a.drop (n / 32)).length 0 [] (by omega) rfl WD_nil (by simp [wv_nil])))
    rw [if_neg (by omega), if_pos (by omega), if_pos (by omega)]
    rfl
end Go.Proofs.Ytagbnkbhobmgjaa.Pure
end
section
/- Quotients, remainders, shifts to the right, and the greatest common divisor: plain arithmetic. -/
set_option linter.unusedVariables false
set_option linter.unusedSimpArgs false
namespace Go.Proofs.Ytagbnkbhobmgjaa.Pure
open Go.RowKit Go.Proofs.Ytagbnkbhobmgjaa.Fn Go.Proofs.YtagbnkbhobmgjaaW.PrintWords Go.Proofs.YtagbnkbhobmgjaaW.PrintMore Go.Proofs.YtagbnkbhobmgjaaW.PrintLast
/-! ### the loop of Div -/
set_option maxHeartbeats 2000000 in
theorem divloop_ev (v : List Int) (hv : WD v) (n : Nat) (hn : v.length = n + 2) (hm : n ≤ 900000000) (htop : 2147483648 ≤ rd v ((n + 1 : Nat) : Int)) : ∀ (c : Nat) (q u : List Int), c ≤ q.length → u.length = q.length + (n + 2) → u.length ≤ 900000000 → WD q → WD u →
    (∀ j : Nat, j < c → rd q (j : Int) = 0) → wv u < BW ^ c * wv v →
    ∃ q' u', Ev (fun k => nat_divloop.l0 k q u v ((c : Int) - 1)) (q', u') ∧ q'.length = q.length ∧ u'.length = u.length ∧ WD q' ∧ WD u' ∧ wv q' * wv v + wv u' = wv q * wv v + wv u ∧ wv u' < wv v
  | 0, q, u, hc, hl, hul, hWq, hWu, hz, hlt => by
    refine ⟨q, u, Ev.step (f := fun _ => some (q, u)) (fun k => ?_) (Ev.now _), rfl, rfl, hWq, hWu, rfl, by simpa using hlt⟩
    simp only [nat_divloop.l0]
    rw [if_neg (by omega)]
  | c + 1, q, u, hc, hl, hul, hWq, hWu, hz, hlt => by
    have hVl := wv_lt hv
    rw [hn] at hVl
    have hs1 := wv_split u c (by omega)
    have hs2 := wv_split (u.drop c) (n + 3) (by simp; omega)
    have htk := take_lt hWu c
    have hp : 0 < BW ^ c := Nat.pow_pos BW_pos
    have hd1 : wv (u.drop c) < BW * wv v := by
      have : BW ^ c * wv (u.drop c) < BW ^ c * (BW * wv v) := by
        rw [Nat.pow_succ, Nat.mul_assoc] at hlt; omega
      exact Nat.lt_of_mul_lt_mul_left this
    have hd2 : wv ((u.drop c).drop (n + 3)) = 0 := by
      rcases Nat.eq_zero_or_pos (wv ((u.drop c).drop (n + 3))) with h | h
      · exact h
      · have h1 := Nat.le_mul_of_pos_right (BW ^ (n + 3)) h
        have h2 : BW * wv v < BW ^ (n + 3) := by rw [Nat.pow_succ, Nat.mul_comm]; exact Nat.mul_lt_mul_of_pos_right hVl BW_pos
        omega
    rw [hd2, Nat.mul_zero, Nat.add_zero] at hs2
    have hWw : WD ((u.drop c).take (n + 3)) := WD_take (WD_drop hWu _) _
    obtain ⟨w', e1, e2, e3, e4⟩ := step_spec hWw hv n hn (by simp; omega) hm htop (by rw [← hs2]; exact hd1)
    rw [← hs2] at e1 e4
    have hVpos : 0 < wv v := by
      rcases Nat.eq_zero_or_pos (wv v) with h | h
      · rw [h] at hd1; omega
      · exact h
    have hQ : wv (u.drop c) / wv v < BW := by rw [Nat.div_lt_iff_lt_mul hVpos]; exact hd1
    have hset := wv_set q c ((wv (u.drop c) / wv v : Nat) : Int) (by omega)
    rw [hz c (by omega), Int.toNat_natCast] at hset
    simp only [Int.toNat_zero, Nat.mul_zero, Nat.add_zero] at hset
    have hd3 : u.drop (c + (n + 3)) = (u.drop c).drop (n + 3) := by rw [List.drop_drop]
    have hnum : wv (u.take c ++ w' ++ u.drop (c + (n + 3))) = wv (u.take c) + BW ^ c * (wv (u.drop c) % wv v) := by
      rw [List.append_assoc, wv_append, wv_append, hd3, hd2, Nat.mul_zero, Nat.add_zero, e4, List.length_take, Nat.min_eq_left (by omega)]
    have hmod := Nat.mod_lt (wv (u.drop c)) hVpos
    obtain ⟨q', u', f1, f2, f3, f4, f5, f6, f7⟩ := divloop_ev v hv n hn hm htop c (q.set c ((wv (u.drop c) / wv v : Nat) : Int)) (u.take c ++ w' ++ u.drop (c + (n + 3))) (by simp; omega) (by simp [e2]; omega) (by simp [e2]; omega)
      (WD_set hWq _ (Int.natCast_nonneg _) (Int.ofNat_lt.2 (show _ < 4294967296 from hQ))) (WD_append (WD_append (WD_take hWu _) e3) (WD_drop hWu _)) (fun j hj => by rw [rd_set_ne _ _ _ _ (by omega)]; exact hz j (by omega)) (by
        rw [hnum]
        have : BW ^ c * (wv (u.drop c) % wv v) + BW ^ c ≤ BW ^ c * wv v := by rw [← Nat.mul_succ]; exact Nat.mul_le_mul_left _ hmod
        omega)
    refine ⟨q', u', Ev.step (fun k => ?_) (Ev.bind (f := fun k (b : Int × List Int) => nat_divloop.l0 k (q.set c b.1) (u.take c ++ b.2 ++ u.drop (c + (v.length + 1))) v ((c : Int) - 1)) e1 (by rw [hn]; exact f1)), by simpa using f2, by rw [f3]; simp [e2]; omega, f4, f5, ?_, f7⟩
    · simp only [nat_divloop.l0]
      have ec : (((c + 1 : Nat) : Int) - 1) = (c : Int) := by omega
      rw [ec, Int.toNat_natCast, if_pos (by omega), if_pos (by omega), if_pos (by omega), hn]
    · rw [f6, hnum, hset, hs1, Nat.add_mul]
      have h := Nat.mod_add_div (wv (u.drop c)) (wv v)
      have h2 : BW ^ c * wv (u.drop c) = BW ^ c * (wv (u.drop c) % wv v) + BW ^ c * (wv v * (wv (u.drop c) / wv v)) := by rw [← Nat.mul_add, h]
      have h3 : BW ^ c * (wv (u.drop c) / wv v) * wv v = BW ^ c * (wv v * (wv (u.drop c) / wv v)) := by rw [Nat.mul_assoc, Nat.mul_comm (wv v)]
      rw [h3]; omega
end Go.Proofs.Ytagbnkbhobmgjaa.Pure
end
section
/- Quotients, remainders, shifts to the right, and the greatest common divisor: plain arithmetic. -/
set_option linter.unusedVariables false
set_option linter.unusedSimpArgs false
namespace Go.Proofs.Ytagbnkbhobmgjaa.Pure
open Go.RowKit Go.Proofs.Ytagbnkbhobmgjaa.Fn Go.Proofs.YtagbnkbhobmgjaaW.PrintWords Go.Proofs.YtagbnkbhobmgjaaW.PrintMore Go.Proofs.YtagbnkbhobmgjaaW.PrintLast
/-! ### Div -/
theorem Clone_spec (l : List Int) (h : l.length ≤ 2000000000) : slices_Clone.f l = some l := by
  unfold slices_Clone.f; rw [if_pos (by omega)]
theorem rd_words_last {n : Nat} (hn : n ≠ 0) : rd (words n) (((words n).length - 1 : Nat) : Int) ≠ 0 := by
  have hl := words_ne hn
  intro h
  rw [rd_lt _ _ (by omega)] at h
  exact nrm_words n _ (by rw [List.getLast?_eq_getElem?]; simp [hl]) h
/-- The words of a number that has m + 1 of them. -/
theorem words_top {n m : Nat} (h : (words n).length = m + 1) : ∃ t : Nat, rd (words n) (m : Int) = (t : Int) ∧ 0 < t ∧ t < BW ∧ t * BW ^ m ≤ n ∧ n < (t + 1) * BW ^ m := by
  have hn : n ≠ 0 := by intro e; rw [e, words_zero] at h; cases h
  obtain ⟨r0, r1⟩ := WD_rd (WD_words n) (m : Int)
  have hne := rd_words_last hn
  rw [h, Nat.add_sub_cancel] at hne
  refine ⟨(rd (words n) (m : Int)).toNat, by omega, by omega, by rw [BW_eq]; omega, ?_, ?_⟩
  · have := rd_le_wv (words n) m
    rw [wv_words, Nat.mul_comm] at this; exact this
  · have h1 := take_succ' (a := words n) m
    have h2 := take_lt (WD_words n) m
    rw [List.take_of_length_le (by omega), wv_words, Nat.mul_comm (BW ^ m)] at h1
    rw [Nat.add_mul, Nat.one_mul]; omega
theorem words_len_le {n k : Nat} (h : (words n).length ≤ k) : n < BW ^ k := by
  have := wv_lt (WD_words n)
  rw [wv_words] at this
  exact Nat.lt_of_lt_of_le this (Nat.pow_le_pow_right BW_pos h)
/-- What the general case needs: the shift. -/
theorem shift_of (t : Nat) (t2 : 0 < t) (t3 : t < BW) : ∃ s l : Nat, bits_LeadingZeros32.f (t : Int) = some (s : Int) ∧ s < 32 ∧ 2 ^ l * 2 ^ s = BW ∧ t < 2 ^ l ∧ 2147483648 ≤ t * 2 ^ s ∧ 2 ^ s < BW := by
  obtain ⟨b1, b2⟩ := bitLen_lims t (by rw [BW_eq] at t3; omega)
  have b3 := b2 (by omega)
  have e : bits_LeadingZeros32.f (t : Int) = some (wrap64 (32 - ((Lib.bitLen t : Nat) : Int))) := by
    unfold bits_LeadingZeros32.f bits_Len32.f
    rw [if_pos (by omega), if_pos (by rw [BW_eq] at t3; omega), Int.toNat_natCast]
    rfl
  rw [e]
  generalize Lib.bitLen t = l at *
  have hl1 : 1 ≤ l := by
    rcases Nat.eq_zero_or_pos l with h | h
    · rw [h] at b1; simp at b1; omega
    · exact h
  have hl32 : l ≤ 32 := by
    rcases Nat.lt_or_ge 32 l with h | h
    · have : 2 ^ 32 ≤ 2 ^ (l - 1) := Nat.pow_le_pow_right (by decide) (by omega)
      rw [BW_eq] at t3; omega
    · exact h
  refine ⟨32 - l, l, ?_, by omega, ?_, b1, ?_, ?_⟩
  · rw [w64 (by omega) (by omega)]; congr 1; omega
  · rw [← Nat.pow_add]; have : l + (32 - l) = 32 := by omega
    rw [this]; rfl
  · have : 2 ^ (l - 1) * 2 ^ (32 - l) = 2147483648 := by
      rw [← Nat.pow_add]; have : l - 1 + (32 - l) = 31 := by omega
      rw [this]
    rw [← this]
    exact Nat.mul_le_mul_right _ b3
  · have := Nat.pow_lt_pow_right (a := 2) (by decide) (show 32 - l < 32 by omega)
    exact this
/-- The two shifted rows, and the loop over them. -/
theorem div_core (A B n : Nat) (hn : (words B).length = n + 2) (hla : (words A).length ≤ 100000000) (hAB : ¬ A < B) (t : Nat) (t1 : rd (words B) ((n + 1 : Nat) : Int) = (t : Int)) (t2 : 0 < t) (t4 : t * BW ^ (n + 1) ≤ B) (t5 : B < (t + 1) * BW ^ (n + 1))
    (s l : Nat) (hs32 : s < 32) (hls : 2 ^ l * 2 ^ s = BW) (b1 : t < 2 ^ l) (b3 : 2147483648 ≤ t * 2 ^ s) (h2s : 2 ^ s < BW) (m : Nat) (hm : m = (words A).length - (n + 2) + 1) :
    n + 2 ≤ (words A).length ∧ ∃ u v q r, Ev (fun k => nat_shifted.f k (words A) (s : Int) (((words A).length + 1 : Nat) : Int)) u ∧ Ev (fun k => nat_shifted.f k (words B) (s : Int) ((n + 2 : Nat) : Int)) v ∧
      Ev (fun k => nat_divloop.f k (List.replicate m 0) u v) (q, r) ∧ WD q ∧ WD r ∧ q.length = m ∧ r.length = (words A).length + 1 ∧ wv q = A / B ∧ wv r / 2 ^ s = A % B := by
  have hp2 : 0 < 2 ^ s := Nat.pow_pos (by decide)
  have hPn : 0 < BW ^ (n + 1) := Nat.pow_pos BW_pos
  have h7 := words_len_le (Nat.le_refl (words A).length)
  have hlAB : n + 2 ≤ (words A).length := by
    rcases Nat.lt_or_ge (words A).length (n + 2) with h | h
    · have h12 := words_len_le (n := A) (k := n + 1) (by omega)
      have h13 := Nat.le_mul_of_pos_left (BW ^ (n + 1)) t2
      omega
    · exact h
  refine ⟨hlAB, ?_⟩
  have hVlt : B * 2 ^ s < BW ^ (n + 2) := by
    have h6 : (t + 1) * BW ^ (n + 1) * 2 ^ s ≤ BW ^ (n + 2) := by
      rw [Nat.mul_right_comm, Nat.pow_succ BW (n + 1), Nat.mul_comm (BW ^ (n + 1))]
      have : (t + 1) * 2 ^ s ≤ BW := by rw [← hls]; exact Nat.mul_le_mul_right _ b1
      exact Nat.mul_le_mul_right _ this
    exact Nat.lt_of_lt_of_le (Nat.mul_lt_mul_of_pos_right t5 hp2) h6
  have hUlt : A * 2 ^ s < BW ^ ((words A).length + 1) := by
    rw [Nat.pow_succ]
    exact Nat.mul_lt_mul'' h7 h2s
  obtain ⟨u, u1, u2, u3, u4⟩ := shifted_spec (WD_words A) s hs32 ((words A).length + 1) (by omega) (by omega) (by rw [wv_words]; exact hUlt)
  obtain ⟨v, v1, v2, v3, v4⟩ := shifted_spec (WD_words B) s hs32 (n + 2) (by omega) (by omega) (by rw [wv_words]; exact hVlt)
  rw [wv_words] at u4 v4
  have htop : 2147483648 ≤ rd v ((n + 1 : Nat) : Int) := by
    obtain ⟨g0, g1⟩ := WD_rd v3 ((n + 1 : Nat) : Int)
    have h8 := take_succ' (a := v) (n + 1)
    rw [List.take_of_length_le (by omega), v4] at h8
    have h9 := take_lt v3 (n + 1)
    have h10 : 2147483648 * BW ^ (n + 1) ≤ B * 2 ^ s := by
      refine Nat.le_trans (Nat.mul_le_mul_right _ b3) ?_
      rw [Nat.mul_right_comm]
      exact Nat.mul_le_mul_right _ t4
    rcases Nat.lt_or_ge (rd v ((n + 1 : Nat) : Int)).toNat 2147483648 with h | h
    · have h11 : BW ^ (n + 1) * ((rd v ((n + 1 : Nat) : Int)).toNat + 1) ≤ BW ^ (n + 1) * 2147483648 := Nat.mul_le_mul_left _ h
      rw [Nat.mul_add, Nat.mul_one] at h11
      omega
    · omega
  have hUV : wv u < BW ^ m * wv v := by
    rw [u4, v4]
    have h15 : BW ^ (words A).length ≤ BW ^ m * B := by
      have e : BW ^ (words A).length = BW ^ m * BW ^ (n + 1) := by rw [← Nat.pow_add]; congr 1; omega
      rw [e]
      exact Nat.mul_le_mul_left _ (Nat.le_trans (Nat.le_mul_of_pos_left _ t2) t4)
    rw [← Nat.mul_assoc]
    exact Nat.mul_lt_mul_of_pos_right (Nat.lt_of_lt_of_le h7 h15) hp2
  obtain ⟨q, r, e1, e2, e3, e4, e5, e6, e7⟩ := divloop_ev v v3 n v2 (by omega) htop m (List.replicate m 0) u (by simp) (by simp; omega) (by omega) (WD_rep _) u3
    (fun j _ => rd_zero_of_lt _ (WD_rep _) j (by rw [wv_rep]; exact Nat.pow_pos BW_pos)) hUV
  rw [wv_rep, Nat.zero_mul, Nat.zero_add] at e6
  have hVpos : 0 < wv v := by omega
  refine ⟨u, v, q, r, u1, v1, ?_, e4, e5, by rw [e2]; simp, by omega, ?_, ?_⟩
  · unfold nat_divloop.f
    refine Ev.congr (fun k => if_pos (by omega)) ?_
    rw [List.length_replicate]
    exact e1
  · have h16 : wv u / wv v = wv q := by
      rw [← e6, Nat.mul_comm, Nat.mul_add_div hVpos, Nat.div_eq_of_lt e7, Nat.add_zero]
    rw [← h16, u4, v4, Nat.mul_div_mul_right _ _ hp2]
  · have h17 : wv u % wv v = wv r := by
      rw [← e6, Nat.mul_comm, Nat.mul_add_mod, Nat.mod_eq_of_lt e7]
    rw [← h17, u4, v4, Nat.mul_mod_mul_right, Nat.mul_div_cancel _ hp2]
theorem div_lens (LA LB n m : Nat) (hn : LB = n + 2) (hla : LA ≤ 100000000) (hm : m = LA - (n + 2) + 1) (h : n + 2 ≤ LA) :
    wrap64 ((LB : Int) - 1) = ((n + 1 : Nat) : Int) ∧ wrap64 ((LA : Int) + 1) = ((LA + 1 : Nat) : Int) ∧ wrap64 (wrap64 ((LA : Int) - (LB : Int)) + 1) = (m : Int) ∧ m ≤ 70368744177664 := by
  refine ⟨?_, ?_, ?_, by omega⟩
  · rw [w64 (by omega) (by omega)]; omega
  · rw [w64 (by omega) (by omega)]; omega
  · rw [w64 (x := (LA : Int) - (LB : Int)) (by omega) (by omega), w64 (by omega) (by omega)]; omega
set_option maxHeartbeats 4000000 in
theorem Div_spec {a b : List Int} (ha : WD a) (hb : WD b) (la : a.length ≤ 100000000) (lb : b.length ≤ 100000000) :
    Ev (fun k => nat_Nat_Div.f k a b) (if wv b = 0 then ([], [], 21) else (words (wv a / wv b), words (wv a % wv b), 0)) := by
  have hta := trim_spec ha (by omega)
  have htb := trim_spec hb (by omega)
  have lwa : (words (wv a)).length ≤ a.length := words_len _ _ (wv_lt ha)
  have lwb : (words (wv b)).length ≤ b.length := words_len _ _ (wv_lt hb)
  refine Ev.bind hta (Ev.bind htb ?_)
  generalize wv a = A at *
  generalize wv b = B at *
  by_cases hB : B = 0
  · subst hB
    rw [if_pos rfl, words_zero]
    exact Ev.now _
  rw [if_neg hB]
  have hlb := words_ne hB
  have hc := Cmp_spec (WD_words A) (WD_words B) (by omega) (by omega)
  rw [wv_words, wv_words] at hc
  refine Ev.congr (fun k => if_neg (by omega)) (Ev.bind hc ?_)
  by_cases hAB : A < B
  · rw [cmpN_lt hAB, Nat.div_eq_of_lt hAB, Nat.mod_eq_of_lt hAB, words_zero]
    refine Ev.congr (fun k => ?_) (Ev.now _)
    rw [if_pos (by omega), Clone_spec _ (by omega)]
    rfl
  have hge : ¬ cmpN A B < 0 := by unfold cmpN; rw [if_neg hAB]; split <;> omega
  simp only [if_neg hge]
  by_cases h1 : (words B).length = 1
  · obtain ⟨t, t1, t2, t3, t4, t5⟩ := words_top (m := 0) h1
    have hBt : B = t := by simp at t4 t5; omega
    have hs := short_spec (WD_words A) (by omega) (t : Int) (by omega) (by rw [BW_eq] at t3; omega)
    rw [wv_words, Int.toNat_natCast, ← hBt] at hs
    refine Ev.congr (fun k => ?_) (Ev.bind hs (f := fun _ (b : List Int × List Int) => some (b.1, b.2, 0)) (Ev.now _))
    rw [if_pos (by omega), if_pos (by omega), hBt]
    have : rd (words t) 0 = (t : Int) := by rw [← hBt]; rw [hBt] at t1 ⊢; exact t1
    rw [this]
  · obtain ⟨n, hn⟩ : ∃ n, (words B).length = n + 2 := ⟨(words B).length - 2, by omega⟩
    obtain ⟨t, t1, t2, t3, t4, t5⟩ := words_top (m := n + 1) hn
    have f1 : (0 : Int) ≤ ((n + 1 : Nat) : Int) := Int.natCast_nonneg _
    have f2 : ((n + 1 : Nat) : Int) < ((words B).length : Int) := by omega
    have f3 : ¬ ((words B).length : Int) = 1 := by omega
    have lA' : (words A).length ≤ 100000000 := Nat.le_trans lwa la
    obtain ⟨m, hm⟩ : ∃ m, m = (words A).length - (n + 2) + 1 := ⟨_, rfl⟩
    have f5 : (0 : Int) ≤ (m : Int) := Int.natCast_nonneg _
    obtain ⟨s, l, hlz, hs32, hls, b1, b3, h2s⟩ := shift_of t t2 t3
    obtain ⟨hlAB, u, v, q, r, u1, v1, d1, q1, r1, ql, rl, qv, rv⟩ := div_core A B n hn lA' hAB t t1 t2 t4 t5 s l hs32 hls b1 b3 h2s m hm
    obtain ⟨hel, hwa, hwq, f4⟩ := div_lens _ _ n m hn lA' hm hlAB
    have hsh := Shr_spec r1 (Nat.le_trans (show r.length ≤ 100000001 by rw [rl]; exact Nat.succ_le_succ lA') (by decide)) s (Nat.le_trans (Nat.le_of_lt hs32) (by decide))
    rw [rv] at hsh
    have htq := trim_spec q1 (by rw [ql]; exact Nat.le_trans f4 (by decide))
    rw [qv] at htq
    clear b1 b3 hls h2s t4 t5 qv rv
    refine Ev.congr (fun k => ?_) (Ev.bind u1 (f := fun k (x : List Int) => (nat_shifted.f k (words B) (s : Int) ((n + 2 : Nat) : Int)).bind fun y => (nat_divloop.f k (List.replicate m 0) x y).bind fun (bt : List Int × List Int) => (nat_trim.f k bt.1).bind fun t131 => (nat_Nat_Shr.f k bt.2 (s : Int)).bind fun t134 => some (t131, t134, 0)) (Ev.bind v1 (Ev.bind d1 (Ev.bind htq (Ev.bind hsh (Ev.now _))))))
    rw [if_neg f3, hel, if_pos f1, if_pos f2, t1, hlz, hwa, hwq]
    simp only [Option.bind_some, Int.toNat_natCast, if_pos f5, if_pos f4, hn]
end Go.Proofs.Ytagbnkbhobmgjaa.Pure
end
section
/- Quotients, remainders, shifts to the right, and the greatest common divisor: plain arithmetic. -/
set_option linter.unusedVariables false
set_option linter.unusedSimpArgs false
namespace Go.Proofs.Ytagbnkbhobmgjaa.Pure
open Go.RowKit Go.Proofs.Ytagbnkbhobmgjaa.Fn Go.Proofs.YtagbnkbhobmgjaaW.PrintWords Go.Proofs.YtagbnkbhobmgjaaW.PrintMore Go.Proofs.YtagbnkbhobmgjaaW.PrintLast
/-! ### Gcd -/
theorem Gcd_ev : ∀ (B A : Nat), (words A).length ≤ 100000000 → (words B).length ≤ 100000000 → Ev (fun k => nat_Nat_Gcd.l0 k (words A) (words B)) (words (Nat.gcd A B)) := by
  intro B
  induction B using Nat.strongRecOn with
  | _ B ih =>
    intro A hA hB
    by_cases h : B = 0
    · subst h
      rw [Nat.gcd_zero_right, words_zero]
      refine Ev.step (f := fun _ => some (words A)) (fun k => ?_) (Ev.now _)
      simp only [nat_Nat_Gcd.l0]
      rw [if_neg (by simp)]
    · have hd := Div_spec (WD_words A) (WD_words B) hA hB
      rw [wv_words, wv_words, if_neg h] at hd
      have hlt := Nat.mod_lt A (Nat.pos_of_ne_zero h)
      have hlm : (words (A % B)).length ≤ (words B).length := words_len _ _ (Nat.lt_of_lt_of_le hlt (Nat.le_of_lt (words_len_le (Nat.le_refl _))))
      have i := ih (A % B) hlt B hB (by omega)
      have e : Nat.gcd B (A % B) = Nat.gcd A B := by rw [Nat.gcd_comm B, ← Nat.gcd_rec, Nat.gcd_comm]
      rw [e] at i
      refine Ev.step (fun k => ?_) (Ev.bind hd (f := fun k (bt : List Int × List Int × Int) => nat_Nat_Gcd.l0 k (words B) bt.2.1) i)
      simp only [nat_Nat_Gcd.l0]
      rw [if_pos (by have := words_ne h; omega)]
theorem Gcd_spec {a b : List Int} (ha : WD a) (hb : WD b) (la : a.length ≤ 100000000) (lb : b.length ≤ 100000000) : Ev (fun k => nat_Nat_Gcd.f k a b) (words (Nat.gcd (wv a) (wv b))) := by
  have l1 : (words (wv a)).length ≤ a.length := words_len _ _ (wv_lt ha)
  have l2 : (words (wv b)).length ≤ b.length := words_len _ _ (wv_lt hb)
  unfold nat_Nat_Gcd.f
  refine Ev.bind (trim_spec ha (by omega)) ?_
  refine Ev.congr (fun k => by rw [Clone_spec _ (by omega)]; rfl) (Ev.bind (trim_spec hb (by omega)) ?_)
  refine Ev.congr (fun k => by rw [Clone_spec _ (by omega)]; rfl) (Gcd_ev _ _ (by omega) (by omega))
end Go.Proofs.Ytagbnkbhobmgjaa.Pure
end
section
/- How long a number is, its bits, whether it is a word of 64, and what it is, shifted to the left: plain arithmetic. -/
set_option linter.unusedVariables false
set_option linter.unusedSimpArgs false
namespace Go.Proofs.Ytagbnkbhobmgjaa.Pure
open Go.RowKit Go.Proofs.Ytagbnkbhobmgjaa.Fn Go.Proofs.YtagbnkbhobmgjaaW.PrintWords Go.Proofs.YtagbnkbhobmgjaaW.PrintMore Go.Proofs.YtagbnkbhobmgjaaW.PrintLast
/-! ### how long -/
theorem bits_len_is {n m : Nat} (h0 : 2 ^ m ≤ n) (h1 : n < 2 ^ (m + 1)) : (bits n).length = m + 1 := by
  have hp : 0 < 2 ^ m := Nat.pow_pos (by decide)
  have a := bits_len _ _ h1
  have b := bits_len_lt (n := n) (by omega)
  have c := bv_lt (bits n)
  rw [bv_bits] at c
  rcases Nat.lt_or_ge (bits n).length (m + 1) with h | h
  · have : 2 ^ (bits n).length ≤ 2 ^ m := Nat.pow_le_pow_right (by decide) (by omega)
    omega
  · omega
theorem bits_len_le_iff (n k : Nat) : (bits n).length ≤ k ↔ n < 2 ^ k := by
  constructor
  · intro h
    have c := bv_lt (bits n)
    rw [bv_bits] at c
    exact Nat.lt_of_lt_of_le c (Nat.pow_le_pow_right (by decide) h)
  · exact bits_len k n
theorem NLen_spec {a : List Int} (ha : WD a) (hm : a.length ≤ 200000000) : Ev (fun k => nat_Nat_Len.f k a) (((bits (wv a)).length : Nat) : Int) := by
  unfold nat_Nat_Len.f
  have hwl : (words (wv a)).length ≤ a.length := words_len _ _ (wv_lt ha)
  refine Ev.bind (trim_spec ha (by omega)) ?_
  by_cases h : wv a = 0
  · rw [h, words_zero, bits_zero]
    exact Ev.now _
  · have hne : words (wv a) ≠ [] := by intro e; have := words_ne h; rw [e] at this; simp at this
    have hn := nrm_words (wv a)
    have hW := WD_words (wv a)
    have hv := wv_words (wv a)
    generalize hN : wv a = N at *
    obtain ⟨xs, x, e⟩ : ∃ xs x, words N = xs ++ [x] := ⟨(words N).dropLast, (words N).getLast hne, (List.dropLast_concat_getLast hne).symm⟩
    rw [e] at hn hW hv hwl
    have hx := hW x (by simp)
    have hx0 : x ≠ 0 := hn x (by simp)
    have hl := wv_lt (WD_left hW)
    rw [wv_snoc] at hv
    obtain ⟨b1, b2⟩ := bitLen_lims x.toNat (by omega)
    have b2' := b2 (by omega)
    have b3 : Lib.bitLen x.toNat ≤ 32 := by rw [bitLen_bits _ (by omega)]; exact bits_len _ _ (by omega)
    have b4 : 0 < Lib.bitLen x.toNat := by
      rcases Nat.eq_zero_or_pos (Lib.bitLen x.toNat) with h0 | h0
      · rw [h0] at b1; omega
      · exact h0
    have hb : (bits N).length = 32 * xs.length + Lib.bitLen x.toNat := by
      have e1 : 32 * xs.length + Lib.bitLen x.toNat = (32 * xs.length + (Lib.bitLen x.toNat - 1)) + 1 := by omega
      rw [e1]
      refine bits_len_is ?_ ?_
      · rw [Nat.pow_add, Nat.pow_mul, ← hv]
        have : (2 ^ 32) ^ xs.length * 2 ^ (Lib.bitLen x.toNat - 1) ≤ BW ^ xs.length * x.toNat := Nat.mul_le_mul_left _ b2'
        omega
      · rw [← e1, Nat.pow_add, Nat.pow_mul, ← hv]
        have h2 : BW ^ xs.length * x.toNat + BW ^ xs.length ≤ (2 ^ 32) ^ xs.length * 2 ^ Lib.bitLen x.toNat := by
          rw [← Nat.mul_succ]; exact Nat.mul_le_mul_left _ b1
        omega
    simp only [List.length_append, List.length_singleton] at hwl
    have hw : wrap64 (((xs ++ [x]).length : Int) - 1) = (((xs ++ [x]).length : Int) - 1) := w64 (by simp <;> omega) (by simp <;> omega)
    rw [e, hb]
    refine Ev.congr (fun k => ?_) (Ev.now _)
    rw [if_neg (by simp; omega), hw, rd_last]
    rw [if_pos (by simp), if_pos (by omega)]
    unfold bits_Len32.f
    rw [if_pos hx.1, if_pos (by omega)]
    simp only [Option.bind_some]
    have e3 : (((xs ++ [x]).length : Int) - 1) = ((xs.length : Nat) : Int) := by simp
    rw [e3, w64 (x := 32 * ((xs.length : Nat) : Int)) (by omega) (by omega), w64 (by omega) (by omega)]
    rfl
/-! ### bits -/
/-! ### Uint -/
/-! ### Shl -/
theorem NShl_ev (m s : Nat) (hs : s < 32) (x1 : Int) (e1 : Int.tmod x1 32 = (s : Int)) (a : List Int) (ha : WD a) (hm : a.length ≤ 200000000) : ∀ (d i : Nat) (o : List Int) (c : Nat), i + d = a.length → o.length ≤ 100000 + i → WD o → c < 2 ^ s →
    Ev (fun k => nat_Nat_Shl.l0 k x1 o (c : Int) a (a.length : Int) (i : Int)) (words (wv o + BW ^ o.length * (c + 2 ^ s * wv (a.drop i))), 0)
  | 0, i, o, c, hd, hl, hW, hc => by
    have hp : 2 ^ s ≤ 2 ^ 31 := Nat.pow_le_pow_right (by decide) (by omega)
    have ec : (c : Int) % 4294967296 = (c : Int) := by omega
    rw [List.drop_eq_nil_of_le (by omega), wv_nil, Nat.mul_zero, Nat.add_zero]
    have ht := trim_spec (WD_append hW (WD_mk (x := (c : Int)) (by omega) (by omega) WD_nil)) (by simp; omega)
    rw [wv_snoc, Int.toNat_natCast] at ht
    refine Ev.step (f := fun k => (nat_trim.f k (o ++ [(c : Int)])).bind fun t => some (t, 0)) (fun k => ?_) (Ev.bind ht (Ev.now _))
    simp only [nat_Nat_Shl.l0]
    rw [if_neg (by omega), if_pos (by omega), ec]
  | d + 1, i, o, c, hd, hl, hW, hc => by
    have co : o.length < 35184372088832 := by omega
    obtain ⟨x0, x1'⟩ := WD_rd ha (i : Int)
    have hdr := wv_drop a i
    generalize hz : rd a (i : Int) = z at *
    have hp : 2 ^ s ≤ 2 ^ 31 := Nat.pow_le_pow_right (by decide) (by omega)
    have hzlt : z.toNat * 2 ^ s + c < 2 ^ 63 := by
      have : z.toNat * 2 ^ s + 2 ^ s ≤ 2 ^ 32 * 2 ^ s := by rw [← Nat.succ_mul]; exact Nat.mul_le_mul_right _ (by omega)
      have : (2 : Nat) ^ 32 * 2 ^ s ≤ 2 ^ 32 * 2 ^ 31 := Nat.mul_le_mul_left _ hp
      omega
    have hor : Go.bits .or .u64 (c : Int) (shl .u64 (IntKind.u64.wrap z) (s : Int)) = ((z.toNat * 2 ^ s + c : Nat) : Int) := by
      rw [u64i x0 (by omega), shl_word x0 x1' s hs, bits_or_u64_nat _ _ (by omega) (by omega), Nat.or_comm, Nat.mul_comm, ← Nat.two_pow_add_eq_or_of_lt hc]
    have hcl : (z.toNat * 2 ^ s + c) / BW < 2 ^ s := by
      rw [Nat.div_lt_iff_lt_mul BW_pos, Nat.mul_comm (2 ^ s) BW]
      have : z.toNat * 2 ^ s + 2 ^ s ≤ BW * 2 ^ s := by rw [← Nat.succ_mul]; exact Nat.mul_le_mul_right _ (by rw [BW_eq]; omega)
      omega
    have eq1 : ((z.toNat * 2 ^ s + c : Nat) : Int) % 4294967296 = (((z.toNat * 2 ^ s + c) % BW : Nat) : Int) := by rw [BW_eq]; omega
    have eq2 : ((z.toNat * 2 ^ s + c : Nat) : Int) / 4294967296 = (((z.toNat * 2 ^ s + c) / BW : Nat) : Int) := by rw [BW_eq]; omega
    have hwl : (z.toNat * 2 ^ s + c) % BW < 4294967296 := Nat.mod_lt _ BW_pos
    have ih := NShl_ev m s hs x1 e1 a ha hm d (i + 1) (o ++ [(((z.toNat * 2 ^ s + c) % BW : Nat) : Int)]) ((z.toNat * 2 ^ s + c) / BW) (by omega) (by simp; omega) (WD_append hW (WD_mk (Int.natCast_nonneg _) (Int.ofNat_lt.2 hwl) WD_nil)) hcl
    have e : wv (o ++ [(((z.toNat * 2 ^ s + c) % BW : Nat) : Int)]) + BW ^ (o ++ [(((z.toNat * 2 ^ s + c) % BW : Nat) : Int)]).length * ((z.toNat * 2 ^ s + c) / BW + 2 ^ s * wv (a.drop (i + 1))) = wv o + BW ^ o.length * (c + 2 ^ s * wv (a.drop i)) := by
      rw [hdr, wv_snoc, List.length_append, List.length_singleton, Nat.pow_succ, Nat.add_assoc, Nat.mul_assoc, ← Nat.mul_add, Int.toNat_natCast]
      congr 2
      have hq := Nat.mod_add_div (z.toNat * 2 ^ s + c) BW
      rw [Nat.mul_add, Nat.mul_add, Nat.mul_left_comm BW, Nat.mul_comm (2 ^ s) z.toNat]
      omega
    rw [e] at ih
    refine Ev.step (fun k => ?_) ih
    have cs : (0 : Int) ≤ (s : Int) := Int.natCast_nonneg _
    have ci : (i : Int) < (a.length : Int) := by omega
    have c0 : (0 : Int) ≤ (i : Int) := Int.natCast_nonneg _
    have ei : wrap64 ((i : Int) + 1) = ((i + 1 : Nat) : Int) := by rw [w64 (by omega) (by omega)]; rfl
    simp only [nat_Nat_Shl.l0]
    rw [if_pos ci, if_pos c0, if_pos ci, e1, if_pos cs, if_pos co, hz, hor, eq1, eq2, ei]
theorem mx0 (n : Int) : mx n 0 = ((n.toNat : Nat) : Int) := by unfold mx; split <;> omega
theorem NShl_spec {a : List Int} (ha : WD a) (hm : a.length ≤ 100000000) (n : Int) (h1 : n ≤ 9223372036854775807) :
    Ev (fun k => nat_Nat_Shl.f k a n) (if wv a = 0 then ([], 0) else if n.toNat + (bits (wv a)).length > 65536 then ([], 20) else (words (wv a * 2 ^ n.toNat), 0)) := by
  unfold nat_Nat_Shl.f
  refine Ev.congr (fun k => if_pos (by omega)) ?_
  unfold nat_Nat_Shl.f0
  have hb : (bits (wv a)).length ≤ 32 * a.length := by
    refine bits_len _ _ ?_
    rw [Nat.pow_mul]; exact wv_lt ha
  refine Ev.bind (NLen_spec ha (by omega)) ?_
  rw [mx0]
  by_cases h : wv a = 0
  · rw [if_pos h, h, bits_zero]; exact Ev.now _
  · have hbp : (bits (wv a)).length ≠ 0 := by
      intro e
      have := bits_len_le_iff (wv a) 0
      omega
    rw [if_neg h]
    refine Ev.congr (fun k => if_neg (by omega)) ?_
    rw [w64 (x := 65536 - (((bits (wv a)).length : Nat) : Int)) (by omega) (by omega)]
    generalize n.toNat = m at *
    by_cases hg : m + (bits (wv a)).length > 65536
    · rw [if_pos hg]
      exact Ev.congr (fun k => if_pos (by omega)) (Ev.now _)
    · rw [if_neg hg]
      refine Ev.congr (fun k => if_neg (by omega)) ?_
      have eq : wrap64 ((m : Int) / 32) = ((m / 32 : Nat) : Int) := by rw [w64 (by omega) (by omega)]; omega
      rw [eq, Int.toNat_natCast]
      refine Ev.congr (fun k => if_pos (by omega)) (Ev.congr (fun k => if_pos (by omega)) ?_)
      have := NShl_ev m (m % 32) (by omega) (m : Int) (by rw [Int.tmod_eq_emod_of_nonneg (by omega)]; omega) a ha (by omega) a.length 0 (List.replicate (m / 32) 0) 0 (by omega) (by simp; omega) (WD_rep _) (Nat.pow_pos (by decide))
      rw [wv_rep, List.length_replicate, List.drop_zero, Nat.zero_add, Nat.zero_add, ← Nat.mul_assoc, BWpow, ← Nat.pow_add, Nat.div_add_mod, Nat.mul_comm] at this
      exact this
/-! ### a word of a row of bits -/
end Go.Proofs.Ytagbnkbhobmgjaa.Pure
end
section
/- Sums, products, quotients of numbers that are told as words of numbers: plain arithmetic. -/
set_option linter.unusedVariables false
set_option linter.unusedSimpArgs false
namespace Go.Proofs.Ytagbnkbhobmgjaa.Pure
open Go.RowKit Go.Proofs.Ytagbnkbhobmgjaa.Fn Go.Proofs.YtagbnkbhobmgjaaW.PrintWords Go.Proofs.YtagbnkbhobmgjaaW.PrintMore Go.Proofs.YtagbnkbhobmgjaaW.PrintLast
/-- A row of words, a number, and how long it may be. -/
structure Is (a : List Int) (A m : Nat) : Prop where
  wd : WD a
  val : wv a = A
  len : a.length ≤ m
theorem Is.lt {a : List Int} {A m : Nat} (h : Is a A m) : A < BW ^ m := by
  rw [← h.val]; exact Nat.lt_of_lt_of_le (wv_lt h.wd) (Nat.pow_le_pow_right BW_pos h.len)
theorem Is.mk' {A m : Nat} (h : A < BW ^ m) : Is (words A) A m := ⟨WD_words A, wv_words A, words_len _ _ h⟩
theorem Is.of {a : List Int} {m : Nat} (h : WD a) (hl : a.length ≤ m) : Is a (wv a) m := ⟨h, rfl, hl⟩
theorem lt_BW_add {x y m n : Nat} (hx : x < BW ^ m) (hy : y < BW ^ n) : x + y < BW ^ (max m n + 1) := by
  have h1 : BW ^ m ≤ BW ^ max m n := Nat.pow_le_pow_right BW_pos (Nat.le_max_left _ _)
  have h2 : BW ^ n ≤ BW ^ max m n := Nat.pow_le_pow_right BW_pos (Nat.le_max_right _ _)
  rw [Nat.pow_succ, BW_eq] at *
  omega
theorem Is.add {a b : List Int} {A B m n : Nat} (ha : Is a A m) (hb : Is b B n) (hm : m ≤ 1000000) (hn : n ≤ 1000000) :
    Ev (fun k => nat_Nat_Add.f k a b) (words (A + B)) ∧ Is (words (A + B)) (A + B) (max m n + 1) := by
  have h := Add_spec ha.wd hb.wd (Nat.le_trans ha.len (by omega)) (Nat.le_trans hb.len (by omega))
  rw [ha.val, hb.val] at h
  exact ⟨h, Is.mk' (lt_BW_add ha.lt hb.lt)⟩
theorem Is.blen {a : List Int} {A m : Nat} (ha : Is a A m) (hm : m ≤ 1000000) : Ev (fun k => nat_Nat_Len.f k a) (((bits A).length : Nat) : Int) := by
  have h := NLen_spec ha.wd (Nat.le_trans ha.len (by omega))
  rw [ha.val] at h
  exact h
theorem Is.div {a b : List Int} {A B m n : Nat} (ha : Is a A m) (hb : Is b B n) (hm : m ≤ 1000000) (hn : n ≤ 1000000) (h0 : B ≠ 0) :
    Ev (fun k => nat_Nat_Div.f k a b) (words (A / B), words (A % B), 0) ∧ Is (words (A / B)) (A / B) m ∧ Is (words (A % B)) (A % B) n := by
  have h := Div_spec ha.wd hb.wd (Nat.le_trans ha.len (by omega)) (Nat.le_trans hb.len (by omega))
  rw [ha.val, hb.val, if_neg h0] at h
  exact ⟨h, Is.mk' (Nat.lt_of_le_of_lt (Nat.div_le_self _ _) ha.lt), Is.mk' (Nat.lt_trans (Nat.mod_lt _ (Nat.pos_of_ne_zero h0)) hb.lt)⟩
theorem gcd_lt_BW {A B m n : Nat} (ha : A < BW ^ m) (hb : B < BW ^ n) : Nat.gcd A B < BW ^ max m n := by
  rcases Nat.eq_zero_or_pos A with h | h
  · rw [h, Nat.gcd_zero_left]; exact Nat.lt_of_lt_of_le hb (Nat.pow_le_pow_right BW_pos (Nat.le_max_right _ _))
  · exact Nat.lt_of_le_of_lt (Nat.gcd_le_left _ h) (Nat.lt_of_lt_of_le ha (Nat.pow_le_pow_right BW_pos (Nat.le_max_left _ _)))
theorem Is.gcd {a b : List Int} {A B m n : Nat} (ha : Is a A m) (hb : Is b B n) (hm : m ≤ 1000000) (hn : n ≤ 1000000) :
    Ev (fun k => nat_Nat_Gcd.f k a b) (words (Nat.gcd A B)) ∧ Is (words (Nat.gcd A B)) (Nat.gcd A B) (max m n) := by
  have h := Gcd_spec ha.wd hb.wd (Nat.le_trans ha.len (by omega)) (Nat.le_trans hb.len (by omega))
  rw [ha.val, hb.val] at h
  exact ⟨h, Is.mk' (gcd_lt_BW ha.lt hb.lt)⟩
theorem blen_zero {n : Nat} : (((bits n).length : Nat) : Int) = 0 ↔ n = 0 := by
  have := bits_len_le_iff n 0
  constructor
  · intro h; omega
  · intro h; rw [h, bits_zero]; rfl
end Go.Proofs.Ytagbnkbhobmgjaa.Pure
end
section
/- A word as a row of bits, and powers: plain arithmetic. -/
set_option linter.unusedVariables false
set_option linter.unusedSimpArgs false
namespace Go.Proofs.Ytagbnkbhobmgjaa.Pure
open Go.RowKit Go.Proofs.Ytagbnkbhobmgjaa.Fn Go.Proofs.YtagbnkbhobmgjaaW.PrintWords Go.Proofs.YtagbnkbhobmgjaaW.PrintMore Go.Proofs.YtagbnkbhobmgjaaW.PrintLast
/-! ### Of -/
theorem Of_in {v : Int} (v0 : 0 ≤ v) (v1 : v < 18446744073709551616) (R : List Bool) :
    ∀ (d j : Nat) (x : List Bool), j + d = 64 → x.length = j → bv x = v.toNat % 2 ^ j →
      (∀ (x' : List Bool), x'.length = 64 → bv x' = v.toNat → Ev (fun k => flyballref01_Of.l0 k [v] x' 1) R) →
      Ev (fun k => flyballref01_Of.l1 k [v] x 0 (j : Int)) R
  | 0, j, x, hd, hl, hv, hk => by
    have ej : j = 64 := by omega
    subst ej
    rw [Nat.mod_eq_of_lt (by omega)] at hv
    refine Ev.step (fun k => ?_) (hk x (by omega) hv)
    simp only [flyballref01_Of.l1]
    rw [if_neg (by omega), w64 (by omega) (by omega)]
    rfl
  | d + 1, j, x, hd, hl, hv, hk => by
    have hb := bit_u64 v0 v1 j (by omega)
    have ih := Of_in v0 v1 R d (j + 1) (x ++ [(v.toNat / 2 ^ j % 2 == 1)]) (by omega) (by simp; omega) (by
      rw [bv_snoc, hv, hl]
      have : bn (v.toNat / 2 ^ j % 2 == 1) = v.toNat / 2 ^ j % 2 := by
        rcases Nat.mod_two_eq_zero_or_one (v.toNat / 2 ^ j) with e | e <;> rw [e] <;> rfl
      rw [this, Nat.mod_pow_succ]) hk
    refine Ev.step (fun k => ?_) ih
    have er : rd [v] 0 = v := rfl
    simp only [flyballref01_Of.l1]
    rw [if_pos (by omega), if_pos (by omega), if_pos (by simp), er, hb, if_pos (by rw [u64i (by omega) (by omega)]; omega), if_pos (by omega), w64 (by omega) (by omega)]
    rfl
theorem Of_spec {v : Int} (v0 : 0 ≤ v) (v1 : v < 18446744073709551616) : ∃ l, Ev (fun k => flyballref01_Of.f k [v]) l ∧ l.length = 64 ∧ bv l = v.toNat := by
  have key : ∀ x' : List Bool, Ev (fun k => flyballref01_Of.l0 k [v] x' 1) x' := fun x' =>
    Ev.step (f := fun _ => some x') (fun k => by simp only [flyballref01_Of.l0]; rw [if_neg (by simp)]) (Ev.now _)
  obtain ⟨l, hl, hv⟩ : ∃ l : List Bool, l.length = 64 ∧ bv l = v.toNat := by
    refine ⟨bits v.toNat ++ List.replicate (64 - (bits v.toNat).length) false, ?_, ?_⟩
    · have := bits_len 64 v.toNat (by omega)
      simp; omega
    · rw [bv_append, bv_rep, bv_bits, Nat.mul_zero, Nat.add_zero]
  refine ⟨l, ?_, hl, hv⟩
  have huniq : ∀ x' : List Bool, x'.length = 64 → bv x' = v.toNat → x' = l := fun x' h1 h2 => bv_inj' (by omega) (by rw [h2, hv])
  refine Ev.step (fun k => ?_) (Of_in v0 v1 l 64 0 [] (by omega) rfl (by simp [bv_nil, Nat.mod_one]) (fun x' h1 h2 => by rw [huniq x' h1 h2]; exact key l))
  unfold flyballref01_Of.f
  simp only [flyballref01_Of.l0]
  rw [if_pos (by simp)]
  rfl
where
  bv_inj' : ∀ {a b : List Bool}, a.length = b.length → bv a = bv b → a = b
    | [], [], _, _ => rfl
    | [], y :: ys, h, _ => by simp at h
    | x :: xs, [], h, _ => by simp at h
    | x :: xs, y :: ys, h, e => by
      rw [bv_cons, bv_cons] at e
      have hx := bn_le x
      have hy := bn_le y
      have e1 : bn x = bn y := by omega
      have e2 : bv xs = bv ys := by omega
      rw [bv_inj' (by simpa using h) e2]
      cases x <;> cases y <;> simp [bn] at e1 ⊢
/-! ### Pow -/
end Go.Proofs.Ytagbnkbhobmgjaa.Pure
end
section
/- Rational numbers in lowest terms, as the program and as the document make them: plain arithmetic. -/
set_option linter.unusedVariables false
set_option linter.unusedSimpArgs false
namespace Go.Proofs.Ytagbnkbhobmgjaa.Pure
open Go.RowKit Go.Proofs.Ytagbnkbhobmgjaa.Fn Go.Proofs.YtagbnkbhobmgjaaW.PrintWords Go.Proofs.YtagbnkbhobmgjaaW.PrintMore Go.Proofs.YtagbnkbhobmgjaaW.PrintLast
/-- A number in lowest terms. -/
def lowS (neg : Bool) (N D : Nat) : Bool × Nat × Nat := if N = 0 ∨ D = 0 then (false, 0, 1) else (neg, N / Nat.gcd N D, D / Nat.gcd N D)
/-- .. in words, and in bits. -/
def RW (q : Bool × Nat × Nat) : Bool × List Int × List Int := (q.1, words q.2.1, words q.2.2)
def RB (q : Bool × Nat × Nat) : Bool × List Bool × List Bool := (q.1, bits q.2.1, bits q.2.2)
theorem bits_one : bits 1 = [true] := by rw [bits_pos (by decide)]; simp [bits_zero]
theorem lowS_lt {neg : Bool} {N D m n : Nat} (hN : N < BW ^ m) (hD : D < BW ^ n) (hn : 1 ≤ n) : (lowS neg N D).2.1 < BW ^ m ∧ (lowS neg N D).2.2 < BW ^ n := by
  have h1 : 1 < BW ^ n := Nat.lt_of_lt_of_le (show 1 < BW ^ 1 by rw [Nat.pow_one, BW_eq]; decide) (Nat.pow_le_pow_right BW_pos hn)
  have h0 : 0 < BW ^ m := Nat.pow_pos BW_pos
  unfold lowS
  by_cases h : N = 0 ∨ D = 0
  · rw [if_pos h]; exact ⟨h0, h1⟩
  · rw [if_neg h]; exact ⟨Nat.lt_of_le_of_lt (Nat.div_le_self _ _) hN, Nat.lt_of_le_of_lt (Nat.div_le_self _ _) hD⟩
/-- What is made in lowest terms, in words. -/
structure IsQ (q : Bool × Nat × Nat) (m n : Nat) : Prop where
  num : Is (words q.2.1) q.2.1 m
  den : Is (words q.2.2) q.2.2 n
theorem low_ev (neg : Bool) {num den : List Int} {N D m n : Nat} (hN : Is num N m) (hD : Is den D n) (hm : m ≤ 1000000) (hn : n ≤ 1000000) :
    Ev (fun k => ratio_low.f k neg num den) (RW (lowS neg N D)) := by
  unfold ratio_low.f
  refine Ev.bind (hN.blen hm) ?_
  have zero : (N = 0 ∨ D = 0) → Ev (fun k => ratio_low.j0 k neg num den true) (RW (lowS neg N D)) := fun h => by
    unfold lowS
    rw [if_pos h]
    refine Ev.step (fun k => by simp only [ratio_low.j0, if_true]; rfl) (Ev.bind (New_spec 1 (by omega) (by omega)) ?_)
    have e : RW (false, 0, 1) = (false, [], words 1) := by unfold RW; rw [words_zero]
    rw [e]
    exact Ev.now _
  by_cases h1 : N = 0
  · exact Ev.congr (fun k => if_pos (blen_zero.2 h1)) (zero (Or.inl h1))
  · refine Ev.congr (fun k => if_neg (fun c => h1 (blen_zero.1 c))) (Ev.bind (hD.blen hn) ?_)
    by_cases h2 : D = 0
    · rw [beq_iff_eq.2 (blen_zero.2 h2)]; exact zero (Or.inr h2)
    · rw [beq_eq_false_iff_ne.2 (fun c => h2 (blen_zero.1 c))]
      have hg : Nat.gcd N D ≠ 0 := fun c => h1 (Nat.eq_zero_of_gcd_eq_zero_left c)
      obtain ⟨g1, g2⟩ := hN.gcd hD hm hn
      obtain ⟨d1, d2, _⟩ := hN.div g2 hm (by omega) hg
      obtain ⟨e1, e2, _⟩ := hD.div g2 hn (by omega) hg
      unfold lowS
      rw [if_neg (fun c => c.elim h1 h2)]
      refine Ev.step (fun k => by simp only [ratio_low.j0]; rw [if_neg Bool.false_ne_true]) (Ev.bind g1 (Ev.bind d1 (Ev.bind e1 ?_)))
      exact Ev.now _
/-! ### the document's -/
theorem rtrim_ev (l : List Bool) (hl : l.length ≤ 1000000000) : Ev (fun k => flyballref03_trim.f k l) (bits (bv l)) := by
  have h := Len_spec l (by omega)
  have h1 := bits_bv_len l
  unfold flyballref03_trim.f
  refine Ev.bind h (Ev.congr (fun k => ?_) (Ev.now _))
  rw [if_pos (by omega), if_pos (by omega), Int.toNat_natCast, bits_take]
theorem rLow_ev (neg : Bool) (l1 l2 : List Bool) (h1 : l1.length ≤ 1000000000) (h2 : l2.length ≤ 1000000000) :
    Ev (fun k => flyballref03_Low.f k neg l1 l2) (RB (lowS neg (bv l1) (bv l2))) := by
  have b1 := bits_bv_len l1
  have b2 := bits_bv_len l2
  unfold flyballref03_Low.f
  refine Ev.bind (rtrim_ev l1 h1) (Ev.bind (rtrim_ev l2 h2) ?_)
  generalize bv l1 = N at *
  generalize bv l2 = D at *
  have zero : (N = 0 ∨ D = 0) → Ev (fun k => flyballref03_Low.j0 k neg (bits N) (bits D) true) (RB (lowS neg N D)) := fun h => by
    unfold lowS
    rw [if_pos h]
    have e : RB (false, 0, 1) = (false, [], [true]) := by unfold RB; rw [bits_zero, bits_one]
    rw [e]
    exact Ev.step (f := fun _ => some (false, [], [true])) (fun k => by simp only [flyballref03_Low.j0, if_true]; rfl) (Ev.now _)
  by_cases z1 : N = 0
  · exact Ev.congr (fun k => if_pos (blen_zero.2 z1)) (zero (Or.inl z1))
  · refine Ev.congr (fun k => if_neg (fun c => z1 (blen_zero.1 c))) ?_
    by_cases z2 : D = 0
    · rw [beq_iff_eq.2 (blen_zero.2 z2)]; exact zero (Or.inr z2)
    · rw [beq_eq_false_iff_ne.2 (fun c => z2 (blen_zero.1 c))]
      have hg : Nat.gcd N D ≠ 0 := fun c => z1 (Nat.eq_zero_of_gcd_eq_zero_left c)
      obtain ⟨g, g1, g2, g3⟩ := RGcd_spec (bits N) (bits D) (by omega) (by omega)
      rw [bv_bits, bv_bits] at g2
      obtain ⟨q, q1, q2, q3⟩ := RDiv_spec (bits N) g (by omega) (by omega) (by omega)
      obtain ⟨p, p1, p2, p3⟩ := RDiv_spec (bits D) g (by omega) (by omega) (by omega)
      rw [bv_bits, g2] at q1 q2 p1 p2
      have t1 := rtrim_ev q (by omega)
      have t2 := rtrim_ev p (by omega)
      rw [q2] at t1
      rw [p2] at t2
      unfold lowS
      rw [if_neg (fun c => c.elim z1 z2)]
      refine Ev.step (fun k => by simp only [flyballref03_Low.j0]; rw [if_neg Bool.false_ne_true]) (Ev.bind g1 (Ev.bind q1 (Ev.bind p1 (Ev.bind t1 (Ev.bind t2 ?_)))))
      exact Ev.now _
/-! ### an integer times a power of two -/
theorem Is.mk2 {A L m : Nat} (h : A < 2 ^ L) (hL : L ≤ 32 * m) : Is (words A) A m := ⟨WD_words A, wv_words A, words_len2 h hL⟩
theorem shl_lt {m e : Nat} (hm : m < 2 ^ 64) : m * 2 ^ e < 2 ^ (64 + e) := by
  rw [Nat.pow_add]; exact Nat.mul_lt_mul_of_pos_right hm (Nat.pow_pos (by decide))
theorem words_shl {m e : Nat} (hm : m < 2 ^ 64) (he : e ≤ 8192) : Is (words (m * 2 ^ e)) (m * 2 ^ e) 300 := Is.mk2 (shl_lt hm) (by omega)
theorem Shl_words {m : Nat} {e : Int} (hm : m < 2 ^ 64) (he : e ≤ 8192) : Ev (fun k => nat_Nat_Shl.f k (words m) e) (words (m * 2 ^ e.toNat), 0) := by
  have hl : (words m).length ≤ 2 := words_len2 hm (by omega)
  have h := NShl_spec (WD_words m) (by omega) e (by omega)
  rw [wv_words] at h
  have hb := bits_len 64 m hm
  by_cases h0 : m = 0
  · rw [if_pos h0] at h
    have e0 : (words (0 * 2 ^ e.toNat), (0 : Int)) = ([], 0) := by rw [Nat.zero_mul, words_zero]
    rw [h0, e0]
    rw [h0] at h
    exact h
  · rw [if_neg h0, if_neg (by omega)] at h
    exact h
theorem Dyad_ev (neg : Bool) (m e : Int) (m0 : 0 ≤ m) (m1 : m < 18446744073709551616) (e0 : -8192 ≤ e) (e1 : e ≤ 8192) :
    Ev (fun k => ratio_Dyad.f k neg m e) ((RW (lowS neg (m.toNat * 2 ^ e.toNat) (2 ^ (-e).toNat))).1, (RW (lowS neg (m.toNat * 2 ^ e.toNat) (2 ^ (-e).toNat))).2.1, (RW (lowS neg (m.toNat * 2 ^ e.toNat) (2 ^ (-e).toNat))).2.2, 0) := by
  have hm : m.toNat < 2 ^ 64 := by omega
  have w1 := words_shl (e := e.toNat) hm (by omega)
  have w2 := words_shl (m := 1) (e := (-e).toNat) (by decide) (by omega)
  have s1 := Shl_words (e := e) hm e1
  have s2 := Shl_words (m := 1) (e := -e) (by decide) (by omega)
  rw [Nat.one_mul] at w2 s2
  have ew : wrap64 (-e) = -e := w64 (by omega) (by omega)
  have hl := low_ev neg w1 w2 (by omega) (by omega)
  unfold ratio_Dyad.f
  refine Ev.congr (fun k => by rw [if_neg (by omega), decide_eq_false (by omega)]) ?_
  refine Ev.step (fun k => by simp only [ratio_Dyad.j0]; rw [if_neg Bool.false_ne_true, ew]) (Ev.bind (New_spec m m0 m1) (Ev.bind s1 (Ev.bind (New_spec 1 (by omega) (by omega)) (Ev.bind s2 (Ev.bind hl ?_)))))
  exact Ev.now _
theorem Dyad_far (neg : Bool) (m e : Int) (h : e < -8192 ∨ e > 8192) : Ev (fun k => ratio_Dyad.f k neg m e) (false, [], [], 31) := by
  have far : Ev (fun k => ratio_Dyad.j0 k neg m e true) (false, [], [], 31) := Ev.step (f := fun _ => some (false, [], [], 31)) (fun k => by simp only [ratio_Dyad.j0, if_true]) (Ev.now _)
  unfold ratio_Dyad.f
  by_cases c : e < -8192
  · exact Ev.congr (fun k => if_pos c) far
  · refine Ev.congr (fun k => if_neg c) ?_
    rw [decide_eq_true (h.resolve_left c)]; exact far
/-! ### how they compare -/
/-- A number with its sign. -/
def sv (q : Bool × Nat × Nat) : Int := if q.1 = true then -(q.2.1 : Int) else (q.2.1 : Int)
/-- A number in lowest terms is x over y. -/
structure Rep (q : Bool × Nat × Nat) (x : Int) (y : Nat) : Prop where
  den : 0 < q.2.2
  pos : 0 < y
  sgn : q.2.1 = 0 → q.1 = false
  val : sv q * (y : Int) = x * (q.2.2 : Int)
end Go.Proofs.Ytagbnkbhobmgjaa.Pure
end
section
/- Sums and differences of rational numbers, as the program and as the document make them: plain arithmetic. -/
set_option linter.unusedVariables false
set_option linter.unusedSimpArgs false
namespace Go.Proofs.Ytagbnkbhobmgjaa.Pure
open Go.RowKit Go.Proofs.Ytagbnkbhobmgjaa.Fn Go.Proofs.YtagbnkbhobmgjaaW.PrintWords Go.Proofs.YtagbnkbhobmgjaaW.PrintMore Go.Proofs.YtagbnkbhobmgjaaW.PrintLast
/-- How long a number's parts may be. -/
structure QL (q : Bool × Nat × Nat) (m : Nat) : Prop where
  num : q.2.1 < BW ^ m
  den : q.2.2 < BW ^ m
theorem lowS_QL {s : Bool} {N D m : Nat} (hN : N < BW ^ m) (hD : D < BW ^ m) (h : 1 ≤ m) : QL (lowS s N D) m := ⟨(lowS_lt hN hD h).1, (lowS_lt hN hD h).2⟩
/-! ### the document's -/
theorem blen_of {N m : Nat} (h : N < BW ^ m) : (bits N).length ≤ 32 * m := bits_len _ _ (by rw [← BWpow]; exact h)
theorem is_ev {q : Bool × Nat × Nat} {m : Nat} (hq : QL q m) (hm : m ≤ 100000) : Ev (fun k => flyballlaw03_is.f k (RW q).1 (RW q).2.1 (RW q).2.2 (RB q).1 (RB q).2.1 (RB q).2.2) true := by
  have n1 := words_len _ _ hq.num
  have n2 := words_len _ _ hq.den
  have b1 := blen_of hq.num
  have b2 := blen_of hq.den
  have i1 := Is_spec (words q.2.1) (bits q.2.1) (by omega) (by omega)
  have i2 := Is_spec (words q.2.2) (bits q.2.2) (by omega) (by omega)
  rw [bv_bits, decide_eq_true rfl] at i1 i2
  unfold flyballlaw03_is.f
  refine Ev.congr (fun k => if_pos (beq_self_eq_true _)) (Ev.bind i1 (Ev.congr (fun k => if_pos rfl) (Ev.bind i2 (Ev.now true))))
/-! ### small -/
end Go.Proofs.Ytagbnkbhobmgjaa.Pure
end
section
/- Numbers are made in lowest terms, as the document says: of two naturals, of an integer, of an integer times a power of two. -/
set_option linter.unusedVariables false
namespace Go.Proofs.Ytagbnkbhobmgjaa.Pure
open Go.RowKit Go.Proofs.Ytagbnkbhobmgjaa.Fn Go.Proofs.YtagbnkbhobmgjaaW.PrintWords Go.Proofs.YtagbnkbhobmgjaaW.PrintMore Go.Proofs.YtagbnkbhobmgjaaW.PrintLast
theorem i64_ofM {a : Int} (h : (Lit.int .i64 a).wf = true) : -9223372036854775808 ≤ a ∧ a ≤ 9223372036854775807 := by
  simp [Lit.wf, IntKind.min, IntKind.max, IntKind.bits, IntKind.signed] at h
  omega
theorem u64_ofM {a : Int} (h : (Lit.int .u64 a).wf = true) : 0 ≤ a ∧ a < 18446744073709551616 := by
  simp [Lit.wf, IntKind.min, IntKind.max, IntKind.bits, IntKind.signed] at h
  omega
theorem wrap_range (x : Int) : 0 ≤ IntKind.u64.wrap x ∧ IntKind.u64.wrap x < 18446744073709551616 := by
  unfold IntKind.wrap
  simp only [IntKind.bits, IntKind.signed]
  simp
  omega
theorem bv_shlM (n : Nat) (l : List Bool) : bv (List.replicate n false ++ l) = l.length * 0 + 2 ^ n * bv l := by rw [bv_append, bv_rep, List.length_replicate, Nat.mul_zero]
theorem j5_ev (neg : Bool) {m e : Int} (m0 : 0 ≤ m) (m1 : m < 18446744073709551616) (e0 : -200 ≤ e) (e1 : e ≤ 200) {u : List Bool} (ul : u.length = 64) (uv : bv u = 1) :
    Ev (fun k => flyballlaw03_RatioMakes.j5 k neg m e true true u true 0 false (RW (lowS neg (m.toNat * 2 ^ e.toNat) (2 ^ (-e).toNat))).1 (RW (lowS neg (m.toNat * 2 ^ e.toNat) (2 ^ (-e).toNat))).2.1 (RW (lowS neg (m.toNat * 2 ^ e.toNat) (2 ^ (-e).toNat))).2.2) true := by
  obtain ⟨t, h1, h2, h3⟩ := Of_spec m0 m1
  have s1 := RShl_spec t e.toNat (by omega)
  have s2 := RShl_spec u (-e).toNat (by omega)
  have x1 : mx e 0 = ((e.toNat : Nat) : Int) := by unfold mx; split <;> omega
  have x2 : mx (wrap64 (-e)) 0 = (((-e).toNat : Nat) : Int) := by rw [w64 (by omega) (by omega)]; unfold mx; split <;> omega
  have hl := rLow_ev neg (List.replicate e.toNat false ++ t) (List.replicate (-e).toNat false ++ u) (by rw [List.length_append, List.length_replicate]; omega) (by rw [List.length_append, List.length_replicate]; omega)
  rw [bv_shlM, bv_shlM, h3, uv, Nat.mul_zero, Nat.mul_zero, Nat.zero_add, Nat.zero_add, Nat.mul_one, Nat.mul_comm] at hl
  have hm : m.toNat < 2 ^ 64 := by omega
  have w1 := words_shl (e := e.toNat) hm (by omega)
  have w2 := words_shl (m := 1) (e := (-e).toNat) (by decide) (by omega)
  rw [Nat.one_mul] at w2
  have his := is_ev (lowS_QL (s := neg) w1.lt w2.lt (by decide)) (by decide)
  refine Ev.step (fun k => by simp only [flyballlaw03_RatioMakes.j5]; rw [if_neg Bool.false_ne_true, x1, x2]) (Ev.bind h1 (Ev.bind s1 (Ev.bind s2 (Ev.bind hl (Ev.bind his ?_)))))
  exact Ev.now true
theorem j4_ev (neg : Bool) {m e : Int} (m0 : 0 ≤ m) (m1 : m < 18446744073709551616) (e0 : -8192 ≤ e) (e1 : e ≤ 8192) {u : List Bool} (ul : u.length = 64) (uv : bv u = 1) :
    Ev (fun k => flyballlaw03_RatioMakes.j4 k neg m e true true u true 0 false (RW (lowS neg (m.toNat * 2 ^ e.toNat) (2 ^ (-e).toNat))).1 (RW (lowS neg (m.toNat * 2 ^ e.toNat) (2 ^ (-e).toNat))).2.1 (RW (lowS neg (m.toNat * 2 ^ e.toNat) (2 ^ (-e).toNat))).2.2) true := by
  have far : Ev (fun k => flyballlaw03_RatioMakes.j5 k neg m e true true u true 0 true (RW (lowS neg (m.toNat * 2 ^ e.toNat) (2 ^ (-e).toNat))).1 (RW (lowS neg (m.toNat * 2 ^ e.toNat) (2 ^ (-e).toNat))).2.1 (RW (lowS neg (m.toNat * 2 ^ e.toNat) (2 ^ (-e).toNat))).2.2) true :=
    Ev.step (f := fun _ => some true) (fun k => by simp only [flyballlaw03_RatioMakes.j5]; rfl) (Ev.now _)
  refine Ev.step (fun k => by simp only [flyballlaw03_RatioMakes.j4]; rw [if_neg Bool.false_ne_true]) ?_
  by_cases c1 : e < -200
  · exact Ev.congr (fun k => if_pos c1) far
  · refine Ev.congr (fun k => if_neg c1) ?_
    by_cases c2 : e > 200
    · rw [decide_eq_true c2]; exact far
    · rw [decide_eq_false c2]; exact j5_ev neg m0 m1 (by omega) (by omega) ul uv
theorem j3_ev (neg : Bool) {x m e v : Int} (m0 : 0 ≤ m) (m1 : m < 18446744073709551616) (hv : v = if x < 0 then IntKind.u64.wrap (-(IntKind.u64.wrap x)) else IntKind.u64.wrap x) (e0 : -9223372036854775808 ≤ e) (e1 : e ≤ 9223372036854775807) :
    Ev (fun k => flyballlaw03_RatioMakes.j3 k neg x m e true true v) true := by
  have v0 : 0 ≤ v ∧ v < 18446744073709551616 := by rw [hv]; split <;> exact wrap_range _
  obtain ⟨u, h1, h2, h3⟩ := Of_spec (v := 1) (by decide) (by decide)
  obtain ⟨t, g1, g2, g3⟩ := Of_spec v0.1 v0.2
  have iv : Is (words v.toNat) v.toNat 2 := Is.mk2 (L := 64) (by omega) (by decide)
  have i1 : Is (words 1) 1 2 := Is.mk2 (L := 64) (by decide) (by decide)
  have hI : Ev (fun k => ratio_Int.f k x) (RW (lowS (decide (x < 0)) v.toNat 1)) := by
    unfold ratio_Int.f
    by_cases c : x < 0
    · rw [if_pos c] at hv
      rw [decide_eq_true c, hv]
      rw [hv] at v0 iv
      exact Ev.congr (fun k => if_pos c) (Ev.bind (New_spec _ v0.1 v0.2) (Ev.bind (New_spec 1 (by decide) (by decide)) (Ev.bind (low_ev true iv i1 (by decide) (by decide)) (Ev.now _))))
    · rw [if_neg c] at hv
      rw [decide_eq_false c, hv]
      rw [hv] at v0 iv
      exact Ev.congr (fun k => if_neg c) (Ev.bind (New_spec _ v0.1 v0.2) (Ev.bind (New_spec 1 (by decide) (by decide)) (Ev.bind (low_ev false iv i1 (by decide) (by decide)) (Ev.now _))))
  have hl := rLow_ev (decide (x < 0)) t u (by omega) (by omega)
  rw [g3, h3] at hl
  have his := is_ev (lowS_QL (s := decide (x < 0)) iv.lt i1.lt (by decide)) (by decide)
  refine Ev.step (fun k => by simp only [flyballlaw03_RatioMakes.j3]; rfl) (Ev.bind h1 (Ev.bind hI (Ev.bind g1 (Ev.bind hl (Ev.bind his ?_)))))
  by_cases c : e < -8192 ∨ e > 8192
  · refine Ev.bind (Dyad_far neg m e c) ?_
    have far : Ev (fun k => flyballlaw03_RatioMakes.j4 k neg m e true true u true 31 true false [] []) true :=
      Ev.step (f := fun _ => some true) (fun k => by simp only [flyballlaw03_RatioMakes.j4]; rfl) (Ev.now _)
    by_cases c1 : e < -8192
    · exact Ev.congr (fun k => if_pos c1) far
    · refine Ev.congr (fun k => if_neg c1) ?_
      rw [decide_eq_true (c.resolve_left c1)]; exact far
  · refine Ev.bind (Dyad_ev neg m e m0 m1 (by omega) (by omega)) ?_
    refine Ev.congr (fun k => if_neg (by omega)) ?_
    rw [decide_eq_false (by omega)]
    exact j4_ev neg m0 m1 (by omega) (by omega) h2 h3
theorem j2_ev (neg : Bool) {x m e : Int} (m0 : 0 ≤ m) (m1 : m < 18446744073709551616) (e0 : -9223372036854775808 ≤ e) (e1 : e ≤ 9223372036854775807) :
    Ev (fun k => flyballlaw03_RatioMakes.j2 k neg x m e true true) true := by
  refine Ev.step (fun k => by simp only [flyballlaw03_RatioMakes.j2]; rfl) ?_
  by_cases c : x < 0
  · exact Ev.congr (fun k => if_pos c) (j3_ev neg m0 m1 (by rw [if_pos c]) e0 e1)
  · exact Ev.congr (fun k => if_neg c) (j3_ev neg m0 m1 (by rw [if_neg c]) e0 e1)
theorem j0_ev (neg : Bool) {l1 l2 : List Int} {x m e : Int} (h1 : WD l1) (h2 : WD l2) (n1 : l1.length ≤ 4) (n2 : l2.length ≤ 4) (m0 : 0 ≤ m) (m1 : m < 18446744073709551616) (e0 : -9223372036854775808 ≤ e) (e1 : e ≤ 9223372036854775807) :
    Ev (fun k => flyballlaw03_RatioMakes.j0 k neg l1 l2 x m e true false) true := by
  have i1 : Is l1 (wv l1) 4 := ⟨h1, rfl, n1⟩
  have i2 : Is l2 (wv l2) 4 := ⟨h2, rfl, n2⟩
  have hb := i2.blen (by decide)
  have bl1 := blen_of i1.lt
  have bl2 := blen_of i2.lt
  have hj2 := j2_ev neg (x := x) m0 m1 e0 e1
  refine Ev.step (fun k => by simp only [flyballlaw03_RatioMakes.j0]; rw [if_neg Bool.false_ne_true]) (Ev.bind (Bits_spec h1 (by omega)) (Ev.bind (Bits_spec h2 (by omega)) ?_))
  by_cases c : wv l2 = 0
  · have hn : Ev (fun k => ratio_New.f k neg l1 l2) (false, [], [], 30) := by
      unfold ratio_New.f
      exact Ev.bind hb (Ev.congr (fun k => if_pos (blen_zero.2 c)) (Ev.now _))
    have hz : decide (((bits (wv l2)).length : Int) > 0) = false := decide_eq_false (by have := blen_zero.2 c; omega)
    have hj1 : Ev (fun k => flyballlaw03_RatioMakes.j1 k neg x m e true (bits (wv l1)) (bits (wv l2)) 30 false false [] []) true :=
      Ev.step (fun k => by simp only [flyballlaw03_RatioMakes.j1]; rw [if_neg Bool.false_ne_true, if_neg (by decide)]) hj2
    refine Ev.bind hn ?_
    rw [hz]
    exact Ev.congr (fun k => if_neg (by decide)) (Ev.congr (fun k => if_neg (by decide)) (Ev.congr (fun k => if_pos rfl) hj1))
  · have hn : Ev (fun k => ratio_New.f k neg l1 l2) ((RW (lowS neg (wv l1) (wv l2))).1, (RW (lowS neg (wv l1) (wv l2))).2.1, (RW (lowS neg (wv l1) (wv l2))).2.2, 0) := by
      unfold ratio_New.f
      exact Ev.bind hb (Ev.congr (fun k => if_neg (fun e => c (blen_zero.1 e))) (Ev.bind (low_ev neg i1 i2 (by decide) (by decide)) (Ev.now _)))
    have hz : decide (((bits (wv l2)).length : Int) > 0) = true := decide_eq_true (by
      have : ((bits (wv l2)).length : Int) ≠ 0 := fun e => c (blen_zero.1 e)
      omega)
    have hl := rLow_ev neg (bits (wv l1)) (bits (wv l2)) (by omega) (by omega)
    rw [bv_bits, bv_bits] at hl
    have his := is_ev (lowS_QL (s := neg) i1.lt i2.lt (by decide)) (by decide)
    have hj1 : Ev (fun k => flyballlaw03_RatioMakes.j1 k neg x m e true (bits (wv l1)) (bits (wv l2)) 0 false (RW (lowS neg (wv l1) (wv l2))).1 (RW (lowS neg (wv l1) (wv l2))).2.1 (RW (lowS neg (wv l1) (wv l2))).2.2) true :=
      Ev.step (fun k => by simp only [flyballlaw03_RatioMakes.j1]; rw [if_neg Bool.false_ne_true]; rfl) (Ev.bind hl (Ev.bind his hj2))
    refine Ev.bind hn ?_
    rw [hz]
    exact Ev.congr (fun k => if_neg (show ¬ ((((0 : Int) == 0) != true) = true) by decide)) (Ev.congr (fun k => if_pos rfl) hj1)
theorem RatioMakes : flyballlaw03_RatioMakes.Pure := by
  intro neg l1 l2 x m e _ _ f1 _ _ f2 wx wm we
  have h1 : WD l1 := WD_of f1
  have h2 : WD l2 := WD_of f2
  obtain ⟨m0, m1⟩ := u64_ofM wm
  obtain ⟨e0, e1⟩ := i64_ofM we
  refine Ev.rounds ?_
  have far : Ev (fun k => flyballlaw03_RatioMakes.j0 k neg l1 l2 x m e true true) true :=
    Ev.step (f := fun _ => some true) (fun k => by simp only [flyballlaw03_RatioMakes.j0]; rfl) (Ev.now _)
  unfold flyballlaw03_RatioMakes.f
  refine Ev.bind works03_spec (Ev.congr (fun k => if_pos rfl) ?_)
  by_cases c1 : (l1.length : Int) > 4
  · exact Ev.congr (fun k => if_pos c1) far
  · refine Ev.congr (fun k => if_neg c1) ?_
    by_cases c2 : (l2.length : Int) > 4
    · rw [decide_eq_true c2]; exact far
    · rw [decide_eq_false c2]; exact j0_ev neg h1 h2 (by omega) (by omega) m0 m1 e0 e1
end Go.Proofs.Ytagbnkbhobmgjaa.Pure
end
