/- What is shifted, how long a number is, its bits, and whether it is a word of 64, are just what the document says. Part 15 of 18. -/
import Derived.Test.YtagbnkbhobmgjaaNatShiftsN
import Derived.Test.YtagbnkbhobmgjaaNatShiftsM
import Derived.Test.YtagbnkbhobmgjaaNatShiftsK
import Derived.Test.YtagbnkbhobmgjaaNatShiftsL
import Derived.Test.YtagbnkbhobmgjaaNatShiftsJ
import Derived.Test.YtagbnkbhobmgjaaNatShiftsE
section
/- What the guard of the chapter on numbers tells, and what a word's literal says. -/
set_option linter.unusedVariables false
namespace Go.Proofs.Ytagbnkbhobmgjaa.Pure
open Go.RowKit Go.Proofs.Ytagbnkbhobmgjaa.Fn Go.Proofs.YtagbnkbhobmgjaaW.PrintWords Go.Proofs.YtagbnkbhobmgjaaW.PrintMore Go.Proofs.YtagbnkbhobmgjaaW.PrintLast
theorem WD_of {a : List Int} (h : ∀ x ∈ a, (Lit.int .u32 x).wf = true) : WD a := by
  intro x hx
  have := h x hx
  simp [Lit.wf, IntKind.min, IntKind.max, IntKind.bits, IntKind.signed] at this
  omega
theorem rdL2_lt (a : List (List Int)) (i : Nat) (h : i < a.length) : rd_L2 a (i : Int) = a[i] := by
  unfold rd_L2; simp [List.getD_eq_getElem?_getD, h]
theorem small_ev (ls : List (List Int)) (hm : ls.length ≤ 1000000000) : ∀ (d i : Nat), i + d = ls.length → Ev (fun k => flyballlaw02_small.l0 k ls (i : Int)) ((ls.drop i).all fun l => decide (l.length ≤ 24))
  | 0, i, hd => by
    rw [List.drop_eq_nil_of_le (by omega)]
    refine Ev.step (f := fun _ => some true) (fun k => ?_) (Ev.now _)
    simp only [flyballlaw02_small.l0]
    rw [if_neg (by omega)]
  | d + 1, i, hd => by
    rw [List.drop_eq_getElem_cons (by omega : i < ls.length), List.all_cons, ← rdL2_lt ls i (by omega)]
    by_cases h : (rd_L2 ls (i : Int)).length ≤ 24
    · rw [decide_eq_true h, Bool.true_and]
      refine Ev.step (fun k => ?_) (small_ev ls hm d (i + 1) (by omega))
      simp only [flyballlaw02_small.l0]
      rw [if_pos (by omega), if_pos (by omega), if_neg (by omega), w64 (by omega) (by omega)]
      rfl
    · rw [decide_eq_false h, Bool.false_and]
      refine Ev.step (f := fun _ => some false) (fun k => ?_) (Ev.now _)
      simp only [flyballlaw02_small.l0]
      rw [if_pos (by omega), if_pos (by omega), if_pos (by omega)]
theorem small_spec (ls : List (List Int)) (hm : ls.length ≤ 1000000000) : Ev (fun k => flyballlaw02_small.f k ls) (ls.all fun l => decide (l.length ≤ 24)) := small_ev ls hm ls.length 0 (by omega)
theorem bits_wv_len {a : List Int} (ha : WD a) : (bits (wv a)).length ≤ 32 * a.length := by
  refine bits_len _ _ ?_
  have := wv_lt ha
  rw [Nat.pow_mul]; exact this
end Go.Proofs.Ytagbnkbhobmgjaa.Pure
end
section
/- What the quotients' parts are: shifts of words, one word's quotient, and the great quotient's step: plain arithmetic. -/
set_option linter.unusedVariables false
set_option linter.unusedSimpArgs false
namespace Go.Proofs.Ytagbnkbhobmgjaa.Pure
open Go.RowKit Go.Proofs.Ytagbnkbhobmgjaa.Fn Go.Proofs.YtagbnkbhobmgjaaW.PrintWords Go.Proofs.YtagbnkbhobmgjaaW.PrintMore Go.Proofs.YtagbnkbhobmgjaaW.PrintLast
theorem BWpow (n : Nat) : BW ^ n = 2 ^ (32 * n) := by rw [Nat.pow_mul]; rfl
theorem lt_2pow_mono {N L M : Nat} (h : N < 2 ^ L) (hL : L ≤ M) : N < 2 ^ M := Nat.lt_of_lt_of_le h (Nat.pow_le_pow_right (by decide) hL)
theorem words_len2 {N L m : Nat} (h : N < 2 ^ L) (hL : L ≤ 32 * m) : (words N).length ≤ m := words_len _ _ (by rw [BWpow]; exact lt_2pow_mono h hL)
/-- A word that is shifted to the left. -/
theorem shl_word {x : Int} (x0 : 0 ≤ x) (x1 : x < 4294967296) (s : Nat) (hs : s < 32) : shl .u64 x (s : Int) = ((x.toNat * 2 ^ s : Nat) : Int) := by
  unfold shl
  rw [Int.toNat_natCast, Nat.min_eq_left (by simp [IntKind.bits]; omega), u64w]
  have hp : 2 ^ s ≤ 2 ^ 31 := Nat.pow_le_pow_right (by decide) (by omega)
  have h1 : x.toNat * 2 ^ s ≤ 4294967295 * 2 ^ 31 := Nat.mul_le_mul (by omega) hp
  have e : x * 2 ^ s = ((x.toNat * 2 ^ s : Nat) : Int) := by
    rw [Int.natCast_mul, Int.toNat_of_nonneg x0]; simp
  rw [e]; omega
/-! ### shifted -/
/-! ### short -/
end Go.Proofs.Ytagbnkbhobmgjaa.Pure
end
section
/- What the great quotient's step is: an estimate that is put right, a product that is taken away, and what is given back: plain arithmetic. -/
set_option linter.unusedVariables false
set_option linter.unusedSimpArgs false
namespace Go.Proofs.Ytagbnkbhobmgjaa.Pure
open Go.RowKit Go.Proofs.Ytagbnkbhobmgjaa.Fn Go.Proofs.YtagbnkbhobmgjaaW.PrintWords Go.Proofs.YtagbnkbhobmgjaaW.PrintMore Go.Proofs.YtagbnkbhobmgjaaW.PrintLast
end Go.Proofs.Ytagbnkbhobmgjaa.Pure
end
section
/- Quotients, remainders, shifts to the right, and the greatest common divisor: plain arithmetic. -/
set_option linter.unusedVariables false
set_option linter.unusedSimpArgs false
namespace Go.Proofs.Ytagbnkbhobmgjaa.Pure
open Go.RowKit Go.Proofs.Ytagbnkbhobmgjaa.Fn Go.Proofs.YtagbnkbhobmgjaaW.PrintWords Go.Proofs.YtagbnkbhobmgjaaW.PrintMore Go.Proofs.YtagbnkbhobmgjaaW.PrintLast
theorem wv_split (a : List Int) (i : Nat) (h : i ≤ a.length) : wv a = wv (a.take i) + BW ^ i * wv (a.drop i) := by
  have : wv a = wv (a.take i ++ a.drop i) := by rw [List.take_append_drop]
  rw [this, wv_append, List.length_take, Nat.min_eq_left h]
theorem wv_drop_div {a : List Int} (ha : WD a) (i : Nat) : wv a / BW ^ i = wv (a.drop i) := by
  have hp : 0 < BW ^ i := Nat.pow_pos BW_pos
  by_cases h : i ≤ a.length
  · rw [wv_split a i h, Nat.add_mul_div_left _ _ hp, Nat.div_eq_of_lt (take_lt ha i), Nat.zero_add]
  · rw [List.drop_eq_nil_of_le (by omega), wv_nil]
    exact Nat.div_eq_of_lt (Nat.lt_of_lt_of_le (wv_lt ha) (Nat.pow_le_pow_right BW_pos (by omega)))
/-! ### Shr -/
theorem shr_word (x y T s : Nat) (hs : s < 32) (hx : x < BW) (hy : T % BW = y) :
    (x + BW * T) / 2 ^ s = (x + BW * y) / 2 ^ s % BW + BW * (T / 2 ^ s) := by
  have hp : 0 < 2 ^ s := Nat.pow_pos (by decide)
  have hd : 2 ^ s ∣ BW := ⟨2 ^ (32 - s), by rw [← Nat.pow_add, BW_eq]; have : s + (32 - s) = 32 := by omega
                                            rw [this]⟩
  have key : ∀ t : Nat, (x + BW * t) / 2 ^ s = (x + BW * (t % 2 ^ s)) / 2 ^ s + BW * (t / 2 ^ s) := fun t => by
    have h := Nat.mod_add_div t (2 ^ s)
    have e : x + BW * t = (x + BW * (t % 2 ^ s)) + 2 ^ s * (BW * (t / 2 ^ s)) := by
      have h2 : BW * t = BW * (t % 2 ^ s) + BW * (2 ^ s * (t / 2 ^ s)) := by rw [← Nat.mul_add, h]
      rw [h2, Nat.mul_left_comm BW]; omega
    rw [e, Nat.add_mul_div_left _ _ hp]
  have hlt : ∀ t : Nat, (x + BW * (t % 2 ^ s)) / 2 ^ s < BW := fun t => by
    rw [Nat.div_lt_iff_lt_mul hp]
    have := Nat.mod_lt t hp
    have : BW * (t % 2 ^ s) + BW ≤ BW * 2 ^ s := by rw [← Nat.mul_succ]; exact Nat.mul_le_mul_left _ this
    omega
  have hm : y % 2 ^ s = T % 2 ^ s := by rw [← hy, Nat.mod_mod_of_dvd _ hd]
  rw [key T, key y, hm, Nat.add_mul_mod_self_left, Nat.mod_eq_of_lt (hlt T)]
theorem mod_BW_drop {a : List Int} (ha : WD a) (i : Nat) : wv (a.drop i) % BW = (rd a (i : Int)).toNat := by
  rw [wv_drop a i, Nat.add_mul_mod_self_left]
  have := (WD_rd ha (i : Int)).2
  exact Nat.mod_eq_of_lt (by rw [BW_eq]; omega)
theorem mod_cast32 (N : Nat) : ((N : Nat) : Int) % 4294967296 = ((N % BW : Nat) : Int) := by rw [BW_eq]; omega
theorem or32b {z y : Int} (z0 : 0 ≤ z) (z1 : z < 4294967296) (y0 : 0 ≤ y) (y1 : y < 4294967296) :
    Go.bits .or .u64 z (IntKind.u64.wrap (y * 4294967296)) = ((z.toNat + BW * y.toNat : Nat) : Int) := by
  have h := bits_or_u64_nat z.toNat (y.toNat * 4294967296) (by omega) (by omega)
  have e2 : ((z.toNat : Nat) : Int) = z := by omega
  have e3 : ((y.toNat * 4294967296 : Nat) : Int) = y * 4294967296 := by omega
  rw [e2, e3] at h
  rw [u64i (by omega) (by omega), h]
  have h2 := Nat.two_pow_add_eq_or_of_lt (i := 32) (b := z.toNat) (by omega) y.toNat
  rw [show (2 : Nat) ^ 32 = 4294967296 from rfl] at h2
  rw [Nat.mul_comm y.toNat, Nat.or_comm, ← h2, BW_eq]; omega
theorem bitLenAux_bits : ∀ (f x : Nat), x < 2 ^ f → Lib.bitLenAux f x = (bits x).length
  | 0, x, h => by
    have : x = 0 := by simp at h; exact h
    subst this; rw [bits_zero]; rfl
  | f + 1, x, h => by
    by_cases h0 : x = 0
    · subst h0; rw [bits_zero]; rfl
    · rw [bits_pos h0, List.length_cons]
      have : x / 2 < 2 ^ f := by rw [Nat.div_lt_iff_lt_mul (by decide), ← Nat.pow_succ]; exact h
      simp only [Lib.bitLenAux]
      rw [if_neg h0, bitLenAux_bits f _ this]; omega
theorem bitLen_bits (x : Nat) (h : x < 2 ^ 64) : Lib.bitLen x = (bits x).length := bitLenAux_bits 64 x h
theorem bitLen_lims (x : Nat) (h : x < 2 ^ 64) : x < 2 ^ Lib.bitLen x ∧ (x ≠ 0 → 2 ^ (Lib.bitLen x - 1) ≤ x) := by
  rw [bitLen_bits x h]
  refine ⟨?_, fun h0 => bits_len_lt h0⟩
  have := bv_lt (bits x)
  rw [bv_bits] at this; exact this
set_option maxHeartbeats 2000000 in
theorem Shr_ev (x1 : Int) (s : Nat) (hs : s < 32) (e1 : Int.tmod x1 32 = (s : Int)) (x : List Int) (hx : WD x) (hm : x.length ≤ 2000000000) : ∀ (d i : Nat) (o : List Int), i + d = x.length → o.length = i → WD o →
    wv x / 2 ^ s = wv o + BW ^ i * (wv (x.drop i) / 2 ^ s) → Ev (fun k => nat_Nat_Shr.l0 k x1 x o (x.length : Int) (i : Int)) (words (wv x / 2 ^ s))
  | 0, i, o, hd, hl, hW, hv => by
    rw [List.drop_eq_nil_of_le (by omega), wv_nil, Nat.zero_div, Nat.mul_zero, Nat.add_zero] at hv
    rw [hv]
    refine Ev.step (f := fun k => (nat_trim.f k o).bind fun t => some t) (fun k => ?_) (Ev.bind (trim_spec hW (by omega)) (Ev.now _))
    simp only [nat_Nat_Shr.l0]
    rw [if_neg (by omega)]
  | d + 1, i, o, hd, hl, hW, hv => by
    have co : o.length < 35184372088832 := by omega
    obtain ⟨x0, x1'⟩ := WD_rd hx (i : Int)
    obtain ⟨y0, y1⟩ := WD_rd hx ((i + 1 : Nat) : Int)
    have hdr := wv_drop x i
    have hmod := mod_BW_drop hx (i + 1)
    have hsw := shr_word (rd x (i : Int)).toNat (rd x ((i + 1 : Nat) : Int)).toNat (wv (x.drop (i + 1))) s hs (by rw [BW_eq]; omega) hmod
    rw [← hdr] at hsw
    generalize hz : rd x (i : Int) = z at *
    generalize hy : rd x ((i + 1 : Nat) : Int) = y at *
    have hw : shr .u64 (Go.bits .or .u64 z (IntKind.u64.wrap (y * 4294967296))) (s : Int) % 4294967296 = (((z.toNat + BW * y.toNat) / 2 ^ s % BW : Nat) : Int) := by
      have h1 := or32b x0 x1' y0 y1
      rw [h1, shr_nat _ _ _ (by simp [IntKind.bits]; omega)]
      exact mod_cast32 _
    have hwl : (z.toNat + BW * y.toNat) / 2 ^ s % BW < BW := Nat.mod_lt _ BW_pos
    have ih := Shr_ev x1 s hs e1 x hx hm d (i + 1) (o ++ [(((z.toNat + BW * y.toNat) / 2 ^ s % BW : Nat) : Int)]) (by omega) (by simp [hl]) (WD_append hW (WD_mk (Int.natCast_nonneg _) (Int.ofNat_lt.2 (show _ < 4294967296 from hwl)) WD_nil)) (by
      rw [wv_snoc, Int.toNat_natCast, hl, Nat.pow_succ, Nat.mul_assoc, Nat.add_assoc, ← Nat.mul_add, ← hsw]
      exact hv)
    refine Ev.step (fun k => ?_) ih
    simp only [nat_Nat_Shr.l0]
    have ei : wrap64 ((i : Int) + 1) = ((i + 1 : Nat) : Int) := by rw [w64 (by omega) (by omega)]; rfl
    have a1 := at_spec hx (i : Int) (Int.natCast_nonneg _)
    have a2 := at_spec hx ((i + 1 : Nat) : Int) (Int.natCast_nonneg _)
    have ci : (i : Int) < (x.length : Int) := by omega
    have cs : (0 : Int) ≤ (s : Int) := Int.natCast_nonneg _
    rw [if_pos ci, ei]
    rw [a1]
    rw [a2]
    rw [hz, hy, e1]
    simp only [Option.bind_some]
    rw [if_pos cs, if_pos co, hw]
theorem Shr_spec {a : List Int} (ha : WD a) (hm : a.length ≤ 200000000) (n : Nat) (hn : n ≤ 9000000000000000000) : Ev (fun k => nat_Nat_Shr.f k a (n : Int)) (words (wv a / 2 ^ n)) := by
  unfold nat_Nat_Shr.f
  have e0 : mx (n : Int) 0 = (n : Int) := by unfold mx; split <;> omega
  have e1 : wrap64 ((n : Int) / 32) = ((n / 32 : Nat) : Int) := by rw [w64 (by omega) (by omega)]; omega
  rw [e0, e1, Int.toNat_natCast]
  have e3 : 2 ^ n = BW ^ (n / 32) * 2 ^ (n % 32) := by rw [BWpow, ← Nat.pow_add, Nat.div_add_mod]
  have hdiv : wv a / 2 ^ n = wv (a.drop (n / 32)) / 2 ^ (n % 32) := by rw [e3, ← Nat.div_div_eq_div_mul, wv_drop_div ha]
  by_cases h : a.length ≤ n / 32
  · have hz : wv a / 2 ^ n = 0 := by rw [hdiv, List.drop_eq_nil_of_le h, wv_nil, Nat.zero_div]
    rw [hz, words_zero]
    refine Ev.congr (fun k => if_pos (by omega)) (Ev.now _)
  · rw [hdiv]
    refine Ev.congr (fun k => ?_) ((Shr_ev (n : Int) (n % 32) (by omega) (by rw [Int.tmod_eq_emod_of_nonneg (by omega)]; omega) (a.drop (n / 32)) (WD_drop ha _) (by simp; omega) (a.drop (n / 32)).length 0 [] (by omega) rfl WD_nil (by simp [wv_nil])))
    rw [if_neg (by omega), if_pos (by omega), if_pos (by omega)]
    rfl
end Go.Proofs.Ytagbnkbhobmgjaa.Pure
end
section
/- How long a number is, its bits, whether it is a word of 64, and what it is, shifted to the left: plain arithmetic. -/
set_option linter.unusedVariables false
set_option linter.unusedSimpArgs false
namespace Go.Proofs.Ytagbnkbhobmgjaa.Pure
open Go.RowKit Go.Proofs.Ytagbnkbhobmgjaa.Fn Go.Proofs.YtagbnkbhobmgjaaW.PrintWords Go.Proofs.YtagbnkbhobmgjaaW.PrintMore Go.Proofs.YtagbnkbhobmgjaaW.PrintLast
/-! ### how long -/
theorem bits_len_is {n m : Nat} (h0 : 2 ^ m ≤ n) (h1 : n < 2 ^ (m + 1)) : (bits n).length = m + 1 := by
  have hp : 0 < 2 ^ m := Nat.pow_pos (by decide)
  have a := bits_len _ _ h1
  have b := bits_len_lt (n := n) (by omega)
  have c := bv_lt (bits n)
  rw [bv_bits] at c
  rcases Nat.lt_or_ge (bits n).length (m + 1) with h | h
  · have : 2 ^ (bits n).length ≤ 2 ^ m := Nat.pow_le_pow_right (by decide) (by omega)
    omega
  · omega
theorem bits_len_le_iff (n k : Nat) : (bits n).length ≤ k ↔ n < 2 ^ k := by
  constructor
  · intro h
    have c := bv_lt (bits n)
    rw [bv_bits] at c
    exact Nat.lt_of_lt_of_le c (Nat.pow_le_pow_right (by decide) h)
  · exact bits_len k n
theorem NLen_spec {a : List Int} (ha : WD a) (hm : a.length ≤ 200000000) : Ev (fun k => nat_Nat_Len.f k a) (((bits (wv a)).length : Nat) : Int) := by
  unfold nat_Nat_Len.f
  have hwl : (words (wv a)).length ≤ a.length := words_len _ _ (wv_lt ha)
  refine Ev.bind (trim_spec ha (by omega)) ?_
  by_cases h : wv a = 0
  · rw [h, words_zero, bits_zero]
    exact Ev.now _
  · have hne : words (wv a) ≠ [] := by intro e; have := words_ne h; rw [e] at this; simp at this
    have hn := nrm_words (wv a)
    have hW := WD_words (wv a)
    have hv := wv_words (wv a)
    generalize hN : wv a = N at *
    obtain ⟨xs, x, e⟩ : ∃ xs x, words N = xs ++ [x] := ⟨(words N).dropLast, (words N).getLast hne, (List.dropLast_concat_getLast hne).symm⟩
    rw [e] at hn hW hv hwl
    have hx := hW x (by simp)
    have hx0 : x ≠ 0 := hn x (by simp)
    have hl := wv_lt (WD_left hW)
    rw [wv_snoc] at hv
    obtain ⟨b1, b2⟩ := bitLen_lims x.toNat (by omega)
    have b2' := b2 (by omega)
    have b3 : Lib.bitLen x.toNat ≤ 32 := by rw [bitLen_bits _ (by omega)]; exact bits_len _ _ (by omega)
    have b4 : 0 < Lib.bitLen x.toNat := by
      rcases Nat.eq_zero_or_pos (Lib.bitLen x.toNat) with h0 | h0
      · rw [h0] at b1; omega
      · exact h0
    have hb : (bits N).length = 32 * xs.length + Lib.bitLen x.toNat := by
      have e1 : 32 * xs.length + Lib.bitLen x.toNat = (32 * xs.length + (Lib.bitLen x.toNat - 1)) + 1 := by omega
      rw [e1]
      refine bits_len_is ?_ ?_
      · rw [Nat.pow_add, Nat.pow_mul, ← hv]
        have : (2 ^ 32) ^ xs.length * 2 ^ (Lib.bitLen x.toNat - 1) ≤ BW ^ xs.length * x.toNat := Nat.mul_le_mul_left _ b2'
        omega
      · rw [← e1, Nat.pow_add, Nat.pow_mul, ← hv]
        have h2 : BW ^ xs.length * x.toNat + BW ^ xs.length ≤ (2 ^ 32) ^ xs.length * 2 ^ Lib.bitLen x.toNat := by
          rw [← Nat.mul_succ]; exact Nat.mul_le_mul_left _ b1
        omega
    simp only [List.length_append, List.length_singleton] at hwl
    have hw : wrap64 (((xs ++ [x]).length : Int) - 1) = (((xs ++ [x]).length : Int) - 1) := w64 (by simp <;> omega) (by simp <;> omega)
    rw [e, hb]
    refine Ev.congr (fun k => ?_) (Ev.now _)
    rw [if_neg (by simp; omega), hw, rd_last]
    rw [if_pos (by simp), if_pos (by omega)]
    unfold bits_Len32.f
    rw [if_pos hx.1, if_pos (by omega)]
    simp only [Option.bind_some]
    have e3 : (((xs ++ [x]).length : Int) - 1) = ((xs.length : Nat) : Int) := by simp
    rw [e3, w64 (x := 32 * ((xs.length : Nat) : Int)) (by omega) (by omega), w64 (by omega) (by omega)]
    rfl
/-! ### bits -/
theorem bv_drop_div (l : List Bool) (i : Nat) : bv l / 2 ^ i = bv (l.drop i) := by
  by_cases h : i ≤ l.length
  · have h2 : bv l = bv (l.take i) + 2 ^ i * bv (l.drop i) := by
      have : bv l = bv (l.take i ++ l.drop i) := by rw [List.take_append_drop]
      rw [this, bv_append, List.length_take, Nat.min_eq_left h]
    rw [h2, Nat.add_mul_div_left _ _ (Nat.pow_pos (by decide)), Nat.div_eq_of_lt (bv_take_lt l i), Nat.zero_add]
  · rw [List.drop_eq_nil_of_le (by omega), bv_nil]
    exact Nat.div_eq_of_lt (Nat.lt_of_lt_of_le (bv_lt l) (Nat.pow_le_pow_right (by decide) (by omega)))
theorem rb_bits (n i : Nat) : bn (rdOf false (bits n) (i : Int)) = n / 2 ^ i % 2 := by
  have h := bv_drop_div (bits n) i
  rw [bv_bits, bv_drop] at h
  rw [h]
  have := bn_le (rdOf false (bits n) (i : Int))
  omega
theorem wv_bit {a : List Int} (ha : WD a) (i : Nat) : wv a / 2 ^ i % 2 = (rd a ((i / 32 : Nat) : Int)).toNat / 2 ^ (i % 32) % 2 := by
  have e3 : 2 ^ i = BW ^ (i / 32) * 2 ^ (i % 32) := by rw [BWpow, ← Nat.pow_add, Nat.div_add_mod]
  rw [e3, ← Nat.div_div_eq_div_mul, wv_drop_div ha, wv_drop]
  have e4 : BW * wv (a.drop (i / 32 + 1)) = 2 ^ (i % 32) * (2 * (2 ^ (31 - i % 32) * wv (a.drop (i / 32 + 1)))) := by
    have : BW = 2 ^ (i % 32) * (2 * 2 ^ (31 - i % 32)) := by
      have : i % 32 + (1 + (31 - i % 32)) = 32 := by omega
      rw [show (2 : Nat) * 2 ^ (31 - i % 32) = 2 ^ (1 + (31 - i % 32)) from by rw [Nat.pow_add], ← Nat.pow_add, this]; rfl
    rw [this]; simp only [Nat.mul_assoc]
  rw [e4, Nat.add_mul_div_left _ _ (Nat.pow_pos (by decide)), Nat.add_mul_mod_self_left]
theorem NBit_spec {a : List Int} (ha : WD a) (hm : a.length ≤ 200000000) (i : Int) (h0 : -9223372036854775808 ≤ i) (h1 : i ≤ 9223372036854775807) :
    nat_Nat_Bit.f a i = some (if 0 ≤ i then ((wv a / 2 ^ i.toNat % 2 : Nat) : Int) else 0) := by
  unfold nat_Nat_Bit.f
  by_cases hi : i < 0
  · rw [if_pos hi, if_neg (by omega)]
  · rw [if_neg hi, w64 (x := 32 * (a.length : Int)) (by omega) (by omega)]
    have hi0 : 0 ≤ i := by omega
    rw [if_pos hi0]
    obtain ⟨n, rfl⟩ : ∃ n : Nat, i = (n : Int) := ⟨i.toNat, by omega⟩
    rw [Int.toNat_natCast]
    by_cases hl : (n : Int) ≥ 32 * (a.length : Int)
    · rw [if_pos hl]
      have : wv a < 2 ^ n := by
        refine Nat.lt_of_lt_of_le (wv_lt ha) ?_
        rw [BWpow]; exact Nat.pow_le_pow_right (by decide) (by omega)
      rw [Nat.div_eq_of_lt this]; rfl
    · rw [if_neg hl]
      have eq : wrap64 (Int.tdiv (n : Int) 32) = ((n / 32 : Nat) : Int) := by
        rw [Int.tdiv_eq_ediv_of_nonneg (by omega), w64 (by omega) (by omega)]; omega
      have em : Int.tmod (n : Int) 32 = ((n % 32 : Nat) : Int) := by
        rw [Int.tmod_eq_emod_of_nonneg (by omega)]; omega
      rw [eq, em, if_pos (by omega), if_pos (by omega), if_pos (by omega), wv_bit ha]
      obtain ⟨x0, x1⟩ := WD_rd ha ((n / 32 : Nat) : Int)
      generalize rd a ((n / 32 : Nat) : Int) = x at *
      have e : x = (x.toNat : Int) := by omega
      have hlt : x.toNat / 2 ^ (n % 32) < 4294967296 := Nat.lt_of_le_of_lt (Nat.div_le_self _ _) (by omega)
      have h := shr_nat .u32 x.toNat (n % 32) (by simp [IntKind.bits]; omega)
      rw [← e] at h
      rw [h]
      have h2 := bits_and_u32_nat (x.toNat / 2 ^ (n % 32)) 1 hlt (by omega)
      rw [Nat.and_one_is_mod] at h2
      have h3 : Go.bits BinOp.and IntKind.u32 ((x.toNat / 2 ^ (n % 32) : Nat) : Int) 1 = ((x.toNat / 2 ^ (n % 32) % 2 : Nat) : Int) := h2
      rw [h3, u64i (by omega) (by omega)]
/-! ### Uint -/
theorem wv_two {a : List Int} (h : wv a < 18446744073709551616) : wv a = (rd a 0).toNat + BW * (rd a 1).toNat := by
  have h1 := wv_drop a 0
  have h2 := wv_drop a 1
  have h3 := wv_drop a 2
  rw [List.drop_zero] at h1
  simp only [Nat.zero_add, Nat.reduceAdd] at h1 h2
  rw [h2] at h1
  have e0 : rd a ((0 : Nat) : Int) = rd a 0 := rfl
  have e1 : rd a ((1 : Nat) : Int) = rd a 1 := rfl
  rw [e0, e1] at h1
  rcases Nat.eq_zero_or_pos (wv (a.drop 2)) with h0 | h0
  · rw [h0] at h1; omega
  · rw [BW_eq] at h1; omega
theorem NUint_spec {a : List Int} (ha : WD a) (hm : a.length ≤ 200000000) : Ev (fun k => nat_Nat_Uint.f k a) (if wv a < 18446744073709551616 then ((wv a : Nat) : Int) else 0, decide (wv a < 18446744073709551616)) := by
  unfold nat_Nat_Uint.f
  refine Ev.bind (NLen_spec ha hm) ?_
  have hi := bits_len_le_iff (wv a) 64
  by_cases h : wv a < 18446744073709551616
  · have h64 := hi.2 h
    rw [if_pos h, decide_eq_true h]
    refine Ev.congr (fun k => ?_) (Ev.now _)
    rw [if_neg (by omega), at_spec ha 0 (by omega), at_spec ha 1 (by omega)]
    simp only [Option.bind_some]
    obtain ⟨x0, x1⟩ := WD_rd ha 0
    obtain ⟨y0, y1⟩ := WD_rd ha 1
    rw [or32b x0 x1 y0 y1, ← wv_two h]
  · have h64 : ¬ (bits (wv a)).length ≤ 64 := fun c => h (hi.1 c)
    rw [if_neg h, decide_eq_false h]
    refine Ev.congr (fun k => ?_) (Ev.now _)
    rw [if_pos (by omega)]
/-! ### Shl -/
theorem NShl_ev (m s : Nat) (hs : s < 32) (x1 : Int) (e1 : Int.tmod x1 32 = (s : Int)) (a : List Int) (ha : WD a) (hm : a.length ≤ 200000000) : ∀ (d i : Nat) (o : List Int) (c : Nat), i + d = a.length → o.length ≤ 100000 + i → WD o → c < 2 ^ s →
    Ev (fun k => nat_Nat_Shl.l0 k x1 o (c : Int) a (a.length : Int) (i : Int)) (words (wv o + BW ^ o.length * (c + 2 ^ s * wv (a.drop i))), 0)
  | 0, i, o, c, hd, hl, hW, hc => by
    have hp : 2 ^ s ≤ 2 ^ 31 := Nat.pow_le_pow_right (by decide) (by omega)
    have ec : (c : Int) % 4294967296 = (c : Int) := by omega
    rw [List.drop_eq_nil_of_le (by omega), wv_nil, Nat.mul_zero, Nat.add_zero]
    have ht := trim_spec (WD_append hW (WD_mk (x := (c : Int)) (by omega) (by omega) WD_nil)) (by simp; omega)
    rw [wv_snoc, Int.toNat_natCast] at ht
    refine Ev.step (f := fun k => (nat_trim.f k (o ++ [(c : Int)])).bind fun t => some (t, 0)) (fun k => ?_) (Ev.bind ht (Ev.now _))
    simp only [nat_Nat_Shl.l0]
    rw [if_neg (by omega), if_pos (by omega), ec]
  | d + 1, i, o, c, hd, hl, hW, hc => by
    have co : o.length < 35184372088832 := by omega
    obtain ⟨x0, x1'⟩ := WD_rd ha (i : Int)
    have hdr := wv_drop a i
    generalize hz : rd a (i : Int) = z at *
    have hp : 2 ^ s ≤ 2 ^ 31 := Nat.pow_le_pow_right (by decide) (by omega)
    have hzlt : z.toNat * 2 ^ s + c < 2 ^ 63 := by
      have : z.toNat * 2 ^ s + 2 ^ s ≤ 2 ^ 32 * 2 ^ s := by rw [← Nat.succ_mul]; exact Nat.mul_le_mul_right _ (by omega)
      have : (2 : Nat) ^ 32 * 2 ^ s ≤ 2 ^ 32 * 2 ^ 31 := Nat.mul_le_mul_left _ hp
      omega
    have hor : Go.bits .or .u64 (c : Int) (shl .u64 (IntKind.u64.wrap z) (s : Int)) = ((z.toNat * 2 ^ s + c : Nat) : Int) := by
      rw [u64i x0 (by omega), shl_word x0 x1' s hs, bits_or_u64_nat _ _ (by omega) (by omega), Nat.or_comm, Nat.mul_comm, ← Nat.two_pow_add_eq_or_of_lt hc]
    have hcl : (z.toNat * 2 ^ s + c) / BW < 2 ^ s := by
      rw [Nat.div_lt_iff_lt_mul BW_pos, Nat.mul_comm (2 ^ s) BW]
      have : z.toNat * 2 ^ s + 2 ^ s ≤ BW * 2 ^ s := by rw [← Nat.succ_mul]; exact Nat.mul_le_mul_right _ (by rw [BW_eq]; omega)
      omega
    have eq1 : ((z.toNat * 2 ^ s + c : Nat) : Int) % 4294967296 = (((z.toNat * 2 ^ s + c) % BW : Nat) : Int) := by rw [BW_eq]; omega
    have eq2 : ((z.toNat * 2 ^ s + c : Nat) : Int) / 4294967296 = (((z.toNat * 2 ^ s + c) / BW : Nat) : Int) := by rw [BW_eq]; omega
    have hwl : (z.toNat * 2 ^ s + c) % BW < 4294967296 := Nat.mod_lt _ BW_pos
    have ih := NShl_ev m s hs x1 e1 a ha hm d (i + 1) (o ++ [(((z.toNat * 2 ^ s + c) % BW : Nat) : Int)]) ((z.toNat * 2 ^ s + c) / BW) (by omega) (by simp; omega) (WD_append hW (WD_mk (Int.natCast_nonneg _) (Int.ofNat_lt.2 hwl) WD_nil)) hcl
    have e : wv (o ++ [(((z.toNat * 2 ^ s + c) % BW : Nat) : Int)]) + BW ^ (o ++ [(((z.toNat * 2 ^ s + c) % BW : Nat) : Int)]).length * ((z.toNat * 2 ^ s + c) / BW + 2 ^ s * wv (a.drop (i + 1))) = wv o + BW ^ o.length * (c + 2 ^ s * wv (a.drop i)) := by
      rw [hdr, wv_snoc, List.length_append, List.length_singleton, Nat.pow_succ, Nat.add_assoc, Nat.mul_assoc, ← Nat.mul_add, Int.toNat_natCast]
      congr 2
      have hq := Nat.mod_add_div (z.toNat * 2 ^ s + c) BW
      rw [Nat.mul_add, Nat.mul_add, Nat.mul_left_comm BW, Nat.mul_comm (2 ^ s) z.toNat]
      omega
    rw [e] at ih
    refine Ev.step (fun k => ?_) ih
    have cs : (0 : Int) ≤ (s : Int) := Int.natCast_nonneg _
    have ci : (i : Int) < (a.length : Int) := by omega
    have c0 : (0 : Int) ≤ (i : Int) := Int.natCast_nonneg _
    have ei : wrap64 ((i : Int) + 1) = ((i + 1 : Nat) : Int) := by rw [w64 (by omega) (by omega)]; rfl
    simp only [nat_Nat_Shl.l0]
    rw [if_pos ci, if_pos c0, if_pos ci, e1, if_pos cs, if_pos co, hz, hor, eq1, eq2, ei]
theorem mx0 (n : Int) : mx n 0 = ((n.toNat : Nat) : Int) := by unfold mx; split <;> omega
theorem NShl_spec {a : List Int} (ha : WD a) (hm : a.length ≤ 100000000) (n : Int) (h1 : n ≤ 9223372036854775807) :
    Ev (fun k => nat_Nat_Shl.f k a n) (if wv a = 0 then ([], 0) else if n.toNat + (bits (wv a)).length > 65536 then ([], 20) else (words (wv a * 2 ^ n.toNat), 0)) := by
  unfold nat_Nat_Shl.f
  refine Ev.congr (fun k => if_pos (by omega)) ?_
  unfold nat_Nat_Shl.f0
  have hb : (bits (wv a)).length ≤ 32 * a.length := by
    refine bits_len _ _ ?_
    rw [Nat.pow_mul]; exact wv_lt ha
  refine Ev.bind (NLen_spec ha (by omega)) ?_
  rw [mx0]
  by_cases h : wv a = 0
  · rw [if_pos h, h, bits_zero]; exact Ev.now _
  · have hbp : (bits (wv a)).length ≠ 0 := by
      intro e
      have := bits_len_le_iff (wv a) 0
      omega
    rw [if_neg h]
    refine Ev.congr (fun k => if_neg (by omega)) ?_
    rw [w64 (x := 65536 - (((bits (wv a)).length : Nat) : Int)) (by omega) (by omega)]
    generalize n.toNat = m at *
    by_cases hg : m + (bits (wv a)).length > 65536
    · rw [if_pos hg]
      exact Ev.congr (fun k => if_pos (by omega)) (Ev.now _)
    · rw [if_neg hg]
      refine Ev.congr (fun k => if_neg (by omega)) ?_
      have eq : wrap64 ((m : Int) / 32) = ((m / 32 : Nat) : Int) := by rw [w64 (by omega) (by omega)]; omega
      rw [eq, Int.toNat_natCast]
      refine Ev.congr (fun k => if_pos (by omega)) (Ev.congr (fun k => if_pos (by omega)) ?_)
      have := NShl_ev m (m % 32) (by omega) (m : Int) (by rw [Int.tmod_eq_emod_of_nonneg (by omega)]; omega) a ha (by omega) a.length 0 (List.replicate (m / 32) 0) 0 (by omega) (by simp; omega) (WD_rep _) (Nat.pow_pos (by decide))
      rw [wv_rep, List.length_replicate, List.drop_zero, Nat.zero_add, Nat.zero_add, ← Nat.mul_assoc, BWpow, ← Nat.pow_add, Nat.div_add_mod, Nat.mul_comm] at this
      exact this
/-! ### a word of a row of bits -/
theorem RWords_ev (l : List Bool) (hl : l.length ≤ 1000000000000) : ∀ (d i : Nat), i + d = min l.length 64 → Ev (fun k => flyballref01_Words.l0 k l 1 [((bv (l.take i) : Nat) : Int)] (i : Int)) [((bv (l.take 64) : Nat) : Int)]
  | 0, i, hd => by
    have e : l.take i = l.take 64 := by
      by_cases h : l.length ≤ 64
      · rw [List.take_of_length_le (by omega), List.take_of_length_le h]
      · have : i = 64 := by omega
        rw [this]
    rw [e]
    refine Ev.step (f := fun k => flyballref01_Words.j1 k l 1 [((bv (l.take 64) : Nat) : Int)] (i : Int) false) (fun k => ?_) (Ev.step (f := fun _ => some [((bv (l.take 64) : Nat) : Int)]) (fun k => ?_) (Ev.now _))
    · simp only [flyballref01_Words.l0]
      by_cases h : (i : Int) < (l.length : Int)
      · rw [if_pos h, w64 (by omega) (by omega), decide_eq_false (by omega)]
      · rw [if_neg h]
    · simp only [flyballref01_Words.j1]
      rfl
  | d + 1, i, hd => by
    have ih := RWords_ev l hl d (i + 1) (by omega)
    have hs := bv_take_succ l i
    have hlt := bv_take_lt l i
    have eq : wrap64 (Int.tdiv (i : Int) 64) = 0 := by
      rw [Int.tdiv_eq_ediv_of_nonneg (by omega), w64 (by omega) (by omega)]; omega
    have em : Int.tmod (i : Int) 64 = (i : Int) := by
      rw [Int.tmod_eq_emod_of_nonneg (by omega)]; omega
    refine Ev.step (f := fun k => flyballref01_Words.j1 k l 1 [((bv (l.take i) : Nat) : Int)] (i : Int) true) (fun k => ?_) (Ev.step (fun k => ?_) ih)
    · simp only [flyballref01_Words.l0]
      rw [if_pos (by omega), w64 (by omega) (by omega), decide_eq_true (by omega)]
    · simp only [flyballref01_Words.j1]
      rw [if_pos trivial, if_pos (by omega), if_pos (by omega), w64 (x := (i : Int) + 1) (by omega) (by omega)]
      cases hr : rdOf false l (i : Int) with
      | false =>
        rw [hr] at hs
        rw [if_neg (by simp), hs, bn_false, Nat.mul_zero, Nat.add_zero]
        rfl
      | true =>
        rw [hr] at hs
        have hor := or_u64 (x := ((bv (l.take i) : Nat) : Int)) i (by omega) (by omega) (by rw [Int.toNat_natCast]; exact hlt)
        rw [if_pos rfl, eq, em, if_pos (by omega), if_pos (by simp), if_pos (by rw [u64i (by omega) (by omega)]; omega)]
        have er : rd [((bv (l.take i) : Nat) : Int)] 0 = ((bv (l.take i) : Nat) : Int) := rfl
        rw [er, hor, hs, bn_true, Nat.mul_one]
        rfl
theorem RWords_spec (l : List Bool) (hl : l.length ≤ 1000000000000) : Ev (fun k => flyballref01_Words.f k l 1) [((bv (l.take 64) : Nat) : Int)] := by
  have := RWords_ev l hl (min l.length 64) 0 (by omega)
  unfold flyballref01_Words.f
  exact Ev.congr (fun k => by rw [if_pos (by omega), if_pos (by decide)]; rfl) this
theorem bv_take64 {l : List Bool} (h : bv l < 2 ^ 64) : bv (l.take 64) = bv l := by
  have h2 : bv l = bv (l.take 64) + 2 ^ (l.take 64).length * bv (l.drop 64) := by rw [← bv_append, List.take_append_drop]
  have h3 := bv_drop_div l 64
  rw [Nat.div_eq_of_lt h] at h3
  rw [← h3] at h2; omega
end Go.Proofs.Ytagbnkbhobmgjaa.Pure
end
section
/- Shifts, lengths and bits of numbers answer as the document says. -/
set_option linter.unusedVariables false
set_option linter.unusedSimpArgs false
namespace Go.Proofs.Ytagbnkbhobmgjaa.Pure
open Go.RowKit Go.Proofs.Ytagbnkbhobmgjaa.Fn Go.Proofs.YtagbnkbhobmgjaaW.PrintWords Go.Proofs.YtagbnkbhobmgjaaW.PrintMore Go.Proofs.YtagbnkbhobmgjaaW.PrintLast
theorem i64_of {a : Int} (h : (Lit.int .i64 a).wf = true) : -9223372036854775808 ≤ a ∧ a ≤ 9223372036854775807 := by
  simp [Lit.wf, IntKind.min, IntKind.max, IntKind.bits, IntKind.signed] at h
  omega
theorem NatShifts_j3 {a : List Int} (hWa : WD a) (la : a.length ≤ 24) (n : Int) (h1 : n ≤ 9223372036854775807) (q : List Int) (e : Int)
    (hq : (q, e) = (if wv a = 0 then (([] : List Int), (0 : Int)) else if n.toNat + (bits (wv a)).length > 65536 then ([], 20) else (words (wv a * 2 ^ n.toNat), 0))) (t : Bool)
    (ht : t = (decide (0 < (bits (wv a)).length) && decide (n.toNat + (bits (wv a)).length > 65536))) :
    Ev (fun k => flyballlaw02_NatShifts.j3 k n true (bits (wv a)) q e t) true := by
  have n1 := bits_wv_len hWa
  have hz := bits_len_le_iff (wv a) 0
  subst ht
  by_cases h : wv a = 0
  · rw [if_pos h] at hq
    injection hq with e1 e2
    subst e1 e2
    rw [h, bits_zero]
    refine Ev.step (f := fun _ => some true) (fun k => ?_) (Ev.now _)
    simp only [flyballlaw02_NatShifts.j3]
    rfl
  · rw [if_neg h] at hq
    have hl : 0 < (bits (wv a)).length := by omega
    rw [decide_eq_true hl, Bool.true_and]
    by_cases hg : n.toNat + (bits (wv a)).length > 65536
    · rw [if_pos hg] at hq
      injection hq with e1 e2
      subst e1 e2
      rw [decide_eq_true hg]
      refine Ev.step (f := fun _ => some true) (fun k => ?_) (Ev.now _)
      simp only [flyballlaw02_NatShifts.j3]
      rfl
    · rw [if_neg hg] at hq
      injection hq with e1 e2
      subst e1 e2
      rw [decide_eq_false hg]
      have hs := RShl_spec (bits (wv a)) n.toNat (by omega)
      have hwl : (words (wv a * 2 ^ n.toNat)).length ≤ 100000 := by
        have c := bv_lt (bits (wv a))
        rw [bv_bits] at c
        have c2 : wv a * 2 ^ n.toNat < 2 ^ (bits (wv a)).length * 2 ^ n.toNat := Nat.mul_lt_mul_of_pos_right c (Nat.pow_pos (by decide))
        rw [← Nat.pow_add] at c2
        exact words_len2 c2 (by omega)
      have hi := Is_spec (words (wv a * 2 ^ n.toNat)) (List.replicate n.toNat false ++ bits (wv a)) (by omega) (by simp; omega)
      rw [bv_shl, bv_bits, decide_eq_true rfl] at hi
      refine Ev.step (f := fun k => (flyballref01_Shl.f k (bits (wv a)) ((n.toNat : Nat) : Int)).bind fun t => (flyballref02_Is.f k (words (wv a * 2 ^ n.toNat)) t).bind fun u => if u = true then some true else some false) (fun k => ?_) (Ev.bind hs (Ev.bind hi (Ev.now _)))
      simp only [flyballlaw02_NatShifts.j3]
      rw [mx0, if_neg (by simp), if_neg (by omega)]
      rfl
theorem NatShifts_j2 {a : List Int} (hWa : WD a) (la : a.length ≤ 24) (n : Int) (h1 : n ≤ 9223372036854775807) :
    Ev (fun k => flyballlaw02_NatShifts.j2 k a n true (bits (wv a)) false) true := by
  have n1 := bits_wv_len hWa
  have hs := NShl_spec hWa (by omega) n h1
  obtain ⟨⟨q, e⟩, hq⟩ : ∃ p : List Int × Int, p = (if wv a = 0 then (([] : List Int), (0 : Int)) else if n.toNat + (bits (wv a)).length > 65536 then ([], 20) else (words (wv a * 2 ^ n.toNat), 0)) := ⟨_, rfl⟩
  rw [← hq] at hs
  have hj := NatShifts_j3 hWa la n h1 q e hq _ rfl
  refine Ev.step (f := fun k => (nat_Nat_Shl.f k a n).bind fun bt129 => flyballlaw02_NatShifts.j3 k n true (bits (wv a)) bt129.1 bt129.2 (decide (0 < (bits (wv a)).length) && decide (n.toNat + (bits (wv a)).length > 65536))) (fun k => ?_) (Ev.bind hs hj)
  simp only [flyballlaw02_NatShifts.j2]
  rw [if_neg (by simp)]
  congr 1
  funext bt
  by_cases hl : 0 < (bits (wv a)).length
  · rw [if_pos (by omega), decide_eq_true hl, Bool.true_and, w64 (by omega) (by omega)]
    congr 1
    rw [decide_eq_decide]
    omega
  · rw [if_neg (by omega), decide_eq_false hl, Bool.false_and]
theorem NatShifts_j1 {a : List Int} (hWa : WD a) (la : a.length ≤ 24) (n i : Int) (h1 : n ≤ 9223372036854775807) (i0 : -9223372036854775808 ≤ i) (i1 : i ≤ 9223372036854775807) :
    Ev (fun k => flyballlaw02_NatShifts.j1 k a n i true (bits (wv a)) true (if 0 ≤ i then ((wv a / 2 ^ i.toNat % 2 : Nat) : Int) else 0)) true := by
  have n1 := bits_wv_len hWa
  have hw := RWords_spec (bits (wv a)) (by omega)
  have hu := NUint_spec hWa (by omega)
  have hn := NLen_spec hWa (by omega)
  have hb := NBit_spec hWa (by omega) i i0 i1
  have hj := NatShifts_j2 hWa la n h1
  have h64 := bits_len_le_iff (wv a) 64
  refine Ev.step (fun k => by simp only [flyballlaw02_NatShifts.j1]; rfl) (Ev.bind hw (Ev.bind hu ?_))
  dsimp only
  have ed : decide ((((bits (wv a)).length : Nat) : Int) ≤ 64) = decide (wv a < 18446744073709551616) := by
    rw [decide_eq_decide]
    exact ⟨fun h => h64.1 (by omega), fun h => by have := h64.2 h; omega⟩
  rw [ed]
  refine Ev.congr (fun k => if_neg (by simp)) ?_
  by_cases h : wv a < 18446744073709551616
  · rw [decide_eq_true h, if_pos h]
    refine Ev.congr (fun k => if_pos rfl) (Ev.congr (fun k => if_pos (by simp)) ?_)
    have e : rd [((bv ((bits (wv a)).take 64) : Nat) : Int)] 0 = ((wv a : Nat) : Int) := by
      rw [bv_take64 (by rw [bv_bits]; exact h), bv_bits]; rfl
    rw [e]
    refine Ev.congr (fun k => if_pos rfl) ?_
    refine Ev.congr (fun k => by rw [hb, Option.bind_some, if_pos rfl]) ?_
    refine Ev.bind hn (Ev.congr (fun k => if_pos rfl) ?_)
    exact hj
  · rw [decide_eq_false h, if_neg h]
    refine Ev.congr (fun k => if_neg (by simp)) (Ev.congr (fun k => if_pos rfl) ?_)
    refine Ev.congr (fun k => by rw [hb, Option.bind_some, if_pos rfl]) ?_
    refine Ev.bind hn (Ev.congr (fun k => if_pos rfl) ?_)
    exact hj
theorem NatShifts_j0 {a : List Int} (hWa : WD a) (la : a.length ≤ 24) (n i : Int) (h1 : n ≤ 9223372036854775807) (i0 : -9223372036854775808 ≤ i) (i1 : i ≤ 9223372036854775807) (t : Bool)
    (ht : t = (decide (0 ≤ i) && rdOf false (bits (wv a)) i)) :
    Ev (fun k => flyballlaw02_NatShifts.j0 k a n i true (bits (wv a)) true 0 t) true := by
  refine Ev.step (fun k => ?_) (NatShifts_j1 hWa la n i h1 i0 i1)
  simp only [flyballlaw02_NatShifts.j0]
  by_cases h : 0 ≤ i
  · rw [decide_eq_true h, Bool.true_and] at ht
    have e : i = ((i.toNat : Nat) : Int) := by omega
    have hr := rb_bits (wv a) i.toNat
    rw [← e, ← ht] at hr
    rw [if_pos h, ← hr]
    cases t <;> rfl
  · rw [decide_eq_false h, Bool.false_and] at ht
    rw [ht, if_neg h]
    rfl
theorem Shr_int {a : List Int} (ha : WD a) (hm : a.length ≤ 200000000) (n : Int) (hn : n ≤ 9000000000000000000 ∨ 32 * a.length ≤ n.toNat) (h1 : n ≤ 9223372036854775807) : Ev (fun k => nat_Nat_Shr.f k a n) (words (wv a / 2 ^ n.toNat)) := by
  have e : ∀ k, nat_Nat_Shr.f k a n = nat_Nat_Shr.f k a ((n.toNat : Nat) : Int) := fun k => by
    have : mx (mx n 0) 0 = mx n 0 := by rw [mx0, mx0, Int.toNat_natCast]
    rw [← mx0 n]
    unfold nat_Nat_Shr.f
    rw [this]
  refine Ev.congr e ?_
  by_cases h : n ≤ 9000000000000000000
  · exact Shr_spec ha hm n.toNat (by omega)
  · have hl : 32 * a.length ≤ n.toNat := hn.resolve_left h
    have hlt : wv a < 2 ^ n.toNat := by
      refine Nat.lt_of_lt_of_le (wv_lt ha) ?_
      rw [BWpow]; exact Nat.pow_le_pow_right (by decide) hl
    rw [Nat.div_eq_of_lt hlt, words_zero]
    unfold nat_Nat_Shr.f
    rw [mx0, Int.toNat_natCast, w64 (x := ((n.toNat : Nat) : Int) / 32) (by omega) (by omega)]
    exact Ev.congr (fun k => if_pos (by omega)) (Ev.now _)
theorem NatShifts : flyballlaw02_NatShifts.Pure := by
  intro a n i la _ ha hn hi
  have hWa := WD_of ha
  obtain ⟨h0, h1⟩ := i64_of hn
  obtain ⟨i0, i1⟩ := i64_of hi
  refine Ev.rounds ?_
  unfold flyballlaw02_NatShifts.f
  refine Ev.bind works02_spec (Ev.congr (fun k => if_pos rfl) (Ev.bind (small_spec [a] (by simp)) ?_))
  by_cases hsm' : ¬ ([a].all fun l => decide (l.length ≤ 24)) = true
  · simp only [if_neg hsm']; exact Ev.now _
  have hsm := Decidable.not_not.1 hsm'
  simp only [if_pos hsm]
  have l1 : a.length ≤ 24 := by simpa using hsm
  have n1 := bits_wv_len hWa
  refine Ev.bind (Bits_spec hWa (by omega)) (Ev.bind (Shr_int hWa (by omega) n (by omega) h1) ?_)
  have em : mn (mx n 0) (((bits (wv a)).length : Nat) : Int) = ((min n.toNat (bits (wv a)).length : Nat) : Int) := by
    rw [mx0]; unfold mn; split <;> omega
  rw [em, Int.toNat_natCast]
  refine Ev.congr (fun k => if_pos (by omega)) (Ev.congr (fun k => if_pos (by omega)) ?_)
  have hdv : bv ((bits (wv a)).drop (min n.toNat (bits (wv a)).length)) = wv a / 2 ^ n.toNat := by
    rw [← bv_drop_div, bv_bits]
    by_cases h : n.toNat ≤ (bits (wv a)).length
    · rw [Nat.min_eq_left h]
    · rw [Nat.min_eq_right (by omega)]
      have c := bv_lt (bits (wv a))
      rw [bv_bits] at c
      rw [Nat.div_eq_of_lt c, Nat.div_eq_of_lt (Nat.lt_of_lt_of_le c (Nat.pow_le_pow_right (by decide) (by omega)))]
  have hwl : (words (wv a / 2 ^ n.toNat)).length ≤ a.length := words_len _ _ (Nat.lt_of_le_of_lt (Nat.div_le_self _ _) (wv_lt hWa))
  have his := Is_spec (words (wv a / 2 ^ n.toNat)) ((bits (wv a)).drop (min n.toNat (bits (wv a)).length)) (by omega) (by simp; omega)
  rw [hdv, decide_eq_true rfl] at his
  refine Ev.bind his ?_
  have hj := fun t ht => NatShifts_j0 hWa l1 n i h1 i0 i1 t ht
  by_cases c1 : i ≥ 0
  · by_cases c2 : i < (((bits (wv a)).length : Nat) : Int)
    · refine Ev.congr (fun k => by rw [if_pos c1, if_pos c2, if_pos c1]) (hj _ ?_)
      rw [decide_eq_true c1, Bool.true_and]
    · refine Ev.congr (fun k => by rw [if_pos c1, if_neg c2]) (hj _ ?_)
      have e : i = ((i.toNat : Nat) : Int) := by omega
      rw [decide_eq_true c1, Bool.true_and, e, rb_ge _ _ (by omega)]
  · refine Ev.congr (fun k => by rw [if_neg c1]) (hj _ ?_)
    rw [decide_eq_false c1, Bool.false_and]
end Go.Proofs.Ytagbnkbhobmgjaa.Pure
end
