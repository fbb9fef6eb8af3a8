/- Rational numbers are made in lowest terms, as the document says: of two naturals, of an integer, of an integer times a power of two. Part 15 of 19. -/
import Derived.Test.YtagbnkbhobmgjaaRatioMakesM
import Derived.Test.YtagbnkbhobmgjaaRatioMakesE
import Derived.Laws.Bits64b
section
/- What the document's functions of bits tell: plain arithmetic. -/
set_option linter.unusedVariables false
set_option linter.unusedSimpArgs false
namespace Go.Proofs.Ytagbnkbhobmgjaa.Pure
open Go.RowKit Go.Proofs.Ytagbnkbhobmgjaa.Fn Go.Proofs.YtagbnkbhobmgjaaW.PrintWords Go.Proofs.YtagbnkbhobmgjaaW.PrintMore Go.Proofs.YtagbnkbhobmgjaaW.PrintLast
/-! ### bits of words -/
theorem bits_and_u32_nat (a b : Nat) (ha : a < 4294967296) (hb : b < 4294967296) :
    Go.bits .and .u32 (a : Int) (b : Int) = ((a &&& b : Nat) : Int) := by
  have hx : a &&& b < 2 ^ 32 := Nat.and_lt_two_pow _ (by omega)
  have h1 : (BitVec.ofInt 32 (a : Int)).toNat = a := by
    rw [BitVec.ofInt_natCast, BitVec.toNat_ofNat]; exact Nat.mod_eq_of_lt (by omega)
  have h2 : (BitVec.ofInt 32 (b : Int)).toNat = b := by
    rw [BitVec.ofInt_natCast, BitVec.toNat_ofNat]; exact Nat.mod_eq_of_lt (by omega)
  show IntKind.u32.wrap ((BitVec.ofInt 32 (a : Int) &&& BitVec.ofInt 32 (b : Int)).toNat : Int) = _
  rw [BitVec.toNat_and, h1, h2, u32w]
  omega
theorem bits_or_u32_nat (a b : Nat) (ha : a < 4294967296) (hb : b < 4294967296) :
    Go.bits .or .u32 (a : Int) (b : Int) = ((a ||| b : Nat) : Int) := by
  have hx : a ||| b < 2 ^ 32 := Nat.or_lt_two_pow (by omega) (by omega)
  have h1 : (BitVec.ofInt 32 (a : Int)).toNat = a := by
    rw [BitVec.ofInt_natCast, BitVec.toNat_ofNat]; exact Nat.mod_eq_of_lt (by omega)
  have h2 : (BitVec.ofInt 32 (b : Int)).toNat = b := by
    rw [BitVec.ofInt_natCast, BitVec.toNat_ofNat]; exact Nat.mod_eq_of_lt (by omega)
  show IntKind.u32.wrap ((BitVec.ofInt 32 (a : Int) ||| BitVec.ofInt 32 (b : Int)).toNat : Int) = _
  rw [BitVec.toNat_or, h1, h2, u32w]
  omega
theorem shr_nat (k : IntKind) (x j : Nat) (hj : j ≤ k.bits) : shr k (x : Int) (j : Int) = ((x / 2 ^ j : Nat) : Int) := by
  unfold shr
  rw [Int.toNat_natCast, Nat.min_eq_left hj]
  simp
theorem bit_u32 {x : Int} (x0 : 0 ≤ x) (x1 : x < 4294967296) (j : Nat) (hj : j < 32) :
    (Go.bits .and .u32 (shr .u32 x (IntKind.u64.wrap (j : Int))) 1 == 1) = (x.toNat / 2 ^ j % 2 == 1) := by
  have e : x = (x.toNat : Int) := by omega
  have hlt : x.toNat / 2 ^ j < 4294967296 := Nat.lt_of_le_of_lt (Nat.div_le_self _ _) (by omega)
  rw [u64i (by omega) (by omega)]
  have h := shr_nat .u32 x.toNat j (by simp [IntKind.bits]; omega)
  rw [← e] at h
  rw [h]
  have h2 := bits_and_u32_nat (x.toNat / 2 ^ j) 1 hlt (by omega)
  rw [Nat.and_one_is_mod] at h2
  have h3 : Go.bits BinOp.and IntKind.u32 ((x.toNat / 2 ^ j : Nat) : Int) 1 = ((x.toNat / 2 ^ j % 2 : Nat) : Int) := h2
  rw [h3]
  rcases Nat.mod_two_eq_zero_or_one (x.toNat / 2 ^ j) with e | e <;> rw [e] <;> rfl
theorem bit_u64 {x : Int} (x0 : 0 ≤ x) (x1 : x < 18446744073709551616) (j : Nat) (hj : j < 64) :
    (Go.bits .and .u64 (shr .u64 x (IntKind.u64.wrap (j : Int))) 1 == 1) = (x.toNat / 2 ^ j % 2 == 1) := by
  have e : x = (x.toNat : Int) := by omega
  have hlt : x.toNat / 2 ^ j < 18446744073709551616 := Nat.lt_of_le_of_lt (Nat.div_le_self _ _) (by omega)
  rw [u64i (by omega) (by omega)]
  have h := shr_nat .u64 x.toNat j (by simp [IntKind.bits]; omega)
  rw [← e] at h
  rw [h]
  have h2 := bits_and_u64_nat (x.toNat / 2 ^ j) 1 hlt (by omega)
  rw [Nat.and_one_is_mod] at h2
  have h3 : Go.bits BinOp.and IntKind.u64 ((x.toNat / 2 ^ j : Nat) : Int) 1 = ((x.toNat / 2 ^ j % 2 : Nat) : Int) := h2
  rw [h3]
  rcases Nat.mod_two_eq_zero_or_one (x.toNat / 2 ^ j) with e | e <;> rw [e] <;> rfl
theorem or_u32 {x : Int} (j : Nat) (hj : j < 32) (x0 : 0 ≤ x) (x1 : x.toNat < 2 ^ j) :
    Go.bits .or .u32 x (shl .u32 1 (IntKind.u64.wrap (j : Int))) = x + ((2 ^ j : Nat) : Int) := by
  have e : x = (x.toNat : Int) := by omega
  have hp : 2 ^ j < 2 ^ 32 := Nat.pow_lt_pow_right (by decide) hj
  have hs : shl .u32 1 (IntKind.u64.wrap (j : Int)) = ((2 ^ j : Nat) : Int) := by
    rw [u64i (by omega) (by omega)]
    unfold shl
    rw [Int.toNat_natCast, Nat.min_eq_left (by simp [IntKind.bits]; omega), u32w]
    have : ((2 : Int) ^ j) = ((2 ^ j : Nat) : Int) := by simp
    rw [this]; omega
  rw [hs]
  have h := bits_or_u32_nat x.toNat (2 ^ j) (by omega) (by omega)
  rw [← e] at h
  rw [h]
  have h4 := Nat.two_pow_add_eq_or_of_lt x1 1
  rw [Nat.mul_one, Nat.or_comm] at h4
  rw [← h4]; omega
theorem bn_true : bn true = 1 := rfl
theorem bn_false : bn false = 0 := rfl
/-! ### reading bits -/
theorem rb_lt (l : List Bool) (i : Nat) (h : i < l.length) : rdOf false l (i : Int) = l[i] := by
  unfold rdOf; simp [List.getD_eq_getElem?_getD, h]
theorem rb_ge (l : List Bool) (i : Nat) (h : l.length ≤ i) : rdOf false l (i : Int) = false := by
  unfold rdOf; simp [List.getD_eq_getElem?_getD, h]
theorem bit_spec (l : List Bool) (i : Nat) : flyballref01_bit.f l (i : Int) = some (rdOf false l (i : Int)) := by
  unfold flyballref01_bit.f
  rw [if_pos (by omega)]
  by_cases h : i < l.length
  · rw [if_pos (by omega), if_pos (by omega)]
  · rw [if_neg (by omega), rb_ge l i (by omega)]
theorem bv_take_succ (l : List Bool) (i : Nat) : bv (l.take (i + 1)) = bv (l.take i) + 2 ^ i * bn (rdOf false l (i : Int)) := by
  by_cases h : i < l.length
  · rw [List.take_succ_eq_append_getElem h, bv_snoc, List.length_take, rb_lt l i h, Nat.min_eq_left (by omega)]
  · rw [rb_ge l i (by omega), List.take_of_length_le (by omega), List.take_of_length_le (by omega)]; rfl
theorem bv_take_lt (l : List Bool) (i : Nat) : bv (l.take i) < 2 ^ i := by
  have h1 := bv_lt (l.take i)
  rw [List.length_take] at h1
  exact Nat.lt_of_lt_of_le h1 (Nat.pow_le_pow_right (by decide) (Nat.min_le_left _ _))
theorem bv_drop (l : List Bool) (i : Nat) : bv (l.drop i) = bn (rdOf false l (i : Int)) + 2 * bv (l.drop (i + 1)) := by
  by_cases h : i < l.length
  · rw [List.drop_eq_getElem_cons h, bv_cons, rb_lt l i h]
  · rw [rb_ge l i (by omega), List.drop_eq_nil_of_le (by omega), List.drop_eq_nil_of_le (by omega)]; rfl
/-- The bits of a row's number are a head of the row. -/
theorem bits_take (l : List Bool) : l.take (bits (bv l)).length = bits (bv l) := by
  induction l with
  | nil => rw [bv_nil, bits_zero]; rfl
  | cons b bs ih =>
    by_cases h : bv (b :: bs) = 0
    · rw [h, bits_zero]; rfl
    · rw [bits_pos h, List.length_cons, List.take_succ_cons]
      have hb := bn_le b
      have e1 : (bn b + 2 * bv bs) % 2 = bn b := by omega
      have e2 : (bn b + 2 * bv bs) / 2 = bv bs := by omega
      rw [bv_cons, e1, e2, ih]
      cases b <;> rfl
theorem bits_bv_len (l : List Bool) : (bits (bv l)).length ≤ l.length := bits_len _ _ (bv_lt l)
theorem bnrm_snoc (l : List Bool) : bnrm (l ++ [true]) := by
  intro x hx
  rw [List.getLast?_append, List.getLast?_singleton] at hx
  simpa using hx.symm
/-! ### Len -/
theorem Len_ev (l : List Bool) (hl : l.length ≤ 9223372036854775807) : ∀ (n : Nat), n ≤ l.length → bv (l.take n) = bv l → Ev (fun k => flyballref01_Len.l0 k l (n : Int)) (((bits (bv l)).length : Nat) : Int)
  | 0, hn, he => by
    rw [List.take_zero, bv_nil] at he
    rw [← he, bits_zero]
    refine Ev.step (f := fun _ => some 0) (fun k => ?_) (Ev.now _)
    simp only [flyballref01_Len.l0]
    rw [if_neg (by omega)]; rfl
  | n + 1, hn, he => by
    have hs := bv_take_succ l n
    have e : (((n + 1 : Nat) : Int) - 1) = (n : Int) := by omega
    have hw : wrap64 (((n + 1 : Nat) : Int) - 1) = (n : Int) := by rw [e]; exact w64 (by omega) (by omega)
    cases hr : rdOf false l (n : Int) with
    | true =>
      have e2 : l.take (n + 1) = l.take n ++ [true] := by
        rw [List.take_succ_eq_append_getElem (by omega), ← rb_lt l n (by omega), hr]
      have hlen : (bits (bv l)).length = n + 1 := by
        rw [← he, e2, bits_bv (bnrm_snoc _)]
        simp; omega
      rw [hlen]
      refine Ev.step (f := fun _ => some ((n + 1 : Nat) : Int)) (fun k => ?_) (Ev.now _)
      simp only [flyballref01_Len.l0]
      rw [if_pos (by omega), hw, if_pos (by omega), if_pos (by omega), if_pos hr]
    | false =>
      rw [hr] at hs
      have ih := Len_ev l hl n (by omega) (by rw [← he, hs]; simp [bn])
      refine Ev.step (fun k => ?_) ih
      simp only [flyballref01_Len.l0]
      rw [if_pos (by omega), hw, if_pos (by omega), if_pos (by omega), hr]
      rfl
theorem Len_spec (l : List Bool) (hl : l.length ≤ 9223372036854775807) : Ev (fun k => flyballref01_Len.f k l) (((bits (bv l)).length : Nat) : Int) :=
  Len_ev l hl l.length (Nat.le_refl _) (by rw [List.take_length])
/-! ### Bits -/
theorem Bits_in (a : List Int) (ha : WD a) (i : Nat) (hi : i < a.length) (ho : a.length ≤ 1000000000) (R : List Bool) :
    ∀ (d j : Nat) (x : List Bool), j + d = 32 → x.length = 32 * i + j → bv x = wv (a.take i) + 2 ^ (32 * i) * ((rd a (i : Int)).toNat % 2 ^ j) →
      (∀ (x' : List Bool), x'.length = 32 * (i + 1) → bv x' = wv (a.take (i + 1)) → Ev (fun k => flyballref02_Bits.l0 k a x' ((i + 1 : Nat) : Int)) R) →
      Ev (fun k => flyballref02_Bits.l1 k a x (i : Int) (j : Int)) R
  | 0, j, x, hd, hl, hv, hk => by
    have ej : j = 32 := by omega
    subst ej
    obtain ⟨r0, r1⟩ := WD_rd ha (i : Int)
    rw [Nat.mod_eq_of_lt (by omega)] at hv
    have e : (2 : Nat) ^ (32 * i) = BW ^ i := by rw [Nat.pow_mul]; rfl
    rw [e, ← take_succ'] at hv
    refine Ev.step (fun k => ?_) (hk x (by omega) hv)
    simp only [flyballref02_Bits.l1]
    rw [if_neg (by omega), w64 (by omega) (by omega)]
    rfl
  | d + 1, j, x, hd, hl, hv, hk => by
    obtain ⟨r0, r1⟩ := WD_rd ha (i : Int)
    have hb := bit_u32 r0 r1 j (by omega)
    have ih := Bits_in a ha i hi ho R d (j + 1) (x ++ [((rd a (i : Int)).toNat / 2 ^ j % 2 == 1)]) (by omega) (by simp; omega) (by
      rw [bv_snoc, hv, hl, Nat.pow_add, Nat.mul_assoc, Nat.add_assoc, ← Nat.mul_add]
      congr 2
      have : bn ((rd a (i : Int)).toNat / 2 ^ j % 2 == 1) = (rd a (i : Int)).toNat / 2 ^ j % 2 := by
        rcases Nat.mod_two_eq_zero_or_one ((rd a (i : Int)).toNat / 2 ^ j) with e | e <;> rw [e] <;> rfl
      rw [this, Nat.mod_pow_succ]) hk
    refine Ev.step (fun k => ?_) ih
    simp only [flyballref02_Bits.l1]
    rw [if_pos (by omega), if_pos (by omega), if_pos (by omega), hb, if_pos (by rw [u64i (by omega) (by omega)]; omega), if_pos (by omega), w64 (by omega) (by omega)]
    rfl
theorem Bits_ev (a : List Int) (ha : WD a) (ho : a.length ≤ 1000000000) :
    ∀ (d i : Nat) (x : List Bool), i + d = a.length → x.length = 32 * i → bv x = wv (a.take i) → Ev (fun k => flyballref02_Bits.l0 k a x (i : Int)) (bits (wv a))
  | 0, i, x, hd, hl, hv => by
    rw [List.take_of_length_le (by omega)] at hv
    have h := Len_spec x (by omega)
    refine Ev.step (fun k => ?_) (Ev.bind h (f := fun _ t => if 0 ≤ t then (if t ≤ (x.length : Int) then some (x.take t.toNat) else none) else none) ?_)
    · simp only [flyballref02_Bits.l0]
      rw [if_neg (by omega)]
    · have h1 := bits_bv_len x
      rw [if_pos (by omega), if_pos (by omega), Int.toNat_natCast, bits_take, hv]
      exact Ev.now _
  | d + 1, i, x, hd, hl, hv => by
    have h := Bits_in a ha i (by omega) ho (bits (wv a)) 32 0 x (by omega) (by omega) (by rw [hv]; simp [Nat.mod_one]) (fun x' hl' hv' => Bits_ev a ha ho d (i + 1) x' (by omega) hl' hv')
    refine Ev.step (fun k => ?_) h
    simp only [flyballref02_Bits.l0]
    rw [if_pos (by omega)]
    rfl
theorem Bits_spec {a : List Int} (ha : WD a) (ho : a.length ≤ 1000000000) : Ev (fun k => flyballref02_Bits.f k a) (bits (wv a)) := Bits_ev a ha ho a.length 0 [] (by omega) rfl rfl
/-! ### Cmp -/
theorem RCmp_ev (a b : List Bool) : ∀ (i : Nat), i ≤ 1000000000000 → Ev (fun k => flyballref01_Cmp.l0 k a b ((i : Int) - 1)) (cmpN (bv (a.take i)) (bv (b.take i)))
  | 0, _ => by
    rw [List.take_zero, List.take_zero, cmpN_eq]
    refine Ev.step (f := fun _ => some 0) (fun k => ?_) (Ev.now _)
    simp only [flyballref01_Cmp.l0]
    rw [if_neg (by omega)]
  | i + 1, hi => by
    have e : (((i + 1 : Nat) : Int) - 1) = (i : Int) := by omega
    rw [e, bv_take_succ, bv_take_succ]
    have la := bv_take_lt a i
    have lb := bv_take_lt b i
    have ih := RCmp_ev a b i (by omega)
    have ba := bit_spec a i
    have bb := bit_spec b i
    generalize hra : rdOf false a (i : Int) = x at *
    generalize hrb : rdOf false b (i : Int) = y at *
    cases x <;> cases y
    · have e2 : bv (a.take i) + 2 ^ i * bn false = bv (a.take i) := by simp [bn]
      have e3 : bv (b.take i) + 2 ^ i * bn false = bv (b.take i) := by simp [bn]
      rw [e2, e3]
      refine Ev.step (fun k => ?_) ih
      simp only [flyballref01_Cmp.l0]
      rw [if_pos (by omega), ba, bb, w64 (by omega) (by omega)]
      rfl
    · rw [cmpN_lt (by simp only [bn_true, bn_false, Nat.mul_one, Nat.mul_zero]; omega)]
      refine Ev.step (f := fun _ => some (-1)) (fun k => ?_) (Ev.now _)
      simp only [flyballref01_Cmp.l0]
      rw [if_pos (by omega), ba, bb]
      rfl
    · rw [cmpN_gt (by simp only [bn_true, bn_false, Nat.mul_one, Nat.mul_zero]; omega)]
      refine Ev.step (f := fun _ => some 1) (fun k => ?_) (Ev.now _)
      simp only [flyballref01_Cmp.l0]
      rw [if_pos (by omega), ba, bb]
      rfl
    · have ec : cmpN (bv (a.take i) + 2 ^ i * bn true) (bv (b.take i) + 2 ^ i * bn true) = cmpN (bv (a.take i)) (bv (b.take i)) := by
        unfold cmpN
        by_cases h1 : bv (a.take i) < bv (b.take i)
        · rw [if_pos h1, if_pos (by omega)]
        · rw [if_neg h1, if_neg (by omega)]
          by_cases h2 : bv (a.take i) = bv (b.take i)
          · rw [if_pos h2, if_pos (by omega)]
          · rw [if_neg h2, if_neg (by omega)]
      rw [ec]
      refine Ev.step (fun k => ?_) ih
      simp only [flyballref01_Cmp.l0]
      rw [if_pos (by omega), ba, bb, w64 (by omega) (by omega)]
      rfl
theorem RCmp_spec (a b : List Bool) (la : a.length ≤ 1000000000000) (lb : b.length ≤ 1000000000000) : Ev (fun k => flyballref01_Cmp.f k a b) (cmpN (bv a) (bv b)) := by
  have := RCmp_ev a b (max a.length b.length) (by omega)
  rw [List.take_of_length_le (by omega), List.take_of_length_le (by omega)] at this
  unfold flyballref01_Cmp.f
  rw [mx_nat, w64 (by omega) (by omega)]
  exact this
/-! ### Add -/
/-! ### Sub -/
theorem RSub_ev (a b : List Bool) (n : Nat) (hm : n ≤ 1000000000000) : ∀ (d i : Nat) (acc : List Bool) (c : Bool), i + d = n → acc.length = i →
    ∃ r o, Ev (fun k => flyballref01_Sub.l0 k a b (n : Int) acc c (i : Int)) (r, o) ∧ r.length = n ∧ bv r + 2 ^ i * (bv ((b.take n).drop i) + bn c) = bv acc + 2 ^ i * bv ((a.take n).drop i) + 2 ^ n * bn o
  | 0, i, acc, c, hd, hl => by
    have : i = n := by omega
    subst this
    rw [List.drop_eq_nil_of_le (by simp; omega), List.drop_eq_nil_of_le (by simp; omega), bv_nil]
    refine ⟨acc, c, Ev.step (f := fun _ => some (acc, c)) (fun k => ?_) (Ev.now _), hl, by simp⟩
    simp only [flyballref01_Sub.l0]
    rw [if_neg (by omega)]
  | d + 1, i, acc, c, hd, hl => by
    have hda := bv_drop (a.take n) i
    have hdb := bv_drop (b.take n) i
    have ea : rdOf false (a.take n) (i : Int) = rdOf false a (i : Int) := by
      unfold rdOf; simp only [Int.toNat_natCast, List.getD_eq_getElem?_getD]; rw [List.getElem?_take_of_lt (by omega)]
    have eb : rdOf false (b.take n) (i : Int) = rdOf false b (i : Int) := by
      unfold rdOf; simp only [Int.toNat_natCast, List.getD_eq_getElem?_getD]; rw [List.getElem?_take_of_lt (by omega)]
    rw [ea] at hda
    rw [eb] at hdb
    have ba := bit_spec a i
    have bb := bit_spec b i
    generalize hra : rdOf false a (i : Int) = x at *
    generalize hrb : rdOf false b (i : Int) = y at *
    obtain ⟨r, o, hr, hln, hv⟩ := RSub_ev a b n hm d (i + 1) (acc ++ [((x != y) != c)]) ((!x && y) || ((!x || y) && c)) (by omega) (by simp [hl])
    refine ⟨r, o, ?_, hln, ?_⟩
    · refine Ev.step (fun k => ?_) hr
      simp only [flyballref01_Sub.l0]
      rw [if_pos (by omega), ba, bb, w64 (by omega) (by omega)]
      simp only [Option.bind_some]
      rw [if_pos (by omega)]
      cases x <;> cases y <;> cases c <;> rfl
    · rw [bv_snoc, hl, Nat.pow_succ, Nat.mul_assoc, Nat.mul_assoc] at hv
      rw [hda, hdb]
      generalize bv ((a.take n).drop (i + 1)) = A at *
      generalize bv ((b.take n).drop (i + 1)) = B at *
      have h1 : ∀ t : Nat, 2 ^ i * (2 * t) = 2 * (2 ^ i * t) := fun t => Nat.mul_left_comm _ _ _
      simp only [Nat.mul_add, h1] at hv ⊢
      generalize 2 ^ i * B = BB at *
      generalize 2 ^ i * A = AA at *
      cases x <;> cases y <;> cases c <;> simp [bn] at hv ⊢ <;> omega
theorem RSub_spec (a b : List Bool) (n : Nat) (hm : n ≤ 1000000000000) (la : a.length ≤ n) (hle : bv b ≤ bv a) :
    ∃ r, Ev (fun k => flyballref01_Sub.f k a b (n : Int)) (r, false) ∧ bv r = bv a - bv b ∧ r.length = n := by
  obtain ⟨r, o, hr, hl, hv⟩ := RSub_ev a b n hm n 0 [] false (by omega) rfl
  simp only [List.drop_zero, bv_nil, Nat.pow_zero, Nat.one_mul, Nat.zero_add] at hv
  rw [List.take_of_length_le la] at hv
  have hb : bv (b.take n) = bv b := by
    have h2 : bv b = bv (b.take n) + 2 ^ (b.take n).length * bv (b.drop n) := by rw [← bv_append, List.take_append_drop]
    rcases Nat.eq_zero_or_pos (bv (b.drop n)) with h0 | h0
    · rw [h0] at h2; omega
    · by_cases hb : n ≤ b.length
      · rw [List.length_take, Nat.min_eq_left hb] at h2
        have h3 := bv_lt a
        have h4 : 2 ^ a.length ≤ 2 ^ n := Nat.pow_le_pow_right (by decide) la
        have h5 : 2 ^ n ≤ 2 ^ n * bv (b.drop n) := Nat.le_mul_of_pos_right _ h0
        omega
      · rw [List.drop_eq_nil_of_le (by omega)] at h0
        exact absurd h0 (by simp [bv])
  rw [hb] at hv
  have hr2 := bv_lt r
  rw [hl] at hr2
  have ho : o = false := by
    cases o
    · rfl
    · simp [bn] at hv; omega
  subst ho
  refine ⟨r, hr, ?_, hl⟩
  simp [bn] at hv; omega
/-! ### Shl, Mul -/
theorem RShl_ev (l : List Bool) (n : Nat) (hm : n + l.length ≤ 100000000000000) : ∀ (d i : Nat), i + d = n → Ev (fun k => flyballref01_Shl.l0 k l (n : Int) (List.replicate i false) (i : Int)) (List.replicate n false ++ l)
  | 0, i, hd => by
    have : i = n := by omega
    subst this
    refine Ev.step (f := fun _ => some (List.replicate i false ++ l)) (fun k => ?_) (Ev.now _)
    simp only [flyballref01_Shl.l0]
    rw [if_neg (by omega), if_pos (by simp; omega)]
  | d + 1, i, hd => by
    refine Ev.step (fun k => ?_) (RShl_ev l n hm d (i + 1) (by omega))
    simp only [flyballref01_Shl.l0]
    rw [if_pos (by omega), if_pos (by simp; omega), w64 (by omega) (by omega), ← List.replicate_succ']
    rfl
theorem RShl_spec (l : List Bool) (n : Nat) (hm : n + l.length ≤ 100000000000000) : Ev (fun k => flyballref01_Shl.f k l (n : Int)) (List.replicate n false ++ l) := RShl_ev l n hm n 0 (by omega)
/-! ### Same, Words, Is -/
theorem Same_ev (a b : List Int) (hl : a.length = b.length) (hm : a.length ≤ 1000000000000) : ∀ (d i : Nat), i + d = a.length → Ev (fun k => flyballref02_Same.l0 k a b (i : Int)) (decide (a.drop i = b.drop i))
  | 0, i, hd => by
    rw [List.drop_eq_nil_of_le (by omega), List.drop_eq_nil_of_le (by omega)]
    refine Ev.step (f := fun _ => some true) (fun k => ?_) (by simpa using Ev.now true)
    simp only [flyballref02_Same.l0]
    rw [if_neg (by omega)]
  | d + 1, i, hd => by
    rw [List.drop_eq_getElem_cons (by omega : i < a.length), List.drop_eq_getElem_cons (by omega : i < b.length), ← rd_lt a i (by omega), ← rd_lt b i (by omega)]
    by_cases h : rd a (i : Int) = rd b (i : Int)
    · have ih := Same_ev a b hl hm d (i + 1) (by omega)
      have e : decide (rd a (i : Int) :: a.drop (i + 1) = rd b (i : Int) :: b.drop (i + 1)) = decide (a.drop (i + 1) = b.drop (i + 1)) := by
        rw [h]; simp
      rw [e]
      refine Ev.step (fun k => ?_) ih
      simp only [flyballref02_Same.l0]
      rw [if_pos (by omega), if_pos (by omega), if_pos (by omega), if_pos h, w64 (by omega) (by omega)]
      rfl
    · have e : decide (rd a (i : Int) :: a.drop (i + 1) = rd b (i : Int) :: b.drop (i + 1)) = false := by
        simp [h]
      rw [e]
      refine Ev.step (f := fun _ => some false) (fun k => ?_) (Ev.now _)
      simp only [flyballref02_Same.l0]
      rw [if_pos (by omega), if_pos (by omega), if_pos (by omega), if_neg h]
theorem Same_spec (a b : List Int) (hm : a.length ≤ 1000000000000) : Ev (fun k => flyballref02_Same.f k a b) (decide (a = b)) := by
  unfold flyballref02_Same.f
  by_cases h : a.length = b.length
  · simp only [if_pos (show ((a.length : Nat) : Int) = (b.length : Int) by omega)]
    exact Same_ev a b h hm a.length 0 (by omega)
  · simp only [if_neg (show ¬ ((a.length : Nat) : Int) = (b.length : Int) by omega)]
    have e : decide (a = b) = false := by
      simp only [decide_eq_false_iff_not]; intro e; exact h (by rw [e])
    rw [e]; exact Ev.now _
theorem nrm_of_le {x : List Int} (hx : WD x) (h : x = [] ∨ BW ^ (x.length - 1) ≤ wv x) : nrm x := by
  rcases h with h | h
  · subst h; exact nrm_nil
  · intro y hy e
    subst e
    obtain ⟨ys, rfl⟩ := List.getLast?_eq_some_iff.1 hy
    rw [wv_snoc] at h
    have := wv_lt (WD_left hx)
    simp at h; omega
theorem Words_ev (l : List Bool) (t : Nat) (ht : t = (bits (bv l)).length) (hm : l.length ≤ 1000000000000) :
    ∀ (d i : Nat) (x : List Int), i + d = t → x.length = (t + 31) / 32 → WD x → wv x = bv (l.take i) → Ev (fun k => flyballref02_Words.l0 k l (t : Int) x (i : Int)) (words (bv l))
  | 0, i, x, hd, hl, hW, hv => by
    have : i = t := by omega
    have e : bv (l.take i) = bv l := by rw [this, ht, bits_take, bv_bits]
    rw [e] at hv
    have hn : nrm x := by
      refine nrm_of_le hW ?_
      by_cases h0 : t = 0
      · left; exact List.eq_nil_of_length_eq_zero (by omega)
      · right
        have hne : bv l ≠ 0 := by intro e; rw [e, bits_zero] at ht; exact h0 ht
        have := bits_len_lt hne
        rw [hv]
        refine Nat.le_trans ?_ this
        have e3 : BW ^ (x.length - 1) = 2 ^ (32 * (x.length - 1)) := by rw [Nat.pow_mul]; rfl
        rw [e3, ← ht, hl]
        exact Nat.pow_le_pow_right (by decide) (by omega)
    rw [← hv, words_wv hW hn]
    refine Ev.step (f := fun _ => some x) (fun k => ?_) (Ev.now _)
    simp only [flyballref02_Words.l0]
    rw [if_neg (by omega)]
  | d + 1, i, x, hd, hl, hW, hv => by
    have hs := bv_take_succ l i
    have htl : t ≤ l.length := by rw [ht]; exact bits_bv_len l
    have eq : wrap64 (Int.tdiv (i : Int) 32) = ((i / 32 : Nat) : Int) := by
      rw [Int.tdiv_eq_ediv_of_nonneg (by omega), w64 (by omega) (by omega)]; omega
    have em : Int.tmod (i : Int) 32 = ((i % 32 : Nat) : Int) := by
      rw [Int.tmod_eq_emod_of_nonneg (by omega)]; omega
    cases hr : rdOf false l (i : Int) with
    | false =>
      rw [hr] at hs
      have ih := Words_ev l t ht hm d (i + 1) x (by omega) hl hW (by rw [hv, hs]; simp [bn])
      refine Ev.step (fun k => ?_) ih
      simp only [flyballref02_Words.l0]
      rw [if_pos (by omega), if_pos (by omega), if_pos (by omega), if_neg (by rw [hr]; decide), w64 (by omega) (by omega)]
      rfl
    | true =>
      rw [hr] at hs
      obtain ⟨r0, r1⟩ := WD_rd hW ((i / 32 : Nat) : Int)
      have hlt := bv_take_lt l i
      rw [← hv] at hlt
      have hle := rd_le_wv x (i / 32)
      have e2 : 2 ^ i = BW ^ (i / 32) * 2 ^ (i % 32) := by
        have : BW ^ (i / 32) = 2 ^ (32 * (i / 32)) := by rw [Nat.pow_mul]; rfl
        rw [this, ← Nat.pow_add, Nat.div_add_mod]
      have hlt2 : (rd x ((i / 32 : Nat) : Int)).toNat < 2 ^ (i % 32) := by
        rw [e2] at hlt
        exact Nat.lt_of_mul_lt_mul_left (Nat.lt_of_le_of_lt hle hlt)
      have hor := or_u32 (i % 32) (by omega) r0 hlt2
      have hp : 2 ^ (i % 32) ≤ 2 ^ 31 := Nat.pow_le_pow_right (by decide) (by omega)
      have hset := wv_set x (i / 32) (rd x ((i / 32 : Nat) : Int) + ((2 ^ (i % 32) : Nat) : Int)) (by omega)
      have ih := Words_ev l t ht hm d (i + 1) (x.set (i / 32) (rd x ((i / 32 : Nat) : Int) + ((2 ^ (i % 32) : Nat) : Int))) (by omega) (by simp [hl]) (WD_set hW _ (by omega) (by omega)) (by
        rw [hs, ← hv, e2]
        have e4 : (rd x ((i / 32 : Nat) : Int) + ((2 ^ (i % 32) : Nat) : Int)).toNat = (rd x ((i / 32 : Nat) : Int)).toNat + 2 ^ (i % 32) := by omega
        rw [e4, Nat.mul_add] at hset
        rw [bn_true, Nat.mul_one]; omega)
      refine Ev.step (fun k => ?_) ih
      simp only [flyballref02_Words.l0]
      rw [if_pos (by omega), if_pos (by omega), if_pos (by omega), if_pos hr, eq, em, if_pos (by omega), if_pos (by omega), if_pos (by rw [u64i (by omega) (by omega)]; omega), hor, w64 (by omega) (by omega)]
      rfl
theorem Words_spec (l : List Bool) (hm : l.length ≤ 1000000000000) : Ev (fun k => flyballref02_Words.f k l) (words (bv l)) := by
  have h := Len_spec l (by omega)
  have hb := bits_bv_len l
  refine Ev.bind h ?_
  have e : wrap64 (Int.tdiv (wrap64 ((((bits (bv l)).length : Nat) : Int) + 31)) 32) = ((((bits (bv l)).length + 31) / 32 : Nat) : Int) := by
    rw [w64 (x := (((bits (bv l)).length : Nat) : Int) + 31) (by omega) (by omega), Int.tdiv_eq_ediv_of_nonneg (by omega), w64 (by omega) (by omega)]; omega
  rw [e, Int.toNat_natCast]
  have := Words_ev l _ rfl hm (bits (bv l)).length 0 (List.replicate (((bits (bv l)).length + 31) / 32) 0) (by omega) (by simp) (WD_rep _) (by simp [wv_rep, bv_nil])
  refine Ev.congr (fun k => ?_) this
  rw [if_pos (by omega), if_pos (by omega)]
  rfl
theorem Is_spec (a : List Int) (l : List Bool) (ha : a.length ≤ 1000000000000) (hm : l.length ≤ 1000000000000) : Ev (fun k => flyballref02_Is.f k a l) (decide (a = words (bv l))) :=
  Ev.bind (Words_spec l hm) (Ev.bind (Same_spec a _ ha) (Ev.now _))
end Go.Proofs.Ytagbnkbhobmgjaa.Pure
end
section
/- The document's quotient and greatest common divisor of rows of bits: plain arithmetic. -/
set_option linter.unusedVariables false
set_option linter.unusedSimpArgs false
namespace Go.Proofs.Ytagbnkbhobmgjaa.Pure
open Go.RowKit Go.Proofs.Ytagbnkbhobmgjaa.Fn Go.Proofs.YtagbnkbhobmgjaaW.PrintWords Go.Proofs.YtagbnkbhobmgjaaW.PrintMore Go.Proofs.YtagbnkbhobmgjaaW.PrintLast
theorem bv_set : ∀ (x : List Bool) (i : Nat) (y : Bool), i < x.length → bv (x.set i y) + 2 ^ i * bn (rdOf false x (i : Int)) = bv x + 2 ^ i * bn y
  | [], i, y, h => by simp at h
  | z :: zs, 0, y, h => by
    rw [rb_lt _ _ h]
    simp only [List.set_cons_zero, bv_cons, List.getElem_cons_zero, Nat.pow_zero, Nat.one_mul]
    omega
  | z :: zs, i + 1, y, h => by
    have h' : i < zs.length := by simpa using h
    have ih := bv_set zs i y h'
    rw [rb_lt _ _ h]
    rw [rb_lt _ _ h'] at ih
    simp only [List.set_cons_succ, bv_cons, List.getElem_cons_succ]
    have e : ∀ t : Nat, 2 ^ (i + 1) * t = 2 * (2 ^ i * t) := fun t => by rw [Nat.pow_succ, Nat.mul_comm (2 ^ i) 2, Nat.mul_assoc]
    rw [e, e, Nat.add_assoc, Nat.add_assoc, ← Nat.mul_add, ← Nat.mul_add, ih]
theorem rb_set_ne (x : List Bool) (i j : Nat) (y : Bool) (h : i ≠ j) : rdOf false (x.set i y) (j : Int) = rdOf false x (j : Int) := by
  unfold rdOf
  simp only [Int.toNat_natCast, List.getD_eq_getElem?_getD]
  rw [List.getElem?_set_ne h]
theorem RDiv_ev (a b : List Bool) (la : a.length ≤ 100000000000) (lb : b.length ≤ 100000000000) : ∀ (c : Nat) (q : List Bool) (m : Nat), c ≤ a.length → q.length = a.length → (∀ j : Nat, j < c → rdOf false q (j : Int) = false) → m < bv b →
    ∃ Q, Ev (fun k => flyballref01_Div.l0 k a b q (bits m) ((c : Int) - 1)) (Q, bits ((m * 2 ^ c + bv (a.take c)) % bv b)) ∧ bv Q = bv q + (m * 2 ^ c + bv (a.take c)) / bv b ∧ Q.length = a.length
  | 0, q, m, hc, hl, hz, hm => by
    rw [List.take_zero, bv_nil, Nat.pow_zero, Nat.mul_one, Nat.add_zero, Nat.mod_eq_of_lt hm, Nat.div_eq_of_lt hm]
    refine ⟨q, Ev.step (f := fun _ => some (q, bits m)) (fun k => ?_) (Ev.now _), rfl, hl⟩
    simp only [flyballref01_Div.l0]
    rw [if_neg (by omega)]
  | c + 1, q, m, hc, hl, hz, hm => by
    have ec : (((c + 1 : Nat) : Int) - 1) = (c : Int) := by omega
    have hB : 0 < bv b := by omega
    have hlm : (bits m).length ≤ b.length := bits_len _ _ (Nat.lt_trans hm (bv_lt b))
    have hs := bv_take_succ a c
    have hval : m * 2 ^ (c + 1) + bv (a.take (c + 1)) = (bn (rdOf false a (c : Int)) + 2 * m) * 2 ^ c + bv (a.take c) := by
      rw [hs, Nat.pow_succ, Nat.add_mul, Nat.mul_comm (2 ^ c) (bn _), Nat.mul_comm (2 ^ c) 2, ← Nat.mul_assoc, Nat.mul_comm m 2]; omega
    rw [hval]
    generalize hx : rdOf false a (c : Int) = x at *
    have hbx := bn_le x
    have hy : bv ([x] ++ bits m) = bn x + 2 * m := by rw [List.singleton_append, bv_cons, bv_bits]
    have hyl : ([x] ++ bits m).length = (bits m).length + 1 := by simp
    have hcmp := RCmp_spec ([x] ++ bits m) b (by omega) (by omega)
    rw [hy] at hcmp
    by_cases hge : bn x + 2 * m < bv b
    · obtain ⟨Q, e1, e2, e3⟩ := RDiv_ev a b la lb c q (bn x + 2 * m) (by omega) hl (fun j hj => hz j (by omega)) hge
      have hlen := Len_spec ([x] ++ bits m) (by omega)
      rw [hy] at hlen
      have htk := bits_take ([x] ++ bits m)
      rw [hy] at htk
      have hlt := bits_bv_len ([x] ++ bits m)
      rw [hy] at hlt
      refine ⟨Q, Ev.step (fun k => ?_) (Ev.bind hcmp (f := fun k t => if t ≥ 0 then ((flyballref01_Sub.f k ([x] ++ bits m) b (([x] ++ bits m).length : Int)).bind fun bt112 => (if (c : Int) < (q.length : Int) then ((flyballref01_Len.f k bt112.1).bind fun t117 => (if 0 ≤ t117 then (if t117 ≤ (bt112.1.length : Int) then (flyballref01_Div.l0 k a b (q.set ((c : Int)).toNat true) (bt112.1.take (t117 : Int).toNat) (wrap64 ((c : Int) - 1))) else (none)) else (none))) else (none))) else (flyballref01_Len.f k ([x] ++ bits m)).bind fun t121 => (if 0 ≤ t121 then (if t121 ≤ (([x] ++ bits m).length : Int) then (flyballref01_Div.l0 k a b q (([x] ++ bits m).take (t121 : Int).toNat) (wrap64 ((c : Int) - 1))) else (none)) else (none))) (Ev.congr (fun k => if_neg (by rw [cmpN_lt hge]; omega)) (Ev.bind hlen (Ev.congr (fun k => ?_) e1)))), e2, e3⟩
      · simp only [flyballref01_Div.l0]
        rw [ec, if_pos (by omega), if_pos (by omega), if_pos (by omega), hx]
        simp only [Option.bind_some]
        rw [if_pos (by simp; omega)]
      · rw [if_pos (by omega), if_pos (by omega), Int.toNat_natCast, htk, w64 (by omega) (by omega)]
    · have hge' : bv b ≤ bv ([x] ++ bits m) := by omega
      obtain ⟨d, d1, d2, d3⟩ := RSub_spec ([x] ++ bits m) b ([x] ++ bits m).length (by omega) (Nat.le_refl _) hge'
      rw [hy] at d2
      have hset := bv_set q c true (by omega)
      rw [hz c (by omega), bn_false, bn_true, Nat.mul_one, Nat.mul_zero, Nat.add_zero] at hset
      obtain ⟨Q, e1, e2, e3⟩ := RDiv_ev a b la lb c (q.set c true) (bn x + 2 * m - bv b) (by omega) (by simp [hl]) (fun j hj => by rw [rb_set_ne _ _ _ _ (by omega)]; exact hz j (by omega)) (by omega)
      have hlen := Len_spec d (by omega)
      rw [d2] at hlen
      have htk := bits_take d
      rw [d2] at htk
      have hlt := bits_bv_len d
      rw [d2] at hlt
      have hsplit : (bn x + 2 * m) * 2 ^ c + bv (a.take c) = ((bn x + 2 * m - bv b) * 2 ^ c + bv (a.take c)) + bv b * 2 ^ c := by
        have : (bn x + 2 * m) = (bn x + 2 * m - bv b) + bv b := by omega
        conv => lhs; rw [this, Nat.add_mul]
        omega
      have hc0 : ¬ cmpN (bn x + 2 * m) (bv b) < 0 := by unfold cmpN; rw [if_neg hge]; split <;> omega
      refine ⟨Q, ?_, ?_, e3⟩
      · rw [hsplit, Nat.add_mul_mod_self_left]
        refine Ev.step (fun k => ?_) (Ev.bind hcmp (f := fun k t => if t ≥ 0 then ((flyballref01_Sub.f k ([x] ++ bits m) b (([x] ++ bits m).length : Int)).bind fun bt112 => (if (c : Int) < (q.length : Int) then ((flyballref01_Len.f k bt112.1).bind fun t117 => (if 0 ≤ t117 then (if t117 ≤ (bt112.1.length : Int) then (flyballref01_Div.l0 k a b (q.set ((c : Int)).toNat true) (bt112.1.take (t117 : Int).toNat) (wrap64 ((c : Int) - 1))) else (none)) else (none))) else (none))) else (flyballref01_Len.f k ([x] ++ bits m)).bind fun t121 => (if 0 ≤ t121 then (if t121 ≤ (([x] ++ bits m).length : Int) then (flyballref01_Div.l0 k a b q (([x] ++ bits m).take (t121 : Int).toNat) (wrap64 ((c : Int) - 1))) else (none)) else (none))) (Ev.congr (fun k => if_pos (by omega)) (Ev.bind d1 (Ev.congr (fun k => if_pos (by omega)) (Ev.bind hlen (Ev.congr (fun k => ?_) e1))))))
        · simp only [flyballref01_Div.l0]
          rw [ec, if_pos (by omega), if_pos (by omega), if_pos (by omega), hx]
          simp only [Option.bind_some]
          rw [if_pos (by simp; omega)]
        · dsimp only
          rw [if_pos (by omega), if_pos (by omega), Int.toNat_natCast, Int.toNat_natCast, htk, w64 (by omega) (by omega)]
      · rw [e2, hset, hsplit, Nat.add_mul_div_left _ _ hB]; omega
theorem RDiv_spec (a b : List Bool) (la : a.length ≤ 100000000000) (lb : b.length ≤ 100000000000) (hB : 0 < bv b) :
    ∃ Q, Ev (fun k => flyballref01_Div.f k a b) (Q, bits (bv a % bv b)) ∧ bv Q = bv a / bv b ∧ Q.length = a.length := by
  obtain ⟨Q, e1, e2, e3⟩ := RDiv_ev a b la lb a.length (List.replicate a.length false) 0 (Nat.le_refl _) (by simp) (fun j hj => by rw [rb_lt _ _ (by simpa using hj)]; simp) hB
  rw [Nat.zero_mul, Nat.zero_add, List.take_length] at e1 e2
  rw [bv_rep, Nat.zero_add] at e2
  refine ⟨Q, ?_, e2, e3⟩
  unfold flyballref01_Div.f
  refine Ev.congr (fun k => ?_) e1
  rw [if_pos (by omega), if_pos (by omega), Int.toNat_natCast, w64 (by omega) (by omega), bits_zero]
theorem RGcd_ev : ∀ (B : Nat) (a b : List Bool), bv b = B → a.length ≤ 100000000000 → b.length ≤ 100000000000 → ∃ r, Ev (fun k => flyballref02_Gcd.l0 k a b) r ∧ bv r = Nat.gcd (bv a) B ∧ r.length ≤ max a.length b.length := by
  intro B
  induction B using Nat.strongRecOn with
  | _ B ih =>
    intro a b hb la lb
    have hlen := Len_spec b (by omega)
    by_cases h : B = 0
    · rw [hb, h, bits_zero] at hlen
      refine ⟨a, Ev.step (f := fun k => (flyballref01_Len.f k b).bind fun t101 => (if t101 > 0 then ((flyballref01_Div.f k a b).bind fun bt102 => (flyballref02_Gcd.l0 k b bt102.2)) else (some a))) (fun k => by simp only [flyballref02_Gcd.l0]) (Ev.bind hlen (Ev.congr (fun k => if_neg (by simp)) (Ev.now _))), by rw [h, Nat.gcd_zero_right], by omega⟩
    · obtain ⟨Q, e1, e2, e3⟩ := RDiv_spec a b la lb (by omega)
      have hlt := Nat.mod_lt (bv a) (show 0 < bv b by omega)
      have hl2 : (bits (bv a % bv b)).length ≤ b.length := bits_len _ _ (Nat.lt_trans hlt (bv_lt b))
      obtain ⟨r, r1, r2, r3⟩ := ih (bv a % bv b) (by omega) b (bits (bv a % bv b)) (bv_bits _) lb (by omega)
      refine ⟨r, Ev.step (f := fun k => (flyballref01_Len.f k b).bind fun t101 => (if t101 > 0 then ((flyballref01_Div.f k a b).bind fun bt102 => (flyballref02_Gcd.l0 k b bt102.2)) else (some a))) (fun k => by simp only [flyballref02_Gcd.l0]) (Ev.bind hlen (Ev.congr (fun k => if_pos ?_) (Ev.bind e1 r1))), ?_, by omega⟩
      · have : bits (bv b) ≠ [] := by rw [bits_pos (by omega)]; simp
        have := List.length_pos_iff.2 this
        omega
      · rw [r2, hb, Nat.gcd_comm B, ← Nat.gcd_rec, Nat.gcd_comm]
theorem RGcd_spec (a b : List Bool) (la : a.length ≤ 100000000000) (lb : b.length ≤ 100000000000) : ∃ r, Ev (fun k => flyballref02_Gcd.f k a b) r ∧ bv r = Nat.gcd (bv a) (bv b) ∧ r.length ≤ max a.length b.length := RGcd_ev _ a b rfl la lb
end Go.Proofs.Ytagbnkbhobmgjaa.Pure
end
