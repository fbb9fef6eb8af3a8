/- Between a float and the next one there is none. Part 17 of 20. -/
import Derived.Test.YtagbnkbhobmgjaaPatternBetweenO
import Derived.Test.YtagbnkbhobmgjaaPatternBetweenE
import Derived.Test.YtagbnkbhobmgjaaPatternBetweenL
import Derived.Test.YtagbnkbhobmgjaaPatternBetweenP
section
/- What the functions on floats' patterns come to, as arithmetic on words of 64 bits. -/
set_option linter.unusedVariables false
set_option linter.unusedSimpArgs false
namespace Go.Proofs.Ytagbnkbhobmgjaa.Pure
open Go.RowKit Go.Proofs.Ytagbnkbhobmgjaa.Fn Go.Proofs.YtagbnkbhobmgjaaW.PrintWords Go.Proofs.YtagbnkbhobmgjaaW.PrintMore Go.Proofs.YtagbnkbhobmgjaaW.PrintLast
theorem evAt {α : Type} {g : Nat → Option α} {r : α} (n : Nat) (h : ∀ k, g (k + n) = some r) : Ev g r := ⟨n, fun k hk => by have e := h (k - n); rwa [Nat.sub_add_cancel hk] at e⟩
/-- A word of 64 bits. -/
def W64 (x : Int) : Prop := 0 ≤ x ∧ x < 18446744073709551616
theorem W64_of {a : Int} (h : (Lit.int .u64 a).wf = true) : W64 a := by
  simp [Lit.wf, IntKind.min, IntKind.max, IntKind.bits, IntKind.signed] at h
  unfold W64; omega
theorem andm {x : Int} (h : W64 x) (n : Nat) (hn : n < 64) : Go.bits .and .u64 x ((2 ^ n - 1 : Nat) : Int) = ((x.toNat % 2 ^ n : Nat) : Int) := by
  obtain ⟨h0, h1⟩ := h
  have hp : 2 ^ n < 2 ^ 64 := Nat.pow_lt_pow_right (by decide) hn
  have h2 := bits_and_u64_nat x.toNat (2 ^ n - 1) (by omega) (by omega)
  have e : ((x.toNat : Nat) : Int) = x := by omega
  rw [e, Nat.and_two_pow_sub_one_eq_mod] at h2
  exact h2
theorem and2047 {x : Int} (h : W64 x) : Go.bits .and .u64 x 2047 = x % 2048 := by
  have h2 := andm h 11 (by decide)
  have h0 := h.1
  have e : ((2 ^ 11 - 1 : Nat) : Int) = 2047 := rfl
  rw [e] at h2
  rw [h2]
  have : ((2 : Nat) ^ 11) = 2048 := rfl
  rw [this]; omega
theorem andFrac {x : Int} (h : W64 x) : Go.bits .and .u64 x 4503599627370495 = x % 4503599627370496 := by
  have h2 := andm h 52 (by decide)
  have h0 := h.1
  have e : ((2 ^ 52 - 1 : Nat) : Int) = 4503599627370495 := rfl
  rw [e] at h2
  rw [h2]
  have : ((2 : Nat) ^ 52) = 4503599627370496 := rfl
  rw [this]; omega
theorem andNotSign {x : Int} (h : W64 x) : Go.bits .andNot .u64 x 9223372036854775808 = x % 9223372036854775808 := by
  have h2 := andm h 63 (by decide)
  have h0 := h.1
  have e : Go.bits .andNot .u64 x 9223372036854775808 = Go.bits .and .u64 x ((2 ^ 63 - 1 : Nat) : Int) := by
    show IntKind.u64.wrap ((BitVec.ofInt 64 x &&& ~~~ BitVec.ofInt 64 9223372036854775808).toNat : Int) = IntKind.u64.wrap ((BitVec.ofInt 64 x &&& BitVec.ofInt 64 ((2 ^ 63 - 1 : Nat) : Int)).toNat : Int)
    have : ~~~ BitVec.ofInt 64 9223372036854775808 = BitVec.ofInt 64 ((2 ^ 63 - 1 : Nat) : Int) := by decide
    rw [this]
  rw [e, h2]
  have : ((2 : Nat) ^ 63) = 9223372036854775808 := rfl
  rw [this]; omega
theorem orHigh {x y : Int} (n : Nat) (hn : n < 64) (x0 : 0 ≤ x) (hx : W64 (x * ((2 ^ n : Nat) : Int))) (y0 : 0 ≤ y) (y1 : y.toNat < 2 ^ n) :
    Go.bits .or .u64 (x * ((2 ^ n : Nat) : Int)) y = x * ((2 ^ n : Nat) : Int) + y := by
  obtain ⟨h0, h1⟩ := hx
  have hp : 2 ^ n < 2 ^ 64 := Nat.pow_lt_pow_right (by decide) hn
  have hm : x * ((2 ^ n : Nat) : Int) = ((2 ^ n * x.toNat : Nat) : Int) := by
    rw [Int.natCast_mul, Int.toNat_of_nonneg x0, Int.mul_comm]
  rw [hm] at h1 ⊢
  have h2 := bits_or_u64_nat (2 ^ n * x.toNat) y.toNat (by omega) (by omega)
  have e : ((y.toNat : Nat) : Int) = y := by omega
  rw [e, ← Nat.two_pow_add_eq_or_of_lt y1] at h2
  rw [h2]; omega
theorem orSign {x : Int} (h0 : 0 ≤ x) (h1 : x < 9223372036854775808) : Go.bits .or .u64 x 9223372036854775808 = x + 9223372036854775808 := by
  have h := bits_or_u64_nat x.toNat 9223372036854775808 (by omega) (by omega)
  have e : ((x.toNat : Nat) : Int) = x := by omega
  have e2 := Nat.two_pow_add_eq_or_of_lt (i := 63) (b := x.toNat) (by omega) 1
  rw [Nat.mul_one, show (2 : Nat) ^ 63 = 9223372036854775808 from rfl] at e2
  rw [e, Nat.or_comm, ← e2] at h
  have e3 : (((9223372036854775808 : Nat)) : Int) = 9223372036854775808 := rfl
  rw [e3] at h
  rw [h]; omega
theorem xorSign {x : Int} (h : W64 x) : Go.bits .xor .u64 x 9223372036854775808 = if 9223372036854775808 ≤ x then x - 9223372036854775808 else x + 9223372036854775808 := by
  obtain ⟨h0, h1⟩ := h
  have hx : (BitVec.ofInt 64 x).toNat = x.toNat := by
    rw [BitVec.toNat_ofInt]; omega
  have hs : (BitVec.ofInt 64 9223372036854775808).toNat = 9223372036854775808 := by decide
  have e : Go.bits .xor .u64 x 9223372036854775808 = IntKind.u64.wrap ((x.toNat ^^^ 9223372036854775808 : Nat) : Int) := by
    show IntKind.u64.wrap ((BitVec.ofInt 64 x ^^^ BitVec.ofInt 64 9223372036854775808).toNat : Int) = _
    rw [BitVec.toNat_xor, hx, hs]
  have key : ∀ t : Nat, t < 9223372036854775808 → (t ^^^ 9223372036854775808 = t + 9223372036854775808) := fun t ht => by
    have e2 := Nat.two_pow_add_eq_or_of_lt (i := 63) (b := t) (by omega) 1
    rw [Nat.mul_one, show (2 : Nat) ^ 63 = 9223372036854775808 from rfl] at e2
    have hd : t &&& 9223372036854775808 = 0 := by
      have : (9223372036854775808 : Nat) = 2 ^ 63 := rfl
      rw [this]
      apply Nat.eq_of_testBit_eq
      intro i
      rw [Nat.testBit_and, Nat.testBit_two_pow, Nat.zero_testBit]
      by_cases hi : 63 = i
      · subst hi
        rw [Nat.testBit_lt_two_pow (by omega)]; rfl
      · simp [hi]
    have e3 : t ^^^ 9223372036854775808 = t ||| 9223372036854775808 := by
      apply Nat.eq_of_testBit_eq
      intro i
      have hb := congrArg (fun n => Nat.testBit n i) hd
      simp only [Nat.testBit_and, Nat.zero_testBit] at hb
      rw [Nat.testBit_xor, Nat.testBit_or]
      cases h1 : t.testBit i <;> cases h2 : Nat.testBit 9223372036854775808 i <;> simp_all
    rw [e3, Nat.or_comm, ← e2]; omega
  rw [e]
  by_cases hb : 9223372036854775808 ≤ x
  · rw [if_pos hb]
    have h2 := key (x.toNat - 9223372036854775808) (by omega)
    have e4 : x.toNat = (x.toNat - 9223372036854775808) ^^^ 9223372036854775808 := by rw [h2]; omega
    rw [e4, Nat.xor_assoc, Nat.xor_self, Nat.xor_zero, u64i (by omega) (by omega)]; omega
  · rw [if_neg hb, key x.toNat (by omega), u64i (by omega) (by omega)]; omega
/-! ### parts, classes, keys -/
theorem pParts_eq {x : Int} (h : W64 x) : pattern_Parts.f x = some ((x / 9223372036854775808) == 1, x / 4503599627370496 % 2048, x % 4503599627370496) := by
  unfold pattern_Parts.f
  obtain ⟨h0, h1⟩ := h
  rw [andFrac ⟨h0, h1⟩, and2047 ⟨by omega, by omega⟩, w64 (by omega) (by omega)]
/-- A float's class: 0, 1, 2, 3, 4: nought, subnormal, normal, infinite, none. -/
def cls (x : Int) : Int := if x / 4503599627370496 % 2048 = 2047 then (if x % 4503599627370496 = 0 then 3 else 4) else if x / 4503599627370496 % 2048 = 0 then (if x % 4503599627370496 = 0 then 0 else 1) else 2
theorem pClass_eq {x : Int} (h : W64 x) (k : Nat) : pattern_Class.f (k + 2) x = some (cls x) := by
  unfold pattern_Class.f cls
  rw [pParts_eq h]
  simp only [Option.bind_some]
  by_cases h1 : x / 4503599627370496 % 2048 = 2047
  · by_cases h2 : x % 4503599627370496 = 0 <;> simp [pattern_Class.j0, h1, h2]
  · by_cases h3 : x / 4503599627370496 % 2048 = 0
    · by_cases h2 : x % 4503599627370496 = 0 <;> simp [pattern_Class.j0, pattern_Class.j1, h3, h2]
    · simp [pattern_Class.j0, pattern_Class.j1, h1, h3]
theorem cls4 {x : Int} (h : W64 x) : cls x = 4 ↔ 9218868437227405312 < x % 9223372036854775808 := by
  obtain ⟨h0, h1⟩ := h
  unfold cls
  split
  · split <;> omega
  · split
    · split <;> omega
    · omega
def key (x : Int) : Int := if x / 9223372036854775808 = 1 then -(x % 9223372036854775808) else x % 9223372036854775808
theorem pKey_eq {x : Int} (h : W64 x) : pattern_key.f x = some (key x) := by
  unfold pattern_key.f key
  rw [andNotSign h, w64 (x := x % 9223372036854775808) (by omega) (by omega), w64 (by omega) (by omega)]
  split <;> rfl
def cmpF (a b : Int) : Int × Bool := if cls a = 4 ∨ cls b = 4 then (0, false) else if key a < key b then (-1, true) else if key b < key a then (1, true) else (0, true)
theorem pCmp_eq {a b : Int} (ha : W64 a) (hb : W64 b) (k : Nat) : pattern_Cmp.f (k + 2) a b = some (cmpF a b) := by
  unfold pattern_Cmp.f pattern_nan.f cmpF
  rw [pClass_eq ha, pClass_eq hb]
  by_cases h1 : cls a = 4
  · simp [h1, pattern_Cmp.j0]
  · by_cases h2 : cls b = 4
    · simp [h1, h2, pattern_Cmp.j0]
    · have e1 : (cls a == 4) = false := by simpa using h1
      have e2 : (cls b == 4) = false := by simpa using h2
      rw [if_neg (by simp [h1, h2])]
      simp only [Option.bind_some, e1, e2, pattern_Cmp.j0, pKey_eq ha, pKey_eq hb]
      by_cases c1 : key a < key b
      · simp [c1]
      · by_cases c2 : key b < key a <;> simp [c1, c2]
theorem pLess_eq {a b : Int} (ha : W64 a) (hb : W64 b) (k : Nat) : pattern_Less.f (k + 2) a b = some ((cmpF a b).2 && decide ((cmpF a b).1 < 0)) := by
  unfold pattern_Less.f
  rw [pCmp_eq ha hb]
  simp only [Option.bind_some]
  cases (cmpF a b).2 <;> simp
/-- Below, of floats that are numbers. -/
def ltF (a b : Int) : Bool := (cmpF a b).2 && decide ((cmpF a b).1 < 0)
theorem ltF_iff (a b : Int) : ltF a b = true ↔ cls a ≠ 4 ∧ cls b ≠ 4 ∧ key a < key b := by
  unfold ltF cmpF
  by_cases h : cls a = 4 ∨ cls b = 4
  · rw [if_pos h]; simp; omega
  · rw [if_neg h]
    by_cases h1 : key a < key b
    · rw [if_pos h1]; simp; omega
    · rw [if_neg h1]
      by_cases h2 : key b < key a
      · rw [if_pos h2]; simp; omega
      · rw [if_neg h2]; simp; omega
/-! ### making -/
theorem pMake_eq (neg : Bool) (e m : Int) (he : -9223372036854775808 ≤ e ∧ e ≤ 9223372036854775807) (hm : W64 m) (k : Nat) :
    pattern_Make.f (k + 1) neg e m = some (if 0 ≤ e ∧ e ≤ 2047 ∧ m < 4503599627370496 then ((e * 4503599627370496 + m + (if neg = true then 9223372036854775808 else 0), 0) : Int × Int) else (0, 1)) := by
  obtain ⟨m0, m1⟩ := hm
  unfold pattern_Make.f
  by_cases h1 : e < 0
  · rw [if_pos h1, if_neg (by omega)]; simp [pattern_Make.j0]
  · rw [if_neg h1]
    by_cases h2 : e > 2047
    · rw [if_pos h2, if_neg (by omega)]; simp [pattern_Make.j0]
    · rw [if_neg h2]
      by_cases h3 : m > 4503599627370495
      · rw [decide_eq_true h3, if_neg (by omega)]; simp [pattern_Make.j0]
      · rw [decide_eq_false h3, if_pos (by omega)]
        have hu : IntKind.u64.wrap (IntKind.u64.wrap e * 4503599627370496) = e * ((2 ^ 52 : Nat) : Int) := by
          rw [u64i (x := e) (by omega) (by omega), u64i (by omega) (by omega)]; rfl
        have ho := orHigh (x := e) (y := m) 52 (by decide) (by omega) ⟨by simp; omega, by simp; omega⟩ m0 (by omega)
        have e52 : ((2 ^ 52 : Nat) : Int) = 4503599627370496 := rfl
        simp only [pattern_Make.j0]
        rw [hu, ho, e52]
        cases neg
        · simp
        · rw [orSign (by omega) (by omega)]; simp
theorem pInf_eq (k : Nat) : pattern_Inf.f (k + 1) false = some 9218868437227405312 := by
  unfold pattern_Inf.f
  rw [pMake_eq _ _ _ (by omega) ⟨by omega, by omega⟩]
  rfl
end Go.Proofs.Ytagbnkbhobmgjaa.Pure
end
section
/- A float's neighbours, as arithmetic on words of 64 bits. -/
set_option linter.unusedVariables false
set_option linter.unusedSimpArgs false
namespace Go.Proofs.Ytagbnkbhobmgjaa.Pure
open Go.RowKit Go.Proofs.Ytagbnkbhobmgjaa.Fn Go.Proofs.YtagbnkbhobmgjaaW.PrintWords Go.Proofs.YtagbnkbhobmgjaaW.PrintMore Go.Proofs.YtagbnkbhobmgjaaW.PrintLast
/-! ### neighbours -/
def nxt (x : Int) : Int := if cls x = 4 ∨ x = 9218868437227405312 then x else if x % 9223372036854775808 = 0 then 1 else if x / 9223372036854775808 = 1 then x - 1 else x + 1
def ng (x : Int) : Int := if cls x = 4 then x else if 9223372036854775808 ≤ x then x - 9223372036854775808 else x + 9223372036854775808
theorem W64_nxt {x : Int} (h : W64 x) : W64 (nxt x) := by
  have h4 := cls4 h
  unfold W64 at *; unfold nxt
  split
  · omega
  · split
    · omega
    · split <;> omega
theorem W64_ng {x : Int} (h : W64 x) : W64 (ng x) := by
  unfold W64 at *; unfold ng
  split
  · omega
  · split <;> omega
theorem key0 {x : Int} : key x = 0 ↔ x % 9223372036854775808 = 0 := by
  unfold key; split <;> omega
theorem u64i' {x : Int} (h : W64 x) : IntKind.u64.wrap x = x := u64i h.1 h.2
theorem pNext_eq {x : Int} (h : W64 x) (k : Nat) : pattern_Next.f (k + 2) x = some (nxt x) := by
  have w1 : x / 9223372036854775808 = 1 → W64 (x - 1) := fun e => by unfold W64 at *; omega
  have w2 : ¬ x / 9223372036854775808 = 1 → W64 (x + 1) := fun e => by unfold W64 at *; omega
  unfold pattern_Next.f pattern_nan.f nxt
  rw [pClass_eq h]
  by_cases h1 : cls x = 4
  · simp [h1, pattern_Next.j0]
  · have e1 : (cls x == 4) = false := by simpa using h1
    simp only [Option.bind_some, e1]
    rw [show k + 2 = (k + 1) + 1 from rfl, pInf_eq]
    by_cases h2 : x = 9218868437227405312
    · simp [h2, pattern_Next.j0]
    · have e2 : (x == 9218868437227405312) = false := by simpa using h2
      rw [if_neg (show ¬ (cls x = 4 ∨ x = 9218868437227405312) from fun c => c.elim h1 h2)]
      simp only [Option.bind_some, e2, pattern_Next.j0, pKey_eq h, key0]
      by_cases h3 : x % 9223372036854775808 = 0
      · simp [h3]
      · by_cases hs : x / 9223372036854775808 = 1
        · simp [h3, hs, u64i' (w1 hs)]
        · simp [h3, hs, u64i' (w2 hs)]
theorem pNeg_eq {x : Int} (h : W64 x) (k : Nat) : pattern_Neg.f (k + 2) x = some (ng x) := by
  unfold pattern_Neg.f pattern_nan.f ng
  rw [pClass_eq h, xorSign h]
  by_cases h1 : cls x = 4
  · simp [h1]
  · have e1 : (cls x == 4) = false := by simpa using h1
    simp only [Option.bind_some, e1, if_neg h1]
    rfl
theorem pPrev_of {k : Nat} {x a b c : Int} (h1 : pattern_Neg.f k x = some a) (h2 : pattern_Next.f k a = some b) (h3 : pattern_Neg.f k b = some c) : pattern_Prev.f k x = some c := by
  unfold pattern_Prev.f
  rw [h1, Option.bind_some, h2, Option.bind_some, h3, Option.bind_some]
theorem pPrev_eq {x : Int} (h : W64 x) (k : Nat) : pattern_Prev.f (k + 2) x = some (ng (nxt (ng x))) := pPrev_of (pNeg_eq h k) (pNext_eq (W64_ng h) k) (pNeg_eq (W64_nxt (W64_ng h)) k)
/-! ### the document's neighbours -/
theorem key_p {x : Int} (hs : x / 9223372036854775808 = 1) : key x = -(x % 9223372036854775808) := if_pos hs
theorem key_n {x : Int} (hs : ¬ x / 9223372036854775808 = 1) : key x = x % 9223372036854775808 := if_neg hs
theorem nxt_of {x : Int} (h1 : ¬ cls x = 4) (h2 : ¬ x = 9218868437227405312) : nxt x = if x % 9223372036854775808 = 0 then 1 else if x / 9223372036854775808 = 1 then x - 1 else x + 1 := by
  unfold nxt; rw [if_neg (fun c => c.elim h1 h2)]
/-- The next float, by its key. -/
theorem nxt_key {x : Int} (h : W64 x) (h1 : ¬ cls x = 4) (h2 : ¬ x = 9218868437227405312) : nxt x = if key x + 1 < 0 ∨ key x + 1 = 0 ∧ key x < 0 then 9223372036854775808 - (key x + 1) else key x + 1 := by
  rw [nxt_of h1 h2]
  unfold W64 at h
  by_cases hs : x / 9223372036854775808 = 1
  · rw [key_p hs, if_pos hs]
    by_cases h3 : x % 9223372036854775808 = 0
    · rw [if_pos h3, if_neg (by omega)]; omega
    · rw [if_neg h3, if_pos (by omega)]; omega
  · rw [key_n hs, if_neg hs, if_neg (show ¬ (x % 9223372036854775808 + 1 < 0 ∨ x % 9223372036854775808 + 1 = 0 ∧ x % 9223372036854775808 < 0) by omega)]
    by_cases h3 : x % 9223372036854775808 = 0
    · rw [if_pos h3]; omega
    · rw [if_neg h3]; omega
theorem key_bound {x : Int} (h : W64 x) (h1 : ¬ cls x = 4) : -9218868437227405312 ≤ key x ∧ key x ≤ 9218868437227405312 := by
  rw [cls4 h] at h1
  unfold key; split <;> omega
theorem key_max {x : Int} (h : W64 x) (h1 : ¬ cls x = 4) : key x = 9218868437227405312 ↔ x = 9218868437227405312 := by
  rw [cls4 h] at h1
  unfold W64 at h
  unfold key; split <;> omega
theorem ng_eq {x : Int} (h1 : ¬ cls x = 4) : ng x = if 9223372036854775808 ≤ x then x - 9223372036854775808 else x + 9223372036854775808 := by
  unfold ng; rw [if_neg h1]
theorem ng_cls {x : Int} (h : W64 x) (h1 : ¬ cls x = 4) : ¬ cls (ng x) = 4 := by
  have hw := W64_ng h
  rw [cls4 hw, ng_eq h1]
  rw [cls4 h] at h1
  unfold W64 at h
  split <;> omega
theorem nxt_cls {x : Int} (h : W64 x) (h1 : ¬ cls x = 4) : ¬ cls (nxt x) = 4 := by
  have hw := W64_nxt h
  by_cases h2 : x = 9218868437227405312
  · have e : nxt x = x := by unfold nxt; rw [if_pos (Or.inr h2)]
    rw [e]; exact h1
  · obtain ⟨b0, b1⟩ := key_bound h h1
    have hk : ¬ key x = 9218868437227405312 := fun c => h2 ((key_max h h1).1 c)
    rw [cls4 hw, nxt_key h h1 h2]
    split <;> omega
theorem ng_key {x : Int} (h : W64 x) (h1 : ¬ cls x = 4) : key (ng x) = - key x := by
  unfold W64 at h
  rw [ng_eq h1]
  by_cases hb : 9223372036854775808 ≤ x
  · rw [if_pos hb, key_p (x := x) (by omega), key_n (by omega)]; omega
  · rw [if_neg hb, key_n (x := x) (by omega), key_p (by omega)]; omega
/-! ### the same, with enough rounds -/
theorem pNext_ev {x : Int} (h : W64 x) : Ev (fun k => pattern_Next.f k x) (nxt x) := evAt 2 (pNext_eq h)
theorem pPrev_ev {x : Int} (h : W64 x) : Ev (fun k => pattern_Prev.f k x) (ng (nxt (ng x))) := evAt 2 (pPrev_eq h)
theorem pClass_ev {x : Int} (h : W64 x) : Ev (fun k => pattern_Class.f k x) (cls x) := evAt 2 (pClass_eq h)
theorem pCmp_ev {a b : Int} (ha : W64 a) (hb : W64 b) : Ev (fun k => pattern_Cmp.f k a b) (cmpF a b) := evAt 2 (pCmp_eq ha hb)
theorem pLess_ev {a b : Int} (ha : W64 a) (hb : W64 b) : Ev (fun k => pattern_Less.f k a b) (ltF a b) := evAt 2 (pLess_eq ha hb)
end Go.Proofs.Ytagbnkbhobmgjaa.Pure
end
