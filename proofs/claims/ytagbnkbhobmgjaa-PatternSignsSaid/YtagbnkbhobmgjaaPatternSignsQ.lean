/- With the other sign, and without one, a float's parts are the same; a NaN stays as it is. Part 17 of 20. -/
import Derived.Test.YtagbnkbhobmgjaaPatternSignsO
import Derived.Test.YtagbnkbhobmgjaaPatternSignsE
import Derived.Test.YtagbnkbhobmgjaaPatternSignsL
import Derived.Test.YtagbnkbhobmgjaaPatternSignsP
section
/- What the functions on floats' patterns come to, as arithmetic on words of 64 bits. -/
set_option linter.unusedVariables false
set_option linter.unusedSimpArgs false
namespace Go.Proofs.Ytagbnkbhobmgjaa.Pure
open Go.RowKit Go.Proofs.Ytagbnkbhobmgjaa.Fn Go.Proofs.YtagbnkbhobmgjaaW.PrintWords Go.Proofs.YtagbnkbhobmgjaaW.PrintMore Go.Proofs.YtagbnkbhobmgjaaW.PrintLast
theorem evAt {α : Type} {g : Nat → Option α} {r : α} (n : Nat) (h : ∀ k, g (k + n) = some r) : Ev g r := ⟨n, fun k hk => by have e := h (k - n); rwa [Nat.sub_add_cancel hk] at e⟩
/-- A word of 64 bits. -/
def W64 (x : Int) : Prop := 0 ≤ x ∧ x < 18446744073709551616
theorem W64_of {a : Int} (h : (Lit.int .u64 a).wf = true) : W64 a := by
  simp [Lit.wf, IntKind.min, IntKind.max, IntKind.bits, IntKind.signed] at h
  unfold W64; omega
theorem andm {x : Int} (h : W64 x) (n : Nat) (hn : n < 64) : Go.bits .and .u64 x ((2 ^ n - 1 : Nat) : Int) = ((x.toNat % 2 ^ n : Nat) : Int) := by
  obtain ⟨h0, h1⟩ := h
  have hp : 2 ^ n < 2 ^ 64 := Nat.pow_lt_pow_right (by decide) hn
  have h2 := bits_and_u64_nat x.toNat (2 ^ n - 1) (by omega) (by omega)
  have e : ((x.toNat : Nat) : Int) = x := by omega
  rw [e, Nat.and_two_pow_sub_one_eq_mod] at h2
  exact h2
theorem and2047 {x : Int} (h : W64 x) : Go.bits .and .u64 x 2047 = x % 2048 := by
  have h2 := andm h 11 (by decide)
  have h0 := h.1
  have e : ((2 ^ 11 - 1 : Nat) : Int) = 2047 := rfl
  rw [e] at h2
  rw [h2]
  have : ((2 : Nat) ^ 11) = 2048 := rfl
  rw [this]; omega
theorem andFrac {x : Int} (h : W64 x) : Go.bits .and .u64 x 4503599627370495 = x % 4503599627370496 := by
  have h2 := andm h 52 (by decide)
  have h0 := h.1
  have e : ((2 ^ 52 - 1 : Nat) : Int) = 4503599627370495 := rfl
  rw [e] at h2
  rw [h2]
  have : ((2 : Nat) ^ 52) = 4503599627370496 := rfl
  rw [this]; omega
theorem andNotSign {x : Int} (h : W64 x) : Go.bits .andNot .u64 x 9223372036854775808 = x % 9223372036854775808 := by
  have h2 := andm h 63 (by decide)
  have h0 := h.1
  have e : Go.bits .andNot .u64 x 9223372036854775808 = Go.bits .and .u64 x ((2 ^ 63 - 1 : Nat) : Int) := by
    show IntKind.u64.wrap ((BitVec.ofInt 64 x &&& ~~~ BitVec.ofInt 64 9223372036854775808).toNat : Int) = IntKind.u64.wrap ((BitVec.ofInt 64 x &&& BitVec.ofInt 64 ((2 ^ 63 - 1 : Nat) : Int)).toNat : Int)
    have : ~~~ BitVec.ofInt 64 9223372036854775808 = BitVec.ofInt 64 ((2 ^ 63 - 1 : Nat) : Int) := by decide
    rw [this]
  rw [e, h2]
  have : ((2 : Nat) ^ 63) = 9223372036854775808 := rfl
  rw [this]; omega
theorem xorSign {x : Int} (h : W64 x) : Go.bits .xor .u64 x 9223372036854775808 = if 9223372036854775808 ≤ x then x - 9223372036854775808 else x + 9223372036854775808 := by
  obtain ⟨h0, h1⟩ := h
  have hx : (BitVec.ofInt 64 x).toNat = x.toNat := by
    rw [BitVec.toNat_ofInt]; omega
  have hs : (BitVec.ofInt 64 9223372036854775808).toNat = 9223372036854775808 := by decide
  have e : Go.bits .xor .u64 x 9223372036854775808 = IntKind.u64.wrap ((x.toNat ^^^ 9223372036854775808 : Nat) : Int) := by
    show IntKind.u64.wrap ((BitVec.ofInt 64 x ^^^ BitVec.ofInt 64 9223372036854775808).toNat : Int) = _
    rw [BitVec.toNat_xor, hx, hs]
  have key : ∀ t : Nat, t < 9223372036854775808 → (t ^^^ 9223372036854775808 = t + 9223372036854775808) := fun t ht => by
    have e2 := Nat.two_pow_add_eq_or_of_lt (i := 63) (b := t) (by omega) 1
    rw [Nat.mul_one, show (2 : Nat) ^ 63 = 9223372036854775808 from rfl] at e2
    have hd : t &&& 9223372036854775808 = 0 := by
      have : (9223372036854775808 : Nat) = 2 ^ 63 := rfl
      rw [this]
      apply Nat.eq_of_testBit_eq
      intro i
      rw [Nat.testBit_and, Nat.testBit_two_pow, Nat.zero_testBit]
      by_cases hi : 63 = i
      · subst hi
        rw [Nat.testBit_lt_two_pow (by omega)]; rfl
      · simp [hi]
    have e3 : t ^^^ 9223372036854775808 = t ||| 9223372036854775808 := by
      apply Nat.eq_of_testBit_eq
      intro i
      have hb := congrArg (fun n => Nat.testBit n i) hd
      simp only [Nat.testBit_and, Nat.zero_testBit] at hb
      rw [Nat.testBit_xor, Nat.testBit_or]
      cases h1 : t.testBit i <;> cases h2 : Nat.testBit 9223372036854775808 i <;> simp_all
    rw [e3, Nat.or_comm, ← e2]; omega
  rw [e]
  by_cases hb : 9223372036854775808 ≤ x
  · rw [if_pos hb]
    have h2 := key (x.toNat - 9223372036854775808) (by omega)
    have e4 : x.toNat = (x.toNat - 9223372036854775808) ^^^ 9223372036854775808 := by rw [h2]; omega
    rw [e4, Nat.xor_assoc, Nat.xor_self, Nat.xor_zero, u64i (by omega) (by omega)]; omega
  · rw [if_neg hb, key x.toNat (by omega), u64i (by omega) (by omega)]; omega
/-! ### parts, classes, keys -/
theorem pParts_eq {x : Int} (h : W64 x) : pattern_Parts.f x = some ((x / 9223372036854775808) == 1, x / 4503599627370496 % 2048, x % 4503599627370496) := by
  unfold pattern_Parts.f
  obtain ⟨h0, h1⟩ := h
  rw [andFrac ⟨h0, h1⟩, and2047 ⟨by omega, by omega⟩, w64 (by omega) (by omega)]
/-- A float's class: 0, 1, 2, 3, 4: nought, subnormal, normal, infinite, none. -/
def cls (x : Int) : Int := if x / 4503599627370496 % 2048 = 2047 then (if x % 4503599627370496 = 0 then 3 else 4) else if x / 4503599627370496 % 2048 = 0 then (if x % 4503599627370496 = 0 then 0 else 1) else 2
theorem pClass_eq {x : Int} (h : W64 x) (k : Nat) : pattern_Class.f (k + 2) x = some (cls x) := by
  unfold pattern_Class.f cls
  rw [pParts_eq h]
  simp only [Option.bind_some]
  by_cases h1 : x / 4503599627370496 % 2048 = 2047
  · by_cases h2 : x % 4503599627370496 = 0 <;> simp [pattern_Class.j0, h1, h2]
  · by_cases h3 : x / 4503599627370496 % 2048 = 0
    · by_cases h2 : x % 4503599627370496 = 0 <;> simp [pattern_Class.j0, pattern_Class.j1, h3, h2]
    · simp [pattern_Class.j0, pattern_Class.j1, h1, h3]
theorem cls4 {x : Int} (h : W64 x) : cls x = 4 ↔ 9218868437227405312 < x % 9223372036854775808 := by
  obtain ⟨h0, h1⟩ := h
  unfold cls
  split
  · split <;> omega
  · split
    · split <;> omega
    · omega
def key (x : Int) : Int := if x / 9223372036854775808 = 1 then -(x % 9223372036854775808) else x % 9223372036854775808
/-! ### making -/
end Go.Proofs.Ytagbnkbhobmgjaa.Pure
end
section
/- A float's neighbours, as arithmetic on words of 64 bits. -/
set_option linter.unusedVariables false
set_option linter.unusedSimpArgs false
namespace Go.Proofs.Ytagbnkbhobmgjaa.Pure
open Go.RowKit Go.Proofs.Ytagbnkbhobmgjaa.Fn Go.Proofs.YtagbnkbhobmgjaaW.PrintWords Go.Proofs.YtagbnkbhobmgjaaW.PrintMore Go.Proofs.YtagbnkbhobmgjaaW.PrintLast
/-! ### neighbours -/
def ng (x : Int) : Int := if cls x = 4 then x else if 9223372036854775808 ≤ x then x - 9223372036854775808 else x + 9223372036854775808
theorem W64_ng {x : Int} (h : W64 x) : W64 (ng x) := by
  unfold W64 at *; unfold ng
  split
  · omega
  · split <;> omega
theorem pNeg_eq {x : Int} (h : W64 x) (k : Nat) : pattern_Neg.f (k + 2) x = some (ng x) := by
  unfold pattern_Neg.f pattern_nan.f ng
  rw [pClass_eq h, xorSign h]
  by_cases h1 : cls x = 4
  · simp [h1]
  · have e1 : (cls x == 4) = false := by simpa using h1
    simp only [Option.bind_some, e1, if_neg h1]
    rfl
theorem pAbs_eq {x : Int} (h : W64 x) (k : Nat) : pattern_Abs.f (k + 2) x = some (if cls x = 4 then x else x % 9223372036854775808) := by
  unfold pattern_Abs.f pattern_nan.f
  rw [pClass_eq h, andNotSign h]
  by_cases h1 : cls x = 4
  · simp [h1]
  · have e1 : (cls x == 4) = false := by simpa using h1
    simp only [Option.bind_some, e1, if_neg h1]
    rfl
/-! ### the document's neighbours -/
theorem ng_eq {x : Int} (h1 : ¬ cls x = 4) : ng x = if 9223372036854775808 ≤ x then x - 9223372036854775808 else x + 9223372036854775808 := by
  unfold ng; rw [if_neg h1]
theorem ng_cls {x : Int} (h : W64 x) (h1 : ¬ cls x = 4) : ¬ cls (ng x) = 4 := by
  have hw := W64_ng h
  rw [cls4 hw, ng_eq h1]
  rw [cls4 h] at h1
  unfold W64 at h
  split <;> omega
/-! ### the same, with enough rounds -/
theorem pNeg_ev {x : Int} (h : W64 x) : Ev (fun k => pattern_Neg.f k x) (ng x) := evAt 2 (pNeg_eq h)
theorem pAbs_ev {x : Int} (h : W64 x) : Ev (fun k => pattern_Abs.f k x) (if cls x = 4 then x else x % 9223372036854775808) := evAt 2 (pAbs_eq h)
theorem pClass_ev {x : Int} (h : W64 x) : Ev (fun k => pattern_Class.f k x) (cls x) := evAt 2 (pClass_eq h)
end Go.Proofs.Ytagbnkbhobmgjaa.Pure
end
