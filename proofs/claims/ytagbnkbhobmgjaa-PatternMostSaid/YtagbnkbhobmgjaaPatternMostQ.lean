/- The greatest of some is one of them, and none is above; the least likewise; where one is no number, or there is none, it is the quiet NaN. Part 17 of 21. -/
import Derived.Test.YtagbnkbhobmgjaaPatternMostO
import Derived.Test.YtagbnkbhobmgjaaPatternMostE
import Derived.Test.YtagbnkbhobmgjaaPatternMostL
import Derived.Test.YtagbnkbhobmgjaaPatternMostP
section
/- What the functions on floats' patterns come to, as arithmetic on words of 64 bits. -/
set_option linter.unusedVariables false
set_option linter.unusedSimpArgs false
namespace Go.Proofs.Ytagbnkbhobmgjaa.Pure
open Go.RowKit Go.Proofs.Ytagbnkbhobmgjaa.Fn Go.Proofs.YtagbnkbhobmgjaaW.PrintWords Go.Proofs.YtagbnkbhobmgjaaW.PrintMore Go.Proofs.YtagbnkbhobmgjaaW.PrintLast
theorem evAt {α : Type} {g : Nat → Option α} {r : α} (n : Nat) (h : ∀ k, g (k + n) = some r) : Ev g r := ⟨n, fun k hk => by have e := h (k - n); rwa [Nat.sub_add_cancel hk] at e⟩
/-- A word of 64 bits. -/
def W64 (x : Int) : Prop := 0 ≤ x ∧ x < 18446744073709551616
theorem W64_of {a : Int} (h : (Lit.int .u64 a).wf = true) : W64 a := by
  simp [Lit.wf, IntKind.min, IntKind.max, IntKind.bits, IntKind.signed] at h
  unfold W64; omega
theorem andm {x : Int} (h : W64 x) (n : Nat) (hn : n < 64) : Go.bits .and .u64 x ((2 ^ n - 1 : Nat) : Int) = ((x.toNat % 2 ^ n : Nat) : Int) := by
  obtain ⟨h0, h1⟩ := h
  have hp : 2 ^ n < 2 ^ 64 := Nat.pow_lt_pow_right (by decide) hn
  have h2 := bits_and_u64_nat x.toNat (2 ^ n - 1) (by omega) (by omega)
  have e : ((x.toNat : Nat) : Int) = x := by omega
  rw [e, Nat.and_two_pow_sub_one_eq_mod] at h2
  exact h2
theorem and2047 {x : Int} (h : W64 x) : Go.bits .and .u64 x 2047 = x % 2048 := by
  have h2 := andm h 11 (by decide)
  have h0 := h.1
  have e : ((2 ^ 11 - 1 : Nat) : Int) = 2047 := rfl
  rw [e] at h2
  rw [h2]
  have : ((2 : Nat) ^ 11) = 2048 := rfl
  rw [this]; omega
theorem andFrac {x : Int} (h : W64 x) : Go.bits .and .u64 x 4503599627370495 = x % 4503599627370496 := by
  have h2 := andm h 52 (by decide)
  have h0 := h.1
  have e : ((2 ^ 52 - 1 : Nat) : Int) = 4503599627370495 := rfl
  rw [e] at h2
  rw [h2]
  have : ((2 : Nat) ^ 52) = 4503599627370496 := rfl
  rw [this]; omega
theorem andNotSign {x : Int} (h : W64 x) : Go.bits .andNot .u64 x 9223372036854775808 = x % 9223372036854775808 := by
  have h2 := andm h 63 (by decide)
  have h0 := h.1
  have e : Go.bits .andNot .u64 x 9223372036854775808 = Go.bits .and .u64 x ((2 ^ 63 - 1 : Nat) : Int) := by
    show IntKind.u64.wrap ((BitVec.ofInt 64 x &&& ~~~ BitVec.ofInt 64 9223372036854775808).toNat : Int) = IntKind.u64.wrap ((BitVec.ofInt 64 x &&& BitVec.ofInt 64 ((2 ^ 63 - 1 : Nat) : Int)).toNat : Int)
    have : ~~~ BitVec.ofInt 64 9223372036854775808 = BitVec.ofInt 64 ((2 ^ 63 - 1 : Nat) : Int) := by decide
    rw [this]
  rw [e, h2]
  have : ((2 : Nat) ^ 63) = 9223372036854775808 := rfl
  rw [this]; omega
/-! ### parts, classes, keys -/
theorem pParts_eq {x : Int} (h : W64 x) : pattern_Parts.f x = some ((x / 9223372036854775808) == 1, x / 4503599627370496 % 2048, x % 4503599627370496) := by
  unfold pattern_Parts.f
  obtain ⟨h0, h1⟩ := h
  rw [andFrac ⟨h0, h1⟩, and2047 ⟨by omega, by omega⟩, w64 (by omega) (by omega)]
/-- A float's class: 0, 1, 2, 3, 4: nought, subnormal, normal, infinite, none. -/
def cls (x : Int) : Int := if x / 4503599627370496 % 2048 = 2047 then (if x % 4503599627370496 = 0 then 3 else 4) else if x / 4503599627370496 % 2048 = 0 then (if x % 4503599627370496 = 0 then 0 else 1) else 2
theorem pClass_eq {x : Int} (h : W64 x) (k : Nat) : pattern_Class.f (k + 2) x = some (cls x) := by
  unfold pattern_Class.f cls
  rw [pParts_eq h]
  simp only [Option.bind_some]
  by_cases h1 : x / 4503599627370496 % 2048 = 2047
  · by_cases h2 : x % 4503599627370496 = 0 <;> simp [pattern_Class.j0, h1, h2]
  · by_cases h3 : x / 4503599627370496 % 2048 = 0
    · by_cases h2 : x % 4503599627370496 = 0 <;> simp [pattern_Class.j0, pattern_Class.j1, h3, h2]
    · simp [pattern_Class.j0, pattern_Class.j1, h1, h3]
def key (x : Int) : Int := if x / 9223372036854775808 = 1 then -(x % 9223372036854775808) else x % 9223372036854775808
theorem pKey_eq {x : Int} (h : W64 x) : pattern_key.f x = some (key x) := by
  unfold pattern_key.f key
  rw [andNotSign h, w64 (x := x % 9223372036854775808) (by omega) (by omega), w64 (by omega) (by omega)]
  split <;> rfl
def cmpF (a b : Int) : Int × Bool := if cls a = 4 ∨ cls b = 4 then (0, false) else if key a < key b then (-1, true) else if key b < key a then (1, true) else (0, true)
theorem pCmp_eq {a b : Int} (ha : W64 a) (hb : W64 b) (k : Nat) : pattern_Cmp.f (k + 2) a b = some (cmpF a b) := by
  unfold pattern_Cmp.f pattern_nan.f cmpF
  rw [pClass_eq ha, pClass_eq hb]
  by_cases h1 : cls a = 4
  · simp [h1, pattern_Cmp.j0]
  · by_cases h2 : cls b = 4
    · simp [h1, h2, pattern_Cmp.j0]
    · have e1 : (cls a == 4) = false := by simpa using h1
      have e2 : (cls b == 4) = false := by simpa using h2
      rw [if_neg (by simp [h1, h2])]
      simp only [Option.bind_some, e1, e2, pattern_Cmp.j0, pKey_eq ha, pKey_eq hb]
      by_cases c1 : key a < key b
      · simp [c1]
      · by_cases c2 : key b < key a <;> simp [c1, c2]
theorem pLess_eq {a b : Int} (ha : W64 a) (hb : W64 b) (k : Nat) : pattern_Less.f (k + 2) a b = some ((cmpF a b).2 && decide ((cmpF a b).1 < 0)) := by
  unfold pattern_Less.f
  rw [pCmp_eq ha hb]
  simp only [Option.bind_some]
  cases (cmpF a b).2 <;> simp
/-- Below, of floats that are numbers. -/
def ltF (a b : Int) : Bool := (cmpF a b).2 && decide ((cmpF a b).1 < 0)
theorem ltF_iff (a b : Int) : ltF a b = true ↔ cls a ≠ 4 ∧ cls b ≠ 4 ∧ key a < key b := by
  unfold ltF cmpF
  by_cases h : cls a = 4 ∨ cls b = 4
  · rw [if_pos h]; simp; omega
  · rw [if_neg h]
    by_cases h1 : key a < key b
    · rw [if_pos h1]; simp; omega
    · rw [if_neg h1]
      by_cases h2 : key b < key a
      · rw [if_pos h2]; simp; omega
      · rw [if_neg h2]; simp; omega
/-! ### making -/
end Go.Proofs.Ytagbnkbhobmgjaa.Pure
end
section
/- A float's neighbours, as arithmetic on words of 64 bits. -/
set_option linter.unusedVariables false
set_option linter.unusedSimpArgs false
namespace Go.Proofs.Ytagbnkbhobmgjaa.Pure
open Go.RowKit Go.Proofs.Ytagbnkbhobmgjaa.Fn Go.Proofs.YtagbnkbhobmgjaaW.PrintWords Go.Proofs.YtagbnkbhobmgjaaW.PrintMore Go.Proofs.YtagbnkbhobmgjaaW.PrintLast
/-! ### neighbours -/
/-! ### the document's neighbours -/
/-! ### the same, with enough rounds -/
theorem pClass_ev {x : Int} (h : W64 x) : Ev (fun k => pattern_Class.f k x) (cls x) := evAt 2 (pClass_eq h)
theorem pLess_ev {a b : Int} (ha : W64 a) (hb : W64 b) : Ev (fun k => pattern_Less.f k a b) (ltF a b) := evAt 2 (pLess_eq ha hb)
end Go.Proofs.Ytagbnkbhobmgjaa.Pure
end
