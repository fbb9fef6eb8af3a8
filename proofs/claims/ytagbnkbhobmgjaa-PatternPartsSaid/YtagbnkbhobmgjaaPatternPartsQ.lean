/- A float's parts, its class, and the integer and the power of two that it is, are just what the document says; out of its parts it is made again. Part 17 of 20. -/
import Derived.Test.YtagbnkbhobmgjaaPatternPartsO
import Derived.Test.YtagbnkbhobmgjaaPatternPartsE
import Derived.Test.YtagbnkbhobmgjaaPatternPartsL
import Derived.Test.YtagbnkbhobmgjaaPatternPartsP
section
/- What the functions on floats' patterns come to, as arithmetic on words of 64 bits. -/
set_option linter.unusedVariables false
set_option linter.unusedSimpArgs false
namespace Go.Proofs.Ytagbnkbhobmgjaa.Pure
open Go.RowKit Go.Proofs.Ytagbnkbhobmgjaa.Fn Go.Proofs.YtagbnkbhobmgjaaW.PrintWords Go.Proofs.YtagbnkbhobmgjaaW.PrintMore Go.Proofs.YtagbnkbhobmgjaaW.PrintLast
theorem evAt {α : Type} {g : Nat → Option α} {r : α} (n : Nat) (h : ∀ k, g (k + n) = some r) : Ev g r := ⟨n, fun k hk => by have e := h (k - n); rwa [Nat.sub_add_cancel hk] at e⟩
/-- A word of 64 bits. -/
def W64 (x : Int) : Prop := 0 ≤ x ∧ x < 18446744073709551616
theorem W64_of {a : Int} (h : (Lit.int .u64 a).wf = true) : W64 a := by
  simp [Lit.wf, IntKind.min, IntKind.max, IntKind.bits, IntKind.signed] at h
  unfold W64; omega
theorem i64_ofF {a : Int} (h : (Lit.int .i64 a).wf = true) : -9223372036854775808 ≤ a ∧ a ≤ 9223372036854775807 := by
  simp [Lit.wf, IntKind.min, IntKind.max, IntKind.bits, IntKind.signed] at h
  omega
theorem andm {x : Int} (h : W64 x) (n : Nat) (hn : n < 64) : Go.bits .and .u64 x ((2 ^ n - 1 : Nat) : Int) = ((x.toNat % 2 ^ n : Nat) : Int) := by
  obtain ⟨h0, h1⟩ := h
  have hp : 2 ^ n < 2 ^ 64 := Nat.pow_lt_pow_right (by decide) hn
  have h2 := bits_and_u64_nat x.toNat (2 ^ n - 1) (by omega) (by omega)
  have e : ((x.toNat : Nat) : Int) = x := by omega
  rw [e, Nat.and_two_pow_sub_one_eq_mod] at h2
  exact h2
theorem and2047 {x : Int} (h : W64 x) : Go.bits .and .u64 x 2047 = x % 2048 := by
  have h2 := andm h 11 (by decide)
  have h0 := h.1
  have e : ((2 ^ 11 - 1 : Nat) : Int) = 2047 := rfl
  rw [e] at h2
  rw [h2]
  have : ((2 : Nat) ^ 11) = 2048 := rfl
  rw [this]; omega
theorem andFrac {x : Int} (h : W64 x) : Go.bits .and .u64 x 4503599627370495 = x % 4503599627370496 := by
  have h2 := andm h 52 (by decide)
  have h0 := h.1
  have e : ((2 ^ 52 - 1 : Nat) : Int) = 4503599627370495 := rfl
  rw [e] at h2
  rw [h2]
  have : ((2 : Nat) ^ 52) = 4503599627370496 := rfl
  rw [this]; omega
theorem orHigh {x y : Int} (n : Nat) (hn : n < 64) (x0 : 0 ≤ x) (hx : W64 (x * ((2 ^ n : Nat) : Int))) (y0 : 0 ≤ y) (y1 : y.toNat < 2 ^ n) :
    Go.bits .or .u64 (x * ((2 ^ n : Nat) : Int)) y = x * ((2 ^ n : Nat) : Int) + y := by
  obtain ⟨h0, h1⟩ := hx
  have hp : 2 ^ n < 2 ^ 64 := Nat.pow_lt_pow_right (by decide) hn
  have hm : x * ((2 ^ n : Nat) : Int) = ((2 ^ n * x.toNat : Nat) : Int) := by
    rw [Int.natCast_mul, Int.toNat_of_nonneg x0, Int.mul_comm]
  rw [hm] at h1 ⊢
  have h2 := bits_or_u64_nat (2 ^ n * x.toNat) y.toNat (by omega) (by omega)
  have e : ((y.toNat : Nat) : Int) = y := by omega
  rw [e, ← Nat.two_pow_add_eq_or_of_lt y1] at h2
  rw [h2]; omega
theorem orSign {x : Int} (h0 : 0 ≤ x) (h1 : x < 9223372036854775808) : Go.bits .or .u64 x 9223372036854775808 = x + 9223372036854775808 := by
  have h := bits_or_u64_nat x.toNat 9223372036854775808 (by omega) (by omega)
  have e : ((x.toNat : Nat) : Int) = x := by omega
  have e2 := Nat.two_pow_add_eq_or_of_lt (i := 63) (b := x.toNat) (by omega) 1
  rw [Nat.mul_one, show (2 : Nat) ^ 63 = 9223372036854775808 from rfl] at e2
  rw [e, Nat.or_comm, ← e2] at h
  have e3 : (((9223372036854775808 : Nat)) : Int) = 9223372036854775808 := rfl
  rw [e3] at h
  rw [h]; omega
/-! ### parts, classes, keys -/
theorem pParts_eq {x : Int} (h : W64 x) : pattern_Parts.f x = some ((x / 9223372036854775808) == 1, x / 4503599627370496 % 2048, x % 4503599627370496) := by
  unfold pattern_Parts.f
  obtain ⟨h0, h1⟩ := h
  rw [andFrac ⟨h0, h1⟩, and2047 ⟨by omega, by omega⟩, w64 (by omega) (by omega)]
theorem rParts_eq {x : Int} (h : W64 x) : flyballref04_Parts.f x = some ((x / 9223372036854775808) == 1, x / 4503599627370496 % 2048, x % 4503599627370496) := by
  unfold flyballref04_Parts.f
  obtain ⟨h0, h1⟩ := h
  rw [Int.tdiv_eq_ediv_of_nonneg h0, Int.tdiv_eq_ediv_of_nonneg h0, Int.tmod_eq_emod_of_nonneg h0, u64i (by omega) (by omega), u64i (by omega) (by omega), Int.tmod_eq_emod_of_nonneg (by omega), w64 (by omega) (by omega)]
/-- A float's class: 0, 1, 2, 3, 4: nought, subnormal, normal, infinite, none. -/
def cls (x : Int) : Int := if x / 4503599627370496 % 2048 = 2047 then (if x % 4503599627370496 = 0 then 3 else 4) else if x / 4503599627370496 % 2048 = 0 then (if x % 4503599627370496 = 0 then 0 else 1) else 2
theorem pClass_eq {x : Int} (h : W64 x) (k : Nat) : pattern_Class.f (k + 2) x = some (cls x) := by
  unfold pattern_Class.f cls
  rw [pParts_eq h]
  simp only [Option.bind_some]
  by_cases h1 : x / 4503599627370496 % 2048 = 2047
  · by_cases h2 : x % 4503599627370496 = 0 <;> simp [pattern_Class.j0, h1, h2]
  · by_cases h3 : x / 4503599627370496 % 2048 = 0
    · by_cases h2 : x % 4503599627370496 = 0 <;> simp [pattern_Class.j0, pattern_Class.j1, h3, h2]
    · simp [pattern_Class.j0, pattern_Class.j1, h1, h3]
theorem rClass_eq {x : Int} (h : W64 x) (k : Nat) : flyballref04_Class.f (k + 2) x = some (cls x) := by
  unfold flyballref04_Class.f cls
  rw [rParts_eq h]
  simp only [Option.bind_some]
  by_cases h1 : x / 4503599627370496 % 2048 = 2047
  · by_cases h2 : x % 4503599627370496 = 0 <;> simp [flyballref04_Class.j0, h1, h2]
  · by_cases h3 : x / 4503599627370496 % 2048 = 0
    · by_cases h2 : x % 4503599627370496 = 0 <;> simp [flyballref04_Class.j0, flyballref04_Class.j1, h3, h2]
    · simp [flyballref04_Class.j0, flyballref04_Class.j1, h1, h3]
def key (x : Int) : Int := if x / 9223372036854775808 = 1 then -(x % 9223372036854775808) else x % 9223372036854775808
/-! ### making -/
theorem pMake_eq (neg : Bool) (e m : Int) (he : -9223372036854775808 ≤ e ∧ e ≤ 9223372036854775807) (hm : W64 m) (k : Nat) :
    pattern_Make.f (k + 1) neg e m = some (if 0 ≤ e ∧ e ≤ 2047 ∧ m < 4503599627370496 then ((e * 4503599627370496 + m + (if neg = true then 9223372036854775808 else 0), 0) : Int × Int) else (0, 1)) := by
  obtain ⟨m0, m1⟩ := hm
  unfold pattern_Make.f
  by_cases h1 : e < 0
  · rw [if_pos h1, if_neg (by omega)]; simp [pattern_Make.j0]
  · rw [if_neg h1]
    by_cases h2 : e > 2047
    · rw [if_pos h2, if_neg (by omega)]; simp [pattern_Make.j0]
    · rw [if_neg h2]
      by_cases h3 : m > 4503599627370495
      · rw [decide_eq_true h3, if_neg (by omega)]; simp [pattern_Make.j0]
      · rw [decide_eq_false h3, if_pos (by omega)]
        have hu : IntKind.u64.wrap (IntKind.u64.wrap e * 4503599627370496) = e * ((2 ^ 52 : Nat) : Int) := by
          rw [u64i (x := e) (by omega) (by omega), u64i (by omega) (by omega)]; rfl
        have ho := orHigh (x := e) (y := m) 52 (by decide) (by omega) ⟨by simp; omega, by simp; omega⟩ m0 (by omega)
        have e52 : ((2 ^ 52 : Nat) : Int) = 4503599627370496 := rfl
        simp only [pattern_Make.j0]
        rw [hu, ho, e52]
        cases neg
        · simp
        · rw [orSign (by omega) (by omega)]; simp
theorem rMake_eq (neg : Bool) (e m : Int) (e0 : 0 ≤ e) (e1 : e ≤ 2047) (m0 : 0 ≤ m) (m1 : m < 4503599627370496) :
    flyballref04_Make.f neg e m = some (e * 4503599627370496 + m + (if neg = true then 9223372036854775808 else 0)) := by
  unfold flyballref04_Make.f
  rw [u64i (x := e) (by omega) (by omega), u64i (x := e * 4503599627370496) (by omega) (by omega), u64i (x := e * 4503599627370496 + m) (by omega) (by omega), u64i (by omega) (by omega)]
  cases neg <;> simp
end Go.Proofs.Ytagbnkbhobmgjaa.Pure
end
section
/- A float's neighbours, as arithmetic on words of 64 bits. -/
set_option linter.unusedVariables false
set_option linter.unusedSimpArgs false
namespace Go.Proofs.Ytagbnkbhobmgjaa.Pure
open Go.RowKit Go.Proofs.Ytagbnkbhobmgjaa.Fn Go.Proofs.YtagbnkbhobmgjaaW.PrintWords Go.Proofs.YtagbnkbhobmgjaaW.PrintMore Go.Proofs.YtagbnkbhobmgjaaW.PrintLast
/-! ### neighbours -/
/-! ### the document's neighbours -/
/-! ### the same, with enough rounds -/
theorem pClass_ev {x : Int} (h : W64 x) : Ev (fun k => pattern_Class.f k x) (cls x) := evAt 2 (pClass_eq h)
theorem rClass_ev {x : Int} (h : W64 x) : Ev (fun k => flyballref04_Class.f k x) (cls x) := evAt 2 (rClass_eq h)
end Go.Proofs.Ytagbnkbhobmgjaa.Pure
end
