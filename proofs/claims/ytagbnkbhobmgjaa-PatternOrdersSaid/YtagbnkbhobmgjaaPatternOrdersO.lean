/- How floats compare is just what the document says, and what their values say. Part 15 of 18. -/
import Derived.Test.YtagbnkbhobmgjaaPatternOrdersM
import Derived.Laws.Bits64b
import Derived.Test.YtagbnkbhobmgjaaPatternOrdersE
section
/- What the document's functions of bits tell: plain arithmetic. -/
set_option linter.unusedVariables false
set_option linter.unusedSimpArgs false
namespace Go.Proofs.Ytagbnkbhobmgjaa.Pure
open Go.RowKit Go.Proofs.Ytagbnkbhobmgjaa.Fn Go.Proofs.YtagbnkbhobmgjaaW.PrintWords Go.Proofs.YtagbnkbhobmgjaaW.PrintMore Go.Proofs.YtagbnkbhobmgjaaW.PrintLast
/-! ### bits of words -/
theorem shr_nat (k : IntKind) (x j : Nat) (hj : j ≤ k.bits) : shr k (x : Int) (j : Int) = ((x / 2 ^ j : Nat) : Int) := by
  unfold shr
  rw [Int.toNat_natCast, Nat.min_eq_left hj]
  simp
/-! ### reading bits -/
/-! ### Len -/
/-! ### Bits -/
/-! ### Cmp -/
/-! ### Add -/
/-! ### Sub -/
/-! ### Shl, Mul -/
/-! ### Same, Words, Is -/
end Go.Proofs.Ytagbnkbhobmgjaa.Pure
end
section
/- What the functions on floats' patterns come to, as arithmetic on words of 64 bits. -/
set_option linter.unusedVariables false
set_option linter.unusedSimpArgs false
namespace Go.Proofs.Ytagbnkbhobmgjaa.Pure
open Go.RowKit Go.Proofs.Ytagbnkbhobmgjaa.Fn Go.Proofs.YtagbnkbhobmgjaaW.PrintWords Go.Proofs.YtagbnkbhobmgjaaW.PrintMore Go.Proofs.YtagbnkbhobmgjaaW.PrintLast
theorem evAt {α : Type} {g : Nat → Option α} {r : α} (n : Nat) (h : ∀ k, g (k + n) = some r) : Ev g r := ⟨n, fun k hk => by have e := h (k - n); rwa [Nat.sub_add_cancel hk] at e⟩
/-- A word of 64 bits. -/
def W64 (x : Int) : Prop := 0 ≤ x ∧ x < 18446744073709551616
theorem W64_of {a : Int} (h : (Lit.int .u64 a).wf = true) : W64 a := by
  simp [Lit.wf, IntKind.min, IntKind.max, IntKind.bits, IntKind.signed] at h
  unfold W64; omega
theorem andm {x : Int} (h : W64 x) (n : Nat) (hn : n < 64) : Go.bits .and .u64 x ((2 ^ n - 1 : Nat) : Int) = ((x.toNat % 2 ^ n : Nat) : Int) := by
  obtain ⟨h0, h1⟩ := h
  have hp : 2 ^ n < 2 ^ 64 := Nat.pow_lt_pow_right (by decide) hn
  have h2 := bits_and_u64_nat x.toNat (2 ^ n - 1) (by omega) (by omega)
  have e : ((x.toNat : Nat) : Int) = x := by omega
  rw [e, Nat.and_two_pow_sub_one_eq_mod] at h2
  exact h2
theorem and2047 {x : Int} (h : W64 x) : Go.bits .and .u64 x 2047 = x % 2048 := by
  have h2 := andm h 11 (by decide)
  have h0 := h.1
  have e : ((2 ^ 11 - 1 : Nat) : Int) = 2047 := rfl
  rw [e] at h2
  rw [h2]
  have : ((2 : Nat) ^ 11) = 2048 := rfl
  rw [this]; omega
theorem andFrac {x : Int} (h : W64 x) : Go.bits .and .u64 x 4503599627370495 = x % 4503599627370496 := by
  have h2 := andm h 52 (by decide)
  have h0 := h.1
  have e : ((2 ^ 52 - 1 : Nat) : Int) = 4503599627370495 := rfl
  rw [e] at h2
  rw [h2]
  have : ((2 : Nat) ^ 52) = 4503599627370496 := rfl
  rw [this]; omega
theorem andNotSign {x : Int} (h : W64 x) : Go.bits .andNot .u64 x 9223372036854775808 = x % 9223372036854775808 := by
  have h2 := andm h 63 (by decide)
  have h0 := h.1
  have e : Go.bits .andNot .u64 x 9223372036854775808 = Go.bits .and .u64 x ((2 ^ 63 - 1 : Nat) : Int) := by
    show IntKind.u64.wrap ((BitVec.ofInt 64 x &&& ~~~ BitVec.ofInt 64 9223372036854775808).toNat : Int) = IntKind.u64.wrap ((BitVec.ofInt 64 x &&& BitVec.ofInt 64 ((2 ^ 63 - 1 : Nat) : Int)).toNat : Int)
    have : ~~~ BitVec.ofInt 64 9223372036854775808 = BitVec.ofInt 64 ((2 ^ 63 - 1 : Nat) : Int) := by decide
    rw [this]
  rw [e, h2]
  have : ((2 : Nat) ^ 63) = 9223372036854775808 := rfl
  rw [this]; omega
theorem orHigh {x y : Int} (n : Nat) (hn : n < 64) (x0 : 0 ≤ x) (hx : W64 (x * ((2 ^ n : Nat) : Int))) (y0 : 0 ≤ y) (y1 : y.toNat < 2 ^ n) :
    Go.bits .or .u64 (x * ((2 ^ n : Nat) : Int)) y = x * ((2 ^ n : Nat) : Int) + y := by
  obtain ⟨h0, h1⟩ := hx
  have hp : 2 ^ n < 2 ^ 64 := Nat.pow_lt_pow_right (by decide) hn
  have hm : x * ((2 ^ n : Nat) : Int) = ((2 ^ n * x.toNat : Nat) : Int) := by
    rw [Int.natCast_mul, Int.toNat_of_nonneg x0, Int.mul_comm]
  rw [hm] at h1 ⊢
  have h2 := bits_or_u64_nat (2 ^ n * x.toNat) y.toNat (by omega) (by omega)
  have e : ((y.toNat : Nat) : Int) = y := by omega
  rw [e, ← Nat.two_pow_add_eq_or_of_lt y1] at h2
  rw [h2]; omega
/-! ### parts, classes, keys -/
theorem pParts_eq {x : Int} (h : W64 x) : pattern_Parts.f x = some ((x / 9223372036854775808) == 1, x / 4503599627370496 % 2048, x % 4503599627370496) := by
  unfold pattern_Parts.f
  obtain ⟨h0, h1⟩ := h
  rw [andFrac ⟨h0, h1⟩, and2047 ⟨by omega, by omega⟩, w64 (by omega) (by omega)]
theorem rParts_eq {x : Int} (h : W64 x) : flyballref04_Parts.f x = some ((x / 9223372036854775808) == 1, x / 4503599627370496 % 2048, x % 4503599627370496) := by
  unfold flyballref04_Parts.f
  obtain ⟨h0, h1⟩ := h
  rw [Int.tdiv_eq_ediv_of_nonneg h0, Int.tdiv_eq_ediv_of_nonneg h0, Int.tmod_eq_emod_of_nonneg h0, u64i (by omega) (by omega), u64i (by omega) (by omega), Int.tmod_eq_emod_of_nonneg (by omega), w64 (by omega) (by omega)]
/-- A float's class: 0, 1, 2, 3, 4: nought, subnormal, normal, infinite, none. -/
def cls (x : Int) : Int := if x / 4503599627370496 % 2048 = 2047 then (if x % 4503599627370496 = 0 then 3 else 4) else if x / 4503599627370496 % 2048 = 0 then (if x % 4503599627370496 = 0 then 0 else 1) else 2
theorem pClass_eq {x : Int} (h : W64 x) (k : Nat) : pattern_Class.f (k + 2) x = some (cls x) := by
  unfold pattern_Class.f cls
  rw [pParts_eq h]
  simp only [Option.bind_some]
  by_cases h1 : x / 4503599627370496 % 2048 = 2047
  · by_cases h2 : x % 4503599627370496 = 0 <;> simp [pattern_Class.j0, h1, h2]
  · by_cases h3 : x / 4503599627370496 % 2048 = 0
    · by_cases h2 : x % 4503599627370496 = 0 <;> simp [pattern_Class.j0, pattern_Class.j1, h3, h2]
    · simp [pattern_Class.j0, pattern_Class.j1, h1, h3]
theorem rClass_eq {x : Int} (h : W64 x) (k : Nat) : flyballref04_Class.f (k + 2) x = some (cls x) := by
  unfold flyballref04_Class.f cls
  rw [rParts_eq h]
  simp only [Option.bind_some]
  by_cases h1 : x / 4503599627370496 % 2048 = 2047
  · by_cases h2 : x % 4503599627370496 = 0 <;> simp [flyballref04_Class.j0, h1, h2]
  · by_cases h3 : x / 4503599627370496 % 2048 = 0
    · by_cases h2 : x % 4503599627370496 = 0 <;> simp [flyballref04_Class.j0, flyballref04_Class.j1, h3, h2]
    · simp [flyballref04_Class.j0, flyballref04_Class.j1, h1, h3]
def key (x : Int) : Int := if x / 9223372036854775808 = 1 then -(x % 9223372036854775808) else x % 9223372036854775808
theorem pKey_eq {x : Int} (h : W64 x) : pattern_key.f x = some (key x) := by
  unfold pattern_key.f key
  rw [andNotSign h, w64 (x := x % 9223372036854775808) (by omega) (by omega), w64 (by omega) (by omega)]
  split <;> rfl
theorem rKey_eq {x : Int} (h : W64 x) : flyballref04_Key.f x = some (key x) := by
  unfold flyballref04_Key.f key
  rw [rParts_eq h]
  simp only [Option.bind_some]
  obtain ⟨h0, h1⟩ := h
  have e : wrap64 (wrap64 (x / 4503599627370496 % 2048 * 4503599627370496) + wrap64 (x % 4503599627370496)) = x % 9223372036854775808 := by
    rw [w64 (x := x / 4503599627370496 % 2048 * 4503599627370496) (by omega) (by omega), w64 (x := x % 4503599627370496) (by omega) (by omega), w64 (by omega) (by omega)]; omega
  rw [e, w64 (x := -(x % 9223372036854775808)) (by omega) (by omega)]
  by_cases hs : x / 9223372036854775808 = 1
  · simp [hs]
  · simp [hs]
def cmpF (a b : Int) : Int × Bool := if cls a = 4 ∨ cls b = 4 then (0, false) else if key a < key b then (-1, true) else if key b < key a then (1, true) else (0, true)
theorem pCmp_eq {a b : Int} (ha : W64 a) (hb : W64 b) (k : Nat) : pattern_Cmp.f (k + 2) a b = some (cmpF a b) := by
  unfold pattern_Cmp.f pattern_nan.f cmpF
  rw [pClass_eq ha, pClass_eq hb]
  by_cases h1 : cls a = 4
  · simp [h1, pattern_Cmp.j0]
  · by_cases h2 : cls b = 4
    · simp [h1, h2, pattern_Cmp.j0]
    · have e1 : (cls a == 4) = false := by simpa using h1
      have e2 : (cls b == 4) = false := by simpa using h2
      rw [if_neg (by simp [h1, h2])]
      simp only [Option.bind_some, e1, e2, pattern_Cmp.j0, pKey_eq ha, pKey_eq hb]
      by_cases c1 : key a < key b
      · simp [c1]
      · by_cases c2 : key b < key a <;> simp [c1, c2]
theorem rCmp_eq {a b : Int} (ha : W64 a) (hb : W64 b) (k : Nat) : flyballref04_Cmp.f (k + 2) a b = some (cmpF a b) := by
  unfold flyballref04_Cmp.f cmpF
  rw [rClass_eq ha, rClass_eq hb]
  by_cases h1 : cls a = 4
  · simp [h1, flyballref04_Cmp.j0]
  · by_cases h2 : cls b = 4
    · simp [h1, h2, flyballref04_Cmp.j0]
    · have e2 : (cls b == 4) = false := by simpa using h2
      rw [if_neg (by simp [h1, h2])]
      simp only [Option.bind_some, e2, if_neg h1, flyballref04_Cmp.j0, rKey_eq ha, rKey_eq hb]
      by_cases c1 : key a < key b
      · simp [c1]
      · by_cases c2 : key b < key a <;> simp [c1, c2]
theorem pLess_eq {a b : Int} (ha : W64 a) (hb : W64 b) (k : Nat) : pattern_Less.f (k + 2) a b = some ((cmpF a b).2 && decide ((cmpF a b).1 < 0)) := by
  unfold pattern_Less.f
  rw [pCmp_eq ha hb]
  simp only [Option.bind_some]
  cases (cmpF a b).2 <;> simp
/-- Below, of floats that are numbers. -/
def ltF (a b : Int) : Bool := (cmpF a b).2 && decide ((cmpF a b).1 < 0)
/-! ### making -/
end Go.Proofs.Ytagbnkbhobmgjaa.Pure
end
section
/- A float's neighbours, as arithmetic on words of 64 bits. -/
set_option linter.unusedVariables false
set_option linter.unusedSimpArgs false
namespace Go.Proofs.Ytagbnkbhobmgjaa.Pure
open Go.RowKit Go.Proofs.Ytagbnkbhobmgjaa.Fn Go.Proofs.YtagbnkbhobmgjaaW.PrintWords Go.Proofs.YtagbnkbhobmgjaaW.PrintMore Go.Proofs.YtagbnkbhobmgjaaW.PrintLast
/-! ### neighbours -/
theorem key0 {x : Int} : key x = 0 ↔ x % 9223372036854775808 = 0 := by
  unfold key; split <;> omega
/-! ### the document's neighbours -/
/-! ### the same, with enough rounds -/
theorem pClass_ev {x : Int} (h : W64 x) : Ev (fun k => pattern_Class.f k x) (cls x) := evAt 2 (pClass_eq h)
theorem pCmp_ev {a b : Int} (ha : W64 a) (hb : W64 b) : Ev (fun k => pattern_Cmp.f k a b) (cmpF a b) := evAt 2 (pCmp_eq ha hb)
theorem rCmp_ev {a b : Int} (ha : W64 a) (hb : W64 b) : Ev (fun k => flyballref04_Cmp.f k a b) (cmpF a b) := evAt 2 (rCmp_eq ha hb)
theorem pLess_ev {a b : Int} (ha : W64 a) (hb : W64 b) : Ev (fun k => pattern_Less.f k a b) (ltF a b) := evAt 2 (pLess_eq ha hb)
end Go.Proofs.Ytagbnkbhobmgjaa.Pure
end
section
/- The integer and the power of two that a float is. -/
set_option linter.unusedVariables false
set_option linter.unusedSimpArgs false
namespace Go.Proofs.Ytagbnkbhobmgjaa.Pure
open Go.RowKit Go.Proofs.Ytagbnkbhobmgjaa.Fn Go.Proofs.YtagbnkbhobmgjaaW.PrintWords Go.Proofs.YtagbnkbhobmgjaaW.PrintMore Go.Proofs.YtagbnkbhobmgjaaW.PrintLast
/-- An integer, and a power of two. -/
def splF (x : Int) : Int × Int := if cls x = 2 then (4503599627370496 + x % 4503599627370496, x / 4503599627370496 % 2048 - 1075) else if cls x = 1 then (x % 4503599627370496, -1074) else (0, 0)
theorem pSplit_ev {x : Int} (h : W64 x) : Ev (fun k => pattern_Split.f k x) (splF x) := by
  have hor : Go.bits .or .u64 4503599627370496 (x % 4503599627370496) = 4503599627370496 + x % 4503599627370496 := by
    have := orHigh (x := 1) (y := x % 4503599627370496) 52 (by decide) (by omega) ⟨by decide, by decide⟩ (by omega) (by omega)
    rw [Int.one_mul] at this
    exact this
  have hw : wrap64 (x / 4503599627370496 % 2048 - 1075) = x / 4503599627370496 % 2048 - 1075 := w64 (by omega) (by omega)
  unfold pattern_Split.f splF
  refine Ev.congr (fun k => by rw [pParts_eq h, Option.bind_some]) (Ev.bind (pClass_ev h) ?_)
  dsimp only
  rw [hor, hw]
  by_cases h1 : cls x = 2
  · simp only [if_pos h1]; exact Ev.now _
  · simp only [if_neg h1]
    by_cases h2 : cls x = 1
    · simp only [if_pos h2]; exact Ev.now _
    · simp only [if_neg h2]; exact Ev.now _
theorem splF_bounds {x : Int} (h : W64 x) : 0 ≤ (splF x).1 ∧ (splF x).1 < 9007199254740992 ∧ -1074 ≤ (splF x).2 ∧ (splF x).2 ≤ 972 := by
  unfold splF
  by_cases h1 : cls x = 2
  · rw [if_pos h1]
    have hE : ¬ x / 4503599627370496 % 2048 = 0 := fun c => by
      unfold cls at h1
      rw [if_neg (by omega), if_pos c] at h1
      split at h1 <;> omega
    exact ⟨by show 0 ≤ 4503599627370496 + x % 4503599627370496; omega, by show 4503599627370496 + x % 4503599627370496 < _; omega, by show -1074 ≤ x / 4503599627370496 % 2048 - 1075; omega, by show x / 4503599627370496 % 2048 - 1075 ≤ 972; omega⟩
  · rw [if_neg h1]
    by_cases h2 : cls x = 1
    · rw [if_pos h2]
      exact ⟨by show 0 ≤ x % 4503599627370496; omega, by show x % 4503599627370496 < _; omega, by show (-1074 : Int) ≤ -1074; decide, by show (-1074 : Int) ≤ 972; decide⟩
    · rw [if_neg h2]; decide
end Go.Proofs.Ytagbnkbhobmgjaa.Pure
end
section
/- The document's quotient and greatest common divisor of rows of bits: plain arithmetic. -/
set_option linter.unusedVariables false
set_option linter.unusedSimpArgs false
namespace Go.Proofs.Ytagbnkbhobmgjaa.Pure
open Go.RowKit Go.Proofs.Ytagbnkbhobmgjaa.Fn Go.Proofs.YtagbnkbhobmgjaaW.PrintWords Go.Proofs.YtagbnkbhobmgjaaW.PrintMore Go.Proofs.YtagbnkbhobmgjaaW.PrintLast
end Go.Proofs.Ytagbnkbhobmgjaa.Pure
end
