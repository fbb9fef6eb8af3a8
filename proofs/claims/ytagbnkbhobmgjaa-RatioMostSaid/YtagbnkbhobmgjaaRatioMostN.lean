/- The greatest of some rational numbers is one of them, and none is above; where there is none it is 0; and order is order. Part 14 of 19. -/
import Derived.Test.YtagbnkbhobmgjaaRatioMostE
import Derived.Laws.Bits64b
section
/- What the document's functions of bits tell: plain arithmetic. -/
set_option linter.unusedVariables false
set_option linter.unusedSimpArgs false
namespace Go.Proofs.Ytagbnkbhobmgjaa.Pure
open Go.RowKit Go.Proofs.Ytagbnkbhobmgjaa.Fn Go.Proofs.YtagbnkbhobmgjaaW.PrintWords Go.Proofs.YtagbnkbhobmgjaaW.PrintMore Go.Proofs.YtagbnkbhobmgjaaW.PrintLast
/-! ### bits of words -/
theorem shr_nat (k : IntKind) (x j : Nat) (hj : j ≤ k.bits) : shr k (x : Int) (j : Int) = ((x / 2 ^ j : Nat) : Int) := by
  unfold shr
  rw [Int.toNat_natCast, Nat.min_eq_left hj]
  simp
/-! ### reading bits -/
/-! ### Len -/
/-! ### Bits -/
/-! ### Cmp -/
/-! ### Add -/
/-! ### Sub -/
/-! ### Shl, Mul -/
/-! ### Same, Words, Is -/
end Go.Proofs.Ytagbnkbhobmgjaa.Pure
end
section
/- The document's quotient and greatest common divisor of rows of bits: plain arithmetic. -/
set_option linter.unusedVariables false
set_option linter.unusedSimpArgs false
namespace Go.Proofs.Ytagbnkbhobmgjaa.Pure
open Go.RowKit Go.Proofs.Ytagbnkbhobmgjaa.Fn Go.Proofs.YtagbnkbhobmgjaaW.PrintWords Go.Proofs.YtagbnkbhobmgjaaW.PrintMore Go.Proofs.YtagbnkbhobmgjaaW.PrintLast
end Go.Proofs.Ytagbnkbhobmgjaa.Pure
end
