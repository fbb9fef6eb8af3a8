/- A float's parts, its class, and the integer and the power of two that it is, are just what the document says; out of its parts it is made again. Part 15 of 20. -/
import Derived.Test.YtagbnkbhobmgjaaPatternPartsL
import Derived.Laws.Bits64b
section
/- What the document's functions of bits tell: plain arithmetic. -/
set_option linter.unusedVariables false
set_option linter.unusedSimpArgs false
namespace Go.Proofs.Ytagbnkbhobmgjaa.Pure
open Go.RowKit Go.Proofs.Ytagbnkbhobmgjaa.Fn Go.Proofs.YtagbnkbhobmgjaaW.PrintWords Go.Proofs.YtagbnkbhobmgjaaW.PrintMore Go.Proofs.YtagbnkbhobmgjaaW.PrintLast
/-! ### bits of words -/
/-! ### reading bits -/
/-! ### Len -/
/-! ### Bits -/
/-! ### Cmp -/
/-! ### Add -/
/-! ### Sub -/
/-! ### Shl, Mul -/
/-! ### Same, Words, Is -/
end Go.Proofs.Ytagbnkbhobmgjaa.Pure
end
