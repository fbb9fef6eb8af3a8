/- With the other sign, and without one, a float's parts are the same; a NaN stays as it is. Part 15 of 20. -/
import Derived.Test.YtagbnkbhobmgjaaPatternSignsL
import Derived.Test.YtagbnkbhobmgjaaPatternSignsE
import Derived.Laws.Bits64b
section
/- What the document's functions of bits tell: plain arithmetic. -/
set_option linter.unusedVariables false
set_option linter.unusedSimpArgs false
namespace Go.Proofs.Ytagbnkbhobmgjaa.Pure
open Go.RowKit Go.Proofs.Ytagbnkbhobmgjaa.Fn Go.Proofs.YtagbnkbhobmgjaaW.PrintWords Go.Proofs.YtagbnkbhobmgjaaW.PrintMore Go.Proofs.YtagbnkbhobmgjaaW.PrintLast
/-! ### bits of words -/
/-! ### reading bits -/
/-! ### Len -/
/-! ### Bits -/
/-! ### Cmp -/
/-! ### Add -/
/-! ### Sub -/
/-! ### Shl, Mul -/
/-! ### Same, Words, Is -/
end Go.Proofs.Ytagbnkbhobmgjaa.Pure
end
