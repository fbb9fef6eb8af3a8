/- Between a float and the next one there is none. Part 15 of 20. -/
import Derived.Test.YtagbnkbhobmgjaaPatternBetweenL
import Derived.Test.YtagbnkbhobmgjaaPatternBetweenE
import Derived.Laws.Bits64b
section
/- What the document's functions of bits tell: plain arithmetic. -/
set_option linter.unusedVariables false
set_option linter.unusedSimpArgs false
namespace Go.Proofs.Ytagbnkbhobmgjaa.Pure
open Go.RowKit Go.Proofs.Ytagbnkbhobmgjaa.Fn Go.Proofs.YtagbnkbhobmgjaaW.PrintWords Go.Proofs.YtagbnkbhobmgjaaW.PrintMore Go.Proofs.YtagbnkbhobmgjaaW.PrintLast
/-! ### bits of words -/
/-! ### reading bits -/
/-! ### Len -/
/-! ### Bits -/
/-! ### Cmp -/
/-! ### Add -/
/-! ### Sub -/
/-! ### Shl, Mul -/
/-! ### Same, Words, Is -/
end Go.Proofs.Ytagbnkbhobmgjaa.Pure
end
