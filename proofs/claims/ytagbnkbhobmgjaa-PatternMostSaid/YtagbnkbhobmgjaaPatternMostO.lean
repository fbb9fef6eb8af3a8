/- The greatest of some is one of them, and none is above; the least likewise; where one is no number, or there is none, it is the quiet NaN. Part 15 of 21. -/
import Derived.Test.YtagbnkbhobmgjaaPatternMostL
import Derived.Test.YtagbnkbhobmgjaaPatternMostE
import Derived.Laws.Bits64b
section
/- What the document's functions of bits tell: plain arithmetic. -/
set_option linter.unusedVariables false
set_option linter.unusedSimpArgs false
namespace Go.Proofs.Ytagbnkbhobmgjaa.Pure
open Go.RowKit Go.Proofs.Ytagbnkbhobmgjaa.Fn Go.Proofs.YtagbnkbhobmgjaaW.PrintWords Go.Proofs.YtagbnkbhobmgjaaW.PrintMore Go.Proofs.YtagbnkbhobmgjaaW.PrintLast
/-! ### bits of words -/
/-! ### reading bits -/
/-! ### Len -/
/-! ### Bits -/
/-! ### Cmp -/
/-! ### Add -/
/-! ### Sub -/
/-! ### Shl, Mul -/
/-! ### Same, Words, Is -/
end Go.Proofs.Ytagbnkbhobmgjaa.Pure
end
