/- The value of a finite float is just the rational number that the document says; others have none. Part 19 of 22. -/
import Derived.Test.YtagbnkbhobmgjaaPatternValuesE
import Derived.Test.YtagbnkbhobmgjaaPatternValuesL
import Derived.Test.YtagbnkbhobmgjaaPatternValuesK
import Derived.Test.YtagbnkbhobmgjaaPatternValuesG
import Derived.Test.YtagbnkbhobmgjaaPatternValuesM
import Derived.Test.YtagbnkbhobmgjaaPatternValuesR
import Derived.Test.YtagbnkbhobmgjaaPatternValuesC
section
-- Written by a program of this session (a turned copy of the kit's printer, and hand-written parts). Not trusted: Lean checks it.
namespace Go.Proofs.Ytagbnkbhobmgjaa.Fn
open Go.RowKit Go.Proofs.YtagbnkbhobmgjaaW.PrintWords Go.Proofs.YtagbnkbhobmgjaaW.PrintLast Go.Proofs.YtagbnkbhobmgjaaW.PrintMore
attribute [local go_sem] max2_int min2_int max_two min_two max_three min_three max_four min_four   -- for this text's walks alone
set_option linter.unusedVariables false
set_option linter.unusedSimpArgs false
/-! ### flyballlaw02_works: function 23 -/
end Go.Proofs.Ytagbnkbhobmgjaa.Fn
end
section
/- The chapter's own trial of the numbers. -/
set_option linter.unusedVariables false
namespace Go.Proofs.Ytagbnkbhobmgjaa.Pure
open Go.RowKit Go.Proofs.Ytagbnkbhobmgjaa.Fn Go.Proofs.YtagbnkbhobmgjaaW.PrintWords Go.Proofs.YtagbnkbhobmgjaaW.PrintMore Go.Proofs.YtagbnkbhobmgjaaW.PrintLast
end Go.Proofs.Ytagbnkbhobmgjaa.Pure
end
