/- The float above, and the one below, are just what the document says. Part 18 of 20. -/
import Derived.Test.YtagbnkbhobmgjaaPatternNeighboursN
import Derived.Test.YtagbnkbhobmgjaaPatternNeighboursQ
section
/- The float above, and the one below, are just what the document says. -/
set_option linter.unusedVariables false
set_option linter.unusedSimpArgs false
namespace Go.Proofs.Ytagbnkbhobmgjaa.Pure
open Go.RowKit Go.Proofs.Ytagbnkbhobmgjaa.Fn Go.Proofs.YtagbnkbhobmgjaaW.PrintWords Go.Proofs.YtagbnkbhobmgjaaW.PrintMore Go.Proofs.YtagbnkbhobmgjaaW.PrintLast
theorem PatternNeighbours : flyballlaw04_PatternNeighbours.Pure := by
  intro x hx
  have h := W64_of hx
  refine Ev.rounds ?_
  unfold flyballlaw04_PatternNeighbours.f
  refine Ev.bind works04_spec (Ev.congr (fun k => if_pos rfl) ?_)
  refine Ev.bind (evAt 2 (pNext_eq h)) (Ev.bind (evAt 3 (rNext_eq h)) (Ev.congr (fun k => if_pos rfl) (Ev.bind (evAt 2 (pPrev_eq h)) (Ev.bind (evAt 3 (rPrev_eq h)) ?_))))
  simpa using Ev.now true
end Go.Proofs.Ytagbnkbhobmgjaa.Pure
end
