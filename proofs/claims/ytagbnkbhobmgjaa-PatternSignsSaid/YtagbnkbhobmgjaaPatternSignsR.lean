/- With the other sign, and without one, a float's parts are the same; a NaN stays as it is. Part 18 of 20. -/
import Derived.Test.YtagbnkbhobmgjaaPatternSignsN
import Derived.Test.YtagbnkbhobmgjaaPatternSignsQ
section
/- With the other sign, and without one, a float's parts are the same; a NaN stays as it is. -/
set_option linter.unusedVariables false
set_option linter.unusedSimpArgs false
namespace Go.Proofs.Ytagbnkbhobmgjaa.Pure
open Go.RowKit Go.Proofs.Ytagbnkbhobmgjaa.Fn Go.Proofs.YtagbnkbhobmgjaaW.PrintWords Go.Proofs.YtagbnkbhobmgjaaW.PrintMore Go.Proofs.YtagbnkbhobmgjaaW.PrintLast
theorem PatternSigns : flyballlaw04_PatternSigns.Pure := by
  intro x hx
  have h := W64_of hx
  have hn := W64_ng h
  refine Ev.rounds ?_
  unfold flyballlaw04_PatternSigns.f
  refine Ev.bind works04_spec (Ev.congr (fun k => if_pos rfl) ?_)
  refine Ev.bind (pNeg_ev h) (Ev.bind (pAbs_ev h) (Ev.bind (pClass_ev h) ?_))
  by_cases h1 : cls x = 4
  · have e1 : ng x = x := by unfold ng; rw [if_pos h1]
    rw [e1, if_pos h1]
    refine Ev.congr (fun k => ?_) (Ev.now true)
    rw [if_pos h1, if_pos rfl]; simp
  · have ha : W64 (x % 9223372036854775808) := by unfold W64 at *; omega
    have hx0 := h
    unfold W64 at hx0
    have f1 : ((x / 9223372036854775808 == 1) != (ng x / 9223372036854775808 == 1)) = true := by
      rw [ng_eq h1]
      by_cases hb : 9223372036854775808 ≤ x
      · rw [if_pos hb, show x / 9223372036854775808 = 1 by omega, show (x - 9223372036854775808) / 9223372036854775808 = 0 by omega]; rfl
      · rw [if_neg hb, show x / 9223372036854775808 = 0 by omega, show (x + 9223372036854775808) / 9223372036854775808 = 1 by omega]; rfl
    have f2 : x / 4503599627370496 % 2048 = ng x / 4503599627370496 % 2048 := by rw [ng_eq h1]; split <;> omega
    have f3 : x % 4503599627370496 = ng x % 4503599627370496 := by rw [ng_eq h1]; split <;> omega
    have f4 : (x % 9223372036854775808 / 9223372036854775808 == 1) = false := by
      rw [show x % 9223372036854775808 / 9223372036854775808 = 0 by omega]; rfl
    have f5 : x / 4503599627370496 % 2048 = x % 9223372036854775808 / 4503599627370496 % 2048 := by omega
    have f6 : x % 4503599627370496 = x % 9223372036854775808 % 4503599627370496 := by omega
    have f7 : ng (ng x) = x := by
      rw [ng_eq (ng_cls h h1), ng_eq h1]
      by_cases hb : 9223372036854775808 ≤ x
      · rw [if_pos hb, if_neg (by omega)]; omega
      · rw [if_neg hb, if_pos (by omega)]; omega
    have hnn := pNeg_ev hn
    rw [f7] at hnn
    rw [if_neg h1]
    refine Ev.congr (fun k => if_neg h1) ?_
    refine Ev.congr (fun k => by rw [pParts_eq h, Option.bind_some, pParts_eq hn, Option.bind_some, pParts_eq ha, Option.bind_some]) ?_
    refine Ev.congr (fun k => if_pos f1) (Ev.congr (fun k => if_pos f2) (Ev.congr (fun k => if_pos f3) (Ev.congr (fun k => if_neg (by rw [f4]; exact Bool.false_ne_true)) (Ev.congr (fun k => if_pos f5) (Ev.congr (fun k => if_pos f6) (Ev.bind hnn ?_))))))
    simpa using Ev.now true
end Go.Proofs.Ytagbnkbhobmgjaa.Pure
end
