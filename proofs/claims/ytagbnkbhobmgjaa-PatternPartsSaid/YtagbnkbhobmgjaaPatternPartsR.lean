/- A float's parts, its class, and the integer and the power of two that it is, are just what the document says; out of its parts it is made again. Part 18 of 20. -/
import Derived.Test.YtagbnkbhobmgjaaPatternPartsN
import Derived.Test.YtagbnkbhobmgjaaPatternPartsQ
section
/- A float's parts, its class, and the integer and the power of two that it is, are just what the document says; out of its parts it is made again; what is no part is refused. -/
set_option linter.unusedVariables false
set_option linter.unusedSimpArgs false
namespace Go.Proofs.Ytagbnkbhobmgjaa.Pure
open Go.RowKit Go.Proofs.Ytagbnkbhobmgjaa.Fn Go.Proofs.YtagbnkbhobmgjaaW.PrintWords Go.Proofs.YtagbnkbhobmgjaaW.PrintMore Go.Proofs.YtagbnkbhobmgjaaW.PrintLast
/-- An integer, and a power of two. -/
def splF (x : Int) : Int × Int := if cls x = 2 then (4503599627370496 + x % 4503599627370496, x / 4503599627370496 % 2048 - 1075) else if cls x = 1 then (x % 4503599627370496, -1074) else (0, 0)
theorem pSplit_ev {x : Int} (h : W64 x) : Ev (fun k => pattern_Split.f k x) (splF x) := by
  have hor : Go.bits .or .u64 4503599627370496 (x % 4503599627370496) = 4503599627370496 + x % 4503599627370496 := by
    have := orHigh (x := 1) (y := x % 4503599627370496) 52 (by decide) (by omega) ⟨by decide, by decide⟩ (by omega) (by omega)
    rw [Int.one_mul] at this
    exact this
  have hw : wrap64 (x / 4503599627370496 % 2048 - 1075) = x / 4503599627370496 % 2048 - 1075 := w64 (by omega) (by omega)
  unfold pattern_Split.f splF
  refine Ev.congr (fun k => by rw [pParts_eq h, Option.bind_some]) (Ev.bind (pClass_ev h) ?_)
  dsimp only
  rw [hor, hw]
  by_cases h1 : cls x = 2
  · simp only [if_pos h1]; exact Ev.now _
  · simp only [if_neg h1]
    by_cases h2 : cls x = 1
    · simp only [if_pos h2]; exact Ev.now _
    · simp only [if_neg h2]; exact Ev.now _
theorem rSplit_ev {x : Int} (h : W64 x) : Ev (fun k => flyballref04_Split.f k x) (splF x) := by
  have hor : IntKind.u64.wrap (4503599627370496 + x % 4503599627370496) = 4503599627370496 + x % 4503599627370496 := u64i (by omega) (by omega)
  have hw : wrap64 (x / 4503599627370496 % 2048 - 1075) = x / 4503599627370496 % 2048 - 1075 := w64 (by omega) (by omega)
  unfold flyballref04_Split.f splF
  refine Ev.congr (fun k => by rw [rParts_eq h, Option.bind_some]) (Ev.bind (rClass_ev h) ?_)
  dsimp only
  rw [hor, hw]
  by_cases h1 : cls x = 2
  · simp only [if_pos h1]; exact Ev.now _
  · simp only [if_neg h1]
    by_cases h2 : cls x = 1
    · simp only [if_pos h2]; exact Ev.now _
    · simp only [if_neg h2]; exact Ev.now _
theorem made_back {x : Int} (h : W64 x) : x / 4503599627370496 % 2048 * 4503599627370496 + x % 4503599627370496 + (if ((x / 9223372036854775808) == 1) = true then 9223372036854775808 else 0) = x := by
  unfold W64 at h
  by_cases c : x / 9223372036854775808 = 1
  · rw [if_pos (beq_iff_eq.2 c)]; omega
  · rw [if_neg (fun e => c (beq_iff_eq.1 e))]; omega
theorem Parts_j1 {x : Int} (h : W64 x) (s : Bool) (e m a b c : Int) (hc : c = x) : Ev (fun k => flyballlaw04_PatternParts.j1 k x true s e m s e m a b a b c 0 false) true := by
  subst hc
  refine Ev.step (fun k => by simp only [flyballlaw04_PatternParts.j1, Bool.false_eq_true, if_false, if_true, beq_self_eq_true]; rfl) (Ev.bind (pClass_ev h) (Ev.bind (rClass_ev h) ?_))
  simpa using Ev.now true
theorem PatternParts : flyballlaw04_PatternParts.Pure := by
  intro x neg e m hx he hm
  have h := W64_of hx
  have hm := W64_of hm
  have he := i64_ofF he
  have mk1 := pMake_eq ((x / 9223372036854775808) == 1) (x / 4503599627370496 % 2048) (x % 4503599627370496) (by omega) ⟨by omega, by omega⟩
  rw [if_pos (by omega), made_back h] at mk1
  have mk2 := pMake_eq neg e m he hm
  refine Ev.rounds ?_
  unfold flyballlaw04_PatternParts.f
  refine Ev.bind works04_spec (Ev.congr (fun k => if_pos rfl) ?_)
  refine Ev.congr (fun k => by rw [pParts_eq h, Option.bind_some, rParts_eq h, Option.bind_some]) ?_
  refine Ev.bind (pSplit_ev h) (Ev.bind (rSplit_ev h) (Ev.bind (evAt 1 mk1) (Ev.bind (evAt 1 mk2) ?_)))
  have hj := Parts_j1 h ((x / 9223372036854775808) == 1) (x / 4503599627370496 % 2048) (x % 4503599627370496) (splF x).1 (splF x).2 x rfl
  have bad : ¬ (0 ≤ e ∧ e ≤ 2047 ∧ m < 4503599627370496) → Ev (fun k => flyballlaw04_PatternParts.j0 k x neg e m true ((x / 9223372036854775808) == 1) (x / 4503599627370496 % 2048) (x % 4503599627370496) ((x / 9223372036854775808) == 1) (x / 4503599627370496 % 2048) (x % 4503599627370496) (splF x).1 (splF x).2 (splF x).1 (splF x).2 x 0 (if 0 ≤ e ∧ e ≤ 2047 ∧ m < 4503599627370496 then ((e * 4503599627370496 + m + (if neg = true then 9223372036854775808 else 0), 0) : Int × Int) else (0, 1)).1 (if 0 ≤ e ∧ e ≤ 2047 ∧ m < 4503599627370496 then ((e * 4503599627370496 + m + (if neg = true then 9223372036854775808 else 0), 0) : Int × Int) else (0, 1)).2 false) true := fun c => by
    rw [if_neg c]
    refine Ev.step (fun k => ?_) hj
    simp only [flyballlaw04_PatternParts.j0]
    rw [if_neg Bool.false_ne_true]
    rfl
  by_cases c1 : e ≥ 0
  · refine Ev.congr (fun k => if_pos c1) ?_
    by_cases c2 : e < 2048
    · refine Ev.congr (fun k => if_pos c2) ?_
      by_cases c3 : m < 4503599627370496
      · rw [decide_eq_true c3, if_pos (show 0 ≤ e ∧ e ≤ 2047 ∧ m < 4503599627370496 by omega)]
        refine Ev.step (fun k => ?_) hj
        simp only [flyballlaw04_PatternParts.j0]
        rw [if_pos trivial, if_pos trivial, rMake_eq neg e m (by omega) (by omega) hm.1 c3, Option.bind_some, if_pos rfl]
      · rw [decide_eq_false c3]
        exact bad (by omega)
    · exact Ev.congr (fun k => if_neg c2) (bad (by omega))
  · exact Ev.congr (fun k => if_neg c1) (bad (by omega))
end Go.Proofs.Ytagbnkbhobmgjaa.Pure
end
