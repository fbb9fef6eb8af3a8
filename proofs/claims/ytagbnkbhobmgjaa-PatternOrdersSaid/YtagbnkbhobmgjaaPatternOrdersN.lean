/- How floats compare is just what the document says, and what their values say. Part 14 of 18. -/
import Derived.Test.YtagbnkbhobmgjaaPatternOrdersE
import Derived.Test.YtagbnkbhobmgjaaPatternOrdersL
import Derived.Test.YtagbnkbhobmgjaaPatternOrdersM
import Derived.Test.YtagbnkbhobmgjaaPatternOrdersK
import Derived.Test.YtagbnkbhobmgjaaPatternOrdersJ
import Derived.Test.YtagbnkbhobmgjaaPatternOrdersH
import Derived.Test.YtagbnkbhobmgjaaPatternOrdersC
section
-- Written by a program of this session (a turned copy of the kit's printer, and hand-written parts). Not trusted: Lean checks it.
namespace Go.Proofs.Ytagbnkbhobmgjaa.Fn
open Go.RowKit Go.Proofs.YtagbnkbhobmgjaaW.PrintWords Go.Proofs.YtagbnkbhobmgjaaW.PrintLast Go.Proofs.YtagbnkbhobmgjaaW.PrintMore
attribute [local go_sem] max2_int min2_int max_two min_two max_three min_three max_four min_four   -- for this text's walks alone
set_option linter.unusedVariables false
set_option linter.unusedSimpArgs false
/-! ### flyballlaw04_works: function 59 -/
def flyballlaw04_worksg.f (k : Nat)  : Option (Bool) := (pattern_Make.f k false 1023 0).bind fun bt101 => ((pattern_Make.f k false 2048 0).bind fun bt103 => ((pattern_Parts.f bt101.1).bind fun bt105 => ((pattern_Split.f k bt101.1).bind fun bt108 => ((pattern_Value.f k 13828302655841107968).bind fun bt110 => ((pattern_Cmp.f k 0 9223372036854775808).bind fun bt119 => (if bt101.1 = 4607182418800017408 then (if bt101.2 = 0 then (if bt103.2 = 1 then (if bt105.1 = true then (some false) else (if bt105.2.1 = 1023 then (if bt105.2.2 = 0 then (if bt108.1 = 4503599627370496 then (if bt108.2 = (-52) then ((ratio_R_Text.f k bt110.1 bt110.2.1 bt110.2.2.1).bind fun t121 => (if t121.toList = ([45, 51, 47, 52] : List UInt8) then (if bt110.2.2.2 = true then ((pattern_Next.f k 0).bind fun t122 => (if t122 = 1 then ((pattern_Next.f k 9223372036854775809).bind fun t123 => (if t123 = 9223372036854775808 then ((pattern_Prev.f k 1).bind fun t124 => (if t124 = 0 then (if bt119.1 = 0 then (if bt119.2 = true then ((pattern_Class.f k bt101.1).bind fun t125 => (if t125 = 2 then ((pattern_Less.f k 0 bt101.1).bind fun t126 => (if t126 = true then ((pattern_Neg.f k bt101.1).bind fun t127 => (if t127 = (Go.bits .or .u64 bt101.1 9223372036854775808) then ((pattern_Abs.f k (Go.bits .or .u64 bt101.1 9223372036854775808)).bind fun t128 => (if t128 = bt101.1 then ((pattern_Inf.f k true).bind fun t129 => (if t129 = 18442240474082181120 then ((pattern_Quiet.f).bind fun t130 => (if t130 = 9221120237041090560 then ((pattern_Max.f k (([0, bt101.1] : List Int))).bind fun t134 => (if t134 = bt101.1 then ((pattern_Min.f k (([0, bt101.1] : List Int))).bind fun t138 => (some (t138 == 0))) else (some false))) else (some false))) else (some false))) else (some false))) else (some false))) else (some false))) else (some false))) else (some false)) else (some false)) else (some false))) else (some false))) else (some false))) else (some false)) else (some false))) else (some false)) else (some false)) else (some false)) else (some false))) else (some false)) else (some false)) else (some false)))))))
theorem flyballlaw04_worksg.mono : ∀ k, LeO (flyballlaw04_worksg.f k ) (flyballlaw04_worksg.f (k + 1) ) := by
 intro  k
 unfold flyballlaw04_worksg.f
 repeat' first
   | (with_reducible exact pattern_Abs.mono _ _)
   | (with_reducible exact pattern_Class.mono _ _)
   | (with_reducible exact pattern_Cmp.mono _ _ _)
   | (with_reducible exact pattern_Inf.mono _ _)
   | (with_reducible exact pattern_Less.mono _ _ _)
   | (with_reducible exact pattern_Make.mono _ _ _ _)
   | (with_reducible exact pattern_Max.mono _ _)
   | (with_reducible exact pattern_Min.mono _ _)
   | (with_reducible exact pattern_Neg.mono _ _)
   | (with_reducible exact pattern_Next.mono _ _)
   | (with_reducible exact pattern_Prev.mono _ _)
   | (with_reducible exact pattern_Split.mono _ _)
   | (with_reducible exact pattern_Value.mono _ _)
   | (with_reducible exact ratio_R_Text.mono _ _ _ _)
   | (with_reducible exact LeO.refl _)
   | (with_reducible exact LeO.none _)
   | (with_reducible refine LeO.ite ?_ ?_)
   | (with_reducible refine LeO.bind ?_ (fun _ => ?_))
   | exact pattern_Abs.mono _ _
   | exact pattern_Class.mono _ _
   | exact pattern_Cmp.mono _ _ _
   | exact pattern_Inf.mono _ _
   | exact pattern_Less.mono _ _ _
   | exact pattern_Make.mono _ _ _ _
   | exact pattern_Max.mono _ _
   | exact pattern_Min.mono _ _
   | exact pattern_Neg.mono _ _
   | exact pattern_Next.mono _ _
   | exact pattern_Prev.mono _ _
   | exact pattern_Split.mono _ _
   | exact pattern_Value.mono _ _
   | exact ratio_R_Text.mono _ _ _ _
   | exact LeO.none _
   | refine LeO.ite ?_ ?_
   | refine LeO.bind ?_ (fun _ => ?_)
set_option maxHeartbeats 8000000 in
set_option maxRecDepth 100000 in
theorem flyballlaw04_worksg.calls (k : Nat)  (w : World) (h : flyballlaw04_worksg.f k  = some true) :
  Calls Try.prog 59 #[] w fun e w' => e = .returned (.bool true) ∧ Below w.heap.size w w' := by
 have hu69 := Try.underlying69
 have HB := Aside0.mk (Below.refl w.heap.size w)
 have H : ((pattern_Make.f k false 1023 0).bind fun bt101 => ((pattern_Make.f k false 2048 0).bind fun bt103 => ((pattern_Parts.f bt101.1).bind fun bt105 => ((pattern_Split.f k bt101.1).bind fun bt108 => ((pattern_Value.f k 13828302655841107968).bind fun bt110 => ((pattern_Cmp.f k 0 9223372036854775808).bind fun bt119 => (if bt101.1 = 4607182418800017408 then (if bt101.2 = 0 then (if bt103.2 = 1 then (if bt105.1 = true then (some false) else (if bt105.2.1 = 1023 then (if bt105.2.2 = 0 then (if bt108.1 = 4503599627370496 then (if bt108.2 = (-52) then ((ratio_R_Text.f k bt110.1 bt110.2.1 bt110.2.2.1).bind fun t121 => (if t121.toList = ([45, 51, 47, 52] : List UInt8) then (if bt110.2.2.2 = true then ((pattern_Next.f k 0).bind fun t122 => (if t122 = 1 then ((pattern_Next.f k 9223372036854775809).bind fun t123 => (if t123 = 9223372036854775808 then ((pattern_Prev.f k 1).bind fun t124 => (if t124 = 0 then (if bt119.1 = 0 then (if bt119.2 = true then ((pattern_Class.f k bt101.1).bind fun t125 => (if t125 = 2 then ((pattern_Less.f k 0 bt101.1).bind fun t126 => (if t126 = true then ((pattern_Neg.f k bt101.1).bind fun t127 => (if t127 = (Go.bits .or .u64 bt101.1 9223372036854775808) then ((pattern_Abs.f k (Go.bits .or .u64 bt101.1 9223372036854775808)).bind fun t128 => (if t128 = bt101.1 then ((pattern_Inf.f k true).bind fun t129 => (if t129 = 18442240474082181120 then ((pattern_Quiet.f).bind fun t130 => (if t130 = 9221120237041090560 then ((pattern_Max.f k (([0, bt101.1] : List Int))).bind fun t134 => (if t134 = bt101.1 then ((pattern_Min.f k (([0, bt101.1] : List Int))).bind fun t138 => (some (t138 == 0))) else (some false))) else (some false))) else (some false))) else (some false))) else (some false))) else (some false))) else (some false))) else (some false)) else (some false)) else (some false))) else (some false))) else (some false))) else (some false)) else (some false))) else (some false)) else (some false)) else (some false)) else (some false))) else (some false)) else (some false)) else (some false)))))))) = some true := h
 clear h
 replace H := Option.bind_eq_some_iff.mp H
 obtain ⟨⟨t101, t102⟩, A10, H⟩ := H
 replace H : ((pattern_Make.f k false 2048 0).bind fun bt103 => ((pattern_Parts.f t101).bind fun bt105 => ((pattern_Split.f k t101).bind fun bt108 => ((pattern_Value.f k 13828302655841107968).bind fun bt110 => ((pattern_Cmp.f k 0 9223372036854775808).bind fun bt119 => (if t101 = 4607182418800017408 then (if t102 = 0 then (if bt103.2 = 1 then (if bt105.1 = true then (some false) else (if bt105.2.1 = 1023 then (if bt105.2.2 = 0 then (if bt108.1 = 4503599627370496 then (if bt108.2 = (-52) then ((ratio_R_Text.f k bt110.1 bt110.2.1 bt110.2.2.1).bind fun t121 => (if t121.toList = ([45, 51, 47, 52] : List UInt8) then (if bt110.2.2.2 = true then ((pattern_Next.f k 0).bind fun t122 => (if t122 = 1 then ((pattern_Next.f k 9223372036854775809).bind fun t123 => (if t123 = 9223372036854775808 then ((pattern_Prev.f k 1).bind fun t124 => (if t124 = 0 then (if bt119.1 = 0 then (if bt119.2 = true then ((pattern_Class.f k t101).bind fun t125 => (if t125 = 2 then ((pattern_Less.f k 0 t101).bind fun t126 => (if t126 = true then ((pattern_Neg.f k t101).bind fun t127 => (if t127 = (Go.bits .or .u64 t101 9223372036854775808) then ((pattern_Abs.f k (Go.bits .or .u64 t101 9223372036854775808)).bind fun t128 => (if t128 = t101 then ((pattern_Inf.f k true).bind fun t129 => (if t129 = 18442240474082181120 then ((pattern_Quiet.f).bind fun t130 => (if t130 = 9221120237041090560 then ((pattern_Max.f k (([0, t101] : List Int))).bind fun t134 => (if t134 = t101 then ((pattern_Min.f k (([0, t101] : List Int))).bind fun t138 => (some (t138 == 0))) else (some false))) else (some false))) else (some false))) else (some false))) else (some false))) else (some false))) else (some false))) else (some false)) else (some false)) else (some false))) else (some false))) else (some false))) else (some false)) else (some false))) else (some false)) else (some false)) else (some false)) else (some false))) else (some false)) else (some false)) else (some false))))))) = some true := H
 have A1 := Aside0.mk A10
 clear A10
 replace H := Option.bind_eq_some_iff.mp H
 obtain ⟨⟨t103, t104⟩, A20, H⟩ := H
 replace H : ((pattern_Parts.f t101).bind fun bt105 => ((pattern_Split.f k t101).bind fun bt108 => ((pattern_Value.f k 13828302655841107968).bind fun bt110 => ((pattern_Cmp.f k 0 9223372036854775808).bind fun bt119 => (if t101 = 4607182418800017408 then (if t102 = 0 then (if t104 = 1 then (if bt105.1 = true then (some false) else (if bt105.2.1 = 1023 then (if bt105.2.2 = 0 then (if bt108.1 = 4503599627370496 then (if bt108.2 = (-52) then ((ratio_R_Text.f k bt110.1 bt110.2.1 bt110.2.2.1).bind fun t121 => (if t121.toList = ([45, 51, 47, 52] : List UInt8) then (if bt110.2.2.2 = true then ((pattern_Next.f k 0).bind fun t122 => (if t122 = 1 then ((pattern_Next.f k 9223372036854775809).bind fun t123 => (if t123 = 9223372036854775808 then ((pattern_Prev.f k 1).bind fun t124 => (if t124 = 0 then (if bt119.1 = 0 then (if bt119.2 = true then ((pattern_Class.f k t101).bind fun t125 => (if t125 = 2 then ((pattern_Less.f k 0 t101).bind fun t126 => (if t126 = true then ((pattern_Neg.f k t101).bind fun t127 => (if t127 = (Go.bits .or .u64 t101 9223372036854775808) then ((pattern_Abs.f k (Go.bits .or .u64 t101 9223372036854775808)).bind fun t128 => (if t128 = t101 then ((pattern_Inf.f k true).bind fun t129 => (if t129 = 18442240474082181120 then ((pattern_Quiet.f).bind fun t130 => (if t130 = 9221120237041090560 then ((pattern_Max.f k (([0, t101] : List Int))).bind fun t134 => (if t134 = t101 then ((pattern_Min.f k (([0, t101] : List Int))).bind fun t138 => (some (t138 == 0))) else (some false))) else (some false))) else (some false))) else (some false))) else (some false))) else (some false))) else (some false))) else (some false)) else (some false)) else (some false))) else (some false))) else (some false))) else (some false)) else (some false))) else (some false)) else (some false)) else (some false)) else (some false))) else (some false)) else (some false)) else (some false)))))) = some true := H
 have A2 := Aside0.mk A20
 clear A20
 replace H := Option.bind_eq_some_iff.mp H
 obtain ⟨⟨t105, t106, t107⟩, A30, H⟩ := H
 replace H : ((pattern_Split.f k t101).bind fun bt108 => ((pattern_Value.f k 13828302655841107968).bind fun bt110 => ((pattern_Cmp.f k 0 9223372036854775808).bind fun bt119 => (if t101 = 4607182418800017408 then (if t102 = 0 then (if t104 = 1 then (if t105 = true then (some false) else (if t106 = 1023 then (if t107 = 0 then (if bt108.1 = 4503599627370496 then (if bt108.2 = (-52) then ((ratio_R_Text.f k bt110.1 bt110.2.1 bt110.2.2.1).bind fun t121 => (if t121.toList = ([45, 51, 47, 52] : List UInt8) then (if bt110.2.2.2 = true then ((pattern_Next.f k 0).bind fun t122 => (if t122 = 1 then ((pattern_Next.f k 9223372036854775809).bind fun t123 => (if t123 = 9223372036854775808 then ((pattern_Prev.f k 1).bind fun t124 => (if t124 = 0 then (if bt119.1 = 0 then (if bt119.2 = true then ((pattern_Class.f k t101).bind fun t125 => (if t125 = 2 then ((pattern_Less.f k 0 t101).bind fun t126 => (if t126 = true then ((pattern_Neg.f k t101).bind fun t127 => (if t127 = (Go.bits .or .u64 t101 9223372036854775808) then ((pattern_Abs.f k (Go.bits .or .u64 t101 9223372036854775808)).bind fun t128 => (if t128 = t101 then ((pattern_Inf.f k true).bind fun t129 => (if t129 = 18442240474082181120 then ((pattern_Quiet.f).bind fun t130 => (if t130 = 9221120237041090560 then ((pattern_Max.f k (([0, t101] : List Int))).bind fun t134 => (if t134 = t101 then ((pattern_Min.f k (([0, t101] : List Int))).bind fun t138 => (some (t138 == 0))) else (some false))) else (some false))) else (some false))) else (some false))) else (some false))) else (some false))) else (some false))) else (some false)) else (some false)) else (some false))) else (some false))) else (some false))) else (some false)) else (some false))) else (some false)) else (some false)) else (some false)) else (some false))) else (some false)) else (some false)) else (some false))))) = some true := H
 have A3 := Aside0.mk A30
 clear A30
 replace H := Option.bind_eq_some_iff.mp H
 obtain ⟨⟨t108, t109⟩, A40, H⟩ := H
 replace H : ((pattern_Value.f k 13828302655841107968).bind fun bt110 => ((pattern_Cmp.f k 0 9223372036854775808).bind fun bt119 => (if t101 = 4607182418800017408 then (if t102 = 0 then (if t104 = 1 then (if t105 = true then (some false) else (if t106 = 1023 then (if t107 = 0 then (if t108 = 4503599627370496 then (if t109 = (-52) then ((ratio_R_Text.f k bt110.1 bt110.2.1 bt110.2.2.1).bind fun t121 => (if t121.toList = ([45, 51, 47, 52] : List UInt8) then (if bt110.2.2.2 = true then ((pattern_Next.f k 0).bind fun t122 => (if t122 = 1 then ((pattern_Next.f k 9223372036854775809).bind fun t123 => (if t123 = 9223372036854775808 then ((pattern_Prev.f k 1).bind fun t124 => (if t124 = 0 then (if bt119.1 = 0 then (if bt119.2 = true then ((pattern_Class.f k t101).bind fun t125 => (if t125 = 2 then ((pattern_Less.f k 0 t101).bind fun t126 => (if t126 = true then ((pattern_Neg.f k t101).bind fun t127 => (if t127 = (Go.bits .or .u64 t101 9223372036854775808) then ((pattern_Abs.f k (Go.bits .or .u64 t101 9223372036854775808)).bind fun t128 => (if t128 = t101 then ((pattern_Inf.f k true).bind fun t129 => (if t129 = 18442240474082181120 then ((pattern_Quiet.f).bind fun t130 => (if t130 = 9221120237041090560 then ((pattern_Max.f k (([0, t101] : List Int))).bind fun t134 => (if t134 = t101 then ((pattern_Min.f k (([0, t101] : List Int))).bind fun t138 => (some (t138 == 0))) else (some false))) else (some false))) else (some false))) else (some false))) else (some false))) else (some false))) else (some false))) else (some false)) else (some false)) else (some false))) else (some false))) else (some false))) else (some false)) else (some false))) else (some false)) else (some false)) else (some false)) else (some false))) else (some false)) else (some false)) else (some false)))) = some true := H
 have A4 := Aside0.mk A40
 clear A40
 replace H := Option.bind_eq_some_iff.mp H
 obtain ⟨⟨t110, t111, t114, t117⟩, A50, H⟩ := H
 replace H : ((pattern_Cmp.f k 0 9223372036854775808).bind fun bt119 => (if t101 = 4607182418800017408 then (if t102 = 0 then (if t104 = 1 then (if t105 = true then (some false) else (if t106 = 1023 then (if t107 = 0 then (if t108 = 4503599627370496 then (if t109 = (-52) then ((ratio_R_Text.f k t110 t111 t114).bind fun t121 => (if t121.toList = ([45, 51, 47, 52] : List UInt8) then (if t117 = true then ((pattern_Next.f k 0).bind fun t122 => (if t122 = 1 then ((pattern_Next.f k 9223372036854775809).bind fun t123 => (if t123 = 9223372036854775808 then ((pattern_Prev.f k 1).bind fun t124 => (if t124 = 0 then (if bt119.1 = 0 then (if bt119.2 = true then ((pattern_Class.f k t101).bind fun t125 => (if t125 = 2 then ((pattern_Less.f k 0 t101).bind fun t126 => (if t126 = true then ((pattern_Neg.f k t101).bind fun t127 => (if t127 = (Go.bits .or .u64 t101 9223372036854775808) then ((pattern_Abs.f k (Go.bits .or .u64 t101 9223372036854775808)).bind fun t128 => (if t128 = t101 then ((pattern_Inf.f k true).bind fun t129 => (if t129 = 18442240474082181120 then ((pattern_Quiet.f).bind fun t130 => (if t130 = 9221120237041090560 then ((pattern_Max.f k (([0, t101] : List Int))).bind fun t134 => (if t134 = t101 then ((pattern_Min.f k (([0, t101] : List Int))).bind fun t138 => (some (t138 == 0))) else (some false))) else (some false))) else (some false))) else (some false))) else (some false))) else (some false))) else (some false))) else (some false)) else (some false)) else (some false))) else (some false))) else (some false))) else (some false)) else (some false))) else (some false)) else (some false)) else (some false)) else (some false))) else (some false)) else (some false)) else (some false))) = some true := H
 have A5 := Aside0.mk A50
 clear A50
 replace H := Option.bind_eq_some_iff.mp H
 obtain ⟨⟨t119, t120⟩, A60, H⟩ := H
 replace H : (if t101 = 4607182418800017408 then (if t102 = 0 then (if t104 = 1 then (if t105 = true then (some false) else (if t106 = 1023 then (if t107 = 0 then (if t108 = 4503599627370496 then (if t109 = (-52) then ((ratio_R_Text.f k t110 t111 t114).bind fun t121 => (if t121.toList = ([45, 51, 47, 52] : List UInt8) then (if t117 = true then ((pattern_Next.f k 0).bind fun t122 => (if t122 = 1 then ((pattern_Next.f k 9223372036854775809).bind fun t123 => (if t123 = 9223372036854775808 then ((pattern_Prev.f k 1).bind fun t124 => (if t124 = 0 then (if t119 = 0 then (if t120 = true then ((pattern_Class.f k t101).bind fun t125 => (if t125 = 2 then ((pattern_Less.f k 0 t101).bind fun t126 => (if t126 = true then ((pattern_Neg.f k t101).bind fun t127 => (if t127 = (Go.bits .or .u64 t101 9223372036854775808) then ((pattern_Abs.f k (Go.bits .or .u64 t101 9223372036854775808)).bind fun t128 => (if t128 = t101 then ((pattern_Inf.f k true).bind fun t129 => (if t129 = 18442240474082181120 then ((pattern_Quiet.f).bind fun t130 => (if t130 = 9221120237041090560 then ((pattern_Max.f k (([0, t101] : List Int))).bind fun t134 => (if t134 = t101 then ((pattern_Min.f k (([0, t101] : List Int))).bind fun t138 => (some (t138 == 0))) else (some false))) else (some false))) else (some false))) else (some false))) else (some false))) else (some false))) else (some false))) else (some false)) else (some false)) else (some false))) else (some false))) else (some false))) else (some false)) else (some false))) else (some false)) else (some false)) else (some false)) else (some false))) else (some false)) else (some false)) else (some false)) = some true := H
 have A6 := Aside0.mk A60
 clear A60
 by_cases c7 : t101 = 4607182418800017408
 ·rw [if_pos c7] at H
  have c7b0 : (t101 == 4607182418800017408) = true := beq_iff_eq.mpr c7
  have c7b1 : (t101 != 4607182418800017408) = false := bne_eq_false_iff_eq.mpr c7
  clear c7
  by_cases c8 : t102 = 0
  ·rw [if_pos c8] at H
   have c8b0 : (t102 == 0) = true := beq_iff_eq.mpr c8
   have c8b1 : (t102 != 0) = false := bne_eq_false_iff_eq.mpr c8
   clear c8
   by_cases c9 : t104 = 1
   ·rw [if_pos c9] at H
    have c9b0 : (t104 == 1) = true := beq_iff_eq.mpr c9
    have c9b1 : (t104 != 1) = false := bne_eq_false_iff_eq.mpr c9
    clear c9
    by_cases c10 : t105 = true
    ·subst c10
     have H1 : (some false) = some true := by rw [if_pos rfl] at H; first | done | exact H
     clear H
     have H := H1
     clear H1
     exact absurd H (by simp)
    ·replace c10 := Bool.eq_false_iff.mpr c10
     subst c10
     have H1 : (if t106 = 1023 then (if t107 = 0 then (if t108 = 4503599627370496 then (if t109 = (-52) then ((ratio_R_Text.f k t110 t111 t114).bind fun t121 => (if t121.toList = ([45, 51, 47, 52] : List UInt8) then (if t117 = true then ((pattern_Next.f k 0).bind fun t122 => (if t122 = 1 then ((pattern_Next.f k 9223372036854775809).bind fun t123 => (if t123 = 9223372036854775808 then ((pattern_Prev.f k 1).bind fun t124 => (if t124 = 0 then (if t119 = 0 then (if t120 = true then ((pattern_Class.f k t101).bind fun t125 => (if t125 = 2 then ((pattern_Less.f k 0 t101).bind fun t126 => (if t126 = true then ((pattern_Neg.f k t101).bind fun t127 => (if t127 = (Go.bits .or .u64 t101 9223372036854775808) then ((pattern_Abs.f k (Go.bits .or .u64 t101 9223372036854775808)).bind fun t128 => (if t128 = t101 then ((pattern_Inf.f k true).bind fun t129 => (if t129 = 18442240474082181120 then ((pattern_Quiet.f).bind fun t130 => (if t130 = 9221120237041090560 then ((pattern_Max.f k (([0, t101] : List Int))).bind fun t134 => (if t134 = t101 then ((pattern_Min.f k (([0, t101] : List Int))).bind fun t138 => (some (t138 == 0))) else (some false))) else (some false))) else (some false))) else (some false))) else (some false))) else (some false))) else (some false))) else (some false)) else (some false)) else (some false))) else (some false))) else (some false))) else (some false)) else (some false))) else (some false)) else (some false)) else (some false)) else (some false)) = some true := by rw [if_neg (show ¬ (false = true) by decide)] at H; first | done | exact H
     clear H
     have H := H1
     clear H1
     by_cases c16 : t106 = 1023
     ·rw [if_pos c16] at H
      have c16b0 : (t106 == 1023) = true := beq_iff_eq.mpr c16
      have c16b1 : (t106 != 1023) = false := bne_eq_false_iff_eq.mpr c16
      clear c16
      by_cases c17 : t107 = 0
      ·rw [if_pos c17] at H
       have c17b0 : (t107 == 0) = true := beq_iff_eq.mpr c17
       have c17b1 : (t107 != 0) = false := bne_eq_false_iff_eq.mpr c17
       clear c17
       by_cases c18 : t108 = 4503599627370496
       ·rw [if_pos c18] at H
        have c18b0 : (t108 == 4503599627370496) = true := beq_iff_eq.mpr c18
        have c18b1 : (t108 != 4503599627370496) = false := bne_eq_false_iff_eq.mpr c18
        clear c18
        by_cases c19 : t109 = (-52)
        ·rw [if_pos c19] at H
         have c19b0 : (t109 == (-52)) = true := beq_iff_eq.mpr c19
         have c19b1 : (t109 != (-52)) = false := bne_eq_false_iff_eq.mpr c19
         clear c19
         replace H := Option.bind_eq_some_iff.mp H
         obtain ⟨t121, A200, H⟩ := H
         replace H : (if t121.toList = ([45, 51, 47, 52] : List UInt8) then (if t117 = true then ((pattern_Next.f k 0).bind fun t122 => (if t122 = 1 then ((pattern_Next.f k 9223372036854775809).bind fun t123 => (if t123 = 9223372036854775808 then ((pattern_Prev.f k 1).bind fun t124 => (if t124 = 0 then (if t119 = 0 then (if t120 = true then ((pattern_Class.f k t101).bind fun t125 => (if t125 = 2 then ((pattern_Less.f k 0 t101).bind fun t126 => (if t126 = true then ((pattern_Neg.f k t101).bind fun t127 => (if t127 = (Go.bits .or .u64 t101 9223372036854775808) then ((pattern_Abs.f k (Go.bits .or .u64 t101 9223372036854775808)).bind fun t128 => (if t128 = t101 then ((pattern_Inf.f k true).bind fun t129 => (if t129 = 18442240474082181120 then ((pattern_Quiet.f).bind fun t130 => (if t130 = 9221120237041090560 then ((pattern_Max.f k (([0, t101] : List Int))).bind fun t134 => (if t134 = t101 then ((pattern_Min.f k (([0, t101] : List Int))).bind fun t138 => (some (t138 == 0))) else (some false))) else (some false))) else (some false))) else (some false))) else (some false))) else (some false))) else (some false))) else (some false)) else (some false)) else (some false))) else (some false))) else (some false))) else (some false)) else (some false)) = some true := H
         have A20 := Aside0.mk A200
         clear A200
         by_cases c21 : t121.toList = ([45, 51, 47, 52] : List UInt8)
         ·rw [if_pos c21] at H
          have c21b0 : (t121.toList == ([45, 51, 47, 52] : List UInt8)) = true := beq_iff_eq.mpr c21
          have c21b1 : (t121.toList != ([45, 51, 47, 52] : List UInt8)) = false := bne_eq_false_iff_eq.mpr c21
          clear c21
          by_cases c22 : t117 = true
          ·subst c22
           have H1 : ((pattern_Next.f k 0).bind fun t122 => (if t122 = 1 then ((pattern_Next.f k 9223372036854775809).bind fun t123 => (if t123 = 9223372036854775808 then ((pattern_Prev.f k 1).bind fun t124 => (if t124 = 0 then (if t119 = 0 then (if t120 = true then ((pattern_Class.f k t101).bind fun t125 => (if t125 = 2 then ((pattern_Less.f k 0 t101).bind fun t126 => (if t126 = true then ((pattern_Neg.f k t101).bind fun t127 => (if t127 = (Go.bits .or .u64 t101 9223372036854775808) then ((pattern_Abs.f k (Go.bits .or .u64 t101 9223372036854775808)).bind fun t128 => (if t128 = t101 then ((pattern_Inf.f k true).bind fun t129 => (if t129 = 18442240474082181120 then ((pattern_Quiet.f).bind fun t130 => (if t130 = 9221120237041090560 then ((pattern_Max.f k (([0, t101] : List Int))).bind fun t134 => (if t134 = t101 then ((pattern_Min.f k (([0, t101] : List Int))).bind fun t138 => (some (t138 == 0))) else (some false))) else (some false))) else (some false))) else (some false))) else (some false))) else (some false))) else (some false))) else (some false)) else (some false)) else (some false))) else (some false))) else (some false))) = some true := by rw [if_pos rfl] at H; first | done | exact H
           clear H
           have H := H1
           clear H1
           replace H := Option.bind_eq_some_iff.mp H
           obtain ⟨t122, A230, H⟩ := H
           replace H : (if t122 = 1 then ((pattern_Next.f k 9223372036854775809).bind fun t123 => (if t123 = 9223372036854775808 then ((pattern_Prev.f k 1).bind fun t124 => (if t124 = 0 then (if t119 = 0 then (if t120 = true then ((pattern_Class.f k t101).bind fun t125 => (if t125 = 2 then ((pattern_Less.f k 0 t101).bind fun t126 => (if t126 = true then ((pattern_Neg.f k t101).bind fun t127 => (if t127 = (Go.bits .or .u64 t101 9223372036854775808) then ((pattern_Abs.f k (Go.bits .or .u64 t101 9223372036854775808)).bind fun t128 => (if t128 = t101 then ((pattern_Inf.f k true).bind fun t129 => (if t129 = 18442240474082181120 then ((pattern_Quiet.f).bind fun t130 => (if t130 = 9221120237041090560 then ((pattern_Max.f k (([0, t101] : List Int))).bind fun t134 => (if t134 = t101 then ((pattern_Min.f k (([0, t101] : List Int))).bind fun t138 => (some (t138 == 0))) else (some false))) else (some false))) else (some false))) else (some false))) else (some false))) else (some false))) else (some false))) else (some false)) else (some false)) else (some false))) else (some false))) else (some false)) = some true := H
           have A23 := Aside0.mk A230
           clear A230
           by_cases c24 : t122 = 1
           ·rw [if_pos c24] at H
            have c24b0 : (t122 == 1) = true := beq_iff_eq.mpr c24
            have c24b1 : (t122 != 1) = false := bne_eq_false_iff_eq.mpr c24
            clear c24
            replace H := Option.bind_eq_some_iff.mp H
            obtain ⟨t123, A250, H⟩ := H
            replace H : (if t123 = 9223372036854775808 then ((pattern_Prev.f k 1).bind fun t124 => (if t124 = 0 then (if t119 = 0 then (if t120 = true then ((pattern_Class.f k t101).bind fun t125 => (if t125 = 2 then ((pattern_Less.f k 0 t101).bind fun t126 => (if t126 = true then ((pattern_Neg.f k t101).bind fun t127 => (if t127 = (Go.bits .or .u64 t101 9223372036854775808) then ((pattern_Abs.f k (Go.bits .or .u64 t101 9223372036854775808)).bind fun t128 => (if t128 = t101 then ((pattern_Inf.f k true).bind fun t129 => (if t129 = 18442240474082181120 then ((pattern_Quiet.f).bind fun t130 => (if t130 = 9221120237041090560 then ((pattern_Max.f k (([0, t101] : List Int))).bind fun t134 => (if t134 = t101 then ((pattern_Min.f k (([0, t101] : List Int))).bind fun t138 => (some (t138 == 0))) else (some false))) else (some false))) else (some false))) else (some false))) else (some false))) else (some false))) else (some false))) else (some false)) else (some false)) else (some false))) else (some false)) = some true := H
            have A25 := Aside0.mk A250
            clear A250
            by_cases c26 : t123 = 9223372036854775808
            ·rw [if_pos c26] at H
             have c26b0 : (t123 == 9223372036854775808) = true := beq_iff_eq.mpr c26
             have c26b1 : (t123 != 9223372036854775808) = false := bne_eq_false_iff_eq.mpr c26
             clear c26
             replace H := Option.bind_eq_some_iff.mp H
             obtain ⟨t124, A270, H⟩ := H
             replace H : (if t124 = 0 then (if t119 = 0 then (if t120 = true then ((pattern_Class.f k t101).bind fun t125 => (if t125 = 2 then ((pattern_Less.f k 0 t101).bind fun t126 => (if t126 = true then ((pattern_Neg.f k t101).bind fun t127 => (if t127 = (Go.bits .or .u64 t101 9223372036854775808) then ((pattern_Abs.f k (Go.bits .or .u64 t101 9223372036854775808)).bind fun t128 => (if t128 = t101 then ((pattern_Inf.f k true).bind fun t129 => (if t129 = 18442240474082181120 then ((pattern_Quiet.f).bind fun t130 => (if t130 = 9221120237041090560 then ((pattern_Max.f k (([0, t101] : List Int))).bind fun t134 => (if t134 = t101 then ((pattern_Min.f k (([0, t101] : List Int))).bind fun t138 => (some (t138 == 0))) else (some false))) else (some false))) else (some false))) else (some false))) else (some false))) else (some false))) else (some false))) else (some false)) else (some false)) else (some false)) = some true := H
             have A27 := Aside0.mk A270
             clear A270
             by_cases c28 : t124 = 0
             ·rw [if_pos c28] at H
              have c28b0 : (t124 == 0) = true := beq_iff_eq.mpr c28
              have c28b1 : (t124 != 0) = false := bne_eq_false_iff_eq.mpr c28
              clear c28
              by_cases c29 : t119 = 0
              ·rw [if_pos c29] at H
               have c29b0 : (t119 == 0) = true := beq_iff_eq.mpr c29
               have c29b1 : (t119 != 0) = false := bne_eq_false_iff_eq.mpr c29
               clear c29
               by_cases c30 : t120 = true
               ·subst c30
                have H1 : ((pattern_Class.f k t101).bind fun t125 => (if t125 = 2 then ((pattern_Less.f k 0 t101).bind fun t126 => (if t126 = true then ((pattern_Neg.f k t101).bind fun t127 => (if t127 = (Go.bits .or .u64 t101 9223372036854775808) then ((pattern_Abs.f k (Go.bits .or .u64 t101 9223372036854775808)).bind fun t128 => (if t128 = t101 then ((pattern_Inf.f k true).bind fun t129 => (if t129 = 18442240474082181120 then ((pattern_Quiet.f).bind fun t130 => (if t130 = 9221120237041090560 then ((pattern_Max.f k (([0, t101] : List Int))).bind fun t134 => (if t134 = t101 then ((pattern_Min.f k (([0, t101] : List Int))).bind fun t138 => (some (t138 == 0))) else (some false))) else (some false))) else (some false))) else (some false))) else (some false))) else (some false))) else (some false))) = some true := by rw [if_pos rfl] at H; first | done | exact H
                clear H
                have H := H1
                clear H1
                replace H := Option.bind_eq_some_iff.mp H
                obtain ⟨t125, A310, H⟩ := H
                replace H : (if t125 = 2 then ((pattern_Less.f k 0 t101).bind fun t126 => (if t126 = true then ((pattern_Neg.f k t101).bind fun t127 => (if t127 = (Go.bits .or .u64 t101 9223372036854775808) then ((pattern_Abs.f k (Go.bits .or .u64 t101 9223372036854775808)).bind fun t128 => (if t128 = t101 then ((pattern_Inf.f k true).bind fun t129 => (if t129 = 18442240474082181120 then ((pattern_Quiet.f).bind fun t130 => (if t130 = 9221120237041090560 then ((pattern_Max.f k (([0, t101] : List Int))).bind fun t134 => (if t134 = t101 then ((pattern_Min.f k (([0, t101] : List Int))).bind fun t138 => (some (t138 == 0))) else (some false))) else (some false))) else (some false))) else (some false))) else (some false))) else (some false))) else (some false)) = some true := H
                have A31 := Aside0.mk A310
                clear A310
                by_cases c32 : t125 = 2
                ·rw [if_pos c32] at H
                 have c32b0 : (t125 == 2) = true := beq_iff_eq.mpr c32
                 have c32b1 : (t125 != 2) = false := bne_eq_false_iff_eq.mpr c32
                 clear c32
                 replace H := Option.bind_eq_some_iff.mp H
                 obtain ⟨t126, A330, H⟩ := H
                 replace H : (if t126 = true then ((pattern_Neg.f k t101).bind fun t127 => (if t127 = (Go.bits .or .u64 t101 9223372036854775808) then ((pattern_Abs.f k (Go.bits .or .u64 t101 9223372036854775808)).bind fun t128 => (if t128 = t101 then ((pattern_Inf.f k true).bind fun t129 => (if t129 = 18442240474082181120 then ((pattern_Quiet.f).bind fun t130 => (if t130 = 9221120237041090560 then ((pattern_Max.f k (([0, t101] : List Int))).bind fun t134 => (if t134 = t101 then ((pattern_Min.f k (([0, t101] : List Int))).bind fun t138 => (some (t138 == 0))) else (some false))) else (some false))) else (some false))) else (some false))) else (some false))) else (some false)) = some true := H
                 have A33 := Aside0.mk A330
                 clear A330
                 by_cases c34 : t126 = true
                 ·subst c34
                  have H1 : ((pattern_Neg.f k t101).bind fun t127 => (if t127 = (Go.bits .or .u64 t101 9223372036854775808) then ((pattern_Abs.f k (Go.bits .or .u64 t101 9223372036854775808)).bind fun t128 => (if t128 = t101 then ((pattern_Inf.f k true).bind fun t129 => (if t129 = 18442240474082181120 then ((pattern_Quiet.f).bind fun t130 => (if t130 = 9221120237041090560 then ((pattern_Max.f k (([0, t101] : List Int))).bind fun t134 => (if t134 = t101 then ((pattern_Min.f k (([0, t101] : List Int))).bind fun t138 => (some (t138 == 0))) else (some false))) else (some false))) else (some false))) else (some false))) else (some false))) = some true := by rw [if_pos rfl] at H; first | done | exact H
                  clear H
                  have H := H1
                  clear H1
                  replace H := Option.bind_eq_some_iff.mp H
                  obtain ⟨t127, A350, H⟩ := H
                  replace H : (if t127 = (Go.bits .or .u64 t101 9223372036854775808) then ((pattern_Abs.f k (Go.bits .or .u64 t101 9223372036854775808)).bind fun t128 => (if t128 = t101 then ((pattern_Inf.f k true).bind fun t129 => (if t129 = 18442240474082181120 then ((pattern_Quiet.f).bind fun t130 => (if t130 = 9221120237041090560 then ((pattern_Max.f k (([0, t101] : List Int))).bind fun t134 => (if t134 = t101 then ((pattern_Min.f k (([0, t101] : List Int))).bind fun t138 => (some (t138 == 0))) else (some false))) else (some false))) else (some false))) else (some false))) else (some false)) = some true := H
                  have A35 := Aside0.mk A350
                  clear A350
                  by_cases c36 : t127 = (Go.bits .or .u64 t101 9223372036854775808)
                  ·rw [if_pos c36] at H
                   have c36b0 : (t127 == (Go.bits .or .u64 t101 9223372036854775808)) = true := beq_iff_eq.mpr c36
                   have c36b1 : (t127 != (Go.bits .or .u64 t101 9223372036854775808)) = false := bne_eq_false_iff_eq.mpr c36
                   clear c36
                   replace H := Option.bind_eq_some_iff.mp H
                   obtain ⟨t128, A370, H⟩ := H
                   replace H : (if t128 = t101 then ((pattern_Inf.f k true).bind fun t129 => (if t129 = 18442240474082181120 then ((pattern_Quiet.f).bind fun t130 => (if t130 = 9221120237041090560 then ((pattern_Max.f k (([0, t101] : List Int))).bind fun t134 => (if t134 = t101 then ((pattern_Min.f k (([0, t101] : List Int))).bind fun t138 => (some (t138 == 0))) else (some false))) else (some false))) else (some false))) else (some false)) = some true := H
                   have A37 := Aside0.mk A370
                   clear A370
                   by_cases c38 : t128 = t101
                   ·rw [if_pos c38] at H
                    have c38b0 : (t128 == t101) = true := beq_iff_eq.mpr c38
                    have c38b1 : (t128 != t101) = false := bne_eq_false_iff_eq.mpr c38
                    clear c38
                    replace H := Option.bind_eq_some_iff.mp H
                    obtain ⟨t129, A390, H⟩ := H
                    replace H : (if t129 = 18442240474082181120 then ((pattern_Quiet.f).bind fun t130 => (if t130 = 9221120237041090560 then ((pattern_Max.f k (([0, t101] : List Int))).bind fun t134 => (if t134 = t101 then ((pattern_Min.f k (([0, t101] : List Int))).bind fun t138 => (some (t138 == 0))) else (some false))) else (some false))) else (some false)) = some true := H
                    have A39 := Aside0.mk A390
                    clear A390
                    by_cases c40 : t129 = 18442240474082181120
                    ·rw [if_pos c40] at H
                     have c40b0 : (t129 == 18442240474082181120) = true := beq_iff_eq.mpr c40
                     have c40b1 : (t129 != 18442240474082181120) = false := bne_eq_false_iff_eq.mpr c40
                     clear c40
                     replace H := Option.bind_eq_some_iff.mp H
                     obtain ⟨t130, A410, H⟩ := H
                     replace H : (if t130 = 9221120237041090560 then ((pattern_Max.f k (([0, t101] : List Int))).bind fun t134 => (if t134 = t101 then ((pattern_Min.f k (([0, t101] : List Int))).bind fun t138 => (some (t138 == 0))) else (some false))) else (some false)) = some true := H
                     have A41 := Aside0.mk A410
                     clear A410
                     by_cases c42 : t130 = 9221120237041090560
                     ·rw [if_pos c42] at H
                      have c42b0 : (t130 == 9221120237041090560) = true := beq_iff_eq.mpr c42
                      have c42b1 : (t130 != 9221120237041090560) = false := bne_eq_false_iff_eq.mpr c42
                      clear c42
                      obtain ⟨y131, hy131⟩ : ∃ y_ : List Int, y_ = (([0, t101] : List Int)) := ⟨_, rfl⟩
                      replace H : ((pattern_Max.f k y131).bind fun t134 => (if t134 = t101 then ((pattern_Min.f k (([0, t101] : List Int))).bind fun t138 => (some (t138 == 0))) else (some false))) = some true := by first | (rw [hy131]; with_reducible exact H) | (have H2_ := (Option.bind_some _ _).symm.trans H; rw [hy131]; with_reducible exact H2_) | (have H2_ := (Option.bind_some _ _).symm.trans H; with_reducible exact H2_) | with_reducible exact H | (rw [hy131]; exact H) | exact H
                      have Ny131 := Aside0.mk hy131
                      clear hy131
                      replace H := Option.bind_eq_some_iff.mp H
                      obtain ⟨t134, A430, H⟩ := H
                      replace H : (if t134 = t101 then ((pattern_Min.f k (([0, t101] : List Int))).bind fun t138 => (some (t138 == 0))) else (some false)) = some true := H
                      have A43 := Aside0.mk A430
                      clear A430
                      by_cases c44 : t134 = t101
                      ·rw [if_pos c44] at H
                       have c44b0 : (t134 == t101) = true := beq_iff_eq.mpr c44
                       have c44b1 : (t134 != t101) = false := bne_eq_false_iff_eq.mpr c44
                       clear c44
                       obtain ⟨y135, hy135⟩ : ∃ y_ : List Int, y_ = (([0, t101] : List Int)) := ⟨_, rfl⟩
                       replace H : ((pattern_Min.f k y135).bind fun t138 => (some (t138 == 0))) = some true := by first | (rw [hy135]; with_reducible exact H) | (have H2_ := (Option.bind_some _ _).symm.trans H; rw [hy135]; with_reducible exact H2_) | (have H2_ := (Option.bind_some _ _).symm.trans H; with_reducible exact H2_) | with_reducible exact H | (rw [hy135]; exact H) | exact H
                       have Ny135 := Aside0.mk hy135
                       clear hy135
                       replace H := Option.bind_eq_some_iff.mp H
                       obtain ⟨t138, A450, H⟩ := H
                       replace H : (some (t138 == 0)) = some true := H
                       have A45 := Aside0.mk A450
                       clear A450
                       have HT_ := Option.some.inj H
                       clear H
                       go_enter Try.func59, Try.ntmps59
                       go_wp2_with (first | ((with_reducible refine gate_callee (f := 68) rfl ?_); refine goesL_ (some 15) rfl rfl Try.func68 (by kernel_rfl) rfl #[.bool false, .int .i64 1023, .int .u64 0] rfl (by (try simp only [List.map_toArray, List.map_cons, List.map_nil]); first | done | rfl | (simp only [List.length_drop, List.length_take]; rfl)) ?_; (with_reducible refine (pattern_Make.calls k false 1023 0 t101 t102 _ A1.out).mono ?_); rintro e w' ⟨rfl, ⟨nd, rfl⟩⟩; refine ⟨_, rfl, ?_⟩) | ((with_reducible refine gate_callee (f := 68) rfl ?_); refine goesL_ (some 19) rfl rfl Try.func68 (by kernel_rfl) rfl #[.bool false, .int .i64 2048, .int .u64 0] rfl (by (try simp only [List.map_toArray, List.map_cons, List.map_nil]); first | done | rfl | (simp only [List.length_drop, List.length_take]; rfl)) ?_; (with_reducible refine (pattern_Make.calls k false 2048 0 t103 t104 _ A2.out).mono ?_); rintro e w' ⟨rfl, ⟨nd, rfl⟩⟩; refine ⟨_, rfl, ?_⟩) | ((with_reducible refine gate_callee (f := 64) rfl ?_); refine goesL_ (some 24) rfl rfl Try.func64 (by kernel_rfl) rfl #[.int .u64 t101] rfl (by (try simp only [List.map_toArray, List.map_cons, List.map_nil]); first | done | rfl | (simp only [List.length_drop, List.length_take]; rfl)) ?_; (with_reducible refine (pattern_Parts.calls t101 false t106 t107 _ A3.out).mono ?_); rintro e w' ⟨rfl, ⟨nd, rfl⟩⟩; refine ⟨_, rfl, ?_⟩) | ((with_reducible refine gate_callee (f := 66) rfl ?_); refine goesL_ (some 30) rfl rfl Try.func66 (by kernel_rfl) rfl #[.int .u64 t101] rfl (by (try simp only [List.map_toArray, List.map_cons, List.map_nil]); first | done | rfl | (simp only [List.length_drop, List.length_take]; rfl)) ?_; (with_reducible refine (pattern_Split.calls k t101 t108 t109 _ A4.out).mono ?_); rintro e w' ⟨rfl, ⟨nd, rfl⟩⟩; refine ⟨_, rfl, ?_⟩) | ((with_reducible refine gate_callee (f := 63) rfl ?_); refine goesL_ (some 34) rfl rfl Try.func63 (by kernel_rfl) rfl #[.int .u64 13828302655841107968] rfl (by (try simp only [List.map_toArray, List.map_cons, List.map_nil]); first | done | rfl | (simp only [List.length_drop, List.length_take]; rfl)) ?_; (with_reducible refine (pattern_Value.calls k 13828302655841107968 t110 t111 t114 true _ A5.out).mono ?_); rintro e w46 ⟨v112, v115, rfl, ho0, ho1, hb⟩; refine ⟨_, rfl, ?_⟩; have n0_ := Aside0.mk (Kd.V_lower (Kd.V_mono (ok' := fun k_ => True) ho0 (fun k_ hk_ => trivial)) (below_size (by repeat (first | (with_reducible first | exact HB.out | apply below_alloc | apply pw_below_drewN | apply below_drew1) | exact HB.out)))); have n1_ := Aside0.mk (Kd.V_lower (Kd.V_mono (ok' := fun k_ => True) ho1 (fun k_ hk_ => trivial)) (below_size (by repeat (first | (with_reducible first | exact HB.out | apply below_alloc | apply pw_below_drewN | apply below_drew1) | exact HB.out)))); have n2_ := Aside0.mk (below_step (by repeat (first | (with_reducible first | exact HB.out | apply below_alloc | apply pw_below_drewN | apply below_drew1) | exact HB.out)) hb); clear HB; have HO113 := n0_; have HO116 := n1_; have HB := n2_; clear n0_ n1_ n2_; (try clear hb); (try clear hb2); (try clear hk); (try clear hi); (try clear ho0); (try clear ho1)) | ((with_reducible refine gate_dst (N := 10) rfl ?_); (try (refine gate_guard (by rfl) ?_; dsimp only)); refine box_event ?hg (N := 10) ?hd (cs := #[.bool false, .slice none 0 0, .slice none 0 0]) (t := 69) ?hr ?_; (case hd => rfl); (case hg => rfl); (case hr => first | (go_simp; done) | (go_simp; rfl)); intro gb118 hg w47 hbox hb; have n0_ := Aside0.mk (Kd.V_below (Kd.V_elderB (by (with_reducible repeat (first | apply Kd.V_alloc | apply Kd.V_drewN | apply Kd.V_drew)); exact HO113.out) gb118 (Nat.le_of_eq hg.symm)) hb); have n1_ := Aside0.mk (Kd.V_below (Kd.V_elderB (by (with_reducible repeat (first | apply Kd.V_alloc | apply Kd.V_drewN | apply Kd.V_drew)); exact HO116.out) gb118 (Nat.le_of_eq hg.symm)) hb); have n2_ := Aside0.mk (below_step (by repeat (first | (with_reducible first | exact HB.out | apply below_alloc | apply pw_below_drewN | apply below_drew1) | exact HB.out)) hb); have n3_ := Aside0.mk (hbox); have n4_ := Aside0.mk ((by rw [hg]; exact (below_size (by repeat (first | (with_reducible first | exact HB.out | apply below_alloc | apply pw_below_drewN | apply below_drew1) | exact HB.out))) : w.heap.size ≤ gb118)); have n5_ := Aside0.mk ((by rw [hg]; exact (below_size (by repeat (first | (with_reducible first | exact HB.out | apply below_alloc | apply pw_below_drewN | apply below_drew1) | exact HB.out))) : w.heap.size ≤ gb118)); clear HO113; clear HO116; clear HB; have HO113 := n0_; have HO116 := n1_; have HB := n2_; have BK118 := n3_; have GW118 := n4_; have GE118 := n5_; clear n0_ n1_ n2_ n3_ n4_ n5_; clear hb hbox hg; have hcz48_0 : w47.cell? ⟨gb118, 0, none⟩ = some (.bool false) := (blk_cell BK118.out 0).trans rfl; have hcz48_1 : w47.cell? ⟨gb118, 1, none⟩ = some (.slice none 0 0) := (blk_cell BK118.out 1).trans rfl; have hcz48_2 : w47.cell? ⟨gb118, 2, none⟩ = some (.slice none 0 0) := (blk_cell BK118.out 2).trans rfl; have hfz48_0 := blk_frozen BK118.out 0; have hfz48_1 := blk_frozen BK118.out 1; have hfz48_2 := blk_frozen BK118.out 2; obtain ⟨Ao49, co49, eo49⟩ := Kd.V_slice HO113.out; subst eo49; obtain ⟨Ao50, co50, eo50⟩ := Kd.V_slice HO116.out; subst eo50) | ((with_reducible refine gate_callee (f := 60) rfl ?_); refine goesL_ (some 38) rfl rfl Try.func60 (by kernel_rfl) rfl #[.int .u64 0, .int .u64 9223372036854775808] rfl (by (try simp only [List.map_toArray, List.map_cons, List.map_nil]); first | done | rfl | (simp only [List.length_drop, List.length_take]; rfl)) ?_; (with_reducible refine (pattern_Cmp.calls k 0 9223372036854775808 t119 true _ A6.out).mono ?_); rintro e w' ⟨rfl, ⟨nd, rfl⟩⟩; refine ⟨_, rfl, ?_⟩) | (go_at_call 100; (with_reducible refine (ratio_R_Text.calls k t110 _ _ t111 _ _ t114 t121 _ ?side1 ?side2 ?side3 ?side4 A20.out).mono ?_); (case side1 => refine (Kd.V_reads' (e := 118) (base := w.heap.size) (ok := fun k_ => (True ∧ k_ ≠ gb118)) (n := t111.length) (c := co49) ?_).2.2; exact (by (with_reducible repeat (first | apply Kd.V_alloc | apply Kd.V_drewN | apply Kd.V_drew)); exact (Kd.V_mono (Kd.V_far (p := ⟨gb118, 2, none⟩) (Kd.V_far (p := ⟨gb118, 1, none⟩) (Kd.V_far (p := ⟨gb118, 0, none⟩) (Kd.V_mono HO113.out (fun k_ hk => (⟨hk, hk.2⟩ : _ ∧ k_ ≠ gb118))) (fun _ hk => hk.2) (.bool t110)) (fun _ hk => hk.2) (.slice Ao49 t111.length co49)) (fun _ hk => hk.2) (.slice Ao50 t114.length co50)) (fun _ h_ => h_.1)))); (case side2 => exact (Kd.V_reads' HO113.out).2.1); (case side3 => refine (Kd.V_reads' (e := 118) (base := w.heap.size) (ok := fun k_ => (True ∧ k_ ≠ gb118)) (n := t114.length) (c := co50) ?_).2.2; exact (by (with_reducible repeat (first | apply Kd.V_alloc | apply Kd.V_drewN | apply Kd.V_drew)); exact (Kd.V_mono (Kd.V_far (p := ⟨gb118, 2, none⟩) (Kd.V_far (p := ⟨gb118, 1, none⟩) (Kd.V_far (p := ⟨gb118, 0, none⟩) (Kd.V_mono HO116.out (fun k_ hk => (⟨hk, hk.2⟩ : _ ∧ k_ ≠ gb118))) (fun _ hk => hk.2) (.bool t110)) (fun _ hk => hk.2) (.slice Ao49 t111.length co49)) (fun _ hk => hk.2) (.slice Ao50 t114.length co50)) (fun _ h_ => h_.1)))); (case side4 => exact (Kd.V_reads' HO116.out).2.1); rintro e w51 ⟨rfl, hb⟩; have n0_ := Aside0.mk (Kd.V_below (by (with_reducible repeat (first | apply Kd.V_alloc | apply Kd.V_drewN | apply Kd.V_drew)); exact (Kd.V_mono (Kd.V_far (p := ⟨gb118, 2, none⟩) (Kd.V_far (p := ⟨gb118, 1, none⟩) (Kd.V_far (p := ⟨gb118, 0, none⟩) (Kd.V_mono HO113.out (fun k_ hk => (⟨hk, hk.2⟩ : _ ∧ k_ ≠ gb118))) (fun _ hk => hk.2) (.bool t110)) (fun _ hk => hk.2) (.slice Ao49 t111.length co49)) (fun _ hk => hk.2) (.slice Ao50 t114.length co50)) (fun _ h_ => h_.1))) hb); have n1_ := Aside0.mk (Kd.V_below (by (with_reducible repeat (first | apply Kd.V_alloc | apply Kd.V_drewN | apply Kd.V_drew)); exact (Kd.V_mono (Kd.V_far (p := ⟨gb118, 2, none⟩) (Kd.V_far (p := ⟨gb118, 1, none⟩) (Kd.V_far (p := ⟨gb118, 0, none⟩) (Kd.V_mono HO116.out (fun k_ hk => (⟨hk, hk.2⟩ : _ ∧ k_ ≠ gb118))) (fun _ hk => hk.2) (.bool t110)) (fun _ hk => hk.2) (.slice Ao49 t111.length co49)) (fun _ hk => hk.2) (.slice Ao50 t114.length co50)) (fun _ h_ => h_.1))) hb); have n2_ := Aside0.mk (blk_below (g := gb118) (o := .cells #[.bool t110, .slice Ao49 t111.length co49, .slice Ao50 t114.length co50] 69 (0, 0)) (by (with_reducible repeat (first | refine blk_drewN ?_ _ | refine blk_drew ?_ | refine blk_alloc ?_ _)); refine blk_put (cs := #[.bool t110, .slice Ao49 t111.length co49, .slice none 0 0]) ?_ 2 _ rfl; (with_reducible repeat (first | refine blk_drewN ?_ _ | refine blk_drew ?_ | refine blk_alloc ?_ _)); refine blk_put (cs := #[.bool t110, .slice none 0 0, .slice none 0 0]) ?_ 1 _ rfl; (with_reducible repeat (first | refine blk_drewN ?_ _ | refine blk_drew ?_ | refine blk_alloc ?_ _)); refine blk_put (cs := #[.bool false, .slice none 0 0, .slice none 0 0]) ?_ 0 _ rfl; (with_reducible repeat (first | refine blk_drewN ?_ _ | refine blk_drew ?_ | refine blk_alloc ?_ _)); exact BK118.out) hb); have n3_ := Aside0.mk (below_step (by repeat (first | (with_reducible first | exact HB.out | apply below_alloc | apply pw_below_drewN | apply below_drew1 | refine below_set ?_ GE118.out) | exact HB.out)) hb); clear HO113; clear HO116; clear BK118; clear HB; have HO113 := n0_; have HO116 := n1_; have BK118 := n2_; have HB := n3_; clear n0_ n1_ n2_ n3_; (try clear hb); (try clear hb2); (try clear hk); (try clear hi)) | (go_at_call 74; (with_reducible refine (pattern_Next.calls k 0 t122 _ A23.out).mono ?_); rintro e w' ⟨rfl, ⟨nd, rfl⟩⟩) | (go_at_call 74; (with_reducible refine (pattern_Next.calls k 9223372036854775809 t123 _ A25.out).mono ?_); rintro e w' ⟨rfl, ⟨nd, rfl⟩⟩) | (go_at_call 76; (with_reducible refine (pattern_Prev.calls k 1 t124 _ A27.out).mono ?_); rintro e w' ⟨rfl, ⟨nd, rfl⟩⟩) | (go_at_call 70; (with_reducible refine (pattern_Class.calls k t101 t125 _ A31.out).mono ?_); rintro e w' ⟨rfl, ⟨nd, rfl⟩⟩) | (go_at_call 62; (with_reducible refine (pattern_Less.calls k 0 t101 true _ A33.out).mono ?_); rintro e w' ⟨rfl, ⟨nd, rfl⟩⟩) | (go_at_call 79; (with_reducible refine (pattern_Neg.calls k t101 t127 _ A35.out).mono ?_); rintro e w' ⟨rfl, ⟨nd, rfl⟩⟩) | (go_at_call 80; (with_reducible refine (pattern_Abs.calls k (Go.bits .or .u64 t101 9223372036854775808) t128 _ A37.out).mono ?_); rintro e w' ⟨rfl, ⟨nd, rfl⟩⟩) | (go_at_call 78; (with_reducible refine (pattern_Inf.calls k true t129 _ A39.out).mono ?_); rintro e w' ⟨rfl, ⟨nd, rfl⟩⟩) | (go_at_call 83; (with_reducible refine (pattern_Quiet.calls  t130 _ A41.out).mono ?_); rintro e w' ⟨rfl, ⟨nd, rfl⟩⟩) | ((with_reducible refine gate_dst (N := 131) rfl ?_); (try (refine gate_guard (by rfl) ?_; dsimp only)); refine Kd.R_lit (Kd.int .u64) _ 74 ?hg (N := 131) ?hd (xs := ([0, t101] : List Int)) (inner := [.int .u64 0, .int .u64 t101]) (ok := fun _ => True) (okp := fun _ => True) ?hr ?hp (fun _ hk => hk) trivial (Below.refl _ _) (Nat.le_refl _) (by simp) ?_; (case hd => rfl); (case hg => rfl); (case hr => first | (go_simp; done) | (go_simp; rfl)); (case hp => exact (Reps.one (show Kd.M (Kd.int .u64) _ _ _ 0 [.int .u64 0] from rfl) (Reps.one (show Kd.M (Kd.int .u64) _ _ _ t101 [.int .u64 t101] from rfl) (Reps.none _ _)))); intro v132 w52 ho53 hb hg_ hnew_; clear hg_ hnew_; (first | rw [← Ny131.out] at ho53 | (simp only [Int.reduceToNat] at ho53; rw [← Ny131.out] at ho53)); have n0_ := Aside0.mk (Kd.V_elder' (by (with_reducible repeat (first | apply Kd.V_alloc | apply Kd.V_drewN | apply Kd.V_drew)); exact HO113.out) (Kd.R_base ho53) hb); have n1_ := Aside0.mk (Kd.V_elder' (by (with_reducible repeat (first | apply Kd.V_alloc | apply Kd.V_drewN | apply Kd.V_drew)); exact HO116.out) (Kd.R_base ho53) hb); have n2_ := Aside0.mk (Kd.R_lower ho53 (below_size (by repeat (first | (with_reducible first | exact HB.out | apply below_alloc | apply pw_below_drewN | apply below_drew1 | refine below_set ?_ GE118.out) | exact HB.out)))); have n3_ := Aside0.mk (blk_below (g := gb118) (o := .cells #[.bool t110, .slice Ao49 t111.length co49, .slice Ao50 t114.length co50] 69 (0, 0)) (by (with_reducible repeat (first | refine blk_drewN ?_ _ | refine blk_drew ?_ | refine blk_alloc ?_ _)); exact BK118.out) hb); have n4_ := Aside0.mk (below_step (by repeat (first | (with_reducible first | exact HB.out | apply below_alloc | apply pw_below_drewN | apply below_drew1 | refine below_set ?_ GE118.out) | exact HB.out)) hb); clear HO113; clear HO116; clear BK118; clear HB; have HO113 := n0_; have HO116 := n1_; have HO133 := n2_; have BK118 := n3_; have HB := n4_; clear n0_ n1_ n2_ n3_ n4_; clear hb ho53; obtain ⟨Ao54, co54, eo54⟩ := Kd.R_slice HO133.out; subst eo54) | (go_at_call 81; (with_reducible refine (pattern_Max.calls k _ _ y131 t134 _ ?side1 ?side2 A43.out).mono ?_); (case side1 => repeat (first | exact (Kd.R_reads' HO133.out).2.2 | (with_reducible refine Kd.C_alloc ?_ _) | (with_reducible refine Kd.C_drewN ?_ _) | (with_reducible refine Kd.C_drew ?_))); (case side2 => exact (Kd.R_reads' HO133.out).2.1); rintro e w' ⟨rfl, ⟨nd, rfl⟩⟩) | ((with_reducible refine gate_dst (N := 138) rfl ?_); (try (refine gate_guard (by rfl) ?_; dsimp only)); refine Kd.R_lit (Kd.int .u64) _ 74 ?hg (N := 138) ?hd (xs := ([0, t101] : List Int)) (inner := [.int .u64 0, .int .u64 t101]) (ok := fun _ => True) (okp := fun _ => True) ?hr ?hp (fun _ hk => hk) trivial (Below.refl _ _) (Nat.le_refl _) (by simp) ?_; (case hd => rfl); (case hg => rfl); (case hr => first | (go_simp; done) | (go_simp; rfl)); (case hp => exact (Reps.one (show Kd.M (Kd.int .u64) _ _ _ 0 [.int .u64 0] from rfl) (Reps.one (show Kd.M (Kd.int .u64) _ _ _ t101 [.int .u64 t101] from rfl) (Reps.none _ _)))); intro v136 w55 ho56 hb hg_ hnew_; clear hg_ hnew_; (first | rw [← Ny135.out] at ho56 | (simp only [Int.reduceToNat] at ho56; rw [← Ny135.out] at ho56)); have n0_ := Aside0.mk (Kd.V_elder' (by (with_reducible repeat (first | apply Kd.V_alloc | apply Kd.V_drewN | apply Kd.V_drew)); exact HO113.out) (Kd.R_base ho56) hb); have n1_ := Aside0.mk (Kd.V_elder' (by (with_reducible repeat (first | apply Kd.V_alloc | apply Kd.V_drewN | apply Kd.V_drew)); exact HO116.out) (Kd.R_base ho56) hb); have n2_ := Aside0.mk (Kd.R_elder' (by (with_reducible repeat (first | apply Kd.R_alloc | apply Kd.R_drewN | apply Kd.R_drew)); exact HO133.out) (Kd.R_base ho56) hb); have n3_ := Aside0.mk (Kd.R_lower (Kd.R_new' ho56 (Kd.R_lt (by (with_reducible repeat (first | apply Kd.R_alloc | apply Kd.R_drewN | apply Kd.R_drew)); exact HO133.out))) (below_size (by repeat (first | (with_reducible first | exact HB.out | apply below_alloc | apply pw_below_drewN | apply below_drew1 | refine below_set ?_ GE118.out) | exact HB.out)))); have n4_ := Aside0.mk (blk_below (g := gb118) (o := .cells #[.bool t110, .slice Ao49 t111.length co49, .slice Ao50 t114.length co50] 69 (0, 0)) (by (with_reducible repeat (first | refine blk_drewN ?_ _ | refine blk_drew ?_ | refine blk_alloc ?_ _)); exact BK118.out) hb); have n5_ := Aside0.mk (below_step (by repeat (first | (with_reducible first | exact HB.out | apply below_alloc | apply pw_below_drewN | apply below_drew1 | refine below_set ?_ GE118.out) | exact HB.out)) hb); clear HO113; clear HO116; clear HO133; clear BK118; clear HB; have HO113 := n0_; have HO116 := n1_; have HO133 := n2_; have HO137 := n3_; have BK118 := n4_; have HB := n5_; clear n0_ n1_ n2_ n3_ n4_ n5_; clear hb ho56; obtain ⟨Ao57, co57, eo57⟩ := Kd.R_slice HO137.out; subst eo57) | (go_at_call 82; (with_reducible refine (pattern_Min.calls k _ _ y135 t138 _ ?side1 ?side2 A45.out).mono ?_); (case side1 => repeat (first | exact (Kd.R_reads' HO137.out).2.2 | (with_reducible refine Kd.C_alloc ?_ _) | (with_reducible refine Kd.C_drewN ?_ _) | (with_reducible refine Kd.C_drew ?_))); (case side2 => exact (Kd.R_reads' HO137.out).2.1); rintro e w' ⟨rfl, ⟨nd, rfl⟩⟩))
                       go_ret
                       exact ⟨by first | rfl | (simp [errW_none, errW_some] <;> rfl) | (simp [*, errW_none, errW_some] <;> rfl), by repeat (first | (with_reducible first | exact HB.out | apply below_alloc | apply pw_below_drewN | apply below_drew1 | refine below_set ?_ GE118.out) | exact HB.out)⟩
                      ·rw [if_neg c44] at H
                       have c44b0 : (t134 == t101) = false := beq_eq_false_iff_ne.mpr c44
                       have c44b1 : (t134 != t101) = true := bne_iff_ne.mpr c44
                       exact absurd H (by simp)
                     ·rw [if_neg c42] at H
                      have c42b0 : (t130 == 9221120237041090560) = false := beq_eq_false_iff_ne.mpr c42
                      have c42b1 : (t130 != 9221120237041090560) = true := bne_iff_ne.mpr c42
                      exact absurd H (by simp)
                    ·rw [if_neg c40] at H
                     have c40b0 : (t129 == 18442240474082181120) = false := beq_eq_false_iff_ne.mpr c40
                     have c40b1 : (t129 != 18442240474082181120) = true := bne_iff_ne.mpr c40
                     exact absurd H (by simp)
                   ·rw [if_neg c38] at H
                    have c38b0 : (t128 == t101) = false := beq_eq_false_iff_ne.mpr c38
                    have c38b1 : (t128 != t101) = true := bne_iff_ne.mpr c38
                    exact absurd H (by simp)
                  ·rw [if_neg c36] at H
                   have c36b0 : (t127 == (Go.bits .or .u64 t101 9223372036854775808)) = false := beq_eq_false_iff_ne.mpr c36
                   have c36b1 : (t127 != (Go.bits .or .u64 t101 9223372036854775808)) = true := bne_iff_ne.mpr c36
                   exact absurd H (by simp)
                 ·replace c34 := Bool.eq_false_iff.mpr c34
                  subst c34
                  have H1 : (some false) = some true := by rw [if_neg (show ¬ (false = true) by decide)] at H; first | done | exact H
                  clear H
                  have H := H1
                  clear H1
                  exact absurd H (by simp)
                ·rw [if_neg c32] at H
                 have c32b0 : (t125 == 2) = false := beq_eq_false_iff_ne.mpr c32
                 have c32b1 : (t125 != 2) = true := bne_iff_ne.mpr c32
                 exact absurd H (by simp)
               ·replace c30 := Bool.eq_false_iff.mpr c30
                subst c30
                have H1 : (some false) = some true := by rw [if_neg (show ¬ (false = true) by decide)] at H; first | done | exact H
                clear H
                have H := H1
                clear H1
                exact absurd H (by simp)
              ·rw [if_neg c29] at H
               have c29b0 : (t119 == 0) = false := beq_eq_false_iff_ne.mpr c29
               have c29b1 : (t119 != 0) = true := bne_iff_ne.mpr c29
               exact absurd H (by simp)
             ·rw [if_neg c28] at H
              have c28b0 : (t124 == 0) = false := beq_eq_false_iff_ne.mpr c28
              have c28b1 : (t124 != 0) = true := bne_iff_ne.mpr c28
              exact absurd H (by simp)
            ·rw [if_neg c26] at H
             have c26b0 : (t123 == 9223372036854775808) = false := beq_eq_false_iff_ne.mpr c26
             have c26b1 : (t123 != 9223372036854775808) = true := bne_iff_ne.mpr c26
             exact absurd H (by simp)
           ·rw [if_neg c24] at H
            have c24b0 : (t122 == 1) = false := beq_eq_false_iff_ne.mpr c24
            have c24b1 : (t122 != 1) = true := bne_iff_ne.mpr c24
            exact absurd H (by simp)
          ·replace c22 := Bool.eq_false_iff.mpr c22
           subst c22
           have H1 : (some false) = some true := by rw [if_neg (show ¬ (false = true) by decide)] at H; first | done | exact H
           clear H
           have H := H1
           clear H1
           exact absurd H (by simp)
         ·rw [if_neg c21] at H
          have c21b0 : (t121.toList == ([45, 51, 47, 52] : List UInt8)) = false := beq_eq_false_iff_ne.mpr c21
          have c21b1 : (t121.toList != ([45, 51, 47, 52] : List UInt8)) = true := bne_iff_ne.mpr c21
          exact absurd H (by simp)
        ·rw [if_neg c19] at H
         have c19b0 : (t109 == (-52)) = false := beq_eq_false_iff_ne.mpr c19
         have c19b1 : (t109 != (-52)) = true := bne_iff_ne.mpr c19
         exact absurd H (by simp)
       ·rw [if_neg c18] at H
        have c18b0 : (t108 == 4503599627370496) = false := beq_eq_false_iff_ne.mpr c18
        have c18b1 : (t108 != 4503599627370496) = true := bne_iff_ne.mpr c18
        exact absurd H (by simp)
      ·rw [if_neg c17] at H
       have c17b0 : (t107 == 0) = false := beq_eq_false_iff_ne.mpr c17
       have c17b1 : (t107 != 0) = true := bne_iff_ne.mpr c17
       exact absurd H (by simp)
     ·rw [if_neg c16] at H
      have c16b0 : (t106 == 1023) = false := beq_eq_false_iff_ne.mpr c16
      have c16b1 : (t106 != 1023) = true := bne_iff_ne.mpr c16
      exact absurd H (by simp)
   ·rw [if_neg c9] at H
    have c9b0 : (t104 == 1) = false := beq_eq_false_iff_ne.mpr c9
    have c9b1 : (t104 != 1) = true := bne_iff_ne.mpr c9
    exact absurd H (by simp)
  ·rw [if_neg c8] at H
   have c8b0 : (t102 == 0) = false := beq_eq_false_iff_ne.mpr c8
   have c8b1 : (t102 != 0) = true := bne_iff_ne.mpr c8
   exact absurd H (by simp)
 ·rw [if_neg c7] at H
  have c7b0 : (t101 == 4607182418800017408) = false := beq_eq_false_iff_ne.mpr c7
  have c7b1 : (t101 != 4607182418800017408) = true := bne_iff_ne.mpr c7
  exact absurd H (by simp)
def flyballlaw04_works.f (k : Nat) : Option (Bool) := if flyballlaw04_worksg.f k = some true then some true else none
theorem flyballlaw04_works.mono : ∀ k, LeO (flyballlaw04_works.f k) (flyballlaw04_works.f (k + 1)) := by
 intro k r h
 unfold flyballlaw04_works.f at h ⊢
 by_cases hg : flyballlaw04_worksg.f k = some true
 ·rw [if_pos hg] at h
  rw [if_pos (flyballlaw04_worksg.mono k true hg)]
  exact h
 ·rw [if_neg hg] at h; cases h
theorem flyballlaw04_works.calls (k : Nat) (r : Bool) (w : World) (h : flyballlaw04_works.f k = some r) :
  Calls Try.prog 59 #[] w fun e w' => e = .returned (.bool r) ∧ Below w.heap.size w w' := by
 unfold flyballlaw04_works.f at h
 by_cases hg : flyballlaw04_worksg.f k = some true
 ·rw [if_pos hg] at h
  obtain rfl := Option.some.inj h
  exact flyballlaw04_worksg.calls k w hg
 ·rw [if_neg hg] at h; cases h
end Go.Proofs.Ytagbnkbhobmgjaa.Fn
end
section
-- Written by a program of this session (a turned copy of the kit's printer, and hand-written parts). Not trusted: Lean checks it.
namespace Go.Proofs.Ytagbnkbhobmgjaa.Fn
open Go.RowKit Go.Proofs.YtagbnkbhobmgjaaW.PrintWords Go.Proofs.YtagbnkbhobmgjaaW.PrintLast Go.Proofs.YtagbnkbhobmgjaaW.PrintMore
attribute [local go_sem] max2_int min2_int max_two min_two max_three min_three max_four min_four   -- for this text's walks alone
set_option linter.unusedVariables false
set_option linter.unusedSimpArgs false
/-! ### flyballlaw04_PatternOrders: function 10 -/
def flyballlaw04_PatternOrders.j0 : Nat → Int → Int → Bool → Int → Bool → Option (Bool)
 | 0, _, _, _, _, _ => none
 | k + 1, x0, x1, x5, x6, x47 => if x47 = true then (some false) else ((pattern_Value.f k x0).bind fun bt107 => ((pattern_Value.f k x1).bind fun bt116 => (if x5 = true then (if bt107.2.2.2 = true then (if bt116.2.2.2 = true then ((ratio_R_Cmp.f k bt107.1 bt107.2.1 bt107.2.2.1 bt116.1 bt116.2.1 bt116.2.2.1).bind fun t125 => (some (t125 == x6))) else (some true)) else (some true)) else (some false))))
def flyballlaw04_PatternOrders.f (k : Nat) (a0 : Int) (a1 : Int) : Option (Bool) := (flyballlaw04_works.f k).bind fun t101 => (if t101 = true then ((pattern_Cmp.f k a0 a1).bind fun bt102 => ((flyballref04_Cmp.f k a0 a1).bind fun bt104 => (if bt102.1 = bt104.1 then (if (bt102.2 != bt104.2) = true then (flyballlaw04_PatternOrders.j0 k a0 a1 t101 bt102.1 true) else ((pattern_Less.f k a0 a1).bind fun t106 => (if bt102.2 = true then (flyballlaw04_PatternOrders.j0 k a0 a1 t101 bt102.1 (t106 != (decide (bt102.1 < 0)))) else (flyballlaw04_PatternOrders.j0 k a0 a1 t101 bt102.1 (t106 != false))))) else (flyballlaw04_PatternOrders.j0 k a0 a1 t101 bt102.1 true)))) else (some false))
set_option maxHeartbeats 8000000 in
set_option maxRecDepth 100000 in
theorem flyballlaw04_PatternOrders.calls (k : Nat) (a0 : Int) (a1 : Int) (r : Bool) (w : World) (h : flyballlaw04_PatternOrders.f k a0 a1 = some r) :
  Calls Try.prog 10 #[.int .u64 a0, .int .u64 a1] w fun e w' => e = .returned (.bool r) ∧ Below w.heap.size w w' := by
 have hu69 := Try.underlying69
 have HB := Aside0.mk (Below.refl w.heap.size w)
 have H : ((flyballlaw04_works.f k).bind fun t101 => (if t101 = true then ((pattern_Cmp.f k a0 a1).bind fun bt102 => ((flyballref04_Cmp.f k a0 a1).bind fun bt104 => (if bt102.1 = bt104.1 then (if (bt102.2 != bt104.2) = true then (flyballlaw04_PatternOrders.j0 k a0 a1 t101 bt102.1 true) else ((pattern_Less.f k a0 a1).bind fun t106 => (if bt102.2 = true then (flyballlaw04_PatternOrders.j0 k a0 a1 t101 bt102.1 (t106 != (decide (bt102.1 < 0)))) else (flyballlaw04_PatternOrders.j0 k a0 a1 t101 bt102.1 (t106 != false))))) else (flyballlaw04_PatternOrders.j0 k a0 a1 t101 bt102.1 true)))) else (some false))) = some r := h
 clear h
 replace H := Option.bind_eq_some_iff.mp H
 obtain ⟨t101, A30, H⟩ := H
 replace H : (if t101 = true then ((pattern_Cmp.f k a0 a1).bind fun bt102 => ((flyballref04_Cmp.f k a0 a1).bind fun bt104 => (if bt102.1 = bt104.1 then (if (bt102.2 != bt104.2) = true then (flyballlaw04_PatternOrders.j0 k a0 a1 t101 bt102.1 true) else ((pattern_Less.f k a0 a1).bind fun t106 => (if bt102.2 = true then (flyballlaw04_PatternOrders.j0 k a0 a1 t101 bt102.1 (t106 != (decide (bt102.1 < 0)))) else (flyballlaw04_PatternOrders.j0 k a0 a1 t101 bt102.1 (t106 != false))))) else (flyballlaw04_PatternOrders.j0 k a0 a1 t101 bt102.1 true)))) else (some false)) = some r := H
 have A3 := Aside0.mk A30
 clear A30
 by_cases c4 : t101 = true
 ·subst c4
  have H1 : ((pattern_Cmp.f k a0 a1).bind fun bt102 => ((flyballref04_Cmp.f k a0 a1).bind fun bt104 => (if bt102.1 = bt104.1 then (if (bt102.2 != bt104.2) = true then (flyballlaw04_PatternOrders.j0 k a0 a1 true bt102.1 true) else ((pattern_Less.f k a0 a1).bind fun t106 => (if bt102.2 = true then (flyballlaw04_PatternOrders.j0 k a0 a1 true bt102.1 (t106 != (decide (bt102.1 < 0)))) else (flyballlaw04_PatternOrders.j0 k a0 a1 true bt102.1 (t106 != false))))) else (flyballlaw04_PatternOrders.j0 k a0 a1 true bt102.1 true)))) = some r := by rw [if_pos rfl] at H; exact H
  clear H
  have H := H1
  clear H1
  replace H := Option.bind_eq_some_iff.mp H
  obtain ⟨⟨t102, t103⟩, A50, H⟩ := H
  replace H : ((flyballref04_Cmp.f k a0 a1).bind fun bt104 => (if t102 = bt104.1 then (if (t103 != bt104.2) = true then (flyballlaw04_PatternOrders.j0 k a0 a1 true t102 true) else ((pattern_Less.f k a0 a1).bind fun t106 => (if t103 = true then (flyballlaw04_PatternOrders.j0 k a0 a1 true t102 (t106 != (decide (t102 < 0)))) else (flyballlaw04_PatternOrders.j0 k a0 a1 true t102 (t106 != false))))) else (flyballlaw04_PatternOrders.j0 k a0 a1 true t102 true))) = some r := H
  have A5 := Aside0.mk A50
  clear A50
  replace H := Option.bind_eq_some_iff.mp H
  obtain ⟨⟨t104, t105⟩, A60, H⟩ := H
  replace H : (if t102 = t104 then (if (t103 != t105) = true then (flyballlaw04_PatternOrders.j0 k a0 a1 true t102 true) else ((pattern_Less.f k a0 a1).bind fun t106 => (if t103 = true then (flyballlaw04_PatternOrders.j0 k a0 a1 true t102 (t106 != (decide (t102 < 0)))) else (flyballlaw04_PatternOrders.j0 k a0 a1 true t102 (t106 != false))))) else (flyballlaw04_PatternOrders.j0 k a0 a1 true t102 true)) = some r := H
  have A6 := Aside0.mk A60
  clear A60
  have HC7 := Aside0.mk H
  clear H
  go_enter Try.func10, Try.ntmps10
  go_upto_region 6 with (first | ((with_reducible refine gate_callee (f := 59) rfl ?_); refine goesL_ (some 14) rfl rfl Try.func59 (by kernel_rfl) rfl #[] rfl (by (try simp only [List.map_toArray, List.map_cons, List.map_nil]); first | done | rfl | (simp only [List.length_drop, List.length_take]; rfl)) ?_; (with_reducible refine (flyballlaw04_works.calls k  true _ A3.out).mono ?_); rintro e w8 ⟨rfl, hb⟩; refine ⟨_, rfl, ?_⟩; have n0_ := Aside0.mk (below_step (by repeat (first | (with_reducible first | exact HB.out | apply below_alloc | apply pw_below_drewN | apply below_drew1) | exact HB.out)) hb); clear HB; have HB := n0_; clear n0_; (try clear hb); (try clear hb2); (try clear hk); (try clear hi)) | ((with_reducible refine gate_callee (f := 60) rfl ?_); refine goesL_ (some 20) rfl rfl Try.func60 (by kernel_rfl) rfl #[.int .u64 a0, .int .u64 a1] rfl (by (try simp only [List.map_toArray, List.map_cons, List.map_nil]); first | done | rfl | (simp only [List.length_drop, List.length_take]; rfl)) ?_; (with_reducible refine (pattern_Cmp.calls k a0 a1 t102 t103 _ A5.out).mono ?_); rintro e w' ⟨rfl, ⟨nd, rfl⟩⟩; refine ⟨_, rfl, ?_⟩) | ((with_reducible refine gate_callee (f := 61) rfl ?_); refine goesL_ (some 26) rfl rfl Try.func61 (by kernel_rfl) rfl #[.int .u64 a0, .int .u64 a1] rfl (by (try simp only [List.map_toArray, List.map_cons, List.map_nil]); first | done | rfl | (simp only [List.length_drop, List.length_take]; rfl)) ?_; (with_reducible refine (flyballref04_Cmp.calls k a0 a1 t104 t105 _ A6.out).mono ?_); rintro e w' ⟨rfl, ⟨nd, rfl⟩⟩; refine ⟨_, rfl, ?_⟩))
  (try simp only [Act.put, List.setIfInBounds_toArray, List.set_cons_zero, List.set_cons_succ])
  go_cut [47] (fun v47 wc => ∃ (kq : Nat) (x47_6 : Bool), v47 = .bool x47_6 ∧ Aside0 (flyballlaw04_PatternOrders.j0 kq a0 a1 true t102 x47_6 = some r) ∧ Aside0 (kq ≤ k) ∧ Aside0 (Below w.heap.size w wc))
  case first =>
   have H := HC7.out
   clear HC7
   by_cases c9 : t102 = t104
   ·rw [if_pos c9] at H
    have c9b0 : (t102 == t104) = true := beq_iff_eq.mpr c9
    have c9b1 : (t102 != t104) = false := bne_eq_false_iff_eq.mpr c9
    clear c9
    (first | rw [c9b0] | (simp only [i64_w, i32_w]; rw [c9b0]) | skip)
    by_cases c10 : (t103 != t105) = true
    ·rw [if_pos c10] at H
     have c10b0 : (t103 != t105) = true := c10
     (try (have c10b1 : decide (t103 = t105) = false := by simpa using c10))
     (try (have c10b2 : (t103 == t105) = false := by simpa using c10))
     (try (have c10b3 : ¬ (t103 = t105) := by simpa using c10))
     clear c10
     have H' := Aside0.mk H
     clear H
     go_wp2
     go_meet
     case rel => exact ⟨_, (true), (by first | rfl | (simp; done) | (simp [*]; done)), H', ⟨by first | omega | exact Nat.le_refl _⟩, ⟨by repeat (first | (with_reducible first | exact HB.out | apply below_alloc | apply pw_below_drewN | apply below_drew1) | exact HB.out)⟩⟩
    ·rw [if_neg c10] at H
     have c10b0 : (t103 != t105) = false := by simpa using c10
     (try (have c10b1 : decide (t103 = t105) = true := by simpa using c10))
     (try (have c10b2 : (t103 == t105) = true := by simpa using c10))
     clear c10
     replace H := Option.bind_eq_some_iff.mp H
     obtain ⟨t106, A110, H⟩ := H
     replace H : (if t103 = true then (flyballlaw04_PatternOrders.j0 k a0 a1 true t102 (t106 != (decide (t102 < 0)))) else (flyballlaw04_PatternOrders.j0 k a0 a1 true t102 (t106 != false))) = some r := H
     have A11 := Aside0.mk A110
     clear A110
     by_cases c12 : t103 = true
     ·subst c12
      have H1 : (flyballlaw04_PatternOrders.j0 k a0 a1 true t102 (t106 != (decide (t102 < 0)))) = some r := by rw [if_pos rfl] at H; exact H
      clear H
      have H := H1
      clear H1
      have H' := Aside0.mk H
      clear H
      go_wp2_with (first | (go_at_call 62; (with_reducible refine (pattern_Less.calls k a0 a1 t106 _ A11.out).mono ?_); rintro e w' ⟨rfl, ⟨nd, rfl⟩⟩))
      go_meet
      case rel => exact ⟨_, ((t106 != (decide (t102 < 0)))), (by first | rfl | (simp; done) | (simp [*]; done)), H', ⟨by first | omega | exact Nat.le_refl _⟩, ⟨by repeat (first | (with_reducible first | exact HB.out | apply below_alloc | apply pw_below_drewN | apply below_drew1) | exact HB.out)⟩⟩
     ·replace c12 := Bool.eq_false_iff.mpr c12
      subst c12
      have H1 : (flyballlaw04_PatternOrders.j0 k a0 a1 true t102 (t106 != false)) = some r := by rw [if_neg (show ¬ (false = true) by decide)] at H; exact H
      clear H
      have H := H1
      clear H1
      have H' := Aside0.mk H
      clear H
      go_wp2_with (first | (go_at_call 62; (with_reducible refine (pattern_Less.calls k a0 a1 t106 _ A11.out).mono ?_); rintro e w' ⟨rfl, ⟨nd, rfl⟩⟩))
      go_meet
      case rel => exact ⟨_, ((t106 != false)), (by first | rfl | (simp; done) | (simp [*]; done)), H', ⟨by first | omega | exact Nat.le_refl _⟩, ⟨by repeat (first | (with_reducible first | exact HB.out | apply below_alloc | apply pw_below_drewN | apply below_drew1) | exact HB.out)⟩⟩
   ·rw [if_neg c9] at H
    have c9b0 : (t102 == t104) = false := beq_eq_false_iff_ne.mpr c9
    have c9b1 : (t102 != t104) = true := bne_iff_ne.mpr c9
    (first | rw [c9b0] | (simp only [i64_w, i32_w]; rw [c9b0]) | skip)
    have H' := Aside0.mk H
    clear H
    go_wp2
    go_meet
    case rel => exact ⟨_, (true), (by first | rfl | (simp; done) | (simp [*]; done)), H', ⟨by first | omega | exact Nat.le_refl _⟩, ⟨by repeat (first | (with_reducible first | exact HB.out | apply below_alloc | apply pw_below_drewN | apply below_drew1) | exact HB.out)⟩⟩
  case rest =>
   clear HC7
   try clear c1
   try clear p2
   try clear c4
   try clear c5
   try clear c6
   try clear c9
   try clear c9b0
   try clear c9b1
   try clear c10
   try clear c10b0
   try clear c10b1
   try clear c10b2
   try clear c12
   obtain ⟨kq, x47_6, rfl, HA, HJ6, HB⟩ := hcut
   cases kq with
   | zero => exact absurd HA.out (by simp [flyballlaw04_PatternOrders.j0])
   | succ kj6 =>
    have H := HA.out
    clear HA
    simp only [flyballlaw04_PatternOrders.j0] at H
    by_cases c13 : x47_6 = true
    ·subst c13
     have H1 : (some false) = some r := by rw [if_pos rfl] at H; exact H
     clear H
     have H := H1
     clear H1
     obtain rfl := Option.some.inj H
     go_wp2
     go_ret
     exact ⟨by first | rfl | (simp [errW_none, errW_some] <;> rfl) | (simp [*, errW_none, errW_some] <;> rfl), by repeat (first | (with_reducible first | exact HB.out | apply below_alloc | apply pw_below_drewN | apply below_drew1) | exact HB.out)⟩
    ·replace c13 := Bool.eq_false_iff.mpr c13
     subst c13
     have H1 : ((pattern_Value.f kj6 a0).bind fun bt107 => ((pattern_Value.f kj6 a1).bind fun bt116 => (if true = true then (if bt107.2.2.2 = true then (if bt116.2.2.2 = true then ((ratio_R_Cmp.f kj6 bt107.1 bt107.2.1 bt107.2.2.1 bt116.1 bt116.2.1 bt116.2.2.1).bind fun t125 => (some (t125 == t102))) else (some true)) else (some true)) else (some false)))) = some r := by rw [if_neg (show ¬ (false = true) by decide)] at H; exact H
     clear H
     have H := H1
     clear H1
     replace H := Option.bind_eq_some_iff.mp H
     obtain ⟨⟨t107, t108, t111, t114⟩, A140, H⟩ := H
     replace H : ((pattern_Value.f kj6 a1).bind fun bt116 => (if true = true then (if t114 = true then (if bt116.2.2.2 = true then ((ratio_R_Cmp.f kj6 t107 t108 t111 bt116.1 bt116.2.1 bt116.2.2.1).bind fun t125 => (some (t125 == t102))) else (some true)) else (some true)) else (some false))) = some r := H
     have A14 := Aside0.mk A140
     clear A140
     replace H := Option.bind_eq_some_iff.mp H
     obtain ⟨⟨t116, t117, t120, t123⟩, A150, H⟩ := H
     replace H : (if true = true then (if t114 = true then (if t123 = true then ((ratio_R_Cmp.f kj6 t107 t108 t111 t116 t117 t120).bind fun t125 => (some (t125 == t102))) else (some true)) else (some true)) else (some false)) = some r := H
     have A15 := Aside0.mk A150
     clear A150
     by_cases c16 : (true : Bool) = true
     ·clear c16
      have H1 : (if t114 = true then (if t123 = true then ((ratio_R_Cmp.f kj6 t107 t108 t111 t116 t117 t120).bind fun t125 => (some (t125 == t102))) else (some true)) else (some true)) = some r := by rw [if_pos rfl] at H; exact H
      clear H
      have H := H1
      clear H1
      by_cases c17 : t114 = true
      ·subst c17
       have H1 : (if t123 = true then ((ratio_R_Cmp.f kj6 t107 t108 t111 t116 t117 t120).bind fun t125 => (some (t125 == t102))) else (some true)) = some r := by rw [if_pos rfl] at H; exact H
       clear H
       have H := H1
       clear H1
       by_cases c18 : t123 = true
       ·subst c18
        have H1 : ((ratio_R_Cmp.f kj6 t107 t108 t111 t116 t117 t120).bind fun t125 => (some (t125 == t102))) = some r := by rw [if_pos rfl] at H; exact H
        clear H
        have H := H1
        clear H1
        replace H := Option.bind_eq_some_iff.mp H
        obtain ⟨t125, A190, H⟩ := H
        replace H : (some (t125 == t102)) = some r := H
        have A19 := Aside0.mk A190
        clear A190
        obtain rfl := Option.some.inj H
        go_wp2_with (first | ((with_reducible refine gate_callee (f := 63) rfl ?_); refine goesL_ (some 50) rfl rfl Try.func63 (by kernel_rfl) rfl #[.int .u64 a0] rfl (by (try simp only [List.map_toArray, List.map_cons, List.map_nil]); first | done | rfl | (simp only [List.length_drop, List.length_take]; rfl)) ?_; (with_reducible refine (pattern_Value.calls kj6 a0 t107 t108 t111 true _ A14.out).mono ?_); rintro e w20 ⟨v109, v112, rfl, ho0, ho1, hb⟩; refine ⟨_, rfl, ?_⟩; have n0_ := Aside0.mk (Kd.V_lower (Kd.V_mono (ok' := fun k_ => True) ho0 (fun k_ hk_ => trivial)) (below_size (by repeat (first | (with_reducible first | exact HB.out | apply below_alloc | apply pw_below_drewN | apply below_drew1) | exact HB.out)))); have n1_ := Aside0.mk (Kd.V_lower (Kd.V_mono (ok' := fun k_ => True) ho1 (fun k_ hk_ => trivial)) (below_size (by repeat (first | (with_reducible first | exact HB.out | apply below_alloc | apply pw_below_drewN | apply below_drew1) | exact HB.out)))); have n2_ := Aside0.mk (below_step (by repeat (first | (with_reducible first | exact HB.out | apply below_alloc | apply pw_below_drewN | apply below_drew1) | exact HB.out)) hb); clear HB; have HO110 := n0_; have HO113 := n1_; have HB := n2_; clear n0_ n1_ n2_; (try clear hb); (try clear hb2); (try clear hk); (try clear hi); (try clear ho0); (try clear ho1)) | ((with_reducible refine gate_dst (N := 10) rfl ?_); refine box_event ?hg (N := 10) ?hd (cs := #[.bool false, .slice none 0 0, .slice none 0 0]) (t := 69) ?hr ?_; (case hd => rfl); (case hg => rfl); (case hr => first | (go_simp; done) | (go_simp; rfl)); intro gb115 hg w21 hbox hb; have n0_ := Aside0.mk (Kd.V_below (Kd.V_elderB (by (with_reducible repeat (first | apply Kd.V_alloc | apply Kd.V_drewN | apply Kd.V_drew)); exact HO110.out) gb115 (Nat.le_of_eq hg.symm)) hb); have n1_ := Aside0.mk (Kd.V_below (Kd.V_elderB (by (with_reducible repeat (first | apply Kd.V_alloc | apply Kd.V_drewN | apply Kd.V_drew)); exact HO113.out) gb115 (Nat.le_of_eq hg.symm)) hb); have n2_ := Aside0.mk (below_step (by repeat (first | (with_reducible first | exact HB.out | apply below_alloc | apply pw_below_drewN | apply below_drew1) | exact HB.out)) hb); have n3_ := Aside0.mk (hbox); have n4_ := Aside0.mk ((by rw [hg]; exact (below_size (by repeat (first | (with_reducible first | exact HB.out | apply below_alloc | apply pw_below_drewN | apply below_drew1) | exact HB.out))) : w.heap.size ≤ gb115)); have n5_ := Aside0.mk ((by rw [hg]; exact (below_size (by repeat (first | (with_reducible first | exact HB.out | apply below_alloc | apply pw_below_drewN | apply below_drew1) | exact HB.out))) : w.heap.size ≤ gb115)); clear HO110; clear HO113; clear HB; have HO110 := n0_; have HO113 := n1_; have HB := n2_; have BK115 := n3_; have GW115 := n4_; have GE115 := n5_; clear n0_ n1_ n2_ n3_ n4_ n5_; clear hb hbox hg; have hcz22_0 : w21.cell? ⟨gb115, 0, none⟩ = some (.bool false) := (blk_cell BK115.out 0).trans rfl; have hcz22_1 : w21.cell? ⟨gb115, 1, none⟩ = some (.slice none 0 0) := (blk_cell BK115.out 1).trans rfl; have hcz22_2 : w21.cell? ⟨gb115, 2, none⟩ = some (.slice none 0 0) := (blk_cell BK115.out 2).trans rfl; have hfz22_0 := blk_frozen BK115.out 0; have hfz22_1 := blk_frozen BK115.out 1; have hfz22_2 := blk_frozen BK115.out 2; obtain ⟨Ao23, co23, eo23⟩ := Kd.V_slice HO110.out; subst eo23; obtain ⟨Ao24, co24, eo24⟩ := Kd.V_slice HO113.out; subst eo24) | ((with_reducible refine gate_callee (f := 63) rfl ?_); refine goesL_ (some 55) rfl rfl Try.func63 (by kernel_rfl) rfl #[.int .u64 a1] rfl (by (try simp only [List.map_toArray, List.map_cons, List.map_nil]); first | done | rfl | (simp only [List.length_drop, List.length_take]; rfl)) ?_; (with_reducible refine (pattern_Value.calls kj6 a1 t116 t117 t120 true _ A15.out).mono ?_); rintro e w25 ⟨v118, v121, rfl, ho0, ho1, hb⟩; refine ⟨_, rfl, ?_⟩; have n0_ := Aside0.mk (Kd.V_below (by (with_reducible repeat (first | apply Kd.V_alloc | apply Kd.V_drewN | apply Kd.V_drew)); exact (Kd.V_mono (Kd.V_far (p := ⟨gb115, 2, none⟩) (Kd.V_far (p := ⟨gb115, 1, none⟩) (Kd.V_far (p := ⟨gb115, 0, none⟩) (Kd.V_mono HO110.out (fun k_ hk => (⟨hk, hk.2⟩ : _ ∧ k_ ≠ gb115))) (fun _ hk => hk.2) (.bool t107)) (fun _ hk => hk.2) (.slice Ao23 t108.length co23)) (fun _ hk => hk.2) (.slice Ao24 t111.length co24)) (fun _ h_ => h_.1))) hb); have n1_ := Aside0.mk (Kd.V_below (by (with_reducible repeat (first | apply Kd.V_alloc | apply Kd.V_drewN | apply Kd.V_drew)); exact (Kd.V_mono (Kd.V_far (p := ⟨gb115, 2, none⟩) (Kd.V_far (p := ⟨gb115, 1, none⟩) (Kd.V_far (p := ⟨gb115, 0, none⟩) (Kd.V_mono HO113.out (fun k_ hk => (⟨hk, hk.2⟩ : _ ∧ k_ ≠ gb115))) (fun _ hk => hk.2) (.bool t107)) (fun _ hk => hk.2) (.slice Ao23 t108.length co23)) (fun _ hk => hk.2) (.slice Ao24 t111.length co24)) (fun _ h_ => h_.1))) hb); have n2_ := Aside0.mk (Kd.V_lower (Kd.V_mono (ok' := fun k_ => k_ ≠ gb115) ho0 (fun k_ hk_ => (Kd.freshB (g := gb115) (o := .cells #[.bool t107, .slice Ao23 t108.length co23, .slice Ao24 t111.length co24] 69 (0, 0)) (by (with_reducible repeat (first | refine blk_drewN ?_ _ | refine blk_drew ?_ | refine blk_alloc ?_ _)); refine blk_put (cs := #[.bool t107, .slice Ao23 t108.length co23, .slice none 0 0]) ?_ 2 _ rfl; (with_reducible repeat (first | refine blk_drewN ?_ _ | refine blk_drew ?_ | refine blk_alloc ?_ _)); refine blk_put (cs := #[.bool t107, .slice none 0 0, .slice none 0 0]) ?_ 1 _ rfl; (with_reducible repeat (first | refine blk_drewN ?_ _ | refine blk_drew ?_ | refine blk_alloc ?_ _)); refine blk_put (cs := #[.bool false, .slice none 0 0, .slice none 0 0]) ?_ 0 _ rfl; (with_reducible repeat (first | refine blk_drewN ?_ _ | refine blk_drew ?_ | refine blk_alloc ?_ _)); exact BK115.out) k_ hk_))) (below_size (by repeat (first | (with_reducible first | exact HB.out | apply below_alloc | apply pw_below_drewN | apply below_drew1 | refine below_set ?_ GE115.out) | exact HB.out)))); have n3_ := Aside0.mk (Kd.V_lower (Kd.V_mono (ok' := fun k_ => k_ ≠ gb115) ho1 (fun k_ hk_ => (Kd.freshB (g := gb115) (o := .cells #[.bool t107, .slice Ao23 t108.length co23, .slice Ao24 t111.length co24] 69 (0, 0)) (by (with_reducible repeat (first | refine blk_drewN ?_ _ | refine blk_drew ?_ | refine blk_alloc ?_ _)); refine blk_put (cs := #[.bool t107, .slice Ao23 t108.length co23, .slice none 0 0]) ?_ 2 _ rfl; (with_reducible repeat (first | refine blk_drewN ?_ _ | refine blk_drew ?_ | refine blk_alloc ?_ _)); refine blk_put (cs := #[.bool t107, .slice none 0 0, .slice none 0 0]) ?_ 1 _ rfl; (with_reducible repeat (first | refine blk_drewN ?_ _ | refine blk_drew ?_ | refine blk_alloc ?_ _)); refine blk_put (cs := #[.bool false, .slice none 0 0, .slice none 0 0]) ?_ 0 _ rfl; (with_reducible repeat (first | refine blk_drewN ?_ _ | refine blk_drew ?_ | refine blk_alloc ?_ _)); exact BK115.out) k_ hk_))) (below_size (by repeat (first | (with_reducible first | exact HB.out | apply below_alloc | apply pw_below_drewN | apply below_drew1 | refine below_set ?_ GE115.out) | exact HB.out)))); have n4_ := Aside0.mk (blk_below (g := gb115) (o := .cells #[.bool t107, .slice Ao23 t108.length co23, .slice Ao24 t111.length co24] 69 (0, 0)) (by (with_reducible repeat (first | refine blk_drewN ?_ _ | refine blk_drew ?_ | refine blk_alloc ?_ _)); refine blk_put (cs := #[.bool t107, .slice Ao23 t108.length co23, .slice none 0 0]) ?_ 2 _ rfl; (with_reducible repeat (first | refine blk_drewN ?_ _ | refine blk_drew ?_ | refine blk_alloc ?_ _)); refine blk_put (cs := #[.bool t107, .slice none 0 0, .slice none 0 0]) ?_ 1 _ rfl; (with_reducible repeat (first | refine blk_drewN ?_ _ | refine blk_drew ?_ | refine blk_alloc ?_ _)); refine blk_put (cs := #[.bool false, .slice none 0 0, .slice none 0 0]) ?_ 0 _ rfl; (with_reducible repeat (first | refine blk_drewN ?_ _ | refine blk_drew ?_ | refine blk_alloc ?_ _)); exact BK115.out) hb); have n5_ := Aside0.mk (below_step (by repeat (first | (with_reducible first | exact HB.out | apply below_alloc | apply pw_below_drewN | apply below_drew1 | refine below_set ?_ GE115.out) | exact HB.out)) hb); clear HO110; clear HO113; clear BK115; clear HB; have HO110 := n0_; have HO113 := n1_; have HO119 := n2_; have HO122 := n3_; have BK115 := n4_; have HB := n5_; clear n0_ n1_ n2_ n3_ n4_ n5_; (try clear hb); (try clear hb2); (try clear hk); (try clear hi); (try clear ho0); (try clear ho1)) | ((with_reducible refine gate_dst (N := 12) rfl ?_); refine box_event ?hg (N := 12) ?hd (cs := #[.bool false, .slice none 0 0, .slice none 0 0]) (t := 69) ?hr ?_; (case hd => rfl); (case hg => rfl); (case hr => first | (go_simp; done) | (go_simp; rfl)); intro gb124 hg w26 hbox hb; have n0_ := Aside0.mk (Kd.V_below (Kd.V_elderB (by (with_reducible repeat (first | apply Kd.V_alloc | apply Kd.V_drewN | apply Kd.V_drew)); exact HO110.out) gb124 (Nat.le_of_eq hg.symm)) hb); have n1_ := Aside0.mk (Kd.V_below (Kd.V_elderB (by (with_reducible repeat (first | apply Kd.V_alloc | apply Kd.V_drewN | apply Kd.V_drew)); exact HO113.out) gb124 (Nat.le_of_eq hg.symm)) hb); have n2_ := Aside0.mk (Kd.V_below (Kd.V_elderB (by (with_reducible repeat (first | apply Kd.V_alloc | apply Kd.V_drewN | apply Kd.V_drew)); exact HO119.out) gb124 (Nat.le_of_eq hg.symm)) hb); have n3_ := Aside0.mk (Kd.V_below (Kd.V_elderB (by (with_reducible repeat (first | apply Kd.V_alloc | apply Kd.V_drewN | apply Kd.V_drew)); exact HO122.out) gb124 (Nat.le_of_eq hg.symm)) hb); have n4_ := Aside0.mk (blk_below (g := gb115) (o := .cells #[.bool t107, .slice Ao23 t108.length co23, .slice Ao24 t111.length co24] 69 (0, 0)) (by (with_reducible repeat (first | refine blk_drewN ?_ _ | refine blk_drew ?_ | refine blk_alloc ?_ _)); exact BK115.out) hb); have n5_ := Aside0.mk (below_step (by repeat (first | (with_reducible first | exact HB.out | apply below_alloc | apply pw_below_drewN | apply below_drew1 | refine below_set ?_ GE115.out) | exact HB.out)) hb); have n6_ := Aside0.mk (hbox); have n7_ := Aside0.mk ((by rw [hg]; exact (below_size (by repeat (first | (with_reducible first | exact HB.out | apply below_alloc | apply pw_below_drewN | apply below_drew1 | refine below_set ?_ GE115.out) | exact HB.out))) : w.heap.size ≤ gb124)); have n8_ := Aside0.mk ((by rw [hg]; exact (below_size (by repeat (first | (with_reducible first | exact HB.out | apply below_alloc | apply pw_below_drewN | apply below_drew1 | refine below_set ?_ GE115.out) | exact HB.out))) : w.heap.size ≤ gb124)); have n9_ := Aside0.mk ((by rw [hg]; exact Nat.ne_of_lt (blk_lt (g := gb115) (o := .cells #[.bool t107, .slice Ao23 t108.length co23, .slice Ao24 t111.length co24] 69 (0, 0)) (by (with_reducible repeat (first | refine blk_drewN ?_ _ | refine blk_drew ?_ | refine blk_alloc ?_ _)); exact BK115.out)) : gb115 ≠ gb124)); have n10_ := Aside0.mk ((by rw [hg]; exact Nat.ne_of_gt (blk_lt (g := gb115) (o := .cells #[.bool t107, .slice Ao23 t108.length co23, .slice Ao24 t111.length co24] 69 (0, 0)) (by (with_reducible repeat (first | refine blk_drewN ?_ _ | refine blk_drew ?_ | refine blk_alloc ?_ _)); exact BK115.out)) : gb124 ≠ gb115)); clear HO110; clear HO113; clear HO119; clear HO122; clear BK115; clear HB; have HO110 := n0_; have HO113 := n1_; have HO119 := n2_; have HO122 := n3_; have BK115 := n4_; have HB := n5_; have BK124 := n6_; have GW124 := n7_; have GE124 := n8_; have NB115_124 := n9_; have NB124_115 := n10_; clear n0_ n1_ n2_ n3_ n4_ n5_ n6_ n7_ n8_ n9_ n10_; clear hb hbox hg; have hnb27 := NB124_115.out; have hnc27 := NB115_124.out; have hcz28_0 : w26.cell? ⟨gb124, 0, none⟩ = some (.bool false) := (blk_cell BK124.out 0).trans rfl; have hcz28_1 : w26.cell? ⟨gb124, 1, none⟩ = some (.slice none 0 0) := (blk_cell BK124.out 1).trans rfl; have hcz28_2 : w26.cell? ⟨gb124, 2, none⟩ = some (.slice none 0 0) := (blk_cell BK124.out 2).trans rfl; have hfz28_0 := blk_frozen BK124.out 0; have hfz28_1 := blk_frozen BK124.out 1; have hfz28_2 := blk_frozen BK124.out 2; obtain ⟨Ao29, co29, eo29⟩ := Kd.V_slice HO119.out; subst eo29; obtain ⟨Ao30, co30, eo30⟩ := Kd.V_slice HO122.out; subst eo30; have hcz31_0 : w26.cell? ⟨gb115, 0, none⟩ = some (.bool t107) := (blk_cell BK115.out 0).trans rfl; have hcz31_1 : w26.cell? ⟨gb115, 1, none⟩ = some (.slice Ao23 t108.length co23) := (blk_cell BK115.out 1).trans rfl; have hcz31_2 : w26.cell? ⟨gb115, 2, none⟩ = some (.slice Ao24 t111.length co24) := (blk_cell BK115.out 2).trans rfl; have hfz31_0 := blk_frozen BK115.out 0; have hfz31_1 := blk_frozen BK115.out 1; have hfz31_2 := blk_frozen BK115.out 2) | (go_at_call 58; (with_reducible refine (ratio_R_Cmp.calls kj6 t107 _ _ t108 _ _ t111 t116 _ _ t117 _ _ t120 t125 _ ?side1 ?side2 ?side3 ?side4 ?side5 ?side6 ?side7 ?side8 A19.out).mono ?_); (case side1 => refine (Kd.V_reads' (e := 118) (base := w.heap.size) (ok := fun k_ => ((True ∧ k_ ≠ gb115) ∧ k_ ≠ gb124)) (n := t108.length) (c := co23) ?_).2.2; exact (by (with_reducible repeat (first | apply Kd.V_alloc | apply Kd.V_drewN | apply Kd.V_drew)); exact (Kd.V_mono (Kd.V_far (p := ⟨gb124, 2, none⟩) (Kd.V_far (p := ⟨gb124, 1, none⟩) (Kd.V_far (p := ⟨gb124, 0, none⟩) (Kd.V_mono HO110.out (fun k_ hk => (⟨hk, hk.2⟩ : _ ∧ k_ ≠ gb124))) (fun _ hk => hk.2) (.bool t116)) (fun _ hk => hk.2) (.slice Ao29 t117.length co29)) (fun _ hk => hk.2) (.slice Ao30 t120.length co30)) (fun _ h_ => h_.1)))); (case side2 => exact (Kd.V_reads' HO110.out).2.1); (case side3 => refine (Kd.V_reads' (e := 118) (base := w.heap.size) (ok := fun k_ => ((True ∧ k_ ≠ gb115) ∧ k_ ≠ gb124)) (n := t111.length) (c := co24) ?_).2.2; exact (by (with_reducible repeat (first | apply Kd.V_alloc | apply Kd.V_drewN | apply Kd.V_drew)); exact (Kd.V_mono (Kd.V_far (p := ⟨gb124, 2, none⟩) (Kd.V_far (p := ⟨gb124, 1, none⟩) (Kd.V_far (p := ⟨gb124, 0, none⟩) (Kd.V_mono HO113.out (fun k_ hk => (⟨hk, hk.2⟩ : _ ∧ k_ ≠ gb124))) (fun _ hk => hk.2) (.bool t116)) (fun _ hk => hk.2) (.slice Ao29 t117.length co29)) (fun _ hk => hk.2) (.slice Ao30 t120.length co30)) (fun _ h_ => h_.1)))); (case side4 => exact (Kd.V_reads' HO113.out).2.1); (case side5 => refine (Kd.V_reads' (e := 118) (base := w.heap.size) (ok := fun k_ => (k_ ≠ gb115 ∧ k_ ≠ gb124)) (n := t117.length) (c := co29) ?_).2.2; exact (by (with_reducible repeat (first | apply Kd.V_alloc | apply Kd.V_drewN | apply Kd.V_drew)); exact (Kd.V_mono (Kd.V_far (p := ⟨gb124, 2, none⟩) (Kd.V_far (p := ⟨gb124, 1, none⟩) (Kd.V_far (p := ⟨gb124, 0, none⟩) (Kd.V_mono HO119.out (fun k_ hk => (⟨hk, hk.2⟩ : _ ∧ k_ ≠ gb124))) (fun _ hk => hk.2) (.bool t116)) (fun _ hk => hk.2) (.slice Ao29 t117.length co29)) (fun _ hk => hk.2) (.slice Ao30 t120.length co30)) (fun _ h_ => h_.1)))); (case side6 => exact (Kd.V_reads' HO119.out).2.1); (case side7 => refine (Kd.V_reads' (e := 118) (base := w.heap.size) (ok := fun k_ => (k_ ≠ gb115 ∧ k_ ≠ gb124)) (n := t120.length) (c := co30) ?_).2.2; exact (by (with_reducible repeat (first | apply Kd.V_alloc | apply Kd.V_drewN | apply Kd.V_drew)); exact (Kd.V_mono (Kd.V_far (p := ⟨gb124, 2, none⟩) (Kd.V_far (p := ⟨gb124, 1, none⟩) (Kd.V_far (p := ⟨gb124, 0, none⟩) (Kd.V_mono HO122.out (fun k_ hk => (⟨hk, hk.2⟩ : _ ∧ k_ ≠ gb124))) (fun _ hk => hk.2) (.bool t116)) (fun _ hk => hk.2) (.slice Ao29 t117.length co29)) (fun _ hk => hk.2) (.slice Ao30 t120.length co30)) (fun _ h_ => h_.1)))); (case side8 => exact (Kd.V_reads' HO122.out).2.1); rintro e w32 ⟨rfl, hb⟩; have n0_ := Aside0.mk (Kd.V_below (by (with_reducible repeat (first | apply Kd.V_alloc | apply Kd.V_drewN | apply Kd.V_drew)); exact (Kd.V_mono (Kd.V_far (p := ⟨gb124, 2, none⟩) (Kd.V_far (p := ⟨gb124, 1, none⟩) (Kd.V_far (p := ⟨gb124, 0, none⟩) (Kd.V_mono HO110.out (fun k_ hk => (⟨hk, hk.2⟩ : _ ∧ k_ ≠ gb124))) (fun _ hk => hk.2) (.bool t116)) (fun _ hk => hk.2) (.slice Ao29 t117.length co29)) (fun _ hk => hk.2) (.slice Ao30 t120.length co30)) (fun _ h_ => h_.1))) hb); have n1_ := Aside0.mk (Kd.V_below (by (with_reducible repeat (first | apply Kd.V_alloc | apply Kd.V_drewN | apply Kd.V_drew)); exact (Kd.V_mono (Kd.V_far (p := ⟨gb124, 2, none⟩) (Kd.V_far (p := ⟨gb124, 1, none⟩) (Kd.V_far (p := ⟨gb124, 0, none⟩) (Kd.V_mono HO113.out (fun k_ hk => (⟨hk, hk.2⟩ : _ ∧ k_ ≠ gb124))) (fun _ hk => hk.2) (.bool t116)) (fun _ hk => hk.2) (.slice Ao29 t117.length co29)) (fun _ hk => hk.2) (.slice Ao30 t120.length co30)) (fun _ h_ => h_.1))) hb); have n2_ := Aside0.mk (Kd.V_below (by (with_reducible repeat (first | apply Kd.V_alloc | apply Kd.V_drewN | apply Kd.V_drew)); exact (Kd.V_mono (Kd.V_far (p := ⟨gb124, 2, none⟩) (Kd.V_far (p := ⟨gb124, 1, none⟩) (Kd.V_far (p := ⟨gb124, 0, none⟩) (Kd.V_mono HO119.out (fun k_ hk => (⟨hk, hk.2⟩ : _ ∧ k_ ≠ gb124))) (fun _ hk => hk.2) (.bool t116)) (fun _ hk => hk.2) (.slice Ao29 t117.length co29)) (fun _ hk => hk.2) (.slice Ao30 t120.length co30)) (fun _ h_ => h_.1))) hb); have n3_ := Aside0.mk (Kd.V_below (by (with_reducible repeat (first | apply Kd.V_alloc | apply Kd.V_drewN | apply Kd.V_drew)); exact (Kd.V_mono (Kd.V_far (p := ⟨gb124, 2, none⟩) (Kd.V_far (p := ⟨gb124, 1, none⟩) (Kd.V_far (p := ⟨gb124, 0, none⟩) (Kd.V_mono HO122.out (fun k_ hk => (⟨hk, hk.2⟩ : _ ∧ k_ ≠ gb124))) (fun _ hk => hk.2) (.bool t116)) (fun _ hk => hk.2) (.slice Ao29 t117.length co29)) (fun _ hk => hk.2) (.slice Ao30 t120.length co30)) (fun _ h_ => h_.1))) hb); have n4_ := Aside0.mk (blk_below (g := gb115) (o := .cells #[.bool t107, .slice Ao23 t108.length co23, .slice Ao24 t111.length co24] 69 (0, 0)) (by (with_reducible repeat (first | refine blk_drewN ?_ _ | refine blk_drew ?_ | refine blk_alloc ?_ _)); refine blk_far ?_ NB115_124.out _; (with_reducible repeat (first | refine blk_drewN ?_ _ | refine blk_drew ?_ | refine blk_alloc ?_ _)); refine blk_far ?_ NB115_124.out _; (with_reducible repeat (first | refine blk_drewN ?_ _ | refine blk_drew ?_ | refine blk_alloc ?_ _)); refine blk_far ?_ NB115_124.out _; (with_reducible repeat (first | refine blk_drewN ?_ _ | refine blk_drew ?_ | refine blk_alloc ?_ _)); exact BK115.out) hb); have n5_ := Aside0.mk (blk_below (g := gb124) (o := .cells #[.bool t116, .slice Ao29 t117.length co29, .slice Ao30 t120.length co30] 69 (0, 0)) (by (with_reducible repeat (first | refine blk_drewN ?_ _ | refine blk_drew ?_ | refine blk_alloc ?_ _)); refine blk_put (cs := #[.bool t116, .slice Ao29 t117.length co29, .slice none 0 0]) ?_ 2 _ rfl; (with_reducible repeat (first | refine blk_drewN ?_ _ | refine blk_drew ?_ | refine blk_alloc ?_ _)); refine blk_put (cs := #[.bool t116, .slice none 0 0, .slice none 0 0]) ?_ 1 _ rfl; (with_reducible repeat (first | refine blk_drewN ?_ _ | refine blk_drew ?_ | refine blk_alloc ?_ _)); refine blk_put (cs := #[.bool false, .slice none 0 0, .slice none 0 0]) ?_ 0 _ rfl; (with_reducible repeat (first | refine blk_drewN ?_ _ | refine blk_drew ?_ | refine blk_alloc ?_ _)); exact BK124.out) hb); have n6_ := Aside0.mk (below_step (by repeat (first | (with_reducible first | exact HB.out | apply below_alloc | apply pw_below_drewN | apply below_drew1 | refine below_set ?_ GE115.out | refine below_set ?_ GE124.out) | exact HB.out)) hb); clear HO110; clear HO113; clear HO119; clear HO122; clear BK115; clear BK124; clear HB; have HO110 := n0_; have HO113 := n1_; have HO119 := n2_; have HO122 := n3_; have BK115 := n4_; have BK124 := n5_; have HB := n6_; clear n0_ n1_ n2_ n3_ n4_ n5_ n6_; (try clear hb); (try clear hb2); (try clear hk); (try clear hi)))
        go_ret
        exact ⟨by first | rfl | (simp [errW_none, errW_some] <;> rfl) | (simp [*, errW_none, errW_some] <;> rfl), by repeat (first | (with_reducible first | exact HB.out | apply below_alloc | apply pw_below_drewN | apply below_drew1 | refine below_set ?_ GE115.out | refine below_set ?_ GE124.out) | exact HB.out)⟩
       ·replace c18 := Bool.eq_false_iff.mpr c18
        subst c18
        have H1 : (some true) = some r := by rw [if_neg (show ¬ (false = true) by decide)] at H; exact H
        clear H
        have H := H1
        clear H1
        obtain rfl := Option.some.inj H
        go_wp2_with (first | ((with_reducible refine gate_callee (f := 63) rfl ?_); refine goesL_ (some 50) rfl rfl Try.func63 (by kernel_rfl) rfl #[.int .u64 a0] rfl (by (try simp only [List.map_toArray, List.map_cons, List.map_nil]); first | done | rfl | (simp only [List.length_drop, List.length_take]; rfl)) ?_; (with_reducible refine (pattern_Value.calls kj6 a0 t107 t108 t111 true _ A14.out).mono ?_); rintro e w33 ⟨v109, v112, rfl, ho0, ho1, hb⟩; refine ⟨_, rfl, ?_⟩; have n0_ := Aside0.mk (Kd.V_lower (Kd.V_mono (ok' := fun k_ => True) ho0 (fun k_ hk_ => trivial)) (below_size (by repeat (first | (with_reducible first | exact HB.out | apply below_alloc | apply pw_below_drewN | apply below_drew1) | exact HB.out)))); have n1_ := Aside0.mk (Kd.V_lower (Kd.V_mono (ok' := fun k_ => True) ho1 (fun k_ hk_ => trivial)) (below_size (by repeat (first | (with_reducible first | exact HB.out | apply below_alloc | apply pw_below_drewN | apply below_drew1) | exact HB.out)))); have n2_ := Aside0.mk (below_step (by repeat (first | (with_reducible first | exact HB.out | apply below_alloc | apply pw_below_drewN | apply below_drew1) | exact HB.out)) hb); clear HB; have HO110 := n0_; have HO113 := n1_; have HB := n2_; clear n0_ n1_ n2_; (try clear hb); (try clear hb2); (try clear hk); (try clear hi); (try clear ho0); (try clear ho1)) | ((with_reducible refine gate_dst (N := 10) rfl ?_); refine box_event ?hg (N := 10) ?hd (cs := #[.bool false, .slice none 0 0, .slice none 0 0]) (t := 69) ?hr ?_; (case hd => rfl); (case hg => rfl); (case hr => first | (go_simp; done) | (go_simp; rfl)); intro gb115 hg w34 hbox hb; have n0_ := Aside0.mk (Kd.V_below (Kd.V_elderB (by (with_reducible repeat (first | apply Kd.V_alloc | apply Kd.V_drewN | apply Kd.V_drew)); exact HO110.out) gb115 (Nat.le_of_eq hg.symm)) hb); have n1_ := Aside0.mk (Kd.V_below (Kd.V_elderB (by (with_reducible repeat (first | apply Kd.V_alloc | apply Kd.V_drewN | apply Kd.V_drew)); exact HO113.out) gb115 (Nat.le_of_eq hg.symm)) hb); have n2_ := Aside0.mk (below_step (by repeat (first | (with_reducible first | exact HB.out | apply below_alloc | apply pw_below_drewN | apply below_drew1) | exact HB.out)) hb); have n3_ := Aside0.mk (hbox); have n4_ := Aside0.mk ((by rw [hg]; exact (below_size (by repeat (first | (with_reducible first | exact HB.out | apply below_alloc | apply pw_below_drewN | apply below_drew1) | exact HB.out))) : w.heap.size ≤ gb115)); have n5_ := Aside0.mk ((by rw [hg]; exact (below_size (by repeat (first | (with_reducible first | exact HB.out | apply below_alloc | apply pw_below_drewN | apply below_drew1) | exact HB.out))) : w.heap.size ≤ gb115)); clear HO110; clear HO113; clear HB; have HO110 := n0_; have HO113 := n1_; have HB := n2_; have BK115 := n3_; have GW115 := n4_; have GE115 := n5_; clear n0_ n1_ n2_ n3_ n4_ n5_; clear hb hbox hg; have hcz35_0 : w34.cell? ⟨gb115, 0, none⟩ = some (.bool false) := (blk_cell BK115.out 0).trans rfl; have hcz35_1 : w34.cell? ⟨gb115, 1, none⟩ = some (.slice none 0 0) := (blk_cell BK115.out 1).trans rfl; have hcz35_2 : w34.cell? ⟨gb115, 2, none⟩ = some (.slice none 0 0) := (blk_cell BK115.out 2).trans rfl; have hfz35_0 := blk_frozen BK115.out 0; have hfz35_1 := blk_frozen BK115.out 1; have hfz35_2 := blk_frozen BK115.out 2; obtain ⟨Ao36, co36, eo36⟩ := Kd.V_slice HO110.out; subst eo36; obtain ⟨Ao37, co37, eo37⟩ := Kd.V_slice HO113.out; subst eo37) | ((with_reducible refine gate_callee (f := 63) rfl ?_); refine goesL_ (some 55) rfl rfl Try.func63 (by kernel_rfl) rfl #[.int .u64 a1] rfl (by (try simp only [List.map_toArray, List.map_cons, List.map_nil]); first | done | rfl | (simp only [List.length_drop, List.length_take]; rfl)) ?_; (with_reducible refine (pattern_Value.calls kj6 a1 t116 t117 t120 false _ A15.out).mono ?_); rintro e w38 ⟨v118, v121, rfl, ho0, ho1, hb⟩; refine ⟨_, rfl, ?_⟩; have n0_ := Aside0.mk (Kd.V_below (by (with_reducible repeat (first | apply Kd.V_alloc | apply Kd.V_drewN | apply Kd.V_drew)); exact (Kd.V_mono (Kd.V_far (p := ⟨gb115, 2, none⟩) (Kd.V_far (p := ⟨gb115, 1, none⟩) (Kd.V_far (p := ⟨gb115, 0, none⟩) (Kd.V_mono HO110.out (fun k_ hk => (⟨hk, hk.2⟩ : _ ∧ k_ ≠ gb115))) (fun _ hk => hk.2) (.bool t107)) (fun _ hk => hk.2) (.slice Ao36 t108.length co36)) (fun _ hk => hk.2) (.slice Ao37 t111.length co37)) (fun _ h_ => h_.1))) hb); have n1_ := Aside0.mk (Kd.V_below (by (with_reducible repeat (first | apply Kd.V_alloc | apply Kd.V_drewN | apply Kd.V_drew)); exact (Kd.V_mono (Kd.V_far (p := ⟨gb115, 2, none⟩) (Kd.V_far (p := ⟨gb115, 1, none⟩) (Kd.V_far (p := ⟨gb115, 0, none⟩) (Kd.V_mono HO113.out (fun k_ hk => (⟨hk, hk.2⟩ : _ ∧ k_ ≠ gb115))) (fun _ hk => hk.2) (.bool t107)) (fun _ hk => hk.2) (.slice Ao36 t108.length co36)) (fun _ hk => hk.2) (.slice Ao37 t111.length co37)) (fun _ h_ => h_.1))) hb); have n2_ := Aside0.mk (Kd.V_lower (Kd.V_mono (ok' := fun k_ => k_ ≠ gb115) ho0 (fun k_ hk_ => (Kd.freshB (g := gb115) (o := .cells #[.bool t107, .slice Ao36 t108.length co36, .slice Ao37 t111.length co37] 69 (0, 0)) (by (with_reducible repeat (first | refine blk_drewN ?_ _ | refine blk_drew ?_ | refine blk_alloc ?_ _)); refine blk_put (cs := #[.bool t107, .slice Ao36 t108.length co36, .slice none 0 0]) ?_ 2 _ rfl; (with_reducible repeat (first | refine blk_drewN ?_ _ | refine blk_drew ?_ | refine blk_alloc ?_ _)); refine blk_put (cs := #[.bool t107, .slice none 0 0, .slice none 0 0]) ?_ 1 _ rfl; (with_reducible repeat (first | refine blk_drewN ?_ _ | refine blk_drew ?_ | refine blk_alloc ?_ _)); refine blk_put (cs := #[.bool false, .slice none 0 0, .slice none 0 0]) ?_ 0 _ rfl; (with_reducible repeat (first | refine blk_drewN ?_ _ | refine blk_drew ?_ | refine blk_alloc ?_ _)); exact BK115.out) k_ hk_))) (below_size (by repeat (first | (with_reducible first | exact HB.out | apply below_alloc | apply pw_below_drewN | apply below_drew1 | refine below_set ?_ GE115.out) | exact HB.out)))); have n3_ := Aside0.mk (Kd.V_lower (Kd.V_mono (ok' := fun k_ => k_ ≠ gb115) ho1 (fun k_ hk_ => (Kd.freshB (g := gb115) (o := .cells #[.bool t107, .slice Ao36 t108.length co36, .slice Ao37 t111.length co37] 69 (0, 0)) (by (with_reducible repeat (first | refine blk_drewN ?_ _ | refine blk_drew ?_ | refine blk_alloc ?_ _)); refine blk_put (cs := #[.bool t107, .slice Ao36 t108.length co36, .slice none 0 0]) ?_ 2 _ rfl; (with_reducible repeat (first | refine blk_drewN ?_ _ | refine blk_drew ?_ | refine blk_alloc ?_ _)); refine blk_put (cs := #[.bool t107, .slice none 0 0, .slice none 0 0]) ?_ 1 _ rfl; (with_reducible repeat (first | refine blk_drewN ?_ _ | refine blk_drew ?_ | refine blk_alloc ?_ _)); refine blk_put (cs := #[.bool false, .slice none 0 0, .slice none 0 0]) ?_ 0 _ rfl; (with_reducible repeat (first | refine blk_drewN ?_ _ | refine blk_drew ?_ | refine blk_alloc ?_ _)); exact BK115.out) k_ hk_))) (below_size (by repeat (first | (with_reducible first | exact HB.out | apply below_alloc | apply pw_below_drewN | apply below_drew1 | refine below_set ?_ GE115.out) | exact HB.out)))); have n4_ := Aside0.mk (blk_below (g := gb115) (o := .cells #[.bool t107, .slice Ao36 t108.length co36, .slice Ao37 t111.length co37] 69 (0, 0)) (by (with_reducible repeat (first | refine blk_drewN ?_ _ | refine blk_drew ?_ | refine blk_alloc ?_ _)); refine blk_put (cs := #[.bool t107, .slice Ao36 t108.length co36, .slice none 0 0]) ?_ 2 _ rfl; (with_reducible repeat (first | refine blk_drewN ?_ _ | refine blk_drew ?_ | refine blk_alloc ?_ _)); refine blk_put (cs := #[.bool t107, .slice none 0 0, .slice none 0 0]) ?_ 1 _ rfl; (with_reducible repeat (first | refine blk_drewN ?_ _ | refine blk_drew ?_ | refine blk_alloc ?_ _)); refine blk_put (cs := #[.bool false, .slice none 0 0, .slice none 0 0]) ?_ 0 _ rfl; (with_reducible repeat (first | refine blk_drewN ?_ _ | refine blk_drew ?_ | refine blk_alloc ?_ _)); exact BK115.out) hb); have n5_ := Aside0.mk (below_step (by repeat (first | (with_reducible first | exact HB.out | apply below_alloc | apply pw_below_drewN | apply below_drew1 | refine below_set ?_ GE115.out) | exact HB.out)) hb); clear HO110; clear HO113; clear BK115; clear HB; have HO110 := n0_; have HO113 := n1_; have HO119 := n2_; have HO122 := n3_; have BK115 := n4_; have HB := n5_; clear n0_ n1_ n2_ n3_ n4_ n5_; (try clear hb); (try clear hb2); (try clear hk); (try clear hi); (try clear ho0); (try clear ho1)) | ((with_reducible refine gate_dst (N := 12) rfl ?_); refine box_event ?hg (N := 12) ?hd (cs := #[.bool false, .slice none 0 0, .slice none 0 0]) (t := 69) ?hr ?_; (case hd => rfl); (case hg => rfl); (case hr => first | (go_simp; done) | (go_simp; rfl)); intro gb124 hg w39 hbox hb; have n0_ := Aside0.mk (Kd.V_below (Kd.V_elderB (by (with_reducible repeat (first | apply Kd.V_alloc | apply Kd.V_drewN | apply Kd.V_drew)); exact HO110.out) gb124 (Nat.le_of_eq hg.symm)) hb); have n1_ := Aside0.mk (Kd.V_below (Kd.V_elderB (by (with_reducible repeat (first | apply Kd.V_alloc | apply Kd.V_drewN | apply Kd.V_drew)); exact HO113.out) gb124 (Nat.le_of_eq hg.symm)) hb); have n2_ := Aside0.mk (Kd.V_below (Kd.V_elderB (by (with_reducible repeat (first | apply Kd.V_alloc | apply Kd.V_drewN | apply Kd.V_drew)); exact HO119.out) gb124 (Nat.le_of_eq hg.symm)) hb); have n3_ := Aside0.mk (Kd.V_below (Kd.V_elderB (by (with_reducible repeat (first | apply Kd.V_alloc | apply Kd.V_drewN | apply Kd.V_drew)); exact HO122.out) gb124 (Nat.le_of_eq hg.symm)) hb); have n4_ := Aside0.mk (blk_below (g := gb115) (o := .cells #[.bool t107, .slice Ao36 t108.length co36, .slice Ao37 t111.length co37] 69 (0, 0)) (by (with_reducible repeat (first | refine blk_drewN ?_ _ | refine blk_drew ?_ | refine blk_alloc ?_ _)); exact BK115.out) hb); have n5_ := Aside0.mk (below_step (by repeat (first | (with_reducible first | exact HB.out | apply below_alloc | apply pw_below_drewN | apply below_drew1 | refine below_set ?_ GE115.out) | exact HB.out)) hb); have n6_ := Aside0.mk (hbox); have n7_ := Aside0.mk ((by rw [hg]; exact (below_size (by repeat (first | (with_reducible first | exact HB.out | apply below_alloc | apply pw_below_drewN | apply below_drew1 | refine below_set ?_ GE115.out) | exact HB.out))) : w.heap.size ≤ gb124)); have n8_ := Aside0.mk ((by rw [hg]; exact (below_size (by repeat (first | (with_reducible first | exact HB.out | apply below_alloc | apply pw_below_drewN | apply below_drew1 | refine below_set ?_ GE115.out) | exact HB.out))) : w.heap.size ≤ gb124)); have n9_ := Aside0.mk ((by rw [hg]; exact Nat.ne_of_lt (blk_lt (g := gb115) (o := .cells #[.bool t107, .slice Ao36 t108.length co36, .slice Ao37 t111.length co37] 69 (0, 0)) (by (with_reducible repeat (first | refine blk_drewN ?_ _ | refine blk_drew ?_ | refine blk_alloc ?_ _)); exact BK115.out)) : gb115 ≠ gb124)); have n10_ := Aside0.mk ((by rw [hg]; exact Nat.ne_of_gt (blk_lt (g := gb115) (o := .cells #[.bool t107, .slice Ao36 t108.length co36, .slice Ao37 t111.length co37] 69 (0, 0)) (by (with_reducible repeat (first | refine blk_drewN ?_ _ | refine blk_drew ?_ | refine blk_alloc ?_ _)); exact BK115.out)) : gb124 ≠ gb115)); clear HO110; clear HO113; clear HO119; clear HO122; clear BK115; clear HB; have HO110 := n0_; have HO113 := n1_; have HO119 := n2_; have HO122 := n3_; have BK115 := n4_; have HB := n5_; have BK124 := n6_; have GW124 := n7_; have GE124 := n8_; have NB115_124 := n9_; have NB124_115 := n10_; clear n0_ n1_ n2_ n3_ n4_ n5_ n6_ n7_ n8_ n9_ n10_; clear hb hbox hg; have hnb40 := NB124_115.out; have hnc40 := NB115_124.out; have hcz41_0 : w39.cell? ⟨gb124, 0, none⟩ = some (.bool false) := (blk_cell BK124.out 0).trans rfl; have hcz41_1 : w39.cell? ⟨gb124, 1, none⟩ = some (.slice none 0 0) := (blk_cell BK124.out 1).trans rfl; have hcz41_2 : w39.cell? ⟨gb124, 2, none⟩ = some (.slice none 0 0) := (blk_cell BK124.out 2).trans rfl; have hfz41_0 := blk_frozen BK124.out 0; have hfz41_1 := blk_frozen BK124.out 1; have hfz41_2 := blk_frozen BK124.out 2; obtain ⟨Ao42, co42, eo42⟩ := Kd.V_slice HO119.out; subst eo42; obtain ⟨Ao43, co43, eo43⟩ := Kd.V_slice HO122.out; subst eo43))
        go_ret
        exact ⟨by first | rfl | (simp [errW_none, errW_some] <;> rfl) | (simp [*, errW_none, errW_some] <;> rfl), by repeat (first | (with_reducible first | exact HB.out | apply below_alloc | apply pw_below_drewN | apply below_drew1 | refine below_set ?_ GE115.out | refine below_set ?_ GE124.out) | exact HB.out)⟩
      ·replace c17 := Bool.eq_false_iff.mpr c17
       subst c17
       have H1 : (some true) = some r := by rw [if_neg (show ¬ (false = true) by decide)] at H; exact H
       clear H
       have H := H1
       clear H1
       obtain rfl := Option.some.inj H
       go_wp2_with (first | ((with_reducible refine gate_callee (f := 63) rfl ?_); refine goesL_ (some 50) rfl rfl Try.func63 (by kernel_rfl) rfl #[.int .u64 a0] rfl (by (try simp only [List.map_toArray, List.map_cons, List.map_nil]); first | done | rfl | (simp only [List.length_drop, List.length_take]; rfl)) ?_; (with_reducible refine (pattern_Value.calls kj6 a0 t107 t108 t111 false _ A14.out).mono ?_); rintro e w44 ⟨v109, v112, rfl, ho0, ho1, hb⟩; refine ⟨_, rfl, ?_⟩; have n0_ := Aside0.mk (Kd.V_lower (Kd.V_mono (ok' := fun k_ => True) ho0 (fun k_ hk_ => trivial)) (below_size (by repeat (first | (with_reducible first | exact HB.out | apply below_alloc | apply pw_below_drewN | apply below_drew1) | exact HB.out)))); have n1_ := Aside0.mk (Kd.V_lower (Kd.V_mono (ok' := fun k_ => True) ho1 (fun k_ hk_ => trivial)) (below_size (by repeat (first | (with_reducible first | exact HB.out | apply below_alloc | apply pw_below_drewN | apply below_drew1) | exact HB.out)))); have n2_ := Aside0.mk (below_step (by repeat (first | (with_reducible first | exact HB.out | apply below_alloc | apply pw_below_drewN | apply below_drew1) | exact HB.out)) hb); clear HB; have HO110 := n0_; have HO113 := n1_; have HB := n2_; clear n0_ n1_ n2_; (try clear hb); (try clear hb2); (try clear hk); (try clear hi); (try clear ho0); (try clear ho1)) | ((with_reducible refine gate_dst (N := 10) rfl ?_); refine box_event ?hg (N := 10) ?hd (cs := #[.bool false, .slice none 0 0, .slice none 0 0]) (t := 69) ?hr ?_; (case hd => rfl); (case hg => rfl); (case hr => first | (go_simp; done) | (go_simp; rfl)); intro gb115 hg w45 hbox hb; have n0_ := Aside0.mk (Kd.V_below (Kd.V_elderB (by (with_reducible repeat (first | apply Kd.V_alloc | apply Kd.V_drewN | apply Kd.V_drew)); exact HO110.out) gb115 (Nat.le_of_eq hg.symm)) hb); have n1_ := Aside0.mk (Kd.V_below (Kd.V_elderB (by (with_reducible repeat (first | apply Kd.V_alloc | apply Kd.V_drewN | apply Kd.V_drew)); exact HO113.out) gb115 (Nat.le_of_eq hg.symm)) hb); have n2_ := Aside0.mk (below_step (by repeat (first | (with_reducible first | exact HB.out | apply below_alloc | apply pw_below_drewN | apply below_drew1) | exact HB.out)) hb); have n3_ := Aside0.mk (hbox); have n4_ := Aside0.mk ((by rw [hg]; exact (below_size (by repeat (first | (with_reducible first | exact HB.out | apply below_alloc | apply pw_below_drewN | apply below_drew1) | exact HB.out))) : w.heap.size ≤ gb115)); have n5_ := Aside0.mk ((by rw [hg]; exact (below_size (by repeat (first | (with_reducible first | exact HB.out | apply below_alloc | apply pw_below_drewN | apply below_drew1) | exact HB.out))) : w.heap.size ≤ gb115)); clear HO110; clear HO113; clear HB; have HO110 := n0_; have HO113 := n1_; have HB := n2_; have BK115 := n3_; have GW115 := n4_; have GE115 := n5_; clear n0_ n1_ n2_ n3_ n4_ n5_; clear hb hbox hg; have hcz46_0 : w45.cell? ⟨gb115, 0, none⟩ = some (.bool false) := (blk_cell BK115.out 0).trans rfl; have hcz46_1 : w45.cell? ⟨gb115, 1, none⟩ = some (.slice none 0 0) := (blk_cell BK115.out 1).trans rfl; have hcz46_2 : w45.cell? ⟨gb115, 2, none⟩ = some (.slice none 0 0) := (blk_cell BK115.out 2).trans rfl; have hfz46_0 := blk_frozen BK115.out 0; have hfz46_1 := blk_frozen BK115.out 1; have hfz46_2 := blk_frozen BK115.out 2; obtain ⟨Ao47, co47, eo47⟩ := Kd.V_slice HO110.out; subst eo47; obtain ⟨Ao48, co48, eo48⟩ := Kd.V_slice HO113.out; subst eo48) | ((with_reducible refine gate_callee (f := 63) rfl ?_); refine goesL_ (some 55) rfl rfl Try.func63 (by kernel_rfl) rfl #[.int .u64 a1] rfl (by (try simp only [List.map_toArray, List.map_cons, List.map_nil]); first | done | rfl | (simp only [List.length_drop, List.length_take]; rfl)) ?_; (with_reducible refine (pattern_Value.calls kj6 a1 t116 t117 t120 t123 _ A15.out).mono ?_); rintro e w49 ⟨v118, v121, rfl, ho0, ho1, hb⟩; refine ⟨_, rfl, ?_⟩; have n0_ := Aside0.mk (Kd.V_below (by (with_reducible repeat (first | apply Kd.V_alloc | apply Kd.V_drewN | apply Kd.V_drew)); exact (Kd.V_mono (Kd.V_far (p := ⟨gb115, 2, none⟩) (Kd.V_far (p := ⟨gb115, 1, none⟩) (Kd.V_far (p := ⟨gb115, 0, none⟩) (Kd.V_mono HO110.out (fun k_ hk => (⟨hk, hk.2⟩ : _ ∧ k_ ≠ gb115))) (fun _ hk => hk.2) (.bool t107)) (fun _ hk => hk.2) (.slice Ao47 t108.length co47)) (fun _ hk => hk.2) (.slice Ao48 t111.length co48)) (fun _ h_ => h_.1))) hb); have n1_ := Aside0.mk (Kd.V_below (by (with_reducible repeat (first | apply Kd.V_alloc | apply Kd.V_drewN | apply Kd.V_drew)); exact (Kd.V_mono (Kd.V_far (p := ⟨gb115, 2, none⟩) (Kd.V_far (p := ⟨gb115, 1, none⟩) (Kd.V_far (p := ⟨gb115, 0, none⟩) (Kd.V_mono HO113.out (fun k_ hk => (⟨hk, hk.2⟩ : _ ∧ k_ ≠ gb115))) (fun _ hk => hk.2) (.bool t107)) (fun _ hk => hk.2) (.slice Ao47 t108.length co47)) (fun _ hk => hk.2) (.slice Ao48 t111.length co48)) (fun _ h_ => h_.1))) hb); have n2_ := Aside0.mk (Kd.V_lower (Kd.V_mono (ok' := fun k_ => k_ ≠ gb115) ho0 (fun k_ hk_ => (Kd.freshB (g := gb115) (o := .cells #[.bool t107, .slice Ao47 t108.length co47, .slice Ao48 t111.length co48] 69 (0, 0)) (by (with_reducible repeat (first | refine blk_drewN ?_ _ | refine blk_drew ?_ | refine blk_alloc ?_ _)); refine blk_put (cs := #[.bool t107, .slice Ao47 t108.length co47, .slice none 0 0]) ?_ 2 _ rfl; (with_reducible repeat (first | refine blk_drewN ?_ _ | refine blk_drew ?_ | refine blk_alloc ?_ _)); refine blk_put (cs := #[.bool t107, .slice none 0 0, .slice none 0 0]) ?_ 1 _ rfl; (with_reducible repeat (first | refine blk_drewN ?_ _ | refine blk_drew ?_ | refine blk_alloc ?_ _)); refine blk_put (cs := #[.bool false, .slice none 0 0, .slice none 0 0]) ?_ 0 _ rfl; (with_reducible repeat (first | refine blk_drewN ?_ _ | refine blk_drew ?_ | refine blk_alloc ?_ _)); exact BK115.out) k_ hk_))) (below_size (by repeat (first | (with_reducible first | exact HB.out | apply below_alloc | apply pw_below_drewN | apply below_drew1 | refine below_set ?_ GE115.out) | exact HB.out)))); have n3_ := Aside0.mk (Kd.V_lower (Kd.V_mono (ok' := fun k_ => k_ ≠ gb115) ho1 (fun k_ hk_ => (Kd.freshB (g := gb115) (o := .cells #[.bool t107, .slice Ao47 t108.length co47, .slice Ao48 t111.length co48] 69 (0, 0)) (by (with_reducible repeat (first | refine blk_drewN ?_ _ | refine blk_drew ?_ | refine blk_alloc ?_ _)); refine blk_put (cs := #[.bool t107, .slice Ao47 t108.length co47, .slice none 0 0]) ?_ 2 _ rfl; (with_reducible repeat (first | refine blk_drewN ?_ _ | refine blk_drew ?_ | refine blk_alloc ?_ _)); refine blk_put (cs := #[.bool t107, .slice none 0 0, .slice none 0 0]) ?_ 1 _ rfl; (with_reducible repeat (first | refine blk_drewN ?_ _ | refine blk_drew ?_ | refine blk_alloc ?_ _)); refine blk_put (cs := #[.bool false, .slice none 0 0, .slice none 0 0]) ?_ 0 _ rfl; (with_reducible repeat (first | refine blk_drewN ?_ _ | refine blk_drew ?_ | refine blk_alloc ?_ _)); exact BK115.out) k_ hk_))) (below_size (by repeat (first | (with_reducible first | exact HB.out | apply below_alloc | apply pw_below_drewN | apply below_drew1 | refine below_set ?_ GE115.out) | exact HB.out)))); have n4_ := Aside0.mk (blk_below (g := gb115) (o := .cells #[.bool t107, .slice Ao47 t108.length co47, .slice Ao48 t111.length co48] 69 (0, 0)) (by (with_reducible repeat (first | refine blk_drewN ?_ _ | refine blk_drew ?_ | refine blk_alloc ?_ _)); refine blk_put (cs := #[.bool t107, .slice Ao47 t108.length co47, .slice none 0 0]) ?_ 2 _ rfl; (with_reducible repeat (first | refine blk_drewN ?_ _ | refine blk_drew ?_ | refine blk_alloc ?_ _)); refine blk_put (cs := #[.bool t107, .slice none 0 0, .slice none 0 0]) ?_ 1 _ rfl; (with_reducible repeat (first | refine blk_drewN ?_ _ | refine blk_drew ?_ | refine blk_alloc ?_ _)); refine blk_put (cs := #[.bool false, .slice none 0 0, .slice none 0 0]) ?_ 0 _ rfl; (with_reducible repeat (first | refine blk_drewN ?_ _ | refine blk_drew ?_ | refine blk_alloc ?_ _)); exact BK115.out) hb); have n5_ := Aside0.mk (below_step (by repeat (first | (with_reducible first | exact HB.out | apply below_alloc | apply pw_below_drewN | apply below_drew1 | refine below_set ?_ GE115.out) | exact HB.out)) hb); clear HO110; clear HO113; clear BK115; clear HB; have HO110 := n0_; have HO113 := n1_; have HO119 := n2_; have HO122 := n3_; have BK115 := n4_; have HB := n5_; clear n0_ n1_ n2_ n3_ n4_ n5_; (try clear hb); (try clear hb2); (try clear hk); (try clear hi); (try clear ho0); (try clear ho1)) | ((with_reducible refine gate_dst (N := 12) rfl ?_); refine box_event ?hg (N := 12) ?hd (cs := #[.bool false, .slice none 0 0, .slice none 0 0]) (t := 69) ?hr ?_; (case hd => rfl); (case hg => rfl); (case hr => first | (go_simp; done) | (go_simp; rfl)); intro gb124 hg w50 hbox hb; have n0_ := Aside0.mk (Kd.V_below (Kd.V_elderB (by (with_reducible repeat (first | apply Kd.V_alloc | apply Kd.V_drewN | apply Kd.V_drew)); exact HO110.out) gb124 (Nat.le_of_eq hg.symm)) hb); have n1_ := Aside0.mk (Kd.V_below (Kd.V_elderB (by (with_reducible repeat (first | apply Kd.V_alloc | apply Kd.V_drewN | apply Kd.V_drew)); exact HO113.out) gb124 (Nat.le_of_eq hg.symm)) hb); have n2_ := Aside0.mk (Kd.V_below (Kd.V_elderB (by (with_reducible repeat (first | apply Kd.V_alloc | apply Kd.V_drewN | apply Kd.V_drew)); exact HO119.out) gb124 (Nat.le_of_eq hg.symm)) hb); have n3_ := Aside0.mk (Kd.V_below (Kd.V_elderB (by (with_reducible repeat (first | apply Kd.V_alloc | apply Kd.V_drewN | apply Kd.V_drew)); exact HO122.out) gb124 (Nat.le_of_eq hg.symm)) hb); have n4_ := Aside0.mk (blk_below (g := gb115) (o := .cells #[.bool t107, .slice Ao47 t108.length co47, .slice Ao48 t111.length co48] 69 (0, 0)) (by (with_reducible repeat (first | refine blk_drewN ?_ _ | refine blk_drew ?_ | refine blk_alloc ?_ _)); exact BK115.out) hb); have n5_ := Aside0.mk (below_step (by repeat (first | (with_reducible first | exact HB.out | apply below_alloc | apply pw_below_drewN | apply below_drew1 | refine below_set ?_ GE115.out) | exact HB.out)) hb); have n6_ := Aside0.mk (hbox); have n7_ := Aside0.mk ((by rw [hg]; exact (below_size (by repeat (first | (with_reducible first | exact HB.out | apply below_alloc | apply pw_below_drewN | apply below_drew1 | refine below_set ?_ GE115.out) | exact HB.out))) : w.heap.size ≤ gb124)); have n8_ := Aside0.mk ((by rw [hg]; exact (below_size (by repeat (first | (with_reducible first | exact HB.out | apply below_alloc | apply pw_below_drewN | apply below_drew1 | refine below_set ?_ GE115.out) | exact HB.out))) : w.heap.size ≤ gb124)); have n9_ := Aside0.mk ((by rw [hg]; exact Nat.ne_of_lt (blk_lt (g := gb115) (o := .cells #[.bool t107, .slice Ao47 t108.length co47, .slice Ao48 t111.length co48] 69 (0, 0)) (by (with_reducible repeat (first | refine blk_drewN ?_ _ | refine blk_drew ?_ | refine blk_alloc ?_ _)); exact BK115.out)) : gb115 ≠ gb124)); have n10_ := Aside0.mk ((by rw [hg]; exact Nat.ne_of_gt (blk_lt (g := gb115) (o := .cells #[.bool t107, .slice Ao47 t108.length co47, .slice Ao48 t111.length co48] 69 (0, 0)) (by (with_reducible repeat (first | refine blk_drewN ?_ _ | refine blk_drew ?_ | refine blk_alloc ?_ _)); exact BK115.out)) : gb124 ≠ gb115)); clear HO110; clear HO113; clear HO119; clear HO122; clear BK115; clear HB; have HO110 := n0_; have HO113 := n1_; have HO119 := n2_; have HO122 := n3_; have BK115 := n4_; have HB := n5_; have BK124 := n6_; have GW124 := n7_; have GE124 := n8_; have NB115_124 := n9_; have NB124_115 := n10_; clear n0_ n1_ n2_ n3_ n4_ n5_ n6_ n7_ n8_ n9_ n10_; clear hb hbox hg; have hnb51 := NB124_115.out; have hnc51 := NB115_124.out; have hcz52_0 : w50.cell? ⟨gb124, 0, none⟩ = some (.bool false) := (blk_cell BK124.out 0).trans rfl; have hcz52_1 : w50.cell? ⟨gb124, 1, none⟩ = some (.slice none 0 0) := (blk_cell BK124.out 1).trans rfl; have hcz52_2 : w50.cell? ⟨gb124, 2, none⟩ = some (.slice none 0 0) := (blk_cell BK124.out 2).trans rfl; have hfz52_0 := blk_frozen BK124.out 0; have hfz52_1 := blk_frozen BK124.out 1; have hfz52_2 := blk_frozen BK124.out 2; obtain ⟨Ao53, co53, eo53⟩ := Kd.V_slice HO119.out; subst eo53; obtain ⟨Ao54, co54, eo54⟩ := Kd.V_slice HO122.out; subst eo54))
       go_ret
       exact ⟨by first | rfl | (simp [errW_none, errW_some] <;> rfl) | (simp [*, errW_none, errW_some] <;> rfl), by repeat (first | (with_reducible first | exact HB.out | apply below_alloc | apply pw_below_drewN | apply below_drew1 | refine below_set ?_ GE115.out | refine below_set ?_ GE124.out) | exact HB.out)⟩
     ·exact absurd rfl c16
 ·replace c4 := Bool.eq_false_iff.mpr c4
  subst c4
  have H1 : (some false) = some r := by rw [if_neg (show ¬ (false = true) by decide)] at H; exact H
  clear H
  have H := H1
  clear H1
  obtain rfl := Option.some.inj H
  go_enter Try.func10, Try.ntmps10
  go_wp2_with (first | ((with_reducible refine gate_callee (f := 59) rfl ?_); refine goesL_ (some 14) rfl rfl Try.func59 (by kernel_rfl) rfl #[] rfl (by (try simp only [List.map_toArray, List.map_cons, List.map_nil]); first | done | rfl | (simp only [List.length_drop, List.length_take]; rfl)) ?_; (with_reducible refine (flyballlaw04_works.calls k  false _ A3.out).mono ?_); rintro e w66 ⟨rfl, hb⟩; refine ⟨_, rfl, ?_⟩; have n0_ := Aside0.mk (below_step (by repeat (first | (with_reducible first | exact HB.out | apply below_alloc | apply pw_below_drewN | apply below_drew1) | exact HB.out)) hb); clear HB; have HB := n0_; clear n0_; (try clear hb); (try clear hb2); (try clear hk); (try clear hi)))
  go_ret
  exact ⟨by first | rfl | (simp [errW_none, errW_some] <;> rfl) | (simp [*, errW_none, errW_some] <;> rfl), by repeat (first | (with_reducible first | exact HB.out | apply below_alloc | apply pw_below_drewN | apply below_drew1) | exact HB.out)⟩
/-- THE ONE PURE STATEMENT of flyballlaw04_PatternOrders: yours. -/
def flyballlaw04_PatternOrders.Pure : Prop := ∀ (a0 : Int) (a1 : Int), (Lit.int .u64 a0).wf = true → (Lit.int .u64 a1).wf = true → ∃ k, flyballlaw04_PatternOrders.f k a0 a1 = some true
theorem flyballlaw04_PatternOrders.walk (P : flyballlaw04_PatternOrders.Pure) (a0 : Int) (a1 : Int) (w : World) (w0 : (Lit.int .u64 a0).wf = true) (w1 : (Lit.int .u64 a1).wf = true) :
  Calls Try.prog 10 #[.int .u64 a0, .int .u64 a1] w fun e w' => e = .returned (.bool true) ∧ Below w.heap.size w w' := by
 obtain ⟨k, h⟩ := P a0 a1 w0 w1
 refine (flyballlaw04_PatternOrders.calls k a0 a1 true w h).mono ?_
 rintro e w' ⟨rfl, hd⟩
 exact ⟨rfl, hd⟩
end Go.Proofs.Ytagbnkbhobmgjaa.Fn
end
section
-- Written by a program of this session (a turned copy of the kit's printer, and hand-written parts). Not trusted: Lean checks it.
namespace Go.Proofs.Ytagbnkbhobmgjaa.Fn
open Go.RowKit Go.Proofs.YtagbnkbhobmgjaaW.PrintWords Go.Proofs.YtagbnkbhobmgjaaW.PrintLast Go.Proofs.YtagbnkbhobmgjaaW.PrintMore
attribute [local go_sem] max2_int min2_int max_two min_two max_three min_three max_four min_four   -- for this text's walks alone
set_option linter.unusedVariables false
set_option linter.unusedSimpArgs false
/-! ### flyballlaw02_works: function 23 -/
end Go.Proofs.Ytagbnkbhobmgjaa.Fn
end
section
/- The chapter's own trial of the numbers. -/
set_option linter.unusedVariables false
namespace Go.Proofs.Ytagbnkbhobmgjaa.Pure
open Go.RowKit Go.Proofs.Ytagbnkbhobmgjaa.Fn Go.Proofs.YtagbnkbhobmgjaaW.PrintWords Go.Proofs.YtagbnkbhobmgjaaW.PrintMore Go.Proofs.YtagbnkbhobmgjaaW.PrintLast
end Go.Proofs.Ytagbnkbhobmgjaa.Pure
end
section
/- The chapter's own trial of the floats' patterns. -/
set_option linter.unusedVariables false
namespace Go.Proofs.Ytagbnkbhobmgjaa.Pure
open Go.RowKit Go.Proofs.Ytagbnkbhobmgjaa.Fn Go.Proofs.YtagbnkbhobmgjaaW.PrintWords Go.Proofs.YtagbnkbhobmgjaaW.PrintMore Go.Proofs.YtagbnkbhobmgjaaW.PrintLast
set_option maxRecDepth 100000 in
theorem worksg04 : flyballlaw04_worksg.f 2000 = some true := by decide +kernel
theorem works04_spec : Ev (fun k => flyballlaw04_works.f k) true := by
  refine Ev.of flyballlaw04_works.mono (k := 2000) ?_
  unfold flyballlaw04_works.f
  rw [if_pos worksg04]
end Go.Proofs.Ytagbnkbhobmgjaa.Pure
end
