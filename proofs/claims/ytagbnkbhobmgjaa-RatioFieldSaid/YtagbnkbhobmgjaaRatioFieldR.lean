/- Sums and products of rational numbers are as numbers are: in any order, however they are bracketed, one over the other; what was added, or multiplied, is taken away again. Part 18 of 18. -/
import Derived.Test.YtagbnkbhobmgjaaRows
import Derived.Test.YtagbnkbhobmgjaaRatioFieldM
import Derived.Test.YtagbnkbhobmgjaaRatioFieldO
import Derived.Test.YtagbnkbhobmgjaaRatioFieldP
import Derived.WalkKit
import Derived.Test.YtagbnkbhobmgjaaRatioFieldQ
import Derived.ProofKit
import Derived.OpenShut
import Derived.ShutString
import Derived.ChangeOld
import Derived.Below
section
/- The row of the law flyballlaw03_RatioField, out of its plain law and its walk. -/
namespace Go.Proofs.Ytagbnkbhobmgjaa.ratioField
open Go.ChangeShapes Go.WideShapes Go.ChangeAt Go.RowKit
set_option linter.unusedVariables false
theorem own : ownKnob Try.prog.godebug = none := by kernel_rfl
theorem laidOut : laidOutB Try.prog = true := by kernel_rfl
set_option maxRecDepth 100000 in
theorem lifted (os : Os) (started : os.Started) (H : Type) (enc : TypeId × Value → H) :
    ReturnsInHanded {} Try.checked os 22 .any (Rows.ratioFieldSpec.pre6 enc Try.prog Try.f22 Rows.ratioFieldRow.domain false) (Rows.ratioFieldSpec.post enc Try.prog Try.f22 false true false false) := by
  refine returnsInHanded_of_change_sized (C := Try.checked) own started (by kernel_rfl) Try.func22
    (ChangeSpec.witness6 (enc := enc) (C := Try.checked) false ⟨#[], #[.agg #[.bool false, .slice none 0 0, .slice none 0 0], .agg #[.bool false, .slice none 0 0, .slice none 0 0], .agg #[.bool false, .slice none 0 0, .slice none 0 0]], []⟩ 8 (by kernel_rfl) (by kernel_rfl) (by kernel_rfl) (by kernel_rfl)) ?_
  intro W base args ds gs before hval0 hW hcnd hsz0 _
  have hval : ∀ (j : Nat) t v, Try.f22.params[j]? = some t → args[j]? = some v → Value.okWide Try.prog W .any base t v := hval0
  have hW' := hW
  obtain ⟨p, q, hA0, hV, rfl, hfz, hnd⟩ := hW
  have hA : DataW.TrodAll enc Try.prog W 0 (fun _ => true) true Try.f22.params.toList args.toList ds p := hA0
  rw [Try.params22] at hA hval
  obtain ⟨v0, vs0, d0, ds0, p0, q0, hargs, rfl, rfl, h0, r0⟩ := trodAll_cons hA
  obtain ⟨v1, vs1, d1, ds1, p1, q1, rfl, rfl, rfl, h1, r1⟩ := trodAll_cons r0
  obtain ⟨v2, vs2, d2, ds2, p2, q2, rfl, rfl, rfl, h2, r2⟩ := trodAll_cons r1
  obtain ⟨rfl, rfl, rfl⟩ := trodAll_nil r2
  obtain rfl : args = #[v0, v1, v2] := by cases args; simp_all
  obtain ⟨rfl, rfl⟩ := trodVars_none hV
  obtain ⟨b0, a01, len01, cap01, z01, a02, len02, cap02, z02, rfl, w01, w02⟩ := RowR.open_R (hval 0 69 v0 rfl rfl) h0
  have k0 := h0
  have lt0 : ∀ x ∈ p0, x.block < W.heap.size := by obtain ⟨m, hm⟩ := k0; exact DataW.trod_lt m _ _ _ hm
  obtain ⟨l01, rfl, m01, f01, g01⟩ := RowR.row_V w01
  obtain ⟨l02, rfl, m02, f02, g02⟩ := RowR.row_V w02
  obtain ⟨b1, a11, len11, cap11, z11, a12, len12, cap12, z12, rfl, w11, w12⟩ := RowR.open_R (hval 1 69 v1 rfl rfl) h1
  have k1 := h1
  have lt1 : ∀ x ∈ p1, x.block < W.heap.size := by obtain ⟨m, hm⟩ := k1; exact DataW.trod_lt m _ _ _ hm
  obtain ⟨l11, rfl, m11, f11, g11⟩ := RowR.row_V w11
  obtain ⟨l12, rfl, m12, f12, g12⟩ := RowR.row_V w12
  obtain ⟨b2, a21, len21, cap21, z21, a22, len22, cap22, z22, rfl, w21, w22⟩ := RowR.open_R (hval 2 69 v2 rfl rfl) h2
  have k2 := h2
  have lt2 : ∀ x ∈ p2, x.block < W.heap.size := by obtain ⟨m, hm⟩ := k2; exact DataW.trod_lt m _ _ _ hm
  obtain ⟨l21, rfl, m21, f21, g21⟩ := RowR.row_V w21
  obtain ⟨l22, rfl, m22, f22, g22⟩ := RowR.row_V w22
  clear hA0 hval0 hsz0
  obtain ⟨k, h⟩ := Pure.RatioField b0 l01 l02 b1 l11 l12 b2 l21 l22 m01 f01 m02 f02 m11 f11 m12 f12 m21 f21 m22 f22
  refine (Fn.flyballlaw03_RatioField.calls k b0 _ _ _ l01 _ _ _ l02 b1 _ _ _ l11 _ _ _ l12 b2 _ _ _ l21 _ _ _ l22 W g01 g02 g11 g12 g21 g22 h).mono fun e W' ⟨he, bel⟩ => ?_
  subst he
  exact ⟨_, rfl, _, _, _, [], _, [], hW', trodAll_mk1 (shut_bool Try.underlying4 _), (trodAll_cons_mk (Below.trod laidOut (by kernel_rfl) (of_decide_eq_true (by kernel_rfl)) k0 bel lt0) (trodAll_cons_mk (Below.trod laidOut (by kernel_rfl) (of_decide_eq_true (by kernel_rfl)) k1 bel lt1) (trodAll_cons_mk (Below.trod laidOut (by kernel_rfl) (of_decide_eq_true (by kernel_rfl)) k2 bel lt2) trodAll_mk0))), rfl, bel.frame _, fun h => by cases h⟩
theorem c0 : (Rows.ratioFieldRow.wf (OpenSpec.ofChange Rows.ratioFieldSpec)) = true := by kernel_rfl
theorem c1 : (laidOutB Try.pinned.checked.prog) = true := by kernel_rfl
theorem c2 : (mapsRowed Try.pinned.checked.prog) = true := by kernel_rfl
theorem c3 : (Try.f22.params.all (Try.pinned.checked.prog.readableRec ·)) = true := by kernel_rfl
theorem c4 : (namedTie Try.pinned.checked.prog Rows.ratioFieldRow.named Rows.ratioFieldSpec.vars) = true := by kernel_rfl
theorem c5 : ((Rows.ratioFieldRow.stops == [])) = true := by kernel_rfl
theorem c6 : ((Try.pinned.checked.prog.stops == [])) = true := by kernel_rfl
theorem c7 : ((Rows.ratioFieldRow.knobs == [])) = true := by kernel_rfl
theorem c8 : ((Try.pinned.checked.prog.stopKnobs == [])) = true := by kernel_rfl
theorem c9 : ((Rows.ratioFieldRow.inPlace == Try.pinned.checked.prog.inPlace (22 : FuncId))) = true := by kernel_rfl
theorem c10 : ((Rows.ratioFieldRow.unfollowed == Try.pinned.checked.prog.unfollowed (22 : FuncId))) = true := by kernel_rfl
theorem c11 : ((Rows.ratioFieldRow.recurses == Try.pinned.checked.prog.recurses (22 : FuncId))) = true := by kernel_rfl
theorem c12 : ((Rows.ratioFieldRow.named == Try.pinned.checked.prog.varsNamed (22 : FuncId))) = true := by kernel_rfl
theorem c13 : ((Rows.ratioFieldRow.maps == (Try.f22.params.toList ++ Rows.ratioFieldSpec.plain.varTypes Try.pinned.checked.prog).any (Try.pinned.checked.prog.mapsRec ·))) = true := by kernel_rfl
theorem c14 : ((Rows.ratioFieldRow.ifaces == (Try.f22.params.toList ++ Rows.ratioFieldSpec.plain.varTypes Try.pinned.checked.prog).any (Try.pinned.checked.prog.ifacesRec ·))) = true := by kernel_rfl
theorem c15 : ((Rows.ratioFieldRow.mapsOut == Try.pinned.checked.prog.mapsAmong Try.f22.resultTypes.toList)) = true := by kernel_rfl
theorem c16 : ((Rows.ratioFieldRow.loops == (Try.f22.params.toList ++ Rows.ratioFieldSpec.plain.varTypes Try.pinned.checked.prog).any (Try.pinned.checked.prog.loopsFrom ·))) = true := by kernel_rfl
theorem c17 : ((Rows.ratioFieldRow.wideKeys == (Try.f22.params.toList ++ Rows.ratioFieldSpec.plain.varTypes Try.pinned.checked.prog ++ Try.f22.resultTypes.toList).any (Try.pinned.checked.prog.wideKeysFrom ·))) = true := by kernel_rfl
theorem c18 : (Rows.ratioFieldSpec.vars.all (Try.pinned.checked.prog.varReadable ·)) = true := by kernel_rfl
theorem c19 : (Try.f22.resultTypes.all (fun t => Try.pinned.checked.prog.readableRec t && decide (t < Try.pinned.checked.prog.types.size))) = true := by kernel_rfl
theorem c20 : ((Rows.ratioFieldRow.ifacesOut == Try.f22.resultTypes.toList.any (Try.pinned.checked.prog.ifacesRec ·))) = true := by kernel_rfl
theorem c21 : ((Rows.ratioFieldRow.loopsOut == Try.f22.resultTypes.toList.any (Try.pinned.checked.prog.loopsFrom ·))) = true := by kernel_rfl
theorem c22 : ((Rows.ratioFieldRow.plainKeys == Try.pinned.checked.prog.plainKeys)) = true := by kernel_rfl
theorem c23 : (Rows.ratioFieldRow.shortTexts.isNone) = true := by kernel_rfl
theorem c24 : (Try.pinned.checked.prog.stopsHeard) = true := by kernel_rfl
theorem c29 : ((Rows.ratioFieldRow.pinned == Rows.ratioFieldRow.pinnedBy)) = true := by kernel_rfl
theorem c30 : ((Rows.ratioFieldRow.veiled == (Try.f22.params.toList ++ Rows.ratioFieldSpec.plain.varTypes Try.pinned.checked.prog ++ Try.f22.resultTypes.toList).any (Try.pinned.checked.prog.veiledRec ·))) = true := by kernel_rfl
theorem c31 : (Rows.ratioFieldRow.veiledFits Try.pinned.checked.prog Try.f22.params.toList (Try.f22.params.toList ++ Rows.ratioFieldSpec.plain.varTypes Try.pinned.checked.prog ++ Try.f22.resultTypes.toList)) = true := by kernel_rfl
theorem closed : joinedFacts Try.pinned.checked.prog 22 Try.f22 Rows.ratioFieldSpec Rows.ratioFieldRow = true :=
  (Go.Proofs.Ytagbnkbhobmgjaa.Join.both (Go.Proofs.Ytagbnkbhobmgjaa.Join.both (Go.Proofs.Ytagbnkbhobmgjaa.Join.both (Go.Proofs.Ytagbnkbhobmgjaa.Join.both (Go.Proofs.Ytagbnkbhobmgjaa.Join.both (Go.Proofs.Ytagbnkbhobmgjaa.Join.both (Go.Proofs.Ytagbnkbhobmgjaa.Join.both (Go.Proofs.Ytagbnkbhobmgjaa.Join.both (Go.Proofs.Ytagbnkbhobmgjaa.Join.both (Go.Proofs.Ytagbnkbhobmgjaa.Join.both (Go.Proofs.Ytagbnkbhobmgjaa.Join.both (Go.Proofs.Ytagbnkbhobmgjaa.Join.both (Go.Proofs.Ytagbnkbhobmgjaa.Join.both (Go.Proofs.Ytagbnkbhobmgjaa.Join.both (Go.Proofs.Ytagbnkbhobmgjaa.Join.both (Go.Proofs.Ytagbnkbhobmgjaa.Join.both (Go.Proofs.Ytagbnkbhobmgjaa.Join.both (Go.Proofs.Ytagbnkbhobmgjaa.Join.both (Go.Proofs.Ytagbnkbhobmgjaa.Join.both (Go.Proofs.Ytagbnkbhobmgjaa.Join.both (Go.Proofs.Ytagbnkbhobmgjaa.Join.both (Go.Proofs.Ytagbnkbhobmgjaa.Join.both (Go.Proofs.Ytagbnkbhobmgjaa.Join.both (Go.Proofs.Ytagbnkbhobmgjaa.Join.both (Go.Proofs.Ytagbnkbhobmgjaa.Join.both (Go.Proofs.Ytagbnkbhobmgjaa.Join.both (Go.Proofs.Ytagbnkbhobmgjaa.Join.both (Go.Proofs.Ytagbnkbhobmgjaa.Join.both (Go.Proofs.Ytagbnkbhobmgjaa.Join.both (Go.Proofs.Ytagbnkbhobmgjaa.Join.both (Go.Proofs.Ytagbnkbhobmgjaa.Join.both c0 c1) c2) c3) c4) c5) c6) c7) c8) c9) c10) c11) c12) c13) c14) c15) c16) c17) c18) c19) c20) c21) c22) c23) c24) Go.Proofs.Ytagbnkbhobmgjaa.Join.may) Go.Proofs.Ytagbnkbhobmgjaa.Join.lifts) Go.Proofs.Ytagbnkbhobmgjaa.Join.made) (by kernel_rfl)) c29) c30) c31)
theorem over : Rows.ratioFieldRow.holds Try.pinned (OpenSpec.ofChange Rows.ratioFieldSpec) :=
  OpenClaim.holds_of_wide 22 Try.f22 rfl rfl rfl rfl rfl rfl rfl ⟨rfl, rfl, rfl, rfl, rfl⟩ rfl rfl rfl rfl rfl (by kernel_rfl) Try.func22 closed
    (of_decide_eq_true (by kernel_rfl)) (by unfold Func.isWrapper; first | (rw [if_pos (by decide +kernel)]; kernel_rfl) | (rw [if_neg (by decide +kernel)]; exact ⟨rfl, rfl⟩))
    (fun os started H enc _ => lifted os started H enc)
theorem proved : Rows.RatioFieldSaid := over
end Go.Proofs.Ytagbnkbhobmgjaa.ratioField
namespace Go.Proofs.Ytagbnkbhobmgjaa
/-- The row, under a short name, for the claim. -/
theorem ratioField_holds : Rows.RatioFieldSaid := ratioField.proved
end Go.Proofs.Ytagbnkbhobmgjaa
end
