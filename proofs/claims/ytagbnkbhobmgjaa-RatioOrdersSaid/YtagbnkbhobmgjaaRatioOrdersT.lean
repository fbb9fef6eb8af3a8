/- How rational numbers compare, their signs, what they are without these, how long they are, and their digits, are just what the document says. Part 20 of 20. -/
import Derived.Test.YtagbnkbhobmgjaaRows
import Derived.Test.YtagbnkbhobmgjaaRatioOrdersN
import Derived.Test.YtagbnkbhobmgjaaRatioOrdersQ
import Derived.Test.YtagbnkbhobmgjaaRatioOrdersR
import Derived.WalkKit
import Derived.Test.YtagbnkbhobmgjaaRatioOrdersS
import Derived.ProofKit
import Derived.OpenShut
import Derived.ShutString
import Derived.ChangeOld
import Derived.Below
section
/- The row of the law flyballlaw03_RatioOrders, out of its plain law and its walk. -/
namespace Go.Proofs.Ytagbnkbhobmgjaa.ratioOrders
open Go.ChangeShapes Go.WideShapes Go.ChangeAt Go.RowKit
set_option linter.unusedVariables false
theorem own : ownKnob Try.prog.godebug = none := by kernel_rfl
theorem laidOut : laidOutB Try.prog = true := by kernel_rfl
set_option maxRecDepth 100000 in
theorem lifted (os : Os) (started : os.Started) (H : Type) (enc : TypeId × Value → H) :
    ReturnsInHanded {} Try.checked os 20 .any (Rows.ratioOrdersSpec.pre6 enc Try.prog Try.f20 Rows.ratioOrdersRow.domain false) (Rows.ratioOrdersSpec.post enc Try.prog Try.f20 false true false false) := by
  refine returnsInHanded_of_change_sized (C := Try.checked) own started (by kernel_rfl) Try.func20
    (ChangeSpec.witness6 (enc := enc) (C := Try.checked) false ⟨#[], #[.agg #[.bool false, .slice none 0 0, .slice none 0 0], .agg #[.bool false, .slice none 0 0, .slice none 0 0]], []⟩ 8 (by kernel_rfl) (by kernel_rfl) (by kernel_rfl) (by kernel_rfl)) ?_
  intro W base args ds gs before hval0 hW hcnd hsz0 _
  have hval : ∀ (j : Nat) t v, Try.f20.params[j]? = some t → args[j]? = some v → Value.okWide Try.prog W .any base t v := hval0
  have hW' := hW
  obtain ⟨p, q, hA0, hV, rfl, hfz, hnd⟩ := hW
  have hA : DataW.TrodAll enc Try.prog W 0 (fun _ => true) true Try.f20.params.toList args.toList ds p := hA0
  rw [Try.params20] at hA hval
  obtain ⟨v0, vs0, d0, ds0, p0, q0, hargs, rfl, rfl, h0, r0⟩ := trodAll_cons hA
  obtain ⟨v1, vs1, d1, ds1, p1, q1, rfl, rfl, rfl, h1, r1⟩ := trodAll_cons r0
  obtain ⟨rfl, rfl, rfl⟩ := trodAll_nil r1
  obtain rfl : args = #[v0, v1] := by cases args; simp_all
  obtain ⟨rfl, rfl⟩ := trodVars_none hV
  obtain ⟨b0, a01, len01, cap01, z01, a02, len02, cap02, z02, rfl, w01, w02⟩ := RowR.open_R (hval 0 69 v0 rfl rfl) h0
  have k0 := h0
  have lt0 : ∀ x ∈ p0, x.block < W.heap.size := by obtain ⟨m, hm⟩ := k0; exact DataW.trod_lt m _ _ _ hm
  obtain ⟨l01, rfl, m01, f01, g01⟩ := RowR.row_V w01
  obtain ⟨l02, rfl, m02, f02, g02⟩ := RowR.row_V w02
  obtain ⟨b1, a11, len11, cap11, z11, a12, len12, cap12, z12, rfl, w11, w12⟩ := RowR.open_R (hval 1 69 v1 rfl rfl) h1
  have k1 := h1
  have lt1 : ∀ x ∈ p1, x.block < W.heap.size := by obtain ⟨m, hm⟩ := k1; exact DataW.trod_lt m _ _ _ hm
  obtain ⟨l11, rfl, m11, f11, g11⟩ := RowR.row_V w11
  obtain ⟨l12, rfl, m12, f12, g12⟩ := RowR.row_V w12
  clear hA0 hval0 hsz0
  obtain ⟨k, h⟩ := Pure.RatioOrders b0 l01 l02 b1 l11 l12 m01 f01 m02 f02 m11 f11 m12 f12
  refine (Fn.flyballlaw03_RatioOrders.calls k b0 _ _ _ l01 _ _ _ l02 b1 _ _ _ l11 _ _ _ l12 W g01 g02 g11 g12 h).mono fun e W' ⟨he, bel⟩ => ?_
  subst he
  exact ⟨_, rfl, _, _, _, [], _, [], hW', trodAll_mk1 (shut_bool Try.underlying4 _), (trodAll_cons_mk (Below.trod laidOut (by kernel_rfl) (of_decide_eq_true (by kernel_rfl)) k0 bel lt0) (trodAll_cons_mk (Below.trod laidOut (by kernel_rfl) (of_decide_eq_true (by kernel_rfl)) k1 bel lt1) trodAll_mk0)), rfl, bel.frame _, fun h => by cases h⟩
theorem c0 : (Rows.ratioOrdersRow.wf (OpenSpec.ofChange Rows.ratioOrdersSpec)) = true := by kernel_rfl
theorem c1 : (laidOutB Try.pinned.checked.prog) = true := by kernel_rfl
theorem c2 : (mapsRowed Try.pinned.checked.prog) = true := by kernel_rfl
theorem c3 : (Try.f20.params.all (Try.pinned.checked.prog.readableRec ·)) = true := by kernel_rfl
theorem c4 : (namedTie Try.pinned.checked.prog Rows.ratioOrdersRow.named Rows.ratioOrdersSpec.vars) = true := by kernel_rfl
theorem c5 : ((Rows.ratioOrdersRow.stops == [])) = true := by kernel_rfl
theorem c6 : ((Try.pinned.checked.prog.stops == [])) = true := by kernel_rfl
theorem c7 : ((Rows.ratioOrdersRow.knobs == [])) = true := by kernel_rfl
theorem c8 : ((Try.pinned.checked.prog.stopKnobs == [])) = true := by kernel_rfl
theorem c9 : ((Rows.ratioOrdersRow.inPlace == Try.pinned.checked.prog.inPlace (20 : FuncId))) = true := by kernel_rfl
theorem c10 : ((Rows.ratioOrdersRow.unfollowed == Try.pinned.checked.prog.unfollowed (20 : FuncId))) = true := by kernel_rfl
theorem c11 : ((Rows.ratioOrdersRow.recurses == Try.pinned.checked.prog.recurses (20 : FuncId))) = true := by kernel_rfl
theorem c12 : ((Rows.ratioOrdersRow.named == Try.pinned.checked.prog.varsNamed (20 : FuncId))) = true := by kernel_rfl
theorem c13 : ((Rows.ratioOrdersRow.maps == (Try.f20.params.toList ++ Rows.ratioOrdersSpec.plain.varTypes Try.pinned.checked.prog).any (Try.pinned.checked.prog.mapsRec ·))) = true := by kernel_rfl
theorem c14 : ((Rows.ratioOrdersRow.ifaces == (Try.f20.params.toList ++ Rows.ratioOrdersSpec.plain.varTypes Try.pinned.checked.prog).any (Try.pinned.checked.prog.ifacesRec ·))) = true := by kernel_rfl
theorem c15 : ((Rows.ratioOrdersRow.mapsOut == Try.pinned.checked.prog.mapsAmong Try.f20.resultTypes.toList)) = true := by kernel_rfl
theorem c16 : ((Rows.ratioOrdersRow.loops == (Try.f20.params.toList ++ Rows.ratioOrdersSpec.plain.varTypes Try.pinned.checked.prog).any (Try.pinned.checked.prog.loopsFrom ·))) = true := by kernel_rfl
theorem c17 : ((Rows.ratioOrdersRow.wideKeys == (Try.f20.params.toList ++ Rows.ratioOrdersSpec.plain.varTypes Try.pinned.checked.prog ++ Try.f20.resultTypes.toList).any (Try.pinned.checked.prog.wideKeysFrom ·))) = true := by kernel_rfl
theorem c18 : (Rows.ratioOrdersSpec.vars.all (Try.pinned.checked.prog.varReadable ·)) = true := by kernel_rfl
theorem c19 : (Try.f20.resultTypes.all (fun t => Try.pinned.checked.prog.readableRec t && decide (t < Try.pinned.checked.prog.types.size))) = true := by kernel_rfl
theorem c20 : ((Rows.ratioOrdersRow.ifacesOut == Try.f20.resultTypes.toList.any (Try.pinned.checked.prog.ifacesRec ·))) = true := by kernel_rfl
theorem c21 : ((Rows.ratioOrdersRow.loopsOut == Try.f20.resultTypes.toList.any (Try.pinned.checked.prog.loopsFrom ·))) = true := by kernel_rfl
theorem c22 : ((Rows.ratioOrdersRow.plainKeys == Try.pinned.checked.prog.plainKeys)) = true := by kernel_rfl
theorem c23 : (Rows.ratioOrdersRow.shortTexts.isNone) = true := by kernel_rfl
theorem c24 : (Try.pinned.checked.prog.stopsHeard) = true := by kernel_rfl
theorem c29 : ((Rows.ratioOrdersRow.pinned == Rows.ratioOrdersRow.pinnedBy)) = true := by kernel_rfl
theorem c30 : ((Rows.ratioOrdersRow.veiled == (Try.f20.params.toList ++ Rows.ratioOrdersSpec.plain.varTypes Try.pinned.checked.prog ++ Try.f20.resultTypes.toList).any (Try.pinned.checked.prog.veiledRec ·))) = true := by kernel_rfl
theorem c31 : (Rows.ratioOrdersRow.veiledFits Try.pinned.checked.prog Try.f20.params.toList (Try.f20.params.toList ++ Rows.ratioOrdersSpec.plain.varTypes Try.pinned.checked.prog ++ Try.f20.resultTypes.toList)) = true := by kernel_rfl
theorem closed : joinedFacts Try.pinned.checked.prog 20 Try.f20 Rows.ratioOrdersSpec Rows.ratioOrdersRow = true :=
  (Go.Proofs.Ytagbnkbhobmgjaa.Join.both (Go.Proofs.Ytagbnkbhobmgjaa.Join.both (Go.Proofs.Ytagbnkbhobmgjaa.Join.both (Go.Proofs.Ytagbnkbhobmgjaa.Join.both (Go.Proofs.Ytagbnkbhobmgjaa.Join.both (Go.Proofs.Ytagbnkbhobmgjaa.Join.both (Go.Proofs.Ytagbnkbhobmgjaa.Join.both (Go.Proofs.Ytagbnkbhobmgjaa.Join.both (Go.Proofs.Ytagbnkbhobmgjaa.Join.both (Go.Proofs.Ytagbnkbhobmgjaa.Join.both (Go.Proofs.Ytagbnkbhobmgjaa.Join.both (Go.Proofs.Ytagbnkbhobmgjaa.Join.both (Go.Proofs.Ytagbnkbhobmgjaa.Join.both (Go.Proofs.Ytagbnkbhobmgjaa.Join.both (Go.Proofs.Ytagbnkbhobmgjaa.Join.both (Go.Proofs.Ytagbnkbhobmgjaa.Join.both (Go.Proofs.Ytagbnkbhobmgjaa.Join.both (Go.Proofs.Ytagbnkbhobmgjaa.Join.both (Go.Proofs.Ytagbnkbhobmgjaa.Join.both (Go.Proofs.Ytagbnkbhobmgjaa.Join.both (Go.Proofs.Ytagbnkbhobmgjaa.Join.both (Go.Proofs.Ytagbnkbhobmgjaa.Join.both (Go.Proofs.Ytagbnkbhobmgjaa.Join.both (Go.Proofs.Ytagbnkbhobmgjaa.Join.both (Go.Proofs.Ytagbnkbhobmgjaa.Join.both (Go.Proofs.Ytagbnkbhobmgjaa.Join.both (Go.Proofs.Ytagbnkbhobmgjaa.Join.both (Go.Proofs.Ytagbnkbhobmgjaa.Join.both (Go.Proofs.Ytagbnkbhobmgjaa.Join.both (Go.Proofs.Ytagbnkbhobmgjaa.Join.both (Go.Proofs.Ytagbnkbhobmgjaa.Join.both c0 c1) c2) c3) c4) c5) c6) c7) c8) c9) c10) c11) c12) c13) c14) c15) c16) c17) c18) c19) c20) c21) c22) c23) c24) Go.Proofs.Ytagbnkbhobmgjaa.Join.may) Go.Proofs.Ytagbnkbhobmgjaa.Join.lifts) Go.Proofs.Ytagbnkbhobmgjaa.Join.made) (by kernel_rfl)) c29) c30) c31)
theorem over : Rows.ratioOrdersRow.holds Try.pinned (OpenSpec.ofChange Rows.ratioOrdersSpec) :=
  OpenClaim.holds_of_wide 20 Try.f20 rfl rfl rfl rfl rfl rfl rfl ⟨rfl, rfl, rfl, rfl, rfl⟩ rfl rfl rfl rfl rfl (by kernel_rfl) Try.func20 closed
    (of_decide_eq_true (by kernel_rfl)) (by unfold Func.isWrapper; first | (rw [if_pos (by decide +kernel)]; kernel_rfl) | (rw [if_neg (by decide +kernel)]; exact ⟨rfl, rfl⟩))
    (fun os started H enc _ => lifted os started H enc)
theorem proved : Rows.RatioOrdersSaid := over
end Go.Proofs.Ytagbnkbhobmgjaa.ratioOrders
namespace Go.Proofs.Ytagbnkbhobmgjaa
/-- The row, under a short name, for the claim. -/
theorem ratioOrders_holds : Rows.RatioOrdersSaid := ratioOrders.proved
end Go.Proofs.Ytagbnkbhobmgjaa
end
