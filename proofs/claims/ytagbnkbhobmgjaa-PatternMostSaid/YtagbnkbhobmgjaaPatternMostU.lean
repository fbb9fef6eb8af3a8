/- The greatest of some is one of them, and none is above; the least likewise; where one is no number, or there is none, it is the quiet NaN. Part 21 of 21. -/
import Derived.Test.YtagbnkbhobmgjaaRows
import Derived.Test.YtagbnkbhobmgjaaPatternMostN
import Derived.Test.YtagbnkbhobmgjaaPatternMostR
import Derived.WalkKit
import Derived.Test.YtagbnkbhobmgjaaPatternMostS
import Derived.ProofKit
import Derived.OpenShut
import Derived.ShutString
import Derived.ChangeOld
import Derived.Below
import Derived.SizedLaws
import Derived.Test.YtagbnkbhobmgjaaPatternMostT
section
-- Written by a program of this session (a turned copy of the kit's printer): the row of the law flyballlaw04_PatternMost, out of its Pure (the session's) and the printed walk. Not trusted: Lean checks it.
namespace Go.Proofs.Ytagbnkbhobmgjaa.patternMost
open Go.ChangeShapes Go.WideShapes Go.ChangeAt Go.RowKit
open Go.ChangeMaps (open_string shut_string)
set_option linter.unusedVariables false
theorem own : ownKnob Try.prog.godebug = none := by kernel_rfl
theorem laidOut : laidOutB Try.prog = true := by kernel_rfl
def IsRow (k : IntKind) (w : World) (a : Option Addr) (len cap : Nat) (zs : List Int) : Prop :=
  (a = none ∧ len = 0 ∧ cap = 0 ∧ zs = []) ∨
  ∃ x, a = some x ∧ len ≤ cap ∧ cap ≤ maxLen ∧ zs.length = cap ∧ (∀ i, i < zs.length → w.cell? (x.add i) = some (.int k (zs.getD i 0))) ∧ ∀ n ∈ zs, (Lit.int k n).wf = true
set_option maxRecDepth 100000 in
theorem lifted (os : Os) (started : os.Started) (H : Type) (enc : TypeId × Value → H) :
    ReturnsInHanded {} Try.checked os 17 .any (Rows.patternMostSpec.pre6 enc Try.prog Try.f17 Rows.patternMostRow.domain false) (Rows.patternMostSpec.post enc Try.prog Try.f17 false true false false) := by
  refine returnsInHanded_of_change_sized (C := Try.checked) own started (by kernel_rfl) Try.func17
    (ChangeSpec.witness6 (enc := enc) (C := Try.checked) false ⟨#[], #[.slice none 0 0], []⟩ 8 (by kernel_rfl) (by kernel_rfl) (by kernel_rfl) (by kernel_rfl)) ?_
  intro W base args ds gs before hval0 hW hcnd hsz0 _
  have hsz : (DataW.weightsEach Try.prog (Try.f17.params.toList ++ Rows.patternMostSpec.plain.varTypes Try.prog) (ds ++ gs)).all (· ≤ reachBytes) = true := hsz0
  have hval : ∀ (j : Nat) t v, Try.f17.params[j]? = some t → args[j]? = some v → Value.okWide Try.prog W .any base t v := hval0
  have hW' := hW
  obtain ⟨p, q, hA0, hV, rfl, hfz, hnd⟩ := hW
  have hA : DataW.TrodAll enc Try.prog W 0 (fun _ => true) true Try.f17.params.toList args.toList ds p := hA0
  rw [Try.params17] at hA hval hsz
  obtain ⟨v0, vs0, d0, ds0, p0, q0, hargs, rfl, rfl, h0, r0⟩ := trodAll_cons hA
  obtain ⟨rfl, rfl, rfl⟩ := trodAll_nil r0
  obtain rfl : args = #[v0] := by cases args; simp_all
  obtain ⟨rfl, rfl⟩ := trodVars_none hV
  obtain ⟨a0, len0, cap0, rfl⟩ := okWide_slice Try.underlying96 (hval 0 96 v0 rfl rfl)
  have k0 := h0
  have lt0 : ∀ x ∈ p0, x.block < W.heap.size := by obtain ⟨m, hm⟩ := k0; exact DataW.trod_lt m _ _ _ hm
  obtain ⟨z0, w0⟩ : ∃ zs, IsRow .u64 W a0 len0 cap0 zs := by
    obtain ⟨fuel, hf⟩ := h0
    rcases open_ints Try.underlying96 Try.underlying74 (by kernel_rfl) hf with ⟨hcs, _⟩ | ⟨x, l, c, zs, hcs, _, hl, hm, hz, _, hcell, hwz⟩
    · simp [Value.cells] at hcs
      obtain ⟨rfl, rfl, rfl⟩ := hcs
      exact ⟨[], .inl ⟨rfl, rfl, rfl, rfl⟩⟩
    · simp [Value.cells] at hcs
      obtain ⟨rfl, rfl, rfl⟩ := hcs
      exact ⟨zs, .inr ⟨_, rfl, hl, hm, by simpa using hz, hcell, hwz⟩⟩
  have y0 : len0 * 8 ≤ 140737488351232 := Go.Proofs.YtagbnkbhobmgjaaW.PrintWords.sized_ints hsz (j := 0) (t := 96) rfl rfl Try.underlying96 Try.underlying74 (by kernel_rfl) (by kernel_rfl) h0
  clear hA0 hval0 hsz0 hsz
  refine (Fn.flyballlaw04_PatternMost.walk Pure.PatternMost a0 len0 cap0 z0 W w0 y0).mono fun e W' ⟨he, bel⟩ => ?_
  subst he
  exact ⟨_, rfl, _, _, _, [], _, [], hW', trodAll_mk1 (shut_bool Try.underlying4 _), (trodAll_cons_mk (Below.trod laidOut (by kernel_rfl) (of_decide_eq_true (by kernel_rfl)) k0 bel lt0) trodAll_mk0), rfl, bel.frame _, fun h => by cases h⟩
theorem c0 : (Rows.patternMostRow.wf (OpenSpec.ofChange Rows.patternMostSpec)) = true := by kernel_rfl
theorem c1 : (laidOutB Try.pinned.checked.prog) = true := by kernel_rfl
theorem c2 : (mapsRowed Try.pinned.checked.prog) = true := by kernel_rfl
theorem c3 : (Try.f17.params.all (Try.pinned.checked.prog.readableRec ·)) = true := by kernel_rfl
theorem c4 : (namedTie Try.pinned.checked.prog Rows.patternMostRow.named Rows.patternMostSpec.vars) = true := by kernel_rfl
theorem c5 : ((Rows.patternMostRow.stops == [])) = true := by kernel_rfl
theorem c6 : ((Try.pinned.checked.prog.stops == [])) = true := by kernel_rfl
theorem c7 : ((Rows.patternMostRow.knobs == [])) = true := by kernel_rfl
theorem c8 : ((Try.pinned.checked.prog.stopKnobs == [])) = true := by kernel_rfl
theorem c9 : ((Rows.patternMostRow.inPlace == Try.pinned.checked.prog.inPlace (17 : FuncId))) = true := by kernel_rfl
theorem c10 : ((Rows.patternMostRow.unfollowed == Try.pinned.checked.prog.unfollowed (17 : FuncId))) = true := by kernel_rfl
theorem c11 : ((Rows.patternMostRow.recurses == Try.pinned.checked.prog.recurses (17 : FuncId))) = true := by kernel_rfl
theorem c12 : ((Rows.patternMostRow.named == Try.pinned.checked.prog.varsNamed (17 : FuncId))) = true := by kernel_rfl
theorem c13 : ((Rows.patternMostRow.maps == (Try.f17.params.toList ++ Rows.patternMostSpec.plain.varTypes Try.pinned.checked.prog).any (Try.pinned.checked.prog.mapsRec ·))) = true := by kernel_rfl
theorem c14 : ((Rows.patternMostRow.ifaces == (Try.f17.params.toList ++ Rows.patternMostSpec.plain.varTypes Try.pinned.checked.prog).any (Try.pinned.checked.prog.ifacesRec ·))) = true := by kernel_rfl
theorem c15 : ((Rows.patternMostRow.mapsOut == Try.pinned.checked.prog.mapsAmong Try.f17.resultTypes.toList)) = true := by kernel_rfl
theorem c16 : ((Rows.patternMostRow.loops == (Try.f17.params.toList ++ Rows.patternMostSpec.plain.varTypes Try.pinned.checked.prog).any (Try.pinned.checked.prog.loopsFrom ·))) = true := by kernel_rfl
theorem c17 : ((Rows.patternMostRow.wideKeys == (Try.f17.params.toList ++ Rows.patternMostSpec.plain.varTypes Try.pinned.checked.prog ++ Try.f17.resultTypes.toList).any (Try.pinned.checked.prog.wideKeysFrom ·))) = true := by kernel_rfl
theorem c18 : (Rows.patternMostSpec.vars.all (Try.pinned.checked.prog.varReadable ·)) = true := by kernel_rfl
theorem c19 : (Try.f17.resultTypes.all (fun t => Try.pinned.checked.prog.readableRec t && decide (t < Try.pinned.checked.prog.types.size))) = true := by kernel_rfl
theorem c20 : ((Rows.patternMostRow.ifacesOut == Try.f17.resultTypes.toList.any (Try.pinned.checked.prog.ifacesRec ·))) = true := by kernel_rfl
theorem c21 : ((Rows.patternMostRow.loopsOut == Try.f17.resultTypes.toList.any (Try.pinned.checked.prog.loopsFrom ·))) = true := by kernel_rfl
theorem c22 : ((Rows.patternMostRow.plainKeys == Try.pinned.checked.prog.plainKeys)) = true := by kernel_rfl
theorem c23 : (Rows.patternMostRow.shortTexts.isNone) = true := by kernel_rfl
theorem c24 : (Try.pinned.checked.prog.stopsHeard) = true := by kernel_rfl
theorem c29 : ((Rows.patternMostRow.pinned == Rows.patternMostRow.pinnedBy)) = true := by kernel_rfl
theorem c30 : ((Rows.patternMostRow.veiled == (Try.f17.params.toList ++ Rows.patternMostSpec.plain.varTypes Try.pinned.checked.prog ++ Try.f17.resultTypes.toList).any (Try.pinned.checked.prog.veiledRec ·))) = true := by kernel_rfl
theorem c31 : (Rows.patternMostRow.veiledFits Try.pinned.checked.prog Try.f17.params.toList (Try.f17.params.toList ++ Rows.patternMostSpec.plain.varTypes Try.pinned.checked.prog ++ Try.f17.resultTypes.toList)) = true := by kernel_rfl
theorem closed : joinedFacts Try.pinned.checked.prog 17 Try.f17 Rows.patternMostSpec Rows.patternMostRow = true :=
  (Go.Proofs.Ytagbnkbhobmgjaa.Join.both (Go.Proofs.Ytagbnkbhobmgjaa.Join.both (Go.Proofs.Ytagbnkbhobmgjaa.Join.both (Go.Proofs.Ytagbnkbhobmgjaa.Join.both (Go.Proofs.Ytagbnkbhobmgjaa.Join.both (Go.Proofs.Ytagbnkbhobmgjaa.Join.both (Go.Proofs.Ytagbnkbhobmgjaa.Join.both (Go.Proofs.Ytagbnkbhobmgjaa.Join.both (Go.Proofs.Ytagbnkbhobmgjaa.Join.both (Go.Proofs.Ytagbnkbhobmgjaa.Join.both (Go.Proofs.Ytagbnkbhobmgjaa.Join.both (Go.Proofs.Ytagbnkbhobmgjaa.Join.both (Go.Proofs.Ytagbnkbhobmgjaa.Join.both (Go.Proofs.Ytagbnkbhobmgjaa.Join.both (Go.Proofs.Ytagbnkbhobmgjaa.Join.both (Go.Proofs.Ytagbnkbhobmgjaa.Join.both (Go.Proofs.Ytagbnkbhobmgjaa.Join.both (Go.Proofs.Ytagbnkbhobmgjaa.Join.both (Go.Proofs.Ytagbnkbhobmgjaa.Join.both (Go.Proofs.Ytagbnkbhobmgjaa.Join.both (Go.Proofs.Ytagbnkbhobmgjaa.Join.both (Go.Proofs.Ytagbnkbhobmgjaa.Join.both (Go.Proofs.Ytagbnkbhobmgjaa.Join.both (Go.Proofs.Ytagbnkbhobmgjaa.Join.both (Go.Proofs.Ytagbnkbhobmgjaa.Join.both (Go.Proofs.Ytagbnkbhobmgjaa.Join.both (Go.Proofs.Ytagbnkbhobmgjaa.Join.both (Go.Proofs.Ytagbnkbhobmgjaa.Join.both (Go.Proofs.Ytagbnkbhobmgjaa.Join.both (Go.Proofs.Ytagbnkbhobmgjaa.Join.both (Go.Proofs.Ytagbnkbhobmgjaa.Join.both c0 c1) c2) c3) c4) c5) c6) c7) c8) c9) c10) c11) c12) c13) c14) c15) c16) c17) c18) c19) c20) c21) c22) c23) c24) Go.Proofs.Ytagbnkbhobmgjaa.Join.may) Go.Proofs.Ytagbnkbhobmgjaa.Join.lifts) Go.Proofs.Ytagbnkbhobmgjaa.Join.made) (by kernel_rfl)) c29) c30) c31)
theorem over : Rows.patternMostRow.holds Try.pinned (OpenSpec.ofChange Rows.patternMostSpec) :=
  OpenClaim.holds_of_wide 17 Try.f17 rfl rfl rfl rfl rfl rfl rfl ⟨rfl, rfl, rfl, rfl, rfl⟩ rfl rfl rfl rfl rfl (by kernel_rfl) Try.func17 closed
    (of_decide_eq_true (by kernel_rfl)) (by unfold Func.isWrapper; first | (rw [if_pos (by decide +kernel)]; kernel_rfl) | (rw [if_neg (by decide +kernel)]; exact ⟨rfl, rfl⟩))
    (fun os started H enc _ => lifted os started H enc)
theorem proved : Rows.PatternMostSaid := over
end Go.Proofs.Ytagbnkbhobmgjaa.patternMost
namespace Go.Proofs.Ytagbnkbhobmgjaa
/-- The row, under a short name, for the claim. -/
theorem patternMost_holds : Rows.PatternMostSaid := patternMost.proved
end Go.Proofs.Ytagbnkbhobmgjaa
end
