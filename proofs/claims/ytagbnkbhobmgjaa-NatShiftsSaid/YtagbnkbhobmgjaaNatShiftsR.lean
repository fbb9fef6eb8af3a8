/- What is shifted, how long a number is, its bits, and whether it is a word of 64, are just what the document says. Part 18 of 18. -/
import Derived.Test.YtagbnkbhobmgjaaRows
import Derived.Test.YtagbnkbhobmgjaaNatShiftsM
import Derived.Test.YtagbnkbhobmgjaaNatShiftsO
import Derived.WalkKit
import Derived.Test.YtagbnkbhobmgjaaNatShiftsP
import Derived.ProofKit
import Derived.OpenShut
import Derived.ShutString
import Derived.ChangeOld
import Derived.Below
import Derived.SizedLaws
import Derived.Test.YtagbnkbhobmgjaaNatShiftsQ
section
-- Written by a program of this session (a turned copy of the kit's printer): the row of the law flyballlaw02_NatShifts, out of its Pure (the session's) and the printed walk. Not trusted: Lean checks it.
namespace Go.Proofs.Ytagbnkbhobmgjaa.natShifts
open Go.ChangeShapes Go.WideShapes Go.ChangeAt Go.RowKit
open Go.ChangeMaps (open_string shut_string)
set_option linter.unusedVariables false
theorem own : ownKnob Try.prog.godebug = none := by kernel_rfl
theorem laidOut : laidOutB Try.prog = true := by kernel_rfl
def IsRow (k : IntKind) (w : World) (a : Option Addr) (len cap : Nat) (zs : List Int) : Prop :=
  (a = none ∧ len = 0 ∧ cap = 0 ∧ zs = []) ∨
  ∃ x, a = some x ∧ len ≤ cap ∧ cap ≤ maxLen ∧ zs.length = cap ∧ (∀ i, i < zs.length → w.cell? (x.add i) = some (.int k (zs.getD i 0))) ∧ ∀ n ∈ zs, (Lit.int k n).wf = true
set_option maxRecDepth 100000 in
theorem lifted (os : Os) (started : os.Started) (H : Type) (enc : TypeId × Value → H) :
    ReturnsInHanded {} Try.checked os 5 .any (Rows.natShiftsSpec.pre6 enc Try.prog Try.f5 Rows.natShiftsRow.domain false) (Rows.natShiftsSpec.post enc Try.prog Try.f5 false true false false) := by
  refine returnsInHanded_of_change_sized (C := Try.checked) own started (by kernel_rfl) Try.func5
    (ChangeSpec.witness6 (enc := enc) (C := Try.checked) false ⟨#[], #[.slice none 0 0, .int .i64 0, .int .i64 0], []⟩ 8 (by kernel_rfl) (by kernel_rfl) (by kernel_rfl) (by kernel_rfl)) ?_
  intro W base args ds gs before hval0 hW hcnd hsz0 _
  have hsz : (DataW.weightsEach Try.prog (Try.f5.params.toList ++ Rows.natShiftsSpec.plain.varTypes Try.prog) (ds ++ gs)).all (· ≤ reachBytes) = true := hsz0
  have hval : ∀ (j : Nat) t v, Try.f5.params[j]? = some t → args[j]? = some v → Value.okWide Try.prog W .any base t v := hval0
  have hW' := hW
  obtain ⟨p, q, hA0, hV, rfl, hfz, hnd⟩ := hW
  have hA : DataW.TrodAll enc Try.prog W 0 (fun _ => true) true Try.f5.params.toList args.toList ds p := hA0
  rw [Try.params5] at hA hval hsz
  obtain ⟨v0, vs0, d0, ds0, p0, q0, hargs, rfl, rfl, h0, r0⟩ := trodAll_cons hA
  obtain ⟨v1, vs1, d1, ds1, p1, q1, rfl, rfl, rfl, h1, r1⟩ := trodAll_cons r0
  obtain ⟨v2, vs2, d2, ds2, p2, q2, rfl, rfl, rfl, h2, r2⟩ := trodAll_cons r1
  obtain ⟨rfl, rfl, rfl⟩ := trodAll_nil r2
  obtain rfl : args = #[v0, v1, v2] := by cases args; simp_all
  obtain ⟨rfl, rfl⟩ := trodVars_none hV
  obtain ⟨a0, len0, cap0, rfl⟩ := okWide_slice Try.underlying23 (hval 0 23 v0 rfl rfl)
  have k0 := h0
  have lt0 : ∀ x ∈ p0, x.block < W.heap.size := by obtain ⟨m, hm⟩ := k0; exact DataW.trod_lt m _ _ _ hm
  obtain ⟨z0, w0⟩ : ∃ zs, IsRow .u32 W a0 len0 cap0 zs := by
    obtain ⟨fuel, hf⟩ := h0
    rcases open_ints Try.underlying23 Try.underlying118 (by kernel_rfl) hf with ⟨hcs, _⟩ | ⟨x, l, c, zs, hcs, _, hl, hm, hz, _, hcell, hwz⟩
    · simp [Value.cells] at hcs
      obtain ⟨rfl, rfl, rfl⟩ := hcs
      exact ⟨[], .inl ⟨rfl, rfl, rfl, rfl⟩⟩
    · simp [Value.cells] at hcs
      obtain ⟨rfl, rfl, rfl⟩ := hcs
      exact ⟨zs, .inr ⟨_, rfl, hl, hm, by simpa using hz, hcell, hwz⟩⟩
  have y0 : len0 * 4 ≤ 140737488351232 := Go.Proofs.YtagbnkbhobmgjaaW.PrintWords.sized_ints hsz (j := 0) (t := 23) rfl rfl Try.underlying23 Try.underlying118 (by kernel_rfl) (by kernel_rfl) h0
  obtain ⟨a1, rfl, rfl, rfl, w1⟩ := open_int Try.underlying3 (hval 1 3 v1 rfl rfl) h1
  obtain ⟨a2, rfl, rfl, rfl, w2⟩ := open_int Try.underlying3 (hval 2 3 v2 rfl rfl) h2
  clear hA0 hval0 hsz0 hsz
  refine (Fn.flyballlaw02_NatShifts.walk Pure.NatShifts a0 len0 cap0 z0 a1 a2 W w0 y0 w1 w2).mono fun e W' ⟨he, bel⟩ => ?_
  subst he
  exact ⟨_, rfl, _, _, _, [], _, [], hW', trodAll_mk1 (shut_bool Try.underlying4 _), (trodAll_cons_mk (Below.trod laidOut (by kernel_rfl) (of_decide_eq_true (by kernel_rfl)) k0 bel lt0) (trodAll_cons_mk (shut_int Try.underlying3 w1) (trodAll_cons_mk (shut_int Try.underlying3 w2) trodAll_mk0))), rfl, bel.frame _, fun h => by cases h⟩
theorem c0 : (Rows.natShiftsRow.wf (OpenSpec.ofChange Rows.natShiftsSpec)) = true := by kernel_rfl
theorem c1 : (laidOutB Try.pinned.checked.prog) = true := by kernel_rfl
theorem c2 : (mapsRowed Try.pinned.checked.prog) = true := by kernel_rfl
theorem c3 : (Try.f5.params.all (Try.pinned.checked.prog.readableRec ·)) = true := by kernel_rfl
theorem c4 : (namedTie Try.pinned.checked.prog Rows.natShiftsRow.named Rows.natShiftsSpec.vars) = true := by kernel_rfl
theorem c5 : ((Rows.natShiftsRow.stops == [])) = true := by kernel_rfl
theorem c6 : ((Try.pinned.checked.prog.stops == [])) = true := by kernel_rfl
theorem c7 : ((Rows.natShiftsRow.knobs == [])) = true := by kernel_rfl
theorem c8 : ((Try.pinned.checked.prog.stopKnobs == [])) = true := by kernel_rfl
theorem c9 : ((Rows.natShiftsRow.inPlace == Try.pinned.checked.prog.inPlace (5 : FuncId))) = true := by kernel_rfl
theorem c10 : ((Rows.natShiftsRow.unfollowed == Try.pinned.checked.prog.unfollowed (5 : FuncId))) = true := by kernel_rfl
theorem c11 : ((Rows.natShiftsRow.recurses == Try.pinned.checked.prog.recurses (5 : FuncId))) = true := by kernel_rfl
theorem c12 : ((Rows.natShiftsRow.named == Try.pinned.checked.prog.varsNamed (5 : FuncId))) = true := by kernel_rfl
theorem c13 : ((Rows.natShiftsRow.maps == (Try.f5.params.toList ++ Rows.natShiftsSpec.plain.varTypes Try.pinned.checked.prog).any (Try.pinned.checked.prog.mapsRec ·))) = true := by kernel_rfl
theorem c14 : ((Rows.natShiftsRow.ifaces == (Try.f5.params.toList ++ Rows.natShiftsSpec.plain.varTypes Try.pinned.checked.prog).any (Try.pinned.checked.prog.ifacesRec ·))) = true := by kernel_rfl
theorem c15 : ((Rows.natShiftsRow.mapsOut == Try.pinned.checked.prog.mapsAmong Try.f5.resultTypes.toList)) = true := by kernel_rfl
theorem c16 : ((Rows.natShiftsRow.loops == (Try.f5.params.toList ++ Rows.natShiftsSpec.plain.varTypes Try.pinned.checked.prog).any (Try.pinned.checked.prog.loopsFrom ·))) = true := by kernel_rfl
theorem c17 : ((Rows.natShiftsRow.wideKeys == (Try.f5.params.toList ++ Rows.natShiftsSpec.plain.varTypes Try.pinned.checked.prog ++ Try.f5.resultTypes.toList).any (Try.pinned.checked.prog.wideKeysFrom ·))) = true := by kernel_rfl
theorem c18 : (Rows.natShiftsSpec.vars.all (Try.pinned.checked.prog.varReadable ·)) = true := by kernel_rfl
theorem c19 : (Try.f5.resultTypes.all (fun t => Try.pinned.checked.prog.readableRec t && decide (t < Try.pinned.checked.prog.types.size))) = true := by kernel_rfl
theorem c20 : ((Rows.natShiftsRow.ifacesOut == Try.f5.resultTypes.toList.any (Try.pinned.checked.prog.ifacesRec ·))) = true := by kernel_rfl
theorem c21 : ((Rows.natShiftsRow.loopsOut == Try.f5.resultTypes.toList.any (Try.pinned.checked.prog.loopsFrom ·))) = true := by kernel_rfl
theorem c22 : ((Rows.natShiftsRow.plainKeys == Try.pinned.checked.prog.plainKeys)) = true := by kernel_rfl
theorem c23 : (Rows.natShiftsRow.shortTexts.isNone) = true := by kernel_rfl
theorem c24 : (Try.pinned.checked.prog.stopsHeard) = true := by kernel_rfl
theorem c29 : ((Rows.natShiftsRow.pinned == Rows.natShiftsRow.pinnedBy)) = true := by kernel_rfl
theorem c30 : ((Rows.natShiftsRow.veiled == (Try.f5.params.toList ++ Rows.natShiftsSpec.plain.varTypes Try.pinned.checked.prog ++ Try.f5.resultTypes.toList).any (Try.pinned.checked.prog.veiledRec ·))) = true := by kernel_rfl
theorem c31 : (Rows.natShiftsRow.veiledFits Try.pinned.checked.prog Try.f5.params.toList (Try.f5.params.toList ++ Rows.natShiftsSpec.plain.varTypes Try.pinned.checked.prog ++ Try.f5.resultTypes.toList)) = true := by kernel_rfl
theorem closed : joinedFacts Try.pinned.checked.prog 5 Try.f5 Rows.natShiftsSpec Rows.natShiftsRow = true :=
  (Go.Proofs.Ytagbnkbhobmgjaa.Join.both (Go.Proofs.Ytagbnkbhobmgjaa.Join.both (Go.Proofs.Ytagbnkbhobmgjaa.Join.both (Go.Proofs.Ytagbnkbhobmgjaa.Join.both (Go.Proofs.Ytagbnkbhobmgjaa.Join.both (Go.Proofs.Ytagbnkbhobmgjaa.Join.both (Go.Proofs.Ytagbnkbhobmgjaa.Join.both (Go.Proofs.Ytagbnkbhobmgjaa.Join.both (Go.Proofs.Ytagbnkbhobmgjaa.Join.both (Go.Proofs.Ytagbnkbhobmgjaa.Join.both (Go.Proofs.Ytagbnkbhobmgjaa.Join.both (Go.Proofs.Ytagbnkbhobmgjaa.Join.both (Go.Proofs.Ytagbnkbhobmgjaa.Join.both (Go.Proofs.Ytagbnkbhobmgjaa.Join.both (Go.Proofs.Ytagbnkbhobmgjaa.Join.both (Go.Proofs.Ytagbnkbhobmgjaa.Join.both (Go.Proofs.Ytagbnkbhobmgjaa.Join.both (Go.Proofs.Ytagbnkbhobmgjaa.Join.both (Go.Proofs.Ytagbnkbhobmgjaa.Join.both (Go.Proofs.Ytagbnkbhobmgjaa.Join.both (Go.Proofs.Ytagbnkbhobmgjaa.Join.both (Go.Proofs.Ytagbnkbhobmgjaa.Join.both (Go.Proofs.Ytagbnkbhobmgjaa.Join.both (Go.Proofs.Ytagbnkbhobmgjaa.Join.both (Go.Proofs.Ytagbnkbhobmgjaa.Join.both (Go.Proofs.Ytagbnkbhobmgjaa.Join.both (Go.Proofs.Ytagbnkbhobmgjaa.Join.both (Go.Proofs.Ytagbnkbhobmgjaa.Join.both (Go.Proofs.Ytagbnkbhobmgjaa.Join.both (Go.Proofs.Ytagbnkbhobmgjaa.Join.both (Go.Proofs.Ytagbnkbhobmgjaa.Join.both c0 c1) c2) c3) c4) c5) c6) c7) c8) c9) c10) c11) c12) c13) c14) c15) c16) c17) c18) c19) c20) c21) c22) c23) c24) Go.Proofs.Ytagbnkbhobmgjaa.Join.may) Go.Proofs.Ytagbnkbhobmgjaa.Join.lifts) Go.Proofs.Ytagbnkbhobmgjaa.Join.made) (by kernel_rfl)) c29) c30) c31)
theorem over : Rows.natShiftsRow.holds Try.pinned (OpenSpec.ofChange Rows.natShiftsSpec) :=
  OpenClaim.holds_of_wide 5 Try.f5 rfl rfl rfl rfl rfl rfl rfl ⟨rfl, rfl, rfl, rfl, rfl⟩ rfl rfl rfl rfl rfl (by kernel_rfl) Try.func5 closed
    (of_decide_eq_true (by kernel_rfl)) (by unfold Func.isWrapper; first | (rw [if_pos (by decide +kernel)]; kernel_rfl) | (rw [if_neg (by decide +kernel)]; exact ⟨rfl, rfl⟩))
    (fun os started H enc _ => lifted os started H enc)
theorem proved : Rows.NatShiftsSaid := over
end Go.Proofs.Ytagbnkbhobmgjaa.natShifts
namespace Go.Proofs.Ytagbnkbhobmgjaa
/-- The row, under a short name, for the claim. -/
theorem natShifts_holds : Rows.NatShiftsSaid := natShifts.proved
end Go.Proofs.Ytagbnkbhobmgjaa
end
