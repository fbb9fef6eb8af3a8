/- Digits are written, and read, just as the document says; what is written is read as the same number. Part 20 of 20. -/
import Derived.Test.YtagbnkbhobmgjaaRows
import Derived.Test.YtagbnkbhobmgjaaNatTextsN
import Derived.Test.YtagbnkbhobmgjaaNatTextsQ
import Derived.WalkKit
import Derived.Test.YtagbnkbhobmgjaaNatTextsR
import Derived.ProofKit
import Derived.OpenShut
import Derived.ShutString
import Derived.ChangeOld
import Derived.Below
import Derived.SizedLaws
import Derived.Test.YtagbnkbhobmgjaaNatTextsS
section
-- Written by a program of this session (a turned copy of the kit's printer): the row of the law flyballlaw02_NatTexts, out of its Pure (the session's) and the printed walk. Not trusted: Lean checks it.
namespace Go.Proofs.Ytagbnkbhobmgjaa.natTexts
open Go.ChangeShapes Go.WideShapes Go.ChangeAt Go.RowKit
open Go.ChangeMaps (open_string shut_string)
set_option linter.unusedVariables false
theorem own : ownKnob Try.prog.godebug = none := by kernel_rfl
theorem laidOut : laidOutB Try.prog = true := by kernel_rfl
def IsRow (k : IntKind) (w : World) (a : Option Addr) (len cap : Nat) (zs : List Int) : Prop :=
  (a = none ∧ len = 0 ∧ cap = 0 ∧ zs = []) ∨
  ∃ x, a = some x ∧ len ≤ cap ∧ cap ≤ maxLen ∧ zs.length = cap ∧ (∀ i, i < zs.length → w.cell? (x.add i) = some (.int k (zs.getD i 0))) ∧ ∀ n ∈ zs, (Lit.int k n).wf = true
set_option maxRecDepth 100000 in
theorem lifted (os : Os) (started : os.Started) (H : Type) (enc : TypeId × Value → H) :
    ReturnsInHanded {} Try.checked os 6 .any (Rows.natTextsSpec.pre6 enc Try.prog Try.f6 Rows.natTextsRow.domain false) (Rows.natTextsSpec.post enc Try.prog Try.f6 false true false false) := by
  refine returnsInHanded_of_change_sized (C := Try.checked) own started (by kernel_rfl) Try.func6
    (ChangeSpec.witness6 (enc := enc) (C := Try.checked) false ⟨#[], #[.slice none 0 0, .string ByteArray.empty], []⟩ 8 (by kernel_rfl) (by kernel_rfl) (by kernel_rfl) (by kernel_rfl)) ?_
  intro W base args ds gs before hval0 hW hcnd hsz0 _
  have hsz : (DataW.weightsEach Try.prog (Try.f6.params.toList ++ Rows.natTextsSpec.plain.varTypes Try.prog) (ds ++ gs)).all (· ≤ reachBytes) = true := hsz0
  have hval : ∀ (j : Nat) t v, Try.f6.params[j]? = some t → args[j]? = some v → Value.okWide Try.prog W .any base t v := hval0
  have hW' := hW
  obtain ⟨p, q, hA0, hV, rfl, hfz, hnd⟩ := hW
  have hA : DataW.TrodAll enc Try.prog W 0 (fun _ => true) true Try.f6.params.toList args.toList ds p := hA0
  rw [Try.params6] at hA hval hsz
  obtain ⟨v0, vs0, d0, ds0, p0, q0, hargs, rfl, rfl, h0, r0⟩ := trodAll_cons hA
  obtain ⟨v1, vs1, d1, ds1, p1, q1, rfl, rfl, rfl, h1, r1⟩ := trodAll_cons r0
  obtain ⟨rfl, rfl, rfl⟩ := trodAll_nil r1
  obtain rfl : args = #[v0, v1] := by cases args; simp_all
  obtain ⟨rfl, rfl⟩ := trodVars_none hV
  obtain ⟨a0, len0, cap0, rfl⟩ := okWide_slice Try.underlying23 (hval 0 23 v0 rfl rfl)
  have k0 := h0
  have lt0 : ∀ x ∈ p0, x.block < W.heap.size := by obtain ⟨m, hm⟩ := k0; exact DataW.trod_lt m _ _ _ hm
  obtain ⟨z0, w0⟩ : ∃ zs, IsRow .u32 W a0 len0 cap0 zs := by
    obtain ⟨fuel, hf⟩ := h0
    rcases open_ints Try.underlying23 Try.underlying118 (by kernel_rfl) hf with ⟨hcs, _⟩ | ⟨x, l, c, zs, hcs, _, hl, hm, hz, _, hcell, hwz⟩
    · simp [Value.cells] at hcs
      obtain ⟨rfl, rfl, rfl⟩ := hcs
      exact ⟨[], .inl ⟨rfl, rfl, rfl, rfl⟩⟩
    · simp [Value.cells] at hcs
      obtain ⟨rfl, rfl, rfl⟩ := hcs
      exact ⟨zs, .inr ⟨_, rfl, hl, hm, by simpa using hz, hcell, hwz⟩⟩
  have y0 : len0 * 4 ≤ 140737488351232 := Go.Proofs.YtagbnkbhobmgjaaW.PrintWords.sized_ints hsz (j := 0) (t := 23) rfl rfl Try.underlying23 Try.underlying118 (by kernel_rfl) (by kernel_rfl) h0
  obtain ⟨a1, rfl, rfl, rfl, y1⟩ := open_string Try.underlying9 (hval 1 9 v1 rfl rfl) h1
  have w1 : a1.size ≤ 140737488351232 := by
    have z := sized_string hsz (j := 1) (t := 9) rfl rfl
    rw [Array.length_toList] at z
    exact z
  clear hA0 hval0 hsz0 hsz
  refine (Fn.flyballlaw02_NatTexts.walk Pure.NatTexts a0 len0 cap0 z0 a1 W w0 y0 w1).mono fun e W' ⟨he, bel⟩ => ?_
  subst he
  exact ⟨_, rfl, _, _, _, [], _, [], hW', trodAll_mk1 (shut_bool Try.underlying4 _), (trodAll_cons_mk (Below.trod laidOut (by kernel_rfl) (of_decide_eq_true (by kernel_rfl)) k0 bel lt0) (trodAll_cons_mk (shut_string Try.underlying9 y1) trodAll_mk0)), rfl, bel.frame _, fun h => by cases h⟩
theorem c0 : (Rows.natTextsRow.wf (OpenSpec.ofChange Rows.natTextsSpec)) = true := by kernel_rfl
theorem c1 : (laidOutB Try.pinned.checked.prog) = true := by kernel_rfl
theorem c2 : (mapsRowed Try.pinned.checked.prog) = true := by kernel_rfl
theorem c3 : (Try.f6.params.all (Try.pinned.checked.prog.readableRec ·)) = true := by kernel_rfl
theorem c4 : (namedTie Try.pinned.checked.prog Rows.natTextsRow.named Rows.natTextsSpec.vars) = true := by kernel_rfl
theorem c5 : ((Rows.natTextsRow.stops == [])) = true := by kernel_rfl
theorem c6 : ((Try.pinned.checked.prog.stops == [])) = true := by kernel_rfl
theorem c7 : ((Rows.natTextsRow.knobs == [])) = true := by kernel_rfl
theorem c8 : ((Try.pinned.checked.prog.stopKnobs == [])) = true := by kernel_rfl
theorem c9 : ((Rows.natTextsRow.inPlace == Try.pinned.checked.prog.inPlace (6 : FuncId))) = true := by kernel_rfl
theorem c10 : ((Rows.natTextsRow.unfollowed == Try.pinned.checked.prog.unfollowed (6 : FuncId))) = true := by kernel_rfl
theorem c11 : ((Rows.natTextsRow.recurses == Try.pinned.checked.prog.recurses (6 : FuncId))) = true := by kernel_rfl
theorem c12 : ((Rows.natTextsRow.named == Try.pinned.checked.prog.varsNamed (6 : FuncId))) = true := by kernel_rfl
theorem c13 : ((Rows.natTextsRow.maps == (Try.f6.params.toList ++ Rows.natTextsSpec.plain.varTypes Try.pinned.checked.prog).any (Try.pinned.checked.prog.mapsRec ·))) = true := by kernel_rfl
theorem c14 : ((Rows.natTextsRow.ifaces == (Try.f6.params.toList ++ Rows.natTextsSpec.plain.varTypes Try.pinned.checked.prog).any (Try.pinned.checked.prog.ifacesRec ·))) = true := by kernel_rfl
theorem c15 : ((Rows.natTextsRow.mapsOut == Try.pinned.checked.prog.mapsAmong Try.f6.resultTypes.toList)) = true := by kernel_rfl
theorem c16 : ((Rows.natTextsRow.loops == (Try.f6.params.toList ++ Rows.natTextsSpec.plain.varTypes Try.pinned.checked.prog).any (Try.pinned.checked.prog.loopsFrom ·))) = true := by kernel_rfl
theorem c17 : ((Rows.natTextsRow.wideKeys == (Try.f6.params.toList ++ Rows.natTextsSpec.plain.varTypes Try.pinned.checked.prog ++ Try.f6.resultTypes.toList).any (Try.pinned.checked.prog.wideKeysFrom ·))) = true := by kernel_rfl
theorem c18 : (Rows.natTextsSpec.vars.all (Try.pinned.checked.prog.varReadable ·)) = true := by kernel_rfl
theorem c19 : (Try.f6.resultTypes.all (fun t => Try.pinned.checked.prog.readableRec t && decide (t < Try.pinned.checked.prog.types.size))) = true := by kernel_rfl
theorem c20 : ((Rows.natTextsRow.ifacesOut == Try.f6.resultTypes.toList.any (Try.pinned.checked.prog.ifacesRec ·))) = true := by kernel_rfl
theorem c21 : ((Rows.natTextsRow.loopsOut == Try.f6.resultTypes.toList.any (Try.pinned.checked.prog.loopsFrom ·))) = true := by kernel_rfl
theorem c22 : ((Rows.natTextsRow.plainKeys == Try.pinned.checked.prog.plainKeys)) = true := by kernel_rfl
theorem c23 : (Rows.natTextsRow.shortTexts.isNone) = true := by kernel_rfl
theorem c24 : (Try.pinned.checked.prog.stopsHeard) = true := by kernel_rfl
theorem c29 : ((Rows.natTextsRow.pinned == Rows.natTextsRow.pinnedBy)) = true := by kernel_rfl
theorem c30 : ((Rows.natTextsRow.veiled == (Try.f6.params.toList ++ Rows.natTextsSpec.plain.varTypes Try.pinned.checked.prog ++ Try.f6.resultTypes.toList).any (Try.pinned.checked.prog.veiledRec ·))) = true := by kernel_rfl
theorem c31 : (Rows.natTextsRow.veiledFits Try.pinned.checked.prog Try.f6.params.toList (Try.f6.params.toList ++ Rows.natTextsSpec.plain.varTypes Try.pinned.checked.prog ++ Try.f6.resultTypes.toList)) = true := by kernel_rfl
theorem closed : joinedFacts Try.pinned.checked.prog 6 Try.f6 Rows.natTextsSpec Rows.natTextsRow = true :=
  (Go.Proofs.Ytagbnkbhobmgjaa.Join.both (Go.Proofs.Ytagbnkbhobmgjaa.Join.both (Go.Proofs.Ytagbnkbhobmgjaa.Join.both (Go.Proofs.Ytagbnkbhobmgjaa.Join.both (Go.Proofs.Ytagbnkbhobmgjaa.Join.both (Go.Proofs.Ytagbnkbhobmgjaa.Join.both (Go.Proofs.Ytagbnkbhobmgjaa.Join.both (Go.Proofs.Ytagbnkbhobmgjaa.Join.both (Go.Proofs.Ytagbnkbhobmgjaa.Join.both (Go.Proofs.Ytagbnkbhobmgjaa.Join.both (Go.Proofs.Ytagbnkbhobmgjaa.Join.both (Go.Proofs.Ytagbnkbhobmgjaa.Join.both (Go.Proofs.Ytagbnkbhobmgjaa.Join.both (Go.Proofs.Ytagbnkbhobmgjaa.Join.both (Go.Proofs.Ytagbnkbhobmgjaa.Join.both (Go.Proofs.Ytagbnkbhobmgjaa.Join.both (Go.Proofs.Ytagbnkbhobmgjaa.Join.both (Go.Proofs.Ytagbnkbhobmgjaa.Join.both (Go.Proofs.Ytagbnkbhobmgjaa.Join.both (Go.Proofs.Ytagbnkbhobmgjaa.Join.both (Go.Proofs.Ytagbnkbhobmgjaa.Join.both (Go.Proofs.Ytagbnkbhobmgjaa.Join.both (Go.Proofs.Ytagbnkbhobmgjaa.Join.both (Go.Proofs.Ytagbnkbhobmgjaa.Join.both (Go.Proofs.Ytagbnkbhobmgjaa.Join.both (Go.Proofs.Ytagbnkbhobmgjaa.Join.both (Go.Proofs.Ytagbnkbhobmgjaa.Join.both (Go.Proofs.Ytagbnkbhobmgjaa.Join.both (Go.Proofs.Ytagbnkbhobmgjaa.Join.both (Go.Proofs.Ytagbnkbhobmgjaa.Join.both (Go.Proofs.Ytagbnkbhobmgjaa.Join.both c0 c1) c2) c3) c4) c5) c6) c7) c8) c9) c10) c11) c12) c13) c14) c15) c16) c17) c18) c19) c20) c21) c22) c23) c24) Go.Proofs.Ytagbnkbhobmgjaa.Join.may) Go.Proofs.Ytagbnkbhobmgjaa.Join.lifts) Go.Proofs.Ytagbnkbhobmgjaa.Join.made) (by kernel_rfl)) c29) c30) c31)
theorem over : Rows.natTextsRow.holds Try.pinned (OpenSpec.ofChange Rows.natTextsSpec) :=
  OpenClaim.holds_of_wide 6 Try.f6 rfl rfl rfl rfl rfl rfl rfl ⟨rfl, rfl, rfl, rfl, rfl⟩ rfl rfl rfl rfl rfl (by kernel_rfl) Try.func6 closed
    (of_decide_eq_true (by kernel_rfl)) (by unfold Func.isWrapper; first | (rw [if_pos (by decide +kernel)]; kernel_rfl) | (rw [if_neg (by decide +kernel)]; exact ⟨rfl, rfl⟩))
    (fun os started H enc _ => lifted os started H enc)
theorem proved : Rows.NatTextsSaid := over
end Go.Proofs.Ytagbnkbhobmgjaa.natTexts
namespace Go.Proofs.Ytagbnkbhobmgjaa
/-- The row, under a short name, for the claim. -/
theorem natTexts_holds : Rows.NatTextsSaid := natTexts.proved
end Go.Proofs.Ytagbnkbhobmgjaa
end
