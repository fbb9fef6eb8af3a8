/- Between a float and the next one there is none. Part 18 of 20. -/
import Derived.Test.YtagbnkbhobmgjaaPatternBetweenN
import Derived.Test.YtagbnkbhobmgjaaPatternBetweenQ
section
/- Between a float and the next one there is none. -/
set_option linter.unusedVariables false
set_option linter.unusedSimpArgs false
namespace Go.Proofs.Ytagbnkbhobmgjaa.Pure
open Go.RowKit Go.Proofs.Ytagbnkbhobmgjaa.Fn Go.Proofs.YtagbnkbhobmgjaaW.PrintWords Go.Proofs.YtagbnkbhobmgjaaW.PrintMore Go.Proofs.YtagbnkbhobmgjaaW.PrintLast
theorem key_nxt {x : Int} (h : W64 x) (h1 : ¬ cls x = 4) (h2 : ¬ x = 9218868437227405312) : key (nxt x) = key x + 1 := by
  obtain ⟨b0, b1⟩ := key_bound h h1
  have hk : ¬ key x = 9218868437227405312 := fun c => h2 ((key_max h h1).1 c)
  rw [nxt_key h h1 h2]
  generalize key x = t at *
  by_cases c : t + 1 < 0 ∨ t + 1 = 0 ∧ t < 0
  · rw [if_pos c, key_p (by omega)]; omega
  · rw [if_neg c, key_n (by omega)]; omega
theorem PatternBetween_j0 {x g : Int} (h : W64 x) (hg : W64 g) (t : Bool) (ht : t = true ↔ cls x = 4 ∨ x = 9218868437227405312) : Ev (fun k => flyballlaw04_PatternBetween.j0 k x g true t) true := by
  cases t with
  | true =>
    have hc := ht.1 rfl
    have e : nxt x = x := by unfold nxt; rw [if_pos hc]
    have hN := (pNext_ev h)
    rw [e] at hN
    refine Ev.step (f := fun k => (pattern_Next.f k x).bind fun t104 => some (t104 == x)) (fun k => by simp only [flyballlaw04_PatternBetween.j0]; rfl) (Ev.bind hN ?_)
    simpa using Ev.now true
  | false =>
    have hc : ¬ (cls x = 4 ∨ x = 9218868437227405312) := fun c => Bool.false_ne_true (ht.2 c)
    have h1 : ¬ cls x = 4 := fun c => hc (Or.inl c)
    have h2 : ¬ x = 9218868437227405312 := fun c => hc (Or.inr c)
    have hN := W64_nxt h
    have hNc := nxt_cls h h1
    have hNk := key_nxt h h1 h2
    have hM := W64_ng hN
    have hMc := ng_cls hN hNc
    have hMk := ng_key hN hNc
    have h3 : ¬ ng (nxt x) = 9218868437227405312 := fun c => by
      have a := (key_max hM hMc).2 c
      have b := (key_bound h h1).1
      omega
    have hP := W64_nxt hM
    have hPc := nxt_cls hM hMc
    have hPk := key_nxt hM hMc h3
    have hQ := W64_ng hP
    have hQc := ng_cls hP hPc
    have hQk := ng_key hP hPc
    have hcmp : cmpF (ng (nxt (ng (nxt x)))) x = (0, true) := by
      unfold cmpF
      rw [if_neg (fun c => c.elim hQc h1), if_neg (by omega), if_neg (by omega)]
    have up : ltF x (nxt x) = true := (ltF_iff _ _).2 ⟨h1, hNc, by omega⟩
    have l1 := (pLess_ev h hg)
    have l2 := (pLess_ev hg hN)
    have c1 := (pCmp_ev hQ h)
    have u1 := (pLess_ev h hN)
    rw [hcmp] at c1
    rw [up] at u1
    refine Ev.step (fun k => by simp only [flyballlaw04_PatternBetween.j0]; rw [if_neg (by simp)]) (Ev.bind ((pNext_ev h)) (Ev.bind ((pPrev_ev hN)) (Ev.bind c1 (Ev.bind u1 (Ev.bind l1 ?_)))))
    cases e1 : (ltF x g) with
    | false => exact Ev.congr (fun k => by simp) (Ev.now true)
    | true =>
      have e1' := (ltF_iff x g).1 e1
      have e2 : (ltF g (nxt x)) = false := by
        cases e3 : (ltF g (nxt x)) with
        | false => rfl
        | true =>
          have e4 := (ltF_iff g (nxt x)).1 e3
          omega
      rw [e2] at l2
      refine Ev.congr (fun k => if_pos rfl) (Ev.bind l2 (Ev.congr (fun k => by simp) (Ev.now true)))
theorem PatternBetween : flyballlaw04_PatternBetween.Pure := by
  intro x g hx hg
  have h := W64_of hx
  have hg := W64_of hg
  refine Ev.rounds ?_
  unfold flyballlaw04_PatternBetween.f
  refine Ev.bind works04_spec (Ev.congr (fun k => if_pos rfl) (Ev.bind ((pClass_ev h)) ?_))
  by_cases h1 : cls x = 4
  · exact Ev.congr (fun k => if_pos h1) (PatternBetween_j0 h hg true ⟨fun _ => Or.inl h1, fun _ => rfl⟩)
  · refine Ev.congr (fun k => if_neg h1) (Ev.bind (evAt 1 pInf_eq) (PatternBetween_j0 h hg _ ?_))
    rw [beq_iff_eq]
    exact ⟨fun c => Or.inr c, fun c => c.resolve_left h1⟩
end Go.Proofs.Ytagbnkbhobmgjaa.Pure
end
