/- The statement NatAdds is proved: sums, differences, products and comparisons are what the document says, for every two rows of words of 32 bits that the statement's guard lets in; no condition. Part 15 of 18. -/
import Derived.Test.YtagbnkbhobmgjaaNatAddsN
import Derived.Test.YtagbnkbhobmgjaaNatAddsM
section
/- What the guard of the chapter on numbers tells, and what a word's literal says. -/
set_option linter.unusedVariables false
namespace Go.Proofs.Ytagbnkbhobmgjaa.Pure
open Go.RowKit Go.Proofs.Ytagbnkbhobmgjaa.Fn Go.Proofs.YtagbnkbhobmgjaaW.PrintWords Go.Proofs.YtagbnkbhobmgjaaW.PrintMore Go.Proofs.YtagbnkbhobmgjaaW.PrintLast
theorem WD_of {a : List Int} (h : ∀ x ∈ a, (Lit.int .u32 x).wf = true) : WD a := by
  intro x hx
  have := h x hx
  simp [Lit.wf, IntKind.min, IntKind.max, IntKind.bits, IntKind.signed] at this
  omega
theorem rdL2_lt (a : List (List Int)) (i : Nat) (h : i < a.length) : rd_L2 a (i : Int) = a[i] := by
  unfold rd_L2; simp [List.getD_eq_getElem?_getD, h]
theorem small_ev (ls : List (List Int)) (hm : ls.length ≤ 1000000000) : ∀ (d i : Nat), i + d = ls.length → Ev (fun k => flyballlaw02_small.l0 k ls (i : Int)) ((ls.drop i).all fun l => decide (l.length ≤ 24))
  | 0, i, hd => by
    rw [List.drop_eq_nil_of_le (by omega)]
    refine Ev.step (f := fun _ => some true) (fun k => ?_) (Ev.now _)
    simp only [flyballlaw02_small.l0]
    rw [if_neg (by omega)]
  | d + 1, i, hd => by
    rw [List.drop_eq_getElem_cons (by omega : i < ls.length), List.all_cons, ← rdL2_lt ls i (by omega)]
    by_cases h : (rd_L2 ls (i : Int)).length ≤ 24
    · rw [decide_eq_true h, Bool.true_and]
      refine Ev.step (fun k => ?_) (small_ev ls hm d (i + 1) (by omega))
      simp only [flyballlaw02_small.l0]
      rw [if_pos (by omega), if_pos (by omega), if_neg (by omega), w64 (by omega) (by omega)]
      rfl
    · rw [decide_eq_false h, Bool.false_and]
      refine Ev.step (f := fun _ => some false) (fun k => ?_) (Ev.now _)
      simp only [flyballlaw02_small.l0]
      rw [if_pos (by omega), if_pos (by omega), if_pos (by omega)]
theorem small_spec (ls : List (List Int)) (hm : ls.length ≤ 1000000000) : Ev (fun k => flyballlaw02_small.f k ls) (ls.all fun l => decide (l.length ≤ 24)) := small_ev ls hm ls.length 0 (by omega)
theorem words_le {n : Nat} (k : Nat) (hk : 32 * k ≤ 100000000000) (h : n < BW ^ k) : (words n).length ≤ 1000000000000 := Nat.le_trans (words_len k n h) (by omega)
theorem bits_wv_len {a : List Int} (ha : WD a) : (bits (wv a)).length ≤ 32 * a.length := by
  refine bits_len _ _ ?_
  have := wv_lt ha
  rw [Nat.pow_mul]; exact this
end Go.Proofs.Ytagbnkbhobmgjaa.Pure
end
section
/- Sums, differences, products and comparisons answer as the document says. -/
set_option linter.unusedVariables false
namespace Go.Proofs.Ytagbnkbhobmgjaa.Pure
open Go.RowKit Go.Proofs.Ytagbnkbhobmgjaa.Fn Go.Proofs.YtagbnkbhobmgjaaW.PrintWords Go.Proofs.YtagbnkbhobmgjaaW.PrintMore Go.Proofs.YtagbnkbhobmgjaaW.PrintLast
theorem NatAdds : flyballlaw02_NatAdds.Pure := by
  intro a b la _ ha lb _ hb
  have hWa := WD_of ha
  have hWb := WD_of hb
  refine Ev.rounds ?_
  unfold flyballlaw02_NatAdds.f
  refine Ev.bind works02_spec ?_
  refine Ev.congr (fun k => if_pos rfl) ?_
  have hs := small_spec [a, b] (by simp)
  refine Ev.bind hs ?_
  by_cases hsm' : ¬ ([a, b].all fun l => decide (l.length ≤ 24)) = true
  · have hsm := hsm'
    simp only [if_neg hsm]; exact Ev.now _
  have hsm := Decidable.not_not.1 hsm'
  simp only [if_pos hsm]
  have hl : a.length ≤ 24 ∧ b.length ≤ 24 := by simpa using hsm
  obtain ⟨l1, l2⟩ := hl
  have n1 := bits_wv_len hWa
  have n2 := bits_wv_len hWb
  refine Ev.bind (Bits_spec hWa (by omega)) (Ev.bind (Bits_spec hWb (by omega)) (Ev.bind (RCmp_spec _ _ (by omega) (by omega)) (Ev.bind (Add_spec hWa hWb (by omega) (by omega)) ?_)))
  obtain ⟨s, e1, v1, z1⟩ := RAdd_spec (bits (wv a)) (bits (wv b)) (by omega) (by omega)
  refine Ev.bind e1 (Ev.bind (Is_spec _ _ ?_ (by omega)) (Ev.bind (Mul_spec hWa hWb (by omega) (by omega)) ?_))
  · have h1 := wv_lt hWa
    have h2 := wv_lt hWb
    have h3 : BW ^ a.length ≤ BW ^ 24 := Nat.pow_le_pow_right BW_pos l1
    have h4 : BW ^ b.length ≤ BW ^ 24 := Nat.pow_le_pow_right BW_pos l2
    refine words_le 25 (by omega) ?_
    have : BW ^ 25 = BW ^ 24 * BW := by rw [← Nat.pow_succ]
    rw [this, BW_eq] at *
    omega
  obtain ⟨m, e2, v2, z2⟩ := RMul_spec (bits (wv a)) (bits (wv b)) (by omega)
  refine Ev.bind e2 (Ev.bind (Is_spec _ _ ?_ (by omega)) (Ev.bind (Sub_spec hWa hWb (by omega) (by omega)) ?_))
  · have h1 := wv_lt hWa
    have h2 := wv_lt hWb
    have h3 : BW ^ a.length ≤ BW ^ 24 := Nat.pow_le_pow_right BW_pos l1
    have h4 : BW ^ b.length ≤ BW ^ 24 := Nat.pow_le_pow_right BW_pos l2
    refine words_le 48 (by omega) ?_
    have : BW ^ 48 = BW ^ 24 * BW ^ 24 := by rw [← Nat.pow_add]
    rw [this]
    exact Nat.mul_lt_mul'' (Nat.lt_of_lt_of_le h1 h3) (Nat.lt_of_lt_of_le h2 h4)
  rw [bv_bits, bv_bits] at v1 v2 ⊢
  have hc := Cmp_spec hWa hWb (by omega) (by omega)
  rw [v1, v2]
  simp only [decide_true, if_true]
  by_cases hlt : wv a < wv b
  · have hneg : cmpN (wv a) (wv b) < 0 := by rw [cmpN_lt hlt]; omega
    simp only [if_pos hneg, if_pos hlt]
    simp only [Bool.false_eq_true, if_false, List.length_nil]
    refine Ev.congr (fun k => if_pos rfl) (Ev.bind hc ?_)
    simpa using Ev.now true
  · have hneg : ¬ cmpN (wv a) (wv b) < 0 := by
      unfold cmpN; rw [if_neg hlt]; split <;> omega
    simp only [if_neg hneg, if_neg hlt]
    obtain ⟨d, e3, v3, z3⟩ := RSub_spec (bits (wv a)) (bits (wv b)) (bits (wv a)).length (by omega) (Nat.le_refl _) (by rw [bv_bits, bv_bits]; omega)
    rw [bv_bits, bv_bits] at v3
    refine Ev.bind e3 (Ev.bind (Is_spec _ d ?_ (by omega)) ?_)
    · have h1 := wv_lt hWa
      have h3 : BW ^ a.length ≤ BW ^ 24 := Nat.pow_le_pow_right BW_pos l1
      exact words_le 24 (by omega) (by omega)
    rw [v3]
    simp only [decide_true, if_true]
    refine Ev.bind hc ?_
    simpa using Ev.now true
end Go.Proofs.Ytagbnkbhobmgjaa.Pure
end
