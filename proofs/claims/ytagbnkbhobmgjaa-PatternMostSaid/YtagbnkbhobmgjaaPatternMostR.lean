/- The greatest of some is one of them, and none is above; the least likewise; where one is no number, or there is none, it is the quiet NaN. Part 18 of 21. -/
import Derived.Test.YtagbnkbhobmgjaaPatternMostN
import Derived.Test.YtagbnkbhobmgjaaPatternMostQ
section
/- The greatest of some floats is one of them, and none is above; the least likewise; where one is no number, or there is none, it is the quiet NaN. -/
set_option linter.unusedVariables false
set_option linter.unusedSimpArgs false
namespace Go.Proofs.Ytagbnkbhobmgjaa.Pure
open Go.RowKit Go.Proofs.Ytagbnkbhobmgjaa.Fn Go.Proofs.YtagbnkbhobmgjaaW.PrintWords Go.Proofs.YtagbnkbhobmgjaaW.PrintMore Go.Proofs.YtagbnkbhobmgjaaW.PrintLast
/-- They are words of 64 bits. -/
def WL (l : List Int) : Prop := ∀ x ∈ l, W64 x
theorem WL_rd {l : List Int} (h : WL l) (i : Nat) (hi : i < l.length) : W64 (rd l (i : Int)) := by
  rw [rd_lt l i hi]; exact h _ (List.getElem_mem hi)
def isNan (x : Int) : Bool := cls x == 4
theorem pNan_ev {x : Int} (h : W64 x) : Ev (fun k => pattern_nan.f k x) (isNan x) := by
  unfold pattern_nan.f
  exact Ev.bind (pClass_ev h) (Ev.now _)
/-- The best of some, by a test. -/
def bestOf (t : Int → Int → Bool) (m : Int) (l : List Int) : Int := l.foldl (fun m f => if t m f = true then f else m) m
theorem Max_ev (l : List Int) (hl : WL l) (hn : l.length ≤ 1000000000) : ∀ (d i : Nat) (m : Int), i + d = l.length → W64 m →
    Ev (fun k => pattern_bestMax.l0 k m l (l.length : Int) (i : Int)) (if (l.drop i).any isNan = true then 9221120237041090560 else bestOf ltF m (l.drop i))
  | 0, i, m, hd, hm => by
    rw [List.drop_eq_nil_of_le (by omega)]
    refine Ev.step (f := fun _ => some m) (fun k => ?_) (Ev.now _)
    simp only [pattern_bestMax.l0]
    rw [if_neg (by omega)]
  | d + 1, i, m, hd, hm => by
    have hi : i < l.length := by omega
    have hf := WL_rd hl i hi
    rw [List.drop_eq_getElem_cons hi, ← rd_lt l i hi, List.any_cons]
    have hst : ∀ m', W64 m' → Ev (fun k => pattern_bestMax.l0 k m' l (l.length : Int) (wrap64 ((i : Int) + 1))) (if (l.drop (i + 1)).any isNan = true then 9221120237041090560 else bestOf ltF m' (l.drop (i + 1))) := fun m' hm' => by
      rw [w64 (by omega) (by omega)]
      exact Max_ev l hl hn d (i + 1) m' (by omega) hm'
    generalize hx : rd l (i : Int) = f at *
    refine Ev.step (fun k => by simp only [pattern_bestMax.l0]; rw [if_pos (by omega), if_pos (by omega), if_pos (by omega), hx]) (Ev.bind (pNan_ev hf) ?_)
    cases hc : isNan f with
    | true => exact Ev.congr (fun k => if_pos rfl) (Ev.now _)
    | false =>
      rw [Bool.false_or]
      refine Ev.congr (fun k => if_neg Bool.false_ne_true) (Ev.bind (a := ltF m f) (by unfold pattern_Max1.f; exact Ev.bind (pLess_ev hm hf) (Ev.now _)) ?_)
      show Ev _ (if (l.drop (i + 1)).any isNan = true then 9221120237041090560 else bestOf ltF (if ltF m f = true then f else m) (l.drop (i + 1)))
      by_cases c : ltF m f = true
      · rw [if_pos c]; exact Ev.congr (fun k => if_pos c) (hst f hf)
      · rw [if_neg c]; exact Ev.congr (fun k => if_neg c) (hst m hm)
theorem Min_ev (l : List Int) (hl : WL l) (hn : l.length ≤ 1000000000) : ∀ (d i : Nat) (m : Int), i + d = l.length → W64 m →
    Ev (fun k => pattern_bestMin.l0 k m l (l.length : Int) (i : Int)) (if (l.drop i).any isNan = true then 9221120237041090560 else bestOf (fun m f => ltF f m) m (l.drop i))
  | 0, i, m, hd, hm => by
    rw [List.drop_eq_nil_of_le (by omega)]
    refine Ev.step (f := fun _ => some m) (fun k => ?_) (Ev.now _)
    simp only [pattern_bestMin.l0]
    rw [if_neg (by omega)]
  | d + 1, i, m, hd, hm => by
    have hi : i < l.length := by omega
    have hf := WL_rd hl i hi
    rw [List.drop_eq_getElem_cons hi, ← rd_lt l i hi, List.any_cons]
    have hst : ∀ m', W64 m' → Ev (fun k => pattern_bestMin.l0 k m' l (l.length : Int) (wrap64 ((i : Int) + 1))) (if (l.drop (i + 1)).any isNan = true then 9221120237041090560 else bestOf (fun m f => ltF f m) m' (l.drop (i + 1))) := fun m' hm' => by
      rw [w64 (by omega) (by omega)]
      exact Min_ev l hl hn d (i + 1) m' (by omega) hm'
    generalize hx : rd l (i : Int) = f at *
    refine Ev.step (fun k => by simp only [pattern_bestMin.l0]; rw [if_pos (by omega), if_pos (by omega), if_pos (by omega), hx]) (Ev.bind (pNan_ev hf) ?_)
    cases hc : isNan f with
    | true => exact Ev.congr (fun k => if_pos rfl) (Ev.now _)
    | false =>
      rw [Bool.false_or]
      refine Ev.congr (fun k => if_neg Bool.false_ne_true) (Ev.bind (pLess_ev hf hm) ?_)
      show Ev _ (if (l.drop (i + 1)).any isNan = true then 9221120237041090560 else bestOf (fun m f => ltF f m) (if ltF f m = true then f else m) (l.drop (i + 1)))
      by_cases c : ltF f m = true
      · rw [if_pos c]; exact Ev.congr (fun k => if_pos c) (hst f hf)
      · rw [if_neg c]; exact Ev.congr (fun k => if_neg c) (hst m hm)
theorem pMax_ev (l : List Int) (hl : WL l) (hn : l.length ≤ 1000000000) : Ev (fun k => pattern_Max.f k l) (if l = [] ∨ l.any isNan = true then 9221120237041090560 else bestOf ltF (rd l 0) l) := by
  unfold pattern_Max.f pattern_bestMax.f
  cases l with
  | nil => exact Ev.congr (fun k => rfl) (Ev.now _)
  | cons x xs =>
    have h0 := Max_ev (x :: xs) hl hn (x :: xs).length 0 (rd (x :: xs) 0) (by omega) (hl x List.mem_cons_self)
    rw [List.drop_zero] at h0
    have e : (if (x :: xs) = [] ∨ (x :: xs).any isNan = true then (9221120237041090560 : Int) else bestOf ltF (rd (x :: xs) 0) (x :: xs)) = (if (x :: xs).any isNan = true then 9221120237041090560 else bestOf ltF (rd (x :: xs) 0) (x :: xs)) := by simp
    rw [e]
    exact Ev.bind (Ev.congr (fun k => by rw [if_neg (by simp; omega), if_pos (by simp)]; rfl) h0) (Ev.now _)
theorem pMin_ev (l : List Int) (hl : WL l) (hn : l.length ≤ 1000000000) : Ev (fun k => pattern_Min.f k l) (if l = [] ∨ l.any isNan = true then 9221120237041090560 else bestOf (fun m f => ltF f m) (rd l 0) l) := by
  unfold pattern_Min.f pattern_bestMin.f
  cases l with
  | nil => exact Ev.congr (fun k => rfl) (Ev.now _)
  | cons x xs =>
    have h0 := Min_ev (x :: xs) hl hn (x :: xs).length 0 (rd (x :: xs) 0) (by omega) (hl x List.mem_cons_self)
    rw [List.drop_zero] at h0
    have e : (if (x :: xs) = [] ∨ (x :: xs).any isNan = true then (9221120237041090560 : Int) else bestOf (fun m f => ltF f m) (rd (x :: xs) 0) (x :: xs)) = (if (x :: xs).any isNan = true then 9221120237041090560 else bestOf (fun m f => ltF f m) (rd (x :: xs) 0) (x :: xs)) := by simp
    rw [e]
    exact Ev.bind (Ev.congr (fun k => by rw [if_neg (by simp; omega), if_pos (by simp)]; rfl) h0) (Ev.now _)
/-- The best is one of them, and none is better. -/
theorem bestMax_prop : ∀ (l : List Int) (m : Int), (∀ x ∈ l, ¬ cls x = 4) → ¬ cls m = 4 → (bestOf ltF m l = m ∨ bestOf ltF m l ∈ l) ∧ ¬ cls (bestOf ltF m l) = 4 ∧ key m ≤ key (bestOf ltF m l) ∧ ∀ x ∈ l, key x ≤ key (bestOf ltF m l)
  | [], m, _, hm => ⟨Or.inl rfl, hm, Int.le_refl _, fun x hx => by cases hx⟩
  | f :: fs, m, hl, hm => by
    have hf := hl f List.mem_cons_self
    have hfs : ∀ x ∈ fs, ¬ cls x = 4 := fun x hx => hl x (List.mem_cons_of_mem _ hx)
    have e : bestOf ltF m (f :: fs) = bestOf ltF (if ltF m f = true then f else m) fs := rfl
    rw [e]
    by_cases c : ltF m f = true
    · rw [if_pos c]
      have c' := (ltF_iff m f).1 c
      obtain ⟨a1, a2, a3, a4⟩ := bestMax_prop fs f hfs hf
      refine ⟨Or.inr ?_, a2, by omega, ?_⟩
      · rcases a1 with a1 | a1
        · rw [a1]; exact List.mem_cons_self
        · exact List.mem_cons_of_mem _ a1
      · intro x hx
        rcases List.mem_cons.1 hx with hx | hx
        · subst hx; exact a3
        · exact a4 x hx
    · rw [if_neg c]
      obtain ⟨a1, a2, a3, a4⟩ := bestMax_prop fs m hfs hm
      have c' : key f ≤ key m := by
        rcases Int.lt_or_le (key m) (key f) with h | h
        · exact absurd ((ltF_iff m f).2 ⟨hm, hf, h⟩) c
        · exact h
      refine ⟨?_, a2, a3, ?_⟩
      · rcases a1 with a1 | a1
        · exact Or.inl a1
        · exact Or.inr (List.mem_cons_of_mem _ a1)
      · intro x hx
        rcases List.mem_cons.1 hx with hx | hx
        · subst hx; omega
        · exact a4 x hx
theorem bestMin_prop : ∀ (l : List Int) (m : Int), (∀ x ∈ l, ¬ cls x = 4) → ¬ cls m = 4 → (bestOf (fun m f => ltF f m) m l = m ∨ bestOf (fun m f => ltF f m) m l ∈ l) ∧ ¬ cls (bestOf (fun m f => ltF f m) m l) = 4 ∧ key (bestOf (fun m f => ltF f m) m l) ≤ key m ∧ ∀ x ∈ l, key (bestOf (fun m f => ltF f m) m l) ≤ key x
  | [], m, _, hm => ⟨Or.inl rfl, hm, Int.le_refl _, fun x hx => by cases hx⟩
  | f :: fs, m, hl, hm => by
    have hf := hl f List.mem_cons_self
    have hfs : ∀ x ∈ fs, ¬ cls x = 4 := fun x hx => hl x (List.mem_cons_of_mem _ hx)
    have e : bestOf (fun m f => ltF f m) m (f :: fs) = bestOf (fun m f => ltF f m) (if ltF f m = true then f else m) fs := rfl
    rw [e]
    by_cases c : ltF f m = true
    · rw [if_pos c]
      have c' := (ltF_iff f m).1 c
      obtain ⟨a1, a2, a3, a4⟩ := bestMin_prop fs f hfs hf
      refine ⟨Or.inr ?_, a2, by omega, ?_⟩
      · rcases a1 with a1 | a1
        · rw [a1]; exact List.mem_cons_self
        · exact List.mem_cons_of_mem _ a1
      · intro x hx
        rcases List.mem_cons.1 hx with hx | hx
        · subst hx; exact a3
        · exact a4 x hx
    · rw [if_neg c]
      obtain ⟨a1, a2, a3, a4⟩ := bestMin_prop fs m hfs hm
      have c' : key m ≤ key f := by
        rcases Int.lt_or_le (key f) (key m) with h | h
        · exact absurd ((ltF_iff f m).2 ⟨hf, hm, h⟩) c
        · exact h
      refine ⟨?_, a2, a3, ?_⟩
      · rcases a1 with a1 | a1
        · exact Or.inl a1
        · exact Or.inr (List.mem_cons_of_mem _ a1)
      · intro x hx
        rcases List.mem_cons.1 hx with hx | hx
        · subst hx; omega
        · exact a4 x hx
theorem ltF_no {a b : Int} (h : key b ≤ key a) : ltF a b = false := by
  cases e : ltF a b with
  | false => rfl
  | true => have := (ltF_iff a b).1 e; omega
theorem any_take (l : List Int) (a : Int) (i : Nat) (hi : i < l.length) : (l.take (i + 1)).any (a == ·) = ((l.take i).any (a == ·) || (a == rd l (i : Int))) := by
  rw [List.take_succ_eq_append_getElem hi, List.any_append, rd_lt l i hi]; simp
theorem any_takeN (l : List Int) (i : Nat) (hi : i < l.length) : (l.take (i + 1)).any isNan = ((l.take i).any isNan || isNan (rd l (i : Int))) := by
  rw [List.take_succ_eq_append_getElem hi, List.any_append, rd_lt l i hi]; simp
theorem Most_l1 (l : List Int) (hl : WL l) (hn : l.length ≤ 100) (a b : Int) (ha : W64 a) (hb : W64 b) (hma : a ∈ l) (hmb : b ∈ l) (ua : ∀ x ∈ l, key x ≤ key a) (ub : ∀ x ∈ l, key b ≤ key x) : ∀ (d i : Nat), i + d = l.length →
    Ev (fun k => flyballlaw04_PatternMost.l1 k l true a b ((l.take i).any (a == ·)) ((l.take i).any (b == ·)) (i : Int)) true
  | 0, i, hd => by
    rw [List.take_of_length_le (by omega)]
    have e1 : l.any (a == ·) = true := List.any_eq_true.2 ⟨a, hma, by simp⟩
    have e2 : l.any (b == ·) = true := List.any_eq_true.2 ⟨b, hmb, by simp⟩
    rw [e1, e2]
    refine Ev.step (f := fun _ => some true) (fun k => ?_) (Ev.now _)
    simp only [flyballlaw04_PatternMost.l1]
    rw [if_neg (by omega)]
    rfl
  | d + 1, i, hd => by
    have hi : i < l.length := by omega
    have ih := Most_l1 l hl hn a b ha hb hma hmb ua ub d (i + 1) (by omega)
    rw [any_take l a i hi, any_take l b i hi] at ih
    have hx := WL_rd hl i hi
    have hxm : rd l (i : Int) ∈ l := by rw [rd_lt l i hi]; exact List.getElem_mem hi
    have l1 := pLess_ev ha hx
    rw [ltF_no (ua _ hxm)] at l1
    have l2 := pLess_ev hx hb
    rw [ltF_no (ub _ hxm)] at l2
    have ew : wrap64 ((i : Int) + 1) = ((i + 1 : Nat) : Int) := w64 (by omega) (by omega)
    refine Ev.step (fun k => by simp only [flyballlaw04_PatternMost.l1]; rw [if_pos (by omega), if_pos (by omega), ew]) (Ev.bind l1 (Ev.congr (fun k => if_neg Bool.false_ne_true) (Ev.bind l2 (Ev.congr (fun k => if_neg Bool.false_ne_true) ?_))))
    cases c1 : (l.take i).any (a == ·) <;> cases c2 : (l.take i).any (b == ·) <;> rw [c1, c2] at ih <;> simpa using ih
theorem Most_l0 (l : List Int) (hl : WL l) (hn : l.length ≤ 100) (a b : Int) (b0 : Bool)
    (hbad : (b0 || l.any isNan) = true → a = 9221120237041090560 ∧ b = 9221120237041090560)
    (hgood : (b0 || l.any isNan) = false → Ev (fun k => flyballlaw04_PatternMost.l1 k l true a b false false 0) true) : ∀ (d i : Nat), i + d = l.length →
    Ev (fun k => flyballlaw04_PatternMost.l0 k l true a b (b0 || (l.take i).any isNan) (i : Int)) true
  | 0, i, hd => by
    rw [List.take_of_length_le (by omega)]
    cases hc : (b0 || l.any isNan) with
    | true =>
      obtain ⟨e1, e2⟩ := hbad hc
      subst e1 e2
      refine Ev.step (f := fun _ => some true) (fun k => ?_) (Ev.now _)
      simp only [flyballlaw04_PatternMost.l0]
      rw [if_neg (by omega)]
      rfl
    | false =>
      refine Ev.step (fun k => ?_) (hgood hc)
      simp only [flyballlaw04_PatternMost.l0]
      rw [if_neg (by omega), if_neg Bool.false_ne_true]
  | d + 1, i, hd => by
    have hi : i < l.length := by omega
    have ih := Most_l0 l hl hn a b b0 hbad hgood d (i + 1) (by omega)
    rw [any_takeN l i hi, ← Bool.or_assoc] at ih
    have hx := WL_rd hl i hi
    have ew : wrap64 ((i : Int) + 1) = ((i + 1 : Nat) : Int) := w64 (by omega) (by omega)
    cases hc : (b0 || (l.take i).any isNan) with
    | true =>
      rw [hc, Bool.true_or] at ih
      refine Ev.step (fun k => ?_) ih
      simp only [flyballlaw04_PatternMost.l0]
      rw [if_pos (by omega), ew]
      rfl
    | false =>
      rw [hc, Bool.false_or] at ih
      refine Ev.step (fun k => by simp only [flyballlaw04_PatternMost.l0]; rw [if_pos (by omega), if_neg Bool.false_ne_true, if_pos (by omega), ew]) (Ev.bind (pClass_ev hx) ih)
theorem PatternMost : flyballlaw04_PatternMost.Pure := by
  intro l _ _ hl'
  have hl : WL l := fun x hx => W64_of (hl' x hx)
  refine Ev.rounds ?_
  unfold flyballlaw04_PatternMost.f
  refine Ev.bind works04_spec (Ev.congr (fun k => if_pos rfl) ?_)
  by_cases hn : (l.length : Int) > 100
  · exact Ev.congr (fun k => if_pos hn) (Ev.now true)
  · refine Ev.congr (fun k => if_neg hn) (Ev.bind (pMax_ev l hl (by omega)) (Ev.bind (pMin_ev l hl (by omega)) ?_))
    have h0 := Most_l0 l hl (by omega) (if l = [] ∨ l.any isNan = true then 9221120237041090560 else bestOf ltF (rd l 0) l) (if l = [] ∨ l.any isNan = true then 9221120237041090560 else bestOf (fun m f => ltF f m) (rd l 0) l) ((l.length : Int) == 0) ?_ ?_ l.length 0 (by omega)
    · rw [List.take_zero, List.any_nil, Bool.or_false] at h0
      exact h0
    · intro h
      have : l = [] ∨ l.any isNan = true := by
        rcases Bool.or_eq_true_iff.1 h with h | h
        · left; exact List.eq_nil_of_length_eq_zero (by have := beq_iff_eq.1 h; omega)
        · exact Or.inr h
      rw [if_pos this, if_pos this]; exact ⟨rfl, rfl⟩
    · intro h
      rw [Bool.or_eq_false_iff] at h
      obtain ⟨hz, hnan⟩ := h
      cases l with
      | nil => simp at hz
      | cons x xs =>
        have hnn : ¬ ((x :: xs) = [] ∨ (x :: xs).any isNan = true) := fun c => c.elim (fun c => by cases c) (fun c => by rw [hnan] at c; cases c)
        rw [if_neg hnn, if_neg hnn]
        have hcl : ∀ y ∈ (x :: xs), ¬ cls y = 4 := fun y hy c => by
          have := List.any_eq_false.1 hnan y hy
          unfold isNan at this
          rw [c] at this; exact this rfl
        have h1 := hcl x List.mem_cons_self
        have e0 : rd (x :: xs) 0 = x := rfl
        rw [e0]
        obtain ⟨a1, a2, a3, a4⟩ := bestMax_prop (x :: xs) x hcl h1
        obtain ⟨b1, b2, b3, b4⟩ := bestMin_prop (x :: xs) x hcl h1
        have ma : bestOf ltF x (x :: xs) ∈ x :: xs := a1.elim (fun c => by rw [c]; exact List.mem_cons_self) id
        have mb : bestOf (fun m f => ltF f m) x (x :: xs) ∈ x :: xs := b1.elim (fun c => by rw [c]; exact List.mem_cons_self) id
        have := Most_l1 (x :: xs) hl (by omega) _ _ (hl _ ma) (hl _ mb) ma mb a4 b4 (x :: xs).length 0 (by omega)
        rw [List.take_zero, List.any_nil, List.any_nil] at this
        exact this
end Go.Proofs.Ytagbnkbhobmgjaa.Pure
end
