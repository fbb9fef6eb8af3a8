/- The greatest of some rational numbers is one of them, and none is above; where there is none it is 0; and order is order. Part 17 of 19. -/
import Derived.Test.YtagbnkbhobmgjaaRatioMostP
import Derived.Test.YtagbnkbhobmgjaaRatioMostE
import Derived.Deep.Slices
import Derived.Deep.Strs
import Derived.DataReads
section
/- A row of rational numbers that comes in as an argument of a law. -/
set_option linter.unusedVariables false
namespace Go.Proofs.Ytagbnkbhobmgjaa.RowR
open Go.ChangeShapes Go.WideShapes Go.ChangeAt Go.RowKit Go.Joins
open Go.Proofs.YtagbnkbhobmgjaaW.PrintWords Go.Proofs.Ytagbnkbhobmgjaa.Fn
theorem choose_list {α : Type} {R : Nat → α → Prop} : ∀ (n : Nat), (∀ i, i < n → ∃ x, R i x) → ∃ xs : List α, xs.length = n ∧ ∀ i x, xs[i]? = some x → R i x
  | 0, _ => ⟨[], rfl, fun i x h => by simp at h⟩
  | n + 1, h => by
    obtain ⟨xs, hl, hx⟩ := choose_list n (fun i hi => h i (by omega))
    obtain ⟨x, hR⟩ := h n (by omega)
    refine ⟨xs ++ [x], by simp [hl], fun i y hy => ?_⟩
    by_cases hi : i < n
    · rw [List.getElem?_append_left (by omega)] at hy; exact hx i y hy
    · rw [List.getElem?_append_right (by omega)] at hy
      have e : i = n := by
        have := (List.getElem?_eq_some_iff.1 hy).1
        simp at this; omega
      subst e
      rw [hl, Nat.sub_self] at hy
      simp at hy
      subst hy
      exact hR
set_option maxRecDepth 100000 in
/-- One element: its three cells and what they lead to. -/
theorem elem_of {H : Type} {enc : TypeId × Value → H} {W : World} {n : Nat} {cs : List Value} {y : DataW H × List MemPlace} (h : DataW.trod enc Try.prog W 0 (fun _ => true) true n 69 cs = some y) :
    ∃ x : S69, k69.K W x cs ∧ cs.length = 3 ∧ (∀ n ∈ x.f1, (Lit.int .u32 n).wf = true) ∧ (∀ n ∈ x.f2, (Lit.int .u32 n).wf = true) := by
  obtain ⟨y0, y1, y2, m, rfl, hl, h0, h1, h2⟩ := Go.Deep.trod_struct3 Try.underlying69 h
  have hl3 : cs.length = 3 := hl.trans (by kernel_rfl)
  match cs, hl3 with
  | [c0, c1, c2], _ =>
    have s0 : Try.prog.cellsOf 4 = 1 := by kernel_rfl
    have s1 : Try.prog.cellsOf 23 = 1 := by kernel_rfl
    dsimp only at h0 h1 h2
    rw [s0] at h0
    rw [s1] at h1 h2
    have h0' : DataW.trod enc Try.prog W 0 (fun _ => true) true m 4 [c0] = some y0 := h0
    have h1' : DataW.trod enc Try.prog W 0 (fun _ => true) true m 23 [c1] = some y1 := h1
    have h2' : DataW.trod enc Try.prog W 0 (fun _ => true) true m 23 [c2] = some y2 := h2
    obtain ⟨b, hb, _⟩ := DataW.trod_bool Try.underlying4 h0'
    obtain ⟨a1, len1, cap1, z1, rfl, w1⟩ := row_of h1'
    obtain ⟨a2, len2, cap2, z2, rfl, w2⟩ := row_of h2'
    simp at hb
    subst hb
    obtain ⟨l1, rfl, hr1, hm1, hw1, hc1⟩ := ReadsInt.ofRowC w1
    obtain ⟨l2, rfl, hr2, hm2, hw2, hc2⟩ := ReadsInt.ofRowC w2
    exact ⟨⟨b, l1, l2⟩, k69_mk W ⟨b, l1, l2⟩ hc1 (Kd.C_of_reads (d := (0 : Int)) (h1 := fun _ => rfl) hr1) hc2 (Kd.C_of_reads (d := (0 : Int)) (h1 := fun _ => rfl) hr2), rfl, hw1, hw2⟩
theorem open_L {H : Type} {enc : TypeId × Value → H} {W : World} {A : Option Addr} {len cap : Nat} {d : DataW H} {p : List MemPlace} (h : DataW.Trod enc Try.prog W 0 (fun _ => true) true 66 (.slice A len cap) d p) :
    ∃ xs : List S69, len = xs.length ∧ xs.length ≤ cap ∧ xs.length ≤ maxLen ∧ Kd.C k69 W A xs.length xs ∧ ∀ x ∈ xs, (∀ n ∈ x.f1, (Lit.int .u32 n).wf = true) ∧ (∀ n ∈ x.f2, (Lit.int .u32 n).wf = true) := by
  obtain ⟨fuel, hf⟩ := h
  rcases Go.Deep.open_slice Try.underlying66 hf with ⟨hcs, _⟩ | ⟨a, l, c, m, n, D, Pl, hcs, _, hl, hm, hmm, _, hx⟩
  · simp [Value.cells] at hcs
    obtain ⟨rfl, rfl, rfl⟩ := hcs
    exact ⟨[], rfl, Nat.le_refl _, by simp, Kd.C_nil k69 W, fun x hx => by cases hx⟩
  · simp [Value.cells] at hcs
    obtain ⟨rfl, rfl, rfl⟩ := hcs
    have hlm : len ≤ m := by rw [hmm]; split <;> omega
    have h3 : Try.prog.cellsOf 69 = 3 := by kernel_rfl
    obtain ⟨xs, hlen, hxs⟩ := choose_list (R := fun i (x : S69) => ∃ cs, W.cells? 0 (a.add (i * 3)) 3 = some cs ∧ k69.K W x cs ∧ cs.length = 3 ∧ (∀ n ∈ x.f1, (Lit.int .u32 n).wf = true) ∧ (∀ n ∈ x.f2, (Lit.int .u32 n).wf = true)) len (fun i hi => by
      obtain ⟨cs', hc, ht⟩ := hx i (by omega)
      rw [h3] at hc
      obtain ⟨x, hk⟩ := elem_of ht
      exact ⟨x, cs', hc, hk⟩)
    subst hlen
    have hmax : xs.length ≤ maxLen := Nat.le_trans hl hm
    refine ⟨xs, rfl, hl, hmax, ⟨rfl, Nat.le_trans hmax (of_decide_eq_true (by kernel_rfl)), fun _ => ⟨a, rfl, fun j p hj => ?_⟩⟩, fun x hmem => ?_⟩
    · obtain ⟨cs, hc, hk, h3', _⟩ := hxs j p hj
      refine ⟨cs, h3', hk, fun i u hu => ?_⟩
      obtain ⟨_, _, hget⟩ := World.cells?_some hc
      have hi : i < 3 := by have := (List.getElem?_eq_some_iff.1 hu).1; omega
      have := hget i hi
      rw [hu] at this
      have ea : (a.add (j * 3)).add i = a.add (j * 3 + i) := Go.Addr.add_add _ _ _
      have e2 : W.cell? (a.add (j * 3 + i)) = some u := by rw [← ea]; exact this
      exact e2
    · obtain ⟨i, hi, rfl⟩ := List.getElem_of_mem hmem
      obtain ⟨cs, _, _, _, hw⟩ := hxs i _ (List.getElem?_eq_getElem hi)
      exact hw
end Go.Proofs.Ytagbnkbhobmgjaa.RowR
end
