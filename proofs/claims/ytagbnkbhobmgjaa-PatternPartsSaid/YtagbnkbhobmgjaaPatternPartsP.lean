/- A float's parts, its class, and the integer and the power of two that it is, are just what the document says; out of its parts it is made again. Part 16 of 20. -/
import Derived.Test.YtagbnkbhobmgjaaPatternPartsE
import Derived.Test.YtagbnkbhobmgjaaPatternPartsL
section
-- Written by a program of this session (a turned copy of the kit's printer, and hand-written parts). Not trusted: Lean checks it.
namespace Go.Proofs.Ytagbnkbhobmgjaa.Fn
open Go.RowKit Go.Proofs.YtagbnkbhobmgjaaW.PrintWords Go.Proofs.YtagbnkbhobmgjaaW.PrintLast Go.Proofs.YtagbnkbhobmgjaaW.PrintMore
attribute [local go_sem] max2_int min2_int max_two min_two max_three min_three max_four min_four   -- for this text's walks alone
set_option linter.unusedVariables false
set_option linter.unusedSimpArgs false
/-! ### flyballref04_Prev: function 77 -/
def flyballref04_Prev.j0 : Nat → Int → Bool → Option (Int)
 | 0, _, _ => none
 | k + 1, x0, x10 => if x10 = true then (some x0) else ((flyballref04_Key.f x0).bind fun t103 => ((flyballref04_Key.f x0).bind fun t104 => ((flyballref04_Of.f k (wrap64 (t103 - 1)) (decide (t104 ≤ 0))).bind fun t105 => (some t105))))
def flyballref04_Prev.f (k : Nat) (a0 : Int) : Option (Int) := (flyballref04_Class.f k a0).bind fun t101 => (if t101 = 4 then (flyballref04_Prev.j0 k a0 true) else ((flyballref04_Key.f a0).bind fun t102 => (flyballref04_Prev.j0 k a0 (t102 == (-9218868437227405312)))))
theorem flyballref04_Prev.mono_l : ∀ k, (∀ y0 y1, LeO (flyballref04_Prev.j0 k y0 y1) (flyballref04_Prev.j0 (k + 1) y0 y1))
 | 0 => fun _ _ r h => by simp [flyballref04_Prev.j0] at h
 | k + 1 => by
  have ih0 := flyballref04_Prev.mono_l k
  ·intro y0 y1
   unfold flyballref04_Prev.j0
   repeat' first
   | (with_reducible exact ih0 _ _)
   | (with_reducible exact flyballref04_Class.mono _ _)
   | (with_reducible exact flyballref04_Of.mono _ _ _)
   | (with_reducible exact LeO.refl _)
   | (with_reducible exact LeO.none _)
   | (with_reducible refine LeO.ite ?_ ?_)
   | (with_reducible refine LeO.bind ?_ (fun _ => ?_))
   | exact ih0 _ _
   | exact flyballref04_Class.mono _ _
   | exact flyballref04_Of.mono _ _ _
   | exact LeO.none _
   | refine LeO.ite ?_ ?_
   | refine LeO.bind ?_ (fun _ => ?_)
theorem flyballref04_Prev.mono : ∀ a0 k, LeO (flyballref04_Prev.f k a0) (flyballref04_Prev.f (k + 1) a0) := by
 intro a0 k
 have ih0 := flyballref04_Prev.mono_l k
 unfold flyballref04_Prev.f
 repeat' first
   | (with_reducible exact ih0 _ _)
   | (with_reducible exact flyballref04_Class.mono _ _)
   | (with_reducible exact flyballref04_Of.mono _ _ _)
   | (with_reducible exact LeO.refl _)
   | (with_reducible exact LeO.none _)
   | (with_reducible refine LeO.ite ?_ ?_)
   | (with_reducible refine LeO.bind ?_ (fun _ => ?_))
   | exact ih0 _ _
   | exact flyballref04_Class.mono _ _
   | exact flyballref04_Of.mono _ _ _
   | exact LeO.none _
   | refine LeO.ite ?_ ?_
   | refine LeO.bind ?_ (fun _ => ?_)
set_option maxHeartbeats 8000000 in
set_option maxRecDepth 100000 in
theorem flyballref04_Prev.calls (k : Nat) (a0 : Int) (r : Int) (w : World) (h : flyballref04_Prev.f k a0 = some r) :
  Calls Try.prog 77 #[.int .u64 a0] w fun e w' => e = .returned (.int .u64 r) ∧ Drawn0 w w' := by
 have H : ((flyballref04_Class.f k a0).bind fun t101 => (if t101 = 4 then (flyballref04_Prev.j0 k a0 true) else ((flyballref04_Key.f a0).bind fun t102 => (flyballref04_Prev.j0 k a0 (t102 == (-9218868437227405312)))))) = some r := h
 clear h
 have HC2 := Aside0.mk H
 clear H
 go_enter Try.func77, Try.ntmps77
 go_upto_region 1 with (fail)
 go_cut [10] (fun v10 wc => ∃ (kq : Nat) (x10_1 : Bool), v10 = .bool x10_1 ∧ Aside0 (flyballref04_Prev.j0 kq a0 x10_1 = some r) ∧ Aside0 (kq ≤ k) ∧ Drawn0 w wc)
 case first =>
  have H := HC2.out
  clear HC2
  replace H := Option.bind_eq_some_iff.mp H
  obtain ⟨t101, A30, H⟩ := H
  replace H : (if t101 = 4 then (flyballref04_Prev.j0 k a0 true) else ((flyballref04_Key.f a0).bind fun t102 => (flyballref04_Prev.j0 k a0 (t102 == (-9218868437227405312))))) = some r := H
  have A3 := Aside0.mk A30
  clear A30
  by_cases c4 : t101 = 4
  ·rw [if_pos c4] at H
   have c4b0 : (t101 == 4) = true := beq_iff_eq.mpr c4
   have c4b1 : (t101 != 4) = false := bne_eq_false_iff_eq.mpr c4
   clear c4
   (first | rw [c4b0] | (simp only [i64_w, i32_w]; rw [c4b0]) | skip)
   have H' := Aside0.mk H
   clear H
   go_wp2_with (first | ((with_reducible refine gate_callee (f := 71) rfl ?_); refine goesL_ (some 4) rfl rfl Try.func71 (by kernel_rfl) rfl #[.int .u64 a0] rfl (by (try simp only [List.map_toArray, List.map_cons, List.map_nil]); first | done | rfl | (simp only [List.length_drop, List.length_take]; rfl)) ?_; (with_reducible refine (flyballref04_Class.calls k a0 t101 _ A3.out).mono ?_); rintro e w' ⟨rfl, ⟨nd, rfl⟩⟩; refine ⟨_, rfl, ?_⟩))
   go_meet
   case rel => exact ⟨_, (true), (by first | rfl | (simp; done) | (simp [*]; done)), H', ⟨by first | omega | exact Nat.le_refl _⟩, by repeat (first | exact Drawn0.refl _ | apply Drawn0.step)⟩
  ·rw [if_neg c4] at H
   have c4b0 : (t101 == 4) = false := beq_eq_false_iff_ne.mpr c4
   have c4b1 : (t101 != 4) = true := bne_iff_ne.mpr c4
   (first | rw [c4b0] | (simp only [i64_w, i32_w]; rw [c4b0]) | skip)
   replace H := Option.bind_eq_some_iff.mp H
   obtain ⟨t102, A50, H⟩ := H
   replace H : (flyballref04_Prev.j0 k a0 (t102 == (-9218868437227405312))) = some r := H
   have A5 := Aside0.mk A50
   clear A50
   have H' := Aside0.mk H
   clear H
   go_wp2_with (first | ((with_reducible refine gate_callee (f := 71) rfl ?_); refine goesL_ (some 4) rfl rfl Try.func71 (by kernel_rfl) rfl #[.int .u64 a0] rfl (by (try simp only [List.map_toArray, List.map_cons, List.map_nil]); first | done | rfl | (simp only [List.length_drop, List.length_take]; rfl)) ?_; (with_reducible refine (flyballref04_Class.calls k a0 t101 _ A3.out).mono ?_); rintro e w' ⟨rfl, ⟨nd, rfl⟩⟩; refine ⟨_, rfl, ?_⟩) | (go_at_call 122; (with_reducible refine (flyballref04_Key.calls a0 t102 _ A5.out).mono ?_); rintro e w' ⟨rfl, ⟨nd, rfl⟩⟩))
   go_meet
   case rel => exact ⟨_, ((t102 == (-9218868437227405312))), (by first | rfl | (simp; done) | (simp [*]; done)), H', ⟨by first | omega | exact Nat.le_refl _⟩, by repeat (first | exact Drawn0.refl _ | apply Drawn0.step)⟩
 case rest =>
  clear HC2
  try clear p2
  try clear c4
  try clear c4b0
  try clear c4b1
  obtain ⟨kq, x10_1, rfl, HA, HJ1, ⟨mc1, rfl⟩⟩ := hcut
  cases kq with
  | zero => exact absurd HA.out (by simp [flyballref04_Prev.j0])
  | succ kj1 =>
   have H := HA.out
   clear HA
   simp only [flyballref04_Prev.j0] at H
   by_cases c6 : x10_1 = true
   ·subst c6
    have H1 : (some a0) = some r := by rw [if_pos rfl] at H; exact H
    clear H
    have H := H1
    clear H1
    obtain rfl := Option.some.inj H
    go_wp2
    go_ret
    exact ⟨by first | rfl | (simp; done) | (simp [*]; done), by repeat (first | exact Drawn0.refl _ | apply Drawn0.step)⟩
   ·replace c6 := Bool.eq_false_iff.mpr c6
    subst c6
    have H1 : ((flyballref04_Key.f a0).bind fun t103 => ((flyballref04_Key.f a0).bind fun t104 => ((flyballref04_Of.f kj1 (wrap64 (t103 - 1)) (decide (t104 ≤ 0))).bind fun t105 => (some t105)))) = some r := by rw [if_neg (show ¬ (false = true) by decide)] at H; exact H
    clear H
    have H := H1
    clear H1
    replace H := Option.bind_eq_some_iff.mp H
    obtain ⟨t103, A70, H⟩ := H
    replace H : ((flyballref04_Key.f a0).bind fun t104 => ((flyballref04_Of.f kj1 (wrap64 (t103 - 1)) (decide (t104 ≤ 0))).bind fun t105 => (some t105))) = some r := H
    have A7 := Aside0.mk A70
    clear A70
    replace H := Option.bind_eq_some_iff.mp H
    obtain ⟨t104, A80, H⟩ := H
    replace H : ((flyballref04_Of.f kj1 (wrap64 (t103 - 1)) (decide (t104 ≤ 0))).bind fun t105 => (some t105)) = some r := H
    have A8 := Aside0.mk A80
    clear A80
    replace H := Option.bind_eq_some_iff.mp H
    obtain ⟨t105, A90, H⟩ := H
    replace H : (some t105) = some r := H
    have A9 := Aside0.mk A90
    clear A90
    obtain rfl := Option.some.inj H
    go_wp2_with (first | ((with_reducible refine gate_callee (f := 122) rfl ?_); refine goesL_ (some 13) rfl rfl Try.func122 (by kernel_rfl) rfl #[.int .u64 a0] rfl (by (try simp only [List.map_toArray, List.map_cons, List.map_nil]); first | done | rfl | (simp only [List.length_drop, List.length_take]; rfl)) ?_; (with_reducible refine (flyballref04_Key.calls a0 t103 _ A7.out).mono ?_); rintro e w' ⟨rfl, ⟨nd, rfl⟩⟩; refine ⟨_, rfl, ?_⟩) | ((with_reducible refine gate_callee (f := 122) rfl ?_); refine goesL_ (some 16) rfl rfl Try.func122 (by kernel_rfl) rfl #[.int .u64 a0] rfl (by (try simp only [List.map_toArray, List.map_cons, List.map_nil]); first | done | rfl | (simp only [List.length_drop, List.length_take]; rfl)) ?_; (with_reducible refine (flyballref04_Key.calls a0 t104 _ A8.out).mono ?_); rintro e w' ⟨rfl, ⟨nd, rfl⟩⟩; refine ⟨_, rfl, ?_⟩) | ((with_reducible refine gate_callee (f := 123) rfl ?_); refine goesL_ (some 18) rfl rfl Try.func123 (by kernel_rfl) rfl #[.int .i64 (wrap64 (t103 - 1)), .bool (decide (t104 ≤ 0))] rfl (by (try simp only [List.map_toArray, List.map_cons, List.map_nil]); first | done | rfl | (simp only [List.length_drop, List.length_take]; rfl)) ?_; (with_reducible refine (flyballref04_Of.calls kj1 (wrap64 (t103 - 1)) (decide (t104 ≤ 0)) t105 _ A9.out).mono ?_); rintro e w' ⟨rfl, ⟨nd, rfl⟩⟩; refine ⟨_, rfl, ?_⟩))
    go_ret
    exact ⟨by first | rfl | (simp; done) | (simp [*]; done), by repeat (first | exact Drawn0.refl _ | apply Drawn0.step)⟩
end Go.Proofs.Ytagbnkbhobmgjaa.Fn
end
