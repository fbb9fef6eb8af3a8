/- How floats compare is just what the document says, and what their values say. Part 13 of 18. -/
import Derived.Test.YtagbnkbhobmgjaaPatternOrdersE
import Derived.Test.YtagbnkbhobmgjaaPatternOrdersC
section
-- Written by a program of this session (a turned copy of the kit's printer, and hand-written parts). Not trusted: Lean checks it.
namespace Go.Proofs.Ytagbnkbhobmgjaa.Fn
open Go.RowKit Go.Proofs.YtagbnkbhobmgjaaW.PrintWords Go.Proofs.YtagbnkbhobmgjaaW.PrintLast Go.Proofs.YtagbnkbhobmgjaaW.PrintMore
attribute [local go_sem] max2_int min2_int max_two min_two max_three min_three max_four min_four   -- for this text's walks alone
set_option linter.unusedVariables false
set_option linter.unusedSimpArgs false
/-! ### pattern_bestMax: function 124 -/
def pattern_bestMax.l0 : Nat → Int → List Int → Int → Int → Option (Int)
 | 0, _, _, _, _ => none
 | k + 1, x5, x15, x16, x17 => if x17 < x16 then (if 0 ≤ x17 then (if x17 < (x15.length : Int) then ((pattern_nan.f k (rd x15 x17)).bind fun t104 => (if t104 = true then ((pattern_Quiet.f).bind fun t105 => (some t105)) else ((pattern_Max1.f k (rd x15 x17) x5).bind fun t106 => (if t106 = true then (pattern_bestMax.l0 k (rd x15 x17) x15 x16 (wrap64 (x17 + 1))) else (pattern_bestMax.l0 k x5 x15 x16 (wrap64 (x17 + 1))))))) else (none)) else (none)) else (some x5)
def pattern_bestMax.f (k : Nat) (l0 : List Int) : Option (Int) := if (l0.length : Int) = 0 then ((pattern_Quiet.f).bind fun t101 => (some t101)) else (if 0 < (l0.length : Int) then (pattern_bestMax.l0 k (rd l0 0) l0 (l0.length : Int) 0) else (none))
theorem pattern_bestMax.mono_l : ∀ k, (∀ y0 y1 y2 y3, LeO (pattern_bestMax.l0 k y0 y1 y2 y3) (pattern_bestMax.l0 (k + 1) y0 y1 y2 y3))
 | 0 => fun _ _ _ _ r h => by simp [pattern_bestMax.l0] at h
 | k + 1 => by
  have ih0 := pattern_bestMax.mono_l k
  ·intro y0 y1 y2 y3
   unfold pattern_bestMax.l0
   repeat' first
   | (with_reducible exact ih0 _ _ _ _)
   | (with_reducible exact pattern_Max1.mono _ _ _)
   | (with_reducible exact pattern_nan.mono _ _)
   | (with_reducible exact LeO.refl _)
   | (with_reducible exact LeO.none _)
   | (with_reducible refine LeO.ite ?_ ?_)
   | (with_reducible refine LeO.bind ?_ (fun _ => ?_))
   | exact ih0 _ _ _ _
   | exact pattern_Max1.mono _ _ _
   | exact pattern_nan.mono _ _
   | exact LeO.none _
   | refine LeO.ite ?_ ?_
   | refine LeO.bind ?_ (fun _ => ?_)
theorem pattern_bestMax.mono : ∀ a0 k, LeO (pattern_bestMax.f k a0) (pattern_bestMax.f (k + 1) a0) := by
 intro a0 k
 have ih0 := pattern_bestMax.mono_l k
 unfold pattern_bestMax.f
 repeat' first
   | (with_reducible exact ih0 _ _ _ _)
   | (with_reducible exact pattern_Max1.mono _ _ _)
   | (with_reducible exact pattern_nan.mono _ _)
   | (with_reducible exact LeO.refl _)
   | (with_reducible exact LeO.none _)
   | (with_reducible refine LeO.ite ?_ ?_)
   | (with_reducible refine LeO.bind ?_ (fun _ => ?_))
   | exact ih0 _ _ _ _
   | exact pattern_Max1.mono _ _ _
   | exact pattern_nan.mono _ _
   | exact LeO.none _
   | refine LeO.ite ?_ ?_
   | refine LeO.bind ?_ (fun _ => ?_)
set_option maxHeartbeats 8000000 in
set_option maxRecDepth 100000 in
theorem pattern_bestMax.calls (k : Nat) (A0 : Option Addr) (c0 : Nat) (l0 : List Int) (r : Int) (w : World) (hr0 : Kd.C (Kd.int .u64) w A0 l0.length l0) (hc0 : l0.length ≤ c0) (h : pattern_bestMax.f k l0 = some r) :
  Calls Try.prog 124 #[.slice A0 l0.length c0, .func (.func 125) #[] #[]] w fun e w' => e = .returned (.int .u64 r) ∧ Drawn0 w w' := by
 have HR0 := Aside0.mk hr0
 have HC0 := Aside0.mk hc0
 clear hr0 hc0
 have H : (if (l0.length : Int) = 0 then ((pattern_Quiet.f).bind fun t101 => (some t101)) else (if 0 < (l0.length : Int) then (pattern_bestMax.l0 k (rd l0 0) l0 (l0.length : Int) 0) else (none))) = some r := h
 clear h
 by_cases c2 : (l0.length : Int) = 0
 ·rw [if_pos c2] at H
  have c2b0 : ((l0.length : Int) == 0) = true := beq_iff_eq.mpr c2
  have c2b1 : ((l0.length : Int) != 0) = false := bne_eq_false_iff_eq.mpr c2
  clear c2
  replace H := Option.bind_eq_some_iff.mp H
  obtain ⟨t101, A30, H⟩ := H
  replace H : (some t101) = some r := H
  have A3 := Aside0.mk A30
  clear A30
  obtain rfl := Option.some.inj H
  go_enter Try.func124, Try.ntmps124
  go_wp2_with (first | ((with_reducible refine gate_callee (f := 83) rfl ?_); refine goesL_ (some 11) rfl rfl Try.func83 (by kernel_rfl) rfl #[] rfl (by (try simp only [List.map_toArray, List.map_cons, List.map_nil]); first | done | rfl | (simp only [List.length_drop, List.length_take]; rfl)) ?_; (with_reducible refine (pattern_Quiet.calls  t101 _ A3.out).mono ?_); rintro e w' ⟨rfl, ⟨nd, rfl⟩⟩; refine ⟨_, rfl, ?_⟩))
  go_ret
  exact ⟨by first | rfl | (simp; done) | (simp [*]; done), by repeat (first | exact Drawn0.refl _ | apply Drawn0.step)⟩
 ·rw [if_neg c2] at H
  have c2b0 : ((l0.length : Int) == 0) = false := beq_eq_false_iff_ne.mpr c2
  have c2b1 : ((l0.length : Int) != 0) = true := bne_iff_ne.mpr c2
  have c2b2 : ¬ (l0 = []) := fun h_ => c2 (by rw [h_]; rfl)
  by_cases c4 : 0 < (l0.length : Int)
  ·rw [if_pos c4] at H
   have c4b0 : decide (0 < (l0.length : Int)) = true := decide_eq_true c4
   have c4b1 : decide (0 < l0.length) = true := decide_eq_true (by omega)
   clear c4
   have H' := Aside0.mk H
   clear H
   have p102 : 0 ≤ (0 : Int) := (by omega)
   have q102 : 0 < (l0.length : Int) := of_decide_eq_true (by first | (with_reducible assumption) | assumption)
   obtain ⟨ad102, e102, hx102_0⟩ := Kd.at_int HR0.out 0 p102 q102
   cases e102
   have qi102 : (0 < l0.length) = True := eq_true (by omega)
   (try rw [show ((0 : Int)).toNat = 0 from rfl] at hx102_0)
   (try rw [Addr.add_zero'] at hx102_0)
   replace p102 := eq_true p102
   replace q102 := eq_true q102
   go_enter Try.func124, Try.ntmps124
   go_wp2
   go_loopg [5, 17] k (fun kq v5 v17 w' => ∃ (x5_1 : Int) (x17_1 : Int), v5 = .int .u64 x5_1 ∧ v17 = .int .i64 x17_1 ∧ Aside0 (pattern_bestMax.l0 kq x5_1 l0 (l0.length : Int) x17_1 = some r) ∧ Aside0 (kq ≤ k) ∧ Drawn0 w w')
   case atStart => exact ⟨(rd l0 0), (0), (by first | rfl | (simp; done) | (simp [*]; done)), (by first | rfl | (simp; done) | (simp [*]; done)), H', ⟨Nat.le_refl _⟩, by repeat (first | exact Drawn0.refl _ | apply Drawn0.step)⟩
   case round =>
    clear H'
    try clear c1
    try clear p1
    try clear q1
    try clear hx1
    try clear qi1
    try clear c2
    try clear c2b0
    try clear c2b1
    try clear c2b2
    try clear p2
    try clear c4
    try clear c4b0
    try clear c4b1
    try clear hx102_0
    try clear p102
    try clear q102
    obtain ⟨x5_1, x17_1, rfl, rfl, HA, HK1, ⟨m1, rfl⟩⟩ := hrel
    cases gk with
    | zero => exact absurd HA.out (by simp [pattern_bestMax.l0])
    | succ k1 =>
     have H := HA.out
     clear HA
     simp only [pattern_bestMax.l0] at H
     by_cases c5 : x17_1 < (l0.length : Int)
     ·rw [if_pos c5] at H
      have c5b0 : decide (x17_1 < (l0.length : Int)) = true := decide_eq_true c5
      clear c5
      by_cases c6 : 0 ≤ x17_1
      ·rw [if_pos c6] at H
       have c6b0 : decide (0 ≤ x17_1) = true := decide_eq_true c6
       clear c6
       by_cases c7 : x17_1 < (l0.length : Int)
       ·rw [if_pos c7] at H
        have c7b0 : decide (x17_1 < (l0.length : Int)) = true := decide_eq_true c7
        clear c7
        replace H := Option.bind_eq_some_iff.mp H
        obtain ⟨t104, A80, H⟩ := H
        replace H : (if t104 = true then ((pattern_Quiet.f).bind fun t105 => (some t105)) else ((pattern_Max1.f k1 (rd l0 x17_1) x5_1).bind fun t106 => (if t106 = true then (pattern_bestMax.l0 k1 (rd l0 x17_1) l0 (l0.length : Int) (wrap64 (x17_1 + 1))) else (pattern_bestMax.l0 k1 x5_1 l0 (l0.length : Int) (wrap64 (x17_1 + 1)))))) = some r := H
        have A8 := Aside0.mk A80
        clear A80
        by_cases c9 : t104 = true
        ·subst c9
         have H1 : ((pattern_Quiet.f).bind fun t105 => (some t105)) = some r := by rw [if_pos rfl] at H; exact H
         clear H
         have H := H1
         clear H1
         replace H := Option.bind_eq_some_iff.mp H
         obtain ⟨t105, A100, H⟩ := H
         replace H : (some t105) = some r := H
         have A10 := Aside0.mk A100
         clear A100
         obtain rfl := Option.some.inj H
         have p103 : 0 ≤ (x17_1 : Int) := of_decide_eq_true (by first | (with_reducible assumption) | assumption)
         have q103 : x17_1 < (l0.length : Int) := of_decide_eq_true (by first | (with_reducible assumption) | assumption)
         obtain ⟨ad103, e103, hx103_0⟩ := Kd.at_int HR0.out x17_1 p103 q103
         obtain rfl : ad102 = ad103 := (by injection e103)
         replace p103 := eq_true p103
         replace q103 := eq_true q103
         go_wp2_with (first | ((with_reducible refine gate_callee (f := 120) rfl ?_); refine goesL_ (some 22) rfl rfl Try.func120 (by kernel_rfl) rfl #[.int .u64 (rd l0 x17_1)] rfl (by (try simp only [List.map_toArray, List.map_cons, List.map_nil]); first | done | rfl | (simp only [List.length_drop, List.length_take]; rfl)) ?_; (with_reducible refine (pattern_nan.calls k1 (rd l0 x17_1) true _ A8.out).mono ?_); rintro e w' ⟨rfl, ⟨nd, rfl⟩⟩; refine ⟨_, rfl, ?_⟩) | ((with_reducible refine gate_callee (f := 83) rfl ?_); refine goesL_ (some 23) rfl rfl Try.func83 (by kernel_rfl) rfl #[] rfl (by (try simp only [List.map_toArray, List.map_cons, List.map_nil]); first | done | rfl | (simp only [List.length_drop, List.length_take]; rfl)) ?_; (with_reducible refine (pattern_Quiet.calls  t105 _ A10.out).mono ?_); rintro e w' ⟨rfl, ⟨nd, rfl⟩⟩; refine ⟨_, rfl, ?_⟩))
         go_ret
         exact ⟨by first | rfl | (simp; done) | (simp [*]; done), by repeat (first | exact Drawn0.refl _ | apply Drawn0.step)⟩
        ·replace c9 := Bool.eq_false_iff.mpr c9
         subst c9
         have H1 : ((pattern_Max1.f k1 (rd l0 x17_1) x5_1).bind fun t106 => (if t106 = true then (pattern_bestMax.l0 k1 (rd l0 x17_1) l0 (l0.length : Int) (wrap64 (x17_1 + 1))) else (pattern_bestMax.l0 k1 x5_1 l0 (l0.length : Int) (wrap64 (x17_1 + 1))))) = some r := by rw [if_neg (show ¬ (false = true) by decide)] at H; exact H
         clear H
         have H := H1
         clear H1
         replace H := Option.bind_eq_some_iff.mp H
         obtain ⟨t106, A110, H⟩ := H
         replace H : (if t106 = true then (pattern_bestMax.l0 k1 (rd l0 x17_1) l0 (l0.length : Int) (wrap64 (x17_1 + 1))) else (pattern_bestMax.l0 k1 x5_1 l0 (l0.length : Int) (wrap64 (x17_1 + 1)))) = some r := H
         have A11 := Aside0.mk A110
         clear A110
         by_cases c12 : t106 = true
         ·subst c12
          have H1 : (pattern_bestMax.l0 k1 (rd l0 x17_1) l0 (l0.length : Int) (wrap64 (x17_1 + 1))) = some r := by rw [if_pos rfl] at H; exact H
          clear H
          have H := H1
          clear H1
          have H' := Aside0.mk H
          clear H
          have p103 : 0 ≤ (x17_1 : Int) := of_decide_eq_true (by first | (with_reducible assumption) | assumption)
          have q103 : x17_1 < (l0.length : Int) := of_decide_eq_true (by first | (with_reducible assumption) | assumption)
          obtain ⟨ad103, e103, hx103_0⟩ := Kd.at_int HR0.out x17_1 p103 q103
          obtain rfl : ad102 = ad103 := (by injection e103)
          replace p103 := eq_true p103
          replace q103 := eq_true q103
          go_wp2_with (first | ((with_reducible refine gate_callee (f := 120) rfl ?_); refine goesL_ (some 22) rfl rfl Try.func120 (by kernel_rfl) rfl #[.int .u64 (rd l0 x17_1)] rfl (by (try simp only [List.map_toArray, List.map_cons, List.map_nil]); first | done | rfl | (simp only [List.length_drop, List.length_take]; rfl)) ?_; (with_reducible refine (pattern_nan.calls k1 (rd l0 x17_1) false _ A8.out).mono ?_); rintro e w' ⟨rfl, ⟨nd, rfl⟩⟩; refine ⟨_, rfl, ?_⟩) | ((with_reducible refine gate_calleeT (n := 24) rfl ?_); refine goesT_ (some 27) rfl rfl Try.func125 (by kernel_rfl) rfl #[.int .u64 (rd l0 x17_1), .int .u64 x5_1] rfl rfl (by (try simp only [List.map_toArray, List.map_cons, List.map_nil]); first | done | rfl | (simp only [List.length_drop, List.length_take]; rfl)) ?_; (with_reducible refine (pattern_Max1.calls k1 (rd l0 x17_1) x5_1 true _ A11.out).mono ?_); rintro e w' ⟨rfl, ⟨nd, rfl⟩⟩; refine ⟨_, rfl, ?_⟩))
          go_roundg k1
          case measure => have := HK1.out; omega
          case rel => exact ⟨(rd l0 x17_1), (wrap64 (x17_1 + 1)), (by first | rfl | (simp; done) | (simp [*]; done)), (by first | rfl | (simp; done) | (simp [*]; done)), H', ⟨by have := HK1.out; omega⟩, by repeat (first | exact Drawn0.refl _ | apply Drawn0.step)⟩
         ·replace c12 := Bool.eq_false_iff.mpr c12
          subst c12
          have H1 : (pattern_bestMax.l0 k1 x5_1 l0 (l0.length : Int) (wrap64 (x17_1 + 1))) = some r := by rw [if_neg (show ¬ (false = true) by decide)] at H; exact H
          clear H
          have H := H1
          clear H1
          have H' := Aside0.mk H
          clear H
          have p103 : 0 ≤ (x17_1 : Int) := of_decide_eq_true (by first | (with_reducible assumption) | assumption)
          have q103 : x17_1 < (l0.length : Int) := of_decide_eq_true (by first | (with_reducible assumption) | assumption)
          obtain ⟨ad103, e103, hx103_0⟩ := Kd.at_int HR0.out x17_1 p103 q103
          obtain rfl : ad102 = ad103 := (by injection e103)
          replace p103 := eq_true p103
          replace q103 := eq_true q103
          go_wp2_with (first | ((with_reducible refine gate_callee (f := 120) rfl ?_); refine goesL_ (some 22) rfl rfl Try.func120 (by kernel_rfl) rfl #[.int .u64 (rd l0 x17_1)] rfl (by (try simp only [List.map_toArray, List.map_cons, List.map_nil]); first | done | rfl | (simp only [List.length_drop, List.length_take]; rfl)) ?_; (with_reducible refine (pattern_nan.calls k1 (rd l0 x17_1) false _ A8.out).mono ?_); rintro e w' ⟨rfl, ⟨nd, rfl⟩⟩; refine ⟨_, rfl, ?_⟩) | ((with_reducible refine gate_calleeT (n := 24) rfl ?_); refine goesT_ (some 27) rfl rfl Try.func125 (by kernel_rfl) rfl #[.int .u64 (rd l0 x17_1), .int .u64 x5_1] rfl rfl (by (try simp only [List.map_toArray, List.map_cons, List.map_nil]); first | done | rfl | (simp only [List.length_drop, List.length_take]; rfl)) ?_; (with_reducible refine (pattern_Max1.calls k1 (rd l0 x17_1) x5_1 false _ A11.out).mono ?_); rintro e w' ⟨rfl, ⟨nd, rfl⟩⟩; refine ⟨_, rfl, ?_⟩))
          go_roundg k1
          case measure => have := HK1.out; omega
          case rel => exact ⟨(x5_1), (wrap64 (x17_1 + 1)), (by first | rfl | (simp; done) | (simp [*]; done)), (by first | rfl | (simp; done) | (simp [*]; done)), H', ⟨by have := HK1.out; omega⟩, by repeat (first | exact Drawn0.refl _ | apply Drawn0.step)⟩
       ·rw [if_neg c7] at H
        exact absurd H (by simp)
      ·rw [if_neg c6] at H
       exact absurd H (by simp)
     ·rw [if_neg c5] at H
      have c5b0 : decide (x17_1 < (l0.length : Int)) = false := decide_eq_false c5
      clear c5
      obtain rfl := Option.some.inj H
      go_wp2
      go_ret
      exact ⟨by first | rfl | (simp; done) | (simp [*]; done), by repeat (first | exact Drawn0.refl _ | apply Drawn0.step)⟩
  ·rw [if_neg c4] at H
   exact absurd H (by simp)
/-! ### pattern_bestMin: function 124 -/
def pattern_bestMin.l0 : Nat → Int → List Int → Int → Int → Option (Int)
 | 0, _, _, _, _ => none
 | k + 1, x5, x15, x16, x17 => if x17 < x16 then (if 0 ≤ x17 then (if x17 < (x15.length : Int) then ((pattern_nan.f k (rd x15 x17)).bind fun t104 => (if t104 = true then ((pattern_Quiet.f).bind fun t105 => (some t105)) else ((pattern_Less.f k (rd x15 x17) x5).bind fun t106 => (if t106 = true then (pattern_bestMin.l0 k (rd x15 x17) x15 x16 (wrap64 (x17 + 1))) else (pattern_bestMin.l0 k x5 x15 x16 (wrap64 (x17 + 1))))))) else (none)) else (none)) else (some x5)
def pattern_bestMin.f (k : Nat) (l0 : List Int) : Option (Int) := if (l0.length : Int) = 0 then ((pattern_Quiet.f).bind fun t101 => (some t101)) else (if 0 < (l0.length : Int) then (pattern_bestMin.l0 k (rd l0 0) l0 (l0.length : Int) 0) else (none))
theorem pattern_bestMin.mono_l : ∀ k, (∀ y0 y1 y2 y3, LeO (pattern_bestMin.l0 k y0 y1 y2 y3) (pattern_bestMin.l0 (k + 1) y0 y1 y2 y3))
 | 0 => fun _ _ _ _ r h => by simp [pattern_bestMin.l0] at h
 | k + 1 => by
  have ih0 := pattern_bestMin.mono_l k
  ·intro y0 y1 y2 y3
   unfold pattern_bestMin.l0
   repeat' first
   | (with_reducible exact ih0 _ _ _ _)
   | (with_reducible exact pattern_Less.mono _ _ _)
   | (with_reducible exact pattern_nan.mono _ _)
   | (with_reducible exact LeO.refl _)
   | (with_reducible exact LeO.none _)
   | (with_reducible refine LeO.ite ?_ ?_)
   | (with_reducible refine LeO.bind ?_ (fun _ => ?_))
   | exact ih0 _ _ _ _
   | exact pattern_Less.mono _ _ _
   | exact pattern_nan.mono _ _
   | exact LeO.none _
   | refine LeO.ite ?_ ?_
   | refine LeO.bind ?_ (fun _ => ?_)
theorem pattern_bestMin.mono : ∀ a0 k, LeO (pattern_bestMin.f k a0) (pattern_bestMin.f (k + 1) a0) := by
 intro a0 k
 have ih0 := pattern_bestMin.mono_l k
 unfold pattern_bestMin.f
 repeat' first
   | (with_reducible exact ih0 _ _ _ _)
   | (with_reducible exact pattern_Less.mono _ _ _)
   | (with_reducible exact pattern_nan.mono _ _)
   | (with_reducible exact LeO.refl _)
   | (with_reducible exact LeO.none _)
   | (with_reducible refine LeO.ite ?_ ?_)
   | (with_reducible refine LeO.bind ?_ (fun _ => ?_))
   | exact ih0 _ _ _ _
   | exact pattern_Less.mono _ _ _
   | exact pattern_nan.mono _ _
   | exact LeO.none _
   | refine LeO.ite ?_ ?_
   | refine LeO.bind ?_ (fun _ => ?_)
set_option maxHeartbeats 8000000 in
set_option maxRecDepth 100000 in
theorem pattern_bestMin.calls (k : Nat) (A0 : Option Addr) (c0 : Nat) (l0 : List Int) (r : Int) (w : World) (hr0 : Kd.C (Kd.int .u64) w A0 l0.length l0) (hc0 : l0.length ≤ c0) (h : pattern_bestMin.f k l0 = some r) :
  Calls Try.prog 124 #[.slice A0 l0.length c0, .func (.func 62) #[] #[]] w fun e w' => e = .returned (.int .u64 r) ∧ Drawn0 w w' := by
 have HR0 := Aside0.mk hr0
 have HC0 := Aside0.mk hc0
 clear hr0 hc0
 have H : (if (l0.length : Int) = 0 then ((pattern_Quiet.f).bind fun t101 => (some t101)) else (if 0 < (l0.length : Int) then (pattern_bestMin.l0 k (rd l0 0) l0 (l0.length : Int) 0) else (none))) = some r := h
 clear h
 by_cases c2 : (l0.length : Int) = 0
 ·rw [if_pos c2] at H
  have c2b0 : ((l0.length : Int) == 0) = true := beq_iff_eq.mpr c2
  have c2b1 : ((l0.length : Int) != 0) = false := bne_eq_false_iff_eq.mpr c2
  clear c2
  replace H := Option.bind_eq_some_iff.mp H
  obtain ⟨t101, A30, H⟩ := H
  replace H : (some t101) = some r := H
  have A3 := Aside0.mk A30
  clear A30
  obtain rfl := Option.some.inj H
  go_enter Try.func124, Try.ntmps124
  go_wp2_with (first | ((with_reducible refine gate_callee (f := 83) rfl ?_); refine goesL_ (some 11) rfl rfl Try.func83 (by kernel_rfl) rfl #[] rfl (by (try simp only [List.map_toArray, List.map_cons, List.map_nil]); first | done | rfl | (simp only [List.length_drop, List.length_take]; rfl)) ?_; (with_reducible refine (pattern_Quiet.calls  t101 _ A3.out).mono ?_); rintro e w' ⟨rfl, ⟨nd, rfl⟩⟩; refine ⟨_, rfl, ?_⟩))
  go_ret
  exact ⟨by first | rfl | (simp; done) | (simp [*]; done), by repeat (first | exact Drawn0.refl _ | apply Drawn0.step)⟩
 ·rw [if_neg c2] at H
  have c2b0 : ((l0.length : Int) == 0) = false := beq_eq_false_iff_ne.mpr c2
  have c2b1 : ((l0.length : Int) != 0) = true := bne_iff_ne.mpr c2
  have c2b2 : ¬ (l0 = []) := fun h_ => c2 (by rw [h_]; rfl)
  by_cases c4 : 0 < (l0.length : Int)
  ·rw [if_pos c4] at H
   have c4b0 : decide (0 < (l0.length : Int)) = true := decide_eq_true c4
   have c4b1 : decide (0 < l0.length) = true := decide_eq_true (by omega)
   clear c4
   have H' := Aside0.mk H
   clear H
   have p102 : 0 ≤ (0 : Int) := (by omega)
   have q102 : 0 < (l0.length : Int) := of_decide_eq_true (by first | (with_reducible assumption) | assumption)
   obtain ⟨ad102, e102, hx102_0⟩ := Kd.at_int HR0.out 0 p102 q102
   cases e102
   have qi102 : (0 < l0.length) = True := eq_true (by omega)
   (try rw [show ((0 : Int)).toNat = 0 from rfl] at hx102_0)
   (try rw [Addr.add_zero'] at hx102_0)
   replace p102 := eq_true p102
   replace q102 := eq_true q102
   go_enter Try.func124, Try.ntmps124
   go_wp2
   go_loopg [5, 17] k (fun kq v5 v17 w' => ∃ (x5_1 : Int) (x17_1 : Int), v5 = .int .u64 x5_1 ∧ v17 = .int .i64 x17_1 ∧ Aside0 (pattern_bestMin.l0 kq x5_1 l0 (l0.length : Int) x17_1 = some r) ∧ Aside0 (kq ≤ k) ∧ Drawn0 w w')
   case atStart => exact ⟨(rd l0 0), (0), (by first | rfl | (simp; done) | (simp [*]; done)), (by first | rfl | (simp; done) | (simp [*]; done)), H', ⟨Nat.le_refl _⟩, by repeat (first | exact Drawn0.refl _ | apply Drawn0.step)⟩
   case round =>
    clear H'
    try clear c1
    try clear p1
    try clear q1
    try clear hx1
    try clear qi1
    try clear c2
    try clear c2b0
    try clear c2b1
    try clear c2b2
    try clear p2
    try clear c4
    try clear c4b0
    try clear c4b1
    try clear hx102_0
    try clear p102
    try clear q102
    obtain ⟨x5_1, x17_1, rfl, rfl, HA, HK1, ⟨m1, rfl⟩⟩ := hrel
    cases gk with
    | zero => exact absurd HA.out (by simp [pattern_bestMin.l0])
    | succ k1 =>
     have H := HA.out
     clear HA
     simp only [pattern_bestMin.l0] at H
     by_cases c5 : x17_1 < (l0.length : Int)
     ·rw [if_pos c5] at H
      have c5b0 : decide (x17_1 < (l0.length : Int)) = true := decide_eq_true c5
      clear c5
      by_cases c6 : 0 ≤ x17_1
      ·rw [if_pos c6] at H
       have c6b0 : decide (0 ≤ x17_1) = true := decide_eq_true c6
       clear c6
       by_cases c7 : x17_1 < (l0.length : Int)
       ·rw [if_pos c7] at H
        have c7b0 : decide (x17_1 < (l0.length : Int)) = true := decide_eq_true c7
        clear c7
        replace H := Option.bind_eq_some_iff.mp H
        obtain ⟨t104, A80, H⟩ := H
        replace H : (if t104 = true then ((pattern_Quiet.f).bind fun t105 => (some t105)) else ((pattern_Less.f k1 (rd l0 x17_1) x5_1).bind fun t106 => (if t106 = true then (pattern_bestMin.l0 k1 (rd l0 x17_1) l0 (l0.length : Int) (wrap64 (x17_1 + 1))) else (pattern_bestMin.l0 k1 x5_1 l0 (l0.length : Int) (wrap64 (x17_1 + 1)))))) = some r := H
        have A8 := Aside0.mk A80
        clear A80
        by_cases c9 : t104 = true
        ·subst c9
         have H1 : ((pattern_Quiet.f).bind fun t105 => (some t105)) = some r := by rw [if_pos rfl] at H; exact H
         clear H
         have H := H1
         clear H1
         replace H := Option.bind_eq_some_iff.mp H
         obtain ⟨t105, A100, H⟩ := H
         replace H : (some t105) = some r := H
         have A10 := Aside0.mk A100
         clear A100
         obtain rfl := Option.some.inj H
         have p103 : 0 ≤ (x17_1 : Int) := of_decide_eq_true (by first | (with_reducible assumption) | assumption)
         have q103 : x17_1 < (l0.length : Int) := of_decide_eq_true (by first | (with_reducible assumption) | assumption)
         obtain ⟨ad103, e103, hx103_0⟩ := Kd.at_int HR0.out x17_1 p103 q103
         obtain rfl : ad102 = ad103 := (by injection e103)
         replace p103 := eq_true p103
         replace q103 := eq_true q103
         go_wp2_with (first | ((with_reducible refine gate_callee (f := 120) rfl ?_); refine goesL_ (some 22) rfl rfl Try.func120 (by kernel_rfl) rfl #[.int .u64 (rd l0 x17_1)] rfl (by (try simp only [List.map_toArray, List.map_cons, List.map_nil]); first | done | rfl | (simp only [List.length_drop, List.length_take]; rfl)) ?_; (with_reducible refine (pattern_nan.calls k1 (rd l0 x17_1) true _ A8.out).mono ?_); rintro e w' ⟨rfl, ⟨nd, rfl⟩⟩; refine ⟨_, rfl, ?_⟩) | ((with_reducible refine gate_callee (f := 83) rfl ?_); refine goesL_ (some 23) rfl rfl Try.func83 (by kernel_rfl) rfl #[] rfl (by (try simp only [List.map_toArray, List.map_cons, List.map_nil]); first | done | rfl | (simp only [List.length_drop, List.length_take]; rfl)) ?_; (with_reducible refine (pattern_Quiet.calls  t105 _ A10.out).mono ?_); rintro e w' ⟨rfl, ⟨nd, rfl⟩⟩; refine ⟨_, rfl, ?_⟩))
         go_ret
         exact ⟨by first | rfl | (simp; done) | (simp [*]; done), by repeat (first | exact Drawn0.refl _ | apply Drawn0.step)⟩
        ·replace c9 := Bool.eq_false_iff.mpr c9
         subst c9
         have H1 : ((pattern_Less.f k1 (rd l0 x17_1) x5_1).bind fun t106 => (if t106 = true then (pattern_bestMin.l0 k1 (rd l0 x17_1) l0 (l0.length : Int) (wrap64 (x17_1 + 1))) else (pattern_bestMin.l0 k1 x5_1 l0 (l0.length : Int) (wrap64 (x17_1 + 1))))) = some r := by rw [if_neg (show ¬ (false = true) by decide)] at H; exact H
         clear H
         have H := H1
         clear H1
         replace H := Option.bind_eq_some_iff.mp H
         obtain ⟨t106, A110, H⟩ := H
         replace H : (if t106 = true then (pattern_bestMin.l0 k1 (rd l0 x17_1) l0 (l0.length : Int) (wrap64 (x17_1 + 1))) else (pattern_bestMin.l0 k1 x5_1 l0 (l0.length : Int) (wrap64 (x17_1 + 1)))) = some r := H
         have A11 := Aside0.mk A110
         clear A110
         by_cases c12 : t106 = true
         ·subst c12
          have H1 : (pattern_bestMin.l0 k1 (rd l0 x17_1) l0 (l0.length : Int) (wrap64 (x17_1 + 1))) = some r := by rw [if_pos rfl] at H; exact H
          clear H
          have H := H1
          clear H1
          have H' := Aside0.mk H
          clear H
          have p103 : 0 ≤ (x17_1 : Int) := of_decide_eq_true (by first | (with_reducible assumption) | assumption)
          have q103 : x17_1 < (l0.length : Int) := of_decide_eq_true (by first | (with_reducible assumption) | assumption)
          obtain ⟨ad103, e103, hx103_0⟩ := Kd.at_int HR0.out x17_1 p103 q103
          obtain rfl : ad102 = ad103 := (by injection e103)
          replace p103 := eq_true p103
          replace q103 := eq_true q103
          go_wp2_with (first | ((with_reducible refine gate_callee (f := 120) rfl ?_); refine goesL_ (some 22) rfl rfl Try.func120 (by kernel_rfl) rfl #[.int .u64 (rd l0 x17_1)] rfl (by (try simp only [List.map_toArray, List.map_cons, List.map_nil]); first | done | rfl | (simp only [List.length_drop, List.length_take]; rfl)) ?_; (with_reducible refine (pattern_nan.calls k1 (rd l0 x17_1) false _ A8.out).mono ?_); rintro e w' ⟨rfl, ⟨nd, rfl⟩⟩; refine ⟨_, rfl, ?_⟩) | ((with_reducible refine gate_calleeT (n := 24) rfl ?_); refine goesT_ (some 27) rfl rfl Try.func62 (by kernel_rfl) rfl #[.int .u64 (rd l0 x17_1), .int .u64 x5_1] rfl rfl (by (try simp only [List.map_toArray, List.map_cons, List.map_nil]); first | done | rfl | (simp only [List.length_drop, List.length_take]; rfl)) ?_; (with_reducible refine (pattern_Less.calls k1 (rd l0 x17_1) x5_1 true _ A11.out).mono ?_); rintro e w' ⟨rfl, ⟨nd, rfl⟩⟩; refine ⟨_, rfl, ?_⟩))
          go_roundg k1
          case measure => have := HK1.out; omega
          case rel => exact ⟨(rd l0 x17_1), (wrap64 (x17_1 + 1)), (by first | rfl | (simp; done) | (simp [*]; done)), (by first | rfl | (simp; done) | (simp [*]; done)), H', ⟨by have := HK1.out; omega⟩, by repeat (first | exact Drawn0.refl _ | apply Drawn0.step)⟩
         ·replace c12 := Bool.eq_false_iff.mpr c12
          subst c12
          have H1 : (pattern_bestMin.l0 k1 x5_1 l0 (l0.length : Int) (wrap64 (x17_1 + 1))) = some r := by rw [if_neg (show ¬ (false = true) by decide)] at H; exact H
          clear H
          have H := H1
          clear H1
          have H' := Aside0.mk H
          clear H
          have p103 : 0 ≤ (x17_1 : Int) := of_decide_eq_true (by first | (with_reducible assumption) | assumption)
          have q103 : x17_1 < (l0.length : Int) := of_decide_eq_true (by first | (with_reducible assumption) | assumption)
          obtain ⟨ad103, e103, hx103_0⟩ := Kd.at_int HR0.out x17_1 p103 q103
          obtain rfl : ad102 = ad103 := (by injection e103)
          replace p103 := eq_true p103
          replace q103 := eq_true q103
          go_wp2_with (first | ((with_reducible refine gate_callee (f := 120) rfl ?_); refine goesL_ (some 22) rfl rfl Try.func120 (by kernel_rfl) rfl #[.int .u64 (rd l0 x17_1)] rfl (by (try simp only [List.map_toArray, List.map_cons, List.map_nil]); first | done | rfl | (simp only [List.length_drop, List.length_take]; rfl)) ?_; (with_reducible refine (pattern_nan.calls k1 (rd l0 x17_1) false _ A8.out).mono ?_); rintro e w' ⟨rfl, ⟨nd, rfl⟩⟩; refine ⟨_, rfl, ?_⟩) | ((with_reducible refine gate_calleeT (n := 24) rfl ?_); refine goesT_ (some 27) rfl rfl Try.func62 (by kernel_rfl) rfl #[.int .u64 (rd l0 x17_1), .int .u64 x5_1] rfl rfl (by (try simp only [List.map_toArray, List.map_cons, List.map_nil]); first | done | rfl | (simp only [List.length_drop, List.length_take]; rfl)) ?_; (with_reducible refine (pattern_Less.calls k1 (rd l0 x17_1) x5_1 false _ A11.out).mono ?_); rintro e w' ⟨rfl, ⟨nd, rfl⟩⟩; refine ⟨_, rfl, ?_⟩))
          go_roundg k1
          case measure => have := HK1.out; omega
          case rel => exact ⟨(x5_1), (wrap64 (x17_1 + 1)), (by first | rfl | (simp; done) | (simp [*]; done)), (by first | rfl | (simp; done) | (simp [*]; done)), H', ⟨by have := HK1.out; omega⟩, by repeat (first | exact Drawn0.refl _ | apply Drawn0.step)⟩
       ·rw [if_neg c7] at H
        exact absurd H (by simp)
      ·rw [if_neg c6] at H
       exact absurd H (by simp)
     ·rw [if_neg c5] at H
      have c5b0 : decide (x17_1 < (l0.length : Int)) = false := decide_eq_false c5
      clear c5
      obtain rfl := Option.some.inj H
      go_wp2
      go_ret
      exact ⟨by first | rfl | (simp; done) | (simp [*]; done), by repeat (first | exact Drawn0.refl _ | apply Drawn0.step)⟩
  ·rw [if_neg c4] at H
   exact absurd H (by simp)
end Go.Proofs.Ytagbnkbhobmgjaa.Fn
end
section
-- Written by a program of this session (a turned copy of the kit's printer, and hand-written parts). Not trusted: Lean checks it.
namespace Go.Proofs.Ytagbnkbhobmgjaa.Fn
open Go.RowKit Go.Proofs.YtagbnkbhobmgjaaW.PrintWords Go.Proofs.YtagbnkbhobmgjaaW.PrintLast Go.Proofs.YtagbnkbhobmgjaaW.PrintMore
attribute [local go_sem] max2_int min2_int max_two min_two max_three min_three max_four min_four   -- for this text's walks alone
set_option linter.unusedVariables false
set_option linter.unusedSimpArgs false
/-! ### pattern_Max: function 81 -/
def pattern_Max.f (k : Nat) (l0 : List Int) : Option (Int) := (pattern_bestMax.f k l0).bind fun t101 => (some t101)
theorem pattern_Max.mono : ∀ a0 k, LeO (pattern_Max.f k a0) (pattern_Max.f (k + 1) a0) := by
 intro a0 k
 unfold pattern_Max.f
 repeat' first
   | (with_reducible exact pattern_bestMax.mono _ _)
   | (with_reducible exact LeO.refl _)
   | (with_reducible exact LeO.none _)
   | (with_reducible refine LeO.ite ?_ ?_)
   | (with_reducible refine LeO.bind ?_ (fun _ => ?_))
   | exact pattern_bestMax.mono _ _
   | exact LeO.none _
   | refine LeO.ite ?_ ?_
   | refine LeO.bind ?_ (fun _ => ?_)
set_option maxHeartbeats 8000000 in
set_option maxRecDepth 100000 in
theorem pattern_Max.calls (k : Nat) (A0 : Option Addr) (c0 : Nat) (l0 : List Int) (r : Int) (w : World) (hr0 : Kd.C (Kd.int .u64) w A0 l0.length l0) (hc0 : l0.length ≤ c0) (h : pattern_Max.f k l0 = some r) :
  Calls Try.prog 81 #[.slice A0 l0.length c0] w fun e w' => e = .returned (.int .u64 r) ∧ Drawn0 w w' := by
 have HR0 := Aside0.mk hr0
 have HC0 := Aside0.mk hc0
 clear hr0 hc0
 have H : ((pattern_bestMax.f k l0).bind fun t101 => (some t101)) = some r := h
 clear h
 replace H := Option.bind_eq_some_iff.mp H
 obtain ⟨t101, A20, H⟩ := H
 replace H : (some t101) = some r := H
 have A2 := Aside0.mk A20
 clear A20
 obtain rfl := Option.some.inj H
 go_enter Try.func81, Try.ntmps81
 go_wp2_with (first | ((with_reducible refine gate_callee (f := 124) rfl ?_); refine goesL_ (some 4) rfl rfl Try.func124 (by kernel_rfl) rfl #[.slice A0 l0.length c0, .func (.func 125) #[] #[]] rfl (by (try simp only [List.map_toArray, List.map_cons, List.map_nil]); first | done | rfl | (simp only [List.length_drop, List.length_take]; rfl)) ?_; (with_reducible refine (pattern_bestMax.calls k _ _ l0 t101 _ ?side1 ?side2 A2.out).mono ?_); (case side1 => repeat (first | exact HR0.out | (with_reducible refine Kd.C_alloc ?_ _) | (with_reducible refine Kd.C_drewN ?_ _) | (with_reducible refine Kd.C_drew ?_))); (case side2 => exact HC0.out); rintro e w' ⟨rfl, ⟨nd, rfl⟩⟩; refine ⟨_, rfl, ?_⟩))
 go_ret
 exact ⟨by first | rfl | (simp; done) | (simp [*]; done), by repeat (first | exact Drawn0.refl _ | apply Drawn0.step)⟩
end Go.Proofs.Ytagbnkbhobmgjaa.Fn
end
section
-- Written by a program of this session (a turned copy of the kit's printer, and hand-written parts). Not trusted: Lean checks it.
namespace Go.Proofs.Ytagbnkbhobmgjaa.Fn
open Go.RowKit Go.Proofs.YtagbnkbhobmgjaaW.PrintWords Go.Proofs.YtagbnkbhobmgjaaW.PrintLast Go.Proofs.YtagbnkbhobmgjaaW.PrintMore
attribute [local go_sem] max2_int min2_int max_two min_two max_three min_three max_four min_four   -- for this text's walks alone
set_option linter.unusedVariables false
set_option linter.unusedSimpArgs false
/-! ### pattern_Min: function 82 -/
def pattern_Min.f (k : Nat) (l0 : List Int) : Option (Int) := (pattern_bestMin.f k l0).bind fun t101 => (some t101)
theorem pattern_Min.mono : ∀ a0 k, LeO (pattern_Min.f k a0) (pattern_Min.f (k + 1) a0) := by
 intro a0 k
 unfold pattern_Min.f
 repeat' first
   | (with_reducible exact pattern_bestMin.mono _ _)
   | (with_reducible exact LeO.refl _)
   | (with_reducible exact LeO.none _)
   | (with_reducible refine LeO.ite ?_ ?_)
   | (with_reducible refine LeO.bind ?_ (fun _ => ?_))
   | exact pattern_bestMin.mono _ _
   | exact LeO.none _
   | refine LeO.ite ?_ ?_
   | refine LeO.bind ?_ (fun _ => ?_)
set_option maxHeartbeats 8000000 in
set_option maxRecDepth 100000 in
theorem pattern_Min.calls (k : Nat) (A0 : Option Addr) (c0 : Nat) (l0 : List Int) (r : Int) (w : World) (hr0 : Kd.C (Kd.int .u64) w A0 l0.length l0) (hc0 : l0.length ≤ c0) (h : pattern_Min.f k l0 = some r) :
  Calls Try.prog 82 #[.slice A0 l0.length c0] w fun e w' => e = .returned (.int .u64 r) ∧ Drawn0 w w' := by
 have HR0 := Aside0.mk hr0
 have HC0 := Aside0.mk hc0
 clear hr0 hc0
 have H : ((pattern_bestMin.f k l0).bind fun t101 => (some t101)) = some r := h
 clear h
 replace H := Option.bind_eq_some_iff.mp H
 obtain ⟨t101, A20, H⟩ := H
 replace H : (some t101) = some r := H
 have A2 := Aside0.mk A20
 clear A20
 obtain rfl := Option.some.inj H
 go_enter Try.func82, Try.ntmps82
 go_wp2_with (first | ((with_reducible refine gate_callee (f := 124) rfl ?_); refine goesL_ (some 4) rfl rfl Try.func124 (by kernel_rfl) rfl #[.slice A0 l0.length c0, .func (.func 62) #[] #[]] rfl (by (try simp only [List.map_toArray, List.map_cons, List.map_nil]); first | done | rfl | (simp only [List.length_drop, List.length_take]; rfl)) ?_; (with_reducible refine (pattern_bestMin.calls k _ _ l0 t101 _ ?side1 ?side2 A2.out).mono ?_); (case side1 => repeat (first | exact HR0.out | (with_reducible refine Kd.C_alloc ?_ _) | (with_reducible refine Kd.C_drewN ?_ _) | (with_reducible refine Kd.C_drew ?_))); (case side2 => exact HC0.out); rintro e w' ⟨rfl, ⟨nd, rfl⟩⟩; refine ⟨_, rfl, ?_⟩))
 go_ret
 exact ⟨by first | rfl | (simp; done) | (simp [*]; done), by repeat (first | exact Drawn0.refl _ | apply Drawn0.step)⟩
end Go.Proofs.Ytagbnkbhobmgjaa.Fn
end
section
-- Written by a program of this session (a turned copy of the kit's printer, and hand-written parts). Not trusted: Lean checks it.
namespace Go.Proofs.Ytagbnkbhobmgjaa.Fn
open Go.RowKit Go.Proofs.YtagbnkbhobmgjaaW.PrintWords Go.Proofs.YtagbnkbhobmgjaaW.PrintLast Go.Proofs.YtagbnkbhobmgjaaW.PrintMore
attribute [local go_sem] max2_int min2_int max_two min_two max_three min_three max_four min_four   -- for this text's walks alone
set_option linter.unusedVariables false
set_option linter.unusedSimpArgs false
/-! ### flyballref04_Class: function 71 -/
mutual
def flyballref04_Class.j0 : Nat → Int → Int → Bool → Option (Int)
 | 0, _, _, _ => none
 | k + 1, x4, x5, x17 => if x17 = true then (some 3) else (if x4 = 2047 then (some 4) else (if x4 = 0 then (flyballref04_Class.j1 k x4 (x5 == 0)) else (flyballref04_Class.j1 k x4 false)))
def flyballref04_Class.j1 : Nat → Int → Bool → Option (Int)
 | 0, _, _ => none
 | k + 1, x4, x25 => if x25 = true then (some 0) else (if x4 = 0 then (some 1) else (some 2))
end
def flyballref04_Class.f (k : Nat) (a0 : Int) : Option (Int) := (flyballref04_Parts.f a0).bind fun bt101 => (if bt101.2.1 = 2047 then (flyballref04_Class.j0 k bt101.2.1 bt101.2.2 (bt101.2.2 == 0)) else (flyballref04_Class.j0 k bt101.2.1 bt101.2.2 false))
set_option maxHeartbeats 8000000 in
set_option maxRecDepth 100000 in
theorem flyballref04_Class.calls (k : Nat) (a0 : Int) (r : Int) (w : World) (h : flyballref04_Class.f k a0 = some r) :
  Calls Try.prog 71 #[.int .u64 a0] w fun e w' => e = .returned (.int .u8 r) ∧ Drawn0 w w' := by
 have H : ((flyballref04_Parts.f a0).bind fun bt101 => (if bt101.2.1 = 2047 then (flyballref04_Class.j0 k bt101.2.1 bt101.2.2 (bt101.2.2 == 0)) else (flyballref04_Class.j0 k bt101.2.1 bt101.2.2 false))) = some r := h
 clear h
 replace H := Option.bind_eq_some_iff.mp H
 obtain ⟨⟨t101, t102, t103⟩, A20, H⟩ := H
 replace H : (if t102 = 2047 then (flyballref04_Class.j0 k t102 t103 (t103 == 0)) else (flyballref04_Class.j0 k t102 t103 false)) = some r := H
 have A2 := Aside0.mk A20
 clear A20
 have HC3 := Aside0.mk H
 clear H
 go_enter Try.func71, Try.ntmps71
 go_upto_region 2 with (first | ((with_reducible refine gate_callee (f := 65) rfl ?_); refine goesL_ (some 8) rfl rfl Try.func65 (by kernel_rfl) rfl #[.int .u64 a0] rfl (by (try simp only [List.map_toArray, List.map_cons, List.map_nil]); first | done | rfl | (simp only [List.length_drop, List.length_take]; rfl)) ?_; (with_reducible refine (flyballref04_Parts.calls a0 t101 t102 t103 _ A2.out).mono ?_); rintro e w' ⟨rfl, ⟨nd, rfl⟩⟩; refine ⟨_, rfl, ?_⟩))
 (try simp only [Act.put, List.setIfInBounds_toArray, List.set_cons_zero, List.set_cons_succ])
 go_cut [17] (fun v17 wc => ∃ (kq : Nat) (x17_2 : Bool), v17 = .bool x17_2 ∧ Aside0 (flyballref04_Class.j0 kq t102 t103 x17_2 = some r) ∧ Aside0 (kq ≤ k) ∧ Drawn0 w wc)
 case first =>
  have H := HC3.out
  clear HC3
  by_cases c4 : t102 = 2047
  ·rw [if_pos c4] at H
   have c4b0 : (t102 == 2047) = true := beq_iff_eq.mpr c4
   have c4b1 : (t102 != 2047) = false := bne_eq_false_iff_eq.mpr c4
   clear c4
   (first | rw [c4b0] | (simp only [i64_w, i32_w]; rw [c4b0]) | skip)
   have H' := Aside0.mk H
   clear H
   go_wp2
   go_meet
   case rel => exact ⟨_, ((t103 == 0)), (by first | rfl | (simp; done) | (simp [*]; done)), H', ⟨by first | omega | exact Nat.le_refl _⟩, by repeat (first | exact Drawn0.refl _ | apply Drawn0.step)⟩
  ·rw [if_neg c4] at H
   have c4b0 : (t102 == 2047) = false := beq_eq_false_iff_ne.mpr c4
   have c4b1 : (t102 != 2047) = true := bne_iff_ne.mpr c4
   (first | rw [c4b0] | (simp only [i64_w, i32_w]; rw [c4b0]) | skip)
   have H' := Aside0.mk H
   clear H
   go_wp2
   go_meet
   case rel => exact ⟨_, (false), (by first | rfl | (simp; done) | (simp [*]; done)), H', ⟨by first | omega | exact Nat.le_refl _⟩, by repeat (first | exact Drawn0.refl _ | apply Drawn0.step)⟩
 case rest =>
  clear HC3
  try clear p2
  try clear c4
  try clear c4b0
  try clear c4b1
  obtain ⟨kq, x17_2, rfl, HA, HJ2, ⟨mc2, rfl⟩⟩ := hcut
  cases kq with
  | zero => exact absurd HA.out (by simp [flyballref04_Class.j0])
  | succ kj2 =>
   have H := HA.out
   clear HA
   simp only [flyballref04_Class.j0] at H
   by_cases c5 : x17_2 = true
   ·subst c5
    have H1 : (some 3) = some r := by rw [if_pos rfl] at H; exact H
    clear H
    have H := H1
    clear H1
    obtain rfl := Option.some.inj H
    go_wp2
    go_ret
    exact ⟨by first | rfl | (simp; done) | (simp [*]; done), by repeat (first | exact Drawn0.refl _ | apply Drawn0.step)⟩
   ·replace c5 := Bool.eq_false_iff.mpr c5
    subst c5
    have H1 : (if t102 = 2047 then (some 4) else (if t102 = 0 then (flyballref04_Class.j1 kj2 t102 (t103 == 0)) else (flyballref04_Class.j1 kj2 t102 false))) = some r := by rw [if_neg (show ¬ (false = true) by decide)] at H; exact H
    clear H
    have H := H1
    clear H1
    by_cases c6 : t102 = 2047
    ·rw [if_pos c6] at H
     have c6b0 : (t102 == 2047) = true := beq_iff_eq.mpr c6
     have c6b1 : (t102 != 2047) = false := bne_eq_false_iff_eq.mpr c6
     clear c6
     obtain rfl := Option.some.inj H
     go_wp2
     go_ret
     exact ⟨by first | rfl | (simp; done) | (simp [*]; done), by repeat (first | exact Drawn0.refl _ | apply Drawn0.step)⟩
    ·rw [if_neg c6] at H
     have c6b0 : (t102 == 2047) = false := beq_eq_false_iff_ne.mpr c6
     have c6b1 : (t102 != 2047) = true := bne_iff_ne.mpr c6
     have HC7 := Aside0.mk H
     clear H
     go_upto_region 6 with (fail)
     go_cut [25] (fun v25 wc => ∃ (kq : Nat) (x25_6 : Bool), v25 = .bool x25_6 ∧ Aside0 (flyballref04_Class.j1 kq t102 x25_6 = some r) ∧ Aside0 (kq ≤ kj2) ∧ Drawn0 w wc)
     case first =>
      have H := HC7.out
      clear HC7
      by_cases c8 : t102 = 0
      ·rw [if_pos c8] at H
       have c8b0 : (t102 == 0) = true := beq_iff_eq.mpr c8
       have c8b1 : (t102 != 0) = false := bne_eq_false_iff_eq.mpr c8
       clear c8
       (first | rw [c8b0] | (simp only [i64_w, i32_w]; rw [c8b0]) | skip)
       have H' := Aside0.mk H
       clear H
       go_wp2
       go_meet
       case rel => exact ⟨_, ((t103 == 0)), (by first | rfl | (simp; done) | (simp [*]; done)), H', ⟨by have := HJ2.out; first | omega | exact Nat.le_refl _⟩, by repeat (first | exact Drawn0.refl _ | apply Drawn0.step)⟩
      ·rw [if_neg c8] at H
       have c8b0 : (t102 == 0) = false := beq_eq_false_iff_ne.mpr c8
       have c8b1 : (t102 != 0) = true := bne_iff_ne.mpr c8
       (first | rw [c8b0] | (simp only [i64_w, i32_w]; rw [c8b0]) | skip)
       have H' := Aside0.mk H
       clear H
       go_wp2
       go_meet
       case rel => exact ⟨_, (false), (by first | rfl | (simp; done) | (simp [*]; done)), H', ⟨by have := HJ2.out; first | omega | exact Nat.le_refl _⟩, by repeat (first | exact Drawn0.refl _ | apply Drawn0.step)⟩
     case rest =>
      clear HC7
      try clear c2
      try clear p2
      try clear c4
      try clear c4b0
      try clear c4b1
      try clear c5
      try clear c6
      try clear c6b0
      try clear c6b1
      try clear c7
      try clear c8
      try clear c8b0
      try clear c8b1
      try clear p2
      obtain ⟨kq, x25_6, rfl, HA, HJ6, ⟨mc6, rfl⟩⟩ := hcut
      cases kq with
      | zero => exact absurd HA.out (by simp [flyballref04_Class.j1])
      | succ kj6 =>
       have H := HA.out
       clear HA
       simp only [flyballref04_Class.j1] at H
       by_cases c9 : x25_6 = true
       ·subst c9
        have H1 : (some 0) = some r := by rw [if_pos rfl] at H; exact H
        clear H
        have H := H1
        clear H1
        obtain rfl := Option.some.inj H
        go_wp2
        go_ret
        exact ⟨by first | rfl | (simp; done) | (simp [*]; done), by repeat (first | exact Drawn0.refl _ | apply Drawn0.step)⟩
       ·replace c9 := Bool.eq_false_iff.mpr c9
        subst c9
        have H1 : (if t102 = 0 then (some 1) else (some 2)) = some r := by rw [if_neg (show ¬ (false = true) by decide)] at H; exact H
        clear H
        have H := H1
        clear H1
        by_cases c10 : t102 = 0
        ·rw [if_pos c10] at H
         have c10b0 : (t102 == 0) = true := beq_iff_eq.mpr c10
         have c10b1 : (t102 != 0) = false := bne_eq_false_iff_eq.mpr c10
         clear c10
         obtain rfl := Option.some.inj H
         go_wp2
         go_ret
         exact ⟨by first | rfl | (simp; done) | (simp [*]; done), by repeat (first | exact Drawn0.refl _ | apply Drawn0.step)⟩
        ·rw [if_neg c10] at H
         have c10b0 : (t102 == 0) = false := beq_eq_false_iff_ne.mpr c10
         have c10b1 : (t102 != 0) = true := bne_iff_ne.mpr c10
         obtain rfl := Option.some.inj H
         go_wp2
         go_ret
         exact ⟨by first | rfl | (simp; done) | (simp [*]; done), by repeat (first | exact Drawn0.refl _ | apply Drawn0.step)⟩
end Go.Proofs.Ytagbnkbhobmgjaa.Fn
end
section
-- Written by a program of this session (a turned copy of the kit's printer, and hand-written parts). Not trusted: Lean checks it.
namespace Go.Proofs.Ytagbnkbhobmgjaa.Fn
open Go.RowKit Go.Proofs.YtagbnkbhobmgjaaW.PrintWords Go.Proofs.YtagbnkbhobmgjaaW.PrintLast Go.Proofs.YtagbnkbhobmgjaaW.PrintMore
attribute [local go_sem] max2_int min2_int max_two min_two max_three min_three max_four min_four   -- for this text's walks alone
set_option linter.unusedVariables false
set_option linter.unusedSimpArgs false
/-! ### flyballref04_Cmp: function 61 -/
def flyballref04_Cmp.j0 : Nat → Int → Int → Bool → Option (Int × Bool)
 | 0, _, _, _ => none
 | k + 1, x0, x1, x15 => if x15 = true then (some (0, false)) else ((flyballref04_Key.f x0).bind fun t103 => ((flyballref04_Key.f x1).bind fun t104 => (if t103 < t104 then (some ((-1), true)) else (if t103 > t104 then (some (1, true)) else (some (0, true))))))
def flyballref04_Cmp.f (k : Nat) (a0 : Int) (a1 : Int) : Option (Int × Bool) := (flyballref04_Class.f k a0).bind fun t101 => (if t101 = 4 then (flyballref04_Cmp.j0 k a0 a1 true) else ((flyballref04_Class.f k a1).bind fun t102 => (flyballref04_Cmp.j0 k a0 a1 (t102 == 4))))
set_option maxHeartbeats 8000000 in
set_option maxRecDepth 100000 in
theorem flyballref04_Cmp.calls (k : Nat) (a0 : Int) (a1 : Int) (r1 : Int) (r2 : Bool) (w : World) (h : flyballref04_Cmp.f k a0 a1 = some (r1, r2)) :
  Calls Try.prog 61 #[.int .u64 a0, .int .u64 a1] w fun e w' => e = .returned (.tuple #[.int .i64 r1, .bool r2]) ∧ Drawn0 w w' := by
 have H : ((flyballref04_Class.f k a0).bind fun t101 => (if t101 = 4 then (flyballref04_Cmp.j0 k a0 a1 true) else ((flyballref04_Class.f k a1).bind fun t102 => (flyballref04_Cmp.j0 k a0 a1 (t102 == 4))))) = some (r1, r2) := h
 clear h
 have HC3 := Aside0.mk H
 clear H
 go_enter Try.func61, Try.ntmps61
 go_upto_region 1 with (fail)
 go_cut [15] (fun v15 wc => ∃ (kq : Nat) (x15_2 : Bool), v15 = .bool x15_2 ∧ Aside0 (flyballref04_Cmp.j0 kq a0 a1 x15_2 = some (r1, r2)) ∧ Aside0 (kq ≤ k) ∧ Drawn0 w wc)
 case first =>
  have H := HC3.out
  clear HC3
  replace H := Option.bind_eq_some_iff.mp H
  obtain ⟨t101, A40, H⟩ := H
  replace H : (if t101 = 4 then (flyballref04_Cmp.j0 k a0 a1 true) else ((flyballref04_Class.f k a1).bind fun t102 => (flyballref04_Cmp.j0 k a0 a1 (t102 == 4)))) = some (r1, r2) := H
  have A4 := Aside0.mk A40
  clear A40
  by_cases c5 : t101 = 4
  ·rw [if_pos c5] at H
   have c5b0 : (t101 == 4) = true := beq_iff_eq.mpr c5
   have c5b1 : (t101 != 4) = false := bne_eq_false_iff_eq.mpr c5
   clear c5
   (first | rw [c5b0] | (simp only [i64_w, i32_w]; rw [c5b0]) | skip)
   have H' := Aside0.mk H
   clear H
   go_wp2_with (first | ((with_reducible refine gate_callee (f := 71) rfl ?_); refine goesL_ (some 9) rfl rfl Try.func71 (by kernel_rfl) rfl #[.int .u64 a0] rfl (by (try simp only [List.map_toArray, List.map_cons, List.map_nil]); first | done | rfl | (simp only [List.length_drop, List.length_take]; rfl)) ?_; (with_reducible refine (flyballref04_Class.calls k a0 t101 _ A4.out).mono ?_); rintro e w' ⟨rfl, ⟨nd, rfl⟩⟩; refine ⟨_, rfl, ?_⟩))
   go_meet
   case rel => exact ⟨_, (true), (by first | rfl | (simp; done) | (simp [*]; done)), H', ⟨by first | omega | exact Nat.le_refl _⟩, by repeat (first | exact Drawn0.refl _ | apply Drawn0.step)⟩
  ·rw [if_neg c5] at H
   have c5b0 : (t101 == 4) = false := beq_eq_false_iff_ne.mpr c5
   have c5b1 : (t101 != 4) = true := bne_iff_ne.mpr c5
   (first | rw [c5b0] | (simp only [i64_w, i32_w]; rw [c5b0]) | skip)
   replace H := Option.bind_eq_some_iff.mp H
   obtain ⟨t102, A60, H⟩ := H
   replace H : (flyballref04_Cmp.j0 k a0 a1 (t102 == 4)) = some (r1, r2) := H
   have A6 := Aside0.mk A60
   clear A60
   have H' := Aside0.mk H
   clear H
   go_wp2_with (first | ((with_reducible refine gate_callee (f := 71) rfl ?_); refine goesL_ (some 9) rfl rfl Try.func71 (by kernel_rfl) rfl #[.int .u64 a0] rfl (by (try simp only [List.map_toArray, List.map_cons, List.map_nil]); first | done | rfl | (simp only [List.length_drop, List.length_take]; rfl)) ?_; (with_reducible refine (flyballref04_Class.calls k a0 t101 _ A4.out).mono ?_); rintro e w' ⟨rfl, ⟨nd, rfl⟩⟩; refine ⟨_, rfl, ?_⟩) | (go_at_call 71; (with_reducible refine (flyballref04_Class.calls k a1 t102 _ A6.out).mono ?_); rintro e w' ⟨rfl, ⟨nd, rfl⟩⟩))
   go_meet
   case rel => exact ⟨_, ((t102 == 4)), (by first | rfl | (simp; done) | (simp [*]; done)), H', ⟨by first | omega | exact Nat.le_refl _⟩, by repeat (first | exact Drawn0.refl _ | apply Drawn0.step)⟩
 case rest =>
  clear HC3
  try clear p2
  try clear c5
  try clear c5b0
  try clear c5b1
  try clear c6
  obtain ⟨kq, x15_2, rfl, HA, HJ2, ⟨mc2, rfl⟩⟩ := hcut
  cases kq with
  | zero => exact absurd HA.out (by simp [flyballref04_Cmp.j0])
  | succ kj2 =>
   have H := HA.out
   clear HA
   simp only [flyballref04_Cmp.j0] at H
   by_cases c7 : x15_2 = true
   ·subst c7
    have H1 : (some (0, false)) = some (r1, r2) := by rw [if_pos rfl] at H; exact H
    clear H
    have H := H1
    clear H1
    simp only [Option.some.injEq, Prod.mk.injEq] at H
    obtain ⟨rfl, rfl⟩ := H
    go_wp2
    go_ret2
    exact ⟨by first | rfl | (simp; done) | (simp [*]; done), by repeat (first | exact Drawn0.refl _ | apply Drawn0.step)⟩
   ·replace c7 := Bool.eq_false_iff.mpr c7
    subst c7
    have H1 : ((flyballref04_Key.f a0).bind fun t103 => ((flyballref04_Key.f a1).bind fun t104 => (if t103 < t104 then (some ((-1), true)) else (if t103 > t104 then (some (1, true)) else (some (0, true)))))) = some (r1, r2) := by rw [if_neg (show ¬ (false = true) by decide)] at H; exact H
    clear H
    have H := H1
    clear H1
    replace H := Option.bind_eq_some_iff.mp H
    obtain ⟨t103, A80, H⟩ := H
    replace H : ((flyballref04_Key.f a1).bind fun t104 => (if t103 < t104 then (some ((-1), true)) else (if t103 > t104 then (some (1, true)) else (some (0, true))))) = some (r1, r2) := H
    have A8 := Aside0.mk A80
    clear A80
    replace H := Option.bind_eq_some_iff.mp H
    obtain ⟨t104, A90, H⟩ := H
    replace H : (if t103 < t104 then (some ((-1), true)) else (if t103 > t104 then (some (1, true)) else (some (0, true)))) = some (r1, r2) := H
    have A9 := Aside0.mk A90
    clear A90
    by_cases c10 : t103 < t104
    ·rw [if_pos c10] at H
     have c10b0 : decide (t103 < t104) = true := decide_eq_true c10
     clear c10
     simp only [Option.some.injEq, Prod.mk.injEq] at H
     obtain ⟨rfl, rfl⟩ := H
     go_wp2_with (first | ((with_reducible refine gate_callee (f := 122) rfl ?_); refine goesL_ (some 17) rfl rfl Try.func122 (by kernel_rfl) rfl #[.int .u64 a0] rfl (by (try simp only [List.map_toArray, List.map_cons, List.map_nil]); first | done | rfl | (simp only [List.length_drop, List.length_take]; rfl)) ?_; (with_reducible refine (flyballref04_Key.calls a0 t103 _ A8.out).mono ?_); rintro e w' ⟨rfl, ⟨nd, rfl⟩⟩; refine ⟨_, rfl, ?_⟩) | ((with_reducible refine gate_callee (f := 122) rfl ?_); refine goesL_ (some 19) rfl rfl Try.func122 (by kernel_rfl) rfl #[.int .u64 a1] rfl (by (try simp only [List.map_toArray, List.map_cons, List.map_nil]); first | done | rfl | (simp only [List.length_drop, List.length_take]; rfl)) ?_; (with_reducible refine (flyballref04_Key.calls a1 t104 _ A9.out).mono ?_); rintro e w' ⟨rfl, ⟨nd, rfl⟩⟩; refine ⟨_, rfl, ?_⟩))
     go_ret2
     exact ⟨by first | rfl | (simp; done) | (simp [*]; done), by repeat (first | exact Drawn0.refl _ | apply Drawn0.step)⟩
    ·rw [if_neg c10] at H
     have c10b0 : decide (t103 < t104) = false := decide_eq_false c10
     clear c10
     by_cases c11 : t103 > t104
     ·rw [if_pos c11] at H
      have c11b0 : decide (t104 < t103) = true := decide_eq_true c11
      clear c11
      simp only [Option.some.injEq, Prod.mk.injEq] at H
      obtain ⟨rfl, rfl⟩ := H
      go_wp2_with (first | ((with_reducible refine gate_callee (f := 122) rfl ?_); refine goesL_ (some 17) rfl rfl Try.func122 (by kernel_rfl) rfl #[.int .u64 a0] rfl (by (try simp only [List.map_toArray, List.map_cons, List.map_nil]); first | done | rfl | (simp only [List.length_drop, List.length_take]; rfl)) ?_; (with_reducible refine (flyballref04_Key.calls a0 t103 _ A8.out).mono ?_); rintro e w' ⟨rfl, ⟨nd, rfl⟩⟩; refine ⟨_, rfl, ?_⟩) | ((with_reducible refine gate_callee (f := 122) rfl ?_); refine goesL_ (some 19) rfl rfl Try.func122 (by kernel_rfl) rfl #[.int .u64 a1] rfl (by (try simp only [List.map_toArray, List.map_cons, List.map_nil]); first | done | rfl | (simp only [List.length_drop, List.length_take]; rfl)) ?_; (with_reducible refine (flyballref04_Key.calls a1 t104 _ A9.out).mono ?_); rintro e w' ⟨rfl, ⟨nd, rfl⟩⟩; refine ⟨_, rfl, ?_⟩))
      go_ret2
      exact ⟨by first | rfl | (simp; done) | (simp [*]; done), by repeat (first | exact Drawn0.refl _ | apply Drawn0.step)⟩
     ·rw [if_neg c11] at H
      have c11b0 : decide (t104 < t103) = false := decide_eq_false c11
      clear c11
      simp only [Option.some.injEq, Prod.mk.injEq] at H
      obtain ⟨rfl, rfl⟩ := H
      go_wp2_with (first | ((with_reducible refine gate_callee (f := 122) rfl ?_); refine goesL_ (some 17) rfl rfl Try.func122 (by kernel_rfl) rfl #[.int .u64 a0] rfl (by (try simp only [List.map_toArray, List.map_cons, List.map_nil]); first | done | rfl | (simp only [List.length_drop, List.length_take]; rfl)) ?_; (with_reducible refine (flyballref04_Key.calls a0 t103 _ A8.out).mono ?_); rintro e w' ⟨rfl, ⟨nd, rfl⟩⟩; refine ⟨_, rfl, ?_⟩) | ((with_reducible refine gate_callee (f := 122) rfl ?_); refine goesL_ (some 19) rfl rfl Try.func122 (by kernel_rfl) rfl #[.int .u64 a1] rfl (by (try simp only [List.map_toArray, List.map_cons, List.map_nil]); first | done | rfl | (simp only [List.length_drop, List.length_take]; rfl)) ?_; (with_reducible refine (flyballref04_Key.calls a1 t104 _ A9.out).mono ?_); rintro e w' ⟨rfl, ⟨nd, rfl⟩⟩; refine ⟨_, rfl, ?_⟩))
      go_ret2
      exact ⟨by first | rfl | (simp; done) | (simp [*]; done), by repeat (first | exact Drawn0.refl _ | apply Drawn0.step)⟩
end Go.Proofs.Ytagbnkbhobmgjaa.Fn
end
section
/-! Small words on wrapped numbers. -/
set_option linter.unusedVariables false
set_option linter.unusedSimpArgs false
namespace Go.Proofs.Ytagbnkbhobmgjaa.Fn
open Go.RowKit Go.Proofs.YtagbnkbhobmgjaaW.PrintWords
end Go.Proofs.Ytagbnkbhobmgjaa.Fn
end
section
-- Written by a program of this session (a turned copy of the kit's printer, and hand-written parts). Not trusted: Lean checks it.
namespace Go.Proofs.Ytagbnkbhobmgjaa.Fn
open Go.RowKit Go.Proofs.YtagbnkbhobmgjaaW.PrintWords Go.Proofs.YtagbnkbhobmgjaaW.PrintLast Go.Proofs.YtagbnkbhobmgjaaW.PrintMore
attribute [local go_sem] max2_int min2_int max_two min_two max_three min_three max_four min_four   -- for this text's walks alone
set_option linter.unusedVariables false
set_option linter.unusedSimpArgs false
/-! ### nat_Nat_Add: function 28 -/
def nat_Nat_Add.l0 : Nat → List Int → List Int → List Int → Int → Int → Int → Option (List Int)
 | 0, _, _, _, _, _, _ => none
 | k + 1, x0, x1, x5, x6, x12, x13 => if x13 < x12 then ((nat_Nat_at.f x0 x13).bind fun t101 => ((nat_Nat_at.f x1 x13).bind fun t102 => (if x5.length < 35184372088832 then (nat_Nat_Add.l0 k x0 x1 (x5 ++ [(IntKind.u64.wrap (x6 + (IntKind.u64.wrap (t101 + t102)))) % 4294967296]) ((IntKind.u64.wrap (x6 + (IntKind.u64.wrap (t101 + t102)))) / 4294967296) x12 (wrap64 (x13 + 1))) else (none)))) else (if x5.length < 35184372088832 then ((nat_trim.f k (x5 ++ [(x6) % 4294967296])).bind fun t109 => (some t109)) else (none))
def nat_Nat_Add.f (k : Nat) (l0 : List Int) (l1 : List Int) : Option (List Int) := nat_Nat_Add.l0 k l0 l1 ([] : List Int) 0 (mx (l0.length : Int) (l1.length : Int)) 0
end Go.Proofs.Ytagbnkbhobmgjaa.Fn
end
section
-- Written by a program of this session (a turned copy of the kit's printer, and hand-written parts). Not trusted: Lean checks it.
namespace Go.Proofs.Ytagbnkbhobmgjaa.Fn
open Go.RowKit Go.Proofs.YtagbnkbhobmgjaaW.PrintWords Go.Proofs.YtagbnkbhobmgjaaW.PrintLast Go.Proofs.YtagbnkbhobmgjaaW.PrintMore
attribute [local go_sem] max2_int min2_int max_two min_two max_three min_three max_four min_four   -- for this text's walks alone
set_option linter.unusedVariables false
set_option linter.unusedSimpArgs false
/-! ### nat_Nat_Sub: function 32 -/
end Go.Proofs.Ytagbnkbhobmgjaa.Fn
end
section
/- What the functions at, trim, New, Add, Sub, Mul, Cmp of package nat compute: the words of the sum, the difference, the product. -/
set_option linter.unusedVariables false
set_option linter.unusedSimpArgs false
namespace Go.Proofs.Ytagbnkbhobmgjaa.Pure
open Go.RowKit Go.Proofs.Ytagbnkbhobmgjaa.Fn Go.Proofs.YtagbnkbhobmgjaaW.PrintWords Go.Proofs.YtagbnkbhobmgjaaW.PrintMore
theorem at_spec {a : List Int} (hW : WD a) (i : Int) (h0 : 0 ≤ i) : nat_Nat_at.f a i = some (rd a i) := by
  unfold nat_Nat_at.f
  by_cases h : i < (a.length : Int)
  · rw [if_pos h, if_pos h0, u64i (WD_rd hW i).1 (by have := (WD_rd hW i).2; omega)]
  · rw [if_neg h]
    unfold rd
    rw [List.getD_eq_getElem?_getD, List.getElem?_eq_none (by omega)]
    rfl
theorem rd_lt (a : List Int) (i : Nat) (h : i < a.length) : rd a (i : Int) = a[i] := by
  unfold rd
  rw [Int.toNat_natCast, List.getD_eq_getElem?_getD, List.getElem?_eq_getElem h]
  rfl
theorem rd_ge (a : List Int) (i : Nat) (h : a.length ≤ i) : rd a (i : Int) = 0 := by
  unfold rd
  rw [Int.toNat_natCast, List.getD_eq_getElem?_getD, List.getElem?_eq_none h]
  rfl
theorem wv_drop (a : List Int) (i : Nat) : wv (a.drop i) = (rd a (i : Int)).toNat + BW * wv (a.drop (i + 1)) := by
  by_cases h : i < a.length
  · rw [List.drop_eq_getElem_cons h, wv_cons, rd_lt a i h]
  · rw [List.drop_eq_nil_of_le (by omega), List.drop_eq_nil_of_le (by omega), rd_ge a i (by omega)]
    rfl
theorem rd_last (xs : List Int) (x : Int) : rd (xs ++ [x]) ((xs ++ [x]).length - 1 : Int) = x := by
  have e : (((xs ++ [x]).length : Int) - 1) = ((xs.length : Nat) : Int) := by simp
  rw [e, rd_lt _ _ (by simp)]
  simp
theorem trim_ev : ∀ (n : Nat) (a : List Int), a.length = n → WD a → a.length ≤ 9223372036854775807 → Ev (fun k => nat_trim.l0 k a) (words (wv a))
  | 0, a, hl, _, _ => by
    obtain rfl := List.eq_nil_of_length_eq_zero hl
    rw [wv_nil, words_zero]
    exact Ev.step (f := fun _ => some []) (fun k => by simp only [nat_trim.l0]; rw [if_neg (by simp)]) (Ev.now _)
  | n + 1, a, hl, hW, hm => by
    have hne : a ≠ [] := by intro e; subst e; simp at hl
    obtain ⟨xs, x, rfl⟩ : ∃ xs x, a = xs ++ [x] := ⟨a.dropLast, a.getLast hne, (List.dropLast_concat_getLast hne).symm⟩
    have hlx : xs.length = n := by simpa using hl
    have hw : wrap64 ((xs ++ [x]).length - 1 : Int) = ((xs ++ [x]).length - 1 : Int) := w64 (by omega) (by omega)
    have hx := (hW x (by simp))
    by_cases h0 : x = 0
    · subst h0
      have ih := trim_ev n xs hlx (WD_left hW) (by simp at hm; omega)
      have e : wv (xs ++ [0]) = wv xs := by rw [wv_snoc]; simp
      rw [e]
      refine Ev.step (f := fun k => nat_trim.l0 k xs) (fun k => ?_) ih
      simp only [nat_trim.l0]
      rw [hw, if_pos (by simp), if_pos (by simp), if_pos (by omega), rd_last, if_pos rfl, if_pos (by omega)]
      congr 1
      have : (((xs ++ [(0 : Int)]).length : Int) - 1).toNat = xs.length := by simp
      rw [this, List.take_left']
      rfl
    · have e : words (wv (xs ++ [x])) = xs ++ [x] := words_wv hW (fun y hy => by
        rw [List.getLast?_concat] at hy
        injection hy with hy
        rw [← hy]; exact h0)
      rw [e]
      refine Ev.step (f := fun _ => some (xs ++ [x])) (fun k => ?_) (Ev.now _)
      simp only [nat_trim.l0]
      rw [hw, if_pos (by simp), if_pos (by simp), if_pos (by omega), rd_last, if_neg h0]
theorem trim_spec {a : List Int} (hW : WD a) (hm : a.length ≤ 9223372036854775807) : Ev (fun k => nat_trim.f k a) (words (wv a)) := trim_ev _ a rfl hW hm
theorem New_spec (x : Int) (h0 : 0 ≤ x) (h1 : x < 18446744073709551616) : Ev (fun k => nat_New.f k x) (words x.toNat) := by
  have hW : WD [x % 4294967296, (x / 4294967296) % 4294967296] := WD_mk (by omega) (by omega) (WD_mk (by omega) (by omega) WD_nil)
  have e : wv [x % 4294967296, (x / 4294967296) % 4294967296] = x.toNat := by
    simp only [wv_cons, wv_nil, BW_eq]; omega
  have := trim_spec hW (by simp)
  rw [e] at this
  unfold nat_New.f
  exact Ev.bind this (Ev.now _)
theorem mx_nat (a b : Nat) : mx (a : Int) (b : Int) = ((max a b : Nat) : Int) := by unfold mx; split <;> omega
theorem Add_ev (a b : List Int) (ha : WD a) (hb : WD b) (n : Nat) (hn : n = max a.length b.length) (hm : n ≤ 1000000000) : ∀ (d i : Nat) (acc : List Int) (c : Int), i + d = n → acc.length = i → WD acc → 0 ≤ c → c ≤ 1 →
    Ev (fun k => nat_Nat_Add.l0 k a b acc c (n : Int) (i : Int)) (words (wv acc + BW ^ acc.length * (c.toNat + wv (a.drop i) + wv (b.drop i))))
  | 0, i, acc, c, hd, hl, hW, h0, h1 => by
    have ea : a.drop i = [] := List.drop_eq_nil_of_le (by omega)
    have eb : b.drop i = [] := List.drop_eq_nil_of_le (by omega)
    rw [ea, eb, wv_nil]
    have hc : c % 4294967296 = c := by omega
    have ht := trim_spec (WD_append hW (WD_mk h0 (by omega) WD_nil) : WD (acc ++ [c])) (by simp; omega)
    rw [wv_snoc] at ht
    refine Ev.step (f := fun k => (nat_trim.f k (acc ++ [c])).bind fun t => some t) (fun k => ?_) (Ev.bind (by simpa using ht) (Ev.now _))
    simp only [nat_Nat_Add.l0]
    rw [if_neg (by omega), if_pos (by omega), hc]
  | d + 1, i, acc, c, hd, hl, hW, h0, h1 => by
    obtain ⟨ra0, ra1⟩ := WD_rd ha (i : Int)
    obtain ⟨rb0, rb1⟩ := WD_rd hb (i : Int)
    generalize hra : rd a (i : Int) = x at *
    generalize hrb : rd b (i : Int) = y at *
    have es : IntKind.u64.wrap (c + IntKind.u64.wrap (x + y)) = c + x + y := by rw [u64i (x := x + y) (by omega) (by omega), u64i (by omega) (by omega)]; omega
    have ih := Add_ev a b ha hb n hn hm d (i + 1) (acc ++ [(c + x + y) % 4294967296]) ((c + x + y) / 4294967296) (by omega) (by simp [hl]) (WD_append hW (WD_mk (by omega) (by omega) WD_nil)) (by omega) (by omega)
    have e : wv (acc ++ [(c + x + y) % 4294967296]) + BW ^ (acc ++ [(c + x + y) % 4294967296]).length * (((c + x + y) / 4294967296).toNat + wv (a.drop (i + 1)) + wv (b.drop (i + 1))) = wv acc + BW ^ acc.length * (c.toNat + wv (a.drop i) + wv (b.drop i)) := by
      rw [wv_drop a i, wv_drop b i, hra, hrb, wv_snoc, List.length_append, List.length_singleton, Nat.pow_succ, Nat.add_assoc, Nat.mul_assoc, ← Nat.mul_add]
      congr 2
      have hq : ((c + x + y) % 4294967296).toNat + BW * ((c + x + y) / 4294967296).toNat = c.toNat + x.toNat + y.toNat := by rw [BW_eq]; omega
      rw [Nat.mul_add, Nat.mul_add]
      omega
    rw [e] at ih
    refine Ev.step (fun k => ?_) ih
    simp only [nat_Nat_Add.l0]
    rw [if_pos (by omega), at_spec ha _ (by omega), at_spec hb _ (by omega), Option.bind_some, Option.bind_some, hra, hrb, if_pos (by omega), es, w64 (by omega) (by omega)]
    rfl
theorem Add_spec {a b : List Int} (ha : WD a) (hb : WD b) (la : a.length ≤ 1000000000) (lb : b.length ≤ 1000000000) : Ev (fun k => nat_Nat_Add.f k a b) (words (wv a + wv b)) := by
  have := Add_ev a b ha hb (max a.length b.length) rfl (by omega) (max a.length b.length) 0 [] 0 (by omega) rfl WD_nil (by omega) (by omega)
  unfold nat_Nat_Add.f
  rw [mx_nat]
  simpa [wv_nil] using this
/-! ### Cmp -/
/-- How numbers compare. -/
def cmpN (m n : Nat) : Int := if m < n then -1 else if m = n then 0 else 1
theorem cmpN_lt {m n : Nat} (h : m < n) : cmpN m n = -1 := if_pos h
theorem cmpN_eq (n : Nat) : cmpN n n = 0 := by unfold cmpN; rw [if_neg (Nat.lt_irrefl _), if_pos rfl]
theorem cmpN_gt {m n : Nat} (h : n < m) : cmpN m n = 1 := by unfold cmpN; rw [if_neg (by omega), if_neg (by omega)]
theorem wv_take_succ (a : List Int) (i : Nat) : wv (a.take (i + 1)) = wv (a.take i) + (if i < a.length then BW ^ i * (rd a (i : Int)).toNat else 0) := by
  by_cases h : i < a.length
  · rw [if_pos h, List.take_succ_eq_append_getElem h, wv_snoc, List.length_take, rd_lt a i h, Nat.min_eq_left (by omega)]
  · rw [if_neg h, List.take_of_length_le (by omega), List.take_of_length_le (by omega)]; rfl
theorem take_lt {a : List Int} (h : WD a) (i : Nat) : wv (a.take i) < BW ^ i := by
  have h1 := wv_lt (WD_take h i)
  rw [List.length_take] at h1
  exact Nat.lt_of_lt_of_le h1 (Nat.pow_le_pow_right BW_pos (Nat.min_le_left _ _))
theorem take_succ' {a : List Int} (i : Nat) : wv (a.take (i + 1)) = wv (a.take i) + BW ^ i * (rd a (i : Int)).toNat := by
  rw [wv_take_succ]
  by_cases h : i < a.length
  · rw [if_pos h]
  · rw [if_neg h, rd_ge a i (by omega)]; rfl
theorem Cmp_ev (a b : List Int) (ha : WD a) (hb : WD b) : ∀ (i : Nat), i ≤ 1000000000 → Ev (fun k => nat_Nat_Cmp.l0 k a b ((i : Int) - 1)) (cmpN (wv (a.take i)) (wv (b.take i)))
  | 0, _ => by
    rw [List.take_zero, List.take_zero, cmpN_eq]
    refine Ev.step (f := fun _ => some 0) (fun k => ?_) (Ev.now _)
    simp only [nat_Nat_Cmp.l0]
    rw [if_neg (by omega)]
  | i + 1, hi => by
    have e : (((i + 1 : Nat) : Int) - 1) = (i : Int) := by omega
    rw [e, take_succ', take_succ']
    obtain ⟨ra0, ra1⟩ := WD_rd ha (i : Int)
    obtain ⟨rb0, rb1⟩ := WD_rd hb (i : Int)
    have la := take_lt ha i
    have lb := take_lt hb i
    generalize hra : rd a (i : Int) = x at *
    generalize hrb : rd b (i : Int) = y at *
    by_cases hxy : x = y
    · have ih := Cmp_ev a b ha hb i (by omega)
      subst hxy
      have ec : cmpN (wv (a.take i) + BW ^ i * x.toNat) (wv (b.take i) + BW ^ i * x.toNat) = cmpN (wv (a.take i)) (wv (b.take i)) := by
        unfold cmpN
        by_cases h1 : wv (a.take i) < wv (b.take i)
        · rw [if_pos h1, if_pos (by omega)]
        · rw [if_neg h1, if_neg (by omega)]
          by_cases h2 : wv (a.take i) = wv (b.take i)
          · rw [if_pos h2, if_pos (by omega)]
          · rw [if_neg h2, if_neg (by omega)]
      rw [ec]
      refine Ev.step (fun k => ?_) ih
      simp only [nat_Nat_Cmp.l0]
      rw [if_pos (by omega), at_spec ha _ (by omega), at_spec hb _ (by omega), Option.bind_some, Option.bind_some, hra, hrb, if_pos rfl, w64 (by omega) (by omega)]
    · by_cases hlt : x < y
      · have : wv (a.take i) + BW ^ i * x.toNat < wv (b.take i) + BW ^ i * y.toNat := by
          have h1 : BW ^ i * x.toNat + BW ^ i ≤ BW ^ i * y.toNat := by
            rw [← Nat.mul_succ]; exact Nat.mul_le_mul_left _ (by omega)
          omega
        rw [cmpN_lt this]
        refine Ev.step (f := fun _ => some (-1)) (fun k => ?_) (Ev.now _)
        simp only [nat_Nat_Cmp.l0]
        rw [if_pos (by omega), at_spec ha _ (by omega), at_spec hb _ (by omega), Option.bind_some, Option.bind_some, hra, hrb, if_neg hxy, if_pos hlt]
      · have : wv (b.take i) + BW ^ i * y.toNat < wv (a.take i) + BW ^ i * x.toNat := by
          have h1 : BW ^ i * y.toNat + BW ^ i ≤ BW ^ i * x.toNat := by
            rw [← Nat.mul_succ]; exact Nat.mul_le_mul_left _ (by omega)
          omega
        rw [cmpN_gt this]
        refine Ev.step (f := fun _ => some 1) (fun k => ?_) (Ev.now _)
        simp only [nat_Nat_Cmp.l0]
        rw [if_pos (by omega), at_spec ha _ (by omega), at_spec hb _ (by omega), Option.bind_some, Option.bind_some, hra, hrb, if_neg hxy, if_neg hlt]
theorem Cmp_spec {a b : List Int} (ha : WD a) (hb : WD b) (la : a.length ≤ 1000000000) (lb : b.length ≤ 1000000000) : Ev (fun k => nat_Nat_Cmp.f k a b) (cmpN (wv a) (wv b)) := by
  have := Cmp_ev a b ha hb (max a.length b.length) (by omega)
  rw [List.take_of_length_le (by omega), List.take_of_length_le (by omega)] at this
  unfold nat_Nat_Cmp.f
  rw [mx_nat, w64 (by omega) (by omega)]
  exact this
/-! ### Sub -/
end Go.Proofs.Ytagbnkbhobmgjaa.Pure
end
section
/- What the products are: plain arithmetic. -/
set_option linter.unusedVariables false
set_option linter.unusedSimpArgs false
namespace Go.Proofs.Ytagbnkbhobmgjaa.Pure
open Go.RowKit Go.Proofs.Ytagbnkbhobmgjaa.Fn Go.Proofs.YtagbnkbhobmgjaaW.PrintWords Go.Proofs.YtagbnkbhobmgjaaW.PrintMore Go.Proofs.YtagbnkbhobmgjaaW.PrintLast
theorem wv_set : ∀ (x : List Int) (i : Nat) (y : Int), i < x.length → wv (x.set i y) + BW ^ i * (rd x (i : Int)).toNat = wv x + BW ^ i * y.toNat
  | [], i, y, h => by simp at h
  | z :: zs, 0, y, h => by
    rw [rd_lt _ _ h]
    simp only [List.set_cons_zero, wv_cons, List.getElem_cons_zero, Nat.pow_zero, Nat.one_mul]
    omega
  | z :: zs, i + 1, y, h => by
    have h' : i < zs.length := by simpa using h
    have ih := wv_set zs i y h'
    rw [rd_lt _ _ h]
    rw [rd_lt _ _ h'] at ih
    simp only [List.set_cons_succ, wv_cons, List.getElem_cons_succ]
    have e : ∀ t : Nat, BW ^ (i + 1) * t = BW * (BW ^ i * t) := fun t => by rw [Nat.pow_succ, Nat.mul_comm (BW ^ i) BW, Nat.mul_assoc]
    rw [e, e, Nat.add_assoc, Nat.add_assoc, ← Nat.mul_add, ← Nat.mul_add, ih]
theorem rd_le_wv (x : List Int) (i : Nat) : BW ^ i * (rd x (i : Int)).toNat ≤ wv x := by
  by_cases h : i < x.length
  · have := wv_set x i 0 h
    simp at this
    omega
  · rw [rd_ge x i (by omega)]; simp
theorem rd_zero_of_lt (x : List Int) (hx : WD x) (i : Nat) (h : wv x < BW ^ i) : rd x (i : Int) = 0 := by
  have h1 := rd_le_wv x i
  have h2 := (WD_rd hx (i : Int)).1
  rcases Nat.eq_zero_or_pos (rd x (i : Int)).toNat with h0 | h0
  · omega
  · have := Nat.le_mul_of_pos_right (BW ^ i) h0
    omega
theorem rd_set_ne (x : List Int) (i j : Nat) (y : Int) (h : i ≠ j) : rd (x.set i y) (j : Int) = rd x (j : Int) := by
  unfold rd
  simp only [Int.toNat_natCast, List.getD_eq_getElem?_getD]
  rw [List.getElem?_set_ne h]
theorem mul32 {x y : Int} (x0 : 0 ≤ x) (x1 : x < 4294967296) (y0 : 0 ≤ y) (y1 : y < 4294967296) : 0 ≤ x * y ∧ x * y ≤ 18446744065119617025 := by
  refine ⟨Int.mul_nonneg x0 y0, ?_⟩
  have h := Int.mul_le_mul (show x ≤ 4294967295 by omega) (show y ≤ 4294967295 by omega) y0 (by omega)
  omega
theorem Mul_row (b : List Int) (hb : WD b) (a : List Int) (i : Nat) (hlen : a.length + b.length ≤ 2000000000) (hi : i < a.length) (x : Int) (x0 : 0 ≤ x) (x1 : x < 4294967296) :
    ∀ (d j : Nat) (r : List Int) (c : Int) (X R : Nat), j + d = b.length → r.length = a.length + b.length → WD r → 0 ≤ c → c < 4294967296 →
      rd r ((i + b.length : Nat) : Int) = 0 →
      wv r + BW ^ (i + j) * c.toNat = X + BW ^ i * (x.toNat * wv (b.take j)) →
      (∀ (r' : List Int), r'.length = a.length + b.length → WD r' → wv r' = X + BW ^ i * (x.toNat * wv b) → Ev (fun k => nat_Nat_Mul.l0 k b r' a (a.length : Int) ((i + 1 : Nat) : Int)) (words R)) →
      Ev (fun k => nat_Nat_Mul.l1 k b r (i : Int) x c a (a.length : Int) (i : Int) b (b.length : Int) (j : Int)) (words R)
  | 0, j, r, c, X, R, hd, hl, hW, c0, c1, hz, hv, hk => by
    have ej : j = b.length := by omega
    subst ej
    rw [List.take_length] at hv
    have hs := wv_set r (i + b.length) c (by omega)
    rw [hz] at hs
    have h := hk (r.set (i + b.length) c) (by simp [hl]) (WD_set hW _ c0 c1) (by simpa [hv] using hs)
    refine Ev.step (fun k => ?_) h
    simp only [nat_Nat_Mul.l1]
    rw [if_neg (by omega), w64 (by omega) (by omega), if_pos (by omega), if_pos (by omega), w64 (by omega) (by omega), Int.emod_eq_of_lt c0 c1]
    rfl
  | d + 1, j, r, c, X, R, hd, hl, hW, c0, c1, hz, hv, hk => by
    obtain ⟨y0, y1⟩ := WD_rd hb (j : Int)
    obtain ⟨z0, z1⟩ := WD_rd hW ((i + j : Nat) : Int)
    have hs := wv_set r (i + j) ((c + (x * rd b (j : Int) + rd r ((i + j : Nat) : Int))) % 4294967296) (by omega)
    have ht := take_succ' (a := b) j
    generalize hy : rd b (j : Int) = y at *
    generalize hzz : rd r ((i + j : Nat) : Int) = z at *
    obtain ⟨m0, m1⟩ := mul32 x0 x1 y0 y1
    have et : x.toNat * y.toNat = (x * y).toNat := by
      rw [Int.toNat_mul x0 y0]
    generalize hp : x * y = p at *
    have hq : ((c + (p + z)) % 4294967296).toNat + BW * ((c + (p + z)) / 4294967296).toNat = c.toNat + p.toNat + z.toNat := by rw [BW_eq]; omega
    have ih := Mul_row b hb a i hlen hi x x0 x1 d (j + 1) (r.set (i + j) ((c + (p + z)) % 4294967296)) ((c + (p + z)) / 4294967296) X R (by omega) (by simp [hl]) (WD_set hW _ (by omega) (by omega)) (by omega) (by omega)
      (by rw [rd_set_ne _ _ _ _ (by omega)]; exact hz)
      (by
        rw [ht, Nat.mul_add, Nat.mul_add, ← Nat.add_assoc X, ← hv]
        have e1 : BW ^ i * (x.toNat * (BW ^ j * y.toNat)) = BW ^ (i + j) * p.toNat := by
          rw [← et, Nat.pow_add, Nat.mul_left_comm x.toNat, Nat.mul_assoc]
        have e2 : BW ^ (i + (j + 1)) * ((c + (p + z)) / 4294967296).toNat = BW ^ (i + j) * (BW * ((c + (p + z)) / 4294967296).toNat) := by
          rw [← Nat.add_assoc, Nat.pow_succ, Nat.mul_assoc]
        rw [e1, e2]
        have h3 : BW ^ (i + j) * ((c + (p + z)) % 4294967296).toNat + BW ^ (i + j) * (BW * ((c + (p + z)) / 4294967296).toNat) = BW ^ (i + j) * c.toNat + BW ^ (i + j) * p.toNat + BW ^ (i + j) * z.toNat := by
          rw [← Nat.mul_add, hq, Nat.mul_add, Nat.mul_add]
        omega) hk
    refine Ev.step (fun k => ?_) ih
    simp only [nat_Nat_Mul.l1]
    rw [if_pos (by omega), if_pos (by omega), if_pos (by omega), w64 (by omega) (by omega), if_pos (by omega), if_pos (by omega), w64 (by omega) (by omega), hy]
    have ec : ((i : Int) + (j : Int)) = ((i + j : Nat) : Int) := by omega
    rw [ec, hzz, u64i x0 (by omega), u64i y0 (by omega), hp, u64i m0 (by omega), u64i z0 (by omega), u64i (x := p + z) (by omega) (by omega), u64i (x := c + (p + z)) (by omega) (by omega)]
    rfl
theorem Mul_ev (a b : List Int) (ha : WD a) (hb : WD b) (hlen : a.length + b.length ≤ 2000000000) :
    ∀ (d i : Nat) (r : List Int), i + d = a.length → r.length = a.length + b.length → WD r → wv r = wv (a.take i) * wv b →
      Ev (fun k => nat_Nat_Mul.l0 k b r a (a.length : Int) (i : Int)) (words (wv a * wv b))
  | 0, i, r, hd, hl, hW, hv => by
    rw [List.take_of_length_le (by omega)] at hv
    have ht := trim_spec hW (by omega)
    rw [hv] at ht
    refine Ev.step (f := fun k => (nat_trim.f k r).bind fun t => some t) (fun k => ?_) (Ev.bind ht (Ev.now _))
    simp only [nat_Nat_Mul.l0]
    rw [if_neg (by omega)]
  | d + 1, i, r, hd, hl, hW, hv => by
    obtain ⟨x0, x1⟩ := WD_rd ha (i : Int)
    have hz : rd r ((i + b.length : Nat) : Int) = 0 := by
      refine rd_zero_of_lt r hW _ ?_
      rw [hv, Nat.pow_add]
      exact Nat.mul_lt_mul'' (take_lt ha i) (wv_lt hb)
    have h := Mul_row b hb a i hlen (by omega) (rd a (i : Int)) x0 x1 b.length 0 r 0 (wv r) (wv a * wv b) (by omega) hl hW (by omega) (by omega) hz (by simp [wv_nil])
      (fun r' hl' hW' hv' => Mul_ev a b ha hb hlen d (i + 1) r' (by omega) hl' hW' (by
        rw [hv', hv, take_succ', Nat.add_mul, Nat.mul_assoc]))
    refine Ev.step (fun k => ?_) h
    simp only [nat_Nat_Mul.l0]
    rw [if_pos (by omega), if_pos (by omega), if_pos (by omega)]
    rfl
theorem Mul_spec {a b : List Int} (ha : WD a) (hb : WD b) (la : a.length ≤ 1000000000) (lb : b.length ≤ 1000000000) : Ev (fun k => nat_Nat_Mul.f k a b) (words (wv a * wv b)) := by
  have h := Mul_ev a b ha hb (by omega) a.length 0 (List.replicate (a.length + b.length) 0) (by omega) (by simp) (WD_rep _) (by simp [wv_rep, wv_nil])
  unfold nat_Nat_Mul.f
  have e : wrap64 ((a.length : Int) + (b.length : Int)) = ((a.length + b.length : Nat) : Int) := by rw [w64 (by omega) (by omega)]; omega
  rw [e, Int.toNat_natCast]
  refine Ev.congr (fun k => ?_) h
  rw [if_pos (by omega), if_pos (by omega)]
  rfl
end Go.Proofs.Ytagbnkbhobmgjaa.Pure
end
section
-- Written by a program of this session (a turned copy of the kit's printer, and hand-written parts). Not trusted: Lean checks it.
namespace Go.Proofs.Ytagbnkbhobmgjaa.Fn
open Go.RowKit Go.Proofs.YtagbnkbhobmgjaaW.PrintWords Go.Proofs.YtagbnkbhobmgjaaW.PrintLast Go.Proofs.YtagbnkbhobmgjaaW.PrintMore
attribute [local go_sem] max2_int min2_int max_two min_two max_three min_three max_four min_four   -- for this text's walks alone
set_option linter.unusedVariables false
set_option linter.unusedSimpArgs false
/-! ### flyballlaw02_small: function 24 -/
end Go.Proofs.Ytagbnkbhobmgjaa.Fn
end
section
-- Written by a program of this session (a turned copy of the kit's printer, and hand-written parts). Not trusted: Lean checks it.
namespace Go.Proofs.Ytagbnkbhobmgjaa.Fn
open Go.RowKit Go.Proofs.YtagbnkbhobmgjaaW.PrintWords Go.Proofs.YtagbnkbhobmgjaaW.PrintLast Go.Proofs.YtagbnkbhobmgjaaW.PrintMore
attribute [local go_sem] max2_int min2_int max_two min_two max_three min_three max_four min_four   -- for this text's walks alone
set_option linter.unusedVariables false
set_option linter.unusedSimpArgs false
/-! ### flyballref01_Len: function 53 -/
def flyballref01_Len.l0 : Nat → List Bool → Int → Option (Int)
 | 0, _, _ => none
 | k + 1, x0, x3 => if x3 > 0 then (if 0 ≤ (wrap64 (x3 - 1)) then (if (wrap64 (x3 - 1)) < (x0.length : Int) then (if (rdOf false x0 (wrap64 (x3 - 1)) = true) then (some x3) else (flyballref01_Len.l0 k x0 (wrap64 (x3 - 1)))) else (none)) else (none)) else (some x3)
def flyballref01_Len.f (k : Nat) (l0 : List Bool) : Option (Int) := flyballref01_Len.l0 k l0 (l0.length : Int)
end Go.Proofs.Ytagbnkbhobmgjaa.Fn
end
section
-- Written by a program of this session (a turned copy of the kit's printer, and hand-written parts). Not trusted: Lean checks it.
namespace Go.Proofs.Ytagbnkbhobmgjaa.Fn
open Go.RowKit Go.Proofs.YtagbnkbhobmgjaaW.PrintWords Go.Proofs.YtagbnkbhobmgjaaW.PrintLast Go.Proofs.YtagbnkbhobmgjaaW.PrintMore
attribute [local go_sem] max2_int min2_int max_two min_two max_three min_three max_four min_four   -- for this text's walks alone
set_option linter.unusedVariables false
set_option linter.unusedSimpArgs false
/-! ### flyballref02_Bits: function 25 -/
mutual
def flyballref02_Bits.l0 : Nat → List Int → List Bool → Int → Option (List Bool)
 | 0, _, _, _ => none
 | k + 1, x0, x3, x4 => if x4 < (x0.length : Int) then (flyballref02_Bits.l1 k x0 x3 x4 0) else ((flyballref01_Len.f k x3).bind fun t101 => (if 0 ≤ t101 then (if t101 ≤ (x3.length : Int) then (some (x3.take (t101 : Int).toNat)) else (none)) else (none)))
def flyballref02_Bits.l1 : Nat → List Int → List Bool → Int → Int → Option (List Bool)
 | 0, _, _, _, _ => none
 | k + 1, x0, x3, x4, x5 => if x5 < 32 then (if 0 ≤ x4 then (if x4 < (x0.length : Int) then (if 0 ≤ (IntKind.u64.wrap (x5)) then (if x3.length < 140737488355328 then (flyballref02_Bits.l1 k x0 (x3 ++ [((Go.bits .and .u32 (shr .u32 (rd x0 x4) (IntKind.u64.wrap (x5))) 1) == 1)]) x4 (wrap64 (x5 + 1))) else (none)) else (none)) else (none)) else (none)) else (flyballref02_Bits.l0 k x0 x3 (wrap64 (x4 + 1)))
end
end Go.Proofs.Ytagbnkbhobmgjaa.Fn
end
section
-- Written by a program of this session (a turned copy of the kit's printer, and hand-written parts). Not trusted: Lean checks it.
namespace Go.Proofs.Ytagbnkbhobmgjaa.Fn
open Go.RowKit Go.Proofs.YtagbnkbhobmgjaaW.PrintWords Go.Proofs.YtagbnkbhobmgjaaW.PrintLast Go.Proofs.YtagbnkbhobmgjaaW.PrintMore
attribute [local go_sem] max2_int min2_int max_two min_two max_three min_three max_four min_four   -- for this text's walks alone
set_option linter.unusedVariables false
set_option linter.unusedSimpArgs false
/-! ### flyballref01_bit: function 105 -/
def flyballref01_bit.f (l0 : List Bool) (a1 : Int) : Option (Bool) := if a1 ≥ 0 then (if a1 < (l0.length : Int) then (if 0 ≤ a1 then (some (rdOf false l0 a1)) else (none)) else (some false)) else (some false)
end Go.Proofs.Ytagbnkbhobmgjaa.Fn
end
section
-- Written by a program of this session (a turned copy of the kit's printer, and hand-written parts). Not trusted: Lean checks it.
namespace Go.Proofs.Ytagbnkbhobmgjaa.Fn
open Go.RowKit Go.Proofs.YtagbnkbhobmgjaaW.PrintWords Go.Proofs.YtagbnkbhobmgjaaW.PrintLast Go.Proofs.YtagbnkbhobmgjaaW.PrintMore
attribute [local go_sem] max2_int min2_int max_two min_two max_three min_three max_four min_four   -- for this text's walks alone
set_option linter.unusedVariables false
set_option linter.unusedSimpArgs false
/-! ### flyballref01_Cmp: function 26 -/
def flyballref01_Cmp.l0 : Nat → List Bool → List Bool → Int → Option (Int)
 | 0, _, _, _ => none
 | k + 1, x0, x1, x5 => if x5 ≥ 0 then ((flyballref01_bit.f x0 x5).bind fun t101 => ((flyballref01_bit.f x1 x5).bind fun t102 => (if (t101 != t102) = true then (if t101 = true then (some 1) else (some (-1))) else (flyballref01_Cmp.l0 k x0 x1 (wrap64 (x5 - 1)))))) else (some 0)
def flyballref01_Cmp.f (k : Nat) (l0 : List Bool) (l1 : List Bool) : Option (Int) := flyballref01_Cmp.l0 k l0 l1 (wrap64 ((mx (l0.length : Int) (l1.length : Int)) - 1))
end Go.Proofs.Ytagbnkbhobmgjaa.Fn
end
section
-- Written by a program of this session (a turned copy of the kit's printer, and hand-written parts). Not trusted: Lean checks it.
namespace Go.Proofs.Ytagbnkbhobmgjaa.Fn
open Go.RowKit Go.Proofs.YtagbnkbhobmgjaaW.PrintWords Go.Proofs.YtagbnkbhobmgjaaW.PrintLast Go.Proofs.YtagbnkbhobmgjaaW.PrintMore
attribute [local go_sem] max2_int min2_int max_two min_two max_three min_three max_four min_four   -- for this text's walks alone
set_option linter.unusedVariables false
set_option linter.unusedSimpArgs false
/-! ### flyballref02_Same: function 106 -/
end Go.Proofs.Ytagbnkbhobmgjaa.Fn
end
section
-- Written by a program of this session (a turned copy of the kit's printer, and hand-written parts). Not trusted: Lean checks it.
namespace Go.Proofs.Ytagbnkbhobmgjaa.Fn
open Go.RowKit Go.Proofs.YtagbnkbhobmgjaaW.PrintWords Go.Proofs.YtagbnkbhobmgjaaW.PrintLast Go.Proofs.YtagbnkbhobmgjaaW.PrintMore
attribute [local go_sem] max2_int min2_int max_two min_two max_three min_three max_four min_four   -- for this text's walks alone
set_option linter.unusedVariables false
set_option linter.unusedSimpArgs false
/-! ### flyballref02_Words: function 107 -/
end Go.Proofs.Ytagbnkbhobmgjaa.Fn
end
section
-- Written by a program of this session (a turned copy of the kit's printer, and hand-written parts). Not trusted: Lean checks it.
namespace Go.Proofs.Ytagbnkbhobmgjaa.Fn
open Go.RowKit Go.Proofs.YtagbnkbhobmgjaaW.PrintWords Go.Proofs.YtagbnkbhobmgjaaW.PrintLast Go.Proofs.YtagbnkbhobmgjaaW.PrintMore
attribute [local go_sem] max2_int min2_int max_two min_two max_three min_three max_four min_four   -- for this text's walks alone
set_option linter.unusedVariables false
set_option linter.unusedSimpArgs false
/-! ### flyballref02_Is: function 27 -/
end Go.Proofs.Ytagbnkbhobmgjaa.Fn
end
section
-- Written by a program of this session (a turned copy of the kit's printer, and hand-written parts). Not trusted: Lean checks it.
namespace Go.Proofs.Ytagbnkbhobmgjaa.Fn
open Go.RowKit Go.Proofs.YtagbnkbhobmgjaaW.PrintWords Go.Proofs.YtagbnkbhobmgjaaW.PrintLast Go.Proofs.YtagbnkbhobmgjaaW.PrintMore
attribute [local go_sem] max2_int min2_int max_two min_two max_three min_three max_four min_four   -- for this text's walks alone
set_option linter.unusedVariables false
set_option linter.unusedSimpArgs false
/-! ### flyballref01_Add: function 29 -/
mutual
def flyballref01_Add.l0 : Nat → List Bool → List Bool → List Bool → Bool → Int → Option (List Bool)
 | 0, _, _, _, _, _ => none
 | k + 1, x0, x1, x5, x6, x7 => if x7 < (x0.length : Int) then (flyballref01_Add.j1 k x0 x1 x5 x6 x7 true) else (if x7 < (x1.length : Int) then (flyballref01_Add.j1 k x0 x1 x5 x6 x7 true) else (flyballref01_Add.j1 k x0 x1 x5 x6 x7 x6))
def flyballref01_Add.j1 : Nat → List Bool → List Bool → List Bool → Bool → Int → Bool → Option (List Bool)
 | 0, _, _, _, _, _, _ => none
 | k + 1, x0, x1, x5, x6, x7, x22 => if x22 = true then ((flyballref01_bit.f x0 x7).bind fun t101 => ((flyballref01_bit.f x1 x7).bind fun t102 => (if x5.length < 140737488355328 then ((some (x5 ++ [((t101 != t102) != x6)] : List Bool)).bind fun y103 => (if t101 = true then (if t102 = true then (flyballref01_Add.l0 k x0 x1 y103 true (wrap64 (x7 + 1))) else (if x6 = true then (flyballref01_Add.l0 k x0 x1 y103 true (wrap64 (x7 + 1))) else (flyballref01_Add.l0 k x0 x1 y103 false (wrap64 (x7 + 1))))) else (if t102 = true then (flyballref01_Add.l0 k x0 x1 y103 x6 (wrap64 (x7 + 1))) else (flyballref01_Add.l0 k x0 x1 y103 false (wrap64 (x7 + 1)))))) else (none)))) else (some x5)
end
end Go.Proofs.Ytagbnkbhobmgjaa.Fn
end
section
-- Written by a program of this session (a turned copy of the kit's printer, and hand-written parts). Not trusted: Lean checks it.
namespace Go.Proofs.Ytagbnkbhobmgjaa.Fn
open Go.RowKit Go.Proofs.YtagbnkbhobmgjaaW.PrintWords Go.Proofs.YtagbnkbhobmgjaaW.PrintLast Go.Proofs.YtagbnkbhobmgjaaW.PrintMore
attribute [local go_sem] max2_int min2_int max_two min_two max_three min_three max_four min_four   -- for this text's walks alone
set_option linter.unusedVariables false
set_option linter.unusedSimpArgs false
/-! ### flyballref01_Shl: function 45 -/
def flyballref01_Shl.l0 : Nat → List Bool → Int → List Bool → Int → Option (List Bool)
 | 0, _, _, _, _ => none
 | k + 1, x0, x1, x5, x6 => if x6 < x1 then (if x5.length < 140737488355328 then (flyballref01_Shl.l0 k x0 x1 (x5 ++ [false]) (wrap64 (x6 + 1))) else (none)) else (if x5.length + x0.length < 140737488355328 then (some (x5 ++ x0)) else (none))
def flyballref01_Shl.f (k : Nat) (l0 : List Bool) (a1 : Int) : Option (List Bool) := flyballref01_Shl.l0 k l0 a1 ([] : List Bool) 0
end Go.Proofs.Ytagbnkbhobmgjaa.Fn
end
section
-- Written by a program of this session (a turned copy of the kit's printer, and hand-written parts). Not trusted: Lean checks it.
namespace Go.Proofs.Ytagbnkbhobmgjaa.Fn
open Go.RowKit Go.Proofs.YtagbnkbhobmgjaaW.PrintWords Go.Proofs.YtagbnkbhobmgjaaW.PrintLast Go.Proofs.YtagbnkbhobmgjaaW.PrintMore
attribute [local go_sem] max2_int min2_int max_two min_two max_three min_three max_four min_four   -- for this text's walks alone
set_option linter.unusedVariables false
set_option linter.unusedSimpArgs false
/-! ### flyballref01_Mul: function 31 -/
end Go.Proofs.Ytagbnkbhobmgjaa.Fn
end
section
-- Written by a program of this session (a turned copy of the kit's printer, and hand-written parts). Not trusted: Lean checks it.
namespace Go.Proofs.Ytagbnkbhobmgjaa.Fn
open Go.RowKit Go.Proofs.YtagbnkbhobmgjaaW.PrintWords Go.Proofs.YtagbnkbhobmgjaaW.PrintLast Go.Proofs.YtagbnkbhobmgjaaW.PrintMore
attribute [local go_sem] max2_int min2_int max_two min_two max_three min_three max_four min_four   -- for this text's walks alone
set_option linter.unusedVariables false
set_option linter.unusedSimpArgs false
/-! ### flyballref01_Sub: function 34 -/
def flyballref01_Sub.l0 : Nat → List Bool → List Bool → Int → List Bool → Bool → Int → Option (List Bool × Bool)
 | 0, _, _, _, _, _, _ => none
 | k + 1, x0, x1, x2, x8, x9, x10 => if x10 < x2 then ((flyballref01_bit.f x0 x10).bind fun t101 => ((flyballref01_bit.f x1 x10).bind fun t102 => (if x8.length < 140737488355328 then ((some (x8 ++ [((t101 != t102) != x9)] : List Bool)).bind fun y103 => (if t101 = true then (if t102 = true then (flyballref01_Sub.l0 k x0 x1 x2 y103 x9 (wrap64 (x10 + 1))) else (flyballref01_Sub.l0 k x0 x1 x2 y103 false (wrap64 (x10 + 1)))) else (if t102 = true then (flyballref01_Sub.l0 k x0 x1 x2 y103 true (wrap64 (x10 + 1))) else (if x9 = true then (flyballref01_Sub.l0 k x0 x1 x2 y103 true (wrap64 (x10 + 1))) else (flyballref01_Sub.l0 k x0 x1 x2 y103 false (wrap64 (x10 + 1))))))) else (none)))) else (some (x8, x9))
def flyballref01_Sub.f (k : Nat) (l0 : List Bool) (l1 : List Bool) (a2 : Int) : Option (List Bool × Bool) := flyballref01_Sub.l0 k l0 l1 a2 ([] : List Bool) false 0
end Go.Proofs.Ytagbnkbhobmgjaa.Fn
end
section
-- Written by a program of this session (a turned copy of the kit's printer, and hand-written parts). Not trusted: Lean checks it.
namespace Go.Proofs.Ytagbnkbhobmgjaa.Fn
open Go.RowKit Go.Proofs.YtagbnkbhobmgjaaW.PrintWords Go.Proofs.YtagbnkbhobmgjaaW.PrintLast Go.Proofs.YtagbnkbhobmgjaaW.PrintMore
attribute [local go_sem] max2_int min2_int max_two min_two max_three min_three max_four min_four   -- for this text's walks alone
set_option linter.unusedVariables false
set_option linter.unusedSimpArgs false
/-! ### flyballref04_Split: function 67 -/
end Go.Proofs.Ytagbnkbhobmgjaa.Fn
end
section
-- Written by a program of this session (a turned copy of the kit's printer, and hand-written parts). Not trusted: Lean checks it.
namespace Go.Proofs.Ytagbnkbhobmgjaa.Fn
open Go.RowKit Go.Proofs.YtagbnkbhobmgjaaW.PrintWords Go.Proofs.YtagbnkbhobmgjaaW.PrintLast Go.Proofs.YtagbnkbhobmgjaaW.PrintMore
attribute [local go_sem] max2_int min2_int max_two min_two max_three min_three max_four min_four   -- for this text's walks alone
set_option linter.unusedVariables false
set_option linter.unusedSimpArgs false
/-! ### flyballref04_Make: function 69 -/
end Go.Proofs.Ytagbnkbhobmgjaa.Fn
end
section
-- Written by a program of this session (a turned copy of the kit's printer, and hand-written parts). Not trusted: Lean checks it.
namespace Go.Proofs.Ytagbnkbhobmgjaa.Fn
open Go.RowKit Go.Proofs.YtagbnkbhobmgjaaW.PrintWords Go.Proofs.YtagbnkbhobmgjaaW.PrintLast Go.Proofs.YtagbnkbhobmgjaaW.PrintMore
attribute [local go_sem] max2_int min2_int max_two min_two max_three min_three max_four min_four   -- for this text's walks alone
set_option linter.unusedVariables false
set_option linter.unusedSimpArgs false
/-! ### flyballref04_Finite: function 72 -/
end Go.Proofs.Ytagbnkbhobmgjaa.Fn
end
section
-- Written by a program of this session (a turned copy of the kit's printer, and hand-written parts). Not trusted: Lean checks it.
namespace Go.Proofs.Ytagbnkbhobmgjaa.Fn
open Go.RowKit Go.Proofs.YtagbnkbhobmgjaaW.PrintWords Go.Proofs.YtagbnkbhobmgjaaW.PrintLast Go.Proofs.YtagbnkbhobmgjaaW.PrintMore
attribute [local go_sem] max2_int min2_int max_two min_two max_three min_three max_four min_four   -- for this text's walks alone
set_option linter.unusedVariables false
set_option linter.unusedSimpArgs false
/-! ### flyballref04_Of: function 123 -/
end Go.Proofs.Ytagbnkbhobmgjaa.Fn
end
section
-- Written by a program of this session (a turned copy of the kit's printer, and hand-written parts). Not trusted: Lean checks it.
namespace Go.Proofs.Ytagbnkbhobmgjaa.Fn
open Go.RowKit Go.Proofs.YtagbnkbhobmgjaaW.PrintWords Go.Proofs.YtagbnkbhobmgjaaW.PrintLast Go.Proofs.YtagbnkbhobmgjaaW.PrintMore
attribute [local go_sem] max2_int min2_int max_two min_two max_three min_three max_four min_four   -- for this text's walks alone
set_option linter.unusedVariables false
set_option linter.unusedSimpArgs false
/-! ### flyballref04_Next: function 75 -/
end Go.Proofs.Ytagbnkbhobmgjaa.Fn
end
section
-- Written by a program of this session (a turned copy of the kit's printer, and hand-written parts). Not trusted: Lean checks it.
namespace Go.Proofs.Ytagbnkbhobmgjaa.Fn
open Go.RowKit Go.Proofs.YtagbnkbhobmgjaaW.PrintWords Go.Proofs.YtagbnkbhobmgjaaW.PrintLast Go.Proofs.YtagbnkbhobmgjaaW.PrintMore
attribute [local go_sem] max2_int min2_int max_two min_two max_three min_three max_four min_four   -- for this text's walks alone
set_option linter.unusedVariables false
set_option linter.unusedSimpArgs false
/-! ### flyballref04_Prev: function 77 -/
end Go.Proofs.Ytagbnkbhobmgjaa.Fn
end
section
-- Written by a program of this session (a turned copy of the kit's printer, and hand-written parts). Not trusted: Lean checks it.
namespace Go.Proofs.Ytagbnkbhobmgjaa.Fn
open Go.RowKit Go.Proofs.YtagbnkbhobmgjaaW.PrintWords Go.Proofs.YtagbnkbhobmgjaaW.PrintLast Go.Proofs.YtagbnkbhobmgjaaW.PrintMore
attribute [local go_sem] max2_int min2_int max_two min_two max_three min_three max_four min_four   -- for this text's walks alone
set_option linter.unusedVariables false
set_option linter.unusedSimpArgs false
/-! ### nat_Nat_Bit: function 42 -/
end Go.Proofs.Ytagbnkbhobmgjaa.Fn
end
section
-- Written by a program of this session (a turned copy of the kit's printer, and hand-written parts). Not trusted: Lean checks it.
namespace Go.Proofs.Ytagbnkbhobmgjaa.Fn
open Go.RowKit Go.Proofs.YtagbnkbhobmgjaaW.PrintWords Go.Proofs.YtagbnkbhobmgjaaW.PrintLast Go.Proofs.YtagbnkbhobmgjaaW.PrintMore
attribute [local go_sem] max2_int min2_int max_two min_two max_three min_three max_four min_four   -- for this text's walks alone
set_option linter.unusedVariables false
set_option linter.unusedSimpArgs false
/-! ### nat_Parse: function 47 -/
mutual
def nat_Parse.l0 : Nat → ByteArray → List Int → Int → Int → Int → Int → Option (List Int × Int)
 | 0, _, _, _, _, _, _ => none
 | k + 1, x0, x4, x5, x6, x16, x17 => if x17 < x16 then (if 0 ≤ x17 then (if x17 < (x0.size : Int) then (if (bt x0 x17) < 48 then (nat_Parse.j1 k x0 x4 x5 x6 x17 x16 x17 true) else (nat_Parse.j1 k x0 x4 x5 x6 x17 x16 x17 (decide ((bt x0 x17) > 57)))) else (none)) else (none)) else (some (x4, 0))
def nat_Parse.j1 : Nat → ByteArray → List Int → Int → Int → Int → Int → Int → Bool → Option (List Int × Int)
 | 0, _, _, _, _, _, _, _, _ => none
 | k + 1, x0, x4, x5, x6, x7, x16, x17, x29 => if x29 = true then (some (([] : List Int), 22)) else (if 0 ≤ x7 then (if x7 < (x0.size : Int) then (if (IntKind.u64.wrap (x6 * 10)) = 1000000000 then (nat_Parse.j2 k x0 x4 (IntKind.u64.wrap ((IntKind.u64.wrap (x5 * 10)) + (((bt x0 x7) - 48) % 256))) (IntKind.u64.wrap (x6 * 10)) x16 x17 true) else (nat_Parse.j2 k x0 x4 (IntKind.u64.wrap ((IntKind.u64.wrap (x5 * 10)) + (((bt x0 x7) - 48) % 256))) (IntKind.u64.wrap (x6 * 10)) x16 x17 (x7 == (wrap64 ((x0.size : Int) - 1))))) else (none)) else (none))
def nat_Parse.j2 : Nat → ByteArray → List Int → Int → Int → Int → Int → Bool → Option (List Int × Int)
 | 0, _, _, _, _, _, _, _ => none
 | k + 1, x0, x4, x5, x6, x16, x17, x48 => if x48 = true then ((nat_New.f k x6).bind fun t101 => ((nat_Nat_Mul.f k x4 t101).bind fun t104 => ((nat_New.f k x5).bind fun t107 => ((nat_Nat_Add.f k t104 t107).bind fun t110 => (nat_Parse.l0 k x0 t110 0 1 x16 (wrap64 (x17 + 1))))))) else (nat_Parse.l0 k x0 x4 x5 x6 x16 (wrap64 (x17 + 1)))
end
end Go.Proofs.Ytagbnkbhobmgjaa.Fn
end
section
-- Written by a program of this session (a turned copy of the kit's printer, and hand-written parts). Not trusted: Lean checks it.
namespace Go.Proofs.Ytagbnkbhobmgjaa.Fn
open Go.RowKit Go.Proofs.YtagbnkbhobmgjaaW.PrintWords Go.Proofs.YtagbnkbhobmgjaaW.PrintLast Go.Proofs.YtagbnkbhobmgjaaW.PrintMore
attribute [local go_sem] max2_int min2_int max_two min_two max_three min_three max_four min_four   -- for this text's walks alone
set_option linter.unusedVariables false
set_option linter.unusedSimpArgs false
/-! ### flyballref01_Words: function 40 -/
mutual
def flyballref01_Words.l0 : Nat → List Bool → Int → List Int → Int → Option (List Int)
 | 0, _, _, _, _ => none
 | k + 1, x0, x1, x5, x6 => if x6 < (x0.length : Int) then (flyballref01_Words.j1 k x0 x1 x5 x6 (decide (x6 < (wrap64 (64 * x1))))) else (flyballref01_Words.j1 k x0 x1 x5 x6 false)
def flyballref01_Words.j1 : Nat → List Bool → Int → List Int → Int → Bool → Option (List Int)
 | 0, _, _, _, _, _ => none
 | k + 1, x0, x1, x5, x6, x18 => if x18 = true then (if 0 ≤ x6 then (if x6 < (x0.length : Int) then (if rdOf false x0 x6 = true then (if 0 ≤ (wrap64 (Int.tdiv x6 64)) then (if (wrap64 (Int.tdiv x6 64)) < (x5.length : Int) then (if 0 ≤ (IntKind.u64.wrap (Int.tmod x6 64)) then (flyballref01_Words.l0 k x0 x1 (x5.set ((wrap64 (Int.tdiv x6 64)) : Int).toNat (Go.bits .or .u64 (rd x5 (wrap64 (Int.tdiv x6 64))) (shl .u64 1 (IntKind.u64.wrap (Int.tmod x6 64))))) (wrap64 (x6 + 1))) else (none)) else (none)) else (none)) else (flyballref01_Words.l0 k x0 x1 x5 (wrap64 (x6 + 1)))) else (none)) else (none)) else (some x5)
end
end Go.Proofs.Ytagbnkbhobmgjaa.Fn
end
section
-- Written by a program of this session (a turned copy of the kit's printer, and hand-written parts). Not trusted: Lean checks it.
namespace Go.Proofs.Ytagbnkbhobmgjaa.Fn
open Go.RowKit Go.Proofs.YtagbnkbhobmgjaaW.PrintWords Go.Proofs.YtagbnkbhobmgjaaW.PrintLast Go.Proofs.YtagbnkbhobmgjaaW.PrintMore
attribute [local go_sem] max2_int min2_int max_two min_two max_three min_three max_four min_four   -- for this text's walks alone
set_option linter.unusedVariables false
set_option linter.unusedSimpArgs false
/-! ### flyballref01_Of: function 51 -/
mutual
def flyballref01_Of.l0 : Nat → List Int → List Bool → Int → Option (List Bool)
 | 0, _, _, _ => none
 | k + 1, x0, x3, x4 => if x4 < (x0.length : Int) then (flyballref01_Of.l1 k x0 x3 x4 0) else (some x3)
def flyballref01_Of.l1 : Nat → List Int → List Bool → Int → Int → Option (List Bool)
 | 0, _, _, _, _ => none
 | k + 1, x0, x3, x4, x5 => if x5 < 64 then (if 0 ≤ x4 then (if x4 < (x0.length : Int) then (if 0 ≤ (IntKind.u64.wrap (x5)) then (if x3.length < 140737488355328 then (flyballref01_Of.l1 k x0 (x3 ++ [((Go.bits .and .u64 (shr .u64 (rd x0 x4) (IntKind.u64.wrap (x5))) 1) == 1)]) x4 (wrap64 (x5 + 1))) else (none)) else (none)) else (none)) else (none)) else (flyballref01_Of.l0 k x0 x3 (wrap64 (x4 + 1)))
end
def flyballref01_Of.f (k : Nat) (l0 : List Int) : Option (List Bool) := flyballref01_Of.l0 k l0 ([] : List Bool) 0
end Go.Proofs.Ytagbnkbhobmgjaa.Fn
end
section
-- Written by a program of this session (a turned copy of the kit's printer, and hand-written parts). Not trusted: Lean checks it.
namespace Go.Proofs.Ytagbnkbhobmgjaa.Fn
open Go.RowKit Go.Proofs.YtagbnkbhobmgjaaW.PrintWords Go.Proofs.YtagbnkbhobmgjaaW.PrintLast Go.Proofs.YtagbnkbhobmgjaaW.PrintMore
attribute [local go_sem] max2_int min2_int max_two min_two max_three min_three max_four min_four   -- for this text's walks alone
set_option linter.unusedVariables false
set_option linter.unusedSimpArgs false
/-! ### flyballref01_Div: function 38 -/
def flyballref01_Div.l0 : Nat → List Bool → List Bool → List Bool → List Bool → Int → Option (List Bool × List Bool)
 | 0, _, _, _, _, _ => none
 | k + 1, x0, x1, x6, x7, x8 => if x8 ≥ 0 then (if 0 ≤ x8 then (if x8 < (x0.length : Int) then ((some (([rdOf false x0 x8] : List Bool) : List Bool)).bind fun y105 => (if y105.length + x7.length < 140737488355328 then ((some (y105 ++ x7 : List Bool)).bind fun y108 => ((flyballref01_Cmp.f k y108 x1).bind fun t111 => (if t111 ≥ 0 then ((flyballref01_Sub.f k y108 x1 (y108.length : Int)).bind fun bt112 => (if x8 < (x6.length : Int) then ((flyballref01_Len.f k bt112.1).bind fun t117 => (if 0 ≤ t117 then (if t117 ≤ (bt112.1.length : Int) then (flyballref01_Div.l0 k x0 x1 (x6.set (x8 : Int).toNat true) (bt112.1.take (t117 : Int).toNat) (wrap64 (x8 - 1))) else (none)) else (none))) else (none))) else ((flyballref01_Len.f k y108).bind fun t121 => (if 0 ≤ t121 then (if t121 ≤ (y108.length : Int) then (flyballref01_Div.l0 k x0 x1 x6 (y108.take (t121 : Int).toNat) (wrap64 (x8 - 1))) else (none)) else (none)))))) else (none))) else (none)) else (none)) else (some (x6, x7))
def flyballref01_Div.f (k : Nat) (l0 : List Bool) (l1 : List Bool) : Option (List Bool × List Bool) := if 0 ≤ (l0.length : Int) then (if ((l0.length : Int) : Int).toNat ≤ 281474976710656 then (flyballref01_Div.l0 k l0 l1 (List.replicate ((l0.length : Int) : Int).toNat false) ([] : List Bool) (wrap64 ((l0.length : Int) - 1))) else (none)) else (none)
end Go.Proofs.Ytagbnkbhobmgjaa.Fn
end
section
-- Written by a program of this session (a turned copy of the kit's printer, and hand-written parts). Not trusted: Lean checks it.
namespace Go.Proofs.Ytagbnkbhobmgjaa.Fn
open Go.RowKit Go.Proofs.YtagbnkbhobmgjaaW.PrintWords Go.Proofs.YtagbnkbhobmgjaaW.PrintLast Go.Proofs.YtagbnkbhobmgjaaW.PrintMore
attribute [local go_sem] max2_int min2_int max_two min_two max_three min_three max_four min_four   -- for this text's walks alone
set_option linter.unusedVariables false
set_option linter.unusedSimpArgs false
/-! ### flyballref02_Gcd: function 36 -/
def flyballref02_Gcd.l0 : Nat → List Bool → List Bool → Option (List Bool)
 | 0, _, _ => none
 | k + 1, x0, x1 => (flyballref01_Len.f k x1).bind fun t101 => (if t101 > 0 then ((flyballref01_Div.f k x0 x1).bind fun bt102 => (flyballref02_Gcd.l0 k x1 bt102.2)) else (some x0))
def flyballref02_Gcd.f (k : Nat) (l0 : List Bool) (l1 : List Bool) : Option (List Bool) := flyballref02_Gcd.l0 k l0 l1
end Go.Proofs.Ytagbnkbhobmgjaa.Fn
end
section
-- Written by a program of this session (a turned copy of the kit's printer, and hand-written parts). Not trusted: Lean checks it.
namespace Go.Proofs.Ytagbnkbhobmgjaa.Fn
open Go.RowKit Go.Proofs.YtagbnkbhobmgjaaW.PrintWords Go.Proofs.YtagbnkbhobmgjaaW.PrintLast Go.Proofs.YtagbnkbhobmgjaaW.PrintMore
attribute [local go_sem] max2_int min2_int max_two min_two max_three min_three max_four min_four   -- for this text's walks alone
set_option linter.unusedVariables false
set_option linter.unusedSimpArgs false
/-! ### flyballref03_trim: function 127 -/
def flyballref03_trim.f (k : Nat) (l0 : List Bool) : Option (List Bool) := (flyballref01_Len.f k l0).bind fun t101 => (if 0 ≤ t101 then (if t101 ≤ (l0.length : Int) then (some (l0.take (t101 : Int).toNat)) else (none)) else (none))
end Go.Proofs.Ytagbnkbhobmgjaa.Fn
end
section
-- Written by a program of this session (a turned copy of the kit's printer, and hand-written parts). Not trusted: Lean checks it.
namespace Go.Proofs.Ytagbnkbhobmgjaa.Fn
open Go.RowKit Go.Proofs.YtagbnkbhobmgjaaW.PrintWords Go.Proofs.YtagbnkbhobmgjaaW.PrintLast Go.Proofs.YtagbnkbhobmgjaaW.PrintMore
attribute [local go_sem] max2_int min2_int max_two min_two max_three min_three max_four min_four   -- for this text's walks alone
set_option linter.unusedVariables false
set_option linter.unusedSimpArgs false
/-! ### flyballref03_one: function 128 -/
def flyballref03_one.f  : Option (List Bool) := some (([true] : List Bool))
end Go.Proofs.Ytagbnkbhobmgjaa.Fn
end
section
-- Written by a program of this session (a turned copy of the kit's printer, and hand-written parts). Not trusted: Lean checks it.
namespace Go.Proofs.Ytagbnkbhobmgjaa.Fn
open Go.RowKit Go.Proofs.YtagbnkbhobmgjaaW.PrintWords Go.Proofs.YtagbnkbhobmgjaaW.PrintLast Go.Proofs.YtagbnkbhobmgjaaW.PrintMore
attribute [local go_sem] max2_int min2_int max_two min_two max_three min_three max_four min_four   -- for this text's walks alone
set_option linter.unusedVariables false
set_option linter.unusedSimpArgs false
/-! ### flyballref03_Low: function 96 -/
def flyballref03_Low.j0 : Nat → Bool → List Bool → List Bool → Bool → Option (Bool × List Bool × List Bool)
 | 0, _, _, _, _ => none
 | k + 1, x0, x7, x8, x25 => if x25 = true then ((flyballref03_one.f).bind fun t108 => (some (false, ([] : List Bool), t108))) else ((flyballref02_Gcd.f k x7 x8).bind fun t111 => ((flyballref01_Div.f k x7 t111).bind fun bt114 => ((flyballref01_Div.f k x8 t111).bind fun bt120 => ((flyballref03_trim.f k bt114.1).bind fun t126 => ((flyballref03_trim.f k bt120.1).bind fun t129 => (some (x0, t126, t129)))))))
def flyballref03_Low.f (k : Nat) (a0 : Bool) (l1 : List Bool) (l2 : List Bool) : Option (Bool × List Bool × List Bool) := (flyballref03_trim.f k l1).bind fun t102 => ((flyballref03_trim.f k l2).bind fun t105 => (if (t102.length : Int) = 0 then (flyballref03_Low.j0 k a0 t102 t105 true) else (flyballref03_Low.j0 k a0 t102 t105 ((t105.length : Int) == 0))))
end Go.Proofs.Ytagbnkbhobmgjaa.Fn
end
section
-- Written by a program of this session (a turned copy of the kit's printer, and hand-written parts). Not trusted: Lean checks it.
namespace Go.Proofs.Ytagbnkbhobmgjaa.Fn
open Go.RowKit Go.Proofs.YtagbnkbhobmgjaaW.PrintWords Go.Proofs.YtagbnkbhobmgjaaW.PrintLast Go.Proofs.YtagbnkbhobmgjaaW.PrintMore
attribute [local go_sem] max2_int min2_int max_two min_two max_three min_three max_four min_four   -- for this text's walks alone
set_option linter.unusedVariables false
set_option linter.unusedSimpArgs false
/-! ### flyballref04_Value: function 73 -/
mutual
def flyballref04_Value.j1 : Nat → Bool → Int → Int → List Bool → Option (Bool × List Bool × List Bool)
 | 0, _, _, _, _ => none
 | k + 1, x3, x6, x7, x9 => (flyballref01_Of.f k (([x6] : List Int))).bind fun t132 => (if x7 ≥ 0 then ((flyballref01_Shl.f k t132 x7).bind fun t135 => ((flyballref03_Low.f k x3 t135 x9).bind fun bt138 => (some (bt138.1, bt138.2.1, bt138.2.2)))) else (if x6 = 0 then (some (false, ([] : List Bool), (([true] : List Bool)))) else ((flyballref01_Shl.f k (([true] : List Bool)) (wrap64 (-x7))).bind fun t151 => ((flyballref01_Len.f k t132).bind fun t154 => (if 0 ≤ t154 then (if t154 ≤ (t132.length : Int) then (some (x3, (t132.take (t154 : Int).toNat), t151)) else (none)) else (none))))))
def flyballref04_Value.l0 : Nat → Bool → Int → Int → List Bool → Option (Bool × List Bool × List Bool)
 | 0, _, _, _, _ => none
 | k + 1, x3, x6, x7, x9 => if x7 < 0 then (if (Int.tmod x6 2) = 0 then (if x6 > 0 then (flyballref04_Value.l0 k x3 (IntKind.u64.wrap (Int.tdiv x6 2)) (wrap64 (x7 + 1)) x9) else (flyballref04_Value.j1 k x3 x6 x7 x9)) else (flyballref04_Value.j1 k x3 x6 x7 x9)) else (flyballref04_Value.j1 k x3 x6 x7 x9)
end
end Go.Proofs.Ytagbnkbhobmgjaa.Fn
end
