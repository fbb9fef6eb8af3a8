/- Digits are written, and read, just as the document says; what is written is read as the same number. Part 12 of 20. -/
import Derived.Test.YtagbnkbhobmgjaaNatTextsE
import Derived.Test.YtagbnkbhobmgjaaNatTextsC
section
-- Written by a program of this session (a turned copy of the kit's printer, and hand-written parts). Not trusted: Lean checks it.
namespace Go.Proofs.Ytagbnkbhobmgjaa.Fn
open Go.RowKit Go.Proofs.YtagbnkbhobmgjaaW.PrintWords Go.Proofs.YtagbnkbhobmgjaaW.PrintLast Go.Proofs.YtagbnkbhobmgjaaW.PrintMore
attribute [local go_sem] max2_int min2_int max_two min_two max_three min_three max_four min_four   -- for this text's walks alone
set_option linter.unusedVariables false
set_option linter.unusedSimpArgs false
/-! ### flyballlaw02_small: function 24 -/
def flyballlaw02_small.l0 : Nat → List (List Int) → Int → Option (Bool)
 | 0, _, _ => none
 | k + 1, x0, x3 => if x3 < (x0.length : Int) then (if 0 ≤ x3 then (if ((rd_L2 x0 x3).length : Int) > 24 then (some false) else (flyballlaw02_small.l0 k x0 (wrap64 (x3 + 1)))) else (none)) else (some true)
def flyballlaw02_small.f (k : Nat) (l0 : List (List Int)) : Option (Bool) := flyballlaw02_small.l0 k l0 0
theorem flyballlaw02_small.mono_l : ∀ k, (∀ y0 y1, LeO (flyballlaw02_small.l0 k y0 y1) (flyballlaw02_small.l0 (k + 1) y0 y1))
 | 0 => fun _ _ r h => by simp [flyballlaw02_small.l0] at h
 | k + 1 => by
  have ih0 := flyballlaw02_small.mono_l k
  ·intro y0 y1
   unfold flyballlaw02_small.l0
   repeat' first
   | (with_reducible exact ih0 _ _)
   | (with_reducible exact LeO.refl _)
   | (with_reducible exact LeO.none _)
   | (with_reducible refine LeO.ite ?_ ?_)
   | (with_reducible refine LeO.bind ?_ (fun _ => ?_))
   | exact ih0 _ _
   | exact LeO.none _
   | refine LeO.ite ?_ ?_
   | refine LeO.bind ?_ (fun _ => ?_)
theorem flyballlaw02_small.mono : ∀ a0 k, LeO (flyballlaw02_small.f k a0) (flyballlaw02_small.f (k + 1) a0) := by
 intro a0 k
 have ih0 := flyballlaw02_small.mono_l k
 unfold flyballlaw02_small.f
 repeat' first
   | (with_reducible exact ih0 _ _)
   | (with_reducible exact LeO.refl _)
   | (with_reducible exact LeO.none _)
   | (with_reducible refine LeO.ite ?_ ?_)
   | (with_reducible refine LeO.bind ?_ (fun _ => ?_))
   | exact ih0 _ _
   | exact LeO.none _
   | refine LeO.ite ?_ ?_
   | refine LeO.bind ?_ (fun _ => ?_)
set_option maxHeartbeats 8000000 in
set_option maxRecDepth 100000 in
theorem flyballlaw02_small.calls (k : Nat) (A0 : Option Addr) (c0 : Nat) (l0 : List (List Int)) (r : Bool) (w : World) (hr0 : Kd.C (Kd.slice 118 (Kd.int .u32)) w A0 l0.length l0) (hc0 : l0.length ≤ c0) (h : flyballlaw02_small.f k l0 = some r) :
  Calls Try.prog 24 #[.slice A0 l0.length c0] w fun e w' => e = .returned (.bool r) ∧ Drawn0 w w' := by
 have HR0 := Aside0.mk hr0
 have HC0 := Aside0.mk hc0
 clear hr0 hc0
 have H : (flyballlaw02_small.l0 k l0 0) = some r := h
 clear h
 have H' := Aside0.mk H
 clear H
 go_enter Try.func24, Try.ntmps24
 go_wp2
 go_loopg [3] k (fun kq v3 w' => ∃ (x3_1 : Int), v3 = .int .i64 x3_1 ∧ Aside0 (flyballlaw02_small.l0 kq l0 x3_1 = some r) ∧ Aside0 (kq ≤ k) ∧ Drawn0 w w')
 case atStart => exact ⟨(0), (by first | rfl | (simp; done) | (simp [*]; done)), H', ⟨Nat.le_refl _⟩, by repeat (first | exact Drawn0.refl _ | apply Drawn0.step)⟩
 case round =>
  clear H'
  obtain ⟨x3_1, rfl, HA, HK1, ⟨m1, rfl⟩⟩ := hrel
  cases gk with
  | zero => exact absurd HA.out (by simp [flyballlaw02_small.l0])
  | succ k1 =>
   have H := HA.out
   clear HA
   simp only [flyballlaw02_small.l0] at H
   by_cases c2 : x3_1 < (l0.length : Int)
   ·rw [if_pos c2] at H
    have c2b0 : decide (x3_1 < (l0.length : Int)) = true := decide_eq_true c2
    clear c2
    by_cases c3 : 0 ≤ x3_1
    ·rw [if_pos c3] at H
     have c3b0 : decide (0 ≤ x3_1) = true := decide_eq_true c3
     clear c3
     by_cases c4 : ((rd_L2 l0 x3_1).length : Int) > 24
     ·rw [if_pos c4] at H
      have c4b0 : decide (24 < ((rd_L2 l0 x3_1).length : Int)) = true := decide_eq_true c4
      have c4b1 : decide (24 < (rd_L2 l0 x3_1).length) = true := decide_eq_true (by omega)
      clear c4
      obtain rfl := Option.some.inj H
      have p101 : 0 ≤ (x3_1 : Int) := of_decide_eq_true (by first | (with_reducible assumption) | assumption)
      have q101 : x3_1 < (l0.length : Int) := of_decide_eq_true (by first | (with_reducible assumption) | assumption)
      obtain ⟨ad101, A101_0, c101_0, e101, hx101_0, hl101_0, hi101_0⟩ := at_L2 HR0.out x3_1 p101 q101
      cases e101
      have HR101_0 := Aside0.mk hi101_0
      have HC101_0 := Aside0.mk hl101_0
      clear hi101_0 hl101_0
      replace p101 := eq_true p101
      replace q101 := eq_true q101
      go_wp2
      go_ret
      exact ⟨by first | rfl | (simp; done) | (simp [*]; done), by repeat (first | exact Drawn0.refl _ | apply Drawn0.step)⟩
     ·rw [if_neg c4] at H
      have c4b0 : decide (24 < ((rd_L2 l0 x3_1).length : Int)) = false := decide_eq_false c4
      have c4b1 : decide (24 < (rd_L2 l0 x3_1).length) = false := decide_eq_false (by omega)
      clear c4
      have H' := Aside0.mk H
      clear H
      have p101 : 0 ≤ (x3_1 : Int) := of_decide_eq_true (by first | (with_reducible assumption) | assumption)
      have q101 : x3_1 < (l0.length : Int) := of_decide_eq_true (by first | (with_reducible assumption) | assumption)
      obtain ⟨ad101, A101_0, c101_0, e101, hx101_0, hl101_0, hi101_0⟩ := at_L2 HR0.out x3_1 p101 q101
      cases e101
      have HR101_0 := Aside0.mk hi101_0
      have HC101_0 := Aside0.mk hl101_0
      clear hi101_0 hl101_0
      replace p101 := eq_true p101
      replace q101 := eq_true q101
      go_wp2
      go_roundg k1
      case measure => have := HK1.out; omega
      case rel => exact ⟨(wrap64 (x3_1 + 1)), (by first | rfl | (simp; done) | (simp [*]; done)), H', ⟨by have := HK1.out; omega⟩, by repeat (first | exact Drawn0.refl _ | apply Drawn0.step)⟩
    ·rw [if_neg c3] at H
     exact absurd H (by simp)
   ·rw [if_neg c2] at H
    have c2b0 : decide (x3_1 < (l0.length : Int)) = false := decide_eq_false c2
    clear c2
    obtain rfl := Option.some.inj H
    go_wp2
    go_ret
    exact ⟨by first | rfl | (simp; done) | (simp [*]; done), by repeat (first | exact Drawn0.refl _ | apply Drawn0.step)⟩
end Go.Proofs.Ytagbnkbhobmgjaa.Fn
end
section
-- Written by a program of this session (a turned copy of the kit's printer, and hand-written parts). Not trusted: Lean checks it.
namespace Go.Proofs.Ytagbnkbhobmgjaa.Fn
open Go.RowKit Go.Proofs.YtagbnkbhobmgjaaW.PrintWords Go.Proofs.YtagbnkbhobmgjaaW.PrintLast Go.Proofs.YtagbnkbhobmgjaaW.PrintMore
attribute [local go_sem] max2_int min2_int max_two min_two max_three min_three max_four min_four   -- for this text's walks alone
set_option linter.unusedVariables false
set_option linter.unusedSimpArgs false
/-! ### flyballref01_Len: function 53 -/
def flyballref01_Len.l0 : Nat → List Bool → Int → Option (Int)
 | 0, _, _ => none
 | k + 1, x0, x3 => if x3 > 0 then (if 0 ≤ (wrap64 (x3 - 1)) then (if (wrap64 (x3 - 1)) < (x0.length : Int) then (if (rdOf false x0 (wrap64 (x3 - 1)) = true) then (some x3) else (flyballref01_Len.l0 k x0 (wrap64 (x3 - 1)))) else (none)) else (none)) else (some x3)
def flyballref01_Len.f (k : Nat) (l0 : List Bool) : Option (Int) := flyballref01_Len.l0 k l0 (l0.length : Int)
theorem flyballref01_Len.mono_l : ∀ k, (∀ y0 y1, LeO (flyballref01_Len.l0 k y0 y1) (flyballref01_Len.l0 (k + 1) y0 y1))
 | 0 => fun _ _ r h => by simp [flyballref01_Len.l0] at h
 | k + 1 => by
  have ih0 := flyballref01_Len.mono_l k
  ·intro y0 y1
   unfold flyballref01_Len.l0
   repeat' first
   | (with_reducible exact ih0 _ _)
   | (with_reducible exact LeO.refl _)
   | (with_reducible exact LeO.none _)
   | (with_reducible refine LeO.ite ?_ ?_)
   | (with_reducible refine LeO.bind ?_ (fun _ => ?_))
   | exact ih0 _ _
   | exact LeO.none _
   | refine LeO.ite ?_ ?_
   | refine LeO.bind ?_ (fun _ => ?_)
theorem flyballref01_Len.mono : ∀ a0 k, LeO (flyballref01_Len.f k a0) (flyballref01_Len.f (k + 1) a0) := by
 intro a0 k
 have ih0 := flyballref01_Len.mono_l k
 unfold flyballref01_Len.f
 repeat' first
   | (with_reducible exact ih0 _ _)
   | (with_reducible exact LeO.refl _)
   | (with_reducible exact LeO.none _)
   | (with_reducible refine LeO.ite ?_ ?_)
   | (with_reducible refine LeO.bind ?_ (fun _ => ?_))
   | exact ih0 _ _
   | exact LeO.none _
   | refine LeO.ite ?_ ?_
   | refine LeO.bind ?_ (fun _ => ?_)
set_option maxHeartbeats 8000000 in
set_option maxRecDepth 100000 in
theorem flyballref01_Len.calls (k : Nat) (A0 : Option Addr) (c0 : Nat) (l0 : List Bool) (r : Int) (w : World) (hr0 : Kd.C Kd.bool w A0 l0.length l0) (hc0 : l0.length ≤ c0) (h : flyballref01_Len.f k l0 = some r) :
  Calls Try.prog 53 #[.slice A0 l0.length c0] w fun e w' => e = .returned (.int .i64 r) ∧ Drawn0 w w' := by
 have HR0 := Aside0.mk hr0
 have HC0 := Aside0.mk hc0
 clear hr0 hc0
 have H : (flyballref01_Len.l0 k l0 (l0.length : Int)) = some r := h
 clear h
 have H' := Aside0.mk H
 clear H
 go_enter Try.func53, Try.ntmps53
 go_wp2
 go_loopg [3] k (fun kq v3 w' => ∃ (x3_1 : Int), v3 = .int .i64 x3_1 ∧ Aside0 (flyballref01_Len.l0 kq l0 x3_1 = some r) ∧ Aside0 (kq ≤ k) ∧ Drawn0 w w')
 case atStart => exact ⟨((l0.length : Int)), (by first | rfl | (simp; done) | (simp [*]; done)), H', ⟨Nat.le_refl _⟩, by repeat (first | exact Drawn0.refl _ | apply Drawn0.step)⟩
 case round =>
  clear H'
  obtain ⟨x3_1, rfl, HA, HK1, ⟨m1, rfl⟩⟩ := hrel
  cases gk with
  | zero => exact absurd HA.out (by simp [flyballref01_Len.l0])
  | succ k1 =>
   have H := HA.out
   clear HA
   simp only [flyballref01_Len.l0] at H
   by_cases c2 : x3_1 > 0
   ·rw [if_pos c2] at H
    have c2b0 : decide (0 < x3_1) = true := decide_eq_true c2
    clear c2
    obtain ⟨ji3, hji3⟩ : ∃ j_ : Int, (wrap64 (x3_1 - 1)) = j_ := ⟨_, rfl⟩
    replace H : (if 0 ≤ (ji3) then (if (ji3) < (l0.length : Int) then (if (rdOf false l0 (ji3) = true) then (some x3_1) else (flyballref01_Len.l0 k1 l0 ji3)) else (none)) else (none)) = some r := by first | (rw [hji3] at H; exact H) | (simp only [hji3] at H ⊢; exact H)
    have hji3w : (IntKind.i64.wrap (x3_1 - 1)) = ji3 := (i64_w _).trans hji3
    by_cases c4 : 0 ≤ (ji3)
    ·rw [if_pos c4] at H
     have c4b0 : decide (0 ≤ (ji3)) = true := decide_eq_true c4
     clear c4
     by_cases c5 : (ji3) < (l0.length : Int)
     ·rw [if_pos c5] at H
      have c5b0 : decide ((ji3) < (l0.length : Int)) = true := decide_eq_true c5
      clear c5
      obtain ⟨bq6, hbq6⟩ : ∃ b_ : Bool, b_ = (rdOf false l0 (ji3)) := ⟨_, rfl⟩
      replace H : (if (bq6 = true) then (some x3_1) else (flyballref01_Len.l0 k1 l0 ji3)) = some r := by rw [← hbq6] at H; exact H
      have Nbq6 := Aside0.mk hbq6
      clear hbq6
      by_cases c7 : (bq6 = true)
      ·subst c7
       have H1 : (some x3_1) = some r := by rw [if_pos rfl] at H; exact H
       clear H
       have H := H1
       clear H1
       obtain rfl := Option.some.inj H
       have p101 : 0 ≤ ((ji3) : Int) := of_decide_eq_true (by first | (with_reducible assumption) | assumption)
       have q101 : (ji3) < (l0.length : Int) := of_decide_eq_true (by first | (with_reducible assumption) | assumption)
       obtain ⟨ad101, e101, hx101_0⟩ := Kd.at_bool HR0.out (ji3) p101 q101
       (try rw [← Nbq6.out] at hx101_0)
       cases e101
       replace p101 := eq_true p101
       replace q101 := eq_true q101
       go_wp2
       go_ret
       exact ⟨by first | rfl | (simp; done) | (simp only [← hji3] <;> (first | rfl | simp)) | (simp [*]; done), by repeat (first | exact Drawn0.refl _ | apply Drawn0.step)⟩
      ·replace c7 := Bool.eq_false_iff.mpr c7
       subst c7
       have H1 : (flyballref01_Len.l0 k1 l0 ji3) = some r := by rw [if_neg (show ¬ (false = true) by decide)] at H; exact H
       clear H
       have H := H1
       clear H1
       have H' := Aside0.mk H
       clear H
       have p101 : 0 ≤ ((ji3) : Int) := of_decide_eq_true (by first | (with_reducible assumption) | assumption)
       have q101 : (ji3) < (l0.length : Int) := of_decide_eq_true (by first | (with_reducible assumption) | assumption)
       obtain ⟨ad101, e101, hx101_0⟩ := Kd.at_bool HR0.out (ji3) p101 q101
       (try rw [← Nbq6.out] at hx101_0)
       cases e101
       replace p101 := eq_true p101
       replace q101 := eq_true q101
       go_wp2
       go_roundg k1
       case measure => have := HK1.out; omega
       case rel => exact ⟨(ji3), (by first | rfl | (simp; done) | (simp only [← hji3] <;> (first | rfl | simp)) | (simp [*]; done)), H', ⟨by have := HK1.out; omega⟩, by repeat (first | exact Drawn0.refl _ | apply Drawn0.step)⟩
     ·rw [if_neg c5] at H
      exact absurd H (by simp)
    ·rw [if_neg c4] at H
     exact absurd H (by simp)
   ·rw [if_neg c2] at H
    have c2b0 : decide (0 < x3_1) = false := decide_eq_false c2
    clear c2
    obtain rfl := Option.some.inj H
    go_wp2
    go_ret
    exact ⟨by first | rfl | (simp; done) | (simp [*]; done), by repeat (first | exact Drawn0.refl _ | apply Drawn0.step)⟩
end Go.Proofs.Ytagbnkbhobmgjaa.Fn
end
section
-- Written by a program of this session (a turned copy of the kit's printer, and hand-written parts). Not trusted: Lean checks it.
namespace Go.Proofs.Ytagbnkbhobmgjaa.Fn
open Go.RowKit Go.Proofs.YtagbnkbhobmgjaaW.PrintWords Go.Proofs.YtagbnkbhobmgjaaW.PrintLast Go.Proofs.YtagbnkbhobmgjaaW.PrintMore
attribute [local go_sem] max2_int min2_int max_two min_two max_three min_three max_four min_four   -- for this text's walks alone
set_option linter.unusedVariables false
set_option linter.unusedSimpArgs false
/-! ### flyballref02_Bits: function 25 -/
mutual
def flyballref02_Bits.l0 : Nat → List Int → List Bool → Int → Option (List Bool)
 | 0, _, _, _ => none
 | k + 1, x0, x3, x4 => if x4 < (x0.length : Int) then (flyballref02_Bits.l1 k x0 x3 x4 0) else ((flyballref01_Len.f k x3).bind fun t101 => (if 0 ≤ t101 then (if t101 ≤ (x3.length : Int) then (some (x3.take (t101 : Int).toNat)) else (none)) else (none)))
def flyballref02_Bits.l1 : Nat → List Int → List Bool → Int → Int → Option (List Bool)
 | 0, _, _, _, _ => none
 | k + 1, x0, x3, x4, x5 => if x5 < 32 then (if 0 ≤ x4 then (if x4 < (x0.length : Int) then (if 0 ≤ (IntKind.u64.wrap (x5)) then (if x3.length < 140737488355328 then (flyballref02_Bits.l1 k x0 (x3 ++ [((Go.bits .and .u32 (shr .u32 (rd x0 x4) (IntKind.u64.wrap (x5))) 1) == 1)]) x4 (wrap64 (x5 + 1))) else (none)) else (none)) else (none)) else (none)) else (flyballref02_Bits.l0 k x0 x3 (wrap64 (x4 + 1)))
end
def flyballref02_Bits.f (k : Nat) (l0 : List Int) : Option (List Bool) := flyballref02_Bits.l0 k l0 ([] : List Bool) 0
theorem flyballref02_Bits.mono_l : ∀ k, (∀ y0 y1 y2, LeO (flyballref02_Bits.l0 k y0 y1 y2) (flyballref02_Bits.l0 (k + 1) y0 y1 y2)) ∧ (∀ y0 y1 y2 y3, LeO (flyballref02_Bits.l1 k y0 y1 y2 y3) (flyballref02_Bits.l1 (k + 1) y0 y1 y2 y3))
 | 0 => ⟨fun _ _ _ r h => by simp [flyballref02_Bits.l0] at h, fun _ _ _ _ r h => by simp [flyballref02_Bits.l1] at h⟩
 | k + 1 => by
  obtain ⟨ih0, ih1⟩ := flyballref02_Bits.mono_l k
  refine ⟨?_, ?_⟩
  ·intro y0 y1 y2
   unfold flyballref02_Bits.l0
   repeat' first
   | (with_reducible exact ih0 _ _ _)
   | (with_reducible exact ih1 _ _ _ _)
   | (with_reducible exact flyballref01_Len.mono _ _)
   | (with_reducible exact LeO.refl _)
   | (with_reducible exact LeO.none _)
   | (with_reducible refine LeO.ite ?_ ?_)
   | (with_reducible refine LeO.bind ?_ (fun _ => ?_))
   | exact ih0 _ _ _
   | exact ih1 _ _ _ _
   | exact flyballref01_Len.mono _ _
   | exact LeO.none _
   | refine LeO.ite ?_ ?_
   | refine LeO.bind ?_ (fun _ => ?_)
  ·intro y0 y1 y2 y3
   unfold flyballref02_Bits.l1
   repeat' first
   | (with_reducible exact ih0 _ _ _)
   | (with_reducible exact ih1 _ _ _ _)
   | (with_reducible exact flyballref01_Len.mono _ _)
   | (with_reducible exact LeO.refl _)
   | (with_reducible exact LeO.none _)
   | (with_reducible refine LeO.ite ?_ ?_)
   | (with_reducible refine LeO.bind ?_ (fun _ => ?_))
   | exact ih0 _ _ _
   | exact ih1 _ _ _ _
   | exact flyballref01_Len.mono _ _
   | exact LeO.none _
   | refine LeO.ite ?_ ?_
   | refine LeO.bind ?_ (fun _ => ?_)
theorem flyballref02_Bits.mono : ∀ a0 k, LeO (flyballref02_Bits.f k a0) (flyballref02_Bits.f (k + 1) a0) := by
 intro a0 k
 obtain ⟨ih0, ih1⟩ := flyballref02_Bits.mono_l k
 unfold flyballref02_Bits.f
 repeat' first
   | (with_reducible exact ih0 _ _ _)
   | (with_reducible exact ih1 _ _ _ _)
   | (with_reducible exact flyballref01_Len.mono _ _)
   | (with_reducible exact LeO.refl _)
   | (with_reducible exact LeO.none _)
   | (with_reducible refine LeO.ite ?_ ?_)
   | (with_reducible refine LeO.bind ?_ (fun _ => ?_))
   | exact ih0 _ _ _
   | exact ih1 _ _ _ _
   | exact flyballref01_Len.mono _ _
   | exact LeO.none _
   | refine LeO.ite ?_ ?_
   | refine LeO.bind ?_ (fun _ => ?_)
set_option maxHeartbeats 8000000 in
set_option maxRecDepth 100000 in
theorem flyballref02_Bits.calls (k : Nat) (A0 : Option Addr) (c0 : Nat) (l0 : List Int) (r : List Bool) (w : World) (hr0 : Kd.C (Kd.int .u32) w A0 l0.length l0) (hc0 : l0.length ≤ c0) (h : flyballref02_Bits.f k l0 = some r) :
  Calls Try.prog 25 #[.slice A0 l0.length c0] w fun e w' => ∃ v0_ : Value, e = .returned (v0_) ∧ Kd.R Kd.bool 4 w' w.heap.size (fun _ => True) v0_ r ∧ Below w.heap.size w w' := by
 have HR0 := Aside0.mk hr0
 have HC0 := Aside0.mk hc0
 clear hr0 hc0
 have HB := Aside0.mk (Below.refl w.heap.size w)
 have H : (flyballref02_Bits.l0 k l0 ([] : List Bool) 0) = some r := h
 clear h
 have H' := Aside0.mk H
 clear H
 go_enter Try.func25, Try.ntmps25
 go_wp2
 go_loopg [3, 4] k (fun kq v3 v4 w' => ∃ (x3_1 : List Bool) (x4_1 : Int), v4 = .int .i64 x4_1 ∧ Aside0 (flyballref02_Bits.l0 kq l0 x3_1 x4_1 = some r) ∧ Aside0 (kq ≤ k) ∧ Aside0 (Kd.R Kd.bool 4 w' w.heap.size (fun _ => True) v3 x3_1) ∧ Aside0 (Below w.heap.size w w'))
 case atStart => exact ⟨(([] : List Bool)), (0), (by first | rfl | (simp; done) | (simp [*]; done)), H', ⟨Nat.le_refl _⟩, ⟨by first | exact Kd.R_nil _ _ _ _ _ | exact Kd.N_nil _ _ _ _ _ | exact Kd.V_nil _ _ _ _ _ | exact Kd.Q_nil _ _ _ _ _ | exact Kd.S_nil _ _ _ _ _⟩, ⟨by repeat (first | (with_reducible first | exact HB.out | apply below_alloc | apply pw_below_drewN | apply below_drew1) | exact HB.out)⟩⟩
 case round =>
  clear H'
  obtain ⟨x3_1, x4_1, rfl, HA, HK1, HO_3, HB⟩ := hrel
  cases gk with
  | zero => exact absurd HA.out (by simp [flyballref02_Bits.l0])
  | succ k1 =>
   have H := HA.out
   clear HA
   simp only [flyballref02_Bits.l0] at H
   by_cases c2 : x4_1 < (l0.length : Int)
   ·rw [if_pos c2] at H
    have c2b0 : decide (x4_1 < (l0.length : Int)) = true := decide_eq_true c2
    clear c2
    have H' := Aside0.mk H
    clear H
    go_wp2
    go_loopg [3, 5] k1 (fun kq v3 v5 w' => ∃ (x3_2 : List Bool) (x5_2 : Int), v5 = .int .i64 x5_2 ∧ Aside0 (flyballref02_Bits.l1 kq l0 x3_2 x4_1 x5_2 = some r) ∧ Aside0 (kq ≤ k1) ∧ Aside0 (Kd.R Kd.bool 4 w' w.heap.size (fun _ => True) v3 x3_2) ∧ Aside0 (Below w.heap.size w w'))
    case atStart => exact ⟨(x3_1), (0), (by first | rfl | (simp; done) | (simp [*]; done)), H', ⟨Nat.le_refl _⟩, ⟨by (with_reducible repeat (first | apply Kd.R_alloc | apply Kd.R_drewN | apply Kd.R_drew)); exact HO_3.out⟩, ⟨by repeat (first | (with_reducible first | exact HB.out | apply below_alloc | apply pw_below_drewN | apply below_drew1) | exact HB.out)⟩⟩
    case round =>
     clear H'
     try clear c2
     try clear c2b0
     try clear p2
     obtain ⟨x3_2, x5_2, rfl, HA, HK2, HO_3, HB⟩ := hrel
     cases gk with
     | zero => exact absurd HA.out (by simp [flyballref02_Bits.l1])
     | succ k2 =>
      have H := HA.out
      clear HA
      simp only [flyballref02_Bits.l1] at H
      by_cases c3 : x5_2 < 32
      ·rw [if_pos c3] at H
       have c3b0 : decide (x5_2 < 32) = true := decide_eq_true c3
       clear c3
       by_cases c4 : 0 ≤ x4_1
       ·rw [if_pos c4] at H
        have c4b0 : decide (0 ≤ x4_1) = true := decide_eq_true c4
        clear c4
        by_cases c5 : x4_1 < (l0.length : Int)
        ·rw [if_pos c5] at H
         have c5b0 : decide (x4_1 < (l0.length : Int)) = true := decide_eq_true c5
         clear c5
         obtain ⟨ji6, hji6⟩ : ∃ j_ : Int, (IntKind.u64.wrap (x5_2)) = j_ := ⟨_, rfl⟩
         replace H : (if 0 ≤ (ji6) then (if x3_2.length < 140737488355328 then (flyballref02_Bits.l1 k2 l0 (x3_2 ++ [((Go.bits .and .u32 (shr .u32 (rd l0 x4_1) (ji6)) 1) == 1)]) x4_1 (wrap64 (x5_2 + 1))) else (none)) else (none)) = some r := by first | (rw [hji6] at H; exact H) | (simp only [hji6] at H ⊢; exact H)
         by_cases c7 : 0 ≤ (ji6)
         ·rw [if_pos c7] at H
          have c7b0 := eq_true c7
          have c7b1 : decide (0 ≤ (ji6)) = true := decide_eq_true c7
          clear c7
          obtain ⟨ji8, hji8⟩ : ∃ j_ : Int, (shr .u32 (rd l0 x4_1) (ji6)) = j_ := ⟨_, rfl⟩
          replace H : (if x3_2.length < 140737488355328 then (flyballref02_Bits.l1 k2 l0 (x3_2 ++ [((Go.bits .and .u32 (ji8) 1) == 1)]) x4_1 (wrap64 (x5_2 + 1))) else (none)) = some r := by first | (rw [hji8] at H; exact H) | (simp only [hji8] at H ⊢; exact H)
          have hji8_ : ((rd l0 x4_1) / 2 ^ min (ji6).toNat 32) = ji8 := hji8
          have hji8z : (ji6) ≤ 32 → ((rd l0 x4_1) / 2 ^ (ji6).toNat) = ji8 := shr_small hji8
          by_cases c9 : x3_2.length < 140737488355328
          ·rw [if_pos c9] at H
           have LMc9 := Aside0.mk c9
           clear c9
           obtain ⟨y106, hy106⟩ : ∃ y_ : List Bool, y_ = (x3_2 ++ [((Go.bits .and .u32 (ji8) 1) == 1)]) := ⟨_, rfl⟩
           replace H : (flyballref02_Bits.l1 k2 l0 y106 x4_1 (wrap64 (x5_2 + 1))) = some r := by first | (rw [hy106]; with_reducible exact H) | (have H2_ := (Option.bind_some _ _).symm.trans H; rw [hy106]; with_reducible exact H2_) | (have H2_ := (Option.bind_some _ _).symm.trans H; with_reducible exact H2_) | with_reducible exact H | (rw [hy106]; exact H) | exact H
           have Ny106 := Aside0.mk hy106
           clear hy106
           have H' := Aside0.mk H
           clear H
           have p105 : 0 ≤ (x4_1 : Int) := of_decide_eq_true (by first | (with_reducible assumption) | assumption)
           have q105 : x4_1 < (l0.length : Int) := of_decide_eq_true (by first | (with_reducible assumption) | assumption)
           obtain ⟨ad105, e105, hx105_0⟩ := Kd.at_int HR0.out x4_1 p105 q105
           cases e105
           replace hx105_0 := (HB.out.cell (World.block_lt_of_cell? w _ hx105_0)).trans hx105_0
           replace p105 := eq_true p105
           replace q105 := eq_true q105
           go_wp2_with (first | ((with_reducible refine gate_builtin (b := .append) (xs := #[.tmp 16, .tmp 26]) rfl ?_); at_builtin; refine Kd.R_append Kd.bool (w0 := w) w.heap.size rfl (.tmp 16) (.tmp 26) 26 4 (.bool false) 1 rfl Try.underlying26 info4 rfl (by decide) (by omega) u3 x3_2 ((Go.bits .and .u32 (ji8) 1) == 1) [.bool ((Go.bits .and .u32 (ji8) 1) == 1)] (fun _ => True) (fun _ => False) rfl rfl ?aP (fun _ hk => hk.elim) ?aF ?aO ?aB ?aS ?aL ?_; (case aP => exact rfl); (case aB => exact (by repeat (first | (with_reducible first | exact HB.out | apply below_alloc | apply pw_below_drewN | apply below_drew1) | exact HB.out))); (case aF => exact (fun _ _ => trivial)); (case aO => exact (by (with_reducible repeat (first | apply Kd.R_alloc | apply Kd.R_drewN | apply Kd.R_drew)); exact HO_3.out)); (case aS => exact (below_size (by repeat (first | (with_reducible first | exact HB.out | apply below_alloc | apply pw_below_drewN | apply below_drew1) | exact HB.out)))); (case aL => have := LMc9.out; omega); intro v107 w10 ho hb hg hat; rw [← Ny106.out] at ho; have n0_ := Aside0.mk (hb); have n1_ := Aside0.mk (ho); clear HB; clear HO_3; have HB := n0_; have HO108 := n1_; clear n0_ n1_; clear ho hb hg hat))
           go_roundg k2
           case measure => have := HK1.out; have := HK2.out; omega
           case rel => exact ⟨(y106), (wrap64 (x5_2 + 1)), (by first | rfl | (simp; done) | (simp [*]; done)), H', ⟨by have := HK1.out; have := HK2.out; omega⟩, ⟨by (with_reducible repeat (first | apply Kd.R_alloc | apply Kd.R_drewN | apply Kd.R_drew)); exact HO108.out⟩, ⟨by repeat (first | (with_reducible first | exact HB.out | apply below_alloc | apply pw_below_drewN | apply below_drew1) | exact HB.out)⟩⟩
          ·rw [if_neg c9] at H
           exact absurd H (by simp)
         ·rw [if_neg c7] at H
          exact absurd H (by simp)
        ·rw [if_neg c5] at H
         exact absurd H (by simp)
       ·rw [if_neg c4] at H
        exact absurd H (by simp)
      ·rw [if_neg c3] at H
       have c3b0 : decide (x5_2 < 32) = false := decide_eq_false c3
       clear c3
       have H' := Aside0.mk H
       clear H
       go_wp2
       go_roundg k2
       case measure => have := HK1.out; have := HK2.out; omega
       case rel => exact ⟨(x3_2), (wrap64 (x4_1 + 1)), (by first | rfl | (simp; done) | (simp [*]; done)), H', ⟨by have := HK1.out; have := HK2.out; omega⟩, ⟨by (with_reducible repeat (first | apply Kd.R_alloc | apply Kd.R_drewN | apply Kd.R_drew)); exact HO_3.out⟩, ⟨by repeat (first | (with_reducible first | exact HB.out | apply below_alloc | apply pw_below_drewN | apply below_drew1) | exact HB.out)⟩⟩
   ·rw [if_neg c2] at H
    have c2b0 : decide (x4_1 < (l0.length : Int)) = false := decide_eq_false c2
    clear c2
    replace H := Option.bind_eq_some_iff.mp H
    obtain ⟨t101, A110, H⟩ := H
    replace H : (if 0 ≤ t101 then (if t101 ≤ (x3_1.length : Int) then (some (x3_1.take (t101 : Int).toNat)) else (none)) else (none)) = some r := H
    have A11 := Aside0.mk A110
    clear A110
    by_cases c12 : 0 ≤ t101
    ·rw [if_pos c12] at H
     have c12b0 := eq_true c12
     have c12b1 : decide (0 ≤ t101) = true := decide_eq_true c12
     clear c12
     by_cases c13 : t101 ≤ (x3_1.length : Int)
     ·rw [if_pos c13] at H
      have c13b0 := eq_true c13
      have c13b1 : decide (t101 ≤ (x3_1.length : Int)) = true := decide_eq_true c13
      clear c13
      obtain ⟨y102, hy102⟩ : ∃ y_ : List Bool, y_ = (x3_1.take (t101 : Int).toNat) := ⟨_, rfl⟩
      replace H : (some y102) = some r := by first | (rw [hy102]; with_reducible exact H) | (have H2_ := (Option.bind_some _ _).symm.trans H; rw [hy102]; with_reducible exact H2_) | (have H2_ := (Option.bind_some _ _).symm.trans H; with_reducible exact H2_) | with_reducible exact H | (rw [hy102]; exact H) | exact H
      have Ny102 := Aside0.mk hy102
      clear hy102
      obtain rfl := Option.some.inj H
      obtain ⟨Ao14, co14, eo14⟩ := Kd.R_slice HO_3.out
      subst eo14
      go_wp2_with (first | ((with_reducible refine gate_callee (f := 53) rfl ?_); refine goesL_ (some 30) rfl rfl Try.func53 (by kernel_rfl) rfl #[.slice Ao14 x3_1.length co14] rfl (by (try simp only [List.map_toArray, List.map_cons, List.map_nil]); first | done | rfl | (simp only [List.length_drop, List.length_take]; rfl)) ?_; (with_reducible refine (flyballref01_Len.calls k1 _ _ x3_1 t101 _ ?side1 ?side2 A11.out).mono ?_); (case side1 => repeat (first | exact (Kd.R_reads' HO_3.out).2.2 | (with_reducible refine Kd.C_alloc ?_ _) | (with_reducible refine Kd.C_drewN ?_ _) | (with_reducible refine Kd.C_drew ?_))); (case side2 => exact (Kd.R_reads' HO_3.out).2.1); rintro e w' ⟨rfl, ⟨nd, rfl⟩⟩; refine ⟨_, rfl, ?_⟩; have q15 : (t101 : Int) ≤ ((x3_1.length : Int) : Int) := of_decide_eq_true (by first | (with_reducible assumption) | assumption); obtain ⟨i015, hi015, _, hsz15, _⟩ := info_parts info4; have hcut15 := cut_to (P := Try.prog) 26 4 .i64 Try.underlying26 hi015 Ao14 x3_1.length co14 t101 (of_decide_eq_true (by first | (with_reducible assumption) | assumption)) q15 (Kd.R_reads' HO_3.out).2.1; have hr15 := Kd.R_take (m := (t101 : Int).toNat) HO_3.out (by omega); have hy15 : y102.length = (t101 : Int).toNat := (by rw [Ny102.out, List.length_take]; omega); rw [← Ny102.out] at hr15; rw [← hy15] at hr15 hcut15; clear hy15 hi015 hsz15 HO_3; have HO104 := Aside0.mk hr15; clear hr15; replace q15 := eq_true q15))
      go_ret
      exact ⟨_, by first | rfl | (simp [errW_none, errW_some] <;> rfl) | (simp [*, errW_none, errW_some] <;> rfl), by (with_reducible repeat (first | apply Kd.R_alloc | apply Kd.R_drewN | apply Kd.R_drew)); exact HO104.out, by repeat (first | (with_reducible first | exact HB.out | apply below_alloc | apply pw_below_drewN | apply below_drew1) | exact HB.out)⟩
     ·rw [if_neg c13] at H
      exact absurd H (by simp)
    ·rw [if_neg c12] at H
     exact absurd H (by simp)
end Go.Proofs.Ytagbnkbhobmgjaa.Fn
end
section
-- Written by a program of this session (a turned copy of the kit's printer, and hand-written parts). Not trusted: Lean checks it.
namespace Go.Proofs.Ytagbnkbhobmgjaa.Fn
open Go.RowKit Go.Proofs.YtagbnkbhobmgjaaW.PrintWords Go.Proofs.YtagbnkbhobmgjaaW.PrintLast Go.Proofs.YtagbnkbhobmgjaaW.PrintMore
attribute [local go_sem] max2_int min2_int max_two min_two max_three min_three max_four min_four   -- for this text's walks alone
set_option linter.unusedVariables false
set_option linter.unusedSimpArgs false
/-! ### flyballref02_Same: function 106 -/
def flyballref02_Same.l0 : Nat → List Int → List Int → Int → Option (Bool)
 | 0, _, _, _ => none
 | k + 1, x0, x1, x5 => if x5 < (x0.length : Int) then (if 0 ≤ x5 then (if x5 < (x1.length : Int) then (if (rd x0 x5) = (rd x1 x5) then (flyballref02_Same.l0 k x0 x1 (wrap64 (x5 + 1))) else (some false)) else (none)) else (none)) else (some true)
def flyballref02_Same.f (k : Nat) (l0 : List Int) (l1 : List Int) : Option (Bool) := if (l0.length : Int) = (l1.length : Int) then (flyballref02_Same.l0 k l0 l1 0) else (some false)
theorem flyballref02_Same.mono_l : ∀ k, (∀ y0 y1 y2, LeO (flyballref02_Same.l0 k y0 y1 y2) (flyballref02_Same.l0 (k + 1) y0 y1 y2))
 | 0 => fun _ _ _ r h => by simp [flyballref02_Same.l0] at h
 | k + 1 => by
  have ih0 := flyballref02_Same.mono_l k
  ·intro y0 y1 y2
   unfold flyballref02_Same.l0
   repeat' first
   | (with_reducible exact ih0 _ _ _)
   | (with_reducible exact LeO.refl _)
   | (with_reducible exact LeO.none _)
   | (with_reducible refine LeO.ite ?_ ?_)
   | (with_reducible refine LeO.bind ?_ (fun _ => ?_))
   | exact ih0 _ _ _
   | exact LeO.none _
   | refine LeO.ite ?_ ?_
   | refine LeO.bind ?_ (fun _ => ?_)
theorem flyballref02_Same.mono : ∀ a0 a1 k, LeO (flyballref02_Same.f k a0 a1) (flyballref02_Same.f (k + 1) a0 a1) := by
 intro a0 a1 k
 have ih0 := flyballref02_Same.mono_l k
 unfold flyballref02_Same.f
 repeat' first
   | (with_reducible exact ih0 _ _ _)
   | (with_reducible exact LeO.refl _)
   | (with_reducible exact LeO.none _)
   | (with_reducible refine LeO.ite ?_ ?_)
   | (with_reducible refine LeO.bind ?_ (fun _ => ?_))
   | exact ih0 _ _ _
   | exact LeO.none _
   | refine LeO.ite ?_ ?_
   | refine LeO.bind ?_ (fun _ => ?_)
set_option maxHeartbeats 8000000 in
set_option maxRecDepth 100000 in
theorem flyballref02_Same.calls (k : Nat) (A0 : Option Addr) (c0 : Nat) (l0 : List Int) (A1 : Option Addr) (c1 : Nat) (l1 : List Int) (r : Bool) (w : World) (hr0 : Kd.C (Kd.int .u32) w A0 l0.length l0) (hc0 : l0.length ≤ c0) (hr1 : Kd.C (Kd.int .u32) w A1 l1.length l1) (hc1 : l1.length ≤ c1) (h : flyballref02_Same.f k l0 l1 = some r) :
  Calls Try.prog 106 #[.slice A0 l0.length c0, .slice A1 l1.length c1] w fun e w' => e = .returned (.bool r) ∧ Drawn0 w w' := by
 have HR0 := Aside0.mk hr0
 have HC0 := Aside0.mk hc0
 clear hr0 hc0
 have HR1 := Aside0.mk hr1
 have HC1 := Aside0.mk hc1
 clear hr1 hc1
 have H : (if (l0.length : Int) = (l1.length : Int) then (flyballref02_Same.l0 k l0 l1 0) else (some false)) = some r := h
 clear h
 by_cases c3 : (l0.length : Int) = (l1.length : Int)
 ·rw [if_pos c3] at H
  have c3b0 : ((l0.length : Int) == (l1.length : Int)) = true := beq_iff_eq.mpr c3
  have c3b1 : ((l0.length : Int) != (l1.length : Int)) = false := bne_eq_false_iff_eq.mpr c3
  have c3b2 : (l0.length == l1.length) = true := by first | simpa using c3 | (simp at c3 ⊢; omega)
  clear c3
  have H' := Aside0.mk H
  clear H
  go_enter Try.func106, Try.ntmps106
  go_wp2
  repeat (go_quiet (fail); try go_wp2)
  go_loopg [5] k (fun kq v5 w' => ∃ (x5_1 : Int), v5 = .int .i64 x5_1 ∧ Aside0 (flyballref02_Same.l0 kq l0 l1 x5_1 = some r) ∧ Aside0 (kq ≤ k) ∧ Drawn0 w w')
  case atStart => exact ⟨(0), (by first | rfl | (simp; done) | (simp [*]; done)), H', ⟨Nat.le_refl _⟩, by repeat (first | exact Drawn0.refl _ | apply Drawn0.step)⟩
  case round =>
   clear H'
   try clear c1
   try clear p2
   try clear c3
   try clear c3b0
   try clear c3b1
   try clear c3b2
   obtain ⟨x5_1, rfl, HA, HK1, ⟨m1, rfl⟩⟩ := hrel
   cases gk with
   | zero => exact absurd HA.out (by simp [flyballref02_Same.l0])
   | succ k1 =>
    have H := HA.out
    clear HA
    simp only [flyballref02_Same.l0] at H
    by_cases c4 : x5_1 < (l0.length : Int)
    ·rw [if_pos c4] at H
     have c4b0 : decide (x5_1 < (l0.length : Int)) = true := decide_eq_true c4
     clear c4
     by_cases c5 : 0 ≤ x5_1
     ·rw [if_pos c5] at H
      have c5b0 : decide (0 ≤ x5_1) = true := decide_eq_true c5
      clear c5
      by_cases c6 : x5_1 < (l1.length : Int)
      ·rw [if_pos c6] at H
       have c6b0 : decide (x5_1 < (l1.length : Int)) = true := decide_eq_true c6
       clear c6
       by_cases c7 : (rd l0 x5_1) = (rd l1 x5_1)
       ·rw [if_pos c7] at H
        have c7b0 : ((rd l0 x5_1) == (rd l1 x5_1)) = true := beq_iff_eq.mpr c7
        have c7b1 : ((rd l0 x5_1) != (rd l1 x5_1)) = false := bne_eq_false_iff_eq.mpr c7
        clear c7
        have H' := Aside0.mk H
        clear H
        have p101 : 0 ≤ (x5_1 : Int) := of_decide_eq_true (by first | (with_reducible assumption) | assumption)
        have q101 : x5_1 < (l0.length : Int) := of_decide_eq_true (by first | (with_reducible assumption) | assumption)
        obtain ⟨ad101, e101, hx101_0⟩ := Kd.at_int HR0.out x5_1 p101 q101
        cases e101
        replace p101 := eq_true p101
        replace q101 := eq_true q101
        have p102 : 0 ≤ (x5_1 : Int) := of_decide_eq_true (by first | (with_reducible assumption) | assumption)
        have q102 : x5_1 < (l1.length : Int) := of_decide_eq_true (by first | (with_reducible assumption) | assumption)
        obtain ⟨ad102, e102, hx102_0⟩ := Kd.at_int HR1.out x5_1 p102 q102
        cases e102
        replace p102 := eq_true p102
        replace q102 := eq_true q102
        go_wp2
        repeat (go_quiet (fail); try go_wp2)
        go_roundg k1
        case measure => have := HK1.out; omega
        case rel => exact ⟨(wrap64 (x5_1 + 1)), (by first | rfl | (simp; done) | (simp [*]; done)), H', ⟨by have := HK1.out; omega⟩, by repeat (first | exact Drawn0.refl _ | apply Drawn0.step)⟩
       ·rw [if_neg c7] at H
        have c7b0 : ((rd l0 x5_1) == (rd l1 x5_1)) = false := beq_eq_false_iff_ne.mpr c7
        have c7b1 : ((rd l0 x5_1) != (rd l1 x5_1)) = true := bne_iff_ne.mpr c7
        obtain rfl := Option.some.inj H
        have p101 : 0 ≤ (x5_1 : Int) := of_decide_eq_true (by first | (with_reducible assumption) | assumption)
        have q101 : x5_1 < (l0.length : Int) := of_decide_eq_true (by first | (with_reducible assumption) | assumption)
        obtain ⟨ad101, e101, hx101_0⟩ := Kd.at_int HR0.out x5_1 p101 q101
        cases e101
        replace p101 := eq_true p101
        replace q101 := eq_true q101
        have p102 : 0 ≤ (x5_1 : Int) := of_decide_eq_true (by first | (with_reducible assumption) | assumption)
        have q102 : x5_1 < (l1.length : Int) := of_decide_eq_true (by first | (with_reducible assumption) | assumption)
        obtain ⟨ad102, e102, hx102_0⟩ := Kd.at_int HR1.out x5_1 p102 q102
        cases e102
        replace p102 := eq_true p102
        replace q102 := eq_true q102
        go_wp2
        repeat (go_quiet (fail); try go_wp2)
        go_ret
        exact ⟨by first | rfl | (simp; done) | (simp [*]; done), by repeat (first | exact Drawn0.refl _ | apply Drawn0.step)⟩
      ·rw [if_neg c6] at H
       exact absurd H (by simp)
     ·rw [if_neg c5] at H
      exact absurd H (by simp)
    ·rw [if_neg c4] at H
     have c4b0 : decide (x5_1 < (l0.length : Int)) = false := decide_eq_false c4
     clear c4
     obtain rfl := Option.some.inj H
     go_wp2
     repeat (go_quiet (fail); try go_wp2)
     go_ret
     exact ⟨by first | rfl | (simp; done) | (simp [*]; done), by repeat (first | exact Drawn0.refl _ | apply Drawn0.step)⟩
 ·rw [if_neg c3] at H
  have c3b0 : ((l0.length : Int) == (l1.length : Int)) = false := beq_eq_false_iff_ne.mpr c3
  have c3b1 : ((l0.length : Int) != (l1.length : Int)) = true := bne_iff_ne.mpr c3
  have c3b2 : (l0.length == l1.length) = false := by first | simpa using c3 | (simp at c3 ⊢; omega)
  obtain rfl := Option.some.inj H
  go_enter Try.func106, Try.ntmps106
  go_wp2
  repeat (go_quiet (fail); try go_wp2)
  go_ret
  exact ⟨by first | rfl | (simp; done) | (simp [*]; done), by repeat (first | exact Drawn0.refl _ | apply Drawn0.step)⟩
end Go.Proofs.Ytagbnkbhobmgjaa.Fn
end
section
-- Written by a program of this session (a turned copy of the kit's printer, and hand-written parts). Not trusted: Lean checks it.
namespace Go.Proofs.Ytagbnkbhobmgjaa.Fn
open Go.RowKit Go.Proofs.YtagbnkbhobmgjaaW.PrintWords Go.Proofs.YtagbnkbhobmgjaaW.PrintLast Go.Proofs.YtagbnkbhobmgjaaW.PrintMore
attribute [local go_sem] max2_int min2_int max_two min_two max_three min_three max_four min_four   -- for this text's walks alone
set_option linter.unusedVariables false
set_option linter.unusedSimpArgs false
/-! ### flyballref02_Words: function 107 -/
def flyballref02_Words.l0 : Nat → List Bool → Int → List Int → Int → Option (List Int)
 | 0, _, _, _, _ => none
 | k + 1, x0, x3, x4, x5 => if x5 < x3 then (if 0 ≤ x5 then (if x5 < (x0.length : Int) then (if rdOf false x0 x5 = true then (if 0 ≤ (wrap64 (Int.tdiv x5 32)) then (if (wrap64 (Int.tdiv x5 32)) < (x4.length : Int) then (if 0 ≤ (IntKind.u64.wrap (Int.tmod x5 32)) then (flyballref02_Words.l0 k x0 x3 (x4.set ((wrap64 (Int.tdiv x5 32)) : Int).toNat (Go.bits .or .u32 (rd x4 (wrap64 (Int.tdiv x5 32))) (shl .u32 1 (IntKind.u64.wrap (Int.tmod x5 32))))) (wrap64 (x5 + 1))) else (none)) else (none)) else (none)) else (flyballref02_Words.l0 k x0 x3 x4 (wrap64 (x5 + 1)))) else (none)) else (none)) else (some x4)
def flyballref02_Words.f (k : Nat) (l0 : List Bool) : Option (List Int) := (flyballref01_Len.f k l0).bind fun t101 => (if 0 ≤ (wrap64 (Int.tdiv (wrap64 (t101 + 31)) 32)) then (if (wrap64 (Int.tdiv (wrap64 (t101 + 31)) 32) : Int).toNat ≤ 70368744177664 then (flyballref02_Words.l0 k l0 t101 (List.replicate (wrap64 (Int.tdiv (wrap64 (t101 + 31)) 32) : Int).toNat 0) 0) else (none)) else (none))
theorem flyballref02_Words.mono_l : ∀ k, (∀ y0 y1 y2 y3, LeO (flyballref02_Words.l0 k y0 y1 y2 y3) (flyballref02_Words.l0 (k + 1) y0 y1 y2 y3))
 | 0 => fun _ _ _ _ r h => by simp [flyballref02_Words.l0] at h
 | k + 1 => by
  have ih0 := flyballref02_Words.mono_l k
  ·intro y0 y1 y2 y3
   unfold flyballref02_Words.l0
   repeat' first
   | (with_reducible exact ih0 _ _ _ _)
   | (with_reducible exact flyballref01_Len.mono _ _)
   | (with_reducible exact LeO.refl _)
   | (with_reducible exact LeO.none _)
   | (with_reducible refine LeO.ite ?_ ?_)
   | (with_reducible refine LeO.bind ?_ (fun _ => ?_))
   | exact ih0 _ _ _ _
   | exact flyballref01_Len.mono _ _
   | exact LeO.none _
   | refine LeO.ite ?_ ?_
   | refine LeO.bind ?_ (fun _ => ?_)
theorem flyballref02_Words.mono : ∀ a0 k, LeO (flyballref02_Words.f k a0) (flyballref02_Words.f (k + 1) a0) := by
 intro a0 k
 have ih0 := flyballref02_Words.mono_l k
 unfold flyballref02_Words.f
 repeat' first
   | (with_reducible exact ih0 _ _ _ _)
   | (with_reducible exact flyballref01_Len.mono _ _)
   | (with_reducible exact LeO.refl _)
   | (with_reducible exact LeO.none _)
   | (with_reducible refine LeO.ite ?_ ?_)
   | (with_reducible refine LeO.bind ?_ (fun _ => ?_))
   | exact ih0 _ _ _ _
   | exact flyballref01_Len.mono _ _
   | exact LeO.none _
   | refine LeO.ite ?_ ?_
   | refine LeO.bind ?_ (fun _ => ?_)
set_option maxHeartbeats 8000000 in
set_option maxRecDepth 100000 in
theorem flyballref02_Words.calls (k : Nat) (A0 : Option Addr) (c0 : Nat) (l0 : List Bool) (r : List Int) (w : World) (hr0 : Kd.C Kd.bool w A0 l0.length l0) (hc0 : l0.length ≤ c0) (h : flyballref02_Words.f k l0 = some r) :
  Calls Try.prog 107 #[.slice A0 l0.length c0] w fun e w' => ∃ v0_ : Value, e = .returned (v0_) ∧ Kd.R (Kd.int .u32) 118 w' w.heap.size (fun _ => True) v0_ r ∧ Below w.heap.size w w' := by
 have HR0 := Aside0.mk hr0
 have HC0 := Aside0.mk hc0
 clear hr0 hc0
 have HB := Aside0.mk (Below.refl w.heap.size w)
 have H : ((flyballref01_Len.f k l0).bind fun t101 => (if 0 ≤ (wrap64 (Int.tdiv (wrap64 (t101 + 31)) 32)) then (if (wrap64 (Int.tdiv (wrap64 (t101 + 31)) 32) : Int).toNat ≤ 70368744177664 then (flyballref02_Words.l0 k l0 t101 (List.replicate (wrap64 (Int.tdiv (wrap64 (t101 + 31)) 32) : Int).toNat 0) 0) else (none)) else (none))) = some r := h
 clear h
 replace H := Option.bind_eq_some_iff.mp H
 obtain ⟨t101, A20, H⟩ := H
 replace H : (if 0 ≤ (wrap64 (Int.tdiv (wrap64 (t101 + 31)) 32)) then (if (wrap64 (Int.tdiv (wrap64 (t101 + 31)) 32) : Int).toNat ≤ 70368744177664 then (flyballref02_Words.l0 k l0 t101 (List.replicate (wrap64 (Int.tdiv (wrap64 (t101 + 31)) 32) : Int).toNat 0) 0) else (none)) else (none)) = some r := H
 have A2 := Aside0.mk A20
 clear A20
 obtain ⟨ji3, hji3⟩ : ∃ j_ : Int, (wrap64 (Int.tdiv (wrap64 (t101 + 31)) 32)) = j_ := ⟨_, rfl⟩
 replace H : (if 0 ≤ (ji3) then (if (ji3 : Int).toNat ≤ 70368744177664 then (flyballref02_Words.l0 k l0 t101 (List.replicate (ji3 : Int).toNat 0) 0) else (none)) else (none)) = some r := by first | (rw [hji3] at H; exact H) | (simp only [hji3] at H ⊢; exact H)
 (try rw [hji3] at A2)
 have hji3w : (IntKind.i64.wrap (Int.tdiv (wrap64 (t101 + 31)) 32)) = ji3 := (i64_w _).trans hji3
 by_cases c4 : 0 ≤ (ji3)
 ·rw [if_pos c4] at H
  have c4b0 := eq_true c4
  have c4b1 : decide (0 ≤ (ji3)) = true := decide_eq_true c4
  clear c4
  by_cases c5 : (ji3 : Int).toNat ≤ 70368744177664
  ·rw [if_pos c5] at H
   have c5b0 := eq_true c5
   have c5b1 : decide ((ji3 : Int).toNat ≤ 70368744177664) = true := decide_eq_true c5
   clear c5
   obtain ⟨y102, hy102⟩ : ∃ y_ : List Int, y_ = (List.replicate (ji3 : Int).toNat 0) := ⟨_, rfl⟩
   replace H : (flyballref02_Words.l0 k l0 t101 y102 0) = some r := by first | (rw [hy102]; with_reducible exact H) | (have H2_ := (Option.bind_some _ _).symm.trans H; rw [hy102]; with_reducible exact H2_) | (have H2_ := (Option.bind_some _ _).symm.trans H; with_reducible exact H2_) | with_reducible exact H | (rw [hy102]; exact H) | exact H
   have Ny102 := Aside0.mk hy102
   clear hy102
   have H' := Aside0.mk H
   clear H
   go_enter Try.func107, Try.ntmps107
   go_wp2_with (first | ((with_reducible refine gate_callee (f := 53) rfl ?_); refine goesL_ (some 7) rfl rfl Try.func53 (by kernel_rfl) rfl #[.slice A0 l0.length c0] rfl (by (try simp only [List.map_toArray, List.map_cons, List.map_nil]); first | done | rfl | (simp only [List.length_drop, List.length_take]; rfl)) ?_; (with_reducible refine (flyballref01_Len.calls k _ _ l0 t101 _ ?side1 ?side2 A2.out).mono ?_); (case side1 => repeat (first | exact HR0.out | (with_reducible refine Kd.C_alloc ?_ _) | (with_reducible refine Kd.C_drewN ?_ _) | (with_reducible refine Kd.C_drew ?_))); (case side2 => exact HC0.out); rintro e w' ⟨rfl, ⟨nd, rfl⟩⟩; refine ⟨_, rfl, ?_⟩) | ((with_reducible refine gate_dst (N := 11) rfl ?_); refine Kd.R_make (Kd.int .u32) _ 118 rfl (N := 11) rfl 22 _ _ rfl ji3 rfl rfl Try.underlying22 (.int .u32 0) 4 info118 rfl (by decide) (by omega) 0 (ok := fun _ => True) (okp := fun _ => True) rfl (fun _ hk => hk) trivial (of_decide_eq_true (by first | (with_reducible assumption) | assumption)) (Nat.le_trans (Nat.mul_le_mul_right _ (of_decide_eq_true (by first | (with_reducible assumption) | assumption) : ji3.toNat ≤ 70368744177664)) (by omega)) (Below.refl _ _) (Nat.le_refl _) ?_; intro v103 w6 ho7 hb hg_ hnew_; clear hg_ hnew_; (first | rw [← Ny102.out] at ho7 | (simp only [Int.reduceToNat] at ho7; rw [← Ny102.out] at ho7)); have n0_ := Aside0.mk (Kd.R_lower ho7 (below_size (by repeat (first | (with_reducible first | exact HB.out | apply below_alloc | apply pw_below_drewN | apply below_drew1) | exact HB.out)))); have n1_ := Aside0.mk (below_step (by repeat (first | (with_reducible first | exact HB.out | apply below_alloc | apply pw_below_drewN | apply below_drew1) | exact HB.out)) hb); clear HB; have HO104 := n0_; have HB := n1_; clear n0_ n1_; clear hb ho7))
   go_loopg [5] k (fun kq v5 w' => ∃ (x4_1 : List Int) (x5_1 : Int), v5 = .int .i64 x5_1 ∧ Aside0 (flyballref02_Words.l0 kq l0 t101 x4_1 x5_1 = some r) ∧ Aside0 (kq ≤ k) ∧ Aside0 (Kd.R (Kd.int .u32) 118 w' w.heap.size (fun _ => True) v103 x4_1) ∧ Aside0 (Below w.heap.size w w'))
   case atStart => exact ⟨(y102), (0), (by first | rfl | (simp; done) | (simp [*]; done)), H', ⟨Nat.le_refl _⟩, ⟨by (with_reducible repeat (first | apply Kd.R_alloc | apply Kd.R_drewN | apply Kd.R_drew)); exact HO104.out⟩, ⟨by repeat (first | (with_reducible first | exact HB.out | apply below_alloc | apply pw_below_drewN | apply below_drew1) | exact HB.out)⟩⟩
   case round =>
    clear H'
    try clear c1
    try clear p2
    try clear c4
    try clear c4b0
    try clear c4b1
    try clear c5
    try clear c5b0
    try clear c5b1
    try clear p6
    obtain ⟨x4_1, x5_1, rfl, HA, HK1, HO_4, HB⟩ := hrel
    cases gk with
    | zero => exact absurd HA.out (by simp [flyballref02_Words.l0])
    | succ k1 =>
     have H := HA.out
     clear HA
     simp only [flyballref02_Words.l0] at H
     by_cases c8 : x5_1 < t101
     ·rw [if_pos c8] at H
      have c8b0 : decide (x5_1 < t101) = true := decide_eq_true c8
      clear c8
      by_cases c9 : 0 ≤ x5_1
      ·rw [if_pos c9] at H
       have c9b0 : decide (0 ≤ x5_1) = true := decide_eq_true c9
       clear c9
       by_cases c10 : x5_1 < (l0.length : Int)
       ·rw [if_pos c10] at H
        have c10b0 : decide (x5_1 < (l0.length : Int)) = true := decide_eq_true c10
        clear c10
        obtain ⟨bq11, hbq11⟩ : ∃ b_ : Bool, b_ = (rdOf false l0 x5_1) := ⟨_, rfl⟩
        replace H : (if bq11 = true then (if 0 ≤ (wrap64 (Int.tdiv x5_1 32)) then (if (wrap64 (Int.tdiv x5_1 32)) < (x4_1.length : Int) then (if 0 ≤ (IntKind.u64.wrap (Int.tmod x5_1 32)) then (flyballref02_Words.l0 k1 l0 t101 (x4_1.set ((wrap64 (Int.tdiv x5_1 32)) : Int).toNat (Go.bits .or .u32 (rd x4_1 (wrap64 (Int.tdiv x5_1 32))) (shl .u32 1 (IntKind.u64.wrap (Int.tmod x5_1 32))))) (wrap64 (x5_1 + 1))) else (none)) else (none)) else (none)) else (flyballref02_Words.l0 k1 l0 t101 x4_1 (wrap64 (x5_1 + 1)))) = some r := by rw [← hbq11] at H; exact H
        have Nbq11 := Aside0.mk hbq11
        clear hbq11
        by_cases c12 : bq11 = true
        ·subst c12
         have H1 : (if 0 ≤ (wrap64 (Int.tdiv x5_1 32)) then (if (wrap64 (Int.tdiv x5_1 32)) < (x4_1.length : Int) then (if 0 ≤ (IntKind.u64.wrap (Int.tmod x5_1 32)) then (flyballref02_Words.l0 k1 l0 t101 (x4_1.set ((wrap64 (Int.tdiv x5_1 32)) : Int).toNat (Go.bits .or .u32 (rd x4_1 (wrap64 (Int.tdiv x5_1 32))) (shl .u32 1 (IntKind.u64.wrap (Int.tmod x5_1 32))))) (wrap64 (x5_1 + 1))) else (none)) else (none)) else (none)) = some r := by rw [if_pos rfl] at H; exact H
         clear H
         have H := H1
         clear H1
         obtain ⟨ji13, hji13⟩ : ∃ j_ : Int, (wrap64 (Int.tdiv x5_1 32)) = j_ := ⟨_, rfl⟩
         replace H : (if 0 ≤ (ji13) then (if (ji13) < (x4_1.length : Int) then (if 0 ≤ (IntKind.u64.wrap (Int.tmod x5_1 32)) then (flyballref02_Words.l0 k1 l0 t101 (x4_1.set ((ji13) : Int).toNat (Go.bits .or .u32 (rd x4_1 (ji13)) (shl .u32 1 (IntKind.u64.wrap (Int.tmod x5_1 32))))) (wrap64 (x5_1 + 1))) else (none)) else (none)) else (none)) = some r := by first | (rw [hji13] at H; exact H) | (simp only [hji13] at H ⊢; exact H)
         have hji13w : (IntKind.i64.wrap (Int.tdiv x5_1 32)) = ji13 := (i64_w _).trans hji13
         by_cases c14 : 0 ≤ (ji13)
         ·rw [if_pos c14] at H
          have c14b0 : decide (0 ≤ (ji13)) = true := decide_eq_true c14
          clear c14
          by_cases c15 : (ji13) < (x4_1.length : Int)
          ·rw [if_pos c15] at H
           have c15b0 : decide ((ji13) < (x4_1.length : Int)) = true := decide_eq_true c15
           clear c15
           obtain ⟨ji16, hji16⟩ : ∃ j_ : Int, (IntKind.u64.wrap (Int.tmod x5_1 32)) = j_ := ⟨_, rfl⟩
           replace H : (if 0 ≤ (ji16) then (flyballref02_Words.l0 k1 l0 t101 (x4_1.set ((ji13) : Int).toNat (Go.bits .or .u32 (rd x4_1 (ji13)) (shl .u32 1 (ji16)))) (wrap64 (x5_1 + 1))) else (none)) = some r := by first | (rw [hji16] at H; exact H) | (simp only [hji16] at H ⊢; exact H)
           by_cases c17 : 0 ≤ (ji16)
           ·rw [if_pos c17] at H
            have c17b0 := eq_true c17
            have c17b1 : decide (0 ≤ (ji16)) = true := decide_eq_true c17
            clear c17
            obtain ⟨ji18, hji18⟩ : ∃ j_ : Int, (shl .u32 1 (ji16)) = j_ := ⟨_, rfl⟩
            replace H : (flyballref02_Words.l0 k1 l0 t101 (x4_1.set ((ji13) : Int).toNat (Go.bits .or .u32 (rd x4_1 (ji13)) (ji18))) (wrap64 (x5_1 + 1))) = some r := by first | (rw [hji18] at H; exact H) | (simp only [hji18] at H ⊢; exact H)
            have hji18_ : (IntKind.u32.wrap (1 * 2 ^ min (ji16).toNat 32)) = ji18 := hji18
            have hji18z : (ji16) ≤ 32 → (IntKind.u32.wrap (1 * 2 ^ (ji16).toNat)) = ji18 := shl_small hji18
            have hji18u : (IntKind.u32.wrap (2 ^ min (ji16).toNat 32)) = ji18 := by have h_ := hji18_; rw [Int.one_mul] at h_; exact h_
            have hji18v : (ji16) ≤ 32 → (IntKind.u32.wrap (2 ^ (ji16).toNat)) = ji18 := fun hle_ => by have h_ := hji18z hle_; rw [Int.one_mul] at h_; exact h_
            obtain ⟨y107, hy107⟩ : ∃ y_ : List Int, y_ = (x4_1.set ((ji13) : Int).toNat (Go.bits .or .u32 (rd x4_1 (ji13)) (ji18))) := ⟨_, rfl⟩
            replace H : (flyballref02_Words.l0 k1 l0 t101 y107 (wrap64 (x5_1 + 1))) = some r := by first | (rw [hy107]; with_reducible exact H) | (have H2_ := (Option.bind_some _ _).symm.trans H; rw [hy107]; with_reducible exact H2_) | (have H2_ := (Option.bind_some _ _).symm.trans H; with_reducible exact H2_) | with_reducible exact H | (rw [hy107]; exact H) | exact H
            have Ny107 := Aside0.mk hy107
            clear hy107
            have H' := Aside0.mk H
            clear H
            have p105 : 0 ≤ (x5_1 : Int) := of_decide_eq_true (by first | (with_reducible assumption) | assumption)
            have q105 : x5_1 < (l0.length : Int) := of_decide_eq_true (by first | (with_reducible assumption) | assumption)
            obtain ⟨ad105, e105, hx105_0⟩ := Kd.at_bool HR0.out x5_1 p105 q105
            (try rw [← Nbq11.out] at hx105_0)
            cases e105
            replace hx105_0 := (HB.out.cell (World.block_lt_of_cell? w _ hx105_0)).trans hx105_0
            replace p105 := eq_true p105
            replace q105 := eq_true q105
            obtain ⟨Ao20, co20, eo20⟩ := Kd.R_slice HO_4.out
            subst eo20
            have p106 : 0 ≤ ((ji13) : Int) := of_decide_eq_true (by first | (with_reducible assumption) | assumption)
            have q106 : (ji13) < (x4_1.length : Int) := of_decide_eq_true (by first | (with_reducible assumption) | assumption)
            obtain ⟨ad106, e106, hx106_0⟩ := Kd.at_int (Kd.R_reads' HO_4.out).2.2 (ji13) p106 q106
            cases e106
            replace p106 := eq_true p106
            replace q106 := eq_true q106
            have p19 : 0 ≤ ((ji13) : Int) := of_decide_eq_true (by first | (with_reducible assumption) | assumption)
            have q19 : ((ji13) : Int) < ((x4_1.length : Int) : Int) := of_decide_eq_true (by first | (with_reducible assumption) | assumption)
            obtain ⟨go19, co19, eo19, gb19, gl19, cl19, HG19⟩ := Kd.R_form HO_4.out (by omega)
            (first | cases eo19 | (injection eo19 with ea_ en_ ec_; (first | subst ea_ | (injection ea_ with ea_; subst ea_)); subst ec_; clear en_))
            have GB19 := Aside0.mk gb19
            have GG19 := Aside0.mk HG19
            clear gb19 gl19 HG19
            (first | simp only [add_plain] at hx106_0 | skip)
            obtain ⟨hx19_0, hf19_0⟩ := Kd.R_celln 0 HO_4.out ((ji13) : Int) p19 q19
            replace p19 := eq_true p19
            replace q19 := eq_true q19
            have HP21 := Kd.R_putg HO_4.out ((ji13) : Int) (Go.bits .or .u32 (rd x4_1 (ji13)) (ji18))
            go_wp2_with (first | ((with_reducible refine gate_store (t := 118) (p := 34) rfl ?_); refine store_event (t := 118) (p := 34) (v := ?vo_w22) (w1 := (wr.setCell ⟨go19, ((ji13) : Int).toNat, none⟩ (.int .u32 (Go.bits .or .u32 (rd x4_1 (ji13)) (ji18))))) ?hg ?ho ?hn ?hr ?_; (case ho => rfl); (case hg => rfl); (case hn => rfl); (case hr => first | (go_simp; done) | (go_simp; rfl)); intro w22 hw; have hg : wr.grownBy w22 (some go19) := (by rw [hw]; exact HP21.2); have hp_ : Kd.R (Kd.int .u32) 118 w22 w.heap.size (fun _ => True) (.slice (some ⟨go19, 0, none⟩) x4_1.length co20) y107 := (by rw [hw, Ny107.out]; exact HP21.1); clear HP21; have n0_ := Aside0.mk (hp_); have n1_ := Aside0.mk ((by rw [hw]; exact below_set (HB.out) GB19.out : Below w.heap.size w w22)); clear HO_4; clear HB; have HO_4 := n0_; have HB := n1_; clear n0_ n1_; clear hg hw hp_))
            go_roundg k1
            case measure => have := HK1.out; omega
            case rel => exact ⟨(y107), (wrap64 (x5_1 + 1)), (by first | rfl | (simp; done) | (simp [*]; done)), H', ⟨by have := HK1.out; omega⟩, ⟨by (with_reducible repeat (first | apply Kd.R_alloc | apply Kd.R_drewN | apply Kd.R_drew)); exact HO_4.out⟩, ⟨by repeat (first | (with_reducible first | exact HB.out | apply below_alloc | apply pw_below_drewN | apply below_drew1) | exact HB.out)⟩⟩
           ·rw [if_neg c17] at H
            exact absurd H (by simp)
          ·rw [if_neg c15] at H
           exact absurd H (by simp)
         ·rw [if_neg c14] at H
          exact absurd H (by simp)
        ·replace c12 := Bool.eq_false_iff.mpr c12
         subst c12
         have H1 : (flyballref02_Words.l0 k1 l0 t101 x4_1 (wrap64 (x5_1 + 1))) = some r := by rw [if_neg (show ¬ (false = true) by decide)] at H; exact H
         clear H
         have H := H1
         clear H1
         have H' := Aside0.mk H
         clear H
         have p105 : 0 ≤ (x5_1 : Int) := of_decide_eq_true (by first | (with_reducible assumption) | assumption)
         have q105 : x5_1 < (l0.length : Int) := of_decide_eq_true (by first | (with_reducible assumption) | assumption)
         obtain ⟨ad105, e105, hx105_0⟩ := Kd.at_bool HR0.out x5_1 p105 q105
         (try rw [← Nbq11.out] at hx105_0)
         cases e105
         replace hx105_0 := (HB.out.cell (World.block_lt_of_cell? w _ hx105_0)).trans hx105_0
         replace p105 := eq_true p105
         replace q105 := eq_true q105
         go_wp2
         go_roundg k1
         case measure => have := HK1.out; omega
         case rel => exact ⟨(x4_1), (wrap64 (x5_1 + 1)), (by first | rfl | (simp; done) | (simp [*]; done)), H', ⟨by have := HK1.out; omega⟩, ⟨by (with_reducible repeat (first | apply Kd.R_alloc | apply Kd.R_drewN | apply Kd.R_drew)); exact HO_4.out⟩, ⟨by repeat (first | (with_reducible first | exact HB.out | apply below_alloc | apply pw_below_drewN | apply below_drew1) | exact HB.out)⟩⟩
       ·rw [if_neg c10] at H
        exact absurd H (by simp)
      ·rw [if_neg c9] at H
       exact absurd H (by simp)
     ·rw [if_neg c8] at H
      have c8b0 : decide (x5_1 < t101) = false := decide_eq_false c8
      clear c8
      obtain rfl := Option.some.inj H
      go_wp2
      go_ret
      exact ⟨_, by first | rfl | (simp [errW_none, errW_some] <;> rfl) | (simp only [← hji3]; first | rfl | (simp [errW_none, errW_some] <;> rfl)) | (simp [*, errW_none, errW_some] <;> rfl), by (with_reducible repeat (first | apply Kd.R_alloc | apply Kd.R_drewN | apply Kd.R_drew)); exact HO_4.out, by repeat (first | (with_reducible first | exact HB.out | apply below_alloc | apply pw_below_drewN | apply below_drew1) | exact HB.out)⟩
  ·rw [if_neg c5] at H
   exact absurd H (by simp)
 ·rw [if_neg c4] at H
  exact absurd H (by simp)
end Go.Proofs.Ytagbnkbhobmgjaa.Fn
end
section
-- Written by a program of this session (a turned copy of the kit's printer, and hand-written parts). Not trusted: Lean checks it.
namespace Go.Proofs.Ytagbnkbhobmgjaa.Fn
open Go.RowKit Go.Proofs.YtagbnkbhobmgjaaW.PrintWords Go.Proofs.YtagbnkbhobmgjaaW.PrintLast Go.Proofs.YtagbnkbhobmgjaaW.PrintMore
attribute [local go_sem] max2_int min2_int max_two min_two max_three min_three max_four min_four   -- for this text's walks alone
set_option linter.unusedVariables false
set_option linter.unusedSimpArgs false
/-! ### flyballref02_Is: function 27 -/
def flyballref02_Is.f (k : Nat) (l0 : List Int) (l1 : List Bool) : Option (Bool) := (flyballref02_Words.f k l1).bind fun t101 => ((flyballref02_Same.f k l0 t101).bind fun t104 => (some t104))
theorem flyballref02_Is.mono : ∀ a0 a1 k, LeO (flyballref02_Is.f k a0 a1) (flyballref02_Is.f (k + 1) a0 a1) := by
 intro a0 a1 k
 unfold flyballref02_Is.f
 repeat' first
   | (with_reducible exact flyballref02_Same.mono _ _ _)
   | (with_reducible exact flyballref02_Words.mono _ _)
   | (with_reducible exact LeO.refl _)
   | (with_reducible exact LeO.none _)
   | (with_reducible refine LeO.ite ?_ ?_)
   | (with_reducible refine LeO.bind ?_ (fun _ => ?_))
   | exact flyballref02_Same.mono _ _ _
   | exact flyballref02_Words.mono _ _
   | exact LeO.none _
   | refine LeO.ite ?_ ?_
   | refine LeO.bind ?_ (fun _ => ?_)
set_option maxHeartbeats 8000000 in
set_option maxRecDepth 100000 in
theorem flyballref02_Is.calls (k : Nat) (A0 : Option Addr) (c0 : Nat) (l0 : List Int) (A1 : Option Addr) (c1 : Nat) (l1 : List Bool) (r : Bool) (w : World) (hr0 : Kd.C (Kd.int .u32) w A0 l0.length l0) (hc0 : l0.length ≤ c0) (hr1 : Kd.C Kd.bool w A1 l1.length l1) (hc1 : l1.length ≤ c1) (h : flyballref02_Is.f k l0 l1 = some r) :
  Calls Try.prog 27 #[.slice A0 l0.length c0, .slice A1 l1.length c1] w fun e w' => e = .returned (.bool r) ∧ Below w.heap.size w w' := by
 have HR0 := Aside0.mk hr0
 have HC0 := Aside0.mk hc0
 clear hr0 hc0
 have HR1 := Aside0.mk hr1
 have HC1 := Aside0.mk hc1
 clear hr1 hc1
 have HB := Aside0.mk (Below.refl w.heap.size w)
 have H : ((flyballref02_Words.f k l1).bind fun t101 => ((flyballref02_Same.f k l0 t101).bind fun t104 => (some t104))) = some r := h
 clear h
 replace H := Option.bind_eq_some_iff.mp H
 obtain ⟨t101, A30, H⟩ := H
 replace H : ((flyballref02_Same.f k l0 t101).bind fun t104 => (some t104)) = some r := H
 have A3 := Aside0.mk A30
 clear A30
 replace H := Option.bind_eq_some_iff.mp H
 obtain ⟨t104, A40, H⟩ := H
 replace H : (some t104) = some r := H
 have A4 := Aside0.mk A40
 clear A40
 obtain rfl := Option.some.inj H
 go_enter Try.func27, Try.ntmps27
 go_wp2_with (first | ((with_reducible refine gate_callee (f := 107) rfl ?_); refine goesL_ (some 7) rfl rfl Try.func107 (by kernel_rfl) rfl #[.slice A1 l1.length c1] rfl (by (try simp only [List.map_toArray, List.map_cons, List.map_nil]); first | done | rfl | (simp only [List.length_drop, List.length_take]; rfl)) ?_; (with_reducible refine (flyballref02_Words.calls k _ _ l1 t101 _ ?side1 ?side2 A3.out).mono ?_); (case side1 => repeat (first | exact HR1.out | (with_reducible refine Kd.C_alloc ?_ _) | (with_reducible refine Kd.C_drewN ?_ _) | (with_reducible refine Kd.C_drew ?_))); (case side2 => exact HC1.out); rintro e w5 ⟨v102, rfl, ho0, hb⟩; refine ⟨_, rfl, ?_⟩; have n0_ := Aside0.mk (Kd.R_lower ho0 (below_size (by repeat (first | (with_reducible first | exact HB.out | apply below_alloc | apply pw_below_drewN | apply below_drew1) | exact HB.out)))); have n1_ := Aside0.mk (below_step (by repeat (first | (with_reducible first | exact HB.out | apply below_alloc | apply pw_below_drewN | apply below_drew1) | exact HB.out)) hb); clear HB; have HO103 := n0_; have HB := n1_; clear n0_ n1_; (try clear hb); (try clear hb2); (try clear hk); (try clear hi); (try clear ho0); obtain ⟨Ao6, co6, eo6⟩ := Kd.R_slice HO103.out; subst eo6) | ((with_reducible refine gate_callee (f := 106) rfl ?_); refine goesL_ (some 8) rfl rfl Try.func106 (by kernel_rfl) rfl #[.slice A0 l0.length c0, .slice Ao6 t101.length co6] rfl (by (try simp only [List.map_toArray, List.map_cons, List.map_nil]); first | done | rfl | (simp only [List.length_drop, List.length_take]; rfl)) ?_; (with_reducible refine (flyballref02_Same.calls k _ _ l0 _ _ t101 t104 _ ?side1 ?side2 ?side3 ?side4 A4.out).mono ?_); (case side1 => repeat (first | exact (Kd.C_below HR0.out HB.out) | (with_reducible refine Kd.C_alloc ?_ _) | (with_reducible refine Kd.C_drewN ?_ _) | (with_reducible refine Kd.C_drew ?_))); (case side2 => exact HC0.out); (case side3 => repeat (first | exact (Kd.R_reads' HO103.out).2.2 | (with_reducible refine Kd.C_alloc ?_ _) | (with_reducible refine Kd.C_drewN ?_ _) | (with_reducible refine Kd.C_drew ?_))); (case side4 => exact (Kd.R_reads' HO103.out).2.1); rintro e w' ⟨rfl, ⟨nd, rfl⟩⟩; refine ⟨_, rfl, ?_⟩))
 go_ret
 exact ⟨by first | rfl | (simp [errW_none, errW_some] <;> rfl) | (simp [*, errW_none, errW_some] <;> rfl), by repeat (first | (with_reducible first | exact HB.out | apply below_alloc | apply pw_below_drewN | apply below_drew1) | exact HB.out)⟩
end Go.Proofs.Ytagbnkbhobmgjaa.Fn
end
section
-- Written by a program of this session (a turned copy of the kit's printer, and hand-written parts). Not trusted: Lean checks it.
namespace Go.Proofs.Ytagbnkbhobmgjaa.Fn
open Go.RowKit Go.Proofs.YtagbnkbhobmgjaaW.PrintWords Go.Proofs.YtagbnkbhobmgjaaW.PrintLast Go.Proofs.YtagbnkbhobmgjaaW.PrintMore
attribute [local go_sem] max2_int min2_int max_two min_two max_three min_three max_four min_four   -- for this text's walks alone
set_option linter.unusedVariables false
set_option linter.unusedSimpArgs false
/-! ### flyballref01_Cmp: function 26 -/
def flyballref01_Cmp.l0 : Nat → List Bool → List Bool → Int → Option (Int)
 | 0, _, _, _ => none
 | k + 1, x0, x1, x5 => if x5 ≥ 0 then ((flyballref01_bit.f x0 x5).bind fun t101 => ((flyballref01_bit.f x1 x5).bind fun t102 => (if (t101 != t102) = true then (if t101 = true then (some 1) else (some (-1))) else (flyballref01_Cmp.l0 k x0 x1 (wrap64 (x5 - 1)))))) else (some 0)
def flyballref01_Cmp.f (k : Nat) (l0 : List Bool) (l1 : List Bool) : Option (Int) := flyballref01_Cmp.l0 k l0 l1 (wrap64 ((mx (l0.length : Int) (l1.length : Int)) - 1))
theorem flyballref01_Cmp.mono_l : ∀ k, (∀ y0 y1 y2, LeO (flyballref01_Cmp.l0 k y0 y1 y2) (flyballref01_Cmp.l0 (k + 1) y0 y1 y2))
 | 0 => fun _ _ _ r h => by simp [flyballref01_Cmp.l0] at h
 | k + 1 => by
  have ih0 := flyballref01_Cmp.mono_l k
  ·intro y0 y1 y2
   unfold flyballref01_Cmp.l0
   repeat' first
   | (with_reducible exact ih0 _ _ _)
   | (with_reducible exact LeO.refl _)
   | (with_reducible exact LeO.none _)
   | (with_reducible refine LeO.ite ?_ ?_)
   | (with_reducible refine LeO.bind ?_ (fun _ => ?_))
   | exact ih0 _ _ _
   | exact LeO.none _
   | refine LeO.ite ?_ ?_
   | refine LeO.bind ?_ (fun _ => ?_)
theorem flyballref01_Cmp.mono : ∀ a0 a1 k, LeO (flyballref01_Cmp.f k a0 a1) (flyballref01_Cmp.f (k + 1) a0 a1) := by
 intro a0 a1 k
 have ih0 := flyballref01_Cmp.mono_l k
 unfold flyballref01_Cmp.f
 repeat' first
   | (with_reducible exact ih0 _ _ _)
   | (with_reducible exact LeO.refl _)
   | (with_reducible exact LeO.none _)
   | (with_reducible refine LeO.ite ?_ ?_)
   | (with_reducible refine LeO.bind ?_ (fun _ => ?_))
   | exact ih0 _ _ _
   | exact LeO.none _
   | refine LeO.ite ?_ ?_
   | refine LeO.bind ?_ (fun _ => ?_)
set_option maxHeartbeats 8000000 in
set_option maxRecDepth 100000 in
theorem flyballref01_Cmp.calls (k : Nat) (A0 : Option Addr) (c0 : Nat) (l0 : List Bool) (A1 : Option Addr) (c1 : Nat) (l1 : List Bool) (r : Int) (w : World) (hr0 : Kd.C Kd.bool w A0 l0.length l0) (hc0 : l0.length ≤ c0) (hr1 : Kd.C Kd.bool w A1 l1.length l1) (hc1 : l1.length ≤ c1) (h : flyballref01_Cmp.f k l0 l1 = some r) :
  Calls Try.prog 26 #[.slice A0 l0.length c0, .slice A1 l1.length c1] w fun e w' => e = .returned (.int .i64 r) ∧ Below w.heap.size w w' := by
 have HR0 := Aside0.mk hr0
 have HC0 := Aside0.mk hc0
 clear hr0 hc0
 have HR1 := Aside0.mk hr1
 have HC1 := Aside0.mk hc1
 clear hr1 hc1
 have HB := Aside0.mk (Below.refl w.heap.size w)
 have H : (flyballref01_Cmp.l0 k l0 l1 (wrap64 ((mx (l0.length : Int) (l1.length : Int)) - 1))) = some r := h
 clear h
 obtain ⟨ji3, hji3⟩ : ∃ j_ : Int, (mx (l0.length : Int) (l1.length : Int)) = j_ := ⟨_, rfl⟩
 replace H : (flyballref01_Cmp.l0 k l0 l1 (wrap64 ((ji3) - 1))) = some r := by first | (rw [hji3] at H; exact H) | (simp only [hji3] at H ⊢; exact H)
 (try (have hji3l : 0 ≤ ji3 := by (rw [← hji3]; unfold mx; (repeat' split) <;> omega)))
 (try (have hji3m : 0 ≤ ji3 := by omega))
 have hji3_ : (if (l0.length : Int) < (l1.length : Int) then (l1.length : Int) else (l0.length : Int)) = ji3 := hji3
 have hji3n : (if l0.length < l1.length then (l1.length : Int) else (l0.length : Int)) = ji3 := by
  rw [← hji3_]; by_cases hq_ : l0.length < l1.length
  ·rw [if_pos hq_, if_pos (by omega)]
  ·rw [if_neg hq_, if_neg (by omega)]
 have H' := Aside0.mk H
 clear H
 go_enter Try.func26, Try.ntmps26
 go_wp2
 go_loopg [5] k (fun kq v5 w' => ∃ (x5_1 : Int), v5 = .int .i64 x5_1 ∧ Aside0 (flyballref01_Cmp.l0 kq l0 l1 x5_1 = some r) ∧ Aside0 (kq ≤ k) ∧ Aside0 (Below w.heap.size w w'))
 case atStart => exact ⟨(wrap64 ((ji3) - 1)), (by first | rfl | (simp; done) | (simp only [← hji3] <;> (first | rfl | simp)) | (simp [*]; done)), H', ⟨Nat.le_refl _⟩, ⟨by repeat (first | (with_reducible first | exact HB.out | apply below_alloc | apply pw_below_drewN | apply below_drew1) | exact HB.out)⟩⟩
 case round =>
  clear H'
  try clear c1
  try clear c2
  try clear p2
  obtain ⟨x5_1, rfl, HA, HK1, HB⟩ := hrel
  cases gk with
  | zero => exact absurd HA.out (by simp [flyballref01_Cmp.l0])
  | succ k1 =>
   have H := HA.out
   clear HA
   simp only [flyballref01_Cmp.l0] at H
   by_cases c4 : x5_1 ≥ 0
   ·rw [if_pos c4] at H
    have c4b0 : decide (0 ≤ x5_1) = true := decide_eq_true c4
    clear c4
    replace H := Option.bind_eq_some_iff.mp H
    obtain ⟨t101, A50, H⟩ := H
    replace H : ((flyballref01_bit.f l1 x5_1).bind fun t102 => (if (t101 != t102) = true then (if t101 = true then (some 1) else (some (-1))) else (flyballref01_Cmp.l0 k1 l0 l1 (wrap64 (x5_1 - 1))))) = some r := H
    have A5 := Aside0.mk A50
    clear A50
    replace H := Option.bind_eq_some_iff.mp H
    obtain ⟨t102, A60, H⟩ := H
    replace H : (if (t101 != t102) = true then (if t101 = true then (some 1) else (some (-1))) else (flyballref01_Cmp.l0 k1 l0 l1 (wrap64 (x5_1 - 1)))) = some r := H
    have A6 := Aside0.mk A60
    clear A60
    by_cases c7 : (t101 != t102) = true
    ·rw [if_pos c7] at H
     have c7b0 : (t101 != t102) = true := c7
     (try (have c7b1 : decide (t101 = t102) = false := by simpa using c7))
     (try (have c7b2 : (t101 == t102) = false := by simpa using c7))
     (try (have c7b3 : ¬ (t101 = t102) := by simpa using c7))
     clear c7
     by_cases c8 : t101 = true
     ·subst c8
      have H1 : (some 1) = some r := by rw [if_pos rfl] at H; exact H
      clear H
      have H := H1
      clear H1
      obtain rfl := Option.some.inj H
      go_wp2_with (first | ((with_reducible refine gate_callee (f := 105) rfl ?_); refine goesL_ (some 20) rfl rfl Try.func105 (by kernel_rfl) rfl #[.slice A0 l0.length c0, .int .i64 x5_1] rfl (by (try simp only [List.map_toArray, List.map_cons, List.map_nil]); first | done | rfl | (simp only [List.length_drop, List.length_take]; rfl)) ?_; (with_reducible refine (flyballref01_bit.calls _ _ l0 x5_1 true _ ?side1 ?side2 A5.out).mono ?_); (case side1 => repeat (first | exact (Kd.C_below HR0.out HB.out) | (with_reducible refine Kd.C_alloc ?_ _) | (with_reducible refine Kd.C_drewN ?_ _) | (with_reducible refine Kd.C_drew ?_))); (case side2 => exact HC0.out); rintro e w' ⟨rfl, ⟨nd, rfl⟩⟩; refine ⟨_, rfl, ?_⟩) | ((with_reducible refine gate_callee (f := 105) rfl ?_); refine goesL_ (some 23) rfl rfl Try.func105 (by kernel_rfl) rfl #[.slice A1 l1.length c1, .int .i64 x5_1] rfl (by (try simp only [List.map_toArray, List.map_cons, List.map_nil]); first | done | rfl | (simp only [List.length_drop, List.length_take]; rfl)) ?_; (with_reducible refine (flyballref01_bit.calls _ _ l1 x5_1 t102 _ ?side1 ?side2 A6.out).mono ?_); (case side1 => repeat (first | exact (Kd.C_below HR1.out (by repeat (first | (with_reducible first | exact HB.out | apply below_alloc | apply pw_below_drewN | apply below_drew1) | exact HB.out))) | (with_reducible refine Kd.C_alloc ?_ _) | (with_reducible refine Kd.C_drewN ?_ _) | (with_reducible refine Kd.C_drew ?_))); (case side2 => exact HC1.out); rintro e w' ⟨rfl, ⟨nd, rfl⟩⟩; refine ⟨_, rfl, ?_⟩))
      go_ret
      exact ⟨by first | rfl | (simp [errW_none, errW_some] <;> rfl) | (simp only [← hji3]; first | rfl | (simp [errW_none, errW_some] <;> rfl)) | (simp [*, errW_none, errW_some] <;> rfl), by repeat (first | (with_reducible first | exact HB.out | apply below_alloc | apply pw_below_drewN | apply below_drew1) | exact HB.out)⟩
     ·replace c8 := Bool.eq_false_iff.mpr c8
      subst c8
      have H1 : (some (-1)) = some r := by rw [if_neg (show ¬ (false = true) by decide)] at H; exact H
      clear H
      have H := H1
      clear H1
      obtain rfl := Option.some.inj H
      go_wp2_with (first | ((with_reducible refine gate_callee (f := 105) rfl ?_); refine goesL_ (some 20) rfl rfl Try.func105 (by kernel_rfl) rfl #[.slice A0 l0.length c0, .int .i64 x5_1] rfl (by (try simp only [List.map_toArray, List.map_cons, List.map_nil]); first | done | rfl | (simp only [List.length_drop, List.length_take]; rfl)) ?_; (with_reducible refine (flyballref01_bit.calls _ _ l0 x5_1 false _ ?side1 ?side2 A5.out).mono ?_); (case side1 => repeat (first | exact (Kd.C_below HR0.out HB.out) | (with_reducible refine Kd.C_alloc ?_ _) | (with_reducible refine Kd.C_drewN ?_ _) | (with_reducible refine Kd.C_drew ?_))); (case side2 => exact HC0.out); rintro e w' ⟨rfl, ⟨nd, rfl⟩⟩; refine ⟨_, rfl, ?_⟩) | ((with_reducible refine gate_callee (f := 105) rfl ?_); refine goesL_ (some 23) rfl rfl Try.func105 (by kernel_rfl) rfl #[.slice A1 l1.length c1, .int .i64 x5_1] rfl (by (try simp only [List.map_toArray, List.map_cons, List.map_nil]); first | done | rfl | (simp only [List.length_drop, List.length_take]; rfl)) ?_; (with_reducible refine (flyballref01_bit.calls _ _ l1 x5_1 t102 _ ?side1 ?side2 A6.out).mono ?_); (case side1 => repeat (first | exact (Kd.C_below HR1.out (by repeat (first | (with_reducible first | exact HB.out | apply below_alloc | apply pw_below_drewN | apply below_drew1) | exact HB.out))) | (with_reducible refine Kd.C_alloc ?_ _) | (with_reducible refine Kd.C_drewN ?_ _) | (with_reducible refine Kd.C_drew ?_))); (case side2 => exact HC1.out); rintro e w' ⟨rfl, ⟨nd, rfl⟩⟩; refine ⟨_, rfl, ?_⟩))
      go_ret
      exact ⟨by first | rfl | (simp [errW_none, errW_some] <;> rfl) | (simp only [← hji3]; first | rfl | (simp [errW_none, errW_some] <;> rfl)) | (simp [*, errW_none, errW_some] <;> rfl), by repeat (first | (with_reducible first | exact HB.out | apply below_alloc | apply pw_below_drewN | apply below_drew1) | exact HB.out)⟩
    ·rw [if_neg c7] at H
     have c7b0 : (t101 != t102) = false := by simpa using c7
     (try (have c7b1 : decide (t101 = t102) = true := by simpa using c7))
     (try (have c7b2 : (t101 == t102) = true := by simpa using c7))
     clear c7
     have H' := Aside0.mk H
     clear H
     go_wp2_with (first | ((with_reducible refine gate_callee (f := 105) rfl ?_); refine goesL_ (some 20) rfl rfl Try.func105 (by kernel_rfl) rfl #[.slice A0 l0.length c0, .int .i64 x5_1] rfl (by (try simp only [List.map_toArray, List.map_cons, List.map_nil]); first | done | rfl | (simp only [List.length_drop, List.length_take]; rfl)) ?_; (with_reducible refine (flyballref01_bit.calls _ _ l0 x5_1 t101 _ ?side1 ?side2 A5.out).mono ?_); (case side1 => repeat (first | exact (Kd.C_below HR0.out HB.out) | (with_reducible refine Kd.C_alloc ?_ _) | (with_reducible refine Kd.C_drewN ?_ _) | (with_reducible refine Kd.C_drew ?_))); (case side2 => exact HC0.out); rintro e w' ⟨rfl, ⟨nd, rfl⟩⟩; refine ⟨_, rfl, ?_⟩) | ((with_reducible refine gate_callee (f := 105) rfl ?_); refine goesL_ (some 23) rfl rfl Try.func105 (by kernel_rfl) rfl #[.slice A1 l1.length c1, .int .i64 x5_1] rfl (by (try simp only [List.map_toArray, List.map_cons, List.map_nil]); first | done | rfl | (simp only [List.length_drop, List.length_take]; rfl)) ?_; (with_reducible refine (flyballref01_bit.calls _ _ l1 x5_1 t102 _ ?side1 ?side2 A6.out).mono ?_); (case side1 => repeat (first | exact (Kd.C_below HR1.out (by repeat (first | (with_reducible first | exact HB.out | apply below_alloc | apply pw_below_drewN | apply below_drew1) | exact HB.out))) | (with_reducible refine Kd.C_alloc ?_ _) | (with_reducible refine Kd.C_drewN ?_ _) | (with_reducible refine Kd.C_drew ?_))); (case side2 => exact HC1.out); rintro e w' ⟨rfl, ⟨nd, rfl⟩⟩; refine ⟨_, rfl, ?_⟩))
     go_roundg k1
     case measure => have := HK1.out; omega
     case rel => exact ⟨(wrap64 (x5_1 - 1)), (by first | rfl | (simp; done) | (simp [*]; done)), H', ⟨by have := HK1.out; omega⟩, ⟨by repeat (first | (with_reducible first | exact HB.out | apply below_alloc | apply pw_below_drewN | apply below_drew1) | exact HB.out)⟩⟩
   ·rw [if_neg c4] at H
    have c4b0 : decide (0 ≤ x5_1) = false := decide_eq_false c4
    clear c4
    obtain rfl := Option.some.inj H
    go_wp2
    go_ret
    exact ⟨by first | rfl | (simp [errW_none, errW_some] <;> rfl) | (simp only [← hji3]; first | rfl | (simp [errW_none, errW_some] <;> rfl)) | (simp [*, errW_none, errW_some] <;> rfl), by repeat (first | (with_reducible first | exact HB.out | apply below_alloc | apply pw_below_drewN | apply below_drew1) | exact HB.out)⟩
end Go.Proofs.Ytagbnkbhobmgjaa.Fn
end
section
-- Written by a program of this session (a turned copy of the kit's printer, and hand-written parts). Not trusted: Lean checks it.
namespace Go.Proofs.Ytagbnkbhobmgjaa.Fn
open Go.RowKit Go.Proofs.YtagbnkbhobmgjaaW.PrintWords Go.Proofs.YtagbnkbhobmgjaaW.PrintLast Go.Proofs.YtagbnkbhobmgjaaW.PrintMore
attribute [local go_sem] max2_int min2_int max_two min_two max_three min_three max_four min_four   -- for this text's walks alone
set_option linter.unusedVariables false
set_option linter.unusedSimpArgs false
/-! ### flyballref01_Sub: function 34 -/
def flyballref01_Sub.l0 : Nat → List Bool → List Bool → Int → List Bool → Bool → Int → Option (List Bool × Bool)
 | 0, _, _, _, _, _, _ => none
 | k + 1, x0, x1, x2, x8, x9, x10 => if x10 < x2 then ((flyballref01_bit.f x0 x10).bind fun t101 => ((flyballref01_bit.f x1 x10).bind fun t102 => (if x8.length < 140737488355328 then ((some (x8 ++ [((t101 != t102) != x9)] : List Bool)).bind fun y103 => (if t101 = true then (if t102 = true then (flyballref01_Sub.l0 k x0 x1 x2 y103 x9 (wrap64 (x10 + 1))) else (flyballref01_Sub.l0 k x0 x1 x2 y103 false (wrap64 (x10 + 1)))) else (if t102 = true then (flyballref01_Sub.l0 k x0 x1 x2 y103 true (wrap64 (x10 + 1))) else (if x9 = true then (flyballref01_Sub.l0 k x0 x1 x2 y103 true (wrap64 (x10 + 1))) else (flyballref01_Sub.l0 k x0 x1 x2 y103 false (wrap64 (x10 + 1))))))) else (none)))) else (some (x8, x9))
def flyballref01_Sub.f (k : Nat) (l0 : List Bool) (l1 : List Bool) (a2 : Int) : Option (List Bool × Bool) := flyballref01_Sub.l0 k l0 l1 a2 ([] : List Bool) false 0
theorem flyballref01_Sub.mono_l : ∀ k, (∀ y0 y1 y2 y3 y4 y5, LeO (flyballref01_Sub.l0 k y0 y1 y2 y3 y4 y5) (flyballref01_Sub.l0 (k + 1) y0 y1 y2 y3 y4 y5))
 | 0 => fun _ _ _ _ _ _ r h => by simp [flyballref01_Sub.l0] at h
 | k + 1 => by
  have ih0 := flyballref01_Sub.mono_l k
  ·intro y0 y1 y2 y3 y4 y5
   unfold flyballref01_Sub.l0
   repeat' first
   | (with_reducible exact ih0 _ _ _ _ _ _)
   | (with_reducible exact LeO.refl _)
   | (with_reducible exact LeO.none _)
   | (with_reducible refine LeO.ite ?_ ?_)
   | (with_reducible refine LeO.bind ?_ (fun _ => ?_))
   | exact ih0 _ _ _ _ _ _
   | exact LeO.none _
   | refine LeO.ite ?_ ?_
   | refine LeO.bind ?_ (fun _ => ?_)
theorem flyballref01_Sub.mono : ∀ a0 a1 a2 k, LeO (flyballref01_Sub.f k a0 a1 a2) (flyballref01_Sub.f (k + 1) a0 a1 a2) := by
 intro a0 a1 a2 k
 have ih0 := flyballref01_Sub.mono_l k
 unfold flyballref01_Sub.f
 repeat' first
   | (with_reducible exact ih0 _ _ _ _ _ _)
   | (with_reducible exact LeO.refl _)
   | (with_reducible exact LeO.none _)
   | (with_reducible refine LeO.ite ?_ ?_)
   | (with_reducible refine LeO.bind ?_ (fun _ => ?_))
   | exact ih0 _ _ _ _ _ _
   | exact LeO.none _
   | refine LeO.ite ?_ ?_
   | refine LeO.bind ?_ (fun _ => ?_)
set_option maxHeartbeats 8000000 in
set_option maxRecDepth 100000 in
theorem flyballref01_Sub.calls (k : Nat) (A0 : Option Addr) (c0 : Nat) (l0 : List Bool) (A1 : Option Addr) (c1 : Nat) (l1 : List Bool) (a2 : Int) (r1 : List Bool) (r2 : Bool) (w : World) (hr0 : Kd.C Kd.bool w A0 l0.length l0) (hc0 : l0.length ≤ c0) (hr1 : Kd.C Kd.bool w A1 l1.length l1) (hc1 : l1.length ≤ c1) (h : flyballref01_Sub.f k l0 l1 a2 = some (r1, r2)) :
  Calls Try.prog 34 #[.slice A0 l0.length c0, .slice A1 l1.length c1, .int .i64 a2] w fun e w' => ∃ v0_ : Value, e = .returned (.tuple #[v0_, .bool r2]) ∧ Kd.R Kd.bool 4 w' w.heap.size (fun _ => True) v0_ r1 ∧ Below w.heap.size w w' := by
 have HR0 := Aside0.mk hr0
 have HC0 := Aside0.mk hc0
 clear hr0 hc0
 have HR1 := Aside0.mk hr1
 have HC1 := Aside0.mk hc1
 clear hr1 hc1
 have HB := Aside0.mk (Below.refl w.heap.size w)
 have H : (flyballref01_Sub.l0 k l0 l1 a2 ([] : List Bool) false 0) = some (r1, r2) := h
 clear h
 have H' := Aside0.mk H
 clear H
 go_enter Try.func34, Try.ntmps34
 go_wp2
 go_loopg [8, 9, 10] k (fun kq v8 v9 v10 w' => ∃ (x8_1 : List Bool) (x9_1 : Bool) (x10_1 : Int), v9 = .bool x9_1 ∧ v10 = .int .i64 x10_1 ∧ Aside0 (flyballref01_Sub.l0 kq l0 l1 a2 x8_1 x9_1 x10_1 = some (r1, r2)) ∧ Aside0 (kq ≤ k) ∧ Aside0 (Kd.R Kd.bool 4 w' w.heap.size (fun _ => True) v8 x8_1) ∧ Aside0 (Below w.heap.size w w'))
 case atStart => exact ⟨(([] : List Bool)), (false), (0), (by first | rfl | (simp; done) | (simp [*]; done)), (by first | rfl | (simp; done) | (simp [*]; done)), H', ⟨Nat.le_refl _⟩, ⟨by first | exact Kd.R_nil _ _ _ _ _ | exact Kd.N_nil _ _ _ _ _ | exact Kd.V_nil _ _ _ _ _ | exact Kd.Q_nil _ _ _ _ _ | exact Kd.S_nil _ _ _ _ _⟩, ⟨by repeat (first | (with_reducible first | exact HB.out | apply below_alloc | apply pw_below_drewN | apply below_drew1) | exact HB.out)⟩⟩
 case round =>
  clear H'
  try clear c1
  try clear p2
  try clear c3
  obtain ⟨x8_1, x9_1, x10_1, rfl, rfl, HA, HK1, HO_8, HB⟩ := hrel
  cases gk with
  | zero => exact absurd HA.out (by simp [flyballref01_Sub.l0])
  | succ k1 =>
   have H := HA.out
   clear HA
   simp only [flyballref01_Sub.l0] at H
   by_cases c4 : x10_1 < a2
   ·rw [if_pos c4] at H
    have c4b0 : decide (x10_1 < a2) = true := decide_eq_true c4
    clear c4
    replace H := Option.bind_eq_some_iff.mp H
    obtain ⟨t101, A50, H⟩ := H
    replace H : ((flyballref01_bit.f l1 x10_1).bind fun t102 => (if x8_1.length < 140737488355328 then ((some (x8_1 ++ [((t101 != t102) != x9_1)] : List Bool)).bind fun y103 => (if t101 = true then (if t102 = true then (flyballref01_Sub.l0 k1 l0 l1 a2 y103 x9_1 (wrap64 (x10_1 + 1))) else (flyballref01_Sub.l0 k1 l0 l1 a2 y103 false (wrap64 (x10_1 + 1)))) else (if t102 = true then (flyballref01_Sub.l0 k1 l0 l1 a2 y103 true (wrap64 (x10_1 + 1))) else (if x9_1 = true then (flyballref01_Sub.l0 k1 l0 l1 a2 y103 true (wrap64 (x10_1 + 1))) else (flyballref01_Sub.l0 k1 l0 l1 a2 y103 false (wrap64 (x10_1 + 1))))))) else (none))) = some (r1, r2) := H
    have A5 := Aside0.mk A50
    clear A50
    replace H := Option.bind_eq_some_iff.mp H
    obtain ⟨t102, A60, H⟩ := H
    replace H : (if x8_1.length < 140737488355328 then ((some (x8_1 ++ [((t101 != t102) != x9_1)] : List Bool)).bind fun y103 => (if t101 = true then (if t102 = true then (flyballref01_Sub.l0 k1 l0 l1 a2 y103 x9_1 (wrap64 (x10_1 + 1))) else (flyballref01_Sub.l0 k1 l0 l1 a2 y103 false (wrap64 (x10_1 + 1)))) else (if t102 = true then (flyballref01_Sub.l0 k1 l0 l1 a2 y103 true (wrap64 (x10_1 + 1))) else (if x9_1 = true then (flyballref01_Sub.l0 k1 l0 l1 a2 y103 true (wrap64 (x10_1 + 1))) else (flyballref01_Sub.l0 k1 l0 l1 a2 y103 false (wrap64 (x10_1 + 1))))))) else (none)) = some (r1, r2) := H
    have A6 := Aside0.mk A60
    clear A60
    by_cases c7 : x8_1.length < 140737488355328
    ·rw [if_pos c7] at H
     have LMc7 := Aside0.mk c7
     clear c7
     obtain ⟨y103, hy103⟩ : ∃ y_ : List Bool, y_ = (x8_1 ++ [((t101 != t102) != x9_1)]) := ⟨_, rfl⟩
     replace H : (if t101 = true then (if t102 = true then (flyballref01_Sub.l0 k1 l0 l1 a2 y103 x9_1 (wrap64 (x10_1 + 1))) else (flyballref01_Sub.l0 k1 l0 l1 a2 y103 false (wrap64 (x10_1 + 1)))) else (if t102 = true then (flyballref01_Sub.l0 k1 l0 l1 a2 y103 true (wrap64 (x10_1 + 1))) else (if x9_1 = true then (flyballref01_Sub.l0 k1 l0 l1 a2 y103 true (wrap64 (x10_1 + 1))) else (flyballref01_Sub.l0 k1 l0 l1 a2 y103 false (wrap64 (x10_1 + 1)))))) = some (r1, r2) := by first | (rw [hy103]; with_reducible exact H) | (have H2_ := (Option.bind_some _ _).symm.trans H; rw [hy103]; with_reducible exact H2_) | (have H2_ := (Option.bind_some _ _).symm.trans H; with_reducible exact H2_) | with_reducible exact H | (rw [hy103]; exact H) | exact H
     have Ny103 := Aside0.mk hy103
     clear hy103
     by_cases c8 : t101 = true
     ·subst c8
      have H1 : (if t102 = true then (flyballref01_Sub.l0 k1 l0 l1 a2 y103 x9_1 (wrap64 (x10_1 + 1))) else (flyballref01_Sub.l0 k1 l0 l1 a2 y103 false (wrap64 (x10_1 + 1)))) = some (r1, r2) := by rw [if_pos rfl] at H; exact H
      clear H
      have H := H1
      clear H1
      by_cases c9 : t102 = true
      ·subst c9
       have H1 : (flyballref01_Sub.l0 k1 l0 l1 a2 y103 x9_1 (wrap64 (x10_1 + 1))) = some (r1, r2) := by rw [if_pos rfl] at H; exact H
       clear H
       have H := H1
       clear H1
       have H' := Aside0.mk H
       clear H
       go_wp2_with (first | ((with_reducible refine gate_callee (f := 105) rfl ?_); refine goesL_ (some 20) rfl rfl Try.func105 (by kernel_rfl) rfl #[.slice A0 l0.length c0, .int .i64 x10_1] rfl (by (try simp only [List.map_toArray, List.map_cons, List.map_nil]); first | done | rfl | (simp only [List.length_drop, List.length_take]; rfl)) ?_; (with_reducible refine (flyballref01_bit.calls _ _ l0 x10_1 true _ ?side1 ?side2 A5.out).mono ?_); (case side1 => repeat (first | exact (Kd.C_below HR0.out HB.out) | (with_reducible refine Kd.C_alloc ?_ _) | (with_reducible refine Kd.C_drewN ?_ _) | (with_reducible refine Kd.C_drew ?_))); (case side2 => exact HC0.out); rintro e w' ⟨rfl, ⟨nd, rfl⟩⟩; refine ⟨_, rfl, ?_⟩) | ((with_reducible refine gate_callee (f := 105) rfl ?_); refine goesL_ (some 23) rfl rfl Try.func105 (by kernel_rfl) rfl #[.slice A1 l1.length c1, .int .i64 x10_1] rfl (by (try simp only [List.map_toArray, List.map_cons, List.map_nil]); first | done | rfl | (simp only [List.length_drop, List.length_take]; rfl)) ?_; (with_reducible refine (flyballref01_bit.calls _ _ l1 x10_1 true _ ?side1 ?side2 A6.out).mono ?_); (case side1 => repeat (first | exact (Kd.C_below HR1.out (by repeat (first | (with_reducible first | exact HB.out | apply below_alloc | apply pw_below_drewN | apply below_drew1) | exact HB.out))) | (with_reducible refine Kd.C_alloc ?_ _) | (with_reducible refine Kd.C_drewN ?_ _) | (with_reducible refine Kd.C_drew ?_))); (case side2 => exact HC1.out); rintro e w' ⟨rfl, ⟨nd, rfl⟩⟩; refine ⟨_, rfl, ?_⟩) | ((with_reducible refine gate_builtin (b := .append) (xs := #[.tmp 24, .tmp 30]) rfl ?_); at_builtin; refine Kd.R_append Kd.bool (w0 := w) w.heap.size rfl (.tmp 24) (.tmp 30) 26 4 (.bool false) 1 rfl Try.underlying26 info4 rfl (by decide) (by omega) u8 x8_1 x9_1 [.bool x9_1] (fun _ => True) (fun _ => False) rfl rfl ?aP (fun _ hk => hk.elim) ?aF ?aO ?aB ?aS ?aL ?_; (case aP => exact rfl); (case aB => exact (by repeat (first | (with_reducible first | exact HB.out | apply below_alloc | apply pw_below_drewN | apply below_drew1) | exact HB.out))); (case aF => exact (fun _ _ => trivial)); (case aO => exact (by (with_reducible repeat (first | apply Kd.R_alloc | apply Kd.R_drewN | apply Kd.R_drew)); exact HO_8.out)); (case aS => exact (below_size (by repeat (first | (with_reducible first | exact HB.out | apply below_alloc | apply pw_below_drewN | apply below_drew1) | exact HB.out)))); (case aL => have := LMc7.out; omega); intro v104 w10 ho hb hg hat; rw [show x9_1 = ((true != true) != x9_1) from by cases x9_1 <;> rfl] at ho; rw [← Ny103.out] at ho; have n0_ := Aside0.mk (hb); have n1_ := Aside0.mk (ho); clear HB; clear HO_8; have HB := n0_; have HO105 := n1_; clear n0_ n1_; clear ho hb hg hat))
       go_roundg k1
       case measure => have := HK1.out; omega
       case rel => exact ⟨(y103), (x9_1), (wrap64 (x10_1 + 1)), (by first | rfl | (simp; done) | (simp [*]; done)), (by first | rfl | (simp; done) | (simp [*]; done)), H', ⟨by have := HK1.out; omega⟩, ⟨by (with_reducible repeat (first | apply Kd.R_alloc | apply Kd.R_drewN | apply Kd.R_drew)); exact HO105.out⟩, ⟨by repeat (first | (with_reducible first | exact HB.out | apply below_alloc | apply pw_below_drewN | apply below_drew1) | exact HB.out)⟩⟩
      ·replace c9 := Bool.eq_false_iff.mpr c9
       subst c9
       have H1 : (flyballref01_Sub.l0 k1 l0 l1 a2 y103 false (wrap64 (x10_1 + 1))) = some (r1, r2) := by rw [if_neg (show ¬ (false = true) by decide)] at H; exact H
       clear H
       have H := H1
       clear H1
       have H' := Aside0.mk H
       clear H
       go_wp2_with (first | ((with_reducible refine gate_callee (f := 105) rfl ?_); refine goesL_ (some 20) rfl rfl Try.func105 (by kernel_rfl) rfl #[.slice A0 l0.length c0, .int .i64 x10_1] rfl (by (try simp only [List.map_toArray, List.map_cons, List.map_nil]); first | done | rfl | (simp only [List.length_drop, List.length_take]; rfl)) ?_; (with_reducible refine (flyballref01_bit.calls _ _ l0 x10_1 true _ ?side1 ?side2 A5.out).mono ?_); (case side1 => repeat (first | exact (Kd.C_below HR0.out HB.out) | (with_reducible refine Kd.C_alloc ?_ _) | (with_reducible refine Kd.C_drewN ?_ _) | (with_reducible refine Kd.C_drew ?_))); (case side2 => exact HC0.out); rintro e w' ⟨rfl, ⟨nd, rfl⟩⟩; refine ⟨_, rfl, ?_⟩) | ((with_reducible refine gate_callee (f := 105) rfl ?_); refine goesL_ (some 23) rfl rfl Try.func105 (by kernel_rfl) rfl #[.slice A1 l1.length c1, .int .i64 x10_1] rfl (by (try simp only [List.map_toArray, List.map_cons, List.map_nil]); first | done | rfl | (simp only [List.length_drop, List.length_take]; rfl)) ?_; (with_reducible refine (flyballref01_bit.calls _ _ l1 x10_1 false _ ?side1 ?side2 A6.out).mono ?_); (case side1 => repeat (first | exact (Kd.C_below HR1.out (by repeat (first | (with_reducible first | exact HB.out | apply below_alloc | apply pw_below_drewN | apply below_drew1) | exact HB.out))) | (with_reducible refine Kd.C_alloc ?_ _) | (with_reducible refine Kd.C_drewN ?_ _) | (with_reducible refine Kd.C_drew ?_))); (case side2 => exact HC1.out); rintro e w' ⟨rfl, ⟨nd, rfl⟩⟩; refine ⟨_, rfl, ?_⟩) | ((with_reducible refine gate_builtin (b := .append) (xs := #[.tmp 24, .tmp 30]) rfl ?_); at_builtin; refine Kd.R_append Kd.bool (w0 := w) w.heap.size rfl (.tmp 24) (.tmp 30) 26 4 (.bool false) 1 rfl Try.underlying26 info4 rfl (by decide) (by omega) u8 x8_1 (!x9_1) [.bool (!x9_1)] (fun _ => True) (fun _ => False) rfl rfl ?aP (fun _ hk => hk.elim) ?aF ?aO ?aB ?aS ?aL ?_; (case aP => exact rfl); (case aB => exact (by repeat (first | (with_reducible first | exact HB.out | apply below_alloc | apply pw_below_drewN | apply below_drew1) | exact HB.out))); (case aF => exact (fun _ _ => trivial)); (case aO => exact (by (with_reducible repeat (first | apply Kd.R_alloc | apply Kd.R_drewN | apply Kd.R_drew)); exact HO_8.out)); (case aS => exact (below_size (by repeat (first | (with_reducible first | exact HB.out | apply below_alloc | apply pw_below_drewN | apply below_drew1) | exact HB.out)))); (case aL => have := LMc7.out; omega); intro v104 w11 ho hb hg hat; rw [show (!x9_1) = ((true != false) != x9_1) from by cases x9_1 <;> rfl] at ho; rw [← Ny103.out] at ho; have n0_ := Aside0.mk (hb); have n1_ := Aside0.mk (ho); clear HB; clear HO_8; have HB := n0_; have HO105 := n1_; clear n0_ n1_; clear ho hb hg hat))
       go_roundg k1
       case measure => have := HK1.out; omega
       case rel => exact ⟨(y103), (false), (wrap64 (x10_1 + 1)), (by first | rfl | (simp; done) | (simp [*]; done)), (by first | rfl | (simp; done) | (simp [*]; done)), H', ⟨by have := HK1.out; omega⟩, ⟨by (with_reducible repeat (first | apply Kd.R_alloc | apply Kd.R_drewN | apply Kd.R_drew)); exact HO105.out⟩, ⟨by repeat (first | (with_reducible first | exact HB.out | apply below_alloc | apply pw_below_drewN | apply below_drew1) | exact HB.out)⟩⟩
     ·replace c8 := Bool.eq_false_iff.mpr c8
      subst c8
      have H1 : (if t102 = true then (flyballref01_Sub.l0 k1 l0 l1 a2 y103 true (wrap64 (x10_1 + 1))) else (if x9_1 = true then (flyballref01_Sub.l0 k1 l0 l1 a2 y103 true (wrap64 (x10_1 + 1))) else (flyballref01_Sub.l0 k1 l0 l1 a2 y103 false (wrap64 (x10_1 + 1))))) = some (r1, r2) := by rw [if_neg (show ¬ (false = true) by decide)] at H; exact H
      clear H
      have H := H1
      clear H1
      by_cases c12 : t102 = true
      ·subst c12
       have H1 : (flyballref01_Sub.l0 k1 l0 l1 a2 y103 true (wrap64 (x10_1 + 1))) = some (r1, r2) := by rw [if_pos rfl] at H; exact H
       clear H
       have H := H1
       clear H1
       have H' := Aside0.mk H
       clear H
       go_wp2_with (first | ((with_reducible refine gate_callee (f := 105) rfl ?_); refine goesL_ (some 20) rfl rfl Try.func105 (by kernel_rfl) rfl #[.slice A0 l0.length c0, .int .i64 x10_1] rfl (by (try simp only [List.map_toArray, List.map_cons, List.map_nil]); first | done | rfl | (simp only [List.length_drop, List.length_take]; rfl)) ?_; (with_reducible refine (flyballref01_bit.calls _ _ l0 x10_1 false _ ?side1 ?side2 A5.out).mono ?_); (case side1 => repeat (first | exact (Kd.C_below HR0.out HB.out) | (with_reducible refine Kd.C_alloc ?_ _) | (with_reducible refine Kd.C_drewN ?_ _) | (with_reducible refine Kd.C_drew ?_))); (case side2 => exact HC0.out); rintro e w' ⟨rfl, ⟨nd, rfl⟩⟩; refine ⟨_, rfl, ?_⟩) | ((with_reducible refine gate_callee (f := 105) rfl ?_); refine goesL_ (some 23) rfl rfl Try.func105 (by kernel_rfl) rfl #[.slice A1 l1.length c1, .int .i64 x10_1] rfl (by (try simp only [List.map_toArray, List.map_cons, List.map_nil]); first | done | rfl | (simp only [List.length_drop, List.length_take]; rfl)) ?_; (with_reducible refine (flyballref01_bit.calls _ _ l1 x10_1 true _ ?side1 ?side2 A6.out).mono ?_); (case side1 => repeat (first | exact (Kd.C_below HR1.out (by repeat (first | (with_reducible first | exact HB.out | apply below_alloc | apply pw_below_drewN | apply below_drew1) | exact HB.out))) | (with_reducible refine Kd.C_alloc ?_ _) | (with_reducible refine Kd.C_drewN ?_ _) | (with_reducible refine Kd.C_drew ?_))); (case side2 => exact HC1.out); rintro e w' ⟨rfl, ⟨nd, rfl⟩⟩; refine ⟨_, rfl, ?_⟩) | ((with_reducible refine gate_builtin (b := .append) (xs := #[.tmp 24, .tmp 30]) rfl ?_); at_builtin; refine Kd.R_append Kd.bool (w0 := w) w.heap.size rfl (.tmp 24) (.tmp 30) 26 4 (.bool false) 1 rfl Try.underlying26 info4 rfl (by decide) (by omega) u8 x8_1 (!x9_1) [.bool (!x9_1)] (fun _ => True) (fun _ => False) rfl rfl ?aP (fun _ hk => hk.elim) ?aF ?aO ?aB ?aS ?aL ?_; (case aP => exact rfl); (case aB => exact (by repeat (first | (with_reducible first | exact HB.out | apply below_alloc | apply pw_below_drewN | apply below_drew1) | exact HB.out))); (case aF => exact (fun _ _ => trivial)); (case aO => exact (by (with_reducible repeat (first | apply Kd.R_alloc | apply Kd.R_drewN | apply Kd.R_drew)); exact HO_8.out)); (case aS => exact (below_size (by repeat (first | (with_reducible first | exact HB.out | apply below_alloc | apply pw_below_drewN | apply below_drew1) | exact HB.out)))); (case aL => have := LMc7.out; omega); intro v104 w13 ho hb hg hat; rw [show (!x9_1) = ((false != true) != x9_1) from by cases x9_1 <;> rfl] at ho; rw [← Ny103.out] at ho; have n0_ := Aside0.mk (hb); have n1_ := Aside0.mk (ho); clear HB; clear HO_8; have HB := n0_; have HO105 := n1_; clear n0_ n1_; clear ho hb hg hat))
       go_roundg k1
       case measure => have := HK1.out; omega
       case rel => exact ⟨(y103), (true), (wrap64 (x10_1 + 1)), (by first | rfl | (simp; done) | (simp [*]; done)), (by first | rfl | (simp; done) | (simp [*]; done)), H', ⟨by have := HK1.out; omega⟩, ⟨by (with_reducible repeat (first | apply Kd.R_alloc | apply Kd.R_drewN | apply Kd.R_drew)); exact HO105.out⟩, ⟨by repeat (first | (with_reducible first | exact HB.out | apply below_alloc | apply pw_below_drewN | apply below_drew1) | exact HB.out)⟩⟩
      ·replace c12 := Bool.eq_false_iff.mpr c12
       subst c12
       have H1 : (if x9_1 = true then (flyballref01_Sub.l0 k1 l0 l1 a2 y103 true (wrap64 (x10_1 + 1))) else (flyballref01_Sub.l0 k1 l0 l1 a2 y103 false (wrap64 (x10_1 + 1)))) = some (r1, r2) := by rw [if_neg (show ¬ (false = true) by decide)] at H; exact H
       clear H
       have H := H1
       clear H1
       by_cases c14 : x9_1 = true
       ·subst c14
        have H1 : (flyballref01_Sub.l0 k1 l0 l1 a2 y103 true (wrap64 (x10_1 + 1))) = some (r1, r2) := by rw [if_pos rfl] at H; exact H
        clear H
        have H := H1
        clear H1
        have H' := Aside0.mk H
        clear H
        go_wp2_with (first | ((with_reducible refine gate_callee (f := 105) rfl ?_); refine goesL_ (some 20) rfl rfl Try.func105 (by kernel_rfl) rfl #[.slice A0 l0.length c0, .int .i64 x10_1] rfl (by (try simp only [List.map_toArray, List.map_cons, List.map_nil]); first | done | rfl | (simp only [List.length_drop, List.length_take]; rfl)) ?_; (with_reducible refine (flyballref01_bit.calls _ _ l0 x10_1 false _ ?side1 ?side2 A5.out).mono ?_); (case side1 => repeat (first | exact (Kd.C_below HR0.out HB.out) | (with_reducible refine Kd.C_alloc ?_ _) | (with_reducible refine Kd.C_drewN ?_ _) | (with_reducible refine Kd.C_drew ?_))); (case side2 => exact HC0.out); rintro e w' ⟨rfl, ⟨nd, rfl⟩⟩; refine ⟨_, rfl, ?_⟩) | ((with_reducible refine gate_callee (f := 105) rfl ?_); refine goesL_ (some 23) rfl rfl Try.func105 (by kernel_rfl) rfl #[.slice A1 l1.length c1, .int .i64 x10_1] rfl (by (try simp only [List.map_toArray, List.map_cons, List.map_nil]); first | done | rfl | (simp only [List.length_drop, List.length_take]; rfl)) ?_; (with_reducible refine (flyballref01_bit.calls _ _ l1 x10_1 false _ ?side1 ?side2 A6.out).mono ?_); (case side1 => repeat (first | exact (Kd.C_below HR1.out (by repeat (first | (with_reducible first | exact HB.out | apply below_alloc | apply pw_below_drewN | apply below_drew1) | exact HB.out))) | (with_reducible refine Kd.C_alloc ?_ _) | (with_reducible refine Kd.C_drewN ?_ _) | (with_reducible refine Kd.C_drew ?_))); (case side2 => exact HC1.out); rintro e w' ⟨rfl, ⟨nd, rfl⟩⟩; refine ⟨_, rfl, ?_⟩) | ((with_reducible refine gate_builtin (b := .append) (xs := #[.tmp 24, .tmp 30]) rfl ?_); at_builtin; refine Kd.R_append Kd.bool (w0 := w) w.heap.size rfl (.tmp 24) (.tmp 30) 26 4 (.bool false) 1 rfl Try.underlying26 info4 rfl (by decide) (by omega) u8 x8_1 ((false != false) != true) [.bool ((false != false) != true)] (fun _ => True) (fun _ => False) rfl rfl ?aP (fun _ hk => hk.elim) ?aF ?aO ?aB ?aS ?aL ?_; (case aP => exact rfl); (case aB => exact (by repeat (first | (with_reducible first | exact HB.out | apply below_alloc | apply pw_below_drewN | apply below_drew1) | exact HB.out))); (case aF => exact (fun _ _ => trivial)); (case aO => exact (by (with_reducible repeat (first | apply Kd.R_alloc | apply Kd.R_drewN | apply Kd.R_drew)); exact HO_8.out)); (case aS => exact (below_size (by repeat (first | (with_reducible first | exact HB.out | apply below_alloc | apply pw_below_drewN | apply below_drew1) | exact HB.out)))); (case aL => have := LMc7.out; omega); intro v104 w15 ho hb hg hat; rw [← Ny103.out] at ho; have n0_ := Aside0.mk (hb); have n1_ := Aside0.mk (ho); clear HB; clear HO_8; have HB := n0_; have HO105 := n1_; clear n0_ n1_; clear ho hb hg hat))
        go_roundg k1
        case measure => have := HK1.out; omega
        case rel => exact ⟨(y103), (true), (wrap64 (x10_1 + 1)), (by first | rfl | (simp; done) | (simp [*]; done)), (by first | rfl | (simp; done) | (simp [*]; done)), H', ⟨by have := HK1.out; omega⟩, ⟨by (with_reducible repeat (first | apply Kd.R_alloc | apply Kd.R_drewN | apply Kd.R_drew)); exact HO105.out⟩, ⟨by repeat (first | (with_reducible first | exact HB.out | apply below_alloc | apply pw_below_drewN | apply below_drew1) | exact HB.out)⟩⟩
       ·replace c14 := Bool.eq_false_iff.mpr c14
        subst c14
        have H1 : (flyballref01_Sub.l0 k1 l0 l1 a2 y103 false (wrap64 (x10_1 + 1))) = some (r1, r2) := by rw [if_neg (show ¬ (false = true) by decide)] at H; exact H
        clear H
        have H := H1
        clear H1
        have H' := Aside0.mk H
        clear H
        go_wp2_with (first | ((with_reducible refine gate_callee (f := 105) rfl ?_); refine goesL_ (some 20) rfl rfl Try.func105 (by kernel_rfl) rfl #[.slice A0 l0.length c0, .int .i64 x10_1] rfl (by (try simp only [List.map_toArray, List.map_cons, List.map_nil]); first | done | rfl | (simp only [List.length_drop, List.length_take]; rfl)) ?_; (with_reducible refine (flyballref01_bit.calls _ _ l0 x10_1 false _ ?side1 ?side2 A5.out).mono ?_); (case side1 => repeat (first | exact (Kd.C_below HR0.out HB.out) | (with_reducible refine Kd.C_alloc ?_ _) | (with_reducible refine Kd.C_drewN ?_ _) | (with_reducible refine Kd.C_drew ?_))); (case side2 => exact HC0.out); rintro e w' ⟨rfl, ⟨nd, rfl⟩⟩; refine ⟨_, rfl, ?_⟩) | ((with_reducible refine gate_callee (f := 105) rfl ?_); refine goesL_ (some 23) rfl rfl Try.func105 (by kernel_rfl) rfl #[.slice A1 l1.length c1, .int .i64 x10_1] rfl (by (try simp only [List.map_toArray, List.map_cons, List.map_nil]); first | done | rfl | (simp only [List.length_drop, List.length_take]; rfl)) ?_; (with_reducible refine (flyballref01_bit.calls _ _ l1 x10_1 false _ ?side1 ?side2 A6.out).mono ?_); (case side1 => repeat (first | exact (Kd.C_below HR1.out (by repeat (first | (with_reducible first | exact HB.out | apply below_alloc | apply pw_below_drewN | apply below_drew1) | exact HB.out))) | (with_reducible refine Kd.C_alloc ?_ _) | (with_reducible refine Kd.C_drewN ?_ _) | (with_reducible refine Kd.C_drew ?_))); (case side2 => exact HC1.out); rintro e w' ⟨rfl, ⟨nd, rfl⟩⟩; refine ⟨_, rfl, ?_⟩) | ((with_reducible refine gate_builtin (b := .append) (xs := #[.tmp 24, .tmp 30]) rfl ?_); at_builtin; refine Kd.R_append Kd.bool (w0 := w) w.heap.size rfl (.tmp 24) (.tmp 30) 26 4 (.bool false) 1 rfl Try.underlying26 info4 rfl (by decide) (by omega) u8 x8_1 ((false != false) != false) [.bool ((false != false) != false)] (fun _ => True) (fun _ => False) rfl rfl ?aP (fun _ hk => hk.elim) ?aF ?aO ?aB ?aS ?aL ?_; (case aP => exact rfl); (case aB => exact (by repeat (first | (with_reducible first | exact HB.out | apply below_alloc | apply pw_below_drewN | apply below_drew1) | exact HB.out))); (case aF => exact (fun _ _ => trivial)); (case aO => exact (by (with_reducible repeat (first | apply Kd.R_alloc | apply Kd.R_drewN | apply Kd.R_drew)); exact HO_8.out)); (case aS => exact (below_size (by repeat (first | (with_reducible first | exact HB.out | apply below_alloc | apply pw_below_drewN | apply below_drew1) | exact HB.out)))); (case aL => have := LMc7.out; omega); intro v104 w16 ho hb hg hat; rw [← Ny103.out] at ho; have n0_ := Aside0.mk (hb); have n1_ := Aside0.mk (ho); clear HB; clear HO_8; have HB := n0_; have HO105 := n1_; clear n0_ n1_; clear ho hb hg hat))
        go_roundg k1
        case measure => have := HK1.out; omega
        case rel => exact ⟨(y103), (false), (wrap64 (x10_1 + 1)), (by first | rfl | (simp; done) | (simp [*]; done)), (by first | rfl | (simp; done) | (simp [*]; done)), H', ⟨by have := HK1.out; omega⟩, ⟨by (with_reducible repeat (first | apply Kd.R_alloc | apply Kd.R_drewN | apply Kd.R_drew)); exact HO105.out⟩, ⟨by repeat (first | (with_reducible first | exact HB.out | apply below_alloc | apply pw_below_drewN | apply below_drew1) | exact HB.out)⟩⟩
    ·rw [if_neg c7] at H
     exact absurd H (by simp)
   ·rw [if_neg c4] at H
    have c4b0 : decide (x10_1 < a2) = false := decide_eq_false c4
    clear c4
    simp only [Option.some.injEq, Prod.mk.injEq] at H
    obtain ⟨rfl, rfl⟩ := H
    go_wp2
    go_ret2
    exact ⟨_, by first | rfl | (simp [errW_none, errW_some] <;> rfl) | (simp [*, errW_none, errW_some] <;> rfl), by (with_reducible repeat (first | apply Kd.R_alloc | apply Kd.R_drewN | apply Kd.R_drew)); exact HO_8.out, by repeat (first | (with_reducible first | exact HB.out | apply below_alloc | apply pw_below_drewN | apply below_drew1) | exact HB.out)⟩
end Go.Proofs.Ytagbnkbhobmgjaa.Fn
end
section
-- Written by a program of this session (a turned copy of the kit's printer, and hand-written parts). Not trusted: Lean checks it.
namespace Go.Proofs.Ytagbnkbhobmgjaa.Fn
open Go.RowKit Go.Proofs.YtagbnkbhobmgjaaW.PrintWords Go.Proofs.YtagbnkbhobmgjaaW.PrintLast Go.Proofs.YtagbnkbhobmgjaaW.PrintMore
attribute [local go_sem] max2_int min2_int max_two min_two max_three min_three max_four min_four   -- for this text's walks alone
set_option linter.unusedVariables false
set_option linter.unusedSimpArgs false
/-! ### flyballref01_Div: function 38 -/
def flyballref01_Div.l0 : Nat → List Bool → List Bool → List Bool → List Bool → Int → Option (List Bool × List Bool)
 | 0, _, _, _, _, _ => none
 | k + 1, x0, x1, x6, x7, x8 => if x8 ≥ 0 then (if 0 ≤ x8 then (if x8 < (x0.length : Int) then ((some (([rdOf false x0 x8] : List Bool) : List Bool)).bind fun y105 => (if y105.length + x7.length < 140737488355328 then ((some (y105 ++ x7 : List Bool)).bind fun y108 => ((flyballref01_Cmp.f k y108 x1).bind fun t111 => (if t111 ≥ 0 then ((flyballref01_Sub.f k y108 x1 (y108.length : Int)).bind fun bt112 => (if x8 < (x6.length : Int) then ((flyballref01_Len.f k bt112.1).bind fun t117 => (if 0 ≤ t117 then (if t117 ≤ (bt112.1.length : Int) then (flyballref01_Div.l0 k x0 x1 (x6.set (x8 : Int).toNat true) (bt112.1.take (t117 : Int).toNat) (wrap64 (x8 - 1))) else (none)) else (none))) else (none))) else ((flyballref01_Len.f k y108).bind fun t121 => (if 0 ≤ t121 then (if t121 ≤ (y108.length : Int) then (flyballref01_Div.l0 k x0 x1 x6 (y108.take (t121 : Int).toNat) (wrap64 (x8 - 1))) else (none)) else (none)))))) else (none))) else (none)) else (none)) else (some (x6, x7))
def flyballref01_Div.f (k : Nat) (l0 : List Bool) (l1 : List Bool) : Option (List Bool × List Bool) := if 0 ≤ (l0.length : Int) then (if ((l0.length : Int) : Int).toNat ≤ 281474976710656 then (flyballref01_Div.l0 k l0 l1 (List.replicate ((l0.length : Int) : Int).toNat false) ([] : List Bool) (wrap64 ((l0.length : Int) - 1))) else (none)) else (none)
theorem flyballref01_Div.mono_l : ∀ k, (∀ y0 y1 y2 y3 y4, LeO (flyballref01_Div.l0 k y0 y1 y2 y3 y4) (flyballref01_Div.l0 (k + 1) y0 y1 y2 y3 y4))
 | 0 => fun _ _ _ _ _ r h => by simp [flyballref01_Div.l0] at h
 | k + 1 => by
  have ih0 := flyballref01_Div.mono_l k
  ·intro y0 y1 y2 y3 y4
   unfold flyballref01_Div.l0
   repeat' first
   | (with_reducible exact ih0 _ _ _ _ _)
   | (with_reducible exact flyballref01_Cmp.mono _ _ _)
   | (with_reducible exact flyballref01_Len.mono _ _)
   | (with_reducible exact flyballref01_Sub.mono _ _ _ _)
   | (with_reducible exact LeO.refl _)
   | (with_reducible exact LeO.none _)
   | (with_reducible refine LeO.ite ?_ ?_)
   | (with_reducible refine LeO.bind ?_ (fun _ => ?_))
   | exact ih0 _ _ _ _ _
   | exact flyballref01_Cmp.mono _ _ _
   | exact flyballref01_Len.mono _ _
   | exact flyballref01_Sub.mono _ _ _ _
   | exact LeO.none _
   | refine LeO.ite ?_ ?_
   | refine LeO.bind ?_ (fun _ => ?_)
theorem flyballref01_Div.mono : ∀ a0 a1 k, LeO (flyballref01_Div.f k a0 a1) (flyballref01_Div.f (k + 1) a0 a1) := by
 intro a0 a1 k
 have ih0 := flyballref01_Div.mono_l k
 unfold flyballref01_Div.f
 repeat' first
   | (with_reducible exact ih0 _ _ _ _ _)
   | (with_reducible exact flyballref01_Cmp.mono _ _ _)
   | (with_reducible exact flyballref01_Len.mono _ _)
   | (with_reducible exact flyballref01_Sub.mono _ _ _ _)
   | (with_reducible exact LeO.refl _)
   | (with_reducible exact LeO.none _)
   | (with_reducible refine LeO.ite ?_ ?_)
   | (with_reducible refine LeO.bind ?_ (fun _ => ?_))
   | exact ih0 _ _ _ _ _
   | exact flyballref01_Cmp.mono _ _ _
   | exact flyballref01_Len.mono _ _
   | exact flyballref01_Sub.mono _ _ _ _
   | exact LeO.none _
   | refine LeO.ite ?_ ?_
   | refine LeO.bind ?_ (fun _ => ?_)
set_option maxHeartbeats 8000000 in
set_option maxRecDepth 100000 in
theorem flyballref01_Div.calls (k : Nat) (A0 : Option Addr) (c0 : Nat) (l0 : List Bool) (A1 : Option Addr) (c1 : Nat) (l1 : List Bool) (r1 : List Bool) (r2 : List Bool) (w : World) (hr0 : Kd.C Kd.bool w A0 l0.length l0) (hc0 : l0.length ≤ c0) (hr1 : Kd.C Kd.bool w A1 l1.length l1) (hc1 : l1.length ≤ c1) (h : flyballref01_Div.f k l0 l1 = some (r1, r2)) :
  Calls Try.prog 38 #[.slice A0 l0.length c0, .slice A1 l1.length c1] w fun e w' => ∃ v0_ v1_ : Value, e = .returned (.tuple #[v0_, v1_]) ∧ Kd.R Kd.bool 4 w' w.heap.size (fun k_ => some k_ ≠ (v1_ : Value).ownBlock) v0_ r1 ∧ Kd.R Kd.bool 4 w' w.heap.size (fun k_ => some k_ ≠ (v0_ : Value).ownBlock) v1_ r2 ∧ Below w.heap.size w w' := by
 have HR0 := Aside0.mk hr0
 have HC0 := Aside0.mk hc0
 clear hr0 hc0
 have HR1 := Aside0.mk hr1
 have HC1 := Aside0.mk hc1
 clear hr1 hc1
 have HB := Aside0.mk (Below.refl w.heap.size w)
 have H : (if 0 ≤ (l0.length : Int) then (if ((l0.length : Int) : Int).toNat ≤ 281474976710656 then (flyballref01_Div.l0 k l0 l1 (List.replicate ((l0.length : Int) : Int).toNat false) ([] : List Bool) (wrap64 ((l0.length : Int) - 1))) else (none)) else (none)) = some (r1, r2) := h
 clear h
 by_cases c3 : 0 ≤ (l0.length : Int)
 ·rw [if_pos c3] at H
  have c3b0 := eq_true c3
  have c3b1 : decide (0 ≤ (l0.length : Int)) = true := decide_eq_true c3
  clear c3
  by_cases c4 : ((l0.length : Int) : Int).toNat ≤ 281474976710656
  ·rw [if_pos c4] at H
   have c4b0 := eq_true c4
   have c4b1 : decide (((l0.length : Int) : Int).toNat ≤ 281474976710656) = true := decide_eq_true c4
   clear c4
   obtain ⟨y101, hy101⟩ : ∃ y_ : List Bool, y_ = (List.replicate ((l0.length : Int) : Int).toNat false) := ⟨_, rfl⟩
   replace H : (flyballref01_Div.l0 k l0 l1 y101 ([] : List Bool) (wrap64 ((l0.length : Int) - 1))) = some (r1, r2) := by first | (rw [hy101]; with_reducible exact H) | (have H2_ := (Option.bind_some _ _).symm.trans H; rw [hy101]; with_reducible exact H2_) | (have H2_ := (Option.bind_some _ _).symm.trans H; with_reducible exact H2_) | with_reducible exact H | (rw [hy101]; exact H) | exact H
   have Ny101 := Aside0.mk hy101
   clear hy101
   have H' := Aside0.mk H
   clear H
   go_enter Try.func38, Try.ntmps38
   go_wp2_with (first | ((with_reducible refine gate_dst (N := 12) rfl ?_); refine Kd.R_make Kd.bool _ 4 rfl (N := 12) rfl 26 _ _ rfl (l0.length : Int) rfl rfl Try.underlying26 (.bool false) 1 info4 rfl (by decide) (by omega) false (ok := fun _ => True) (okp := fun _ => True) rfl (fun _ hk => hk) trivial (of_decide_eq_true (by first | (with_reducible assumption) | assumption)) (Nat.le_trans (Nat.mul_le_mul_right _ (of_decide_eq_true (by first | (with_reducible assumption) | assumption) : (l0.length : Int).toNat ≤ 281474976710656)) (by omega)) (Below.refl _ _) (Nat.le_refl _) ?_; intro v102 w5 ho6 hb hg_ hnew_; clear hg_ hnew_; (first | rw [← Ny101.out] at ho6 | (simp only [Int.reduceToNat] at ho6; rw [← Ny101.out] at ho6)); have n0_ := Aside0.mk (Kd.R_lower ho6 (below_size (by repeat (first | (with_reducible first | exact HB.out | apply below_alloc | apply pw_below_drewN | apply below_drew1) | exact HB.out)))); have n1_ := Aside0.mk (below_step (by repeat (first | (with_reducible first | exact HB.out | apply below_alloc | apply pw_below_drewN | apply below_drew1) | exact HB.out)) hb); clear HB; have HO103 := n0_; have HB := n1_; clear n0_ n1_; clear hb ho6))
   go_loopg [7, 8] k (fun kq v7 v8 w' => ∃ (x6_1 : List Bool) (x7_1 : List Bool) (x8_1 : Int), v8 = .int .i64 x8_1 ∧ Aside0 (flyballref01_Div.l0 kq l0 l1 x6_1 x7_1 x8_1 = some (r1, r2)) ∧ Aside0 (kq ≤ k) ∧ Aside0 (Kd.R Kd.bool 4 w' w.heap.size (fun k_ => some k_ ≠ (v7 : Value).ownBlock) v102 x6_1) ∧ Aside0 (Kd.R Kd.bool 4 w' w.heap.size (fun k_ => some k_ ≠ (v102 : Value).ownBlock) v7 x7_1) ∧ Aside0 (Below w.heap.size w w'))
   case atStart => exact ⟨(y101), (([] : List Bool)), (wrap64 ((l0.length : Int) - 1)), (by first | rfl | (simp; done) | (simp [*]; done)), H', ⟨Nat.le_refl _⟩, ⟨by (with_reducible repeat (first | apply Kd.R_alloc | apply Kd.R_drewN | apply Kd.R_drew)); exact Kd.R_mono HO103.out (fun _ hk => (by simp [Value.ownBlock]))⟩, ⟨by first | exact Kd.R_nil _ _ _ _ _ | exact Kd.N_nil _ _ _ _ _ | exact Kd.V_nil _ _ _ _ _ | exact Kd.Q_nil _ _ _ _ _ | exact Kd.S_nil _ _ _ _ _⟩, ⟨by repeat (first | (with_reducible first | exact HB.out | apply below_alloc | apply pw_below_drewN | apply below_drew1) | exact HB.out)⟩⟩
   case round =>
    clear H'
    try clear c1
    try clear p2
    try clear c3
    try clear c3b0
    try clear c3b1
    try clear c4
    try clear c4b0
    try clear c4b1
    try clear p6
    obtain ⟨x6_1, x7_1, x8_1, rfl, HA, HK1, HO_6, HO_7, HB⟩ := hrel
    cases gk with
    | zero => exact absurd HA.out (by simp [flyballref01_Div.l0])
    | succ k1 =>
     have H := HA.out
     clear HA
     simp only [flyballref01_Div.l0] at H
     by_cases c7 : x8_1 ≥ 0
     ·rw [if_pos c7] at H
      have c7b0 : decide (0 ≤ x8_1) = true := decide_eq_true c7
      clear c7
      by_cases c8 : 0 ≤ x8_1
      ·rw [if_pos c8] at H
       have c8b0 : decide (0 ≤ x8_1) = true := decide_eq_true c8
       clear c8
       by_cases c9 : x8_1 < (l0.length : Int)
       ·rw [if_pos c9] at H
        have c9b0 : decide (x8_1 < (l0.length : Int)) = true := decide_eq_true c9
        clear c9
        obtain ⟨y105, hy105⟩ : ∃ y_ : List Bool, y_ = (([rdOf false l0 x8_1] : List Bool)) := ⟨_, rfl⟩
        replace H : (if y105.length + x7_1.length < 140737488355328 then ((some (y105 ++ x7_1 : List Bool)).bind fun y108 => ((flyballref01_Cmp.f k1 y108 l1).bind fun t111 => (if t111 ≥ 0 then ((flyballref01_Sub.f k1 y108 l1 (y108.length : Int)).bind fun bt112 => (if x8_1 < (x6_1.length : Int) then ((flyballref01_Len.f k1 bt112.1).bind fun t117 => (if 0 ≤ t117 then (if t117 ≤ (bt112.1.length : Int) then (flyballref01_Div.l0 k1 l0 l1 (x6_1.set (x8_1 : Int).toNat true) (bt112.1.take (t117 : Int).toNat) (wrap64 (x8_1 - 1))) else (none)) else (none))) else (none))) else ((flyballref01_Len.f k1 y108).bind fun t121 => (if 0 ≤ t121 then (if t121 ≤ (y108.length : Int) then (flyballref01_Div.l0 k1 l0 l1 x6_1 (y108.take (t121 : Int).toNat) (wrap64 (x8_1 - 1))) else (none)) else (none)))))) else (none)) = some (r1, r2) := by first | (rw [hy105]; with_reducible exact H) | (have H2_ := (Option.bind_some _ _).symm.trans H; rw [hy105]; with_reducible exact H2_) | (have H2_ := (Option.bind_some _ _).symm.trans H; with_reducible exact H2_) | with_reducible exact H | (rw [hy105]; exact H) | exact H
        have Ny105 := Aside0.mk hy105
        clear hy105
        by_cases c10 : y105.length + x7_1.length < 140737488355328
        ·rw [if_pos c10] at H
         have LMc10 := Aside0.mk c10
         clear c10
         obtain ⟨y108, hy108⟩ : ∃ y_ : List Bool, y_ = (y105 ++ x7_1) := ⟨_, rfl⟩
         replace H : ((flyballref01_Cmp.f k1 y108 l1).bind fun t111 => (if t111 ≥ 0 then ((flyballref01_Sub.f k1 y108 l1 (y108.length : Int)).bind fun bt112 => (if x8_1 < (x6_1.length : Int) then ((flyballref01_Len.f k1 bt112.1).bind fun t117 => (if 0 ≤ t117 then (if t117 ≤ (bt112.1.length : Int) then (flyballref01_Div.l0 k1 l0 l1 (x6_1.set (x8_1 : Int).toNat true) (bt112.1.take (t117 : Int).toNat) (wrap64 (x8_1 - 1))) else (none)) else (none))) else (none))) else ((flyballref01_Len.f k1 y108).bind fun t121 => (if 0 ≤ t121 then (if t121 ≤ (y108.length : Int) then (flyballref01_Div.l0 k1 l0 l1 x6_1 (y108.take (t121 : Int).toNat) (wrap64 (x8_1 - 1))) else (none)) else (none))))) = some (r1, r2) := by first | (rw [hy108]; with_reducible exact H) | (have H2_ := (Option.bind_some _ _).symm.trans H; rw [hy108]; with_reducible exact H2_) | (have H2_ := (Option.bind_some _ _).symm.trans H; with_reducible exact H2_) | with_reducible exact H | (rw [hy108]; exact H) | exact H
         have Ny108 := Aside0.mk hy108
         clear hy108
         replace H := Option.bind_eq_some_iff.mp H
         obtain ⟨t111, A110, H⟩ := H
         replace H : (if t111 ≥ 0 then ((flyballref01_Sub.f k1 y108 l1 (y108.length : Int)).bind fun bt112 => (if x8_1 < (x6_1.length : Int) then ((flyballref01_Len.f k1 bt112.1).bind fun t117 => (if 0 ≤ t117 then (if t117 ≤ (bt112.1.length : Int) then (flyballref01_Div.l0 k1 l0 l1 (x6_1.set (x8_1 : Int).toNat true) (bt112.1.take (t117 : Int).toNat) (wrap64 (x8_1 - 1))) else (none)) else (none))) else (none))) else ((flyballref01_Len.f k1 y108).bind fun t121 => (if 0 ≤ t121 then (if t121 ≤ (y108.length : Int) then (flyballref01_Div.l0 k1 l0 l1 x6_1 (y108.take (t121 : Int).toNat) (wrap64 (x8_1 - 1))) else (none)) else (none)))) = some (r1, r2) := H
         have A11 := Aside0.mk A110
         clear A110
         by_cases c12 : t111 ≥ 0
         ·rw [if_pos c12] at H
          have c12b0 : decide (0 ≤ t111) = true := decide_eq_true c12
          clear c12
          replace H := Option.bind_eq_some_iff.mp H
          obtain ⟨⟨t112, t113⟩, A130, H⟩ := H
          replace H : (if x8_1 < (x6_1.length : Int) then ((flyballref01_Len.f k1 t112).bind fun t117 => (if 0 ≤ t117 then (if t117 ≤ (t112.length : Int) then (flyballref01_Div.l0 k1 l0 l1 (x6_1.set (x8_1 : Int).toNat true) (t112.take (t117 : Int).toNat) (wrap64 (x8_1 - 1))) else (none)) else (none))) else (none)) = some (r1, r2) := H
          have A13 := Aside0.mk A130
          clear A130
          by_cases c14 : x8_1 < (x6_1.length : Int)
          ·rw [if_pos c14] at H
           have c14b0 : decide (x8_1 < (x6_1.length : Int)) = true := decide_eq_true c14
           clear c14
           obtain ⟨y116, hy116⟩ : ∃ y_ : List Bool, y_ = (x6_1.set (x8_1 : Int).toNat true) := ⟨_, rfl⟩
           replace H : ((flyballref01_Len.f k1 t112).bind fun t117 => (if 0 ≤ t117 then (if t117 ≤ (t112.length : Int) then (flyballref01_Div.l0 k1 l0 l1 y116 (t112.take (t117 : Int).toNat) (wrap64 (x8_1 - 1))) else (none)) else (none))) = some (r1, r2) := by first | (rw [hy116]; with_reducible exact H) | (have H2_ := (Option.bind_some _ _).symm.trans H; rw [hy116]; with_reducible exact H2_) | (have H2_ := (Option.bind_some _ _).symm.trans H; with_reducible exact H2_) | with_reducible exact H | (rw [hy116]; exact H) | exact H
           have Ny116 := Aside0.mk hy116
           clear hy116
           replace H := Option.bind_eq_some_iff.mp H
           obtain ⟨t117, A160, H⟩ := H
           replace H : (if 0 ≤ t117 then (if t117 ≤ (t112.length : Int) then (flyballref01_Div.l0 k1 l0 l1 y116 (t112.take (t117 : Int).toNat) (wrap64 (x8_1 - 1))) else (none)) else (none)) = some (r1, r2) := H
           have A16 := Aside0.mk A160
           clear A160
           by_cases c17 : 0 ≤ t117
           ·rw [if_pos c17] at H
            have c17b0 := eq_true c17
            have c17b1 : decide (0 ≤ t117) = true := decide_eq_true c17
            clear c17
            by_cases c18 : t117 ≤ (t112.length : Int)
            ·rw [if_pos c18] at H
             have c18b0 := eq_true c18
             have c18b1 : decide (t117 ≤ (t112.length : Int)) = true := decide_eq_true c18
             clear c18
             obtain ⟨y118, hy118⟩ : ∃ y_ : List Bool, y_ = (t112.take (t117 : Int).toNat) := ⟨_, rfl⟩
             replace H : (flyballref01_Div.l0 k1 l0 l1 y116 y118 (wrap64 (x8_1 - 1))) = some (r1, r2) := by first | (rw [hy118]; with_reducible exact H) | (have H2_ := (Option.bind_some _ _).symm.trans H; rw [hy118]; with_reducible exact H2_) | (have H2_ := (Option.bind_some _ _).symm.trans H; with_reducible exact H2_) | with_reducible exact H | (rw [hy118]; exact H) | exact H
             have Ny118 := Aside0.mk hy118
             clear hy118
             have H' := Aside0.mk H
             clear H
             have p104 : 0 ≤ (x8_1 : Int) := of_decide_eq_true (by first | (with_reducible assumption) | assumption)
             have q104 : x8_1 < (l0.length : Int) := of_decide_eq_true (by first | (with_reducible assumption) | assumption)
             obtain ⟨ad104, e104, hx104_0⟩ := Kd.at_bool HR0.out x8_1 p104 q104
             cases e104
             replace hx104_0 := (HB.out.cell (World.block_lt_of_cell? w _ hx104_0)).trans hx104_0
             replace p104 := eq_true p104
             replace q104 := eq_true q104
             go_wp2_with (first | ((with_reducible refine gate_dst (N := 24) rfl ?_); refine Kd.R_lit Kd.bool _ 4 ?hg (N := 24) ?hd (xs := ([rdOf false l0 x8_1] : List Bool)) (inner := [.bool (rdOf false l0 x8_1)]) (ok := fun _ => True) (okp := fun _ => True) ?hr ?hp (fun _ hk => hk) trivial (Below.refl _ _) (Nat.le_refl _) (by simp) ?_; (case hd => rfl); (case hg => rfl); (case hr => first | (go_simp; done) | (go_simp; rfl)); (case hp => exact (Reps.one (show Kd.M Kd.bool _ _ _ (rdOf false l0 x8_1) [.bool (rdOf false l0 x8_1)] from rfl) (Reps.none _ _))); intro v106 w19 ho20 hb hg_ hnew_; clear hg_ hnew_; (first | rw [← Ny105.out] at ho20 | (simp only [Int.reduceToNat] at ho20; rw [← Ny105.out] at ho20)); have n0_ := Aside0.mk (Kd.R_elder' (by (with_reducible repeat (first | apply Kd.R_alloc | apply Kd.R_drewN | apply Kd.R_drew)); exact HO_6.out) (Kd.R_base ho20) hb); have n1_ := Aside0.mk (Kd.R_elder' (by (with_reducible repeat (first | apply Kd.R_alloc | apply Kd.R_drewN | apply Kd.R_drew)); exact HO_7.out) (Kd.R_base ho20) hb); have n2_ := Aside0.mk (Kd.R_lower (Kd.R_new' (Kd.R_new' ho20 (Kd.R_lt (by (with_reducible repeat (first | apply Kd.R_alloc | apply Kd.R_drewN | apply Kd.R_drew)); exact HO_6.out))) (Kd.R_lt (by (with_reducible repeat (first | apply Kd.R_alloc | apply Kd.R_drewN | apply Kd.R_drew)); exact HO_7.out))) (below_size (by repeat (first | (with_reducible first | exact HB.out | apply below_alloc | apply pw_below_drewN | apply below_drew1) | exact HB.out)))); have n3_ := Aside0.mk (below_step (by repeat (first | (with_reducible first | exact HB.out | apply below_alloc | apply pw_below_drewN | apply below_drew1) | exact HB.out)) hb); clear HO_6; clear HO_7; clear HB; have HO_6 := n0_; have HO_7 := n1_; have HO107 := n2_; have HB := n3_; clear n0_ n1_ n2_ n3_; clear hb ho20; obtain ⟨Ao22, co22, eo22⟩ := Kd.R_slice HO_7.out; subst eo22) | ((with_reducible refine gate_builtin (b := .append) (xs := #[.tmp 25, .tmp 26]) rfl ?_); at_builtin; refine Kd.R_append_rows Kd.bool (w0 := w) w.heap.size rfl (.tmp 25) (.tmp 26) 26 4 (.bool false) 1 rfl Try.underlying26 info4 rfl (by decide) (by omega) v106 y105 x7_1 _ _ _ (fun k_ => some k_ ≠ (v102 : Value).ownBlock ∧ some k_ ≠ (.slice Ao22 x7_1.length co22 : Value).ownBlock) (fun _ => False) rfl rfl ?aO ?aR (fun _ _ h => h) (fun _ h => h.elim) ?aF ?aB ?aS ?aL ?_; (case aR => repeat (first | exact (Kd.R_reads' HO_7.out).2.2 | (with_reducible refine Kd.C_alloc ?_ _) | (with_reducible refine Kd.C_drewN ?_ _) | (with_reducible refine Kd.C_drew ?_))); (case aB => exact (by repeat (first | (with_reducible first | exact HB.out | apply below_alloc | apply pw_below_drewN | apply below_drew1) | exact HB.out))); (case aF => exact (fun k_ hk => ⟨Kd.fresh' (Kd.R_lt (by (with_reducible repeat (first | apply Kd.R_alloc | apply Kd.R_drewN | apply Kd.R_drew)); exact HO_6.out)) k_ hk, Kd.fresh' (Kd.R_lt (by (with_reducible repeat (first | apply Kd.R_alloc | apply Kd.R_drewN | apply Kd.R_drew)); exact HO_7.out)) k_ hk⟩)); (case aO => exact (by (with_reducible repeat (first | apply Kd.R_alloc | apply Kd.R_drewN | apply Kd.R_drew)); exact Kd.R_mono HO107.out (fun _ hk => ⟨hk.1.2, hk.2⟩))); (case aS => exact (below_size (by repeat (first | (with_reducible first | exact HB.out | apply below_alloc | apply pw_below_drewN | apply below_drew1) | exact HB.out)))); (case aL => have := LMc10.out; omega); intro v109 w21 ho hb hg hat; rw [← Ny108.out] at ho; have n0_ := Aside0.mk (Kd.R_after (ok := (fun k_ => some k_ ≠ (.slice Ao22 x7_1.length co22 : Value).ownBlock)) (by (with_reducible repeat (first | apply Kd.R_alloc | apply Kd.R_drewN | apply Kd.R_drew)); exact HO_6.out) hg hat); have n1_ := Aside0.mk (Kd.R_after (ok := (fun k_ => some k_ ≠ (v102 : Value).ownBlock)) (by (with_reducible repeat (first | apply Kd.R_alloc | apply Kd.R_drewN | apply Kd.R_drew)); exact HO_7.out) hg hat); have n2_ := Aside0.mk (hb); have n3_ := Aside0.mk (ho); clear HO_6; clear HO_7; clear HB; clear HO107; have HO_6 := n0_; have HO_7 := n1_; have HB := n2_; have HO110 := n3_; clear n0_ n1_ n2_ n3_; clear ho hb hg hat; obtain ⟨Ao23, co23, eo23⟩ := Kd.R_slice HO110.out; subst eo23) | ((with_reducible refine gate_callee (f := 26) rfl ?_); refine goesL_ (some 31) rfl rfl Try.func26 (by kernel_rfl) rfl #[.slice Ao23 y108.length co23, .slice A1 l1.length c1] rfl (by (try simp only [List.map_toArray, List.map_cons, List.map_nil]); first | done | rfl | (simp only [List.length_drop, List.length_take]; rfl)) ?_; (with_reducible refine (flyballref01_Cmp.calls k1 _ _ y108 _ _ l1 t111 _ ?side1 ?side2 ?side3 ?side4 A11.out).mono ?_); (case side1 => repeat (first | exact (Kd.R_reads' HO110.out).2.2 | (with_reducible refine Kd.C_alloc ?_ _) | (with_reducible refine Kd.C_drewN ?_ _) | (with_reducible refine Kd.C_drew ?_))); (case side2 => exact (Kd.R_reads' HO110.out).2.1); (case side3 => repeat (first | exact (Kd.C_below HR1.out HB.out) | (with_reducible refine Kd.C_alloc ?_ _) | (with_reducible refine Kd.C_drewN ?_ _) | (with_reducible refine Kd.C_drew ?_))); (case side4 => exact HC1.out); rintro e w24 ⟨rfl, hb⟩; refine ⟨_, rfl, ?_⟩; have n0_ := Aside0.mk (Kd.R_below (by (with_reducible repeat (first | apply Kd.R_alloc | apply Kd.R_drewN | apply Kd.R_drew)); exact HO_6.out) hb); have n1_ := Aside0.mk (Kd.R_below (by (with_reducible repeat (first | apply Kd.R_alloc | apply Kd.R_drewN | apply Kd.R_drew)); exact HO_7.out) hb); have n2_ := Aside0.mk (Kd.R_below (by (with_reducible repeat (first | apply Kd.R_alloc | apply Kd.R_drewN | apply Kd.R_drew)); exact HO110.out) hb); have n3_ := Aside0.mk (below_step (by repeat (first | (with_reducible first | exact HB.out | apply below_alloc | apply pw_below_drewN | apply below_drew1) | exact HB.out)) hb); clear HO_6; clear HO_7; clear HO110; clear HB; have HO_6 := n0_; have HO_7 := n1_; have HO110 := n2_; have HB := n3_; clear n0_ n1_ n2_ n3_; (try clear hb); (try clear hb2); (try clear hk); (try clear hi)) | ((with_reducible refine gate_callee (f := 34) rfl ?_); refine goesL_ (some 38) rfl rfl Try.func34 (by kernel_rfl) rfl #[.slice Ao23 y108.length co23, .slice A1 l1.length c1, .int .i64 (y108.length : Int)] rfl (by (try simp only [List.map_toArray, List.map_cons, List.map_nil]); first | done | rfl | (simp only [List.length_drop, List.length_take]; rfl)) ?_; (with_reducible refine (flyballref01_Sub.calls k1 _ _ y108 _ _ l1 (y108.length : Int) t112 t113 _ ?side1 ?side2 ?side3 ?side4 A13.out).mono ?_); (case side1 => repeat (first | exact (Kd.R_reads' HO110.out).2.2 | (with_reducible refine Kd.C_alloc ?_ _) | (with_reducible refine Kd.C_drewN ?_ _) | (with_reducible refine Kd.C_drew ?_))); (case side2 => exact (Kd.R_reads' HO110.out).2.1); (case side3 => repeat (first | exact (Kd.C_below HR1.out HB.out) | (with_reducible refine Kd.C_alloc ?_ _) | (with_reducible refine Kd.C_drewN ?_ _) | (with_reducible refine Kd.C_drew ?_))); (case side4 => exact HC1.out); rintro e w25 ⟨v114, rfl, ho0, hb⟩; refine ⟨_, rfl, ?_⟩; have n0_ := Aside0.mk (Kd.R_elder' (by (with_reducible repeat (first | apply Kd.R_alloc | apply Kd.R_drewN | apply Kd.R_drew)); exact HO_6.out) (Kd.R_base ho0) hb); have n1_ := Aside0.mk (Kd.R_elder' (by (with_reducible repeat (first | apply Kd.R_alloc | apply Kd.R_drewN | apply Kd.R_drew)); exact HO_7.out) (Kd.R_base ho0) hb); have n2_ := Aside0.mk (Kd.R_elder' (by (with_reducible repeat (first | apply Kd.R_alloc | apply Kd.R_drewN | apply Kd.R_drew)); exact HO110.out) (Kd.R_base ho0) hb); have n3_ := Aside0.mk (Kd.R_lower (Kd.R_new' (Kd.R_new' (Kd.R_new' ho0 (Kd.R_lt (by (with_reducible repeat (first | apply Kd.R_alloc | apply Kd.R_drewN | apply Kd.R_drew)); exact HO_6.out))) (Kd.R_lt (by (with_reducible repeat (first | apply Kd.R_alloc | apply Kd.R_drewN | apply Kd.R_drew)); exact HO_7.out))) (Kd.R_lt (by (with_reducible repeat (first | apply Kd.R_alloc | apply Kd.R_drewN | apply Kd.R_drew)); exact HO110.out))) (below_size (by repeat (first | (with_reducible first | exact HB.out | apply below_alloc | apply pw_below_drewN | apply below_drew1) | exact HB.out)))); have n4_ := Aside0.mk (below_step (by repeat (first | (with_reducible first | exact HB.out | apply below_alloc | apply pw_below_drewN | apply below_drew1) | exact HB.out)) hb); clear HO_6; clear HO_7; clear HO110; clear HB; have HO_6 := n0_; have HO_7 := n1_; have HO110 := n2_; have HO115 := n3_; have HB := n4_; clear n0_ n1_ n2_ n3_ n4_; (try clear hb); (try clear hb2); (try clear hk); (try clear hi); (try clear ho0); have p15 : 0 ≤ (x8_1 : Int) := of_decide_eq_true (by first | (with_reducible assumption) | assumption); have q15 : (x8_1 : Int) < ((x6_1.length : Int) : Int) := of_decide_eq_true (by first | (with_reducible assumption) | assumption); obtain ⟨go15, co15, eo15, gb15, gl15, cl15, HG15⟩ := Kd.R_form HO_6.out (by omega); (first | cases eo15 | (injection eo15 with ea_ en_ ec_; (first | subst ea_ | (injection ea_ with ea_; subst ea_)); subst ec_; clear en_)); have GB15 := Aside0.mk gb15; have GG15 := Aside0.mk HG15; clear gb15 gl15 HG15; obtain ⟨hx15_0, hf15_0⟩ := Kd.R_celln false HO_6.out (x8_1 : Int) p15 q15; replace p15 := eq_true p15; replace q15 := eq_true q15; have n_ := Aside0.mk (Kd.R_mono (ok' := (fun k_ => some k_ ≠ (.slice Ao22 x7_1.length co22 : Value).ownBlock ∧ some k_ ≠ (.slice Ao23 y108.length co23 : Value).ownBlock ∧ some k_ ≠ (v114 : Value).ownBlock)) HO_6.out (fun k_ hk => ⟨hk.1.1, ⟨hk.1.2, hk.2⟩⟩)); clear HO_6; have HO_6 := n_; clear n_; obtain ⟨hy26_, hz26_⟩ := Kd.R_celln false HO_6.out (x8_1 : Int) (of_decide_eq_true (by first | (with_reducible assumption) | assumption)) (of_decide_eq_true (by first | (with_reducible assumption) | assumption)); have HP26 := Kd.R_putg HO_6.out (x8_1 : Int) true) | ((with_reducible refine gate_store (t := 4) (p := 43) rfl ?_); refine store_event (t := 4) (p := 43) (v := ?vo_w27) (w1 := (w25.setCell ⟨go15, (x8_1 : Int).toNat, none⟩ (.bool true))) ?hg ?ho ?hn ?hr ?_; (case ho => rfl); (case hg => rfl); (case hn => rfl); (case hr => first | (go_simp; done) | (go_simp; rfl)); intro w27 hw; have hg : w25.grownBy w27 (some go15) := (by rw [hw]; exact HP26.2); have hp_ : Kd.R Kd.bool 4 w27 w.heap.size (fun k_ => some k_ ≠ (.slice Ao22 x7_1.length co22 : Value).ownBlock ∧ some k_ ≠ (.slice Ao23 y108.length co23 : Value).ownBlock ∧ some k_ ≠ (v114 : Value).ownBlock) (.slice (some ⟨go15, 0, none⟩) x6_1.length co15) y116 := (by rw [hw, Ny116.out]; exact HP26.1); clear HP26; have n0_ := Aside0.mk (hp_); have n1_ := Aside0.mk (Kd.R_after (v := (.slice (some ⟨go15, 0, none⟩) x6_1.length co15)) (v1 := (.slice (some ⟨go15, 0, none⟩) x6_1.length co15)) (ok := (fun k_ => some k_ ≠ (.slice Ao23 y108.length co23 : Value).ownBlock ∧ some k_ ≠ (v114 : Value).ownBlock)) (by (with_reducible repeat (first | apply Kd.R_alloc | apply Kd.R_drewN | apply Kd.R_drew)); exact Kd.R_mono HO_7.out (fun _ hk => ⟨⟨hk.1.2, hk.2⟩, hk.1.1⟩)) hg (.inl rfl)); have n2_ := Aside0.mk (Kd.R_after (v := (.slice (some ⟨go15, 0, none⟩) x6_1.length co15)) (v1 := (.slice (some ⟨go15, 0, none⟩) x6_1.length co15)) (ok := (fun k_ => some k_ ≠ (.slice Ao22 x7_1.length co22 : Value).ownBlock ∧ some k_ ≠ (v114 : Value).ownBlock)) (by (with_reducible repeat (first | apply Kd.R_alloc | apply Kd.R_drewN | apply Kd.R_drew)); exact Kd.R_mono HO110.out (fun _ hk => ⟨⟨hk.1.2, hk.2⟩, hk.1.1⟩)) hg (.inl rfl)); have n3_ := Aside0.mk (Kd.R_after (v := (.slice (some ⟨go15, 0, none⟩) x6_1.length co15)) (v1 := (.slice (some ⟨go15, 0, none⟩) x6_1.length co15)) (ok := (fun k_ => some k_ ≠ (.slice Ao22 x7_1.length co22 : Value).ownBlock ∧ some k_ ≠ (.slice Ao23 y108.length co23 : Value).ownBlock)) (by (with_reducible repeat (first | apply Kd.R_alloc | apply Kd.R_drewN | apply Kd.R_drew)); exact Kd.R_mono HO115.out (fun _ hk => ⟨⟨hk.1.2, hk.2⟩, hk.1.1.2⟩)) hg (.inl rfl)); have n4_ := Aside0.mk ((by rw [hw]; exact below_set (HB.out) GB15.out : Below w.heap.size w w27)); clear HO_6; clear HO_7; clear HO110; clear HO115; clear HB; have HO_6 := n0_; have HO_7 := n1_; have HO110 := n2_; have HO115 := n3_; have HB := n4_; clear n0_ n1_ n2_ n3_ n4_; clear hg hw hp_; obtain ⟨Ao28, co28, eo28⟩ := Kd.R_slice HO115.out; subst eo28) | ((with_reducible refine gate_callee (f := 53) rfl ?_); refine goesL_ (some 46) rfl rfl Try.func53 (by kernel_rfl) rfl #[.slice Ao28 t112.length co28] rfl (by (try simp only [List.map_toArray, List.map_cons, List.map_nil]); first | done | rfl | (simp only [List.length_drop, List.length_take]; rfl)) ?_; (with_reducible refine (flyballref01_Len.calls k1 _ _ t112 t117 _ ?side1 ?side2 A16.out).mono ?_); (case side1 => repeat (first | exact (Kd.R_reads' HO115.out).2.2 | (with_reducible refine Kd.C_alloc ?_ _) | (with_reducible refine Kd.C_drewN ?_ _) | (with_reducible refine Kd.C_drew ?_))); (case side2 => exact (Kd.R_reads' HO115.out).2.1); rintro e w' ⟨rfl, ⟨nd, rfl⟩⟩; refine ⟨_, rfl, ?_⟩; have q29 : (t117 : Int) ≤ ((t112.length : Int) : Int) := of_decide_eq_true (by first | (with_reducible assumption) | assumption); obtain ⟨i029, hi029, _, hsz29, _⟩ := info_parts info4; have hcut29 := cut_to (P := Try.prog) 26 4 .i64 Try.underlying26 hi029 Ao28 t112.length co28 t117 (of_decide_eq_true (by first | (with_reducible assumption) | assumption)) q29 (Kd.R_reads' HO115.out).2.1; have hr29 := Kd.R_take (m := (t117 : Int).toNat) HO115.out (by omega); have hy29 : y118.length = (t117 : Int).toNat := (by rw [Ny118.out, List.length_take]; omega); rw [← Ny118.out] at hr29; rw [← hy29] at hr29 hcut29; clear hy29 hi029 hsz29 HO115; have HO120 := Aside0.mk hr29; clear hr29; replace q29 := eq_true q29))
             go_roundg k1
             case measure => have := HK1.out; omega
             case rel => exact ⟨(y116), (y118), (wrap64 (x8_1 - 1)), (by first | rfl | (simp; done) | (simp [*]; done)), H', ⟨by have := HK1.out; omega⟩, ⟨by (with_reducible repeat (first | apply Kd.R_alloc | apply Kd.R_drewN | apply Kd.R_drew)); exact Kd.R_mono HO_6.out (fun _ hk => by cases Ao28 <;> exact hk.2.2)⟩, ⟨by (with_reducible repeat (first | apply Kd.R_alloc | apply Kd.R_drewN | apply Kd.R_drew)); exact Kd.R_mono HO120.out (fun _ hk => hk.2)⟩, ⟨by repeat (first | (with_reducible first | exact HB.out | apply below_alloc | apply pw_below_drewN | apply below_drew1) | exact HB.out)⟩⟩
            ·rw [if_neg c18] at H
             exact absurd H (by simp)
           ·rw [if_neg c17] at H
            exact absurd H (by simp)
          ·rw [if_neg c14] at H
           exact absurd H (by simp)
         ·rw [if_neg c12] at H
          have c12b0 : decide (0 ≤ t111) = false := decide_eq_false c12
          clear c12
          replace H := Option.bind_eq_some_iff.mp H
          obtain ⟨t121, A300, H⟩ := H
          replace H : (if 0 ≤ t121 then (if t121 ≤ (y108.length : Int) then (flyballref01_Div.l0 k1 l0 l1 x6_1 (y108.take (t121 : Int).toNat) (wrap64 (x8_1 - 1))) else (none)) else (none)) = some (r1, r2) := H
          have A30 := Aside0.mk A300
          clear A300
          by_cases c31 : 0 ≤ t121
          ·rw [if_pos c31] at H
           have c31b0 := eq_true c31
           have c31b1 : decide (0 ≤ t121) = true := decide_eq_true c31
           clear c31
           by_cases c32 : t121 ≤ (y108.length : Int)
           ·rw [if_pos c32] at H
            have c32b0 := eq_true c32
            have c32b1 : decide (t121 ≤ (y108.length : Int)) = true := decide_eq_true c32
            clear c32
            obtain ⟨y122, hy122⟩ : ∃ y_ : List Bool, y_ = (y108.take (t121 : Int).toNat) := ⟨_, rfl⟩
            replace H : (flyballref01_Div.l0 k1 l0 l1 x6_1 y122 (wrap64 (x8_1 - 1))) = some (r1, r2) := by first | (rw [hy122]; with_reducible exact H) | (have H2_ := (Option.bind_some _ _).symm.trans H; rw [hy122]; with_reducible exact H2_) | (have H2_ := (Option.bind_some _ _).symm.trans H; with_reducible exact H2_) | with_reducible exact H | (rw [hy122]; exact H) | exact H
            have Ny122 := Aside0.mk hy122
            clear hy122
            have H' := Aside0.mk H
            clear H
            have p104 : 0 ≤ (x8_1 : Int) := of_decide_eq_true (by first | (with_reducible assumption) | assumption)
            have q104 : x8_1 < (l0.length : Int) := of_decide_eq_true (by first | (with_reducible assumption) | assumption)
            obtain ⟨ad104, e104, hx104_0⟩ := Kd.at_bool HR0.out x8_1 p104 q104
            cases e104
            replace hx104_0 := (HB.out.cell (World.block_lt_of_cell? w _ hx104_0)).trans hx104_0
            replace p104 := eq_true p104
            replace q104 := eq_true q104
            go_wp2_with (first | ((with_reducible refine gate_dst (N := 24) rfl ?_); refine Kd.R_lit Kd.bool _ 4 ?hg (N := 24) ?hd (xs := ([rdOf false l0 x8_1] : List Bool)) (inner := [.bool (rdOf false l0 x8_1)]) (ok := fun _ => True) (okp := fun _ => True) ?hr ?hp (fun _ hk => hk) trivial (Below.refl _ _) (Nat.le_refl _) (by simp) ?_; (case hd => rfl); (case hg => rfl); (case hr => first | (go_simp; done) | (go_simp; rfl)); (case hp => exact (Reps.one (show Kd.M Kd.bool _ _ _ (rdOf false l0 x8_1) [.bool (rdOf false l0 x8_1)] from rfl) (Reps.none _ _))); intro v106 w33 ho34 hb hg_ hnew_; clear hg_ hnew_; (first | rw [← Ny105.out] at ho34 | (simp only [Int.reduceToNat] at ho34; rw [← Ny105.out] at ho34)); have n0_ := Aside0.mk (Kd.R_elder' (by (with_reducible repeat (first | apply Kd.R_alloc | apply Kd.R_drewN | apply Kd.R_drew)); exact HO_6.out) (Kd.R_base ho34) hb); have n1_ := Aside0.mk (Kd.R_elder' (by (with_reducible repeat (first | apply Kd.R_alloc | apply Kd.R_drewN | apply Kd.R_drew)); exact HO_7.out) (Kd.R_base ho34) hb); have n2_ := Aside0.mk (Kd.R_lower (Kd.R_new' (Kd.R_new' ho34 (Kd.R_lt (by (with_reducible repeat (first | apply Kd.R_alloc | apply Kd.R_drewN | apply Kd.R_drew)); exact HO_6.out))) (Kd.R_lt (by (with_reducible repeat (first | apply Kd.R_alloc | apply Kd.R_drewN | apply Kd.R_drew)); exact HO_7.out))) (below_size (by repeat (first | (with_reducible first | exact HB.out | apply below_alloc | apply pw_below_drewN | apply below_drew1) | exact HB.out)))); have n3_ := Aside0.mk (below_step (by repeat (first | (with_reducible first | exact HB.out | apply below_alloc | apply pw_below_drewN | apply below_drew1) | exact HB.out)) hb); clear HO_6; clear HO_7; clear HB; have HO_6 := n0_; have HO_7 := n1_; have HO107 := n2_; have HB := n3_; clear n0_ n1_ n2_ n3_; clear hb ho34; obtain ⟨Ao36, co36, eo36⟩ := Kd.R_slice HO_7.out; subst eo36) | ((with_reducible refine gate_builtin (b := .append) (xs := #[.tmp 25, .tmp 26]) rfl ?_); at_builtin; refine Kd.R_append_rows Kd.bool (w0 := w) w.heap.size rfl (.tmp 25) (.tmp 26) 26 4 (.bool false) 1 rfl Try.underlying26 info4 rfl (by decide) (by omega) v106 y105 x7_1 _ _ _ (fun k_ => some k_ ≠ (v102 : Value).ownBlock ∧ some k_ ≠ (.slice Ao36 x7_1.length co36 : Value).ownBlock) (fun _ => False) rfl rfl ?aO ?aR (fun _ _ h => h) (fun _ h => h.elim) ?aF ?aB ?aS ?aL ?_; (case aR => repeat (first | exact (Kd.R_reads' HO_7.out).2.2 | (with_reducible refine Kd.C_alloc ?_ _) | (with_reducible refine Kd.C_drewN ?_ _) | (with_reducible refine Kd.C_drew ?_))); (case aB => exact (by repeat (first | (with_reducible first | exact HB.out | apply below_alloc | apply pw_below_drewN | apply below_drew1) | exact HB.out))); (case aF => exact (fun k_ hk => ⟨Kd.fresh' (Kd.R_lt (by (with_reducible repeat (first | apply Kd.R_alloc | apply Kd.R_drewN | apply Kd.R_drew)); exact HO_6.out)) k_ hk, Kd.fresh' (Kd.R_lt (by (with_reducible repeat (first | apply Kd.R_alloc | apply Kd.R_drewN | apply Kd.R_drew)); exact HO_7.out)) k_ hk⟩)); (case aO => exact (by (with_reducible repeat (first | apply Kd.R_alloc | apply Kd.R_drewN | apply Kd.R_drew)); exact Kd.R_mono HO107.out (fun _ hk => ⟨hk.1.2, hk.2⟩))); (case aS => exact (below_size (by repeat (first | (with_reducible first | exact HB.out | apply below_alloc | apply pw_below_drewN | apply below_drew1) | exact HB.out)))); (case aL => have := LMc10.out; omega); intro v109 w35 ho hb hg hat; rw [← Ny108.out] at ho; have n0_ := Aside0.mk (Kd.R_after (ok := (fun k_ => some k_ ≠ (.slice Ao36 x7_1.length co36 : Value).ownBlock)) (by (with_reducible repeat (first | apply Kd.R_alloc | apply Kd.R_drewN | apply Kd.R_drew)); exact HO_6.out) hg hat); have n1_ := Aside0.mk (Kd.R_after (ok := (fun k_ => some k_ ≠ (v102 : Value).ownBlock)) (by (with_reducible repeat (first | apply Kd.R_alloc | apply Kd.R_drewN | apply Kd.R_drew)); exact HO_7.out) hg hat); have n2_ := Aside0.mk (hb); have n3_ := Aside0.mk (ho); clear HO_6; clear HO_7; clear HB; clear HO107; have HO_6 := n0_; have HO_7 := n1_; have HB := n2_; have HO110 := n3_; clear n0_ n1_ n2_ n3_; clear ho hb hg hat; obtain ⟨Ao37, co37, eo37⟩ := Kd.R_slice HO110.out; subst eo37) | ((with_reducible refine gate_callee (f := 26) rfl ?_); refine goesL_ (some 31) rfl rfl Try.func26 (by kernel_rfl) rfl #[.slice Ao37 y108.length co37, .slice A1 l1.length c1] rfl (by (try simp only [List.map_toArray, List.map_cons, List.map_nil]); first | done | rfl | (simp only [List.length_drop, List.length_take]; rfl)) ?_; (with_reducible refine (flyballref01_Cmp.calls k1 _ _ y108 _ _ l1 t111 _ ?side1 ?side2 ?side3 ?side4 A11.out).mono ?_); (case side1 => repeat (first | exact (Kd.R_reads' HO110.out).2.2 | (with_reducible refine Kd.C_alloc ?_ _) | (with_reducible refine Kd.C_drewN ?_ _) | (with_reducible refine Kd.C_drew ?_))); (case side2 => exact (Kd.R_reads' HO110.out).2.1); (case side3 => repeat (first | exact (Kd.C_below HR1.out HB.out) | (with_reducible refine Kd.C_alloc ?_ _) | (with_reducible refine Kd.C_drewN ?_ _) | (with_reducible refine Kd.C_drew ?_))); (case side4 => exact HC1.out); rintro e w38 ⟨rfl, hb⟩; refine ⟨_, rfl, ?_⟩; have n0_ := Aside0.mk (Kd.R_below (by (with_reducible repeat (first | apply Kd.R_alloc | apply Kd.R_drewN | apply Kd.R_drew)); exact HO_6.out) hb); have n1_ := Aside0.mk (Kd.R_below (by (with_reducible repeat (first | apply Kd.R_alloc | apply Kd.R_drewN | apply Kd.R_drew)); exact HO_7.out) hb); have n2_ := Aside0.mk (Kd.R_below (by (with_reducible repeat (first | apply Kd.R_alloc | apply Kd.R_drewN | apply Kd.R_drew)); exact HO110.out) hb); have n3_ := Aside0.mk (below_step (by repeat (first | (with_reducible first | exact HB.out | apply below_alloc | apply pw_below_drewN | apply below_drew1) | exact HB.out)) hb); clear HO_6; clear HO_7; clear HO110; clear HB; have HO_6 := n0_; have HO_7 := n1_; have HO110 := n2_; have HB := n3_; clear n0_ n1_ n2_ n3_; (try clear hb); (try clear hb2); (try clear hk); (try clear hi)) | ((with_reducible refine gate_callee (f := 53) rfl ?_); refine goesL_ (some 46) rfl rfl Try.func53 (by kernel_rfl) rfl #[.slice Ao37 y108.length co37] rfl (by (try simp only [List.map_toArray, List.map_cons, List.map_nil]); first | done | rfl | (simp only [List.length_drop, List.length_take]; rfl)) ?_; (with_reducible refine (flyballref01_Len.calls k1 _ _ y108 t121 _ ?side1 ?side2 A30.out).mono ?_); (case side1 => repeat (first | exact (Kd.R_reads' HO110.out).2.2 | (with_reducible refine Kd.C_alloc ?_ _) | (with_reducible refine Kd.C_drewN ?_ _) | (with_reducible refine Kd.C_drew ?_))); (case side2 => exact (Kd.R_reads' HO110.out).2.1); rintro e w' ⟨rfl, ⟨nd, rfl⟩⟩; refine ⟨_, rfl, ?_⟩; have q39 : (t121 : Int) ≤ ((y108.length : Int) : Int) := of_decide_eq_true (by first | (with_reducible assumption) | assumption); obtain ⟨i039, hi039, _, hsz39, _⟩ := info_parts info4; have hcut39 := cut_to (P := Try.prog) 26 4 .i64 Try.underlying26 hi039 Ao37 y108.length co37 t121 (of_decide_eq_true (by first | (with_reducible assumption) | assumption)) q39 (Kd.R_reads' HO110.out).2.1; have hr39 := Kd.R_take (m := (t121 : Int).toNat) HO110.out (by omega); have hy39 : y122.length = (t121 : Int).toNat := (by rw [Ny122.out, List.length_take]; omega); rw [← Ny122.out] at hr39; rw [← hy39] at hr39 hcut39; clear hy39 hi039 hsz39 HO110; have HO124 := Aside0.mk hr39; clear hr39; replace q39 := eq_true q39))
            go_roundg k1
            case measure => have := HK1.out; omega
            case rel => exact ⟨(x6_1), (y122), (wrap64 (x8_1 - 1)), (by first | rfl | (simp; done) | (simp [*]; done)), H', ⟨by have := HK1.out; omega⟩, ⟨by (with_reducible repeat (first | apply Kd.R_alloc | apply Kd.R_drewN | apply Kd.R_drew)); exact Kd.R_mono HO_6.out (fun _ hk => by cases Ao37 <;> exact hk.2)⟩, ⟨by (with_reducible repeat (first | apply Kd.R_alloc | apply Kd.R_drewN | apply Kd.R_drew)); exact Kd.R_mono HO124.out (fun _ hk => hk.1)⟩, ⟨by repeat (first | (with_reducible first | exact HB.out | apply below_alloc | apply pw_below_drewN | apply below_drew1) | exact HB.out)⟩⟩
           ·rw [if_neg c32] at H
            exact absurd H (by simp)
          ·rw [if_neg c31] at H
           exact absurd H (by simp)
        ·rw [if_neg c10] at H
         exact absurd H (by simp)
       ·rw [if_neg c9] at H
        exact absurd H (by simp)
      ·rw [if_neg c8] at H
       exact absurd H (by simp)
     ·rw [if_neg c7] at H
      have c7b0 : decide (0 ≤ x8_1) = false := decide_eq_false c7
      clear c7
      simp only [Option.some.injEq, Prod.mk.injEq] at H
      obtain ⟨rfl, rfl⟩ := H
      go_wp2
      go_ret2
      exact ⟨_, _, by first | rfl | (simp [errW_none, errW_some] <;> rfl) | (simp [*, errW_none, errW_some] <;> rfl), by (with_reducible repeat (first | apply Kd.R_alloc | apply Kd.R_drewN | apply Kd.R_drew)); exact HO_6.out, by (with_reducible repeat (first | apply Kd.R_alloc | apply Kd.R_drewN | apply Kd.R_drew)); exact HO_7.out, by repeat (first | (with_reducible first | exact HB.out | apply below_alloc | apply pw_below_drewN | apply below_drew1) | exact HB.out)⟩
  ·rw [if_neg c4] at H
   exact absurd H (by simp)
 ·rw [if_neg c3] at H
  exact absurd H (by simp)
end Go.Proofs.Ytagbnkbhobmgjaa.Fn
end
section
-- Written by a program of this session (a turned copy of the kit's printer, and hand-written parts). Not trusted: Lean checks it.
namespace Go.Proofs.Ytagbnkbhobmgjaa.Fn
open Go.RowKit Go.Proofs.YtagbnkbhobmgjaaW.PrintWords Go.Proofs.YtagbnkbhobmgjaaW.PrintLast Go.Proofs.YtagbnkbhobmgjaaW.PrintMore
attribute [local go_sem] max2_int min2_int max_two min_two max_three min_three max_four min_four   -- for this text's walks alone
set_option linter.unusedVariables false
set_option linter.unusedSimpArgs false
/-! ### flyballref01_Words: function 40 -/
mutual
def flyballref01_Words.l0 : Nat → List Bool → Int → List Int → Int → Option (List Int)
 | 0, _, _, _, _ => none
 | k + 1, x0, x1, x5, x6 => if x6 < (x0.length : Int) then (flyballref01_Words.j1 k x0 x1 x5 x6 (decide (x6 < (wrap64 (64 * x1))))) else (flyballref01_Words.j1 k x0 x1 x5 x6 false)
def flyballref01_Words.j1 : Nat → List Bool → Int → List Int → Int → Bool → Option (List Int)
 | 0, _, _, _, _, _ => none
 | k + 1, x0, x1, x5, x6, x18 => if x18 = true then (if 0 ≤ x6 then (if x6 < (x0.length : Int) then (if rdOf false x0 x6 = true then (if 0 ≤ (wrap64 (Int.tdiv x6 64)) then (if (wrap64 (Int.tdiv x6 64)) < (x5.length : Int) then (if 0 ≤ (IntKind.u64.wrap (Int.tmod x6 64)) then (flyballref01_Words.l0 k x0 x1 (x5.set ((wrap64 (Int.tdiv x6 64)) : Int).toNat (Go.bits .or .u64 (rd x5 (wrap64 (Int.tdiv x6 64))) (shl .u64 1 (IntKind.u64.wrap (Int.tmod x6 64))))) (wrap64 (x6 + 1))) else (none)) else (none)) else (none)) else (flyballref01_Words.l0 k x0 x1 x5 (wrap64 (x6 + 1)))) else (none)) else (none)) else (some x5)
end
def flyballref01_Words.f (k : Nat) (l0 : List Bool) (a1 : Int) : Option (List Int) := if 0 ≤ a1 then (if (a1 : Int).toNat ≤ 35184372088832 then (flyballref01_Words.l0 k l0 a1 (List.replicate (a1 : Int).toNat 0) 0) else (none)) else (none)
theorem flyballref01_Words.mono_l : ∀ k, (∀ y0 y1 y2 y3, LeO (flyballref01_Words.l0 k y0 y1 y2 y3) (flyballref01_Words.l0 (k + 1) y0 y1 y2 y3)) ∧ (∀ y0 y1 y2 y3 y4, LeO (flyballref01_Words.j1 k y0 y1 y2 y3 y4) (flyballref01_Words.j1 (k + 1) y0 y1 y2 y3 y4))
 | 0 => ⟨fun _ _ _ _ r h => by simp [flyballref01_Words.l0] at h, fun _ _ _ _ _ r h => by simp [flyballref01_Words.j1] at h⟩
 | k + 1 => by
  obtain ⟨ih0, ih1⟩ := flyballref01_Words.mono_l k
  refine ⟨?_, ?_⟩
  ·intro y0 y1 y2 y3
   unfold flyballref01_Words.l0
   repeat' first
   | (with_reducible exact ih0 _ _ _ _)
   | (with_reducible exact ih1 _ _ _ _ _)
   | (with_reducible exact LeO.refl _)
   | (with_reducible exact LeO.none _)
   | (with_reducible refine LeO.ite ?_ ?_)
   | (with_reducible refine LeO.bind ?_ (fun _ => ?_))
   | exact ih0 _ _ _ _
   | exact ih1 _ _ _ _ _
   | exact LeO.none _
   | refine LeO.ite ?_ ?_
   | refine LeO.bind ?_ (fun _ => ?_)
  ·intro y0 y1 y2 y3 y4
   unfold flyballref01_Words.j1
   repeat' first
   | (with_reducible exact ih0 _ _ _ _)
   | (with_reducible exact ih1 _ _ _ _ _)
   | (with_reducible exact LeO.refl _)
   | (with_reducible exact LeO.none _)
   | (with_reducible refine LeO.ite ?_ ?_)
   | (with_reducible refine LeO.bind ?_ (fun _ => ?_))
   | exact ih0 _ _ _ _
   | exact ih1 _ _ _ _ _
   | exact LeO.none _
   | refine LeO.ite ?_ ?_
   | refine LeO.bind ?_ (fun _ => ?_)
theorem flyballref01_Words.mono : ∀ a0 a1 k, LeO (flyballref01_Words.f k a0 a1) (flyballref01_Words.f (k + 1) a0 a1) := by
 intro a0 a1 k
 obtain ⟨ih0, ih1⟩ := flyballref01_Words.mono_l k
 unfold flyballref01_Words.f
 repeat' first
   | (with_reducible exact ih0 _ _ _ _)
   | (with_reducible exact ih1 _ _ _ _ _)
   | (with_reducible exact LeO.refl _)
   | (with_reducible exact LeO.none _)
   | (with_reducible refine LeO.ite ?_ ?_)
   | (with_reducible refine LeO.bind ?_ (fun _ => ?_))
   | exact ih0 _ _ _ _
   | exact ih1 _ _ _ _ _
   | exact LeO.none _
   | refine LeO.ite ?_ ?_
   | refine LeO.bind ?_ (fun _ => ?_)
set_option maxHeartbeats 8000000 in
set_option maxRecDepth 100000 in
theorem flyballref01_Words.calls (k : Nat) (A0 : Option Addr) (c0 : Nat) (l0 : List Bool) (a1 : Int) (r : List Int) (w : World) (hr0 : Kd.C Kd.bool w A0 l0.length l0) (hc0 : l0.length ≤ c0) (h : flyballref01_Words.f k l0 a1 = some r) :
  Calls Try.prog 40 #[.slice A0 l0.length c0, .int .i64 a1] w fun e w' => ∃ v0_ : Value, e = .returned (v0_) ∧ Kd.R (Kd.int .u64) 47 w' w.heap.size (fun _ => True) v0_ r ∧ Below w.heap.size w w' := by
 have HR0 := Aside0.mk hr0
 have HC0 := Aside0.mk hc0
 clear hr0 hc0
 have HB := Aside0.mk (Below.refl w.heap.size w)
 have H : (if 0 ≤ a1 then (if (a1 : Int).toNat ≤ 35184372088832 then (flyballref01_Words.l0 k l0 a1 (List.replicate (a1 : Int).toNat 0) 0) else (none)) else (none)) = some r := h
 clear h
 by_cases c3 : 0 ≤ a1
 ·rw [if_pos c3] at H
  have c3b0 := eq_true c3
  have c3b1 : decide (0 ≤ a1) = true := decide_eq_true c3
  clear c3
  by_cases c4 : (a1 : Int).toNat ≤ 35184372088832
  ·rw [if_pos c4] at H
   have c4b0 := eq_true c4
   have c4b1 : decide ((a1 : Int).toNat ≤ 35184372088832) = true := decide_eq_true c4
   clear c4
   obtain ⟨y101, hy101⟩ : ∃ y_ : List Int, y_ = (List.replicate (a1 : Int).toNat 0) := ⟨_, rfl⟩
   replace H : (flyballref01_Words.l0 k l0 a1 y101 0) = some r := by first | (rw [hy101]; with_reducible exact H) | (have H2_ := (Option.bind_some _ _).symm.trans H; rw [hy101]; with_reducible exact H2_) | (have H2_ := (Option.bind_some _ _).symm.trans H; with_reducible exact H2_) | with_reducible exact H | (rw [hy101]; exact H) | exact H
   have Ny101 := Aside0.mk hy101
   clear hy101
   have H' := Aside0.mk H
   clear H
   go_enter Try.func40, Try.ntmps40
   go_wp2_with (first | ((with_reducible refine gate_dst (N := 8) rfl ?_); refine Kd.R_make (Kd.int .u64) _ 47 rfl (N := 8) rfl 45 _ _ rfl a1 rfl rfl Try.underlying45 (.int .u64 0) 8 info47 rfl (by decide) (by omega) 0 (ok := fun _ => True) (okp := fun _ => True) rfl (fun _ hk => hk) trivial (of_decide_eq_true (by first | (with_reducible assumption) | assumption)) (Nat.le_trans (Nat.mul_le_mul_right _ (of_decide_eq_true (by first | (with_reducible assumption) | assumption) : a1.toNat ≤ 35184372088832)) (by omega)) (Below.refl _ _) (Nat.le_refl _) ?_; intro v102 w5 ho6 hb hg_ hnew_; clear hg_ hnew_; (first | rw [← Ny101.out] at ho6 | (simp only [Int.reduceToNat] at ho6; rw [← Ny101.out] at ho6)); have n0_ := Aside0.mk (Kd.R_lower ho6 (below_size (by repeat (first | (with_reducible first | exact HB.out | apply below_alloc | apply pw_below_drewN | apply below_drew1) | exact HB.out)))); have n1_ := Aside0.mk (below_step (by repeat (first | (with_reducible first | exact HB.out | apply below_alloc | apply pw_below_drewN | apply below_drew1) | exact HB.out)) hb); clear HB; have HO103 := n0_; have HB := n1_; clear n0_ n1_; clear hb ho6))
   go_loopg [6] k (fun kq v6 w' => ∃ (x5_1 : List Int) (x6_1 : Int), v6 = .int .i64 x6_1 ∧ Aside0 (flyballref01_Words.l0 kq l0 a1 x5_1 x6_1 = some r) ∧ Aside0 (kq ≤ k) ∧ Aside0 (Kd.R (Kd.int .u64) 47 w' w.heap.size (fun _ => True) v102 x5_1) ∧ Aside0 (Below w.heap.size w w'))
   case atStart => exact ⟨(y101), (0), (by first | rfl | (simp; done) | (simp [*]; done)), H', ⟨Nat.le_refl _⟩, ⟨by (with_reducible repeat (first | apply Kd.R_alloc | apply Kd.R_drewN | apply Kd.R_drew)); exact HO103.out⟩, ⟨by repeat (first | (with_reducible first | exact HB.out | apply below_alloc | apply pw_below_drewN | apply below_drew1) | exact HB.out)⟩⟩
   case round =>
    clear H'
    try clear p2
    try clear c3
    try clear c3b0
    try clear c3b1
    try clear c4
    try clear c4b0
    try clear c4b1
    obtain ⟨x5_1, x6_1, rfl, HA, HK1, HO_5, HB⟩ := hrel
    cases gk with
    | zero => exact absurd HA.out (by simp [flyballref01_Words.l0])
    | succ k1 =>
     have H := HA.out
     clear HA
     simp only [flyballref01_Words.l0] at H
     have HC7 := Aside0.mk H
     clear H
     go_upto_region 3 with (fail)
     go_cut [18] (fun v18 wc => ∃ (kq : Nat) (x18_6 : Bool), v18 = .bool x18_6 ∧ Aside0 (flyballref01_Words.j1 kq l0 a1 x5_1 x6_1 x18_6 = some r) ∧ Aside0 (kq ≤ k1) ∧ Aside0 (Kd.R (Kd.int .u64) 47 wc w.heap.size (fun _ => True) v102 x5_1) ∧ Aside0 (Below w.heap.size w wc))
     case first =>
      have H := HC7.out
      clear HC7
      by_cases c8 : x6_1 < (l0.length : Int)
      ·rw [if_pos c8] at H
       have c8b0 : decide (x6_1 < (l0.length : Int)) = true := decide_eq_true c8
       clear c8
       (first | rw [c8b0] | (simp only [i64_w, i32_w]; rw [c8b0]) | skip)
       have H' := Aside0.mk H
       clear H
       go_wp2
       go_meet
       case rel => exact ⟨_, (decide (x6_1 < (wrap64 (64 * a1)))), (by first | rfl | (simp; done) | (simp [*]; done)), H', ⟨by have := HK1.out; first | omega | exact Nat.le_refl _⟩, ⟨by (with_reducible repeat (first | apply Kd.R_alloc | apply Kd.R_drewN | apply Kd.R_drew)); exact HO_5.out⟩, ⟨by repeat (first | (with_reducible first | exact HB.out | apply below_alloc | apply pw_below_drewN | apply below_drew1) | exact HB.out)⟩⟩
      ·rw [if_neg c8] at H
       have c8b0 : decide (x6_1 < (l0.length : Int)) = false := decide_eq_false c8
       clear c8
       (first | rw [c8b0] | (simp only [i64_w, i32_w]; rw [c8b0]) | skip)
       have H' := Aside0.mk H
       clear H
       go_wp2
       go_meet
       case rel => exact ⟨_, (false), (by first | rfl | (simp; done) | (simp [*]; done)), H', ⟨by have := HK1.out; first | omega | exact Nat.le_refl _⟩, ⟨by (with_reducible repeat (first | apply Kd.R_alloc | apply Kd.R_drewN | apply Kd.R_drew)); exact HO_5.out⟩, ⟨by repeat (first | (with_reducible first | exact HB.out | apply below_alloc | apply pw_below_drewN | apply below_drew1) | exact HB.out)⟩⟩
     case rest =>
      clear HC7
      try clear p2
      try clear c3
      try clear c3b0
      try clear c3b1
      try clear c4
      try clear c4b0
      try clear c4b1
      try clear p6
      try clear c8
      try clear c8b0
      try clear p2
      obtain ⟨kq, x18_6, rfl, HA, HJ6, HO_5, HB⟩ := hcut
      cases kq with
      | zero => exact absurd HA.out (by simp [flyballref01_Words.j1])
      | succ kj6 =>
       have H := HA.out
       clear HA
       simp only [flyballref01_Words.j1] at H
       by_cases c9 : x18_6 = true
       ·subst c9
        have H1 : (if 0 ≤ x6_1 then (if x6_1 < (l0.length : Int) then (if rdOf false l0 x6_1 = true then (if 0 ≤ (wrap64 (Int.tdiv x6_1 64)) then (if (wrap64 (Int.tdiv x6_1 64)) < (x5_1.length : Int) then (if 0 ≤ (IntKind.u64.wrap (Int.tmod x6_1 64)) then (flyballref01_Words.l0 kj6 l0 a1 (x5_1.set ((wrap64 (Int.tdiv x6_1 64)) : Int).toNat (Go.bits .or .u64 (rd x5_1 (wrap64 (Int.tdiv x6_1 64))) (shl .u64 1 (IntKind.u64.wrap (Int.tmod x6_1 64))))) (wrap64 (x6_1 + 1))) else (none)) else (none)) else (none)) else (flyballref01_Words.l0 kj6 l0 a1 x5_1 (wrap64 (x6_1 + 1)))) else (none)) else (none)) = some r := by rw [if_pos rfl] at H; exact H
        clear H
        have H := H1
        clear H1
        by_cases c10 : 0 ≤ x6_1
        ·rw [if_pos c10] at H
         have c10b0 : decide (0 ≤ x6_1) = true := decide_eq_true c10
         clear c10
         by_cases c11 : x6_1 < (l0.length : Int)
         ·rw [if_pos c11] at H
          have c11b0 : decide (x6_1 < (l0.length : Int)) = true := decide_eq_true c11
          clear c11
          obtain ⟨bq12, hbq12⟩ : ∃ b_ : Bool, b_ = (rdOf false l0 x6_1) := ⟨_, rfl⟩
          replace H : (if bq12 = true then (if 0 ≤ (wrap64 (Int.tdiv x6_1 64)) then (if (wrap64 (Int.tdiv x6_1 64)) < (x5_1.length : Int) then (if 0 ≤ (IntKind.u64.wrap (Int.tmod x6_1 64)) then (flyballref01_Words.l0 kj6 l0 a1 (x5_1.set ((wrap64 (Int.tdiv x6_1 64)) : Int).toNat (Go.bits .or .u64 (rd x5_1 (wrap64 (Int.tdiv x6_1 64))) (shl .u64 1 (IntKind.u64.wrap (Int.tmod x6_1 64))))) (wrap64 (x6_1 + 1))) else (none)) else (none)) else (none)) else (flyballref01_Words.l0 kj6 l0 a1 x5_1 (wrap64 (x6_1 + 1)))) = some r := by rw [← hbq12] at H; exact H
          have Nbq12 := Aside0.mk hbq12
          clear hbq12
          by_cases c13 : bq12 = true
          ·subst c13
           have H1 : (if 0 ≤ (wrap64 (Int.tdiv x6_1 64)) then (if (wrap64 (Int.tdiv x6_1 64)) < (x5_1.length : Int) then (if 0 ≤ (IntKind.u64.wrap (Int.tmod x6_1 64)) then (flyballref01_Words.l0 kj6 l0 a1 (x5_1.set ((wrap64 (Int.tdiv x6_1 64)) : Int).toNat (Go.bits .or .u64 (rd x5_1 (wrap64 (Int.tdiv x6_1 64))) (shl .u64 1 (IntKind.u64.wrap (Int.tmod x6_1 64))))) (wrap64 (x6_1 + 1))) else (none)) else (none)) else (none)) = some r := by rw [if_pos rfl] at H; exact H
           clear H
           have H := H1
           clear H1
           obtain ⟨ji14, hji14⟩ : ∃ j_ : Int, (wrap64 (Int.tdiv x6_1 64)) = j_ := ⟨_, rfl⟩
           replace H : (if 0 ≤ (ji14) then (if (ji14) < (x5_1.length : Int) then (if 0 ≤ (IntKind.u64.wrap (Int.tmod x6_1 64)) then (flyballref01_Words.l0 kj6 l0 a1 (x5_1.set ((ji14) : Int).toNat (Go.bits .or .u64 (rd x5_1 (ji14)) (shl .u64 1 (IntKind.u64.wrap (Int.tmod x6_1 64))))) (wrap64 (x6_1 + 1))) else (none)) else (none)) else (none)) = some r := by first | (rw [hji14] at H; exact H) | (simp only [hji14] at H ⊢; exact H)
           have hji14w : (IntKind.i64.wrap (Int.tdiv x6_1 64)) = ji14 := (i64_w _).trans hji14
           by_cases c15 : 0 ≤ (ji14)
           ·rw [if_pos c15] at H
            have c15b0 : decide (0 ≤ (ji14)) = true := decide_eq_true c15
            clear c15
            by_cases c16 : (ji14) < (x5_1.length : Int)
            ·rw [if_pos c16] at H
             have c16b0 : decide ((ji14) < (x5_1.length : Int)) = true := decide_eq_true c16
             clear c16
             obtain ⟨ji17, hji17⟩ : ∃ j_ : Int, (IntKind.u64.wrap (Int.tmod x6_1 64)) = j_ := ⟨_, rfl⟩
             replace H : (if 0 ≤ (ji17) then (flyballref01_Words.l0 kj6 l0 a1 (x5_1.set ((ji14) : Int).toNat (Go.bits .or .u64 (rd x5_1 (ji14)) (shl .u64 1 (ji17)))) (wrap64 (x6_1 + 1))) else (none)) = some r := by first | (rw [hji17] at H; exact H) | (simp only [hji17] at H ⊢; exact H)
             by_cases c18 : 0 ≤ (ji17)
             ·rw [if_pos c18] at H
              have c18b0 := eq_true c18
              have c18b1 : decide (0 ≤ (ji17)) = true := decide_eq_true c18
              clear c18
              obtain ⟨ji19, hji19⟩ : ∃ j_ : Int, (shl .u64 1 (ji17)) = j_ := ⟨_, rfl⟩
              replace H : (flyballref01_Words.l0 kj6 l0 a1 (x5_1.set ((ji14) : Int).toNat (Go.bits .or .u64 (rd x5_1 (ji14)) (ji19))) (wrap64 (x6_1 + 1))) = some r := by first | (rw [hji19] at H; exact H) | (simp only [hji19] at H ⊢; exact H)
              have hji19_ : (IntKind.u64.wrap (1 * 2 ^ min (ji17).toNat 64)) = ji19 := hji19
              have hji19z : (ji17) ≤ 64 → (IntKind.u64.wrap (1 * 2 ^ (ji17).toNat)) = ji19 := shl_small hji19
              have hji19u : (IntKind.u64.wrap (2 ^ min (ji17).toNat 64)) = ji19 := by have h_ := hji19_; rw [Int.one_mul] at h_; exact h_
              have hji19v : (ji17) ≤ 64 → (IntKind.u64.wrap (2 ^ (ji17).toNat)) = ji19 := fun hle_ => by have h_ := hji19z hle_; rw [Int.one_mul] at h_; exact h_
              obtain ⟨y106, hy106⟩ : ∃ y_ : List Int, y_ = (x5_1.set ((ji14) : Int).toNat (Go.bits .or .u64 (rd x5_1 (ji14)) (ji19))) := ⟨_, rfl⟩
              replace H : (flyballref01_Words.l0 kj6 l0 a1 y106 (wrap64 (x6_1 + 1))) = some r := by first | (rw [hy106]; with_reducible exact H) | (have H2_ := (Option.bind_some _ _).symm.trans H; rw [hy106]; with_reducible exact H2_) | (have H2_ := (Option.bind_some _ _).symm.trans H; with_reducible exact H2_) | with_reducible exact H | (rw [hy106]; exact H) | exact H
              have Ny106 := Aside0.mk hy106
              clear hy106
              have H' := Aside0.mk H
              clear H
              have p104 : 0 ≤ (x6_1 : Int) := of_decide_eq_true (by first | (with_reducible assumption) | assumption)
              have q104 : x6_1 < (l0.length : Int) := of_decide_eq_true (by first | (with_reducible assumption) | assumption)
              obtain ⟨ad104, e104, hx104_0⟩ := Kd.at_bool HR0.out x6_1 p104 q104
              (try rw [← Nbq12.out] at hx104_0)
              cases e104
              replace hx104_0 := (HB.out.cell (World.block_lt_of_cell? w _ hx104_0)).trans hx104_0
              replace p104 := eq_true p104
              replace q104 := eq_true q104
              obtain ⟨Ao21, co21, eo21⟩ := Kd.R_slice HO_5.out
              subst eo21
              have p105 : 0 ≤ ((ji14) : Int) := of_decide_eq_true (by first | (with_reducible assumption) | assumption)
              have q105 : (ji14) < (x5_1.length : Int) := of_decide_eq_true (by first | (with_reducible assumption) | assumption)
              obtain ⟨ad105, e105, hx105_0⟩ := Kd.at_int (Kd.R_reads' HO_5.out).2.2 (ji14) p105 q105
              cases e105
              replace p105 := eq_true p105
              replace q105 := eq_true q105
              have p20 : 0 ≤ ((ji14) : Int) := of_decide_eq_true (by first | (with_reducible assumption) | assumption)
              have q20 : ((ji14) : Int) < ((x5_1.length : Int) : Int) := of_decide_eq_true (by first | (with_reducible assumption) | assumption)
              obtain ⟨go20, co20, eo20, gb20, gl20, cl20, HG20⟩ := Kd.R_form HO_5.out (by omega)
              (first | cases eo20 | (injection eo20 with ea_ en_ ec_; (first | subst ea_ | (injection ea_ with ea_; subst ea_)); subst ec_; clear en_))
              have GB20 := Aside0.mk gb20
              have GG20 := Aside0.mk HG20
              clear gb20 gl20 HG20
              (first | simp only [add_plain] at hx105_0 | skip)
              obtain ⟨hx20_0, hf20_0⟩ := Kd.R_celln 0 HO_5.out ((ji14) : Int) p20 q20
              replace p20 := eq_true p20
              replace q20 := eq_true q20
              have HP22 := Kd.R_putg HO_5.out ((ji14) : Int) (Go.bits .or .u64 (rd x5_1 (ji14)) (ji19))
              go_wp2_with (first | ((with_reducible refine gate_store (t := 47) (p := 38) rfl ?_); refine store_event (t := 47) (p := 38) (v := ?vo_w23) (w1 := (wc.setCell ⟨go20, ((ji14) : Int).toNat, none⟩ (.int .u64 (Go.bits .or .u64 (rd x5_1 (ji14)) (ji19))))) ?hg ?ho ?hn ?hr ?_; (case ho => rfl); (case hg => rfl); (case hn => rfl); (case hr => first | (go_simp; done) | (go_simp; rfl)); intro w23 hw; have hg : wc.grownBy w23 (some go20) := (by rw [hw]; exact HP22.2); have hp_ : Kd.R (Kd.int .u64) 47 w23 w.heap.size (fun _ => True) (.slice (some ⟨go20, 0, none⟩) x5_1.length co21) y106 := (by rw [hw, Ny106.out]; exact HP22.1); clear HP22; have n0_ := Aside0.mk (hp_); have n1_ := Aside0.mk ((by rw [hw]; exact below_set (HB.out) GB20.out : Below w.heap.size w w23)); clear HO_5; clear HB; have HO_5 := n0_; have HB := n1_; clear n0_ n1_; clear hg hw hp_))
              go_roundg kj6
              case measure => have := HK1.out; have := HJ6.out; omega
              case rel => exact ⟨(y106), (wrap64 (x6_1 + 1)), (by first | rfl | (simp; done) | (simp [*]; done)), H', ⟨by have := HK1.out; have := HJ6.out; omega⟩, ⟨by (with_reducible repeat (first | apply Kd.R_alloc | apply Kd.R_drewN | apply Kd.R_drew)); exact HO_5.out⟩, ⟨by repeat (first | (with_reducible first | exact HB.out | apply below_alloc | apply pw_below_drewN | apply below_drew1) | exact HB.out)⟩⟩
             ·rw [if_neg c18] at H
              exact absurd H (by simp)
            ·rw [if_neg c16] at H
             exact absurd H (by simp)
           ·rw [if_neg c15] at H
            exact absurd H (by simp)
          ·replace c13 := Bool.eq_false_iff.mpr c13
           subst c13
           have H1 : (flyballref01_Words.l0 kj6 l0 a1 x5_1 (wrap64 (x6_1 + 1))) = some r := by rw [if_neg (show ¬ (false = true) by decide)] at H; exact H
           clear H
           have H := H1
           clear H1
           have H' := Aside0.mk H
           clear H
           have p104 : 0 ≤ (x6_1 : Int) := of_decide_eq_true (by first | (with_reducible assumption) | assumption)
           have q104 : x6_1 < (l0.length : Int) := of_decide_eq_true (by first | (with_reducible assumption) | assumption)
           obtain ⟨ad104, e104, hx104_0⟩ := Kd.at_bool HR0.out x6_1 p104 q104
           (try rw [← Nbq12.out] at hx104_0)
           cases e104
           replace hx104_0 := (HB.out.cell (World.block_lt_of_cell? w _ hx104_0)).trans hx104_0
           replace p104 := eq_true p104
           replace q104 := eq_true q104
           go_wp2
           go_roundg kj6
           case measure => have := HK1.out; have := HJ6.out; omega
           case rel => exact ⟨(x5_1), (wrap64 (x6_1 + 1)), (by first | rfl | (simp; done) | (simp [*]; done)), H', ⟨by have := HK1.out; have := HJ6.out; omega⟩, ⟨by (with_reducible repeat (first | apply Kd.R_alloc | apply Kd.R_drewN | apply Kd.R_drew)); exact HO_5.out⟩, ⟨by repeat (first | (with_reducible first | exact HB.out | apply below_alloc | apply pw_below_drewN | apply below_drew1) | exact HB.out)⟩⟩
         ·rw [if_neg c11] at H
          exact absurd H (by simp)
        ·rw [if_neg c10] at H
         exact absurd H (by simp)
       ·replace c9 := Bool.eq_false_iff.mpr c9
        subst c9
        have H1 : (some x5_1) = some r := by rw [if_neg (show ¬ (false = true) by decide)] at H; exact H
        clear H
        have H := H1
        clear H1
        obtain rfl := Option.some.inj H
        go_wp2
        go_ret
        exact ⟨_, by first | rfl | (simp [errW_none, errW_some] <;> rfl) | (simp [*, errW_none, errW_some] <;> rfl), by (with_reducible repeat (first | apply Kd.R_alloc | apply Kd.R_drewN | apply Kd.R_drew)); exact HO_5.out, by repeat (first | (with_reducible first | exact HB.out | apply below_alloc | apply pw_below_drewN | apply below_drew1) | exact HB.out)⟩
  ·rw [if_neg c4] at H
   exact absurd H (by simp)
 ·rw [if_neg c3] at H
  exact absurd H (by simp)
end Go.Proofs.Ytagbnkbhobmgjaa.Fn
end
section
-- Written by a program of this session (a turned copy of the kit's printer, and hand-written parts). Not trusted: Lean checks it.
namespace Go.Proofs.Ytagbnkbhobmgjaa.Fn
open Go.RowKit Go.Proofs.YtagbnkbhobmgjaaW.PrintWords Go.Proofs.YtagbnkbhobmgjaaW.PrintLast Go.Proofs.YtagbnkbhobmgjaaW.PrintMore
attribute [local go_sem] max2_int min2_int max_two min_two max_three min_three max_four min_four   -- for this text's walks alone
set_option linter.unusedVariables false
set_option linter.unusedSimpArgs false
/-! ### flyballref01_Of: function 51 -/
mutual
def flyballref01_Of.l0 : Nat → List Int → List Bool → Int → Option (List Bool)
 | 0, _, _, _ => none
 | k + 1, x0, x3, x4 => if x4 < (x0.length : Int) then (flyballref01_Of.l1 k x0 x3 x4 0) else (some x3)
def flyballref01_Of.l1 : Nat → List Int → List Bool → Int → Int → Option (List Bool)
 | 0, _, _, _, _ => none
 | k + 1, x0, x3, x4, x5 => if x5 < 64 then (if 0 ≤ x4 then (if x4 < (x0.length : Int) then (if 0 ≤ (IntKind.u64.wrap (x5)) then (if x3.length < 140737488355328 then (flyballref01_Of.l1 k x0 (x3 ++ [((Go.bits .and .u64 (shr .u64 (rd x0 x4) (IntKind.u64.wrap (x5))) 1) == 1)]) x4 (wrap64 (x5 + 1))) else (none)) else (none)) else (none)) else (none)) else (flyballref01_Of.l0 k x0 x3 (wrap64 (x4 + 1)))
end
def flyballref01_Of.f (k : Nat) (l0 : List Int) : Option (List Bool) := flyballref01_Of.l0 k l0 ([] : List Bool) 0
theorem flyballref01_Of.mono_l : ∀ k, (∀ y0 y1 y2, LeO (flyballref01_Of.l0 k y0 y1 y2) (flyballref01_Of.l0 (k + 1) y0 y1 y2)) ∧ (∀ y0 y1 y2 y3, LeO (flyballref01_Of.l1 k y0 y1 y2 y3) (flyballref01_Of.l1 (k + 1) y0 y1 y2 y3))
 | 0 => ⟨fun _ _ _ r h => by simp [flyballref01_Of.l0] at h, fun _ _ _ _ r h => by simp [flyballref01_Of.l1] at h⟩
 | k + 1 => by
  obtain ⟨ih0, ih1⟩ := flyballref01_Of.mono_l k
  refine ⟨?_, ?_⟩
  ·intro y0 y1 y2
   unfold flyballref01_Of.l0
   repeat' first
   | (with_reducible exact ih0 _ _ _)
   | (with_reducible exact ih1 _ _ _ _)
   | (with_reducible exact LeO.refl _)
   | (with_reducible exact LeO.none _)
   | (with_reducible refine LeO.ite ?_ ?_)
   | (with_reducible refine LeO.bind ?_ (fun _ => ?_))
   | exact ih0 _ _ _
   | exact ih1 _ _ _ _
   | exact LeO.none _
   | refine LeO.ite ?_ ?_
   | refine LeO.bind ?_ (fun _ => ?_)
  ·intro y0 y1 y2 y3
   unfold flyballref01_Of.l1
   repeat' first
   | (with_reducible exact ih0 _ _ _)
   | (with_reducible exact ih1 _ _ _ _)
   | (with_reducible exact LeO.refl _)
   | (with_reducible exact LeO.none _)
   | (with_reducible refine LeO.ite ?_ ?_)
   | (with_reducible refine LeO.bind ?_ (fun _ => ?_))
   | exact ih0 _ _ _
   | exact ih1 _ _ _ _
   | exact LeO.none _
   | refine LeO.ite ?_ ?_
   | refine LeO.bind ?_ (fun _ => ?_)
theorem flyballref01_Of.mono : ∀ a0 k, LeO (flyballref01_Of.f k a0) (flyballref01_Of.f (k + 1) a0) := by
 intro a0 k
 obtain ⟨ih0, ih1⟩ := flyballref01_Of.mono_l k
 unfold flyballref01_Of.f
 repeat' first
   | (with_reducible exact ih0 _ _ _)
   | (with_reducible exact ih1 _ _ _ _)
   | (with_reducible exact LeO.refl _)
   | (with_reducible exact LeO.none _)
   | (with_reducible refine LeO.ite ?_ ?_)
   | (with_reducible refine LeO.bind ?_ (fun _ => ?_))
   | exact ih0 _ _ _
   | exact ih1 _ _ _ _
   | exact LeO.none _
   | refine LeO.ite ?_ ?_
   | refine LeO.bind ?_ (fun _ => ?_)
set_option maxHeartbeats 8000000 in
set_option maxRecDepth 100000 in
theorem flyballref01_Of.calls (k : Nat) (A0 : Option Addr) (c0 : Nat) (l0 : List Int) (r : List Bool) (w : World) (hr0 : Kd.C (Kd.int .u64) w A0 l0.length l0) (hc0 : l0.length ≤ c0) (h : flyballref01_Of.f k l0 = some r) :
  Calls Try.prog 51 #[.slice A0 l0.length c0] w fun e w' => ∃ v0_ : Value, e = .returned (v0_) ∧ Kd.R Kd.bool 4 w' w.heap.size (fun _ => True) v0_ r ∧ Below w.heap.size w w' := by
 have HR0 := Aside0.mk hr0
 have HC0 := Aside0.mk hc0
 clear hr0 hc0
 have HB := Aside0.mk (Below.refl w.heap.size w)
 have H : (flyballref01_Of.l0 k l0 ([] : List Bool) 0) = some r := h
 clear h
 have H' := Aside0.mk H
 clear H
 go_enter Try.func51, Try.ntmps51
 go_wp2
 go_loopg [3, 4] k (fun kq v3 v4 w' => ∃ (x3_1 : List Bool) (x4_1 : Int), v4 = .int .i64 x4_1 ∧ Aside0 (flyballref01_Of.l0 kq l0 x3_1 x4_1 = some r) ∧ Aside0 (kq ≤ k) ∧ Aside0 (Kd.R Kd.bool 4 w' w.heap.size (fun _ => True) v3 x3_1) ∧ Aside0 (Below w.heap.size w w'))
 case atStart => exact ⟨(([] : List Bool)), (0), (by first | rfl | (simp; done) | (simp [*]; done)), H', ⟨Nat.le_refl _⟩, ⟨by first | exact Kd.R_nil _ _ _ _ _ | exact Kd.N_nil _ _ _ _ _ | exact Kd.V_nil _ _ _ _ _ | exact Kd.Q_nil _ _ _ _ _ | exact Kd.S_nil _ _ _ _ _⟩, ⟨by repeat (first | (with_reducible first | exact HB.out | apply below_alloc | apply pw_below_drewN | apply below_drew1) | exact HB.out)⟩⟩
 case round =>
  clear H'
  obtain ⟨x3_1, x4_1, rfl, HA, HK1, HO_3, HB⟩ := hrel
  cases gk with
  | zero => exact absurd HA.out (by simp [flyballref01_Of.l0])
  | succ k1 =>
   have H := HA.out
   clear HA
   simp only [flyballref01_Of.l0] at H
   by_cases c2 : x4_1 < (l0.length : Int)
   ·rw [if_pos c2] at H
    have c2b0 : decide (x4_1 < (l0.length : Int)) = true := decide_eq_true c2
    clear c2
    have H' := Aside0.mk H
    clear H
    go_wp2
    go_loopg [3, 5] k1 (fun kq v3 v5 w' => ∃ (x3_2 : List Bool) (x5_2 : Int), v5 = .int .i64 x5_2 ∧ Aside0 (flyballref01_Of.l1 kq l0 x3_2 x4_1 x5_2 = some r) ∧ Aside0 (kq ≤ k1) ∧ Aside0 (Kd.R Kd.bool 4 w' w.heap.size (fun _ => True) v3 x3_2) ∧ Aside0 (Below w.heap.size w w'))
    case atStart => exact ⟨(x3_1), (0), (by first | rfl | (simp; done) | (simp [*]; done)), H', ⟨Nat.le_refl _⟩, ⟨by (with_reducible repeat (first | apply Kd.R_alloc | apply Kd.R_drewN | apply Kd.R_drew)); exact HO_3.out⟩, ⟨by repeat (first | (with_reducible first | exact HB.out | apply below_alloc | apply pw_below_drewN | apply below_drew1) | exact HB.out)⟩⟩
    case round =>
     clear H'
     try clear c2
     try clear c2b0
     try clear p2
     obtain ⟨x3_2, x5_2, rfl, HA, HK2, HO_3, HB⟩ := hrel
     cases gk with
     | zero => exact absurd HA.out (by simp [flyballref01_Of.l1])
     | succ k2 =>
      have H := HA.out
      clear HA
      simp only [flyballref01_Of.l1] at H
      by_cases c3 : x5_2 < 64
      ·rw [if_pos c3] at H
       have c3b0 : decide (x5_2 < 64) = true := decide_eq_true c3
       clear c3
       by_cases c4 : 0 ≤ x4_1
       ·rw [if_pos c4] at H
        have c4b0 : decide (0 ≤ x4_1) = true := decide_eq_true c4
        clear c4
        by_cases c5 : x4_1 < (l0.length : Int)
        ·rw [if_pos c5] at H
         have c5b0 : decide (x4_1 < (l0.length : Int)) = true := decide_eq_true c5
         clear c5
         obtain ⟨ji6, hji6⟩ : ∃ j_ : Int, (IntKind.u64.wrap (x5_2)) = j_ := ⟨_, rfl⟩
         replace H : (if 0 ≤ (ji6) then (if x3_2.length < 140737488355328 then (flyballref01_Of.l1 k2 l0 (x3_2 ++ [((Go.bits .and .u64 (shr .u64 (rd l0 x4_1) (ji6)) 1) == 1)]) x4_1 (wrap64 (x5_2 + 1))) else (none)) else (none)) = some r := by first | (rw [hji6] at H; exact H) | (simp only [hji6] at H ⊢; exact H)
         by_cases c7 : 0 ≤ (ji6)
         ·rw [if_pos c7] at H
          have c7b0 := eq_true c7
          have c7b1 : decide (0 ≤ (ji6)) = true := decide_eq_true c7
          clear c7
          obtain ⟨ji8, hji8⟩ : ∃ j_ : Int, (shr .u64 (rd l0 x4_1) (ji6)) = j_ := ⟨_, rfl⟩
          replace H : (if x3_2.length < 140737488355328 then (flyballref01_Of.l1 k2 l0 (x3_2 ++ [((Go.bits .and .u64 (ji8) 1) == 1)]) x4_1 (wrap64 (x5_2 + 1))) else (none)) = some r := by first | (rw [hji8] at H; exact H) | (simp only [hji8] at H ⊢; exact H)
          have hji8_ : ((rd l0 x4_1) / 2 ^ min (ji6).toNat 64) = ji8 := hji8
          have hji8z : (ji6) ≤ 64 → ((rd l0 x4_1) / 2 ^ (ji6).toNat) = ji8 := shr_small hji8
          by_cases c9 : x3_2.length < 140737488355328
          ·rw [if_pos c9] at H
           have LMc9 := Aside0.mk c9
           clear c9
           obtain ⟨y102, hy102⟩ : ∃ y_ : List Bool, y_ = (x3_2 ++ [((Go.bits .and .u64 (ji8) 1) == 1)]) := ⟨_, rfl⟩
           replace H : (flyballref01_Of.l1 k2 l0 y102 x4_1 (wrap64 (x5_2 + 1))) = some r := by first | (rw [hy102]; with_reducible exact H) | (have H2_ := (Option.bind_some _ _).symm.trans H; rw [hy102]; with_reducible exact H2_) | (have H2_ := (Option.bind_some _ _).symm.trans H; with_reducible exact H2_) | with_reducible exact H | (rw [hy102]; exact H) | exact H
           have Ny102 := Aside0.mk hy102
           clear hy102
           have H' := Aside0.mk H
           clear H
           have p101 : 0 ≤ (x4_1 : Int) := of_decide_eq_true (by first | (with_reducible assumption) | assumption)
           have q101 : x4_1 < (l0.length : Int) := of_decide_eq_true (by first | (with_reducible assumption) | assumption)
           obtain ⟨ad101, e101, hx101_0⟩ := Kd.at_int HR0.out x4_1 p101 q101
           cases e101
           replace hx101_0 := (HB.out.cell (World.block_lt_of_cell? w _ hx101_0)).trans hx101_0
           replace p101 := eq_true p101
           replace q101 := eq_true q101
           go_wp2_with (first | ((with_reducible refine gate_builtin (b := .append) (xs := #[.tmp 16, .tmp 26]) rfl ?_); at_builtin; refine Kd.R_append Kd.bool (w0 := w) w.heap.size rfl (.tmp 16) (.tmp 26) 26 4 (.bool false) 1 rfl Try.underlying26 info4 rfl (by decide) (by omega) u3 x3_2 ((Go.bits .and .u64 (ji8) 1) == 1) [.bool ((Go.bits .and .u64 (ji8) 1) == 1)] (fun _ => True) (fun _ => False) rfl rfl ?aP (fun _ hk => hk.elim) ?aF ?aO ?aB ?aS ?aL ?_; (case aP => exact rfl); (case aB => exact (by repeat (first | (with_reducible first | exact HB.out | apply below_alloc | apply pw_below_drewN | apply below_drew1) | exact HB.out))); (case aF => exact (fun _ _ => trivial)); (case aO => exact (by (with_reducible repeat (first | apply Kd.R_alloc | apply Kd.R_drewN | apply Kd.R_drew)); exact HO_3.out)); (case aS => exact (below_size (by repeat (first | (with_reducible first | exact HB.out | apply below_alloc | apply pw_below_drewN | apply below_drew1) | exact HB.out)))); (case aL => have := LMc9.out; omega); intro v103 w10 ho hb hg hat; rw [← Ny102.out] at ho; have n0_ := Aside0.mk (hb); have n1_ := Aside0.mk (ho); clear HB; clear HO_3; have HB := n0_; have HO104 := n1_; clear n0_ n1_; clear ho hb hg hat))
           go_roundg k2
           case measure => have := HK1.out; have := HK2.out; omega
           case rel => exact ⟨(y102), (wrap64 (x5_2 + 1)), (by first | rfl | (simp; done) | (simp [*]; done)), H', ⟨by have := HK1.out; have := HK2.out; omega⟩, ⟨by (with_reducible repeat (first | apply Kd.R_alloc | apply Kd.R_drewN | apply Kd.R_drew)); exact HO104.out⟩, ⟨by repeat (first | (with_reducible first | exact HB.out | apply below_alloc | apply pw_below_drewN | apply below_drew1) | exact HB.out)⟩⟩
          ·rw [if_neg c9] at H
           exact absurd H (by simp)
         ·rw [if_neg c7] at H
          exact absurd H (by simp)
        ·rw [if_neg c5] at H
         exact absurd H (by simp)
       ·rw [if_neg c4] at H
        exact absurd H (by simp)
      ·rw [if_neg c3] at H
       have c3b0 : decide (x5_2 < 64) = false := decide_eq_false c3
       clear c3
       have H' := Aside0.mk H
       clear H
       go_wp2
       go_roundg k2
       case measure => have := HK1.out; have := HK2.out; omega
       case rel => exact ⟨(x3_2), (wrap64 (x4_1 + 1)), (by first | rfl | (simp; done) | (simp [*]; done)), H', ⟨by have := HK1.out; have := HK2.out; omega⟩, ⟨by (with_reducible repeat (first | apply Kd.R_alloc | apply Kd.R_drewN | apply Kd.R_drew)); exact HO_3.out⟩, ⟨by repeat (first | (with_reducible first | exact HB.out | apply below_alloc | apply pw_below_drewN | apply below_drew1) | exact HB.out)⟩⟩
   ·rw [if_neg c2] at H
    have c2b0 : decide (x4_1 < (l0.length : Int)) = false := decide_eq_false c2
    clear c2
    obtain rfl := Option.some.inj H
    go_wp2
    go_ret
    exact ⟨_, by first | rfl | (simp [errW_none, errW_some] <;> rfl) | (simp [*, errW_none, errW_some] <;> rfl), by (with_reducible repeat (first | apply Kd.R_alloc | apply Kd.R_drewN | apply Kd.R_drew)); exact HO_3.out, by repeat (first | (with_reducible first | exact HB.out | apply below_alloc | apply pw_below_drewN | apply below_drew1) | exact HB.out)⟩
end Go.Proofs.Ytagbnkbhobmgjaa.Fn
end
section
-- Written by a program of this session (a turned copy of the kit's printer, and hand-written parts). Not trusted: Lean checks it.
namespace Go.Proofs.Ytagbnkbhobmgjaa.Fn
open Go.RowKit Go.Proofs.YtagbnkbhobmgjaaW.PrintWords Go.Proofs.YtagbnkbhobmgjaaW.PrintLast Go.Proofs.YtagbnkbhobmgjaaW.PrintMore
attribute [local go_sem] max2_int min2_int max_two min_two max_three min_three max_four min_four   -- for this text's walks alone
set_option linter.unusedVariables false
set_option linter.unusedSimpArgs false
/-! ### flyballref02_Text: function 48 -/
def flyballref02_Text.l0 : Nat → List Bool → List Bool → ByteArray → Option (ByteArray)
 | 0, _, _, _ => none
 | k + 1, x0, x3, x4 => (flyballref01_Len.f k x0).bind fun t107 => (if t107 > 0 then ((flyballref01_Div.f k x0 x3).bind fun bt108 => ((flyballref01_Words.f k bt108.2 1).bind fun t114 => (if 0 < (t114.length : Int) then ((some (([(IntKind.u64.wrap (48 + (rd t114 0))) % 256] : List Int) : List Int)).bind fun y118 => (if (strOfNums y118).size + x4.size ≤ 9223372036854775807 then ((flyballref01_Len.f k bt108.1).bind fun t121 => (if 0 ≤ t121 then (if t121 ≤ (bt108.1.length : Int) then (flyballref02_Text.l0 k (bt108.1.take (t121 : Int).toNat) x3 ((strOfNums y118) ++ x4)) else (none)) else (none))) else (none))) else (none)))) else (if x4.toList = ([] : List UInt8) then (some (⟨#[48]⟩ : ByteArray)) else (some x4)))
def flyballref02_Text.f (k : Nat) (l0 : List Bool) : Option (ByteArray) := (flyballref01_Of.f k (([10] : List Int))).bind fun t104 => (flyballref02_Text.l0 k l0 t104 (⟨#[]⟩ : ByteArray))
theorem flyballref02_Text.mono_l : ∀ k, (∀ y0 y1 y2, LeO (flyballref02_Text.l0 k y0 y1 y2) (flyballref02_Text.l0 (k + 1) y0 y1 y2))
 | 0 => fun _ _ _ r h => by simp [flyballref02_Text.l0] at h
 | k + 1 => by
  have ih0 := flyballref02_Text.mono_l k
  ·intro y0 y1 y2
   unfold flyballref02_Text.l0
   repeat' first
   | (with_reducible exact ih0 _ _ _)
   | (with_reducible exact flyballref01_Div.mono _ _ _)
   | (with_reducible exact flyballref01_Len.mono _ _)
   | (with_reducible exact flyballref01_Of.mono _ _)
   | (with_reducible exact flyballref01_Words.mono _ _ _)
   | (with_reducible exact LeO.refl _)
   | (with_reducible exact LeO.none _)
   | (with_reducible refine LeO.ite ?_ ?_)
   | (with_reducible refine LeO.bind ?_ (fun _ => ?_))
   | exact ih0 _ _ _
   | exact flyballref01_Div.mono _ _ _
   | exact flyballref01_Len.mono _ _
   | exact flyballref01_Of.mono _ _
   | exact flyballref01_Words.mono _ _ _
   | exact LeO.none _
   | refine LeO.ite ?_ ?_
   | refine LeO.bind ?_ (fun _ => ?_)
theorem flyballref02_Text.mono : ∀ a0 k, LeO (flyballref02_Text.f k a0) (flyballref02_Text.f (k + 1) a0) := by
 intro a0 k
 have ih0 := flyballref02_Text.mono_l k
 unfold flyballref02_Text.f
 repeat' first
   | (with_reducible exact ih0 _ _ _)
   | (with_reducible exact flyballref01_Div.mono _ _ _)
   | (with_reducible exact flyballref01_Len.mono _ _)
   | (with_reducible exact flyballref01_Of.mono _ _)
   | (with_reducible exact flyballref01_Words.mono _ _ _)
   | (with_reducible exact LeO.refl _)
   | (with_reducible exact LeO.none _)
   | (with_reducible refine LeO.ite ?_ ?_)
   | (with_reducible refine LeO.bind ?_ (fun _ => ?_))
   | exact ih0 _ _ _
   | exact flyballref01_Div.mono _ _ _
   | exact flyballref01_Len.mono _ _
   | exact flyballref01_Of.mono _ _
   | exact flyballref01_Words.mono _ _ _
   | exact LeO.none _
   | refine LeO.ite ?_ ?_
   | refine LeO.bind ?_ (fun _ => ?_)
set_option maxHeartbeats 8000000 in
set_option maxRecDepth 100000 in
theorem flyballref02_Text.calls (k : Nat) (P0_ : Nat → Prop) (A0 : Option Addr) (c0 : Nat) (l0 : List Bool) (r : ByteArray) (w : World) (hs0 : Kd.V Kd.bool 4 w w.heap.size (fun k_ => P0_ k_) (.slice A0 l0.length c0) l0) (h : flyballref02_Text.f k l0 = some r) :
  Calls Try.prog 48 #[.slice A0 l0.length c0] w fun e w' => e = .returned (.string r) ∧ Below w.heap.size w w' := by
 have HO0 := Aside0.mk (show Kd.V Kd.bool 4 w w.heap.size (fun k_ => (P0_ k_ ∨ w.heap.size ≤ k_)) (.slice A0 l0.length c0) l0 from Kd.V_mono hs0 (fun k_ hk => .inl hk))
 have HB := Aside0.mk (Below.refl w.heap.size w)
 have H : ((flyballref01_Of.f k (([10] : List Int))).bind fun t104 => (flyballref02_Text.l0 k l0 t104 (⟨#[]⟩ : ByteArray))) = some r := h
 clear h
 obtain ⟨y101, hy101⟩ : ∃ y_ : List Int, y_ = (([10] : List Int)) := ⟨_, rfl⟩
 replace H : ((flyballref01_Of.f k y101).bind fun t104 => (flyballref02_Text.l0 k l0 t104 (⟨#[]⟩ : ByteArray))) = some r := by first | (rw [hy101]; with_reducible exact H) | (have H2_ := (Option.bind_some _ _).symm.trans H; rw [hy101]; with_reducible exact H2_) | (have H2_ := (Option.bind_some _ _).symm.trans H; with_reducible exact H2_) | with_reducible exact H | (rw [hy101]; exact H) | exact H
 have Ny101 := Aside0.mk hy101
 clear hy101
 replace H := Option.bind_eq_some_iff.mp H
 obtain ⟨t104, A20, H⟩ := H
 replace H : (flyballref02_Text.l0 k l0 t104 (⟨#[]⟩ : ByteArray)) = some r := H
 have A2 := Aside0.mk A20
 clear A20
 have H' := Aside0.mk H
 clear H
 go_enter Try.func48, Try.ntmps48
 go_wp2_with (first | ((with_reducible refine gate_dst (N := 8) rfl ?_); refine Kd.R_lit (Kd.int .u64) _ 47 ?hg (N := 8) ?hd (xs := ([10] : List Int)) (inner := [.int .u64 10]) (ok := fun _ => True) (okp := fun _ => True) ?hr ?hp (fun _ hk => hk) trivial (Below.refl _ _) (Nat.le_refl _) (by simp) ?_; (case hd => rfl); (case hg => rfl); (case hr => first | (go_simp; done) | (go_simp; rfl)); (case hp => exact (Reps.one (show Kd.M (Kd.int .u64) _ _ _ 10 [.int .u64 10] from rfl) (Reps.none _ _))); intro v102 w3 ho4 hb hg_ hnew_; clear hg_ hnew_; (first | rw [← Ny101.out] at ho4 | (simp only [Int.reduceToNat] at ho4; rw [← Ny101.out] at ho4)); have n0_ := Aside0.mk (Kd.V_elder' (by (with_reducible repeat (first | apply Kd.V_alloc | apply Kd.V_drewN | apply Kd.V_drew)); exact HO0.out) (Kd.R_base ho4) hb); have n1_ := Aside0.mk (Kd.R_lower (Kd.R_newM (M := fun k_ => (w.heap.size ≤ k_)) ho4 (below_size (by repeat (first | (with_reducible first | exact HB.out | apply below_alloc | apply pw_below_drewN | apply below_drew1) | exact HB.out))) (fun k_ h_ => h_)) (below_size (by repeat (first | (with_reducible first | exact HB.out | apply below_alloc | apply pw_below_drewN | apply below_drew1) | exact HB.out)))); have n2_ := Aside0.mk (below_step (by repeat (first | (with_reducible first | exact HB.out | apply below_alloc | apply pw_below_drewN | apply below_drew1) | exact HB.out)) hb); clear HO0; clear HB; have HO0 := n0_; have HO103 := n1_; have HB := n2_; clear n0_ n1_ n2_; clear hb ho4; obtain ⟨Ao5, co5, eo5⟩ := Kd.R_slice HO103.out; subst eo5) | ((with_reducible refine gate_callee (f := 51) rfl ?_); refine goesL_ (some 9) rfl rfl Try.func51 (by kernel_rfl) rfl #[.slice Ao5 y101.length co5] rfl (by (try simp only [List.map_toArray, List.map_cons, List.map_nil]); first | done | rfl | (simp only [List.length_drop, List.length_take]; rfl)) ?_; (with_reducible refine (flyballref01_Of.calls k _ _ y101 t104 _ ?side1 ?side2 A2.out).mono ?_); (case side1 => repeat (first | exact (Kd.R_reads' HO103.out).2.2 | (with_reducible refine Kd.C_alloc ?_ _) | (with_reducible refine Kd.C_drewN ?_ _) | (with_reducible refine Kd.C_drew ?_))); (case side2 => exact (Kd.R_reads' HO103.out).2.1); rintro e w6 ⟨v105, rfl, ho0, hb⟩; refine ⟨_, rfl, ?_⟩; have n0_ := Aside0.mk (Kd.V_elder' (by (with_reducible repeat (first | apply Kd.V_alloc | apply Kd.V_drewN | apply Kd.V_drew)); exact HO0.out) (Kd.R_base ho0) hb); have n1_ := Aside0.mk (Kd.R_below (by (with_reducible repeat (first | apply Kd.R_alloc | apply Kd.R_drewN | apply Kd.R_drew)); exact HO103.out) hb); have n2_ := Aside0.mk (Kd.R_lower (Kd.R_newM (M := fun k_ => (w.heap.size ≤ k_)) ho0 (below_size (by repeat (first | (with_reducible first | exact HB.out | apply below_alloc | apply pw_below_drewN | apply below_drew1) | exact HB.out))) (fun k_ h_ => h_)) (below_size (by repeat (first | (with_reducible first | exact HB.out | apply below_alloc | apply pw_below_drewN | apply below_drew1) | exact HB.out)))); have n3_ := Aside0.mk (below_step (by repeat (first | (with_reducible first | exact HB.out | apply below_alloc | apply pw_below_drewN | apply below_drew1) | exact HB.out)) hb); clear HO0; clear HO103; clear HB; have HO0 := n0_; have HO103 := n1_; have HO106 := n2_; have HB := n3_; clear n0_ n1_ n2_ n3_; (try clear hb); (try clear hb2); (try clear hk); (try clear hi); (try clear ho0)))
 go_loopg [0, 4] k (fun kq v0 v4 w' => ∃ (x0_1 : List Bool) (x4_1 : ByteArray), v4 = .string x4_1 ∧ Aside0 (flyballref02_Text.l0 kq x0_1 t104 x4_1 = some r) ∧ Aside0 (kq ≤ k) ∧ Aside0 (Kd.V Kd.bool 4 w' w.heap.size (fun k_ => (P0_ k_ ∨ w.heap.size ≤ k_) ∧ some k_ ≠ (v105 : Value).ownBlock) v0 x0_1) ∧ Aside0 (Kd.R Kd.bool 4 w' w.heap.size (fun k_ => (w.heap.size ≤ k_)) v105 t104) ∧ Aside0 (Below w.heap.size w w'))
 case atStart => exact ⟨(l0), ((⟨#[]⟩ : ByteArray)), (by first | rfl | (simp; done) | (simp [*]; done)), H', ⟨Nat.le_refl _⟩, ⟨by (with_reducible repeat (first | apply Kd.V_alloc | apply Kd.V_drewN | apply Kd.V_drew)); exact Kd.V_mono HO0.out (fun _ hk => ⟨hk.1.1, hk.2⟩)⟩, ⟨by (with_reducible repeat (first | apply Kd.R_alloc | apply Kd.R_drewN | apply Kd.R_drew)); exact Kd.R_mono HO106.out (fun _ hk => hk.1)⟩, ⟨by repeat (first | (with_reducible first | exact HB.out | apply below_alloc | apply pw_below_drewN | apply below_drew1) | exact HB.out)⟩⟩
 case round =>
  clear H'
  try clear p2
  try clear c4
  try clear c5
  obtain ⟨x0_1, x4_1, rfl, HA, HK1, HO_0, HO_3, HB⟩ := hrel
  cases gk with
  | zero => exact absurd HA.out (by simp [flyballref02_Text.l0])
  | succ k1 =>
   have H := HA.out
   clear HA
   simp only [flyballref02_Text.l0] at H
   replace H := Option.bind_eq_some_iff.mp H
   obtain ⟨t107, A70, H⟩ := H
   replace H : (if t107 > 0 then ((flyballref01_Div.f k1 x0_1 t104).bind fun bt108 => ((flyballref01_Words.f k1 bt108.2 1).bind fun t114 => (if 0 < (t114.length : Int) then ((some (([(IntKind.u64.wrap (48 + (rd t114 0))) % 256] : List Int) : List Int)).bind fun y118 => (if (strOfNums y118).size + x4_1.size ≤ 9223372036854775807 then ((flyballref01_Len.f k1 bt108.1).bind fun t121 => (if 0 ≤ t121 then (if t121 ≤ (bt108.1.length : Int) then (flyballref02_Text.l0 k1 (bt108.1.take (t121 : Int).toNat) t104 ((strOfNums y118) ++ x4_1)) else (none)) else (none))) else (none))) else (none)))) else (if x4_1.toList = ([] : List UInt8) then (some (⟨#[48]⟩ : ByteArray)) else (some x4_1))) = some r := H
   have A7 := Aside0.mk A70
   clear A70
   by_cases c8 : t107 > 0
   ·rw [if_pos c8] at H
    have c8b0 : decide (0 < t107) = true := decide_eq_true c8
    clear c8
    replace H := Option.bind_eq_some_iff.mp H
    obtain ⟨⟨t108, t109⟩, A90, H⟩ := H
    replace H : ((flyballref01_Words.f k1 t109 1).bind fun t114 => (if 0 < (t114.length : Int) then ((some (([(IntKind.u64.wrap (48 + (rd t114 0))) % 256] : List Int) : List Int)).bind fun y118 => (if (strOfNums y118).size + x4_1.size ≤ 9223372036854775807 then ((flyballref01_Len.f k1 t108).bind fun t121 => (if 0 ≤ t121 then (if t121 ≤ (t108.length : Int) then (flyballref02_Text.l0 k1 (t108.take (t121 : Int).toNat) t104 ((strOfNums y118) ++ x4_1)) else (none)) else (none))) else (none))) else (none))) = some r := H
    have A9 := Aside0.mk A90
    clear A90
    replace H := Option.bind_eq_some_iff.mp H
    obtain ⟨t114, A100, H⟩ := H
    replace H : (if 0 < (t114.length : Int) then ((some (([(IntKind.u64.wrap (48 + (rd t114 0))) % 256] : List Int) : List Int)).bind fun y118 => (if (strOfNums y118).size + x4_1.size ≤ 9223372036854775807 then ((flyballref01_Len.f k1 t108).bind fun t121 => (if 0 ≤ t121 then (if t121 ≤ (t108.length : Int) then (flyballref02_Text.l0 k1 (t108.take (t121 : Int).toNat) t104 ((strOfNums y118) ++ x4_1)) else (none)) else (none))) else (none))) else (none)) = some r := H
    have A10 := Aside0.mk A100
    clear A100
    by_cases c11 : 0 < (t114.length : Int)
    ·rw [if_pos c11] at H
     have c11b0 : decide (0 < (t114.length : Int)) = true := decide_eq_true c11
     have c11b1 : decide (0 < t114.length) = true := decide_eq_true (by omega)
     clear c11
     obtain ⟨y118, hy118⟩ : ∃ y_ : List Int, y_ = (([(IntKind.u64.wrap (48 + (rd t114 0))) % 256] : List Int)) := ⟨_, rfl⟩
     replace H : (if (strOfNums y118).size + x4_1.size ≤ 9223372036854775807 then ((flyballref01_Len.f k1 t108).bind fun t121 => (if 0 ≤ t121 then (if t121 ≤ (t108.length : Int) then (flyballref02_Text.l0 k1 (t108.take (t121 : Int).toNat) t104 ((strOfNums y118) ++ x4_1)) else (none)) else (none))) else (none)) = some r := by first | (rw [hy118]; with_reducible exact H) | (have H2_ := (Option.bind_some _ _).symm.trans H; rw [hy118]; with_reducible exact H2_) | (have H2_ := (Option.bind_some _ _).symm.trans H; with_reducible exact H2_) | with_reducible exact H | (rw [hy118]; exact H) | exact H
     have Ny118 := Aside0.mk hy118
     clear hy118
     by_cases c12 : (strOfNums y118).size + x4_1.size ≤ 9223372036854775807
     ·rw [if_pos c12] at H
      have c12b0 := eq_true c12
      have c12b1 : decide ((strOfNums y118).size + x4_1.size ≤ 9223372036854775807) = true := decide_eq_true c12
      try have c12b2 : (9223372036854775807 < (strOfNums y118).size + x4_1.size) = False := eq_false (Nat.not_lt.2 c12)
      replace H := Option.bind_eq_some_iff.mp H
      obtain ⟨t121, A130, H⟩ := H
      replace H : (if 0 ≤ t121 then (if t121 ≤ (t108.length : Int) then (flyballref02_Text.l0 k1 (t108.take (t121 : Int).toNat) t104 ((strOfNums y118) ++ x4_1)) else (none)) else (none)) = some r := H
      have A13 := Aside0.mk A130
      clear A130
      by_cases c14 : 0 ≤ t121
      ·rw [if_pos c14] at H
       have c14b0 := eq_true c14
       have c14b1 : decide (0 ≤ t121) = true := decide_eq_true c14
       clear c14
       by_cases c15 : t121 ≤ (t108.length : Int)
       ·rw [if_pos c15] at H
        have c15b0 := eq_true c15
        have c15b1 : decide (t121 ≤ (t108.length : Int)) = true := decide_eq_true c15
        clear c15
        obtain ⟨y122, hy122⟩ : ∃ y_ : List Bool, y_ = (t108.take (t121 : Int).toNat) := ⟨_, rfl⟩
        replace H : (flyballref02_Text.l0 k1 y122 t104 ((strOfNums y118) ++ x4_1)) = some r := by first | (rw [hy122]; with_reducible exact H) | (have H2_ := (Option.bind_some _ _).symm.trans H; rw [hy122]; with_reducible exact H2_) | (have H2_ := (Option.bind_some _ _).symm.trans H; with_reducible exact H2_) | with_reducible exact H | (rw [hy122]; exact H) | exact H
        have Ny122 := Aside0.mk hy122
        clear hy122
        have H' := Aside0.mk H
        clear H
        obtain ⟨Ao16, co16, eo16⟩ := Kd.V_slice HO_0.out
        subst eo16
        go_wp2_with (first | ((with_reducible refine gate_callee (f := 53) rfl ?_); refine goesL_ (some 11) rfl rfl Try.func53 (by kernel_rfl) rfl #[.slice Ao16 x0_1.length co16] rfl (by (try simp only [List.map_toArray, List.map_cons, List.map_nil]); first | done | rfl | (simp only [List.length_drop, List.length_take]; rfl)) ?_; (with_reducible refine (flyballref01_Len.calls k1 _ _ x0_1 t107 _ ?side1 ?side2 A7.out).mono ?_); (case side1 => repeat (first | exact (Kd.V_reads' HO_0.out).2.2 | (with_reducible refine Kd.C_alloc ?_ _) | (with_reducible refine Kd.C_drewN ?_ _) | (with_reducible refine Kd.C_drew ?_))); (case side2 => exact (Kd.V_reads' HO_0.out).2.1); rintro e w' ⟨rfl, ⟨nd, rfl⟩⟩; refine ⟨_, rfl, ?_⟩; obtain ⟨Ao17, co17, eo17⟩ := Kd.R_slice HO_3.out; subst eo17) | ((with_reducible refine gate_callee (f := 38) rfl ?_); refine goesL_ (some 16) rfl rfl Try.func38 (by kernel_rfl) rfl #[.slice Ao16 x0_1.length co16, .slice Ao17 t104.length co17] rfl (by (try simp only [List.map_toArray, List.map_cons, List.map_nil]); first | done | rfl | (simp only [List.length_drop, List.length_take]; rfl)) ?_; (with_reducible refine (flyballref01_Div.calls k1 _ _ x0_1 _ _ t104 t108 t109 _ ?side1 ?side2 ?side3 ?side4 A9.out).mono ?_); (case side1 => repeat (first | exact (Kd.V_reads' HO_0.out).2.2 | (with_reducible refine Kd.C_alloc ?_ _) | (with_reducible refine Kd.C_drewN ?_ _) | (with_reducible refine Kd.C_drew ?_))); (case side2 => exact (Kd.V_reads' HO_0.out).2.1); (case side3 => repeat (first | exact (Kd.R_reads' HO_3.out).2.2 | (with_reducible refine Kd.C_alloc ?_ _) | (with_reducible refine Kd.C_drewN ?_ _) | (with_reducible refine Kd.C_drew ?_))); (case side4 => exact (Kd.R_reads' HO_3.out).2.1); rintro e w18 ⟨v110, v112, rfl, ho0, ho1, hb⟩; refine ⟨_, rfl, ?_⟩; have n0_ := Aside0.mk (Kd.V_mono (Kd.V_told (Kd.V_told (Kd.V_old (by (with_reducible repeat (first | apply Kd.V_alloc | apply Kd.V_drewN | apply Kd.V_drew)); exact HO_0.out) hb) (Kd.R_base ho0)) (Kd.R_base ho1)) (fun _ h_ => h_.1)); have n1_ := Aside0.mk (Kd.R_mono (Kd.R_told (Kd.R_told (Kd.R_old (by (with_reducible repeat (first | apply Kd.R_alloc | apply Kd.R_drewN | apply Kd.R_drew)); exact HO_3.out) hb) (Kd.R_base ho0)) (Kd.R_base ho1)) (fun _ h_ => h_.1)); have n2_ := Aside0.mk (Kd.R_lower (Kd.R_new' (Kd.R_newM (M := fun k_ => (w.heap.size ≤ k_)) ho0 (below_size (by repeat (first | (with_reducible first | exact HB.out | apply below_alloc | apply pw_below_drewN | apply below_drew1) | exact HB.out))) (fun k_ h_ => h_)) (Kd.R_lt (by (with_reducible repeat (first | apply Kd.R_alloc | apply Kd.R_drewN | apply Kd.R_drew)); exact HO_3.out))) (below_size (by repeat (first | (with_reducible first | exact HB.out | apply below_alloc | apply pw_below_drewN | apply below_drew1) | exact HB.out)))); have n3_ := Aside0.mk (Kd.R_lower (Kd.R_new' (Kd.R_newM (M := fun k_ => (w.heap.size ≤ k_)) ho1 (below_size (by repeat (first | (with_reducible first | exact HB.out | apply below_alloc | apply pw_below_drewN | apply below_drew1) | exact HB.out))) (fun k_ h_ => h_)) (Kd.R_lt (by (with_reducible repeat (first | apply Kd.R_alloc | apply Kd.R_drewN | apply Kd.R_drew)); exact HO_3.out))) (below_size (by repeat (first | (with_reducible first | exact HB.out | apply below_alloc | apply pw_below_drewN | apply below_drew1) | exact HB.out)))); have n4_ := Aside0.mk (below_step (by repeat (first | (with_reducible first | exact HB.out | apply below_alloc | apply pw_below_drewN | apply below_drew1) | exact HB.out)) hb); clear HO_0; clear HO_3; clear HB; have HO_0 := n0_; have HO_3 := n1_; have HO111 := n2_; have HO113 := n3_; have HB := n4_; clear n0_ n1_ n2_ n3_ n4_; (try clear hb); (try clear hb2); (try clear hk); (try clear hi); (try clear ho0); (try clear ho1); obtain ⟨Ao19, co19, eo19⟩ := Kd.R_slice HO113.out; subst eo19) | ((with_reducible refine gate_callee (f := 40) rfl ?_); refine goesL_ (some 20) rfl rfl Try.func40 (by kernel_rfl) rfl #[.slice Ao19 t109.length co19, .int .i64 1] rfl (by (try simp only [List.map_toArray, List.map_cons, List.map_nil]); first | done | rfl | (simp only [List.length_drop, List.length_take]; rfl)) ?_; (with_reducible refine (flyballref01_Words.calls k1 _ _ t109 1 t114 _ ?side1 ?side2 A10.out).mono ?_); (case side1 => repeat (first | exact (Kd.R_reads' HO113.out).2.2 | (with_reducible refine Kd.C_alloc ?_ _) | (with_reducible refine Kd.C_drewN ?_ _) | (with_reducible refine Kd.C_drew ?_))); (case side2 => exact (Kd.R_reads' HO113.out).2.1); rintro e w20 ⟨v115, rfl, ho0, hb⟩; refine ⟨_, rfl, ?_⟩; have n0_ := Aside0.mk (Kd.V_elder' (by (with_reducible repeat (first | apply Kd.V_alloc | apply Kd.V_drewN | apply Kd.V_drew)); exact HO_0.out) (Kd.R_base ho0) hb); have n1_ := Aside0.mk (Kd.R_below (by (with_reducible repeat (first | apply Kd.R_alloc | apply Kd.R_drewN | apply Kd.R_drew)); exact HO_3.out) hb); have n2_ := Aside0.mk (Kd.R_below (by (with_reducible repeat (first | apply Kd.R_alloc | apply Kd.R_drewN | apply Kd.R_drew)); exact HO111.out) hb); have n3_ := Aside0.mk (Kd.R_below (by (with_reducible repeat (first | apply Kd.R_alloc | apply Kd.R_drewN | apply Kd.R_drew)); exact HO113.out) hb); have n4_ := Aside0.mk (Kd.R_lower (Kd.R_newM (M := fun k_ => (w.heap.size ≤ k_)) ho0 (below_size (by repeat (first | (with_reducible first | exact HB.out | apply below_alloc | apply pw_below_drewN | apply below_drew1) | exact HB.out))) (fun k_ h_ => h_)) (below_size (by repeat (first | (with_reducible first | exact HB.out | apply below_alloc | apply pw_below_drewN | apply below_drew1) | exact HB.out)))); have n5_ := Aside0.mk (below_step (by repeat (first | (with_reducible first | exact HB.out | apply below_alloc | apply pw_below_drewN | apply below_drew1) | exact HB.out)) hb); clear HO_0; clear HO_3; clear HO111; clear HO113; clear HB; have HO_0 := n0_; have HO_3 := n1_; have HO111 := n2_; have HO113 := n3_; have HO116 := n4_; have HB := n5_; clear n0_ n1_ n2_ n3_ n4_ n5_; (try clear hb); (try clear hb2); (try clear hk); (try clear hi); (try clear ho0); obtain ⟨Ao21, co21, eo21⟩ := Kd.R_slice HO116.out; subst eo21; have p117 : 0 ≤ (0 : Int) := (by omega); have q117 : 0 < (t114.length : Int) := of_decide_eq_true (by first | (with_reducible assumption) | assumption); obtain ⟨ad117, e117, hx117_0⟩ := Kd.at_int (Kd.R_reads' HO116.out).2.2 0 p117 q117; cases e117; have qi117 : (0 < t114.length) = True := eq_true (by omega); (try rw [show ((0 : Int)).toNat = 0 from rfl] at hx117_0); (try rw [Addr.add_zero'] at hx117_0); replace p117 := eq_true p117; replace q117 := eq_true q117) | ((with_reducible refine gate_dst (N := 26) rfl ?_); refine Kd.R_lit (Kd.int .u8) _ 5 ?hg (N := 26) ?hd (xs := ([(IntKind.u64.wrap (48 + (rd t114 0))) % 256] : List Int)) (inner := [.int .u8 ((IntKind.u64.wrap (48 + (rd t114 0))) % 256)]) (ok := fun _ => True) (okp := fun _ => True) ?hr ?hp (fun _ hk => hk) trivial (Below.refl _ _) (Nat.le_refl _) (by simp) ?_; (case hd => rfl); (case hg => rfl); (case hr => first | (go_simp; done) | (go_simp; rfl)); (case hp => exact (Reps.one (show Kd.M (Kd.int .u8) _ _ _ ((IntKind.u64.wrap (48 + (rd t114 0))) % 256) [.int .u8 ((IntKind.u64.wrap (48 + (rd t114 0))) % 256)] from rfl) (Reps.none _ _))); intro v119 w22 ho23 hb hg_ hnew_; clear hg_ hnew_; (first | rw [← Ny118.out] at ho23 | (simp only [Int.reduceToNat] at ho23; rw [← Ny118.out] at ho23)); have n0_ := Aside0.mk (Kd.V_elder' (by (with_reducible repeat (first | apply Kd.V_alloc | apply Kd.V_drewN | apply Kd.V_drew)); exact HO_0.out) (Kd.R_base ho23) hb); have n1_ := Aside0.mk (Kd.R_below (by (with_reducible repeat (first | apply Kd.R_alloc | apply Kd.R_drewN | apply Kd.R_drew)); exact HO_3.out) hb); have n2_ := Aside0.mk (Kd.R_below (by (with_reducible repeat (first | apply Kd.R_alloc | apply Kd.R_drewN | apply Kd.R_drew)); exact HO111.out) hb); have n3_ := Aside0.mk (Kd.R_below (by (with_reducible repeat (first | apply Kd.R_alloc | apply Kd.R_drewN | apply Kd.R_drew)); exact HO113.out) hb); have n4_ := Aside0.mk (Kd.R_below (by (with_reducible repeat (first | apply Kd.R_alloc | apply Kd.R_drewN | apply Kd.R_drew)); exact HO116.out) hb); have n5_ := Aside0.mk (Kd.R_lower (Kd.R_newM (M := fun k_ => (w.heap.size ≤ k_)) ho23 (below_size (by repeat (first | (with_reducible first | exact HB.out | apply below_alloc | apply pw_below_drewN | apply below_drew1) | exact HB.out))) (fun k_ h_ => h_)) (below_size (by repeat (first | (with_reducible first | exact HB.out | apply below_alloc | apply pw_below_drewN | apply below_drew1) | exact HB.out)))); have n6_ := Aside0.mk (below_step (by repeat (first | (with_reducible first | exact HB.out | apply below_alloc | apply pw_below_drewN | apply below_drew1) | exact HB.out)) hb); clear HO_0; clear HO_3; clear HO111; clear HO113; clear HO116; clear HB; have HO_0 := n0_; have HO_3 := n1_; have HO111 := n2_; have HO113 := n3_; have HO116 := n4_; have HO120 := n5_; have HB := n6_; clear n0_ n1_ n2_ n3_ n4_ n5_ n6_; clear hb ho23; have hcv24 := own_string (P := Try.prog) Try.underlying130 Try.underlying5 Try.underlying9 (Kd.own_of_R HO120.out); obtain ⟨Ao25, co25, eo25⟩ := Kd.R_slice HO111.out; subst eo25) | ((with_reducible refine gate_callee (f := 53) rfl ?_); refine goesL_ (some 32) rfl rfl Try.func53 (by kernel_rfl) rfl #[.slice Ao25 t108.length co25] rfl (by (try simp only [List.map_toArray, List.map_cons, List.map_nil]); first | done | rfl | (simp only [List.length_drop, List.length_take]; rfl)) ?_; (with_reducible refine (flyballref01_Len.calls k1 _ _ t108 t121 _ ?side1 ?side2 A13.out).mono ?_); (case side1 => repeat (first | exact (Kd.R_reads' HO111.out).2.2 | (with_reducible refine Kd.C_alloc ?_ _) | (with_reducible refine Kd.C_drewN ?_ _) | (with_reducible refine Kd.C_drew ?_))); (case side2 => exact (Kd.R_reads' HO111.out).2.1); rintro e w' ⟨rfl, ⟨nd, rfl⟩⟩; refine ⟨_, rfl, ?_⟩; have q26 : (t121 : Int) ≤ ((t108.length : Int) : Int) := of_decide_eq_true (by first | (with_reducible assumption) | assumption); obtain ⟨i026, hi026, _, hsz26, _⟩ := info_parts info4; have hcut26 := cut_to (P := Try.prog) 26 4 .i64 Try.underlying26 hi026 Ao25 t108.length co25 t121 (of_decide_eq_true (by first | (with_reducible assumption) | assumption)) q26 (Kd.R_reads' HO111.out).2.1; have hr26 := Kd.R_take (m := (t121 : Int).toNat) HO111.out (by omega); have hy26 : y122.length = (t121 : Int).toNat := (by rw [Ny122.out, List.length_take]; omega); rw [← Ny122.out] at hr26; rw [← hy26] at hr26 hcut26; clear hy26 hi026 hsz26 HO111; have HO124 := Aside0.mk hr26; clear hr26; replace q26 := eq_true q26))
        go_roundg k1
        case measure => have := HK1.out; omega
        case rel => exact ⟨(y122), ((strOfNums y118) ++ x4_1), (by first | rfl | (simp; done) | (simp [*]; done)), H', ⟨by have := HK1.out; omega⟩, ⟨Kd.V_mono (Kd.R_V (by (with_reducible repeat (first | apply Kd.R_alloc | apply Kd.R_drewN | apply Kd.R_drew)); exact HO124.out)) (fun k_ hk => by first | exact ⟨.inr hk.1.1, hk.2⟩ | exact ⟨.inr hk.1.1.1, hk.2⟩ | exact ⟨.inr hk.1, hk.2⟩ | exact .inr hk.1.1 | exact .inr hk.1.1.1)⟩, ⟨by (with_reducible repeat (first | apply Kd.R_alloc | apply Kd.R_drewN | apply Kd.R_drew)); exact Kd.R_mono HO_3.out (fun _ hk => hk.1.1)⟩, ⟨by repeat (first | (with_reducible first | exact HB.out | apply below_alloc | apply pw_below_drewN | apply below_drew1) | exact HB.out)⟩⟩
       ·rw [if_neg c15] at H
        exact absurd H (by simp)
      ·rw [if_neg c14] at H
       exact absurd H (by simp)
     ·rw [if_neg c12] at H
      exact absurd H (by simp)
    ·rw [if_neg c11] at H
     exact absurd H (by simp)
   ·rw [if_neg c8] at H
    have c8b0 : decide (0 < t107) = false := decide_eq_false c8
    clear c8
    by_cases c27 : x4_1.toList = ([] : List UInt8)
    ·rw [if_pos c27] at H
     have c27b0 : (x4_1.toList == ([] : List UInt8)) = true := beq_iff_eq.mpr c27
     have c27b1 : (x4_1.toList != ([] : List UInt8)) = false := bne_eq_false_iff_eq.mpr c27
     clear c27
     obtain rfl := Option.some.inj H
     obtain ⟨Ao28, co28, eo28⟩ := Kd.V_slice HO_0.out
     subst eo28
     go_wp2_with (first | ((with_reducible refine gate_callee (f := 53) rfl ?_); refine goesL_ (some 11) rfl rfl Try.func53 (by kernel_rfl) rfl #[.slice Ao28 x0_1.length co28] rfl (by (try simp only [List.map_toArray, List.map_cons, List.map_nil]); first | done | rfl | (simp only [List.length_drop, List.length_take]; rfl)) ?_; (with_reducible refine (flyballref01_Len.calls k1 _ _ x0_1 t107 _ ?side1 ?side2 A7.out).mono ?_); (case side1 => repeat (first | exact (Kd.V_reads' HO_0.out).2.2 | (with_reducible refine Kd.C_alloc ?_ _) | (with_reducible refine Kd.C_drewN ?_ _) | (with_reducible refine Kd.C_drew ?_))); (case side2 => exact (Kd.V_reads' HO_0.out).2.1); rintro e w' ⟨rfl, ⟨nd, rfl⟩⟩; refine ⟨_, rfl, ?_⟩))
     go_ret
     exact ⟨by first | rfl | (simp [errW_none, errW_some] <;> rfl) | (simp [*, errW_none, errW_some] <;> rfl), by repeat (first | (with_reducible first | exact HB.out | apply below_alloc | apply pw_below_drewN | apply below_drew1) | exact HB.out)⟩
    ·rw [if_neg c27] at H
     have c27b0 : (x4_1.toList == ([] : List UInt8)) = false := beq_eq_false_iff_ne.mpr c27
     have c27b1 : (x4_1.toList != ([] : List UInt8)) = true := bne_iff_ne.mpr c27
     obtain rfl := Option.some.inj H
     obtain ⟨Ao29, co29, eo29⟩ := Kd.V_slice HO_0.out
     subst eo29
     go_wp2_with (first | ((with_reducible refine gate_callee (f := 53) rfl ?_); refine goesL_ (some 11) rfl rfl Try.func53 (by kernel_rfl) rfl #[.slice Ao29 x0_1.length co29] rfl (by (try simp only [List.map_toArray, List.map_cons, List.map_nil]); first | done | rfl | (simp only [List.length_drop, List.length_take]; rfl)) ?_; (with_reducible refine (flyballref01_Len.calls k1 _ _ x0_1 t107 _ ?side1 ?side2 A7.out).mono ?_); (case side1 => repeat (first | exact (Kd.V_reads' HO_0.out).2.2 | (with_reducible refine Kd.C_alloc ?_ _) | (with_reducible refine Kd.C_drewN ?_ _) | (with_reducible refine Kd.C_drew ?_))); (case side2 => exact (Kd.V_reads' HO_0.out).2.1); rintro e w' ⟨rfl, ⟨nd, rfl⟩⟩; refine ⟨_, rfl, ?_⟩))
     go_ret
     exact ⟨by first | rfl | (simp [errW_none, errW_some] <;> rfl) | (simp [*, errW_none, errW_some] <;> rfl), by repeat (first | (with_reducible first | exact HB.out | apply below_alloc | apply pw_below_drewN | apply below_drew1) | exact HB.out)⟩
end Go.Proofs.Ytagbnkbhobmgjaa.Fn
end
section
-- Written by a program of this session (a turned copy of the kit's printer, and hand-written parts). Not trusted: Lean checks it.
namespace Go.Proofs.Ytagbnkbhobmgjaa.Fn
open Go.RowKit Go.Proofs.YtagbnkbhobmgjaaW.PrintWords Go.Proofs.YtagbnkbhobmgjaaW.PrintLast Go.Proofs.YtagbnkbhobmgjaaW.PrintMore
attribute [local go_sem] max2_int min2_int max_two min_two max_three min_three max_four min_four   -- for this text's walks alone
set_option linter.unusedVariables false
set_option linter.unusedSimpArgs false
/-! ### flyballref01_Add: function 29 -/
mutual
def flyballref01_Add.l0 : Nat → List Bool → List Bool → List Bool → Bool → Int → Option (List Bool)
 | 0, _, _, _, _, _ => none
 | k + 1, x0, x1, x5, x6, x7 => if x7 < (x0.length : Int) then (flyballref01_Add.j1 k x0 x1 x5 x6 x7 true) else (if x7 < (x1.length : Int) then (flyballref01_Add.j1 k x0 x1 x5 x6 x7 true) else (flyballref01_Add.j1 k x0 x1 x5 x6 x7 x6))
def flyballref01_Add.j1 : Nat → List Bool → List Bool → List Bool → Bool → Int → Bool → Option (List Bool)
 | 0, _, _, _, _, _, _ => none
 | k + 1, x0, x1, x5, x6, x7, x22 => if x22 = true then ((flyballref01_bit.f x0 x7).bind fun t101 => ((flyballref01_bit.f x1 x7).bind fun t102 => (if x5.length < 140737488355328 then ((some (x5 ++ [((t101 != t102) != x6)] : List Bool)).bind fun y103 => (if t101 = true then (if t102 = true then (flyballref01_Add.l0 k x0 x1 y103 true (wrap64 (x7 + 1))) else (if x6 = true then (flyballref01_Add.l0 k x0 x1 y103 true (wrap64 (x7 + 1))) else (flyballref01_Add.l0 k x0 x1 y103 false (wrap64 (x7 + 1))))) else (if t102 = true then (flyballref01_Add.l0 k x0 x1 y103 x6 (wrap64 (x7 + 1))) else (flyballref01_Add.l0 k x0 x1 y103 false (wrap64 (x7 + 1)))))) else (none)))) else (some x5)
end
def flyballref01_Add.f (k : Nat) (l0 : List Bool) (l1 : List Bool) : Option (List Bool) := flyballref01_Add.l0 k l0 l1 ([] : List Bool) false 0
theorem flyballref01_Add.mono_l : ∀ k, (∀ y0 y1 y2 y3 y4, LeO (flyballref01_Add.l0 k y0 y1 y2 y3 y4) (flyballref01_Add.l0 (k + 1) y0 y1 y2 y3 y4)) ∧ (∀ y0 y1 y2 y3 y4 y5, LeO (flyballref01_Add.j1 k y0 y1 y2 y3 y4 y5) (flyballref01_Add.j1 (k + 1) y0 y1 y2 y3 y4 y5))
 | 0 => ⟨fun _ _ _ _ _ r h => by simp [flyballref01_Add.l0] at h, fun _ _ _ _ _ _ r h => by simp [flyballref01_Add.j1] at h⟩
 | k + 1 => by
  obtain ⟨ih0, ih1⟩ := flyballref01_Add.mono_l k
  refine ⟨?_, ?_⟩
  ·intro y0 y1 y2 y3 y4
   unfold flyballref01_Add.l0
   repeat' first
   | (with_reducible exact ih0 _ _ _ _ _)
   | (with_reducible exact ih1 _ _ _ _ _ _)
   | (with_reducible exact LeO.refl _)
   | (with_reducible exact LeO.none _)
   | (with_reducible refine LeO.ite ?_ ?_)
   | (with_reducible refine LeO.bind ?_ (fun _ => ?_))
   | exact ih0 _ _ _ _ _
   | exact ih1 _ _ _ _ _ _
   | exact LeO.none _
   | refine LeO.ite ?_ ?_
   | refine LeO.bind ?_ (fun _ => ?_)
  ·intro y0 y1 y2 y3 y4 y5
   unfold flyballref01_Add.j1
   repeat' first
   | (with_reducible exact ih0 _ _ _ _ _)
   | (with_reducible exact ih1 _ _ _ _ _ _)
   | (with_reducible exact LeO.refl _)
   | (with_reducible exact LeO.none _)
   | (with_reducible refine LeO.ite ?_ ?_)
   | (with_reducible refine LeO.bind ?_ (fun _ => ?_))
   | exact ih0 _ _ _ _ _
   | exact ih1 _ _ _ _ _ _
   | exact LeO.none _
   | refine LeO.ite ?_ ?_
   | refine LeO.bind ?_ (fun _ => ?_)
theorem flyballref01_Add.mono : ∀ a0 a1 k, LeO (flyballref01_Add.f k a0 a1) (flyballref01_Add.f (k + 1) a0 a1) := by
 intro a0 a1 k
 obtain ⟨ih0, ih1⟩ := flyballref01_Add.mono_l k
 unfold flyballref01_Add.f
 repeat' first
   | (with_reducible exact ih0 _ _ _ _ _)
   | (with_reducible exact ih1 _ _ _ _ _ _)
   | (with_reducible exact LeO.refl _)
   | (with_reducible exact LeO.none _)
   | (with_reducible refine LeO.ite ?_ ?_)
   | (with_reducible refine LeO.bind ?_ (fun _ => ?_))
   | exact ih0 _ _ _ _ _
   | exact ih1 _ _ _ _ _ _
   | exact LeO.none _
   | refine LeO.ite ?_ ?_
   | refine LeO.bind ?_ (fun _ => ?_)
set_option maxHeartbeats 8000000 in
set_option maxRecDepth 100000 in
theorem flyballref01_Add.calls (k : Nat) (A0 : Option Addr) (c0 : Nat) (l0 : List Bool) (A1 : Option Addr) (c1 : Nat) (l1 : List Bool) (r : List Bool) (w : World) (hr0 : Kd.C Kd.bool w A0 l0.length l0) (hc0 : l0.length ≤ c0) (hr1 : Kd.C Kd.bool w A1 l1.length l1) (hc1 : l1.length ≤ c1) (h : flyballref01_Add.f k l0 l1 = some r) :
  Calls Try.prog 29 #[.slice A0 l0.length c0, .slice A1 l1.length c1] w fun e w' => ∃ v0_ : Value, e = .returned (v0_) ∧ Kd.R Kd.bool 4 w' w.heap.size (fun _ => True) v0_ r ∧ Below w.heap.size w w' := by
 have HR0 := Aside0.mk hr0
 have HC0 := Aside0.mk hc0
 clear hr0 hc0
 have HR1 := Aside0.mk hr1
 have HC1 := Aside0.mk hc1
 clear hr1 hc1
 have HB := Aside0.mk (Below.refl w.heap.size w)
 have H : (flyballref01_Add.l0 k l0 l1 ([] : List Bool) false 0) = some r := h
 clear h
 have H' := Aside0.mk H
 clear H
 go_enter Try.func29, Try.ntmps29
 go_wp2
 go_loopg [5, 6, 7] k (fun kq v5 v6 v7 w' => ∃ (x5_1 : List Bool) (x6_1 : Bool) (x7_1 : Int), v6 = .bool x6_1 ∧ v7 = .int .i64 x7_1 ∧ Aside0 (flyballref01_Add.l0 kq l0 l1 x5_1 x6_1 x7_1 = some r) ∧ Aside0 (kq ≤ k) ∧ Aside0 (Kd.R Kd.bool 4 w' w.heap.size (fun _ => True) v5 x5_1) ∧ Aside0 (Below w.heap.size w w'))
 case atStart => exact ⟨(([] : List Bool)), (false), (0), (by first | rfl | (simp; done) | (simp [*]; done)), (by first | rfl | (simp; done) | (simp [*]; done)), H', ⟨Nat.le_refl _⟩, ⟨by first | exact Kd.R_nil _ _ _ _ _ | exact Kd.N_nil _ _ _ _ _ | exact Kd.V_nil _ _ _ _ _ | exact Kd.Q_nil _ _ _ _ _ | exact Kd.S_nil _ _ _ _ _⟩, ⟨by repeat (first | (with_reducible first | exact HB.out | apply below_alloc | apply pw_below_drewN | apply below_drew1) | exact HB.out)⟩⟩
 case round =>
  clear H'
  try clear c1
  try clear c2
  try clear p2
  obtain ⟨x5_1, x6_1, x7_1, rfl, rfl, HA, HK1, HO_5, HB⟩ := hrel
  cases gk with
  | zero => exact absurd HA.out (by simp [flyballref01_Add.l0])
  | succ k1 =>
   have H := HA.out
   clear HA
   simp only [flyballref01_Add.l0] at H
   have HC3 := Aside0.mk H
   clear H
   go_upto_region 4 with (fail)
   go_cut [22] (fun v22 wc => ∃ (kq : Nat) (x22_2 : Bool), v22 = .bool x22_2 ∧ Aside0 (flyballref01_Add.j1 kq l0 l1 x5_1 x6_1 x7_1 x22_2 = some r) ∧ Aside0 (kq ≤ k1) ∧ Aside0 (Kd.R Kd.bool 4 wc w.heap.size (fun _ => True) u5 x5_1) ∧ Aside0 (Below w.heap.size w wc))
   case first =>
    have H := HC3.out
    clear HC3
    by_cases c4 : x7_1 < (l0.length : Int)
    ·rw [if_pos c4] at H
     have c4b0 : decide (x7_1 < (l0.length : Int)) = true := decide_eq_true c4
     clear c4
     (first | rw [c4b0] | (simp only [i64_w, i32_w]; rw [c4b0]) | skip)
     have H' := Aside0.mk H
     clear H
     go_wp2
     go_meet
     case rel => exact ⟨_, (true), (by first | rfl | (simp; done) | (simp [*]; done)), H', ⟨by have := HK1.out; first | omega | exact Nat.le_refl _⟩, ⟨by (with_reducible repeat (first | apply Kd.R_alloc | apply Kd.R_drewN | apply Kd.R_drew)); exact HO_5.out⟩, ⟨by repeat (first | (with_reducible first | exact HB.out | apply below_alloc | apply pw_below_drewN | apply below_drew1) | exact HB.out)⟩⟩
    ·rw [if_neg c4] at H
     have c4b0 : decide (x7_1 < (l0.length : Int)) = false := decide_eq_false c4
     clear c4
     (first | rw [c4b0] | (simp only [i64_w, i32_w]; rw [c4b0]) | skip)
     by_cases c5 : x7_1 < (l1.length : Int)
     ·rw [if_pos c5] at H
      have c5b0 : decide (x7_1 < (l1.length : Int)) = true := decide_eq_true c5
      clear c5
      have H' := Aside0.mk H
      clear H
      go_wp2
      go_meet
      case rel => exact ⟨_, (true), (by first | rfl | (simp; done) | (simp [*]; done)), H', ⟨by have := HK1.out; first | omega | exact Nat.le_refl _⟩, ⟨by (with_reducible repeat (first | apply Kd.R_alloc | apply Kd.R_drewN | apply Kd.R_drew)); exact HO_5.out⟩, ⟨by repeat (first | (with_reducible first | exact HB.out | apply below_alloc | apply pw_below_drewN | apply below_drew1) | exact HB.out)⟩⟩
     ·rw [if_neg c5] at H
      have c5b0 : decide (x7_1 < (l1.length : Int)) = false := decide_eq_false c5
      clear c5
      have H' := Aside0.mk H
      clear H
      go_wp2
      go_meet
      case rel => exact ⟨_, (x6_1), (by first | rfl | (simp; done) | (simp [*]; done)), H', ⟨by have := HK1.out; first | omega | exact Nat.le_refl _⟩, ⟨by (with_reducible repeat (first | apply Kd.R_alloc | apply Kd.R_drewN | apply Kd.R_drew)); exact HO_5.out⟩, ⟨by repeat (first | (with_reducible first | exact HB.out | apply below_alloc | apply pw_below_drewN | apply below_drew1) | exact HB.out)⟩⟩
   case rest =>
    clear HC3
    try clear c1
    try clear c2
    try clear p2
    try clear c4
    try clear c4b0
    try clear c5
    try clear c5b0
    try clear p2
    obtain ⟨kq, x22_2, rfl, HA, HJ2, HO_5, HB⟩ := hcut
    cases kq with
    | zero => exact absurd HA.out (by simp [flyballref01_Add.j1])
    | succ kj2 =>
     have H := HA.out
     clear HA
     simp only [flyballref01_Add.j1] at H
     by_cases c6 : x22_2 = true
     ·subst c6
      have H1 : ((flyballref01_bit.f l0 x7_1).bind fun t101 => ((flyballref01_bit.f l1 x7_1).bind fun t102 => (if x5_1.length < 140737488355328 then ((some (x5_1 ++ [((t101 != t102) != x6_1)] : List Bool)).bind fun y103 => (if t101 = true then (if t102 = true then (flyballref01_Add.l0 kj2 l0 l1 y103 true (wrap64 (x7_1 + 1))) else (if x6_1 = true then (flyballref01_Add.l0 kj2 l0 l1 y103 true (wrap64 (x7_1 + 1))) else (flyballref01_Add.l0 kj2 l0 l1 y103 false (wrap64 (x7_1 + 1))))) else (if t102 = true then (flyballref01_Add.l0 kj2 l0 l1 y103 x6_1 (wrap64 (x7_1 + 1))) else (flyballref01_Add.l0 kj2 l0 l1 y103 false (wrap64 (x7_1 + 1)))))) else (none)))) = some r := by rw [if_pos rfl] at H; exact H
      clear H
      have H := H1
      clear H1
      replace H := Option.bind_eq_some_iff.mp H
      obtain ⟨t101, A70, H⟩ := H
      replace H : ((flyballref01_bit.f l1 x7_1).bind fun t102 => (if x5_1.length < 140737488355328 then ((some (x5_1 ++ [((t101 != t102) != x6_1)] : List Bool)).bind fun y103 => (if t101 = true then (if t102 = true then (flyballref01_Add.l0 kj2 l0 l1 y103 true (wrap64 (x7_1 + 1))) else (if x6_1 = true then (flyballref01_Add.l0 kj2 l0 l1 y103 true (wrap64 (x7_1 + 1))) else (flyballref01_Add.l0 kj2 l0 l1 y103 false (wrap64 (x7_1 + 1))))) else (if t102 = true then (flyballref01_Add.l0 kj2 l0 l1 y103 x6_1 (wrap64 (x7_1 + 1))) else (flyballref01_Add.l0 kj2 l0 l1 y103 false (wrap64 (x7_1 + 1)))))) else (none))) = some r := H
      have A7 := Aside0.mk A70
      clear A70
      replace H := Option.bind_eq_some_iff.mp H
      obtain ⟨t102, A80, H⟩ := H
      replace H : (if x5_1.length < 140737488355328 then ((some (x5_1 ++ [((t101 != t102) != x6_1)] : List Bool)).bind fun y103 => (if t101 = true then (if t102 = true then (flyballref01_Add.l0 kj2 l0 l1 y103 true (wrap64 (x7_1 + 1))) else (if x6_1 = true then (flyballref01_Add.l0 kj2 l0 l1 y103 true (wrap64 (x7_1 + 1))) else (flyballref01_Add.l0 kj2 l0 l1 y103 false (wrap64 (x7_1 + 1))))) else (if t102 = true then (flyballref01_Add.l0 kj2 l0 l1 y103 x6_1 (wrap64 (x7_1 + 1))) else (flyballref01_Add.l0 kj2 l0 l1 y103 false (wrap64 (x7_1 + 1)))))) else (none)) = some r := H
      have A8 := Aside0.mk A80
      clear A80
      by_cases c9 : x5_1.length < 140737488355328
      ·rw [if_pos c9] at H
       have LMc9 := Aside0.mk c9
       clear c9
       obtain ⟨y103, hy103⟩ : ∃ y_ : List Bool, y_ = (x5_1 ++ [((t101 != t102) != x6_1)]) := ⟨_, rfl⟩
       replace H : (if t101 = true then (if t102 = true then (flyballref01_Add.l0 kj2 l0 l1 y103 true (wrap64 (x7_1 + 1))) else (if x6_1 = true then (flyballref01_Add.l0 kj2 l0 l1 y103 true (wrap64 (x7_1 + 1))) else (flyballref01_Add.l0 kj2 l0 l1 y103 false (wrap64 (x7_1 + 1))))) else (if t102 = true then (flyballref01_Add.l0 kj2 l0 l1 y103 x6_1 (wrap64 (x7_1 + 1))) else (flyballref01_Add.l0 kj2 l0 l1 y103 false (wrap64 (x7_1 + 1))))) = some r := by first | (rw [hy103]; with_reducible exact H) | (have H2_ := (Option.bind_some _ _).symm.trans H; rw [hy103]; with_reducible exact H2_) | (have H2_ := (Option.bind_some _ _).symm.trans H; with_reducible exact H2_) | with_reducible exact H | (rw [hy103]; exact H) | exact H
       have Ny103 := Aside0.mk hy103
       clear hy103
       by_cases c10 : t101 = true
       ·subst c10
        have H1 : (if t102 = true then (flyballref01_Add.l0 kj2 l0 l1 y103 true (wrap64 (x7_1 + 1))) else (if x6_1 = true then (flyballref01_Add.l0 kj2 l0 l1 y103 true (wrap64 (x7_1 + 1))) else (flyballref01_Add.l0 kj2 l0 l1 y103 false (wrap64 (x7_1 + 1))))) = some r := by rw [if_pos rfl] at H; exact H
        clear H
        have H := H1
        clear H1
        by_cases c11 : t102 = true
        ·subst c11
         have H1 : (flyballref01_Add.l0 kj2 l0 l1 y103 true (wrap64 (x7_1 + 1))) = some r := by rw [if_pos rfl] at H; exact H
         clear H
         have H := H1
         clear H1
         have H' := Aside0.mk H
         clear H
         go_wp2_with (first | ((with_reducible refine gate_callee (f := 105) rfl ?_); refine goesL_ (some 27) rfl rfl Try.func105 (by kernel_rfl) rfl #[.slice A0 l0.length c0, .int .i64 x7_1] rfl (by (try simp only [List.map_toArray, List.map_cons, List.map_nil]); first | done | rfl | (simp only [List.length_drop, List.length_take]; rfl)) ?_; (with_reducible refine (flyballref01_bit.calls _ _ l0 x7_1 true _ ?side1 ?side2 A7.out).mono ?_); (case side1 => repeat (first | exact (Kd.C_below HR0.out HB.out) | (with_reducible refine Kd.C_alloc ?_ _) | (with_reducible refine Kd.C_drewN ?_ _) | (with_reducible refine Kd.C_drew ?_))); (case side2 => exact HC0.out); rintro e w' ⟨rfl, ⟨nd, rfl⟩⟩; refine ⟨_, rfl, ?_⟩) | ((with_reducible refine gate_callee (f := 105) rfl ?_); refine goesL_ (some 30) rfl rfl Try.func105 (by kernel_rfl) rfl #[.slice A1 l1.length c1, .int .i64 x7_1] rfl (by (try simp only [List.map_toArray, List.map_cons, List.map_nil]); first | done | rfl | (simp only [List.length_drop, List.length_take]; rfl)) ?_; (with_reducible refine (flyballref01_bit.calls _ _ l1 x7_1 true _ ?side1 ?side2 A8.out).mono ?_); (case side1 => repeat (first | exact (Kd.C_below HR1.out (by repeat (first | (with_reducible first | exact HB.out | apply below_alloc | apply pw_below_drewN | apply below_drew1) | exact HB.out))) | (with_reducible refine Kd.C_alloc ?_ _) | (with_reducible refine Kd.C_drewN ?_ _) | (with_reducible refine Kd.C_drew ?_))); (case side2 => exact HC1.out); rintro e w' ⟨rfl, ⟨nd, rfl⟩⟩; refine ⟨_, rfl, ?_⟩) | ((with_reducible refine gate_builtin (b := .append) (xs := #[.tmp 31, .tmp 37]) rfl ?_); (try (refine gate_guard (by rfl) ?_; dsimp only)); at_builtin; refine Kd.R_append Kd.bool (w0 := w) w.heap.size rfl (.tmp 31) (.tmp 37) 26 4 (.bool false) 1 rfl Try.underlying26 info4 rfl (by decide) (by omega) u5 x5_1 x6_1 [.bool x6_1] (fun _ => True) (fun _ => False) rfl rfl ?aP (fun _ hk => hk.elim) ?aF ?aO ?aB ?aS ?aL ?_; (case aP => exact rfl); (case aB => exact (by repeat (first | (with_reducible first | exact HB.out | apply below_alloc | apply pw_below_drewN | apply below_drew1) | exact HB.out))); (case aF => exact (fun _ _ => trivial)); (case aO => exact (by (with_reducible repeat (first | apply Kd.R_alloc | apply Kd.R_drewN | apply Kd.R_drew)); exact HO_5.out)); (case aS => exact (below_size (by repeat (first | (with_reducible first | exact HB.out | apply below_alloc | apply pw_below_drewN | apply below_drew1) | exact HB.out)))); (case aL => have := LMc9.out; omega); intro v104 w12 ho hb hg hat; rw [show x6_1 = ((true != true) != x6_1) from by cases x6_1 <;> rfl] at ho; rw [← Ny103.out] at ho; have n0_ := Aside0.mk (hb); have n1_ := Aside0.mk (ho); clear HB; clear HO_5; have HB := n0_; have HO105 := n1_; clear n0_ n1_; clear ho hb hg hat))
         go_roundg kj2
         case measure => have := HK1.out; have := HJ2.out; omega
         case rel => exact ⟨(y103), (true), (wrap64 (x7_1 + 1)), (by first | rfl | (simp; done) | (simp [*]; done)), (by first | rfl | (simp; done) | (simp [*]; done)), H', ⟨by have := HK1.out; have := HJ2.out; omega⟩, ⟨by (with_reducible repeat (first | apply Kd.R_alloc | apply Kd.R_drewN | apply Kd.R_drew)); exact HO105.out⟩, ⟨by repeat (first | (with_reducible first | exact HB.out | apply below_alloc | apply pw_below_drewN | apply below_drew1) | exact HB.out)⟩⟩
        ·replace c11 := Bool.eq_false_iff.mpr c11
         subst c11
         have H1 : (if x6_1 = true then (flyballref01_Add.l0 kj2 l0 l1 y103 true (wrap64 (x7_1 + 1))) else (flyballref01_Add.l0 kj2 l0 l1 y103 false (wrap64 (x7_1 + 1)))) = some r := by rw [if_neg (show ¬ (false = true) by decide)] at H; exact H
         clear H
         have H := H1
         clear H1
         by_cases c13 : x6_1 = true
         ·subst c13
          have H1 : (flyballref01_Add.l0 kj2 l0 l1 y103 true (wrap64 (x7_1 + 1))) = some r := by rw [if_pos rfl] at H; exact H
          clear H
          have H := H1
          clear H1
          have H' := Aside0.mk H
          clear H
          go_wp2_with (first | ((with_reducible refine gate_callee (f := 105) rfl ?_); refine goesL_ (some 27) rfl rfl Try.func105 (by kernel_rfl) rfl #[.slice A0 l0.length c0, .int .i64 x7_1] rfl (by (try simp only [List.map_toArray, List.map_cons, List.map_nil]); first | done | rfl | (simp only [List.length_drop, List.length_take]; rfl)) ?_; (with_reducible refine (flyballref01_bit.calls _ _ l0 x7_1 true _ ?side1 ?side2 A7.out).mono ?_); (case side1 => repeat (first | exact (Kd.C_below HR0.out HB.out) | (with_reducible refine Kd.C_alloc ?_ _) | (with_reducible refine Kd.C_drewN ?_ _) | (with_reducible refine Kd.C_drew ?_))); (case side2 => exact HC0.out); rintro e w' ⟨rfl, ⟨nd, rfl⟩⟩; refine ⟨_, rfl, ?_⟩) | ((with_reducible refine gate_callee (f := 105) rfl ?_); refine goesL_ (some 30) rfl rfl Try.func105 (by kernel_rfl) rfl #[.slice A1 l1.length c1, .int .i64 x7_1] rfl (by (try simp only [List.map_toArray, List.map_cons, List.map_nil]); first | done | rfl | (simp only [List.length_drop, List.length_take]; rfl)) ?_; (with_reducible refine (flyballref01_bit.calls _ _ l1 x7_1 false _ ?side1 ?side2 A8.out).mono ?_); (case side1 => repeat (first | exact (Kd.C_below HR1.out (by repeat (first | (with_reducible first | exact HB.out | apply below_alloc | apply pw_below_drewN | apply below_drew1) | exact HB.out))) | (with_reducible refine Kd.C_alloc ?_ _) | (with_reducible refine Kd.C_drewN ?_ _) | (with_reducible refine Kd.C_drew ?_))); (case side2 => exact HC1.out); rintro e w' ⟨rfl, ⟨nd, rfl⟩⟩; refine ⟨_, rfl, ?_⟩) | ((with_reducible refine gate_builtin (b := .append) (xs := #[.tmp 31, .tmp 37]) rfl ?_); (try (refine gate_guard (by rfl) ?_; dsimp only)); at_builtin; refine Kd.R_append Kd.bool (w0 := w) w.heap.size rfl (.tmp 31) (.tmp 37) 26 4 (.bool false) 1 rfl Try.underlying26 info4 rfl (by decide) (by omega) u5 x5_1 ((true != false) != true) [.bool ((true != false) != true)] (fun _ => True) (fun _ => False) rfl rfl ?aP (fun _ hk => hk.elim) ?aF ?aO ?aB ?aS ?aL ?_; (case aP => exact rfl); (case aB => exact (by repeat (first | (with_reducible first | exact HB.out | apply below_alloc | apply pw_below_drewN | apply below_drew1) | exact HB.out))); (case aF => exact (fun _ _ => trivial)); (case aO => exact (by (with_reducible repeat (first | apply Kd.R_alloc | apply Kd.R_drewN | apply Kd.R_drew)); exact HO_5.out)); (case aS => exact (below_size (by repeat (first | (with_reducible first | exact HB.out | apply below_alloc | apply pw_below_drewN | apply below_drew1) | exact HB.out)))); (case aL => have := LMc9.out; omega); intro v104 w14 ho hb hg hat; rw [← Ny103.out] at ho; have n0_ := Aside0.mk (hb); have n1_ := Aside0.mk (ho); clear HB; clear HO_5; have HB := n0_; have HO105 := n1_; clear n0_ n1_; clear ho hb hg hat))
          go_roundg kj2
          case measure => have := HK1.out; have := HJ2.out; omega
          case rel => exact ⟨(y103), (true), (wrap64 (x7_1 + 1)), (by first | rfl | (simp; done) | (simp [*]; done)), (by first | rfl | (simp; done) | (simp [*]; done)), H', ⟨by have := HK1.out; have := HJ2.out; omega⟩, ⟨by (with_reducible repeat (first | apply Kd.R_alloc | apply Kd.R_drewN | apply Kd.R_drew)); exact HO105.out⟩, ⟨by repeat (first | (with_reducible first | exact HB.out | apply below_alloc | apply pw_below_drewN | apply below_drew1) | exact HB.out)⟩⟩
         ·replace c13 := Bool.eq_false_iff.mpr c13
          subst c13
          have H1 : (flyballref01_Add.l0 kj2 l0 l1 y103 false (wrap64 (x7_1 + 1))) = some r := by rw [if_neg (show ¬ (false = true) by decide)] at H; exact H
          clear H
          have H := H1
          clear H1
          have H' := Aside0.mk H
          clear H
          go_wp2_with (first | ((with_reducible refine gate_callee (f := 105) rfl ?_); refine goesL_ (some 27) rfl rfl Try.func105 (by kernel_rfl) rfl #[.slice A0 l0.length c0, .int .i64 x7_1] rfl (by (try simp only [List.map_toArray, List.map_cons, List.map_nil]); first | done | rfl | (simp only [List.length_drop, List.length_take]; rfl)) ?_; (with_reducible refine (flyballref01_bit.calls _ _ l0 x7_1 true _ ?side1 ?side2 A7.out).mono ?_); (case side1 => repeat (first | exact (Kd.C_below HR0.out HB.out) | (with_reducible refine Kd.C_alloc ?_ _) | (with_reducible refine Kd.C_drewN ?_ _) | (with_reducible refine Kd.C_drew ?_))); (case side2 => exact HC0.out); rintro e w' ⟨rfl, ⟨nd, rfl⟩⟩; refine ⟨_, rfl, ?_⟩) | ((with_reducible refine gate_callee (f := 105) rfl ?_); refine goesL_ (some 30) rfl rfl Try.func105 (by kernel_rfl) rfl #[.slice A1 l1.length c1, .int .i64 x7_1] rfl (by (try simp only [List.map_toArray, List.map_cons, List.map_nil]); first | done | rfl | (simp only [List.length_drop, List.length_take]; rfl)) ?_; (with_reducible refine (flyballref01_bit.calls _ _ l1 x7_1 false _ ?side1 ?side2 A8.out).mono ?_); (case side1 => repeat (first | exact (Kd.C_below HR1.out (by repeat (first | (with_reducible first | exact HB.out | apply below_alloc | apply pw_below_drewN | apply below_drew1) | exact HB.out))) | (with_reducible refine Kd.C_alloc ?_ _) | (with_reducible refine Kd.C_drewN ?_ _) | (with_reducible refine Kd.C_drew ?_))); (case side2 => exact HC1.out); rintro e w' ⟨rfl, ⟨nd, rfl⟩⟩; refine ⟨_, rfl, ?_⟩) | ((with_reducible refine gate_builtin (b := .append) (xs := #[.tmp 31, .tmp 37]) rfl ?_); (try (refine gate_guard (by rfl) ?_; dsimp only)); at_builtin; refine Kd.R_append Kd.bool (w0 := w) w.heap.size rfl (.tmp 31) (.tmp 37) 26 4 (.bool false) 1 rfl Try.underlying26 info4 rfl (by decide) (by omega) u5 x5_1 ((true != false) != false) [.bool ((true != false) != false)] (fun _ => True) (fun _ => False) rfl rfl ?aP (fun _ hk => hk.elim) ?aF ?aO ?aB ?aS ?aL ?_; (case aP => exact rfl); (case aB => exact (by repeat (first | (with_reducible first | exact HB.out | apply below_alloc | apply pw_below_drewN | apply below_drew1) | exact HB.out))); (case aF => exact (fun _ _ => trivial)); (case aO => exact (by (with_reducible repeat (first | apply Kd.R_alloc | apply Kd.R_drewN | apply Kd.R_drew)); exact HO_5.out)); (case aS => exact (below_size (by repeat (first | (with_reducible first | exact HB.out | apply below_alloc | apply pw_below_drewN | apply below_drew1) | exact HB.out)))); (case aL => have := LMc9.out; omega); intro v104 w15 ho hb hg hat; rw [← Ny103.out] at ho; have n0_ := Aside0.mk (hb); have n1_ := Aside0.mk (ho); clear HB; clear HO_5; have HB := n0_; have HO105 := n1_; clear n0_ n1_; clear ho hb hg hat))
          go_roundg kj2
          case measure => have := HK1.out; have := HJ2.out; omega
          case rel => exact ⟨(y103), (false), (wrap64 (x7_1 + 1)), (by first | rfl | (simp; done) | (simp [*]; done)), (by first | rfl | (simp; done) | (simp [*]; done)), H', ⟨by have := HK1.out; have := HJ2.out; omega⟩, ⟨by (with_reducible repeat (first | apply Kd.R_alloc | apply Kd.R_drewN | apply Kd.R_drew)); exact HO105.out⟩, ⟨by repeat (first | (with_reducible first | exact HB.out | apply below_alloc | apply pw_below_drewN | apply below_drew1) | exact HB.out)⟩⟩
       ·replace c10 := Bool.eq_false_iff.mpr c10
        subst c10
        have H1 : (if t102 = true then (flyballref01_Add.l0 kj2 l0 l1 y103 x6_1 (wrap64 (x7_1 + 1))) else (flyballref01_Add.l0 kj2 l0 l1 y103 false (wrap64 (x7_1 + 1)))) = some r := by rw [if_neg (show ¬ (false = true) by decide)] at H; exact H
        clear H
        have H := H1
        clear H1
        by_cases c16 : t102 = true
        ·subst c16
         have H1 : (flyballref01_Add.l0 kj2 l0 l1 y103 x6_1 (wrap64 (x7_1 + 1))) = some r := by rw [if_pos rfl] at H; exact H
         clear H
         have H := H1
         clear H1
         have H' := Aside0.mk H
         clear H
         go_wp2_with (first | ((with_reducible refine gate_callee (f := 105) rfl ?_); refine goesL_ (some 27) rfl rfl Try.func105 (by kernel_rfl) rfl #[.slice A0 l0.length c0, .int .i64 x7_1] rfl (by (try simp only [List.map_toArray, List.map_cons, List.map_nil]); first | done | rfl | (simp only [List.length_drop, List.length_take]; rfl)) ?_; (with_reducible refine (flyballref01_bit.calls _ _ l0 x7_1 false _ ?side1 ?side2 A7.out).mono ?_); (case side1 => repeat (first | exact (Kd.C_below HR0.out HB.out) | (with_reducible refine Kd.C_alloc ?_ _) | (with_reducible refine Kd.C_drewN ?_ _) | (with_reducible refine Kd.C_drew ?_))); (case side2 => exact HC0.out); rintro e w' ⟨rfl, ⟨nd, rfl⟩⟩; refine ⟨_, rfl, ?_⟩) | ((with_reducible refine gate_callee (f := 105) rfl ?_); refine goesL_ (some 30) rfl rfl Try.func105 (by kernel_rfl) rfl #[.slice A1 l1.length c1, .int .i64 x7_1] rfl (by (try simp only [List.map_toArray, List.map_cons, List.map_nil]); first | done | rfl | (simp only [List.length_drop, List.length_take]; rfl)) ?_; (with_reducible refine (flyballref01_bit.calls _ _ l1 x7_1 true _ ?side1 ?side2 A8.out).mono ?_); (case side1 => repeat (first | exact (Kd.C_below HR1.out (by repeat (first | (with_reducible first | exact HB.out | apply below_alloc | apply pw_below_drewN | apply below_drew1) | exact HB.out))) | (with_reducible refine Kd.C_alloc ?_ _) | (with_reducible refine Kd.C_drewN ?_ _) | (with_reducible refine Kd.C_drew ?_))); (case side2 => exact HC1.out); rintro e w' ⟨rfl, ⟨nd, rfl⟩⟩; refine ⟨_, rfl, ?_⟩) | ((with_reducible refine gate_builtin (b := .append) (xs := #[.tmp 31, .tmp 37]) rfl ?_); (try (refine gate_guard (by rfl) ?_; dsimp only)); at_builtin; refine Kd.R_append Kd.bool (w0 := w) w.heap.size rfl (.tmp 31) (.tmp 37) 26 4 (.bool false) 1 rfl Try.underlying26 info4 rfl (by decide) (by omega) u5 x5_1 (!x6_1) [.bool (!x6_1)] (fun _ => True) (fun _ => False) rfl rfl ?aP (fun _ hk => hk.elim) ?aF ?aO ?aB ?aS ?aL ?_; (case aP => exact rfl); (case aB => exact (by repeat (first | (with_reducible first | exact HB.out | apply below_alloc | apply pw_below_drewN | apply below_drew1) | exact HB.out))); (case aF => exact (fun _ _ => trivial)); (case aO => exact (by (with_reducible repeat (first | apply Kd.R_alloc | apply Kd.R_drewN | apply Kd.R_drew)); exact HO_5.out)); (case aS => exact (below_size (by repeat (first | (with_reducible first | exact HB.out | apply below_alloc | apply pw_below_drewN | apply below_drew1) | exact HB.out)))); (case aL => have := LMc9.out; omega); intro v104 w17 ho hb hg hat; rw [show (!x6_1) = ((false != true) != x6_1) from by cases x6_1 <;> rfl] at ho; rw [← Ny103.out] at ho; have n0_ := Aside0.mk (hb); have n1_ := Aside0.mk (ho); clear HB; clear HO_5; have HB := n0_; have HO105 := n1_; clear n0_ n1_; clear ho hb hg hat))
         go_roundg kj2
         case measure => have := HK1.out; have := HJ2.out; omega
         case rel => exact ⟨(y103), (x6_1), (wrap64 (x7_1 + 1)), (by first | rfl | (simp; done) | (simp [*]; done)), (by first | rfl | (simp; done) | (simp [*]; done)), H', ⟨by have := HK1.out; have := HJ2.out; omega⟩, ⟨by (with_reducible repeat (first | apply Kd.R_alloc | apply Kd.R_drewN | apply Kd.R_drew)); exact HO105.out⟩, ⟨by repeat (first | (with_reducible first | exact HB.out | apply below_alloc | apply pw_below_drewN | apply below_drew1) | exact HB.out)⟩⟩
        ·replace c16 := Bool.eq_false_iff.mpr c16
         subst c16
         have H1 : (flyballref01_Add.l0 kj2 l0 l1 y103 false (wrap64 (x7_1 + 1))) = some r := by rw [if_neg (show ¬ (false = true) by decide)] at H; exact H
         clear H
         have H := H1
         clear H1
         have H' := Aside0.mk H
         clear H
         go_wp2_with (first | ((with_reducible refine gate_callee (f := 105) rfl ?_); refine goesL_ (some 27) rfl rfl Try.func105 (by kernel_rfl) rfl #[.slice A0 l0.length c0, .int .i64 x7_1] rfl (by (try simp only [List.map_toArray, List.map_cons, List.map_nil]); first | done | rfl | (simp only [List.length_drop, List.length_take]; rfl)) ?_; (with_reducible refine (flyballref01_bit.calls _ _ l0 x7_1 false _ ?side1 ?side2 A7.out).mono ?_); (case side1 => repeat (first | exact (Kd.C_below HR0.out HB.out) | (with_reducible refine Kd.C_alloc ?_ _) | (with_reducible refine Kd.C_drewN ?_ _) | (with_reducible refine Kd.C_drew ?_))); (case side2 => exact HC0.out); rintro e w' ⟨rfl, ⟨nd, rfl⟩⟩; refine ⟨_, rfl, ?_⟩) | ((with_reducible refine gate_callee (f := 105) rfl ?_); refine goesL_ (some 30) rfl rfl Try.func105 (by kernel_rfl) rfl #[.slice A1 l1.length c1, .int .i64 x7_1] rfl (by (try simp only [List.map_toArray, List.map_cons, List.map_nil]); first | done | rfl | (simp only [List.length_drop, List.length_take]; rfl)) ?_; (with_reducible refine (flyballref01_bit.calls _ _ l1 x7_1 false _ ?side1 ?side2 A8.out).mono ?_); (case side1 => repeat (first | exact (Kd.C_below HR1.out (by repeat (first | (with_reducible first | exact HB.out | apply below_alloc | apply pw_below_drewN | apply below_drew1) | exact HB.out))) | (with_reducible refine Kd.C_alloc ?_ _) | (with_reducible refine Kd.C_drewN ?_ _) | (with_reducible refine Kd.C_drew ?_))); (case side2 => exact HC1.out); rintro e w' ⟨rfl, ⟨nd, rfl⟩⟩; refine ⟨_, rfl, ?_⟩) | ((with_reducible refine gate_builtin (b := .append) (xs := #[.tmp 31, .tmp 37]) rfl ?_); (try (refine gate_guard (by rfl) ?_; dsimp only)); at_builtin; refine Kd.R_append Kd.bool (w0 := w) w.heap.size rfl (.tmp 31) (.tmp 37) 26 4 (.bool false) 1 rfl Try.underlying26 info4 rfl (by decide) (by omega) u5 x5_1 x6_1 [.bool x6_1] (fun _ => True) (fun _ => False) rfl rfl ?aP (fun _ hk => hk.elim) ?aF ?aO ?aB ?aS ?aL ?_; (case aP => exact rfl); (case aB => exact (by repeat (first | (with_reducible first | exact HB.out | apply below_alloc | apply pw_below_drewN | apply below_drew1) | exact HB.out))); (case aF => exact (fun _ _ => trivial)); (case aO => exact (by (with_reducible repeat (first | apply Kd.R_alloc | apply Kd.R_drewN | apply Kd.R_drew)); exact HO_5.out)); (case aS => exact (below_size (by repeat (first | (with_reducible first | exact HB.out | apply below_alloc | apply pw_below_drewN | apply below_drew1) | exact HB.out)))); (case aL => have := LMc9.out; omega); intro v104 w18 ho hb hg hat; rw [show x6_1 = ((false != false) != x6_1) from by cases x6_1 <;> rfl] at ho; rw [← Ny103.out] at ho; have n0_ := Aside0.mk (hb); have n1_ := Aside0.mk (ho); clear HB; clear HO_5; have HB := n0_; have HO105 := n1_; clear n0_ n1_; clear ho hb hg hat))
         go_roundg kj2
         case measure => have := HK1.out; have := HJ2.out; omega
         case rel => exact ⟨(y103), (false), (wrap64 (x7_1 + 1)), (by first | rfl | (simp; done) | (simp [*]; done)), (by first | rfl | (simp; done) | (simp [*]; done)), H', ⟨by have := HK1.out; have := HJ2.out; omega⟩, ⟨by (with_reducible repeat (first | apply Kd.R_alloc | apply Kd.R_drewN | apply Kd.R_drew)); exact HO105.out⟩, ⟨by repeat (first | (with_reducible first | exact HB.out | apply below_alloc | apply pw_below_drewN | apply below_drew1) | exact HB.out)⟩⟩
      ·rw [if_neg c9] at H
       exact absurd H (by simp)
     ·replace c6 := Bool.eq_false_iff.mpr c6
      subst c6
      have H1 : (some x5_1) = some r := by rw [if_neg (show ¬ (false = true) by decide)] at H; exact H
      clear H
      have H := H1
      clear H1
      obtain rfl := Option.some.inj H
      go_wp2
      go_ret
      exact ⟨_, by first | rfl | (simp [errW_none, errW_some] <;> rfl) | (simp [*, errW_none, errW_some] <;> rfl), by (with_reducible repeat (first | apply Kd.R_alloc | apply Kd.R_drewN | apply Kd.R_drew)); exact HO_5.out, by repeat (first | (with_reducible first | exact HB.out | apply below_alloc | apply pw_below_drewN | apply below_drew1) | exact HB.out)⟩
end Go.Proofs.Ytagbnkbhobmgjaa.Fn
end
section
-- Written by a program of this session (a turned copy of the kit's printer, and hand-written parts). Not trusted: Lean checks it.
namespace Go.Proofs.Ytagbnkbhobmgjaa.Fn
open Go.RowKit Go.Proofs.YtagbnkbhobmgjaaW.PrintWords Go.Proofs.YtagbnkbhobmgjaaW.PrintLast Go.Proofs.YtagbnkbhobmgjaaW.PrintMore
attribute [local go_sem] max2_int min2_int max_two min_two max_three min_three max_four min_four   -- for this text's walks alone
set_option linter.unusedVariables false
set_option linter.unusedSimpArgs false
/-! ### flyballref01_Shl: function 45 -/
def flyballref01_Shl.l0 : Nat → List Bool → Int → List Bool → Int → Option (List Bool)
 | 0, _, _, _, _ => none
 | k + 1, x0, x1, x5, x6 => if x6 < x1 then (if x5.length < 140737488355328 then (flyballref01_Shl.l0 k x0 x1 (x5 ++ [false]) (wrap64 (x6 + 1))) else (none)) else (if x5.length + x0.length < 140737488355328 then (some (x5 ++ x0)) else (none))
def flyballref01_Shl.f (k : Nat) (l0 : List Bool) (a1 : Int) : Option (List Bool) := flyballref01_Shl.l0 k l0 a1 ([] : List Bool) 0
theorem flyballref01_Shl.mono_l : ∀ k, (∀ y0 y1 y2 y3, LeO (flyballref01_Shl.l0 k y0 y1 y2 y3) (flyballref01_Shl.l0 (k + 1) y0 y1 y2 y3))
 | 0 => fun _ _ _ _ r h => by simp [flyballref01_Shl.l0] at h
 | k + 1 => by
  have ih0 := flyballref01_Shl.mono_l k
  ·intro y0 y1 y2 y3
   unfold flyballref01_Shl.l0
   repeat' first
   | (with_reducible exact ih0 _ _ _ _)
   | (with_reducible exact LeO.refl _)
   | (with_reducible exact LeO.none _)
   | (with_reducible refine LeO.ite ?_ ?_)
   | (with_reducible refine LeO.bind ?_ (fun _ => ?_))
   | exact ih0 _ _ _ _
   | exact LeO.none _
   | refine LeO.ite ?_ ?_
   | refine LeO.bind ?_ (fun _ => ?_)
theorem flyballref01_Shl.mono : ∀ a0 a1 k, LeO (flyballref01_Shl.f k a0 a1) (flyballref01_Shl.f (k + 1) a0 a1) := by
 intro a0 a1 k
 have ih0 := flyballref01_Shl.mono_l k
 unfold flyballref01_Shl.f
 repeat' first
   | (with_reducible exact ih0 _ _ _ _)
   | (with_reducible exact LeO.refl _)
   | (with_reducible exact LeO.none _)
   | (with_reducible refine LeO.ite ?_ ?_)
   | (with_reducible refine LeO.bind ?_ (fun _ => ?_))
   | exact ih0 _ _ _ _
   | exact LeO.none _
   | refine LeO.ite ?_ ?_
   | refine LeO.bind ?_ (fun _ => ?_)
set_option maxHeartbeats 8000000 in
set_option maxRecDepth 100000 in
theorem flyballref01_Shl.calls (k : Nat) (A0 : Option Addr) (c0 : Nat) (l0 : List Bool) (a1 : Int) (r : List Bool) (w : World) (hr0 : Kd.C Kd.bool w A0 l0.length l0) (hc0 : l0.length ≤ c0) (h : flyballref01_Shl.f k l0 a1 = some r) :
  Calls Try.prog 45 #[.slice A0 l0.length c0, .int .i64 a1] w fun e w' => ∃ v0_ : Value, e = .returned (v0_) ∧ Kd.R Kd.bool 4 w' w.heap.size (fun _ => True) v0_ r ∧ Below w.heap.size w w' := by
 have HR0 := Aside0.mk hr0
 have HC0 := Aside0.mk hc0
 clear hr0 hc0
 have HB := Aside0.mk (Below.refl w.heap.size w)
 have H : (flyballref01_Shl.l0 k l0 a1 ([] : List Bool) 0) = some r := h
 clear h
 have H' := Aside0.mk H
 clear H
 go_enter Try.func45, Try.ntmps45
 go_wp2
 go_loopg [5, 6] k (fun kq v5 v6 w' => ∃ (x5_1 : List Bool) (x6_1 : Int), v6 = .int .i64 x6_1 ∧ Aside0 (flyballref01_Shl.l0 kq l0 a1 x5_1 x6_1 = some r) ∧ Aside0 (kq ≤ k) ∧ Aside0 (Kd.R Kd.bool 4 w' w.heap.size (fun _ => True) v5 x5_1) ∧ Aside0 (Below w.heap.size w w'))
 case atStart => exact ⟨(([] : List Bool)), (0), (by first | rfl | (simp; done) | (simp [*]; done)), H', ⟨Nat.le_refl _⟩, ⟨by first | exact Kd.R_nil _ _ _ _ _ | exact Kd.N_nil _ _ _ _ _ | exact Kd.V_nil _ _ _ _ _ | exact Kd.Q_nil _ _ _ _ _ | exact Kd.S_nil _ _ _ _ _⟩, ⟨by repeat (first | (with_reducible first | exact HB.out | apply below_alloc | apply pw_below_drewN | apply below_drew1) | exact HB.out)⟩⟩
 case round =>
  clear H'
  try clear p2
  obtain ⟨x5_1, x6_1, rfl, HA, HK1, HO_5, HB⟩ := hrel
  cases gk with
  | zero => exact absurd HA.out (by simp [flyballref01_Shl.l0])
  | succ k1 =>
   have H := HA.out
   clear HA
   simp only [flyballref01_Shl.l0] at H
   by_cases c3 : x6_1 < a1
   ·rw [if_pos c3] at H
    have c3b0 : decide (x6_1 < a1) = true := decide_eq_true c3
    clear c3
    by_cases c4 : x5_1.length < 140737488355328
    ·rw [if_pos c4] at H
     have LMc4 := Aside0.mk c4
     clear c4
     obtain ⟨y101, hy101⟩ : ∃ y_ : List Bool, y_ = (x5_1 ++ [false]) := ⟨_, rfl⟩
     replace H : (flyballref01_Shl.l0 k1 l0 a1 y101 (wrap64 (x6_1 + 1))) = some r := by first | (rw [hy101]; with_reducible exact H) | (have H2_ := (Option.bind_some _ _).symm.trans H; rw [hy101]; with_reducible exact H2_) | (have H2_ := (Option.bind_some _ _).symm.trans H; with_reducible exact H2_) | with_reducible exact H | (rw [hy101]; exact H) | exact H
     have Ny101 := Aside0.mk hy101
     clear hy101
     have H' := Aside0.mk H
     clear H
     go_wp2_with (first | ((with_reducible refine gate_builtin (b := .append) (xs := #[.tmp 12, .tmp 13]) rfl ?_); at_builtin; refine Kd.R_append Kd.bool (w0 := w) w.heap.size rfl (.tmp 12) (.tmp 13) 26 4 (.bool false) 1 rfl Try.underlying26 info4 rfl (by decide) (by omega) u5 x5_1 false [.bool false] (fun _ => True) (fun _ => False) rfl rfl ?aP (fun _ hk => hk.elim) ?aF ?aO ?aB ?aS ?aL ?_; (case aP => exact rfl); (case aB => exact (by repeat (first | (with_reducible first | exact HB.out | apply below_alloc | apply pw_below_drewN | apply below_drew1) | exact HB.out))); (case aF => exact (fun _ _ => trivial)); (case aO => exact (by (with_reducible repeat (first | apply Kd.R_alloc | apply Kd.R_drewN | apply Kd.R_drew)); exact HO_5.out)); (case aS => exact (below_size (by repeat (first | (with_reducible first | exact HB.out | apply below_alloc | apply pw_below_drewN | apply below_drew1) | exact HB.out)))); (case aL => have := LMc4.out; omega); intro v102 w5 ho hb hg hat; rw [← Ny101.out] at ho; have n0_ := Aside0.mk (hb); have n1_ := Aside0.mk (ho); clear HB; clear HO_5; have HB := n0_; have HO103 := n1_; clear n0_ n1_; clear ho hb hg hat))
     go_roundg k1
     case measure => have := HK1.out; omega
     case rel => exact ⟨(y101), (wrap64 (x6_1 + 1)), (by first | rfl | (simp; done) | (simp [*]; done)), H', ⟨by have := HK1.out; omega⟩, ⟨by (with_reducible repeat (first | apply Kd.R_alloc | apply Kd.R_drewN | apply Kd.R_drew)); exact HO103.out⟩, ⟨by repeat (first | (with_reducible first | exact HB.out | apply below_alloc | apply pw_below_drewN | apply below_drew1) | exact HB.out)⟩⟩
    ·rw [if_neg c4] at H
     exact absurd H (by simp)
   ·rw [if_neg c3] at H
    have c3b0 : decide (x6_1 < a1) = false := decide_eq_false c3
    clear c3
    by_cases c6 : x5_1.length + l0.length < 140737488355328
    ·rw [if_pos c6] at H
     have LMc6 := Aside0.mk c6
     clear c6
     obtain ⟨y104, hy104⟩ : ∃ y_ : List Bool, y_ = (x5_1 ++ l0) := ⟨_, rfl⟩
     replace H : (some y104) = some r := by first | (rw [hy104]; with_reducible exact H) | (have H2_ := (Option.bind_some _ _).symm.trans H; rw [hy104]; with_reducible exact H2_) | (have H2_ := (Option.bind_some _ _).symm.trans H; with_reducible exact H2_) | with_reducible exact H | (rw [hy104]; exact H) | exact H
     have Ny104 := Aside0.mk hy104
     clear hy104
     obtain rfl := Option.some.inj H
     go_wp2_with (first | ((with_reducible refine gate_builtin (b := .append) (xs := #[.tmp 15, .tmp 16]) rfl ?_); at_builtin; refine Kd.R_append_rows Kd.bool (w0 := w) w.heap.size rfl (.tmp 15) (.tmp 16) 26 4 (.bool false) 1 rfl Try.underlying26 info4 rfl (by decide) (by omega) u5 x5_1 l0 _ _ _ (fun _ => True) (fun _ => False) rfl rfl ?aO ?aR (fun _ _ h => h) (fun _ h => h.elim) ?aF ?aB ?aS ?aL ?_; (case aR => repeat (first | exact (Kd.C_below HR0.out HB.out) | (with_reducible refine Kd.C_alloc ?_ _) | (with_reducible refine Kd.C_drewN ?_ _) | (with_reducible refine Kd.C_drew ?_))); (case aB => exact (by repeat (first | (with_reducible first | exact HB.out | apply below_alloc | apply pw_below_drewN | apply below_drew1) | exact HB.out))); (case aF => exact (fun _ _ => trivial)); (case aO => exact (by (with_reducible repeat (first | apply Kd.R_alloc | apply Kd.R_drewN | apply Kd.R_drew)); exact HO_5.out)); (case aS => exact (below_size (by repeat (first | (with_reducible first | exact HB.out | apply below_alloc | apply pw_below_drewN | apply below_drew1) | exact HB.out)))); (case aL => have := LMc6.out; omega); intro v105 w7 ho hb hg hat; rw [← Ny104.out] at ho; have n0_ := Aside0.mk (hb); have n1_ := Aside0.mk (ho); clear HB; clear HO_5; have HB := n0_; have HO106 := n1_; clear n0_ n1_; clear ho hb hg hat))
     go_ret
     exact ⟨_, by first | rfl | (simp [errW_none, errW_some] <;> rfl) | (simp [*, errW_none, errW_some] <;> rfl), by (with_reducible repeat (first | apply Kd.R_alloc | apply Kd.R_drewN | apply Kd.R_drew)); exact HO106.out, by repeat (first | (with_reducible first | exact HB.out | apply below_alloc | apply pw_below_drewN | apply below_drew1) | exact HB.out)⟩
    ·rw [if_neg c6] at H
     exact absurd H (by simp)
end Go.Proofs.Ytagbnkbhobmgjaa.Fn
end
section
-- Written by a program of this session (a turned copy of the kit's printer, and hand-written parts). Not trusted: Lean checks it.
namespace Go.Proofs.Ytagbnkbhobmgjaa.Fn
open Go.RowKit Go.Proofs.YtagbnkbhobmgjaaW.PrintWords Go.Proofs.YtagbnkbhobmgjaaW.PrintLast Go.Proofs.YtagbnkbhobmgjaaW.PrintMore
attribute [local go_sem] max2_int min2_int max_two min_two max_three min_three max_four min_four   -- for this text's walks alone
set_option linter.unusedVariables false
set_option linter.unusedSimpArgs false
/-! ### flyballref01_Mul: function 31 -/
def flyballref01_Mul.l0 : Nat → List Bool → List Bool → List Bool → Int → Option (List Bool)
 | 0, _, _, _, _ => none
 | k + 1, x0, x1, x5, x6 => if x6 < (x1.length : Int) then (if 0 ≤ x6 then (if rdOf false x1 x6 = true then ((flyballref01_Shl.f k x0 x6).bind fun t102 => ((flyballref01_Add.f k x5 t102).bind fun t105 => (flyballref01_Mul.l0 k x0 x1 t105 (wrap64 (x6 + 1))))) else (flyballref01_Mul.l0 k x0 x1 x5 (wrap64 (x6 + 1)))) else (none)) else (some x5)
def flyballref01_Mul.f (k : Nat) (l0 : List Bool) (l1 : List Bool) : Option (List Bool) := flyballref01_Mul.l0 k l0 l1 ([] : List Bool) 0
theorem flyballref01_Mul.mono_l : ∀ k, (∀ y0 y1 y2 y3, LeO (flyballref01_Mul.l0 k y0 y1 y2 y3) (flyballref01_Mul.l0 (k + 1) y0 y1 y2 y3))
 | 0 => fun _ _ _ _ r h => by simp [flyballref01_Mul.l0] at h
 | k + 1 => by
  have ih0 := flyballref01_Mul.mono_l k
  ·intro y0 y1 y2 y3
   unfold flyballref01_Mul.l0
   repeat' first
   | (with_reducible exact ih0 _ _ _ _)
   | (with_reducible exact flyballref01_Add.mono _ _ _)
   | (with_reducible exact flyballref01_Shl.mono _ _ _)
   | (with_reducible exact LeO.refl _)
   | (with_reducible exact LeO.none _)
   | (with_reducible refine LeO.ite ?_ ?_)
   | (with_reducible refine LeO.bind ?_ (fun _ => ?_))
   | exact ih0 _ _ _ _
   | exact flyballref01_Add.mono _ _ _
   | exact flyballref01_Shl.mono _ _ _
   | exact LeO.none _
   | refine LeO.ite ?_ ?_
   | refine LeO.bind ?_ (fun _ => ?_)
theorem flyballref01_Mul.mono : ∀ a0 a1 k, LeO (flyballref01_Mul.f k a0 a1) (flyballref01_Mul.f (k + 1) a0 a1) := by
 intro a0 a1 k
 have ih0 := flyballref01_Mul.mono_l k
 unfold flyballref01_Mul.f
 repeat' first
   | (with_reducible exact ih0 _ _ _ _)
   | (with_reducible exact flyballref01_Add.mono _ _ _)
   | (with_reducible exact flyballref01_Shl.mono _ _ _)
   | (with_reducible exact LeO.refl _)
   | (with_reducible exact LeO.none _)
   | (with_reducible refine LeO.ite ?_ ?_)
   | (with_reducible refine LeO.bind ?_ (fun _ => ?_))
   | exact ih0 _ _ _ _
   | exact flyballref01_Add.mono _ _ _
   | exact flyballref01_Shl.mono _ _ _
   | exact LeO.none _
   | refine LeO.ite ?_ ?_
   | refine LeO.bind ?_ (fun _ => ?_)
set_option maxHeartbeats 8000000 in
set_option maxRecDepth 100000 in
theorem flyballref01_Mul.calls (k : Nat) (A0 : Option Addr) (c0 : Nat) (l0 : List Bool) (A1 : Option Addr) (c1 : Nat) (l1 : List Bool) (r : List Bool) (w : World) (hr0 : Kd.C Kd.bool w A0 l0.length l0) (hc0 : l0.length ≤ c0) (hr1 : Kd.C Kd.bool w A1 l1.length l1) (hc1 : l1.length ≤ c1) (h : flyballref01_Mul.f k l0 l1 = some r) :
  Calls Try.prog 31 #[.slice A0 l0.length c0, .slice A1 l1.length c1] w fun e w' => ∃ v0_ : Value, e = .returned (v0_) ∧ Kd.R Kd.bool 4 w' w.heap.size (fun _ => True) v0_ r ∧ Below w.heap.size w w' := by
 have HR0 := Aside0.mk hr0
 have HC0 := Aside0.mk hc0
 clear hr0 hc0
 have HR1 := Aside0.mk hr1
 have HC1 := Aside0.mk hc1
 clear hr1 hc1
 have HB := Aside0.mk (Below.refl w.heap.size w)
 have H : (flyballref01_Mul.l0 k l0 l1 ([] : List Bool) 0) = some r := h
 clear h
 have H' := Aside0.mk H
 clear H
 go_enter Try.func31, Try.ntmps31
 go_wp2
 go_loopg [5, 6] k (fun kq v5 v6 w' => ∃ (x5_1 : List Bool) (x6_1 : Int), v6 = .int .i64 x6_1 ∧ Aside0 (flyballref01_Mul.l0 kq l0 l1 x5_1 x6_1 = some r) ∧ Aside0 (kq ≤ k) ∧ Aside0 (Kd.R Kd.bool 4 w' w.heap.size (fun _ => True) v5 x5_1) ∧ Aside0 (Below w.heap.size w w'))
 case atStart => exact ⟨(([] : List Bool)), (0), (by first | rfl | (simp; done) | (simp [*]; done)), H', ⟨Nat.le_refl _⟩, ⟨by first | exact Kd.R_nil _ _ _ _ _ | exact Kd.N_nil _ _ _ _ _ | exact Kd.V_nil _ _ _ _ _ | exact Kd.Q_nil _ _ _ _ _ | exact Kd.S_nil _ _ _ _ _⟩, ⟨by repeat (first | (with_reducible first | exact HB.out | apply below_alloc | apply pw_below_drewN | apply below_drew1) | exact HB.out)⟩⟩
 case round =>
  clear H'
  try clear c1
  try clear p2
  obtain ⟨x5_1, x6_1, rfl, HA, HK1, HO_5, HB⟩ := hrel
  cases gk with
  | zero => exact absurd HA.out (by simp [flyballref01_Mul.l0])
  | succ k1 =>
   have H := HA.out
   clear HA
   simp only [flyballref01_Mul.l0] at H
   by_cases c3 : x6_1 < (l1.length : Int)
   ·rw [if_pos c3] at H
    have c3b0 : decide (x6_1 < (l1.length : Int)) = true := decide_eq_true c3
    clear c3
    by_cases c4 : 0 ≤ x6_1
    ·rw [if_pos c4] at H
     have c4b0 : decide (0 ≤ x6_1) = true := decide_eq_true c4
     clear c4
     obtain ⟨bq5, hbq5⟩ : ∃ b_ : Bool, b_ = (rdOf false l1 x6_1) := ⟨_, rfl⟩
     replace H : (if bq5 = true then ((flyballref01_Shl.f k1 l0 x6_1).bind fun t102 => ((flyballref01_Add.f k1 x5_1 t102).bind fun t105 => (flyballref01_Mul.l0 k1 l0 l1 t105 (wrap64 (x6_1 + 1))))) else (flyballref01_Mul.l0 k1 l0 l1 x5_1 (wrap64 (x6_1 + 1)))) = some r := by rw [← hbq5] at H; exact H
     have Nbq5 := Aside0.mk hbq5
     clear hbq5
     by_cases c6 : bq5 = true
     ·subst c6
      have H1 : ((flyballref01_Shl.f k1 l0 x6_1).bind fun t102 => ((flyballref01_Add.f k1 x5_1 t102).bind fun t105 => (flyballref01_Mul.l0 k1 l0 l1 t105 (wrap64 (x6_1 + 1))))) = some r := by rw [if_pos rfl] at H; exact H
      clear H
      have H := H1
      clear H1
      replace H := Option.bind_eq_some_iff.mp H
      obtain ⟨t102, A70, H⟩ := H
      replace H : ((flyballref01_Add.f k1 x5_1 t102).bind fun t105 => (flyballref01_Mul.l0 k1 l0 l1 t105 (wrap64 (x6_1 + 1)))) = some r := H
      have A7 := Aside0.mk A70
      clear A70
      replace H := Option.bind_eq_some_iff.mp H
      obtain ⟨t105, A80, H⟩ := H
      replace H : (flyballref01_Mul.l0 k1 l0 l1 t105 (wrap64 (x6_1 + 1))) = some r := H
      have A8 := Aside0.mk A80
      clear A80
      have H' := Aside0.mk H
      clear H
      have p101 : 0 ≤ (x6_1 : Int) := of_decide_eq_true (by first | (with_reducible assumption) | assumption)
      have q101 : x6_1 < (l1.length : Int) := of_decide_eq_true (by first | (with_reducible assumption) | assumption)
      obtain ⟨ad101, e101, hx101_0⟩ := Kd.at_bool HR1.out x6_1 p101 q101
      (try rw [← Nbq5.out] at hx101_0)
      cases e101
      replace hx101_0 := (HB.out.cell (World.block_lt_of_cell? w _ hx101_0)).trans hx101_0
      replace p101 := eq_true p101
      replace q101 := eq_true q101
      go_wp2_with (first | ((with_reducible refine gate_callee (f := 45) rfl ?_); refine goesL_ (some 20) rfl rfl Try.func45 (by kernel_rfl) rfl #[.slice A0 l0.length c0, .int .i64 x6_1] rfl (by (try simp only [List.map_toArray, List.map_cons, List.map_nil]); first | done | rfl | (simp only [List.length_drop, List.length_take]; rfl)) ?_; (with_reducible refine (flyballref01_Shl.calls k1 _ _ l0 x6_1 t102 _ ?side1 ?side2 A7.out).mono ?_); (case side1 => repeat (first | exact (Kd.C_below HR0.out HB.out) | (with_reducible refine Kd.C_alloc ?_ _) | (with_reducible refine Kd.C_drewN ?_ _) | (with_reducible refine Kd.C_drew ?_))); (case side2 => exact HC0.out); rintro e w9 ⟨v103, rfl, ho0, hb⟩; refine ⟨_, rfl, ?_⟩; have n0_ := Aside0.mk (Kd.R_elder' (by (with_reducible repeat (first | apply Kd.R_alloc | apply Kd.R_drewN | apply Kd.R_drew)); exact HO_5.out) (Kd.R_base ho0) hb); have n1_ := Aside0.mk (Kd.R_lower (Kd.R_new' ho0 (Kd.R_lt (by (with_reducible repeat (first | apply Kd.R_alloc | apply Kd.R_drewN | apply Kd.R_drew)); exact HO_5.out))) (below_size (by repeat (first | (with_reducible first | exact HB.out | apply below_alloc | apply pw_below_drewN | apply below_drew1) | exact HB.out)))); have n2_ := Aside0.mk (below_step (by repeat (first | (with_reducible first | exact HB.out | apply below_alloc | apply pw_below_drewN | apply below_drew1) | exact HB.out)) hb); clear HO_5; clear HB; have HO_5 := n0_; have HO104 := n1_; have HB := n2_; clear n0_ n1_ n2_; (try clear hb); (try clear hb2); (try clear hk); (try clear hi); (try clear ho0); obtain ⟨Ao10, co10, eo10⟩ := Kd.R_slice HO_5.out; subst eo10; obtain ⟨Ao11, co11, eo11⟩ := Kd.R_slice HO104.out; subst eo11) | ((with_reducible refine gate_callee (f := 29) rfl ?_); refine goesL_ (some 21) rfl rfl Try.func29 (by kernel_rfl) rfl #[.slice Ao10 x5_1.length co10, .slice Ao11 t102.length co11] rfl (by (try simp only [List.map_toArray, List.map_cons, List.map_nil]); first | done | rfl | (simp only [List.length_drop, List.length_take]; rfl)) ?_; (with_reducible refine (flyballref01_Add.calls k1 _ _ x5_1 _ _ t102 t105 _ ?side1 ?side2 ?side3 ?side4 A8.out).mono ?_); (case side1 => repeat (first | exact (Kd.R_reads' HO_5.out).2.2 | (with_reducible refine Kd.C_alloc ?_ _) | (with_reducible refine Kd.C_drewN ?_ _) | (with_reducible refine Kd.C_drew ?_))); (case side2 => exact (Kd.R_reads' HO_5.out).2.1); (case side3 => repeat (first | exact (Kd.R_reads' HO104.out).2.2 | (with_reducible refine Kd.C_alloc ?_ _) | (with_reducible refine Kd.C_drewN ?_ _) | (with_reducible refine Kd.C_drew ?_))); (case side4 => exact (Kd.R_reads' HO104.out).2.1); rintro e w12 ⟨v106, rfl, ho0, hb⟩; refine ⟨_, rfl, ?_⟩; have n0_ := Aside0.mk (Kd.R_elder' (by (with_reducible repeat (first | apply Kd.R_alloc | apply Kd.R_drewN | apply Kd.R_drew)); exact HO_5.out) (Kd.R_base ho0) hb); have n1_ := Aside0.mk (Kd.R_elder' (by (with_reducible repeat (first | apply Kd.R_alloc | apply Kd.R_drewN | apply Kd.R_drew)); exact HO104.out) (Kd.R_base ho0) hb); have n2_ := Aside0.mk (Kd.R_lower (Kd.R_new' (Kd.R_new' ho0 (Kd.R_lt (by (with_reducible repeat (first | apply Kd.R_alloc | apply Kd.R_drewN | apply Kd.R_drew)); exact HO_5.out))) (Kd.R_lt (by (with_reducible repeat (first | apply Kd.R_alloc | apply Kd.R_drewN | apply Kd.R_drew)); exact HO104.out))) (below_size (by repeat (first | (with_reducible first | exact HB.out | apply below_alloc | apply pw_below_drewN | apply below_drew1) | exact HB.out)))); have n3_ := Aside0.mk (below_step (by repeat (first | (with_reducible first | exact HB.out | apply below_alloc | apply pw_below_drewN | apply below_drew1) | exact HB.out)) hb); clear HO_5; clear HO104; clear HB; have HO_5 := n0_; have HO104 := n1_; have HO107 := n2_; have HB := n3_; clear n0_ n1_ n2_ n3_; (try clear hb); (try clear hb2); (try clear hk); (try clear hi); (try clear ho0)))
      go_roundg k1
      case measure => have := HK1.out; omega
      case rel => exact ⟨(t105), (wrap64 (x6_1 + 1)), (by first | rfl | (simp; done) | (simp [*]; done)), H', ⟨by have := HK1.out; omega⟩, ⟨by (with_reducible repeat (first | apply Kd.R_alloc | apply Kd.R_drewN | apply Kd.R_drew)); exact Kd.R_mono HO107.out (fun _ hk => trivial)⟩, ⟨by repeat (first | (with_reducible first | exact HB.out | apply below_alloc | apply pw_below_drewN | apply below_drew1) | exact HB.out)⟩⟩
     ·replace c6 := Bool.eq_false_iff.mpr c6
      subst c6
      have H1 : (flyballref01_Mul.l0 k1 l0 l1 x5_1 (wrap64 (x6_1 + 1))) = some r := by rw [if_neg (show ¬ (false = true) by decide)] at H; exact H
      clear H
      have H := H1
      clear H1
      have H' := Aside0.mk H
      clear H
      have p101 : 0 ≤ (x6_1 : Int) := of_decide_eq_true (by first | (with_reducible assumption) | assumption)
      have q101 : x6_1 < (l1.length : Int) := of_decide_eq_true (by first | (with_reducible assumption) | assumption)
      obtain ⟨ad101, e101, hx101_0⟩ := Kd.at_bool HR1.out x6_1 p101 q101
      (try rw [← Nbq5.out] at hx101_0)
      cases e101
      replace hx101_0 := (HB.out.cell (World.block_lt_of_cell? w _ hx101_0)).trans hx101_0
      replace p101 := eq_true p101
      replace q101 := eq_true q101
      go_wp2
      go_roundg k1
      case measure => have := HK1.out; omega
      case rel => exact ⟨(x5_1), (wrap64 (x6_1 + 1)), (by first | rfl | (simp; done) | (simp [*]; done)), H', ⟨by have := HK1.out; omega⟩, ⟨by (with_reducible repeat (first | apply Kd.R_alloc | apply Kd.R_drewN | apply Kd.R_drew)); exact HO_5.out⟩, ⟨by repeat (first | (with_reducible first | exact HB.out | apply below_alloc | apply pw_below_drewN | apply below_drew1) | exact HB.out)⟩⟩
    ·rw [if_neg c4] at H
     exact absurd H (by simp)
   ·rw [if_neg c3] at H
    have c3b0 : decide (x6_1 < (l1.length : Int)) = false := decide_eq_false c3
    clear c3
    obtain rfl := Option.some.inj H
    go_wp2
    go_ret
    exact ⟨_, by first | rfl | (simp [errW_none, errW_some] <;> rfl) | (simp [*, errW_none, errW_some] <;> rfl), by (with_reducible repeat (first | apply Kd.R_alloc | apply Kd.R_drewN | apply Kd.R_drew)); exact HO_5.out, by repeat (first | (with_reducible first | exact HB.out | apply below_alloc | apply pw_below_drewN | apply below_drew1) | exact HB.out)⟩
end Go.Proofs.Ytagbnkbhobmgjaa.Fn
end
section
/-! Small words on wrapped numbers. -/
set_option linter.unusedVariables false
set_option linter.unusedSimpArgs false
namespace Go.Proofs.Ytagbnkbhobmgjaa.Fn
open Go.RowKit Go.Proofs.YtagbnkbhobmgjaaW.PrintWords
theorem wu8 (x : Int) : IntKind.u8.wrap x = x % 256 := by simp [IntKind.wrap, IntKind.bits, IntKind.signed]
theorem wu64 (x : Int) : IntKind.u64.wrap x = x % 18446744073709551616 := by simp [IntKind.wrap, IntKind.bits, IntKind.signed]
theorem wu64_u8 (x : Int) : IntKind.u64.wrap (IntKind.u8.wrap x) = x % 256 := by
  rw [wu64, wu8]; omega
/-- What came in, told as what may be shared. -/
theorem V_of_Cd {α : Type} {d : Kd α} (hd : Kd.Heap d) {w : World} {e base c : Nat} {A : Option Addr} {xs : List α} (h : d.C w A xs.length xs) (hc : xs.length ≤ c) : Kd.V d e w base (fun k_ => k_ < w.heap.size) (.slice A xs.length c) xs :=
  ⟨A, c, rfl, hc, fun W' hW => Kd.Heap.C hd (fun k hk => hW k hk hk) h⟩
theorem V_of_C {w : World} {k : IntKind} {e base c : Nat} {A : Option Addr} {xs : List Int} (h : Kd.C (Kd.int k) w A xs.length xs) (hc : xs.length ≤ c) : Kd.V (Kd.int k) e w base (fun k_ => k_ < w.heap.size) (.slice A xs.length c) xs := V_of_Cd (Kd.heap_int k) h hc
end Go.Proofs.Ytagbnkbhobmgjaa.Fn
end
section
/- What the functions at, trim, New, Add, Sub, Mul, Cmp of package nat compute: the words of the sum, the difference, the product. -/
set_option linter.unusedVariables false
set_option linter.unusedSimpArgs false
namespace Go.Proofs.Ytagbnkbhobmgjaa.Pure
open Go.RowKit Go.Proofs.Ytagbnkbhobmgjaa.Fn Go.Proofs.YtagbnkbhobmgjaaW.PrintWords Go.Proofs.YtagbnkbhobmgjaaW.PrintMore
theorem at_spec {a : List Int} (hW : WD a) (i : Int) (h0 : 0 ≤ i) : nat_Nat_at.f a i = some (rd a i) := by
  unfold nat_Nat_at.f
  by_cases h : i < (a.length : Int)
  · rw [if_pos h, if_pos h0, u64i (WD_rd hW i).1 (by have := (WD_rd hW i).2; omega)]
  · rw [if_neg h]
    unfold rd
    rw [List.getD_eq_getElem?_getD, List.getElem?_eq_none (by omega)]
    rfl
theorem rd_lt (a : List Int) (i : Nat) (h : i < a.length) : rd a (i : Int) = a[i] := by
  unfold rd
  rw [Int.toNat_natCast, List.getD_eq_getElem?_getD, List.getElem?_eq_getElem h]
  rfl
theorem rd_ge (a : List Int) (i : Nat) (h : a.length ≤ i) : rd a (i : Int) = 0 := by
  unfold rd
  rw [Int.toNat_natCast, List.getD_eq_getElem?_getD, List.getElem?_eq_none h]
  rfl
theorem wv_drop (a : List Int) (i : Nat) : wv (a.drop i) = (rd a (i : Int)).toNat + BW * wv (a.drop (i + 1)) := by
  by_cases h : i < a.length
  · rw [List.drop_eq_getElem_cons h, wv_cons, rd_lt a i h]
  · rw [List.drop_eq_nil_of_le (by omega), List.drop_eq_nil_of_le (by omega), rd_ge a i (by omega)]
    rfl
theorem rd_last (xs : List Int) (x : Int) : rd (xs ++ [x]) ((xs ++ [x]).length - 1 : Int) = x := by
  have e : (((xs ++ [x]).length : Int) - 1) = ((xs.length : Nat) : Int) := by simp
  rw [e, rd_lt _ _ (by simp)]
  simp
theorem trim_ev : ∀ (n : Nat) (a : List Int), a.length = n → WD a → a.length ≤ 9223372036854775807 → Ev (fun k => nat_trim.l0 k a) (words (wv a))
  | 0, a, hl, _, _ => by
    obtain rfl := List.eq_nil_of_length_eq_zero hl
    rw [wv_nil, words_zero]
    exact Ev.step (f := fun _ => some []) (fun k => by simp only [nat_trim.l0]; rw [if_neg (by simp)]) (Ev.now _)
  | n + 1, a, hl, hW, hm => by
    have hne : a ≠ [] := by intro e; subst e; simp at hl
    obtain ⟨xs, x, rfl⟩ : ∃ xs x, a = xs ++ [x] := ⟨a.dropLast, a.getLast hne, (List.dropLast_concat_getLast hne).symm⟩
    have hlx : xs.length = n := by simpa using hl
    have hw : wrap64 ((xs ++ [x]).length - 1 : Int) = ((xs ++ [x]).length - 1 : Int) := w64 (by omega) (by omega)
    have hx := (hW x (by simp))
    by_cases h0 : x = 0
    · subst h0
      have ih := trim_ev n xs hlx (WD_left hW) (by simp at hm; omega)
      have e : wv (xs ++ [0]) = wv xs := by rw [wv_snoc]; simp
      rw [e]
      refine Ev.step (f := fun k => nat_trim.l0 k xs) (fun k => ?_) ih
      simp only [nat_trim.l0]
      rw [hw, if_pos (by simp), if_pos (by simp), if_pos (by omega), rd_last, if_pos rfl, if_pos (by omega)]
      congr 1
      have : (((xs ++ [(0 : Int)]).length : Int) - 1).toNat = xs.length := by simp
      rw [this, List.take_left']
      rfl
    · have e : words (wv (xs ++ [x])) = xs ++ [x] := words_wv hW (fun y hy => by
        rw [List.getLast?_concat] at hy
        injection hy with hy
        rw [← hy]; exact h0)
      rw [e]
      refine Ev.step (f := fun _ => some (xs ++ [x])) (fun k => ?_) (Ev.now _)
      simp only [nat_trim.l0]
      rw [hw, if_pos (by simp), if_pos (by simp), if_pos (by omega), rd_last, if_neg h0]
theorem trim_spec {a : List Int} (hW : WD a) (hm : a.length ≤ 9223372036854775807) : Ev (fun k => nat_trim.f k a) (words (wv a)) := trim_ev _ a rfl hW hm
theorem New_spec (x : Int) (h0 : 0 ≤ x) (h1 : x < 18446744073709551616) : Ev (fun k => nat_New.f k x) (words x.toNat) := by
  have hW : WD [x % 4294967296, (x / 4294967296) % 4294967296] := WD_mk (by omega) (by omega) (WD_mk (by omega) (by omega) WD_nil)
  have e : wv [x % 4294967296, (x / 4294967296) % 4294967296] = x.toNat := by
    simp only [wv_cons, wv_nil, BW_eq]; omega
  have := trim_spec hW (by simp)
  rw [e] at this
  unfold nat_New.f
  exact Ev.bind this (Ev.now _)
theorem mx_nat (a b : Nat) : mx (a : Int) (b : Int) = ((max a b : Nat) : Int) := by unfold mx; split <;> omega
theorem Add_ev (a b : List Int) (ha : WD a) (hb : WD b) (n : Nat) (hn : n = max a.length b.length) (hm : n ≤ 1000000000) : ∀ (d i : Nat) (acc : List Int) (c : Int), i + d = n → acc.length = i → WD acc → 0 ≤ c → c ≤ 1 →
    Ev (fun k => nat_Nat_Add.l0 k a b acc c (n : Int) (i : Int)) (words (wv acc + BW ^ acc.length * (c.toNat + wv (a.drop i) + wv (b.drop i))))
  | 0, i, acc, c, hd, hl, hW, h0, h1 => by
    have ea : a.drop i = [] := List.drop_eq_nil_of_le (by omega)
    have eb : b.drop i = [] := List.drop_eq_nil_of_le (by omega)
    rw [ea, eb, wv_nil]
    have hc : c % 4294967296 = c := by omega
    have ht := trim_spec (WD_append hW (WD_mk h0 (by omega) WD_nil) : WD (acc ++ [c])) (by simp; omega)
    rw [wv_snoc] at ht
    refine Ev.step (f := fun k => (nat_trim.f k (acc ++ [c])).bind fun t => some t) (fun k => ?_) (Ev.bind (by simpa using ht) (Ev.now _))
    simp only [nat_Nat_Add.l0]
    rw [if_neg (by omega), if_pos (by omega), hc]
  | d + 1, i, acc, c, hd, hl, hW, h0, h1 => by
    obtain ⟨ra0, ra1⟩ := WD_rd ha (i : Int)
    obtain ⟨rb0, rb1⟩ := WD_rd hb (i : Int)
    generalize hra : rd a (i : Int) = x at *
    generalize hrb : rd b (i : Int) = y at *
    have es : IntKind.u64.wrap (c + IntKind.u64.wrap (x + y)) = c + x + y := by rw [u64i (x := x + y) (by omega) (by omega), u64i (by omega) (by omega)]; omega
    have ih := Add_ev a b ha hb n hn hm d (i + 1) (acc ++ [(c + x + y) % 4294967296]) ((c + x + y) / 4294967296) (by omega) (by simp [hl]) (WD_append hW (WD_mk (by omega) (by omega) WD_nil)) (by omega) (by omega)
    have e : wv (acc ++ [(c + x + y) % 4294967296]) + BW ^ (acc ++ [(c + x + y) % 4294967296]).length * (((c + x + y) / 4294967296).toNat + wv (a.drop (i + 1)) + wv (b.drop (i + 1))) = wv acc + BW ^ acc.length * (c.toNat + wv (a.drop i) + wv (b.drop i)) := by
      rw [wv_drop a i, wv_drop b i, hra, hrb, wv_snoc, List.length_append, List.length_singleton, Nat.pow_succ, Nat.add_assoc, Nat.mul_assoc, ← Nat.mul_add]
      congr 2
      have hq : ((c + x + y) % 4294967296).toNat + BW * ((c + x + y) / 4294967296).toNat = c.toNat + x.toNat + y.toNat := by rw [BW_eq]; omega
      rw [Nat.mul_add, Nat.mul_add]
      omega
    rw [e] at ih
    refine Ev.step (fun k => ?_) ih
    simp only [nat_Nat_Add.l0]
    rw [if_pos (by omega), at_spec ha _ (by omega), at_spec hb _ (by omega), Option.bind_some, Option.bind_some, hra, hrb, if_pos (by omega), es, w64 (by omega) (by omega)]
    rfl
theorem Add_spec {a b : List Int} (ha : WD a) (hb : WD b) (la : a.length ≤ 1000000000) (lb : b.length ≤ 1000000000) : Ev (fun k => nat_Nat_Add.f k a b) (words (wv a + wv b)) := by
  have := Add_ev a b ha hb (max a.length b.length) rfl (by omega) (max a.length b.length) 0 [] 0 (by omega) rfl WD_nil (by omega) (by omega)
  unfold nat_Nat_Add.f
  rw [mx_nat]
  simpa [wv_nil] using this
/-! ### Cmp -/
/-- How numbers compare. -/
def cmpN (m n : Nat) : Int := if m < n then -1 else if m = n then 0 else 1
theorem cmpN_lt {m n : Nat} (h : m < n) : cmpN m n = -1 := if_pos h
theorem cmpN_eq (n : Nat) : cmpN n n = 0 := by unfold cmpN; rw [if_neg (Nat.lt_irrefl _), if_pos rfl]
theorem cmpN_gt {m n : Nat} (h : n < m) : cmpN m n = 1 := by unfold cmpN; rw [if_neg (by omega), if_neg (by omega)]
theorem wv_take_succ (a : List Int) (i : Nat) : wv (a.take (i + 1)) = wv (a.take i) + (if i < a.length then BW ^ i * (rd a (i : Int)).toNat else 0) := by
  by_cases h : i < a.length
  · rw [if_pos h, List.take_succ_eq_append_getElem h, wv_snoc, List.length_take, rd_lt a i h, Nat.min_eq_left (by omega)]
  · rw [if_neg h, List.take_of_length_le (by omega), List.take_of_length_le (by omega)]; rfl
theorem take_lt {a : List Int} (h : WD a) (i : Nat) : wv (a.take i) < BW ^ i := by
  have h1 := wv_lt (WD_take h i)
  rw [List.length_take] at h1
  exact Nat.lt_of_lt_of_le h1 (Nat.pow_le_pow_right BW_pos (Nat.min_le_left _ _))
theorem take_succ' {a : List Int} (i : Nat) : wv (a.take (i + 1)) = wv (a.take i) + BW ^ i * (rd a (i : Int)).toNat := by
  rw [wv_take_succ]
  by_cases h : i < a.length
  · rw [if_pos h]
  · rw [if_neg h, rd_ge a i (by omega)]; rfl
theorem Cmp_ev (a b : List Int) (ha : WD a) (hb : WD b) : ∀ (i : Nat), i ≤ 1000000000 → Ev (fun k => nat_Nat_Cmp.l0 k a b ((i : Int) - 1)) (cmpN (wv (a.take i)) (wv (b.take i)))
  | 0, _ => by
    rw [List.take_zero, List.take_zero, cmpN_eq]
    refine Ev.step (f := fun _ => some 0) (fun k => ?_) (Ev.now _)
    simp only [nat_Nat_Cmp.l0]
    rw [if_neg (by omega)]
  | i + 1, hi => by
    have e : (((i + 1 : Nat) : Int) - 1) = (i : Int) := by omega
    rw [e, take_succ', take_succ']
    obtain ⟨ra0, ra1⟩ := WD_rd ha (i : Int)
    obtain ⟨rb0, rb1⟩ := WD_rd hb (i : Int)
    have la := take_lt ha i
    have lb := take_lt hb i
    generalize hra : rd a (i : Int) = x at *
    generalize hrb : rd b (i : Int) = y at *
    by_cases hxy : x = y
    · have ih := Cmp_ev a b ha hb i (by omega)
      subst hxy
      have ec : cmpN (wv (a.take i) + BW ^ i * x.toNat) (wv (b.take i) + BW ^ i * x.toNat) = cmpN (wv (a.take i)) (wv (b.take i)) := by
        unfold cmpN
        by_cases h1 : wv (a.take i) < wv (b.take i)
        · rw [if_pos h1, if_pos (by omega)]
        · rw [if_neg h1, if_neg (by omega)]
          by_cases h2 : wv (a.take i) = wv (b.take i)
          · rw [if_pos h2, if_pos (by omega)]
          · rw [if_neg h2, if_neg (by omega)]
      rw [ec]
      refine Ev.step (fun k => ?_) ih
      simp only [nat_Nat_Cmp.l0]
      rw [if_pos (by omega), at_spec ha _ (by omega), at_spec hb _ (by omega), Option.bind_some, Option.bind_some, hra, hrb, if_pos rfl, w64 (by omega) (by omega)]
    · by_cases hlt : x < y
      · have : wv (a.take i) + BW ^ i * x.toNat < wv (b.take i) + BW ^ i * y.toNat := by
          have h1 : BW ^ i * x.toNat + BW ^ i ≤ BW ^ i * y.toNat := by
            rw [← Nat.mul_succ]; exact Nat.mul_le_mul_left _ (by omega)
          omega
        rw [cmpN_lt this]
        refine Ev.step (f := fun _ => some (-1)) (fun k => ?_) (Ev.now _)
        simp only [nat_Nat_Cmp.l0]
        rw [if_pos (by omega), at_spec ha _ (by omega), at_spec hb _ (by omega), Option.bind_some, Option.bind_some, hra, hrb, if_neg hxy, if_pos hlt]
      · have : wv (b.take i) + BW ^ i * y.toNat < wv (a.take i) + BW ^ i * x.toNat := by
          have h1 : BW ^ i * y.toNat + BW ^ i ≤ BW ^ i * x.toNat := by
            rw [← Nat.mul_succ]; exact Nat.mul_le_mul_left _ (by omega)
          omega
        rw [cmpN_gt this]
        refine Ev.step (f := fun _ => some 1) (fun k => ?_) (Ev.now _)
        simp only [nat_Nat_Cmp.l0]
        rw [if_pos (by omega), at_spec ha _ (by omega), at_spec hb _ (by omega), Option.bind_some, Option.bind_some, hra, hrb, if_neg hxy, if_neg hlt]
theorem Cmp_spec {a b : List Int} (ha : WD a) (hb : WD b) (la : a.length ≤ 1000000000) (lb : b.length ≤ 1000000000) : Ev (fun k => nat_Nat_Cmp.f k a b) (cmpN (wv a) (wv b)) := by
  have := Cmp_ev a b ha hb (max a.length b.length) (by omega)
  rw [List.take_of_length_le (by omega), List.take_of_length_le (by omega)] at this
  unfold nat_Nat_Cmp.f
  rw [mx_nat, w64 (by omega) (by omega)]
  exact this
/-! ### Sub -/
end Go.Proofs.Ytagbnkbhobmgjaa.Pure
end
section
/- What the products are: plain arithmetic. -/
set_option linter.unusedVariables false
set_option linter.unusedSimpArgs false
namespace Go.Proofs.Ytagbnkbhobmgjaa.Pure
open Go.RowKit Go.Proofs.Ytagbnkbhobmgjaa.Fn Go.Proofs.YtagbnkbhobmgjaaW.PrintWords Go.Proofs.YtagbnkbhobmgjaaW.PrintMore Go.Proofs.YtagbnkbhobmgjaaW.PrintLast
theorem wv_set : ∀ (x : List Int) (i : Nat) (y : Int), i < x.length → wv (x.set i y) + BW ^ i * (rd x (i : Int)).toNat = wv x + BW ^ i * y.toNat
  | [], i, y, h => by simp at h
  | z :: zs, 0, y, h => by
    rw [rd_lt _ _ h]
    simp only [List.set_cons_zero, wv_cons, List.getElem_cons_zero, Nat.pow_zero, Nat.one_mul]
    omega
  | z :: zs, i + 1, y, h => by
    have h' : i < zs.length := by simpa using h
    have ih := wv_set zs i y h'
    rw [rd_lt _ _ h]
    rw [rd_lt _ _ h'] at ih
    simp only [List.set_cons_succ, wv_cons, List.getElem_cons_succ]
    have e : ∀ t : Nat, BW ^ (i + 1) * t = BW * (BW ^ i * t) := fun t => by rw [Nat.pow_succ, Nat.mul_comm (BW ^ i) BW, Nat.mul_assoc]
    rw [e, e, Nat.add_assoc, Nat.add_assoc, ← Nat.mul_add, ← Nat.mul_add, ih]
theorem rd_le_wv (x : List Int) (i : Nat) : BW ^ i * (rd x (i : Int)).toNat ≤ wv x := by
  by_cases h : i < x.length
  · have := wv_set x i 0 h
    simp at this
    omega
  · rw [rd_ge x i (by omega)]; simp
theorem rd_zero_of_lt (x : List Int) (hx : WD x) (i : Nat) (h : wv x < BW ^ i) : rd x (i : Int) = 0 := by
  have h1 := rd_le_wv x i
  have h2 := (WD_rd hx (i : Int)).1
  rcases Nat.eq_zero_or_pos (rd x (i : Int)).toNat with h0 | h0
  · omega
  · have := Nat.le_mul_of_pos_right (BW ^ i) h0
    omega
theorem rd_set_ne (x : List Int) (i j : Nat) (y : Int) (h : i ≠ j) : rd (x.set i y) (j : Int) = rd x (j : Int) := by
  unfold rd
  simp only [Int.toNat_natCast, List.getD_eq_getElem?_getD]
  rw [List.getElem?_set_ne h]
theorem mul32 {x y : Int} (x0 : 0 ≤ x) (x1 : x < 4294967296) (y0 : 0 ≤ y) (y1 : y < 4294967296) : 0 ≤ x * y ∧ x * y ≤ 18446744065119617025 := by
  refine ⟨Int.mul_nonneg x0 y0, ?_⟩
  have h := Int.mul_le_mul (show x ≤ 4294967295 by omega) (show y ≤ 4294967295 by omega) y0 (by omega)
  omega
theorem Mul_row (b : List Int) (hb : WD b) (a : List Int) (i : Nat) (hlen : a.length + b.length ≤ 2000000000) (hi : i < a.length) (x : Int) (x0 : 0 ≤ x) (x1 : x < 4294967296) :
    ∀ (d j : Nat) (r : List Int) (c : Int) (X R : Nat), j + d = b.length → r.length = a.length + b.length → WD r → 0 ≤ c → c < 4294967296 →
      rd r ((i + b.length : Nat) : Int) = 0 →
      wv r + BW ^ (i + j) * c.toNat = X + BW ^ i * (x.toNat * wv (b.take j)) →
      (∀ (r' : List Int), r'.length = a.length + b.length → WD r' → wv r' = X + BW ^ i * (x.toNat * wv b) → Ev (fun k => nat_Nat_Mul.l0 k b r' a (a.length : Int) ((i + 1 : Nat) : Int)) (words R)) →
      Ev (fun k => nat_Nat_Mul.l1 k b r (i : Int) x c a (a.length : Int) (i : Int) b (b.length : Int) (j : Int)) (words R)
  | 0, j, r, c, X, R, hd, hl, hW, c0, c1, hz, hv, hk => by
    have ej : j = b.length := by omega
    subst ej
    rw [List.take_length] at hv
    have hs := wv_set r (i + b.length) c (by omega)
    rw [hz] at hs
    have h := hk (r.set (i + b.length) c) (by simp [hl]) (WD_set hW _ c0 c1) (by simpa [hv] using hs)
    refine Ev.step (fun k => ?_) h
    simp only [nat_Nat_Mul.l1]
    rw [if_neg (by omega), w64 (by omega) (by omega), if_pos (by omega), if_pos (by omega), w64 (by omega) (by omega), Int.emod_eq_of_lt c0 c1]
    rfl
  | d + 1, j, r, c, X, R, hd, hl, hW, c0, c1, hz, hv, hk => by
    obtain ⟨y0, y1⟩ := WD_rd hb (j : Int)
    obtain ⟨z0, z1⟩ := WD_rd hW ((i + j : Nat) : Int)
    have hs := wv_set r (i + j) ((c + (x * rd b (j : Int) + rd r ((i + j : Nat) : Int))) % 4294967296) (by omega)
    have ht := take_succ' (a := b) j
    generalize hy : rd b (j : Int) = y at *
    generalize hzz : rd r ((i + j : Nat) : Int) = z at *
    obtain ⟨m0, m1⟩ := mul32 x0 x1 y0 y1
    have et : x.toNat * y.toNat = (x * y).toNat := by
      rw [Int.toNat_mul x0 y0]
    generalize hp : x * y = p at *
    have hq : ((c + (p + z)) % 4294967296).toNat + BW * ((c + (p + z)) / 4294967296).toNat = c.toNat + p.toNat + z.toNat := by rw [BW_eq]; omega
    have ih := Mul_row b hb a i hlen hi x x0 x1 d (j + 1) (r.set (i + j) ((c + (p + z)) % 4294967296)) ((c + (p + z)) / 4294967296) X R (by omega) (by simp [hl]) (WD_set hW _ (by omega) (by omega)) (by omega) (by omega)
      (by rw [rd_set_ne _ _ _ _ (by omega)]; exact hz)
      (by
        rw [ht, Nat.mul_add, Nat.mul_add, ← Nat.add_assoc X, ← hv]
        have e1 : BW ^ i * (x.toNat * (BW ^ j * y.toNat)) = BW ^ (i + j) * p.toNat := by
          rw [← et, Nat.pow_add, Nat.mul_left_comm x.toNat, Nat.mul_assoc]
        have e2 : BW ^ (i + (j + 1)) * ((c + (p + z)) / 4294967296).toNat = BW ^ (i + j) * (BW * ((c + (p + z)) / 4294967296).toNat) := by
          rw [← Nat.add_assoc, Nat.pow_succ, Nat.mul_assoc]
        rw [e1, e2]
        have h3 : BW ^ (i + j) * ((c + (p + z)) % 4294967296).toNat + BW ^ (i + j) * (BW * ((c + (p + z)) / 4294967296).toNat) = BW ^ (i + j) * c.toNat + BW ^ (i + j) * p.toNat + BW ^ (i + j) * z.toNat := by
          rw [← Nat.mul_add, hq, Nat.mul_add, Nat.mul_add]
        omega) hk
    refine Ev.step (fun k => ?_) ih
    simp only [nat_Nat_Mul.l1]
    rw [if_pos (by omega), if_pos (by omega), if_pos (by omega), w64 (by omega) (by omega), if_pos (by omega), if_pos (by omega), w64 (by omega) (by omega), hy]
    have ec : ((i : Int) + (j : Int)) = ((i + j : Nat) : Int) := by omega
    rw [ec, hzz, u64i x0 (by omega), u64i y0 (by omega), hp, u64i m0 (by omega), u64i z0 (by omega), u64i (x := p + z) (by omega) (by omega), u64i (x := c + (p + z)) (by omega) (by omega)]
    rfl
theorem Mul_ev (a b : List Int) (ha : WD a) (hb : WD b) (hlen : a.length + b.length ≤ 2000000000) :
    ∀ (d i : Nat) (r : List Int), i + d = a.length → r.length = a.length + b.length → WD r → wv r = wv (a.take i) * wv b →
      Ev (fun k => nat_Nat_Mul.l0 k b r a (a.length : Int) (i : Int)) (words (wv a * wv b))
  | 0, i, r, hd, hl, hW, hv => by
    rw [List.take_of_length_le (by omega)] at hv
    have ht := trim_spec hW (by omega)
    rw [hv] at ht
    refine Ev.step (f := fun k => (nat_trim.f k r).bind fun t => some t) (fun k => ?_) (Ev.bind ht (Ev.now _))
    simp only [nat_Nat_Mul.l0]
    rw [if_neg (by omega)]
  | d + 1, i, r, hd, hl, hW, hv => by
    obtain ⟨x0, x1⟩ := WD_rd ha (i : Int)
    have hz : rd r ((i + b.length : Nat) : Int) = 0 := by
      refine rd_zero_of_lt r hW _ ?_
      rw [hv, Nat.pow_add]
      exact Nat.mul_lt_mul'' (take_lt ha i) (wv_lt hb)
    have h := Mul_row b hb a i hlen (by omega) (rd a (i : Int)) x0 x1 b.length 0 r 0 (wv r) (wv a * wv b) (by omega) hl hW (by omega) (by omega) hz (by simp [wv_nil])
      (fun r' hl' hW' hv' => Mul_ev a b ha hb hlen d (i + 1) r' (by omega) hl' hW' (by
        rw [hv', hv, take_succ', Nat.add_mul, Nat.mul_assoc]))
    refine Ev.step (fun k => ?_) h
    simp only [nat_Nat_Mul.l0]
    rw [if_pos (by omega), if_pos (by omega), if_pos (by omega)]
    rfl
theorem Mul_spec {a b : List Int} (ha : WD a) (hb : WD b) (la : a.length ≤ 1000000000) (lb : b.length ≤ 1000000000) : Ev (fun k => nat_Nat_Mul.f k a b) (words (wv a * wv b)) := by
  have h := Mul_ev a b ha hb (by omega) a.length 0 (List.replicate (a.length + b.length) 0) (by omega) (by simp) (WD_rep _) (by simp [wv_rep, wv_nil])
  unfold nat_Nat_Mul.f
  have e : wrap64 ((a.length : Int) + (b.length : Int)) = ((a.length + b.length : Nat) : Int) := by rw [w64 (by omega) (by omega)]; omega
  rw [e, Int.toNat_natCast]
  refine Ev.congr (fun k => ?_) h
  rw [if_pos (by omega), if_pos (by omega)]
  rfl
end Go.Proofs.Ytagbnkbhobmgjaa.Pure
end
