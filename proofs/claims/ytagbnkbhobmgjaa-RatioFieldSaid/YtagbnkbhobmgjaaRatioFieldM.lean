/- Sums and products of rational numbers are as numbers are: in any order, however they are bracketed, one over the other; what was added, or multiplied, is taken away again. Part 13 of 18. -/
import Derived.Test.YtagbnkbhobmgjaaRatioFieldE
import Derived.Test.YtagbnkbhobmgjaaRatioFieldL
import Derived.Test.YtagbnkbhobmgjaaRatioFieldK
section
-- Written by a program of this session (a turned copy of the kit's printer, and hand-written parts). Not trusted: Lean checks it.
namespace Go.Proofs.Ytagbnkbhobmgjaa.Fn
open Go.RowKit Go.Proofs.YtagbnkbhobmgjaaW.PrintWords Go.Proofs.YtagbnkbhobmgjaaW.PrintLast Go.Proofs.YtagbnkbhobmgjaaW.PrintMore
attribute [local go_sem] max2_int min2_int max_two min_two max_three min_three max_four min_four   -- for this text's walks alone
set_option linter.unusedVariables false
set_option linter.unusedSimpArgs false
/-! ### flyballlaw03_RatioField: function 22 -/
mutual
def flyballlaw03_RatioField.j0 : Nat → Bool → Bool → Bool → List Int → List Int → Bool → List Int → List Int → Bool → List Int → List Int → Option (Bool)
 | 0, _, _, _, _, _, _, _, _, _, _, _ => none
 | k + 1, x7, x9, x102000, x102001, x102002, x103000, x103001, x103002, x104000, x104001, x104002 => (ratio_R_Add.f k x102000 x102001 x102002 x103000 x103001 x103002).bind fun bt139 => ((ratio_R_Add.f k bt139.1 bt139.2.1 bt139.2.2 x104000 x104001 x104002).bind fun bt146 => ((ratio_R_Add.f k x103000 x103001 x103002 x104000 x104001 x104002).bind fun bt153 => ((ratio_R_Add.f k x102000 x102001 x102002 bt153.1 bt153.2.1 bt153.2.2).bind fun bt160 => ((ratio_R_Cmp.f k bt146.1 bt146.2.1 bt146.2.2 bt160.1 bt160.2.1 bt160.2.2).bind fun t167 => (if t167 = 0 then ((ratio_R_Mul.f k x102000 x102001 x102002 x103000 x103001 x103002).bind fun bt168 => ((ratio_R_Mul.f k bt168.1 bt168.2.1 bt168.2.2 x104000 x104001 x104002).bind fun bt175 => ((ratio_R_Mul.f k x103000 x103001 x103002 x104000 x104001 x104002).bind fun bt182 => ((ratio_R_Mul.f k x102000 x102001 x102002 bt182.1 bt182.2.1 bt182.2.2).bind fun bt189 => ((ratio_R_Cmp.f k bt175.1 bt175.2.1 bt175.2.2 bt189.1 bt189.2.1 bt189.2.2).bind fun t196 => (flyballlaw03_RatioField.j1 k x7 x9 (t196 == 0) x102000 x102001 x102002 x103000 x103001 x103002 x104000 x104001 x104002)))))) else (flyballlaw03_RatioField.j1 k x7 x9 false x102000 x102001 x102002 x103000 x103001 x103002 x104000 x104001 x104002))))))
def flyballlaw03_RatioField.j1 : Nat → Bool → Bool → Bool → Bool → List Int → List Int → Bool → List Int → List Int → Bool → List Int → List Int → Option (Bool)
 | 0, _, _, _, _, _, _, _, _, _, _, _, _ => none
 | k + 1, x7, x9, x10, x102000, x102001, x102002, x103000, x103001, x103002, x104000, x104001, x104002 => (ratio_R_Add.f k x103000 x103001 x103002 x104000 x104001 x104002).bind fun bt197 => ((ratio_R_Mul.f k x102000 x102001 x102002 bt197.1 bt197.2.1 bt197.2.2).bind fun bt204 => ((ratio_R_Mul.f k x102000 x102001 x102002 x103000 x103001 x103002).bind fun bt211 => ((ratio_R_Mul.f k x102000 x102001 x102002 x104000 x104001 x104002).bind fun bt218 => ((ratio_R_Add.f k bt211.1 bt211.2.1 bt211.2.2 bt218.1 bt218.2.1 bt218.2.2).bind fun bt225 => ((ratio_R_Cmp.f k bt204.1 bt204.2.1 bt204.2.2 bt225.1 bt225.2.1 bt225.2.2).bind fun t232 => ((ratio_R_Add.f k x102000 x102001 x102002 x103000 x103001 x103002).bind fun bt233 => ((ratio_R_Sub.f k bt233.1 bt233.2.1 bt233.2.2 x103000 x103001 x103002).bind fun bt240 => ((ratio_R_Cmp.f k bt240.1 bt240.2.1 bt240.2.2 x102000 x102001 x102002).bind fun t247 => (if t247 = 0 then ((ratio_R_Sub.f k x102000 x102001 x102002 x102000 x102001 x102002).bind fun bt248 => ((ratio_R_Sign.f k bt248.1 bt248.2.1 bt248.2.2).bind fun t255 => (flyballlaw03_RatioField.j2 k x7 x9 x10 (t232 == 0) (t255 == 0) x102000 x102001 x102002 x103000 x103001 x103002))) else (flyballlaw03_RatioField.j2 k x7 x9 x10 (t232 == 0) false x102000 x102001 x102002 x103000 x103001 x103002))))))))))
def flyballlaw03_RatioField.j2 : Nat → Bool → Bool → Bool → Bool → Bool → Bool → List Int → List Int → Bool → List Int → List Int → Option (Bool)
 | 0, _, _, _, _, _, _, _, _, _, _, _ => none
 | k + 1, x7, x9, x10, x11, x12, x102000, x102001, x102002, x103000, x103001, x103002 => (ratio_R_Mul.f k x102000 x102001 x102002 x103000 x103001 x103002).bind fun bt256 => ((ratio_R_Div.f k bt256.1 bt256.2.1 bt256.2.2 x103000 x103001 x103002).bind fun bt263 => ((ratio_R_Sign.f k x103000 x103001 x103002).bind fun t272 => (if t272 = 0 then (if x7 = true then (if x9 = true then (if x10 = true then (if x11 = true then (if x12 = true then (some (bt263.2.2.2 == 30)) else (some false)) else (some false)) else (some false)) else (some false)) else (some false)) else (if x7 = true then (if x9 = true then (if x10 = true then (if x11 = true then (if x12 = true then (if bt263.2.2.2 = 0 then ((ratio_R_Cmp.f k bt263.1 bt263.2.1 bt263.2.2.1 x102000 x102001 x102002).bind fun t273 => (some (t273 == 0))) else (some false)) else (some false)) else (some false)) else (some false)) else (some false)) else (some false)))))
end
def flyballlaw03_RatioField.f (k : Nat) (a0_0 : Bool) (l0_1 : List Int) (l0_2 : List Int) (a1_0 : Bool) (l1_1 : List Int) (l1_2 : List Int) (a2_0 : Bool) (l2_1 : List Int) (l2_2 : List Int) : Option (Bool) := (flyballlaw03_works.f k).bind fun t104 => (if t104 = true then ((flyballlaw03_small.f k (([(⟨a0_0, l0_1, l0_2⟩ : S69), (⟨a1_0, l1_1, l1_2⟩ : S69), (⟨a2_0, l2_1, l2_2⟩ : S69)] : List (S69)))).bind fun t108 => (if t108 = true then ((ratio_R_Add.f k a0_0 l0_1 l0_2 a1_0 l1_1 l1_2).bind fun bt109 => ((ratio_R_Add.f k a1_0 l1_1 l1_2 a0_0 l0_1 l0_2).bind fun bt116 => ((ratio_R_Cmp.f k bt109.1 bt109.2.1 bt109.2.2 bt116.1 bt116.2.1 bt116.2.2).bind fun t123 => (if t123 = 0 then ((ratio_R_Mul.f k a0_0 l0_1 l0_2 a1_0 l1_1 l1_2).bind fun bt124 => ((ratio_R_Mul.f k a1_0 l1_1 l1_2 a0_0 l0_1 l0_2).bind fun bt131 => ((ratio_R_Cmp.f k bt124.1 bt124.2.1 bt124.2.2 bt131.1 bt131.2.1 bt131.2.2).bind fun t138 => (flyballlaw03_RatioField.j0 k t104 (t138 == 0) a0_0 l0_1 l0_2 a1_0 l1_1 l1_2 a2_0 l2_1 l2_2)))) else (flyballlaw03_RatioField.j0 k t104 false a0_0 l0_1 l0_2 a1_0 l1_1 l1_2 a2_0 l2_1 l2_2))))) else (some t104))) else (some false))
def flyballlaw03_RatioField.T7 : Bool × List (List Nat × List Nat) := (true, [([], []), ([], []), ([0, 1], [0, 1]), ([], []), ([], []), ([3, 4, 2], [3, 4]), ([2, 5, 5], [2, 5]), ([6], [6]), ([7, 6], [7]), ([8], [8]), ([8], [8]), ([9, 10, 8, 8], [8, 9, 10]), ([8], [8]), ([8], [8]), ([12, 13, 11, 8], [8, 12, 13]), ([11, 14, 14, 8], [8, 11, 14]), ([15, 8], [8, 15]), ([8, 16], [8, 16]), ([17, 15, 0, 1, 2, 3, 4, 5, 6, 7, 8, 9, 10, 11, 12, 13, 14, 15, 16, 17], [17])])
def flyballlaw03_RatioField.B7 : List Nat := [0, 0, 3, 0, 0, 31, 63, 127, 255, 511, 511, 2047, 511, 511, 16383, 32767, 65535, 131071, 262143]
theorem flyballlaw03_RatioField.tab7 : rtab .any (opsOf Try.f22 7) = flyballlaw03_RatioField.T7 := by kernel_rfl
theorem flyballlaw03_RatioField.bits7 : waitsOk flyballlaw03_RatioField.T7.2 flyballlaw03_RatioField.B7 = true := by kernel_rfl
def flyballlaw03_RatioField.T8 : Bool × List (List Nat × List Nat) := (true, [([], []), ([], []), ([0, 1], [0, 1]), ([], []), ([2, 3, 2], [2, 3]), ([], []), ([], []), ([], []), ([6, 7, 4], [6, 7]), ([5, 8, 8], [5, 8]), ([4, 9, 9], [4, 9]), ([10], [10]), ([11, 10], [11]), ([12], [12]), ([12], [12]), ([13, 14, 12, 12], [12, 13, 14]), ([12], [12]), ([15, 16, 15, 12], [12, 15, 16]), ([12], [12]), ([12], [12]), ([12], [12]), ([19, 20, 17, 12], [12, 19, 20]), ([18, 21, 21, 12], [12, 18, 21]), ([17, 22, 22, 12], [12, 17, 22]), ([23, 12], [12, 23]), ([12, 24], [12, 24]), ([25, 23, 0, 1, 2, 3, 4, 5, 6, 7, 8, 9, 10, 11, 12, 13, 14, 15, 16, 17, 18, 19, 20, 21, 22, 23, 24, 25], [25])])
def flyballlaw03_RatioField.B8 : List Nat := [0, 0, 3, 0, 15, 0, 0, 0, 223, 511, 1023, 2047, 4095, 8191, 8191, 32767, 8191, 131071, 8191, 8191, 8191, 1835007, 4194303, 8388607, 16777215, 33554431, 67108863]
theorem flyballlaw03_RatioField.tab8 : rtab .any (opsOf Try.f22 8) = flyballlaw03_RatioField.T8 := by kernel_rfl
theorem flyballlaw03_RatioField.bits8 : waitsOk flyballlaw03_RatioField.T8.2 flyballlaw03_RatioField.B8 = true := by kernel_rfl
def flyballlaw03_RatioField.T9 : Bool × List (List Nat × List Nat) := (true, [([], []), ([], []), ([], []), ([1, 2], [1, 2]), ([0, 3, 3], [0, 3]), ([], []), ([], []), ([5, 6, 4], [5, 6]), ([], []), ([], []), ([8, 9, 7], [8, 9]), ([7, 10, 10], [7, 10]), ([4, 11, 11], [4, 11]), ([12], [12]), ([13, 12, 0, 1, 2, 3, 4, 5, 6, 7, 8, 9, 10, 11, 12, 13], [13])])
def flyballlaw03_RatioField.B9 : List Nat := [0, 0, 0, 6, 15, 0, 0, 127, 0, 0, 1023, 2047, 4095, 8191, 16383]
theorem flyballlaw03_RatioField.tab9 : rtab .any (opsOf Try.f22 9) = flyballlaw03_RatioField.T9 := by kernel_rfl
theorem flyballlaw03_RatioField.bits9 : waitsOk flyballlaw03_RatioField.T9.2 flyballlaw03_RatioField.B9 = true := by kernel_rfl
def flyballlaw03_RatioField.T10 : Bool × List (List Nat × List Nat) := (true, [([], []), ([], []), ([0, 1], [0, 1]), ([], []), ([2, 3, 2], [2, 3]), ([], []), ([4, 5, 4], [4, 5]), ([6], [6]), ([7, 6], [7]), ([8], [8]), ([8], [8]), ([9, 10, 8, 8], [8, 9, 10]), ([11, 11, 8], [8, 11]), ([12, 8], [8, 12]), ([8, 13], [8, 13]), ([14, 12, 0, 1, 2, 3, 4, 5, 6, 7, 8, 9, 10, 11, 12, 13, 14], [14])])
def flyballlaw03_RatioField.B10 : List Nat := [0, 0, 3, 0, 15, 0, 63, 127, 255, 511, 511, 2047, 4095, 8191, 16383, 32767]
theorem flyballlaw03_RatioField.tab10 : rtab .any (opsOf Try.f22 10) = flyballlaw03_RatioField.T10 := by kernel_rfl
theorem flyballlaw03_RatioField.bits10 : waitsOk flyballlaw03_RatioField.T10.2 flyballlaw03_RatioField.B10 = true := by kernel_rfl
def flyballlaw03_RatioField.T11 : Bool × List (List Nat × List Nat) := (true, [([], []), ([], []), ([0, 1], [0, 1]), ([], []), ([2, 3, 2], [2, 3]), ([4], [4]), ([5], [5]), ([5], [5]), ([], []), ([8, 6, 4, 0, 1, 2, 3, 4, 5, 6, 8], [6, 8]), ([7, 9, 0, 1, 2, 3, 4, 5, 6, 7, 8, 9], [7])])
def flyballlaw03_RatioField.B11 : List Nat := [0, 0, 3, 0, 15, 31, 63, 63, 0, 383, 1023]
theorem flyballlaw03_RatioField.tab11 : rtab .any (opsOf Try.f22 11) = flyballlaw03_RatioField.T11 := by kernel_rfl
theorem flyballlaw03_RatioField.bits11 : waitsOk flyballlaw03_RatioField.T11.2 flyballlaw03_RatioField.B11 = true := by kernel_rfl
set_option maxHeartbeats 8000000 in
set_option maxRecDepth 100000 in
theorem flyballlaw03_RatioField.calls (k : Nat) (a0_0 : Bool) (P0_1_ : Nat → Prop) (A0_1 : Option Addr) (c0_1 : Nat) (l0_1 : List Int) (P0_2_ : Nat → Prop) (A0_2 : Option Addr) (c0_2 : Nat) (l0_2 : List Int) (a1_0 : Bool) (P1_1_ : Nat → Prop) (A1_1 : Option Addr) (c1_1 : Nat) (l1_1 : List Int) (P1_2_ : Nat → Prop) (A1_2 : Option Addr) (c1_2 : Nat) (l1_2 : List Int) (a2_0 : Bool) (P2_1_ : Nat → Prop) (A2_1 : Option Addr) (c2_1 : Nat) (l2_1 : List Int) (P2_2_ : Nat → Prop) (A2_2 : Option Addr) (c2_2 : Nat) (l2_2 : List Int) (w : World) (hs0_1 : Kd.V (Kd.int .u32) 118 w w.heap.size (fun k_ => P0_1_ k_) (.slice A0_1 l0_1.length c0_1) l0_1) (hs0_2 : Kd.V (Kd.int .u32) 118 w w.heap.size (fun k_ => P0_2_ k_) (.slice A0_2 l0_2.length c0_2) l0_2) (hs1_1 : Kd.V (Kd.int .u32) 118 w w.heap.size (fun k_ => P1_1_ k_) (.slice A1_1 l1_1.length c1_1) l1_1) (hs1_2 : Kd.V (Kd.int .u32) 118 w w.heap.size (fun k_ => P1_2_ k_) (.slice A1_2 l1_2.length c1_2) l1_2) (hs2_1 : Kd.V (Kd.int .u32) 118 w w.heap.size (fun k_ => P2_1_ k_) (.slice A2_1 l2_1.length c2_1) l2_1) (hs2_2 : Kd.V (Kd.int .u32) 118 w w.heap.size (fun k_ => P2_2_ k_) (.slice A2_2 l2_2.length c2_2) l2_2) (H : flyballlaw03_RatioField.f k a0_0 l0_1 l0_2 a1_0 l1_1 l1_2 a2_0 l2_1 l2_2 = some true) :
  Calls Try.prog 22 #[.agg #[.bool a0_0, .slice A0_1 l0_1.length c0_1, .slice A0_2 l0_2.length c0_2], .agg #[.bool a1_0, .slice A1_1 l1_1.length c1_1, .slice A1_2 l1_2.length c1_2], .agg #[.bool a2_0, .slice A2_1 l2_1.length c2_1, .slice A2_2 l2_2.length c2_2]] w fun e w' => e = .returned (.bool true) ∧ Below w.heap.size w w' := by
 have hu69 := Try.underlying69
 have HO0_1 := Aside0.mk (show Kd.V (Kd.int .u32) 118 w w.heap.size (fun k_ => ((P0_1_ k_ ∨ P0_2_ k_ ∨ P1_1_ k_ ∨ P1_2_ k_ ∨ P2_1_ k_ ∨ P2_2_ k_) ∨ w.heap.size ≤ k_)) (.slice A0_1 l0_1.length c0_1) l0_1 from Kd.V_mono hs0_1 (fun k_ hk => .inl (.inl hk)))
 have HO0_2 := Aside0.mk (show Kd.V (Kd.int .u32) 118 w w.heap.size (fun k_ => ((P0_1_ k_ ∨ P0_2_ k_ ∨ P1_1_ k_ ∨ P1_2_ k_ ∨ P2_1_ k_ ∨ P2_2_ k_) ∨ w.heap.size ≤ k_)) (.slice A0_2 l0_2.length c0_2) l0_2 from Kd.V_mono hs0_2 (fun k_ hk => .inl (.inr (.inl hk))))
 have HO1_1 := Aside0.mk (show Kd.V (Kd.int .u32) 118 w w.heap.size (fun k_ => ((P0_1_ k_ ∨ P0_2_ k_ ∨ P1_1_ k_ ∨ P1_2_ k_ ∨ P2_1_ k_ ∨ P2_2_ k_) ∨ w.heap.size ≤ k_)) (.slice A1_1 l1_1.length c1_1) l1_1 from Kd.V_mono hs1_1 (fun k_ hk => .inl (.inr (.inr (.inl hk)))))
 have HO1_2 := Aside0.mk (show Kd.V (Kd.int .u32) 118 w w.heap.size (fun k_ => ((P0_1_ k_ ∨ P0_2_ k_ ∨ P1_1_ k_ ∨ P1_2_ k_ ∨ P2_1_ k_ ∨ P2_2_ k_) ∨ w.heap.size ≤ k_)) (.slice A1_2 l1_2.length c1_2) l1_2 from Kd.V_mono hs1_2 (fun k_ hk => .inl (.inr (.inr (.inr (.inl hk))))))
 have HO2_1 := Aside0.mk (show Kd.V (Kd.int .u32) 118 w w.heap.size (fun k_ => ((P0_1_ k_ ∨ P0_2_ k_ ∨ P1_1_ k_ ∨ P1_2_ k_ ∨ P2_1_ k_ ∨ P2_2_ k_) ∨ w.heap.size ≤ k_)) (.slice A2_1 l2_1.length c2_1) l2_1 from Kd.V_mono hs2_1 (fun k_ hk => .inl (.inr (.inr (.inr (.inr (.inl hk)))))))
 have HO2_2 := Aside0.mk (show Kd.V (Kd.int .u32) 118 w w.heap.size (fun k_ => ((P0_1_ k_ ∨ P0_2_ k_ ∨ P1_1_ k_ ∨ P1_2_ k_ ∨ P2_1_ k_ ∨ P2_2_ k_) ∨ w.heap.size ≤ k_)) (.slice A2_2 l2_2.length c2_2) l2_2 from Kd.V_mono hs2_2 (fun k_ hk => .inl (.inr (.inr (.inr (.inr (.inr hk)))))))
 have HB := Aside0.mk (Below.refl w.heap.size w)
 unfold flyballlaw03_RatioField.f at H
 replace H := bi H
 obtain ⟨t104, A4, H⟩ := H
 by_cases c5 : t104 = true
 ·subst c5
  replace H := ifT H
  obtain ⟨y105, hy105⟩ : ∃ y_ : List (S69), y_ = (([(⟨a0_0, l0_1, l0_2⟩ : S69), (⟨a1_0, l1_1, l1_2⟩ : S69), (⟨a2_0, l2_1, l2_2⟩ : S69)] : List (S69))) := ⟨_, rfl⟩
  replace H : ((flyballlaw03_small.f k y105).bind fun t108 => (if t108 = true then ((ratio_R_Add.f k a0_0 l0_1 l0_2 a1_0 l1_1 l1_2).bind fun bt109 => ((ratio_R_Add.f k a1_0 l1_1 l1_2 a0_0 l0_1 l0_2).bind fun bt116 => ((ratio_R_Cmp.f k bt109.1 bt109.2.1 bt109.2.2 bt116.1 bt116.2.1 bt116.2.2).bind fun t123 => (if t123 = 0 then ((ratio_R_Mul.f k a0_0 l0_1 l0_2 a1_0 l1_1 l1_2).bind fun bt124 => ((ratio_R_Mul.f k a1_0 l1_1 l1_2 a0_0 l0_1 l0_2).bind fun bt131 => ((ratio_R_Cmp.f k bt124.1 bt124.2.1 bt124.2.2 bt131.1 bt131.2.1 bt131.2.2).bind fun t138 => (flyballlaw03_RatioField.j0 k true (t138 == 0) a0_0 l0_1 l0_2 a1_0 l1_1 l1_2 a2_0 l2_1 l2_2)))) else (flyballlaw03_RatioField.j0 k true false a0_0 l0_1 l0_2 a1_0 l1_1 l1_2 a2_0 l2_1 l2_2))))) else (some true))) = some true := by first | (rw [hy105]; with_reducible exact H) | (have H2_ := (Option.bind_some _ _).symm.trans H; rw [hy105]; with_reducible exact H2_) | (have H2_ := (Option.bind_some _ _).symm.trans H; with_reducible exact H2_) | with_reducible exact H | (rw [hy105]; exact H) | exact H
  have Ny105 := Aside0.mk hy105
  clear hy105
  replace H := bi H
  obtain ⟨t108, A6, H⟩ := H
  by_cases c7 : t108 = true
  ·subst c7
   replace H := ifT H
   have HC8 := Aside0.mk H
   clear H
   go_enter Try.func22, Try.ntmps22
   go_upto_region 7 with (first | ((with_reducible refine gd 3 rfl ?_); refine bx 3 #[.bool a0_0, .slice A0_1 l0_1.length c0_1, .slice A0_2 l0_2.length c0_2] ?_; intro gb101 hg w9 hbox hb; replace HO0_1 := vE HO0_1 hg hb; replace HO0_2 := vE HO0_2 hg hb; replace HO1_1 := vE HO1_1 hg hb; replace HO1_2 := vE HO1_2 hg hb; replace HO2_1 := vE HO2_1 hg hb; replace HO2_2 := vE HO2_2 hg hb; have BK101 := Aside0.mk hbox; have GW101 := gB hg HB; have GE101 := gB hg HB; replace HB := bA HB hb; clear hb hbox hg) | ((with_reducible refine gd 4 rfl ?_); refine bx 4 #[.bool a1_0, .slice A1_1 l1_1.length c1_1, .slice A1_2 l1_2.length c1_2] ?_; intro gb102 hg w10 hbox hb; replace HO0_1 := vE HO0_1 hg hb; replace HO0_2 := vE HO0_2 hg hb; replace HO1_1 := vE HO1_1 hg hb; replace HO1_2 := vE HO1_2 hg hb; replace HO2_1 := vE HO2_1 hg hb; replace HO2_2 := vE HO2_2 hg hb; have BK102 := Aside0.mk hbox; have GW102 := gS' hg HB; have GE102 := gS' hg HB; replace HB := bS HB hb; have NB101_102 := nL hg BK101; have NB102_101 := nR hg BK101; replace BK101 := kA BK101 hb; clear hb hbox hg) | ((with_reducible refine gd 5 rfl ?_); refine bx 5 #[.bool a2_0, .slice A2_1 l2_1.length c2_1, .slice A2_2 l2_2.length c2_2] ?_; intro gb103 hg w11 hbox hb; replace HO0_1 := vE HO0_1 hg hb; replace HO0_2 := vE HO0_2 hg hb; replace HO1_1 := vE HO1_1 hg hb; replace HO1_2 := vE HO1_2 hg hb; replace HO2_1 := vE HO2_1 hg hb; replace HO2_2 := vE HO2_2 hg hb; have BK103 := Aside0.mk hbox; have GW103 := gS' hg HB; have GE103 := gS' hg HB; replace HB := bS HB hb; have NB101_103 := nL hg BK101; have NB103_101 := nR hg BK101; replace BK101 := kA BK101 hb; have NB102_103 := nL hg BK102; have NB103_102 := nR hg BK102; replace BK102 := kA BK102 hb; clear hb hbox hg) | ((with_reducible refine gc 54 rfl ?_); refine gL 15 Try.func54 #[] ?_; (with_reducible refine (flyballlaw03_works.calls k  true _ A4.out).mono ?_); rintro e w12 ⟨rfl, hb⟩; refine ⟨_, rfl, ?_⟩; replace HO0_1 := vA HO0_1 hb; replace HO0_2 := vA HO0_2 hb; replace HO1_1 := vA HO1_1 hb; replace HO1_2 := vA HO1_2 hb; replace HO2_1 := vA HO2_1 hb; replace HO2_2 := vA HO2_2 hb; replace BK101 := kA BK101 hb; replace BK102 := kA BK102 hb; replace BK103 := kA BK103 hb; replace HB := bS HB hb; clear hb; have hnb13 := NB101_102.out; have hnc13 := NB102_101.out; have hnb14 := NB101_103.out; have hnc14 := NB103_101.out; obtain ⟨⟨hcz15_0, hcz15_1, hcz15_2⟩, hfz15_0, hfz15_1, hfz15_2⟩ := cE BK101; have hnb16 := NB102_103.out; have hnc16 := NB103_102.out; obtain ⟨⟨hcz17_0, hcz17_1, hcz17_2⟩, hfz17_0, hfz17_1, hfz17_2⟩ := cE BK102; obtain ⟨⟨hcz18_0, hcz18_1, hcz18_2⟩, hfz18_0, hfz18_1, hfz18_2⟩ := cE BK103) | ((with_reducible refine gd 21 rfl ?_); refine Kd.N_lit k69 _ 69 ?hg (N' := 21) ?hd (xs := ([(⟨a0_0, l0_1, l0_2⟩ : S69), (⟨a1_0, l1_1, l1_2⟩ : S69), (⟨a2_0, l2_1, l2_2⟩ : S69)] : List (S69))) (inner := [.bool a0_0, .slice A0_1 l0_1.length c0_1, .slice A0_2 l0_2.length c0_2, .bool a1_0, .slice A1_1 l1_1.length c1_1, .slice A1_2 l1_2.length c1_2, .bool a2_0, .slice A2_1 l2_1.length c2_1, .slice A2_2 l2_2.length c2_2]) (ok := (fun k_ => ((P0_1_ k_ ∨ P0_2_ k_ ∨ P1_1_ k_ ∨ P1_2_ k_ ∨ P2_1_ k_ ∨ P2_2_ k_) ∨ w.heap.size ≤ k_) ∧ k_ ≠ gb101 ∧ k_ ≠ gb102 ∧ k_ ≠ gb103)) (okp := (fun k_ => ((P0_1_ k_ ∨ P0_2_ k_ ∨ P1_1_ k_ ∨ P1_2_ k_ ∨ P2_1_ k_ ∨ P2_2_ k_) ∨ w.heap.size ≤ k_) ∧ k_ ≠ gb101 ∧ k_ ≠ gb102 ∧ k_ ≠ gb103)) ?hr ?hp (fun _ hk => hk) ((show ∀ k_, w12.heap.size ≤ k_ → (fun k_ => ((P0_1_ k_ ∨ P0_2_ k_ ∨ P1_1_ k_ ∨ P1_2_ k_ ∨ P2_1_ k_ ∨ P2_2_ k_) ∨ w.heap.size ≤ k_) ∧ k_ ≠ gb101 ∧ k_ ≠ gb102 ∧ k_ ≠ gb103) k_ from fun k_ hk => ⟨(.inr (Nat.le_trans (below_size hB) hk)), Kd.freshB (kup BK101.out) k_ hk, Kd.freshB (kup BK102.out) k_ hk, Kd.freshB (kup BK103.out) k_ hk⟩) _ (Nat.le_refl _)) (Below.refl _ _) (Nat.le_refl _) (by simp) ?_; (case hd => rfl); (case hg => rfl); (case hr => first | (go_simp; done) | (go_simp; rfl)); (case hp => exact (Reps.c3 (show Kd.FK k69 _ _ (⟨a0_0, l0_1, l0_2⟩ : S69) [.bool a0_0, .slice A0_1 l0_1.length c0_1, .slice A0_2 l0_2.length c0_2] from (k69_mkF _ _ (⟨a0_0, l0_1, l0_2⟩ : S69) (Kd.V_reads' (Kd.V_mono (ok' := (fun k_ => ((P0_1_ k_ ∨ P0_2_ k_ ∨ P1_1_ k_ ∨ P1_2_ k_ ∨ P2_1_ k_ ∨ P2_2_ k_) ∨ w.heap.size ≤ k_) ∧ k_ ≠ gb101 ∧ k_ ≠ gb102 ∧ k_ ≠ gb103)) (HO0_1.out) (fun k_ hk => ⟨hk.1.1.1, ⟨hk.1.1.2, ⟨hk.1.2, hk.2⟩⟩⟩))).2.1 (Kd.V_F (Kd.V_mono (ok' := (fun k_ => ((P0_1_ k_ ∨ P0_2_ k_ ∨ P1_1_ k_ ∨ P1_2_ k_ ∨ P2_1_ k_ ∨ P2_2_ k_) ∨ w.heap.size ≤ k_) ∧ k_ ≠ gb101 ∧ k_ ≠ gb102 ∧ k_ ≠ gb103)) (HO0_1.out) (fun k_ hk => ⟨hk.1.1.1, ⟨hk.1.1.2, ⟨hk.1.2, hk.2⟩⟩⟩))) (Kd.V_reads' (Kd.V_mono (ok' := (fun k_ => ((P0_1_ k_ ∨ P0_2_ k_ ∨ P1_1_ k_ ∨ P1_2_ k_ ∨ P2_1_ k_ ∨ P2_2_ k_) ∨ w.heap.size ≤ k_) ∧ k_ ≠ gb101 ∧ k_ ≠ gb102 ∧ k_ ≠ gb103)) (HO0_2.out) (fun k_ hk => ⟨hk.1.1.1, ⟨hk.1.1.2, ⟨hk.1.2, hk.2⟩⟩⟩))).2.1 (Kd.V_F (Kd.V_mono (ok' := (fun k_ => ((P0_1_ k_ ∨ P0_2_ k_ ∨ P1_1_ k_ ∨ P1_2_ k_ ∨ P2_1_ k_ ∨ P2_2_ k_) ∨ w.heap.size ≤ k_) ∧ k_ ≠ gb101 ∧ k_ ≠ gb102 ∧ k_ ≠ gb103)) (HO0_2.out) (fun k_ hk => ⟨hk.1.1.1, ⟨hk.1.1.2, ⟨hk.1.2, hk.2⟩⟩⟩))))) (Reps.c3 (show Kd.FK k69 _ _ (⟨a1_0, l1_1, l1_2⟩ : S69) [.bool a1_0, .slice A1_1 l1_1.length c1_1, .slice A1_2 l1_2.length c1_2] from (k69_mkF _ _ (⟨a1_0, l1_1, l1_2⟩ : S69) (Kd.V_reads' (Kd.V_mono (ok' := (fun k_ => ((P0_1_ k_ ∨ P0_2_ k_ ∨ P1_1_ k_ ∨ P1_2_ k_ ∨ P2_1_ k_ ∨ P2_2_ k_) ∨ w.heap.size ≤ k_) ∧ k_ ≠ gb101 ∧ k_ ≠ gb102 ∧ k_ ≠ gb103)) (HO1_1.out) (fun k_ hk => ⟨hk.1.1.1, ⟨hk.1.1.2, ⟨hk.1.2, hk.2⟩⟩⟩))).2.1 (Kd.V_F (Kd.V_mono (ok' := (fun k_ => ((P0_1_ k_ ∨ P0_2_ k_ ∨ P1_1_ k_ ∨ P1_2_ k_ ∨ P2_1_ k_ ∨ P2_2_ k_) ∨ w.heap.size ≤ k_) ∧ k_ ≠ gb101 ∧ k_ ≠ gb102 ∧ k_ ≠ gb103)) (HO1_1.out) (fun k_ hk => ⟨hk.1.1.1, ⟨hk.1.1.2, ⟨hk.1.2, hk.2⟩⟩⟩))) (Kd.V_reads' (Kd.V_mono (ok' := (fun k_ => ((P0_1_ k_ ∨ P0_2_ k_ ∨ P1_1_ k_ ∨ P1_2_ k_ ∨ P2_1_ k_ ∨ P2_2_ k_) ∨ w.heap.size ≤ k_) ∧ k_ ≠ gb101 ∧ k_ ≠ gb102 ∧ k_ ≠ gb103)) (HO1_2.out) (fun k_ hk => ⟨hk.1.1.1, ⟨hk.1.1.2, ⟨hk.1.2, hk.2⟩⟩⟩))).2.1 (Kd.V_F (Kd.V_mono (ok' := (fun k_ => ((P0_1_ k_ ∨ P0_2_ k_ ∨ P1_1_ k_ ∨ P1_2_ k_ ∨ P2_1_ k_ ∨ P2_2_ k_) ∨ w.heap.size ≤ k_) ∧ k_ ≠ gb101 ∧ k_ ≠ gb102 ∧ k_ ≠ gb103)) (HO1_2.out) (fun k_ hk => ⟨hk.1.1.1, ⟨hk.1.1.2, ⟨hk.1.2, hk.2⟩⟩⟩))))) (Reps.c3 (show Kd.FK k69 _ _ (⟨a2_0, l2_1, l2_2⟩ : S69) [.bool a2_0, .slice A2_1 l2_1.length c2_1, .slice A2_2 l2_2.length c2_2] from (k69_mkF _ _ (⟨a2_0, l2_1, l2_2⟩ : S69) (Kd.V_reads' (Kd.V_mono (ok' := (fun k_ => ((P0_1_ k_ ∨ P0_2_ k_ ∨ P1_1_ k_ ∨ P1_2_ k_ ∨ P2_1_ k_ ∨ P2_2_ k_) ∨ w.heap.size ≤ k_) ∧ k_ ≠ gb101 ∧ k_ ≠ gb102 ∧ k_ ≠ gb103)) (HO2_1.out) (fun k_ hk => ⟨hk.1.1.1, ⟨hk.1.1.2, ⟨hk.1.2, hk.2⟩⟩⟩))).2.1 (Kd.V_F (Kd.V_mono (ok' := (fun k_ => ((P0_1_ k_ ∨ P0_2_ k_ ∨ P1_1_ k_ ∨ P1_2_ k_ ∨ P2_1_ k_ ∨ P2_2_ k_) ∨ w.heap.size ≤ k_) ∧ k_ ≠ gb101 ∧ k_ ≠ gb102 ∧ k_ ≠ gb103)) (HO2_1.out) (fun k_ hk => ⟨hk.1.1.1, ⟨hk.1.1.2, ⟨hk.1.2, hk.2⟩⟩⟩))) (Kd.V_reads' (Kd.V_mono (ok' := (fun k_ => ((P0_1_ k_ ∨ P0_2_ k_ ∨ P1_1_ k_ ∨ P1_2_ k_ ∨ P2_1_ k_ ∨ P2_2_ k_) ∨ w.heap.size ≤ k_) ∧ k_ ≠ gb101 ∧ k_ ≠ gb102 ∧ k_ ≠ gb103)) (HO2_2.out) (fun k_ hk => ⟨hk.1.1.1, ⟨hk.1.1.2, ⟨hk.1.2, hk.2⟩⟩⟩))).2.1 (Kd.V_F (Kd.V_mono (ok' := (fun k_ => ((P0_1_ k_ ∨ P0_2_ k_ ∨ P1_1_ k_ ∨ P1_2_ k_ ∨ P2_1_ k_ ∨ P2_2_ k_) ∨ w.heap.size ≤ k_) ∧ k_ ≠ gb101 ∧ k_ ≠ gb102 ∧ k_ ≠ gb103)) (HO2_2.out) (fun k_ hk => ⟨hk.1.1.1, ⟨hk.1.1.2, ⟨hk.1.2, hk.2⟩⟩⟩))))) (Reps.none _ _))))); intro v106 w19 ho20 hb hg_ hnew_; clear hg_ hnew_; (first | rw [← Ny105.out] at ho20 | (simp only [Int.reduceToNat] at ho20; rw [← Ny105.out] at ho20)); replace HO0_1 := Aside0.mk (Kd.V_elder' (vup HO0_1.out) (Kd.N_base ho20) hb); replace HO0_2 := Aside0.mk (Kd.V_elder' (vup HO0_2.out) (Kd.N_base ho20) hb); replace HO1_1 := Aside0.mk (Kd.V_elder' (vup HO1_1.out) (Kd.N_base ho20) hb); replace HO1_2 := Aside0.mk (Kd.V_elder' (vup HO1_2.out) (Kd.N_base ho20) hb); replace HO2_1 := Aside0.mk (Kd.V_elder' (vup HO2_1.out) (Kd.N_base ho20) hb); replace HO2_2 := Aside0.mk (Kd.V_elder' (vup HO2_2.out) (Kd.N_base ho20) hb); have HO107 := Aside0.mk (Kd.N_lower ho20 (below_size hB)); replace BK101 := kA BK101 hb; replace BK102 := kA BK102 hb; replace BK103 := kA BK103 hb; replace HB := bS HB hb; clear hb ho20; obtain ⟨Ao21, co21, eo21⟩ := Kd.N_slice HO107.out; subst eo21) | ((with_reducible refine gc 55 rfl ?_); refine gL 22 Try.func55 #[.slice Ao21 y105.length co21] ?_; (with_reducible refine (flyballlaw03_small.calls k _ _ y105 true _ ?_ ?_ A6.out).mono ?_); exact cup ((Kd.N_reads' HO107.out).2.2); exact (Kd.N_reads' HO107.out).2.1; rintro e w' ⟨rfl, ⟨nd, rfl⟩⟩; refine ⟨_, rfl, ?_⟩; have hb := dB w19 nd; generalize World.drewN w19 nd = w19b at hb ⊢; replace HO0_1 := vA HO0_1 hb; replace HO0_2 := vA HO0_2 hb; replace HO1_1 := vA HO1_1 hb; replace HO1_2 := vA HO1_2 hb; replace HO2_1 := vA HO2_1 hb; replace HO2_2 := vA HO2_2 hb; replace HO107 := nA HO107 hb; replace BK101 := kA BK101 hb; replace BK102 := kA BK102 hb; replace BK103 := kA BK103 hb; replace HB := bA HB hb; clear hb))
   (try simp only [Act.put, List.setIfInBounds_toArray, List.set_cons_zero, List.set_cons_succ])
   go_cut [9] (fun v9 wc => ∃ (kq : Nat) (x9_7 : Bool), v9 = .bool x9_7 ∧ Aside0 (flyballlaw03_RatioField.j0 kq true x9_7 a0_0 l0_1 l0_2 a1_0 l1_1 l1_2 a2_0 l2_1 l2_2 = some true) ∧ Aside0 (kq ≤ k) ∧ Aside0 (Kd.V (Kd.int .u32) 118 wc w.heap.size (fun k_ => ((P0_1_ k_ ∨ P0_2_ k_ ∨ P1_1_ k_ ∨ P1_2_ k_ ∨ P2_1_ k_ ∨ P2_2_ k_) ∨ w.heap.size ≤ k_) ∧ k_ ≠ gb101 ∧ k_ ≠ gb102 ∧ k_ ≠ gb103) (.slice A0_1 l0_1.length c0_1) l0_1) ∧ Aside0 (Kd.V (Kd.int .u32) 118 wc w.heap.size (fun k_ => ((P0_1_ k_ ∨ P0_2_ k_ ∨ P1_1_ k_ ∨ P1_2_ k_ ∨ P2_1_ k_ ∨ P2_2_ k_) ∨ w.heap.size ≤ k_) ∧ k_ ≠ gb101 ∧ k_ ≠ gb102 ∧ k_ ≠ gb103) (.slice A0_2 l0_2.length c0_2) l0_2) ∧ Aside0 (Kd.V (Kd.int .u32) 118 wc w.heap.size (fun k_ => ((P0_1_ k_ ∨ P0_2_ k_ ∨ P1_1_ k_ ∨ P1_2_ k_ ∨ P2_1_ k_ ∨ P2_2_ k_) ∨ w.heap.size ≤ k_) ∧ k_ ≠ gb101 ∧ k_ ≠ gb102 ∧ k_ ≠ gb103) (.slice A1_1 l1_1.length c1_1) l1_1) ∧ Aside0 (Kd.V (Kd.int .u32) 118 wc w.heap.size (fun k_ => ((P0_1_ k_ ∨ P0_2_ k_ ∨ P1_1_ k_ ∨ P1_2_ k_ ∨ P2_1_ k_ ∨ P2_2_ k_) ∨ w.heap.size ≤ k_) ∧ k_ ≠ gb101 ∧ k_ ≠ gb102 ∧ k_ ≠ gb103) (.slice A1_2 l1_2.length c1_2) l1_2) ∧ Aside0 (Kd.V (Kd.int .u32) 118 wc w.heap.size (fun k_ => ((P0_1_ k_ ∨ P0_2_ k_ ∨ P1_1_ k_ ∨ P1_2_ k_ ∨ P2_1_ k_ ∨ P2_2_ k_) ∨ w.heap.size ≤ k_) ∧ k_ ≠ gb101 ∧ k_ ≠ gb102 ∧ k_ ≠ gb103) (.slice A2_1 l2_1.length c2_1) l2_1) ∧ Aside0 (Kd.V (Kd.int .u32) 118 wc w.heap.size (fun k_ => ((P0_1_ k_ ∨ P0_2_ k_ ∨ P1_1_ k_ ∨ P1_2_ k_ ∨ P2_1_ k_ ∨ P2_2_ k_) ∨ w.heap.size ≤ k_) ∧ k_ ≠ gb101 ∧ k_ ≠ gb102 ∧ k_ ≠ gb103) (.slice A2_2 l2_2.length c2_2) l2_2) ∧ Aside0 (wc.heap[gb101]? = some (.cells #[.bool a0_0, (.slice A0_1 l0_1.length c0_1), (.slice A0_2 l0_2.length c0_2)] 69 (0, 0))) ∧ Aside0 (wc.heap[gb102]? = some (.cells #[.bool a1_0, (.slice A1_1 l1_1.length c1_1), (.slice A1_2 l1_2.length c1_2)] 69 (0, 0))) ∧ Aside0 (wc.heap[gb103]? = some (.cells #[.bool a2_0, (.slice A2_1 l2_1.length c2_1), (.slice A2_2 l2_2.length c2_2)] 69 (0, 0))) ∧ Aside0 (Below w.heap.size w wc))
   case first =>
    have H := HC8.out
    clear HC8
    replace H := bi H
    obtain ⟨⟨t109, t110, t113⟩, A22, H⟩ := H
    try dsimp only at H
    replace H := bi H
    obtain ⟨⟨t116, t117, t120⟩, A23, H⟩ := H
    try dsimp only at H
    replace H := bi H
    obtain ⟨t123, A24, H⟩ := H
    by_cases c25 : t123 = 0
    rotate_left
    ·rw [if_neg c25] at H
     obtain ⟨c25b0, c25b1⟩ := bqF c25
     (first | rw [c25b0] | (simp only [i64_w, i32_w]; rw [c25b0]) | skip)
     have H' := Aside0.mk H
     clear H
     try go_wp2
     replace HO0_1 := Aside0.mk (Kd.V_drew HO0_1.out)
     replace HO0_2 := Aside0.mk (Kd.V_drew HO0_2.out)
     replace HO1_1 := Aside0.mk (Kd.V_drew HO1_1.out)
     replace HO1_2 := Aside0.mk (Kd.V_drew HO1_2.out)
     replace HO2_1 := Aside0.mk (Kd.V_drew HO2_1.out)
     replace HO2_2 := Aside0.mk (Kd.V_drew HO2_2.out)
     replace HO107 := Aside0.mk (Kd.N_drew HO107.out)
     replace BK101 := kd BK101
     replace BK102 := kd BK102
     replace BK103 := kd BK103
     replace HB := bd HB
     refine st (S := fun w' => B3 w' gb101 (.bool a0_0) (.slice A0_1 l0_1.length c0_1) (.slice A0_2 l0_2.length c0_2) ∧ B3 w' gb102 (.bool a1_0) (.slice A1_1 l1_1.length c1_1) (.slice A1_2 l1_2.length c1_2)) 19 [] (tf 0 19) ⟨b3 BK101, b3 BK102⟩ (fun hHeld => ?_); refine with_tabW flyballlaw03_RatioField.tab7 flyballlaw03_RatioField.bits7 (fun HT_ HW_ => ?_)
     generalize w19b.drew = w44 at HO0_1 HO0_2 HO1_1 HO1_2 HO2_1 HO2_2 HO107 BK101 BK102 BK103 HB hHeld ⊢
     refine tk 0 26 (tf 1 18) hHeld ?_
     refine tk 1 27 (tf 2 17) hHeld ?_
     refine tk 3 29 #[true, true, false, true, false, false, false, false, false, false, false, false, false, false, false, false, false, false, false] hHeld ?_
     refine tk 4 30 #[true, true, false, true, true, false, false, false, false, false, false, false, false, false, false, false, false, false, false] hHeld ?_
     refine on 2 (some 28) (tf 5 14) (fun K hK => ?_)
     refine gS Try.func86 #[.agg #[.bool a0_0, .slice A0_1 l0_1.length c0_1, .slice A0_2 l0_2.length c0_2], .agg #[.bool a1_0, .slice A1_1 l1_1.length c1_1, .slice A1_2 l1_2.length c1_2]] ?_
     with_reducible refine (ratio_R_Add.calls k a0_0 (fun k_ => ((((((P0_1_ k_ ∨ P0_2_ k_ ∨ P1_1_ k_ ∨ P1_2_ k_ ∨ P2_1_ k_ ∨ P2_2_ k_) ∨ w.heap.size ≤ k_) ∧ k_ ≠ gb101) ∧ k_ ≠ gb102) ∧ k_ ≠ gb103) ∧ some k_ ≠ (.slice Ao21 y105.length co21 : Value).ownBlock)) _ _ l0_1 (fun k_ => ((((((P0_1_ k_ ∨ P0_2_ k_ ∨ P1_1_ k_ ∨ P1_2_ k_ ∨ P2_1_ k_ ∨ P2_2_ k_) ∨ w.heap.size ≤ k_) ∧ k_ ≠ gb101) ∧ k_ ≠ gb102) ∧ k_ ≠ gb103) ∧ some k_ ≠ (.slice Ao21 y105.length co21 : Value).ownBlock)) _ _ l0_2 a1_0 (fun k_ => ((((((P0_1_ k_ ∨ P0_2_ k_ ∨ P1_1_ k_ ∨ P1_2_ k_ ∨ P2_1_ k_ ∨ P2_2_ k_) ∨ w.heap.size ≤ k_) ∧ k_ ≠ gb101) ∧ k_ ≠ gb102) ∧ k_ ≠ gb103) ∧ some k_ ≠ (.slice Ao21 y105.length co21 : Value).ownBlock)) _ _ l1_1 (fun k_ => ((((((P0_1_ k_ ∨ P0_2_ k_ ∨ P1_1_ k_ ∨ P1_2_ k_ ∨ P2_1_ k_ ∨ P2_2_ k_) ∨ w.heap.size ≤ k_) ∧ k_ ≠ gb101) ∧ k_ ≠ gb102) ∧ k_ ≠ gb103) ∧ some k_ ≠ (.slice Ao21 y105.length co21 : Value).ownBlock)) _ _ l1_2 t109 t110 t113 _ ?_ ?_ ?_ ?_ A22.out).mono ?_
     exact HO0_1.out
     exact HO0_2.out
     exact HO1_1.out
     exact HO1_2.out
     rintro e w45 ⟨v111, v114, rfl, ho0, ho1, hb⟩
     refine ⟨_, rfl, ?_⟩
     replace HO0_1 := vA HO0_1 hb
     replace HO0_2 := vA HO0_2 hb
     replace HO1_1 := vA HO1_1 hb
     replace HO1_2 := vA HO1_2 hb
     replace HO2_1 := vA HO2_1 hb
     replace HO2_2 := vA HO2_2 hb
     have HO112 := lw HB (fun k_ => ((P0_1_ k_ ∨ P0_2_ k_ ∨ P1_1_ k_ ∨ P1_2_ k_ ∨ P2_1_ k_ ∨ P2_2_ k_) ∨ w.heap.size ≤ k_) ∧ some k_ ≠ (.slice Ao21 y105.length co21 : Value).ownBlock ∧ k_ ≠ gb101 ∧ k_ ≠ gb102 ∧ k_ ≠ gb103) ho0 (fun k_ hk_ => Or.elim hk_ (fun hs_ => Or.elim hs_ (fun hs_ => ⟨hs_.1.1.1.1, hs_.2, hs_.1.1.1.2, hs_.1.1.2, hs_.1.2⟩) (fun hs_ => Or.elim hs_ (fun hs_ => ⟨hs_.1.1.1.1, hs_.2, hs_.1.1.1.2, hs_.1.1.2, hs_.1.2⟩) (fun hs_ => Or.elim hs_ (fun hs_ => ⟨hs_.1.1.1.1, hs_.2, hs_.1.1.1.2, hs_.1.1.2, hs_.1.2⟩) (fun hs_ => ⟨hs_.1.1.1.1, hs_.2, hs_.1.1.1.2, hs_.1.1.2, hs_.1.2⟩)))) (fun hn_ => ⟨.inr (Nat.le_trans (below_size hB) hn_), Kd.fresh' (Kd.N_lt (by (with_reducible repeat (first | apply Kd.N_alloc | apply Kd.N_drewN | apply Kd.N_drew)); exact HO107.out)) k_ hn_, kF BK101 hn_, kF BK102 hn_, kF BK103 hn_⟩))
     have HO115 := lw HB (fun k_ => ((P0_1_ k_ ∨ P0_2_ k_ ∨ P1_1_ k_ ∨ P1_2_ k_ ∨ P2_1_ k_ ∨ P2_2_ k_) ∨ w.heap.size ≤ k_) ∧ some k_ ≠ (.slice Ao21 y105.length co21 : Value).ownBlock ∧ k_ ≠ gb101 ∧ k_ ≠ gb102 ∧ k_ ≠ gb103) ho1 (fun k_ hk_ => Or.elim hk_ (fun hs_ => Or.elim hs_ (fun hs_ => ⟨hs_.1.1.1.1, hs_.2, hs_.1.1.1.2, hs_.1.1.2, hs_.1.2⟩) (fun hs_ => Or.elim hs_ (fun hs_ => ⟨hs_.1.1.1.1, hs_.2, hs_.1.1.1.2, hs_.1.1.2, hs_.1.2⟩) (fun hs_ => Or.elim hs_ (fun hs_ => ⟨hs_.1.1.1.1, hs_.2, hs_.1.1.1.2, hs_.1.1.2, hs_.1.2⟩) (fun hs_ => ⟨hs_.1.1.1.1, hs_.2, hs_.1.1.1.2, hs_.1.1.2, hs_.1.2⟩)))) (fun hn_ => ⟨.inr (Nat.le_trans (below_size hB) hn_), Kd.fresh' (Kd.N_lt (by (with_reducible repeat (first | apply Kd.N_alloc | apply Kd.N_drewN | apply Kd.N_drew)); exact HO107.out)) k_ hn_, kF BK101 hn_, kF BK102 hn_, kF BK103 hn_⟩))
     replace HO107 := Aside0.mk (Kd.N_below (by (with_reducible repeat (first | apply Kd.N_alloc | apply Kd.N_drewN | apply Kd.N_drew)); exact HO107.out) hb)
     replace BK101 := kA BK101 hb
     replace BK102 := kA BK102 hb
     replace BK103 := kA BK103 hb
     replace HB := bS HB hb
     clear hb ho0 ho1
     refine hK.out _ _ ⟨b3 BK101, b3 BK102⟩ (fun hHeld => nm ?_)
     clear hK K
     refine on 5 (some 31) (tf 6 13) (fun K hK => ?_)
     refine gS Try.func86 #[.agg #[.bool a1_0, .slice A1_1 l1_1.length c1_1, .slice A1_2 l1_2.length c1_2], .agg #[.bool a0_0, .slice A0_1 l0_1.length c0_1, .slice A0_2 l0_2.length c0_2]] ?_
     with_reducible refine (ratio_R_Add.calls k a1_0 (fun k_ => ((((((P0_1_ k_ ∨ P0_2_ k_ ∨ P1_1_ k_ ∨ P1_2_ k_ ∨ P2_1_ k_ ∨ P2_2_ k_) ∨ w.heap.size ≤ k_) ∧ k_ ≠ gb101) ∧ k_ ≠ gb102) ∧ k_ ≠ gb103) ∧ some k_ ≠ (.slice Ao21 y105.length co21 : Value).ownBlock)) _ _ l1_1 (fun k_ => ((((((P0_1_ k_ ∨ P0_2_ k_ ∨ P1_1_ k_ ∨ P1_2_ k_ ∨ P2_1_ k_ ∨ P2_2_ k_) ∨ w.heap.size ≤ k_) ∧ k_ ≠ gb101) ∧ k_ ≠ gb102) ∧ k_ ≠ gb103) ∧ some k_ ≠ (.slice Ao21 y105.length co21 : Value).ownBlock)) _ _ l1_2 a0_0 (fun k_ => ((((((P0_1_ k_ ∨ P0_2_ k_ ∨ P1_1_ k_ ∨ P1_2_ k_ ∨ P2_1_ k_ ∨ P2_2_ k_) ∨ w.heap.size ≤ k_) ∧ k_ ≠ gb101) ∧ k_ ≠ gb102) ∧ k_ ≠ gb103) ∧ some k_ ≠ (.slice Ao21 y105.length co21 : Value).ownBlock)) _ _ l0_1 (fun k_ => ((((((P0_1_ k_ ∨ P0_2_ k_ ∨ P1_1_ k_ ∨ P1_2_ k_ ∨ P2_1_ k_ ∨ P2_2_ k_) ∨ w.heap.size ≤ k_) ∧ k_ ≠ gb101) ∧ k_ ≠ gb102) ∧ k_ ≠ gb103) ∧ some k_ ≠ (.slice Ao21 y105.length co21 : Value).ownBlock)) _ _ l0_2 t116 t117 t120 _ ?_ ?_ ?_ ?_ A23.out).mono ?_
     exact HO1_1.out
     exact HO1_2.out
     exact HO0_1.out
     exact HO0_2.out
     rintro e w46 ⟨v118, v121, rfl, ho0, ho1, hb⟩
     refine ⟨_, rfl, ?_⟩
     replace HO0_1 := vA HO0_1 hb
     replace HO0_2 := vA HO0_2 hb
     replace HO1_1 := vA HO1_1 hb
     replace HO1_2 := vA HO1_2 hb
     replace HO2_1 := vA HO2_1 hb
     replace HO2_2 := vA HO2_2 hb
     replace HO112 := vA HO112 hb
     replace HO115 := vA HO115 hb
     have HO119 := lw HB (fun k_ => ((P0_1_ k_ ∨ P0_2_ k_ ∨ P1_1_ k_ ∨ P1_2_ k_ ∨ P2_1_ k_ ∨ P2_2_ k_) ∨ w.heap.size ≤ k_) ∧ some k_ ≠ (.slice Ao21 y105.length co21 : Value).ownBlock ∧ k_ ≠ gb101 ∧ k_ ≠ gb102 ∧ k_ ≠ gb103) ho0 (fun k_ hk_ => Or.elim hk_ (fun hs_ => Or.elim hs_ (fun hs_ => ⟨hs_.1.1.1.1, hs_.2, hs_.1.1.1.2, hs_.1.1.2, hs_.1.2⟩) (fun hs_ => Or.elim hs_ (fun hs_ => ⟨hs_.1.1.1.1, hs_.2, hs_.1.1.1.2, hs_.1.1.2, hs_.1.2⟩) (fun hs_ => Or.elim hs_ (fun hs_ => ⟨hs_.1.1.1.1, hs_.2, hs_.1.1.1.2, hs_.1.1.2, hs_.1.2⟩) (fun hs_ => ⟨hs_.1.1.1.1, hs_.2, hs_.1.1.1.2, hs_.1.1.2, hs_.1.2⟩)))) (fun hn_ => ⟨.inr (Nat.le_trans (below_size hB) hn_), Kd.fresh' (Kd.N_lt (by (with_reducible repeat (first | apply Kd.N_alloc | apply Kd.N_drewN | apply Kd.N_drew)); exact HO107.out)) k_ hn_, kF BK101 hn_, kF BK102 hn_, kF BK103 hn_⟩))
     have HO122 := lw HB (fun k_ => ((P0_1_ k_ ∨ P0_2_ k_ ∨ P1_1_ k_ ∨ P1_2_ k_ ∨ P2_1_ k_ ∨ P2_2_ k_) ∨ w.heap.size ≤ k_) ∧ some k_ ≠ (.slice Ao21 y105.length co21 : Value).ownBlock ∧ k_ ≠ gb101 ∧ k_ ≠ gb102 ∧ k_ ≠ gb103) ho1 (fun k_ hk_ => Or.elim hk_ (fun hs_ => Or.elim hs_ (fun hs_ => ⟨hs_.1.1.1.1, hs_.2, hs_.1.1.1.2, hs_.1.1.2, hs_.1.2⟩) (fun hs_ => Or.elim hs_ (fun hs_ => ⟨hs_.1.1.1.1, hs_.2, hs_.1.1.1.2, hs_.1.1.2, hs_.1.2⟩) (fun hs_ => Or.elim hs_ (fun hs_ => ⟨hs_.1.1.1.1, hs_.2, hs_.1.1.1.2, hs_.1.1.2, hs_.1.2⟩) (fun hs_ => ⟨hs_.1.1.1.1, hs_.2, hs_.1.1.1.2, hs_.1.1.2, hs_.1.2⟩)))) (fun hn_ => ⟨.inr (Nat.le_trans (below_size hB) hn_), Kd.fresh' (Kd.N_lt (by (with_reducible repeat (first | apply Kd.N_alloc | apply Kd.N_drewN | apply Kd.N_drew)); exact HO107.out)) k_ hn_, kF BK101 hn_, kF BK102 hn_, kF BK103 hn_⟩))
     replace HO107 := Aside0.mk (Kd.N_below (by (with_reducible repeat (first | apply Kd.N_alloc | apply Kd.N_drewN | apply Kd.N_drew)); exact HO107.out) hb)
     replace BK101 := kA BK101 hb
     replace BK102 := kA BK102 hb
     replace BK103 := kA BK103 hb
     replace HB := bS HB hb
     clear hb ho0 ho1
     obtain ⟨Ao47, co47, eo47⟩ := Kd.V_slice HO112.out
     (first | subst eo47 | (injection eo47 with f1_ f2_ f3_; have f4_ := f1_.symm; have f5_ := f3_.symm; clear f1_ f2_ f3_; subst f4_; subst f5_))
     obtain ⟨Ao48, co48, eo48⟩ := Kd.V_slice HO115.out
     (first | subst eo48 | (injection eo48 with f1_ f2_ f3_; have f4_ := f1_.symm; have f5_ := f3_.symm; clear f1_ f2_ f3_; subst f4_; subst f5_))
     obtain ⟨Ao49, co49, eo49⟩ := Kd.V_slice HO119.out
     (first | subst eo49 | (injection eo49 with f1_ f2_ f3_; have f4_ := f1_.symm; have f5_ := f3_.symm; clear f1_ f2_ f3_; subst f4_; subst f5_))
     obtain ⟨Ao50, co50, eo50⟩ := Kd.V_slice HO122.out
     (first | subst eo50 | (injection eo50 with f1_ f2_ f3_; have f4_ := f1_.symm; have f5_ := f3_.symm; clear f1_ f2_ f3_; subst f4_; subst f5_))
     refine hK.out _ _ ⟨b3 BK101, b3 BK102⟩ (fun hHeld => nm ?_)
     clear hK K
     refine on 6 (some 32) (tf 7 12) (fun K hK => ?_)
     refine gS Try.func58 #[.agg #[.bool t109, .slice Ao47 t110.length co47, .slice Ao48 t113.length co48], .agg #[.bool t116, .slice Ao49 t117.length co49, .slice Ao50 t120.length co50]] ?_
     with_reducible refine (ratio_R_Cmp.calls k t109 _ _ t110 _ _ t113 t116 _ _ t117 _ _ t120 t123 _ ?_ ?_ ?_ ?_ ?_ ?_ ?_ ?_ A24.out).mono ?_
     exact cup ((Kd.V_reads' HO112.out).2.2)
     exact (Kd.V_reads' HO112.out).2.1
     exact cup ((Kd.V_reads' HO115.out).2.2)
     exact (Kd.V_reads' HO115.out).2.1
     exact cup ((Kd.V_reads' HO119.out).2.2)
     exact (Kd.V_reads' HO119.out).2.1
     exact cup ((Kd.V_reads' HO122.out).2.2)
     exact (Kd.V_reads' HO122.out).2.1
     rintro e w51 ⟨rfl, hb⟩
     refine ⟨_, rfl, ?_⟩
     replace HO0_1 := vA HO0_1 hb
     replace HO0_2 := vA HO0_2 hb
     replace HO1_1 := vA HO1_1 hb
     replace HO1_2 := vA HO1_2 hb
     replace HO2_1 := vA HO2_1 hb
     replace HO2_2 := vA HO2_2 hb
     replace HO107 := Aside0.mk (Kd.N_below (by (with_reducible repeat (first | apply Kd.N_alloc | apply Kd.N_drewN | apply Kd.N_drew)); exact HO107.out) hb)
     replace HO112 := vA HO112 hb
     replace HO115 := vA HO115 hb
     replace HO119 := vA HO119 hb
     replace HO122 := vA HO122 hb
     replace BK101 := kA BK101 hb
     replace BK102 := kA BK102 hb
     replace BK103 := kA BK103 hb
     replace HB := bS HB hb
     clear hb
     refine hK.out _ _ ⟨b3 BK101, b3 BK102⟩ (fun hHeld => nm ?_)
     clear hK K
     refine pu 7 33 (tf 8 11) ?_
     refine pu 8 34 (tf 9 10) ?_
     refine pure_ (i := 9) (N := some 35) (v := undef) (a' := ?_) (tf 10 9) rfl rfl (any_of HT_.out (by kernel_rfl)) (fun _ _ _ h => h) (Or.inr ⟨by rfl, rfl⟩) ?_ ?_
     rotate_left
     ·simp only [Act.put, List.setIfInBounds_toArray, List.set_cons_zero, List.set_cons_succ, i64_w, i32_w]
      rfl
     refine pure_ (i := 10) (N := some 36) (v := undef) (a' := ?_) (tf 11 8) rfl rfl (any_of HT_.out (by kernel_rfl)) (fun _ _ _ h => h) (Or.inr ⟨by rfl, rfl⟩) ?_ ?_
     rotate_left
     ·simp only [Act.put, List.setIfInBounds_toArray, List.set_cons_zero, List.set_cons_succ, i64_w, i32_w]
      rfl
     refine pure_ (i := 11) (N := some 37) (v := undef) (a' := ?_) (tf 12 7) rfl rfl (any_of HT_.out (by kernel_rfl)) (fun _ _ _ h => h) (Or.inr ⟨by rfl, rfl⟩) ?_ ?_
     rotate_left
     ·simp only [Act.put, List.setIfInBounds_toArray, List.set_cons_zero, List.set_cons_succ, i64_w, i32_w]
      rfl
     refine pure_ (i := 12) (N := some 38) (v := undef) (a' := ?_) (tf 13 6) rfl rfl (any_of HT_.out (by kernel_rfl)) (fun _ _ _ h => h) (Or.inr ⟨by rfl, rfl⟩) ?_ ?_
     rotate_left
     ·simp only [Act.put, List.setIfInBounds_toArray, List.set_cons_zero, List.set_cons_succ, i64_w, i32_w]
      rfl
     refine pure_ (i := 13) (N := some 39) (v := undef) (a' := ?_) (tf 14 5) rfl rfl (any_of HT_.out (by kernel_rfl)) (fun _ _ _ h => h) (Or.inr ⟨by rfl, rfl⟩) ?_ ?_
     rotate_left
     ·simp only [Act.put, List.setIfInBounds_toArray, List.set_cons_zero, List.set_cons_succ, i64_w, i32_w]
      rfl
     refine pure_ (i := 14) (N := some 40) (v := undef) (a' := ?_) (tf 15 4) rfl rfl (any_of HT_.out (by kernel_rfl)) (fun _ _ _ h => h) (Or.inr ⟨by rfl, rfl⟩) ?_ ?_
     rotate_left
     ·simp only [Act.put, List.setIfInBounds_toArray, List.set_cons_zero, List.set_cons_succ, i64_w, i32_w]
      rfl
     refine pure_ (i := 15) (N := some 41) (v := undef) (a' := ?_) (tf 16 3) rfl rfl (any_of HT_.out (by kernel_rfl)) (fun _ _ _ h => h) (Or.inr ⟨by rfl, rfl⟩) ?_ ?_
     rotate_left
     ·simp only [Act.put, List.setIfInBounds_toArray, List.set_cons_zero, List.set_cons_succ, i64_w, i32_w]
      rfl
     refine pure_ (i := 16) (N := some 42) (v := undef) (a' := ?_) (tf 17 2) rfl rfl (any_of HT_.out (by kernel_rfl)) (fun _ _ _ h => h) (Or.inr ⟨by rfl, rfl⟩) ?_ ?_
     rotate_left
     ·simp only [Act.put, List.setIfInBounds_toArray, List.set_cons_zero, List.set_cons_succ, i64_w, i32_w]
      rfl
     refine pu 17 43 (tf 18 1) ?_
     refine pu 18 9 (tf 19 0) ?_
     refine done_ (done_of HT_.out (by kernel_rfl)) ?_
     try go_wp2
     go_meet
     case rel => exact ⟨_, (false), rS, H', ⟨by first | omega | exact Nat.le_refl _⟩, ⟨by (with_reducible repeat (first | apply Kd.V_alloc | apply Kd.V_drewN | apply Kd.V_drew)); exact Kd.V_mono HO0_1.out (fun _ hk => by simp only [hk, and_self, ne_eq, not_false_eq_true])⟩, ⟨by (with_reducible repeat (first | apply Kd.V_alloc | apply Kd.V_drewN | apply Kd.V_drew)); exact Kd.V_mono HO0_2.out (fun _ hk => by simp only [hk, and_self, ne_eq, not_false_eq_true])⟩, ⟨by (with_reducible repeat (first | apply Kd.V_alloc | apply Kd.V_drewN | apply Kd.V_drew)); exact Kd.V_mono HO1_1.out (fun _ hk => by simp only [hk, and_self, ne_eq, not_false_eq_true])⟩, ⟨by (with_reducible repeat (first | apply Kd.V_alloc | apply Kd.V_drewN | apply Kd.V_drew)); exact Kd.V_mono HO1_2.out (fun _ hk => by simp only [hk, and_self, ne_eq, not_false_eq_true])⟩, ⟨by (with_reducible repeat (first | apply Kd.V_alloc | apply Kd.V_drewN | apply Kd.V_drew)); exact Kd.V_mono HO2_1.out (fun _ hk => by simp only [hk, and_self, ne_eq, not_false_eq_true])⟩, ⟨by (with_reducible repeat (first | apply Kd.V_alloc | apply Kd.V_drewN | apply Kd.V_drew)); exact Kd.V_mono HO2_2.out (fun _ hk => by simp only [hk, and_self, ne_eq, not_false_eq_true])⟩, ⟨by exact kU BK101⟩, ⟨by exact kU BK102⟩, ⟨by exact kU BK103⟩, ⟨hB⟩⟩
    rw [if_pos c25] at H
    obtain ⟨c25b0, c25b1⟩ := bqT c25
    clear c25
    (first | rw [c25b0] | (simp only [i64_w, i32_w]; rw [c25b0]) | skip)
    replace H := bi H
    obtain ⟨⟨t124, t125, t128⟩, A26, H⟩ := H
    try dsimp only at H
    replace H := bi H
    obtain ⟨⟨t131, t132, t135⟩, A27, H⟩ := H
    try dsimp only at H
    replace H := bi H
    obtain ⟨t138, A28, H⟩ := H
    have H' := Aside0.mk H
    clear H
    try go_wp2
    replace HO0_1 := Aside0.mk (Kd.V_drew HO0_1.out)
    replace HO0_2 := Aside0.mk (Kd.V_drew HO0_2.out)
    replace HO1_1 := Aside0.mk (Kd.V_drew HO1_1.out)
    replace HO1_2 := Aside0.mk (Kd.V_drew HO1_2.out)
    replace HO2_1 := Aside0.mk (Kd.V_drew HO2_1.out)
    replace HO2_2 := Aside0.mk (Kd.V_drew HO2_2.out)
    replace HO107 := Aside0.mk (Kd.N_drew HO107.out)
    replace BK101 := kd BK101
    replace BK102 := kd BK102
    replace BK103 := kd BK103
    replace HB := bd HB
    refine st (S := fun w' => B3 w' gb101 (.bool a0_0) (.slice A0_1 l0_1.length c0_1) (.slice A0_2 l0_2.length c0_2) ∧ B3 w' gb102 (.bool a1_0) (.slice A1_1 l1_1.length c1_1) (.slice A1_2 l1_2.length c1_2)) 19 [] (tf 0 19) ⟨b3 BK101, b3 BK102⟩ (fun hHeld => ?_); refine with_tabW flyballlaw03_RatioField.tab7 flyballlaw03_RatioField.bits7 (fun HT_ HW_ => ?_)
    generalize w19b.drew = w29 at HO0_1 HO0_2 HO1_1 HO1_2 HO2_1 HO2_2 HO107 BK101 BK102 BK103 HB hHeld ⊢
    refine tk 0 26 (tf 1 18) hHeld ?_
    refine tk 1 27 (tf 2 17) hHeld ?_
    refine tk 3 29 #[true, true, false, true, false, false, false, false, false, false, false, false, false, false, false, false, false, false, false] hHeld ?_
    refine tk 4 30 #[true, true, false, true, true, false, false, false, false, false, false, false, false, false, false, false, false, false, false] hHeld ?_
    refine on 2 (some 28) (tf 5 14) (fun K hK => ?_)
    refine gS Try.func86 #[.agg #[.bool a0_0, .slice A0_1 l0_1.length c0_1, .slice A0_2 l0_2.length c0_2], .agg #[.bool a1_0, .slice A1_1 l1_1.length c1_1, .slice A1_2 l1_2.length c1_2]] ?_
    with_reducible refine (ratio_R_Add.calls k a0_0 (fun k_ => ((((((P0_1_ k_ ∨ P0_2_ k_ ∨ P1_1_ k_ ∨ P1_2_ k_ ∨ P2_1_ k_ ∨ P2_2_ k_) ∨ w.heap.size ≤ k_) ∧ k_ ≠ gb101) ∧ k_ ≠ gb102) ∧ k_ ≠ gb103) ∧ some k_ ≠ (.slice Ao21 y105.length co21 : Value).ownBlock)) _ _ l0_1 (fun k_ => ((((((P0_1_ k_ ∨ P0_2_ k_ ∨ P1_1_ k_ ∨ P1_2_ k_ ∨ P2_1_ k_ ∨ P2_2_ k_) ∨ w.heap.size ≤ k_) ∧ k_ ≠ gb101) ∧ k_ ≠ gb102) ∧ k_ ≠ gb103) ∧ some k_ ≠ (.slice Ao21 y105.length co21 : Value).ownBlock)) _ _ l0_2 a1_0 (fun k_ => ((((((P0_1_ k_ ∨ P0_2_ k_ ∨ P1_1_ k_ ∨ P1_2_ k_ ∨ P2_1_ k_ ∨ P2_2_ k_) ∨ w.heap.size ≤ k_) ∧ k_ ≠ gb101) ∧ k_ ≠ gb102) ∧ k_ ≠ gb103) ∧ some k_ ≠ (.slice Ao21 y105.length co21 : Value).ownBlock)) _ _ l1_1 (fun k_ => ((((((P0_1_ k_ ∨ P0_2_ k_ ∨ P1_1_ k_ ∨ P1_2_ k_ ∨ P2_1_ k_ ∨ P2_2_ k_) ∨ w.heap.size ≤ k_) ∧ k_ ≠ gb101) ∧ k_ ≠ gb102) ∧ k_ ≠ gb103) ∧ some k_ ≠ (.slice Ao21 y105.length co21 : Value).ownBlock)) _ _ l1_2 t109 t110 t113 _ ?_ ?_ ?_ ?_ A22.out).mono ?_
    exact HO0_1.out
    exact HO0_2.out
    exact HO1_1.out
    exact HO1_2.out
    rintro e w30 ⟨v111, v114, rfl, ho0, ho1, hb⟩
    refine ⟨_, rfl, ?_⟩
    replace HO0_1 := vA HO0_1 hb
    replace HO0_2 := vA HO0_2 hb
    replace HO1_1 := vA HO1_1 hb
    replace HO1_2 := vA HO1_2 hb
    replace HO2_1 := vA HO2_1 hb
    replace HO2_2 := vA HO2_2 hb
    have HO112 := lw HB (fun k_ => ((P0_1_ k_ ∨ P0_2_ k_ ∨ P1_1_ k_ ∨ P1_2_ k_ ∨ P2_1_ k_ ∨ P2_2_ k_) ∨ w.heap.size ≤ k_) ∧ some k_ ≠ (.slice Ao21 y105.length co21 : Value).ownBlock ∧ k_ ≠ gb101 ∧ k_ ≠ gb102 ∧ k_ ≠ gb103) ho0 (fun k_ hk_ => Or.elim hk_ (fun hs_ => Or.elim hs_ (fun hs_ => ⟨hs_.1.1.1.1, hs_.2, hs_.1.1.1.2, hs_.1.1.2, hs_.1.2⟩) (fun hs_ => Or.elim hs_ (fun hs_ => ⟨hs_.1.1.1.1, hs_.2, hs_.1.1.1.2, hs_.1.1.2, hs_.1.2⟩) (fun hs_ => Or.elim hs_ (fun hs_ => ⟨hs_.1.1.1.1, hs_.2, hs_.1.1.1.2, hs_.1.1.2, hs_.1.2⟩) (fun hs_ => ⟨hs_.1.1.1.1, hs_.2, hs_.1.1.1.2, hs_.1.1.2, hs_.1.2⟩)))) (fun hn_ => ⟨.inr (Nat.le_trans (below_size hB) hn_), Kd.fresh' (Kd.N_lt (by (with_reducible repeat (first | apply Kd.N_alloc | apply Kd.N_drewN | apply Kd.N_drew)); exact HO107.out)) k_ hn_, kF BK101 hn_, kF BK102 hn_, kF BK103 hn_⟩))
    have HO115 := lw HB (fun k_ => ((P0_1_ k_ ∨ P0_2_ k_ ∨ P1_1_ k_ ∨ P1_2_ k_ ∨ P2_1_ k_ ∨ P2_2_ k_) ∨ w.heap.size ≤ k_) ∧ some k_ ≠ (.slice Ao21 y105.length co21 : Value).ownBlock ∧ k_ ≠ gb101 ∧ k_ ≠ gb102 ∧ k_ ≠ gb103) ho1 (fun k_ hk_ => Or.elim hk_ (fun hs_ => Or.elim hs_ (fun hs_ => ⟨hs_.1.1.1.1, hs_.2, hs_.1.1.1.2, hs_.1.1.2, hs_.1.2⟩) (fun hs_ => Or.elim hs_ (fun hs_ => ⟨hs_.1.1.1.1, hs_.2, hs_.1.1.1.2, hs_.1.1.2, hs_.1.2⟩) (fun hs_ => Or.elim hs_ (fun hs_ => ⟨hs_.1.1.1.1, hs_.2, hs_.1.1.1.2, hs_.1.1.2, hs_.1.2⟩) (fun hs_ => ⟨hs_.1.1.1.1, hs_.2, hs_.1.1.1.2, hs_.1.1.2, hs_.1.2⟩)))) (fun hn_ => ⟨.inr (Nat.le_trans (below_size hB) hn_), Kd.fresh' (Kd.N_lt (by (with_reducible repeat (first | apply Kd.N_alloc | apply Kd.N_drewN | apply Kd.N_drew)); exact HO107.out)) k_ hn_, kF BK101 hn_, kF BK102 hn_, kF BK103 hn_⟩))
    replace HO107 := Aside0.mk (Kd.N_below (by (with_reducible repeat (first | apply Kd.N_alloc | apply Kd.N_drewN | apply Kd.N_drew)); exact HO107.out) hb)
    replace BK101 := kA BK101 hb
    replace BK102 := kA BK102 hb
    replace BK103 := kA BK103 hb
    replace HB := bS HB hb
    clear hb ho0 ho1
    refine hK.out _ _ ⟨b3 BK101, b3 BK102⟩ (fun hHeld => nm ?_)
    clear hK K
    refine on 5 (some 31) (tf 6 13) (fun K hK => ?_)
    refine gS Try.func86 #[.agg #[.bool a1_0, .slice A1_1 l1_1.length c1_1, .slice A1_2 l1_2.length c1_2], .agg #[.bool a0_0, .slice A0_1 l0_1.length c0_1, .slice A0_2 l0_2.length c0_2]] ?_
    with_reducible refine (ratio_R_Add.calls k a1_0 (fun k_ => ((((((P0_1_ k_ ∨ P0_2_ k_ ∨ P1_1_ k_ ∨ P1_2_ k_ ∨ P2_1_ k_ ∨ P2_2_ k_) ∨ w.heap.size ≤ k_) ∧ k_ ≠ gb101) ∧ k_ ≠ gb102) ∧ k_ ≠ gb103) ∧ some k_ ≠ (.slice Ao21 y105.length co21 : Value).ownBlock)) _ _ l1_1 (fun k_ => ((((((P0_1_ k_ ∨ P0_2_ k_ ∨ P1_1_ k_ ∨ P1_2_ k_ ∨ P2_1_ k_ ∨ P2_2_ k_) ∨ w.heap.size ≤ k_) ∧ k_ ≠ gb101) ∧ k_ ≠ gb102) ∧ k_ ≠ gb103) ∧ some k_ ≠ (.slice Ao21 y105.length co21 : Value).ownBlock)) _ _ l1_2 a0_0 (fun k_ => ((((((P0_1_ k_ ∨ P0_2_ k_ ∨ P1_1_ k_ ∨ P1_2_ k_ ∨ P2_1_ k_ ∨ P2_2_ k_) ∨ w.heap.size ≤ k_) ∧ k_ ≠ gb101) ∧ k_ ≠ gb102) ∧ k_ ≠ gb103) ∧ some k_ ≠ (.slice Ao21 y105.length co21 : Value).ownBlock)) _ _ l0_1 (fun k_ => ((((((P0_1_ k_ ∨ P0_2_ k_ ∨ P1_1_ k_ ∨ P1_2_ k_ ∨ P2_1_ k_ ∨ P2_2_ k_) ∨ w.heap.size ≤ k_) ∧ k_ ≠ gb101) ∧ k_ ≠ gb102) ∧ k_ ≠ gb103) ∧ some k_ ≠ (.slice Ao21 y105.length co21 : Value).ownBlock)) _ _ l0_2 t116 t117 t120 _ ?_ ?_ ?_ ?_ A23.out).mono ?_
    exact HO1_1.out
    exact HO1_2.out
    exact HO0_1.out
    exact HO0_2.out
    rintro e w31 ⟨v118, v121, rfl, ho0, ho1, hb⟩
    refine ⟨_, rfl, ?_⟩
    replace HO0_1 := vA HO0_1 hb
    replace HO0_2 := vA HO0_2 hb
    replace HO1_1 := vA HO1_1 hb
    replace HO1_2 := vA HO1_2 hb
    replace HO2_1 := vA HO2_1 hb
    replace HO2_2 := vA HO2_2 hb
    replace HO112 := vA HO112 hb
    replace HO115 := vA HO115 hb
    have HO119 := lw HB (fun k_ => ((P0_1_ k_ ∨ P0_2_ k_ ∨ P1_1_ k_ ∨ P1_2_ k_ ∨ P2_1_ k_ ∨ P2_2_ k_) ∨ w.heap.size ≤ k_) ∧ some k_ ≠ (.slice Ao21 y105.length co21 : Value).ownBlock ∧ k_ ≠ gb101 ∧ k_ ≠ gb102 ∧ k_ ≠ gb103) ho0 (fun k_ hk_ => Or.elim hk_ (fun hs_ => Or.elim hs_ (fun hs_ => ⟨hs_.1.1.1.1, hs_.2, hs_.1.1.1.2, hs_.1.1.2, hs_.1.2⟩) (fun hs_ => Or.elim hs_ (fun hs_ => ⟨hs_.1.1.1.1, hs_.2, hs_.1.1.1.2, hs_.1.1.2, hs_.1.2⟩) (fun hs_ => Or.elim hs_ (fun hs_ => ⟨hs_.1.1.1.1, hs_.2, hs_.1.1.1.2, hs_.1.1.2, hs_.1.2⟩) (fun hs_ => ⟨hs_.1.1.1.1, hs_.2, hs_.1.1.1.2, hs_.1.1.2, hs_.1.2⟩)))) (fun hn_ => ⟨.inr (Nat.le_trans (below_size hB) hn_), Kd.fresh' (Kd.N_lt (by (with_reducible repeat (first | apply Kd.N_alloc | apply Kd.N_drewN | apply Kd.N_drew)); exact HO107.out)) k_ hn_, kF BK101 hn_, kF BK102 hn_, kF BK103 hn_⟩))
    have HO122 := lw HB (fun k_ => ((P0_1_ k_ ∨ P0_2_ k_ ∨ P1_1_ k_ ∨ P1_2_ k_ ∨ P2_1_ k_ ∨ P2_2_ k_) ∨ w.heap.size ≤ k_) ∧ some k_ ≠ (.slice Ao21 y105.length co21 : Value).ownBlock ∧ k_ ≠ gb101 ∧ k_ ≠ gb102 ∧ k_ ≠ gb103) ho1 (fun k_ hk_ => Or.elim hk_ (fun hs_ => Or.elim hs_ (fun hs_ => ⟨hs_.1.1.1.1, hs_.2, hs_.1.1.1.2, hs_.1.1.2, hs_.1.2⟩) (fun hs_ => Or.elim hs_ (fun hs_ => ⟨hs_.1.1.1.1, hs_.2, hs_.1.1.1.2, hs_.1.1.2, hs_.1.2⟩) (fun hs_ => Or.elim hs_ (fun hs_ => ⟨hs_.1.1.1.1, hs_.2, hs_.1.1.1.2, hs_.1.1.2, hs_.1.2⟩) (fun hs_ => ⟨hs_.1.1.1.1, hs_.2, hs_.1.1.1.2, hs_.1.1.2, hs_.1.2⟩)))) (fun hn_ => ⟨.inr (Nat.le_trans (below_size hB) hn_), Kd.fresh' (Kd.N_lt (by (with_reducible repeat (first | apply Kd.N_alloc | apply Kd.N_drewN | apply Kd.N_drew)); exact HO107.out)) k_ hn_, kF BK101 hn_, kF BK102 hn_, kF BK103 hn_⟩))
    replace HO107 := Aside0.mk (Kd.N_below (by (with_reducible repeat (first | apply Kd.N_alloc | apply Kd.N_drewN | apply Kd.N_drew)); exact HO107.out) hb)
    replace BK101 := kA BK101 hb
    replace BK102 := kA BK102 hb
    replace BK103 := kA BK103 hb
    replace HB := bS HB hb
    clear hb ho0 ho1
    obtain ⟨Ao32, co32, eo32⟩ := Kd.V_slice HO112.out
    (first | subst eo32 | (injection eo32 with f1_ f2_ f3_; have f4_ := f1_.symm; have f5_ := f3_.symm; clear f1_ f2_ f3_; subst f4_; subst f5_))
    obtain ⟨Ao33, co33, eo33⟩ := Kd.V_slice HO115.out
    (first | subst eo33 | (injection eo33 with f1_ f2_ f3_; have f4_ := f1_.symm; have f5_ := f3_.symm; clear f1_ f2_ f3_; subst f4_; subst f5_))
    obtain ⟨Ao34, co34, eo34⟩ := Kd.V_slice HO119.out
    (first | subst eo34 | (injection eo34 with f1_ f2_ f3_; have f4_ := f1_.symm; have f5_ := f3_.symm; clear f1_ f2_ f3_; subst f4_; subst f5_))
    obtain ⟨Ao35, co35, eo35⟩ := Kd.V_slice HO122.out
    (first | subst eo35 | (injection eo35 with f1_ f2_ f3_; have f4_ := f1_.symm; have f5_ := f3_.symm; clear f1_ f2_ f3_; subst f4_; subst f5_))
    refine hK.out _ _ ⟨b3 BK101, b3 BK102⟩ (fun hHeld => nm ?_)
    clear hK K
    refine on 6 (some 32) (tf 7 12) (fun K hK => ?_)
    refine gS Try.func58 #[.agg #[.bool t109, .slice Ao32 t110.length co32, .slice Ao33 t113.length co33], .agg #[.bool t116, .slice Ao34 t117.length co34, .slice Ao35 t120.length co35]] ?_
    with_reducible refine (ratio_R_Cmp.calls k t109 _ _ t110 _ _ t113 t116 _ _ t117 _ _ t120 t123 _ ?_ ?_ ?_ ?_ ?_ ?_ ?_ ?_ A24.out).mono ?_
    exact cup ((Kd.V_reads' HO112.out).2.2)
    exact (Kd.V_reads' HO112.out).2.1
    exact cup ((Kd.V_reads' HO115.out).2.2)
    exact (Kd.V_reads' HO115.out).2.1
    exact cup ((Kd.V_reads' HO119.out).2.2)
    exact (Kd.V_reads' HO119.out).2.1
    exact cup ((Kd.V_reads' HO122.out).2.2)
    exact (Kd.V_reads' HO122.out).2.1
    rintro e w36 ⟨rfl, hb⟩
    refine ⟨_, rfl, ?_⟩
    replace HO0_1 := vA HO0_1 hb
    replace HO0_2 := vA HO0_2 hb
    replace HO1_1 := vA HO1_1 hb
    replace HO1_2 := vA HO1_2 hb
    replace HO2_1 := vA HO2_1 hb
    replace HO2_2 := vA HO2_2 hb
    replace HO107 := Aside0.mk (Kd.N_below (by (with_reducible repeat (first | apply Kd.N_alloc | apply Kd.N_drewN | apply Kd.N_drew)); exact HO107.out) hb)
    replace HO112 := vA HO112 hb
    replace HO115 := vA HO115 hb
    replace HO119 := vA HO119 hb
    replace HO122 := vA HO122 hb
    replace BK101 := kA BK101 hb
    replace BK102 := kA BK102 hb
    replace BK103 := kA BK103 hb
    replace HB := bS HB hb
    clear hb
    refine hK.out _ _ ⟨b3 BK101, b3 BK102⟩ (fun hHeld => nm ?_)
    clear hK K
    refine pu 7 33 (tf 8 11) ?_
    refine pu 8 34 (tf 9 10) ?_
    refine tk 9 35 (tf 10 9) hHeld ?_
    refine tk 10 36 (tf 11 8) hHeld ?_
    refine tk 12 38 #[true, true, true, true, true, true, true, true, true, true, true, false, true, false, false, false, false, false, false] hHeld ?_
    refine tk 13 39 #[true, true, true, true, true, true, true, true, true, true, true, false, true, true, false, false, false, false, false] hHeld ?_
    refine on 11 (some 37) (tf 14 5) (fun K hK => ?_)
    refine gS Try.func90 #[.agg #[.bool a0_0, .slice A0_1 l0_1.length c0_1, .slice A0_2 l0_2.length c0_2], .agg #[.bool a1_0, .slice A1_1 l1_1.length c1_1, .slice A1_2 l1_2.length c1_2]] ?_
    with_reducible refine (ratio_R_Mul.calls k a0_0 (fun k_ => ((((((P0_1_ k_ ∨ P0_2_ k_ ∨ P1_1_ k_ ∨ P1_2_ k_ ∨ P2_1_ k_ ∨ P2_2_ k_) ∨ w.heap.size ≤ k_) ∧ k_ ≠ gb101) ∧ k_ ≠ gb102) ∧ k_ ≠ gb103) ∧ some k_ ≠ (.slice Ao21 y105.length co21 : Value).ownBlock)) _ _ l0_1 (fun k_ => ((((((P0_1_ k_ ∨ P0_2_ k_ ∨ P1_1_ k_ ∨ P1_2_ k_ ∨ P2_1_ k_ ∨ P2_2_ k_) ∨ w.heap.size ≤ k_) ∧ k_ ≠ gb101) ∧ k_ ≠ gb102) ∧ k_ ≠ gb103) ∧ some k_ ≠ (.slice Ao21 y105.length co21 : Value).ownBlock)) _ _ l0_2 a1_0 (fun k_ => ((((((P0_1_ k_ ∨ P0_2_ k_ ∨ P1_1_ k_ ∨ P1_2_ k_ ∨ P2_1_ k_ ∨ P2_2_ k_) ∨ w.heap.size ≤ k_) ∧ k_ ≠ gb101) ∧ k_ ≠ gb102) ∧ k_ ≠ gb103) ∧ some k_ ≠ (.slice Ao21 y105.length co21 : Value).ownBlock)) _ _ l1_1 (fun k_ => ((((((P0_1_ k_ ∨ P0_2_ k_ ∨ P1_1_ k_ ∨ P1_2_ k_ ∨ P2_1_ k_ ∨ P2_2_ k_) ∨ w.heap.size ≤ k_) ∧ k_ ≠ gb101) ∧ k_ ≠ gb102) ∧ k_ ≠ gb103) ∧ some k_ ≠ (.slice Ao21 y105.length co21 : Value).ownBlock)) _ _ l1_2 t124 t125 t128 _ ?_ ?_ ?_ ?_ A26.out).mono ?_
    exact HO0_1.out
    exact HO0_2.out
    exact HO1_1.out
    exact HO1_2.out
    rintro e w37 ⟨v126, v129, rfl, ho0, ho1, hb⟩
    refine ⟨_, rfl, ?_⟩
    replace HO0_1 := vA HO0_1 hb
    replace HO0_2 := vA HO0_2 hb
    replace HO1_1 := vA HO1_1 hb
    replace HO1_2 := vA HO1_2 hb
    replace HO2_1 := vA HO2_1 hb
    replace HO2_2 := vA HO2_2 hb
    replace HO112 := vA HO112 hb
    replace HO115 := vA HO115 hb
    replace HO119 := vA HO119 hb
    replace HO122 := vA HO122 hb
    have HO127 := lw HB (fun k_ => ((P0_1_ k_ ∨ P0_2_ k_ ∨ P1_1_ k_ ∨ P1_2_ k_ ∨ P2_1_ k_ ∨ P2_2_ k_) ∨ w.heap.size ≤ k_) ∧ some k_ ≠ (.slice Ao21 y105.length co21 : Value).ownBlock ∧ k_ ≠ gb101 ∧ k_ ≠ gb102 ∧ k_ ≠ gb103) ho0 (fun k_ hk_ => Or.elim hk_ (fun hs_ => Or.elim hs_ (fun hs_ => ⟨hs_.1.1.1.1, hs_.2, hs_.1.1.1.2, hs_.1.1.2, hs_.1.2⟩) (fun hs_ => Or.elim hs_ (fun hs_ => ⟨hs_.1.1.1.1, hs_.2, hs_.1.1.1.2, hs_.1.1.2, hs_.1.2⟩) (fun hs_ => Or.elim hs_ (fun hs_ => ⟨hs_.1.1.1.1, hs_.2, hs_.1.1.1.2, hs_.1.1.2, hs_.1.2⟩) (fun hs_ => ⟨hs_.1.1.1.1, hs_.2, hs_.1.1.1.2, hs_.1.1.2, hs_.1.2⟩)))) (fun hn_ => ⟨.inr (Nat.le_trans (below_size hB) hn_), Kd.fresh' (Kd.N_lt (by (with_reducible repeat (first | apply Kd.N_alloc | apply Kd.N_drewN | apply Kd.N_drew)); exact HO107.out)) k_ hn_, kF BK101 hn_, kF BK102 hn_, kF BK103 hn_⟩))
    have HO130 := lw HB (fun k_ => ((P0_1_ k_ ∨ P0_2_ k_ ∨ P1_1_ k_ ∨ P1_2_ k_ ∨ P2_1_ k_ ∨ P2_2_ k_) ∨ w.heap.size ≤ k_) ∧ some k_ ≠ (.slice Ao21 y105.length co21 : Value).ownBlock ∧ k_ ≠ gb101 ∧ k_ ≠ gb102 ∧ k_ ≠ gb103) ho1 (fun k_ hk_ => Or.elim hk_ (fun hs_ => Or.elim hs_ (fun hs_ => ⟨hs_.1.1.1.1, hs_.2, hs_.1.1.1.2, hs_.1.1.2, hs_.1.2⟩) (fun hs_ => Or.elim hs_ (fun hs_ => ⟨hs_.1.1.1.1, hs_.2, hs_.1.1.1.2, hs_.1.1.2, hs_.1.2⟩) (fun hs_ => Or.elim hs_ (fun hs_ => ⟨hs_.1.1.1.1, hs_.2, hs_.1.1.1.2, hs_.1.1.2, hs_.1.2⟩) (fun hs_ => ⟨hs_.1.1.1.1, hs_.2, hs_.1.1.1.2, hs_.1.1.2, hs_.1.2⟩)))) (fun hn_ => ⟨.inr (Nat.le_trans (below_size hB) hn_), Kd.fresh' (Kd.N_lt (by (with_reducible repeat (first | apply Kd.N_alloc | apply Kd.N_drewN | apply Kd.N_drew)); exact HO107.out)) k_ hn_, kF BK101 hn_, kF BK102 hn_, kF BK103 hn_⟩))
    replace HO107 := Aside0.mk (Kd.N_below (by (with_reducible repeat (first | apply Kd.N_alloc | apply Kd.N_drewN | apply Kd.N_drew)); exact HO107.out) hb)
    replace BK101 := kA BK101 hb
    replace BK102 := kA BK102 hb
    replace BK103 := kA BK103 hb
    replace HB := bS HB hb
    clear hb ho0 ho1
    refine hK.out _ _ ⟨b3 BK101, b3 BK102⟩ (fun hHeld => nm ?_)
    clear hK K
    refine on 14 (some 40) (tf 15 4) (fun K hK => ?_)
    refine gS Try.func90 #[.agg #[.bool a1_0, .slice A1_1 l1_1.length c1_1, .slice A1_2 l1_2.length c1_2], .agg #[.bool a0_0, .slice A0_1 l0_1.length c0_1, .slice A0_2 l0_2.length c0_2]] ?_
    with_reducible refine (ratio_R_Mul.calls k a1_0 (fun k_ => ((((((P0_1_ k_ ∨ P0_2_ k_ ∨ P1_1_ k_ ∨ P1_2_ k_ ∨ P2_1_ k_ ∨ P2_2_ k_) ∨ w.heap.size ≤ k_) ∧ k_ ≠ gb101) ∧ k_ ≠ gb102) ∧ k_ ≠ gb103) ∧ some k_ ≠ (.slice Ao21 y105.length co21 : Value).ownBlock)) _ _ l1_1 (fun k_ => ((((((P0_1_ k_ ∨ P0_2_ k_ ∨ P1_1_ k_ ∨ P1_2_ k_ ∨ P2_1_ k_ ∨ P2_2_ k_) ∨ w.heap.size ≤ k_) ∧ k_ ≠ gb101) ∧ k_ ≠ gb102) ∧ k_ ≠ gb103) ∧ some k_ ≠ (.slice Ao21 y105.length co21 : Value).ownBlock)) _ _ l1_2 a0_0 (fun k_ => ((((((P0_1_ k_ ∨ P0_2_ k_ ∨ P1_1_ k_ ∨ P1_2_ k_ ∨ P2_1_ k_ ∨ P2_2_ k_) ∨ w.heap.size ≤ k_) ∧ k_ ≠ gb101) ∧ k_ ≠ gb102) ∧ k_ ≠ gb103) ∧ some k_ ≠ (.slice Ao21 y105.length co21 : Value).ownBlock)) _ _ l0_1 (fun k_ => ((((((P0_1_ k_ ∨ P0_2_ k_ ∨ P1_1_ k_ ∨ P1_2_ k_ ∨ P2_1_ k_ ∨ P2_2_ k_) ∨ w.heap.size ≤ k_) ∧ k_ ≠ gb101) ∧ k_ ≠ gb102) ∧ k_ ≠ gb103) ∧ some k_ ≠ (.slice Ao21 y105.length co21 : Value).ownBlock)) _ _ l0_2 t131 t132 t135 _ ?_ ?_ ?_ ?_ A27.out).mono ?_
    exact HO1_1.out
    exact HO1_2.out
    exact HO0_1.out
    exact HO0_2.out
    rintro e w38 ⟨v133, v136, rfl, ho0, ho1, hb⟩
    refine ⟨_, rfl, ?_⟩
    replace HO0_1 := vA HO0_1 hb
    replace HO0_2 := vA HO0_2 hb
    replace HO1_1 := vA HO1_1 hb
    replace HO1_2 := vA HO1_2 hb
    replace HO2_1 := vA HO2_1 hb
    replace HO2_2 := vA HO2_2 hb
    replace HO112 := vA HO112 hb
    replace HO115 := vA HO115 hb
    replace HO119 := vA HO119 hb
    replace HO122 := vA HO122 hb
    replace HO127 := vA HO127 hb
    replace HO130 := vA HO130 hb
    have HO134 := lw HB (fun k_ => ((P0_1_ k_ ∨ P0_2_ k_ ∨ P1_1_ k_ ∨ P1_2_ k_ ∨ P2_1_ k_ ∨ P2_2_ k_) ∨ w.heap.size ≤ k_) ∧ some k_ ≠ (.slice Ao21 y105.length co21 : Value).ownBlock ∧ k_ ≠ gb101 ∧ k_ ≠ gb102 ∧ k_ ≠ gb103) ho0 (fun k_ hk_ => Or.elim hk_ (fun hs_ => Or.elim hs_ (fun hs_ => ⟨hs_.1.1.1.1, hs_.2, hs_.1.1.1.2, hs_.1.1.2, hs_.1.2⟩) (fun hs_ => Or.elim hs_ (fun hs_ => ⟨hs_.1.1.1.1, hs_.2, hs_.1.1.1.2, hs_.1.1.2, hs_.1.2⟩) (fun hs_ => Or.elim hs_ (fun hs_ => ⟨hs_.1.1.1.1, hs_.2, hs_.1.1.1.2, hs_.1.1.2, hs_.1.2⟩) (fun hs_ => ⟨hs_.1.1.1.1, hs_.2, hs_.1.1.1.2, hs_.1.1.2, hs_.1.2⟩)))) (fun hn_ => ⟨.inr (Nat.le_trans (below_size hB) hn_), Kd.fresh' (Kd.N_lt (by (with_reducible repeat (first | apply Kd.N_alloc | apply Kd.N_drewN | apply Kd.N_drew)); exact HO107.out)) k_ hn_, kF BK101 hn_, kF BK102 hn_, kF BK103 hn_⟩))
    have HO137 := lw HB (fun k_ => ((P0_1_ k_ ∨ P0_2_ k_ ∨ P1_1_ k_ ∨ P1_2_ k_ ∨ P2_1_ k_ ∨ P2_2_ k_) ∨ w.heap.size ≤ k_) ∧ some k_ ≠ (.slice Ao21 y105.length co21 : Value).ownBlock ∧ k_ ≠ gb101 ∧ k_ ≠ gb102 ∧ k_ ≠ gb103) ho1 (fun k_ hk_ => Or.elim hk_ (fun hs_ => Or.elim hs_ (fun hs_ => ⟨hs_.1.1.1.1, hs_.2, hs_.1.1.1.2, hs_.1.1.2, hs_.1.2⟩) (fun hs_ => Or.elim hs_ (fun hs_ => ⟨hs_.1.1.1.1, hs_.2, hs_.1.1.1.2, hs_.1.1.2, hs_.1.2⟩) (fun hs_ => Or.elim hs_ (fun hs_ => ⟨hs_.1.1.1.1, hs_.2, hs_.1.1.1.2, hs_.1.1.2, hs_.1.2⟩) (fun hs_ => ⟨hs_.1.1.1.1, hs_.2, hs_.1.1.1.2, hs_.1.1.2, hs_.1.2⟩)))) (fun hn_ => ⟨.inr (Nat.le_trans (below_size hB) hn_), Kd.fresh' (Kd.N_lt (by (with_reducible repeat (first | apply Kd.N_alloc | apply Kd.N_drewN | apply Kd.N_drew)); exact HO107.out)) k_ hn_, kF BK101 hn_, kF BK102 hn_, kF BK103 hn_⟩))
    replace HO107 := Aside0.mk (Kd.N_below (by (with_reducible repeat (first | apply Kd.N_alloc | apply Kd.N_drewN | apply Kd.N_drew)); exact HO107.out) hb)
    replace BK101 := kA BK101 hb
    replace BK102 := kA BK102 hb
    replace BK103 := kA BK103 hb
    replace HB := bS HB hb
    clear hb ho0 ho1
    obtain ⟨Ao39, co39, eo39⟩ := Kd.V_slice HO127.out
    (first | subst eo39 | (injection eo39 with f1_ f2_ f3_; have f4_ := f1_.symm; have f5_ := f3_.symm; clear f1_ f2_ f3_; subst f4_; subst f5_))
    obtain ⟨Ao40, co40, eo40⟩ := Kd.V_slice HO130.out
    (first | subst eo40 | (injection eo40 with f1_ f2_ f3_; have f4_ := f1_.symm; have f5_ := f3_.symm; clear f1_ f2_ f3_; subst f4_; subst f5_))
    obtain ⟨Ao41, co41, eo41⟩ := Kd.V_slice HO134.out
    (first | subst eo41 | (injection eo41 with f1_ f2_ f3_; have f4_ := f1_.symm; have f5_ := f3_.symm; clear f1_ f2_ f3_; subst f4_; subst f5_))
    obtain ⟨Ao42, co42, eo42⟩ := Kd.V_slice HO137.out
    (first | subst eo42 | (injection eo42 with f1_ f2_ f3_; have f4_ := f1_.symm; have f5_ := f3_.symm; clear f1_ f2_ f3_; subst f4_; subst f5_))
    refine hK.out _ _ ⟨b3 BK101, b3 BK102⟩ (fun hHeld => nm ?_)
    clear hK K
    refine on 15 (some 41) (tf 16 3) (fun K hK => ?_)
    refine gS Try.func58 #[.agg #[.bool t124, .slice Ao39 t125.length co39, .slice Ao40 t128.length co40], .agg #[.bool t131, .slice Ao41 t132.length co41, .slice Ao42 t135.length co42]] ?_
    with_reducible refine (ratio_R_Cmp.calls k t124 _ _ t125 _ _ t128 t131 _ _ t132 _ _ t135 t138 _ ?_ ?_ ?_ ?_ ?_ ?_ ?_ ?_ A28.out).mono ?_
    exact cup ((Kd.V_reads' HO127.out).2.2)
    exact (Kd.V_reads' HO127.out).2.1
    exact cup ((Kd.V_reads' HO130.out).2.2)
    exact (Kd.V_reads' HO130.out).2.1
    exact cup ((Kd.V_reads' HO134.out).2.2)
    exact (Kd.V_reads' HO134.out).2.1
    exact cup ((Kd.V_reads' HO137.out).2.2)
    exact (Kd.V_reads' HO137.out).2.1
    rintro e w43 ⟨rfl, hb⟩
    refine ⟨_, rfl, ?_⟩
    replace HO0_1 := vA HO0_1 hb
    replace HO0_2 := vA HO0_2 hb
    replace HO1_1 := vA HO1_1 hb
    replace HO1_2 := vA HO1_2 hb
    replace HO2_1 := vA HO2_1 hb
    replace HO2_2 := vA HO2_2 hb
    replace HO107 := Aside0.mk (Kd.N_below (by (with_reducible repeat (first | apply Kd.N_alloc | apply Kd.N_drewN | apply Kd.N_drew)); exact HO107.out) hb)
    replace HO112 := vA HO112 hb
    replace HO115 := vA HO115 hb
    replace HO119 := vA HO119 hb
    replace HO122 := vA HO122 hb
    replace HO127 := vA HO127 hb
    replace HO130 := vA HO130 hb
    replace HO134 := vA HO134 hb
    replace HO137 := vA HO137 hb
    replace BK101 := kA BK101 hb
    replace BK102 := kA BK102 hb
    replace BK103 := kA BK103 hb
    replace HB := bS HB hb
    clear hb
    refine hK.out _ _ ⟨b3 BK101, b3 BK102⟩ (fun hHeld => nm ?_)
    clear hK K
    refine pu 16 42 (tf 17 2) ?_
    refine pu 17 43 (tf 18 1) ?_
    refine pu 18 9 (tf 19 0) ?_
    refine done_ (done_of HT_.out (by kernel_rfl)) ?_
    try go_wp2
    go_meet
    case rel => exact ⟨_, ((t138 == 0)), rS, H', ⟨by first | omega | exact Nat.le_refl _⟩, ⟨by (with_reducible repeat (first | apply Kd.V_alloc | apply Kd.V_drewN | apply Kd.V_drew)); exact Kd.V_mono HO0_1.out (fun _ hk => by simp only [hk, and_self, ne_eq, not_false_eq_true])⟩, ⟨by (with_reducible repeat (first | apply Kd.V_alloc | apply Kd.V_drewN | apply Kd.V_drew)); exact Kd.V_mono HO0_2.out (fun _ hk => by simp only [hk, and_self, ne_eq, not_false_eq_true])⟩, ⟨by (with_reducible repeat (first | apply Kd.V_alloc | apply Kd.V_drewN | apply Kd.V_drew)); exact Kd.V_mono HO1_1.out (fun _ hk => by simp only [hk, and_self, ne_eq, not_false_eq_true])⟩, ⟨by (with_reducible repeat (first | apply Kd.V_alloc | apply Kd.V_drewN | apply Kd.V_drew)); exact Kd.V_mono HO1_2.out (fun _ hk => by simp only [hk, and_self, ne_eq, not_false_eq_true])⟩, ⟨by (with_reducible repeat (first | apply Kd.V_alloc | apply Kd.V_drewN | apply Kd.V_drew)); exact Kd.V_mono HO2_1.out (fun _ hk => by simp only [hk, and_self, ne_eq, not_false_eq_true])⟩, ⟨by (with_reducible repeat (first | apply Kd.V_alloc | apply Kd.V_drewN | apply Kd.V_drew)); exact Kd.V_mono HO2_2.out (fun _ hk => by simp only [hk, and_self, ne_eq, not_false_eq_true])⟩, ⟨by exact kU BK101⟩, ⟨by exact kU BK102⟩, ⟨by exact kU BK103⟩, ⟨hB⟩⟩
   case rest =>
    clear HC8
    try clear c1
    try clear c2
    try clear p2
    try clear c5
    try clear c8
    try clear c9
    try clear c25
    try clear c25b0
    try clear c25b1
    obtain ⟨kq, x9_7, rfl, HA, HJ7, HO_102001, HO_102002, HO_103001, HO_103002, HO_104001, HO_104002, BK101, BK102, BK103, HB⟩ := hcut
    cases kq with
    | zero => exact absurd HA.out (by simp [flyballlaw03_RatioField.j0])
    | succ kj7 =>
     have H := HA.out
     clear HA
     simp only [flyballlaw03_RatioField.j0] at H
     have HC52 := Aside0.mk H
     clear H
     go_upto_region 8 with (fail)
     go_cut [10] (fun v10 wc => ∃ (kq : Nat) (x10_51 : Bool), v10 = .bool x10_51 ∧ Aside0 (flyballlaw03_RatioField.j1 kq true x9_7 x10_51 a0_0 l0_1 l0_2 a1_0 l1_1 l1_2 a2_0 l2_1 l2_2 = some true) ∧ Aside0 (kq ≤ kj7) ∧ Aside0 (Kd.V (Kd.int .u32) 118 wc w.heap.size (fun k_ => ((P0_1_ k_ ∨ P0_2_ k_ ∨ P1_1_ k_ ∨ P1_2_ k_ ∨ P2_1_ k_ ∨ P2_2_ k_) ∨ w.heap.size ≤ k_) ∧ k_ ≠ gb101 ∧ k_ ≠ gb102 ∧ k_ ≠ gb103) (.slice A0_1 l0_1.length c0_1) l0_1) ∧ Aside0 (Kd.V (Kd.int .u32) 118 wc w.heap.size (fun k_ => ((P0_1_ k_ ∨ P0_2_ k_ ∨ P1_1_ k_ ∨ P1_2_ k_ ∨ P2_1_ k_ ∨ P2_2_ k_) ∨ w.heap.size ≤ k_) ∧ k_ ≠ gb101 ∧ k_ ≠ gb102 ∧ k_ ≠ gb103) (.slice A0_2 l0_2.length c0_2) l0_2) ∧ Aside0 (Kd.V (Kd.int .u32) 118 wc w.heap.size (fun k_ => ((P0_1_ k_ ∨ P0_2_ k_ ∨ P1_1_ k_ ∨ P1_2_ k_ ∨ P2_1_ k_ ∨ P2_2_ k_) ∨ w.heap.size ≤ k_) ∧ k_ ≠ gb101 ∧ k_ ≠ gb102 ∧ k_ ≠ gb103) (.slice A1_1 l1_1.length c1_1) l1_1) ∧ Aside0 (Kd.V (Kd.int .u32) 118 wc w.heap.size (fun k_ => ((P0_1_ k_ ∨ P0_2_ k_ ∨ P1_1_ k_ ∨ P1_2_ k_ ∨ P2_1_ k_ ∨ P2_2_ k_) ∨ w.heap.size ≤ k_) ∧ k_ ≠ gb101 ∧ k_ ≠ gb102 ∧ k_ ≠ gb103) (.slice A1_2 l1_2.length c1_2) l1_2) ∧ Aside0 (Kd.V (Kd.int .u32) 118 wc w.heap.size (fun k_ => ((P0_1_ k_ ∨ P0_2_ k_ ∨ P1_1_ k_ ∨ P1_2_ k_ ∨ P2_1_ k_ ∨ P2_2_ k_) ∨ w.heap.size ≤ k_) ∧ k_ ≠ gb101 ∧ k_ ≠ gb102 ∧ k_ ≠ gb103) (.slice A2_1 l2_1.length c2_1) l2_1) ∧ Aside0 (Kd.V (Kd.int .u32) 118 wc w.heap.size (fun k_ => ((P0_1_ k_ ∨ P0_2_ k_ ∨ P1_1_ k_ ∨ P1_2_ k_ ∨ P2_1_ k_ ∨ P2_2_ k_) ∨ w.heap.size ≤ k_) ∧ k_ ≠ gb101 ∧ k_ ≠ gb102 ∧ k_ ≠ gb103) (.slice A2_2 l2_2.length c2_2) l2_2) ∧ Aside0 (wc.heap[gb101]? = some (.cells #[.bool a0_0, (.slice A0_1 l0_1.length c0_1), (.slice A0_2 l0_2.length c0_2)] 69 (0, 0))) ∧ Aside0 (wc.heap[gb102]? = some (.cells #[.bool a1_0, (.slice A1_1 l1_1.length c1_1), (.slice A1_2 l1_2.length c1_2)] 69 (0, 0))) ∧ Aside0 (wc.heap[gb103]? = some (.cells #[.bool a2_0, (.slice A2_1 l2_1.length c2_1), (.slice A2_2 l2_2.length c2_2)] 69 (0, 0))) ∧ Aside0 (Below w.heap.size w wc))
     case first =>
      have H := HC52.out
      clear HC52
      replace H := bi H
      obtain ⟨⟨t139, t140, t143⟩, A53, H⟩ := H
      try dsimp only at H
      replace H := bi H
      obtain ⟨⟨t146, t147, t150⟩, A54, H⟩ := H
      try dsimp only at H
      replace H := bi H
      obtain ⟨⟨t153, t154, t157⟩, A55, H⟩ := H
      try dsimp only at H
      replace H := bi H
      obtain ⟨⟨t160, t161, t164⟩, A56, H⟩ := H
      try dsimp only at H
      replace H := bi H
      obtain ⟨t167, A57, H⟩ := H
      by_cases c58 : t167 = 0
      rotate_left
      ·rw [if_neg c58] at H
       obtain ⟨c58b0, c58b1⟩ := bqF c58
       (first | rw [c58b0] | (simp only [i64_w, i32_w]; rw [c58b0]) | skip)
       have H' := Aside0.mk H
       clear H
       try go_wp2
       replace HO_102001 := Aside0.mk (Kd.V_drew HO_102001.out)
       replace HO_102002 := Aside0.mk (Kd.V_drew HO_102002.out)
       replace HO_103001 := Aside0.mk (Kd.V_drew HO_103001.out)
       replace HO_103002 := Aside0.mk (Kd.V_drew HO_103002.out)
       replace HO_104001 := Aside0.mk (Kd.V_drew HO_104001.out)
       replace HO_104002 := Aside0.mk (Kd.V_drew HO_104002.out)
       replace BK101 := kd BK101
       replace BK102 := kd BK102
       replace BK103 := kd BK103
       replace HB := bd HB
       refine st (S := fun w' => B3 w' gb101 (.bool a0_0) (.slice A0_1 l0_1.length c0_1) (.slice A0_2 l0_2.length c0_2) ∧ B3 w' gb102 (.bool a1_0) (.slice A1_1 l1_1.length c1_1) (.slice A1_2 l1_2.length c1_2) ∧ B3 w' gb103 (.bool a2_0) (.slice A2_1 l2_1.length c2_1) (.slice A2_2 l2_2.length c2_2)) 27 [] (tf 0 27) ⟨b3 BK101, b3 BK102, b3 BK103⟩ (fun hHeld => ?_); refine with_tabW flyballlaw03_RatioField.tab8 flyballlaw03_RatioField.bits8 (fun HT_ HW_ => ?_)
       generalize wc.drew = w91 at HO_102001 HO_102002 HO_103001 HO_103002 HO_104001 HO_104002 BK101 BK102 BK103 HB hHeld ⊢
       refine tk 0 44 (tf 1 26) hHeld ?_
       refine tk 1 45 (tf 2 25) hHeld ?_
       refine tk 3 47 #[true, true, false, true, false, false, false, false, false, false, false, false, false, false, false, false, false, false, false, false, false, false, false, false, false, false, false] hHeld ?_
       refine tk 5 49 #[true, true, false, true, false, true, false, false, false, false, false, false, false, false, false, false, false, false, false, false, false, false, false, false, false, false, false] hHeld ?_
       refine tk 6 50 #[true, true, false, true, false, true, true, false, false, false, false, false, false, false, false, false, false, false, false, false, false, false, false, false, false, false, false] hHeld ?_
       refine tk 7 51 #[true, true, false, true, false, true, true, true, false, false, false, false, false, false, false, false, false, false, false, false, false, false, false, false, false, false, false] hHeld ?_
       refine on 2 (some 46) #[true, true, true, true, false, true, true, true, false, false, false, false, false, false, false, false, false, false, false, false, false, false, false, false, false, false, false] (fun K hK => ?_)
       refine gS Try.func86 #[.agg #[.bool a0_0, .slice A0_1 l0_1.length c0_1, .slice A0_2 l0_2.length c0_2], .agg #[.bool a1_0, .slice A1_1 l1_1.length c1_1, .slice A1_2 l1_2.length c1_2]] ?_
       with_reducible refine (ratio_R_Add.calls kj7 a0_0 (fun k_ => (((P0_1_ k_ ∨ P0_2_ k_ ∨ P1_1_ k_ ∨ P1_2_ k_ ∨ P2_1_ k_ ∨ P2_2_ k_) ∨ w.heap.size ≤ k_) ∧ (k_ ≠ gb101 ∧ (k_ ≠ gb102 ∧ k_ ≠ gb103)))) _ _ l0_1 (fun k_ => (((P0_1_ k_ ∨ P0_2_ k_ ∨ P1_1_ k_ ∨ P1_2_ k_ ∨ P2_1_ k_ ∨ P2_2_ k_) ∨ w.heap.size ≤ k_) ∧ (k_ ≠ gb101 ∧ (k_ ≠ gb102 ∧ k_ ≠ gb103)))) _ _ l0_2 a1_0 (fun k_ => (((P0_1_ k_ ∨ P0_2_ k_ ∨ P1_1_ k_ ∨ P1_2_ k_ ∨ P2_1_ k_ ∨ P2_2_ k_) ∨ w.heap.size ≤ k_) ∧ (k_ ≠ gb101 ∧ (k_ ≠ gb102 ∧ k_ ≠ gb103)))) _ _ l1_1 (fun k_ => (((P0_1_ k_ ∨ P0_2_ k_ ∨ P1_1_ k_ ∨ P1_2_ k_ ∨ P2_1_ k_ ∨ P2_2_ k_) ∨ w.heap.size ≤ k_) ∧ (k_ ≠ gb101 ∧ (k_ ≠ gb102 ∧ k_ ≠ gb103)))) _ _ l1_2 t139 t140 t143 _ ?_ ?_ ?_ ?_ A53.out).mono ?_
       exact HO_102001.out
       exact HO_102002.out
       exact HO_103001.out
       exact HO_103002.out
       rintro e w92 ⟨v141, v144, rfl, ho0, ho1, hb⟩
       refine ⟨_, rfl, ?_⟩
       replace HO_102001 := vA HO_102001 hb
       replace HO_102002 := vA HO_102002 hb
       replace HO_103001 := vA HO_103001 hb
       replace HO_103002 := vA HO_103002 hb
       replace HO_104001 := vA HO_104001 hb
       replace HO_104002 := vA HO_104002 hb
       have HO142 := lw HB (fun k_ => ((P0_1_ k_ ∨ P0_2_ k_ ∨ P1_1_ k_ ∨ P1_2_ k_ ∨ P2_1_ k_ ∨ P2_2_ k_) ∨ w.heap.size ≤ k_) ∧ k_ ≠ gb101 ∧ k_ ≠ gb102 ∧ k_ ≠ gb103) ho0 (fun k_ hk_ => Or.elim hk_ (fun hs_ => Or.elim hs_ id (fun hs_ => Or.elim hs_ id (fun hs_ => Or.elim hs_ id id))) (fun hn_ => ⟨.inr (Nat.le_trans (below_size hB) hn_), kF BK101 hn_, kF BK102 hn_, kF BK103 hn_⟩))
       have HO145 := lw HB (fun k_ => ((P0_1_ k_ ∨ P0_2_ k_ ∨ P1_1_ k_ ∨ P1_2_ k_ ∨ P2_1_ k_ ∨ P2_2_ k_) ∨ w.heap.size ≤ k_) ∧ k_ ≠ gb101 ∧ k_ ≠ gb102 ∧ k_ ≠ gb103) ho1 (fun k_ hk_ => Or.elim hk_ (fun hs_ => Or.elim hs_ id (fun hs_ => Or.elim hs_ id (fun hs_ => Or.elim hs_ id id))) (fun hn_ => ⟨.inr (Nat.le_trans (below_size hB) hn_), kF BK101 hn_, kF BK102 hn_, kF BK103 hn_⟩))
       replace BK101 := kA BK101 hb
       replace BK102 := kA BK102 hb
       replace BK103 := kA BK103 hb
       replace HB := bS HB hb
       clear hb ho0 ho1
       obtain ⟨Ao93, co93, eo93⟩ := Kd.V_slice HO142.out
       (first | subst eo93 | (injection eo93 with f1_ f2_ f3_; have f4_ := f1_.symm; have f5_ := f3_.symm; clear f1_ f2_ f3_; subst f4_; subst f5_))
       obtain ⟨Ao94, co94, eo94⟩ := Kd.V_slice HO145.out
       (first | subst eo94 | (injection eo94 with f1_ f2_ f3_; have f4_ := f1_.symm; have f5_ := f3_.symm; clear f1_ f2_ f3_; subst f4_; subst f5_))
       refine hK.out _ _ ⟨b3 BK101, b3 BK102, b3 BK103⟩ (fun hHeld => nm ?_)
       clear hK K
       refine on 4 (some 48) (tf 8 19) (fun K hK => ?_)
       refine gS Try.func86 #[.agg #[.bool t139, .slice Ao93 t140.length co93, .slice Ao94 t143.length co94], .agg #[.bool a2_0, .slice A2_1 l2_1.length c2_1, .slice A2_2 l2_2.length c2_2]] ?_
       with_reducible refine (ratio_R_Add.calls kj7 t139 (fun k_ => (((P0_1_ k_ ∨ P0_2_ k_ ∨ P1_1_ k_ ∨ P1_2_ k_ ∨ P2_1_ k_ ∨ P2_2_ k_) ∨ w.heap.size ≤ k_) ∧ (k_ ≠ gb101 ∧ (k_ ≠ gb102 ∧ k_ ≠ gb103)))) _ _ t140 (fun k_ => (((P0_1_ k_ ∨ P0_2_ k_ ∨ P1_1_ k_ ∨ P1_2_ k_ ∨ P2_1_ k_ ∨ P2_2_ k_) ∨ w.heap.size ≤ k_) ∧ (k_ ≠ gb101 ∧ (k_ ≠ gb102 ∧ k_ ≠ gb103)))) _ _ t143 a2_0 (fun k_ => (((P0_1_ k_ ∨ P0_2_ k_ ∨ P1_1_ k_ ∨ P1_2_ k_ ∨ P2_1_ k_ ∨ P2_2_ k_) ∨ w.heap.size ≤ k_) ∧ (k_ ≠ gb101 ∧ (k_ ≠ gb102 ∧ k_ ≠ gb103)))) _ _ l2_1 (fun k_ => (((P0_1_ k_ ∨ P0_2_ k_ ∨ P1_1_ k_ ∨ P1_2_ k_ ∨ P2_1_ k_ ∨ P2_2_ k_) ∨ w.heap.size ≤ k_) ∧ (k_ ≠ gb101 ∧ (k_ ≠ gb102 ∧ k_ ≠ gb103)))) _ _ l2_2 t146 t147 t150 _ ?_ ?_ ?_ ?_ A54.out).mono ?_
       exact HO142.out
       exact HO145.out
       exact HO_104001.out
       exact HO_104002.out
       rintro e w95 ⟨v148, v151, rfl, ho0, ho1, hb⟩
       refine ⟨_, rfl, ?_⟩
       replace HO_102001 := vA HO_102001 hb
       replace HO_102002 := vA HO_102002 hb
       replace HO_103001 := vA HO_103001 hb
       replace HO_103002 := vA HO_103002 hb
       replace HO_104001 := vA HO_104001 hb
       replace HO_104002 := vA HO_104002 hb
       replace HO142 := vA HO142 hb
       replace HO145 := vA HO145 hb
       have HO149 := lw HB (fun k_ => ((P0_1_ k_ ∨ P0_2_ k_ ∨ P1_1_ k_ ∨ P1_2_ k_ ∨ P2_1_ k_ ∨ P2_2_ k_) ∨ w.heap.size ≤ k_) ∧ k_ ≠ gb101 ∧ k_ ≠ gb102 ∧ k_ ≠ gb103) ho0 (fun k_ hk_ => Or.elim hk_ (fun hs_ => Or.elim hs_ id (fun hs_ => Or.elim hs_ id (fun hs_ => Or.elim hs_ id id))) (fun hn_ => ⟨.inr (Nat.le_trans (below_size hB) hn_), kF BK101 hn_, kF BK102 hn_, kF BK103 hn_⟩))
       have HO152 := lw HB (fun k_ => ((P0_1_ k_ ∨ P0_2_ k_ ∨ P1_1_ k_ ∨ P1_2_ k_ ∨ P2_1_ k_ ∨ P2_2_ k_) ∨ w.heap.size ≤ k_) ∧ k_ ≠ gb101 ∧ k_ ≠ gb102 ∧ k_ ≠ gb103) ho1 (fun k_ hk_ => Or.elim hk_ (fun hs_ => Or.elim hs_ id (fun hs_ => Or.elim hs_ id (fun hs_ => Or.elim hs_ id id))) (fun hn_ => ⟨.inr (Nat.le_trans (below_size hB) hn_), kF BK101 hn_, kF BK102 hn_, kF BK103 hn_⟩))
       replace BK101 := kA BK101 hb
       replace BK102 := kA BK102 hb
       replace BK103 := kA BK103 hb
       replace HB := bS HB hb
       clear hb ho0 ho1
       refine hK.out _ _ ⟨b3 BK101, b3 BK102, b3 BK103⟩ (fun hHeld => nm ?_)
       clear hK K
       refine on 8 (some 52) (tf 9 18) (fun K hK => ?_)
       refine gS Try.func86 #[.agg #[.bool a1_0, .slice A1_1 l1_1.length c1_1, .slice A1_2 l1_2.length c1_2], .agg #[.bool a2_0, .slice A2_1 l2_1.length c2_1, .slice A2_2 l2_2.length c2_2]] ?_
       with_reducible refine (ratio_R_Add.calls kj7 a1_0 (fun k_ => (((P0_1_ k_ ∨ P0_2_ k_ ∨ P1_1_ k_ ∨ P1_2_ k_ ∨ P2_1_ k_ ∨ P2_2_ k_) ∨ w.heap.size ≤ k_) ∧ (k_ ≠ gb101 ∧ (k_ ≠ gb102 ∧ k_ ≠ gb103)))) _ _ l1_1 (fun k_ => (((P0_1_ k_ ∨ P0_2_ k_ ∨ P1_1_ k_ ∨ P1_2_ k_ ∨ P2_1_ k_ ∨ P2_2_ k_) ∨ w.heap.size ≤ k_) ∧ (k_ ≠ gb101 ∧ (k_ ≠ gb102 ∧ k_ ≠ gb103)))) _ _ l1_2 a2_0 (fun k_ => (((P0_1_ k_ ∨ P0_2_ k_ ∨ P1_1_ k_ ∨ P1_2_ k_ ∨ P2_1_ k_ ∨ P2_2_ k_) ∨ w.heap.size ≤ k_) ∧ (k_ ≠ gb101 ∧ (k_ ≠ gb102 ∧ k_ ≠ gb103)))) _ _ l2_1 (fun k_ => (((P0_1_ k_ ∨ P0_2_ k_ ∨ P1_1_ k_ ∨ P1_2_ k_ ∨ P2_1_ k_ ∨ P2_2_ k_) ∨ w.heap.size ≤ k_) ∧ (k_ ≠ gb101 ∧ (k_ ≠ gb102 ∧ k_ ≠ gb103)))) _ _ l2_2 t153 t154 t157 _ ?_ ?_ ?_ ?_ A55.out).mono ?_
       exact HO_103001.out
       exact HO_103002.out
       exact HO_104001.out
       exact HO_104002.out
       rintro e w96 ⟨v155, v158, rfl, ho0, ho1, hb⟩
       refine ⟨_, rfl, ?_⟩
       replace HO_102001 := vA HO_102001 hb
       replace HO_102002 := vA HO_102002 hb
       replace HO_103001 := vA HO_103001 hb
       replace HO_103002 := vA HO_103002 hb
       replace HO_104001 := vA HO_104001 hb
       replace HO_104002 := vA HO_104002 hb
       replace HO142 := vA HO142 hb
       replace HO145 := vA HO145 hb
       replace HO149 := vA HO149 hb
       replace HO152 := vA HO152 hb
       have HO156 := lw HB (fun k_ => ((P0_1_ k_ ∨ P0_2_ k_ ∨ P1_1_ k_ ∨ P1_2_ k_ ∨ P2_1_ k_ ∨ P2_2_ k_) ∨ w.heap.size ≤ k_) ∧ k_ ≠ gb101 ∧ k_ ≠ gb102 ∧ k_ ≠ gb103) ho0 (fun k_ hk_ => Or.elim hk_ (fun hs_ => Or.elim hs_ id (fun hs_ => Or.elim hs_ id (fun hs_ => Or.elim hs_ id id))) (fun hn_ => ⟨.inr (Nat.le_trans (below_size hB) hn_), kF BK101 hn_, kF BK102 hn_, kF BK103 hn_⟩))
       have HO159 := lw HB (fun k_ => ((P0_1_ k_ ∨ P0_2_ k_ ∨ P1_1_ k_ ∨ P1_2_ k_ ∨ P2_1_ k_ ∨ P2_2_ k_) ∨ w.heap.size ≤ k_) ∧ k_ ≠ gb101 ∧ k_ ≠ gb102 ∧ k_ ≠ gb103) ho1 (fun k_ hk_ => Or.elim hk_ (fun hs_ => Or.elim hs_ id (fun hs_ => Or.elim hs_ id (fun hs_ => Or.elim hs_ id id))) (fun hn_ => ⟨.inr (Nat.le_trans (below_size hB) hn_), kF BK101 hn_, kF BK102 hn_, kF BK103 hn_⟩))
       replace BK101 := kA BK101 hb
       replace BK102 := kA BK102 hb
       replace BK103 := kA BK103 hb
       replace HB := bS HB hb
       clear hb ho0 ho1
       obtain ⟨Ao97, co97, eo97⟩ := Kd.V_slice HO156.out
       (first | subst eo97 | (injection eo97 with f1_ f2_ f3_; have f4_ := f1_.symm; have f5_ := f3_.symm; clear f1_ f2_ f3_; subst f4_; subst f5_))
       obtain ⟨Ao98, co98, eo98⟩ := Kd.V_slice HO159.out
       (first | subst eo98 | (injection eo98 with f1_ f2_ f3_; have f4_ := f1_.symm; have f5_ := f3_.symm; clear f1_ f2_ f3_; subst f4_; subst f5_))
       refine hK.out _ _ ⟨b3 BK101, b3 BK102, b3 BK103⟩ (fun hHeld => nm ?_)
       clear hK K
       refine on 9 (some 53) (tf 10 17) (fun K hK => ?_)
       refine gS Try.func86 #[.agg #[.bool a0_0, .slice A0_1 l0_1.length c0_1, .slice A0_2 l0_2.length c0_2], .agg #[.bool t153, .slice Ao97 t154.length co97, .slice Ao98 t157.length co98]] ?_
       with_reducible refine (ratio_R_Add.calls kj7 a0_0 (fun k_ => (((P0_1_ k_ ∨ P0_2_ k_ ∨ P1_1_ k_ ∨ P1_2_ k_ ∨ P2_1_ k_ ∨ P2_2_ k_) ∨ w.heap.size ≤ k_) ∧ (k_ ≠ gb101 ∧ (k_ ≠ gb102 ∧ k_ ≠ gb103)))) _ _ l0_1 (fun k_ => (((P0_1_ k_ ∨ P0_2_ k_ ∨ P1_1_ k_ ∨ P1_2_ k_ ∨ P2_1_ k_ ∨ P2_2_ k_) ∨ w.heap.size ≤ k_) ∧ (k_ ≠ gb101 ∧ (k_ ≠ gb102 ∧ k_ ≠ gb103)))) _ _ l0_2 t153 (fun k_ => (((P0_1_ k_ ∨ P0_2_ k_ ∨ P1_1_ k_ ∨ P1_2_ k_ ∨ P2_1_ k_ ∨ P2_2_ k_) ∨ w.heap.size ≤ k_) ∧ (k_ ≠ gb101 ∧ (k_ ≠ gb102 ∧ k_ ≠ gb103)))) _ _ t154 (fun k_ => (((P0_1_ k_ ∨ P0_2_ k_ ∨ P1_1_ k_ ∨ P1_2_ k_ ∨ P2_1_ k_ ∨ P2_2_ k_) ∨ w.heap.size ≤ k_) ∧ (k_ ≠ gb101 ∧ (k_ ≠ gb102 ∧ k_ ≠ gb103)))) _ _ t157 t160 t161 t164 _ ?_ ?_ ?_ ?_ A56.out).mono ?_
       exact HO_102001.out
       exact HO_102002.out
       exact HO156.out
       exact HO159.out
       rintro e w99 ⟨v162, v165, rfl, ho0, ho1, hb⟩
       refine ⟨_, rfl, ?_⟩
       replace HO_102001 := vA HO_102001 hb
       replace HO_102002 := vA HO_102002 hb
       replace HO_103001 := vA HO_103001 hb
       replace HO_103002 := vA HO_103002 hb
       replace HO_104001 := vA HO_104001 hb
       replace HO_104002 := vA HO_104002 hb
       replace HO142 := vA HO142 hb
       replace HO145 := vA HO145 hb
       replace HO149 := vA HO149 hb
       replace HO152 := vA HO152 hb
       replace HO156 := vA HO156 hb
       replace HO159 := vA HO159 hb
       have HO163 := lw HB (fun k_ => ((P0_1_ k_ ∨ P0_2_ k_ ∨ P1_1_ k_ ∨ P1_2_ k_ ∨ P2_1_ k_ ∨ P2_2_ k_) ∨ w.heap.size ≤ k_) ∧ k_ ≠ gb101 ∧ k_ ≠ gb102 ∧ k_ ≠ gb103) ho0 (fun k_ hk_ => Or.elim hk_ (fun hs_ => Or.elim hs_ id (fun hs_ => Or.elim hs_ id (fun hs_ => Or.elim hs_ id id))) (fun hn_ => ⟨.inr (Nat.le_trans (below_size hB) hn_), kF BK101 hn_, kF BK102 hn_, kF BK103 hn_⟩))
       have HO166 := lw HB (fun k_ => ((P0_1_ k_ ∨ P0_2_ k_ ∨ P1_1_ k_ ∨ P1_2_ k_ ∨ P2_1_ k_ ∨ P2_2_ k_) ∨ w.heap.size ≤ k_) ∧ k_ ≠ gb101 ∧ k_ ≠ gb102 ∧ k_ ≠ gb103) ho1 (fun k_ hk_ => Or.elim hk_ (fun hs_ => Or.elim hs_ id (fun hs_ => Or.elim hs_ id (fun hs_ => Or.elim hs_ id id))) (fun hn_ => ⟨.inr (Nat.le_trans (below_size hB) hn_), kF BK101 hn_, kF BK102 hn_, kF BK103 hn_⟩))
       replace BK101 := kA BK101 hb
       replace BK102 := kA BK102 hb
       replace BK103 := kA BK103 hb
       replace HB := bS HB hb
       clear hb ho0 ho1
       obtain ⟨Ao100, co100, eo100⟩ := Kd.V_slice HO149.out
       (first | subst eo100 | (injection eo100 with f1_ f2_ f3_; have f4_ := f1_.symm; have f5_ := f3_.symm; clear f1_ f2_ f3_; subst f4_; subst f5_))
       obtain ⟨Ao101, co101, eo101⟩ := Kd.V_slice HO152.out
       (first | subst eo101 | (injection eo101 with f1_ f2_ f3_; have f4_ := f1_.symm; have f5_ := f3_.symm; clear f1_ f2_ f3_; subst f4_; subst f5_))
       obtain ⟨Ao102, co102, eo102⟩ := Kd.V_slice HO163.out
       (first | subst eo102 | (injection eo102 with f1_ f2_ f3_; have f4_ := f1_.symm; have f5_ := f3_.symm; clear f1_ f2_ f3_; subst f4_; subst f5_))
       obtain ⟨Ao103, co103, eo103⟩ := Kd.V_slice HO166.out
       (first | subst eo103 | (injection eo103 with f1_ f2_ f3_; have f4_ := f1_.symm; have f5_ := f3_.symm; clear f1_ f2_ f3_; subst f4_; subst f5_))
       refine hK.out _ _ ⟨b3 BK101, b3 BK102, b3 BK103⟩ (fun hHeld => nm ?_)
       clear hK K
       refine on 10 (some 54) (tf 11 16) (fun K hK => ?_)
       refine gS Try.func58 #[.agg #[.bool t146, .slice Ao100 t147.length co100, .slice Ao101 t150.length co101], .agg #[.bool t160, .slice Ao102 t161.length co102, .slice Ao103 t164.length co103]] ?_
       with_reducible refine (ratio_R_Cmp.calls kj7 t146 _ _ t147 _ _ t150 t160 _ _ t161 _ _ t164 t167 _ ?_ ?_ ?_ ?_ ?_ ?_ ?_ ?_ A57.out).mono ?_
       exact cup ((Kd.V_reads' HO149.out).2.2)
       exact (Kd.V_reads' HO149.out).2.1
       exact cup ((Kd.V_reads' HO152.out).2.2)
       exact (Kd.V_reads' HO152.out).2.1
       exact cup ((Kd.V_reads' HO163.out).2.2)
       exact (Kd.V_reads' HO163.out).2.1
       exact cup ((Kd.V_reads' HO166.out).2.2)
       exact (Kd.V_reads' HO166.out).2.1
       rintro e w104 ⟨rfl, hb⟩
       refine ⟨_, rfl, ?_⟩
       replace HO_102001 := vA HO_102001 hb
       replace HO_102002 := vA HO_102002 hb
       replace HO_103001 := vA HO_103001 hb
       replace HO_103002 := vA HO_103002 hb
       replace HO_104001 := vA HO_104001 hb
       replace HO_104002 := vA HO_104002 hb
       replace HO142 := vA HO142 hb
       replace HO145 := vA HO145 hb
       replace HO149 := vA HO149 hb
       replace HO152 := vA HO152 hb
       replace HO156 := vA HO156 hb
       replace HO159 := vA HO159 hb
       replace HO163 := vA HO163 hb
       replace HO166 := vA HO166 hb
       replace BK101 := kA BK101 hb
       replace BK102 := kA BK102 hb
       replace BK103 := kA BK103 hb
       replace HB := bS HB hb
       clear hb
       refine hK.out _ _ ⟨b3 BK101, b3 BK102, b3 BK103⟩ (fun hHeld => nm ?_)
       clear hK K
       refine pu 11 55 (tf 12 15) ?_
       refine pu 12 56 (tf 13 14) ?_
       refine pure_ (i := 13) (N := some 57) (v := undef) (a' := ?_) (tf 14 13) rfl rfl (any_of HT_.out (by kernel_rfl)) (fun _ _ _ h => h) (Or.inr ⟨by rfl, rfl⟩) ?_ ?_
       rotate_left
       ·simp only [Act.put, List.setIfInBounds_toArray, List.set_cons_zero, List.set_cons_succ, i64_w, i32_w]
        rfl
       refine pure_ (i := 14) (N := some 58) (v := undef) (a' := ?_) (tf 15 12) rfl rfl (any_of HT_.out (by kernel_rfl)) (fun _ _ _ h => h) (Or.inr ⟨by rfl, rfl⟩) ?_ ?_
       rotate_left
       ·simp only [Act.put, List.setIfInBounds_toArray, List.set_cons_zero, List.set_cons_succ, i64_w, i32_w]
        rfl
       refine pure_ (i := 15) (N := some 59) (v := undef) (a' := ?_) (tf 16 11) rfl rfl (any_of HT_.out (by kernel_rfl)) (fun _ _ _ h => h) (Or.inr ⟨by rfl, rfl⟩) ?_ ?_
       rotate_left
       ·simp only [Act.put, List.setIfInBounds_toArray, List.set_cons_zero, List.set_cons_succ, i64_w, i32_w]
        rfl
       refine pure_ (i := 16) (N := some 60) (v := undef) (a' := ?_) (tf 17 10) rfl rfl (any_of HT_.out (by kernel_rfl)) (fun _ _ _ h => h) (Or.inr ⟨by rfl, rfl⟩) ?_ ?_
       rotate_left
       ·simp only [Act.put, List.setIfInBounds_toArray, List.set_cons_zero, List.set_cons_succ, i64_w, i32_w]
        rfl
       refine pure_ (i := 17) (N := some 61) (v := undef) (a' := ?_) (tf 18 9) rfl rfl (any_of HT_.out (by kernel_rfl)) (fun _ _ _ h => h) (Or.inr ⟨by rfl, rfl⟩) ?_ ?_
       rotate_left
       ·simp only [Act.put, List.setIfInBounds_toArray, List.set_cons_zero, List.set_cons_succ, i64_w, i32_w]
        rfl
       refine pure_ (i := 18) (N := some 62) (v := undef) (a' := ?_) (tf 19 8) rfl rfl (any_of HT_.out (by kernel_rfl)) (fun _ _ _ h => h) (Or.inr ⟨by rfl, rfl⟩) ?_ ?_
       rotate_left
       ·simp only [Act.put, List.setIfInBounds_toArray, List.set_cons_zero, List.set_cons_succ, i64_w, i32_w]
        rfl
       refine pure_ (i := 19) (N := some 63) (v := undef) (a' := ?_) (tf 20 7) rfl rfl (any_of HT_.out (by kernel_rfl)) (fun _ _ _ h => h) (Or.inr ⟨by rfl, rfl⟩) ?_ ?_
       rotate_left
       ·simp only [Act.put, List.setIfInBounds_toArray, List.set_cons_zero, List.set_cons_succ, i64_w, i32_w]
        rfl
       refine pure_ (i := 20) (N := some 64) (v := undef) (a' := ?_) (tf 21 6) rfl rfl (any_of HT_.out (by kernel_rfl)) (fun _ _ _ h => h) (Or.inr ⟨by rfl, rfl⟩) ?_ ?_
       rotate_left
       ·simp only [Act.put, List.setIfInBounds_toArray, List.set_cons_zero, List.set_cons_succ, i64_w, i32_w]
        rfl
       refine pure_ (i := 21) (N := some 65) (v := undef) (a' := ?_) (tf 22 5) rfl rfl (any_of HT_.out (by kernel_rfl)) (fun _ _ _ h => h) (Or.inr ⟨by rfl, rfl⟩) ?_ ?_
       rotate_left
       ·simp only [Act.put, List.setIfInBounds_toArray, List.set_cons_zero, List.set_cons_succ, i64_w, i32_w]
        rfl
       refine pure_ (i := 22) (N := some 66) (v := undef) (a' := ?_) (tf 23 4) rfl rfl (any_of HT_.out (by kernel_rfl)) (fun _ _ _ h => h) (Or.inr ⟨by rfl, rfl⟩) ?_ ?_
       rotate_left
       ·simp only [Act.put, List.setIfInBounds_toArray, List.set_cons_zero, List.set_cons_succ, i64_w, i32_w]
        rfl
       refine pure_ (i := 23) (N := some 67) (v := undef) (a' := ?_) (tf 24 3) rfl rfl (any_of HT_.out (by kernel_rfl)) (fun _ _ _ h => h) (Or.inr ⟨by rfl, rfl⟩) ?_ ?_
       rotate_left
       ·simp only [Act.put, List.setIfInBounds_toArray, List.set_cons_zero, List.set_cons_succ, i64_w, i32_w]
        rfl
       refine pure_ (i := 24) (N := some 68) (v := undef) (a' := ?_) (tf 25 2) rfl rfl (any_of HT_.out (by kernel_rfl)) (fun _ _ _ h => h) (Or.inr ⟨by rfl, rfl⟩) ?_ ?_
       rotate_left
       ·simp only [Act.put, List.setIfInBounds_toArray, List.set_cons_zero, List.set_cons_succ, i64_w, i32_w]
        rfl
       refine pu 25 69 (tf 26 1) ?_
       refine pu 26 10 (tf 27 0) ?_
       refine done_ (done_of HT_.out (by kernel_rfl)) ?_
       try go_wp2
       go_meet
       case rel => exact ⟨_, (false), rS, H', ⟨by have := HJ7.out; first | omega | exact Nat.le_refl _⟩, ⟨vup HO_102001.out⟩, ⟨vup HO_102002.out⟩, ⟨vup HO_103001.out⟩, ⟨vup HO_103002.out⟩, ⟨vup HO_104001.out⟩, ⟨vup HO_104002.out⟩, ⟨by exact kU BK101⟩, ⟨by exact kU BK102⟩, ⟨by exact kU BK103⟩, ⟨hB⟩⟩
      rw [if_pos c58] at H
      obtain ⟨c58b0, c58b1⟩ := bqT c58
      clear c58
      (first | rw [c58b0] | (simp only [i64_w, i32_w]; rw [c58b0]) | skip)
      replace H := bi H
      obtain ⟨⟨t168, t169, t172⟩, A59, H⟩ := H
      try dsimp only at H
      replace H := bi H
      obtain ⟨⟨t175, t176, t179⟩, A60, H⟩ := H
      try dsimp only at H
      replace H := bi H
      obtain ⟨⟨t182, t183, t186⟩, A61, H⟩ := H
      try dsimp only at H
      replace H := bi H
      obtain ⟨⟨t189, t190, t193⟩, A62, H⟩ := H
      try dsimp only at H
      replace H := bi H
      obtain ⟨t196, A63, H⟩ := H
      have H' := Aside0.mk H
      clear H
      try go_wp2
      replace HO_102001 := Aside0.mk (Kd.V_drew HO_102001.out)
      replace HO_102002 := Aside0.mk (Kd.V_drew HO_102002.out)
      replace HO_103001 := Aside0.mk (Kd.V_drew HO_103001.out)
      replace HO_103002 := Aside0.mk (Kd.V_drew HO_103002.out)
      replace HO_104001 := Aside0.mk (Kd.V_drew HO_104001.out)
      replace HO_104002 := Aside0.mk (Kd.V_drew HO_104002.out)
      replace BK101 := kd BK101
      replace BK102 := kd BK102
      replace BK103 := kd BK103
      replace HB := bd HB
      refine st (S := fun w' => B3 w' gb101 (.bool a0_0) (.slice A0_1 l0_1.length c0_1) (.slice A0_2 l0_2.length c0_2) ∧ B3 w' gb102 (.bool a1_0) (.slice A1_1 l1_1.length c1_1) (.slice A1_2 l1_2.length c1_2) ∧ B3 w' gb103 (.bool a2_0) (.slice A2_1 l2_1.length c2_1) (.slice A2_2 l2_2.length c2_2)) 27 [] (tf 0 27) ⟨b3 BK101, b3 BK102, b3 BK103⟩ (fun hHeld => ?_); refine with_tabW flyballlaw03_RatioField.tab8 flyballlaw03_RatioField.bits8 (fun HT_ HW_ => ?_)
      generalize wc.drew = w64 at HO_102001 HO_102002 HO_103001 HO_103002 HO_104001 HO_104002 BK101 BK102 BK103 HB hHeld ⊢
      refine tk 0 44 (tf 1 26) hHeld ?_
      refine tk 1 45 (tf 2 25) hHeld ?_
      refine tk 3 47 #[true, true, false, true, false, false, false, false, false, false, false, false, false, false, false, false, false, false, false, false, false, false, false, false, false, false, false] hHeld ?_
      refine tk 5 49 #[true, true, false, true, false, true, false, false, false, false, false, false, false, false, false, false, false, false, false, false, false, false, false, false, false, false, false] hHeld ?_
      refine tk 6 50 #[true, true, false, true, false, true, true, false, false, false, false, false, false, false, false, false, false, false, false, false, false, false, false, false, false, false, false] hHeld ?_
      refine tk 7 51 #[true, true, false, true, false, true, true, true, false, false, false, false, false, false, false, false, false, false, false, false, false, false, false, false, false, false, false] hHeld ?_
      refine on 2 (some 46) #[true, true, true, true, false, true, true, true, false, false, false, false, false, false, false, false, false, false, false, false, false, false, false, false, false, false, false] (fun K hK => ?_)
      refine gS Try.func86 #[.agg #[.bool a0_0, .slice A0_1 l0_1.length c0_1, .slice A0_2 l0_2.length c0_2], .agg #[.bool a1_0, .slice A1_1 l1_1.length c1_1, .slice A1_2 l1_2.length c1_2]] ?_
      with_reducible refine (ratio_R_Add.calls kj7 a0_0 (fun k_ => (((P0_1_ k_ ∨ P0_2_ k_ ∨ P1_1_ k_ ∨ P1_2_ k_ ∨ P2_1_ k_ ∨ P2_2_ k_) ∨ w.heap.size ≤ k_) ∧ (k_ ≠ gb101 ∧ (k_ ≠ gb102 ∧ k_ ≠ gb103)))) _ _ l0_1 (fun k_ => (((P0_1_ k_ ∨ P0_2_ k_ ∨ P1_1_ k_ ∨ P1_2_ k_ ∨ P2_1_ k_ ∨ P2_2_ k_) ∨ w.heap.size ≤ k_) ∧ (k_ ≠ gb101 ∧ (k_ ≠ gb102 ∧ k_ ≠ gb103)))) _ _ l0_2 a1_0 (fun k_ => (((P0_1_ k_ ∨ P0_2_ k_ ∨ P1_1_ k_ ∨ P1_2_ k_ ∨ P2_1_ k_ ∨ P2_2_ k_) ∨ w.heap.size ≤ k_) ∧ (k_ ≠ gb101 ∧ (k_ ≠ gb102 ∧ k_ ≠ gb103)))) _ _ l1_1 (fun k_ => (((P0_1_ k_ ∨ P0_2_ k_ ∨ P1_1_ k_ ∨ P1_2_ k_ ∨ P2_1_ k_ ∨ P2_2_ k_) ∨ w.heap.size ≤ k_) ∧ (k_ ≠ gb101 ∧ (k_ ≠ gb102 ∧ k_ ≠ gb103)))) _ _ l1_2 t139 t140 t143 _ ?_ ?_ ?_ ?_ A53.out).mono ?_
      exact HO_102001.out
      exact HO_102002.out
      exact HO_103001.out
      exact HO_103002.out
      rintro e w65 ⟨v141, v144, rfl, ho0, ho1, hb⟩
      refine ⟨_, rfl, ?_⟩
      replace HO_102001 := vA HO_102001 hb
      replace HO_102002 := vA HO_102002 hb
      replace HO_103001 := vA HO_103001 hb
      replace HO_103002 := vA HO_103002 hb
      replace HO_104001 := vA HO_104001 hb
      replace HO_104002 := vA HO_104002 hb
      have HO142 := lw HB (fun k_ => ((P0_1_ k_ ∨ P0_2_ k_ ∨ P1_1_ k_ ∨ P1_2_ k_ ∨ P2_1_ k_ ∨ P2_2_ k_) ∨ w.heap.size ≤ k_) ∧ k_ ≠ gb101 ∧ k_ ≠ gb102 ∧ k_ ≠ gb103) ho0 (fun k_ hk_ => Or.elim hk_ (fun hs_ => Or.elim hs_ id (fun hs_ => Or.elim hs_ id (fun hs_ => Or.elim hs_ id id))) (fun hn_ => ⟨.inr (Nat.le_trans (below_size hB) hn_), kF BK101 hn_, kF BK102 hn_, kF BK103 hn_⟩))
      have HO145 := lw HB (fun k_ => ((P0_1_ k_ ∨ P0_2_ k_ ∨ P1_1_ k_ ∨ P1_2_ k_ ∨ P2_1_ k_ ∨ P2_2_ k_) ∨ w.heap.size ≤ k_) ∧ k_ ≠ gb101 ∧ k_ ≠ gb102 ∧ k_ ≠ gb103) ho1 (fun k_ hk_ => Or.elim hk_ (fun hs_ => Or.elim hs_ id (fun hs_ => Or.elim hs_ id (fun hs_ => Or.elim hs_ id id))) (fun hn_ => ⟨.inr (Nat.le_trans (below_size hB) hn_), kF BK101 hn_, kF BK102 hn_, kF BK103 hn_⟩))
      replace BK101 := kA BK101 hb
      replace BK102 := kA BK102 hb
      replace BK103 := kA BK103 hb
      replace HB := bS HB hb
      clear hb ho0 ho1
      obtain ⟨Ao66, co66, eo66⟩ := Kd.V_slice HO142.out
      (first | subst eo66 | (injection eo66 with f1_ f2_ f3_; have f4_ := f1_.symm; have f5_ := f3_.symm; clear f1_ f2_ f3_; subst f4_; subst f5_))
      obtain ⟨Ao67, co67, eo67⟩ := Kd.V_slice HO145.out
      (first | subst eo67 | (injection eo67 with f1_ f2_ f3_; have f4_ := f1_.symm; have f5_ := f3_.symm; clear f1_ f2_ f3_; subst f4_; subst f5_))
      refine hK.out _ _ ⟨b3 BK101, b3 BK102, b3 BK103⟩ (fun hHeld => nm ?_)
      clear hK K
      refine on 4 (some 48) (tf 8 19) (fun K hK => ?_)
      refine gS Try.func86 #[.agg #[.bool t139, .slice Ao66 t140.length co66, .slice Ao67 t143.length co67], .agg #[.bool a2_0, .slice A2_1 l2_1.length c2_1, .slice A2_2 l2_2.length c2_2]] ?_
      with_reducible refine (ratio_R_Add.calls kj7 t139 (fun k_ => (((P0_1_ k_ ∨ P0_2_ k_ ∨ P1_1_ k_ ∨ P1_2_ k_ ∨ P2_1_ k_ ∨ P2_2_ k_) ∨ w.heap.size ≤ k_) ∧ (k_ ≠ gb101 ∧ (k_ ≠ gb102 ∧ k_ ≠ gb103)))) _ _ t140 (fun k_ => (((P0_1_ k_ ∨ P0_2_ k_ ∨ P1_1_ k_ ∨ P1_2_ k_ ∨ P2_1_ k_ ∨ P2_2_ k_) ∨ w.heap.size ≤ k_) ∧ (k_ ≠ gb101 ∧ (k_ ≠ gb102 ∧ k_ ≠ gb103)))) _ _ t143 a2_0 (fun k_ => (((P0_1_ k_ ∨ P0_2_ k_ ∨ P1_1_ k_ ∨ P1_2_ k_ ∨ P2_1_ k_ ∨ P2_2_ k_) ∨ w.heap.size ≤ k_) ∧ (k_ ≠ gb101 ∧ (k_ ≠ gb102 ∧ k_ ≠ gb103)))) _ _ l2_1 (fun k_ => (((P0_1_ k_ ∨ P0_2_ k_ ∨ P1_1_ k_ ∨ P1_2_ k_ ∨ P2_1_ k_ ∨ P2_2_ k_) ∨ w.heap.size ≤ k_) ∧ (k_ ≠ gb101 ∧ (k_ ≠ gb102 ∧ k_ ≠ gb103)))) _ _ l2_2 t146 t147 t150 _ ?_ ?_ ?_ ?_ A54.out).mono ?_
      exact HO142.out
      exact HO145.out
      exact HO_104001.out
      exact HO_104002.out
      rintro e w68 ⟨v148, v151, rfl, ho0, ho1, hb⟩
      refine ⟨_, rfl, ?_⟩
      replace HO_102001 := vA HO_102001 hb
      replace HO_102002 := vA HO_102002 hb
      replace HO_103001 := vA HO_103001 hb
      replace HO_103002 := vA HO_103002 hb
      replace HO_104001 := vA HO_104001 hb
      replace HO_104002 := vA HO_104002 hb
      replace HO142 := vA HO142 hb
      replace HO145 := vA HO145 hb
      have HO149 := lw HB (fun k_ => ((P0_1_ k_ ∨ P0_2_ k_ ∨ P1_1_ k_ ∨ P1_2_ k_ ∨ P2_1_ k_ ∨ P2_2_ k_) ∨ w.heap.size ≤ k_) ∧ k_ ≠ gb101 ∧ k_ ≠ gb102 ∧ k_ ≠ gb103) ho0 (fun k_ hk_ => Or.elim hk_ (fun hs_ => Or.elim hs_ id (fun hs_ => Or.elim hs_ id (fun hs_ => Or.elim hs_ id id))) (fun hn_ => ⟨.inr (Nat.le_trans (below_size hB) hn_), kF BK101 hn_, kF BK102 hn_, kF BK103 hn_⟩))
      have HO152 := lw HB (fun k_ => ((P0_1_ k_ ∨ P0_2_ k_ ∨ P1_1_ k_ ∨ P1_2_ k_ ∨ P2_1_ k_ ∨ P2_2_ k_) ∨ w.heap.size ≤ k_) ∧ k_ ≠ gb101 ∧ k_ ≠ gb102 ∧ k_ ≠ gb103) ho1 (fun k_ hk_ => Or.elim hk_ (fun hs_ => Or.elim hs_ id (fun hs_ => Or.elim hs_ id (fun hs_ => Or.elim hs_ id id))) (fun hn_ => ⟨.inr (Nat.le_trans (below_size hB) hn_), kF BK101 hn_, kF BK102 hn_, kF BK103 hn_⟩))
      replace BK101 := kA BK101 hb
      replace BK102 := kA BK102 hb
      replace BK103 := kA BK103 hb
      replace HB := bS HB hb
      clear hb ho0 ho1
      refine hK.out _ _ ⟨b3 BK101, b3 BK102, b3 BK103⟩ (fun hHeld => nm ?_)
      clear hK K
      refine on 8 (some 52) (tf 9 18) (fun K hK => ?_)
      refine gS Try.func86 #[.agg #[.bool a1_0, .slice A1_1 l1_1.length c1_1, .slice A1_2 l1_2.length c1_2], .agg #[.bool a2_0, .slice A2_1 l2_1.length c2_1, .slice A2_2 l2_2.length c2_2]] ?_
      with_reducible refine (ratio_R_Add.calls kj7 a1_0 (fun k_ => (((P0_1_ k_ ∨ P0_2_ k_ ∨ P1_1_ k_ ∨ P1_2_ k_ ∨ P2_1_ k_ ∨ P2_2_ k_) ∨ w.heap.size ≤ k_) ∧ (k_ ≠ gb101 ∧ (k_ ≠ gb102 ∧ k_ ≠ gb103)))) _ _ l1_1 (fun k_ => (((P0_1_ k_ ∨ P0_2_ k_ ∨ P1_1_ k_ ∨ P1_2_ k_ ∨ P2_1_ k_ ∨ P2_2_ k_) ∨ w.heap.size ≤ k_) ∧ (k_ ≠ gb101 ∧ (k_ ≠ gb102 ∧ k_ ≠ gb103)))) _ _ l1_2 a2_0 (fun k_ => (((P0_1_ k_ ∨ P0_2_ k_ ∨ P1_1_ k_ ∨ P1_2_ k_ ∨ P2_1_ k_ ∨ P2_2_ k_) ∨ w.heap.size ≤ k_) ∧ (k_ ≠ gb101 ∧ (k_ ≠ gb102 ∧ k_ ≠ gb103)))) _ _ l2_1 (fun k_ => (((P0_1_ k_ ∨ P0_2_ k_ ∨ P1_1_ k_ ∨ P1_2_ k_ ∨ P2_1_ k_ ∨ P2_2_ k_) ∨ w.heap.size ≤ k_) ∧ (k_ ≠ gb101 ∧ (k_ ≠ gb102 ∧ k_ ≠ gb103)))) _ _ l2_2 t153 t154 t157 _ ?_ ?_ ?_ ?_ A55.out).mono ?_
      exact HO_103001.out
      exact HO_103002.out
      exact HO_104001.out
      exact HO_104002.out
      rintro e w69 ⟨v155, v158, rfl, ho0, ho1, hb⟩
      refine ⟨_, rfl, ?_⟩
      replace HO_102001 := vA HO_102001 hb
      replace HO_102002 := vA HO_102002 hb
      replace HO_103001 := vA HO_103001 hb
      replace HO_103002 := vA HO_103002 hb
      replace HO_104001 := vA HO_104001 hb
      replace HO_104002 := vA HO_104002 hb
      replace HO142 := vA HO142 hb
      replace HO145 := vA HO145 hb
      replace HO149 := vA HO149 hb
      replace HO152 := vA HO152 hb
      have HO156 := lw HB (fun k_ => ((P0_1_ k_ ∨ P0_2_ k_ ∨ P1_1_ k_ ∨ P1_2_ k_ ∨ P2_1_ k_ ∨ P2_2_ k_) ∨ w.heap.size ≤ k_) ∧ k_ ≠ gb101 ∧ k_ ≠ gb102 ∧ k_ ≠ gb103) ho0 (fun k_ hk_ => Or.elim hk_ (fun hs_ => Or.elim hs_ id (fun hs_ => Or.elim hs_ id (fun hs_ => Or.elim hs_ id id))) (fun hn_ => ⟨.inr (Nat.le_trans (below_size hB) hn_), kF BK101 hn_, kF BK102 hn_, kF BK103 hn_⟩))
      have HO159 := lw HB (fun k_ => ((P0_1_ k_ ∨ P0_2_ k_ ∨ P1_1_ k_ ∨ P1_2_ k_ ∨ P2_1_ k_ ∨ P2_2_ k_) ∨ w.heap.size ≤ k_) ∧ k_ ≠ gb101 ∧ k_ ≠ gb102 ∧ k_ ≠ gb103) ho1 (fun k_ hk_ => Or.elim hk_ (fun hs_ => Or.elim hs_ id (fun hs_ => Or.elim hs_ id (fun hs_ => Or.elim hs_ id id))) (fun hn_ => ⟨.inr (Nat.le_trans (below_size hB) hn_), kF BK101 hn_, kF BK102 hn_, kF BK103 hn_⟩))
      replace BK101 := kA BK101 hb
      replace BK102 := kA BK102 hb
      replace BK103 := kA BK103 hb
      replace HB := bS HB hb
      clear hb ho0 ho1
      obtain ⟨Ao70, co70, eo70⟩ := Kd.V_slice HO156.out
      (first | subst eo70 | (injection eo70 with f1_ f2_ f3_; have f4_ := f1_.symm; have f5_ := f3_.symm; clear f1_ f2_ f3_; subst f4_; subst f5_))
      obtain ⟨Ao71, co71, eo71⟩ := Kd.V_slice HO159.out
      (first | subst eo71 | (injection eo71 with f1_ f2_ f3_; have f4_ := f1_.symm; have f5_ := f3_.symm; clear f1_ f2_ f3_; subst f4_; subst f5_))
      refine hK.out _ _ ⟨b3 BK101, b3 BK102, b3 BK103⟩ (fun hHeld => nm ?_)
      clear hK K
      refine on 9 (some 53) (tf 10 17) (fun K hK => ?_)
      refine gS Try.func86 #[.agg #[.bool a0_0, .slice A0_1 l0_1.length c0_1, .slice A0_2 l0_2.length c0_2], .agg #[.bool t153, .slice Ao70 t154.length co70, .slice Ao71 t157.length co71]] ?_
      with_reducible refine (ratio_R_Add.calls kj7 a0_0 (fun k_ => (((P0_1_ k_ ∨ P0_2_ k_ ∨ P1_1_ k_ ∨ P1_2_ k_ ∨ P2_1_ k_ ∨ P2_2_ k_) ∨ w.heap.size ≤ k_) ∧ (k_ ≠ gb101 ∧ (k_ ≠ gb102 ∧ k_ ≠ gb103)))) _ _ l0_1 (fun k_ => (((P0_1_ k_ ∨ P0_2_ k_ ∨ P1_1_ k_ ∨ P1_2_ k_ ∨ P2_1_ k_ ∨ P2_2_ k_) ∨ w.heap.size ≤ k_) ∧ (k_ ≠ gb101 ∧ (k_ ≠ gb102 ∧ k_ ≠ gb103)))) _ _ l0_2 t153 (fun k_ => (((P0_1_ k_ ∨ P0_2_ k_ ∨ P1_1_ k_ ∨ P1_2_ k_ ∨ P2_1_ k_ ∨ P2_2_ k_) ∨ w.heap.size ≤ k_) ∧ (k_ ≠ gb101 ∧ (k_ ≠ gb102 ∧ k_ ≠ gb103)))) _ _ t154 (fun k_ => (((P0_1_ k_ ∨ P0_2_ k_ ∨ P1_1_ k_ ∨ P1_2_ k_ ∨ P2_1_ k_ ∨ P2_2_ k_) ∨ w.heap.size ≤ k_) ∧ (k_ ≠ gb101 ∧ (k_ ≠ gb102 ∧ k_ ≠ gb103)))) _ _ t157 t160 t161 t164 _ ?_ ?_ ?_ ?_ A56.out).mono ?_
      exact HO_102001.out
      exact HO_102002.out
      exact HO156.out
      exact HO159.out
      rintro e w72 ⟨v162, v165, rfl, ho0, ho1, hb⟩
      refine ⟨_, rfl, ?_⟩
      replace HO_102001 := vA HO_102001 hb
      replace HO_102002 := vA HO_102002 hb
      replace HO_103001 := vA HO_103001 hb
      replace HO_103002 := vA HO_103002 hb
      replace HO_104001 := vA HO_104001 hb
      replace HO_104002 := vA HO_104002 hb
      replace HO142 := vA HO142 hb
      replace HO145 := vA HO145 hb
      replace HO149 := vA HO149 hb
      replace HO152 := vA HO152 hb
      replace HO156 := vA HO156 hb
      replace HO159 := vA HO159 hb
      have HO163 := lw HB (fun k_ => ((P0_1_ k_ ∨ P0_2_ k_ ∨ P1_1_ k_ ∨ P1_2_ k_ ∨ P2_1_ k_ ∨ P2_2_ k_) ∨ w.heap.size ≤ k_) ∧ k_ ≠ gb101 ∧ k_ ≠ gb102 ∧ k_ ≠ gb103) ho0 (fun k_ hk_ => Or.elim hk_ (fun hs_ => Or.elim hs_ id (fun hs_ => Or.elim hs_ id (fun hs_ => Or.elim hs_ id id))) (fun hn_ => ⟨.inr (Nat.le_trans (below_size hB) hn_), kF BK101 hn_, kF BK102 hn_, kF BK103 hn_⟩))
      have HO166 := lw HB (fun k_ => ((P0_1_ k_ ∨ P0_2_ k_ ∨ P1_1_ k_ ∨ P1_2_ k_ ∨ P2_1_ k_ ∨ P2_2_ k_) ∨ w.heap.size ≤ k_) ∧ k_ ≠ gb101 ∧ k_ ≠ gb102 ∧ k_ ≠ gb103) ho1 (fun k_ hk_ => Or.elim hk_ (fun hs_ => Or.elim hs_ id (fun hs_ => Or.elim hs_ id (fun hs_ => Or.elim hs_ id id))) (fun hn_ => ⟨.inr (Nat.le_trans (below_size hB) hn_), kF BK101 hn_, kF BK102 hn_, kF BK103 hn_⟩))
      replace BK101 := kA BK101 hb
      replace BK102 := kA BK102 hb
      replace BK103 := kA BK103 hb
      replace HB := bS HB hb
      clear hb ho0 ho1
      obtain ⟨Ao73, co73, eo73⟩ := Kd.V_slice HO149.out
      (first | subst eo73 | (injection eo73 with f1_ f2_ f3_; have f4_ := f1_.symm; have f5_ := f3_.symm; clear f1_ f2_ f3_; subst f4_; subst f5_))
      obtain ⟨Ao74, co74, eo74⟩ := Kd.V_slice HO152.out
      (first | subst eo74 | (injection eo74 with f1_ f2_ f3_; have f4_ := f1_.symm; have f5_ := f3_.symm; clear f1_ f2_ f3_; subst f4_; subst f5_))
      obtain ⟨Ao75, co75, eo75⟩ := Kd.V_slice HO163.out
      (first | subst eo75 | (injection eo75 with f1_ f2_ f3_; have f4_ := f1_.symm; have f5_ := f3_.symm; clear f1_ f2_ f3_; subst f4_; subst f5_))
      obtain ⟨Ao76, co76, eo76⟩ := Kd.V_slice HO166.out
      (first | subst eo76 | (injection eo76 with f1_ f2_ f3_; have f4_ := f1_.symm; have f5_ := f3_.symm; clear f1_ f2_ f3_; subst f4_; subst f5_))
      refine hK.out _ _ ⟨b3 BK101, b3 BK102, b3 BK103⟩ (fun hHeld => nm ?_)
      clear hK K
      refine on 10 (some 54) (tf 11 16) (fun K hK => ?_)
      refine gS Try.func58 #[.agg #[.bool t146, .slice Ao73 t147.length co73, .slice Ao74 t150.length co74], .agg #[.bool t160, .slice Ao75 t161.length co75, .slice Ao76 t164.length co76]] ?_
      with_reducible refine (ratio_R_Cmp.calls kj7 t146 _ _ t147 _ _ t150 t160 _ _ t161 _ _ t164 t167 _ ?_ ?_ ?_ ?_ ?_ ?_ ?_ ?_ A57.out).mono ?_
      exact cup ((Kd.V_reads' HO149.out).2.2)
      exact (Kd.V_reads' HO149.out).2.1
      exact cup ((Kd.V_reads' HO152.out).2.2)
      exact (Kd.V_reads' HO152.out).2.1
      exact cup ((Kd.V_reads' HO163.out).2.2)
      exact (Kd.V_reads' HO163.out).2.1
      exact cup ((Kd.V_reads' HO166.out).2.2)
      exact (Kd.V_reads' HO166.out).2.1
      rintro e w77 ⟨rfl, hb⟩
      refine ⟨_, rfl, ?_⟩
      replace HO_102001 := vA HO_102001 hb
      replace HO_102002 := vA HO_102002 hb
      replace HO_103001 := vA HO_103001 hb
      replace HO_103002 := vA HO_103002 hb
      replace HO_104001 := vA HO_104001 hb
      replace HO_104002 := vA HO_104002 hb
      replace HO142 := vA HO142 hb
      replace HO145 := vA HO145 hb
      replace HO149 := vA HO149 hb
      replace HO152 := vA HO152 hb
      replace HO156 := vA HO156 hb
      replace HO159 := vA HO159 hb
      replace HO163 := vA HO163 hb
      replace HO166 := vA HO166 hb
      replace BK101 := kA BK101 hb
      replace BK102 := kA BK102 hb
      replace BK103 := kA BK103 hb
      replace HB := bS HB hb
      clear hb
      refine hK.out _ _ ⟨b3 BK101, b3 BK102, b3 BK103⟩ (fun hHeld => nm ?_)
      clear hK K
      refine pu 11 55 (tf 12 15) ?_
      refine pu 12 56 (tf 13 14) ?_
      refine tk 13 57 (tf 14 13) hHeld ?_
      refine tk 14 58 (tf 15 12) hHeld ?_
      refine tk 16 60 #[true, true, true, true, true, true, true, true, true, true, true, true, true, true, true, false, true, false, false, false, false, false, false, false, false, false, false] hHeld ?_
      refine tk 18 62 #[true, true, true, true, true, true, true, true, true, true, true, true, true, true, true, false, true, false, true, false, false, false, false, false, false, false, false] hHeld ?_
      refine tk 19 63 #[true, true, true, true, true, true, true, true, true, true, true, true, true, true, true, false, true, false, true, true, false, false, false, false, false, false, false] hHeld ?_
      refine tk 20 64 #[true, true, true, true, true, true, true, true, true, true, true, true, true, true, true, false, true, false, true, true, true, false, false, false, false, false, false] hHeld ?_
      refine on 15 (some 59) #[true, true, true, true, true, true, true, true, true, true, true, true, true, true, true, true, true, false, true, true, true, false, false, false, false, false, false] (fun K hK => ?_)
      refine gS Try.func90 #[.agg #[.bool a0_0, .slice A0_1 l0_1.length c0_1, .slice A0_2 l0_2.length c0_2], .agg #[.bool a1_0, .slice A1_1 l1_1.length c1_1, .slice A1_2 l1_2.length c1_2]] ?_
      with_reducible refine (ratio_R_Mul.calls kj7 a0_0 (fun k_ => (((P0_1_ k_ ∨ P0_2_ k_ ∨ P1_1_ k_ ∨ P1_2_ k_ ∨ P2_1_ k_ ∨ P2_2_ k_) ∨ w.heap.size ≤ k_) ∧ (k_ ≠ gb101 ∧ (k_ ≠ gb102 ∧ k_ ≠ gb103)))) _ _ l0_1 (fun k_ => (((P0_1_ k_ ∨ P0_2_ k_ ∨ P1_1_ k_ ∨ P1_2_ k_ ∨ P2_1_ k_ ∨ P2_2_ k_) ∨ w.heap.size ≤ k_) ∧ (k_ ≠ gb101 ∧ (k_ ≠ gb102 ∧ k_ ≠ gb103)))) _ _ l0_2 a1_0 (fun k_ => (((P0_1_ k_ ∨ P0_2_ k_ ∨ P1_1_ k_ ∨ P1_2_ k_ ∨ P2_1_ k_ ∨ P2_2_ k_) ∨ w.heap.size ≤ k_) ∧ (k_ ≠ gb101 ∧ (k_ ≠ gb102 ∧ k_ ≠ gb103)))) _ _ l1_1 (fun k_ => (((P0_1_ k_ ∨ P0_2_ k_ ∨ P1_1_ k_ ∨ P1_2_ k_ ∨ P2_1_ k_ ∨ P2_2_ k_) ∨ w.heap.size ≤ k_) ∧ (k_ ≠ gb101 ∧ (k_ ≠ gb102 ∧ k_ ≠ gb103)))) _ _ l1_2 t168 t169 t172 _ ?_ ?_ ?_ ?_ A59.out).mono ?_
      exact HO_102001.out
      exact HO_102002.out
      exact HO_103001.out
      exact HO_103002.out
      rintro e w78 ⟨v170, v173, rfl, ho0, ho1, hb⟩
      refine ⟨_, rfl, ?_⟩
      replace HO_102001 := vA HO_102001 hb
      replace HO_102002 := vA HO_102002 hb
      replace HO_103001 := vA HO_103001 hb
      replace HO_103002 := vA HO_103002 hb
      replace HO_104001 := vA HO_104001 hb
      replace HO_104002 := vA HO_104002 hb
      replace HO142 := vA HO142 hb
      replace HO145 := vA HO145 hb
      replace HO149 := vA HO149 hb
      replace HO152 := vA HO152 hb
      replace HO156 := vA HO156 hb
      replace HO159 := vA HO159 hb
      replace HO163 := vA HO163 hb
      replace HO166 := vA HO166 hb
      have HO171 := lw HB (fun k_ => ((P0_1_ k_ ∨ P0_2_ k_ ∨ P1_1_ k_ ∨ P1_2_ k_ ∨ P2_1_ k_ ∨ P2_2_ k_) ∨ w.heap.size ≤ k_) ∧ k_ ≠ gb101 ∧ k_ ≠ gb102 ∧ k_ ≠ gb103) ho0 (fun k_ hk_ => Or.elim hk_ (fun hs_ => Or.elim hs_ id (fun hs_ => Or.elim hs_ id (fun hs_ => Or.elim hs_ id id))) (fun hn_ => ⟨.inr (Nat.le_trans (below_size hB) hn_), kF BK101 hn_, kF BK102 hn_, kF BK103 hn_⟩))
      have HO174 := lw HB (fun k_ => ((P0_1_ k_ ∨ P0_2_ k_ ∨ P1_1_ k_ ∨ P1_2_ k_ ∨ P2_1_ k_ ∨ P2_2_ k_) ∨ w.heap.size ≤ k_) ∧ k_ ≠ gb101 ∧ k_ ≠ gb102 ∧ k_ ≠ gb103) ho1 (fun k_ hk_ => Or.elim hk_ (fun hs_ => Or.elim hs_ id (fun hs_ => Or.elim hs_ id (fun hs_ => Or.elim hs_ id id))) (fun hn_ => ⟨.inr (Nat.le_trans (below_size hB) hn_), kF BK101 hn_, kF BK102 hn_, kF BK103 hn_⟩))
      replace BK101 := kA BK101 hb
      replace BK102 := kA BK102 hb
      replace BK103 := kA BK103 hb
      replace HB := bS HB hb
      clear hb ho0 ho1
      obtain ⟨Ao79, co79, eo79⟩ := Kd.V_slice HO171.out
      (first | subst eo79 | (injection eo79 with f1_ f2_ f3_; have f4_ := f1_.symm; have f5_ := f3_.symm; clear f1_ f2_ f3_; subst f4_; subst f5_))
      obtain ⟨Ao80, co80, eo80⟩ := Kd.V_slice HO174.out
      (first | subst eo80 | (injection eo80 with f1_ f2_ f3_; have f4_ := f1_.symm; have f5_ := f3_.symm; clear f1_ f2_ f3_; subst f4_; subst f5_))
      refine hK.out _ _ ⟨b3 BK101, b3 BK102, b3 BK103⟩ (fun hHeld => nm ?_)
      clear hK K
      refine on 17 (some 61) (tf 21 6) (fun K hK => ?_)
      refine gS Try.func90 #[.agg #[.bool t168, .slice Ao79 t169.length co79, .slice Ao80 t172.length co80], .agg #[.bool a2_0, .slice A2_1 l2_1.length c2_1, .slice A2_2 l2_2.length c2_2]] ?_
      with_reducible refine (ratio_R_Mul.calls kj7 t168 (fun k_ => (((P0_1_ k_ ∨ P0_2_ k_ ∨ P1_1_ k_ ∨ P1_2_ k_ ∨ P2_1_ k_ ∨ P2_2_ k_) ∨ w.heap.size ≤ k_) ∧ (k_ ≠ gb101 ∧ (k_ ≠ gb102 ∧ k_ ≠ gb103)))) _ _ t169 (fun k_ => (((P0_1_ k_ ∨ P0_2_ k_ ∨ P1_1_ k_ ∨ P1_2_ k_ ∨ P2_1_ k_ ∨ P2_2_ k_) ∨ w.heap.size ≤ k_) ∧ (k_ ≠ gb101 ∧ (k_ ≠ gb102 ∧ k_ ≠ gb103)))) _ _ t172 a2_0 (fun k_ => (((P0_1_ k_ ∨ P0_2_ k_ ∨ P1_1_ k_ ∨ P1_2_ k_ ∨ P2_1_ k_ ∨ P2_2_ k_) ∨ w.heap.size ≤ k_) ∧ (k_ ≠ gb101 ∧ (k_ ≠ gb102 ∧ k_ ≠ gb103)))) _ _ l2_1 (fun k_ => (((P0_1_ k_ ∨ P0_2_ k_ ∨ P1_1_ k_ ∨ P1_2_ k_ ∨ P2_1_ k_ ∨ P2_2_ k_) ∨ w.heap.size ≤ k_) ∧ (k_ ≠ gb101 ∧ (k_ ≠ gb102 ∧ k_ ≠ gb103)))) _ _ l2_2 t175 t176 t179 _ ?_ ?_ ?_ ?_ A60.out).mono ?_
      exact HO171.out
      exact HO174.out
      exact HO_104001.out
      exact HO_104002.out
      rintro e w81 ⟨v177, v180, rfl, ho0, ho1, hb⟩
      refine ⟨_, rfl, ?_⟩
      replace HO_102001 := vA HO_102001 hb
      replace HO_102002 := vA HO_102002 hb
      replace HO_103001 := vA HO_103001 hb
      replace HO_103002 := vA HO_103002 hb
      replace HO_104001 := vA HO_104001 hb
      replace HO_104002 := vA HO_104002 hb
      replace HO142 := vA HO142 hb
      replace HO145 := vA HO145 hb
      replace HO149 := vA HO149 hb
      replace HO152 := vA HO152 hb
      replace HO156 := vA HO156 hb
      replace HO159 := vA HO159 hb
      replace HO163 := vA HO163 hb
      replace HO166 := vA HO166 hb
      replace HO171 := vA HO171 hb
      replace HO174 := vA HO174 hb
      have HO178 := lw HB (fun k_ => ((P0_1_ k_ ∨ P0_2_ k_ ∨ P1_1_ k_ ∨ P1_2_ k_ ∨ P2_1_ k_ ∨ P2_2_ k_) ∨ w.heap.size ≤ k_) ∧ k_ ≠ gb101 ∧ k_ ≠ gb102 ∧ k_ ≠ gb103) ho0 (fun k_ hk_ => Or.elim hk_ (fun hs_ => Or.elim hs_ id (fun hs_ => Or.elim hs_ id (fun hs_ => Or.elim hs_ id id))) (fun hn_ => ⟨.inr (Nat.le_trans (below_size hB) hn_), kF BK101 hn_, kF BK102 hn_, kF BK103 hn_⟩))
      have HO181 := lw HB (fun k_ => ((P0_1_ k_ ∨ P0_2_ k_ ∨ P1_1_ k_ ∨ P1_2_ k_ ∨ P2_1_ k_ ∨ P2_2_ k_) ∨ w.heap.size ≤ k_) ∧ k_ ≠ gb101 ∧ k_ ≠ gb102 ∧ k_ ≠ gb103) ho1 (fun k_ hk_ => Or.elim hk_ (fun hs_ => Or.elim hs_ id (fun hs_ => Or.elim hs_ id (fun hs_ => Or.elim hs_ id id))) (fun hn_ => ⟨.inr (Nat.le_trans (below_size hB) hn_), kF BK101 hn_, kF BK102 hn_, kF BK103 hn_⟩))
      replace BK101 := kA BK101 hb
      replace BK102 := kA BK102 hb
      replace BK103 := kA BK103 hb
      replace HB := bS HB hb
      clear hb ho0 ho1
      refine hK.out _ _ ⟨b3 BK101, b3 BK102, b3 BK103⟩ (fun hHeld => nm ?_)
      clear hK K
      refine on 21 (some 65) (tf 22 5) (fun K hK => ?_)
      refine gS Try.func90 #[.agg #[.bool a1_0, .slice A1_1 l1_1.length c1_1, .slice A1_2 l1_2.length c1_2], .agg #[.bool a2_0, .slice A2_1 l2_1.length c2_1, .slice A2_2 l2_2.length c2_2]] ?_
      with_reducible refine (ratio_R_Mul.calls kj7 a1_0 (fun k_ => (((P0_1_ k_ ∨ P0_2_ k_ ∨ P1_1_ k_ ∨ P1_2_ k_ ∨ P2_1_ k_ ∨ P2_2_ k_) ∨ w.heap.size ≤ k_) ∧ (k_ ≠ gb101 ∧ (k_ ≠ gb102 ∧ k_ ≠ gb103)))) _ _ l1_1 (fun k_ => (((P0_1_ k_ ∨ P0_2_ k_ ∨ P1_1_ k_ ∨ P1_2_ k_ ∨ P2_1_ k_ ∨ P2_2_ k_) ∨ w.heap.size ≤ k_) ∧ (k_ ≠ gb101 ∧ (k_ ≠ gb102 ∧ k_ ≠ gb103)))) _ _ l1_2 a2_0 (fun k_ => (((P0_1_ k_ ∨ P0_2_ k_ ∨ P1_1_ k_ ∨ P1_2_ k_ ∨ P2_1_ k_ ∨ P2_2_ k_) ∨ w.heap.size ≤ k_) ∧ (k_ ≠ gb101 ∧ (k_ ≠ gb102 ∧ k_ ≠ gb103)))) _ _ l2_1 (fun k_ => (((P0_1_ k_ ∨ P0_2_ k_ ∨ P1_1_ k_ ∨ P1_2_ k_ ∨ P2_1_ k_ ∨ P2_2_ k_) ∨ w.heap.size ≤ k_) ∧ (k_ ≠ gb101 ∧ (k_ ≠ gb102 ∧ k_ ≠ gb103)))) _ _ l2_2 t182 t183 t186 _ ?_ ?_ ?_ ?_ A61.out).mono ?_
      exact HO_103001.out
      exact HO_103002.out
      exact HO_104001.out
      exact HO_104002.out
      rintro e w82 ⟨v184, v187, rfl, ho0, ho1, hb⟩
      refine ⟨_, rfl, ?_⟩
      replace HO_102001 := vA HO_102001 hb
      replace HO_102002 := vA HO_102002 hb
      replace HO_103001 := vA HO_103001 hb
      replace HO_103002 := vA HO_103002 hb
      replace HO_104001 := vA HO_104001 hb
      replace HO_104002 := vA HO_104002 hb
      replace HO142 := vA HO142 hb
      replace HO145 := vA HO145 hb
      replace HO149 := vA HO149 hb
      replace HO152 := vA HO152 hb
      replace HO156 := vA HO156 hb
      replace HO159 := vA HO159 hb
      replace HO163 := vA HO163 hb
      replace HO166 := vA HO166 hb
      replace HO171 := vA HO171 hb
      replace HO174 := vA HO174 hb
      replace HO178 := vA HO178 hb
      replace HO181 := vA HO181 hb
      have HO185 := lw HB (fun k_ => ((P0_1_ k_ ∨ P0_2_ k_ ∨ P1_1_ k_ ∨ P1_2_ k_ ∨ P2_1_ k_ ∨ P2_2_ k_) ∨ w.heap.size ≤ k_) ∧ k_ ≠ gb101 ∧ k_ ≠ gb102 ∧ k_ ≠ gb103) ho0 (fun k_ hk_ => Or.elim hk_ (fun hs_ => Or.elim hs_ id (fun hs_ => Or.elim hs_ id (fun hs_ => Or.elim hs_ id id))) (fun hn_ => ⟨.inr (Nat.le_trans (below_size hB) hn_), kF BK101 hn_, kF BK102 hn_, kF BK103 hn_⟩))
      have HO188 := lw HB (fun k_ => ((P0_1_ k_ ∨ P0_2_ k_ ∨ P1_1_ k_ ∨ P1_2_ k_ ∨ P2_1_ k_ ∨ P2_2_ k_) ∨ w.heap.size ≤ k_) ∧ k_ ≠ gb101 ∧ k_ ≠ gb102 ∧ k_ ≠ gb103) ho1 (fun k_ hk_ => Or.elim hk_ (fun hs_ => Or.elim hs_ id (fun hs_ => Or.elim hs_ id (fun hs_ => Or.elim hs_ id id))) (fun hn_ => ⟨.inr (Nat.le_trans (below_size hB) hn_), kF BK101 hn_, kF BK102 hn_, kF BK103 hn_⟩))
      replace BK101 := kA BK101 hb
      replace BK102 := kA BK102 hb
      replace BK103 := kA BK103 hb
      replace HB := bS HB hb
      clear hb ho0 ho1
      obtain ⟨Ao83, co83, eo83⟩ := Kd.V_slice HO185.out
      (first | subst eo83 | (injection eo83 with f1_ f2_ f3_; have f4_ := f1_.symm; have f5_ := f3_.symm; clear f1_ f2_ f3_; subst f4_; subst f5_))
      obtain ⟨Ao84, co84, eo84⟩ := Kd.V_slice HO188.out
      (first | subst eo84 | (injection eo84 with f1_ f2_ f3_; have f4_ := f1_.symm; have f5_ := f3_.symm; clear f1_ f2_ f3_; subst f4_; subst f5_))
      refine hK.out _ _ ⟨b3 BK101, b3 BK102, b3 BK103⟩ (fun hHeld => nm ?_)
      clear hK K
      refine on 22 (some 66) (tf 23 4) (fun K hK => ?_)
      refine gS Try.func90 #[.agg #[.bool a0_0, .slice A0_1 l0_1.length c0_1, .slice A0_2 l0_2.length c0_2], .agg #[.bool t182, .slice Ao83 t183.length co83, .slice Ao84 t186.length co84]] ?_
      with_reducible refine (ratio_R_Mul.calls kj7 a0_0 (fun k_ => (((P0_1_ k_ ∨ P0_2_ k_ ∨ P1_1_ k_ ∨ P1_2_ k_ ∨ P2_1_ k_ ∨ P2_2_ k_) ∨ w.heap.size ≤ k_) ∧ (k_ ≠ gb101 ∧ (k_ ≠ gb102 ∧ k_ ≠ gb103)))) _ _ l0_1 (fun k_ => (((P0_1_ k_ ∨ P0_2_ k_ ∨ P1_1_ k_ ∨ P1_2_ k_ ∨ P2_1_ k_ ∨ P2_2_ k_) ∨ w.heap.size ≤ k_) ∧ (k_ ≠ gb101 ∧ (k_ ≠ gb102 ∧ k_ ≠ gb103)))) _ _ l0_2 t182 (fun k_ => (((P0_1_ k_ ∨ P0_2_ k_ ∨ P1_1_ k_ ∨ P1_2_ k_ ∨ P2_1_ k_ ∨ P2_2_ k_) ∨ w.heap.size ≤ k_) ∧ (k_ ≠ gb101 ∧ (k_ ≠ gb102 ∧ k_ ≠ gb103)))) _ _ t183 (fun k_ => (((P0_1_ k_ ∨ P0_2_ k_ ∨ P1_1_ k_ ∨ P1_2_ k_ ∨ P2_1_ k_ ∨ P2_2_ k_) ∨ w.heap.size ≤ k_) ∧ (k_ ≠ gb101 ∧ (k_ ≠ gb102 ∧ k_ ≠ gb103)))) _ _ t186 t189 t190 t193 _ ?_ ?_ ?_ ?_ A62.out).mono ?_
      exact HO_102001.out
      exact HO_102002.out
      exact HO185.out
      exact HO188.out
      rintro e w85 ⟨v191, v194, rfl, ho0, ho1, hb⟩
      refine ⟨_, rfl, ?_⟩
      replace HO_102001 := vA HO_102001 hb
      replace HO_102002 := vA HO_102002 hb
      replace HO_103001 := vA HO_103001 hb
      replace HO_103002 := vA HO_103002 hb
      replace HO_104001 := vA HO_104001 hb
      replace HO_104002 := vA HO_104002 hb
      replace HO142 := vA HO142 hb
      replace HO145 := vA HO145 hb
      replace HO149 := vA HO149 hb
      replace HO152 := vA HO152 hb
      replace HO156 := vA HO156 hb
      replace HO159 := vA HO159 hb
      replace HO163 := vA HO163 hb
      replace HO166 := vA HO166 hb
      replace HO171 := vA HO171 hb
      replace HO174 := vA HO174 hb
      replace HO178 := vA HO178 hb
      replace HO181 := vA HO181 hb
      replace HO185 := vA HO185 hb
      replace HO188 := vA HO188 hb
      have HO192 := lw HB (fun k_ => ((P0_1_ k_ ∨ P0_2_ k_ ∨ P1_1_ k_ ∨ P1_2_ k_ ∨ P2_1_ k_ ∨ P2_2_ k_) ∨ w.heap.size ≤ k_) ∧ k_ ≠ gb101 ∧ k_ ≠ gb102 ∧ k_ ≠ gb103) ho0 (fun k_ hk_ => Or.elim hk_ (fun hs_ => Or.elim hs_ id (fun hs_ => Or.elim hs_ id (fun hs_ => Or.elim hs_ id id))) (fun hn_ => ⟨.inr (Nat.le_trans (below_size hB) hn_), kF BK101 hn_, kF BK102 hn_, kF BK103 hn_⟩))
      have HO195 := lw HB (fun k_ => ((P0_1_ k_ ∨ P0_2_ k_ ∨ P1_1_ k_ ∨ P1_2_ k_ ∨ P2_1_ k_ ∨ P2_2_ k_) ∨ w.heap.size ≤ k_) ∧ k_ ≠ gb101 ∧ k_ ≠ gb102 ∧ k_ ≠ gb103) ho1 (fun k_ hk_ => Or.elim hk_ (fun hs_ => Or.elim hs_ id (fun hs_ => Or.elim hs_ id (fun hs_ => Or.elim hs_ id id))) (fun hn_ => ⟨.inr (Nat.le_trans (below_size hB) hn_), kF BK101 hn_, kF BK102 hn_, kF BK103 hn_⟩))
      replace BK101 := kA BK101 hb
      replace BK102 := kA BK102 hb
      replace BK103 := kA BK103 hb
      replace HB := bS HB hb
      clear hb ho0 ho1
      obtain ⟨Ao86, co86, eo86⟩ := Kd.V_slice HO178.out
      (first | subst eo86 | (injection eo86 with f1_ f2_ f3_; have f4_ := f1_.symm; have f5_ := f3_.symm; clear f1_ f2_ f3_; subst f4_; subst f5_))
      obtain ⟨Ao87, co87, eo87⟩ := Kd.V_slice HO181.out
      (first | subst eo87 | (injection eo87 with f1_ f2_ f3_; have f4_ := f1_.symm; have f5_ := f3_.symm; clear f1_ f2_ f3_; subst f4_; subst f5_))
      obtain ⟨Ao88, co88, eo88⟩ := Kd.V_slice HO192.out
      (first | subst eo88 | (injection eo88 with f1_ f2_ f3_; have f4_ := f1_.symm; have f5_ := f3_.symm; clear f1_ f2_ f3_; subst f4_; subst f5_))
      obtain ⟨Ao89, co89, eo89⟩ := Kd.V_slice HO195.out
      (first | subst eo89 | (injection eo89 with f1_ f2_ f3_; have f4_ := f1_.symm; have f5_ := f3_.symm; clear f1_ f2_ f3_; subst f4_; subst f5_))
      refine hK.out _ _ ⟨b3 BK101, b3 BK102, b3 BK103⟩ (fun hHeld => nm ?_)
      clear hK K
      refine on 23 (some 67) (tf 24 3) (fun K hK => ?_)
      refine gS Try.func58 #[.agg #[.bool t175, .slice Ao86 t176.length co86, .slice Ao87 t179.length co87], .agg #[.bool t189, .slice Ao88 t190.length co88, .slice Ao89 t193.length co89]] ?_
      with_reducible refine (ratio_R_Cmp.calls kj7 t175 _ _ t176 _ _ t179 t189 _ _ t190 _ _ t193 t196 _ ?_ ?_ ?_ ?_ ?_ ?_ ?_ ?_ A63.out).mono ?_
      exact cup ((Kd.V_reads' HO178.out).2.2)
      exact (Kd.V_reads' HO178.out).2.1
      exact cup ((Kd.V_reads' HO181.out).2.2)
      exact (Kd.V_reads' HO181.out).2.1
      exact cup ((Kd.V_reads' HO192.out).2.2)
      exact (Kd.V_reads' HO192.out).2.1
      exact cup ((Kd.V_reads' HO195.out).2.2)
      exact (Kd.V_reads' HO195.out).2.1
      rintro e w90 ⟨rfl, hb⟩
      refine ⟨_, rfl, ?_⟩
      replace HO_102001 := vA HO_102001 hb
      replace HO_102002 := vA HO_102002 hb
      replace HO_103001 := vA HO_103001 hb
      replace HO_103002 := vA HO_103002 hb
      replace HO_104001 := vA HO_104001 hb
      replace HO_104002 := vA HO_104002 hb
      replace HO142 := vA HO142 hb
      replace HO145 := vA HO145 hb
      replace HO149 := vA HO149 hb
      replace HO152 := vA HO152 hb
      replace HO156 := vA HO156 hb
      replace HO159 := vA HO159 hb
      replace HO163 := vA HO163 hb
      replace HO166 := vA HO166 hb
      replace HO171 := vA HO171 hb
      replace HO174 := vA HO174 hb
      replace HO178 := vA HO178 hb
      replace HO181 := vA HO181 hb
      replace HO185 := vA HO185 hb
      replace HO188 := vA HO188 hb
      replace HO192 := vA HO192 hb
      replace HO195 := vA HO195 hb
      replace BK101 := kA BK101 hb
      replace BK102 := kA BK102 hb
      replace BK103 := kA BK103 hb
      replace HB := bS HB hb
      clear hb
      refine hK.out _ _ ⟨b3 BK101, b3 BK102, b3 BK103⟩ (fun hHeld => nm ?_)
      clear hK K
      refine pu 24 68 (tf 25 2) ?_
      refine pu 25 69 (tf 26 1) ?_
      refine pu 26 10 (tf 27 0) ?_
      refine done_ (done_of HT_.out (by kernel_rfl)) ?_
      try go_wp2
      go_meet
      case rel => exact ⟨_, ((t196 == 0)), rS, H', ⟨by have := HJ7.out; first | omega | exact Nat.le_refl _⟩, ⟨vup HO_102001.out⟩, ⟨vup HO_102002.out⟩, ⟨vup HO_103001.out⟩, ⟨vup HO_103002.out⟩, ⟨vup HO_104001.out⟩, ⟨vup HO_104002.out⟩, ⟨by exact kU BK101⟩, ⟨by exact kU BK102⟩, ⟨by exact kU BK103⟩, ⟨hB⟩⟩
     case rest =>
      clear HC52
      try clear c1
      try clear c2
      try clear p2
      try clear c5
      try clear c8
      try clear c58
      try clear c58b0
      try clear c58b1
      try clear c86
      obtain ⟨kq, x10_51, rfl, HA, HJ51, HO_102001, HO_102002, HO_103001, HO_103002, HO_104001, HO_104002, BK101, BK102, BK103, HB⟩ := hcut
      cases kq with
      | zero => exact absurd HA.out (by simp [flyballlaw03_RatioField.j1])
      | succ kj51 =>
       have H := HA.out
       clear HA
       simp only [flyballlaw03_RatioField.j1] at H
       replace H := bi H
       obtain ⟨⟨t197, t198, t201⟩, A105, H⟩ := H
       try dsimp only at H
       replace H := bi H
       obtain ⟨⟨t204, t205, t208⟩, A106, H⟩ := H
       try dsimp only at H
       replace H := bi H
       obtain ⟨⟨t211, t212, t215⟩, A107, H⟩ := H
       try dsimp only at H
       replace H := bi H
       obtain ⟨⟨t218, t219, t222⟩, A108, H⟩ := H
       try dsimp only at H
       replace H := bi H
       obtain ⟨⟨t225, t226, t229⟩, A109, H⟩ := H
       try dsimp only at H
       replace H := bi H
       obtain ⟨t232, A110, H⟩ := H
       have HC111 := Aside0.mk H
       clear H
       try go_wp2
       replace HO_102001 := Aside0.mk (Kd.V_drew HO_102001.out)
       replace HO_102002 := Aside0.mk (Kd.V_drew HO_102002.out)
       replace HO_103001 := Aside0.mk (Kd.V_drew HO_103001.out)
       replace HO_103002 := Aside0.mk (Kd.V_drew HO_103002.out)
       replace HO_104001 := Aside0.mk (Kd.V_drew HO_104001.out)
       replace HO_104002 := Aside0.mk (Kd.V_drew HO_104002.out)
       replace BK101 := kd BK101
       replace BK102 := kd BK102
       replace BK103 := kd BK103
       replace HB := bd HB
       refine st (S := fun w' => B3 w' gb101 (.bool a0_0) (.slice A0_1 l0_1.length c0_1) (.slice A0_2 l0_2.length c0_2) ∧ B3 w' gb102 (.bool a1_0) (.slice A1_1 l1_1.length c1_1) (.slice A1_2 l1_2.length c1_2) ∧ B3 w' gb103 (.bool a2_0) (.slice A2_1 l2_1.length c2_1) (.slice A2_2 l2_2.length c2_2)) 15 [] (tf 0 15) ⟨b3 BK101, b3 BK102, b3 BK103⟩ (fun hHeld => ?_); refine with_tabW flyballlaw03_RatioField.tab9 flyballlaw03_RatioField.bits9 (fun HT_ HW_ => ?_)
       generalize wc.drew = w112 at HO_102001 HO_102002 HO_103001 HO_103002 HO_104001 HO_104002 BK101 BK102 BK103 HB hHeld ⊢
       refine tk 0 70 (tf 1 14) hHeld ?_
       refine tk 1 71 (tf 2 13) hHeld ?_
       refine tk 2 72 (tf 3 12) hHeld ?_
       refine tk 5 75 #[true, true, true, false, false, true, false, false, false, false, false, false, false, false, false] hHeld ?_
       refine tk 6 76 #[true, true, true, false, false, true, true, false, false, false, false, false, false, false, false] hHeld ?_
       refine tk 8 78 #[true, true, true, false, false, true, true, false, true, false, false, false, false, false, false] hHeld ?_
       refine tk 9 79 #[true, true, true, false, false, true, true, false, true, true, false, false, false, false, false] hHeld ?_
       refine on 3 (some 73) #[true, true, true, true, false, true, true, false, true, true, false, false, false, false, false] (fun K hK => ?_)
       refine gS Try.func86 #[.agg #[.bool a1_0, .slice A1_1 l1_1.length c1_1, .slice A1_2 l1_2.length c1_2], .agg #[.bool a2_0, .slice A2_1 l2_1.length c2_1, .slice A2_2 l2_2.length c2_2]] ?_
       with_reducible refine (ratio_R_Add.calls kj51 a1_0 (fun k_ => (((P0_1_ k_ ∨ P0_2_ k_ ∨ P1_1_ k_ ∨ P1_2_ k_ ∨ P2_1_ k_ ∨ P2_2_ k_) ∨ w.heap.size ≤ k_) ∧ (k_ ≠ gb101 ∧ (k_ ≠ gb102 ∧ k_ ≠ gb103)))) _ _ l1_1 (fun k_ => (((P0_1_ k_ ∨ P0_2_ k_ ∨ P1_1_ k_ ∨ P1_2_ k_ ∨ P2_1_ k_ ∨ P2_2_ k_) ∨ w.heap.size ≤ k_) ∧ (k_ ≠ gb101 ∧ (k_ ≠ gb102 ∧ k_ ≠ gb103)))) _ _ l1_2 a2_0 (fun k_ => (((P0_1_ k_ ∨ P0_2_ k_ ∨ P1_1_ k_ ∨ P1_2_ k_ ∨ P2_1_ k_ ∨ P2_2_ k_) ∨ w.heap.size ≤ k_) ∧ (k_ ≠ gb101 ∧ (k_ ≠ gb102 ∧ k_ ≠ gb103)))) _ _ l2_1 (fun k_ => (((P0_1_ k_ ∨ P0_2_ k_ ∨ P1_1_ k_ ∨ P1_2_ k_ ∨ P2_1_ k_ ∨ P2_2_ k_) ∨ w.heap.size ≤ k_) ∧ (k_ ≠ gb101 ∧ (k_ ≠ gb102 ∧ k_ ≠ gb103)))) _ _ l2_2 t197 t198 t201 _ ?_ ?_ ?_ ?_ A105.out).mono ?_
       exact HO_103001.out
       exact HO_103002.out
       exact HO_104001.out
       exact HO_104002.out
       rintro e w113 ⟨v199, v202, rfl, ho0, ho1, hb⟩
       refine ⟨_, rfl, ?_⟩
       replace HO_102001 := vA HO_102001 hb
       replace HO_102002 := vA HO_102002 hb
       replace HO_103001 := vA HO_103001 hb
       replace HO_103002 := vA HO_103002 hb
       replace HO_104001 := vA HO_104001 hb
       replace HO_104002 := vA HO_104002 hb
       have HO200 := lw HB (fun k_ => ((P0_1_ k_ ∨ P0_2_ k_ ∨ P1_1_ k_ ∨ P1_2_ k_ ∨ P2_1_ k_ ∨ P2_2_ k_) ∨ w.heap.size ≤ k_) ∧ k_ ≠ gb101 ∧ k_ ≠ gb102 ∧ k_ ≠ gb103) ho0 (fun k_ hk_ => Or.elim hk_ (fun hs_ => Or.elim hs_ id (fun hs_ => Or.elim hs_ id (fun hs_ => Or.elim hs_ id id))) (fun hn_ => ⟨.inr (Nat.le_trans (below_size hB) hn_), kF BK101 hn_, kF BK102 hn_, kF BK103 hn_⟩))
       have HO203 := lw HB (fun k_ => ((P0_1_ k_ ∨ P0_2_ k_ ∨ P1_1_ k_ ∨ P1_2_ k_ ∨ P2_1_ k_ ∨ P2_2_ k_) ∨ w.heap.size ≤ k_) ∧ k_ ≠ gb101 ∧ k_ ≠ gb102 ∧ k_ ≠ gb103) ho1 (fun k_ hk_ => Or.elim hk_ (fun hs_ => Or.elim hs_ id (fun hs_ => Or.elim hs_ id (fun hs_ => Or.elim hs_ id id))) (fun hn_ => ⟨.inr (Nat.le_trans (below_size hB) hn_), kF BK101 hn_, kF BK102 hn_, kF BK103 hn_⟩))
       replace BK101 := kA BK101 hb
       replace BK102 := kA BK102 hb
       replace BK103 := kA BK103 hb
       replace HB := bS HB hb
       clear hb ho0 ho1
       obtain ⟨Ao114, co114, eo114⟩ := Kd.V_slice HO200.out
       (first | subst eo114 | (injection eo114 with f1_ f2_ f3_; have f4_ := f1_.symm; have f5_ := f3_.symm; clear f1_ f2_ f3_; subst f4_; subst f5_))
       obtain ⟨Ao115, co115, eo115⟩ := Kd.V_slice HO203.out
       (first | subst eo115 | (injection eo115 with f1_ f2_ f3_; have f4_ := f1_.symm; have f5_ := f3_.symm; clear f1_ f2_ f3_; subst f4_; subst f5_))
       refine hK.out _ _ ⟨b3 BK101, b3 BK102, b3 BK103⟩ (fun hHeld => nm ?_)
       clear hK K
       refine on 4 (some 74) #[true, true, true, true, true, true, true, false, true, true, false, false, false, false, false] (fun K hK => ?_)
       refine gS Try.func90 #[.agg #[.bool a0_0, .slice A0_1 l0_1.length c0_1, .slice A0_2 l0_2.length c0_2], .agg #[.bool t197, .slice Ao114 t198.length co114, .slice Ao115 t201.length co115]] ?_
       with_reducible refine (ratio_R_Mul.calls kj51 a0_0 (fun k_ => (((P0_1_ k_ ∨ P0_2_ k_ ∨ P1_1_ k_ ∨ P1_2_ k_ ∨ P2_1_ k_ ∨ P2_2_ k_) ∨ w.heap.size ≤ k_) ∧ (k_ ≠ gb101 ∧ (k_ ≠ gb102 ∧ k_ ≠ gb103)))) _ _ l0_1 (fun k_ => (((P0_1_ k_ ∨ P0_2_ k_ ∨ P1_1_ k_ ∨ P1_2_ k_ ∨ P2_1_ k_ ∨ P2_2_ k_) ∨ w.heap.size ≤ k_) ∧ (k_ ≠ gb101 ∧ (k_ ≠ gb102 ∧ k_ ≠ gb103)))) _ _ l0_2 t197 (fun k_ => (((P0_1_ k_ ∨ P0_2_ k_ ∨ P1_1_ k_ ∨ P1_2_ k_ ∨ P2_1_ k_ ∨ P2_2_ k_) ∨ w.heap.size ≤ k_) ∧ (k_ ≠ gb101 ∧ (k_ ≠ gb102 ∧ k_ ≠ gb103)))) _ _ t198 (fun k_ => (((P0_1_ k_ ∨ P0_2_ k_ ∨ P1_1_ k_ ∨ P1_2_ k_ ∨ P2_1_ k_ ∨ P2_2_ k_) ∨ w.heap.size ≤ k_) ∧ (k_ ≠ gb101 ∧ (k_ ≠ gb102 ∧ k_ ≠ gb103)))) _ _ t201 t204 t205 t208 _ ?_ ?_ ?_ ?_ A106.out).mono ?_
       exact HO_102001.out
       exact HO_102002.out
       exact HO200.out
       exact HO203.out
       rintro e w116 ⟨v206, v209, rfl, ho0, ho1, hb⟩
       refine ⟨_, rfl, ?_⟩
       replace HO_102001 := vA HO_102001 hb
       replace HO_102002 := vA HO_102002 hb
       replace HO_103001 := vA HO_103001 hb
       replace HO_103002 := vA HO_103002 hb
       replace HO_104001 := vA HO_104001 hb
       replace HO_104002 := vA HO_104002 hb
       replace HO200 := vA HO200 hb
       replace HO203 := vA HO203 hb
       have HO207 := lw HB (fun k_ => ((P0_1_ k_ ∨ P0_2_ k_ ∨ P1_1_ k_ ∨ P1_2_ k_ ∨ P2_1_ k_ ∨ P2_2_ k_) ∨ w.heap.size ≤ k_) ∧ k_ ≠ gb101 ∧ k_ ≠ gb102 ∧ k_ ≠ gb103) ho0 (fun k_ hk_ => Or.elim hk_ (fun hs_ => Or.elim hs_ id (fun hs_ => Or.elim hs_ id (fun hs_ => Or.elim hs_ id id))) (fun hn_ => ⟨.inr (Nat.le_trans (below_size hB) hn_), kF BK101 hn_, kF BK102 hn_, kF BK103 hn_⟩))
       have HO210 := lw HB (fun k_ => ((P0_1_ k_ ∨ P0_2_ k_ ∨ P1_1_ k_ ∨ P1_2_ k_ ∨ P2_1_ k_ ∨ P2_2_ k_) ∨ w.heap.size ≤ k_) ∧ k_ ≠ gb101 ∧ k_ ≠ gb102 ∧ k_ ≠ gb103) ho1 (fun k_ hk_ => Or.elim hk_ (fun hs_ => Or.elim hs_ id (fun hs_ => Or.elim hs_ id (fun hs_ => Or.elim hs_ id id))) (fun hn_ => ⟨.inr (Nat.le_trans (below_size hB) hn_), kF BK101 hn_, kF BK102 hn_, kF BK103 hn_⟩))
       replace BK101 := kA BK101 hb
       replace BK102 := kA BK102 hb
       replace BK103 := kA BK103 hb
       replace HB := bS HB hb
       clear hb ho0 ho1
       refine hK.out _ _ ⟨b3 BK101, b3 BK102, b3 BK103⟩ (fun hHeld => nm ?_)
       clear hK K
       refine on 7 (some 77) (tf 10 5) (fun K hK => ?_)
       refine gS Try.func90 #[.agg #[.bool a0_0, .slice A0_1 l0_1.length c0_1, .slice A0_2 l0_2.length c0_2], .agg #[.bool a1_0, .slice A1_1 l1_1.length c1_1, .slice A1_2 l1_2.length c1_2]] ?_
       with_reducible refine (ratio_R_Mul.calls kj51 a0_0 (fun k_ => (((P0_1_ k_ ∨ P0_2_ k_ ∨ P1_1_ k_ ∨ P1_2_ k_ ∨ P2_1_ k_ ∨ P2_2_ k_) ∨ w.heap.size ≤ k_) ∧ (k_ ≠ gb101 ∧ (k_ ≠ gb102 ∧ k_ ≠ gb103)))) _ _ l0_1 (fun k_ => (((P0_1_ k_ ∨ P0_2_ k_ ∨ P1_1_ k_ ∨ P1_2_ k_ ∨ P2_1_ k_ ∨ P2_2_ k_) ∨ w.heap.size ≤ k_) ∧ (k_ ≠ gb101 ∧ (k_ ≠ gb102 ∧ k_ ≠ gb103)))) _ _ l0_2 a1_0 (fun k_ => (((P0_1_ k_ ∨ P0_2_ k_ ∨ P1_1_ k_ ∨ P1_2_ k_ ∨ P2_1_ k_ ∨ P2_2_ k_) ∨ w.heap.size ≤ k_) ∧ (k_ ≠ gb101 ∧ (k_ ≠ gb102 ∧ k_ ≠ gb103)))) _ _ l1_1 (fun k_ => (((P0_1_ k_ ∨ P0_2_ k_ ∨ P1_1_ k_ ∨ P1_2_ k_ ∨ P2_1_ k_ ∨ P2_2_ k_) ∨ w.heap.size ≤ k_) ∧ (k_ ≠ gb101 ∧ (k_ ≠ gb102 ∧ k_ ≠ gb103)))) _ _ l1_2 t211 t212 t215 _ ?_ ?_ ?_ ?_ A107.out).mono ?_
       exact HO_102001.out
       exact HO_102002.out
       exact HO_103001.out
       exact HO_103002.out
       rintro e w117 ⟨v213, v216, rfl, ho0, ho1, hb⟩
       refine ⟨_, rfl, ?_⟩
       replace HO_102001 := vA HO_102001 hb
       replace HO_102002 := vA HO_102002 hb
       replace HO_103001 := vA HO_103001 hb
       replace HO_103002 := vA HO_103002 hb
       replace HO_104001 := vA HO_104001 hb
       replace HO_104002 := vA HO_104002 hb
       replace HO200 := vA HO200 hb
       replace HO203 := vA HO203 hb
       replace HO207 := vA HO207 hb
       replace HO210 := vA HO210 hb
       have HO214 := lw HB (fun k_ => ((P0_1_ k_ ∨ P0_2_ k_ ∨ P1_1_ k_ ∨ P1_2_ k_ ∨ P2_1_ k_ ∨ P2_2_ k_) ∨ w.heap.size ≤ k_) ∧ k_ ≠ gb101 ∧ k_ ≠ gb102 ∧ k_ ≠ gb103) ho0 (fun k_ hk_ => Or.elim hk_ (fun hs_ => Or.elim hs_ id (fun hs_ => Or.elim hs_ id (fun hs_ => Or.elim hs_ id id))) (fun hn_ => ⟨.inr (Nat.le_trans (below_size hB) hn_), kF BK101 hn_, kF BK102 hn_, kF BK103 hn_⟩))
       have HO217 := lw HB (fun k_ => ((P0_1_ k_ ∨ P0_2_ k_ ∨ P1_1_ k_ ∨ P1_2_ k_ ∨ P2_1_ k_ ∨ P2_2_ k_) ∨ w.heap.size ≤ k_) ∧ k_ ≠ gb101 ∧ k_ ≠ gb102 ∧ k_ ≠ gb103) ho1 (fun k_ hk_ => Or.elim hk_ (fun hs_ => Or.elim hs_ id (fun hs_ => Or.elim hs_ id (fun hs_ => Or.elim hs_ id id))) (fun hn_ => ⟨.inr (Nat.le_trans (below_size hB) hn_), kF BK101 hn_, kF BK102 hn_, kF BK103 hn_⟩))
       replace BK101 := kA BK101 hb
       replace BK102 := kA BK102 hb
       replace BK103 := kA BK103 hb
       replace HB := bS HB hb
       clear hb ho0 ho1
       refine hK.out _ _ ⟨b3 BK101, b3 BK102, b3 BK103⟩ (fun hHeld => nm ?_)
       clear hK K
       refine on 10 (some 80) (tf 11 4) (fun K hK => ?_)
       refine gS Try.func90 #[.agg #[.bool a0_0, .slice A0_1 l0_1.length c0_1, .slice A0_2 l0_2.length c0_2], .agg #[.bool a2_0, .slice A2_1 l2_1.length c2_1, .slice A2_2 l2_2.length c2_2]] ?_
       with_reducible refine (ratio_R_Mul.calls kj51 a0_0 (fun k_ => (((P0_1_ k_ ∨ P0_2_ k_ ∨ P1_1_ k_ ∨ P1_2_ k_ ∨ P2_1_ k_ ∨ P2_2_ k_) ∨ w.heap.size ≤ k_) ∧ (k_ ≠ gb101 ∧ (k_ ≠ gb102 ∧ k_ ≠ gb103)))) _ _ l0_1 (fun k_ => (((P0_1_ k_ ∨ P0_2_ k_ ∨ P1_1_ k_ ∨ P1_2_ k_ ∨ P2_1_ k_ ∨ P2_2_ k_) ∨ w.heap.size ≤ k_) ∧ (k_ ≠ gb101 ∧ (k_ ≠ gb102 ∧ k_ ≠ gb103)))) _ _ l0_2 a2_0 (fun k_ => (((P0_1_ k_ ∨ P0_2_ k_ ∨ P1_1_ k_ ∨ P1_2_ k_ ∨ P2_1_ k_ ∨ P2_2_ k_) ∨ w.heap.size ≤ k_) ∧ (k_ ≠ gb101 ∧ (k_ ≠ gb102 ∧ k_ ≠ gb103)))) _ _ l2_1 (fun k_ => (((P0_1_ k_ ∨ P0_2_ k_ ∨ P1_1_ k_ ∨ P1_2_ k_ ∨ P2_1_ k_ ∨ P2_2_ k_) ∨ w.heap.size ≤ k_) ∧ (k_ ≠ gb101 ∧ (k_ ≠ gb102 ∧ k_ ≠ gb103)))) _ _ l2_2 t218 t219 t222 _ ?_ ?_ ?_ ?_ A108.out).mono ?_
       exact HO_102001.out
       exact HO_102002.out
       exact HO_104001.out
       exact HO_104002.out
       rintro e w118 ⟨v220, v223, rfl, ho0, ho1, hb⟩
       refine ⟨_, rfl, ?_⟩
       replace HO_102001 := vA HO_102001 hb
       replace HO_102002 := vA HO_102002 hb
       replace HO_103001 := vA HO_103001 hb
       replace HO_103002 := vA HO_103002 hb
       replace HO_104001 := vA HO_104001 hb
       replace HO_104002 := vA HO_104002 hb
       replace HO200 := vA HO200 hb
       replace HO203 := vA HO203 hb
       replace HO207 := vA HO207 hb
       replace HO210 := vA HO210 hb
       replace HO214 := vA HO214 hb
       replace HO217 := vA HO217 hb
       have HO221 := lw HB (fun k_ => ((P0_1_ k_ ∨ P0_2_ k_ ∨ P1_1_ k_ ∨ P1_2_ k_ ∨ P2_1_ k_ ∨ P2_2_ k_) ∨ w.heap.size ≤ k_) ∧ k_ ≠ gb101 ∧ k_ ≠ gb102 ∧ k_ ≠ gb103) ho0 (fun k_ hk_ => Or.elim hk_ (fun hs_ => Or.elim hs_ id (fun hs_ => Or.elim hs_ id (fun hs_ => Or.elim hs_ id id))) (fun hn_ => ⟨.inr (Nat.le_trans (below_size hB) hn_), kF BK101 hn_, kF BK102 hn_, kF BK103 hn_⟩))
       have HO224 := lw HB (fun k_ => ((P0_1_ k_ ∨ P0_2_ k_ ∨ P1_1_ k_ ∨ P1_2_ k_ ∨ P2_1_ k_ ∨ P2_2_ k_) ∨ w.heap.size ≤ k_) ∧ k_ ≠ gb101 ∧ k_ ≠ gb102 ∧ k_ ≠ gb103) ho1 (fun k_ hk_ => Or.elim hk_ (fun hs_ => Or.elim hs_ id (fun hs_ => Or.elim hs_ id (fun hs_ => Or.elim hs_ id id))) (fun hn_ => ⟨.inr (Nat.le_trans (below_size hB) hn_), kF BK101 hn_, kF BK102 hn_, kF BK103 hn_⟩))
       replace BK101 := kA BK101 hb
       replace BK102 := kA BK102 hb
       replace BK103 := kA BK103 hb
       replace HB := bS HB hb
       clear hb ho0 ho1
       obtain ⟨Ao119, co119, eo119⟩ := Kd.V_slice HO214.out
       (first | subst eo119 | (injection eo119 with f1_ f2_ f3_; have f4_ := f1_.symm; have f5_ := f3_.symm; clear f1_ f2_ f3_; subst f4_; subst f5_))
       obtain ⟨Ao120, co120, eo120⟩ := Kd.V_slice HO217.out
       (first | subst eo120 | (injection eo120 with f1_ f2_ f3_; have f4_ := f1_.symm; have f5_ := f3_.symm; clear f1_ f2_ f3_; subst f4_; subst f5_))
       obtain ⟨Ao121, co121, eo121⟩ := Kd.V_slice HO221.out
       (first | subst eo121 | (injection eo121 with f1_ f2_ f3_; have f4_ := f1_.symm; have f5_ := f3_.symm; clear f1_ f2_ f3_; subst f4_; subst f5_))
       obtain ⟨Ao122, co122, eo122⟩ := Kd.V_slice HO224.out
       (first | subst eo122 | (injection eo122 with f1_ f2_ f3_; have f4_ := f1_.symm; have f5_ := f3_.symm; clear f1_ f2_ f3_; subst f4_; subst f5_))
       refine hK.out _ _ ⟨b3 BK101, b3 BK102, b3 BK103⟩ (fun hHeld => nm ?_)
       clear hK K
       refine on 11 (some 81) (tf 12 3) (fun K hK => ?_)
       refine gS Try.func86 #[.agg #[.bool t211, .slice Ao119 t212.length co119, .slice Ao120 t215.length co120], .agg #[.bool t218, .slice Ao121 t219.length co121, .slice Ao122 t222.length co122]] ?_
       with_reducible refine (ratio_R_Add.calls kj51 t211 (fun k_ => (((P0_1_ k_ ∨ P0_2_ k_ ∨ P1_1_ k_ ∨ P1_2_ k_ ∨ P2_1_ k_ ∨ P2_2_ k_) ∨ w.heap.size ≤ k_) ∧ (k_ ≠ gb101 ∧ (k_ ≠ gb102 ∧ k_ ≠ gb103)))) _ _ t212 (fun k_ => (((P0_1_ k_ ∨ P0_2_ k_ ∨ P1_1_ k_ ∨ P1_2_ k_ ∨ P2_1_ k_ ∨ P2_2_ k_) ∨ w.heap.size ≤ k_) ∧ (k_ ≠ gb101 ∧ (k_ ≠ gb102 ∧ k_ ≠ gb103)))) _ _ t215 t218 (fun k_ => (((P0_1_ k_ ∨ P0_2_ k_ ∨ P1_1_ k_ ∨ P1_2_ k_ ∨ P2_1_ k_ ∨ P2_2_ k_) ∨ w.heap.size ≤ k_) ∧ (k_ ≠ gb101 ∧ (k_ ≠ gb102 ∧ k_ ≠ gb103)))) _ _ t219 (fun k_ => (((P0_1_ k_ ∨ P0_2_ k_ ∨ P1_1_ k_ ∨ P1_2_ k_ ∨ P2_1_ k_ ∨ P2_2_ k_) ∨ w.heap.size ≤ k_) ∧ (k_ ≠ gb101 ∧ (k_ ≠ gb102 ∧ k_ ≠ gb103)))) _ _ t222 t225 t226 t229 _ ?_ ?_ ?_ ?_ A109.out).mono ?_
       exact HO214.out
       exact HO217.out
       exact HO221.out
       exact HO224.out
       rintro e w123 ⟨v227, v230, rfl, ho0, ho1, hb⟩
       refine ⟨_, rfl, ?_⟩
       replace HO_102001 := vA HO_102001 hb
       replace HO_102002 := vA HO_102002 hb
       replace HO_103001 := vA HO_103001 hb
       replace HO_103002 := vA HO_103002 hb
       replace HO_104001 := vA HO_104001 hb
       replace HO_104002 := vA HO_104002 hb
       replace HO200 := vA HO200 hb
       replace HO203 := vA HO203 hb
       replace HO207 := vA HO207 hb
       replace HO210 := vA HO210 hb
       replace HO214 := vA HO214 hb
       replace HO217 := vA HO217 hb
       replace HO221 := vA HO221 hb
       replace HO224 := vA HO224 hb
       have HO228 := lw HB (fun k_ => ((P0_1_ k_ ∨ P0_2_ k_ ∨ P1_1_ k_ ∨ P1_2_ k_ ∨ P2_1_ k_ ∨ P2_2_ k_) ∨ w.heap.size ≤ k_) ∧ k_ ≠ gb101 ∧ k_ ≠ gb102 ∧ k_ ≠ gb103) ho0 (fun k_ hk_ => Or.elim hk_ (fun hs_ => Or.elim hs_ id (fun hs_ => Or.elim hs_ id (fun hs_ => Or.elim hs_ id id))) (fun hn_ => ⟨.inr (Nat.le_trans (below_size hB) hn_), kF BK101 hn_, kF BK102 hn_, kF BK103 hn_⟩))
       have HO231 := lw HB (fun k_ => ((P0_1_ k_ ∨ P0_2_ k_ ∨ P1_1_ k_ ∨ P1_2_ k_ ∨ P2_1_ k_ ∨ P2_2_ k_) ∨ w.heap.size ≤ k_) ∧ k_ ≠ gb101 ∧ k_ ≠ gb102 ∧ k_ ≠ gb103) ho1 (fun k_ hk_ => Or.elim hk_ (fun hs_ => Or.elim hs_ id (fun hs_ => Or.elim hs_ id (fun hs_ => Or.elim hs_ id id))) (fun hn_ => ⟨.inr (Nat.le_trans (below_size hB) hn_), kF BK101 hn_, kF BK102 hn_, kF BK103 hn_⟩))
       replace BK101 := kA BK101 hb
       replace BK102 := kA BK102 hb
       replace BK103 := kA BK103 hb
       replace HB := bS HB hb
       clear hb ho0 ho1
       obtain ⟨Ao124, co124, eo124⟩ := Kd.V_slice HO207.out
       (first | subst eo124 | (injection eo124 with f1_ f2_ f3_; have f4_ := f1_.symm; have f5_ := f3_.symm; clear f1_ f2_ f3_; subst f4_; subst f5_))
       obtain ⟨Ao125, co125, eo125⟩ := Kd.V_slice HO210.out
       (first | subst eo125 | (injection eo125 with f1_ f2_ f3_; have f4_ := f1_.symm; have f5_ := f3_.symm; clear f1_ f2_ f3_; subst f4_; subst f5_))
       obtain ⟨Ao126, co126, eo126⟩ := Kd.V_slice HO228.out
       (first | subst eo126 | (injection eo126 with f1_ f2_ f3_; have f4_ := f1_.symm; have f5_ := f3_.symm; clear f1_ f2_ f3_; subst f4_; subst f5_))
       obtain ⟨Ao127, co127, eo127⟩ := Kd.V_slice HO231.out
       (first | subst eo127 | (injection eo127 with f1_ f2_ f3_; have f4_ := f1_.symm; have f5_ := f3_.symm; clear f1_ f2_ f3_; subst f4_; subst f5_))
       refine hK.out _ _ ⟨b3 BK101, b3 BK102, b3 BK103⟩ (fun hHeld => nm ?_)
       clear hK K
       refine on 12 (some 82) (tf 13 2) (fun K hK => ?_)
       refine gS Try.func58 #[.agg #[.bool t204, .slice Ao124 t205.length co124, .slice Ao125 t208.length co125], .agg #[.bool t225, .slice Ao126 t226.length co126, .slice Ao127 t229.length co127]] ?_
       with_reducible refine (ratio_R_Cmp.calls kj51 t204 _ _ t205 _ _ t208 t225 _ _ t226 _ _ t229 t232 _ ?_ ?_ ?_ ?_ ?_ ?_ ?_ ?_ A110.out).mono ?_
       exact cup ((Kd.V_reads' HO207.out).2.2)
       exact (Kd.V_reads' HO207.out).2.1
       exact cup ((Kd.V_reads' HO210.out).2.2)
       exact (Kd.V_reads' HO210.out).2.1
       exact cup ((Kd.V_reads' HO228.out).2.2)
       exact (Kd.V_reads' HO228.out).2.1
       exact cup ((Kd.V_reads' HO231.out).2.2)
       exact (Kd.V_reads' HO231.out).2.1
       rintro e w128 ⟨rfl, hb⟩
       refine ⟨_, rfl, ?_⟩
       replace HO_102001 := vA HO_102001 hb
       replace HO_102002 := vA HO_102002 hb
       replace HO_103001 := vA HO_103001 hb
       replace HO_103002 := vA HO_103002 hb
       replace HO_104001 := vA HO_104001 hb
       replace HO_104002 := vA HO_104002 hb
       replace HO200 := vA HO200 hb
       replace HO203 := vA HO203 hb
       replace HO207 := vA HO207 hb
       replace HO210 := vA HO210 hb
       replace HO214 := vA HO214 hb
       replace HO217 := vA HO217 hb
       replace HO221 := vA HO221 hb
       replace HO224 := vA HO224 hb
       replace HO228 := vA HO228 hb
       replace HO231 := vA HO231 hb
       replace BK101 := kA BK101 hb
       replace BK102 := kA BK102 hb
       replace BK103 := kA BK103 hb
       replace HB := bS HB hb
       clear hb
       refine hK.out _ _ ⟨b3 BK101, b3 BK102, b3 BK103⟩ (fun hHeld => nm ?_)
       clear hK K
       refine pu 13 83 (tf 14 1) ?_
       refine pu 14 11 (tf 15 0) ?_
       refine done_ (done_of HT_.out (by kernel_rfl)) ?_
       go_upto_region 10 with (fail)
       go_cut [12] (fun v12 wc => ∃ (kq : Nat) (x12_110 : Bool), v12 = .bool x12_110 ∧ Aside0 (flyballlaw03_RatioField.j2 kq true x9_7 x10_51 (t232 == 0) x12_110 a0_0 l0_1 l0_2 a1_0 l1_1 l1_2 = some true) ∧ Aside0 (kq ≤ kj51) ∧ Aside0 (Kd.V (Kd.int .u32) 118 wc w.heap.size (fun k_ => ((P0_1_ k_ ∨ P0_2_ k_ ∨ P1_1_ k_ ∨ P1_2_ k_ ∨ P2_1_ k_ ∨ P2_2_ k_) ∨ w.heap.size ≤ k_) ∧ k_ ≠ gb101 ∧ k_ ≠ gb102 ∧ k_ ≠ gb103) (.slice A0_1 l0_1.length c0_1) l0_1) ∧ Aside0 (Kd.V (Kd.int .u32) 118 wc w.heap.size (fun k_ => ((P0_1_ k_ ∨ P0_2_ k_ ∨ P1_1_ k_ ∨ P1_2_ k_ ∨ P2_1_ k_ ∨ P2_2_ k_) ∨ w.heap.size ≤ k_) ∧ k_ ≠ gb101 ∧ k_ ≠ gb102 ∧ k_ ≠ gb103) (.slice A0_2 l0_2.length c0_2) l0_2) ∧ Aside0 (Kd.V (Kd.int .u32) 118 wc w.heap.size (fun k_ => ((P0_1_ k_ ∨ P0_2_ k_ ∨ P1_1_ k_ ∨ P1_2_ k_ ∨ P2_1_ k_ ∨ P2_2_ k_) ∨ w.heap.size ≤ k_) ∧ k_ ≠ gb101 ∧ k_ ≠ gb102 ∧ k_ ≠ gb103) (.slice A1_1 l1_1.length c1_1) l1_1) ∧ Aside0 (Kd.V (Kd.int .u32) 118 wc w.heap.size (fun k_ => ((P0_1_ k_ ∨ P0_2_ k_ ∨ P1_1_ k_ ∨ P1_2_ k_ ∨ P2_1_ k_ ∨ P2_2_ k_) ∨ w.heap.size ≤ k_) ∧ k_ ≠ gb101 ∧ k_ ≠ gb102 ∧ k_ ≠ gb103) (.slice A1_2 l1_2.length c1_2) l1_2) ∧ Aside0 (Kd.V (Kd.int .u32) 118 wc w.heap.size (fun k_ => ((P0_1_ k_ ∨ P0_2_ k_ ∨ P1_1_ k_ ∨ P1_2_ k_ ∨ P2_1_ k_ ∨ P2_2_ k_) ∨ w.heap.size ≤ k_) ∧ k_ ≠ gb101 ∧ k_ ≠ gb102 ∧ k_ ≠ gb103) (.slice A2_1 l2_1.length c2_1) l2_1) ∧ Aside0 (Kd.V (Kd.int .u32) 118 wc w.heap.size (fun k_ => ((P0_1_ k_ ∨ P0_2_ k_ ∨ P1_1_ k_ ∨ P1_2_ k_ ∨ P2_1_ k_ ∨ P2_2_ k_) ∨ w.heap.size ≤ k_) ∧ k_ ≠ gb101 ∧ k_ ≠ gb102 ∧ k_ ≠ gb103) (.slice A2_2 l2_2.length c2_2) l2_2) ∧ Aside0 (wc.heap[gb101]? = some (.cells #[.bool a0_0, (.slice A0_1 l0_1.length c0_1), (.slice A0_2 l0_2.length c0_2)] 69 (0, 0))) ∧ Aside0 (wc.heap[gb102]? = some (.cells #[.bool a1_0, (.slice A1_1 l1_1.length c1_1), (.slice A1_2 l1_2.length c1_2)] 69 (0, 0))) ∧ Aside0 (wc.heap[gb103]? = some (.cells #[.bool a2_0, (.slice A2_1 l2_1.length c2_1), (.slice A2_2 l2_2.length c2_2)] 69 (0, 0))) ∧ Aside0 (Below w.heap.size w wc))
       case first =>
        have H := HC111.out
        clear HC111
        replace H := bi H
        obtain ⟨⟨t233, t234, t237⟩, A129, H⟩ := H
        try dsimp only at H
        replace H := bi H
        obtain ⟨⟨t240, t241, t244⟩, A130, H⟩ := H
        try dsimp only at H
        replace H := bi H
        obtain ⟨t247, A131, H⟩ := H
        by_cases c132 : t247 = 0
        rotate_left
        ·rw [if_neg c132] at H
         obtain ⟨c132b0, c132b1⟩ := bqF c132
         (first | rw [c132b0] | (simp only [i64_w, i32_w]; rw [c132b0]) | skip)
         have H' := Aside0.mk H
         clear H
         try go_wp2
         replace HO_102001 := Aside0.mk (Kd.V_drew HO_102001.out)
         replace HO_102002 := Aside0.mk (Kd.V_drew HO_102002.out)
         replace HO_103001 := Aside0.mk (Kd.V_drew HO_103001.out)
         replace HO_103002 := Aside0.mk (Kd.V_drew HO_103002.out)
         replace HO_104001 := Aside0.mk (Kd.V_drew HO_104001.out)
         replace HO_104002 := Aside0.mk (Kd.V_drew HO_104002.out)
         replace HO200 := vd HO200
         replace HO203 := vd HO203
         replace HO207 := vd HO207
         replace HO210 := vd HO210
         replace HO214 := vd HO214
         replace HO217 := vd HO217
         replace HO221 := vd HO221
         replace HO224 := vd HO224
         replace HO228 := vd HO228
         replace HO231 := vd HO231
         replace BK101 := kd BK101
         replace BK102 := kd BK102
         replace BK103 := kd BK103
         replace HB := bd HB
         refine st (S := fun w' => B3 w' gb101 (.bool a0_0) (.slice A0_1 l0_1.length c0_1) (.slice A0_2 l0_2.length c0_2) ∧ B3 w' gb102 (.bool a1_0) (.slice A1_1 l1_1.length c1_1) (.slice A1_2 l1_2.length c1_2)) 16 [] (tf 0 16) ⟨b3 BK101, b3 BK102⟩ (fun hHeld => ?_); refine with_tabW flyballlaw03_RatioField.tab10 flyballlaw03_RatioField.bits10 (fun HT_ HW_ => ?_)
         generalize w128.drew = w147 at HO_102001 HO_102002 HO_103001 HO_103002 HO_104001 HO_104002 HO200 HO203 HO207 HO210 HO214 HO217 HO221 HO224 HO228 HO231 BK101 BK102 BK103 HB hHeld ⊢
         refine tk 0 84 (tf 1 15) hHeld ?_
         refine tk 1 85 (tf 2 14) hHeld ?_
         refine tk 3 87 #[true, true, false, true, false, false, false, false, false, false, false, false, false, false, false, false] hHeld ?_
         refine tk 5 89 #[true, true, false, true, false, true, false, false, false, false, false, false, false, false, false, false] hHeld ?_
         refine on 2 (some 86) #[true, true, true, true, false, true, false, false, false, false, false, false, false, false, false, false] (fun K hK => ?_)
         refine gS Try.func86 #[.agg #[.bool a0_0, .slice A0_1 l0_1.length c0_1, .slice A0_2 l0_2.length c0_2], .agg #[.bool a1_0, .slice A1_1 l1_1.length c1_1, .slice A1_2 l1_2.length c1_2]] ?_
         with_reducible refine (ratio_R_Add.calls kj51 a0_0 (fun k_ => (((P0_1_ k_ ∨ P0_2_ k_ ∨ P1_1_ k_ ∨ P1_2_ k_ ∨ P2_1_ k_ ∨ P2_2_ k_) ∨ w.heap.size ≤ k_) ∧ (k_ ≠ gb101 ∧ (k_ ≠ gb102 ∧ k_ ≠ gb103)))) _ _ l0_1 (fun k_ => (((P0_1_ k_ ∨ P0_2_ k_ ∨ P1_1_ k_ ∨ P1_2_ k_ ∨ P2_1_ k_ ∨ P2_2_ k_) ∨ w.heap.size ≤ k_) ∧ (k_ ≠ gb101 ∧ (k_ ≠ gb102 ∧ k_ ≠ gb103)))) _ _ l0_2 a1_0 (fun k_ => (((P0_1_ k_ ∨ P0_2_ k_ ∨ P1_1_ k_ ∨ P1_2_ k_ ∨ P2_1_ k_ ∨ P2_2_ k_) ∨ w.heap.size ≤ k_) ∧ (k_ ≠ gb101 ∧ (k_ ≠ gb102 ∧ k_ ≠ gb103)))) _ _ l1_1 (fun k_ => (((P0_1_ k_ ∨ P0_2_ k_ ∨ P1_1_ k_ ∨ P1_2_ k_ ∨ P2_1_ k_ ∨ P2_2_ k_) ∨ w.heap.size ≤ k_) ∧ (k_ ≠ gb101 ∧ (k_ ≠ gb102 ∧ k_ ≠ gb103)))) _ _ l1_2 t233 t234 t237 _ ?_ ?_ ?_ ?_ A129.out).mono ?_
         exact HO_102001.out
         exact HO_102002.out
         exact HO_103001.out
         exact HO_103002.out
         rintro e w148 ⟨v235, v238, rfl, ho0, ho1, hb⟩
         refine ⟨_, rfl, ?_⟩
         replace HO_102001 := vA HO_102001 hb
         replace HO_102002 := vA HO_102002 hb
         replace HO_103001 := vA HO_103001 hb
         replace HO_103002 := vA HO_103002 hb
         replace HO_104001 := vA HO_104001 hb
         replace HO_104002 := vA HO_104002 hb
         replace HO200 := vA HO200 hb
         replace HO203 := vA HO203 hb
         replace HO207 := vA HO207 hb
         replace HO210 := vA HO210 hb
         replace HO214 := vA HO214 hb
         replace HO217 := vA HO217 hb
         replace HO221 := vA HO221 hb
         replace HO224 := vA HO224 hb
         replace HO228 := vA HO228 hb
         replace HO231 := vA HO231 hb
         have HO236 := lw HB (fun k_ => ((P0_1_ k_ ∨ P0_2_ k_ ∨ P1_1_ k_ ∨ P1_2_ k_ ∨ P2_1_ k_ ∨ P2_2_ k_) ∨ w.heap.size ≤ k_) ∧ k_ ≠ gb101 ∧ k_ ≠ gb102 ∧ k_ ≠ gb103) ho0 (fun k_ hk_ => Or.elim hk_ (fun hs_ => Or.elim hs_ id (fun hs_ => Or.elim hs_ id (fun hs_ => Or.elim hs_ id id))) (fun hn_ => ⟨.inr (Nat.le_trans (below_size hB) hn_), kF BK101 hn_, kF BK102 hn_, kF BK103 hn_⟩))
         have HO239 := lw HB (fun k_ => ((P0_1_ k_ ∨ P0_2_ k_ ∨ P1_1_ k_ ∨ P1_2_ k_ ∨ P2_1_ k_ ∨ P2_2_ k_) ∨ w.heap.size ≤ k_) ∧ k_ ≠ gb101 ∧ k_ ≠ gb102 ∧ k_ ≠ gb103) ho1 (fun k_ hk_ => Or.elim hk_ (fun hs_ => Or.elim hs_ id (fun hs_ => Or.elim hs_ id (fun hs_ => Or.elim hs_ id id))) (fun hn_ => ⟨.inr (Nat.le_trans (below_size hB) hn_), kF BK101 hn_, kF BK102 hn_, kF BK103 hn_⟩))
         replace BK101 := kA BK101 hb
         replace BK102 := kA BK102 hb
         replace BK103 := kA BK103 hb
         replace HB := bS HB hb
         clear hb ho0 ho1
         obtain ⟨Ao149, co149, eo149⟩ := Kd.V_slice HO236.out
         (first | subst eo149 | (injection eo149 with f1_ f2_ f3_; have f4_ := f1_.symm; have f5_ := f3_.symm; clear f1_ f2_ f3_; subst f4_; subst f5_))
         obtain ⟨Ao150, co150, eo150⟩ := Kd.V_slice HO239.out
         (first | subst eo150 | (injection eo150 with f1_ f2_ f3_; have f4_ := f1_.symm; have f5_ := f3_.symm; clear f1_ f2_ f3_; subst f4_; subst f5_))
         refine hK.out _ _ ⟨b3 BK101, b3 BK102⟩ (fun hHeld => nm ?_)
         clear hK K
         refine on 4 (some 88) (tf 6 10) (fun K hK => ?_)
         refine gS Try.func88 #[.agg #[.bool t233, .slice Ao149 t234.length co149, .slice Ao150 t237.length co150], .agg #[.bool a1_0, .slice A1_1 l1_1.length c1_1, .slice A1_2 l1_2.length c1_2]] ?_
         with_reducible refine (ratio_R_Sub.calls kj51 t233 (fun k_ => (((P0_1_ k_ ∨ P0_2_ k_ ∨ P1_1_ k_ ∨ P1_2_ k_ ∨ P2_1_ k_ ∨ P2_2_ k_) ∨ w.heap.size ≤ k_) ∧ (k_ ≠ gb101 ∧ (k_ ≠ gb102 ∧ k_ ≠ gb103)))) _ _ t234 (fun k_ => (((P0_1_ k_ ∨ P0_2_ k_ ∨ P1_1_ k_ ∨ P1_2_ k_ ∨ P2_1_ k_ ∨ P2_2_ k_) ∨ w.heap.size ≤ k_) ∧ (k_ ≠ gb101 ∧ (k_ ≠ gb102 ∧ k_ ≠ gb103)))) _ _ t237 a1_0 (fun k_ => (((P0_1_ k_ ∨ P0_2_ k_ ∨ P1_1_ k_ ∨ P1_2_ k_ ∨ P2_1_ k_ ∨ P2_2_ k_) ∨ w.heap.size ≤ k_) ∧ (k_ ≠ gb101 ∧ (k_ ≠ gb102 ∧ k_ ≠ gb103)))) _ _ l1_1 (fun k_ => (((P0_1_ k_ ∨ P0_2_ k_ ∨ P1_1_ k_ ∨ P1_2_ k_ ∨ P2_1_ k_ ∨ P2_2_ k_) ∨ w.heap.size ≤ k_) ∧ (k_ ≠ gb101 ∧ (k_ ≠ gb102 ∧ k_ ≠ gb103)))) _ _ l1_2 t240 t241 t244 _ ?_ ?_ ?_ ?_ A130.out).mono ?_
         exact HO236.out
         exact HO239.out
         exact HO_103001.out
         exact HO_103002.out
         rintro e w151 ⟨v242, v245, rfl, ho0, ho1, hb⟩
         refine ⟨_, rfl, ?_⟩
         replace HO_102001 := vA HO_102001 hb
         replace HO_102002 := vA HO_102002 hb
         replace HO_103001 := vA HO_103001 hb
         replace HO_103002 := vA HO_103002 hb
         replace HO_104001 := vA HO_104001 hb
         replace HO_104002 := vA HO_104002 hb
         replace HO200 := vA HO200 hb
         replace HO203 := vA HO203 hb
         replace HO207 := vA HO207 hb
         replace HO210 := vA HO210 hb
         replace HO214 := vA HO214 hb
         replace HO217 := vA HO217 hb
         replace HO221 := vA HO221 hb
         replace HO224 := vA HO224 hb
         replace HO228 := vA HO228 hb
         replace HO231 := vA HO231 hb
         replace HO236 := vA HO236 hb
         replace HO239 := vA HO239 hb
         have HO243 := lw HB (fun k_ => ((P0_1_ k_ ∨ P0_2_ k_ ∨ P1_1_ k_ ∨ P1_2_ k_ ∨ P2_1_ k_ ∨ P2_2_ k_) ∨ w.heap.size ≤ k_) ∧ k_ ≠ gb101 ∧ k_ ≠ gb102 ∧ k_ ≠ gb103) ho0 (fun k_ hk_ => Or.elim hk_ (fun hs_ => Or.elim hs_ id (fun hs_ => Or.elim hs_ id (fun hs_ => Or.elim hs_ id id))) (fun hn_ => ⟨.inr (Nat.le_trans (below_size hB) hn_), kF BK101 hn_, kF BK102 hn_, kF BK103 hn_⟩))
         have HO246 := lw HB (fun k_ => ((P0_1_ k_ ∨ P0_2_ k_ ∨ P1_1_ k_ ∨ P1_2_ k_ ∨ P2_1_ k_ ∨ P2_2_ k_) ∨ w.heap.size ≤ k_) ∧ k_ ≠ gb101 ∧ k_ ≠ gb102 ∧ k_ ≠ gb103) ho1 (fun k_ hk_ => Or.elim hk_ (fun hs_ => Or.elim hs_ id (fun hs_ => Or.elim hs_ id (fun hs_ => Or.elim hs_ id id))) (fun hn_ => ⟨.inr (Nat.le_trans (below_size hB) hn_), kF BK101 hn_, kF BK102 hn_, kF BK103 hn_⟩))
         replace BK101 := kA BK101 hb
         replace BK102 := kA BK102 hb
         replace BK103 := kA BK103 hb
         replace HB := bS HB hb
         clear hb ho0 ho1
         obtain ⟨Ao152, co152, eo152⟩ := Kd.V_slice HO243.out
         (first | subst eo152 | (injection eo152 with f1_ f2_ f3_; have f4_ := f1_.symm; have f5_ := f3_.symm; clear f1_ f2_ f3_; subst f4_; subst f5_))
         obtain ⟨Ao153, co153, eo153⟩ := Kd.V_slice HO246.out
         (first | subst eo153 | (injection eo153 with f1_ f2_ f3_; have f4_ := f1_.symm; have f5_ := f3_.symm; clear f1_ f2_ f3_; subst f4_; subst f5_))
         refine hK.out _ _ ⟨b3 BK101, b3 BK102⟩ (fun hHeld => nm ?_)
         clear hK K
         refine on 6 (some 90) (tf 7 9) (fun K hK => ?_)
         refine gS Try.func58 #[.agg #[.bool t240, .slice Ao152 t241.length co152, .slice Ao153 t244.length co153], .agg #[.bool a0_0, .slice A0_1 l0_1.length c0_1, .slice A0_2 l0_2.length c0_2]] ?_
         with_reducible refine (ratio_R_Cmp.calls kj51 t240 _ _ t241 _ _ t244 a0_0 _ _ l0_1 _ _ l0_2 t247 _ ?_ ?_ ?_ ?_ ?_ ?_ ?_ ?_ A131.out).mono ?_
         exact cup ((Kd.V_reads' HO243.out).2.2)
         exact (Kd.V_reads' HO243.out).2.1
         exact cup ((Kd.V_reads' HO246.out).2.2)
         exact (Kd.V_reads' HO246.out).2.1
         exact cup ((Kd.V_reads' HO_102001.out).2.2)
         exact (Kd.V_reads' HO_102001.out).2.1
         exact cup ((Kd.V_reads' HO_102002.out).2.2)
         exact (Kd.V_reads' HO_102002.out).2.1
         rintro e w154 ⟨rfl, hb⟩
         refine ⟨_, rfl, ?_⟩
         replace HO_102001 := vA HO_102001 hb
         replace HO_102002 := vA HO_102002 hb
         replace HO_103001 := vA HO_103001 hb
         replace HO_103002 := vA HO_103002 hb
         replace HO_104001 := vA HO_104001 hb
         replace HO_104002 := vA HO_104002 hb
         replace HO200 := vA HO200 hb
         replace HO203 := vA HO203 hb
         replace HO207 := vA HO207 hb
         replace HO210 := vA HO210 hb
         replace HO214 := vA HO214 hb
         replace HO217 := vA HO217 hb
         replace HO221 := vA HO221 hb
         replace HO224 := vA HO224 hb
         replace HO228 := vA HO228 hb
         replace HO231 := vA HO231 hb
         replace HO236 := vA HO236 hb
         replace HO239 := vA HO239 hb
         replace HO243 := vA HO243 hb
         replace HO246 := vA HO246 hb
         replace BK101 := kA BK101 hb
         replace BK102 := kA BK102 hb
         replace BK103 := kA BK103 hb
         replace HB := bS HB hb
         clear hb
         refine hK.out _ _ ⟨b3 BK101, b3 BK102⟩ (fun hHeld => nm ?_)
         clear hK K
         refine pu 7 91 (tf 8 8) ?_
         refine pu 8 92 (tf 9 7) ?_
         refine pure_ (i := 9) (N := some 93) (v := undef) (a' := ?_) (tf 10 6) rfl rfl (any_of HT_.out (by kernel_rfl)) (fun _ _ _ h => h) (Or.inr ⟨by rfl, rfl⟩) ?_ ?_
         rotate_left
         ·simp only [Act.put, List.setIfInBounds_toArray, List.set_cons_zero, List.set_cons_succ, i64_w, i32_w]
          rfl
         refine pure_ (i := 10) (N := some 94) (v := undef) (a' := ?_) (tf 11 5) rfl rfl (any_of HT_.out (by kernel_rfl)) (fun _ _ _ h => h) (Or.inr ⟨by rfl, rfl⟩) ?_ ?_
         rotate_left
         ·simp only [Act.put, List.setIfInBounds_toArray, List.set_cons_zero, List.set_cons_succ, i64_w, i32_w]
          rfl
         refine pure_ (i := 11) (N := some 95) (v := undef) (a' := ?_) (tf 12 4) rfl rfl (any_of HT_.out (by kernel_rfl)) (fun _ _ _ h => h) (Or.inr ⟨by rfl, rfl⟩) ?_ ?_
         rotate_left
         ·simp only [Act.put, List.setIfInBounds_toArray, List.set_cons_zero, List.set_cons_succ, i64_w, i32_w]
          rfl
         refine pure_ (i := 12) (N := some 96) (v := undef) (a' := ?_) (tf 13 3) rfl rfl (any_of HT_.out (by kernel_rfl)) (fun _ _ _ h => h) (Or.inr ⟨by rfl, rfl⟩) ?_ ?_
         rotate_left
         ·simp only [Act.put, List.setIfInBounds_toArray, List.set_cons_zero, List.set_cons_succ, i64_w, i32_w]
          rfl
         refine pure_ (i := 13) (N := some 97) (v := undef) (a' := ?_) (tf 14 2) rfl rfl (any_of HT_.out (by kernel_rfl)) (fun _ _ _ h => h) (Or.inr ⟨by rfl, rfl⟩) ?_ ?_
         rotate_left
         ·simp only [Act.put, List.setIfInBounds_toArray, List.set_cons_zero, List.set_cons_succ, i64_w, i32_w]
          rfl
         refine pu 14 98 (tf 15 1) ?_
         refine pu 15 12 (tf 16 0) ?_
         refine done_ (done_of HT_.out (by kernel_rfl)) ?_
         try go_wp2
         go_meet
         case rel => exact ⟨_, (false), rS, H', ⟨by have := HJ7.out; have := HJ51.out; first | omega | exact Nat.le_refl _⟩, ⟨vup HO_102001.out⟩, ⟨vup HO_102002.out⟩, ⟨vup HO_103001.out⟩, ⟨vup HO_103002.out⟩, ⟨vup HO_104001.out⟩, ⟨vup HO_104002.out⟩, ⟨by exact kU BK101⟩, ⟨by exact kU BK102⟩, ⟨by exact kU BK103⟩, ⟨hB⟩⟩
        rw [if_pos c132] at H
        obtain ⟨c132b0, c132b1⟩ := bqT c132
        clear c132
        (first | rw [c132b0] | (simp only [i64_w, i32_w]; rw [c132b0]) | skip)
        replace H := bi H
        obtain ⟨⟨t248, t249, t252⟩, A133, H⟩ := H
        try dsimp only at H
        replace H := bi H
        obtain ⟨t255, A134, H⟩ := H
        have H' := Aside0.mk H
        clear H
        try go_wp2
        replace HO_102001 := Aside0.mk (Kd.V_drew HO_102001.out)
        replace HO_102002 := Aside0.mk (Kd.V_drew HO_102002.out)
        replace HO_103001 := Aside0.mk (Kd.V_drew HO_103001.out)
        replace HO_103002 := Aside0.mk (Kd.V_drew HO_103002.out)
        replace HO_104001 := Aside0.mk (Kd.V_drew HO_104001.out)
        replace HO_104002 := Aside0.mk (Kd.V_drew HO_104002.out)
        replace HO200 := vd HO200
        replace HO203 := vd HO203
        replace HO207 := vd HO207
        replace HO210 := vd HO210
        replace HO214 := vd HO214
        replace HO217 := vd HO217
        replace HO221 := vd HO221
        replace HO224 := vd HO224
        replace HO228 := vd HO228
        replace HO231 := vd HO231
        replace BK101 := kd BK101
        replace BK102 := kd BK102
        replace BK103 := kd BK103
        replace HB := bd HB
        refine st (S := fun w' => B3 w' gb101 (.bool a0_0) (.slice A0_1 l0_1.length c0_1) (.slice A0_2 l0_2.length c0_2) ∧ B3 w' gb102 (.bool a1_0) (.slice A1_1 l1_1.length c1_1) (.slice A1_2 l1_2.length c1_2)) 16 [] (tf 0 16) ⟨b3 BK101, b3 BK102⟩ (fun hHeld => ?_); refine with_tabW flyballlaw03_RatioField.tab10 flyballlaw03_RatioField.bits10 (fun HT_ HW_ => ?_)
        generalize w128.drew = w135 at HO_102001 HO_102002 HO_103001 HO_103002 HO_104001 HO_104002 HO200 HO203 HO207 HO210 HO214 HO217 HO221 HO224 HO228 HO231 BK101 BK102 BK103 HB hHeld ⊢
        refine tk 0 84 (tf 1 15) hHeld ?_
        refine tk 1 85 (tf 2 14) hHeld ?_
        refine tk 3 87 #[true, true, false, true, false, false, false, false, false, false, false, false, false, false, false, false] hHeld ?_
        refine tk 5 89 #[true, true, false, true, false, true, false, false, false, false, false, false, false, false, false, false] hHeld ?_
        refine on 2 (some 86) #[true, true, true, true, false, true, false, false, false, false, false, false, false, false, false, false] (fun K hK => ?_)
        refine gS Try.func86 #[.agg #[.bool a0_0, .slice A0_1 l0_1.length c0_1, .slice A0_2 l0_2.length c0_2], .agg #[.bool a1_0, .slice A1_1 l1_1.length c1_1, .slice A1_2 l1_2.length c1_2]] ?_
        with_reducible refine (ratio_R_Add.calls kj51 a0_0 (fun k_ => (((P0_1_ k_ ∨ P0_2_ k_ ∨ P1_1_ k_ ∨ P1_2_ k_ ∨ P2_1_ k_ ∨ P2_2_ k_) ∨ w.heap.size ≤ k_) ∧ (k_ ≠ gb101 ∧ (k_ ≠ gb102 ∧ k_ ≠ gb103)))) _ _ l0_1 (fun k_ => (((P0_1_ k_ ∨ P0_2_ k_ ∨ P1_1_ k_ ∨ P1_2_ k_ ∨ P2_1_ k_ ∨ P2_2_ k_) ∨ w.heap.size ≤ k_) ∧ (k_ ≠ gb101 ∧ (k_ ≠ gb102 ∧ k_ ≠ gb103)))) _ _ l0_2 a1_0 (fun k_ => (((P0_1_ k_ ∨ P0_2_ k_ ∨ P1_1_ k_ ∨ P1_2_ k_ ∨ P2_1_ k_ ∨ P2_2_ k_) ∨ w.heap.size ≤ k_) ∧ (k_ ≠ gb101 ∧ (k_ ≠ gb102 ∧ k_ ≠ gb103)))) _ _ l1_1 (fun k_ => (((P0_1_ k_ ∨ P0_2_ k_ ∨ P1_1_ k_ ∨ P1_2_ k_ ∨ P2_1_ k_ ∨ P2_2_ k_) ∨ w.heap.size ≤ k_) ∧ (k_ ≠ gb101 ∧ (k_ ≠ gb102 ∧ k_ ≠ gb103)))) _ _ l1_2 t233 t234 t237 _ ?_ ?_ ?_ ?_ A129.out).mono ?_
        exact HO_102001.out
        exact HO_102002.out
        exact HO_103001.out
        exact HO_103002.out
        rintro e w136 ⟨v235, v238, rfl, ho0, ho1, hb⟩
        refine ⟨_, rfl, ?_⟩
        replace HO_102001 := vA HO_102001 hb
        replace HO_102002 := vA HO_102002 hb
        replace HO_103001 := vA HO_103001 hb
        replace HO_103002 := vA HO_103002 hb
        replace HO_104001 := vA HO_104001 hb
        replace HO_104002 := vA HO_104002 hb
        replace HO200 := vA HO200 hb
        replace HO203 := vA HO203 hb
        replace HO207 := vA HO207 hb
        replace HO210 := vA HO210 hb
        replace HO214 := vA HO214 hb
        replace HO217 := vA HO217 hb
        replace HO221 := vA HO221 hb
        replace HO224 := vA HO224 hb
        replace HO228 := vA HO228 hb
        replace HO231 := vA HO231 hb
        have HO236 := lw HB (fun k_ => ((P0_1_ k_ ∨ P0_2_ k_ ∨ P1_1_ k_ ∨ P1_2_ k_ ∨ P2_1_ k_ ∨ P2_2_ k_) ∨ w.heap.size ≤ k_) ∧ k_ ≠ gb101 ∧ k_ ≠ gb102 ∧ k_ ≠ gb103) ho0 (fun k_ hk_ => Or.elim hk_ (fun hs_ => Or.elim hs_ id (fun hs_ => Or.elim hs_ id (fun hs_ => Or.elim hs_ id id))) (fun hn_ => ⟨.inr (Nat.le_trans (below_size hB) hn_), kF BK101 hn_, kF BK102 hn_, kF BK103 hn_⟩))
        have HO239 := lw HB (fun k_ => ((P0_1_ k_ ∨ P0_2_ k_ ∨ P1_1_ k_ ∨ P1_2_ k_ ∨ P2_1_ k_ ∨ P2_2_ k_) ∨ w.heap.size ≤ k_) ∧ k_ ≠ gb101 ∧ k_ ≠ gb102 ∧ k_ ≠ gb103) ho1 (fun k_ hk_ => Or.elim hk_ (fun hs_ => Or.elim hs_ id (fun hs_ => Or.elim hs_ id (fun hs_ => Or.elim hs_ id id))) (fun hn_ => ⟨.inr (Nat.le_trans (below_size hB) hn_), kF BK101 hn_, kF BK102 hn_, kF BK103 hn_⟩))
        replace BK101 := kA BK101 hb
        replace BK102 := kA BK102 hb
        replace BK103 := kA BK103 hb
        replace HB := bS HB hb
        clear hb ho0 ho1
        obtain ⟨Ao137, co137, eo137⟩ := Kd.V_slice HO236.out
        (first | subst eo137 | (injection eo137 with f1_ f2_ f3_; have f4_ := f1_.symm; have f5_ := f3_.symm; clear f1_ f2_ f3_; subst f4_; subst f5_))
        obtain ⟨Ao138, co138, eo138⟩ := Kd.V_slice HO239.out
        (first | subst eo138 | (injection eo138 with f1_ f2_ f3_; have f4_ := f1_.symm; have f5_ := f3_.symm; clear f1_ f2_ f3_; subst f4_; subst f5_))
        refine hK.out _ _ ⟨b3 BK101, b3 BK102⟩ (fun hHeld => nm ?_)
        clear hK K
        refine on 4 (some 88) (tf 6 10) (fun K hK => ?_)
        refine gS Try.func88 #[.agg #[.bool t233, .slice Ao137 t234.length co137, .slice Ao138 t237.length co138], .agg #[.bool a1_0, .slice A1_1 l1_1.length c1_1, .slice A1_2 l1_2.length c1_2]] ?_
        with_reducible refine (ratio_R_Sub.calls kj51 t233 (fun k_ => (((P0_1_ k_ ∨ P0_2_ k_ ∨ P1_1_ k_ ∨ P1_2_ k_ ∨ P2_1_ k_ ∨ P2_2_ k_) ∨ w.heap.size ≤ k_) ∧ (k_ ≠ gb101 ∧ (k_ ≠ gb102 ∧ k_ ≠ gb103)))) _ _ t234 (fun k_ => (((P0_1_ k_ ∨ P0_2_ k_ ∨ P1_1_ k_ ∨ P1_2_ k_ ∨ P2_1_ k_ ∨ P2_2_ k_) ∨ w.heap.size ≤ k_) ∧ (k_ ≠ gb101 ∧ (k_ ≠ gb102 ∧ k_ ≠ gb103)))) _ _ t237 a1_0 (fun k_ => (((P0_1_ k_ ∨ P0_2_ k_ ∨ P1_1_ k_ ∨ P1_2_ k_ ∨ P2_1_ k_ ∨ P2_2_ k_) ∨ w.heap.size ≤ k_) ∧ (k_ ≠ gb101 ∧ (k_ ≠ gb102 ∧ k_ ≠ gb103)))) _ _ l1_1 (fun k_ => (((P0_1_ k_ ∨ P0_2_ k_ ∨ P1_1_ k_ ∨ P1_2_ k_ ∨ P2_1_ k_ ∨ P2_2_ k_) ∨ w.heap.size ≤ k_) ∧ (k_ ≠ gb101 ∧ (k_ ≠ gb102 ∧ k_ ≠ gb103)))) _ _ l1_2 t240 t241 t244 _ ?_ ?_ ?_ ?_ A130.out).mono ?_
        exact HO236.out
        exact HO239.out
        exact HO_103001.out
        exact HO_103002.out
        rintro e w139 ⟨v242, v245, rfl, ho0, ho1, hb⟩
        refine ⟨_, rfl, ?_⟩
        replace HO_102001 := vA HO_102001 hb
        replace HO_102002 := vA HO_102002 hb
        replace HO_103001 := vA HO_103001 hb
        replace HO_103002 := vA HO_103002 hb
        replace HO_104001 := vA HO_104001 hb
        replace HO_104002 := vA HO_104002 hb
        replace HO200 := vA HO200 hb
        replace HO203 := vA HO203 hb
        replace HO207 := vA HO207 hb
        replace HO210 := vA HO210 hb
        replace HO214 := vA HO214 hb
        replace HO217 := vA HO217 hb
        replace HO221 := vA HO221 hb
        replace HO224 := vA HO224 hb
        replace HO228 := vA HO228 hb
        replace HO231 := vA HO231 hb
        replace HO236 := vA HO236 hb
        replace HO239 := vA HO239 hb
        have HO243 := lw HB (fun k_ => ((P0_1_ k_ ∨ P0_2_ k_ ∨ P1_1_ k_ ∨ P1_2_ k_ ∨ P2_1_ k_ ∨ P2_2_ k_) ∨ w.heap.size ≤ k_) ∧ k_ ≠ gb101 ∧ k_ ≠ gb102 ∧ k_ ≠ gb103) ho0 (fun k_ hk_ => Or.elim hk_ (fun hs_ => Or.elim hs_ id (fun hs_ => Or.elim hs_ id (fun hs_ => Or.elim hs_ id id))) (fun hn_ => ⟨.inr (Nat.le_trans (below_size hB) hn_), kF BK101 hn_, kF BK102 hn_, kF BK103 hn_⟩))
        have HO246 := lw HB (fun k_ => ((P0_1_ k_ ∨ P0_2_ k_ ∨ P1_1_ k_ ∨ P1_2_ k_ ∨ P2_1_ k_ ∨ P2_2_ k_) ∨ w.heap.size ≤ k_) ∧ k_ ≠ gb101 ∧ k_ ≠ gb102 ∧ k_ ≠ gb103) ho1 (fun k_ hk_ => Or.elim hk_ (fun hs_ => Or.elim hs_ id (fun hs_ => Or.elim hs_ id (fun hs_ => Or.elim hs_ id id))) (fun hn_ => ⟨.inr (Nat.le_trans (below_size hB) hn_), kF BK101 hn_, kF BK102 hn_, kF BK103 hn_⟩))
        replace BK101 := kA BK101 hb
        replace BK102 := kA BK102 hb
        replace BK103 := kA BK103 hb
        replace HB := bS HB hb
        clear hb ho0 ho1
        obtain ⟨Ao140, co140, eo140⟩ := Kd.V_slice HO243.out
        (first | subst eo140 | (injection eo140 with f1_ f2_ f3_; have f4_ := f1_.symm; have f5_ := f3_.symm; clear f1_ f2_ f3_; subst f4_; subst f5_))
        obtain ⟨Ao141, co141, eo141⟩ := Kd.V_slice HO246.out
        (first | subst eo141 | (injection eo141 with f1_ f2_ f3_; have f4_ := f1_.symm; have f5_ := f3_.symm; clear f1_ f2_ f3_; subst f4_; subst f5_))
        refine hK.out _ _ ⟨b3 BK101, b3 BK102⟩ (fun hHeld => nm ?_)
        clear hK K
        refine on 6 (some 90) (tf 7 9) (fun K hK => ?_)
        refine gS Try.func58 #[.agg #[.bool t240, .slice Ao140 t241.length co140, .slice Ao141 t244.length co141], .agg #[.bool a0_0, .slice A0_1 l0_1.length c0_1, .slice A0_2 l0_2.length c0_2]] ?_
        with_reducible refine (ratio_R_Cmp.calls kj51 t240 _ _ t241 _ _ t244 a0_0 _ _ l0_1 _ _ l0_2 t247 _ ?_ ?_ ?_ ?_ ?_ ?_ ?_ ?_ A131.out).mono ?_
        exact cup ((Kd.V_reads' HO243.out).2.2)
        exact (Kd.V_reads' HO243.out).2.1
        exact cup ((Kd.V_reads' HO246.out).2.2)
        exact (Kd.V_reads' HO246.out).2.1
        exact cup ((Kd.V_reads' HO_102001.out).2.2)
        exact (Kd.V_reads' HO_102001.out).2.1
        exact cup ((Kd.V_reads' HO_102002.out).2.2)
        exact (Kd.V_reads' HO_102002.out).2.1
        rintro e w142 ⟨rfl, hb⟩
        refine ⟨_, rfl, ?_⟩
        replace HO_102001 := vA HO_102001 hb
        replace HO_102002 := vA HO_102002 hb
        replace HO_103001 := vA HO_103001 hb
        replace HO_103002 := vA HO_103002 hb
        replace HO_104001 := vA HO_104001 hb
        replace HO_104002 := vA HO_104002 hb
        replace HO200 := vA HO200 hb
        replace HO203 := vA HO203 hb
        replace HO207 := vA HO207 hb
        replace HO210 := vA HO210 hb
        replace HO214 := vA HO214 hb
        replace HO217 := vA HO217 hb
        replace HO221 := vA HO221 hb
        replace HO224 := vA HO224 hb
        replace HO228 := vA HO228 hb
        replace HO231 := vA HO231 hb
        replace HO236 := vA HO236 hb
        replace HO239 := vA HO239 hb
        replace HO243 := vA HO243 hb
        replace HO246 := vA HO246 hb
        replace BK101 := kA BK101 hb
        replace BK102 := kA BK102 hb
        replace BK103 := kA BK103 hb
        replace HB := bS HB hb
        clear hb
        refine hK.out _ _ ⟨b3 BK101, b3 BK102⟩ (fun hHeld => nm ?_)
        clear hK K
        refine pu 7 91 (tf 8 8) ?_
        refine pu 8 92 (tf 9 7) ?_
        refine tk 9 93 (tf 10 6) hHeld ?_
        refine tk 10 94 (tf 11 5) hHeld ?_
        refine on 11 (some 95) (tf 12 4) (fun K hK => ?_)
        refine gS Try.func88 #[.agg #[.bool a0_0, .slice A0_1 l0_1.length c0_1, .slice A0_2 l0_2.length c0_2], .agg #[.bool a0_0, .slice A0_1 l0_1.length c0_1, .slice A0_2 l0_2.length c0_2]] ?_
        with_reducible refine (ratio_R_Sub.calls kj51 a0_0 (fun k_ => (((P0_1_ k_ ∨ P0_2_ k_ ∨ P1_1_ k_ ∨ P1_2_ k_ ∨ P2_1_ k_ ∨ P2_2_ k_) ∨ w.heap.size ≤ k_) ∧ (k_ ≠ gb101 ∧ (k_ ≠ gb102 ∧ k_ ≠ gb103)))) _ _ l0_1 (fun k_ => (((P0_1_ k_ ∨ P0_2_ k_ ∨ P1_1_ k_ ∨ P1_2_ k_ ∨ P2_1_ k_ ∨ P2_2_ k_) ∨ w.heap.size ≤ k_) ∧ (k_ ≠ gb101 ∧ (k_ ≠ gb102 ∧ k_ ≠ gb103)))) _ _ l0_2 a0_0 (fun k_ => (((P0_1_ k_ ∨ P0_2_ k_ ∨ P1_1_ k_ ∨ P1_2_ k_ ∨ P2_1_ k_ ∨ P2_2_ k_) ∨ w.heap.size ≤ k_) ∧ (k_ ≠ gb101 ∧ (k_ ≠ gb102 ∧ k_ ≠ gb103)))) _ _ l0_1 (fun k_ => (((P0_1_ k_ ∨ P0_2_ k_ ∨ P1_1_ k_ ∨ P1_2_ k_ ∨ P2_1_ k_ ∨ P2_2_ k_) ∨ w.heap.size ≤ k_) ∧ (k_ ≠ gb101 ∧ (k_ ≠ gb102 ∧ k_ ≠ gb103)))) _ _ l0_2 t248 t249 t252 _ ?_ ?_ ?_ ?_ A133.out).mono ?_
        exact HO_102001.out
        exact HO_102002.out
        exact HO_102001.out
        exact HO_102002.out
        rintro e w143 ⟨v250, v253, rfl, ho0, ho1, hb⟩
        refine ⟨_, rfl, ?_⟩
        replace HO_102001 := vA HO_102001 hb
        replace HO_102002 := vA HO_102002 hb
        replace HO_103001 := vA HO_103001 hb
        replace HO_103002 := vA HO_103002 hb
        replace HO_104001 := vA HO_104001 hb
        replace HO_104002 := vA HO_104002 hb
        replace HO200 := vA HO200 hb
        replace HO203 := vA HO203 hb
        replace HO207 := vA HO207 hb
        replace HO210 := vA HO210 hb
        replace HO214 := vA HO214 hb
        replace HO217 := vA HO217 hb
        replace HO221 := vA HO221 hb
        replace HO224 := vA HO224 hb
        replace HO228 := vA HO228 hb
        replace HO231 := vA HO231 hb
        replace HO236 := vA HO236 hb
        replace HO239 := vA HO239 hb
        replace HO243 := vA HO243 hb
        replace HO246 := vA HO246 hb
        have HO251 := lw HB (fun k_ => ((P0_1_ k_ ∨ P0_2_ k_ ∨ P1_1_ k_ ∨ P1_2_ k_ ∨ P2_1_ k_ ∨ P2_2_ k_) ∨ w.heap.size ≤ k_) ∧ k_ ≠ gb101 ∧ k_ ≠ gb102 ∧ k_ ≠ gb103) ho0 (fun k_ hk_ => Or.elim hk_ (fun hs_ => Or.elim hs_ id (fun hs_ => Or.elim hs_ id (fun hs_ => Or.elim hs_ id id))) (fun hn_ => ⟨.inr (Nat.le_trans (below_size hB) hn_), kF BK101 hn_, kF BK102 hn_, kF BK103 hn_⟩))
        have HO254 := lw HB (fun k_ => ((P0_1_ k_ ∨ P0_2_ k_ ∨ P1_1_ k_ ∨ P1_2_ k_ ∨ P2_1_ k_ ∨ P2_2_ k_) ∨ w.heap.size ≤ k_) ∧ k_ ≠ gb101 ∧ k_ ≠ gb102 ∧ k_ ≠ gb103) ho1 (fun k_ hk_ => Or.elim hk_ (fun hs_ => Or.elim hs_ id (fun hs_ => Or.elim hs_ id (fun hs_ => Or.elim hs_ id id))) (fun hn_ => ⟨.inr (Nat.le_trans (below_size hB) hn_), kF BK101 hn_, kF BK102 hn_, kF BK103 hn_⟩))
        replace BK101 := kA BK101 hb
        replace BK102 := kA BK102 hb
        replace BK103 := kA BK103 hb
        replace HB := bS HB hb
        clear hb ho0 ho1
        obtain ⟨Ao144, co144, eo144⟩ := Kd.V_slice HO251.out
        (first | subst eo144 | (injection eo144 with f1_ f2_ f3_; have f4_ := f1_.symm; have f5_ := f3_.symm; clear f1_ f2_ f3_; subst f4_; subst f5_))
        obtain ⟨Ao145, co145, eo145⟩ := Kd.V_slice HO254.out
        (first | subst eo145 | (injection eo145 with f1_ f2_ f3_; have f4_ := f1_.symm; have f5_ := f3_.symm; clear f1_ f2_ f3_; subst f4_; subst f5_))
        refine hK.out _ _ ⟨b3 BK101, b3 BK102⟩ (fun hHeld => nm ?_)
        clear hK K
        refine on 12 (some 96) (tf 13 3) (fun K hK => ?_)
        refine gS Try.func57 #[.agg #[.bool t248, .slice Ao144 t249.length co144, .slice Ao145 t252.length co145]] ?_
        with_reducible refine (ratio_R_Sign.calls kj51 t248 _ _ t249 _ _ t252 t255 _ ?_ ?_ ?_ ?_ A134.out).mono ?_
        exact cup ((Kd.V_reads' HO251.out).2.2)
        exact (Kd.V_reads' HO251.out).2.1
        exact cup ((Kd.V_reads' HO254.out).2.2)
        exact (Kd.V_reads' HO254.out).2.1
        rintro e w146 ⟨rfl, hb⟩
        refine ⟨_, rfl, ?_⟩
        replace HO_102001 := vA HO_102001 hb
        replace HO_102002 := vA HO_102002 hb
        replace HO_103001 := vA HO_103001 hb
        replace HO_103002 := vA HO_103002 hb
        replace HO_104001 := vA HO_104001 hb
        replace HO_104002 := vA HO_104002 hb
        replace HO200 := vA HO200 hb
        replace HO203 := vA HO203 hb
        replace HO207 := vA HO207 hb
        replace HO210 := vA HO210 hb
        replace HO214 := vA HO214 hb
        replace HO217 := vA HO217 hb
        replace HO221 := vA HO221 hb
        replace HO224 := vA HO224 hb
        replace HO228 := vA HO228 hb
        replace HO231 := vA HO231 hb
        replace HO236 := vA HO236 hb
        replace HO239 := vA HO239 hb
        replace HO243 := vA HO243 hb
        replace HO246 := vA HO246 hb
        replace HO251 := vA HO251 hb
        replace HO254 := vA HO254 hb
        replace BK101 := kA BK101 hb
        replace BK102 := kA BK102 hb
        replace BK103 := kA BK103 hb
        replace HB := bS HB hb
        clear hb
        refine hK.out _ _ ⟨b3 BK101, b3 BK102⟩ (fun hHeld => nm ?_)
        clear hK K
        refine pu 13 97 (tf 14 2) ?_
        refine pu 14 98 (tf 15 1) ?_
        refine pu 15 12 (tf 16 0) ?_
        refine done_ (done_of HT_.out (by kernel_rfl)) ?_
        try go_wp2
        go_meet
        case rel => exact ⟨_, ((t255 == 0)), rS, H', ⟨by have := HJ7.out; have := HJ51.out; first | omega | exact Nat.le_refl _⟩, ⟨vup HO_102001.out⟩, ⟨vup HO_102002.out⟩, ⟨vup HO_103001.out⟩, ⟨vup HO_103002.out⟩, ⟨vup HO_104001.out⟩, ⟨vup HO_104002.out⟩, ⟨by exact kU BK101⟩, ⟨by exact kU BK102⟩, ⟨by exact kU BK103⟩, ⟨hB⟩⟩
       case rest =>
        clear HC111
        try clear c1
        try clear c2
        try clear p2
        try clear c5
        try clear c8
        try clear c13
        try clear c57
        try clear c58
        try clear c86
        try clear c88
        try clear c132
        try clear c132b0
        try clear c132b1
        obtain ⟨kq, x12_110, rfl, HA, HJ110, HO_102001, HO_102002, HO_103001, HO_103002, HO_104001, HO_104002, BK101, BK102, BK103, HB⟩ := hcut
        cases kq with
        | zero => exact absurd HA.out (by simp [flyballlaw03_RatioField.j2])
        | succ kj110 =>
         have H := HA.out
         clear HA
         simp only [flyballlaw03_RatioField.j2] at H
         replace H := bi H
         obtain ⟨⟨t256, t257, t260⟩, A155, H⟩ := H
         try dsimp only at H
         replace H := bi H
         obtain ⟨⟨t263, t264, t267, t270⟩, A156, H⟩ := H
         try dsimp only at H
         replace H := bi H
         obtain ⟨t272, A157, H⟩ := H
         by_cases c158 : t272 = 0
         ·rw [if_pos c158] at H
          obtain ⟨c158b0, c158b1⟩ := bqT c158
          clear c158
          by_cases c159 : (true : Bool) = true
          ·clear c159
           replace H := ifT H
           by_cases c160 : x9_7 = true
           ·subst c160
            replace H := ifT H
            by_cases c161 : x10_51 = true
            ·subst c161
             replace H := ifT H
             replace H := iS H
             obtain ⟨c162, H⟩ := H
             have c162b0 : (t232 == 0) = true := c162
             (try (have c162b1 : decide (t232 = 0) = true := by simpa using c162))
             (try (have c162b2 : (t232 == 0) = true := by simpa using c162))
             clear c162
             by_cases c163 : x12_110 = true
             ·subst c163
              replace H := ifT H
              have HT_ := Option.some.inj H
              clear H
              try go_wp2
              replace HO_102001 := Aside0.mk (Kd.V_drew HO_102001.out)
              replace HO_102002 := Aside0.mk (Kd.V_drew HO_102002.out)
              replace HO_103001 := Aside0.mk (Kd.V_drew HO_103001.out)
              replace HO_103002 := Aside0.mk (Kd.V_drew HO_103002.out)
              replace HO_104001 := Aside0.mk (Kd.V_drew HO_104001.out)
              replace HO_104002 := Aside0.mk (Kd.V_drew HO_104002.out)
              replace BK101 := kd BK101
              replace BK102 := kd BK102
              replace BK103 := kd BK103
              replace HB := bd HB
              refine st (S := fun w' => B3 w' gb101 (.bool a0_0) (.slice A0_1 l0_1.length c0_1) (.slice A0_2 l0_2.length c0_2) ∧ B3 w' gb102 (.bool a1_0) (.slice A1_1 l1_1.length c1_1) (.slice A1_2 l1_2.length c1_2)) 11 [] (tf 0 11) ⟨b3 BK101, b3 BK102⟩ (fun hHeld => ?_); refine with_tabW flyballlaw03_RatioField.tab11 flyballlaw03_RatioField.bits11 (fun HT_ HW_ => ?_)
              generalize wc.drew = w164 at HO_102001 HO_102002 HO_103001 HO_103002 HO_104001 HO_104002 BK101 BK102 BK103 HB hHeld ⊢
              refine tk 0 100 (tf 1 10) hHeld ?_
              refine tk 1 101 (tf 2 9) hHeld ?_
              refine tk 3 103 #[true, true, false, true, false, false, false, false, false, false, false] hHeld ?_
              refine join_ (σ := Value × Value × Value × Value × Nat) 2 (tf 9 2) (fun s_ => [(102, .agg #[.bool t256, s_.1, s_.2.1]), (104, .tuple #[.agg #[.bool t263, s_.2.2.1, s_.2.2.2.1], .int .i64 t270]), (13, .pointer (some ⟨s_.2.2.2.2, 0, none⟩)), (99, .tuple #[.agg #[.bool t263, s_.2.2.1, s_.2.2.2.1], .int .i64 t270]), (105, .agg #[.bool t263, s_.2.2.1, s_.2.2.2.1]), (106, .int .i64 t270)]) (fun s_ w' => (B3 w' gb101 (.bool a0_0) (.slice A0_1 l0_1.length c0_1) (.slice A0_2 l0_2.length c0_2) ∧ B3 w' gb102 (.bool a1_0) (.slice A1_1 l1_1.length c1_1) (.slice A1_2 l1_2.length c1_2)) ∧ (Kd.V (Kd.int .u32) 118 w' w.heap.size (fun k_ => ((P0_1_ k_ ∨ P0_2_ k_ ∨ P1_1_ k_ ∨ P1_2_ k_ ∨ P2_1_ k_ ∨ P2_2_ k_) ∨ w.heap.size ≤ k_) ∧ k_ ≠ gb101 ∧ k_ ≠ gb102 ∧ k_ ≠ gb103 ∧ k_ ≠ s_.2.2.2.2) s_.1 t257) ∧ (Kd.V (Kd.int .u32) 118 w' w.heap.size (fun k_ => ((P0_1_ k_ ∨ P0_2_ k_ ∨ P1_1_ k_ ∨ P1_2_ k_ ∨ P2_1_ k_ ∨ P2_2_ k_) ∨ w.heap.size ≤ k_) ∧ k_ ≠ gb101 ∧ k_ ≠ gb102 ∧ k_ ≠ gb103 ∧ k_ ≠ s_.2.2.2.2) s_.2.1 t260) ∧ (Kd.V (Kd.int .u32) 118 w' w.heap.size (fun k_ => ((P0_1_ k_ ∨ P0_2_ k_ ∨ P1_1_ k_ ∨ P1_2_ k_ ∨ P2_1_ k_ ∨ P2_2_ k_) ∨ w.heap.size ≤ k_) ∧ k_ ≠ gb101 ∧ k_ ≠ gb102 ∧ k_ ≠ gb103 ∧ k_ ≠ s_.2.2.2.2) s_.2.2.1 t264) ∧ (Kd.V (Kd.int .u32) 118 w' w.heap.size (fun k_ => ((P0_1_ k_ ∨ P0_2_ k_ ∨ P1_1_ k_ ∨ P1_2_ k_ ∨ P2_1_ k_ ∨ P2_2_ k_) ∨ w.heap.size ≤ k_) ∧ k_ ≠ gb101 ∧ k_ ≠ gb102 ∧ k_ ≠ gb103 ∧ k_ ≠ s_.2.2.2.2) s_.2.2.2.1 t267) ∧ (Kd.V (Kd.int .u32) 118 w' w.heap.size (fun k_ => ((P0_1_ k_ ∨ P0_2_ k_ ∨ P1_1_ k_ ∨ P1_2_ k_ ∨ P2_1_ k_ ∨ P2_2_ k_) ∨ w.heap.size ≤ k_) ∧ k_ ≠ gb101 ∧ k_ ≠ gb102 ∧ k_ ≠ gb103 ∧ k_ ≠ s_.2.2.2.2) (.slice A0_1 l0_1.length c0_1) l0_1) ∧ (Kd.V (Kd.int .u32) 118 w' w.heap.size (fun k_ => ((P0_1_ k_ ∨ P0_2_ k_ ∨ P1_1_ k_ ∨ P1_2_ k_ ∨ P2_1_ k_ ∨ P2_2_ k_) ∨ w.heap.size ≤ k_) ∧ k_ ≠ gb101 ∧ k_ ≠ gb102 ∧ k_ ≠ gb103 ∧ k_ ≠ s_.2.2.2.2) (.slice A0_2 l0_2.length c0_2) l0_2) ∧ (Kd.V (Kd.int .u32) 118 w' w.heap.size (fun k_ => ((P0_1_ k_ ∨ P0_2_ k_ ∨ P1_1_ k_ ∨ P1_2_ k_ ∨ P2_1_ k_ ∨ P2_2_ k_) ∨ w.heap.size ≤ k_) ∧ k_ ≠ gb101 ∧ k_ ≠ gb102 ∧ k_ ≠ gb103 ∧ k_ ≠ s_.2.2.2.2) (.slice A1_1 l1_1.length c1_1) l1_1) ∧ (Kd.V (Kd.int .u32) 118 w' w.heap.size (fun k_ => ((P0_1_ k_ ∨ P0_2_ k_ ∨ P1_1_ k_ ∨ P1_2_ k_ ∨ P2_1_ k_ ∨ P2_2_ k_) ∨ w.heap.size ≤ k_) ∧ k_ ≠ gb101 ∧ k_ ≠ gb102 ∧ k_ ≠ gb103 ∧ k_ ≠ s_.2.2.2.2) (.slice A1_2 l1_2.length c1_2) l1_2) ∧ (Kd.V (Kd.int .u32) 118 w' w.heap.size (fun k_ => ((P0_1_ k_ ∨ P0_2_ k_ ∨ P1_1_ k_ ∨ P1_2_ k_ ∨ P2_1_ k_ ∨ P2_2_ k_) ∨ w.heap.size ≤ k_) ∧ k_ ≠ gb101 ∧ k_ ≠ gb102 ∧ k_ ≠ gb103 ∧ k_ ≠ s_.2.2.2.2) (.slice A2_1 l2_1.length c2_1) l2_1) ∧ (Kd.V (Kd.int .u32) 118 w' w.heap.size (fun k_ => ((P0_1_ k_ ∨ P0_2_ k_ ∨ P1_1_ k_ ∨ P1_2_ k_ ∨ P2_1_ k_ ∨ P2_2_ k_) ∨ w.heap.size ≤ k_) ∧ k_ ≠ gb101 ∧ k_ ≠ gb102 ∧ k_ ≠ gb103 ∧ k_ ≠ s_.2.2.2.2) (.slice A2_2 l2_2.length c2_2) l2_2) ∧ (w'.heap[gb101]? = some (.cells #[.bool a0_0, .slice A0_1 l0_1.length c0_1, .slice A0_2 l0_2.length c0_2] 69 (0, 0))) ∧ (w'.heap[gb102]? = some (.cells #[.bool a1_0, .slice A1_1 l1_1.length c1_1, .slice A1_2 l1_2.length c1_2] 69 (0, 0))) ∧ (w'.heap[gb103]? = some (.cells #[.bool a2_0, .slice A2_1 l2_1.length c2_1, .slice A2_2 l2_2.length c2_2] 69 (0, 0))) ∧ (w'.heap[s_.2.2.2.2]? = some (.cells #[.bool false, .slice none 0 0, .slice none 0 0] 69 (0, 0))) ∧ (w.heap.size ≤ s_.2.2.2.2) ∧ (w.heap.size ≤ s_.2.2.2.2) ∧ (gb101 ≠ s_.2.2.2.2) ∧ (s_.2.2.2.2 ≠ gb101) ∧ (gb102 ≠ s_.2.2.2.2) ∧ (s_.2.2.2.2 ≠ gb102) ∧ (gb103 ≠ s_.2.2.2.2) ∧ (s_.2.2.2.2 ≠ gb103) ∧ (Below w.heap.size w w')) ?_ ?_
              rotate_left
              ·intro hCont
               refine two_ (i := 2) (j := 8) (Ni := some 102) (Nj := some 13) (tf 4 7) #[true, true, false, true, false, false, false, false, true, false, false] rfl rfl rfl rfl (two_of HT_.out (by kernel_rfl)) (by decide) (by decide) (fun K hK => ?_) (fun K hK => ?_)
               ·skip
                refine gS Try.func90 #[.agg #[.bool a0_0, .slice A0_1 l0_1.length c0_1, .slice A0_2 l0_2.length c0_2], .agg #[.bool a1_0, .slice A1_1 l1_1.length c1_1, .slice A1_2 l1_2.length c1_2]] ?_
                with_reducible refine (ratio_R_Mul.calls kj110 a0_0 (fun k_ => (((P0_1_ k_ ∨ P0_2_ k_ ∨ P1_1_ k_ ∨ P1_2_ k_ ∨ P2_1_ k_ ∨ P2_2_ k_) ∨ w.heap.size ≤ k_) ∧ (k_ ≠ gb101 ∧ (k_ ≠ gb102 ∧ k_ ≠ gb103)))) _ _ l0_1 (fun k_ => (((P0_1_ k_ ∨ P0_2_ k_ ∨ P1_1_ k_ ∨ P1_2_ k_ ∨ P2_1_ k_ ∨ P2_2_ k_) ∨ w.heap.size ≤ k_) ∧ (k_ ≠ gb101 ∧ (k_ ≠ gb102 ∧ k_ ≠ gb103)))) _ _ l0_2 a1_0 (fun k_ => (((P0_1_ k_ ∨ P0_2_ k_ ∨ P1_1_ k_ ∨ P1_2_ k_ ∨ P2_1_ k_ ∨ P2_2_ k_) ∨ w.heap.size ≤ k_) ∧ (k_ ≠ gb101 ∧ (k_ ≠ gb102 ∧ k_ ≠ gb103)))) _ _ l1_1 (fun k_ => (((P0_1_ k_ ∨ P0_2_ k_ ∨ P1_1_ k_ ∨ P1_2_ k_ ∨ P2_1_ k_ ∨ P2_2_ k_) ∨ w.heap.size ≤ k_) ∧ (k_ ≠ gb101 ∧ (k_ ≠ gb102 ∧ k_ ≠ gb103)))) _ _ l1_2 t256 t257 t260 _ ?_ ?_ ?_ ?_ A155.out).mono ?_
                exact HO_102001.out
                exact HO_102002.out
                exact HO_103001.out
                exact HO_103002.out
                rintro e w165 ⟨v258, v261, rfl, ho0, ho1, hb⟩
                refine ⟨_, rfl, ?_⟩
                replace HO_102001 := vA HO_102001 hb
                replace HO_102002 := vA HO_102002 hb
                replace HO_103001 := vA HO_103001 hb
                replace HO_103002 := vA HO_103002 hb
                replace HO_104001 := vA HO_104001 hb
                replace HO_104002 := vA HO_104002 hb
                have HO259 := lw HB (fun k_ => ((P0_1_ k_ ∨ P0_2_ k_ ∨ P1_1_ k_ ∨ P1_2_ k_ ∨ P2_1_ k_ ∨ P2_2_ k_) ∨ w.heap.size ≤ k_) ∧ k_ ≠ gb101 ∧ k_ ≠ gb102 ∧ k_ ≠ gb103) ho0 (fun k_ hk_ => Or.elim hk_ (fun hs_ => Or.elim hs_ id (fun hs_ => Or.elim hs_ id (fun hs_ => Or.elim hs_ id id))) (fun hn_ => ⟨.inr (Nat.le_trans (below_size hB) hn_), kF BK101 hn_, kF BK102 hn_, kF BK103 hn_⟩))
                have HO262 := lw HB (fun k_ => ((P0_1_ k_ ∨ P0_2_ k_ ∨ P1_1_ k_ ∨ P1_2_ k_ ∨ P2_1_ k_ ∨ P2_2_ k_) ∨ w.heap.size ≤ k_) ∧ k_ ≠ gb101 ∧ k_ ≠ gb102 ∧ k_ ≠ gb103) ho1 (fun k_ hk_ => Or.elim hk_ (fun hs_ => Or.elim hs_ id (fun hs_ => Or.elim hs_ id (fun hs_ => Or.elim hs_ id id))) (fun hn_ => ⟨.inr (Nat.le_trans (below_size hB) hn_), kF BK101 hn_, kF BK102 hn_, kF BK103 hn_⟩))
                replace BK101 := kA BK101 hb
                replace BK102 := kA BK102 hb
                replace BK103 := kA BK103 hb
                replace HB := bS HB hb
                clear hb ho0 ho1
                obtain ⟨Ao166, co166, eo166⟩ := Kd.V_slice HO259.out
                (first | subst eo166 | (injection eo166 with f1_ f2_ f3_; have f4_ := f1_.symm; have f5_ := f3_.symm; clear f1_ f2_ f3_; subst f4_; subst f5_))
                obtain ⟨Ao167, co167, eo167⟩ := Kd.V_slice HO262.out
                (first | subst eo167 | (injection eo167 with f1_ f2_ f3_; have f4_ := f1_.symm; have f5_ := f3_.symm; clear f1_ f2_ f3_; subst f4_; subst f5_))
                refine hK.out _ _ ⟨b3 BK101, b3 BK102⟩ (fun hHeld => nm ?_)
                clear hK K
                refine two_ (i := 4) (j := 8) (Ni := some 104) (Nj := some 13) (tf 5 6) #[true, true, true, true, false, false, false, false, true, false, false] rfl rfl rfl rfl (two_of HT_.out (by kernel_rfl)) (by decide) (by decide) (fun K hK => ?_) (fun K hK => ?_)
                ·skip
                 refine gS Try.func92 #[.agg #[.bool t256, .slice Ao166 t257.length co166, .slice Ao167 t260.length co167], .agg #[.bool a1_0, .slice A1_1 l1_1.length c1_1, .slice A1_2 l1_2.length c1_2]] ?_
                 with_reducible refine (ratio_R_Div.calls kj110 t256 (fun k_ => (((P0_1_ k_ ∨ P0_2_ k_ ∨ P1_1_ k_ ∨ P1_2_ k_ ∨ P2_1_ k_ ∨ P2_2_ k_) ∨ w.heap.size ≤ k_) ∧ (k_ ≠ gb101 ∧ (k_ ≠ gb102 ∧ k_ ≠ gb103)))) _ _ t257 (fun k_ => (((P0_1_ k_ ∨ P0_2_ k_ ∨ P1_1_ k_ ∨ P1_2_ k_ ∨ P2_1_ k_ ∨ P2_2_ k_) ∨ w.heap.size ≤ k_) ∧ (k_ ≠ gb101 ∧ (k_ ≠ gb102 ∧ k_ ≠ gb103)))) _ _ t260 a1_0 (fun k_ => (((P0_1_ k_ ∨ P0_2_ k_ ∨ P1_1_ k_ ∨ P1_2_ k_ ∨ P2_1_ k_ ∨ P2_2_ k_) ∨ w.heap.size ≤ k_) ∧ (k_ ≠ gb101 ∧ (k_ ≠ gb102 ∧ k_ ≠ gb103)))) _ _ l1_1 (fun k_ => (((P0_1_ k_ ∨ P0_2_ k_ ∨ P1_1_ k_ ∨ P1_2_ k_ ∨ P2_1_ k_ ∨ P2_2_ k_) ∨ w.heap.size ≤ k_) ∧ (k_ ≠ gb101 ∧ (k_ ≠ gb102 ∧ k_ ≠ gb103)))) _ _ l1_2 t263 t264 t267 t270 _ ?_ ?_ ?_ ?_ A156.out).mono ?_
                 exact HO259.out
                 exact HO262.out
                 exact HO_103001.out
                 exact HO_103002.out
                 rintro e w168 ⟨v265, v268, rfl, ho0, ho1, hb⟩
                 refine ⟨_, rfl, ?_⟩
                 replace HO_102001 := vA HO_102001 hb
                 replace HO_102002 := vA HO_102002 hb
                 replace HO_103001 := vA HO_103001 hb
                 replace HO_103002 := vA HO_103002 hb
                 replace HO_104001 := vA HO_104001 hb
                 replace HO_104002 := vA HO_104002 hb
                 replace HO259 := vA HO259 hb
                 replace HO262 := vA HO262 hb
                 have HO266 := lw HB (fun k_ => ((P0_1_ k_ ∨ P0_2_ k_ ∨ P1_1_ k_ ∨ P1_2_ k_ ∨ P2_1_ k_ ∨ P2_2_ k_) ∨ w.heap.size ≤ k_) ∧ k_ ≠ gb101 ∧ k_ ≠ gb102 ∧ k_ ≠ gb103) ho0 (fun k_ hk_ => Or.elim hk_ (fun hs_ => Or.elim hs_ id (fun hs_ => Or.elim hs_ id (fun hs_ => Or.elim hs_ id id))) (fun hn_ => ⟨.inr (Nat.le_trans (below_size hB) hn_), kF BK101 hn_, kF BK102 hn_, kF BK103 hn_⟩))
                 have HO269 := lw HB (fun k_ => ((P0_1_ k_ ∨ P0_2_ k_ ∨ P1_1_ k_ ∨ P1_2_ k_ ∨ P2_1_ k_ ∨ P2_2_ k_) ∨ w.heap.size ≤ k_) ∧ k_ ≠ gb101 ∧ k_ ≠ gb102 ∧ k_ ≠ gb103) ho1 (fun k_ hk_ => Or.elim hk_ (fun hs_ => Or.elim hs_ id (fun hs_ => Or.elim hs_ id (fun hs_ => Or.elim hs_ id id))) (fun hn_ => ⟨.inr (Nat.le_trans (below_size hB) hn_), kF BK101 hn_, kF BK102 hn_, kF BK103 hn_⟩))
                 replace BK101 := kA BK101 hb
                 replace BK102 := kA BK102 hb
                 replace BK103 := kA BK103 hb
                 replace HB := bS HB hb
                 clear hb ho0 ho1
                 refine hK.out _ _ ⟨b3 BK101, b3 BK102⟩ (fun hHeld => nm ?_)
                 clear hK K
                 refine pu 5 99 (tf 6 5) ?_
                 refine pu 6 105 (tf 7 4) ?_
                 refine pu 7 106 (tf 8 3) ?_
                 refine on 8 (some 13) (tf 9 2) (fun K hK => ?_)
                 refine box_step ?hg (N := 13) ?hd (cs := #[.bool false, .slice none 0 0, .slice none 0 0]) (t := 69) ?hr ?_; (case hd => rfl); (case hg => rfl); (case hr => first | (go_simp; done) | (go_simp; rfl))
                 intro gb271 hg w169 hbox hb
                 replace HO_102001 := vE HO_102001 hg hb
                 replace HO_102002 := vE HO_102002 hg hb
                 replace HO_103001 := vE HO_103001 hg hb
                 replace HO_103002 := vE HO_103002 hg hb
                 replace HO_104001 := vE HO_104001 hg hb
                 replace HO_104002 := vE HO_104002 hg hb
                 replace HO259 := vE HO259 hg hb
                 replace HO262 := vE HO262 hg hb
                 replace HO266 := vE HO266 hg hb
                 replace HO269 := vE HO269 hg hb
                 have BK271 := Aside0.mk hbox
                 have GW271 := gS' hg HB
                 have GE271 := gS' hg HB
                 replace HB := bS HB hb
                 have NB101_271 := nL hg BK101
                 have NB271_101 := nR hg BK101
                 replace BK101 := kA BK101 hb
                 have NB102_271 := nL hg BK102
                 have NB271_102 := nR hg BK102
                 replace BK102 := kA BK102 hb
                 have NB103_271 := nL hg BK103
                 have NB271_103 := nR hg BK103
                 replace BK103 := kA BK103 hb
                 clear hb hbox hg
                 refine hK.out _ _ ⟨b3 BK101, b3 BK102⟩ (fun hHeld => nm ?_)
                 clear hK K
                 exact norm_ (by simp only [putAll, Act.put, List.setIfInBounds_toArray, List.set_cons_zero, List.set_cons_succ]) (hCont (.slice Ao166 t257.length co166, .slice Ao167 t260.length co167, v265, v268, gb271) _ ⟨hHeld, (by (with_reducible repeat (first | apply Kd.V_alloc | apply Kd.V_drewN | apply Kd.V_drew)); exact Kd.V_mono HO259.out (fun _ hk => by simp only [hk, and_self, ne_eq, not_false_eq_true])), (by (with_reducible repeat (first | apply Kd.V_alloc | apply Kd.V_drewN | apply Kd.V_drew)); exact Kd.V_mono HO262.out (fun _ hk => by simp only [hk, and_self, ne_eq, not_false_eq_true])), (by (with_reducible repeat (first | apply Kd.V_alloc | apply Kd.V_drewN | apply Kd.V_drew)); exact Kd.V_mono HO266.out (fun _ hk => by simp only [hk, and_self, ne_eq, not_false_eq_true])), (by (with_reducible repeat (first | apply Kd.V_alloc | apply Kd.V_drewN | apply Kd.V_drew)); exact Kd.V_mono HO269.out (fun _ hk => by simp only [hk, and_self, ne_eq, not_false_eq_true])), (by (with_reducible repeat (first | apply Kd.V_alloc | apply Kd.V_drewN | apply Kd.V_drew)); exact Kd.V_mono HO_102001.out (fun _ hk => by simp only [hk, and_self, ne_eq, not_false_eq_true])), (by (with_reducible repeat (first | apply Kd.V_alloc | apply Kd.V_drewN | apply Kd.V_drew)); exact Kd.V_mono HO_102002.out (fun _ hk => by simp only [hk, and_self, ne_eq, not_false_eq_true])), (by (with_reducible repeat (first | apply Kd.V_alloc | apply Kd.V_drewN | apply Kd.V_drew)); exact Kd.V_mono HO_103001.out (fun _ hk => by simp only [hk, and_self, ne_eq, not_false_eq_true])), (by (with_reducible repeat (first | apply Kd.V_alloc | apply Kd.V_drewN | apply Kd.V_drew)); exact Kd.V_mono HO_103002.out (fun _ hk => by simp only [hk, and_self, ne_eq, not_false_eq_true])), (by (with_reducible repeat (first | apply Kd.V_alloc | apply Kd.V_drewN | apply Kd.V_drew)); exact Kd.V_mono HO_104001.out (fun _ hk => by simp only [hk, and_self, ne_eq, not_false_eq_true])), (by (with_reducible repeat (first | apply Kd.V_alloc | apply Kd.V_drewN | apply Kd.V_drew)); exact Kd.V_mono HO_104002.out (fun _ hk => by simp only [hk, and_self, ne_eq, not_false_eq_true])), (by exact kU BK101), (by exact kU BK102), (by exact kU BK103), (by exact kU BK271), GW271.out, GE271.out, NB101_271.out, NB271_101.out, NB102_271.out, NB271_102.out, NB103_271.out, NB271_103.out, hB⟩)
                ·skip
                 refine box_step ?hg (N := 13) ?hd (cs := #[.bool false, .slice none 0 0, .slice none 0 0]) (t := 69) ?hr ?_; (case hd => rfl); (case hg => rfl); (case hr => first | (go_simp; done) | (go_simp; rfl))
                 intro gb271 hg w166 hbox hb
                 replace HO_102001 := vE HO_102001 hg hb
                 replace HO_102002 := vE HO_102002 hg hb
                 replace HO_103001 := vE HO_103001 hg hb
                 replace HO_103002 := vE HO_103002 hg hb
                 replace HO_104001 := vE HO_104001 hg hb
                 replace HO_104002 := vE HO_104002 hg hb
                 replace HO259 := vE HO259 hg hb
                 replace HO262 := vE HO262 hg hb
                 have BK271 := Aside0.mk hbox
                 have GW271 := gS' hg HB
                 have GE271 := gS' hg HB
                 replace HB := bS HB hb
                 have NB101_271 := nL hg BK101
                 have NB271_101 := nR hg BK101
                 replace BK101 := kA BK101 hb
                 have NB102_271 := nL hg BK102
                 have NB271_102 := nR hg BK102
                 replace BK102 := kA BK102 hb
                 have NB103_271 := nL hg BK103
                 have NB271_103 := nR hg BK103
                 replace BK103 := kA BK103 hb
                 clear hb hbox hg
                 obtain ⟨Ao167, co167, eo167⟩ := Kd.V_slice HO259.out
                 (first | subst eo167 | (injection eo167 with f1_ f2_ f3_; have f4_ := f1_.symm; have f5_ := f3_.symm; clear f1_ f2_ f3_; subst f4_; subst f5_))
                 obtain ⟨Ao168, co168, eo168⟩ := Kd.V_slice HO262.out
                 (first | subst eo168 | (injection eo168 with f1_ f2_ f3_; have f4_ := f1_.symm; have f5_ := f3_.symm; clear f1_ f2_ f3_; subst f4_; subst f5_))
                 refine hK.out _ _ ⟨b3 BK101, b3 BK102⟩ (fun hHeld => nm ?_)
                 clear hK K
                 refine on 4 (some 104) #[true, true, true, true, true, false, false, false, true, false, false] (fun K hK => ?_)
                 refine gS Try.func92 #[.agg #[.bool t256, .slice Ao167 t257.length co167, .slice Ao168 t260.length co168], .agg #[.bool a1_0, .slice A1_1 l1_1.length c1_1, .slice A1_2 l1_2.length c1_2]] ?_
                 with_reducible refine (ratio_R_Div.calls kj110 t256 (fun k_ => ((((P0_1_ k_ ∨ P0_2_ k_ ∨ P1_1_ k_ ∨ P1_2_ k_ ∨ P2_1_ k_ ∨ P2_2_ k_) ∨ w.heap.size ≤ k_) ∧ (k_ ≠ gb101 ∧ (k_ ≠ gb102 ∧ k_ ≠ gb103))) ∧ k_ ≠ gb271)) _ _ t257 (fun k_ => ((((P0_1_ k_ ∨ P0_2_ k_ ∨ P1_1_ k_ ∨ P1_2_ k_ ∨ P2_1_ k_ ∨ P2_2_ k_) ∨ w.heap.size ≤ k_) ∧ (k_ ≠ gb101 ∧ (k_ ≠ gb102 ∧ k_ ≠ gb103))) ∧ k_ ≠ gb271)) _ _ t260 a1_0 (fun k_ => ((((P0_1_ k_ ∨ P0_2_ k_ ∨ P1_1_ k_ ∨ P1_2_ k_ ∨ P2_1_ k_ ∨ P2_2_ k_) ∨ w.heap.size ≤ k_) ∧ (k_ ≠ gb101 ∧ (k_ ≠ gb102 ∧ k_ ≠ gb103))) ∧ k_ ≠ gb271)) _ _ l1_1 (fun k_ => ((((P0_1_ k_ ∨ P0_2_ k_ ∨ P1_1_ k_ ∨ P1_2_ k_ ∨ P2_1_ k_ ∨ P2_2_ k_) ∨ w.heap.size ≤ k_) ∧ (k_ ≠ gb101 ∧ (k_ ≠ gb102 ∧ k_ ≠ gb103))) ∧ k_ ≠ gb271)) _ _ l1_2 t263 t264 t267 t270 _ ?_ ?_ ?_ ?_ A156.out).mono ?_
                 exact HO259.out
                 exact HO262.out
                 exact HO_103001.out
                 exact HO_103002.out
                 rintro e w169 ⟨v265, v268, rfl, ho0, ho1, hb⟩
                 refine ⟨_, rfl, ?_⟩
                 replace HO_102001 := vA HO_102001 hb
                 replace HO_102002 := vA HO_102002 hb
                 replace HO_103001 := vA HO_103001 hb
                 replace HO_103002 := vA HO_103002 hb
                 replace HO_104001 := vA HO_104001 hb
                 replace HO_104002 := vA HO_104002 hb
                 replace HO259 := vA HO259 hb
                 replace HO262 := vA HO262 hb
                 have HO266 := lw HB (fun k_ => ((P0_1_ k_ ∨ P0_2_ k_ ∨ P1_1_ k_ ∨ P1_2_ k_ ∨ P2_1_ k_ ∨ P2_2_ k_) ∨ w.heap.size ≤ k_) ∧ k_ ≠ gb101 ∧ k_ ≠ gb102 ∧ k_ ≠ gb103 ∧ k_ ≠ gb271) ho0 (fun k_ hk_ => Or.elim hk_ (fun hs_ => Or.elim hs_ (fun hs_ => ⟨hs_.1.1, hs_.1.2.1, hs_.1.2.2.1, hs_.1.2.2.2, hs_.2⟩) (fun hs_ => Or.elim hs_ (fun hs_ => ⟨hs_.1.1, hs_.1.2.1, hs_.1.2.2.1, hs_.1.2.2.2, hs_.2⟩) (fun hs_ => Or.elim hs_ (fun hs_ => ⟨hs_.1.1, hs_.1.2.1, hs_.1.2.2.1, hs_.1.2.2.2, hs_.2⟩) (fun hs_ => ⟨hs_.1.1, hs_.1.2.1, hs_.1.2.2.1, hs_.1.2.2.2, hs_.2⟩)))) (fun hn_ => ⟨.inr (Nat.le_trans (below_size hB) hn_), kF BK101 hn_, kF BK102 hn_, kF BK103 hn_, kF BK271 hn_⟩))
                 have HO269 := lw HB (fun k_ => ((P0_1_ k_ ∨ P0_2_ k_ ∨ P1_1_ k_ ∨ P1_2_ k_ ∨ P2_1_ k_ ∨ P2_2_ k_) ∨ w.heap.size ≤ k_) ∧ k_ ≠ gb101 ∧ k_ ≠ gb102 ∧ k_ ≠ gb103 ∧ k_ ≠ gb271) ho1 (fun k_ hk_ => Or.elim hk_ (fun hs_ => Or.elim hs_ (fun hs_ => ⟨hs_.1.1, hs_.1.2.1, hs_.1.2.2.1, hs_.1.2.2.2, hs_.2⟩) (fun hs_ => Or.elim hs_ (fun hs_ => ⟨hs_.1.1, hs_.1.2.1, hs_.1.2.2.1, hs_.1.2.2.2, hs_.2⟩) (fun hs_ => Or.elim hs_ (fun hs_ => ⟨hs_.1.1, hs_.1.2.1, hs_.1.2.2.1, hs_.1.2.2.2, hs_.2⟩) (fun hs_ => ⟨hs_.1.1, hs_.1.2.1, hs_.1.2.2.1, hs_.1.2.2.2, hs_.2⟩)))) (fun hn_ => ⟨.inr (Nat.le_trans (below_size hB) hn_), kF BK101 hn_, kF BK102 hn_, kF BK103 hn_, kF BK271 hn_⟩))
                 replace BK101 := kA BK101 hb
                 replace BK102 := kA BK102 hb
                 replace BK103 := kA BK103 hb
                 replace BK271 := kA BK271 hb
                 replace HB := bS HB hb
                 clear hb ho0 ho1
                 refine hK.out _ _ ⟨b3 BK101, b3 BK102⟩ (fun hHeld => nm ?_)
                 clear hK K
                 refine pu 5 99 #[true, true, true, true, true, true, false, false, true, false, false] ?_
                 refine pu 6 105 #[true, true, true, true, true, true, true, false, true, false, false] ?_
                 refine pu 7 106 (tf 9 2) ?_
                 exact norm_ (by simp only [putAll, Act.put, List.setIfInBounds_toArray, List.set_cons_zero, List.set_cons_succ]) (hCont (.slice Ao167 t257.length co167, .slice Ao168 t260.length co168, v265, v268, gb271) _ ⟨hHeld, (by (with_reducible repeat (first | apply Kd.V_alloc | apply Kd.V_drewN | apply Kd.V_drew)); exact Kd.V_mono HO259.out (fun _ hk => by simp only [hk, and_self, ne_eq, not_false_eq_true])), (by (with_reducible repeat (first | apply Kd.V_alloc | apply Kd.V_drewN | apply Kd.V_drew)); exact Kd.V_mono HO262.out (fun _ hk => by simp only [hk, and_self, ne_eq, not_false_eq_true])), (vup HO266.out), (vup HO269.out), (by (with_reducible repeat (first | apply Kd.V_alloc | apply Kd.V_drewN | apply Kd.V_drew)); exact Kd.V_mono HO_102001.out (fun _ hk => by simp only [hk, and_self, ne_eq, not_false_eq_true])), (by (with_reducible repeat (first | apply Kd.V_alloc | apply Kd.V_drewN | apply Kd.V_drew)); exact Kd.V_mono HO_102002.out (fun _ hk => by simp only [hk, and_self, ne_eq, not_false_eq_true])), (by (with_reducible repeat (first | apply Kd.V_alloc | apply Kd.V_drewN | apply Kd.V_drew)); exact Kd.V_mono HO_103001.out (fun _ hk => by simp only [hk, and_self, ne_eq, not_false_eq_true])), (by (with_reducible repeat (first | apply Kd.V_alloc | apply Kd.V_drewN | apply Kd.V_drew)); exact Kd.V_mono HO_103002.out (fun _ hk => by simp only [hk, and_self, ne_eq, not_false_eq_true])), (by (with_reducible repeat (first | apply Kd.V_alloc | apply Kd.V_drewN | apply Kd.V_drew)); exact Kd.V_mono HO_104001.out (fun _ hk => by simp only [hk, and_self, ne_eq, not_false_eq_true])), (by (with_reducible repeat (first | apply Kd.V_alloc | apply Kd.V_drewN | apply Kd.V_drew)); exact Kd.V_mono HO_104002.out (fun _ hk => by simp only [hk, and_self, ne_eq, not_false_eq_true])), (by exact kU BK101), (by exact kU BK102), (by exact kU BK103), (by exact kU BK271), GW271.out, GE271.out, NB101_271.out, NB271_101.out, NB102_271.out, NB271_102.out, NB103_271.out, NB271_103.out, hB⟩)
               ·skip
                refine box_step ?hg (N := 13) ?hd (cs := #[.bool false, .slice none 0 0, .slice none 0 0]) (t := 69) ?hr ?_; (case hd => rfl); (case hg => rfl); (case hr => first | (go_simp; done) | (go_simp; rfl))
                intro gb271 hg w165 hbox hb
                replace HO_102001 := vE HO_102001 hg hb
                replace HO_102002 := vE HO_102002 hg hb
                replace HO_103001 := vE HO_103001 hg hb
                replace HO_103002 := vE HO_103002 hg hb
                replace HO_104001 := vE HO_104001 hg hb
                replace HO_104002 := vE HO_104002 hg hb
                have BK271 := Aside0.mk hbox
                have GW271 := gS' hg HB
                have GE271 := gS' hg HB
                replace HB := bS HB hb
                have NB101_271 := nL hg BK101
                have NB271_101 := nR hg BK101
                replace BK101 := kA BK101 hb
                have NB102_271 := nL hg BK102
                have NB271_102 := nR hg BK102
                replace BK102 := kA BK102 hb
                have NB103_271 := nL hg BK103
                have NB271_103 := nR hg BK103
                replace BK103 := kA BK103 hb
                clear hb hbox hg
                refine hK.out _ _ ⟨b3 BK101, b3 BK102⟩ (fun hHeld => nm ?_)
                clear hK K
                refine on 2 (some 102) #[true, true, true, true, false, false, false, false, true, false, false] (fun K hK => ?_)
                refine gS Try.func90 #[.agg #[.bool a0_0, .slice A0_1 l0_1.length c0_1, .slice A0_2 l0_2.length c0_2], .agg #[.bool a1_0, .slice A1_1 l1_1.length c1_1, .slice A1_2 l1_2.length c1_2]] ?_
                with_reducible refine (ratio_R_Mul.calls kj110 a0_0 (fun k_ => ((((P0_1_ k_ ∨ P0_2_ k_ ∨ P1_1_ k_ ∨ P1_2_ k_ ∨ P2_1_ k_ ∨ P2_2_ k_) ∨ w.heap.size ≤ k_) ∧ (k_ ≠ gb101 ∧ (k_ ≠ gb102 ∧ k_ ≠ gb103))) ∧ k_ ≠ gb271)) _ _ l0_1 (fun k_ => ((((P0_1_ k_ ∨ P0_2_ k_ ∨ P1_1_ k_ ∨ P1_2_ k_ ∨ P2_1_ k_ ∨ P2_2_ k_) ∨ w.heap.size ≤ k_) ∧ (k_ ≠ gb101 ∧ (k_ ≠ gb102 ∧ k_ ≠ gb103))) ∧ k_ ≠ gb271)) _ _ l0_2 a1_0 (fun k_ => ((((P0_1_ k_ ∨ P0_2_ k_ ∨ P1_1_ k_ ∨ P1_2_ k_ ∨ P2_1_ k_ ∨ P2_2_ k_) ∨ w.heap.size ≤ k_) ∧ (k_ ≠ gb101 ∧ (k_ ≠ gb102 ∧ k_ ≠ gb103))) ∧ k_ ≠ gb271)) _ _ l1_1 (fun k_ => ((((P0_1_ k_ ∨ P0_2_ k_ ∨ P1_1_ k_ ∨ P1_2_ k_ ∨ P2_1_ k_ ∨ P2_2_ k_) ∨ w.heap.size ≤ k_) ∧ (k_ ≠ gb101 ∧ (k_ ≠ gb102 ∧ k_ ≠ gb103))) ∧ k_ ≠ gb271)) _ _ l1_2 t256 t257 t260 _ ?_ ?_ ?_ ?_ A155.out).mono ?_
                exact HO_102001.out
                exact HO_102002.out
                exact HO_103001.out
                exact HO_103002.out
                rintro e w166 ⟨v258, v261, rfl, ho0, ho1, hb⟩
                refine ⟨_, rfl, ?_⟩
                replace HO_102001 := vA HO_102001 hb
                replace HO_102002 := vA HO_102002 hb
                replace HO_103001 := vA HO_103001 hb
                replace HO_103002 := vA HO_103002 hb
                replace HO_104001 := vA HO_104001 hb
                replace HO_104002 := vA HO_104002 hb
                have HO259 := lw HB (fun k_ => ((P0_1_ k_ ∨ P0_2_ k_ ∨ P1_1_ k_ ∨ P1_2_ k_ ∨ P2_1_ k_ ∨ P2_2_ k_) ∨ w.heap.size ≤ k_) ∧ k_ ≠ gb101 ∧ k_ ≠ gb102 ∧ k_ ≠ gb103 ∧ k_ ≠ gb271) ho0 (fun k_ hk_ => Or.elim hk_ (fun hs_ => Or.elim hs_ (fun hs_ => ⟨hs_.1.1, hs_.1.2.1, hs_.1.2.2.1, hs_.1.2.2.2, hs_.2⟩) (fun hs_ => Or.elim hs_ (fun hs_ => ⟨hs_.1.1, hs_.1.2.1, hs_.1.2.2.1, hs_.1.2.2.2, hs_.2⟩) (fun hs_ => Or.elim hs_ (fun hs_ => ⟨hs_.1.1, hs_.1.2.1, hs_.1.2.2.1, hs_.1.2.2.2, hs_.2⟩) (fun hs_ => ⟨hs_.1.1, hs_.1.2.1, hs_.1.2.2.1, hs_.1.2.2.2, hs_.2⟩)))) (fun hn_ => ⟨.inr (Nat.le_trans (below_size hB) hn_), kF BK101 hn_, kF BK102 hn_, kF BK103 hn_, kF BK271 hn_⟩))
                have HO262 := lw HB (fun k_ => ((P0_1_ k_ ∨ P0_2_ k_ ∨ P1_1_ k_ ∨ P1_2_ k_ ∨ P2_1_ k_ ∨ P2_2_ k_) ∨ w.heap.size ≤ k_) ∧ k_ ≠ gb101 ∧ k_ ≠ gb102 ∧ k_ ≠ gb103 ∧ k_ ≠ gb271) ho1 (fun k_ hk_ => Or.elim hk_ (fun hs_ => Or.elim hs_ (fun hs_ => ⟨hs_.1.1, hs_.1.2.1, hs_.1.2.2.1, hs_.1.2.2.2, hs_.2⟩) (fun hs_ => Or.elim hs_ (fun hs_ => ⟨hs_.1.1, hs_.1.2.1, hs_.1.2.2.1, hs_.1.2.2.2, hs_.2⟩) (fun hs_ => Or.elim hs_ (fun hs_ => ⟨hs_.1.1, hs_.1.2.1, hs_.1.2.2.1, hs_.1.2.2.2, hs_.2⟩) (fun hs_ => ⟨hs_.1.1, hs_.1.2.1, hs_.1.2.2.1, hs_.1.2.2.2, hs_.2⟩)))) (fun hn_ => ⟨.inr (Nat.le_trans (below_size hB) hn_), kF BK101 hn_, kF BK102 hn_, kF BK103 hn_, kF BK271 hn_⟩))
                replace BK101 := kA BK101 hb
                replace BK102 := kA BK102 hb
                replace BK103 := kA BK103 hb
                replace BK271 := kA BK271 hb
                replace HB := bS HB hb
                clear hb ho0 ho1
                obtain ⟨Ao167, co167, eo167⟩ := Kd.V_slice HO259.out
                (first | subst eo167 | (injection eo167 with f1_ f2_ f3_; have f4_ := f1_.symm; have f5_ := f3_.symm; clear f1_ f2_ f3_; subst f4_; subst f5_))
                obtain ⟨Ao168, co168, eo168⟩ := Kd.V_slice HO262.out
                (first | subst eo168 | (injection eo168 with f1_ f2_ f3_; have f4_ := f1_.symm; have f5_ := f3_.symm; clear f1_ f2_ f3_; subst f4_; subst f5_))
                refine hK.out _ _ ⟨b3 BK101, b3 BK102⟩ (fun hHeld => nm ?_)
                clear hK K
                refine on 4 (some 104) #[true, true, true, true, true, false, false, false, true, false, false] (fun K hK => ?_)
                refine gS Try.func92 #[.agg #[.bool t256, .slice Ao167 t257.length co167, .slice Ao168 t260.length co168], .agg #[.bool a1_0, .slice A1_1 l1_1.length c1_1, .slice A1_2 l1_2.length c1_2]] ?_
                with_reducible refine (ratio_R_Div.calls kj110 t256 (fun k_ => (((P0_1_ k_ ∨ P0_2_ k_ ∨ P1_1_ k_ ∨ P1_2_ k_ ∨ P2_1_ k_ ∨ P2_2_ k_) ∨ w.heap.size ≤ k_) ∧ (k_ ≠ gb101 ∧ (k_ ≠ gb102 ∧ (k_ ≠ gb103 ∧ k_ ≠ gb271))))) _ _ t257 (fun k_ => (((P0_1_ k_ ∨ P0_2_ k_ ∨ P1_1_ k_ ∨ P1_2_ k_ ∨ P2_1_ k_ ∨ P2_2_ k_) ∨ w.heap.size ≤ k_) ∧ (k_ ≠ gb101 ∧ (k_ ≠ gb102 ∧ (k_ ≠ gb103 ∧ k_ ≠ gb271))))) _ _ t260 a1_0 (fun k_ => ((((P0_1_ k_ ∨ P0_2_ k_ ∨ P1_1_ k_ ∨ P1_2_ k_ ∨ P2_1_ k_ ∨ P2_2_ k_) ∨ w.heap.size ≤ k_) ∧ (k_ ≠ gb101 ∧ (k_ ≠ gb102 ∧ k_ ≠ gb103))) ∧ k_ ≠ gb271)) _ _ l1_1 (fun k_ => ((((P0_1_ k_ ∨ P0_2_ k_ ∨ P1_1_ k_ ∨ P1_2_ k_ ∨ P2_1_ k_ ∨ P2_2_ k_) ∨ w.heap.size ≤ k_) ∧ (k_ ≠ gb101 ∧ (k_ ≠ gb102 ∧ k_ ≠ gb103))) ∧ k_ ≠ gb271)) _ _ l1_2 t263 t264 t267 t270 _ ?_ ?_ ?_ ?_ A156.out).mono ?_
                exact HO259.out
                exact HO262.out
                exact HO_103001.out
                exact HO_103002.out
                rintro e w169 ⟨v265, v268, rfl, ho0, ho1, hb⟩
                refine ⟨_, rfl, ?_⟩
                replace HO_102001 := vA HO_102001 hb
                replace HO_102002 := vA HO_102002 hb
                replace HO_103001 := vA HO_103001 hb
                replace HO_103002 := vA HO_103002 hb
                replace HO_104001 := vA HO_104001 hb
                replace HO_104002 := vA HO_104002 hb
                replace HO259 := vA HO259 hb
                replace HO262 := vA HO262 hb
                have HO266 := lw HB (fun k_ => ((P0_1_ k_ ∨ P0_2_ k_ ∨ P1_1_ k_ ∨ P1_2_ k_ ∨ P2_1_ k_ ∨ P2_2_ k_) ∨ w.heap.size ≤ k_) ∧ k_ ≠ gb101 ∧ k_ ≠ gb102 ∧ k_ ≠ gb103 ∧ k_ ≠ gb271) ho0 (fun k_ hk_ => Or.elim hk_ (fun hs_ => Or.elim hs_ id (fun hs_ => Or.elim hs_ id (fun hs_ => Or.elim hs_ (fun hs_ => ⟨hs_.1.1, hs_.1.2.1, hs_.1.2.2.1, hs_.1.2.2.2, hs_.2⟩) (fun hs_ => ⟨hs_.1.1, hs_.1.2.1, hs_.1.2.2.1, hs_.1.2.2.2, hs_.2⟩)))) (fun hn_ => ⟨.inr (Nat.le_trans (below_size hB) hn_), kF BK101 hn_, kF BK102 hn_, kF BK103 hn_, kF BK271 hn_⟩))
                have HO269 := lw HB (fun k_ => ((P0_1_ k_ ∨ P0_2_ k_ ∨ P1_1_ k_ ∨ P1_2_ k_ ∨ P2_1_ k_ ∨ P2_2_ k_) ∨ w.heap.size ≤ k_) ∧ k_ ≠ gb101 ∧ k_ ≠ gb102 ∧ k_ ≠ gb103 ∧ k_ ≠ gb271) ho1 (fun k_ hk_ => Or.elim hk_ (fun hs_ => Or.elim hs_ id (fun hs_ => Or.elim hs_ id (fun hs_ => Or.elim hs_ (fun hs_ => ⟨hs_.1.1, hs_.1.2.1, hs_.1.2.2.1, hs_.1.2.2.2, hs_.2⟩) (fun hs_ => ⟨hs_.1.1, hs_.1.2.1, hs_.1.2.2.1, hs_.1.2.2.2, hs_.2⟩)))) (fun hn_ => ⟨.inr (Nat.le_trans (below_size hB) hn_), kF BK101 hn_, kF BK102 hn_, kF BK103 hn_, kF BK271 hn_⟩))
                replace BK101 := kA BK101 hb
                replace BK102 := kA BK102 hb
                replace BK103 := kA BK103 hb
                replace BK271 := kA BK271 hb
                replace HB := bS HB hb
                clear hb ho0 ho1
                refine hK.out _ _ ⟨b3 BK101, b3 BK102⟩ (fun hHeld => nm ?_)
                clear hK K
                refine pu 5 99 #[true, true, true, true, true, true, false, false, true, false, false] ?_
                refine pu 6 105 #[true, true, true, true, true, true, true, false, true, false, false] ?_
                refine pu 7 106 (tf 9 2) ?_
                exact norm_ (by simp only [putAll, Act.put, List.setIfInBounds_toArray, List.set_cons_zero, List.set_cons_succ]) (hCont (.slice Ao167 t257.length co167, .slice Ao168 t260.length co168, v265, v268, gb271) _ ⟨hHeld, (vup HO259.out), (vup HO262.out), (vup HO266.out), (vup HO269.out), (by (with_reducible repeat (first | apply Kd.V_alloc | apply Kd.V_drewN | apply Kd.V_drew)); exact Kd.V_mono HO_102001.out (fun _ hk => by simp only [hk, and_self, ne_eq, not_false_eq_true])), (by (with_reducible repeat (first | apply Kd.V_alloc | apply Kd.V_drewN | apply Kd.V_drew)); exact Kd.V_mono HO_102002.out (fun _ hk => by simp only [hk, and_self, ne_eq, not_false_eq_true])), (by (with_reducible repeat (first | apply Kd.V_alloc | apply Kd.V_drewN | apply Kd.V_drew)); exact Kd.V_mono HO_103001.out (fun _ hk => by simp only [hk, and_self, ne_eq, not_false_eq_true])), (by (with_reducible repeat (first | apply Kd.V_alloc | apply Kd.V_drewN | apply Kd.V_drew)); exact Kd.V_mono HO_103002.out (fun _ hk => by simp only [hk, and_self, ne_eq, not_false_eq_true])), (by (with_reducible repeat (first | apply Kd.V_alloc | apply Kd.V_drewN | apply Kd.V_drew)); exact Kd.V_mono HO_104001.out (fun _ hk => by simp only [hk, and_self, ne_eq, not_false_eq_true])), (by (with_reducible repeat (first | apply Kd.V_alloc | apply Kd.V_drewN | apply Kd.V_drew)); exact Kd.V_mono HO_104002.out (fun _ hk => by simp only [hk, and_self, ne_eq, not_false_eq_true])), (by exact kU BK101), (by exact kU BK102), (by exact kU BK103), (by exact kU BK271), GW271.out, GE271.out, NB101_271.out, NB271_101.out, NB102_271.out, NB271_102.out, NB103_271.out, NB271_103.out, hB⟩)
              rintro ⟨v258, v261, v265, v268, gb271⟩ w170 ⟨hS_, h0_, h1_, h2_, h3_, h4_, h5_, h6_, h7_, h8_, h9_, h10_, h11_, h12_, h13_, h14_, h15_, h16_, h17_, h18_, h19_, h20_, h21_, h22_⟩
              have n0_ : Aside0 (Kd.V (Kd.int .u32) 118 w170 w.heap.size (fun k_ => ((P0_1_ k_ ∨ P0_2_ k_ ∨ P1_1_ k_ ∨ P1_2_ k_ ∨ P2_1_ k_ ∨ P2_2_ k_) ∨ w.heap.size ≤ k_) ∧ k_ ≠ gb101 ∧ k_ ≠ gb102 ∧ k_ ≠ gb103 ∧ k_ ≠ gb271) v258 t257) := ⟨h0_⟩
              have n1_ : Aside0 (Kd.V (Kd.int .u32) 118 w170 w.heap.size (fun k_ => ((P0_1_ k_ ∨ P0_2_ k_ ∨ P1_1_ k_ ∨ P1_2_ k_ ∨ P2_1_ k_ ∨ P2_2_ k_) ∨ w.heap.size ≤ k_) ∧ k_ ≠ gb101 ∧ k_ ≠ gb102 ∧ k_ ≠ gb103 ∧ k_ ≠ gb271) v261 t260) := ⟨h1_⟩
              have n2_ : Aside0 (Kd.V (Kd.int .u32) 118 w170 w.heap.size (fun k_ => ((P0_1_ k_ ∨ P0_2_ k_ ∨ P1_1_ k_ ∨ P1_2_ k_ ∨ P2_1_ k_ ∨ P2_2_ k_) ∨ w.heap.size ≤ k_) ∧ k_ ≠ gb101 ∧ k_ ≠ gb102 ∧ k_ ≠ gb103 ∧ k_ ≠ gb271) v265 t264) := ⟨h2_⟩
              have n3_ : Aside0 (Kd.V (Kd.int .u32) 118 w170 w.heap.size (fun k_ => ((P0_1_ k_ ∨ P0_2_ k_ ∨ P1_1_ k_ ∨ P1_2_ k_ ∨ P2_1_ k_ ∨ P2_2_ k_) ∨ w.heap.size ≤ k_) ∧ k_ ≠ gb101 ∧ k_ ≠ gb102 ∧ k_ ≠ gb103 ∧ k_ ≠ gb271) v268 t267) := ⟨h3_⟩
              have n4_ : Aside0 (Kd.V (Kd.int .u32) 118 w170 w.heap.size (fun k_ => ((P0_1_ k_ ∨ P0_2_ k_ ∨ P1_1_ k_ ∨ P1_2_ k_ ∨ P2_1_ k_ ∨ P2_2_ k_) ∨ w.heap.size ≤ k_) ∧ k_ ≠ gb101 ∧ k_ ≠ gb102 ∧ k_ ≠ gb103 ∧ k_ ≠ gb271) (.slice A0_1 l0_1.length c0_1) l0_1) := ⟨h4_⟩
              have n5_ : Aside0 (Kd.V (Kd.int .u32) 118 w170 w.heap.size (fun k_ => ((P0_1_ k_ ∨ P0_2_ k_ ∨ P1_1_ k_ ∨ P1_2_ k_ ∨ P2_1_ k_ ∨ P2_2_ k_) ∨ w.heap.size ≤ k_) ∧ k_ ≠ gb101 ∧ k_ ≠ gb102 ∧ k_ ≠ gb103 ∧ k_ ≠ gb271) (.slice A0_2 l0_2.length c0_2) l0_2) := ⟨h5_⟩
              have n6_ : Aside0 (Kd.V (Kd.int .u32) 118 w170 w.heap.size (fun k_ => ((P0_1_ k_ ∨ P0_2_ k_ ∨ P1_1_ k_ ∨ P1_2_ k_ ∨ P2_1_ k_ ∨ P2_2_ k_) ∨ w.heap.size ≤ k_) ∧ k_ ≠ gb101 ∧ k_ ≠ gb102 ∧ k_ ≠ gb103 ∧ k_ ≠ gb271) (.slice A1_1 l1_1.length c1_1) l1_1) := ⟨h6_⟩
              have n7_ : Aside0 (Kd.V (Kd.int .u32) 118 w170 w.heap.size (fun k_ => ((P0_1_ k_ ∨ P0_2_ k_ ∨ P1_1_ k_ ∨ P1_2_ k_ ∨ P2_1_ k_ ∨ P2_2_ k_) ∨ w.heap.size ≤ k_) ∧ k_ ≠ gb101 ∧ k_ ≠ gb102 ∧ k_ ≠ gb103 ∧ k_ ≠ gb271) (.slice A1_2 l1_2.length c1_2) l1_2) := ⟨h7_⟩
              have n8_ : Aside0 (Kd.V (Kd.int .u32) 118 w170 w.heap.size (fun k_ => ((P0_1_ k_ ∨ P0_2_ k_ ∨ P1_1_ k_ ∨ P1_2_ k_ ∨ P2_1_ k_ ∨ P2_2_ k_) ∨ w.heap.size ≤ k_) ∧ k_ ≠ gb101 ∧ k_ ≠ gb102 ∧ k_ ≠ gb103 ∧ k_ ≠ gb271) (.slice A2_1 l2_1.length c2_1) l2_1) := ⟨h8_⟩
              have n9_ : Aside0 (Kd.V (Kd.int .u32) 118 w170 w.heap.size (fun k_ => ((P0_1_ k_ ∨ P0_2_ k_ ∨ P1_1_ k_ ∨ P1_2_ k_ ∨ P2_1_ k_ ∨ P2_2_ k_) ∨ w.heap.size ≤ k_) ∧ k_ ≠ gb101 ∧ k_ ≠ gb102 ∧ k_ ≠ gb103 ∧ k_ ≠ gb271) (.slice A2_2 l2_2.length c2_2) l2_2) := ⟨h9_⟩
              have n10_ : Aside0 (w170.heap[gb101]? = some (.cells #[.bool a0_0, .slice A0_1 l0_1.length c0_1, .slice A0_2 l0_2.length c0_2] 69 (0, 0))) := ⟨h10_⟩
              have n11_ : Aside0 (w170.heap[gb102]? = some (.cells #[.bool a1_0, .slice A1_1 l1_1.length c1_1, .slice A1_2 l1_2.length c1_2] 69 (0, 0))) := ⟨h11_⟩
              have n12_ : Aside0 (w170.heap[gb103]? = some (.cells #[.bool a2_0, .slice A2_1 l2_1.length c2_1, .slice A2_2 l2_2.length c2_2] 69 (0, 0))) := ⟨h12_⟩
              have n13_ : Aside0 (w170.heap[gb271]? = some (.cells #[.bool false, .slice none 0 0, .slice none 0 0] 69 (0, 0))) := ⟨h13_⟩
              have n14_ : Aside0 (w.heap.size ≤ gb271) := ⟨h14_⟩
              have n15_ : Aside0 (w.heap.size ≤ gb271) := ⟨h15_⟩
              have n16_ : Aside0 (gb101 ≠ gb271) := ⟨h16_⟩
              have n17_ : Aside0 (gb271 ≠ gb101) := ⟨h17_⟩
              have n18_ : Aside0 (gb102 ≠ gb271) := ⟨h18_⟩
              have n19_ : Aside0 (gb271 ≠ gb102) := ⟨h19_⟩
              have n20_ : Aside0 (gb103 ≠ gb271) := ⟨h20_⟩
              have n21_ : Aside0 (gb271 ≠ gb103) := ⟨h21_⟩
              have n22_ : Aside0 (Below w.heap.size w w170) := ⟨h22_⟩
              clear HO_102001
              clear HO_102002
              clear HO_103001
              clear HO_103002
              clear HO_104001
              clear HO_104002
              clear BK101
              clear BK102
              clear BK103
              clear HB
              clear h0_ h1_ h2_ h3_ h4_ h5_ h6_ h7_ h8_ h9_ h10_ h11_ h12_ h13_ h14_ h15_ h16_ h17_ h18_ h19_ h20_ h21_ h22_
              have HO259 := n0_
              have HO262 := n1_
              have HO266 := n2_
              have HO269 := n3_
              have HO_102001 := n4_
              have HO_102002 := n5_
              have HO_103001 := n6_
              have HO_103002 := n7_
              have HO_104001 := n8_
              have HO_104002 := n9_
              have BK101 := n10_
              have BK102 := n11_
              have BK103 := n12_
              have BK271 := n13_
              have GW271 := n14_
              have GE271 := n15_
              have NB101_271 := n16_
              have NB271_101 := n17_
              have NB102_271 := n18_
              have NB271_102 := n19_
              have NB103_271 := n20_
              have NB271_103 := n21_
              have HB := n22_
              clear n0_ n1_ n2_ n3_ n4_ n5_ n6_ n7_ n8_ n9_ n10_ n11_ n12_ n13_ n14_ n15_ n16_ n17_ n18_ n19_ n20_ n21_ n22_
              have hHeld := hS_
              obtain ⟨Ao172, co172, eo172⟩ := Kd.V_slice HO266.out
              (first | subst eo172 | (injection eo172 with f1_ f2_ f3_; have f4_ := f1_.symm; have f5_ := f3_.symm; clear f1_ f2_ f3_; subst f4_; subst f5_))
              obtain ⟨Ao174, co174, eo174⟩ := Kd.V_slice HO269.out
              (first | subst eo174 | (injection eo174 with f1_ f2_ f3_; have f4_ := f1_.symm; have f5_ := f3_.symm; clear f1_ f2_ f3_; subst f4_; subst f5_))
              refine norm_ (a' := ?_) ?_ ?_
              rotate_left
              ·simp only [putAll, Act.put, List.setIfInBounds_toArray, List.set_cons_zero, List.set_cons_succ]
               rfl
              refine on 9 none (tf 10 1) (fun K hK => ?_)
              obtain ⟨hs171, hfs171⟩ := e0 BK271
              have hns171_0 := NB101_271.out
              have hns171_1 := NB102_271.out
              have hns171_2 := NB103_271.out
              have hms171_0 := NB271_101.out
              have hms171_1 := NB271_102.out
              have hms171_2 := NB271_103.out
              obtain ⟨hs173, hfs173⟩ := e1 BK271
              have hns173_0 := NB101_271.out
              have hns173_1 := NB102_271.out
              have hns173_2 := NB103_271.out
              have hms173_0 := NB271_101.out
              have hms173_1 := NB271_102.out
              have hms173_2 := NB271_103.out
              obtain ⟨hs175, hfs175⟩ := e2 BK271
              have hns175_0 := NB101_271.out
              have hns175_1 := NB102_271.out
              have hns175_2 := NB103_271.out
              have hms175_0 := NB271_101.out
              have hms175_1 := NB271_102.out
              have hms175_2 := NB271_103.out
              refine sk ?_
              refine hK.out _ _ ⟨F3 hHeld.1 NB101_271, F3 hHeld.2 NB102_271⟩ (fun hHeld => ?_)
              clear hK K
              refine pu 10 14 (tf 11 0) ?_
              refine done_ (done_of HT_.out (by kernel_rfl)) ?_
              have hnb176 := NB102_101.out
              have hnc176 := NB101_102.out
              have hnb177 := NB102_103.out
              have hnc177 := NB103_102.out
              have hnb178 := NB102_271.out
              have hnc178 := NB271_102.out
              obtain ⟨⟨hcz179_0, hcz179_1, hcz179_2⟩, hfz179_0, hfz179_1, hfz179_2⟩ := cE BK102
              try go_wp2_with (first | ((with_reducible refine gc 57 rfl ?_); refine gL 108 Try.func57 #[.agg #[.bool a1_0, .slice A1_1 l1_1.length c1_1, .slice A1_2 l1_2.length c1_2]] ?_; (with_reducible refine (ratio_R_Sign.calls kj110 a1_0 _ _ l1_1 _ _ l1_2 t272 _ ?_ ?_ ?_ ?_ A157.out).mono ?_); (exact (Kd.V_reads' (e := 118) (base := w.heap.size) (n := l1_1.length) (c := c1_1) (vG (v3p HO_103001 (fun _ hk => hk.2.2.2.2)) (fun _ h_ => h_.1))).2.2); exact (Kd.V_reads' HO_103001.out).2.1; (exact (Kd.V_reads' (e := 118) (base := w.heap.size) (n := l1_2.length) (c := c1_2) (vG (v3p HO_103002 (fun _ hk => hk.2.2.2.2)) (fun _ h_ => h_.1))).2.2); exact (Kd.V_reads' HO_103002.out).2.1; rintro e w180 ⟨rfl, hb⟩; refine ⟨_, rfl, ?_⟩; replace HO_102001 := vF hb (v3p HO_102001 (fun _ hk => hk.2.2.2.2)) (fun _ h_ => h_.1); replace HO_102002 := vF hb (v3p HO_102002 (fun _ hk => hk.2.2.2.2)) (fun _ h_ => h_.1); replace HO_103001 := vF hb (v3p HO_103001 (fun _ hk => hk.2.2.2.2)) (fun _ h_ => h_.1); replace HO_103002 := vF hb (v3p HO_103002 (fun _ hk => hk.2.2.2.2)) (fun _ h_ => h_.1); replace HO_104001 := vF hb (v3p HO_104001 (fun _ hk => hk.2.2.2.2)) (fun _ h_ => h_.1); replace HO_104002 := vF hb (v3p HO_104002 (fun _ hk => hk.2.2.2.2)) (fun _ h_ => h_.1); replace HO259 := vF hb (v3p HO259 (fun _ hk => hk.2.2.2.2)) (fun _ h_ => h_.1); replace HO262 := vF hb (v3p HO262 (fun _ hk => hk.2.2.2.2)) (fun _ h_ => h_.1); replace HO266 := vF hb (v3p HO266 (fun _ hk => hk.2.2.2.2)) (fun _ h_ => h_.1); replace HO269 := vF hb (v3p HO269 (fun _ hk => hk.2.2.2.2)) (fun _ h_ => h_.1); replace BK101 := kB (q3 BK101 NB101_271) hb; replace BK102 := kB (q3 BK102 NB102_271) hb; replace BK103 := kB (q3 BK103 NB103_271) hb; replace BK271 := kB (p3 BK271) hb; replace HB := bS HB hb; clear hb))
              go_ret
              exact ⟨er, hB⟩
             ·replace c163 := Bool.eq_false_iff.mpr c163
              subst c163
              have H1 : (some false) = some true := by rw [if_neg (show ¬ (false = true) by decide)] at H; first | done | exact H
              clear H
              have H := H1
              clear H1
              exact absurd H (by simp)
            ·replace c161 := Bool.eq_false_iff.mpr c161
             subst c161
             have H1 : (some false) = some true := by rw [if_neg (show ¬ (false = true) by decide)] at H; first | done | exact H
             clear H
             have H := H1
             clear H1
             exact absurd H (by simp)
           ·replace c160 := Bool.eq_false_iff.mpr c160
            subst c160
            have H1 : (some false) = some true := by rw [if_neg (show ¬ (false = true) by decide)] at H; first | done | exact H
            clear H
            have H := H1
            clear H1
            exact absurd H (by simp)
          ·exact absurd rfl c159
         rw [if_neg c158] at H
         obtain ⟨c158b0, c158b1⟩ := bqF c158
         by_cases c266 : (true : Bool) = true
         ·clear c266
          replace H := ifT H
          by_cases c267 : x9_7 = true
          ·subst c267
           replace H := ifT H
           by_cases c268 : x10_51 = true
           ·subst c268
            replace H := ifT H
            replace H := iS H
            obtain ⟨c269, H⟩ := H
            have c269b0 : (t232 == 0) = true := c269
            (try (have c269b1 : decide (t232 = 0) = true := by simpa using c269))
            (try (have c269b2 : (t232 == 0) = true := by simpa using c269))
            clear c269
            by_cases c270 : x12_110 = true
            ·subst c270
             replace H := ifT H
             replace H := iS H
             obtain ⟨c271, H⟩ := H
             obtain ⟨c271b0, c271b1⟩ := bqT c271
             clear c271
             replace H := bi H
             obtain ⟨t273, A272, H⟩ := H
             have HT_ := Option.some.inj H
             clear H
             try go_wp2
             replace HO_102001 := Aside0.mk (Kd.V_drew HO_102001.out)
             replace HO_102002 := Aside0.mk (Kd.V_drew HO_102002.out)
             replace HO_103001 := Aside0.mk (Kd.V_drew HO_103001.out)
             replace HO_103002 := Aside0.mk (Kd.V_drew HO_103002.out)
             replace HO_104001 := Aside0.mk (Kd.V_drew HO_104001.out)
             replace HO_104002 := Aside0.mk (Kd.V_drew HO_104002.out)
             replace BK101 := kd BK101
             replace BK102 := kd BK102
             replace BK103 := kd BK103
             replace HB := bd HB
             refine st (S := fun w' => B3 w' gb101 (.bool a0_0) (.slice A0_1 l0_1.length c0_1) (.slice A0_2 l0_2.length c0_2) ∧ B3 w' gb102 (.bool a1_0) (.slice A1_1 l1_1.length c1_1) (.slice A1_2 l1_2.length c1_2)) 11 [] (tf 0 11) ⟨b3 BK101, b3 BK102⟩ (fun hHeld => ?_); refine with_tabW flyballlaw03_RatioField.tab11 flyballlaw03_RatioField.bits11 (fun HT_ HW_ => ?_)
             generalize wc.drew = w273 at HO_102001 HO_102002 HO_103001 HO_103002 HO_104001 HO_104002 BK101 BK102 BK103 HB hHeld ⊢
             refine tk 0 100 (tf 1 10) hHeld ?_
             refine tk 1 101 (tf 2 9) hHeld ?_
             refine tk 3 103 #[true, true, false, true, false, false, false, false, false, false, false] hHeld ?_
             refine join_ (σ := Value × Value × Value × Value × Nat) 2 (tf 9 2) (fun s_ => [(102, .agg #[.bool t256, s_.1, s_.2.1]), (104, .tuple #[.agg #[.bool t263, s_.2.2.1, s_.2.2.2.1], .int .i64 t270]), (13, .pointer (some ⟨s_.2.2.2.2, 0, none⟩)), (99, .tuple #[.agg #[.bool t263, s_.2.2.1, s_.2.2.2.1], .int .i64 t270]), (105, .agg #[.bool t263, s_.2.2.1, s_.2.2.2.1]), (106, .int .i64 t270)]) (fun s_ w' => (B3 w' gb101 (.bool a0_0) (.slice A0_1 l0_1.length c0_1) (.slice A0_2 l0_2.length c0_2) ∧ B3 w' gb102 (.bool a1_0) (.slice A1_1 l1_1.length c1_1) (.slice A1_2 l1_2.length c1_2)) ∧ (Kd.V (Kd.int .u32) 118 w' w.heap.size (fun k_ => ((P0_1_ k_ ∨ P0_2_ k_ ∨ P1_1_ k_ ∨ P1_2_ k_ ∨ P2_1_ k_ ∨ P2_2_ k_) ∨ w.heap.size ≤ k_) ∧ k_ ≠ gb101 ∧ k_ ≠ gb102 ∧ k_ ≠ gb103 ∧ k_ ≠ s_.2.2.2.2) s_.1 t257) ∧ (Kd.V (Kd.int .u32) 118 w' w.heap.size (fun k_ => ((P0_1_ k_ ∨ P0_2_ k_ ∨ P1_1_ k_ ∨ P1_2_ k_ ∨ P2_1_ k_ ∨ P2_2_ k_) ∨ w.heap.size ≤ k_) ∧ k_ ≠ gb101 ∧ k_ ≠ gb102 ∧ k_ ≠ gb103 ∧ k_ ≠ s_.2.2.2.2) s_.2.1 t260) ∧ (Kd.V (Kd.int .u32) 118 w' w.heap.size (fun k_ => ((P0_1_ k_ ∨ P0_2_ k_ ∨ P1_1_ k_ ∨ P1_2_ k_ ∨ P2_1_ k_ ∨ P2_2_ k_) ∨ w.heap.size ≤ k_) ∧ k_ ≠ gb101 ∧ k_ ≠ gb102 ∧ k_ ≠ gb103 ∧ k_ ≠ s_.2.2.2.2) s_.2.2.1 t264) ∧ (Kd.V (Kd.int .u32) 118 w' w.heap.size (fun k_ => ((P0_1_ k_ ∨ P0_2_ k_ ∨ P1_1_ k_ ∨ P1_2_ k_ ∨ P2_1_ k_ ∨ P2_2_ k_) ∨ w.heap.size ≤ k_) ∧ k_ ≠ gb101 ∧ k_ ≠ gb102 ∧ k_ ≠ gb103 ∧ k_ ≠ s_.2.2.2.2) s_.2.2.2.1 t267) ∧ (Kd.V (Kd.int .u32) 118 w' w.heap.size (fun k_ => ((P0_1_ k_ ∨ P0_2_ k_ ∨ P1_1_ k_ ∨ P1_2_ k_ ∨ P2_1_ k_ ∨ P2_2_ k_) ∨ w.heap.size ≤ k_) ∧ k_ ≠ gb101 ∧ k_ ≠ gb102 ∧ k_ ≠ gb103 ∧ k_ ≠ s_.2.2.2.2) (.slice A0_1 l0_1.length c0_1) l0_1) ∧ (Kd.V (Kd.int .u32) 118 w' w.heap.size (fun k_ => ((P0_1_ k_ ∨ P0_2_ k_ ∨ P1_1_ k_ ∨ P1_2_ k_ ∨ P2_1_ k_ ∨ P2_2_ k_) ∨ w.heap.size ≤ k_) ∧ k_ ≠ gb101 ∧ k_ ≠ gb102 ∧ k_ ≠ gb103 ∧ k_ ≠ s_.2.2.2.2) (.slice A0_2 l0_2.length c0_2) l0_2) ∧ (Kd.V (Kd.int .u32) 118 w' w.heap.size (fun k_ => ((P0_1_ k_ ∨ P0_2_ k_ ∨ P1_1_ k_ ∨ P1_2_ k_ ∨ P2_1_ k_ ∨ P2_2_ k_) ∨ w.heap.size ≤ k_) ∧ k_ ≠ gb101 ∧ k_ ≠ gb102 ∧ k_ ≠ gb103 ∧ k_ ≠ s_.2.2.2.2) (.slice A1_1 l1_1.length c1_1) l1_1) ∧ (Kd.V (Kd.int .u32) 118 w' w.heap.size (fun k_ => ((P0_1_ k_ ∨ P0_2_ k_ ∨ P1_1_ k_ ∨ P1_2_ k_ ∨ P2_1_ k_ ∨ P2_2_ k_) ∨ w.heap.size ≤ k_) ∧ k_ ≠ gb101 ∧ k_ ≠ gb102 ∧ k_ ≠ gb103 ∧ k_ ≠ s_.2.2.2.2) (.slice A1_2 l1_2.length c1_2) l1_2) ∧ (Kd.V (Kd.int .u32) 118 w' w.heap.size (fun k_ => ((P0_1_ k_ ∨ P0_2_ k_ ∨ P1_1_ k_ ∨ P1_2_ k_ ∨ P2_1_ k_ ∨ P2_2_ k_) ∨ w.heap.size ≤ k_) ∧ k_ ≠ gb101 ∧ k_ ≠ gb102 ∧ k_ ≠ gb103 ∧ k_ ≠ s_.2.2.2.2) (.slice A2_1 l2_1.length c2_1) l2_1) ∧ (Kd.V (Kd.int .u32) 118 w' w.heap.size (fun k_ => ((P0_1_ k_ ∨ P0_2_ k_ ∨ P1_1_ k_ ∨ P1_2_ k_ ∨ P2_1_ k_ ∨ P2_2_ k_) ∨ w.heap.size ≤ k_) ∧ k_ ≠ gb101 ∧ k_ ≠ gb102 ∧ k_ ≠ gb103 ∧ k_ ≠ s_.2.2.2.2) (.slice A2_2 l2_2.length c2_2) l2_2) ∧ (w'.heap[gb101]? = some (.cells #[.bool a0_0, .slice A0_1 l0_1.length c0_1, .slice A0_2 l0_2.length c0_2] 69 (0, 0))) ∧ (w'.heap[gb102]? = some (.cells #[.bool a1_0, .slice A1_1 l1_1.length c1_1, .slice A1_2 l1_2.length c1_2] 69 (0, 0))) ∧ (w'.heap[gb103]? = some (.cells #[.bool a2_0, .slice A2_1 l2_1.length c2_1, .slice A2_2 l2_2.length c2_2] 69 (0, 0))) ∧ (w'.heap[s_.2.2.2.2]? = some (.cells #[.bool false, .slice none 0 0, .slice none 0 0] 69 (0, 0))) ∧ (w.heap.size ≤ s_.2.2.2.2) ∧ (w.heap.size ≤ s_.2.2.2.2) ∧ (gb101 ≠ s_.2.2.2.2) ∧ (s_.2.2.2.2 ≠ gb101) ∧ (gb102 ≠ s_.2.2.2.2) ∧ (s_.2.2.2.2 ≠ gb102) ∧ (gb103 ≠ s_.2.2.2.2) ∧ (s_.2.2.2.2 ≠ gb103) ∧ (Below w.heap.size w w')) ?_ ?_
             rotate_left
             ·intro hCont
              refine two_ (i := 2) (j := 8) (Ni := some 102) (Nj := some 13) (tf 4 7) #[true, true, false, true, false, false, false, false, true, false, false] rfl rfl rfl rfl (two_of HT_.out (by kernel_rfl)) (by decide) (by decide) (fun K hK => ?_) (fun K hK => ?_)
              ·skip
               refine gS Try.func90 #[.agg #[.bool a0_0, .slice A0_1 l0_1.length c0_1, .slice A0_2 l0_2.length c0_2], .agg #[.bool a1_0, .slice A1_1 l1_1.length c1_1, .slice A1_2 l1_2.length c1_2]] ?_
               with_reducible refine (ratio_R_Mul.calls kj110 a0_0 (fun k_ => (((P0_1_ k_ ∨ P0_2_ k_ ∨ P1_1_ k_ ∨ P1_2_ k_ ∨ P2_1_ k_ ∨ P2_2_ k_) ∨ w.heap.size ≤ k_) ∧ (k_ ≠ gb101 ∧ (k_ ≠ gb102 ∧ k_ ≠ gb103)))) _ _ l0_1 (fun k_ => (((P0_1_ k_ ∨ P0_2_ k_ ∨ P1_1_ k_ ∨ P1_2_ k_ ∨ P2_1_ k_ ∨ P2_2_ k_) ∨ w.heap.size ≤ k_) ∧ (k_ ≠ gb101 ∧ (k_ ≠ gb102 ∧ k_ ≠ gb103)))) _ _ l0_2 a1_0 (fun k_ => (((P0_1_ k_ ∨ P0_2_ k_ ∨ P1_1_ k_ ∨ P1_2_ k_ ∨ P2_1_ k_ ∨ P2_2_ k_) ∨ w.heap.size ≤ k_) ∧ (k_ ≠ gb101 ∧ (k_ ≠ gb102 ∧ k_ ≠ gb103)))) _ _ l1_1 (fun k_ => (((P0_1_ k_ ∨ P0_2_ k_ ∨ P1_1_ k_ ∨ P1_2_ k_ ∨ P2_1_ k_ ∨ P2_2_ k_) ∨ w.heap.size ≤ k_) ∧ (k_ ≠ gb101 ∧ (k_ ≠ gb102 ∧ k_ ≠ gb103)))) _ _ l1_2 t256 t257 t260 _ ?_ ?_ ?_ ?_ A155.out).mono ?_
               exact HO_102001.out
               exact HO_102002.out
               exact HO_103001.out
               exact HO_103002.out
               rintro e w274 ⟨v258, v261, rfl, ho0, ho1, hb⟩
               refine ⟨_, rfl, ?_⟩
               replace HO_102001 := vA HO_102001 hb
               replace HO_102002 := vA HO_102002 hb
               replace HO_103001 := vA HO_103001 hb
               replace HO_103002 := vA HO_103002 hb
               replace HO_104001 := vA HO_104001 hb
               replace HO_104002 := vA HO_104002 hb
               have HO259 := lw HB (fun k_ => ((P0_1_ k_ ∨ P0_2_ k_ ∨ P1_1_ k_ ∨ P1_2_ k_ ∨ P2_1_ k_ ∨ P2_2_ k_) ∨ w.heap.size ≤ k_) ∧ k_ ≠ gb101 ∧ k_ ≠ gb102 ∧ k_ ≠ gb103) ho0 (fun k_ hk_ => Or.elim hk_ (fun hs_ => Or.elim hs_ id (fun hs_ => Or.elim hs_ id (fun hs_ => Or.elim hs_ id id))) (fun hn_ => ⟨.inr (Nat.le_trans (below_size hB) hn_), kF BK101 hn_, kF BK102 hn_, kF BK103 hn_⟩))
               have HO262 := lw HB (fun k_ => ((P0_1_ k_ ∨ P0_2_ k_ ∨ P1_1_ k_ ∨ P1_2_ k_ ∨ P2_1_ k_ ∨ P2_2_ k_) ∨ w.heap.size ≤ k_) ∧ k_ ≠ gb101 ∧ k_ ≠ gb102 ∧ k_ ≠ gb103) ho1 (fun k_ hk_ => Or.elim hk_ (fun hs_ => Or.elim hs_ id (fun hs_ => Or.elim hs_ id (fun hs_ => Or.elim hs_ id id))) (fun hn_ => ⟨.inr (Nat.le_trans (below_size hB) hn_), kF BK101 hn_, kF BK102 hn_, kF BK103 hn_⟩))
               replace BK101 := kA BK101 hb
               replace BK102 := kA BK102 hb
               replace BK103 := kA BK103 hb
               replace HB := bS HB hb
               clear hb ho0 ho1
               obtain ⟨Ao275, co275, eo275⟩ := Kd.V_slice HO259.out
               (first | subst eo275 | (injection eo275 with f1_ f2_ f3_; have f4_ := f1_.symm; have f5_ := f3_.symm; clear f1_ f2_ f3_; subst f4_; subst f5_))
               obtain ⟨Ao276, co276, eo276⟩ := Kd.V_slice HO262.out
               (first | subst eo276 | (injection eo276 with f1_ f2_ f3_; have f4_ := f1_.symm; have f5_ := f3_.symm; clear f1_ f2_ f3_; subst f4_; subst f5_))
               refine hK.out _ _ ⟨b3 BK101, b3 BK102⟩ (fun hHeld => nm ?_)
               clear hK K
               refine two_ (i := 4) (j := 8) (Ni := some 104) (Nj := some 13) (tf 5 6) #[true, true, true, true, false, false, false, false, true, false, false] rfl rfl rfl rfl (two_of HT_.out (by kernel_rfl)) (by decide) (by decide) (fun K hK => ?_) (fun K hK => ?_)
               ·skip
                refine gS Try.func92 #[.agg #[.bool t256, .slice Ao275 t257.length co275, .slice Ao276 t260.length co276], .agg #[.bool a1_0, .slice A1_1 l1_1.length c1_1, .slice A1_2 l1_2.length c1_2]] ?_
                with_reducible refine (ratio_R_Div.calls kj110 t256 (fun k_ => (((P0_1_ k_ ∨ P0_2_ k_ ∨ P1_1_ k_ ∨ P1_2_ k_ ∨ P2_1_ k_ ∨ P2_2_ k_) ∨ w.heap.size ≤ k_) ∧ (k_ ≠ gb101 ∧ (k_ ≠ gb102 ∧ k_ ≠ gb103)))) _ _ t257 (fun k_ => (((P0_1_ k_ ∨ P0_2_ k_ ∨ P1_1_ k_ ∨ P1_2_ k_ ∨ P2_1_ k_ ∨ P2_2_ k_) ∨ w.heap.size ≤ k_) ∧ (k_ ≠ gb101 ∧ (k_ ≠ gb102 ∧ k_ ≠ gb103)))) _ _ t260 a1_0 (fun k_ => (((P0_1_ k_ ∨ P0_2_ k_ ∨ P1_1_ k_ ∨ P1_2_ k_ ∨ P2_1_ k_ ∨ P2_2_ k_) ∨ w.heap.size ≤ k_) ∧ (k_ ≠ gb101 ∧ (k_ ≠ gb102 ∧ k_ ≠ gb103)))) _ _ l1_1 (fun k_ => (((P0_1_ k_ ∨ P0_2_ k_ ∨ P1_1_ k_ ∨ P1_2_ k_ ∨ P2_1_ k_ ∨ P2_2_ k_) ∨ w.heap.size ≤ k_) ∧ (k_ ≠ gb101 ∧ (k_ ≠ gb102 ∧ k_ ≠ gb103)))) _ _ l1_2 t263 t264 t267 t270 _ ?_ ?_ ?_ ?_ A156.out).mono ?_
                exact HO259.out
                exact HO262.out
                exact HO_103001.out
                exact HO_103002.out
                rintro e w277 ⟨v265, v268, rfl, ho0, ho1, hb⟩
                refine ⟨_, rfl, ?_⟩
                replace HO_102001 := vA HO_102001 hb
                replace HO_102002 := vA HO_102002 hb
                replace HO_103001 := vA HO_103001 hb
                replace HO_103002 := vA HO_103002 hb
                replace HO_104001 := vA HO_104001 hb
                replace HO_104002 := vA HO_104002 hb
                replace HO259 := vA HO259 hb
                replace HO262 := vA HO262 hb
                have HO266 := lw HB (fun k_ => ((P0_1_ k_ ∨ P0_2_ k_ ∨ P1_1_ k_ ∨ P1_2_ k_ ∨ P2_1_ k_ ∨ P2_2_ k_) ∨ w.heap.size ≤ k_) ∧ k_ ≠ gb101 ∧ k_ ≠ gb102 ∧ k_ ≠ gb103) ho0 (fun k_ hk_ => Or.elim hk_ (fun hs_ => Or.elim hs_ id (fun hs_ => Or.elim hs_ id (fun hs_ => Or.elim hs_ id id))) (fun hn_ => ⟨.inr (Nat.le_trans (below_size hB) hn_), kF BK101 hn_, kF BK102 hn_, kF BK103 hn_⟩))
                have HO269 := lw HB (fun k_ => ((P0_1_ k_ ∨ P0_2_ k_ ∨ P1_1_ k_ ∨ P1_2_ k_ ∨ P2_1_ k_ ∨ P2_2_ k_) ∨ w.heap.size ≤ k_) ∧ k_ ≠ gb101 ∧ k_ ≠ gb102 ∧ k_ ≠ gb103) ho1 (fun k_ hk_ => Or.elim hk_ (fun hs_ => Or.elim hs_ id (fun hs_ => Or.elim hs_ id (fun hs_ => Or.elim hs_ id id))) (fun hn_ => ⟨.inr (Nat.le_trans (below_size hB) hn_), kF BK101 hn_, kF BK102 hn_, kF BK103 hn_⟩))
                replace BK101 := kA BK101 hb
                replace BK102 := kA BK102 hb
                replace BK103 := kA BK103 hb
                replace HB := bS HB hb
                clear hb ho0 ho1
                refine hK.out _ _ ⟨b3 BK101, b3 BK102⟩ (fun hHeld => nm ?_)
                clear hK K
                refine pu 5 99 (tf 6 5) ?_
                refine pu 6 105 (tf 7 4) ?_
                refine pu 7 106 (tf 8 3) ?_
                refine on 8 (some 13) (tf 9 2) (fun K hK => ?_)
                refine box_step ?hg (N := 13) ?hd (cs := #[.bool false, .slice none 0 0, .slice none 0 0]) (t := 69) ?hr ?_; (case hd => rfl); (case hg => rfl); (case hr => first | (go_simp; done) | (go_simp; rfl))
                intro gb271 hg w278 hbox hb
                replace HO_102001 := vE HO_102001 hg hb
                replace HO_102002 := vE HO_102002 hg hb
                replace HO_103001 := vE HO_103001 hg hb
                replace HO_103002 := vE HO_103002 hg hb
                replace HO_104001 := vE HO_104001 hg hb
                replace HO_104002 := vE HO_104002 hg hb
                replace HO259 := vE HO259 hg hb
                replace HO262 := vE HO262 hg hb
                replace HO266 := vE HO266 hg hb
                replace HO269 := vE HO269 hg hb
                have BK271 := Aside0.mk hbox
                have GW271 := gS' hg HB
                have GE271 := gS' hg HB
                replace HB := bS HB hb
                have NB101_271 := nL hg BK101
                have NB271_101 := nR hg BK101
                replace BK101 := kA BK101 hb
                have NB102_271 := nL hg BK102
                have NB271_102 := nR hg BK102
                replace BK102 := kA BK102 hb
                have NB103_271 := nL hg BK103
                have NB271_103 := nR hg BK103
                replace BK103 := kA BK103 hb
                clear hb hbox hg
                refine hK.out _ _ ⟨b3 BK101, b3 BK102⟩ (fun hHeld => nm ?_)
                clear hK K
                exact norm_ (by simp only [putAll, Act.put, List.setIfInBounds_toArray, List.set_cons_zero, List.set_cons_succ]) (hCont (.slice Ao275 t257.length co275, .slice Ao276 t260.length co276, v265, v268, gb271) _ ⟨hHeld, (by (with_reducible repeat (first | apply Kd.V_alloc | apply Kd.V_drewN | apply Kd.V_drew)); exact Kd.V_mono HO259.out (fun _ hk => by simp only [hk, and_self, ne_eq, not_false_eq_true])), (by (with_reducible repeat (first | apply Kd.V_alloc | apply Kd.V_drewN | apply Kd.V_drew)); exact Kd.V_mono HO262.out (fun _ hk => by simp only [hk, and_self, ne_eq, not_false_eq_true])), (by (with_reducible repeat (first | apply Kd.V_alloc | apply Kd.V_drewN | apply Kd.V_drew)); exact Kd.V_mono HO266.out (fun _ hk => by simp only [hk, and_self, ne_eq, not_false_eq_true])), (by (with_reducible repeat (first | apply Kd.V_alloc | apply Kd.V_drewN | apply Kd.V_drew)); exact Kd.V_mono HO269.out (fun _ hk => by simp only [hk, and_self, ne_eq, not_false_eq_true])), (by (with_reducible repeat (first | apply Kd.V_alloc | apply Kd.V_drewN | apply Kd.V_drew)); exact Kd.V_mono HO_102001.out (fun _ hk => by simp only [hk, and_self, ne_eq, not_false_eq_true])), (by (with_reducible repeat (first | apply Kd.V_alloc | apply Kd.V_drewN | apply Kd.V_drew)); exact Kd.V_mono HO_102002.out (fun _ hk => by simp only [hk, and_self, ne_eq, not_false_eq_true])), (by (with_reducible repeat (first | apply Kd.V_alloc | apply Kd.V_drewN | apply Kd.V_drew)); exact Kd.V_mono HO_103001.out (fun _ hk => by simp only [hk, and_self, ne_eq, not_false_eq_true])), (by (with_reducible repeat (first | apply Kd.V_alloc | apply Kd.V_drewN | apply Kd.V_drew)); exact Kd.V_mono HO_103002.out (fun _ hk => by simp only [hk, and_self, ne_eq, not_false_eq_true])), (by (with_reducible repeat (first | apply Kd.V_alloc | apply Kd.V_drewN | apply Kd.V_drew)); exact Kd.V_mono HO_104001.out (fun _ hk => by simp only [hk, and_self, ne_eq, not_false_eq_true])), (by (with_reducible repeat (first | apply Kd.V_alloc | apply Kd.V_drewN | apply Kd.V_drew)); exact Kd.V_mono HO_104002.out (fun _ hk => by simp only [hk, and_self, ne_eq, not_false_eq_true])), (by exact kU BK101), (by exact kU BK102), (by exact kU BK103), (by exact kU BK271), GW271.out, GE271.out, NB101_271.out, NB271_101.out, NB102_271.out, NB271_102.out, NB103_271.out, NB271_103.out, hB⟩)
               ·skip
                refine box_step ?hg (N := 13) ?hd (cs := #[.bool false, .slice none 0 0, .slice none 0 0]) (t := 69) ?hr ?_; (case hd => rfl); (case hg => rfl); (case hr => first | (go_simp; done) | (go_simp; rfl))
                intro gb271 hg w275 hbox hb
                replace HO_102001 := vE HO_102001 hg hb
                replace HO_102002 := vE HO_102002 hg hb
                replace HO_103001 := vE HO_103001 hg hb
                replace HO_103002 := vE HO_103002 hg hb
                replace HO_104001 := vE HO_104001 hg hb
                replace HO_104002 := vE HO_104002 hg hb
                replace HO259 := vE HO259 hg hb
                replace HO262 := vE HO262 hg hb
                have BK271 := Aside0.mk hbox
                have GW271 := gS' hg HB
                have GE271 := gS' hg HB
                replace HB := bS HB hb
                have NB101_271 := nL hg BK101
                have NB271_101 := nR hg BK101
                replace BK101 := kA BK101 hb
                have NB102_271 := nL hg BK102
                have NB271_102 := nR hg BK102
                replace BK102 := kA BK102 hb
                have NB103_271 := nL hg BK103
                have NB271_103 := nR hg BK103
                replace BK103 := kA BK103 hb
                clear hb hbox hg
                obtain ⟨Ao276, co276, eo276⟩ := Kd.V_slice HO259.out
                (first | subst eo276 | (injection eo276 with f1_ f2_ f3_; have f4_ := f1_.symm; have f5_ := f3_.symm; clear f1_ f2_ f3_; subst f4_; subst f5_))
                obtain ⟨Ao277, co277, eo277⟩ := Kd.V_slice HO262.out
                (first | subst eo277 | (injection eo277 with f1_ f2_ f3_; have f4_ := f1_.symm; have f5_ := f3_.symm; clear f1_ f2_ f3_; subst f4_; subst f5_))
                refine hK.out _ _ ⟨b3 BK101, b3 BK102⟩ (fun hHeld => nm ?_)
                clear hK K
                refine on 4 (some 104) #[true, true, true, true, true, false, false, false, true, false, false] (fun K hK => ?_)
                refine gS Try.func92 #[.agg #[.bool t256, .slice Ao276 t257.length co276, .slice Ao277 t260.length co277], .agg #[.bool a1_0, .slice A1_1 l1_1.length c1_1, .slice A1_2 l1_2.length c1_2]] ?_
                with_reducible refine (ratio_R_Div.calls kj110 t256 (fun k_ => ((((P0_1_ k_ ∨ P0_2_ k_ ∨ P1_1_ k_ ∨ P1_2_ k_ ∨ P2_1_ k_ ∨ P2_2_ k_) ∨ w.heap.size ≤ k_) ∧ (k_ ≠ gb101 ∧ (k_ ≠ gb102 ∧ k_ ≠ gb103))) ∧ k_ ≠ gb271)) _ _ t257 (fun k_ => ((((P0_1_ k_ ∨ P0_2_ k_ ∨ P1_1_ k_ ∨ P1_2_ k_ ∨ P2_1_ k_ ∨ P2_2_ k_) ∨ w.heap.size ≤ k_) ∧ (k_ ≠ gb101 ∧ (k_ ≠ gb102 ∧ k_ ≠ gb103))) ∧ k_ ≠ gb271)) _ _ t260 a1_0 (fun k_ => ((((P0_1_ k_ ∨ P0_2_ k_ ∨ P1_1_ k_ ∨ P1_2_ k_ ∨ P2_1_ k_ ∨ P2_2_ k_) ∨ w.heap.size ≤ k_) ∧ (k_ ≠ gb101 ∧ (k_ ≠ gb102 ∧ k_ ≠ gb103))) ∧ k_ ≠ gb271)) _ _ l1_1 (fun k_ => ((((P0_1_ k_ ∨ P0_2_ k_ ∨ P1_1_ k_ ∨ P1_2_ k_ ∨ P2_1_ k_ ∨ P2_2_ k_) ∨ w.heap.size ≤ k_) ∧ (k_ ≠ gb101 ∧ (k_ ≠ gb102 ∧ k_ ≠ gb103))) ∧ k_ ≠ gb271)) _ _ l1_2 t263 t264 t267 t270 _ ?_ ?_ ?_ ?_ A156.out).mono ?_
                exact HO259.out
                exact HO262.out
                exact HO_103001.out
                exact HO_103002.out
                rintro e w278 ⟨v265, v268, rfl, ho0, ho1, hb⟩
                refine ⟨_, rfl, ?_⟩
                replace HO_102001 := vA HO_102001 hb
                replace HO_102002 := vA HO_102002 hb
                replace HO_103001 := vA HO_103001 hb
                replace HO_103002 := vA HO_103002 hb
                replace HO_104001 := vA HO_104001 hb
                replace HO_104002 := vA HO_104002 hb
                replace HO259 := vA HO259 hb
                replace HO262 := vA HO262 hb
                have HO266 := lw HB (fun k_ => ((P0_1_ k_ ∨ P0_2_ k_ ∨ P1_1_ k_ ∨ P1_2_ k_ ∨ P2_1_ k_ ∨ P2_2_ k_) ∨ w.heap.size ≤ k_) ∧ k_ ≠ gb101 ∧ k_ ≠ gb102 ∧ k_ ≠ gb103 ∧ k_ ≠ gb271) ho0 (fun k_ hk_ => Or.elim hk_ (fun hs_ => Or.elim hs_ (fun hs_ => ⟨hs_.1.1, hs_.1.2.1, hs_.1.2.2.1, hs_.1.2.2.2, hs_.2⟩) (fun hs_ => Or.elim hs_ (fun hs_ => ⟨hs_.1.1, hs_.1.2.1, hs_.1.2.2.1, hs_.1.2.2.2, hs_.2⟩) (fun hs_ => Or.elim hs_ (fun hs_ => ⟨hs_.1.1, hs_.1.2.1, hs_.1.2.2.1, hs_.1.2.2.2, hs_.2⟩) (fun hs_ => ⟨hs_.1.1, hs_.1.2.1, hs_.1.2.2.1, hs_.1.2.2.2, hs_.2⟩)))) (fun hn_ => ⟨.inr (Nat.le_trans (below_size hB) hn_), kF BK101 hn_, kF BK102 hn_, kF BK103 hn_, kF BK271 hn_⟩))
                have HO269 := lw HB (fun k_ => ((P0_1_ k_ ∨ P0_2_ k_ ∨ P1_1_ k_ ∨ P1_2_ k_ ∨ P2_1_ k_ ∨ P2_2_ k_) ∨ w.heap.size ≤ k_) ∧ k_ ≠ gb101 ∧ k_ ≠ gb102 ∧ k_ ≠ gb103 ∧ k_ ≠ gb271) ho1 (fun k_ hk_ => Or.elim hk_ (fun hs_ => Or.elim hs_ (fun hs_ => ⟨hs_.1.1, hs_.1.2.1, hs_.1.2.2.1, hs_.1.2.2.2, hs_.2⟩) (fun hs_ => Or.elim hs_ (fun hs_ => ⟨hs_.1.1, hs_.1.2.1, hs_.1.2.2.1, hs_.1.2.2.2, hs_.2⟩) (fun hs_ => Or.elim hs_ (fun hs_ => ⟨hs_.1.1, hs_.1.2.1, hs_.1.2.2.1, hs_.1.2.2.2, hs_.2⟩) (fun hs_ => ⟨hs_.1.1, hs_.1.2.1, hs_.1.2.2.1, hs_.1.2.2.2, hs_.2⟩)))) (fun hn_ => ⟨.inr (Nat.le_trans (below_size hB) hn_), kF BK101 hn_, kF BK102 hn_, kF BK103 hn_, kF BK271 hn_⟩))
                replace BK101 := kA BK101 hb
                replace BK102 := kA BK102 hb
                replace BK103 := kA BK103 hb
                replace BK271 := kA BK271 hb
                replace HB := bS HB hb
                clear hb ho0 ho1
                refine hK.out _ _ ⟨b3 BK101, b3 BK102⟩ (fun hHeld => nm ?_)
                clear hK K
                refine pu 5 99 #[true, true, true, true, true, true, false, false, true, false, false] ?_
                refine pu 6 105 #[true, true, true, true, true, true, true, false, true, false, false] ?_
                refine pu 7 106 (tf 9 2) ?_
                exact norm_ (by simp only [putAll, Act.put, List.setIfInBounds_toArray, List.set_cons_zero, List.set_cons_succ]) (hCont (.slice Ao276 t257.length co276, .slice Ao277 t260.length co277, v265, v268, gb271) _ ⟨hHeld, (by (with_reducible repeat (first | apply Kd.V_alloc | apply Kd.V_drewN | apply Kd.V_drew)); exact Kd.V_mono HO259.out (fun _ hk => by simp only [hk, and_self, ne_eq, not_false_eq_true])), (by (with_reducible repeat (first | apply Kd.V_alloc | apply Kd.V_drewN | apply Kd.V_drew)); exact Kd.V_mono HO262.out (fun _ hk => by simp only [hk, and_self, ne_eq, not_false_eq_true])), (vup HO266.out), (vup HO269.out), (by (with_reducible repeat (first | apply Kd.V_alloc | apply Kd.V_drewN | apply Kd.V_drew)); exact Kd.V_mono HO_102001.out (fun _ hk => by simp only [hk, and_self, ne_eq, not_false_eq_true])), (by (with_reducible repeat (first | apply Kd.V_alloc | apply Kd.V_drewN | apply Kd.V_drew)); exact Kd.V_mono HO_102002.out (fun _ hk => by simp only [hk, and_self, ne_eq, not_false_eq_true])), (by (with_reducible repeat (first | apply Kd.V_alloc | apply Kd.V_drewN | apply Kd.V_drew)); exact Kd.V_mono HO_103001.out (fun _ hk => by simp only [hk, and_self, ne_eq, not_false_eq_true])), (by (with_reducible repeat (first | apply Kd.V_alloc | apply Kd.V_drewN | apply Kd.V_drew)); exact Kd.V_mono HO_103002.out (fun _ hk => by simp only [hk, and_self, ne_eq, not_false_eq_true])), (by (with_reducible repeat (first | apply Kd.V_alloc | apply Kd.V_drewN | apply Kd.V_drew)); exact Kd.V_mono HO_104001.out (fun _ hk => by simp only [hk, and_self, ne_eq, not_false_eq_true])), (by (with_reducible repeat (first | apply Kd.V_alloc | apply Kd.V_drewN | apply Kd.V_drew)); exact Kd.V_mono HO_104002.out (fun _ hk => by simp only [hk, and_self, ne_eq, not_false_eq_true])), (by exact kU BK101), (by exact kU BK102), (by exact kU BK103), (by exact kU BK271), GW271.out, GE271.out, NB101_271.out, NB271_101.out, NB102_271.out, NB271_102.out, NB103_271.out, NB271_103.out, hB⟩)
              ·skip
               refine box_step ?hg (N := 13) ?hd (cs := #[.bool false, .slice none 0 0, .slice none 0 0]) (t := 69) ?hr ?_; (case hd => rfl); (case hg => rfl); (case hr => first | (go_simp; done) | (go_simp; rfl))
               intro gb271 hg w274 hbox hb
               replace HO_102001 := vE HO_102001 hg hb
               replace HO_102002 := vE HO_102002 hg hb
               replace HO_103001 := vE HO_103001 hg hb
               replace HO_103002 := vE HO_103002 hg hb
               replace HO_104001 := vE HO_104001 hg hb
               replace HO_104002 := vE HO_104002 hg hb
               have BK271 := Aside0.mk hbox
               have GW271 := gS' hg HB
               have GE271 := gS' hg HB
               replace HB := bS HB hb
               have NB101_271 := nL hg BK101
               have NB271_101 := nR hg BK101
               replace BK101 := kA BK101 hb
               have NB102_271 := nL hg BK102
               have NB271_102 := nR hg BK102
               replace BK102 := kA BK102 hb
               have NB103_271 := nL hg BK103
               have NB271_103 := nR hg BK103
               replace BK103 := kA BK103 hb
               clear hb hbox hg
               refine hK.out _ _ ⟨b3 BK101, b3 BK102⟩ (fun hHeld => nm ?_)
               clear hK K
               refine on 2 (some 102) #[true, true, true, true, false, false, false, false, true, false, false] (fun K hK => ?_)
               refine gS Try.func90 #[.agg #[.bool a0_0, .slice A0_1 l0_1.length c0_1, .slice A0_2 l0_2.length c0_2], .agg #[.bool a1_0, .slice A1_1 l1_1.length c1_1, .slice A1_2 l1_2.length c1_2]] ?_
               with_reducible refine (ratio_R_Mul.calls kj110 a0_0 (fun k_ => ((((P0_1_ k_ ∨ P0_2_ k_ ∨ P1_1_ k_ ∨ P1_2_ k_ ∨ P2_1_ k_ ∨ P2_2_ k_) ∨ w.heap.size ≤ k_) ∧ (k_ ≠ gb101 ∧ (k_ ≠ gb102 ∧ k_ ≠ gb103))) ∧ k_ ≠ gb271)) _ _ l0_1 (fun k_ => ((((P0_1_ k_ ∨ P0_2_ k_ ∨ P1_1_ k_ ∨ P1_2_ k_ ∨ P2_1_ k_ ∨ P2_2_ k_) ∨ w.heap.size ≤ k_) ∧ (k_ ≠ gb101 ∧ (k_ ≠ gb102 ∧ k_ ≠ gb103))) ∧ k_ ≠ gb271)) _ _ l0_2 a1_0 (fun k_ => ((((P0_1_ k_ ∨ P0_2_ k_ ∨ P1_1_ k_ ∨ P1_2_ k_ ∨ P2_1_ k_ ∨ P2_2_ k_) ∨ w.heap.size ≤ k_) ∧ (k_ ≠ gb101 ∧ (k_ ≠ gb102 ∧ k_ ≠ gb103))) ∧ k_ ≠ gb271)) _ _ l1_1 (fun k_ => ((((P0_1_ k_ ∨ P0_2_ k_ ∨ P1_1_ k_ ∨ P1_2_ k_ ∨ P2_1_ k_ ∨ P2_2_ k_) ∨ w.heap.size ≤ k_) ∧ (k_ ≠ gb101 ∧ (k_ ≠ gb102 ∧ k_ ≠ gb103))) ∧ k_ ≠ gb271)) _ _ l1_2 t256 t257 t260 _ ?_ ?_ ?_ ?_ A155.out).mono ?_
               exact HO_102001.out
               exact HO_102002.out
               exact HO_103001.out
               exact HO_103002.out
               rintro e w275 ⟨v258, v261, rfl, ho0, ho1, hb⟩
               refine ⟨_, rfl, ?_⟩
               replace HO_102001 := vA HO_102001 hb
               replace HO_102002 := vA HO_102002 hb
               replace HO_103001 := vA HO_103001 hb
               replace HO_103002 := vA HO_103002 hb
               replace HO_104001 := vA HO_104001 hb
               replace HO_104002 := vA HO_104002 hb
               have HO259 := lw HB (fun k_ => ((P0_1_ k_ ∨ P0_2_ k_ ∨ P1_1_ k_ ∨ P1_2_ k_ ∨ P2_1_ k_ ∨ P2_2_ k_) ∨ w.heap.size ≤ k_) ∧ k_ ≠ gb101 ∧ k_ ≠ gb102 ∧ k_ ≠ gb103 ∧ k_ ≠ gb271) ho0 (fun k_ hk_ => Or.elim hk_ (fun hs_ => Or.elim hs_ (fun hs_ => ⟨hs_.1.1, hs_.1.2.1, hs_.1.2.2.1, hs_.1.2.2.2, hs_.2⟩) (fun hs_ => Or.elim hs_ (fun hs_ => ⟨hs_.1.1, hs_.1.2.1, hs_.1.2.2.1, hs_.1.2.2.2, hs_.2⟩) (fun hs_ => Or.elim hs_ (fun hs_ => ⟨hs_.1.1, hs_.1.2.1, hs_.1.2.2.1, hs_.1.2.2.2, hs_.2⟩) (fun hs_ => ⟨hs_.1.1, hs_.1.2.1, hs_.1.2.2.1, hs_.1.2.2.2, hs_.2⟩)))) (fun hn_ => ⟨.inr (Nat.le_trans (below_size hB) hn_), kF BK101 hn_, kF BK102 hn_, kF BK103 hn_, kF BK271 hn_⟩))
               have HO262 := lw HB (fun k_ => ((P0_1_ k_ ∨ P0_2_ k_ ∨ P1_1_ k_ ∨ P1_2_ k_ ∨ P2_1_ k_ ∨ P2_2_ k_) ∨ w.heap.size ≤ k_) ∧ k_ ≠ gb101 ∧ k_ ≠ gb102 ∧ k_ ≠ gb103 ∧ k_ ≠ gb271) ho1 (fun k_ hk_ => Or.elim hk_ (fun hs_ => Or.elim hs_ (fun hs_ => ⟨hs_.1.1, hs_.1.2.1, hs_.1.2.2.1, hs_.1.2.2.2, hs_.2⟩) (fun hs_ => Or.elim hs_ (fun hs_ => ⟨hs_.1.1, hs_.1.2.1, hs_.1.2.2.1, hs_.1.2.2.2, hs_.2⟩) (fun hs_ => Or.elim hs_ (fun hs_ => ⟨hs_.1.1, hs_.1.2.1, hs_.1.2.2.1, hs_.1.2.2.2, hs_.2⟩) (fun hs_ => ⟨hs_.1.1, hs_.1.2.1, hs_.1.2.2.1, hs_.1.2.2.2, hs_.2⟩)))) (fun hn_ => ⟨.inr (Nat.le_trans (below_size hB) hn_), kF BK101 hn_, kF BK102 hn_, kF BK103 hn_, kF BK271 hn_⟩))
               replace BK101 := kA BK101 hb
               replace BK102 := kA BK102 hb
               replace BK103 := kA BK103 hb
               replace BK271 := kA BK271 hb
               replace HB := bS HB hb
               clear hb ho0 ho1
               obtain ⟨Ao276, co276, eo276⟩ := Kd.V_slice HO259.out
               (first | subst eo276 | (injection eo276 with f1_ f2_ f3_; have f4_ := f1_.symm; have f5_ := f3_.symm; clear f1_ f2_ f3_; subst f4_; subst f5_))
               obtain ⟨Ao277, co277, eo277⟩ := Kd.V_slice HO262.out
               (first | subst eo277 | (injection eo277 with f1_ f2_ f3_; have f4_ := f1_.symm; have f5_ := f3_.symm; clear f1_ f2_ f3_; subst f4_; subst f5_))
               refine hK.out _ _ ⟨b3 BK101, b3 BK102⟩ (fun hHeld => nm ?_)
               clear hK K
               refine on 4 (some 104) #[true, true, true, true, true, false, false, false, true, false, false] (fun K hK => ?_)
               refine gS Try.func92 #[.agg #[.bool t256, .slice Ao276 t257.length co276, .slice Ao277 t260.length co277], .agg #[.bool a1_0, .slice A1_1 l1_1.length c1_1, .slice A1_2 l1_2.length c1_2]] ?_
               with_reducible refine (ratio_R_Div.calls kj110 t256 (fun k_ => (((P0_1_ k_ ∨ P0_2_ k_ ∨ P1_1_ k_ ∨ P1_2_ k_ ∨ P2_1_ k_ ∨ P2_2_ k_) ∨ w.heap.size ≤ k_) ∧ (k_ ≠ gb101 ∧ (k_ ≠ gb102 ∧ (k_ ≠ gb103 ∧ k_ ≠ gb271))))) _ _ t257 (fun k_ => (((P0_1_ k_ ∨ P0_2_ k_ ∨ P1_1_ k_ ∨ P1_2_ k_ ∨ P2_1_ k_ ∨ P2_2_ k_) ∨ w.heap.size ≤ k_) ∧ (k_ ≠ gb101 ∧ (k_ ≠ gb102 ∧ (k_ ≠ gb103 ∧ k_ ≠ gb271))))) _ _ t260 a1_0 (fun k_ => ((((P0_1_ k_ ∨ P0_2_ k_ ∨ P1_1_ k_ ∨ P1_2_ k_ ∨ P2_1_ k_ ∨ P2_2_ k_) ∨ w.heap.size ≤ k_) ∧ (k_ ≠ gb101 ∧ (k_ ≠ gb102 ∧ k_ ≠ gb103))) ∧ k_ ≠ gb271)) _ _ l1_1 (fun k_ => ((((P0_1_ k_ ∨ P0_2_ k_ ∨ P1_1_ k_ ∨ P1_2_ k_ ∨ P2_1_ k_ ∨ P2_2_ k_) ∨ w.heap.size ≤ k_) ∧ (k_ ≠ gb101 ∧ (k_ ≠ gb102 ∧ k_ ≠ gb103))) ∧ k_ ≠ gb271)) _ _ l1_2 t263 t264 t267 t270 _ ?_ ?_ ?_ ?_ A156.out).mono ?_
               exact HO259.out
               exact HO262.out
               exact HO_103001.out
               exact HO_103002.out
               rintro e w278 ⟨v265, v268, rfl, ho0, ho1, hb⟩
               refine ⟨_, rfl, ?_⟩
               replace HO_102001 := vA HO_102001 hb
               replace HO_102002 := vA HO_102002 hb
               replace HO_103001 := vA HO_103001 hb
               replace HO_103002 := vA HO_103002 hb
               replace HO_104001 := vA HO_104001 hb
               replace HO_104002 := vA HO_104002 hb
               replace HO259 := vA HO259 hb
               replace HO262 := vA HO262 hb
               have HO266 := lw HB (fun k_ => ((P0_1_ k_ ∨ P0_2_ k_ ∨ P1_1_ k_ ∨ P1_2_ k_ ∨ P2_1_ k_ ∨ P2_2_ k_) ∨ w.heap.size ≤ k_) ∧ k_ ≠ gb101 ∧ k_ ≠ gb102 ∧ k_ ≠ gb103 ∧ k_ ≠ gb271) ho0 (fun k_ hk_ => Or.elim hk_ (fun hs_ => Or.elim hs_ id (fun hs_ => Or.elim hs_ id (fun hs_ => Or.elim hs_ (fun hs_ => ⟨hs_.1.1, hs_.1.2.1, hs_.1.2.2.1, hs_.1.2.2.2, hs_.2⟩) (fun hs_ => ⟨hs_.1.1, hs_.1.2.1, hs_.1.2.2.1, hs_.1.2.2.2, hs_.2⟩)))) (fun hn_ => ⟨.inr (Nat.le_trans (below_size hB) hn_), kF BK101 hn_, kF BK102 hn_, kF BK103 hn_, kF BK271 hn_⟩))
               have HO269 := lw HB (fun k_ => ((P0_1_ k_ ∨ P0_2_ k_ ∨ P1_1_ k_ ∨ P1_2_ k_ ∨ P2_1_ k_ ∨ P2_2_ k_) ∨ w.heap.size ≤ k_) ∧ k_ ≠ gb101 ∧ k_ ≠ gb102 ∧ k_ ≠ gb103 ∧ k_ ≠ gb271) ho1 (fun k_ hk_ => Or.elim hk_ (fun hs_ => Or.elim hs_ id (fun hs_ => Or.elim hs_ id (fun hs_ => Or.elim hs_ (fun hs_ => ⟨hs_.1.1, hs_.1.2.1, hs_.1.2.2.1, hs_.1.2.2.2, hs_.2⟩) (fun hs_ => ⟨hs_.1.1, hs_.1.2.1, hs_.1.2.2.1, hs_.1.2.2.2, hs_.2⟩)))) (fun hn_ => ⟨.inr (Nat.le_trans (below_size hB) hn_), kF BK101 hn_, kF BK102 hn_, kF BK103 hn_, kF BK271 hn_⟩))
               replace BK101 := kA BK101 hb
               replace BK102 := kA BK102 hb
               replace BK103 := kA BK103 hb
               replace BK271 := kA BK271 hb
               replace HB := bS HB hb
               clear hb ho0 ho1
               refine hK.out _ _ ⟨b3 BK101, b3 BK102⟩ (fun hHeld => nm ?_)
               clear hK K
               refine pu 5 99 #[true, true, true, true, true, true, false, false, true, false, false] ?_
               refine pu 6 105 #[true, true, true, true, true, true, true, false, true, false, false] ?_
               refine pu 7 106 (tf 9 2) ?_
               exact norm_ (by simp only [putAll, Act.put, List.setIfInBounds_toArray, List.set_cons_zero, List.set_cons_succ]) (hCont (.slice Ao276 t257.length co276, .slice Ao277 t260.length co277, v265, v268, gb271) _ ⟨hHeld, (vup HO259.out), (vup HO262.out), (vup HO266.out), (vup HO269.out), (by (with_reducible repeat (first | apply Kd.V_alloc | apply Kd.V_drewN | apply Kd.V_drew)); exact Kd.V_mono HO_102001.out (fun _ hk => by simp only [hk, and_self, ne_eq, not_false_eq_true])), (by (with_reducible repeat (first | apply Kd.V_alloc | apply Kd.V_drewN | apply Kd.V_drew)); exact Kd.V_mono HO_102002.out (fun _ hk => by simp only [hk, and_self, ne_eq, not_false_eq_true])), (by (with_reducible repeat (first | apply Kd.V_alloc | apply Kd.V_drewN | apply Kd.V_drew)); exact Kd.V_mono HO_103001.out (fun _ hk => by simp only [hk, and_self, ne_eq, not_false_eq_true])), (by (with_reducible repeat (first | apply Kd.V_alloc | apply Kd.V_drewN | apply Kd.V_drew)); exact Kd.V_mono HO_103002.out (fun _ hk => by simp only [hk, and_self, ne_eq, not_false_eq_true])), (by (with_reducible repeat (first | apply Kd.V_alloc | apply Kd.V_drewN | apply Kd.V_drew)); exact Kd.V_mono HO_104001.out (fun _ hk => by simp only [hk, and_self, ne_eq, not_false_eq_true])), (by (with_reducible repeat (first | apply Kd.V_alloc | apply Kd.V_drewN | apply Kd.V_drew)); exact Kd.V_mono HO_104002.out (fun _ hk => by simp only [hk, and_self, ne_eq, not_false_eq_true])), (by exact kU BK101), (by exact kU BK102), (by exact kU BK103), (by exact kU BK271), GW271.out, GE271.out, NB101_271.out, NB271_101.out, NB102_271.out, NB271_102.out, NB103_271.out, NB271_103.out, hB⟩)
             rintro ⟨v258, v261, v265, v268, gb271⟩ w279 ⟨hS_, h0_, h1_, h2_, h3_, h4_, h5_, h6_, h7_, h8_, h9_, h10_, h11_, h12_, h13_, h14_, h15_, h16_, h17_, h18_, h19_, h20_, h21_, h22_⟩
             have n0_ : Aside0 (Kd.V (Kd.int .u32) 118 w279 w.heap.size (fun k_ => ((P0_1_ k_ ∨ P0_2_ k_ ∨ P1_1_ k_ ∨ P1_2_ k_ ∨ P2_1_ k_ ∨ P2_2_ k_) ∨ w.heap.size ≤ k_) ∧ k_ ≠ gb101 ∧ k_ ≠ gb102 ∧ k_ ≠ gb103 ∧ k_ ≠ gb271) v258 t257) := ⟨h0_⟩
             have n1_ : Aside0 (Kd.V (Kd.int .u32) 118 w279 w.heap.size (fun k_ => ((P0_1_ k_ ∨ P0_2_ k_ ∨ P1_1_ k_ ∨ P1_2_ k_ ∨ P2_1_ k_ ∨ P2_2_ k_) ∨ w.heap.size ≤ k_) ∧ k_ ≠ gb101 ∧ k_ ≠ gb102 ∧ k_ ≠ gb103 ∧ k_ ≠ gb271) v261 t260) := ⟨h1_⟩
             have n2_ : Aside0 (Kd.V (Kd.int .u32) 118 w279 w.heap.size (fun k_ => ((P0_1_ k_ ∨ P0_2_ k_ ∨ P1_1_ k_ ∨ P1_2_ k_ ∨ P2_1_ k_ ∨ P2_2_ k_) ∨ w.heap.size ≤ k_) ∧ k_ ≠ gb101 ∧ k_ ≠ gb102 ∧ k_ ≠ gb103 ∧ k_ ≠ gb271) v265 t264) := ⟨h2_⟩
             have n3_ : Aside0 (Kd.V (Kd.int .u32) 118 w279 w.heap.size (fun k_ => ((P0_1_ k_ ∨ P0_2_ k_ ∨ P1_1_ k_ ∨ P1_2_ k_ ∨ P2_1_ k_ ∨ P2_2_ k_) ∨ w.heap.size ≤ k_) ∧ k_ ≠ gb101 ∧ k_ ≠ gb102 ∧ k_ ≠ gb103 ∧ k_ ≠ gb271) v268 t267) := ⟨h3_⟩
             have n4_ : Aside0 (Kd.V (Kd.int .u32) 118 w279 w.heap.size (fun k_ => ((P0_1_ k_ ∨ P0_2_ k_ ∨ P1_1_ k_ ∨ P1_2_ k_ ∨ P2_1_ k_ ∨ P2_2_ k_) ∨ w.heap.size ≤ k_) ∧ k_ ≠ gb101 ∧ k_ ≠ gb102 ∧ k_ ≠ gb103 ∧ k_ ≠ gb271) (.slice A0_1 l0_1.length c0_1) l0_1) := ⟨h4_⟩
             have n5_ : Aside0 (Kd.V (Kd.int .u32) 118 w279 w.heap.size (fun k_ => ((P0_1_ k_ ∨ P0_2_ k_ ∨ P1_1_ k_ ∨ P1_2_ k_ ∨ P2_1_ k_ ∨ P2_2_ k_) ∨ w.heap.size ≤ k_) ∧ k_ ≠ gb101 ∧ k_ ≠ gb102 ∧ k_ ≠ gb103 ∧ k_ ≠ gb271) (.slice A0_2 l0_2.length c0_2) l0_2) := ⟨h5_⟩
             have n6_ : Aside0 (Kd.V (Kd.int .u32) 118 w279 w.heap.size (fun k_ => ((P0_1_ k_ ∨ P0_2_ k_ ∨ P1_1_ k_ ∨ P1_2_ k_ ∨ P2_1_ k_ ∨ P2_2_ k_) ∨ w.heap.size ≤ k_) ∧ k_ ≠ gb101 ∧ k_ ≠ gb102 ∧ k_ ≠ gb103 ∧ k_ ≠ gb271) (.slice A1_1 l1_1.length c1_1) l1_1) := ⟨h6_⟩
             have n7_ : Aside0 (Kd.V (Kd.int .u32) 118 w279 w.heap.size (fun k_ => ((P0_1_ k_ ∨ P0_2_ k_ ∨ P1_1_ k_ ∨ P1_2_ k_ ∨ P2_1_ k_ ∨ P2_2_ k_) ∨ w.heap.size ≤ k_) ∧ k_ ≠ gb101 ∧ k_ ≠ gb102 ∧ k_ ≠ gb103 ∧ k_ ≠ gb271) (.slice A1_2 l1_2.length c1_2) l1_2) := ⟨h7_⟩
             have n8_ : Aside0 (Kd.V (Kd.int .u32) 118 w279 w.heap.size (fun k_ => ((P0_1_ k_ ∨ P0_2_ k_ ∨ P1_1_ k_ ∨ P1_2_ k_ ∨ P2_1_ k_ ∨ P2_2_ k_) ∨ w.heap.size ≤ k_) ∧ k_ ≠ gb101 ∧ k_ ≠ gb102 ∧ k_ ≠ gb103 ∧ k_ ≠ gb271) (.slice A2_1 l2_1.length c2_1) l2_1) := ⟨h8_⟩
             have n9_ : Aside0 (Kd.V (Kd.int .u32) 118 w279 w.heap.size (fun k_ => ((P0_1_ k_ ∨ P0_2_ k_ ∨ P1_1_ k_ ∨ P1_2_ k_ ∨ P2_1_ k_ ∨ P2_2_ k_) ∨ w.heap.size ≤ k_) ∧ k_ ≠ gb101 ∧ k_ ≠ gb102 ∧ k_ ≠ gb103 ∧ k_ ≠ gb271) (.slice A2_2 l2_2.length c2_2) l2_2) := ⟨h9_⟩
             have n10_ : Aside0 (w279.heap[gb101]? = some (.cells #[.bool a0_0, .slice A0_1 l0_1.length c0_1, .slice A0_2 l0_2.length c0_2] 69 (0, 0))) := ⟨h10_⟩
             have n11_ : Aside0 (w279.heap[gb102]? = some (.cells #[.bool a1_0, .slice A1_1 l1_1.length c1_1, .slice A1_2 l1_2.length c1_2] 69 (0, 0))) := ⟨h11_⟩
             have n12_ : Aside0 (w279.heap[gb103]? = some (.cells #[.bool a2_0, .slice A2_1 l2_1.length c2_1, .slice A2_2 l2_2.length c2_2] 69 (0, 0))) := ⟨h12_⟩
             have n13_ : Aside0 (w279.heap[gb271]? = some (.cells #[.bool false, .slice none 0 0, .slice none 0 0] 69 (0, 0))) := ⟨h13_⟩
             have n14_ : Aside0 (w.heap.size ≤ gb271) := ⟨h14_⟩
             have n15_ : Aside0 (w.heap.size ≤ gb271) := ⟨h15_⟩
             have n16_ : Aside0 (gb101 ≠ gb271) := ⟨h16_⟩
             have n17_ : Aside0 (gb271 ≠ gb101) := ⟨h17_⟩
             have n18_ : Aside0 (gb102 ≠ gb271) := ⟨h18_⟩
             have n19_ : Aside0 (gb271 ≠ gb102) := ⟨h19_⟩
             have n20_ : Aside0 (gb103 ≠ gb271) := ⟨h20_⟩
             have n21_ : Aside0 (gb271 ≠ gb103) := ⟨h21_⟩
             have n22_ : Aside0 (Below w.heap.size w w279) := ⟨h22_⟩
             clear HO_102001
             clear HO_102002
             clear HO_103001
             clear HO_103002
             clear HO_104001
             clear HO_104002
             clear BK101
             clear BK102
             clear BK103
             clear HB
             clear h0_ h1_ h2_ h3_ h4_ h5_ h6_ h7_ h8_ h9_ h10_ h11_ h12_ h13_ h14_ h15_ h16_ h17_ h18_ h19_ h20_ h21_ h22_
             have HO259 := n0_
             have HO262 := n1_
             have HO266 := n2_
             have HO269 := n3_
             have HO_102001 := n4_
             have HO_102002 := n5_
             have HO_103001 := n6_
             have HO_103002 := n7_
             have HO_104001 := n8_
             have HO_104002 := n9_
             have BK101 := n10_
             have BK102 := n11_
             have BK103 := n12_
             have BK271 := n13_
             have GW271 := n14_
             have GE271 := n15_
             have NB101_271 := n16_
             have NB271_101 := n17_
             have NB102_271 := n18_
             have NB271_102 := n19_
             have NB103_271 := n20_
             have NB271_103 := n21_
             have HB := n22_
             clear n0_ n1_ n2_ n3_ n4_ n5_ n6_ n7_ n8_ n9_ n10_ n11_ n12_ n13_ n14_ n15_ n16_ n17_ n18_ n19_ n20_ n21_ n22_
             have hHeld := hS_
             obtain ⟨Ao281, co281, eo281⟩ := Kd.V_slice HO266.out
             (first | subst eo281 | (injection eo281 with f1_ f2_ f3_; have f4_ := f1_.symm; have f5_ := f3_.symm; clear f1_ f2_ f3_; subst f4_; subst f5_))
             obtain ⟨Ao283, co283, eo283⟩ := Kd.V_slice HO269.out
             (first | subst eo283 | (injection eo283 with f1_ f2_ f3_; have f4_ := f1_.symm; have f5_ := f3_.symm; clear f1_ f2_ f3_; subst f4_; subst f5_))
             refine norm_ (a' := ?_) ?_ ?_
             rotate_left
             ·simp only [putAll, Act.put, List.setIfInBounds_toArray, List.set_cons_zero, List.set_cons_succ]
              rfl
             refine on 9 none (tf 10 1) (fun K hK => ?_)
             obtain ⟨hs280, hfs280⟩ := e0 BK271
             have hns280_0 := NB101_271.out
             have hns280_1 := NB102_271.out
             have hns280_2 := NB103_271.out
             have hms280_0 := NB271_101.out
             have hms280_1 := NB271_102.out
             have hms280_2 := NB271_103.out
             obtain ⟨hs282, hfs282⟩ := e1 BK271
             have hns282_0 := NB101_271.out
             have hns282_1 := NB102_271.out
             have hns282_2 := NB103_271.out
             have hms282_0 := NB271_101.out
             have hms282_1 := NB271_102.out
             have hms282_2 := NB271_103.out
             obtain ⟨hs284, hfs284⟩ := e2 BK271
             have hns284_0 := NB101_271.out
             have hns284_1 := NB102_271.out
             have hns284_2 := NB103_271.out
             have hms284_0 := NB271_101.out
             have hms284_1 := NB271_102.out
             have hms284_2 := NB271_103.out
             refine sk ?_
             refine hK.out _ _ ⟨F3 hHeld.1 NB101_271, F3 hHeld.2 NB102_271⟩ (fun hHeld => ?_)
             clear hK K
             refine pu 10 14 (tf 11 0) ?_
             refine done_ (done_of HT_.out (by kernel_rfl)) ?_
             have hnb285 := NB102_101.out
             have hnc285 := NB101_102.out
             have hnb286 := NB102_103.out
             have hnc286 := NB103_102.out
             have hnb287 := NB102_271.out
             have hnc287 := NB271_102.out
             obtain ⟨⟨hcz288_0, hcz288_1, hcz288_2⟩, hfz288_0, hfz288_1, hfz288_2⟩ := cE BK102
             try go_wp2_with (first | ((with_reducible refine gc 57 rfl ?_); refine gL 108 Try.func57 #[.agg #[.bool a1_0, .slice A1_1 l1_1.length c1_1, .slice A1_2 l1_2.length c1_2]] ?_; (with_reducible refine (ratio_R_Sign.calls kj110 a1_0 _ _ l1_1 _ _ l1_2 t272 _ ?_ ?_ ?_ ?_ A157.out).mono ?_); (exact (Kd.V_reads' (e := 118) (base := w.heap.size) (n := l1_1.length) (c := c1_1) (vG (v3p HO_103001 (fun _ hk => hk.2.2.2.2)) (fun _ h_ => h_.1))).2.2); exact (Kd.V_reads' HO_103001.out).2.1; (exact (Kd.V_reads' (e := 118) (base := w.heap.size) (n := l1_2.length) (c := c1_2) (vG (v3p HO_103002 (fun _ hk => hk.2.2.2.2)) (fun _ h_ => h_.1))).2.2); exact (Kd.V_reads' HO_103002.out).2.1; rintro e w289 ⟨rfl, hb⟩; refine ⟨_, rfl, ?_⟩; replace HO_102001 := vF hb (v3p HO_102001 (fun _ hk => hk.2.2.2.2)) (fun _ h_ => h_.1); replace HO_102002 := vF hb (v3p HO_102002 (fun _ hk => hk.2.2.2.2)) (fun _ h_ => h_.1); replace HO_103001 := vF hb (v3p HO_103001 (fun _ hk => hk.2.2.2.2)) (fun _ h_ => h_.1); replace HO_103002 := vF hb (v3p HO_103002 (fun _ hk => hk.2.2.2.2)) (fun _ h_ => h_.1); replace HO_104001 := vF hb (v3p HO_104001 (fun _ hk => hk.2.2.2.2)) (fun _ h_ => h_.1); replace HO_104002 := vF hb (v3p HO_104002 (fun _ hk => hk.2.2.2.2)) (fun _ h_ => h_.1); replace HO259 := vF hb (v3p HO259 (fun _ hk => hk.2.2.2.2)) (fun _ h_ => h_.1); replace HO262 := vF hb (v3p HO262 (fun _ hk => hk.2.2.2.2)) (fun _ h_ => h_.1); replace HO266 := vF hb (v3p HO266 (fun _ hk => hk.2.2.2.2)) (fun _ h_ => h_.1); replace HO269 := vF hb (v3p HO269 (fun _ hk => hk.2.2.2.2)) (fun _ h_ => h_.1); replace BK101 := kB (q3 BK101 NB101_271) hb; replace BK102 := kB (q3 BK102 NB102_271) hb; replace BK103 := kB (q3 BK103 NB103_271) hb; replace BK271 := kB (p3 BK271) hb; replace HB := bS HB hb; clear hb; have hnb290 := NB271_101.out; have hnc290 := NB101_271.out; have hnb291 := NB271_103.out; have hnc291 := NB103_271.out; obtain ⟨⟨hcz292_0, hcz292_1, hcz292_2⟩, hfz292_0, hfz292_1, hfz292_2⟩ := cE BK271; have hnb293 := NB101_103.out; have hnc293 := NB103_101.out; obtain ⟨⟨hcz294_0, hcz294_1, hcz294_2⟩, hfz294_0, hfz294_1, hfz294_2⟩ := cE BK101) | (go_at_call 58; (with_reducible refine (ratio_R_Cmp.calls kj110 t263 _ _ t264 _ _ t267 a0_0 _ _ l0_1 _ _ l0_2 t273 _ ?_ ?_ ?_ ?_ ?_ ?_ ?_ ?_ A272.out).mono ?_); exact cup ((Kd.V_reads' HO266.out).2.2); exact (Kd.V_reads' HO266.out).2.1; exact cup ((Kd.V_reads' HO269.out).2.2); exact (Kd.V_reads' HO269.out).2.1; exact cup ((Kd.V_reads' HO_102001.out).2.2); exact (Kd.V_reads' HO_102001.out).2.1; exact cup ((Kd.V_reads' HO_102002.out).2.2); exact (Kd.V_reads' HO_102002.out).2.1; rintro e w295 ⟨rfl, hb⟩; replace HO_102001 := vA HO_102001 hb; replace HO_102002 := vA HO_102002 hb; replace HO_103001 := vA HO_103001 hb; replace HO_103002 := vA HO_103002 hb; replace HO_104001 := vA HO_104001 hb; replace HO_104002 := vA HO_104002 hb; replace HO259 := vA HO259 hb; replace HO262 := vA HO262 hb; replace HO266 := vA HO266 hb; replace HO269 := vA HO269 hb; replace BK101 := kA BK101 hb; replace BK102 := kA BK102 hb; replace BK103 := kA BK103 hb; replace BK271 := kA BK271 hb; replace HB := bS HB hb; clear hb))
             go_ret
             exact ⟨er, hB⟩
            ·replace c270 := Bool.eq_false_iff.mpr c270
             subst c270
             have H1 : (some false) = some true := by rw [if_neg (show ¬ (false = true) by decide)] at H; first | done | exact H
             clear H
             have H := H1
             clear H1
             exact absurd H (by simp)
           ·replace c268 := Bool.eq_false_iff.mpr c268
            subst c268
            have H1 : (some false) = some true := by rw [if_neg (show ¬ (false = true) by decide)] at H; first | done | exact H
            clear H
            have H := H1
            clear H1
            exact absurd H (by simp)
          ·replace c267 := Bool.eq_false_iff.mpr c267
           subst c267
           have H1 : (some false) = some true := by rw [if_neg (show ¬ (false = true) by decide)] at H; first | done | exact H
           clear H
           have H := H1
           clear H1
           exact absurd H (by simp)
         ·exact absurd rfl c266
  ·replace c7 := Bool.eq_false_iff.mpr c7
   subst c7
   have H1 : (some true) = some true := by rw [if_neg (show ¬ (false = true) by decide)] at H; first | done | exact H
   clear H
   have H := H1
   clear H1
   have HT_ := Option.some.inj H
   clear H
   go_enter Try.func22, Try.ntmps22
   go_wp2_with (first | ((with_reducible refine gd 3 rfl ?_); refine bx 3 #[.bool a0_0, .slice A0_1 l0_1.length c0_1, .slice A0_2 l0_2.length c0_2] ?_; intro gb101 hg w398 hbox hb; replace HO0_1 := vE HO0_1 hg hb; replace HO0_2 := vE HO0_2 hg hb; replace HO1_1 := vE HO1_1 hg hb; replace HO1_2 := vE HO1_2 hg hb; replace HO2_1 := vE HO2_1 hg hb; replace HO2_2 := vE HO2_2 hg hb; have BK101 := Aside0.mk hbox; have GW101 := gB hg HB; have GE101 := gB hg HB; replace HB := bA HB hb; clear hb hbox hg) | ((with_reducible refine gd 4 rfl ?_); refine bx 4 #[.bool a1_0, .slice A1_1 l1_1.length c1_1, .slice A1_2 l1_2.length c1_2] ?_; intro gb102 hg w399 hbox hb; replace HO0_1 := vE HO0_1 hg hb; replace HO0_2 := vE HO0_2 hg hb; replace HO1_1 := vE HO1_1 hg hb; replace HO1_2 := vE HO1_2 hg hb; replace HO2_1 := vE HO2_1 hg hb; replace HO2_2 := vE HO2_2 hg hb; have BK102 := Aside0.mk hbox; have GW102 := gS' hg HB; have GE102 := gS' hg HB; replace HB := bS HB hb; have NB101_102 := nL hg BK101; have NB102_101 := nR hg BK101; replace BK101 := kA BK101 hb; clear hb hbox hg) | ((with_reducible refine gd 5 rfl ?_); refine bx 5 #[.bool a2_0, .slice A2_1 l2_1.length c2_1, .slice A2_2 l2_2.length c2_2] ?_; intro gb103 hg w400 hbox hb; replace HO0_1 := vE HO0_1 hg hb; replace HO0_2 := vE HO0_2 hg hb; replace HO1_1 := vE HO1_1 hg hb; replace HO1_2 := vE HO1_2 hg hb; replace HO2_1 := vE HO2_1 hg hb; replace HO2_2 := vE HO2_2 hg hb; have BK103 := Aside0.mk hbox; have GW103 := gS' hg HB; have GE103 := gS' hg HB; replace HB := bS HB hb; have NB101_103 := nL hg BK101; have NB103_101 := nR hg BK101; replace BK101 := kA BK101 hb; have NB102_103 := nL hg BK102; have NB103_102 := nR hg BK102; replace BK102 := kA BK102 hb; clear hb hbox hg) | ((with_reducible refine gc 54 rfl ?_); refine gL 15 Try.func54 #[] ?_; (with_reducible refine (flyballlaw03_works.calls k  true _ A4.out).mono ?_); rintro e w401 ⟨rfl, hb⟩; refine ⟨_, rfl, ?_⟩; replace HO0_1 := vA HO0_1 hb; replace HO0_2 := vA HO0_2 hb; replace HO1_1 := vA HO1_1 hb; replace HO1_2 := vA HO1_2 hb; replace HO2_1 := vA HO2_1 hb; replace HO2_2 := vA HO2_2 hb; replace BK101 := kA BK101 hb; replace BK102 := kA BK102 hb; replace BK103 := kA BK103 hb; replace HB := bS HB hb; clear hb; have hnb402 := NB101_102.out; have hnc402 := NB102_101.out; have hnb403 := NB101_103.out; have hnc403 := NB103_101.out; obtain ⟨⟨hcz404_0, hcz404_1, hcz404_2⟩, hfz404_0, hfz404_1, hfz404_2⟩ := cE BK101; have hnb405 := NB102_103.out; have hnc405 := NB103_102.out; obtain ⟨⟨hcz406_0, hcz406_1, hcz406_2⟩, hfz406_0, hfz406_1, hfz406_2⟩ := cE BK102; obtain ⟨⟨hcz407_0, hcz407_1, hcz407_2⟩, hfz407_0, hfz407_1, hfz407_2⟩ := cE BK103) | ((with_reducible refine gd 21 rfl ?_); refine Kd.N_lit k69 _ 69 ?hg (N' := 21) ?hd (xs := ([(⟨a0_0, l0_1, l0_2⟩ : S69), (⟨a1_0, l1_1, l1_2⟩ : S69), (⟨a2_0, l2_1, l2_2⟩ : S69)] : List (S69))) (inner := [.bool a0_0, .slice A0_1 l0_1.length c0_1, .slice A0_2 l0_2.length c0_2, .bool a1_0, .slice A1_1 l1_1.length c1_1, .slice A1_2 l1_2.length c1_2, .bool a2_0, .slice A2_1 l2_1.length c2_1, .slice A2_2 l2_2.length c2_2]) (ok := (fun k_ => ((P0_1_ k_ ∨ P0_2_ k_ ∨ P1_1_ k_ ∨ P1_2_ k_ ∨ P2_1_ k_ ∨ P2_2_ k_) ∨ w.heap.size ≤ k_) ∧ k_ ≠ gb101 ∧ k_ ≠ gb102 ∧ k_ ≠ gb103)) (okp := (fun k_ => ((P0_1_ k_ ∨ P0_2_ k_ ∨ P1_1_ k_ ∨ P1_2_ k_ ∨ P2_1_ k_ ∨ P2_2_ k_) ∨ w.heap.size ≤ k_) ∧ k_ ≠ gb101 ∧ k_ ≠ gb102 ∧ k_ ≠ gb103)) ?hr ?hp (fun _ hk => hk) ((show ∀ k_, w401.heap.size ≤ k_ → (fun k_ => ((P0_1_ k_ ∨ P0_2_ k_ ∨ P1_1_ k_ ∨ P1_2_ k_ ∨ P2_1_ k_ ∨ P2_2_ k_) ∨ w.heap.size ≤ k_) ∧ k_ ≠ gb101 ∧ k_ ≠ gb102 ∧ k_ ≠ gb103) k_ from fun k_ hk => ⟨(.inr (Nat.le_trans (below_size hB) hk)), Kd.freshB (kup BK101.out) k_ hk, Kd.freshB (kup BK102.out) k_ hk, Kd.freshB (kup BK103.out) k_ hk⟩) _ (Nat.le_refl _)) (Below.refl _ _) (Nat.le_refl _) (by simp) ?_; (case hd => rfl); (case hg => rfl); (case hr => first | (go_simp; done) | (go_simp; rfl)); (case hp => exact (Reps.c3 (show Kd.FK k69 _ _ (⟨a0_0, l0_1, l0_2⟩ : S69) [.bool a0_0, .slice A0_1 l0_1.length c0_1, .slice A0_2 l0_2.length c0_2] from (k69_mkF _ _ (⟨a0_0, l0_1, l0_2⟩ : S69) (Kd.V_reads' (Kd.V_mono (ok' := (fun k_ => ((P0_1_ k_ ∨ P0_2_ k_ ∨ P1_1_ k_ ∨ P1_2_ k_ ∨ P2_1_ k_ ∨ P2_2_ k_) ∨ w.heap.size ≤ k_) ∧ k_ ≠ gb101 ∧ k_ ≠ gb102 ∧ k_ ≠ gb103)) (HO0_1.out) (fun k_ hk => ⟨hk.1.1.1, ⟨hk.1.1.2, ⟨hk.1.2, hk.2⟩⟩⟩))).2.1 (Kd.V_F (Kd.V_mono (ok' := (fun k_ => ((P0_1_ k_ ∨ P0_2_ k_ ∨ P1_1_ k_ ∨ P1_2_ k_ ∨ P2_1_ k_ ∨ P2_2_ k_) ∨ w.heap.size ≤ k_) ∧ k_ ≠ gb101 ∧ k_ ≠ gb102 ∧ k_ ≠ gb103)) (HO0_1.out) (fun k_ hk => ⟨hk.1.1.1, ⟨hk.1.1.2, ⟨hk.1.2, hk.2⟩⟩⟩))) (Kd.V_reads' (Kd.V_mono (ok' := (fun k_ => ((P0_1_ k_ ∨ P0_2_ k_ ∨ P1_1_ k_ ∨ P1_2_ k_ ∨ P2_1_ k_ ∨ P2_2_ k_) ∨ w.heap.size ≤ k_) ∧ k_ ≠ gb101 ∧ k_ ≠ gb102 ∧ k_ ≠ gb103)) (HO0_2.out) (fun k_ hk => ⟨hk.1.1.1, ⟨hk.1.1.2, ⟨hk.1.2, hk.2⟩⟩⟩))).2.1 (Kd.V_F (Kd.V_mono (ok' := (fun k_ => ((P0_1_ k_ ∨ P0_2_ k_ ∨ P1_1_ k_ ∨ P1_2_ k_ ∨ P2_1_ k_ ∨ P2_2_ k_) ∨ w.heap.size ≤ k_) ∧ k_ ≠ gb101 ∧ k_ ≠ gb102 ∧ k_ ≠ gb103)) (HO0_2.out) (fun k_ hk => ⟨hk.1.1.1, ⟨hk.1.1.2, ⟨hk.1.2, hk.2⟩⟩⟩))))) (Reps.c3 (show Kd.FK k69 _ _ (⟨a1_0, l1_1, l1_2⟩ : S69) [.bool a1_0, .slice A1_1 l1_1.length c1_1, .slice A1_2 l1_2.length c1_2] from (k69_mkF _ _ (⟨a1_0, l1_1, l1_2⟩ : S69) (Kd.V_reads' (Kd.V_mono (ok' := (fun k_ => ((P0_1_ k_ ∨ P0_2_ k_ ∨ P1_1_ k_ ∨ P1_2_ k_ ∨ P2_1_ k_ ∨ P2_2_ k_) ∨ w.heap.size ≤ k_) ∧ k_ ≠ gb101 ∧ k_ ≠ gb102 ∧ k_ ≠ gb103)) (HO1_1.out) (fun k_ hk => ⟨hk.1.1.1, ⟨hk.1.1.2, ⟨hk.1.2, hk.2⟩⟩⟩))).2.1 (Kd.V_F (Kd.V_mono (ok' := (fun k_ => ((P0_1_ k_ ∨ P0_2_ k_ ∨ P1_1_ k_ ∨ P1_2_ k_ ∨ P2_1_ k_ ∨ P2_2_ k_) ∨ w.heap.size ≤ k_) ∧ k_ ≠ gb101 ∧ k_ ≠ gb102 ∧ k_ ≠ gb103)) (HO1_1.out) (fun k_ hk => ⟨hk.1.1.1, ⟨hk.1.1.2, ⟨hk.1.2, hk.2⟩⟩⟩))) (Kd.V_reads' (Kd.V_mono (ok' := (fun k_ => ((P0_1_ k_ ∨ P0_2_ k_ ∨ P1_1_ k_ ∨ P1_2_ k_ ∨ P2_1_ k_ ∨ P2_2_ k_) ∨ w.heap.size ≤ k_) ∧ k_ ≠ gb101 ∧ k_ ≠ gb102 ∧ k_ ≠ gb103)) (HO1_2.out) (fun k_ hk => ⟨hk.1.1.1, ⟨hk.1.1.2, ⟨hk.1.2, hk.2⟩⟩⟩))).2.1 (Kd.V_F (Kd.V_mono (ok' := (fun k_ => ((P0_1_ k_ ∨ P0_2_ k_ ∨ P1_1_ k_ ∨ P1_2_ k_ ∨ P2_1_ k_ ∨ P2_2_ k_) ∨ w.heap.size ≤ k_) ∧ k_ ≠ gb101 ∧ k_ ≠ gb102 ∧ k_ ≠ gb103)) (HO1_2.out) (fun k_ hk => ⟨hk.1.1.1, ⟨hk.1.1.2, ⟨hk.1.2, hk.2⟩⟩⟩))))) (Reps.c3 (show Kd.FK k69 _ _ (⟨a2_0, l2_1, l2_2⟩ : S69) [.bool a2_0, .slice A2_1 l2_1.length c2_1, .slice A2_2 l2_2.length c2_2] from (k69_mkF _ _ (⟨a2_0, l2_1, l2_2⟩ : S69) (Kd.V_reads' (Kd.V_mono (ok' := (fun k_ => ((P0_1_ k_ ∨ P0_2_ k_ ∨ P1_1_ k_ ∨ P1_2_ k_ ∨ P2_1_ k_ ∨ P2_2_ k_) ∨ w.heap.size ≤ k_) ∧ k_ ≠ gb101 ∧ k_ ≠ gb102 ∧ k_ ≠ gb103)) (HO2_1.out) (fun k_ hk => ⟨hk.1.1.1, ⟨hk.1.1.2, ⟨hk.1.2, hk.2⟩⟩⟩))).2.1 (Kd.V_F (Kd.V_mono (ok' := (fun k_ => ((P0_1_ k_ ∨ P0_2_ k_ ∨ P1_1_ k_ ∨ P1_2_ k_ ∨ P2_1_ k_ ∨ P2_2_ k_) ∨ w.heap.size ≤ k_) ∧ k_ ≠ gb101 ∧ k_ ≠ gb102 ∧ k_ ≠ gb103)) (HO2_1.out) (fun k_ hk => ⟨hk.1.1.1, ⟨hk.1.1.2, ⟨hk.1.2, hk.2⟩⟩⟩))) (Kd.V_reads' (Kd.V_mono (ok' := (fun k_ => ((P0_1_ k_ ∨ P0_2_ k_ ∨ P1_1_ k_ ∨ P1_2_ k_ ∨ P2_1_ k_ ∨ P2_2_ k_) ∨ w.heap.size ≤ k_) ∧ k_ ≠ gb101 ∧ k_ ≠ gb102 ∧ k_ ≠ gb103)) (HO2_2.out) (fun k_ hk => ⟨hk.1.1.1, ⟨hk.1.1.2, ⟨hk.1.2, hk.2⟩⟩⟩))).2.1 (Kd.V_F (Kd.V_mono (ok' := (fun k_ => ((P0_1_ k_ ∨ P0_2_ k_ ∨ P1_1_ k_ ∨ P1_2_ k_ ∨ P2_1_ k_ ∨ P2_2_ k_) ∨ w.heap.size ≤ k_) ∧ k_ ≠ gb101 ∧ k_ ≠ gb102 ∧ k_ ≠ gb103)) (HO2_2.out) (fun k_ hk => ⟨hk.1.1.1, ⟨hk.1.1.2, ⟨hk.1.2, hk.2⟩⟩⟩))))) (Reps.none _ _))))); intro v106 w408 ho409 hb hg_ hnew_; clear hg_ hnew_; (first | rw [← Ny105.out] at ho409 | (simp only [Int.reduceToNat] at ho409; rw [← Ny105.out] at ho409)); replace HO0_1 := Aside0.mk (Kd.V_elder' (vup HO0_1.out) (Kd.N_base ho409) hb); replace HO0_2 := Aside0.mk (Kd.V_elder' (vup HO0_2.out) (Kd.N_base ho409) hb); replace HO1_1 := Aside0.mk (Kd.V_elder' (vup HO1_1.out) (Kd.N_base ho409) hb); replace HO1_2 := Aside0.mk (Kd.V_elder' (vup HO1_2.out) (Kd.N_base ho409) hb); replace HO2_1 := Aside0.mk (Kd.V_elder' (vup HO2_1.out) (Kd.N_base ho409) hb); replace HO2_2 := Aside0.mk (Kd.V_elder' (vup HO2_2.out) (Kd.N_base ho409) hb); have HO107 := Aside0.mk (Kd.N_lower ho409 (below_size hB)); replace BK101 := kA BK101 hb; replace BK102 := kA BK102 hb; replace BK103 := kA BK103 hb; replace HB := bS HB hb; clear hb ho409; obtain ⟨Ao410, co410, eo410⟩ := Kd.N_slice HO107.out; subst eo410) | ((with_reducible refine gc 55 rfl ?_); refine gL 22 Try.func55 #[.slice Ao410 y105.length co410] ?_; (with_reducible refine (flyballlaw03_small.calls k _ _ y105 false _ ?_ ?_ A6.out).mono ?_); exact cup ((Kd.N_reads' HO107.out).2.2); exact (Kd.N_reads' HO107.out).2.1; rintro e w' ⟨rfl, ⟨nd, rfl⟩⟩; refine ⟨_, rfl, ?_⟩))
   go_ret
   exact ⟨er, hB⟩
 ·replace c5 := Bool.eq_false_iff.mpr c5
  subst c5
  have H1 : (some false) = some true := by rw [if_neg (show ¬ (false = true) by decide)] at H; first | done | exact H
  clear H
  have H := H1
  clear H1
  exact absurd H (by simp)
end Go.Proofs.Ytagbnkbhobmgjaa.Fn
end
