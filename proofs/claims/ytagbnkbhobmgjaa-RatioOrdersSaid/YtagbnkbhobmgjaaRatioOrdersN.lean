/- How rational numbers compare, their signs, what they are without these, how long they are, and their digits, are just what the document says. Part 14 of 20. -/
import Derived.Test.YtagbnkbhobmgjaaRatioOrdersE
import Derived.Test.YtagbnkbhobmgjaaRatioOrdersL
import Derived.Test.YtagbnkbhobmgjaaRatioOrdersK
import Derived.Test.YtagbnkbhobmgjaaRatioOrdersM
import Derived.Test.YtagbnkbhobmgjaaRatioOrdersJ
import Derived.Test.YtagbnkbhobmgjaaRatioOrdersH
import Derived.Test.YtagbnkbhobmgjaaRatioOrdersC
section
namespace Go.Proofs.Ytagbnkbhobmgjaa.Fn
open Go.RowKit Go.Proofs.YtagbnkbhobmgjaaW.PrintWords Go.Proofs.YtagbnkbhobmgjaaW.PrintLast Go.Proofs.YtagbnkbhobmgjaaW.PrintMore
attribute [local go_sem] max2_int min2_int max_two min_two max_three min_three max_four min_four   -- for this text's walks alone
set_option linter.unusedVariables false
set_option linter.unusedSimpArgs false
def flyballlaw03_RatioOrders.f (k : Nat) (a0_0 : Bool) (l0_1 : List Int) (l0_2 : List Int) (a1_0 : Bool) (l1_1 : List Int) (l1_2 : List Int) : Option (Bool) := (flyballlaw03_works.f k).bind fun t103 => (if t103 = true then ((flyballlaw03_small.f k (([(⟨a0_0, l0_1, l0_2⟩ : S69), (⟨a1_0, l1_1, l1_2⟩ : S69)] : List (S69)))).bind fun t107 => (if t107 = true then ((flyballlaw03_of.f k a0_0 l0_1 l0_2).bind fun bt108 => ((flyballlaw03_of.f k a1_0 l1_1 l1_2).bind fun bt116 => ((ratio_R_Neg1.f k a0_0 l0_1 l0_2).bind fun bt124 => ((flyballref03_Minus.f k bt108.1 bt108.2.1 bt108.2.2).bind fun bt131 => ((flyballlaw03_is.f k bt124.1 bt124.2.1 bt124.2.2 bt131.1 bt131.2.1 bt131.2.2).bind fun t138 => ((flyballref03_Low.f k false bt108.2.1 bt108.2.2).bind fun bt139 => ((ratio_R_Abs.f k a0_0 l0_1 l0_2).bind fun bt147 => ((flyballlaw03_is.f k bt147.1 bt147.2.1 bt147.2.2 bt139.1 bt139.2.1 bt139.2.2).bind fun t154 => (if t138 = true then (if t154 = true then ((ratio_R_Cmp.f k a0_0 l0_1 l0_2 a1_0 l1_1 l1_2).bind fun t155 => ((flyballref03_Cmp.f k bt108.1 bt108.2.1 bt108.2.2 bt116.1 bt116.2.1 bt116.2.2).bind fun t156 => (if t155 = t156 then ((ratio_R_Sign.f k a0_0 l0_1 l0_2).bind fun t157 => ((flyballref03_Sign.f k bt108.1 bt108.2.1 bt108.2.2).bind fun t158 => (if t157 = t158 then ((ratio_R_Len.f k a0_0 l0_1 l0_2).bind fun t159 => ((flyballref01_Len.f k bt108.2.1).bind fun t160 => ((flyballref01_Len.f k bt108.2.2).bind fun t161 => (if t159 = (wrap64 (t160 + t161)) then ((ratio_R_Text.f k a0_0 l0_1 l0_2).bind fun t162 => ((flyballref03_Text.f k bt108.1 bt108.2.1 bt108.2.2).bind fun t163 => (some (t162.toList == t163.toList)))) else (some false))))) else (some false)))) else (some false)))) else (some false)) else (some false)))))))))) else (some t103))) else (some false))
def flyballlaw03_RatioOrders.T12 : Bool × List (List Nat × List Nat) := (true, [([], []), ([0], [0]), ([1], [1]), ([1, 2], [1, 2]), ([3, 1], [3]), ([4], [4]), ([4, 5], [4, 5]), ([6, 4], [6]), ([7], [7]), ([7], [7]), ([8, 9, 7, 7], [7, 8, 9]), ([7], [7]), ([7], [7]), ([11, 12, 10, 7], [7, 11, 12]), ([10, 13, 7], [7, 10, 13]), ([7, 14], [7, 14]), ([15, 13], [15]), ([16], [16]), ([17, 16, 16], [16, 17]), ([16], [16]), ([19, 18, 16], [16, 19]), ([18, 20, 16], [16, 18, 20]), ([16, 21], [16, 21]), ([22, 20], [22]), ([23], [23]), ([24, 23, 23], [23, 24]), ([23], [23]), ([26, 23], [23, 26]), ([27, 25, 23], [23, 27]), ([23], [23]), ([29, 23], [23, 29]), ([30, 28, 23], [23, 30]), ([28, 31, 23], [23, 28, 31]), ([25, 32, 23], [23, 25, 32]), ([23, 33], [23, 33]), ([34, 31], [34]), ([35], [35]), ([36, 35, 35], [35, 36]), ([35], [35]), ([38, 37, 35], [35, 38]), ([37, 39, 35], [35, 37, 39]), ([35, 40], [35, 40]), ([41, 39, 0, 1, 2, 3, 4, 5, 6, 7, 8, 9, 10, 11, 12, 13, 14, 15, 16, 17, 18, 19, 20, 21, 22, 23, 24, 25, 26, 27, 28, 29, 30, 31, 32, 33, 34, 35, 36, 37, 38, 39, 40, 41], [41])])
def flyballlaw03_RatioOrders.B12 : List Nat := [0, 1, 3, 7, 15, 31, 63, 127, 255, 255, 1023, 255, 255, 8191, 16383, 32767, 65535, 131071, 262143, 131071, 1048575, 2097151, 4194303, 8388607, 16777215, 33554431, 16777215, 83886079, 268435455, 16777215, 553648127, 2147483647, 4294967295, 8589934591, 17179869183, 34359738367, 68719476735, 137438953471, 68719476735, 549755813887, 1099511627775, 2199023255551, 4398046511103]
theorem flyballlaw03_RatioOrders.tab12 : rtab .any (opsOf Try.f20 12) = flyballlaw03_RatioOrders.T12 := by kernel_rfl
theorem flyballlaw03_RatioOrders.bits12 : waitsOk flyballlaw03_RatioOrders.T12.2 flyballlaw03_RatioOrders.B12 = true := by kernel_rfl
set_option maxHeartbeats 8000000 in
set_option maxRecDepth 100000 in
theorem flyballlaw03_RatioOrders.calls (k : Nat) (a0_0 : Bool) (P0_1_ : Nat → Prop) (A0_1 : Option Addr) (c0_1 : Nat) (l0_1 : List Int) (P0_2_ : Nat → Prop) (A0_2 : Option Addr) (c0_2 : Nat) (l0_2 : List Int) (a1_0 : Bool) (P1_1_ : Nat → Prop) (A1_1 : Option Addr) (c1_1 : Nat) (l1_1 : List Int) (P1_2_ : Nat → Prop) (A1_2 : Option Addr) (c1_2 : Nat) (l1_2 : List Int) (w : World) (hs0_1 : Kd.V (Kd.int .u32) 118 w w.heap.size (fun k_ => P0_1_ k_) (.slice A0_1 l0_1.length c0_1) l0_1) (hs0_2 : Kd.V (Kd.int .u32) 118 w w.heap.size (fun k_ => P0_2_ k_) (.slice A0_2 l0_2.length c0_2) l0_2) (hs1_1 : Kd.V (Kd.int .u32) 118 w w.heap.size (fun k_ => P1_1_ k_) (.slice A1_1 l1_1.length c1_1) l1_1) (hs1_2 : Kd.V (Kd.int .u32) 118 w w.heap.size (fun k_ => P1_2_ k_) (.slice A1_2 l1_2.length c1_2) l1_2) (H : flyballlaw03_RatioOrders.f k a0_0 l0_1 l0_2 a1_0 l1_1 l1_2 = some true) :
  Calls Try.prog 20 #[.agg #[.bool a0_0, .slice A0_1 l0_1.length c0_1, .slice A0_2 l0_2.length c0_2], .agg #[.bool a1_0, .slice A1_1 l1_1.length c1_1, .slice A1_2 l1_2.length c1_2]] w fun e w' => e = .returned (.bool true) ∧ Below w.heap.size w w' := by
 have hu69 := Try.underlying69
 have hu92 := Try.underlying92
 have HO0_1 := Aside0.mk (show Kd.V (Kd.int .u32) 118 w w.heap.size (fun k_ => ((P0_1_ k_ ∨ P0_2_ k_ ∨ P1_1_ k_ ∨ P1_2_ k_) ∨ w.heap.size ≤ k_)) (.slice A0_1 l0_1.length c0_1) l0_1 from Kd.V_mono hs0_1 (fun k_ hk => .inl (.inl hk)))
 have HO0_2 := Aside0.mk (show Kd.V (Kd.int .u32) 118 w w.heap.size (fun k_ => ((P0_1_ k_ ∨ P0_2_ k_ ∨ P1_1_ k_ ∨ P1_2_ k_) ∨ w.heap.size ≤ k_)) (.slice A0_2 l0_2.length c0_2) l0_2 from Kd.V_mono hs0_2 (fun k_ hk => .inl (.inr (.inl hk))))
 have HO1_1 := Aside0.mk (show Kd.V (Kd.int .u32) 118 w w.heap.size (fun k_ => ((P0_1_ k_ ∨ P0_2_ k_ ∨ P1_1_ k_ ∨ P1_2_ k_) ∨ w.heap.size ≤ k_)) (.slice A1_1 l1_1.length c1_1) l1_1 from Kd.V_mono hs1_1 (fun k_ hk => .inl (.inr (.inr (.inl hk)))))
 have HO1_2 := Aside0.mk (show Kd.V (Kd.int .u32) 118 w w.heap.size (fun k_ => ((P0_1_ k_ ∨ P0_2_ k_ ∨ P1_1_ k_ ∨ P1_2_ k_) ∨ w.heap.size ≤ k_)) (.slice A1_2 l1_2.length c1_2) l1_2 from Kd.V_mono hs1_2 (fun k_ hk => .inl (.inr (.inr (.inr hk)))))
 have HB := Aside0.mk (Below.refl w.heap.size w)
 unfold flyballlaw03_RatioOrders.f at H
 replace H := bi H
 obtain ⟨t103, A3, H⟩ := H
 by_cases c4 : t103 = true
 ·subst c4
  replace H := ifT H
  obtain ⟨y104, hy104⟩ : ∃ y_ : List (S69), y_ = (([(⟨a0_0, l0_1, l0_2⟩ : S69), (⟨a1_0, l1_1, l1_2⟩ : S69)] : List (S69))) := ⟨_, rfl⟩
  replace H : ((flyballlaw03_small.f k y104).bind fun t107 => (if t107 = true then ((flyballlaw03_of.f k a0_0 l0_1 l0_2).bind fun bt108 => ((flyballlaw03_of.f k a1_0 l1_1 l1_2).bind fun bt116 => ((ratio_R_Neg1.f k a0_0 l0_1 l0_2).bind fun bt124 => ((flyballref03_Minus.f k bt108.1 bt108.2.1 bt108.2.2).bind fun bt131 => ((flyballlaw03_is.f k bt124.1 bt124.2.1 bt124.2.2 bt131.1 bt131.2.1 bt131.2.2).bind fun t138 => ((flyballref03_Low.f k false bt108.2.1 bt108.2.2).bind fun bt139 => ((ratio_R_Abs.f k a0_0 l0_1 l0_2).bind fun bt147 => ((flyballlaw03_is.f k bt147.1 bt147.2.1 bt147.2.2 bt139.1 bt139.2.1 bt139.2.2).bind fun t154 => (if t138 = true then (if t154 = true then ((ratio_R_Cmp.f k a0_0 l0_1 l0_2 a1_0 l1_1 l1_2).bind fun t155 => ((flyballref03_Cmp.f k bt108.1 bt108.2.1 bt108.2.2 bt116.1 bt116.2.1 bt116.2.2).bind fun t156 => (if t155 = t156 then ((ratio_R_Sign.f k a0_0 l0_1 l0_2).bind fun t157 => ((flyballref03_Sign.f k bt108.1 bt108.2.1 bt108.2.2).bind fun t158 => (if t157 = t158 then ((ratio_R_Len.f k a0_0 l0_1 l0_2).bind fun t159 => ((flyballref01_Len.f k bt108.2.1).bind fun t160 => ((flyballref01_Len.f k bt108.2.2).bind fun t161 => (if t159 = (wrap64 (t160 + t161)) then ((ratio_R_Text.f k a0_0 l0_1 l0_2).bind fun t162 => ((flyballref03_Text.f k bt108.1 bt108.2.1 bt108.2.2).bind fun t163 => (some (t162.toList == t163.toList)))) else (some false))))) else (some false)))) else (some false)))) else (some false)) else (some false)))))))))) else (some true))) = some true := by first | (rw [hy104]; with_reducible exact H) | (have H2_ := (Option.bind_some _ _).symm.trans H; rw [hy104]; with_reducible exact H2_) | (have H2_ := (Option.bind_some _ _).symm.trans H; with_reducible exact H2_) | with_reducible exact H | (rw [hy104]; exact H) | exact H
  have Ny104 := Aside0.mk hy104
  clear hy104
  replace H := bi H
  obtain ⟨t107, A5, H⟩ := H
  by_cases c6 : t107 = true
  ·subst c6
   replace H := ifT H
   replace H := bi H
   obtain ⟨⟨t108, t109, t112⟩, A7, H⟩ := H
   try dsimp only at H
   replace H := bi H
   obtain ⟨⟨t116, t117, t120⟩, A8, H⟩ := H
   try dsimp only at H
   replace H := bi H
   obtain ⟨⟨t124, t125, t128⟩, A9, H⟩ := H
   try dsimp only at H
   replace H := bi H
   obtain ⟨⟨t131, t132, t135⟩, A10, H⟩ := H
   try dsimp only at H
   replace H := bi H
   obtain ⟨t138, A11, H⟩ := H
   replace H := bi H
   obtain ⟨⟨t139, t140, t143⟩, A12, H⟩ := H
   try dsimp only at H
   replace H := bi H
   obtain ⟨⟨t147, t148, t151⟩, A13, H⟩ := H
   try dsimp only at H
   replace H := bi H
   obtain ⟨t154, A14, H⟩ := H
   by_cases c15 : t138 = true
   ·subst c15
    replace H := ifT H
    by_cases c16 : t154 = true
    ·subst c16
     replace H := ifT H
     replace H := bi H
     obtain ⟨t155, A17, H⟩ := H
     replace H := bi H
     obtain ⟨t156, A18, H⟩ := H
     replace H := iS H
     obtain ⟨c19, H⟩ := H
     obtain ⟨c19b0, c19b1⟩ := bqT c19
     clear c19
     replace H := bi H
     obtain ⟨t157, A20, H⟩ := H
     replace H := bi H
     obtain ⟨t158, A21, H⟩ := H
     replace H := iS H
     obtain ⟨c22, H⟩ := H
     obtain ⟨c22b0, c22b1⟩ := bqT c22
     clear c22
     replace H := bi H
     obtain ⟨t159, A23, H⟩ := H
     replace H := bi H
     obtain ⟨t160, A24, H⟩ := H
     replace H := bi H
     obtain ⟨t161, A25, H⟩ := H
     replace H := iS H
     obtain ⟨c26, H⟩ := H
     obtain ⟨c26b0, c26b1⟩ := bqT c26
     clear c26
     replace H := bi H
     obtain ⟨t162, A27, H⟩ := H
     replace H := bi H
     obtain ⟨t163, A28, H⟩ := H
     have HT_ := Option.some.inj H
     clear H
     go_enter Try.func20, Try.ntmps20
     try go_wp2_with (first | ((with_reducible refine gd 2 rfl ?_); refine bx 2 #[.bool a0_0, .slice A0_1 l0_1.length c0_1, .slice A0_2 l0_2.length c0_2] ?_; intro gb101 hg w29 hbox hb; replace HO0_1 := vE HO0_1 hg hb; replace HO0_2 := vE HO0_2 hg hb; replace HO1_1 := vE HO1_1 hg hb; replace HO1_2 := vE HO1_2 hg hb; have BK101 := Aside0.mk hbox; have GW101 := gB hg HB; have GE101 := gB hg HB; replace HB := bA HB hb; clear hb hbox hg) | ((with_reducible refine gd 3 rfl ?_); refine bx 3 #[.bool a1_0, .slice A1_1 l1_1.length c1_1, .slice A1_2 l1_2.length c1_2] ?_; intro gb102 hg w30 hbox hb; replace HO0_1 := vE HO0_1 hg hb; replace HO0_2 := vE HO0_2 hg hb; replace HO1_1 := vE HO1_1 hg hb; replace HO1_2 := vE HO1_2 hg hb; have BK102 := Aside0.mk hbox; have GW102 := gS' hg HB; have GE102 := gS' hg HB; replace HB := bS HB hb; have NB101_102 := nL hg BK101; have NB102_101 := nR hg BK101; replace BK101 := kA BK101 hb; clear hb hbox hg) | ((with_reducible refine gc 54 rfl ?_); refine gL 12 Try.func54 #[] ?_; (with_reducible refine (flyballlaw03_works.calls k  true _ A3.out).mono ?_); rintro e w31 ⟨rfl, hb⟩; refine ⟨_, rfl, ?_⟩; replace HO0_1 := vA HO0_1 hb; replace HO0_2 := vA HO0_2 hb; replace HO1_1 := vA HO1_1 hb; replace HO1_2 := vA HO1_2 hb; replace BK101 := kA BK101 hb; replace BK102 := kA BK102 hb; replace HB := bS HB hb; clear hb; have hnb32 := NB101_102.out; have hnc32 := NB102_101.out; obtain ⟨⟨hcz33_0, hcz33_1, hcz33_2⟩, hfz33_0, hfz33_1, hfz33_2⟩ := cE BK101; obtain ⟨⟨hcz34_0, hcz34_1, hcz34_2⟩, hfz34_0, hfz34_1, hfz34_2⟩ := cE BK102) | ((with_reducible refine gd 17 rfl ?_); refine Kd.N_lit k69 _ 69 ?hg (N' := 17) ?hd (xs := ([(⟨a0_0, l0_1, l0_2⟩ : S69), (⟨a1_0, l1_1, l1_2⟩ : S69)] : List (S69))) (inner := [.bool a0_0, .slice A0_1 l0_1.length c0_1, .slice A0_2 l0_2.length c0_2, .bool a1_0, .slice A1_1 l1_1.length c1_1, .slice A1_2 l1_2.length c1_2]) (ok := (fun k_ => ((P0_1_ k_ ∨ P0_2_ k_ ∨ P1_1_ k_ ∨ P1_2_ k_) ∨ w.heap.size ≤ k_) ∧ k_ ≠ gb101 ∧ k_ ≠ gb102)) (okp := (fun k_ => ((P0_1_ k_ ∨ P0_2_ k_ ∨ P1_1_ k_ ∨ P1_2_ k_) ∨ w.heap.size ≤ k_) ∧ k_ ≠ gb101 ∧ k_ ≠ gb102)) ?hr ?hp (fun _ hk => hk) ((show ∀ k_, w31.heap.size ≤ k_ → (fun k_ => ((P0_1_ k_ ∨ P0_2_ k_ ∨ P1_1_ k_ ∨ P1_2_ k_) ∨ w.heap.size ≤ k_) ∧ k_ ≠ gb101 ∧ k_ ≠ gb102) k_ from fun k_ hk => ⟨(.inr (Nat.le_trans (below_size hB) hk)), Kd.freshB (kup BK101.out) k_ hk, Kd.freshB (kup BK102.out) k_ hk⟩) _ (Nat.le_refl _)) (Below.refl _ _) (Nat.le_refl _) (by simp) ?_; (case hd => rfl); (case hg => rfl); (case hr => first | (go_simp; done) | (go_simp; rfl)); (case hp => exact (Reps.c3 (show Kd.FK k69 _ _ (⟨a0_0, l0_1, l0_2⟩ : S69) [.bool a0_0, .slice A0_1 l0_1.length c0_1, .slice A0_2 l0_2.length c0_2] from (k69_mkF _ _ (⟨a0_0, l0_1, l0_2⟩ : S69) (Kd.V_reads' (Kd.V_mono (ok' := (fun k_ => ((P0_1_ k_ ∨ P0_2_ k_ ∨ P1_1_ k_ ∨ P1_2_ k_) ∨ w.heap.size ≤ k_) ∧ k_ ≠ gb101 ∧ k_ ≠ gb102)) (HO0_1.out) (fun k_ hk => ⟨hk.1.1, ⟨hk.1.2, hk.2⟩⟩))).2.1 (Kd.V_F (Kd.V_mono (ok' := (fun k_ => ((P0_1_ k_ ∨ P0_2_ k_ ∨ P1_1_ k_ ∨ P1_2_ k_) ∨ w.heap.size ≤ k_) ∧ k_ ≠ gb101 ∧ k_ ≠ gb102)) (HO0_1.out) (fun k_ hk => ⟨hk.1.1, ⟨hk.1.2, hk.2⟩⟩))) (Kd.V_reads' (Kd.V_mono (ok' := (fun k_ => ((P0_1_ k_ ∨ P0_2_ k_ ∨ P1_1_ k_ ∨ P1_2_ k_) ∨ w.heap.size ≤ k_) ∧ k_ ≠ gb101 ∧ k_ ≠ gb102)) (HO0_2.out) (fun k_ hk => ⟨hk.1.1, ⟨hk.1.2, hk.2⟩⟩))).2.1 (Kd.V_F (Kd.V_mono (ok' := (fun k_ => ((P0_1_ k_ ∨ P0_2_ k_ ∨ P1_1_ k_ ∨ P1_2_ k_) ∨ w.heap.size ≤ k_) ∧ k_ ≠ gb101 ∧ k_ ≠ gb102)) (HO0_2.out) (fun k_ hk => ⟨hk.1.1, ⟨hk.1.2, hk.2⟩⟩))))) (Reps.c3 (show Kd.FK k69 _ _ (⟨a1_0, l1_1, l1_2⟩ : S69) [.bool a1_0, .slice A1_1 l1_1.length c1_1, .slice A1_2 l1_2.length c1_2] from (k69_mkF _ _ (⟨a1_0, l1_1, l1_2⟩ : S69) (Kd.V_reads' (Kd.V_mono (ok' := (fun k_ => ((P0_1_ k_ ∨ P0_2_ k_ ∨ P1_1_ k_ ∨ P1_2_ k_) ∨ w.heap.size ≤ k_) ∧ k_ ≠ gb101 ∧ k_ ≠ gb102)) (HO1_1.out) (fun k_ hk => ⟨hk.1.1, ⟨hk.1.2, hk.2⟩⟩))).2.1 (Kd.V_F (Kd.V_mono (ok' := (fun k_ => ((P0_1_ k_ ∨ P0_2_ k_ ∨ P1_1_ k_ ∨ P1_2_ k_) ∨ w.heap.size ≤ k_) ∧ k_ ≠ gb101 ∧ k_ ≠ gb102)) (HO1_1.out) (fun k_ hk => ⟨hk.1.1, ⟨hk.1.2, hk.2⟩⟩))) (Kd.V_reads' (Kd.V_mono (ok' := (fun k_ => ((P0_1_ k_ ∨ P0_2_ k_ ∨ P1_1_ k_ ∨ P1_2_ k_) ∨ w.heap.size ≤ k_) ∧ k_ ≠ gb101 ∧ k_ ≠ gb102)) (HO1_2.out) (fun k_ hk => ⟨hk.1.1, ⟨hk.1.2, hk.2⟩⟩))).2.1 (Kd.V_F (Kd.V_mono (ok' := (fun k_ => ((P0_1_ k_ ∨ P0_2_ k_ ∨ P1_1_ k_ ∨ P1_2_ k_) ∨ w.heap.size ≤ k_) ∧ k_ ≠ gb101 ∧ k_ ≠ gb102)) (HO1_2.out) (fun k_ hk => ⟨hk.1.1, ⟨hk.1.2, hk.2⟩⟩))))) (Reps.none _ _)))); intro v105 w35 ho36 hb hg_ hnew_; clear hg_ hnew_; (first | rw [← Ny104.out] at ho36 | (simp only [Int.reduceToNat] at ho36; rw [← Ny104.out] at ho36)); replace HO0_1 := Aside0.mk (Kd.V_elder' (vup HO0_1.out) (Kd.N_base ho36) hb); replace HO0_2 := Aside0.mk (Kd.V_elder' (vup HO0_2.out) (Kd.N_base ho36) hb); replace HO1_1 := Aside0.mk (Kd.V_elder' (vup HO1_1.out) (Kd.N_base ho36) hb); replace HO1_2 := Aside0.mk (Kd.V_elder' (vup HO1_2.out) (Kd.N_base ho36) hb); have HO106 := Aside0.mk (Kd.N_lower ho36 (below_size hB)); replace BK101 := kA BK101 hb; replace BK102 := kA BK102 hb; replace HB := bS HB hb; clear hb ho36; obtain ⟨Ao37, co37, eo37⟩ := Kd.N_slice HO106.out; subst eo37) | ((with_reducible refine gc 55 rfl ?_); refine gL 18 Try.func55 #[.slice Ao37 y104.length co37] ?_; (with_reducible refine (flyballlaw03_small.calls k _ _ y104 true _ ?_ ?_ A5.out).mono ?_); exact cup ((Kd.N_reads' HO106.out).2.2); exact (Kd.N_reads' HO106.out).2.1; rintro e w' ⟨rfl, ⟨nd, rfl⟩⟩; refine ⟨_, rfl, ?_⟩; (try (rw [drewN_self w35]; generalize hq_ : World.drewN w35 _ = w35; have n0_ : Aside0 (Kd.V (Kd.int .u32) 118 w35 w.heap.size (fun k_ => ((P0_1_ k_ ∨ P0_2_ k_ ∨ P1_1_ k_ ∨ P1_2_ k_) ∨ w.heap.size ≤ k_) ∧ some k_ ≠ (.slice Ao37 y104.length co37 : Value).ownBlock ∧ k_ ≠ gb101 ∧ k_ ≠ gb102) (.slice A0_1 l0_1.length c0_1) l0_1) := ⟨by rw [← hq_]; exact (by (with_reducible repeat (first | apply Kd.V_alloc | apply Kd.V_drewN | apply Kd.V_drew)); exact Kd.V_mono HO0_1.out (fun _ hk => by simp only [hk, and_self, ne_eq, not_false_eq_true]))⟩; have n1_ : Aside0 (Kd.V (Kd.int .u32) 118 w35 w.heap.size (fun k_ => ((P0_1_ k_ ∨ P0_2_ k_ ∨ P1_1_ k_ ∨ P1_2_ k_) ∨ w.heap.size ≤ k_) ∧ some k_ ≠ (.slice Ao37 y104.length co37 : Value).ownBlock ∧ k_ ≠ gb101 ∧ k_ ≠ gb102) (.slice A0_2 l0_2.length c0_2) l0_2) := ⟨by rw [← hq_]; exact (by (with_reducible repeat (first | apply Kd.V_alloc | apply Kd.V_drewN | apply Kd.V_drew)); exact Kd.V_mono HO0_2.out (fun _ hk => by simp only [hk, and_self, ne_eq, not_false_eq_true]))⟩; have n2_ : Aside0 (Kd.N k69 69 w35 w.heap.size (fun k_ => ((P0_1_ k_ ∨ P0_2_ k_ ∨ P1_1_ k_ ∨ P1_2_ k_) ∨ w.heap.size ≤ k_) ∧ k_ ≠ gb101 ∧ k_ ≠ gb102) (.slice Ao37 y104.length co37) y104) := ⟨by rw [← hq_]; exact (by (with_reducible repeat (first | apply Kd.N_alloc | apply Kd.N_drewN | apply Kd.N_drew)); exact HO106.out)⟩; have n3_ : Aside0 (Kd.V (Kd.int .u32) 118 w35 w.heap.size (fun k_ => ((P0_1_ k_ ∨ P0_2_ k_ ∨ P1_1_ k_ ∨ P1_2_ k_) ∨ w.heap.size ≤ k_) ∧ some k_ ≠ (.slice Ao37 y104.length co37 : Value).ownBlock ∧ k_ ≠ gb101 ∧ k_ ≠ gb102) (.slice A1_1 l1_1.length c1_1) l1_1) := ⟨by rw [← hq_]; exact (by (with_reducible repeat (first | apply Kd.V_alloc | apply Kd.V_drewN | apply Kd.V_drew)); exact Kd.V_mono HO1_1.out (fun _ hk => by simp only [hk, and_self, ne_eq, not_false_eq_true]))⟩; have n4_ : Aside0 (Kd.V (Kd.int .u32) 118 w35 w.heap.size (fun k_ => ((P0_1_ k_ ∨ P0_2_ k_ ∨ P1_1_ k_ ∨ P1_2_ k_) ∨ w.heap.size ≤ k_) ∧ some k_ ≠ (.slice Ao37 y104.length co37 : Value).ownBlock ∧ k_ ≠ gb101 ∧ k_ ≠ gb102) (.slice A1_2 l1_2.length c1_2) l1_2) := ⟨by rw [← hq_]; exact (by (with_reducible repeat (first | apply Kd.V_alloc | apply Kd.V_drewN | apply Kd.V_drew)); exact Kd.V_mono HO1_2.out (fun _ hk => by simp only [hk, and_self, ne_eq, not_false_eq_true]))⟩; have n5_ : Aside0 (w35.heap[gb101]? = some (.cells #[.bool a0_0, .slice A0_1 l0_1.length c0_1, .slice A0_2 l0_2.length c0_2] 69 (0, 0))) := ⟨by rw [← hq_]; exact (by exact kU BK101)⟩; have n6_ : Aside0 (w35.heap[gb102]? = some (.cells #[.bool a1_0, .slice A1_1 l1_1.length c1_1, .slice A1_2 l1_2.length c1_2] 69 (0, 0))) := ⟨by rw [← hq_]; exact (by exact kU BK102)⟩; have n7_ : Aside0 (Below w.heap.size w w35) := ⟨by rw [← hq_]; exact hB⟩; clear HO0_1 HO0_2 HO106 HO1_1 HO1_2 BK101 BK102 HB hq_; have HO0_1 := n0_; have HO0_2 := n1_; have HO106 := n2_; have HO1_1 := n3_; have HO1_2 := n4_; have BK101 := n5_; have BK102 := n6_; have HB := n7_; clear n0_ n1_ n2_ n3_ n4_ n5_ n6_ n7_)); obtain ⟨⟨hcz38_0, hcz38_1, hcz38_2⟩, hfz38_0, hfz38_1, hfz38_2⟩ := cE BK101) | ((with_reducible refine gc 84 rfl ?_); refine gL 23 Try.func84 #[.agg #[.bool a0_0, .slice A0_1 l0_1.length c0_1, .slice A0_2 l0_2.length c0_2]] ?_; (with_reducible refine (flyballlaw03_of.calls k a0_0 _ _ l0_1 _ _ l0_2 t108 t109 t112 _ ?_ ?_ ?_ ?_ A7.out).mono ?_); exact cup ((Kd.V_reads' HO0_1.out).2.2); exact (Kd.V_reads' HO0_1.out).2.1; exact cup ((Kd.V_reads' HO0_2.out).2.2); exact (Kd.V_reads' HO0_2.out).2.1; rintro e w39 ⟨v110, v113, rfl, ho0, ho1, hb⟩; refine ⟨_, rfl, ?_⟩; replace HO0_1 := vA HO0_1 hb; replace HO0_2 := vA HO0_2 hb; replace HO1_1 := vA HO1_1 hb; replace HO1_2 := vA HO1_2 hb; have HO111 := lw HB (fun k_ => ((P0_1_ k_ ∨ P0_2_ k_ ∨ P1_1_ k_ ∨ P1_2_ k_) ∨ w.heap.size ≤ k_) ∧ some k_ ≠ (.slice Ao37 y104.length co37 : Value).ownBlock ∧ k_ ≠ gb101 ∧ k_ ≠ gb102) ho0 (fun k_ hk_ => ⟨(.inr (Nat.le_trans (below_size hB) hk_)), (Kd.fresh' (Kd.N_lt (by (with_reducible repeat (first | apply Kd.N_alloc | apply Kd.N_drewN | apply Kd.N_drew)); exact HO106.out)) k_ hk_), (kF BK101 hk_), (kF BK102 hk_)⟩); have HO114 := lw HB (fun k_ => ((P0_1_ k_ ∨ P0_2_ k_ ∨ P1_1_ k_ ∨ P1_2_ k_) ∨ w.heap.size ≤ k_) ∧ some k_ ≠ (.slice Ao37 y104.length co37 : Value).ownBlock ∧ k_ ≠ gb101 ∧ k_ ≠ gb102) ho1 (fun k_ hk_ => ⟨(.inr (Nat.le_trans (below_size hB) hk_)), (Kd.fresh' (Kd.N_lt (by (with_reducible repeat (first | apply Kd.N_alloc | apply Kd.N_drewN | apply Kd.N_drew)); exact HO106.out)) k_ hk_), (kF BK101 hk_), (kF BK102 hk_)⟩); replace HO106 := Aside0.mk (Kd.N_below (by (with_reducible repeat (first | apply Kd.N_alloc | apply Kd.N_drewN | apply Kd.N_drew)); exact HO106.out) hb); replace BK101 := kA BK101 hb; replace BK102 := kA BK102 hb; replace HB := bS HB hb; clear hb ho0 ho1) | ((with_reducible refine gd 7 rfl ?_); refine box_event ?hg (N := 7) ?hd (cs := #[.bool false, .slice none 0 0, .slice none 0 0]) (t := 92) ?hr ?_; (case hd => rfl); (case hg => rfl); (case hr => first | (go_simp; done) | (go_simp; rfl)); intro gb115 hg w40 hbox hb; replace HO0_1 := vE HO0_1 hg hb; replace HO0_2 := vE HO0_2 hg hb; replace HO1_1 := vE HO1_1 hg hb; replace HO1_2 := vE HO1_2 hg hb; replace HO106 := Aside0.mk (Kd.N_below (Kd.N_elderB (by (with_reducible repeat (first | apply Kd.N_alloc | apply Kd.N_drewN | apply Kd.N_drew)); exact HO106.out) gb115 (Nat.le_of_eq hg.symm)) hb); replace HO111 := vE HO111 hg hb; replace HO114 := vE HO114 hg hb; have BK115 := Aside0.mk hbox; have GW115 := gS' hg HB; have GE115 := gS' hg HB; replace HB := bS HB hb; have NB101_115 := nL hg BK101; have NB115_101 := nR hg BK101; replace BK101 := kA BK101 hb; have NB102_115 := nL hg BK102; have NB115_102 := nR hg BK102; replace BK102 := kA BK102 hb; clear hb hbox hg; have hnb41 := NB115_101.out; have hnc41 := NB101_115.out; have hnb42 := NB115_102.out; have hnc42 := NB102_115.out; obtain ⟨⟨hcz43_0, hcz43_1, hcz43_2⟩, hfz43_0, hfz43_1, hfz43_2⟩ := cE BK115; obtain ⟨Ao44, co44, eo44⟩ := Kd.V_slice HO111.out; subst eo44; obtain ⟨Ao45, co45, eo45⟩ := Kd.V_slice HO114.out; subst eo45; obtain ⟨⟨hcz46_0, hcz46_1, hcz46_2⟩, hfz46_0, hfz46_1, hfz46_2⟩ := cE BK102) | ((with_reducible refine gc 84 rfl ?_); refine gL 25 Try.func84 #[.agg #[.bool a1_0, .slice A1_1 l1_1.length c1_1, .slice A1_2 l1_2.length c1_2]] ?_; (with_reducible refine (flyballlaw03_of.calls k a1_0 _ _ l1_1 _ _ l1_2 t116 t117 t120 _ ?_ ?_ ?_ ?_ A8.out).mono ?_); (exact (Kd.V_reads' (e := 118) (base := w.heap.size) (n := l1_1.length) (c := c1_1) (vG (v3p HO1_1 (fun _ hk => hk.2)) (fun _ h_ => h_.1))).2.2); exact (Kd.V_reads' HO1_1.out).2.1; (exact (Kd.V_reads' (e := 118) (base := w.heap.size) (n := l1_2.length) (c := c1_2) (vG (v3p HO1_2 (fun _ hk => hk.2)) (fun _ h_ => h_.1))).2.2); exact (Kd.V_reads' HO1_2.out).2.1; rintro e w47 ⟨v118, v121, rfl, ho0, ho1, hb⟩; refine ⟨_, rfl, ?_⟩; replace HO0_1 := vF hb (v3p HO0_1 (fun _ hk => hk.2)) (fun _ h_ => h_.1); replace HO0_2 := vF hb (v3p HO0_2 (fun _ hk => hk.2)) (fun _ h_ => h_.1); replace HO1_1 := vF hb (v3p HO1_1 (fun _ hk => hk.2)) (fun _ h_ => h_.1); replace HO1_2 := vF hb (v3p HO1_2 (fun _ hk => hk.2)) (fun _ h_ => h_.1); replace HO111 := vF hb (v3p HO111 (fun _ hk => hk.2)) (fun _ h_ => h_.1); replace HO114 := vF hb (v3p HO114 (fun _ hk => hk.2)) (fun _ h_ => h_.1); have HO119 := lw HB (fun k_ => ((P0_1_ k_ ∨ P0_2_ k_ ∨ P1_1_ k_ ∨ P1_2_ k_) ∨ w.heap.size ≤ k_) ∧ some k_ ≠ (.slice Ao37 y104.length co37 : Value).ownBlock ∧ k_ ≠ gb101 ∧ k_ ≠ gb102 ∧ k_ ≠ gb115) ho0 (fun k_ hk_ => ⟨(.inr (Nat.le_trans (below_size hB) hk_)), (Kd.fresh' (Kd.N_lt (by (with_reducible repeat (first | apply Kd.N_alloc | apply Kd.N_drewN | apply Kd.N_drew)); exact (Kd.N_mono (Kd.N_far (p := ⟨gb115, 2, none⟩) (Kd.N_far (p := ⟨gb115, 1, none⟩) (Kd.N_far (p := ⟨gb115, 0, none⟩) (Kd.N_mono HO106.out (fun k_ hk => (⟨hk, hk.2⟩ : _ ∧ k_ ≠ gb115))) (fun _ hk => hk.2) (.bool t108)) (fun _ hk => hk.2) (.slice Ao44 t109.length co44)) (fun _ hk => hk.2) (.slice Ao45 t112.length co45)) (fun _ h_ => h_.1)))) k_ hk_), (kH (q3 BK101 NB101_115) hk_), (kH (q3 BK102 NB102_115) hk_), (kH (p3 BK115) hk_)⟩); have HO122 := lw HB (fun k_ => ((P0_1_ k_ ∨ P0_2_ k_ ∨ P1_1_ k_ ∨ P1_2_ k_) ∨ w.heap.size ≤ k_) ∧ some k_ ≠ (.slice Ao37 y104.length co37 : Value).ownBlock ∧ k_ ≠ gb101 ∧ k_ ≠ gb102 ∧ k_ ≠ gb115) ho1 (fun k_ hk_ => ⟨(.inr (Nat.le_trans (below_size hB) hk_)), (Kd.fresh' (Kd.N_lt (by (with_reducible repeat (first | apply Kd.N_alloc | apply Kd.N_drewN | apply Kd.N_drew)); exact (Kd.N_mono (Kd.N_far (p := ⟨gb115, 2, none⟩) (Kd.N_far (p := ⟨gb115, 1, none⟩) (Kd.N_far (p := ⟨gb115, 0, none⟩) (Kd.N_mono HO106.out (fun k_ hk => (⟨hk, hk.2⟩ : _ ∧ k_ ≠ gb115))) (fun _ hk => hk.2) (.bool t108)) (fun _ hk => hk.2) (.slice Ao44 t109.length co44)) (fun _ hk => hk.2) (.slice Ao45 t112.length co45)) (fun _ h_ => h_.1)))) k_ hk_), (kH (q3 BK101 NB101_115) hk_), (kH (q3 BK102 NB102_115) hk_), (kH (p3 BK115) hk_)⟩); replace HO106 := Aside0.mk (Kd.N_below (by (with_reducible repeat (first | apply Kd.N_alloc | apply Kd.N_drewN | apply Kd.N_drew)); exact (Kd.N_mono (Kd.N_far (p := ⟨gb115, 2, none⟩) (Kd.N_far (p := ⟨gb115, 1, none⟩) (Kd.N_far (p := ⟨gb115, 0, none⟩) (Kd.N_mono HO106.out (fun k_ hk => (⟨hk, hk.2⟩ : _ ∧ k_ ≠ gb115))) (fun _ hk => hk.2) (.bool t108)) (fun _ hk => hk.2) (.slice Ao44 t109.length co44)) (fun _ hk => hk.2) (.slice Ao45 t112.length co45)) (fun _ h_ => h_.1))) hb); replace BK101 := kB (q3 BK101 NB101_115) hb; replace BK102 := kB (q3 BK102 NB102_115) hb; replace BK115 := kB (p3 BK115) hb; replace HB := bS HB hb; clear hb ho0 ho1) | ((with_reducible refine gd 8 rfl ?_); refine box_event ?hg (N := 8) ?hd (cs := #[.bool false, .slice none 0 0, .slice none 0 0]) (t := 92) ?hr ?_; (case hd => rfl); (case hg => rfl); (case hr => first | (go_simp; done) | (go_simp; rfl)); intro gb123 hg w48 hbox hb; replace HO0_1 := vE HO0_1 hg hb; replace HO0_2 := vE HO0_2 hg hb; replace HO1_1 := vE HO1_1 hg hb; replace HO1_2 := vE HO1_2 hg hb; replace HO106 := Aside0.mk (Kd.N_below (Kd.N_elderB (by (with_reducible repeat (first | apply Kd.N_alloc | apply Kd.N_drewN | apply Kd.N_drew)); exact HO106.out) gb123 (Nat.le_of_eq hg.symm)) hb); replace HO111 := vE HO111 hg hb; replace HO114 := vE HO114 hg hb; replace HO119 := vE HO119 hg hb; replace HO122 := vE HO122 hg hb; have BK123 := Aside0.mk hbox; have GW123 := gS' hg HB; have GE123 := gS' hg HB; replace HB := bS HB hb; have NB101_123 := nL hg BK101; have NB123_101 := nR hg BK101; replace BK101 := kA BK101 hb; have NB102_123 := nL hg BK102; have NB123_102 := nR hg BK102; replace BK102 := kA BK102 hb; have NB115_123 := nL hg BK115; have NB123_115 := nR hg BK115; replace BK115 := kA BK115 hb; clear hb hbox hg; have hnb49 := NB123_101.out; have hnc49 := NB101_123.out; have hnb50 := NB123_102.out; have hnc50 := NB102_123.out; have hnb51 := NB123_115.out; have hnc51 := NB115_123.out; obtain ⟨⟨hcz52_0, hcz52_1, hcz52_2⟩, hfz52_0, hfz52_1, hfz52_2⟩ := cE BK123; obtain ⟨Ao53, co53, eo53⟩ := Kd.V_slice HO119.out; subst eo53; obtain ⟨Ao54, co54, eo54⟩ := Kd.V_slice HO122.out; subst eo54))
     generalize hw : (((w48.setCell ⟨gb123, 0, none⟩ (.bool t116)).setCell ⟨gb123, 1, none⟩ (.slice Ao53 t117.length co53)).setCell ⟨gb123, 2, none⟩ (.slice Ao54 t120.length co54)) = w55
     replace hw := hw.symm
     replace HO0_1 := vW hw (fun k_ => ((P0_1_ k_ ∨ P0_2_ k_ ∨ P1_1_ k_ ∨ P1_2_ k_) ∨ w.heap.size ≤ k_) ∧ some k_ ≠ (.slice Ao37 y104.length co37 : Value).ownBlock ∧ k_ ≠ gb101 ∧ k_ ≠ gb102 ∧ k_ ≠ gb115 ∧ k_ ≠ gb123) (v3p HO0_1 (fun _ hk => hk.2)) (fun _ hk => by simp only [hk, and_self, ne_eq, not_false_eq_true])
     replace HO0_2 := vW hw (fun k_ => ((P0_1_ k_ ∨ P0_2_ k_ ∨ P1_1_ k_ ∨ P1_2_ k_) ∨ w.heap.size ≤ k_) ∧ some k_ ≠ (.slice Ao37 y104.length co37 : Value).ownBlock ∧ k_ ≠ gb101 ∧ k_ ≠ gb102 ∧ k_ ≠ gb115 ∧ k_ ≠ gb123) (v3p HO0_2 (fun _ hk => hk.2)) (fun _ hk => by simp only [hk, and_self, ne_eq, not_false_eq_true])
     replace HO1_1 := vW hw (fun k_ => ((P0_1_ k_ ∨ P0_2_ k_ ∨ P1_1_ k_ ∨ P1_2_ k_) ∨ w.heap.size ≤ k_) ∧ some k_ ≠ (.slice Ao37 y104.length co37 : Value).ownBlock ∧ k_ ≠ gb101 ∧ k_ ≠ gb102 ∧ k_ ≠ gb115 ∧ k_ ≠ gb123) (v3p HO1_1 (fun _ hk => hk.2)) (fun _ hk => by simp only [hk, and_self, ne_eq, not_false_eq_true])
     replace HO1_2 := vW hw (fun k_ => ((P0_1_ k_ ∨ P0_2_ k_ ∨ P1_1_ k_ ∨ P1_2_ k_) ∨ w.heap.size ≤ k_) ∧ some k_ ≠ (.slice Ao37 y104.length co37 : Value).ownBlock ∧ k_ ≠ gb101 ∧ k_ ≠ gb102 ∧ k_ ≠ gb115 ∧ k_ ≠ gb123) (v3p HO1_2 (fun _ hk => hk.2)) (fun _ hk => by simp only [hk, and_self, ne_eq, not_false_eq_true])
     replace HO106 : Aside0 (Kd.N k69 69 w55 w.heap.size (fun k_ => ((P0_1_ k_ ∨ P0_2_ k_ ∨ P1_1_ k_ ∨ P1_2_ k_) ∨ w.heap.size ≤ k_) ∧ k_ ≠ gb101 ∧ k_ ≠ gb102 ∧ k_ ≠ gb115 ∧ k_ ≠ gb123) (.slice Ao37 y104.length co37) y104) := ⟨by rw [hw]; (with_reducible repeat (first | apply Kd.N_alloc | apply Kd.N_drewN | apply Kd.N_drew)); exact Kd.N_mono (Kd.N_far (p := ⟨gb123, 2, none⟩) (Kd.N_far (p := ⟨gb123, 1, none⟩) (Kd.N_far (p := ⟨gb123, 0, none⟩) (Kd.N_mono HO106.out (fun k_ hk => (⟨hk, hk.2⟩ : _ ∧ k_ ≠ gb123))) (fun _ hk => hk.2) (.bool t116)) (fun _ hk => hk.2) (.slice Ao53 t117.length co53)) (fun _ hk => hk.2) (.slice Ao54 t120.length co54)) (fun _ hk => by simp only [hk, and_self, ne_eq, not_false_eq_true])⟩
     replace HO111 := vW hw (fun k_ => ((P0_1_ k_ ∨ P0_2_ k_ ∨ P1_1_ k_ ∨ P1_2_ k_) ∨ w.heap.size ≤ k_) ∧ some k_ ≠ (.slice Ao37 y104.length co37 : Value).ownBlock ∧ k_ ≠ gb101 ∧ k_ ≠ gb102 ∧ k_ ≠ gb115 ∧ k_ ≠ gb123) (v3p HO111 (fun _ hk => hk.2)) (fun _ hk => by simp only [hk, and_self, ne_eq, not_false_eq_true])
     replace HO114 := vW hw (fun k_ => ((P0_1_ k_ ∨ P0_2_ k_ ∨ P1_1_ k_ ∨ P1_2_ k_) ∨ w.heap.size ≤ k_) ∧ some k_ ≠ (.slice Ao37 y104.length co37 : Value).ownBlock ∧ k_ ≠ gb101 ∧ k_ ≠ gb102 ∧ k_ ≠ gb115 ∧ k_ ≠ gb123) (v3p HO114 (fun _ hk => hk.2)) (fun _ hk => by simp only [hk, and_self, ne_eq, not_false_eq_true])
     replace HO119 := vW hw (fun k_ => ((P0_1_ k_ ∨ P0_2_ k_ ∨ P1_1_ k_ ∨ P1_2_ k_) ∨ w.heap.size ≤ k_) ∧ some k_ ≠ (.slice Ao37 y104.length co37 : Value).ownBlock ∧ k_ ≠ gb101 ∧ k_ ≠ gb102 ∧ k_ ≠ gb115 ∧ k_ ≠ gb123) (v3p HO119 (fun _ hk => hk.2)) (fun _ hk => by simp only [hk, and_self, ne_eq, not_false_eq_true])
     replace HO122 := vW hw (fun k_ => ((P0_1_ k_ ∨ P0_2_ k_ ∨ P1_1_ k_ ∨ P1_2_ k_) ∨ w.heap.size ≤ k_) ∧ some k_ ≠ (.slice Ao37 y104.length co37 : Value).ownBlock ∧ k_ ≠ gb101 ∧ k_ ≠ gb102 ∧ k_ ≠ gb115 ∧ k_ ≠ gb123) (v3p HO122 (fun _ hk => hk.2)) (fun _ hk => by simp only [hk, and_self, ne_eq, not_false_eq_true])
     replace BK101 := kW hw (q3 BK101 NB101_123)
     replace BK102 := kW hw (q3 BK102 NB102_123)
     replace BK115 := kW hw (q3 BK115 NB115_123)
     replace BK123 := kW hw (p3 BK123)
     replace HB := bW HB hw
     clear hw
     replace HO0_1 := Aside0.mk (Kd.V_drew HO0_1.out)
     replace HO0_2 := Aside0.mk (Kd.V_drew HO0_2.out)
     replace HO1_1 := Aside0.mk (Kd.V_drew HO1_1.out)
     replace HO1_2 := Aside0.mk (Kd.V_drew HO1_2.out)
     replace HO106 := Aside0.mk (Kd.N_drew HO106.out)
     replace HO111 := vd HO111
     replace HO114 := vd HO114
     replace HO119 := vd HO119
     replace HO122 := vd HO122
     replace BK101 := kd BK101
     replace BK102 := kd BK102
     replace BK115 := kd BK115
     replace BK123 := kd BK123
     replace HB := bd HB
     refine st (S := fun w' => B3 w' gb101 (.bool a0_0) (.slice A0_1 l0_1.length c0_1) (.slice A0_2 l0_2.length c0_2) ∧ B3 w' gb115 (.bool t108) (.slice Ao44 t109.length co44) (.slice Ao45 t112.length co45)) 6 [] (tf 0 6) ⟨b3 BK101, b3 BK115⟩ (fun hHeld => ?_)
     generalize w55.drew = w56 at HO0_1 HO0_2 HO1_1 HO1_2 HO106 HO111 HO114 HO119 HO122 BK101 BK102 BK115 BK123 HB hHeld ⊢
     refine tk 0 26 (tf 1 5) hHeld ?_
     refine tk 2 28 #[true, false, true, false, false, false] hHeld ?_
     refine on 1 (some 27) (tf 3 3) (fun K hK => ?_)
     refine gS Try.func95 #[.agg #[.bool a0_0, .slice A0_1 l0_1.length c0_1, .slice A0_2 l0_2.length c0_2]] ?_
     with_reducible refine (ratio_R_Neg1.calls k a0_0 (fun k_ => (((P0_1_ k_ ∨ P0_2_ k_ ∨ P1_1_ k_ ∨ P1_2_ k_) ∨ w.heap.size ≤ k_) ∧ (some k_ ≠ (.slice Ao37 y104.length co37 : Value).ownBlock ∧ (k_ ≠ gb101 ∧ (k_ ≠ gb102 ∧ (k_ ≠ gb115 ∧ k_ ≠ gb123)))))) _ _ l0_1 (fun k_ => (((P0_1_ k_ ∨ P0_2_ k_ ∨ P1_1_ k_ ∨ P1_2_ k_) ∨ w.heap.size ≤ k_) ∧ (some k_ ≠ (.slice Ao37 y104.length co37 : Value).ownBlock ∧ (k_ ≠ gb101 ∧ (k_ ≠ gb102 ∧ (k_ ≠ gb115 ∧ k_ ≠ gb123)))))) _ _ l0_2 t124 t125 t128 _ ?_ ?_ A9.out).mono ?_
     exact HO0_1.out
     exact HO0_2.out
     rintro e w57 ⟨v126, v129, rfl, ho0, ho1, hb⟩
     refine ⟨_, rfl, ?_⟩
     replace HO0_1 := vA HO0_1 hb
     replace HO0_2 := vA HO0_2 hb
     replace HO1_1 := vA HO1_1 hb
     replace HO1_2 := vA HO1_2 hb
     replace HO111 := vA HO111 hb
     replace HO114 := vA HO114 hb
     replace HO119 := vA HO119 hb
     replace HO122 := vA HO122 hb
     have HO127 := lw HB (fun k_ => ((P0_1_ k_ ∨ P0_2_ k_ ∨ P1_1_ k_ ∨ P1_2_ k_) ∨ w.heap.size ≤ k_) ∧ some k_ ≠ (.slice Ao37 y104.length co37 : Value).ownBlock ∧ k_ ≠ gb101 ∧ k_ ≠ gb102 ∧ k_ ≠ gb115 ∧ k_ ≠ gb123) ho0 (fun k_ hk_ => Or.elim hk_ (fun hs_ => Or.elim hs_ id id) (fun hn_ => ⟨.inr (Nat.le_trans (below_size hB) hn_), Kd.fresh' (Kd.N_lt (by (with_reducible repeat (first | apply Kd.N_alloc | apply Kd.N_drewN | apply Kd.N_drew)); exact HO106.out)) k_ hn_, kF BK101 hn_, kF BK102 hn_, kF BK115 hn_, kF BK123 hn_⟩))
     have HO130 := lw HB (fun k_ => ((P0_1_ k_ ∨ P0_2_ k_ ∨ P1_1_ k_ ∨ P1_2_ k_) ∨ w.heap.size ≤ k_) ∧ some k_ ≠ (.slice Ao37 y104.length co37 : Value).ownBlock ∧ k_ ≠ gb101 ∧ k_ ≠ gb102 ∧ k_ ≠ gb115 ∧ k_ ≠ gb123) ho1 (fun k_ hk_ => Or.elim hk_ (fun hs_ => Or.elim hs_ id id) (fun hn_ => ⟨.inr (Nat.le_trans (below_size hB) hn_), Kd.fresh' (Kd.N_lt (by (with_reducible repeat (first | apply Kd.N_alloc | apply Kd.N_drewN | apply Kd.N_drew)); exact HO106.out)) k_ hn_, kF BK101 hn_, kF BK102 hn_, kF BK115 hn_, kF BK123 hn_⟩))
     replace HO106 := Aside0.mk (Kd.N_below (by (with_reducible repeat (first | apply Kd.N_alloc | apply Kd.N_drewN | apply Kd.N_drew)); exact HO106.out) hb)
     replace BK101 := kA BK101 hb
     replace BK102 := kA BK102 hb
     replace BK115 := kA BK115 hb
     replace BK123 := kA BK123 hb
     replace HB := bS HB hb
     clear hb ho0 ho1
     refine hK.out _ _ ⟨b3 BK101, b3 BK115⟩ (fun hHeld => nm ?_)
     clear hK K
     refine on 3 (some 29) (tf 4 2) (fun K hK => ?_)
     refine gS Try.func89 #[.agg #[.bool t108, .slice Ao44 t109.length co44, .slice Ao45 t112.length co45]] ?_
     with_reducible refine (flyballref03_Minus.calls k t108 (fun k_ => (((P0_1_ k_ ∨ P0_2_ k_ ∨ P1_1_ k_ ∨ P1_2_ k_) ∨ w.heap.size ≤ k_) ∧ (some k_ ≠ (.slice Ao37 y104.length co37 : Value).ownBlock ∧ (k_ ≠ gb101 ∧ (k_ ≠ gb102 ∧ (k_ ≠ gb115 ∧ k_ ≠ gb123)))))) _ _ t109 (fun k_ => (((P0_1_ k_ ∨ P0_2_ k_ ∨ P1_1_ k_ ∨ P1_2_ k_) ∨ w.heap.size ≤ k_) ∧ (some k_ ≠ (.slice Ao37 y104.length co37 : Value).ownBlock ∧ (k_ ≠ gb101 ∧ (k_ ≠ gb102 ∧ (k_ ≠ gb115 ∧ k_ ≠ gb123)))))) _ _ t112 t131 t132 t135 _ ?_ ?_ A10.out).mono ?_
     exact HO111.out
     exact HO114.out
     rintro e w58 ⟨v133, v136, rfl, ho0, ho1, hb⟩
     refine ⟨_, rfl, ?_⟩
     replace HO0_1 := vA HO0_1 hb
     replace HO0_2 := vA HO0_2 hb
     replace HO1_1 := vA HO1_1 hb
     replace HO1_2 := vA HO1_2 hb
     replace HO111 := vA HO111 hb
     replace HO114 := vA HO114 hb
     replace HO119 := vA HO119 hb
     replace HO122 := vA HO122 hb
     replace HO127 := vA HO127 hb
     replace HO130 := vA HO130 hb
     have HO134 := lw HB (fun k_ => ((P0_1_ k_ ∨ P0_2_ k_ ∨ P1_1_ k_ ∨ P1_2_ k_) ∨ w.heap.size ≤ k_) ∧ some k_ ≠ (.slice Ao37 y104.length co37 : Value).ownBlock ∧ k_ ≠ gb101 ∧ k_ ≠ gb102 ∧ k_ ≠ gb115 ∧ k_ ≠ gb123) ho0 (fun k_ hk_ => Or.elim hk_ (fun hs_ => Or.elim hs_ id id) (fun hn_ => ⟨.inr (Nat.le_trans (below_size hB) hn_), Kd.fresh' (Kd.N_lt (by (with_reducible repeat (first | apply Kd.N_alloc | apply Kd.N_drewN | apply Kd.N_drew)); exact HO106.out)) k_ hn_, kF BK101 hn_, kF BK102 hn_, kF BK115 hn_, kF BK123 hn_⟩))
     have HO137 := lw HB (fun k_ => ((P0_1_ k_ ∨ P0_2_ k_ ∨ P1_1_ k_ ∨ P1_2_ k_) ∨ w.heap.size ≤ k_) ∧ some k_ ≠ (.slice Ao37 y104.length co37 : Value).ownBlock ∧ k_ ≠ gb101 ∧ k_ ≠ gb102 ∧ k_ ≠ gb115 ∧ k_ ≠ gb123) ho1 (fun k_ hk_ => Or.elim hk_ (fun hs_ => Or.elim hs_ id id) (fun hn_ => ⟨.inr (Nat.le_trans (below_size hB) hn_), Kd.fresh' (Kd.N_lt (by (with_reducible repeat (first | apply Kd.N_alloc | apply Kd.N_drewN | apply Kd.N_drew)); exact HO106.out)) k_ hn_, kF BK101 hn_, kF BK102 hn_, kF BK115 hn_, kF BK123 hn_⟩))
     replace HO106 := Aside0.mk (Kd.N_below (by (with_reducible repeat (first | apply Kd.N_alloc | apply Kd.N_drewN | apply Kd.N_drew)); exact HO106.out) hb)
     replace BK101 := kA BK101 hb
     replace BK102 := kA BK102 hb
     replace BK115 := kA BK115 hb
     replace BK123 := kA BK123 hb
     replace HB := bS HB hb
     clear hb ho0 ho1
     obtain ⟨Ao59, co59, eo59⟩ := Kd.V_slice HO127.out
     (first | subst eo59 | (injection eo59 with f1_ f2_ f3_; have f4_ := f1_.symm; have f5_ := f3_.symm; clear f1_ f2_ f3_; subst f4_; subst f5_))
     obtain ⟨Ao60, co60, eo60⟩ := Kd.V_slice HO130.out
     (first | subst eo60 | (injection eo60 with f1_ f2_ f3_; have f4_ := f1_.symm; have f5_ := f3_.symm; clear f1_ f2_ f3_; subst f4_; subst f5_))
     obtain ⟨Ao61, co61, eo61⟩ := Kd.V_slice HO134.out
     (first | subst eo61 | (injection eo61 with f1_ f2_ f3_; have f4_ := f1_.symm; have f5_ := f3_.symm; clear f1_ f2_ f3_; subst f4_; subst f5_))
     obtain ⟨Ao62, co62, eo62⟩ := Kd.V_slice HO137.out
     (first | subst eo62 | (injection eo62 with f1_ f2_ f3_; have f4_ := f1_.symm; have f5_ := f3_.symm; clear f1_ f2_ f3_; subst f4_; subst f5_))
     refine hK.out _ _ ⟨b3 BK101, b3 BK115⟩ (fun hHeld => nm ?_)
     clear hK K
     refine on 4 (some 30) (tf 5 1) (fun K hK => ?_)
     refine gS Try.func85 #[.agg #[.bool t124, .slice Ao59 t125.length co59, .slice Ao60 t128.length co60], .agg #[.bool t131, .slice Ao61 t132.length co61, .slice Ao62 t135.length co62]] ?_
     with_reducible refine (flyballlaw03_is.calls k t124 _ _ t125 _ _ t128 t131 _ _ t132 _ _ t135 true _ ?_ ?_ ?_ ?_ ?_ ?_ ?_ ?_ A11.out).mono ?_
     exact cup ((Kd.V_reads' HO127.out).2.2)
     exact (Kd.V_reads' HO127.out).2.1
     exact cup ((Kd.V_reads' HO130.out).2.2)
     exact (Kd.V_reads' HO130.out).2.1
     exact cup ((Kd.V_reads' HO134.out).2.2)
     exact (Kd.V_reads' HO134.out).2.1
     exact cup ((Kd.V_reads' HO137.out).2.2)
     exact (Kd.V_reads' HO137.out).2.1
     rintro e w63 ⟨rfl, hb⟩
     refine ⟨_, rfl, ?_⟩
     replace HO0_1 := vA HO0_1 hb
     replace HO0_2 := vA HO0_2 hb
     replace HO1_1 := vA HO1_1 hb
     replace HO1_2 := vA HO1_2 hb
     replace HO106 := Aside0.mk (Kd.N_below (by (with_reducible repeat (first | apply Kd.N_alloc | apply Kd.N_drewN | apply Kd.N_drew)); exact HO106.out) hb)
     replace HO111 := vA HO111 hb
     replace HO114 := vA HO114 hb
     replace HO119 := vA HO119 hb
     replace HO122 := vA HO122 hb
     replace HO127 := vA HO127 hb
     replace HO130 := vA HO130 hb
     replace HO134 := vA HO134 hb
     replace HO137 := vA HO137 hb
     replace BK101 := kA BK101 hb
     replace BK102 := kA BK102 hb
     replace BK115 := kA BK115 hb
     replace BK123 := kA BK123 hb
     replace HB := bS HB hb
     clear hb
     refine hK.out _ _ ⟨b3 BK101, b3 BK115⟩ (fun hHeld => nm ?_)
     clear hK K
     refine pu 5 9 (tf 6 0) ?_
     refine done_ (by kernel_rfl) ?_
     obtain ⟨⟨hcz64_0, hcz64_1, hcz64_2⟩, hfz64_0, hfz64_1, hfz64_2⟩ := cE BK115
     try go_wp2_with (first | ((with_reducible refine gc 96 rfl ?_); refine gL 35 Try.func96 #[.bool false, .slice Ao44 t109.length co44, .slice Ao45 t112.length co45] ?_; (with_reducible refine (flyballref03_Low.calls k false (fun k_ => (((P0_1_ k_ ∨ P0_2_ k_ ∨ P1_1_ k_ ∨ P1_2_ k_) ∨ w.heap.size ≤ k_) ∧ (some k_ ≠ (.slice Ao37 y104.length co37 : Value).ownBlock ∧ (k_ ≠ gb101 ∧ (k_ ≠ gb102 ∧ (k_ ≠ gb115 ∧ k_ ≠ gb123)))))) _ _ t109 (fun k_ => (((P0_1_ k_ ∨ P0_2_ k_ ∨ P1_1_ k_ ∨ P1_2_ k_) ∨ w.heap.size ≤ k_) ∧ (some k_ ≠ (.slice Ao37 y104.length co37 : Value).ownBlock ∧ (k_ ≠ gb101 ∧ (k_ ≠ gb102 ∧ (k_ ≠ gb115 ∧ k_ ≠ gb123)))))) _ _ t112 t139 t140 t143 _ ?_ ?_ A12.out).mono ?_); exact HO111.out; exact HO114.out; rintro e w65 ⟨v141, v144, rfl, ho0, ho1, hb⟩; refine ⟨_, rfl, ?_⟩; replace HO0_1 := vA HO0_1 hb; replace HO0_2 := vA HO0_2 hb; replace HO1_1 := vA HO1_1 hb; replace HO1_2 := vA HO1_2 hb; replace HO111 := vA HO111 hb; replace HO114 := vA HO114 hb; replace HO119 := vA HO119 hb; replace HO122 := vA HO122 hb; replace HO127 := vA HO127 hb; replace HO130 := vA HO130 hb; replace HO134 := vA HO134 hb; replace HO137 := vA HO137 hb; have HO142 := lw HB (fun k_ => ((P0_1_ k_ ∨ P0_2_ k_ ∨ P1_1_ k_ ∨ P1_2_ k_) ∨ w.heap.size ≤ k_) ∧ some k_ ≠ (.slice Ao37 y104.length co37 : Value).ownBlock ∧ k_ ≠ gb101 ∧ k_ ≠ gb102 ∧ k_ ≠ gb115 ∧ k_ ≠ gb123) ho0 (fun k_ hk_ => Or.elim hk_ (fun hs_ => Or.elim hs_ id id) (fun hn_ => ⟨.inr (Nat.le_trans (below_size hB) hn_), Kd.fresh' (Kd.N_lt (by (with_reducible repeat (first | apply Kd.N_alloc | apply Kd.N_drewN | apply Kd.N_drew)); exact HO106.out)) k_ hn_, kF BK101 hn_, kF BK102 hn_, kF BK115 hn_, kF BK123 hn_⟩)); have HO145 := lw HB (fun k_ => ((P0_1_ k_ ∨ P0_2_ k_ ∨ P1_1_ k_ ∨ P1_2_ k_) ∨ w.heap.size ≤ k_) ∧ some k_ ≠ (.slice Ao37 y104.length co37 : Value).ownBlock ∧ k_ ≠ gb101 ∧ k_ ≠ gb102 ∧ k_ ≠ gb115 ∧ k_ ≠ gb123) ho1 (fun k_ hk_ => Or.elim hk_ (fun hs_ => Or.elim hs_ id id) (fun hn_ => ⟨.inr (Nat.le_trans (below_size hB) hn_), Kd.fresh' (Kd.N_lt (by (with_reducible repeat (first | apply Kd.N_alloc | apply Kd.N_drewN | apply Kd.N_drew)); exact HO106.out)) k_ hn_, kF BK101 hn_, kF BK102 hn_, kF BK115 hn_, kF BK123 hn_⟩)); replace HO106 := Aside0.mk (Kd.N_below (by (with_reducible repeat (first | apply Kd.N_alloc | apply Kd.N_drewN | apply Kd.N_drew)); exact HO106.out) hb); replace BK101 := kA BK101 hb; replace BK102 := kA BK102 hb; replace BK115 := kA BK115 hb; replace BK123 := kA BK123 hb; replace HB := bS HB hb; clear hb ho0 ho1) | ((with_reducible refine gd 10 rfl ?_); refine box_event ?hg (N := 10) ?hd (cs := #[.bool false, .slice none 0 0, .slice none 0 0]) (t := 92) ?hr ?_; (case hd => rfl); (case hg => rfl); (case hr => first | (go_simp; done) | (go_simp; rfl)); intro gb146 hg w66 hbox hb; replace HO0_1 := vE HO0_1 hg hb; replace HO0_2 := vE HO0_2 hg hb; replace HO1_1 := vE HO1_1 hg hb; replace HO1_2 := vE HO1_2 hg hb; replace HO106 := Aside0.mk (Kd.N_below (Kd.N_elderB (by (with_reducible repeat (first | apply Kd.N_alloc | apply Kd.N_drewN | apply Kd.N_drew)); exact HO106.out) gb146 (Nat.le_of_eq hg.symm)) hb); replace HO111 := vE HO111 hg hb; replace HO114 := vE HO114 hg hb; replace HO119 := vE HO119 hg hb; replace HO122 := vE HO122 hg hb; replace HO127 := vE HO127 hg hb; replace HO130 := vE HO130 hg hb; replace HO134 := vE HO134 hg hb; replace HO137 := vE HO137 hg hb; replace HO142 := vE HO142 hg hb; replace HO145 := vE HO145 hg hb; have BK146 := Aside0.mk hbox; have GW146 := gS' hg HB; have GE146 := gS' hg HB; replace HB := bS HB hb; have NB101_146 := nL hg BK101; have NB146_101 := nR hg BK101; replace BK101 := kA BK101 hb; have NB102_146 := nL hg BK102; have NB146_102 := nR hg BK102; replace BK102 := kA BK102 hb; have NB115_146 := nL hg BK115; have NB146_115 := nR hg BK115; replace BK115 := kA BK115 hb; have NB123_146 := nL hg BK123; have NB146_123 := nR hg BK123; replace BK123 := kA BK123 hb; clear hb hbox hg; have hnb67 := NB146_101.out; have hnc67 := NB101_146.out; have hnb68 := NB146_102.out; have hnc68 := NB102_146.out; have hnb69 := NB146_115.out; have hnc69 := NB115_146.out; have hnb70 := NB146_123.out; have hnc70 := NB123_146.out; obtain ⟨⟨hcz71_0, hcz71_1, hcz71_2⟩, hfz71_0, hfz71_1, hfz71_2⟩ := cE BK146; obtain ⟨Ao72, co72, eo72⟩ := Kd.V_slice HO142.out; subst eo72; obtain ⟨Ao73, co73, eo73⟩ := Kd.V_slice HO145.out; subst eo73))
     generalize hw : (((w66.setCell ⟨gb146, 0, none⟩ (.bool t139)).setCell ⟨gb146, 1, none⟩ (.slice Ao72 t140.length co72)).setCell ⟨gb146, 2, none⟩ (.slice Ao73 t143.length co73)) = w74
     replace hw := hw.symm
     replace HO0_1 := vW hw (fun k_ => ((P0_1_ k_ ∨ P0_2_ k_ ∨ P1_1_ k_ ∨ P1_2_ k_) ∨ w.heap.size ≤ k_) ∧ some k_ ≠ (.slice Ao37 y104.length co37 : Value).ownBlock ∧ k_ ≠ gb101 ∧ k_ ≠ gb102 ∧ k_ ≠ gb115 ∧ k_ ≠ gb123 ∧ k_ ≠ gb146) (v3p HO0_1 (fun _ hk => hk.2)) (fun _ hk => by simp only [hk, and_self, ne_eq, not_false_eq_true])
     replace HO0_2 := vW hw (fun k_ => ((P0_1_ k_ ∨ P0_2_ k_ ∨ P1_1_ k_ ∨ P1_2_ k_) ∨ w.heap.size ≤ k_) ∧ some k_ ≠ (.slice Ao37 y104.length co37 : Value).ownBlock ∧ k_ ≠ gb101 ∧ k_ ≠ gb102 ∧ k_ ≠ gb115 ∧ k_ ≠ gb123 ∧ k_ ≠ gb146) (v3p HO0_2 (fun _ hk => hk.2)) (fun _ hk => by simp only [hk, and_self, ne_eq, not_false_eq_true])
     replace HO1_1 := vW hw (fun k_ => ((P0_1_ k_ ∨ P0_2_ k_ ∨ P1_1_ k_ ∨ P1_2_ k_) ∨ w.heap.size ≤ k_) ∧ some k_ ≠ (.slice Ao37 y104.length co37 : Value).ownBlock ∧ k_ ≠ gb101 ∧ k_ ≠ gb102 ∧ k_ ≠ gb115 ∧ k_ ≠ gb123 ∧ k_ ≠ gb146) (v3p HO1_1 (fun _ hk => hk.2)) (fun _ hk => by simp only [hk, and_self, ne_eq, not_false_eq_true])
     replace HO1_2 := vW hw (fun k_ => ((P0_1_ k_ ∨ P0_2_ k_ ∨ P1_1_ k_ ∨ P1_2_ k_) ∨ w.heap.size ≤ k_) ∧ some k_ ≠ (.slice Ao37 y104.length co37 : Value).ownBlock ∧ k_ ≠ gb101 ∧ k_ ≠ gb102 ∧ k_ ≠ gb115 ∧ k_ ≠ gb123 ∧ k_ ≠ gb146) (v3p HO1_2 (fun _ hk => hk.2)) (fun _ hk => by simp only [hk, and_self, ne_eq, not_false_eq_true])
     replace HO106 : Aside0 (Kd.N k69 69 w74 w.heap.size (fun k_ => ((P0_1_ k_ ∨ P0_2_ k_ ∨ P1_1_ k_ ∨ P1_2_ k_) ∨ w.heap.size ≤ k_) ∧ k_ ≠ gb101 ∧ k_ ≠ gb102 ∧ k_ ≠ gb115 ∧ k_ ≠ gb123 ∧ k_ ≠ gb146) (.slice Ao37 y104.length co37) y104) := ⟨by rw [hw]; (with_reducible repeat (first | apply Kd.N_alloc | apply Kd.N_drewN | apply Kd.N_drew)); exact Kd.N_mono (Kd.N_far (p := ⟨gb146, 2, none⟩) (Kd.N_far (p := ⟨gb146, 1, none⟩) (Kd.N_far (p := ⟨gb146, 0, none⟩) (Kd.N_mono HO106.out (fun k_ hk => (⟨hk, hk.2⟩ : _ ∧ k_ ≠ gb146))) (fun _ hk => hk.2) (.bool t139)) (fun _ hk => hk.2) (.slice Ao72 t140.length co72)) (fun _ hk => hk.2) (.slice Ao73 t143.length co73)) (fun _ hk => by simp only [hk, and_self, ne_eq, not_false_eq_true])⟩
     replace HO111 := vW hw (fun k_ => ((P0_1_ k_ ∨ P0_2_ k_ ∨ P1_1_ k_ ∨ P1_2_ k_) ∨ w.heap.size ≤ k_) ∧ some k_ ≠ (.slice Ao37 y104.length co37 : Value).ownBlock ∧ k_ ≠ gb101 ∧ k_ ≠ gb102 ∧ k_ ≠ gb115 ∧ k_ ≠ gb123 ∧ k_ ≠ gb146) (v3p HO111 (fun _ hk => hk.2)) (fun _ hk => by simp only [hk, and_self, ne_eq, not_false_eq_true])
     replace HO114 := vW hw (fun k_ => ((P0_1_ k_ ∨ P0_2_ k_ ∨ P1_1_ k_ ∨ P1_2_ k_) ∨ w.heap.size ≤ k_) ∧ some k_ ≠ (.slice Ao37 y104.length co37 : Value).ownBlock ∧ k_ ≠ gb101 ∧ k_ ≠ gb102 ∧ k_ ≠ gb115 ∧ k_ ≠ gb123 ∧ k_ ≠ gb146) (v3p HO114 (fun _ hk => hk.2)) (fun _ hk => by simp only [hk, and_self, ne_eq, not_false_eq_true])
     replace HO119 := vW hw (fun k_ => ((P0_1_ k_ ∨ P0_2_ k_ ∨ P1_1_ k_ ∨ P1_2_ k_) ∨ w.heap.size ≤ k_) ∧ some k_ ≠ (.slice Ao37 y104.length co37 : Value).ownBlock ∧ k_ ≠ gb101 ∧ k_ ≠ gb102 ∧ k_ ≠ gb115 ∧ k_ ≠ gb123 ∧ k_ ≠ gb146) (v3p HO119 (fun _ hk => hk.2)) (fun _ hk => by simp only [hk, and_self, ne_eq, not_false_eq_true])
     replace HO122 := vW hw (fun k_ => ((P0_1_ k_ ∨ P0_2_ k_ ∨ P1_1_ k_ ∨ P1_2_ k_) ∨ w.heap.size ≤ k_) ∧ some k_ ≠ (.slice Ao37 y104.length co37 : Value).ownBlock ∧ k_ ≠ gb101 ∧ k_ ≠ gb102 ∧ k_ ≠ gb115 ∧ k_ ≠ gb123 ∧ k_ ≠ gb146) (v3p HO122 (fun _ hk => hk.2)) (fun _ hk => by simp only [hk, and_self, ne_eq, not_false_eq_true])
     replace HO127 := vW hw (fun k_ => ((P0_1_ k_ ∨ P0_2_ k_ ∨ P1_1_ k_ ∨ P1_2_ k_) ∨ w.heap.size ≤ k_) ∧ some k_ ≠ (.slice Ao37 y104.length co37 : Value).ownBlock ∧ k_ ≠ gb101 ∧ k_ ≠ gb102 ∧ k_ ≠ gb115 ∧ k_ ≠ gb123 ∧ k_ ≠ gb146) (v3p HO127 (fun _ hk => hk.2)) (fun _ hk => by simp only [hk, and_self, ne_eq, not_false_eq_true])
     replace HO130 := vW hw (fun k_ => ((P0_1_ k_ ∨ P0_2_ k_ ∨ P1_1_ k_ ∨ P1_2_ k_) ∨ w.heap.size ≤ k_) ∧ some k_ ≠ (.slice Ao37 y104.length co37 : Value).ownBlock ∧ k_ ≠ gb101 ∧ k_ ≠ gb102 ∧ k_ ≠ gb115 ∧ k_ ≠ gb123 ∧ k_ ≠ gb146) (v3p HO130 (fun _ hk => hk.2)) (fun _ hk => by simp only [hk, and_self, ne_eq, not_false_eq_true])
     replace HO134 := vW hw (fun k_ => ((P0_1_ k_ ∨ P0_2_ k_ ∨ P1_1_ k_ ∨ P1_2_ k_) ∨ w.heap.size ≤ k_) ∧ some k_ ≠ (.slice Ao37 y104.length co37 : Value).ownBlock ∧ k_ ≠ gb101 ∧ k_ ≠ gb102 ∧ k_ ≠ gb115 ∧ k_ ≠ gb123 ∧ k_ ≠ gb146) (v3p HO134 (fun _ hk => hk.2)) (fun _ hk => by simp only [hk, and_self, ne_eq, not_false_eq_true])
     replace HO137 := vW hw (fun k_ => ((P0_1_ k_ ∨ P0_2_ k_ ∨ P1_1_ k_ ∨ P1_2_ k_) ∨ w.heap.size ≤ k_) ∧ some k_ ≠ (.slice Ao37 y104.length co37 : Value).ownBlock ∧ k_ ≠ gb101 ∧ k_ ≠ gb102 ∧ k_ ≠ gb115 ∧ k_ ≠ gb123 ∧ k_ ≠ gb146) (v3p HO137 (fun _ hk => hk.2)) (fun _ hk => by simp only [hk, and_self, ne_eq, not_false_eq_true])
     replace HO142 := vW hw (fun k_ => ((P0_1_ k_ ∨ P0_2_ k_ ∨ P1_1_ k_ ∨ P1_2_ k_) ∨ w.heap.size ≤ k_) ∧ some k_ ≠ (.slice Ao37 y104.length co37 : Value).ownBlock ∧ k_ ≠ gb101 ∧ k_ ≠ gb102 ∧ k_ ≠ gb115 ∧ k_ ≠ gb123 ∧ k_ ≠ gb146) (v3p HO142 (fun _ hk => hk.2)) (fun _ hk => by simp only [hk, and_self, ne_eq, not_false_eq_true])
     replace HO145 := vW hw (fun k_ => ((P0_1_ k_ ∨ P0_2_ k_ ∨ P1_1_ k_ ∨ P1_2_ k_) ∨ w.heap.size ≤ k_) ∧ some k_ ≠ (.slice Ao37 y104.length co37 : Value).ownBlock ∧ k_ ≠ gb101 ∧ k_ ≠ gb102 ∧ k_ ≠ gb115 ∧ k_ ≠ gb123 ∧ k_ ≠ gb146) (v3p HO145 (fun _ hk => hk.2)) (fun _ hk => by simp only [hk, and_self, ne_eq, not_false_eq_true])
     replace BK101 := kW hw (q3 BK101 NB101_146)
     replace BK102 := kW hw (q3 BK102 NB102_146)
     replace BK115 := kW hw (q3 BK115 NB115_146)
     replace BK123 := kW hw (q3 BK123 NB123_146)
     replace BK146 := kW hw (p3 BK146)
     replace HB := bW HB hw
     clear hw
     replace HO0_1 := Aside0.mk (Kd.V_drew HO0_1.out)
     replace HO0_2 := Aside0.mk (Kd.V_drew HO0_2.out)
     replace HO1_1 := Aside0.mk (Kd.V_drew HO1_1.out)
     replace HO1_2 := Aside0.mk (Kd.V_drew HO1_2.out)
     replace HO106 := Aside0.mk (Kd.N_drew HO106.out)
     replace HO111 := vd HO111
     replace HO114 := vd HO114
     replace HO119 := vd HO119
     replace HO122 := vd HO122
     replace HO127 := vd HO127
     replace HO130 := vd HO130
     replace HO134 := vd HO134
     replace HO137 := vd HO137
     replace HO142 := vd HO142
     replace HO145 := vd HO145
     replace BK101 := kd BK101
     replace BK102 := kd BK102
     replace BK115 := kd BK115
     replace BK123 := kd BK123
     replace BK146 := kd BK146
     replace HB := bd HB
     refine st (S := fun w' => B3 w' gb101 (.bool a0_0) (.slice A0_1 l0_1.length c0_1) (.slice A0_2 l0_2.length c0_2) ∧ B3 w' gb146 (.bool t139) (.slice Ao72 t140.length co72) (.slice Ao73 t143.length co73)) 5 [] (tf 0 5) ⟨b3 BK101, b3 BK146⟩ (fun hHeld => ?_)
     generalize w74.drew = w75 at HO0_1 HO0_2 HO1_1 HO1_2 HO106 HO111 HO114 HO119 HO122 HO127 HO130 HO134 HO137 HO142 HO145 BK101 BK102 BK115 BK123 BK146 HB hHeld ⊢
     refine tk 0 36 (tf 1 4) hHeld ?_
     refine tk 2 38 #[true, false, true, false, false] hHeld ?_
     refine on 1 (some 37) (tf 3 2) (fun K hK => ?_)
     refine gS Try.func97 #[.agg #[.bool a0_0, .slice A0_1 l0_1.length c0_1, .slice A0_2 l0_2.length c0_2]] ?_
     with_reducible refine (ratio_R_Abs.calls k a0_0 (fun k_ => (((P0_1_ k_ ∨ P0_2_ k_ ∨ P1_1_ k_ ∨ P1_2_ k_) ∨ w.heap.size ≤ k_) ∧ (some k_ ≠ (.slice Ao37 y104.length co37 : Value).ownBlock ∧ (k_ ≠ gb101 ∧ (k_ ≠ gb102 ∧ (k_ ≠ gb115 ∧ (k_ ≠ gb123 ∧ k_ ≠ gb146))))))) _ _ l0_1 (fun k_ => (((P0_1_ k_ ∨ P0_2_ k_ ∨ P1_1_ k_ ∨ P1_2_ k_) ∨ w.heap.size ≤ k_) ∧ (some k_ ≠ (.slice Ao37 y104.length co37 : Value).ownBlock ∧ (k_ ≠ gb101 ∧ (k_ ≠ gb102 ∧ (k_ ≠ gb115 ∧ (k_ ≠ gb123 ∧ k_ ≠ gb146))))))) _ _ l0_2 t147 t148 t151 _ ?_ ?_ A13.out).mono ?_
     exact HO0_1.out
     exact HO0_2.out
     rintro e w76 ⟨v149, v152, rfl, ho0, ho1, hb⟩
     refine ⟨_, rfl, ?_⟩
     replace HO0_1 := vA HO0_1 hb
     replace HO0_2 := vA HO0_2 hb
     replace HO1_1 := vA HO1_1 hb
     replace HO1_2 := vA HO1_2 hb
     replace HO111 := vA HO111 hb
     replace HO114 := vA HO114 hb
     replace HO119 := vA HO119 hb
     replace HO122 := vA HO122 hb
     replace HO127 := vA HO127 hb
     replace HO130 := vA HO130 hb
     replace HO134 := vA HO134 hb
     replace HO137 := vA HO137 hb
     replace HO142 := vA HO142 hb
     replace HO145 := vA HO145 hb
     have HO150 := lw HB (fun k_ => ((P0_1_ k_ ∨ P0_2_ k_ ∨ P1_1_ k_ ∨ P1_2_ k_) ∨ w.heap.size ≤ k_) ∧ some k_ ≠ (.slice Ao37 y104.length co37 : Value).ownBlock ∧ k_ ≠ gb101 ∧ k_ ≠ gb102 ∧ k_ ≠ gb115 ∧ k_ ≠ gb123 ∧ k_ ≠ gb146) ho0 (fun k_ hk_ => Or.elim hk_ (fun hs_ => Or.elim hs_ id id) (fun hn_ => ⟨.inr (Nat.le_trans (below_size hB) hn_), Kd.fresh' (Kd.N_lt (by (with_reducible repeat (first | apply Kd.N_alloc | apply Kd.N_drewN | apply Kd.N_drew)); exact HO106.out)) k_ hn_, kF BK101 hn_, kF BK102 hn_, kF BK115 hn_, kF BK123 hn_, kF BK146 hn_⟩))
     have HO153 := lw HB (fun k_ => ((P0_1_ k_ ∨ P0_2_ k_ ∨ P1_1_ k_ ∨ P1_2_ k_) ∨ w.heap.size ≤ k_) ∧ some k_ ≠ (.slice Ao37 y104.length co37 : Value).ownBlock ∧ k_ ≠ gb101 ∧ k_ ≠ gb102 ∧ k_ ≠ gb115 ∧ k_ ≠ gb123 ∧ k_ ≠ gb146) ho1 (fun k_ hk_ => Or.elim hk_ (fun hs_ => Or.elim hs_ id id) (fun hn_ => ⟨.inr (Nat.le_trans (below_size hB) hn_), Kd.fresh' (Kd.N_lt (by (with_reducible repeat (first | apply Kd.N_alloc | apply Kd.N_drewN | apply Kd.N_drew)); exact HO106.out)) k_ hn_, kF BK101 hn_, kF BK102 hn_, kF BK115 hn_, kF BK123 hn_, kF BK146 hn_⟩))
     replace HO106 := Aside0.mk (Kd.N_below (by (with_reducible repeat (first | apply Kd.N_alloc | apply Kd.N_drewN | apply Kd.N_drew)); exact HO106.out) hb)
     replace BK101 := kA BK101 hb
     replace BK102 := kA BK102 hb
     replace BK115 := kA BK115 hb
     replace BK123 := kA BK123 hb
     replace BK146 := kA BK146 hb
     replace HB := bS HB hb
     clear hb ho0 ho1
     obtain ⟨Ao77, co77, eo77⟩ := Kd.V_slice HO150.out
     (first | subst eo77 | (injection eo77 with f1_ f2_ f3_; have f4_ := f1_.symm; have f5_ := f3_.symm; clear f1_ f2_ f3_; subst f4_; subst f5_))
     obtain ⟨Ao78, co78, eo78⟩ := Kd.V_slice HO153.out
     (first | subst eo78 | (injection eo78 with f1_ f2_ f3_; have f4_ := f1_.symm; have f5_ := f3_.symm; clear f1_ f2_ f3_; subst f4_; subst f5_))
     refine hK.out _ _ ⟨b3 BK101, b3 BK146⟩ (fun hHeld => nm ?_)
     clear hK K
     refine on 3 (some 39) (tf 4 1) (fun K hK => ?_)
     refine gS Try.func85 #[.agg #[.bool t147, .slice Ao77 t148.length co77, .slice Ao78 t151.length co78], .agg #[.bool t139, .slice Ao72 t140.length co72, .slice Ao73 t143.length co73]] ?_
     with_reducible refine (flyballlaw03_is.calls k t147 _ _ t148 _ _ t151 t139 _ _ t140 _ _ t143 true _ ?_ ?_ ?_ ?_ ?_ ?_ ?_ ?_ A14.out).mono ?_
     exact cup ((Kd.V_reads' HO150.out).2.2)
     exact (Kd.V_reads' HO150.out).2.1
     exact cup ((Kd.V_reads' HO153.out).2.2)
     exact (Kd.V_reads' HO153.out).2.1
     exact cup ((Kd.V_reads' HO142.out).2.2)
     exact (Kd.V_reads' HO142.out).2.1
     exact cup ((Kd.V_reads' HO145.out).2.2)
     exact (Kd.V_reads' HO145.out).2.1
     rintro e w79 ⟨rfl, hb⟩
     refine ⟨_, rfl, ?_⟩
     replace HO0_1 := vA HO0_1 hb
     replace HO0_2 := vA HO0_2 hb
     replace HO1_1 := vA HO1_1 hb
     replace HO1_2 := vA HO1_2 hb
     replace HO106 := Aside0.mk (Kd.N_below (by (with_reducible repeat (first | apply Kd.N_alloc | apply Kd.N_drewN | apply Kd.N_drew)); exact HO106.out) hb)
     replace HO111 := vA HO111 hb
     replace HO114 := vA HO114 hb
     replace HO119 := vA HO119 hb
     replace HO122 := vA HO122 hb
     replace HO127 := vA HO127 hb
     replace HO130 := vA HO130 hb
     replace HO134 := vA HO134 hb
     replace HO137 := vA HO137 hb
     replace HO142 := vA HO142 hb
     replace HO145 := vA HO145 hb
     replace HO150 := vA HO150 hb
     replace HO153 := vA HO153 hb
     replace BK101 := kA BK101 hb
     replace BK102 := kA BK102 hb
     replace BK115 := kA BK115 hb
     replace BK123 := kA BK123 hb
     replace BK146 := kA BK146 hb
     replace HB := bS HB hb
     clear hb
     refine hK.out _ _ ⟨b3 BK101, b3 BK146⟩ (fun hHeld => nm ?_)
     clear hK K
     refine pu 4 11 (tf 5 0) ?_
     refine done_ (by kernel_rfl) ?_
     try go_wp2
     replace HO0_1 := Aside0.mk (Kd.V_drew HO0_1.out)
     replace HO0_2 := Aside0.mk (Kd.V_drew HO0_2.out)
     replace HO1_1 := Aside0.mk (Kd.V_drew HO1_1.out)
     replace HO1_2 := Aside0.mk (Kd.V_drew HO1_2.out)
     replace HO106 := Aside0.mk (Kd.N_drew HO106.out)
     replace HO111 := vd HO111
     replace HO114 := vd HO114
     replace HO119 := vd HO119
     replace HO122 := vd HO122
     replace HO127 := vd HO127
     replace HO130 := vd HO130
     replace HO134 := vd HO134
     replace HO137 := vd HO137
     replace HO142 := vd HO142
     replace HO145 := vd HO145
     replace HO150 := vd HO150
     replace HO153 := vd HO153
     replace BK101 := kd BK101
     replace BK102 := kd BK102
     replace BK115 := kd BK115
     replace BK123 := kd BK123
     replace BK146 := kd BK146
     replace HB := bd HB
     refine st (S := fun w' => B3 w' gb101 (.bool a0_0) (.slice A0_1 l0_1.length c0_1) (.slice A0_2 l0_2.length c0_2) ∧ B3 w' gb102 (.bool a1_0) (.slice A1_1 l1_1.length c1_1) (.slice A1_2 l1_2.length c1_2) ∧ B3 w' gb115 (.bool t108) (.slice Ao44 t109.length co44) (.slice Ao45 t112.length co45) ∧ B3 w' gb123 (.bool t116) (.slice Ao53 t117.length co53) (.slice Ao54 t120.length co54)) 43 [] (tf 0 43) ⟨b3 BK101, b3 BK102, b3 BK115, b3 BK123⟩ (fun hHeld => ?_); refine with_tabW flyballlaw03_RatioOrders.tab12 flyballlaw03_RatioOrders.bits12 (fun HT_ HW_ => ?_)
     generalize w79.drew = w80 at HO0_1 HO0_2 HO1_1 HO1_2 HO106 HO111 HO114 HO119 HO122 HO127 HO130 HO134 HO137 HO142 HO145 HO150 HO153 BK101 BK102 BK115 BK123 BK146 HB hHeld ⊢
     refine pu 0 40 (tf 1 42) ?_
     refine pu 1 41 (tf 2 41) ?_
     refine pu 2 42 (tf 3 40) ?_
     refine pu 3 43 (tf 4 39) ?_
     refine pu 4 44 (tf 5 38) ?_
     refine pu 5 45 (tf 6 37) ?_
     refine pu 6 46 (tf 7 36) ?_
     refine pu 7 47 (tf 8 35) ?_
     refine tk 8 48 (tf 9 34) hHeld ?_
     refine tk 9 49 (tf 10 33) hHeld ?_
     refine tk 11 51 #[true, true, true, true, true, true, true, true, true, true, false, true, false, false, false, false, false, false, false, false, false, false, false, false, false, false, false, false, false, false, false, false, false, false, false, false, false, false, false, false, false, false, false] hHeld ?_
     refine tk 12 52 #[true, true, true, true, true, true, true, true, true, true, false, true, true, false, false, false, false, false, false, false, false, false, false, false, false, false, false, false, false, false, false, false, false, false, false, false, false, false, false, false, false, false, false] hHeld ?_
     refine on 10 (some 50) (tf 13 30) (fun K hK => ?_)
     refine gS Try.func58 #[.agg #[.bool a0_0, .slice A0_1 l0_1.length c0_1, .slice A0_2 l0_2.length c0_2], .agg #[.bool a1_0, .slice A1_1 l1_1.length c1_1, .slice A1_2 l1_2.length c1_2]] ?_
     with_reducible refine (ratio_R_Cmp.calls k a0_0 _ _ l0_1 _ _ l0_2 a1_0 _ _ l1_1 _ _ l1_2 t155 _ ?_ ?_ ?_ ?_ ?_ ?_ ?_ ?_ A17.out).mono ?_
     exact cup ((Kd.V_reads' HO0_1.out).2.2)
     exact (Kd.V_reads' HO0_1.out).2.1
     exact cup ((Kd.V_reads' HO0_2.out).2.2)
     exact (Kd.V_reads' HO0_2.out).2.1
     exact cup ((Kd.V_reads' HO1_1.out).2.2)
     exact (Kd.V_reads' HO1_1.out).2.1
     exact cup ((Kd.V_reads' HO1_2.out).2.2)
     exact (Kd.V_reads' HO1_2.out).2.1
     rintro e w81 ⟨rfl, hb⟩
     refine ⟨_, rfl, ?_⟩
     replace HO0_1 := vA HO0_1 hb
     replace HO0_2 := vA HO0_2 hb
     replace HO1_1 := vA HO1_1 hb
     replace HO1_2 := vA HO1_2 hb
     replace HO106 := Aside0.mk (Kd.N_below (by (with_reducible repeat (first | apply Kd.N_alloc | apply Kd.N_drewN | apply Kd.N_drew)); exact HO106.out) hb)
     replace HO111 := vA HO111 hb
     replace HO114 := vA HO114 hb
     replace HO119 := vA HO119 hb
     replace HO122 := vA HO122 hb
     replace HO127 := vA HO127 hb
     replace HO130 := vA HO130 hb
     replace HO134 := vA HO134 hb
     replace HO137 := vA HO137 hb
     replace HO142 := vA HO142 hb
     replace HO145 := vA HO145 hb
     replace HO150 := vA HO150 hb
     replace HO153 := vA HO153 hb
     replace BK101 := kA BK101 hb
     replace BK102 := kA BK102 hb
     replace BK115 := kA BK115 hb
     replace BK123 := kA BK123 hb
     replace BK146 := kA BK146 hb
     replace HB := bS HB hb
     clear hb
     refine hK.out _ _ ⟨b3 BK101, b3 BK102, b3 BK115, b3 BK123⟩ (fun hHeld => nm ?_)
     clear hK K
     refine on 13 (some 53) (tf 14 29) (fun K hK => ?_)
     refine gS Try.func98 #[.agg #[.bool t108, .slice Ao44 t109.length co44, .slice Ao45 t112.length co45], .agg #[.bool t116, .slice Ao53 t117.length co53, .slice Ao54 t120.length co54]] ?_
     with_reducible refine (flyballref03_Cmp.calls k t108 _ _ t109 _ _ t112 t116 _ _ t117 _ _ t120 t156 _ ?_ ?_ ?_ ?_ ?_ ?_ ?_ ?_ A18.out).mono ?_
     exact cup ((Kd.V_reads' HO111.out).2.2)
     exact (Kd.V_reads' HO111.out).2.1
     exact cup ((Kd.V_reads' HO114.out).2.2)
     exact (Kd.V_reads' HO114.out).2.1
     exact cup ((Kd.V_reads' HO119.out).2.2)
     exact (Kd.V_reads' HO119.out).2.1
     exact cup ((Kd.V_reads' HO122.out).2.2)
     exact (Kd.V_reads' HO122.out).2.1
     rintro e w82 ⟨rfl, hb⟩
     refine ⟨_, rfl, ?_⟩
     replace HO0_1 := vA HO0_1 hb
     replace HO0_2 := vA HO0_2 hb
     replace HO1_1 := vA HO1_1 hb
     replace HO1_2 := vA HO1_2 hb
     replace HO106 := Aside0.mk (Kd.N_below (by (with_reducible repeat (first | apply Kd.N_alloc | apply Kd.N_drewN | apply Kd.N_drew)); exact HO106.out) hb)
     replace HO111 := vA HO111 hb
     replace HO114 := vA HO114 hb
     replace HO119 := vA HO119 hb
     replace HO122 := vA HO122 hb
     replace HO127 := vA HO127 hb
     replace HO130 := vA HO130 hb
     replace HO134 := vA HO134 hb
     replace HO137 := vA HO137 hb
     replace HO142 := vA HO142 hb
     replace HO145 := vA HO145 hb
     replace HO150 := vA HO150 hb
     replace HO153 := vA HO153 hb
     replace BK101 := kA BK101 hb
     replace BK102 := kA BK102 hb
     replace BK115 := kA BK115 hb
     replace BK123 := kA BK123 hb
     replace BK146 := kA BK146 hb
     replace HB := bS HB hb
     clear hb
     refine hK.out _ _ ⟨b3 BK101, b3 BK102, b3 BK115, b3 BK123⟩ (fun hHeld => nm ?_)
     clear hK K
     refine pu 14 54 (tf 15 28) ?_
     refine pu 15 55 (tf 16 27) ?_
     refine pu 16 56 (tf 17 26) ?_
     refine tk 17 57 (tf 18 25) hHeld ?_
     refine tk 19 59 #[true, true, true, true, true, true, true, true, true, true, true, true, true, true, true, true, true, true, false, true, false, false, false, false, false, false, false, false, false, false, false, false, false, false, false, false, false, false, false, false, false, false, false] hHeld ?_
     refine on 18 (some 58) (tf 20 23) (fun K hK => ?_)
     refine gS Try.func57 #[.agg #[.bool a0_0, .slice A0_1 l0_1.length c0_1, .slice A0_2 l0_2.length c0_2]] ?_
     with_reducible refine (ratio_R_Sign.calls k a0_0 _ _ l0_1 _ _ l0_2 t157 _ ?_ ?_ ?_ ?_ A20.out).mono ?_
     exact cup ((Kd.V_reads' HO0_1.out).2.2)
     exact (Kd.V_reads' HO0_1.out).2.1
     exact cup ((Kd.V_reads' HO0_2.out).2.2)
     exact (Kd.V_reads' HO0_2.out).2.1
     rintro e w83 ⟨rfl, hb⟩
     refine ⟨_, rfl, ?_⟩
     replace HO0_1 := vA HO0_1 hb
     replace HO0_2 := vA HO0_2 hb
     replace HO1_1 := vA HO1_1 hb
     replace HO1_2 := vA HO1_2 hb
     replace HO106 := Aside0.mk (Kd.N_below (by (with_reducible repeat (first | apply Kd.N_alloc | apply Kd.N_drewN | apply Kd.N_drew)); exact HO106.out) hb)
     replace HO111 := vA HO111 hb
     replace HO114 := vA HO114 hb
     replace HO119 := vA HO119 hb
     replace HO122 := vA HO122 hb
     replace HO127 := vA HO127 hb
     replace HO130 := vA HO130 hb
     replace HO134 := vA HO134 hb
     replace HO137 := vA HO137 hb
     replace HO142 := vA HO142 hb
     replace HO145 := vA HO145 hb
     replace HO150 := vA HO150 hb
     replace HO153 := vA HO153 hb
     replace BK101 := kA BK101 hb
     replace BK102 := kA BK102 hb
     replace BK115 := kA BK115 hb
     replace BK123 := kA BK123 hb
     replace BK146 := kA BK146 hb
     replace HB := bS HB hb
     clear hb
     refine hK.out _ _ ⟨b3 BK101, b3 BK102, b3 BK115, b3 BK123⟩ (fun hHeld => nm ?_)
     clear hK K
     refine on 20 (some 60) (tf 21 22) (fun K hK => ?_)
     refine gS Try.func93 #[.agg #[.bool t108, .slice Ao44 t109.length co44, .slice Ao45 t112.length co45]] ?_
     with_reducible refine (flyballref03_Sign.calls k t108 _ _ t109 _ _ t112 t158 _ ?_ ?_ ?_ ?_ A21.out).mono ?_
     exact cup ((Kd.V_reads' HO111.out).2.2)
     exact (Kd.V_reads' HO111.out).2.1
     exact cup ((Kd.V_reads' HO114.out).2.2)
     exact (Kd.V_reads' HO114.out).2.1
     rintro e w84 ⟨rfl, hb⟩
     refine ⟨_, rfl, ?_⟩
     replace HO0_1 := vA HO0_1 hb
     replace HO0_2 := vA HO0_2 hb
     replace HO1_1 := vA HO1_1 hb
     replace HO1_2 := vA HO1_2 hb
     replace HO106 := Aside0.mk (Kd.N_below (by (with_reducible repeat (first | apply Kd.N_alloc | apply Kd.N_drewN | apply Kd.N_drew)); exact HO106.out) hb)
     replace HO111 := vA HO111 hb
     replace HO114 := vA HO114 hb
     replace HO119 := vA HO119 hb
     replace HO122 := vA HO122 hb
     replace HO127 := vA HO127 hb
     replace HO130 := vA HO130 hb
     replace HO134 := vA HO134 hb
     replace HO137 := vA HO137 hb
     replace HO142 := vA HO142 hb
     replace HO145 := vA HO145 hb
     replace HO150 := vA HO150 hb
     replace HO153 := vA HO153 hb
     replace BK101 := kA BK101 hb
     replace BK102 := kA BK102 hb
     replace BK115 := kA BK115 hb
     replace BK123 := kA BK123 hb
     replace BK146 := kA BK146 hb
     replace HB := bS HB hb
     clear hb
     refine hK.out _ _ ⟨b3 BK101, b3 BK102, b3 BK115, b3 BK123⟩ (fun hHeld => nm ?_)
     clear hK K
     refine pu 21 61 (tf 22 21) ?_
     refine pu 22 62 (tf 23 20) ?_
     refine pu 23 63 (tf 24 19) ?_
     refine pu 26 66 #[true, true, true, true, true, true, true, true, true, true, true, true, true, true, true, true, true, true, true, true, true, true, true, true, false, false, true, false, false, false, false, false, false, false, false, false, false, false, false, false, false, false, false] ?_
     refine pu 29 69 #[true, true, true, true, true, true, true, true, true, true, true, true, true, true, true, true, true, true, true, true, true, true, true, true, false, false, true, false, false, true, false, false, false, false, false, false, false, false, false, false, false, false, false] ?_
     refine tk 24 64 #[true, true, true, true, true, true, true, true, true, true, true, true, true, true, true, true, true, true, true, true, true, true, true, true, true, false, true, false, false, true, false, false, false, false, false, false, false, false, false, false, false, false, false] hHeld ?_
     refine tk 27 67 #[true, true, true, true, true, true, true, true, true, true, true, true, true, true, true, true, true, true, true, true, true, true, true, true, true, false, true, true, false, true, false, false, false, false, false, false, false, false, false, false, false, false, false] hHeld ?_
     refine tk 30 70 #[true, true, true, true, true, true, true, true, true, true, true, true, true, true, true, true, true, true, true, true, true, true, true, true, true, false, true, true, false, true, true, false, false, false, false, false, false, false, false, false, false, false, false] hHeld ?_
     refine on 25 (some 65) #[true, true, true, true, true, true, true, true, true, true, true, true, true, true, true, true, true, true, true, true, true, true, true, true, true, true, true, true, false, true, true, false, false, false, false, false, false, false, false, false, false, false, false] (fun K hK => ?_)
     refine gS Try.func99 #[.agg #[.bool a0_0, .slice A0_1 l0_1.length c0_1, .slice A0_2 l0_2.length c0_2]] ?_
     with_reducible refine (ratio_R_Len.calls k a0_0 _ _ l0_1 _ _ l0_2 t159 _ ?_ ?_ ?_ ?_ A23.out).mono ?_
     exact cup ((Kd.V_reads' HO0_1.out).2.2)
     exact (Kd.V_reads' HO0_1.out).2.1
     exact cup ((Kd.V_reads' HO0_2.out).2.2)
     exact (Kd.V_reads' HO0_2.out).2.1
     rintro e w85 ⟨rfl, hb⟩
     refine ⟨_, rfl, ?_⟩
     replace HO0_1 := vA HO0_1 hb
     replace HO0_2 := vA HO0_2 hb
     replace HO1_1 := vA HO1_1 hb
     replace HO1_2 := vA HO1_2 hb
     replace HO106 := Aside0.mk (Kd.N_below (by (with_reducible repeat (first | apply Kd.N_alloc | apply Kd.N_drewN | apply Kd.N_drew)); exact HO106.out) hb)
     replace HO111 := vA HO111 hb
     replace HO114 := vA HO114 hb
     replace HO119 := vA HO119 hb
     replace HO122 := vA HO122 hb
     replace HO127 := vA HO127 hb
     replace HO130 := vA HO130 hb
     replace HO134 := vA HO134 hb
     replace HO137 := vA HO137 hb
     replace HO142 := vA HO142 hb
     replace HO145 := vA HO145 hb
     replace HO150 := vA HO150 hb
     replace HO153 := vA HO153 hb
     replace BK101 := kA BK101 hb
     replace BK102 := kA BK102 hb
     replace BK115 := kA BK115 hb
     replace BK123 := kA BK123 hb
     replace BK146 := kA BK146 hb
     replace HB := bS HB hb
     clear hb
     refine hK.out _ _ ⟨b3 BK101, b3 BK102, b3 BK115, b3 BK123⟩ (fun hHeld => nm ?_)
     clear hK K
     refine on 28 (some 68) (tf 31 12) (fun K hK => ?_)
     refine gS Try.func53 #[.slice Ao44 t109.length co44] ?_
     with_reducible refine (flyballref01_Len.calls k _ _ t109 t160 _ ?_ ?_ A24.out).mono ?_
     exact cup ((Kd.V_reads' HO111.out).2.2)
     exact (Kd.V_reads' HO111.out).2.1
     rintro e w' ⟨rfl, ⟨nd, rfl⟩⟩
     refine ⟨_, rfl, ?_⟩
     refine hK.out _ _ ⟨b3 BK101, b3 BK102, b3 BK115, b3 BK123⟩ (fun hHeld => nm ?_)
     clear hK K
     refine on 31 (some 71) (tf 32 11) (fun K hK => ?_)
     refine gS Try.func53 #[.slice Ao45 t112.length co45] ?_
     with_reducible refine (flyballref01_Len.calls k _ _ t112 t161 _ ?_ ?_ A25.out).mono ?_
     exact cup ((Kd.V_reads' HO114.out).2.2)
     exact (Kd.V_reads' HO114.out).2.1
     rintro e w' ⟨rfl, ⟨nd, rfl⟩⟩
     refine ⟨_, rfl, ?_⟩
     refine hK.out _ _ ⟨b3 BK101, b3 BK102, b3 BK115, b3 BK123⟩ (fun hHeld => nm ?_)
     clear hK K
     refine pu 32 72 (tf 33 10) ?_
     refine pu 33 73 (tf 34 9) ?_
     refine pu 34 74 (tf 35 8) ?_
     refine pu 35 75 (tf 36 7) ?_
     refine tk 36 76 (tf 37 6) hHeld ?_
     refine tk 38 78 #[true, true, true, true, true, true, true, true, true, true, true, true, true, true, true, true, true, true, true, true, true, true, true, true, true, true, true, true, true, true, true, true, true, true, true, true, true, false, true, false, false, false, false] hHeld ?_
     refine on 37 (some 77) (tf 39 4) (fun K hK => ?_)
     refine gS Try.func100 #[.agg #[.bool a0_0, .slice A0_1 l0_1.length c0_1, .slice A0_2 l0_2.length c0_2]] ?_
     with_reducible refine (ratio_R_Text.calls k a0_0 _ _ l0_1 _ _ l0_2 t162 _ ?_ ?_ ?_ ?_ A27.out).mono ?_
     exact cup ((Kd.V_reads' HO0_1.out).2.2)
     exact (Kd.V_reads' HO0_1.out).2.1
     exact cup ((Kd.V_reads' HO0_2.out).2.2)
     exact (Kd.V_reads' HO0_2.out).2.1
     rintro e w86 ⟨rfl, hb⟩
     refine ⟨_, rfl, ?_⟩
     replace HO0_1 := vA HO0_1 hb
     replace HO0_2 := vA HO0_2 hb
     replace HO1_1 := vA HO1_1 hb
     replace HO1_2 := vA HO1_2 hb
     replace HO106 := Aside0.mk (Kd.N_below (by (with_reducible repeat (first | apply Kd.N_alloc | apply Kd.N_drewN | apply Kd.N_drew)); exact HO106.out) hb)
     replace HO111 := vA HO111 hb
     replace HO114 := vA HO114 hb
     replace HO119 := vA HO119 hb
     replace HO122 := vA HO122 hb
     replace HO127 := vA HO127 hb
     replace HO130 := vA HO130 hb
     replace HO134 := vA HO134 hb
     replace HO137 := vA HO137 hb
     replace HO142 := vA HO142 hb
     replace HO145 := vA HO145 hb
     replace HO150 := vA HO150 hb
     replace HO153 := vA HO153 hb
     replace BK101 := kA BK101 hb
     replace BK102 := kA BK102 hb
     replace BK115 := kA BK115 hb
     replace BK123 := kA BK123 hb
     replace BK146 := kA BK146 hb
     replace HB := bS HB hb
     clear hb
     refine hK.out _ _ ⟨b3 BK101, b3 BK102, b3 BK115, b3 BK123⟩ (fun hHeld => nm ?_)
     clear hK K
     refine on 39 (some 79) (tf 40 3) (fun K hK => ?_)
     refine gS Try.func101 #[.agg #[.bool t108, .slice Ao44 t109.length co44, .slice Ao45 t112.length co45]] ?_
     with_reducible refine (flyballref03_Text.calls k t108 _ _ t109 _ _ t112 t163 _ ?_ ?_ ?_ ?_ A28.out).mono ?_
     exact cup ((Kd.V_reads' HO111.out).2.2)
     exact (Kd.V_reads' HO111.out).2.1
     exact cup ((Kd.V_reads' HO114.out).2.2)
     exact (Kd.V_reads' HO114.out).2.1
     rintro e w87 ⟨rfl, hb⟩
     refine ⟨_, rfl, ?_⟩
     replace HO0_1 := vA HO0_1 hb
     replace HO0_2 := vA HO0_2 hb
     replace HO1_1 := vA HO1_1 hb
     replace HO1_2 := vA HO1_2 hb
     replace HO106 := Aside0.mk (Kd.N_below (by (with_reducible repeat (first | apply Kd.N_alloc | apply Kd.N_drewN | apply Kd.N_drew)); exact HO106.out) hb)
     replace HO111 := vA HO111 hb
     replace HO114 := vA HO114 hb
     replace HO119 := vA HO119 hb
     replace HO122 := vA HO122 hb
     replace HO127 := vA HO127 hb
     replace HO130 := vA HO130 hb
     replace HO134 := vA HO134 hb
     replace HO137 := vA HO137 hb
     replace HO142 := vA HO142 hb
     replace HO145 := vA HO145 hb
     replace HO150 := vA HO150 hb
     replace HO153 := vA HO153 hb
     replace BK101 := kA BK101 hb
     replace BK102 := kA BK102 hb
     replace BK115 := kA BK115 hb
     replace BK123 := kA BK123 hb
     replace BK146 := kA BK146 hb
     replace HB := bS HB hb
     clear hb
     refine hK.out _ _ ⟨b3 BK101, b3 BK102, b3 BK115, b3 BK123⟩ (fun hHeld => nm ?_)
     clear hK K
     refine pu 40 80 (tf 41 2) ?_
     refine pu 41 81 (tf 42 1) ?_
     refine pu 42 4 (tf 43 0) ?_
     refine done_ (done_of HT_.out (by kernel_rfl)) ?_
     try go_wp2
     go_ret
     exact ⟨er, hB⟩
    ·replace c16 := Bool.eq_false_iff.mpr c16
     subst c16
     have H1 : (some false) = some true := by rw [if_neg (show ¬ (false = true) by decide)] at H; first | done | exact H
     clear H
     have H := H1
     clear H1
     exact absurd H (by simp)
   ·replace c15 := Bool.eq_false_iff.mpr c15
    subst c15
    have H1 : (some false) = some true := by rw [if_neg (show ¬ (false = true) by decide)] at H; first | done | exact H
    clear H
    have H := H1
    clear H1
    exact absurd H (by simp)
  ·replace c6 := Bool.eq_false_iff.mpr c6
   subst c6
   have H1 : (some true) = some true := by rw [if_neg (show ¬ (false = true) by decide)] at H; first | done | exact H
   clear H
   have H := H1
   clear H1
   have HT_ := Option.some.inj H
   clear H
   go_enter Try.func20, Try.ntmps20
   go_wp2_with (first | ((with_reducible refine gd 2 rfl ?_); refine bx 2 #[.bool a0_0, .slice A0_1 l0_1.length c0_1, .slice A0_2 l0_2.length c0_2] ?_; intro gb101 hg w359 hbox hb; replace HO0_1 := vE HO0_1 hg hb; replace HO0_2 := vE HO0_2 hg hb; replace HO1_1 := vE HO1_1 hg hb; replace HO1_2 := vE HO1_2 hg hb; have BK101 := Aside0.mk hbox; have GW101 := gB hg HB; have GE101 := gB hg HB; replace HB := bA HB hb; clear hb hbox hg) | ((with_reducible refine gd 3 rfl ?_); refine bx 3 #[.bool a1_0, .slice A1_1 l1_1.length c1_1, .slice A1_2 l1_2.length c1_2] ?_; intro gb102 hg w360 hbox hb; replace HO0_1 := vE HO0_1 hg hb; replace HO0_2 := vE HO0_2 hg hb; replace HO1_1 := vE HO1_1 hg hb; replace HO1_2 := vE HO1_2 hg hb; have BK102 := Aside0.mk hbox; have GW102 := gS' hg HB; have GE102 := gS' hg HB; replace HB := bS HB hb; have NB101_102 := nL hg BK101; have NB102_101 := nR hg BK101; replace BK101 := kA BK101 hb; clear hb hbox hg) | ((with_reducible refine gc 54 rfl ?_); refine gL 12 Try.func54 #[] ?_; (with_reducible refine (flyballlaw03_works.calls k  true _ A3.out).mono ?_); rintro e w361 ⟨rfl, hb⟩; refine ⟨_, rfl, ?_⟩; replace HO0_1 := vA HO0_1 hb; replace HO0_2 := vA HO0_2 hb; replace HO1_1 := vA HO1_1 hb; replace HO1_2 := vA HO1_2 hb; replace BK101 := kA BK101 hb; replace BK102 := kA BK102 hb; replace HB := bS HB hb; clear hb; have hnb362 := NB101_102.out; have hnc362 := NB102_101.out; obtain ⟨⟨hcz363_0, hcz363_1, hcz363_2⟩, hfz363_0, hfz363_1, hfz363_2⟩ := cE BK101; obtain ⟨⟨hcz364_0, hcz364_1, hcz364_2⟩, hfz364_0, hfz364_1, hfz364_2⟩ := cE BK102) | ((with_reducible refine gd 17 rfl ?_); refine Kd.N_lit k69 _ 69 ?hg (N' := 17) ?hd (xs := ([(⟨a0_0, l0_1, l0_2⟩ : S69), (⟨a1_0, l1_1, l1_2⟩ : S69)] : List (S69))) (inner := [.bool a0_0, .slice A0_1 l0_1.length c0_1, .slice A0_2 l0_2.length c0_2, .bool a1_0, .slice A1_1 l1_1.length c1_1, .slice A1_2 l1_2.length c1_2]) (ok := (fun k_ => ((P0_1_ k_ ∨ P0_2_ k_ ∨ P1_1_ k_ ∨ P1_2_ k_) ∨ w.heap.size ≤ k_) ∧ k_ ≠ gb101 ∧ k_ ≠ gb102)) (okp := (fun k_ => ((P0_1_ k_ ∨ P0_2_ k_ ∨ P1_1_ k_ ∨ P1_2_ k_) ∨ w.heap.size ≤ k_) ∧ k_ ≠ gb101 ∧ k_ ≠ gb102)) ?hr ?hp (fun _ hk => hk) ((show ∀ k_, w361.heap.size ≤ k_ → (fun k_ => ((P0_1_ k_ ∨ P0_2_ k_ ∨ P1_1_ k_ ∨ P1_2_ k_) ∨ w.heap.size ≤ k_) ∧ k_ ≠ gb101 ∧ k_ ≠ gb102) k_ from fun k_ hk => ⟨(.inr (Nat.le_trans (below_size hB) hk)), Kd.freshB (kup BK101.out) k_ hk, Kd.freshB (kup BK102.out) k_ hk⟩) _ (Nat.le_refl _)) (Below.refl _ _) (Nat.le_refl _) (by simp) ?_; (case hd => rfl); (case hg => rfl); (case hr => first | (go_simp; done) | (go_simp; rfl)); (case hp => exact (Reps.c3 (show Kd.FK k69 _ _ (⟨a0_0, l0_1, l0_2⟩ : S69) [.bool a0_0, .slice A0_1 l0_1.length c0_1, .slice A0_2 l0_2.length c0_2] from (k69_mkF _ _ (⟨a0_0, l0_1, l0_2⟩ : S69) (Kd.V_reads' (Kd.V_mono (ok' := (fun k_ => ((P0_1_ k_ ∨ P0_2_ k_ ∨ P1_1_ k_ ∨ P1_2_ k_) ∨ w.heap.size ≤ k_) ∧ k_ ≠ gb101 ∧ k_ ≠ gb102)) (HO0_1.out) (fun k_ hk => ⟨hk.1.1, ⟨hk.1.2, hk.2⟩⟩))).2.1 (Kd.V_F (Kd.V_mono (ok' := (fun k_ => ((P0_1_ k_ ∨ P0_2_ k_ ∨ P1_1_ k_ ∨ P1_2_ k_) ∨ w.heap.size ≤ k_) ∧ k_ ≠ gb101 ∧ k_ ≠ gb102)) (HO0_1.out) (fun k_ hk => ⟨hk.1.1, ⟨hk.1.2, hk.2⟩⟩))) (Kd.V_reads' (Kd.V_mono (ok' := (fun k_ => ((P0_1_ k_ ∨ P0_2_ k_ ∨ P1_1_ k_ ∨ P1_2_ k_) ∨ w.heap.size ≤ k_) ∧ k_ ≠ gb101 ∧ k_ ≠ gb102)) (HO0_2.out) (fun k_ hk => ⟨hk.1.1, ⟨hk.1.2, hk.2⟩⟩))).2.1 (Kd.V_F (Kd.V_mono (ok' := (fun k_ => ((P0_1_ k_ ∨ P0_2_ k_ ∨ P1_1_ k_ ∨ P1_2_ k_) ∨ w.heap.size ≤ k_) ∧ k_ ≠ gb101 ∧ k_ ≠ gb102)) (HO0_2.out) (fun k_ hk => ⟨hk.1.1, ⟨hk.1.2, hk.2⟩⟩))))) (Reps.c3 (show Kd.FK k69 _ _ (⟨a1_0, l1_1, l1_2⟩ : S69) [.bool a1_0, .slice A1_1 l1_1.length c1_1, .slice A1_2 l1_2.length c1_2] from (k69_mkF _ _ (⟨a1_0, l1_1, l1_2⟩ : S69) (Kd.V_reads' (Kd.V_mono (ok' := (fun k_ => ((P0_1_ k_ ∨ P0_2_ k_ ∨ P1_1_ k_ ∨ P1_2_ k_) ∨ w.heap.size ≤ k_) ∧ k_ ≠ gb101 ∧ k_ ≠ gb102)) (HO1_1.out) (fun k_ hk => ⟨hk.1.1, ⟨hk.1.2, hk.2⟩⟩))).2.1 (Kd.V_F (Kd.V_mono (ok' := (fun k_ => ((P0_1_ k_ ∨ P0_2_ k_ ∨ P1_1_ k_ ∨ P1_2_ k_) ∨ w.heap.size ≤ k_) ∧ k_ ≠ gb101 ∧ k_ ≠ gb102)) (HO1_1.out) (fun k_ hk => ⟨hk.1.1, ⟨hk.1.2, hk.2⟩⟩))) (Kd.V_reads' (Kd.V_mono (ok' := (fun k_ => ((P0_1_ k_ ∨ P0_2_ k_ ∨ P1_1_ k_ ∨ P1_2_ k_) ∨ w.heap.size ≤ k_) ∧ k_ ≠ gb101 ∧ k_ ≠ gb102)) (HO1_2.out) (fun k_ hk => ⟨hk.1.1, ⟨hk.1.2, hk.2⟩⟩))).2.1 (Kd.V_F (Kd.V_mono (ok' := (fun k_ => ((P0_1_ k_ ∨ P0_2_ k_ ∨ P1_1_ k_ ∨ P1_2_ k_) ∨ w.heap.size ≤ k_) ∧ k_ ≠ gb101 ∧ k_ ≠ gb102)) (HO1_2.out) (fun k_ hk => ⟨hk.1.1, ⟨hk.1.2, hk.2⟩⟩))))) (Reps.none _ _)))); intro v105 w365 ho366 hb hg_ hnew_; clear hg_ hnew_; (first | rw [← Ny104.out] at ho366 | (simp only [Int.reduceToNat] at ho366; rw [← Ny104.out] at ho366)); replace HO0_1 := Aside0.mk (Kd.V_elder' (vup HO0_1.out) (Kd.N_base ho366) hb); replace HO0_2 := Aside0.mk (Kd.V_elder' (vup HO0_2.out) (Kd.N_base ho366) hb); replace HO1_1 := Aside0.mk (Kd.V_elder' (vup HO1_1.out) (Kd.N_base ho366) hb); replace HO1_2 := Aside0.mk (Kd.V_elder' (vup HO1_2.out) (Kd.N_base ho366) hb); have HO106 := Aside0.mk (Kd.N_lower ho366 (below_size hB)); replace BK101 := kA BK101 hb; replace BK102 := kA BK102 hb; replace HB := bS HB hb; clear hb ho366; obtain ⟨Ao367, co367, eo367⟩ := Kd.N_slice HO106.out; subst eo367) | ((with_reducible refine gc 55 rfl ?_); refine gL 18 Try.func55 #[.slice Ao367 y104.length co367] ?_; (with_reducible refine (flyballlaw03_small.calls k _ _ y104 false _ ?_ ?_ A5.out).mono ?_); exact cup ((Kd.N_reads' HO106.out).2.2); exact (Kd.N_reads' HO106.out).2.1; rintro e w' ⟨rfl, ⟨nd, rfl⟩⟩; refine ⟨_, rfl, ?_⟩))
   go_ret
   exact ⟨er, hB⟩
 ·replace c4 := Bool.eq_false_iff.mpr c4
  subst c4
  have H1 : (some false) = some true := by rw [if_neg (show ¬ (false = true) by decide)] at H; first | done | exact H
  clear H
  have H := H1
  clear H1
  exact absurd H (by simp)

end Go.Proofs.Ytagbnkbhobmgjaa.Fn
end
section
/- The chapter's own trial of the numbers. -/
set_option linter.unusedVariables false
namespace Go.Proofs.Ytagbnkbhobmgjaa.Pure
open Go.RowKit Go.Proofs.Ytagbnkbhobmgjaa.Fn Go.Proofs.YtagbnkbhobmgjaaW.PrintWords Go.Proofs.YtagbnkbhobmgjaaW.PrintMore Go.Proofs.YtagbnkbhobmgjaaW.PrintLast
end Go.Proofs.Ytagbnkbhobmgjaa.Pure
end
