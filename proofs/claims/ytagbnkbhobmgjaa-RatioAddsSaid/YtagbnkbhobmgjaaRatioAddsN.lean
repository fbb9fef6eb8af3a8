/- Sums and differences of rational numbers are just what the document says, in lowest terms. Part 14 of 19. -/
import Derived.Test.YtagbnkbhobmgjaaRatioAddsE
import Derived.Test.YtagbnkbhobmgjaaRatioAddsL
import Derived.Test.YtagbnkbhobmgjaaRatioAddsM
import Derived.Test.YtagbnkbhobmgjaaRatioAddsK
import Derived.Test.YtagbnkbhobmgjaaRatioAddsJ
import Derived.Test.YtagbnkbhobmgjaaRatioAddsH
import Derived.Test.YtagbnkbhobmgjaaRatioAddsC
section
-- Written by a program of this session (a turned copy of the kit's printer, and hand-written parts). Not trusted: Lean checks it.
namespace Go.Proofs.Ytagbnkbhobmgjaa.Fn
open Go.RowKit Go.Proofs.YtagbnkbhobmgjaaW.PrintWords Go.Proofs.YtagbnkbhobmgjaaW.PrintLast Go.Proofs.YtagbnkbhobmgjaaW.PrintMore
attribute [local go_sem] max2_int min2_int max_two min_two max_three min_three max_four min_four   -- for this text's walks alone
set_option linter.unusedVariables false
set_option linter.unusedSimpArgs false
/-! ### flyballlaw03_RatioAdds: function 18 -/
def flyballlaw03_RatioAdds.f (k : Nat) (a0_0 : Bool) (l0_1 : List Int) (l0_2 : List Int) (a1_0 : Bool) (l1_1 : List Int) (l1_2 : List Int) : Option (Bool) := (flyballlaw03_works.f k).bind fun t103 => (if t103 = true then ((flyballlaw03_small.f k (([(⟨a0_0, l0_1, l0_2⟩ : S69), (⟨a1_0, l1_1, l1_2⟩ : S69)] : List (S69)))).bind fun t107 => (if t107 = true then ((flyballlaw03_of.f k a0_0 l0_1 l0_2).bind fun bt108 => ((flyballlaw03_of.f k a1_0 l1_1 l1_2).bind fun bt116 => ((ratio_R_Add.f k a0_0 l0_1 l0_2 a1_0 l1_1 l1_2).bind fun bt124 => ((flyballref03_Add.f k bt108.1 bt108.2.1 bt108.2.2 bt116.1 bt116.2.1 bt116.2.2).bind fun bt131 => ((flyballlaw03_is.f k bt124.1 bt124.2.1 bt124.2.2 bt131.1 bt131.2.1 bt131.2.2).bind fun t138 => ((ratio_R_Sub.f k a0_0 l0_1 l0_2 a1_0 l1_1 l1_2).bind fun bt139 => ((flyballref03_Minus.f k bt116.1 bt116.2.1 bt116.2.2).bind fun bt146 => ((flyballref03_Add.f k bt108.1 bt108.2.1 bt108.2.2 bt146.1 bt146.2.1 bt146.2.2).bind fun bt153 => ((flyballlaw03_is.f k bt139.1 bt139.2.1 bt139.2.2 bt153.1 bt153.2.1 bt153.2.2).bind fun t160 => (if t138 = true then (some t160) else (some false))))))))))) else (some t103))) else (some false))
def flyballlaw03_RatioAdds.T9 : Bool × List (List Nat × List Nat) := (true, [([], []), ([], []), ([0, 1], [0, 1]), ([], []), ([], []), ([3, 4, 2], [3, 4]), ([2, 5, 5], [2, 5]), ([6, 6, 0, 1, 2, 3, 4, 5, 6], [6])])
def flyballlaw03_RatioAdds.B9 : List Nat := [0, 0, 3, 0, 0, 31, 63, 127]
theorem flyballlaw03_RatioAdds.tab9 : rtab .any (opsOf Try.f18 9) = flyballlaw03_RatioAdds.T9 := by kernel_rfl
theorem flyballlaw03_RatioAdds.bits9 : waitsOk flyballlaw03_RatioAdds.T9.2 flyballlaw03_RatioAdds.B9 = true := by kernel_rfl
def flyballlaw03_RatioAdds.T10 : Bool × List (List Nat × List Nat) := (true, [([], []), ([], []), ([0, 1], [0, 1]), ([], []), ([], []), ([4, 2], [4]), ([3, 5, 5], [3, 5]), ([2, 6, 6], [2, 6]), ([7, 7, 0, 1, 2, 3, 4, 5, 6, 7], [7])])
def flyballlaw03_RatioAdds.B10 : List Nat := [0, 0, 3, 0, 0, 23, 63, 127, 255]
theorem flyballlaw03_RatioAdds.tab10 : rtab .any (opsOf Try.f18 10) = flyballlaw03_RatioAdds.T10 := by kernel_rfl
theorem flyballlaw03_RatioAdds.bits10 : waitsOk flyballlaw03_RatioAdds.T10.2 flyballlaw03_RatioAdds.B10 = true := by kernel_rfl
set_option maxHeartbeats 8000000 in
set_option maxRecDepth 100000 in
theorem flyballlaw03_RatioAdds.calls (k : Nat) (a0_0 : Bool) (P0_1_ : Nat → Prop) (A0_1 : Option Addr) (c0_1 : Nat) (l0_1 : List Int) (P0_2_ : Nat → Prop) (A0_2 : Option Addr) (c0_2 : Nat) (l0_2 : List Int) (a1_0 : Bool) (P1_1_ : Nat → Prop) (A1_1 : Option Addr) (c1_1 : Nat) (l1_1 : List Int) (P1_2_ : Nat → Prop) (A1_2 : Option Addr) (c1_2 : Nat) (l1_2 : List Int) (w : World) (hs0_1 : Kd.V (Kd.int .u32) 118 w w.heap.size (fun k_ => P0_1_ k_) (.slice A0_1 l0_1.length c0_1) l0_1) (hs0_2 : Kd.V (Kd.int .u32) 118 w w.heap.size (fun k_ => P0_2_ k_) (.slice A0_2 l0_2.length c0_2) l0_2) (hs1_1 : Kd.V (Kd.int .u32) 118 w w.heap.size (fun k_ => P1_1_ k_) (.slice A1_1 l1_1.length c1_1) l1_1) (hs1_2 : Kd.V (Kd.int .u32) 118 w w.heap.size (fun k_ => P1_2_ k_) (.slice A1_2 l1_2.length c1_2) l1_2) (H : flyballlaw03_RatioAdds.f k a0_0 l0_1 l0_2 a1_0 l1_1 l1_2 = some true) :
  Calls Try.prog 18 #[.agg #[.bool a0_0, .slice A0_1 l0_1.length c0_1, .slice A0_2 l0_2.length c0_2], .agg #[.bool a1_0, .slice A1_1 l1_1.length c1_1, .slice A1_2 l1_2.length c1_2]] w fun e w' => e = .returned (.bool true) ∧ Below w.heap.size w w' := by
 have hu69 := Try.underlying69
 have hu92 := Try.underlying92
 have HO0_1 := Aside0.mk (show Kd.V (Kd.int .u32) 118 w w.heap.size (fun k_ => ((P0_1_ k_ ∨ P0_2_ k_ ∨ P1_1_ k_ ∨ P1_2_ k_) ∨ w.heap.size ≤ k_)) (.slice A0_1 l0_1.length c0_1) l0_1 from Kd.V_mono hs0_1 (fun k_ hk => .inl (.inl hk)))
 have HO0_2 := Aside0.mk (show Kd.V (Kd.int .u32) 118 w w.heap.size (fun k_ => ((P0_1_ k_ ∨ P0_2_ k_ ∨ P1_1_ k_ ∨ P1_2_ k_) ∨ w.heap.size ≤ k_)) (.slice A0_2 l0_2.length c0_2) l0_2 from Kd.V_mono hs0_2 (fun k_ hk => .inl (.inr (.inl hk))))
 have HO1_1 := Aside0.mk (show Kd.V (Kd.int .u32) 118 w w.heap.size (fun k_ => ((P0_1_ k_ ∨ P0_2_ k_ ∨ P1_1_ k_ ∨ P1_2_ k_) ∨ w.heap.size ≤ k_)) (.slice A1_1 l1_1.length c1_1) l1_1 from Kd.V_mono hs1_1 (fun k_ hk => .inl (.inr (.inr (.inl hk)))))
 have HO1_2 := Aside0.mk (show Kd.V (Kd.int .u32) 118 w w.heap.size (fun k_ => ((P0_1_ k_ ∨ P0_2_ k_ ∨ P1_1_ k_ ∨ P1_2_ k_) ∨ w.heap.size ≤ k_)) (.slice A1_2 l1_2.length c1_2) l1_2 from Kd.V_mono hs1_2 (fun k_ hk => .inl (.inr (.inr (.inr hk)))))
 have HB := Aside0.mk (Below.refl w.heap.size w)
 unfold flyballlaw03_RatioAdds.f at H
 replace H := bi H
 obtain ⟨t103, A3, H⟩ := H
 by_cases c4 : t103 = true
 ·subst c4
  replace H := ifT H
  obtain ⟨y104, hy104⟩ : ∃ y_ : List (S69), y_ = (([(⟨a0_0, l0_1, l0_2⟩ : S69), (⟨a1_0, l1_1, l1_2⟩ : S69)] : List (S69))) := ⟨_, rfl⟩
  replace H : ((flyballlaw03_small.f k y104).bind fun t107 => (if t107 = true then ((flyballlaw03_of.f k a0_0 l0_1 l0_2).bind fun bt108 => ((flyballlaw03_of.f k a1_0 l1_1 l1_2).bind fun bt116 => ((ratio_R_Add.f k a0_0 l0_1 l0_2 a1_0 l1_1 l1_2).bind fun bt124 => ((flyballref03_Add.f k bt108.1 bt108.2.1 bt108.2.2 bt116.1 bt116.2.1 bt116.2.2).bind fun bt131 => ((flyballlaw03_is.f k bt124.1 bt124.2.1 bt124.2.2 bt131.1 bt131.2.1 bt131.2.2).bind fun t138 => ((ratio_R_Sub.f k a0_0 l0_1 l0_2 a1_0 l1_1 l1_2).bind fun bt139 => ((flyballref03_Minus.f k bt116.1 bt116.2.1 bt116.2.2).bind fun bt146 => ((flyballref03_Add.f k bt108.1 bt108.2.1 bt108.2.2 bt146.1 bt146.2.1 bt146.2.2).bind fun bt153 => ((flyballlaw03_is.f k bt139.1 bt139.2.1 bt139.2.2 bt153.1 bt153.2.1 bt153.2.2).bind fun t160 => (if t138 = true then (some t160) else (some false))))))))))) else (some true))) = some true := by first | (rw [hy104]; with_reducible exact H) | (have H2_ := (Option.bind_some _ _).symm.trans H; rw [hy104]; with_reducible exact H2_) | (have H2_ := (Option.bind_some _ _).symm.trans H; with_reducible exact H2_) | with_reducible exact H | (rw [hy104]; exact H) | exact H
  have Ny104 := Aside0.mk hy104
  clear hy104
  replace H := bi H
  obtain ⟨t107, A5, H⟩ := H
  by_cases c6 : t107 = true
  ·subst c6
   replace H := ifT H
   replace H := bi H
   obtain ⟨⟨t108, t109, t112⟩, A7, H⟩ := H
   try dsimp only at H
   replace H := bi H
   obtain ⟨⟨t116, t117, t120⟩, A8, H⟩ := H
   try dsimp only at H
   replace H := bi H
   obtain ⟨⟨t124, t125, t128⟩, A9, H⟩ := H
   try dsimp only at H
   replace H := bi H
   obtain ⟨⟨t131, t132, t135⟩, A10, H⟩ := H
   try dsimp only at H
   replace H := bi H
   obtain ⟨t138, A11, H⟩ := H
   replace H := bi H
   obtain ⟨⟨t139, t140, t143⟩, A12, H⟩ := H
   try dsimp only at H
   replace H := bi H
   obtain ⟨⟨t146, t147, t150⟩, A13, H⟩ := H
   try dsimp only at H
   replace H := bi H
   obtain ⟨⟨t153, t154, t157⟩, A14, H⟩ := H
   try dsimp only at H
   replace H := bi H
   obtain ⟨t160, A15, H⟩ := H
   by_cases c16 : t138 = true
   ·subst c16
    replace H := ifT H
    have HT_ := Option.some.inj H
    clear H
    go_enter Try.func18, Try.ntmps18
    try go_wp2_with (first | ((with_reducible refine gd 2 rfl ?_); refine bx 2 #[.bool a0_0, .slice A0_1 l0_1.length c0_1, .slice A0_2 l0_2.length c0_2] ?_; intro gb101 hg w17 hbox hb; replace HO0_1 := vE HO0_1 hg hb; replace HO0_2 := vE HO0_2 hg hb; replace HO1_1 := vE HO1_1 hg hb; replace HO1_2 := vE HO1_2 hg hb; have BK101 := Aside0.mk hbox; have GW101 := gB hg HB; have GE101 := gB hg HB; replace HB := bA HB hb; clear hb hbox hg) | ((with_reducible refine gd 3 rfl ?_); refine bx 3 #[.bool a1_0, .slice A1_1 l1_1.length c1_1, .slice A1_2 l1_2.length c1_2] ?_; intro gb102 hg w18 hbox hb; replace HO0_1 := vE HO0_1 hg hb; replace HO0_2 := vE HO0_2 hg hb; replace HO1_1 := vE HO1_1 hg hb; replace HO1_2 := vE HO1_2 hg hb; have BK102 := Aside0.mk hbox; have GW102 := gS' hg HB; have GE102 := gS' hg HB; replace HB := bS HB hb; have NB101_102 := nL hg BK101; have NB102_101 := nR hg BK101; replace BK101 := kA BK101 hb; clear hb hbox hg) | ((with_reducible refine gc 54 rfl ?_); refine gL 11 Try.func54 #[] ?_; (with_reducible refine (flyballlaw03_works.calls k  true _ A3.out).mono ?_); rintro e w19 ⟨rfl, hb⟩; refine ⟨_, rfl, ?_⟩; replace HO0_1 := vA HO0_1 hb; replace HO0_2 := vA HO0_2 hb; replace HO1_1 := vA HO1_1 hb; replace HO1_2 := vA HO1_2 hb; replace BK101 := kA BK101 hb; replace BK102 := kA BK102 hb; replace HB := bS HB hb; clear hb; have hnb20 := NB101_102.out; have hnc20 := NB102_101.out; obtain ⟨⟨hcz21_0, hcz21_1, hcz21_2⟩, hfz21_0, hfz21_1, hfz21_2⟩ := cE BK101; obtain ⟨⟨hcz22_0, hcz22_1, hcz22_2⟩, hfz22_0, hfz22_1, hfz22_2⟩ := cE BK102) | ((with_reducible refine gd 16 rfl ?_); refine Kd.N_lit k69 _ 69 ?hg (N' := 16) ?hd (xs := ([(⟨a0_0, l0_1, l0_2⟩ : S69), (⟨a1_0, l1_1, l1_2⟩ : S69)] : List (S69))) (inner := [.bool a0_0, .slice A0_1 l0_1.length c0_1, .slice A0_2 l0_2.length c0_2, .bool a1_0, .slice A1_1 l1_1.length c1_1, .slice A1_2 l1_2.length c1_2]) (ok := (fun k_ => ((P0_1_ k_ ∨ P0_2_ k_ ∨ P1_1_ k_ ∨ P1_2_ k_) ∨ w.heap.size ≤ k_) ∧ k_ ≠ gb101 ∧ k_ ≠ gb102)) (okp := (fun k_ => ((P0_1_ k_ ∨ P0_2_ k_ ∨ P1_1_ k_ ∨ P1_2_ k_) ∨ w.heap.size ≤ k_) ∧ k_ ≠ gb101 ∧ k_ ≠ gb102)) ?hr ?hp (fun _ hk => hk) ((show ∀ k_, w19.heap.size ≤ k_ → (fun k_ => ((P0_1_ k_ ∨ P0_2_ k_ ∨ P1_1_ k_ ∨ P1_2_ k_) ∨ w.heap.size ≤ k_) ∧ k_ ≠ gb101 ∧ k_ ≠ gb102) k_ from fun k_ hk => ⟨(.inr (Nat.le_trans (below_size hB) hk)), Kd.freshB (kup BK101.out) k_ hk, Kd.freshB (kup BK102.out) k_ hk⟩) _ (Nat.le_refl _)) (Below.refl _ _) (Nat.le_refl _) (by simp) ?_; (case hd => rfl); (case hg => rfl); (case hr => first | (go_simp; done) | (go_simp; rfl)); (case hp => exact (Reps.c3 (show Kd.FK k69 _ _ (⟨a0_0, l0_1, l0_2⟩ : S69) [.bool a0_0, .slice A0_1 l0_1.length c0_1, .slice A0_2 l0_2.length c0_2] from (k69_mkF _ _ (⟨a0_0, l0_1, l0_2⟩ : S69) (Kd.V_reads' (Kd.V_mono (ok' := (fun k_ => ((P0_1_ k_ ∨ P0_2_ k_ ∨ P1_1_ k_ ∨ P1_2_ k_) ∨ w.heap.size ≤ k_) ∧ k_ ≠ gb101 ∧ k_ ≠ gb102)) (HO0_1.out) (fun k_ hk => ⟨hk.1.1, ⟨hk.1.2, hk.2⟩⟩))).2.1 (Kd.V_F (Kd.V_mono (ok' := (fun k_ => ((P0_1_ k_ ∨ P0_2_ k_ ∨ P1_1_ k_ ∨ P1_2_ k_) ∨ w.heap.size ≤ k_) ∧ k_ ≠ gb101 ∧ k_ ≠ gb102)) (HO0_1.out) (fun k_ hk => ⟨hk.1.1, ⟨hk.1.2, hk.2⟩⟩))) (Kd.V_reads' (Kd.V_mono (ok' := (fun k_ => ((P0_1_ k_ ∨ P0_2_ k_ ∨ P1_1_ k_ ∨ P1_2_ k_) ∨ w.heap.size ≤ k_) ∧ k_ ≠ gb101 ∧ k_ ≠ gb102)) (HO0_2.out) (fun k_ hk => ⟨hk.1.1, ⟨hk.1.2, hk.2⟩⟩))).2.1 (Kd.V_F (Kd.V_mono (ok' := (fun k_ => ((P0_1_ k_ ∨ P0_2_ k_ ∨ P1_1_ k_ ∨ P1_2_ k_) ∨ w.heap.size ≤ k_) ∧ k_ ≠ gb101 ∧ k_ ≠ gb102)) (HO0_2.out) (fun k_ hk => ⟨hk.1.1, ⟨hk.1.2, hk.2⟩⟩))))) (Reps.c3 (show Kd.FK k69 _ _ (⟨a1_0, l1_1, l1_2⟩ : S69) [.bool a1_0, .slice A1_1 l1_1.length c1_1, .slice A1_2 l1_2.length c1_2] from (k69_mkF _ _ (⟨a1_0, l1_1, l1_2⟩ : S69) (Kd.V_reads' (Kd.V_mono (ok' := (fun k_ => ((P0_1_ k_ ∨ P0_2_ k_ ∨ P1_1_ k_ ∨ P1_2_ k_) ∨ w.heap.size ≤ k_) ∧ k_ ≠ gb101 ∧ k_ ≠ gb102)) (HO1_1.out) (fun k_ hk => ⟨hk.1.1, ⟨hk.1.2, hk.2⟩⟩))).2.1 (Kd.V_F (Kd.V_mono (ok' := (fun k_ => ((P0_1_ k_ ∨ P0_2_ k_ ∨ P1_1_ k_ ∨ P1_2_ k_) ∨ w.heap.size ≤ k_) ∧ k_ ≠ gb101 ∧ k_ ≠ gb102)) (HO1_1.out) (fun k_ hk => ⟨hk.1.1, ⟨hk.1.2, hk.2⟩⟩))) (Kd.V_reads' (Kd.V_mono (ok' := (fun k_ => ((P0_1_ k_ ∨ P0_2_ k_ ∨ P1_1_ k_ ∨ P1_2_ k_) ∨ w.heap.size ≤ k_) ∧ k_ ≠ gb101 ∧ k_ ≠ gb102)) (HO1_2.out) (fun k_ hk => ⟨hk.1.1, ⟨hk.1.2, hk.2⟩⟩))).2.1 (Kd.V_F (Kd.V_mono (ok' := (fun k_ => ((P0_1_ k_ ∨ P0_2_ k_ ∨ P1_1_ k_ ∨ P1_2_ k_) ∨ w.heap.size ≤ k_) ∧ k_ ≠ gb101 ∧ k_ ≠ gb102)) (HO1_2.out) (fun k_ hk => ⟨hk.1.1, ⟨hk.1.2, hk.2⟩⟩))))) (Reps.none _ _)))); intro v105 w23 ho24 hb hg_ hnew_; clear hg_ hnew_; (first | rw [← Ny104.out] at ho24 | (simp only [Int.reduceToNat] at ho24; rw [← Ny104.out] at ho24)); replace HO0_1 := Aside0.mk (Kd.V_elder' (vup HO0_1.out) (Kd.N_base ho24) hb); replace HO0_2 := Aside0.mk (Kd.V_elder' (vup HO0_2.out) (Kd.N_base ho24) hb); replace HO1_1 := Aside0.mk (Kd.V_elder' (vup HO1_1.out) (Kd.N_base ho24) hb); replace HO1_2 := Aside0.mk (Kd.V_elder' (vup HO1_2.out) (Kd.N_base ho24) hb); have HO106 := Aside0.mk (Kd.N_lower ho24 (below_size hB)); replace BK101 := kA BK101 hb; replace BK102 := kA BK102 hb; replace HB := bS HB hb; clear hb ho24; obtain ⟨Ao25, co25, eo25⟩ := Kd.N_slice HO106.out; subst eo25) | ((with_reducible refine gc 55 rfl ?_); refine gL 17 Try.func55 #[.slice Ao25 y104.length co25] ?_; (with_reducible refine (flyballlaw03_small.calls k _ _ y104 true _ ?_ ?_ A5.out).mono ?_); exact cup ((Kd.N_reads' HO106.out).2.2); exact (Kd.N_reads' HO106.out).2.1; rintro e w' ⟨rfl, ⟨nd, rfl⟩⟩; refine ⟨_, rfl, ?_⟩; (try (rw [drewN_self w23]; generalize hq_ : World.drewN w23 _ = w23; have n0_ : Aside0 (Kd.V (Kd.int .u32) 118 w23 w.heap.size (fun k_ => ((P0_1_ k_ ∨ P0_2_ k_ ∨ P1_1_ k_ ∨ P1_2_ k_) ∨ w.heap.size ≤ k_) ∧ some k_ ≠ (.slice Ao25 y104.length co25 : Value).ownBlock ∧ k_ ≠ gb101 ∧ k_ ≠ gb102) (.slice A0_1 l0_1.length c0_1) l0_1) := ⟨by rw [← hq_]; exact (by (with_reducible repeat (first | apply Kd.V_alloc | apply Kd.V_drewN | apply Kd.V_drew)); exact Kd.V_mono HO0_1.out (fun _ hk => by simp only [hk, and_self, ne_eq, not_false_eq_true]))⟩; have n1_ : Aside0 (Kd.V (Kd.int .u32) 118 w23 w.heap.size (fun k_ => ((P0_1_ k_ ∨ P0_2_ k_ ∨ P1_1_ k_ ∨ P1_2_ k_) ∨ w.heap.size ≤ k_) ∧ some k_ ≠ (.slice Ao25 y104.length co25 : Value).ownBlock ∧ k_ ≠ gb101 ∧ k_ ≠ gb102) (.slice A0_2 l0_2.length c0_2) l0_2) := ⟨by rw [← hq_]; exact (by (with_reducible repeat (first | apply Kd.V_alloc | apply Kd.V_drewN | apply Kd.V_drew)); exact Kd.V_mono HO0_2.out (fun _ hk => by simp only [hk, and_self, ne_eq, not_false_eq_true]))⟩; have n2_ : Aside0 (Kd.N k69 69 w23 w.heap.size (fun k_ => ((P0_1_ k_ ∨ P0_2_ k_ ∨ P1_1_ k_ ∨ P1_2_ k_) ∨ w.heap.size ≤ k_) ∧ k_ ≠ gb101 ∧ k_ ≠ gb102) (.slice Ao25 y104.length co25) y104) := ⟨by rw [← hq_]; exact (by (with_reducible repeat (first | apply Kd.N_alloc | apply Kd.N_drewN | apply Kd.N_drew)); exact HO106.out)⟩; have n3_ : Aside0 (Kd.V (Kd.int .u32) 118 w23 w.heap.size (fun k_ => ((P0_1_ k_ ∨ P0_2_ k_ ∨ P1_1_ k_ ∨ P1_2_ k_) ∨ w.heap.size ≤ k_) ∧ some k_ ≠ (.slice Ao25 y104.length co25 : Value).ownBlock ∧ k_ ≠ gb101 ∧ k_ ≠ gb102) (.slice A1_1 l1_1.length c1_1) l1_1) := ⟨by rw [← hq_]; exact (by (with_reducible repeat (first | apply Kd.V_alloc | apply Kd.V_drewN | apply Kd.V_drew)); exact Kd.V_mono HO1_1.out (fun _ hk => by simp only [hk, and_self, ne_eq, not_false_eq_true]))⟩; have n4_ : Aside0 (Kd.V (Kd.int .u32) 118 w23 w.heap.size (fun k_ => ((P0_1_ k_ ∨ P0_2_ k_ ∨ P1_1_ k_ ∨ P1_2_ k_) ∨ w.heap.size ≤ k_) ∧ some k_ ≠ (.slice Ao25 y104.length co25 : Value).ownBlock ∧ k_ ≠ gb101 ∧ k_ ≠ gb102) (.slice A1_2 l1_2.length c1_2) l1_2) := ⟨by rw [← hq_]; exact (by (with_reducible repeat (first | apply Kd.V_alloc | apply Kd.V_drewN | apply Kd.V_drew)); exact Kd.V_mono HO1_2.out (fun _ hk => by simp only [hk, and_self, ne_eq, not_false_eq_true]))⟩; have n5_ : Aside0 (w23.heap[gb101]? = some (.cells #[.bool a0_0, .slice A0_1 l0_1.length c0_1, .slice A0_2 l0_2.length c0_2] 69 (0, 0))) := ⟨by rw [← hq_]; exact (by exact kU BK101)⟩; have n6_ : Aside0 (w23.heap[gb102]? = some (.cells #[.bool a1_0, .slice A1_1 l1_1.length c1_1, .slice A1_2 l1_2.length c1_2] 69 (0, 0))) := ⟨by rw [← hq_]; exact (by exact kU BK102)⟩; have n7_ : Aside0 (Below w.heap.size w w23) := ⟨by rw [← hq_]; exact hB⟩; clear HO0_1 HO0_2 HO106 HO1_1 HO1_2 BK101 BK102 HB hq_; have HO0_1 := n0_; have HO0_2 := n1_; have HO106 := n2_; have HO1_1 := n3_; have HO1_2 := n4_; have BK101 := n5_; have BK102 := n6_; have HB := n7_; clear n0_ n1_ n2_ n3_ n4_ n5_ n6_ n7_)); obtain ⟨⟨hcz26_0, hcz26_1, hcz26_2⟩, hfz26_0, hfz26_1, hfz26_2⟩ := cE BK101) | ((with_reducible refine gc 84 rfl ?_); refine gL 22 Try.func84 #[.agg #[.bool a0_0, .slice A0_1 l0_1.length c0_1, .slice A0_2 l0_2.length c0_2]] ?_; (with_reducible refine (flyballlaw03_of.calls k a0_0 _ _ l0_1 _ _ l0_2 t108 t109 t112 _ ?_ ?_ ?_ ?_ A7.out).mono ?_); exact cup ((Kd.V_reads' HO0_1.out).2.2); exact (Kd.V_reads' HO0_1.out).2.1; exact cup ((Kd.V_reads' HO0_2.out).2.2); exact (Kd.V_reads' HO0_2.out).2.1; rintro e w27 ⟨v110, v113, rfl, ho0, ho1, hb⟩; refine ⟨_, rfl, ?_⟩; replace HO0_1 := v2 HO0_1 hb ho0 ho1; replace HO0_2 := v2 HO0_2 hb ho0 ho1; replace HO1_1 := v2 HO1_1 hb ho0 ho1; replace HO1_2 := v2 HO1_2 hb ho0 ho1; replace HO106 := Aside0.mk (Kd.N_mono (Kd.N_told (Kd.N_told (Kd.N_old (by (with_reducible repeat (first | apply Kd.N_alloc | apply Kd.N_drewN | apply Kd.N_drew)); exact HO106.out) hb) (Kd.R_base ho0)) (Kd.R_base ho1)) (fun _ h_ => h_.1)); have HO111 := Aside0.mk (Kd.R_lower (Kd.R_newM (M := fun k_ => (w.heap.size ≤ k_)) ho0 (below_size hB) (fun k_ h_ => h_)) (below_size hB)); have HO114 := Aside0.mk (Kd.R_lower (Kd.R_newM (M := fun k_ => (w.heap.size ≤ k_)) ho1 (below_size hB) (fun k_ h_ => h_)) (below_size hB)); replace BK101 := kA BK101 hb; replace BK102 := kA BK102 hb; replace HB := bS HB hb; clear hb ho0 ho1) | ((with_reducible refine gd 7 rfl ?_); refine box_event ?hg (N := 7) ?hd (cs := #[.bool false, .slice none 0 0, .slice none 0 0]) (t := 92) ?hr ?_; (case hd => rfl); (case hg => rfl); (case hr => first | (go_simp; done) | (go_simp; rfl)); intro gb115 hg w28 hbox hb; replace HO0_1 := vE HO0_1 hg hb; replace HO0_2 := vE HO0_2 hg hb; replace HO1_1 := vE HO1_1 hg hb; replace HO1_2 := vE HO1_2 hg hb; replace HO106 := Aside0.mk (Kd.N_below (Kd.N_elderB (by (with_reducible repeat (first | apply Kd.N_alloc | apply Kd.N_drewN | apply Kd.N_drew)); exact HO106.out) gb115 (Nat.le_of_eq hg.symm)) hb); replace HO111 := rA HO111 hb; replace HO114 := rA HO114 hb; have BK115 := Aside0.mk hbox; have GW115 := gS' hg HB; have GE115 := gS' hg HB; replace HB := bS HB hb; have NB101_115 := nL hg BK101; have NB115_101 := nR hg BK101; replace BK101 := kA BK101 hb; have NB102_115 := nL hg BK102; have NB115_102 := nR hg BK102; replace BK102 := kA BK102 hb; clear hb hbox hg; have hnb29 := NB115_101.out; have hnc29 := NB101_115.out; have hnb30 := NB115_102.out; have hnc30 := NB102_115.out; obtain ⟨⟨hcz31_0, hcz31_1, hcz31_2⟩, hfz31_0, hfz31_1, hfz31_2⟩ := cE BK115; obtain ⟨Ao32, co32, eo32⟩ := Kd.R_slice HO111.out; subst eo32; obtain ⟨Ao33, co33, eo33⟩ := Kd.R_slice HO114.out; subst eo33; obtain ⟨⟨hcz34_0, hcz34_1, hcz34_2⟩, hfz34_0, hfz34_1, hfz34_2⟩ := cE BK102) | ((with_reducible refine gc 84 rfl ?_); refine gL 24 Try.func84 #[.agg #[.bool a1_0, .slice A1_1 l1_1.length c1_1, .slice A1_2 l1_2.length c1_2]] ?_; (with_reducible refine (flyballlaw03_of.calls k a1_0 _ _ l1_1 _ _ l1_2 t116 t117 t120 _ ?_ ?_ ?_ ?_ A8.out).mono ?_); (exact (Kd.V_reads' (e := 118) (base := w.heap.size) (n := l1_1.length) (c := c1_1) (vG (v3p HO1_1 (fun _ hk => hk.2)) (fun _ h_ => h_.1))).2.2); exact (Kd.V_reads' HO1_1.out).2.1; (exact (Kd.V_reads' (e := 118) (base := w.heap.size) (n := l1_2.length) (c := c1_2) (vG (v3p HO1_2 (fun _ hk => hk.2)) (fun _ h_ => h_.1))).2.2); exact (Kd.V_reads' HO1_2.out).2.1; rintro e w35 ⟨v118, v121, rfl, ho0, ho1, hb⟩; refine ⟨_, rfl, ?_⟩; replace HO0_1 := Aside0.mk (Kd.V_mono (Kd.V_told (Kd.V_told (Kd.V_old (vG (v3p HO0_1 (fun _ hk => hk.2)) (fun _ h_ => h_.1)) hb) (Kd.R_base ho0)) (Kd.R_base ho1)) (fun _ h_ => h_.1)); replace HO0_2 := Aside0.mk (Kd.V_mono (Kd.V_told (Kd.V_told (Kd.V_old (vG (v3p HO0_2 (fun _ hk => hk.2)) (fun _ h_ => h_.1)) hb) (Kd.R_base ho0)) (Kd.R_base ho1)) (fun _ h_ => h_.1)); replace HO1_1 := Aside0.mk (Kd.V_mono (Kd.V_told (Kd.V_told (Kd.V_old (vG (v3p HO1_1 (fun _ hk => hk.2)) (fun _ h_ => h_.1)) hb) (Kd.R_base ho0)) (Kd.R_base ho1)) (fun _ h_ => h_.1)); replace HO1_2 := Aside0.mk (Kd.V_mono (Kd.V_told (Kd.V_told (Kd.V_old (vG (v3p HO1_2 (fun _ hk => hk.2)) (fun _ h_ => h_.1)) hb) (Kd.R_base ho0)) (Kd.R_base ho1)) (fun _ h_ => h_.1)); replace HO106 := Aside0.mk (Kd.N_mono (Kd.N_told (Kd.N_told (Kd.N_old (by (with_reducible repeat (first | apply Kd.N_alloc | apply Kd.N_drewN | apply Kd.N_drew)); exact (Kd.N_mono (Kd.N_far (p := ⟨gb115, 2, none⟩) (Kd.N_far (p := ⟨gb115, 1, none⟩) (Kd.N_far (p := ⟨gb115, 0, none⟩) (Kd.N_mono HO106.out (fun k_ hk => (⟨hk, hk.2⟩ : _ ∧ k_ ≠ gb115))) (fun _ hk => hk.2) (.bool t108)) (fun _ hk => hk.2) (.slice Ao32 t109.length co32)) (fun _ hk => hk.2) (.slice Ao33 t112.length co33)) (fun _ h_ => h_.1))) hb) (Kd.R_base ho0)) (Kd.R_base ho1)) (fun _ h_ => h_.1)); have HO119 := Aside0.mk (Kd.R_lower (Kd.R_new' (Kd.R_new' (Kd.R_newM (M := fun k_ => (w.heap.size ≤ k_)) ho0 (below_size hB) (fun k_ h_ => h_)) (Kd.R_lt (rG (r3t HO111 BK115) (fun _ h_ => h_.1)))) (Kd.R_lt (rG (r3t HO114 BK115) (fun _ h_ => h_.1)))) (below_size hB)); have HO122 := Aside0.mk (Kd.R_lower (Kd.R_new' (Kd.R_new' (Kd.R_newM (M := fun k_ => (w.heap.size ≤ k_)) ho1 (below_size hB) (fun k_ h_ => h_)) (Kd.R_lt (rG (r3t HO111 BK115) (fun _ h_ => h_.1)))) (Kd.R_lt (rG (r3t HO114 BK115) (fun _ h_ => h_.1)))) (below_size hB)); replace HO111 := Aside0.mk (Kd.R_mono (Kd.R_told (Kd.R_told (Kd.R_old (rG (r3t HO111 BK115) (fun _ h_ => h_.1)) hb) (Kd.R_base ho0)) (Kd.R_base ho1)) (fun _ h_ => h_.1)); replace HO114 := Aside0.mk (Kd.R_mono (Kd.R_told (Kd.R_told (Kd.R_old (rG (r3t HO114 BK115) (fun _ h_ => h_.1)) hb) (Kd.R_base ho0)) (Kd.R_base ho1)) (fun _ h_ => h_.1)); replace BK101 := kB (q3 BK101 NB101_115) hb; replace BK102 := kB (q3 BK102 NB102_115) hb; replace BK115 := kB (p3 BK115) hb; replace HB := bS HB hb; clear hb ho0 ho1) | ((with_reducible refine gd 8 rfl ?_); refine box_event ?hg (N := 8) ?hd (cs := #[.bool false, .slice none 0 0, .slice none 0 0]) (t := 92) ?hr ?_; (case hd => rfl); (case hg => rfl); (case hr => first | (go_simp; done) | (go_simp; rfl)); intro gb123 hg w36 hbox hb; replace HO0_1 := vE HO0_1 hg hb; replace HO0_2 := vE HO0_2 hg hb; replace HO1_1 := vE HO1_1 hg hb; replace HO1_2 := vE HO1_2 hg hb; replace HO106 := Aside0.mk (Kd.N_below (Kd.N_elderB (by (with_reducible repeat (first | apply Kd.N_alloc | apply Kd.N_drewN | apply Kd.N_drew)); exact HO106.out) gb123 (Nat.le_of_eq hg.symm)) hb); replace HO111 := rA HO111 hb; replace HO114 := rA HO114 hb; replace HO119 := rA HO119 hb; replace HO122 := rA HO122 hb; have BK123 := Aside0.mk hbox; have GW123 := gS' hg HB; have GE123 := gS' hg HB; replace HB := bS HB hb; have NB101_123 := nL hg BK101; have NB123_101 := nR hg BK101; replace BK101 := kA BK101 hb; have NB102_123 := nL hg BK102; have NB123_102 := nR hg BK102; replace BK102 := kA BK102 hb; have NB115_123 := nL hg BK115; have NB123_115 := nR hg BK115; replace BK115 := kA BK115 hb; clear hb hbox hg; have hnb37 := NB123_101.out; have hnc37 := NB101_123.out; have hnb38 := NB123_102.out; have hnc38 := NB102_123.out; have hnb39 := NB123_115.out; have hnc39 := NB115_123.out; obtain ⟨⟨hcz40_0, hcz40_1, hcz40_2⟩, hfz40_0, hfz40_1, hfz40_2⟩ := cE BK123; obtain ⟨Ao41, co41, eo41⟩ := Kd.R_slice HO119.out; subst eo41; obtain ⟨Ao42, co42, eo42⟩ := Kd.R_slice HO122.out; subst eo42))
    generalize hw : (((w36.setCell ⟨gb123, 0, none⟩ (.bool t116)).setCell ⟨gb123, 1, none⟩ (.slice Ao41 t117.length co41)).setCell ⟨gb123, 2, none⟩ (.slice Ao42 t120.length co42)) = w43
    replace hw := hw.symm
    replace HO0_1 := vW hw (fun k_ => ((P0_1_ k_ ∨ P0_2_ k_ ∨ P1_1_ k_ ∨ P1_2_ k_) ∨ w.heap.size ≤ k_) ∧ some k_ ≠ (.slice Ao25 y104.length co25 : Value).ownBlock ∧ some k_ ≠ (.slice Ao32 t109.length co32 : Value).ownBlock ∧ some k_ ≠ (.slice Ao33 t112.length co33 : Value).ownBlock ∧ some k_ ≠ (.slice Ao41 t117.length co41 : Value).ownBlock ∧ some k_ ≠ (.slice Ao42 t120.length co42 : Value).ownBlock ∧ k_ ≠ gb101 ∧ k_ ≠ gb102 ∧ k_ ≠ gb115 ∧ k_ ≠ gb123) (v3p HO0_1 (fun _ hk => hk.2)) (fun _ hk => by simp only [hk, and_self, ne_eq, not_false_eq_true])
    replace HO0_2 := vW hw (fun k_ => ((P0_1_ k_ ∨ P0_2_ k_ ∨ P1_1_ k_ ∨ P1_2_ k_) ∨ w.heap.size ≤ k_) ∧ some k_ ≠ (.slice Ao25 y104.length co25 : Value).ownBlock ∧ some k_ ≠ (.slice Ao32 t109.length co32 : Value).ownBlock ∧ some k_ ≠ (.slice Ao33 t112.length co33 : Value).ownBlock ∧ some k_ ≠ (.slice Ao41 t117.length co41 : Value).ownBlock ∧ some k_ ≠ (.slice Ao42 t120.length co42 : Value).ownBlock ∧ k_ ≠ gb101 ∧ k_ ≠ gb102 ∧ k_ ≠ gb115 ∧ k_ ≠ gb123) (v3p HO0_2 (fun _ hk => hk.2)) (fun _ hk => by simp only [hk, and_self, ne_eq, not_false_eq_true])
    replace HO1_1 := vW hw (fun k_ => ((P0_1_ k_ ∨ P0_2_ k_ ∨ P1_1_ k_ ∨ P1_2_ k_) ∨ w.heap.size ≤ k_) ∧ some k_ ≠ (.slice Ao25 y104.length co25 : Value).ownBlock ∧ some k_ ≠ (.slice Ao32 t109.length co32 : Value).ownBlock ∧ some k_ ≠ (.slice Ao33 t112.length co33 : Value).ownBlock ∧ some k_ ≠ (.slice Ao41 t117.length co41 : Value).ownBlock ∧ some k_ ≠ (.slice Ao42 t120.length co42 : Value).ownBlock ∧ k_ ≠ gb101 ∧ k_ ≠ gb102 ∧ k_ ≠ gb115 ∧ k_ ≠ gb123) (v3p HO1_1 (fun _ hk => hk.2)) (fun _ hk => by simp only [hk, and_self, ne_eq, not_false_eq_true])
    replace HO1_2 := vW hw (fun k_ => ((P0_1_ k_ ∨ P0_2_ k_ ∨ P1_1_ k_ ∨ P1_2_ k_) ∨ w.heap.size ≤ k_) ∧ some k_ ≠ (.slice Ao25 y104.length co25 : Value).ownBlock ∧ some k_ ≠ (.slice Ao32 t109.length co32 : Value).ownBlock ∧ some k_ ≠ (.slice Ao33 t112.length co33 : Value).ownBlock ∧ some k_ ≠ (.slice Ao41 t117.length co41 : Value).ownBlock ∧ some k_ ≠ (.slice Ao42 t120.length co42 : Value).ownBlock ∧ k_ ≠ gb101 ∧ k_ ≠ gb102 ∧ k_ ≠ gb115 ∧ k_ ≠ gb123) (v3p HO1_2 (fun _ hk => hk.2)) (fun _ hk => by simp only [hk, and_self, ne_eq, not_false_eq_true])
    replace HO106 : Aside0 (Kd.N k69 69 w43 w.heap.size (fun k_ => ((P0_1_ k_ ∨ P0_2_ k_ ∨ P1_1_ k_ ∨ P1_2_ k_) ∨ w.heap.size ≤ k_) ∧ some k_ ≠ (.slice Ao32 t109.length co32 : Value).ownBlock ∧ some k_ ≠ (.slice Ao33 t112.length co33 : Value).ownBlock ∧ some k_ ≠ (.slice Ao41 t117.length co41 : Value).ownBlock ∧ some k_ ≠ (.slice Ao42 t120.length co42 : Value).ownBlock ∧ k_ ≠ gb101 ∧ k_ ≠ gb102 ∧ k_ ≠ gb115 ∧ k_ ≠ gb123) (.slice Ao25 y104.length co25) y104) := ⟨by rw [hw]; (with_reducible repeat (first | apply Kd.N_alloc | apply Kd.N_drewN | apply Kd.N_drew)); exact Kd.N_mono (Kd.N_far (p := ⟨gb123, 2, none⟩) (Kd.N_far (p := ⟨gb123, 1, none⟩) (Kd.N_far (p := ⟨gb123, 0, none⟩) (Kd.N_mono HO106.out (fun k_ hk => (⟨hk, hk.2⟩ : _ ∧ k_ ≠ gb123))) (fun _ hk => hk.2) (.bool t116)) (fun _ hk => hk.2) (.slice Ao41 t117.length co41)) (fun _ hk => hk.2) (.slice Ao42 t120.length co42)) (fun _ hk => by simp only [hk, and_self, ne_eq, not_false_eq_true])⟩
    replace HO111 := rW hw (fun k_ => (w.heap.size ≤ k_) ∧ some k_ ≠ (.slice Ao33 t112.length co33 : Value).ownBlock ∧ some k_ ≠ (.slice Ao41 t117.length co41 : Value).ownBlock ∧ some k_ ≠ (.slice Ao42 t120.length co42 : Value).ownBlock) (r3t HO111 BK123) (fun _ hk => by simp only [hk, and_self, ne_eq, not_false_eq_true])
    replace HO114 := rW hw (fun k_ => (w.heap.size ≤ k_) ∧ some k_ ≠ (.slice Ao32 t109.length co32 : Value).ownBlock ∧ some k_ ≠ (.slice Ao41 t117.length co41 : Value).ownBlock ∧ some k_ ≠ (.slice Ao42 t120.length co42 : Value).ownBlock) (r3t HO114 BK123) (fun _ hk => by simp only [hk, and_self, ne_eq, not_false_eq_true])
    replace HO119 := rW hw (fun k_ => (w.heap.size ≤ k_) ∧ some k_ ≠ (.slice Ao32 t109.length co32 : Value).ownBlock ∧ some k_ ≠ (.slice Ao33 t112.length co33 : Value).ownBlock ∧ some k_ ≠ (.slice Ao42 t120.length co42 : Value).ownBlock) (r3t HO119 BK123) (fun _ hk => by simp only [hk, and_self, ne_eq, not_false_eq_true])
    replace HO122 := rW hw (fun k_ => (w.heap.size ≤ k_) ∧ some k_ ≠ (.slice Ao32 t109.length co32 : Value).ownBlock ∧ some k_ ≠ (.slice Ao33 t112.length co33 : Value).ownBlock ∧ some k_ ≠ (.slice Ao41 t117.length co41 : Value).ownBlock) (r3t HO122 BK123) (fun _ hk => by simp only [hk, and_self, ne_eq, not_false_eq_true])
    replace BK101 := kW hw (q3 BK101 NB101_123)
    replace BK102 := kW hw (q3 BK102 NB102_123)
    replace BK115 := kW hw (q3 BK115 NB115_123)
    replace BK123 := kW hw (p3 BK123)
    replace HB := bW HB hw
    clear hw
    replace HO0_1 := Aside0.mk (Kd.V_drew HO0_1.out)
    replace HO0_2 := Aside0.mk (Kd.V_drew HO0_2.out)
    replace HO1_1 := Aside0.mk (Kd.V_drew HO1_1.out)
    replace HO1_2 := Aside0.mk (Kd.V_drew HO1_2.out)
    replace HO106 := Aside0.mk (Kd.N_drew HO106.out)
    replace HO111 := Aside0.mk (Kd.R_drew HO111.out)
    replace HO114 := Aside0.mk (Kd.R_drew HO114.out)
    replace HO119 := Aside0.mk (Kd.R_drew HO119.out)
    replace HO122 := Aside0.mk (Kd.R_drew HO122.out)
    replace BK101 := kd BK101
    replace BK102 := kd BK102
    replace BK115 := kd BK115
    replace BK123 := kd BK123
    replace HB := bd HB
    refine st (S := fun w' => B3 w' gb101 (.bool a0_0) (.slice A0_1 l0_1.length c0_1) (.slice A0_2 l0_2.length c0_2) ∧ B3 w' gb102 (.bool a1_0) (.slice A1_1 l1_1.length c1_1) (.slice A1_2 l1_2.length c1_2) ∧ B3 w' gb115 (.bool t108) (.slice Ao32 t109.length co32) (.slice Ao33 t112.length co33) ∧ B3 w' gb123 (.bool t116) (.slice Ao41 t117.length co41) (.slice Ao42 t120.length co42)) 8 [] (tf 0 8) ⟨b3 BK101, b3 BK102, b3 BK115, b3 BK123⟩ (fun hHeld => ?_); refine with_tabW flyballlaw03_RatioAdds.tab9 flyballlaw03_RatioAdds.bits9 (fun HT_ HW_ => ?_)
    generalize w43.drew = w44 at HO0_1 HO0_2 HO1_1 HO1_2 HO106 HO111 HO114 HO119 HO122 BK101 BK102 BK115 BK123 HB hHeld ⊢
    refine tk 0 25 (tf 1 7) hHeld ?_
    refine tk 1 26 (tf 2 6) hHeld ?_
    refine tk 3 28 #[true, true, false, true, false, false, false, false] hHeld ?_
    refine tk 4 29 #[true, true, false, true, true, false, false, false] hHeld ?_
    refine on 2 (some 27) (tf 5 3) (fun K hK => ?_)
    refine gS Try.func86 #[.agg #[.bool a0_0, .slice A0_1 l0_1.length c0_1, .slice A0_2 l0_2.length c0_2], .agg #[.bool a1_0, .slice A1_1 l1_1.length c1_1, .slice A1_2 l1_2.length c1_2]] ?_
    with_reducible refine (ratio_R_Add.calls k a0_0 (fun k_ => (((P0_1_ k_ ∨ P0_2_ k_ ∨ P1_1_ k_ ∨ P1_2_ k_) ∨ w.heap.size ≤ k_) ∧ (some k_ ≠ (.slice Ao25 y104.length co25 : Value).ownBlock ∧ (some k_ ≠ (.slice Ao32 t109.length co32 : Value).ownBlock ∧ (some k_ ≠ (.slice Ao33 t112.length co33 : Value).ownBlock ∧ (some k_ ≠ (.slice Ao41 t117.length co41 : Value).ownBlock ∧ (some k_ ≠ (.slice Ao42 t120.length co42 : Value).ownBlock ∧ (k_ ≠ gb101 ∧ (k_ ≠ gb102 ∧ (k_ ≠ gb115 ∧ k_ ≠ gb123)))))))))) _ _ l0_1 (fun k_ => (((P0_1_ k_ ∨ P0_2_ k_ ∨ P1_1_ k_ ∨ P1_2_ k_) ∨ w.heap.size ≤ k_) ∧ (some k_ ≠ (.slice Ao25 y104.length co25 : Value).ownBlock ∧ (some k_ ≠ (.slice Ao32 t109.length co32 : Value).ownBlock ∧ (some k_ ≠ (.slice Ao33 t112.length co33 : Value).ownBlock ∧ (some k_ ≠ (.slice Ao41 t117.length co41 : Value).ownBlock ∧ (some k_ ≠ (.slice Ao42 t120.length co42 : Value).ownBlock ∧ (k_ ≠ gb101 ∧ (k_ ≠ gb102 ∧ (k_ ≠ gb115 ∧ k_ ≠ gb123)))))))))) _ _ l0_2 a1_0 (fun k_ => (((P0_1_ k_ ∨ P0_2_ k_ ∨ P1_1_ k_ ∨ P1_2_ k_) ∨ w.heap.size ≤ k_) ∧ (some k_ ≠ (.slice Ao25 y104.length co25 : Value).ownBlock ∧ (some k_ ≠ (.slice Ao32 t109.length co32 : Value).ownBlock ∧ (some k_ ≠ (.slice Ao33 t112.length co33 : Value).ownBlock ∧ (some k_ ≠ (.slice Ao41 t117.length co41 : Value).ownBlock ∧ (some k_ ≠ (.slice Ao42 t120.length co42 : Value).ownBlock ∧ (k_ ≠ gb101 ∧ (k_ ≠ gb102 ∧ (k_ ≠ gb115 ∧ k_ ≠ gb123)))))))))) _ _ l1_1 (fun k_ => (((P0_1_ k_ ∨ P0_2_ k_ ∨ P1_1_ k_ ∨ P1_2_ k_) ∨ w.heap.size ≤ k_) ∧ (some k_ ≠ (.slice Ao25 y104.length co25 : Value).ownBlock ∧ (some k_ ≠ (.slice Ao32 t109.length co32 : Value).ownBlock ∧ (some k_ ≠ (.slice Ao33 t112.length co33 : Value).ownBlock ∧ (some k_ ≠ (.slice Ao41 t117.length co41 : Value).ownBlock ∧ (some k_ ≠ (.slice Ao42 t120.length co42 : Value).ownBlock ∧ (k_ ≠ gb101 ∧ (k_ ≠ gb102 ∧ (k_ ≠ gb115 ∧ k_ ≠ gb123)))))))))) _ _ l1_2 t124 t125 t128 _ ?_ ?_ ?_ ?_ A9.out).mono ?_
    exact HO0_1.out
    exact HO0_2.out
    exact HO1_1.out
    exact HO1_2.out
    rintro e w45 ⟨v126, v129, rfl, ho0, ho1, hb⟩
    refine ⟨_, rfl, ?_⟩
    replace HO0_1 := vA HO0_1 hb
    replace HO0_2 := vA HO0_2 hb
    replace HO1_1 := vA HO1_1 hb
    replace HO1_2 := vA HO1_2 hb
    have HO127 := lw HB (fun k_ => ((P0_1_ k_ ∨ P0_2_ k_ ∨ P1_1_ k_ ∨ P1_2_ k_) ∨ w.heap.size ≤ k_) ∧ some k_ ≠ (.slice Ao25 y104.length co25 : Value).ownBlock ∧ some k_ ≠ (.slice Ao32 t109.length co32 : Value).ownBlock ∧ some k_ ≠ (.slice Ao33 t112.length co33 : Value).ownBlock ∧ some k_ ≠ (.slice Ao41 t117.length co41 : Value).ownBlock ∧ some k_ ≠ (.slice Ao42 t120.length co42 : Value).ownBlock ∧ k_ ≠ gb101 ∧ k_ ≠ gb102 ∧ k_ ≠ gb115 ∧ k_ ≠ gb123) ho0 (fun k_ hk_ => Or.elim hk_ (fun hs_ => Or.elim hs_ id (fun hs_ => Or.elim hs_ id (fun hs_ => Or.elim hs_ id id))) (fun hn_ => ⟨.inr (Nat.le_trans (below_size hB) hn_), Kd.fresh' (Kd.N_lt (by (with_reducible repeat (first | apply Kd.N_alloc | apply Kd.N_drewN | apply Kd.N_drew)); exact HO106.out)) k_ hn_, Kd.fresh' (Kd.R_lt (rup HO111.out)) k_ hn_, Kd.fresh' (Kd.R_lt (rup HO114.out)) k_ hn_, Kd.fresh' (Kd.R_lt (rup HO119.out)) k_ hn_, Kd.fresh' (Kd.R_lt (rup HO122.out)) k_ hn_, kF BK101 hn_, kF BK102 hn_, kF BK115 hn_, kF BK123 hn_⟩))
    have HO130 := lw HB (fun k_ => ((P0_1_ k_ ∨ P0_2_ k_ ∨ P1_1_ k_ ∨ P1_2_ k_) ∨ w.heap.size ≤ k_) ∧ some k_ ≠ (.slice Ao25 y104.length co25 : Value).ownBlock ∧ some k_ ≠ (.slice Ao32 t109.length co32 : Value).ownBlock ∧ some k_ ≠ (.slice Ao33 t112.length co33 : Value).ownBlock ∧ some k_ ≠ (.slice Ao41 t117.length co41 : Value).ownBlock ∧ some k_ ≠ (.slice Ao42 t120.length co42 : Value).ownBlock ∧ k_ ≠ gb101 ∧ k_ ≠ gb102 ∧ k_ ≠ gb115 ∧ k_ ≠ gb123) ho1 (fun k_ hk_ => Or.elim hk_ (fun hs_ => Or.elim hs_ id (fun hs_ => Or.elim hs_ id (fun hs_ => Or.elim hs_ id id))) (fun hn_ => ⟨.inr (Nat.le_trans (below_size hB) hn_), Kd.fresh' (Kd.N_lt (by (with_reducible repeat (first | apply Kd.N_alloc | apply Kd.N_drewN | apply Kd.N_drew)); exact HO106.out)) k_ hn_, Kd.fresh' (Kd.R_lt (rup HO111.out)) k_ hn_, Kd.fresh' (Kd.R_lt (rup HO114.out)) k_ hn_, Kd.fresh' (Kd.R_lt (rup HO119.out)) k_ hn_, Kd.fresh' (Kd.R_lt (rup HO122.out)) k_ hn_, kF BK101 hn_, kF BK102 hn_, kF BK115 hn_, kF BK123 hn_⟩))
    replace HO106 := Aside0.mk (Kd.N_below (by (with_reducible repeat (first | apply Kd.N_alloc | apply Kd.N_drewN | apply Kd.N_drew)); exact HO106.out) hb)
    replace HO111 := rA HO111 hb
    replace HO114 := rA HO114 hb
    replace HO119 := rA HO119 hb
    replace HO122 := rA HO122 hb
    replace BK101 := kA BK101 hb
    replace BK102 := kA BK102 hb
    replace BK115 := kA BK115 hb
    replace BK123 := kA BK123 hb
    replace HB := bS HB hb
    clear hb ho0 ho1
    refine hK.out _ _ ⟨b3 BK101, b3 BK102, b3 BK115, b3 BK123⟩ (fun hHeld => nm ?_)
    clear hK K
    refine on 5 (some 30) (tf 6 2) (fun K hK => ?_)
    refine gS Try.func87 #[.agg #[.bool t108, .slice Ao32 t109.length co32, .slice Ao33 t112.length co33], .agg #[.bool t116, .slice Ao41 t117.length co41, .slice Ao42 t120.length co42]] ?_
    with_reducible refine (flyballref03_Add.calls k t108 _ _ t109 _ _ t112 t116 _ _ t117 _ _ t120 t131 t132 t135 _ ?_ ?_ ?_ ?_ ?_ ?_ ?_ ?_ A10.out).mono ?_
    exact cup ((Kd.R_reads' HO111.out).2.2)
    exact (Kd.R_reads' HO111.out).2.1
    exact cup ((Kd.R_reads' HO114.out).2.2)
    exact (Kd.R_reads' HO114.out).2.1
    exact cup ((Kd.R_reads' HO119.out).2.2)
    exact (Kd.R_reads' HO119.out).2.1
    exact cup ((Kd.R_reads' HO122.out).2.2)
    exact (Kd.R_reads' HO122.out).2.1
    rintro e w46 ⟨v133, v136, rfl, ho0, ho1, hb⟩
    refine ⟨_, rfl, ?_⟩
    replace HO0_1 := v2 HO0_1 hb ho0 ho1
    replace HO0_2 := v2 HO0_2 hb ho0 ho1
    replace HO1_1 := v2 HO1_1 hb ho0 ho1
    replace HO1_2 := v2 HO1_2 hb ho0 ho1
    replace HO106 := Aside0.mk (Kd.N_mono (Kd.N_told (Kd.N_told (Kd.N_old (by (with_reducible repeat (first | apply Kd.N_alloc | apply Kd.N_drewN | apply Kd.N_drew)); exact HO106.out) hb) (Kd.R_base ho0)) (Kd.R_base ho1)) (fun _ h_ => h_.1))
    replace HO127 := v2 HO127 hb ho0 ho1
    replace HO130 := v2 HO130 hb ho0 ho1
    have HO134 := Aside0.mk (Kd.R_lower (Kd.R_new' (Kd.R_new' (Kd.R_new' (Kd.R_new' (Kd.R_newM (M := fun k_ => (w.heap.size ≤ k_)) ho0 (below_size hB) (fun k_ h_ => h_)) (Kd.R_lt (rup HO111.out))) (Kd.R_lt (rup HO114.out))) (Kd.R_lt (rup HO119.out))) (Kd.R_lt (rup HO122.out))) (below_size hB))
    have HO137 := Aside0.mk (Kd.R_lower (Kd.R_new' (Kd.R_new' (Kd.R_new' (Kd.R_new' (Kd.R_newM (M := fun k_ => (w.heap.size ≤ k_)) ho1 (below_size hB) (fun k_ h_ => h_)) (Kd.R_lt (rup HO111.out))) (Kd.R_lt (rup HO114.out))) (Kd.R_lt (rup HO119.out))) (Kd.R_lt (rup HO122.out))) (below_size hB))
    replace HO111 := r2 HO111 hb ho0 ho1
    replace HO114 := r2 HO114 hb ho0 ho1
    replace HO119 := r2 HO119 hb ho0 ho1
    replace HO122 := r2 HO122 hb ho0 ho1
    replace BK101 := kA BK101 hb
    replace BK102 := kA BK102 hb
    replace BK115 := kA BK115 hb
    replace BK123 := kA BK123 hb
    replace HB := bS HB hb
    clear hb ho0 ho1
    obtain ⟨Ao47, co47, eo47⟩ := Kd.V_slice HO127.out
    (first | subst eo47 | (injection eo47 with f1_ f2_ f3_; have f4_ := f1_.symm; have f5_ := f3_.symm; clear f1_ f2_ f3_; subst f4_; subst f5_))
    obtain ⟨Ao48, co48, eo48⟩ := Kd.V_slice HO130.out
    (first | subst eo48 | (injection eo48 with f1_ f2_ f3_; have f4_ := f1_.symm; have f5_ := f3_.symm; clear f1_ f2_ f3_; subst f4_; subst f5_))
    obtain ⟨Ao49, co49, eo49⟩ := Kd.R_slice HO134.out
    (first | subst eo49 | (injection eo49 with f1_ f2_ f3_; have f4_ := f1_.symm; have f5_ := f3_.symm; clear f1_ f2_ f3_; subst f4_; subst f5_))
    obtain ⟨Ao50, co50, eo50⟩ := Kd.R_slice HO137.out
    (first | subst eo50 | (injection eo50 with f1_ f2_ f3_; have f4_ := f1_.symm; have f5_ := f3_.symm; clear f1_ f2_ f3_; subst f4_; subst f5_))
    refine hK.out _ _ ⟨b3 BK101, b3 BK102, b3 BK115, b3 BK123⟩ (fun hHeld => nm ?_)
    clear hK K
    refine on 6 (some 31) (tf 7 1) (fun K hK => ?_)
    refine gS Try.func85 #[.agg #[.bool t124, .slice Ao47 t125.length co47, .slice Ao48 t128.length co48], .agg #[.bool t131, .slice Ao49 t132.length co49, .slice Ao50 t135.length co50]] ?_
    with_reducible refine (flyballlaw03_is.calls k t124 _ _ t125 _ _ t128 t131 _ _ t132 _ _ t135 true _ ?_ ?_ ?_ ?_ ?_ ?_ ?_ ?_ A11.out).mono ?_
    exact cup ((Kd.V_reads' HO127.out).2.2)
    exact (Kd.V_reads' HO127.out).2.1
    exact cup ((Kd.V_reads' HO130.out).2.2)
    exact (Kd.V_reads' HO130.out).2.1
    exact cup ((Kd.R_reads' HO134.out).2.2)
    exact (Kd.R_reads' HO134.out).2.1
    exact cup ((Kd.R_reads' HO137.out).2.2)
    exact (Kd.R_reads' HO137.out).2.1
    rintro e w51 ⟨rfl, hb⟩
    refine ⟨_, rfl, ?_⟩
    replace HO0_1 := vA HO0_1 hb
    replace HO0_2 := vA HO0_2 hb
    replace HO1_1 := vA HO1_1 hb
    replace HO1_2 := vA HO1_2 hb
    replace HO106 := Aside0.mk (Kd.N_below (by (with_reducible repeat (first | apply Kd.N_alloc | apply Kd.N_drewN | apply Kd.N_drew)); exact HO106.out) hb)
    replace HO111 := rA HO111 hb
    replace HO114 := rA HO114 hb
    replace HO119 := rA HO119 hb
    replace HO122 := rA HO122 hb
    replace HO127 := vA HO127 hb
    replace HO130 := vA HO130 hb
    replace HO134 := rA HO134 hb
    replace HO137 := rA HO137 hb
    replace BK101 := kA BK101 hb
    replace BK102 := kA BK102 hb
    replace BK115 := kA BK115 hb
    replace BK123 := kA BK123 hb
    replace HB := bS HB hb
    clear hb
    refine hK.out _ _ ⟨b3 BK101, b3 BK102, b3 BK115, b3 BK123⟩ (fun hHeld => nm ?_)
    clear hK K
    refine pu 7 9 (tf 8 0) ?_
    refine done_ (done_of HT_.out (by kernel_rfl)) ?_
    try go_wp2
    replace HO0_1 := Aside0.mk (Kd.V_drew HO0_1.out)
    replace HO0_2 := Aside0.mk (Kd.V_drew HO0_2.out)
    replace HO1_1 := Aside0.mk (Kd.V_drew HO1_1.out)
    replace HO1_2 := Aside0.mk (Kd.V_drew HO1_2.out)
    replace HO106 := Aside0.mk (Kd.N_drew HO106.out)
    replace HO111 := Aside0.mk (Kd.R_drew HO111.out)
    replace HO114 := Aside0.mk (Kd.R_drew HO114.out)
    replace HO119 := Aside0.mk (Kd.R_drew HO119.out)
    replace HO122 := Aside0.mk (Kd.R_drew HO122.out)
    replace HO127 := vd HO127
    replace HO130 := vd HO130
    replace HO134 := Aside0.mk (Kd.R_drew HO134.out)
    replace HO137 := Aside0.mk (Kd.R_drew HO137.out)
    replace BK101 := kd BK101
    replace BK102 := kd BK102
    replace BK115 := kd BK115
    replace BK123 := kd BK123
    replace HB := bd HB
    refine st (S := fun w' => B3 w' gb101 (.bool a0_0) (.slice A0_1 l0_1.length c0_1) (.slice A0_2 l0_2.length c0_2) ∧ B3 w' gb102 (.bool a1_0) (.slice A1_1 l1_1.length c1_1) (.slice A1_2 l1_2.length c1_2) ∧ B3 w' gb115 (.bool t108) (.slice Ao32 t109.length co32) (.slice Ao33 t112.length co33) ∧ B3 w' gb123 (.bool t116) (.slice Ao41 t117.length co41) (.slice Ao42 t120.length co42)) 9 [] (tf 0 9) ⟨b3 BK101, b3 BK102, b3 BK115, b3 BK123⟩ (fun hHeld => ?_); refine with_tabW flyballlaw03_RatioAdds.tab10 flyballlaw03_RatioAdds.bits10 (fun HT_ HW_ => ?_)
    generalize w51.drew = w52 at HO0_1 HO0_2 HO1_1 HO1_2 HO106 HO111 HO114 HO119 HO122 HO127 HO130 HO134 HO137 BK101 BK102 BK115 BK123 HB hHeld ⊢
    refine tk 0 32 (tf 1 8) hHeld ?_
    refine tk 1 33 (tf 2 7) hHeld ?_
    refine tk 3 35 #[true, true, false, true, false, false, false, false, false] hHeld ?_
    refine tk 4 36 #[true, true, false, true, true, false, false, false, false] hHeld ?_
    refine on 2 (some 34) (tf 5 4) (fun K hK => ?_)
    refine gS Try.func88 #[.agg #[.bool a0_0, .slice A0_1 l0_1.length c0_1, .slice A0_2 l0_2.length c0_2], .agg #[.bool a1_0, .slice A1_1 l1_1.length c1_1, .slice A1_2 l1_2.length c1_2]] ?_
    with_reducible refine (ratio_R_Sub.calls k a0_0 (fun k_ => (((((P0_1_ k_ ∨ P0_2_ k_ ∨ P1_1_ k_ ∨ P1_2_ k_) ∨ w.heap.size ≤ k_) ∧ (some k_ ≠ (.slice Ao25 y104.length co25 : Value).ownBlock ∧ (some k_ ≠ (.slice Ao32 t109.length co32 : Value).ownBlock ∧ (some k_ ≠ (.slice Ao33 t112.length co33 : Value).ownBlock ∧ (some k_ ≠ (.slice Ao41 t117.length co41 : Value).ownBlock ∧ (some k_ ≠ (.slice Ao42 t120.length co42 : Value).ownBlock ∧ (k_ ≠ gb101 ∧ (k_ ≠ gb102 ∧ (k_ ≠ gb115 ∧ k_ ≠ gb123))))))))) ∧ some k_ ≠ (.slice Ao49 t132.length co49 : Value).ownBlock) ∧ some k_ ≠ (.slice Ao50 t135.length co50 : Value).ownBlock)) _ _ l0_1 (fun k_ => (((((P0_1_ k_ ∨ P0_2_ k_ ∨ P1_1_ k_ ∨ P1_2_ k_) ∨ w.heap.size ≤ k_) ∧ (some k_ ≠ (.slice Ao25 y104.length co25 : Value).ownBlock ∧ (some k_ ≠ (.slice Ao32 t109.length co32 : Value).ownBlock ∧ (some k_ ≠ (.slice Ao33 t112.length co33 : Value).ownBlock ∧ (some k_ ≠ (.slice Ao41 t117.length co41 : Value).ownBlock ∧ (some k_ ≠ (.slice Ao42 t120.length co42 : Value).ownBlock ∧ (k_ ≠ gb101 ∧ (k_ ≠ gb102 ∧ (k_ ≠ gb115 ∧ k_ ≠ gb123))))))))) ∧ some k_ ≠ (.slice Ao49 t132.length co49 : Value).ownBlock) ∧ some k_ ≠ (.slice Ao50 t135.length co50 : Value).ownBlock)) _ _ l0_2 a1_0 (fun k_ => (((((P0_1_ k_ ∨ P0_2_ k_ ∨ P1_1_ k_ ∨ P1_2_ k_) ∨ w.heap.size ≤ k_) ∧ (some k_ ≠ (.slice Ao25 y104.length co25 : Value).ownBlock ∧ (some k_ ≠ (.slice Ao32 t109.length co32 : Value).ownBlock ∧ (some k_ ≠ (.slice Ao33 t112.length co33 : Value).ownBlock ∧ (some k_ ≠ (.slice Ao41 t117.length co41 : Value).ownBlock ∧ (some k_ ≠ (.slice Ao42 t120.length co42 : Value).ownBlock ∧ (k_ ≠ gb101 ∧ (k_ ≠ gb102 ∧ (k_ ≠ gb115 ∧ k_ ≠ gb123))))))))) ∧ some k_ ≠ (.slice Ao49 t132.length co49 : Value).ownBlock) ∧ some k_ ≠ (.slice Ao50 t135.length co50 : Value).ownBlock)) _ _ l1_1 (fun k_ => (((((P0_1_ k_ ∨ P0_2_ k_ ∨ P1_1_ k_ ∨ P1_2_ k_) ∨ w.heap.size ≤ k_) ∧ (some k_ ≠ (.slice Ao25 y104.length co25 : Value).ownBlock ∧ (some k_ ≠ (.slice Ao32 t109.length co32 : Value).ownBlock ∧ (some k_ ≠ (.slice Ao33 t112.length co33 : Value).ownBlock ∧ (some k_ ≠ (.slice Ao41 t117.length co41 : Value).ownBlock ∧ (some k_ ≠ (.slice Ao42 t120.length co42 : Value).ownBlock ∧ (k_ ≠ gb101 ∧ (k_ ≠ gb102 ∧ (k_ ≠ gb115 ∧ k_ ≠ gb123))))))))) ∧ some k_ ≠ (.slice Ao49 t132.length co49 : Value).ownBlock) ∧ some k_ ≠ (.slice Ao50 t135.length co50 : Value).ownBlock)) _ _ l1_2 t139 t140 t143 _ ?_ ?_ ?_ ?_ A12.out).mono ?_
    exact HO0_1.out
    exact HO0_2.out
    exact HO1_1.out
    exact HO1_2.out
    rintro e w53 ⟨v141, v144, rfl, ho0, ho1, hb⟩
    refine ⟨_, rfl, ?_⟩
    replace HO0_1 := vA HO0_1 hb
    replace HO0_2 := vA HO0_2 hb
    replace HO1_1 := vA HO1_1 hb
    replace HO1_2 := vA HO1_2 hb
    replace HO127 := vA HO127 hb
    replace HO130 := vA HO130 hb
    have HO142 := lw HB (fun k_ => ((P0_1_ k_ ∨ P0_2_ k_ ∨ P1_1_ k_ ∨ P1_2_ k_) ∨ w.heap.size ≤ k_) ∧ some k_ ≠ (.slice Ao25 y104.length co25 : Value).ownBlock ∧ some k_ ≠ (.slice Ao32 t109.length co32 : Value).ownBlock ∧ some k_ ≠ (.slice Ao33 t112.length co33 : Value).ownBlock ∧ some k_ ≠ (.slice Ao41 t117.length co41 : Value).ownBlock ∧ some k_ ≠ (.slice Ao42 t120.length co42 : Value).ownBlock ∧ some k_ ≠ (.slice Ao49 t132.length co49 : Value).ownBlock ∧ some k_ ≠ (.slice Ao50 t135.length co50 : Value).ownBlock ∧ k_ ≠ gb101 ∧ k_ ≠ gb102 ∧ k_ ≠ gb115 ∧ k_ ≠ gb123) ho0 (fun k_ hk_ => Or.elim hk_ (fun hs_ => Or.elim hs_ (fun hs_ => ⟨hs_.1.1.1, hs_.1.1.2.1, hs_.1.1.2.2.1, hs_.1.1.2.2.2.1, hs_.1.1.2.2.2.2.1, hs_.1.1.2.2.2.2.2.1, hs_.1.2, hs_.2, hs_.1.1.2.2.2.2.2.2.1, hs_.1.1.2.2.2.2.2.2.2.1, hs_.1.1.2.2.2.2.2.2.2.2.1, hs_.1.1.2.2.2.2.2.2.2.2.2⟩) (fun hs_ => Or.elim hs_ (fun hs_ => ⟨hs_.1.1.1, hs_.1.1.2.1, hs_.1.1.2.2.1, hs_.1.1.2.2.2.1, hs_.1.1.2.2.2.2.1, hs_.1.1.2.2.2.2.2.1, hs_.1.2, hs_.2, hs_.1.1.2.2.2.2.2.2.1, hs_.1.1.2.2.2.2.2.2.2.1, hs_.1.1.2.2.2.2.2.2.2.2.1, hs_.1.1.2.2.2.2.2.2.2.2.2⟩) (fun hs_ => Or.elim hs_ (fun hs_ => ⟨hs_.1.1.1, hs_.1.1.2.1, hs_.1.1.2.2.1, hs_.1.1.2.2.2.1, hs_.1.1.2.2.2.2.1, hs_.1.1.2.2.2.2.2.1, hs_.1.2, hs_.2, hs_.1.1.2.2.2.2.2.2.1, hs_.1.1.2.2.2.2.2.2.2.1, hs_.1.1.2.2.2.2.2.2.2.2.1, hs_.1.1.2.2.2.2.2.2.2.2.2⟩) (fun hs_ => ⟨hs_.1.1.1, hs_.1.1.2.1, hs_.1.1.2.2.1, hs_.1.1.2.2.2.1, hs_.1.1.2.2.2.2.1, hs_.1.1.2.2.2.2.2.1, hs_.1.2, hs_.2, hs_.1.1.2.2.2.2.2.2.1, hs_.1.1.2.2.2.2.2.2.2.1, hs_.1.1.2.2.2.2.2.2.2.2.1, hs_.1.1.2.2.2.2.2.2.2.2.2⟩)))) (fun hn_ => ⟨.inr (Nat.le_trans (below_size hB) hn_), Kd.fresh' (Kd.N_lt (by (with_reducible repeat (first | apply Kd.N_alloc | apply Kd.N_drewN | apply Kd.N_drew)); exact HO106.out)) k_ hn_, Kd.fresh' (Kd.R_lt (rup HO111.out)) k_ hn_, Kd.fresh' (Kd.R_lt (rup HO114.out)) k_ hn_, Kd.fresh' (Kd.R_lt (rup HO119.out)) k_ hn_, Kd.fresh' (Kd.R_lt (rup HO122.out)) k_ hn_, Kd.fresh' (Kd.R_lt (rup HO134.out)) k_ hn_, Kd.fresh' (Kd.R_lt (rup HO137.out)) k_ hn_, kF BK101 hn_, kF BK102 hn_, kF BK115 hn_, kF BK123 hn_⟩))
    have HO145 := lw HB (fun k_ => ((P0_1_ k_ ∨ P0_2_ k_ ∨ P1_1_ k_ ∨ P1_2_ k_) ∨ w.heap.size ≤ k_) ∧ some k_ ≠ (.slice Ao25 y104.length co25 : Value).ownBlock ∧ some k_ ≠ (.slice Ao32 t109.length co32 : Value).ownBlock ∧ some k_ ≠ (.slice Ao33 t112.length co33 : Value).ownBlock ∧ some k_ ≠ (.slice Ao41 t117.length co41 : Value).ownBlock ∧ some k_ ≠ (.slice Ao42 t120.length co42 : Value).ownBlock ∧ some k_ ≠ (.slice Ao49 t132.length co49 : Value).ownBlock ∧ some k_ ≠ (.slice Ao50 t135.length co50 : Value).ownBlock ∧ k_ ≠ gb101 ∧ k_ ≠ gb102 ∧ k_ ≠ gb115 ∧ k_ ≠ gb123) ho1 (fun k_ hk_ => Or.elim hk_ (fun hs_ => Or.elim hs_ (fun hs_ => ⟨hs_.1.1.1, hs_.1.1.2.1, hs_.1.1.2.2.1, hs_.1.1.2.2.2.1, hs_.1.1.2.2.2.2.1, hs_.1.1.2.2.2.2.2.1, hs_.1.2, hs_.2, hs_.1.1.2.2.2.2.2.2.1, hs_.1.1.2.2.2.2.2.2.2.1, hs_.1.1.2.2.2.2.2.2.2.2.1, hs_.1.1.2.2.2.2.2.2.2.2.2⟩) (fun hs_ => Or.elim hs_ (fun hs_ => ⟨hs_.1.1.1, hs_.1.1.2.1, hs_.1.1.2.2.1, hs_.1.1.2.2.2.1, hs_.1.1.2.2.2.2.1, hs_.1.1.2.2.2.2.2.1, hs_.1.2, hs_.2, hs_.1.1.2.2.2.2.2.2.1, hs_.1.1.2.2.2.2.2.2.2.1, hs_.1.1.2.2.2.2.2.2.2.2.1, hs_.1.1.2.2.2.2.2.2.2.2.2⟩) (fun hs_ => Or.elim hs_ (fun hs_ => ⟨hs_.1.1.1, hs_.1.1.2.1, hs_.1.1.2.2.1, hs_.1.1.2.2.2.1, hs_.1.1.2.2.2.2.1, hs_.1.1.2.2.2.2.2.1, hs_.1.2, hs_.2, hs_.1.1.2.2.2.2.2.2.1, hs_.1.1.2.2.2.2.2.2.2.1, hs_.1.1.2.2.2.2.2.2.2.2.1, hs_.1.1.2.2.2.2.2.2.2.2.2⟩) (fun hs_ => ⟨hs_.1.1.1, hs_.1.1.2.1, hs_.1.1.2.2.1, hs_.1.1.2.2.2.1, hs_.1.1.2.2.2.2.1, hs_.1.1.2.2.2.2.2.1, hs_.1.2, hs_.2, hs_.1.1.2.2.2.2.2.2.1, hs_.1.1.2.2.2.2.2.2.2.1, hs_.1.1.2.2.2.2.2.2.2.2.1, hs_.1.1.2.2.2.2.2.2.2.2.2⟩)))) (fun hn_ => ⟨.inr (Nat.le_trans (below_size hB) hn_), Kd.fresh' (Kd.N_lt (by (with_reducible repeat (first | apply Kd.N_alloc | apply Kd.N_drewN | apply Kd.N_drew)); exact HO106.out)) k_ hn_, Kd.fresh' (Kd.R_lt (rup HO111.out)) k_ hn_, Kd.fresh' (Kd.R_lt (rup HO114.out)) k_ hn_, Kd.fresh' (Kd.R_lt (rup HO119.out)) k_ hn_, Kd.fresh' (Kd.R_lt (rup HO122.out)) k_ hn_, Kd.fresh' (Kd.R_lt (rup HO134.out)) k_ hn_, Kd.fresh' (Kd.R_lt (rup HO137.out)) k_ hn_, kF BK101 hn_, kF BK102 hn_, kF BK115 hn_, kF BK123 hn_⟩))
    replace HO106 := Aside0.mk (Kd.N_below (by (with_reducible repeat (first | apply Kd.N_alloc | apply Kd.N_drewN | apply Kd.N_drew)); exact HO106.out) hb)
    replace HO111 := rA HO111 hb
    replace HO114 := rA HO114 hb
    replace HO119 := rA HO119 hb
    replace HO122 := rA HO122 hb
    replace HO134 := rA HO134 hb
    replace HO137 := rA HO137 hb
    replace BK101 := kA BK101 hb
    replace BK102 := kA BK102 hb
    replace BK115 := kA BK115 hb
    replace BK123 := kA BK123 hb
    replace HB := bS HB hb
    clear hb ho0 ho1
    refine hK.out _ _ ⟨b3 BK101, b3 BK102, b3 BK115, b3 BK123⟩ (fun hHeld => nm ?_)
    clear hK K
    refine on 5 (some 37) (tf 6 3) (fun K hK => ?_)
    refine gS Try.func89 #[.agg #[.bool t116, .slice Ao41 t117.length co41, .slice Ao42 t120.length co42]] ?_
    with_reducible refine (flyballref03_Minus.calls k t116 (fun k_ => some k_ = (.slice Ao41 t117.length co41 : Value).ownBlock) (.slice Ao41 t117.length co41) t117 (fun k_ => some k_ = (.slice Ao42 t120.length co42 : Value).ownBlock) (.slice Ao42 t120.length co42) t120 t146 t147 t150 w _ ?_ ?_ ?_ ?_ ?_ A13.out).mono ?_
    (repeat (first | (with_reducible first | exact HB.out | apply below_alloc | apply pw_below_drewN | apply below_drew1 | refine below_set ?_ GE101.out | refine below_set ?_ GE102.out | refine below_set ?_ GE115.out | refine below_set ?_ GE123.out) | exact HB.out))
    exact Kd.R_tight rfl HO119.out
    exact fun k_ e_ => (HO119.out.1 k_ e_.symm).1.1.2.2.2
    exact Kd.R_tight rfl HO122.out
    exact fun k_ e_ => (HO122.out.1 k_ e_.symm).1.1.2.2.2
    rintro e w54 ⟨v148, v151, rfl, ho0, ho1, hb, hkp⟩
    refine ⟨_, rfl, ?_⟩
    replace HO0_1 := Aside0.mk (Kd.V_mono (ok' := fun k_ => ((P0_1_ k_ ∨ P0_2_ k_ ∨ P1_1_ k_ ∨ P1_2_ k_) ∨ w.heap.size ≤ k_) ∧ some k_ ≠ (.slice Ao25 y104.length co25 : Value).ownBlock ∧ some k_ ≠ (.slice Ao32 t109.length co32 : Value).ownBlock ∧ some k_ ≠ (.slice Ao33 t112.length co33 : Value).ownBlock ∧ some k_ ≠ (.slice Ao49 t132.length co49 : Value).ownBlock ∧ some k_ ≠ (.slice Ao50 t135.length co50 : Value).ownBlock ∧ k_ ≠ gb101 ∧ k_ ≠ gb102 ∧ k_ ≠ gb115 ∧ k_ ≠ gb123 ∧ some k_ ≠ (v148 : Value).ownBlock ∧ some k_ ≠ (v151 : Value).ownBlock) (Kd.V_keptB (HO0_1.out) hkp (fun k_ hk_ hs_ => Or.elim hs_ (fun e_ => (hk_.1.1.2.2.2.2.1) e_) (fun e_ => (hk_.1.1.2.2.2.2.2.1) e_))) (fun k_ hk_ => ⟨hk_.1.1.1.1, hk_.1.1.1.2.1, hk_.1.1.1.2.2.1, hk_.1.1.1.2.2.2.1, hk_.1.1.2, hk_.1.2, hk_.1.1.1.2.2.2.2.2.2.1, hk_.1.1.1.2.2.2.2.2.2.2.1, hk_.1.1.1.2.2.2.2.2.2.2.2.1, hk_.1.1.1.2.2.2.2.2.2.2.2.2, fun e_ => Or.elim (ho0.1 k_ e_.symm).1 (fun hs_ => hk_.2.1 hs_) (fun hn_ => Nat.not_le.2 hk_.2.2 hn_), fun e_ => Or.elim (ho1.1 k_ e_.symm).1 (fun hs_ => hk_.2.1 hs_) (fun hn_ => Nat.not_le.2 hk_.2.2 hn_)⟩))
    replace HO0_2 := Aside0.mk (Kd.V_mono (ok' := fun k_ => ((P0_1_ k_ ∨ P0_2_ k_ ∨ P1_1_ k_ ∨ P1_2_ k_) ∨ w.heap.size ≤ k_) ∧ some k_ ≠ (.slice Ao25 y104.length co25 : Value).ownBlock ∧ some k_ ≠ (.slice Ao32 t109.length co32 : Value).ownBlock ∧ some k_ ≠ (.slice Ao33 t112.length co33 : Value).ownBlock ∧ some k_ ≠ (.slice Ao49 t132.length co49 : Value).ownBlock ∧ some k_ ≠ (.slice Ao50 t135.length co50 : Value).ownBlock ∧ k_ ≠ gb101 ∧ k_ ≠ gb102 ∧ k_ ≠ gb115 ∧ k_ ≠ gb123 ∧ some k_ ≠ (v148 : Value).ownBlock ∧ some k_ ≠ (v151 : Value).ownBlock) (Kd.V_keptB (HO0_2.out) hkp (fun k_ hk_ hs_ => Or.elim hs_ (fun e_ => (hk_.1.1.2.2.2.2.1) e_) (fun e_ => (hk_.1.1.2.2.2.2.2.1) e_))) (fun k_ hk_ => ⟨hk_.1.1.1.1, hk_.1.1.1.2.1, hk_.1.1.1.2.2.1, hk_.1.1.1.2.2.2.1, hk_.1.1.2, hk_.1.2, hk_.1.1.1.2.2.2.2.2.2.1, hk_.1.1.1.2.2.2.2.2.2.2.1, hk_.1.1.1.2.2.2.2.2.2.2.2.1, hk_.1.1.1.2.2.2.2.2.2.2.2.2, fun e_ => Or.elim (ho0.1 k_ e_.symm).1 (fun hs_ => hk_.2.1 hs_) (fun hn_ => Nat.not_le.2 hk_.2.2 hn_), fun e_ => Or.elim (ho1.1 k_ e_.symm).1 (fun hs_ => hk_.2.1 hs_) (fun hn_ => Nat.not_le.2 hk_.2.2 hn_)⟩))
    replace HO1_1 := Aside0.mk (Kd.V_mono (ok' := fun k_ => ((P0_1_ k_ ∨ P0_2_ k_ ∨ P1_1_ k_ ∨ P1_2_ k_) ∨ w.heap.size ≤ k_) ∧ some k_ ≠ (.slice Ao25 y104.length co25 : Value).ownBlock ∧ some k_ ≠ (.slice Ao32 t109.length co32 : Value).ownBlock ∧ some k_ ≠ (.slice Ao33 t112.length co33 : Value).ownBlock ∧ some k_ ≠ (.slice Ao49 t132.length co49 : Value).ownBlock ∧ some k_ ≠ (.slice Ao50 t135.length co50 : Value).ownBlock ∧ k_ ≠ gb101 ∧ k_ ≠ gb102 ∧ k_ ≠ gb115 ∧ k_ ≠ gb123 ∧ some k_ ≠ (v148 : Value).ownBlock ∧ some k_ ≠ (v151 : Value).ownBlock) (Kd.V_keptB (HO1_1.out) hkp (fun k_ hk_ hs_ => Or.elim hs_ (fun e_ => (hk_.1.1.2.2.2.2.1) e_) (fun e_ => (hk_.1.1.2.2.2.2.2.1) e_))) (fun k_ hk_ => ⟨hk_.1.1.1.1, hk_.1.1.1.2.1, hk_.1.1.1.2.2.1, hk_.1.1.1.2.2.2.1, hk_.1.1.2, hk_.1.2, hk_.1.1.1.2.2.2.2.2.2.1, hk_.1.1.1.2.2.2.2.2.2.2.1, hk_.1.1.1.2.2.2.2.2.2.2.2.1, hk_.1.1.1.2.2.2.2.2.2.2.2.2, fun e_ => Or.elim (ho0.1 k_ e_.symm).1 (fun hs_ => hk_.2.1 hs_) (fun hn_ => Nat.not_le.2 hk_.2.2 hn_), fun e_ => Or.elim (ho1.1 k_ e_.symm).1 (fun hs_ => hk_.2.1 hs_) (fun hn_ => Nat.not_le.2 hk_.2.2 hn_)⟩))
    replace HO1_2 := Aside0.mk (Kd.V_mono (ok' := fun k_ => ((P0_1_ k_ ∨ P0_2_ k_ ∨ P1_1_ k_ ∨ P1_2_ k_) ∨ w.heap.size ≤ k_) ∧ some k_ ≠ (.slice Ao25 y104.length co25 : Value).ownBlock ∧ some k_ ≠ (.slice Ao32 t109.length co32 : Value).ownBlock ∧ some k_ ≠ (.slice Ao33 t112.length co33 : Value).ownBlock ∧ some k_ ≠ (.slice Ao49 t132.length co49 : Value).ownBlock ∧ some k_ ≠ (.slice Ao50 t135.length co50 : Value).ownBlock ∧ k_ ≠ gb101 ∧ k_ ≠ gb102 ∧ k_ ≠ gb115 ∧ k_ ≠ gb123 ∧ some k_ ≠ (v148 : Value).ownBlock ∧ some k_ ≠ (v151 : Value).ownBlock) (Kd.V_keptB (HO1_2.out) hkp (fun k_ hk_ hs_ => Or.elim hs_ (fun e_ => (hk_.1.1.2.2.2.2.1) e_) (fun e_ => (hk_.1.1.2.2.2.2.2.1) e_))) (fun k_ hk_ => ⟨hk_.1.1.1.1, hk_.1.1.1.2.1, hk_.1.1.1.2.2.1, hk_.1.1.1.2.2.2.1, hk_.1.1.2, hk_.1.2, hk_.1.1.1.2.2.2.2.2.2.1, hk_.1.1.1.2.2.2.2.2.2.2.1, hk_.1.1.1.2.2.2.2.2.2.2.2.1, hk_.1.1.1.2.2.2.2.2.2.2.2.2, fun e_ => Or.elim (ho0.1 k_ e_.symm).1 (fun hs_ => hk_.2.1 hs_) (fun hn_ => Nat.not_le.2 hk_.2.2 hn_), fun e_ => Or.elim (ho1.1 k_ e_.symm).1 (fun hs_ => hk_.2.1 hs_) (fun hn_ => Nat.not_le.2 hk_.2.2 hn_)⟩))
    replace BK101 := Aside0.mk (blk_kept (by exact kU BK101) hkp (fun hs_ => Or.elim hs_ (fun e_ => (fun e_ => (Kd.R_ne HO119.out BK101.out (by decide)) e_) e_) (fun e_ => (fun e_ => (Kd.R_ne HO122.out BK101.out (by decide)) e_) e_)))
    replace BK102 := Aside0.mk (blk_kept (by exact kU BK102) hkp (fun hs_ => Or.elim hs_ (fun e_ => (fun e_ => (Kd.R_ne HO119.out BK102.out (by decide)) e_) e_) (fun e_ => (fun e_ => (Kd.R_ne HO122.out BK102.out (by decide)) e_) e_)))
    replace HO106 := Aside0.mk (Kd.N_mono (ok' := fun k_ => ((P0_1_ k_ ∨ P0_2_ k_ ∨ P1_1_ k_ ∨ P1_2_ k_) ∨ w.heap.size ≤ k_) ∧ some k_ ≠ (.slice Ao32 t109.length co32 : Value).ownBlock ∧ some k_ ≠ (.slice Ao33 t112.length co33 : Value).ownBlock ∧ some k_ ≠ (.slice Ao49 t132.length co49 : Value).ownBlock ∧ some k_ ≠ (.slice Ao50 t135.length co50 : Value).ownBlock ∧ k_ ≠ gb101 ∧ k_ ≠ gb102 ∧ k_ ≠ gb115 ∧ k_ ≠ gb123 ∧ some k_ ≠ (v148 : Value).ownBlock ∧ some k_ ≠ (v151 : Value).ownBlock) (Kd.N_keptB (HO106.out) hkp (fun k_ hk_ hs_ => Or.elim hs_ (fun e_ => (hk_.1.1.2.2.2.1) e_) (fun e_ => (hk_.1.1.2.2.2.2.1) e_))) (fun k_ hk_ => ⟨hk_.1.1.1.1, hk_.1.1.1.2.1, hk_.1.1.1.2.2.1, hk_.1.1.2, hk_.1.2, hk_.1.1.1.2.2.2.2.2.1, hk_.1.1.1.2.2.2.2.2.2.1, hk_.1.1.1.2.2.2.2.2.2.2.1, hk_.1.1.1.2.2.2.2.2.2.2.2, fun e_ => Or.elim (ho0.1 k_ e_.symm).1 (fun hs_ => hk_.2.1 hs_) (fun hn_ => Nat.not_le.2 hk_.2.2 hn_), fun e_ => Or.elim (ho1.1 k_ e_.symm).1 (fun hs_ => hk_.2.1 hs_) (fun hn_ => Nat.not_le.2 hk_.2.2 hn_)⟩))
    replace BK115 := Aside0.mk (blk_kept (by exact kU BK115) hkp (fun hs_ => Or.elim hs_ (fun e_ => (fun e_ => (Kd.R_ne HO119.out BK115.out (by decide)) e_) e_) (fun e_ => (fun e_ => (Kd.R_ne HO122.out BK115.out (by decide)) e_) e_)))
    replace BK123 := Aside0.mk (blk_kept (by exact kU BK123) hkp (fun hs_ => Or.elim hs_ (fun e_ => (fun e_ => (Kd.R_ne HO119.out BK123.out (by decide)) e_) e_) (fun e_ => (fun e_ => (Kd.R_ne HO122.out BK123.out (by decide)) e_) e_)))
    replace HO127 := Aside0.mk (Kd.V_mono (ok' := fun k_ => ((P0_1_ k_ ∨ P0_2_ k_ ∨ P1_1_ k_ ∨ P1_2_ k_) ∨ w.heap.size ≤ k_) ∧ some k_ ≠ (.slice Ao25 y104.length co25 : Value).ownBlock ∧ some k_ ≠ (.slice Ao32 t109.length co32 : Value).ownBlock ∧ some k_ ≠ (.slice Ao33 t112.length co33 : Value).ownBlock ∧ some k_ ≠ (.slice Ao49 t132.length co49 : Value).ownBlock ∧ some k_ ≠ (.slice Ao50 t135.length co50 : Value).ownBlock ∧ k_ ≠ gb101 ∧ k_ ≠ gb102 ∧ k_ ≠ gb115 ∧ k_ ≠ gb123 ∧ some k_ ≠ (v148 : Value).ownBlock ∧ some k_ ≠ (v151 : Value).ownBlock) (Kd.V_keptB (HO127.out) hkp (fun k_ hk_ hs_ => Or.elim hs_ (fun e_ => (hk_.1.1.2.2.2.2.1) e_) (fun e_ => (hk_.1.1.2.2.2.2.2.1) e_))) (fun k_ hk_ => ⟨hk_.1.1.1.1, hk_.1.1.1.2.1, hk_.1.1.1.2.2.1, hk_.1.1.1.2.2.2.1, hk_.1.1.2, hk_.1.2, hk_.1.1.1.2.2.2.2.2.2.1, hk_.1.1.1.2.2.2.2.2.2.2.1, hk_.1.1.1.2.2.2.2.2.2.2.2.1, hk_.1.1.1.2.2.2.2.2.2.2.2.2, fun e_ => Or.elim (ho0.1 k_ e_.symm).1 (fun hs_ => hk_.2.1 hs_) (fun hn_ => Nat.not_le.2 hk_.2.2 hn_), fun e_ => Or.elim (ho1.1 k_ e_.symm).1 (fun hs_ => hk_.2.1 hs_) (fun hn_ => Nat.not_le.2 hk_.2.2 hn_)⟩))
    replace HO130 := Aside0.mk (Kd.V_mono (ok' := fun k_ => ((P0_1_ k_ ∨ P0_2_ k_ ∨ P1_1_ k_ ∨ P1_2_ k_) ∨ w.heap.size ≤ k_) ∧ some k_ ≠ (.slice Ao25 y104.length co25 : Value).ownBlock ∧ some k_ ≠ (.slice Ao32 t109.length co32 : Value).ownBlock ∧ some k_ ≠ (.slice Ao33 t112.length co33 : Value).ownBlock ∧ some k_ ≠ (.slice Ao49 t132.length co49 : Value).ownBlock ∧ some k_ ≠ (.slice Ao50 t135.length co50 : Value).ownBlock ∧ k_ ≠ gb101 ∧ k_ ≠ gb102 ∧ k_ ≠ gb115 ∧ k_ ≠ gb123 ∧ some k_ ≠ (v148 : Value).ownBlock ∧ some k_ ≠ (v151 : Value).ownBlock) (Kd.V_keptB (HO130.out) hkp (fun k_ hk_ hs_ => Or.elim hs_ (fun e_ => (hk_.1.1.2.2.2.2.1) e_) (fun e_ => (hk_.1.1.2.2.2.2.2.1) e_))) (fun k_ hk_ => ⟨hk_.1.1.1.1, hk_.1.1.1.2.1, hk_.1.1.1.2.2.1, hk_.1.1.1.2.2.2.1, hk_.1.1.2, hk_.1.2, hk_.1.1.1.2.2.2.2.2.2.1, hk_.1.1.1.2.2.2.2.2.2.2.1, hk_.1.1.1.2.2.2.2.2.2.2.2.1, hk_.1.1.1.2.2.2.2.2.2.2.2.2, fun e_ => Or.elim (ho0.1 k_ e_.symm).1 (fun hs_ => hk_.2.1 hs_) (fun hn_ => Nat.not_le.2 hk_.2.2 hn_), fun e_ => Or.elim (ho1.1 k_ e_.symm).1 (fun hs_ => hk_.2.1 hs_) (fun hn_ => Nat.not_le.2 hk_.2.2 hn_)⟩))
    replace HO142 := Aside0.mk (Kd.V_mono (ok' := fun k_ => ((P0_1_ k_ ∨ P0_2_ k_ ∨ P1_1_ k_ ∨ P1_2_ k_) ∨ w.heap.size ≤ k_) ∧ some k_ ≠ (.slice Ao25 y104.length co25 : Value).ownBlock ∧ some k_ ≠ (.slice Ao32 t109.length co32 : Value).ownBlock ∧ some k_ ≠ (.slice Ao33 t112.length co33 : Value).ownBlock ∧ some k_ ≠ (.slice Ao49 t132.length co49 : Value).ownBlock ∧ some k_ ≠ (.slice Ao50 t135.length co50 : Value).ownBlock ∧ k_ ≠ gb101 ∧ k_ ≠ gb102 ∧ k_ ≠ gb115 ∧ k_ ≠ gb123 ∧ some k_ ≠ (v148 : Value).ownBlock ∧ some k_ ≠ (v151 : Value).ownBlock) (Kd.V_keptB (HO142.out) hkp (fun k_ hk_ hs_ => Or.elim hs_ (fun e_ => (hk_.2.2.2.2.1) e_) (fun e_ => (hk_.2.2.2.2.2.1) e_))) (fun k_ hk_ => ⟨hk_.1.1, hk_.1.2.1, hk_.1.2.2.1, hk_.1.2.2.2.1, hk_.1.2.2.2.2.2.2.1, hk_.1.2.2.2.2.2.2.2.1, hk_.1.2.2.2.2.2.2.2.2.1, hk_.1.2.2.2.2.2.2.2.2.2.1, hk_.1.2.2.2.2.2.2.2.2.2.2.1, hk_.1.2.2.2.2.2.2.2.2.2.2.2, fun e_ => Or.elim (ho0.1 k_ e_.symm).1 (fun hs_ => hk_.2.1 hs_) (fun hn_ => Nat.not_le.2 hk_.2.2 hn_), fun e_ => Or.elim (ho1.1 k_ e_.symm).1 (fun hs_ => hk_.2.1 hs_) (fun hn_ => Nat.not_le.2 hk_.2.2 hn_)⟩))
    replace HO145 := Aside0.mk (Kd.V_mono (ok' := fun k_ => ((P0_1_ k_ ∨ P0_2_ k_ ∨ P1_1_ k_ ∨ P1_2_ k_) ∨ w.heap.size ≤ k_) ∧ some k_ ≠ (.slice Ao25 y104.length co25 : Value).ownBlock ∧ some k_ ≠ (.slice Ao32 t109.length co32 : Value).ownBlock ∧ some k_ ≠ (.slice Ao33 t112.length co33 : Value).ownBlock ∧ some k_ ≠ (.slice Ao49 t132.length co49 : Value).ownBlock ∧ some k_ ≠ (.slice Ao50 t135.length co50 : Value).ownBlock ∧ k_ ≠ gb101 ∧ k_ ≠ gb102 ∧ k_ ≠ gb115 ∧ k_ ≠ gb123 ∧ some k_ ≠ (v148 : Value).ownBlock ∧ some k_ ≠ (v151 : Value).ownBlock) (Kd.V_keptB (HO145.out) hkp (fun k_ hk_ hs_ => Or.elim hs_ (fun e_ => (hk_.2.2.2.2.1) e_) (fun e_ => (hk_.2.2.2.2.2.1) e_))) (fun k_ hk_ => ⟨hk_.1.1, hk_.1.2.1, hk_.1.2.2.1, hk_.1.2.2.2.1, hk_.1.2.2.2.2.2.2.1, hk_.1.2.2.2.2.2.2.2.1, hk_.1.2.2.2.2.2.2.2.2.1, hk_.1.2.2.2.2.2.2.2.2.2.1, hk_.1.2.2.2.2.2.2.2.2.2.2.1, hk_.1.2.2.2.2.2.2.2.2.2.2.2, fun e_ => Or.elim (ho0.1 k_ e_.symm).1 (fun hs_ => hk_.2.1 hs_) (fun hn_ => Nat.not_le.2 hk_.2.2 hn_), fun e_ => Or.elim (ho1.1 k_ e_.symm).1 (fun hs_ => hk_.2.1 hs_) (fun hn_ => Nat.not_le.2 hk_.2.2 hn_)⟩))
    have HO149 := Aside0.mk (Kd.R_mono (ok' := fun k_ => (w.heap.size ≤ k_) ∧ some k_ ≠ (v151 : Value).ownBlock ∧ some k_ ≠ (.slice Ao32 t109.length co32 : Value).ownBlock ∧ some k_ ≠ (.slice Ao33 t112.length co33 : Value).ownBlock ∧ some k_ ≠ (.slice Ao49 t132.length co49 : Value).ownBlock ∧ some k_ ≠ (.slice Ao50 t135.length co50 : Value).ownBlock) ho0 (fun k_ hk_ => ⟨Or.elim hk_.1 (fun hs_ => Or.elim hs_ (fun hs_ => (HO119.out.1 k_ (hs_).symm).1.1.1) (fun hs_ => (HO122.out.1 k_ (hs_).symm).1.1.1)) (fun hn_ => (Nat.le_trans (below_size hB) hn_)), hk_.2, Or.elim hk_.1 (fun hs_ => Or.elim hs_ (fun hs_ => fun e_ => (((HO111.out).1 k_ e_.symm).1.1.2.2.1) hs_) (fun hs_ => fun e_ => (((HO111.out).1 k_ e_.symm).1.1.2.2.2) hs_)) (fun hn_ => (Kd.fresh' (Kd.R_lt (rup HO111.out)) k_ hn_)), Or.elim hk_.1 (fun hs_ => Or.elim hs_ (fun hs_ => fun e_ => (((HO114.out).1 k_ e_.symm).1.1.2.2.1) hs_) (fun hs_ => fun e_ => (((HO114.out).1 k_ e_.symm).1.1.2.2.2) hs_)) (fun hn_ => (Kd.fresh' (Kd.R_lt (rup HO114.out)) k_ hn_)), Or.elim hk_.1 (fun hs_ => Or.elim hs_ (fun hs_ => fun e_ => (((HO134.out).1 k_ e_.symm).1.2) hs_) (fun hs_ => fun e_ => (((HO134.out).1 k_ e_.symm).2) hs_)) (fun hn_ => (Kd.fresh' (Kd.R_lt (rup HO134.out)) k_ hn_)), Or.elim hk_.1 (fun hs_ => Or.elim hs_ (fun hs_ => fun e_ => (((HO137.out).1 k_ e_.symm).1.2) hs_) (fun hs_ => fun e_ => (((HO137.out).1 k_ e_.symm).2) hs_)) (fun hn_ => (Kd.fresh' (Kd.R_lt (rup HO137.out)) k_ hn_))⟩))
    have HO152 := Aside0.mk (Kd.R_mono (ok' := fun k_ => (w.heap.size ≤ k_) ∧ some k_ ≠ (v148 : Value).ownBlock ∧ some k_ ≠ (.slice Ao32 t109.length co32 : Value).ownBlock ∧ some k_ ≠ (.slice Ao33 t112.length co33 : Value).ownBlock ∧ some k_ ≠ (.slice Ao49 t132.length co49 : Value).ownBlock ∧ some k_ ≠ (.slice Ao50 t135.length co50 : Value).ownBlock) ho1 (fun k_ hk_ => ⟨Or.elim hk_.1 (fun hs_ => Or.elim hs_ (fun hs_ => (HO119.out.1 k_ (hs_).symm).1.1.1) (fun hs_ => (HO122.out.1 k_ (hs_).symm).1.1.1)) (fun hn_ => (Nat.le_trans (below_size hB) hn_)), hk_.2, Or.elim hk_.1 (fun hs_ => Or.elim hs_ (fun hs_ => fun e_ => (((HO111.out).1 k_ e_.symm).1.1.2.2.1) hs_) (fun hs_ => fun e_ => (((HO111.out).1 k_ e_.symm).1.1.2.2.2) hs_)) (fun hn_ => (Kd.fresh' (Kd.R_lt (rup HO111.out)) k_ hn_)), Or.elim hk_.1 (fun hs_ => Or.elim hs_ (fun hs_ => fun e_ => (((HO114.out).1 k_ e_.symm).1.1.2.2.1) hs_) (fun hs_ => fun e_ => (((HO114.out).1 k_ e_.symm).1.1.2.2.2) hs_)) (fun hn_ => (Kd.fresh' (Kd.R_lt (rup HO114.out)) k_ hn_)), Or.elim hk_.1 (fun hs_ => Or.elim hs_ (fun hs_ => fun e_ => (((HO134.out).1 k_ e_.symm).1.2) hs_) (fun hs_ => fun e_ => (((HO134.out).1 k_ e_.symm).2) hs_)) (fun hn_ => (Kd.fresh' (Kd.R_lt (rup HO134.out)) k_ hn_)), Or.elim hk_.1 (fun hs_ => Or.elim hs_ (fun hs_ => fun e_ => (((HO137.out).1 k_ e_.symm).1.2) hs_) (fun hs_ => fun e_ => (((HO137.out).1 k_ e_.symm).2) hs_)) (fun hn_ => (Kd.fresh' (Kd.R_lt (rup HO137.out)) k_ hn_))⟩))
    replace HO111 := Aside0.mk (Kd.R_mono (ok' := fun k_ => (w.heap.size ≤ k_) ∧ some k_ ≠ (.slice Ao33 t112.length co33 : Value).ownBlock ∧ some k_ ≠ (.slice Ao49 t132.length co49 : Value).ownBlock ∧ some k_ ≠ (.slice Ao50 t135.length co50 : Value).ownBlock ∧ some k_ ≠ (v148 : Value).ownBlock ∧ some k_ ≠ (v151 : Value).ownBlock) (Kd.R_keptB (HO111.out) hkp (fun k_ hk_ hs_ => Or.elim hs_ (fun e_ => (hk_.1.1.2.2.1) e_) (fun e_ => (hk_.1.1.2.2.2) e_))) (fun k_ hk_ => ⟨hk_.1.1.1.1, hk_.1.1.1.2.1, hk_.1.1.2, hk_.1.2, fun e_ => Or.elim (ho0.1 k_ e_.symm).1 (fun hs_ => hk_.2.1 hs_) (fun hn_ => Nat.not_le.2 hk_.2.2 hn_), fun e_ => Or.elim (ho1.1 k_ e_.symm).1 (fun hs_ => hk_.2.1 hs_) (fun hn_ => Nat.not_le.2 hk_.2.2 hn_)⟩))
    replace HO114 := Aside0.mk (Kd.R_mono (ok' := fun k_ => (w.heap.size ≤ k_) ∧ some k_ ≠ (.slice Ao32 t109.length co32 : Value).ownBlock ∧ some k_ ≠ (.slice Ao49 t132.length co49 : Value).ownBlock ∧ some k_ ≠ (.slice Ao50 t135.length co50 : Value).ownBlock ∧ some k_ ≠ (v148 : Value).ownBlock ∧ some k_ ≠ (v151 : Value).ownBlock) (Kd.R_keptB (HO114.out) hkp (fun k_ hk_ hs_ => Or.elim hs_ (fun e_ => (hk_.1.1.2.2.1) e_) (fun e_ => (hk_.1.1.2.2.2) e_))) (fun k_ hk_ => ⟨hk_.1.1.1.1, hk_.1.1.1.2.1, hk_.1.1.2, hk_.1.2, fun e_ => Or.elim (ho0.1 k_ e_.symm).1 (fun hs_ => hk_.2.1 hs_) (fun hn_ => Nat.not_le.2 hk_.2.2 hn_), fun e_ => Or.elim (ho1.1 k_ e_.symm).1 (fun hs_ => hk_.2.1 hs_) (fun hn_ => Nat.not_le.2 hk_.2.2 hn_)⟩))
    replace HO134 := Aside0.mk (Kd.R_mono (ok' := fun k_ => (w.heap.size ≤ k_) ∧ some k_ ≠ (.slice Ao32 t109.length co32 : Value).ownBlock ∧ some k_ ≠ (.slice Ao33 t112.length co33 : Value).ownBlock ∧ some k_ ≠ (.slice Ao50 t135.length co50 : Value).ownBlock ∧ some k_ ≠ (v148 : Value).ownBlock ∧ some k_ ≠ (v151 : Value).ownBlock) (Kd.R_keptB (HO134.out) hkp (fun k_ hk_ hs_ => Or.elim hs_ (fun e_ => (hk_.1.2) e_) (fun e_ => (hk_.2) e_))) (fun k_ hk_ => ⟨hk_.1.1.1.1.1.1, hk_.1.1.1.1.2, hk_.1.1.1.2, hk_.1.1.1.1.1.2, fun e_ => Or.elim (ho0.1 k_ e_.symm).1 (fun hs_ => hk_.2.1 hs_) (fun hn_ => Nat.not_le.2 hk_.2.2 hn_), fun e_ => Or.elim (ho1.1 k_ e_.symm).1 (fun hs_ => hk_.2.1 hs_) (fun hn_ => Nat.not_le.2 hk_.2.2 hn_)⟩))
    replace HO137 := Aside0.mk (Kd.R_mono (ok' := fun k_ => (w.heap.size ≤ k_) ∧ some k_ ≠ (.slice Ao32 t109.length co32 : Value).ownBlock ∧ some k_ ≠ (.slice Ao33 t112.length co33 : Value).ownBlock ∧ some k_ ≠ (.slice Ao49 t132.length co49 : Value).ownBlock ∧ some k_ ≠ (v148 : Value).ownBlock ∧ some k_ ≠ (v151 : Value).ownBlock) (Kd.R_keptB (HO137.out) hkp (fun k_ hk_ hs_ => Or.elim hs_ (fun e_ => (hk_.1.2) e_) (fun e_ => (hk_.2) e_))) (fun k_ hk_ => ⟨hk_.1.1.1.1.1.1, hk_.1.1.1.1.2, hk_.1.1.1.2, hk_.1.1.1.1.1.2, fun e_ => Or.elim (ho0.1 k_ e_.symm).1 (fun hs_ => hk_.2.1 hs_) (fun hn_ => Nat.not_le.2 hk_.2.2 hn_), fun e_ => Or.elim (ho1.1 k_ e_.symm).1 (fun hs_ => hk_.2.1 hs_) (fun hn_ => Nat.not_le.2 hk_.2.2 hn_)⟩))
    replace HB := Aside0.mk (hb)
    clear HO119 HO122
    clear hb
    (try clear hkp)
    clear ho0 ho1
    obtain ⟨Ao55, co55, eo55⟩ := Kd.R_slice HO149.out
    (first | subst eo55 | (injection eo55 with f1_ f2_ f3_; have f4_ := f1_.symm; have f5_ := f3_.symm; clear f1_ f2_ f3_; subst f4_; subst f5_))
    obtain ⟨Ao56, co56, eo56⟩ := Kd.R_slice HO152.out
    (first | subst eo56 | (injection eo56 with f1_ f2_ f3_; have f4_ := f1_.symm; have f5_ := f3_.symm; clear f1_ f2_ f3_; subst f4_; subst f5_))
    refine hK.out _ _ ⟨b3 BK101, b3 BK102, b3 BK115, b3 BK123⟩ (fun hHeld => nm ?_)
    clear hK K
    refine on 6 (some 38) (tf 7 2) (fun K hK => ?_)
    refine gS Try.func87 #[.agg #[.bool t108, .slice Ao32 t109.length co32, .slice Ao33 t112.length co33], .agg #[.bool t146, .slice Ao55 t147.length co55, .slice Ao56 t150.length co56]] ?_
    with_reducible refine (flyballref03_Add.calls k t108 _ _ t109 _ _ t112 t146 _ _ t147 _ _ t150 t153 t154 t157 _ ?_ ?_ ?_ ?_ ?_ ?_ ?_ ?_ A14.out).mono ?_
    exact cup ((Kd.R_reads' HO111.out).2.2)
    exact (Kd.R_reads' HO111.out).2.1
    exact cup ((Kd.R_reads' HO114.out).2.2)
    exact (Kd.R_reads' HO114.out).2.1
    exact cup ((Kd.R_reads' HO149.out).2.2)
    exact (Kd.R_reads' HO149.out).2.1
    exact cup ((Kd.R_reads' HO152.out).2.2)
    exact (Kd.R_reads' HO152.out).2.1
    rintro e w57 ⟨v155, v158, rfl, ho0, ho1, hb⟩
    refine ⟨_, rfl, ?_⟩
    replace HO0_1 := v2 HO0_1 hb ho0 ho1
    replace HO0_2 := v2 HO0_2 hb ho0 ho1
    replace HO1_1 := v2 HO1_1 hb ho0 ho1
    replace HO1_2 := v2 HO1_2 hb ho0 ho1
    replace HO106 := Aside0.mk (Kd.N_mono (Kd.N_told (Kd.N_told (Kd.N_old (by (with_reducible repeat (first | apply Kd.N_alloc | apply Kd.N_drewN | apply Kd.N_drew)); exact HO106.out) hb) (Kd.R_base ho0)) (Kd.R_base ho1)) (fun _ h_ => h_.1))
    replace HO127 := v2 HO127 hb ho0 ho1
    replace HO130 := v2 HO130 hb ho0 ho1
    replace HO142 := v2 HO142 hb ho0 ho1
    replace HO145 := v2 HO145 hb ho0 ho1
    have HO156 := Aside0.mk (Kd.R_lower (Kd.R_new' (Kd.R_new' (Kd.R_new' (Kd.R_new' (Kd.R_new' (Kd.R_new' (Kd.R_newM (M := fun k_ => (w.heap.size ≤ k_)) ho0 (below_size hB) (fun k_ h_ => h_)) (Kd.R_lt (rup HO111.out))) (Kd.R_lt (rup HO114.out))) (Kd.R_lt (rup HO134.out))) (Kd.R_lt (rup HO137.out))) (Kd.R_lt (rup HO149.out))) (Kd.R_lt (rup HO152.out))) (below_size hB))
    have HO159 := Aside0.mk (Kd.R_lower (Kd.R_new' (Kd.R_new' (Kd.R_new' (Kd.R_new' (Kd.R_new' (Kd.R_new' (Kd.R_newM (M := fun k_ => (w.heap.size ≤ k_)) ho1 (below_size hB) (fun k_ h_ => h_)) (Kd.R_lt (rup HO111.out))) (Kd.R_lt (rup HO114.out))) (Kd.R_lt (rup HO134.out))) (Kd.R_lt (rup HO137.out))) (Kd.R_lt (rup HO149.out))) (Kd.R_lt (rup HO152.out))) (below_size hB))
    replace HO111 := r2 HO111 hb ho0 ho1
    replace HO114 := r2 HO114 hb ho0 ho1
    replace HO134 := r2 HO134 hb ho0 ho1
    replace HO137 := r2 HO137 hb ho0 ho1
    replace HO149 := r2 HO149 hb ho0 ho1
    replace HO152 := r2 HO152 hb ho0 ho1
    replace BK101 := kA BK101 hb
    replace BK102 := kA BK102 hb
    replace BK115 := kA BK115 hb
    replace BK123 := kA BK123 hb
    replace HB := bS HB hb
    clear hb ho0 ho1
    obtain ⟨Ao58, co58, eo58⟩ := Kd.V_slice HO142.out
    (first | subst eo58 | (injection eo58 with f1_ f2_ f3_; have f4_ := f1_.symm; have f5_ := f3_.symm; clear f1_ f2_ f3_; subst f4_; subst f5_))
    obtain ⟨Ao59, co59, eo59⟩ := Kd.V_slice HO145.out
    (first | subst eo59 | (injection eo59 with f1_ f2_ f3_; have f4_ := f1_.symm; have f5_ := f3_.symm; clear f1_ f2_ f3_; subst f4_; subst f5_))
    obtain ⟨Ao60, co60, eo60⟩ := Kd.R_slice HO156.out
    (first | subst eo60 | (injection eo60 with f1_ f2_ f3_; have f4_ := f1_.symm; have f5_ := f3_.symm; clear f1_ f2_ f3_; subst f4_; subst f5_))
    obtain ⟨Ao61, co61, eo61⟩ := Kd.R_slice HO159.out
    (first | subst eo61 | (injection eo61 with f1_ f2_ f3_; have f4_ := f1_.symm; have f5_ := f3_.symm; clear f1_ f2_ f3_; subst f4_; subst f5_))
    refine hK.out _ _ ⟨b3 BK101, b3 BK102, b3 BK115, b3 BK123⟩ (fun hHeld => nm ?_)
    clear hK K
    refine on 7 (some 39) (tf 8 1) (fun K hK => ?_)
    refine gS Try.func85 #[.agg #[.bool t139, .slice Ao58 t140.length co58, .slice Ao59 t143.length co59], .agg #[.bool t153, .slice Ao60 t154.length co60, .slice Ao61 t157.length co61]] ?_
    with_reducible refine (flyballlaw03_is.calls k t139 _ _ t140 _ _ t143 t153 _ _ t154 _ _ t157 t160 _ ?_ ?_ ?_ ?_ ?_ ?_ ?_ ?_ A15.out).mono ?_
    exact cup ((Kd.V_reads' HO142.out).2.2)
    exact (Kd.V_reads' HO142.out).2.1
    exact cup ((Kd.V_reads' HO145.out).2.2)
    exact (Kd.V_reads' HO145.out).2.1
    exact cup ((Kd.R_reads' HO156.out).2.2)
    exact (Kd.R_reads' HO156.out).2.1
    exact cup ((Kd.R_reads' HO159.out).2.2)
    exact (Kd.R_reads' HO159.out).2.1
    rintro e w62 ⟨rfl, hb⟩
    refine ⟨_, rfl, ?_⟩
    replace HO0_1 := vA HO0_1 hb
    replace HO0_2 := vA HO0_2 hb
    replace HO1_1 := vA HO1_1 hb
    replace HO1_2 := vA HO1_2 hb
    replace HO106 := Aside0.mk (Kd.N_below (by (with_reducible repeat (first | apply Kd.N_alloc | apply Kd.N_drewN | apply Kd.N_drew)); exact HO106.out) hb)
    replace HO111 := rA HO111 hb
    replace HO114 := rA HO114 hb
    replace HO127 := vA HO127 hb
    replace HO130 := vA HO130 hb
    replace HO134 := rA HO134 hb
    replace HO137 := rA HO137 hb
    replace HO142 := vA HO142 hb
    replace HO145 := vA HO145 hb
    replace HO149 := rA HO149 hb
    replace HO152 := rA HO152 hb
    replace HO156 := rA HO156 hb
    replace HO159 := rA HO159 hb
    replace BK101 := kA BK101 hb
    replace BK102 := kA BK102 hb
    replace BK115 := kA BK115 hb
    replace BK123 := kA BK123 hb
    replace HB := bS HB hb
    clear hb
    refine hK.out _ _ ⟨b3 BK101, b3 BK102, b3 BK115, b3 BK123⟩ (fun hHeld => nm ?_)
    clear hK K
    refine pu 8 10 (tf 9 0) ?_
    refine done_ (done_of HT_.out (by kernel_rfl)) ?_
    try go_wp2
    go_ret
    exact ⟨er, hB⟩
   ·replace c16 := Bool.eq_false_iff.mpr c16
    subst c16
    have H1 : (some false) = some true := by rw [if_neg (show ¬ (false = true) by decide)] at H; first | done | exact H
    clear H
    have H := H1
    clear H1
    exact absurd H (by simp)
  ·replace c6 := Bool.eq_false_iff.mpr c6
   subst c6
   have H1 : (some true) = some true := by rw [if_neg (show ¬ (false = true) by decide)] at H; first | done | exact H
   clear H
   have H := H1
   clear H1
   have HT_ := Option.some.inj H
   clear H
   go_enter Try.func18, Try.ntmps18
   go_wp2_with (first | ((with_reducible refine gd 2 rfl ?_); refine bx 2 #[.bool a0_0, .slice A0_1 l0_1.length c0_1, .slice A0_2 l0_2.length c0_2] ?_; intro gb101 hg w109 hbox hb; replace HO0_1 := vE HO0_1 hg hb; replace HO0_2 := vE HO0_2 hg hb; replace HO1_1 := vE HO1_1 hg hb; replace HO1_2 := vE HO1_2 hg hb; have BK101 := Aside0.mk hbox; have GW101 := gB hg HB; have GE101 := gB hg HB; replace HB := bA HB hb; clear hb hbox hg) | ((with_reducible refine gd 3 rfl ?_); refine bx 3 #[.bool a1_0, .slice A1_1 l1_1.length c1_1, .slice A1_2 l1_2.length c1_2] ?_; intro gb102 hg w110 hbox hb; replace HO0_1 := vE HO0_1 hg hb; replace HO0_2 := vE HO0_2 hg hb; replace HO1_1 := vE HO1_1 hg hb; replace HO1_2 := vE HO1_2 hg hb; have BK102 := Aside0.mk hbox; have GW102 := gS' hg HB; have GE102 := gS' hg HB; replace HB := bS HB hb; have NB101_102 := nL hg BK101; have NB102_101 := nR hg BK101; replace BK101 := kA BK101 hb; clear hb hbox hg) | ((with_reducible refine gc 54 rfl ?_); refine gL 11 Try.func54 #[] ?_; (with_reducible refine (flyballlaw03_works.calls k  true _ A3.out).mono ?_); rintro e w111 ⟨rfl, hb⟩; refine ⟨_, rfl, ?_⟩; replace HO0_1 := vA HO0_1 hb; replace HO0_2 := vA HO0_2 hb; replace HO1_1 := vA HO1_1 hb; replace HO1_2 := vA HO1_2 hb; replace BK101 := kA BK101 hb; replace BK102 := kA BK102 hb; replace HB := bS HB hb; clear hb; have hnb112 := NB101_102.out; have hnc112 := NB102_101.out; obtain ⟨⟨hcz113_0, hcz113_1, hcz113_2⟩, hfz113_0, hfz113_1, hfz113_2⟩ := cE BK101; obtain ⟨⟨hcz114_0, hcz114_1, hcz114_2⟩, hfz114_0, hfz114_1, hfz114_2⟩ := cE BK102) | ((with_reducible refine gd 16 rfl ?_); refine Kd.N_lit k69 _ 69 ?hg (N' := 16) ?hd (xs := ([(⟨a0_0, l0_1, l0_2⟩ : S69), (⟨a1_0, l1_1, l1_2⟩ : S69)] : List (S69))) (inner := [.bool a0_0, .slice A0_1 l0_1.length c0_1, .slice A0_2 l0_2.length c0_2, .bool a1_0, .slice A1_1 l1_1.length c1_1, .slice A1_2 l1_2.length c1_2]) (ok := (fun k_ => ((P0_1_ k_ ∨ P0_2_ k_ ∨ P1_1_ k_ ∨ P1_2_ k_) ∨ w.heap.size ≤ k_) ∧ k_ ≠ gb101 ∧ k_ ≠ gb102)) (okp := (fun k_ => ((P0_1_ k_ ∨ P0_2_ k_ ∨ P1_1_ k_ ∨ P1_2_ k_) ∨ w.heap.size ≤ k_) ∧ k_ ≠ gb101 ∧ k_ ≠ gb102)) ?hr ?hp (fun _ hk => hk) ((show ∀ k_, w111.heap.size ≤ k_ → (fun k_ => ((P0_1_ k_ ∨ P0_2_ k_ ∨ P1_1_ k_ ∨ P1_2_ k_) ∨ w.heap.size ≤ k_) ∧ k_ ≠ gb101 ∧ k_ ≠ gb102) k_ from fun k_ hk => ⟨(.inr (Nat.le_trans (below_size hB) hk)), Kd.freshB (kup BK101.out) k_ hk, Kd.freshB (kup BK102.out) k_ hk⟩) _ (Nat.le_refl _)) (Below.refl _ _) (Nat.le_refl _) (by simp) ?_; (case hd => rfl); (case hg => rfl); (case hr => first | (go_simp; done) | (go_simp; rfl)); (case hp => exact (Reps.c3 (show Kd.FK k69 _ _ (⟨a0_0, l0_1, l0_2⟩ : S69) [.bool a0_0, .slice A0_1 l0_1.length c0_1, .slice A0_2 l0_2.length c0_2] from (k69_mkF _ _ (⟨a0_0, l0_1, l0_2⟩ : S69) (Kd.V_reads' (Kd.V_mono (ok' := (fun k_ => ((P0_1_ k_ ∨ P0_2_ k_ ∨ P1_1_ k_ ∨ P1_2_ k_) ∨ w.heap.size ≤ k_) ∧ k_ ≠ gb101 ∧ k_ ≠ gb102)) (HO0_1.out) (fun k_ hk => ⟨hk.1.1, ⟨hk.1.2, hk.2⟩⟩))).2.1 (Kd.V_F (Kd.V_mono (ok' := (fun k_ => ((P0_1_ k_ ∨ P0_2_ k_ ∨ P1_1_ k_ ∨ P1_2_ k_) ∨ w.heap.size ≤ k_) ∧ k_ ≠ gb101 ∧ k_ ≠ gb102)) (HO0_1.out) (fun k_ hk => ⟨hk.1.1, ⟨hk.1.2, hk.2⟩⟩))) (Kd.V_reads' (Kd.V_mono (ok' := (fun k_ => ((P0_1_ k_ ∨ P0_2_ k_ ∨ P1_1_ k_ ∨ P1_2_ k_) ∨ w.heap.size ≤ k_) ∧ k_ ≠ gb101 ∧ k_ ≠ gb102)) (HO0_2.out) (fun k_ hk => ⟨hk.1.1, ⟨hk.1.2, hk.2⟩⟩))).2.1 (Kd.V_F (Kd.V_mono (ok' := (fun k_ => ((P0_1_ k_ ∨ P0_2_ k_ ∨ P1_1_ k_ ∨ P1_2_ k_) ∨ w.heap.size ≤ k_) ∧ k_ ≠ gb101 ∧ k_ ≠ gb102)) (HO0_2.out) (fun k_ hk => ⟨hk.1.1, ⟨hk.1.2, hk.2⟩⟩))))) (Reps.c3 (show Kd.FK k69 _ _ (⟨a1_0, l1_1, l1_2⟩ : S69) [.bool a1_0, .slice A1_1 l1_1.length c1_1, .slice A1_2 l1_2.length c1_2] from (k69_mkF _ _ (⟨a1_0, l1_1, l1_2⟩ : S69) (Kd.V_reads' (Kd.V_mono (ok' := (fun k_ => ((P0_1_ k_ ∨ P0_2_ k_ ∨ P1_1_ k_ ∨ P1_2_ k_) ∨ w.heap.size ≤ k_) ∧ k_ ≠ gb101 ∧ k_ ≠ gb102)) (HO1_1.out) (fun k_ hk => ⟨hk.1.1, ⟨hk.1.2, hk.2⟩⟩))).2.1 (Kd.V_F (Kd.V_mono (ok' := (fun k_ => ((P0_1_ k_ ∨ P0_2_ k_ ∨ P1_1_ k_ ∨ P1_2_ k_) ∨ w.heap.size ≤ k_) ∧ k_ ≠ gb101 ∧ k_ ≠ gb102)) (HO1_1.out) (fun k_ hk => ⟨hk.1.1, ⟨hk.1.2, hk.2⟩⟩))) (Kd.V_reads' (Kd.V_mono (ok' := (fun k_ => ((P0_1_ k_ ∨ P0_2_ k_ ∨ P1_1_ k_ ∨ P1_2_ k_) ∨ w.heap.size ≤ k_) ∧ k_ ≠ gb101 ∧ k_ ≠ gb102)) (HO1_2.out) (fun k_ hk => ⟨hk.1.1, ⟨hk.1.2, hk.2⟩⟩))).2.1 (Kd.V_F (Kd.V_mono (ok' := (fun k_ => ((P0_1_ k_ ∨ P0_2_ k_ ∨ P1_1_ k_ ∨ P1_2_ k_) ∨ w.heap.size ≤ k_) ∧ k_ ≠ gb101 ∧ k_ ≠ gb102)) (HO1_2.out) (fun k_ hk => ⟨hk.1.1, ⟨hk.1.2, hk.2⟩⟩))))) (Reps.none _ _)))); intro v105 w115 ho116 hb hg_ hnew_; clear hg_ hnew_; (first | rw [← Ny104.out] at ho116 | (simp only [Int.reduceToNat] at ho116; rw [← Ny104.out] at ho116)); replace HO0_1 := Aside0.mk (Kd.V_elder' (vup HO0_1.out) (Kd.N_base ho116) hb); replace HO0_2 := Aside0.mk (Kd.V_elder' (vup HO0_2.out) (Kd.N_base ho116) hb); replace HO1_1 := Aside0.mk (Kd.V_elder' (vup HO1_1.out) (Kd.N_base ho116) hb); replace HO1_2 := Aside0.mk (Kd.V_elder' (vup HO1_2.out) (Kd.N_base ho116) hb); have HO106 := Aside0.mk (Kd.N_lower ho116 (below_size hB)); replace BK101 := kA BK101 hb; replace BK102 := kA BK102 hb; replace HB := bS HB hb; clear hb ho116; obtain ⟨Ao117, co117, eo117⟩ := Kd.N_slice HO106.out; subst eo117) | ((with_reducible refine gc 55 rfl ?_); refine gL 17 Try.func55 #[.slice Ao117 y104.length co117] ?_; (with_reducible refine (flyballlaw03_small.calls k _ _ y104 false _ ?_ ?_ A5.out).mono ?_); exact cup ((Kd.N_reads' HO106.out).2.2); exact (Kd.N_reads' HO106.out).2.1; rintro e w' ⟨rfl, ⟨nd, rfl⟩⟩; refine ⟨_, rfl, ?_⟩))
   go_ret
   exact ⟨er, hB⟩
 ·replace c4 := Bool.eq_false_iff.mpr c4
  subst c4
  have H1 : (some false) = some true := by rw [if_neg (show ¬ (false = true) by decide)] at H; first | done | exact H
  clear H
  have H := H1
  clear H1
  exact absurd H (by simp)
end Go.Proofs.Ytagbnkbhobmgjaa.Fn
end
section
-- Written by a program of this session (a turned copy of the kit's printer, and hand-written parts). Not trusted: Lean checks it.
namespace Go.Proofs.Ytagbnkbhobmgjaa.Fn
open Go.RowKit Go.Proofs.YtagbnkbhobmgjaaW.PrintWords Go.Proofs.YtagbnkbhobmgjaaW.PrintLast Go.Proofs.YtagbnkbhobmgjaaW.PrintMore
attribute [local go_sem] max2_int min2_int max_two min_two max_three min_three max_four min_four   -- for this text's walks alone
set_option linter.unusedVariables false
set_option linter.unusedSimpArgs false
/-! ### flyballlaw02_works: function 23 -/
end Go.Proofs.Ytagbnkbhobmgjaa.Fn
end
section
/- The chapter's own trial of the numbers. -/
set_option linter.unusedVariables false
namespace Go.Proofs.Ytagbnkbhobmgjaa.Pure
open Go.RowKit Go.Proofs.Ytagbnkbhobmgjaa.Fn Go.Proofs.YtagbnkbhobmgjaaW.PrintWords Go.Proofs.YtagbnkbhobmgjaaW.PrintMore Go.Proofs.YtagbnkbhobmgjaaW.PrintLast
end Go.Proofs.Ytagbnkbhobmgjaa.Pure
end
