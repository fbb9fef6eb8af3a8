/- Rational numbers are made in lowest terms, as the document says: of two naturals, of an integer, of an integer times a power of two. Part 11 of 19. -/
import Derived.Test.YtagbnkbhobmgjaaRatioMakesE
import Derived.Test.YtagbnkbhobmgjaaRatioMakesF
import Derived.Test.YtagbnkbhobmgjaaRatioMakesH
import Derived.Test.YtagbnkbhobmgjaaRatioMakesJ
import Derived.Test.YtagbnkbhobmgjaaRatioMakesC
section
namespace Go.Proofs.Ytagbnkbhobmgjaa.Fn
open Go.RowKit Go.Proofs.YtagbnkbhobmgjaaW.PrintWords Go.Proofs.YtagbnkbhobmgjaaW.PrintLast Go.Proofs.YtagbnkbhobmgjaaW.PrintMore
attribute [local go_sem] max2_int min2_int max_two min_two max_three min_three max_four min_four   -- for this text's walks alone
set_option linter.unusedVariables false
set_option linter.unusedSimpArgs false
def nat_Nat_Div.f (k : Nat) (l0 : List Int) (l1 : List Int) : Option (List Int × List Int × Int) := (nat_trim.f k l0).bind fun t101 => ((nat_trim.f k l1).bind fun t104 => (if (t104.length : Int) = 0 then (some (([] : List Int), ([] : List Int), 21)) else ((nat_Nat_Cmp.f k t101 t104).bind fun t107 => (if t107 < 0 then ((slices_Clone.f t101).bind fun t108 => (some (([] : List Int), t108, 0))) else (if (t104.length : Int) = 1 then (if 0 < (t104.length : Int) then ((nat_Nat_short.f k t101 (rd t104 0)).bind fun bt112 => (some (bt112.1, bt112.2, 0))) else (none)) else (if 0 ≤ (wrap64 ((t104.length : Int) - 1)) then (if (wrap64 ((t104.length : Int) - 1)) < (t104.length : Int) then ((bits_LeadingZeros32.f (rd t104 (wrap64 ((t104.length : Int) - 1)))).bind fun t119 => ((nat_shifted.f k t101 t119 (wrap64 ((t101.length : Int) + 1))).bind fun t120 => ((nat_shifted.f k t104 t119 (t104.length : Int)).bind fun t123 => (if 0 ≤ (wrap64 ((wrap64 ((t101.length : Int) - (t104.length : Int))) + 1)) then (if (wrap64 ((wrap64 ((t101.length : Int) - (t104.length : Int))) + 1) : Int).toNat ≤ 70368744177664 then ((nat_divloop.f k (List.replicate (wrap64 ((wrap64 ((t101.length : Int) - (t104.length : Int))) + 1) : Int).toNat 0) t120 t123).bind fun bt129 => ((nat_trim.f k bt129.1).bind fun t131 => ((nat_Nat_Shr.f k bt129.2 t119).bind fun t134 => (some (t131, t134, 0))))) else (none)) else (none))))) else (none)) else (none)))))))
theorem nat_Nat_Div.mono : ∀ a0 a1 k, LeO (nat_Nat_Div.f k a0 a1) (nat_Nat_Div.f (k + 1) a0 a1) := by
 intro a0 a1 k
 unfold nat_Nat_Div.f
 repeat' with_reducible first | exact nat_Nat_Cmp.mono _ _ _ | exact nat_Nat_Shr.mono _ _ _ | exact nat_Nat_short.mono _ _ _ | exact nat_divloop.mono _ _ _ _ | exact nat_shifted.mono _ _ _ _ | exact nat_trim.mono _ _ | exact LeO.refl _ | exact LeO.none _ | refine LeO.ite ?_ ?_ | refine LeO.bind ?_ (fun _ => ?_)
set_option maxHeartbeats 8000000 in
set_option maxRecDepth 100000 in
theorem nat_Nat_Div.calls (k : Nat) (P0_ : Nat → Prop) (A0 : Option Addr) (c0 : Nat) (l0 : List Int) (P1_ : Nat → Prop) (A1 : Option Addr) (c1 : Nat) (l1 : List Int) (r1 : List Int) (r2 : List Int) (r3 : Int) (w : World) (hs0 : Kd.V (Kd.int .u32) 118 w w.heap.size (fun k_ => P0_ k_) (.slice A0 l0.length c0) l0) (hs1 : Kd.V (Kd.int .u32) 118 w w.heap.size (fun k_ => P1_ k_) (.slice A1 l1.length c1) l1) (H : nat_Nat_Div.f k l0 l1 = some (r1, r2, r3)) :
  Calls Try.prog 37 #[.slice A0 l0.length c0, .slice A1 l1.length c1] w fun e w' => ∃ v0_ v1_ : Value, e = .returned (.tuple #[v0_, v1_, .int .i64 r3]) ∧ Kd.V (Kd.int .u32) 118 w' w.heap.size (fun k_ => ((P0_ k_ ∨ P1_ k_) ∨ w.heap.size ≤ k_)) v0_ r1 ∧ Kd.V (Kd.int .u32) 118 w' w.heap.size (fun k_ => ((P0_ k_ ∨ P1_ k_) ∨ w.heap.size ≤ k_)) v1_ r2 ∧ Below w.heap.size w w' := by
 have HO0 := Aside0.mk (show Kd.V (Kd.int .u32) 118 w w.heap.size (fun k_ => ((P0_ k_ ∨ P1_ k_) ∨ w.heap.size ≤ k_)) (.slice A0 l0.length c0) l0 from Kd.V_mono hs0 (fun k_ hk => .inl (.inl hk)))
 have HO1 := Aside0.mk (show Kd.V (Kd.int .u32) 118 w w.heap.size (fun k_ => ((P0_ k_ ∨ P1_ k_) ∨ w.heap.size ≤ k_)) (.slice A1 l1.length c1) l1 from Kd.V_mono hs1 (fun k_ hk => .inl (.inr hk)))
 have HB := Aside0.mk (Below.refl w.heap.size w)
 unfold nat_Nat_Div.f at H
 replace H := bi H
 obtain ⟨t101, A3, H⟩ := H
 replace H := bi H
 obtain ⟨t104, A4, H⟩ := H
 by_cases c5 : (t104.length : Int) = 0
 ·rw [if_pos c5] at H
  obtain ⟨c5b0, c5b1⟩ := bqT c5
  clear c5
  simp only [Option.some.injEq, Prod.mk.injEq] at H
  obtain ⟨rfl, rfl, rfl⟩ := H
  go_enter Try.func37, Try.ntmps37
  go_wp2_with (first | ((with_reducible refine gc 109 rfl ?_); refine gL 15 Try.func109 #[.slice A0 l0.length c0] ?_; (with_reducible refine (nat_trim.calls k (fun k_ => ((P0_ k_ ∨ P1_ k_) ∨ w.heap.size ≤ k_)) _ _ l0 t101 _ ?_ A3.out).mono ?_); exact HO0.out; rintro e w6 ⟨v102, rfl, ho0, hb⟩; refine ⟨_, rfl, ?_⟩; replace HO0 := vA HO0 hb; replace HO1 := vA HO1 hb; have HO103 := lw HB (fun k_ => ((P0_ k_ ∨ P1_ k_) ∨ w.heap.size ≤ k_)) ho0 (fun k_ hk_ => Or.elim hk_ id (fun hn_ => .inr (Nat.le_trans (below_size (bup HB.out)) hn_))); replace HB := bA HB hb; clear hb ho0) | ((with_reducible refine gc 109 rfl ?_); refine gL 17 Try.func109 #[.slice A1 l1.length c1] ?_; (with_reducible refine (nat_trim.calls k (fun k_ => ((P0_ k_ ∨ P1_ k_) ∨ w.heap.size ≤ k_)) _ _ l1 t104 _ ?_ A4.out).mono ?_); exact HO1.out; rintro e w7 ⟨v105, rfl, ho0, hb⟩; refine ⟨_, rfl, ?_⟩; replace HO0 := vA HO0 hb; replace HO1 := vA HO1 hb; replace HO103 := vA HO103 hb; have HO106 := lw HB (fun k_ => ((P0_ k_ ∨ P1_ k_) ∨ w.heap.size ≤ k_)) ho0 (fun k_ hk_ => Or.elim hk_ id (fun hn_ => .inr (Nat.le_trans (below_size (bup HB.out)) hn_))); replace HB := bA HB hb; clear hb ho0; obtain ⟨Ao8, co8, eo8⟩ := Kd.V_slice HO106.out; subst eo8))
  go_ret3
  exact ⟨_, _, er, Kd.V_mono (Kd.V_nil _ _ _ _ _) (fun k_ hk => by first | exact ⟨(.inr (hk.1)), hk.2⟩ | exact (.inr (hk))), Kd.V_mono (Kd.V_nil _ _ _ _ _) (fun k_ hk => by first | exact ⟨(.inr (hk.1)), hk.2⟩ | exact (.inr (hk))), bup HB.out⟩
 rw [if_neg c5] at H
 obtain ⟨c5b0, c5b1⟩ := bqF c5
 have c5b2 : ¬ (t104 = []) := fun h_ => c5 (by rw [h_]; rfl)
 replace H := bi H
 obtain ⟨t107, A9, H⟩ := H
 by_cases c10 : t107 < 0
 ·rw [if_pos c10] at H
  have c10b0 : decide (t107 < 0) = true := decide_eq_true c10
  clear c10
  replace H := bi H
  obtain ⟨t108, A11, H⟩ := H
  simp only [Option.some.injEq, Prod.mk.injEq] at H
  obtain ⟨rfl, rfl, rfl⟩ := H
  go_enter Try.func37, Try.ntmps37
  go_wp2_with (first | ((with_reducible refine gc 109 rfl ?_); refine gL 15 Try.func109 #[.slice A0 l0.length c0] ?_; (with_reducible refine (nat_trim.calls k (fun k_ => ((P0_ k_ ∨ P1_ k_) ∨ w.heap.size ≤ k_)) _ _ l0 t101 _ ?_ A3.out).mono ?_); exact HO0.out; rintro e w12 ⟨v102, rfl, ho0, hb⟩; refine ⟨_, rfl, ?_⟩; replace HO0 := vA HO0 hb; replace HO1 := vA HO1 hb; have HO103 := lw HB (fun k_ => ((P0_ k_ ∨ P1_ k_) ∨ w.heap.size ≤ k_)) ho0 (fun k_ hk_ => Or.elim hk_ id (fun hn_ => .inr (Nat.le_trans (below_size (bup HB.out)) hn_))); replace HB := bA HB hb; clear hb ho0) | ((with_reducible refine gc 109 rfl ?_); refine gL 17 Try.func109 #[.slice A1 l1.length c1] ?_; (with_reducible refine (nat_trim.calls k (fun k_ => ((P0_ k_ ∨ P1_ k_) ∨ w.heap.size ≤ k_)) _ _ l1 t104 _ ?_ A4.out).mono ?_); exact HO1.out; rintro e w13 ⟨v105, rfl, ho0, hb⟩; refine ⟨_, rfl, ?_⟩; replace HO0 := vA HO0 hb; replace HO1 := vA HO1 hb; replace HO103 := vA HO103 hb; have HO106 := lw HB (fun k_ => ((P0_ k_ ∨ P1_ k_) ∨ w.heap.size ≤ k_)) ho0 (fun k_ hk_ => Or.elim hk_ id (fun hn_ => .inr (Nat.le_trans (below_size (bup HB.out)) hn_))); replace HB := bA HB hb; clear hb ho0; obtain ⟨Ao14, co14, eo14⟩ := Kd.V_slice HO106.out; subst eo14; obtain ⟨Ao15, co15, eo15⟩ := Kd.V_slice HO103.out; subst eo15) | ((with_reducible refine gc 33 rfl ?_); refine gL 25 Try.func33 #[.slice Ao15 t101.length co15, .slice Ao14 t104.length co14] ?_; (with_reducible refine (nat_Nat_Cmp.calls k _ _ t101 _ _ t104 t107 _ ?_ ?_ ?_ ?_ A9.out).mono ?_); exact cup ((Kd.V_reads' HO103.out).2.2); exact (Kd.V_reads' HO103.out).2.1; exact cup ((Kd.V_reads' HO106.out).2.2); exact (Kd.V_reads' HO106.out).2.1; rintro e w16 ⟨rfl, hb⟩; refine ⟨_, rfl, ?_⟩; replace HO0 := vA HO0 hb; replace HO1 := vA HO1 hb; replace HO103 := vA HO103 hb; replace HO106 := vA HO106 hb; replace HB := bA HB hb; clear hb) | ((with_reducible refine gc 110 rfl ?_); refine gL 28 Try.func110 #[.slice Ao15 t101.length co15] ?_; (with_reducible refine (slices_Clone.calls _ _ t101 t108 _ ?_ ?_ A11.out).mono ?_); exact cup ((Kd.V_reads' HO103.out).2.2); exact (Kd.V_reads' HO103.out).2.1; rintro e w17 ⟨v109, rfl, ho0, hb⟩; refine ⟨_, rfl, ?_⟩; replace HO0 := vA HO0 hb; replace HO1 := vA HO1 hb; replace HO103 := vA HO103 hb; replace HO106 := vA HO106 hb; have HO110 := lw HB (fun k_ => ((P0_ k_ ∨ P1_ k_) ∨ w.heap.size ≤ k_)) ho0 (fun k_ hk_ => (.inr (Nat.le_trans (below_size (bup HB.out)) hk_))); replace HB := bA HB hb; clear hb ho0))
  go_ret3
  exact ⟨_, _, er, Kd.V_mono (Kd.V_nil _ _ _ _ _) (fun k_ hk => by first | exact ⟨(.inr (hk.1)), hk.2⟩ | exact (.inr (hk))), vup HO110.out, bup HB.out⟩
 rw [if_neg c10] at H
 have c10b0 : decide (t107 < 0) = false := decide_eq_false c10
 clear c10
 by_cases c18 : (t104.length : Int) = 1
 ·rw [if_pos c18] at H
  obtain ⟨c18b0, c18b1⟩ := bqT c18
  clear c18
  replace H := iS H
  obtain ⟨c19, H⟩ := H
  have c19b0 : decide (0 < (t104.length : Int)) = true := decide_eq_true c19
  have c19b1 : decide (0 < t104.length) = true := decide_eq_true (by omega)
  clear c19
  replace H := bi H
  obtain ⟨⟨t112, t115⟩, A20, H⟩ := H
  try dsimp only at H
  simp only [Option.some.injEq, Prod.mk.injEq] at H
  obtain ⟨rfl, rfl, rfl⟩ := H
  go_enter Try.func37, Try.ntmps37
  go_wp2_with (first | ((with_reducible refine gc 109 rfl ?_); refine gL 15 Try.func109 #[.slice A0 l0.length c0] ?_; (with_reducible refine (nat_trim.calls k (fun k_ => ((P0_ k_ ∨ P1_ k_) ∨ w.heap.size ≤ k_)) _ _ l0 t101 _ ?_ A3.out).mono ?_); exact HO0.out; rintro e w21 ⟨v102, rfl, ho0, hb⟩; refine ⟨_, rfl, ?_⟩; replace HO0 := vA HO0 hb; replace HO1 := vA HO1 hb; have HO103 := lw HB (fun k_ => ((P0_ k_ ∨ P1_ k_) ∨ w.heap.size ≤ k_)) ho0 (fun k_ hk_ => Or.elim hk_ id (fun hn_ => .inr (Nat.le_trans (below_size (bup HB.out)) hn_))); replace HB := bA HB hb; clear hb ho0) | ((with_reducible refine gc 109 rfl ?_); refine gL 17 Try.func109 #[.slice A1 l1.length c1] ?_; (with_reducible refine (nat_trim.calls k (fun k_ => ((P0_ k_ ∨ P1_ k_) ∨ w.heap.size ≤ k_)) _ _ l1 t104 _ ?_ A4.out).mono ?_); exact HO1.out; rintro e w22 ⟨v105, rfl, ho0, hb⟩; refine ⟨_, rfl, ?_⟩; replace HO0 := vA HO0 hb; replace HO1 := vA HO1 hb; replace HO103 := vA HO103 hb; have HO106 := lw HB (fun k_ => ((P0_ k_ ∨ P1_ k_) ∨ w.heap.size ≤ k_)) ho0 (fun k_ hk_ => Or.elim hk_ id (fun hn_ => .inr (Nat.le_trans (below_size (bup HB.out)) hn_))); replace HB := bA HB hb; clear hb ho0; obtain ⟨Ao23, co23, eo23⟩ := Kd.V_slice HO106.out; subst eo23; obtain ⟨Ao24, co24, eo24⟩ := Kd.V_slice HO103.out; subst eo24) | ((with_reducible refine gc 33 rfl ?_); refine gL 25 Try.func33 #[.slice Ao24 t101.length co24, .slice Ao23 t104.length co23] ?_; (with_reducible refine (nat_Nat_Cmp.calls k _ _ t101 _ _ t104 t107 _ ?_ ?_ ?_ ?_ A9.out).mono ?_); exact cup ((Kd.V_reads' HO103.out).2.2); exact (Kd.V_reads' HO103.out).2.1; exact cup ((Kd.V_reads' HO106.out).2.2); exact (Kd.V_reads' HO106.out).2.1; rintro e w25 ⟨rfl, hb⟩; refine ⟨_, rfl, ?_⟩; replace HO0 := vA HO0 hb; replace HO1 := vA HO1 hb; replace HO103 := vA HO103 hb; replace HO106 := vA HO106 hb; replace HB := bA HB hb; clear hb; have p111 : 0 ≤ (0 : Int) := (by omega); have q111 : 0 < (t104.length : Int) := of_decide_eq_true asm; obtain ⟨ad111, e111, hx111_0⟩ := Kd.at_int (Kd.V_reads' HO106.out).2.2 0 p111 q111; cases e111; have qi111 : (0 < t104.length) = True := eq_true (by omega); (try rw [show ((0 : Int)).toNat = 0 from rfl] at hx111_0); (try rw [Addr.add_zero'] at hx111_0); replace p111 := eq_true p111; replace q111 := eq_true q111) | ((with_reducible refine gc 111 rfl ?_); refine gL 38 Try.func111 #[.slice Ao24 t101.length co24, .int .u32 (rd t104 0)] ?_; (with_reducible refine (nat_Nat_short.calls k _ _ t101 (rd t104 0) t112 t115 _ ?_ ?_ A20.out).mono ?_); exact cup ((Kd.V_reads' HO103.out).2.2); exact (Kd.V_reads' HO103.out).2.1; rintro e w26 ⟨v113, v116, rfl, ho0, ho1, hb⟩; refine ⟨_, rfl, ?_⟩; replace HO0 := vA HO0 hb; replace HO1 := vA HO1 hb; replace HO103 := vA HO103 hb; replace HO106 := vA HO106 hb; have HO114 := lw HB (fun k_ => ((P0_ k_ ∨ P1_ k_) ∨ w.heap.size ≤ k_)) ho0 (fun k_ hk_ => (.inr (Nat.le_trans (below_size (bup HB.out)) hk_))); have HO117 := lw HB (fun k_ => ((P0_ k_ ∨ P1_ k_) ∨ w.heap.size ≤ k_)) ho1 (fun k_ hk_ => (.inr (Nat.le_trans (below_size (bup HB.out)) hk_))); replace HB := bA HB hb; clear hb ho0 ho1))
  go_ret3
  exact ⟨_, _, er, vup HO114.out, vup HO117.out, bup HB.out⟩
 rw [if_neg c18] at H
 obtain ⟨c18b0, c18b1⟩ := bqF c18
 obtain ⟨ji27, hji27⟩ : ∃ j_ : Int, (wrap64 ((t104.length : Int) - 1)) = j_ := ⟨_, rfl⟩
 replace H : (if 0 ≤ (ji27) then (if (ji27) < (t104.length : Int) then ((bits_LeadingZeros32.f (rd t104 (ji27))).bind fun t119 => ((nat_shifted.f k t101 t119 (wrap64 ((t101.length : Int) + 1))).bind fun t120 => ((nat_shifted.f k t104 t119 (t104.length : Int)).bind fun t123 => (if 0 ≤ (wrap64 ((wrap64 ((t101.length : Int) - (t104.length : Int))) + 1)) then (if (wrap64 ((wrap64 ((t101.length : Int) - (t104.length : Int))) + 1) : Int).toNat ≤ 70368744177664 then ((nat_divloop.f k (List.replicate (wrap64 ((wrap64 ((t101.length : Int) - (t104.length : Int))) + 1) : Int).toNat 0) t120 t123).bind fun bt129 => ((nat_trim.f k bt129.1).bind fun t131 => ((nat_Nat_Shr.f k bt129.2 t119).bind fun t134 => (some (t131, t134, 0))))) else (none)) else (none))))) else (none)) else (none)) = some (r1, r2, r3) := by first | (rw [hji27] at H; exact H) | (simp only [hji27] at H ⊢; exact H)
 (try rw [hji27] at A3)
 (try rw [hji27] at A4)
 (try rw [hji27] at A9)
 have hji27w : (IntKind.i64.wrap ((t104.length : Int) - 1)) = ji27 := (i64_w _).trans hji27
 replace H := iS H
 obtain ⟨c28, H⟩ := H
 have c28b0 : decide (0 ≤ (ji27)) = true := decide_eq_true c28
 clear c28
 replace H := iS H
 obtain ⟨c29, H⟩ := H
 have c29b0 : decide ((ji27) < (t104.length : Int)) = true := decide_eq_true c29
 clear c29
 replace H := bi H
 obtain ⟨t119, A30, H⟩ := H
 replace H := bi H
 obtain ⟨t120, A31, H⟩ := H
 replace H := bi H
 obtain ⟨t123, A32, H⟩ := H
 obtain ⟨ji33, hji33⟩ : ∃ j_ : Int, (wrap64 ((wrap64 ((t101.length : Int) - (t104.length : Int))) + 1)) = j_ := ⟨_, rfl⟩
 replace H : (if 0 ≤ (ji33) then (if (ji33 : Int).toNat ≤ 70368744177664 then ((nat_divloop.f k (List.replicate (ji33 : Int).toNat 0) t120 t123).bind fun bt129 => ((nat_trim.f k bt129.1).bind fun t131 => ((nat_Nat_Shr.f k bt129.2 t119).bind fun t134 => (some (t131, t134, 0))))) else (none)) else (none)) = some (r1, r2, r3) := by first | (rw [hji33] at H; exact H) | (simp only [hji33] at H ⊢; exact H)
 (try rw [hji33] at A3)
 (try rw [hji33] at A4)
 (try rw [hji33] at A9)
 (try rw [hji33] at A30)
 (try rw [hji33] at A31)
 (try rw [hji33] at A32)
 have hji33w : (IntKind.i64.wrap ((wrap64 ((t101.length : Int) - (t104.length : Int))) + 1)) = ji33 := (i64_w _).trans hji33
 replace H := iS H
 obtain ⟨c34, H⟩ := H
 have c34b0 := eq_true c34
 have c34b1 : decide (0 ≤ (ji33)) = true := decide_eq_true c34
 clear c34
 replace H := iS H
 obtain ⟨c35, H⟩ := H
 have c35b0 := eq_true c35
 have c35b1 : decide ((ji33 : Int).toNat ≤ 70368744177664) = true := decide_eq_true c35
 clear c35
 obtain ⟨y126, hy126⟩ : ∃ y_ : List Int, y_ = (List.replicate (ji33 : Int).toNat 0) := ⟨_, rfl⟩
 replace H : ((nat_divloop.f k y126 t120 t123).bind fun bt129 => ((nat_trim.f k bt129.1).bind fun t131 => ((nat_Nat_Shr.f k bt129.2 t119).bind fun t134 => (some (t131, t134, 0))))) = some (r1, r2, r3) := by first | (rw [hy126]; with_reducible exact H) | (have H2_ := (Option.bind_some _ _).symm.trans H; rw [hy126]; with_reducible exact H2_) | (have H2_ := (Option.bind_some _ _).symm.trans H; with_reducible exact H2_) | with_reducible exact H | (rw [hy126]; exact H) | exact H
 have Ny126 := Aside0.mk hy126
 clear hy126
 replace H := bi H
 obtain ⟨⟨t129, t130⟩, A36, H⟩ := H
 try dsimp only at H
 replace H := bi H
 obtain ⟨t131, A37, H⟩ := H
 replace H := bi H
 obtain ⟨t134, A38, H⟩ := H
 simp only [Option.some.injEq, Prod.mk.injEq] at H
 obtain ⟨rfl, rfl, rfl⟩ := H
 go_enter Try.func37, Try.ntmps37
 go_wp2_with (first | ((with_reducible refine gc 109 rfl ?_); refine gL 15 Try.func109 #[.slice A0 l0.length c0] ?_; (with_reducible refine (nat_trim.calls k (fun k_ => ((P0_ k_ ∨ P1_ k_) ∨ w.heap.size ≤ k_)) _ _ l0 t101 _ ?_ A3.out).mono ?_); exact HO0.out; rintro e w39 ⟨v102, rfl, ho0, hb⟩; refine ⟨_, rfl, ?_⟩; replace HO0 := vA HO0 hb; replace HO1 := vA HO1 hb; have HO103 := lw HB (fun k_ => ((P0_ k_ ∨ P1_ k_) ∨ w.heap.size ≤ k_)) ho0 (fun k_ hk_ => Or.elim hk_ id (fun hn_ => .inr (Nat.le_trans (below_size (bup HB.out)) hn_))); replace HB := bA HB hb; clear hb ho0) | ((with_reducible refine gc 109 rfl ?_); refine gL 17 Try.func109 #[.slice A1 l1.length c1] ?_; (with_reducible refine (nat_trim.calls k (fun k_ => ((P0_ k_ ∨ P1_ k_) ∨ w.heap.size ≤ k_)) _ _ l1 t104 _ ?_ A4.out).mono ?_); exact HO1.out; rintro e w40 ⟨v105, rfl, ho0, hb⟩; refine ⟨_, rfl, ?_⟩; replace HO0 := vA HO0 hb; replace HO1 := vA HO1 hb; replace HO103 := vA HO103 hb; have HO106 := lw HB (fun k_ => ((P0_ k_ ∨ P1_ k_) ∨ w.heap.size ≤ k_)) ho0 (fun k_ hk_ => Or.elim hk_ id (fun hn_ => .inr (Nat.le_trans (below_size (bup HB.out)) hn_))); replace HB := bA HB hb; clear hb ho0; obtain ⟨Ao41, co41, eo41⟩ := Kd.V_slice HO106.out; subst eo41; obtain ⟨Ao42, co42, eo42⟩ := Kd.V_slice HO103.out; subst eo42) | ((with_reducible refine gc 33 rfl ?_); refine gL 25 Try.func33 #[.slice Ao42 t101.length co42, .slice Ao41 t104.length co41] ?_; (with_reducible refine (nat_Nat_Cmp.calls k _ _ t101 _ _ t104 t107 _ ?_ ?_ ?_ ?_ A9.out).mono ?_); exact cup ((Kd.V_reads' HO103.out).2.2); exact (Kd.V_reads' HO103.out).2.1; exact cup ((Kd.V_reads' HO106.out).2.2); exact (Kd.V_reads' HO106.out).2.1; rintro e w43 ⟨rfl, hb⟩; refine ⟨_, rfl, ?_⟩; replace HO0 := vA HO0 hb; replace HO1 := vA HO1 hb; replace HO103 := vA HO103 hb; replace HO106 := vA HO106 hb; replace HB := bA HB hb; clear hb; have p118 : 0 ≤ ((ji27) : Int) := of_decide_eq_true asm; have q118 : (ji27) < (t104.length : Int) := of_decide_eq_true asm; obtain ⟨ad118, e118, hx118_0⟩ := Kd.at_int (Kd.V_reads' HO106.out).2.2 (ji27) p118 q118; cases e118; replace p118 := eq_true p118; replace q118 := eq_true q118) | ((with_reducible refine gc 112 rfl ?_); refine goesL_ (some 49) rfl rfl Try.func112 (by kernel_rfl) rfl #[.int .u32 (rd t104 (ji27))] rfl (by (try simp only [List.map_toArray, List.map_cons, List.map_nil]); first | done | (simp only [hji27]; rfl) | rfl | (simp only [List.length_drop, List.length_take]; rfl)) ?_; (with_reducible refine (bits_LeadingZeros32.calls (rd t104 (ji27)) t119 _ A30.out).mono ?_); rintro e w' ⟨rfl, ⟨nd, rfl⟩⟩; refine ⟨_, rfl, ?_⟩) | ((with_reducible refine gc 113 rfl ?_); refine gL 55 Try.func113 #[.slice Ao42 t101.length co42, .int .i64 t119, .int .i64 (wrap64 ((t101.length : Int) + 1))] ?_; (with_reducible refine (nat_shifted.calls k _ _ t101 t119 (wrap64 ((t101.length : Int) + 1)) t120 _ ?_ ?_ A31.out).mono ?_); exact cup ((Kd.V_reads' HO103.out).2.2); exact (Kd.V_reads' HO103.out).2.1; rintro e w44 ⟨v121, rfl, ho0, hb⟩; refine ⟨_, rfl, ?_⟩; replace HO0 := Aside0.mk (Kd.V_elder' (vup HO0.out) (Kd.R_base ho0) hb); replace HO1 := Aside0.mk (Kd.V_elder' (vup HO1.out) (Kd.R_base ho0) hb); replace HO103 := Aside0.mk (Kd.V_elder' (vup HO103.out) (Kd.R_base ho0) hb); replace HO106 := Aside0.mk (Kd.V_elder' (vup HO106.out) (Kd.R_base ho0) hb); have HO122 := Aside0.mk (Kd.R_lower (Kd.R_newM (M := fun k_ => (w.heap.size ≤ k_)) ho0 (below_size (bup HB.out)) (fun k_ h_ => h_)) (below_size (bup HB.out))); replace HB := bA HB hb; clear hb ho0) | ((with_reducible refine gc 113 rfl ?_); refine gL 60 Try.func113 #[.slice (some ad118) t104.length co41, .int .i64 t119, .int .i64 (t104.length : Int)] ?_; (with_reducible refine (nat_shifted.calls k _ _ t104 t119 (t104.length : Int) t123 _ ?_ ?_ A32.out).mono ?_); exact cup ((Kd.V_reads' HO106.out).2.2); exact (Kd.V_reads' HO106.out).2.1; rintro e w45 ⟨v124, rfl, ho0, hb⟩; refine ⟨_, rfl, ?_⟩; replace HO0 := Aside0.mk (Kd.V_elder' (vup HO0.out) (Kd.R_base ho0) hb); replace HO1 := Aside0.mk (Kd.V_elder' (vup HO1.out) (Kd.R_base ho0) hb); replace HO103 := Aside0.mk (Kd.V_elder' (vup HO103.out) (Kd.R_base ho0) hb); replace HO106 := Aside0.mk (Kd.V_elder' (vup HO106.out) (Kd.R_base ho0) hb); have HO125 := Aside0.mk (Kd.R_lower (Kd.R_new' (Kd.R_newM (M := fun k_ => (w.heap.size ≤ k_)) ho0 (below_size (bup HB.out)) (fun k_ h_ => h_)) (Kd.R_lt (rup HO122.out))) (below_size (bup HB.out))); replace HO122 := Aside0.mk (Kd.R_elder' (rup HO122.out) (Kd.R_base ho0) hb); replace HB := bA HB hb; clear hb ho0) | ((with_reducible refine gd 67 rfl ?_); refine Kd.R_make (Kd.int .u32) _ 118 rfl (N := 67) rfl 22 _ _ rfl ji33 rfl rfl Try.underlying22 (.int .u32 0) 4 info118 rfl (by decide) (by omega) 0 (ok := fun _ => True) (okp := fun _ => True) rfl (fun _ hk => hk) trivial (of_decide_eq_true asm) (Nat.le_trans (Nat.mul_le_mul_right _ (of_decide_eq_true asm : ji33.toNat ≤ 70368744177664)) (by omega)) (Below.refl _ _) (Nat.le_refl _) ?_; intro v127 w46 ho47 hb hg_ hnew_; clear hg_ hnew_; (first | rw [← Ny126.out] at ho47 | (simp only [Int.reduceToNat] at ho47; rw [← Ny126.out] at ho47)); replace HO0 := Aside0.mk (Kd.V_elder' (vup HO0.out) (Kd.R_base ho47) hb); replace HO1 := Aside0.mk (Kd.V_elder' (vup HO1.out) (Kd.R_base ho47) hb); replace HO103 := Aside0.mk (Kd.V_elder' (vup HO103.out) (Kd.R_base ho47) hb); replace HO106 := Aside0.mk (Kd.V_elder' (vup HO106.out) (Kd.R_base ho47) hb); have HO128 := Aside0.mk (Kd.R_lower (Kd.R_new' (Kd.R_new' (Kd.R_newM (M := fun k_ => (w.heap.size ≤ k_)) ho47 (below_size (bup HB.out)) (fun k_ h_ => h_)) (Kd.R_lt (rup HO122.out))) (Kd.R_lt (rup HO125.out))) (below_size (bup HB.out))); replace HO122 := Aside0.mk (Kd.R_elder' (rup HO122.out) (Kd.R_base ho47) hb); replace HO125 := Aside0.mk (Kd.R_elder' (rup HO125.out) (Kd.R_base ho47) hb); replace HB := bA HB hb; clear hb ho47; obtain ⟨Ao48, co48, eo48⟩ := Kd.R_slice HO128.out; subst eo48; obtain ⟨Ao49, co49, eo49⟩ := Kd.R_slice HO122.out; subst eo49; obtain ⟨Ao50, co50, eo50⟩ := Kd.R_slice HO125.out; subst eo50))
 have H36 := A36.out
 unfold nat_divloop.f at H36
 by_cases hnum : 0 < t120.length
 ·rw [if_pos hnum] at H36
  obtain ⟨gN, cN, eN, gbN, glN, clN, HGN⟩ := Kd.R_form HO122.out hnum
  injection eN with eN1 eN3 eN2
  subst eN1
  subst eN2
  clear eN3
  have H' := Aside0.mk H36
  have GBN := Aside0.mk gbN
  clear H36 hnum gbN glN HGN
  obtain ⟨i0, hi0, hz0⟩ := Option.map_eq_some_iff.1 info118
  simp only [Prod.mk.injEq] at hz0
  have HI0 := Aside0.mk hi0
  have HZ0 := Aside0.mk hz0.2.1
  clear hi0 hz0
  go_loopg [13] k (fun kq v13 wl => ∃ (xq xn : List Int) (xi : Int), v13 = .int .i64 xi ∧ Aside0 (nat_divloop.l0 kq xq xn t123 xi = some (t129, t130)) ∧ Aside0 (kq ≤ k) ∧ Aside0 (Kd.R (Kd.int .u32) 118 wl w.heap.size (fun k_ => (((w.heap.size ≤ k_) ∧ True) ∧ some k_ ≠ (.slice (some ⟨gN, 0, none⟩) t120.length co49 : Value).ownBlock) ∧ some k_ ≠ (.slice Ao50 t123.length co50 : Value).ownBlock) (.slice Ao48 y126.length co48) xq) ∧ Aside0 (Kd.R (Kd.int .u32) 118 wl w.heap.size (fun k_ => k_ = gN) (.slice (some ⟨gN, 0, none⟩) t120.length co49) xn) ∧ Aside0 (Kd.R (Kd.int .u32) 118 wl w.heap.size (fun k_ => (w.heap.size ≤ k_) ∧ k_ ≠ gN ∧ some k_ ≠ (.slice Ao48 y126.length co48 : Value).ownBlock) (.slice Ao50 t123.length co50) t123) ∧ Aside0 (Below w.heap.size w wl))
  case atStart => exact ⟨y126, t120, (y126.length : Int) - 1, (by first | rfl | (simp; done) | (have hq_ := (Kd.R_reads' HO128.out).2.2.2.1; congr 1; unfold wrap64; omega)), H', ⟨Nat.le_refl _⟩, ⟨Kd.R_mono HO128.out (fun k_ hk_ => ⟨⟨⟨hk_.1.1.1, trivial⟩, hk_.1.2⟩, hk_.2⟩)⟩, ⟨Kd.R_mono (Kd.R_tight rfl HO122.out) (fun k_ e_ => by injection e_)⟩, ⟨Kd.R_mono HO125.out (fun k_ hk_ => ⟨hk_.1.1.1, fun e_ => hk_.1.2 (by rw [e_]; rfl), hk_.2⟩)⟩, ⟨(bup HB.out)⟩⟩
  case round =>
   clear H' HO0 HO1 HO103 HO106 HO122 HO125 HO128 HB
   obtain ⟨xq, xn, xi, rfl, HA, HK1, Rq, Rn, Rd, HB⟩ := hrel
   have HLQ := Aside0.mk (Kd.R_reads' Rq.out).1
   have HLN := Aside0.mk (Kd.R_reads' Rn.out).1
   cases gk with
   | zero => exact absurd HA.out (by simp [nat_divloop.l0])
   | succ k1 =>
   have H := HA.out
   clear HA
   simp only [nat_divloop.l0] at H
   by_cases c0 : 0 ≤ xi
   rotate_left
   ·rw [if_neg c0] at H
    simp only [Option.some.injEq, Prod.mk.injEq] at H
    obtain ⟨e1_, e2_⟩ := H
    replace e1_ := e1_.symm
    replace e2_ := e2_.symm
    subst e1_
    subst e2_
    clear HLQ HLN
    have c0b : decide (0 ≤ xi) = false := decide_eq_false c0
    have HO0 := Aside0.mk (Kd.V_nil (Kd.int .u32) 118 wr w.heap.size (fun _ => True))
    have HO1 := HO0
    have HO103 := HO0
    have HO106 := HO0
    have HO122 := Rn
    have HO125 := Rd
    have HO128 := Rq
    clear Rn Rd Rq c0
    go_wp2_with (first | ((with_reducible refine gc 109 rfl ?_); refine goesL_ (some 89) rfl rfl Try.func109 (by kernel_rfl) rfl #[.slice Ao48 t129.length co48] rfl (by (try simp only [List.map_toArray, List.map_cons, List.map_nil]); first | done | (rw [show t129.length = y126.length from (Kd.R_reads' HO128.out).1.symm] <;> rfl) | rfl | (simp only [List.length_drop, List.length_take]; rfl)) ?_; (with_reducible refine (nat_trim.calls k (fun k_ => some k_ = (.slice Ao48 y126.length co48 : Value).ownBlock) _ _ t129 t131 _ ?_ A37.out).mono ?_); (rw [show t129.length = y126.length from (Kd.R_reads' HO128.out).1.symm]; exact Kd.R_V (Kd.R_tight rfl (HO128.out))); rintro e w52 ⟨v132, rfl, ho0, hb⟩; refine ⟨_, rfl, ?_⟩; replace HO0 := vA HO0 hb; replace HO1 := vA HO1 hb; replace HO103 := vA HO103 hb; replace HO106 := vA HO106 hb; have HO133 := lw HB (fun k_ => ((P0_ k_ ∨ P1_ k_) ∨ w.heap.size ≤ k_) ∧ some k_ ≠ (.slice (some ⟨gN, 0, none⟩ : Option Addr) t120.length co49 : Value).ownBlock ∧ some k_ ≠ (.slice Ao50 t123.length co50 : Value).ownBlock) ho0 (fun k_ hk_ => Or.elim hk_ (fun hs_ => ⟨.inr (((HO128.out).1 k_ hs_.symm).1.1.1), ((HO128.out).1 k_ hs_.symm).1.2, ((HO128.out).1 k_ hs_.symm).2⟩) (fun hn_ => ⟨.inr (Nat.le_trans (below_size (bup HB.out)) hn_), Kd.fresh' (Kd.R_lt (rup HO122.out)) k_ hn_, Kd.fresh' (Kd.R_lt (rup HO125.out)) k_ hn_⟩)); replace HO122 := rA HO122 hb; replace HO125 := rA HO125 hb; replace HO128 := rA HO128 hb; replace HB := bA HB hb; clear hb ho0) | ((with_reducible refine gc 39 rfl ?_); refine goesL_ (some 92) rfl rfl Try.func39 (by kernel_rfl) rfl #[.slice (some ⟨gN, 0, none⟩ : Option Addr) t130.length co49, .int .i64 t119] rfl (by (try simp only [List.map_toArray, List.map_cons, List.map_nil]); first | done | (rw [show t130.length = t120.length from (Kd.R_reads' HO122.out).1.symm] <;> rfl) | rfl | (simp only [List.length_drop, List.length_take]; rfl)) ?_; (with_reducible refine (nat_Nat_Shr.calls k _ _ t130 t119 t134 _ ?_ ?_ A38.out).mono ?_); exact cup ((Kd.R_reads' HO122.out).2.2); (rw [show t130.length = t120.length from (Kd.R_reads' HO122.out).1.symm]; exact (Kd.R_reads' HO122.out).2.1); rintro e w53 ⟨v135, rfl, ho0, hb⟩; refine ⟨_, rfl, ?_⟩; replace HO0 := vA HO0 hb; replace HO1 := vA HO1 hb; replace HO103 := vA HO103 hb; replace HO106 := vA HO106 hb; replace HO133 := vA HO133 hb; have HO136 := lw HB (fun k_ => ((P0_ k_ ∨ P1_ k_) ∨ w.heap.size ≤ k_) ∧ some k_ ≠ (.slice (some ⟨gN, 0, none⟩ : Option Addr) t120.length co49 : Value).ownBlock ∧ some k_ ≠ (.slice Ao50 t123.length co50 : Value).ownBlock ∧ some k_ ≠ (.slice Ao48 y126.length co48 : Value).ownBlock) ho0 (fun k_ hk_ => ⟨(.inr (Nat.le_trans (below_size (bup HB.out)) hk_)), (Kd.fresh' (Kd.R_lt (rup HO122.out)) k_ hk_), (Kd.fresh' (Kd.R_lt (rup HO125.out)) k_ hk_), (Kd.fresh' (Kd.R_lt (rup HO128.out)) k_ hk_)⟩); replace HO122 := rA HO122 hb; replace HO125 := rA HO125 hb; replace HO128 := rA HO128 hb; replace HB := bA HB hb; clear hb ho0))
    go_ret3
    exact ⟨_, _, by first | rfl | (simp [errW_none, errW_some] <;> rfl) | (simp only [← hji27, ← hji33]; first | rfl | (simp [errW_none, errW_some] <;> rfl)) | (simp [*, errW_none, errW_some] <;> rfl), by (with_reducible repeat (first | apply Kd.V_alloc | apply Kd.V_drewN | apply Kd.V_drew)); exact Kd.V_mono HO133.out (fun _ hk => hk.1), by (with_reducible repeat (first | apply Kd.V_alloc | apply Kd.V_drewN | apply Kd.V_drew)); exact Kd.V_mono HO136.out (fun _ hk => hk.1), bup HB.out⟩
   rw [if_pos c0] at H
   by_cases c1 : xi.toNat + (t123.length + 1) ≤ xn.length
   ·rw [if_pos c1] at H
    by_cases c2 : xi < (xq.length : Int)
    ·rw [if_pos c2] at H
     obtain ⟨⟨x1, ys⟩, hstep, H⟩ := Option.bind_eq_some_iff.mp H
     dsimp only at H
     have hmn := (Kd.R_reads' Rn.out).2.2.2.1
     have hcn := (Kd.R_reads' Rn.out).2.1
     have hw64 : wrap64 (wrap64 (xi + (t123.length : Int)) + 1) = xi + (t123.length : Int) + 1 := by unfold wrap64; omega
     have hcutU : ∀ W : World, (Instr.slice 22 (.slice (some ⟨gN, 0, none⟩) t120.length co49) (some (.int .i64 xi)) (some (.int .i64 (xi + (t123.length : Int) + 1))) none).run Try.prog W = .ok (.slice (some ⟨gN, xi.toNat, none⟩) (t123.length + 1) (co49 - xi.toNat)) W := by
      intro W
      have hcm := cut_mid (P := Try.prog) 22 118 .i64 .i64 Try.underlying22 HI0.out 1 HZ0.out (some ⟨gN, 0, none⟩) t120.length co49 xi (xi + (t123.length : Int) + 1) c0 (by omega) (by have := HLN.out; omega) hcn W
      rw [if_neg (by have := HLN.out; omega)] at hcm
      rw [hcm]
      have e1_ : (xi + (t123.length : Int) + 1).toNat - xi.toNat = t123.length + 1 := by omega
      rw [e1_]
      simp only [Option.map_some, Nat.mul_one, add_plain]
     have hcutW : ∀ W : World, (Instr.slice 22 (.slice (some ⟨gN, 0, none⟩) t120.length co49) (some (.int .i64 xi)) (some (.int .i64 (wrap64 (wrap64 (xi + (t123.length : Int)) + 1)))) none).run Try.prog W = .ok (.slice (some ⟨gN, xi.toNat, none⟩) (t123.length + 1) (co49 - xi.toNat)) W := by rw [hw64]; exact hcutU
     have hwin : ((xn.drop xi.toNat).take (t123.length + 1)).length = t123.length + 1 := by rw [List.length_take, List.length_drop]; omega
     have hsplit : xn.take xi.toNat ++ (xn.drop xi.toNat).take (t123.length + 1) ++ xn.drop (xi.toNat + (t123.length + 1)) = xn := by rw [List.append_assoc, ← List.drop_drop, List.take_append_drop, List.take_append_drop]
     have HS := Aside0.mk (show ∀ W', Below w.heap.size w W' → Kd.R (Kd.int .u32) 118 W' w.heap.size (fun k_ => k_ = gN) (.slice (some ⟨gN, 0, none⟩) t120.length co49) xn → (∀ W_, Kept W' W_ (fun k_ => k_ = gN) → Kd.C (Kd.int .u32) W_ Ao50 t123.length t123) → Calls Try.prog 114 #[.slice (some ⟨gN, xi.toNat, none⟩) (t123.length + 1) (co49 - xi.toNat), .slice Ao50 t123.length co50] W' fun e w' => e = .returned (.int .u32 x1) ∧ Kd.R (Kd.int .u32) 118 w' w.heap.size (fun k_ => k_ = gN) (.slice (some ⟨gN, 0, none⟩) t120.length co49) (xn.take xi.toNat ++ ys ++ xn.drop (xi.toNat + (t123.length + 1))) ∧ Below w.heap.size w w' ∧ Kept W' w' (fun k_ => k_ = gN) from by
      intro W' hb_ hr_ hd_
      have hst := nat_step.win k1 (fun k_ => k_ = gN) gN xi.toNat t120.length co49 (co49 - xi.toNat) (xn.take xi.toNat) (xn.drop (xi.toNat + (t123.length + 1))) ((xn.drop xi.toNat).take (t123.length + 1)) Ao50 co50 t123 x1 ys w W' hb_ ⟨by rw [hsplit]; exact hr_, by rw [List.length_take]; omega, rfl⟩ hd_ (Kd.R_reads' Rd.out).2.1 hstep
      rw [hwin] at hst
      refine hst.mono ?_
      rintro e w' ⟨he, hwr, hbe, hke⟩
      exact ⟨he, Kd.R_mono (Kd.R_tight rfl hwr.row) (fun k_ e_ => by injection e_), hbe, hke⟩)
     have HST := Aside0.mk H
     have hqf := Kd.R_form Rq.out (by omega)
     obtain ⟨gQ, cQ, eQ, gbQ, glQ, clQ, HGQ⟩ := hqf
     injection eQ with eQ1 eQ3 eQ2
     subst eQ1
     subst eQ2
     clear eQ3
     have HQN : gQ ≠ gN := fun e_ => (Rq.out.1 gQ rfl).1.2 (by rw [e_]; rfl)
     have c0b : decide (0 ≤ xi) = true := decide_eq_true c0
     have c2b : xi < (y126.length : Int) := by have := HLQ.out; omega
     have hub : xi + (t123.length : Int) + 1 ≤ 9223372036854775807 := by omega
     have HC1 := Aside0.mk c1
     have HC2 := Aside0.mk c2
     have HUB := Aside0.mk hub
     have hu1 : xi ≤ 9223372036854775807 := by omega
     have hu2 : xi + (t123.length : Int) ≤ 9223372036854775807 := by omega
     clear H hstep hwin hsplit hmn hcn c1 c2 gbQ glQ HGQ hw64
     go_wp2_with (first | ((with_reducible refine gc 114 rfl ?_); refine goesL_ (some 86) rfl rfl Try.func114 (by kernel_rfl) rfl #[.slice (some ⟨gN, xi.toNat, none⟩) (t123.length + 1) (co49 - xi.toNat), .slice Ao50 t123.length co50] rfl (by (try simp only [List.map_toArray, List.map_cons, List.map_nil]); first | done | rfl) ?_; (with_reducible refine (HS.out _ ?_ ?_ ?_).mono ?_); exact (bup HB.out); (((with_reducible repeat (first | apply Kd.R_alloc | apply Kd.R_drewN | apply Kd.R_drew)); exact Rn.out)); exact Kd.C_kept_own (Rd.out) (fun k_ hk_ hs_ => hk_.2.1 hs_); rintro e w20 ⟨rfl, hn_, hb_, hkp_⟩; refine ⟨_, rfl, ?_⟩; replace Rq := Aside0.mk (Kd.R_mono (ok' := (fun k_ => (((w.heap.size ≤ k_) ∧ True) ∧ some k_ ≠ (.slice (some ⟨gN, 0, none⟩) t120.length co49 : Value).ownBlock) ∧ some k_ ≠ (.slice Ao50 t123.length co50 : Value).ownBlock)) (Kd.R_keptB (Rq.out) hkp_ (fun k_ hk_ hs_ => hk_.1.2 (by rw [hs_]; rfl))) (fun k_ hk_ => hk_.1)); replace Rn := Aside0.mk hn_; replace Rd := Aside0.mk (Kd.R_mono (ok' := (fun k_ => (w.heap.size ≤ k_) ∧ k_ ≠ gN ∧ some k_ ≠ (.slice (some ⟨gQ, 0, none⟩) y126.length co48 : Value).ownBlock)) (Kd.R_keptB (Rd.out) hkp_ (fun k_ hk_ hs_ => hk_.2.1 hs_)) (fun k_ hk_ => hk_.1)); replace HB := Aside0.mk hb_; clear hn_ hb_ hkp_; obtain ⟨hx20, hf20⟩ := Kd.R_celln 0 Rq.out xi c0 c2b))
     go_roundg k1
     case measure => have := HK1.out; omega
     case rel =>
      have HPQ := Kd.R_putg Rq.out xi x1
      have hne_ : ∀ k_, k_ = gQ → k_ ≠ gN := fun k_ e_ => by rw [e_]; exact HQN
      exact ⟨xq.set xi.toNat x1, xn.take xi.toNat ++ ys ++ xn.drop (xi.toNat + (t123.length + 1)), xi - 1, rS, HST, ⟨hk1⟩, ⟨HPQ.1⟩, ⟨Kd.R_far Rn.out (fun k_ e_ => by show k_ ≠ gQ; rw [e_]; exact fun e2_ => HQN e2_.symm) _⟩, ⟨Kd.R_far Rd.out (fun k_ hk_ => by show k_ ≠ gQ; exact fun e_ => hk_.2.2 (by rw [e_]; rfl)) _⟩, ⟨below_set HB.out (Kd.R_base Rq.out gQ rfl)⟩⟩
    ·rw [if_neg c2] at H; exact absurd H (by simp)
   ·rw [if_neg c1] at H; exact absurd H (by simp)
 ·rw [if_neg hnum] at H36; cases H36
def nat_Nat_Gcd.l0 : Nat → List Int → List Int → Option (List Int)
 | 0, _, _ => none
 | k + 1, x0, x1 => if (x1.length : Int) > 0 then ((nat_Nat_Div.f k x0 x1).bind fun bt113 => (nat_Nat_Gcd.l0 k x1 bt113.2.1)) else (some x0)
def nat_Nat_Gcd.f (k : Nat) (l0 : List Int) (l1 : List Int) : Option (List Int) := (nat_trim.f k l0).bind fun t101 => ((slices_Clone.f t101).bind fun t104 => ((nat_trim.f k l1).bind fun t107 => ((slices_Clone.f t107).bind fun t110 => (nat_Nat_Gcd.l0 k t104 t110))))
theorem nat_Nat_Gcd.mono_l : ∀ k, (∀ y0 y1, LeO (nat_Nat_Gcd.l0 k y0 y1) (nat_Nat_Gcd.l0 (k + 1) y0 y1))
 | 0 => fun _ _ r h => by simp [nat_Nat_Gcd.l0] at h
 | k + 1 => by
  have ih0 := nat_Nat_Gcd.mono_l k
  ·intro y0 y1
   unfold nat_Nat_Gcd.l0
   repeat' with_reducible first | exact ih0 _ _ | exact nat_Nat_Div.mono _ _ _ | exact nat_trim.mono _ _ | exact LeO.refl _ | exact LeO.none _ | refine LeO.ite ?_ ?_ | refine LeO.bind ?_ (fun _ => ?_)
theorem nat_Nat_Gcd.mono : ∀ a0 a1 k, LeO (nat_Nat_Gcd.f k a0 a1) (nat_Nat_Gcd.f (k + 1) a0 a1) := by
 intro a0 a1 k
 have ih0 := nat_Nat_Gcd.mono_l k
 unfold nat_Nat_Gcd.f
 repeat' with_reducible first | exact ih0 _ _ | exact nat_Nat_Div.mono _ _ _ | exact nat_trim.mono _ _ | exact LeO.refl _ | exact LeO.none _ | refine LeO.ite ?_ ?_ | refine LeO.bind ?_ (fun _ => ?_)
set_option maxHeartbeats 8000000 in
set_option maxRecDepth 100000 in
theorem nat_Nat_Gcd.calls (k : Nat) (P0_ : Nat → Prop) (A0 : Option Addr) (c0 : Nat) (l0 : List Int) (P1_ : Nat → Prop) (A1 : Option Addr) (c1 : Nat) (l1 : List Int) (r : List Int) (w : World) (hs0 : Kd.V (Kd.int .u32) 118 w w.heap.size (fun k_ => P0_ k_) (.slice A0 l0.length c0) l0) (hs1 : Kd.V (Kd.int .u32) 118 w w.heap.size (fun k_ => P1_ k_) (.slice A1 l1.length c1) l1) (H : nat_Nat_Gcd.f k l0 l1 = some r) :
  Calls Try.prog 35 #[.slice A0 l0.length c0, .slice A1 l1.length c1] w fun e w' => ∃ v0_ : Value, e = .returned (v0_) ∧ Kd.V (Kd.int .u32) 118 w' w.heap.size (fun k_ => ((P0_ k_ ∨ P1_ k_) ∨ w.heap.size ≤ k_)) v0_ r ∧ Below w.heap.size w w' := by
 have HO0 := Aside0.mk (show Kd.V (Kd.int .u32) 118 w w.heap.size (fun k_ => ((P0_ k_ ∨ P1_ k_) ∨ w.heap.size ≤ k_)) (.slice A0 l0.length c0) l0 from Kd.V_mono hs0 (fun k_ hk => .inl (.inl hk)))
 have HO1 := Aside0.mk (show Kd.V (Kd.int .u32) 118 w w.heap.size (fun k_ => ((P0_ k_ ∨ P1_ k_) ∨ w.heap.size ≤ k_)) (.slice A1 l1.length c1) l1 from Kd.V_mono hs1 (fun k_ hk => .inl (.inr hk)))
 have HB := Aside0.mk (Below.refl w.heap.size w)
 unfold nat_Nat_Gcd.f at H
 replace H := bi H
 obtain ⟨t101, A3, H⟩ := H
 replace H := bi H
 obtain ⟨t104, A4, H⟩ := H
 replace H := bi H
 obtain ⟨t107, A5, H⟩ := H
 replace H := bi H
 obtain ⟨t110, A6, H⟩ := H
 have H' := Aside0.mk H
 clear H
 go_enter Try.func35, Try.ntmps35
 go_wp2_with (first | ((with_reducible refine gc 109 rfl ?_); refine gL 9 Try.func109 #[.slice A0 l0.length c0] ?_; (with_reducible refine (nat_trim.calls k (fun k_ => ((P0_ k_ ∨ P1_ k_) ∨ w.heap.size ≤ k_)) _ _ l0 t101 _ ?_ A3.out).mono ?_); exact HO0.out; rintro e w7 ⟨v102, rfl, ho0, hb⟩; refine ⟨_, rfl, ?_⟩; replace HO0 := vA HO0 hb; replace HO1 := vA HO1 hb; have HO103 := lw HB (fun k_ => ((P0_ k_ ∨ P1_ k_) ∨ w.heap.size ≤ k_)) ho0 (fun k_ hk_ => Or.elim hk_ id (fun hn_ => .inr (Nat.le_trans (below_size (bup HB.out)) hn_))); replace HB := bA HB hb; clear hb ho0; obtain ⟨Ao8, co8, eo8⟩ := Kd.V_slice HO103.out; subst eo8) | ((with_reducible refine gc 110 rfl ?_); refine gL 10 Try.func110 #[.slice Ao8 t101.length co8] ?_; (with_reducible refine (slices_Clone.calls _ _ t101 t104 _ ?_ ?_ A4.out).mono ?_); exact cup ((Kd.V_reads' HO103.out).2.2); exact (Kd.V_reads' HO103.out).2.1; rintro e w9 ⟨v105, rfl, ho0, hb⟩; refine ⟨_, rfl, ?_⟩; replace HO0 := vA HO0 hb; replace HO1 := vA HO1 hb; replace HO103 := vA HO103 hb; have HO106 := lw HB (fun k_ => ((P0_ k_ ∨ P1_ k_) ∨ w.heap.size ≤ k_)) ho0 (fun k_ hk_ => (.inr (Nat.le_trans (below_size (bup HB.out)) hk_))); replace HB := bA HB hb; clear hb ho0) | ((with_reducible refine gc 109 rfl ?_); refine gL 12 Try.func109 #[.slice A1 l1.length c1] ?_; (with_reducible refine (nat_trim.calls k (fun k_ => ((P0_ k_ ∨ P1_ k_) ∨ w.heap.size ≤ k_)) _ _ l1 t107 _ ?_ A5.out).mono ?_); exact HO1.out; rintro e w10 ⟨v108, rfl, ho0, hb⟩; refine ⟨_, rfl, ?_⟩; replace HO0 := vA HO0 hb; replace HO1 := vA HO1 hb; replace HO103 := vA HO103 hb; replace HO106 := vA HO106 hb; have HO109 := lw HB (fun k_ => ((P0_ k_ ∨ P1_ k_) ∨ w.heap.size ≤ k_)) ho0 (fun k_ hk_ => Or.elim hk_ id (fun hn_ => .inr (Nat.le_trans (below_size (bup HB.out)) hn_))); replace HB := bA HB hb; clear hb ho0; obtain ⟨Ao11, co11, eo11⟩ := Kd.V_slice HO109.out; subst eo11) | ((with_reducible refine gc 110 rfl ?_); refine gL 13 Try.func110 #[.slice Ao11 t107.length co11] ?_; (with_reducible refine (slices_Clone.calls _ _ t107 t110 _ ?_ ?_ A6.out).mono ?_); exact cup ((Kd.V_reads' HO109.out).2.2); exact (Kd.V_reads' HO109.out).2.1; rintro e w12 ⟨v111, rfl, ho0, hb⟩; refine ⟨_, rfl, ?_⟩; replace HO0 := vA HO0 hb; replace HO1 := vA HO1 hb; replace HO103 := vA HO103 hb; replace HO106 := vA HO106 hb; replace HO109 := vA HO109 hb; have HO112 := lw HB (fun k_ => ((P0_ k_ ∨ P1_ k_) ∨ w.heap.size ≤ k_)) ho0 (fun k_ hk_ => (.inr (Nat.le_trans (below_size (bup HB.out)) hk_))); replace HB := bA HB hb; clear hb ho0))
 go_loopg [0, 1] k (fun kq v0 v1 w' => ∃ (x0_1 : List Int) (x1_1 : List Int), Aside0 (nat_Nat_Gcd.l0 kq x0_1 x1_1 = some r) ∧ Aside0 (kq ≤ k) ∧ Aside0 (Kd.V (Kd.int .u32) 118 w' w.heap.size (fun k_ => ((P0_ k_ ∨ P1_ k_) ∨ w.heap.size ≤ k_)) v0 x0_1) ∧ Aside0 (Kd.V (Kd.int .u32) 118 w' w.heap.size (fun k_ => ((P0_ k_ ∨ P1_ k_) ∨ w.heap.size ≤ k_)) v1 x1_1) ∧ Aside0 (Below w.heap.size w w'))
 case atStart => exact ⟨(t104), (t110), H', ⟨Nat.le_refl _⟩, ⟨vup HO106.out⟩, ⟨vup HO112.out⟩, ⟨bup HB.out⟩⟩
 case round =>
  clear H'
  try clear c1
  try clear p2
  try clear c3
  try clear c10
  try clear c11
  obtain ⟨x0_1, x1_1, HA, HK1, HO_0, HO_1, HB⟩ := hrel
  cases gk with
  | zero => exact absurd HA.out (by simp [nat_Nat_Gcd.l0])
  | succ k1 =>
   have H := HA.out
   clear HA
   simp only [nat_Nat_Gcd.l0] at H
   by_cases c13 : (x1_1.length : Int) > 0
   rotate_left
   ·rw [if_neg c13] at H
    have c13b0 : decide (0 < (x1_1.length : Int)) = false := decide_eq_false c13
    have c13b1 : decide (0 < x1_1.length) = false := decide_eq_false (by omega)
    clear c13
    obtain rfl := Option.some.inj H
    obtain ⟨Ao18, co18, eo18⟩ := Kd.V_slice HO_1.out
    subst eo18
    go_wp2
    go_ret
    exact ⟨_, er, vup HO_0.out, bup HB.out⟩
   rw [if_pos c13] at H
   have c13b0 : decide (0 < (x1_1.length : Int)) = true := decide_eq_true c13
   have c13b1 : decide (0 < x1_1.length) = true := decide_eq_true (by omega)
   clear c13
   replace H := bi H
   obtain ⟨⟨t113, t116, t119⟩, A14, H⟩ := H
   try dsimp only at H
   have H' := Aside0.mk H
   clear H
   obtain ⟨Ao15, co15, eo15⟩ := Kd.V_slice HO_1.out
   subst eo15
   obtain ⟨Ao16, co16, eo16⟩ := Kd.V_slice HO_0.out
   subst eo16
   go_wp2_with (first | ((with_reducible refine gc 37 rfl ?_); refine gL 20 Try.func37 #[.slice Ao16 x0_1.length co16, .slice Ao15 x1_1.length co15] ?_; (with_reducible refine (nat_Nat_Div.calls k1 (fun k_ => ((P0_ k_ ∨ P1_ k_) ∨ w.heap.size ≤ k_)) _ _ x0_1 (fun k_ => ((P0_ k_ ∨ P1_ k_) ∨ w.heap.size ≤ k_)) _ _ x1_1 t113 t116 t119 _ ?_ ?_ A14.out).mono ?_); exact HO_0.out; exact HO_1.out; rintro e w17 ⟨v114, v117, rfl, ho0, ho1, hb⟩; refine ⟨_, rfl, ?_⟩; replace HO_0 := vA HO_0 hb; replace HO_1 := vA HO_1 hb; have HO115 := lw HB (fun k_ => ((P0_ k_ ∨ P1_ k_) ∨ w.heap.size ≤ k_)) ho0 (fun k_ hk_ => Or.elim hk_ (fun hs_ => Or.elim hs_ id id) (fun hn_ => .inr (Nat.le_trans (below_size (bup HB.out)) hn_))); have HO118 := lw HB (fun k_ => ((P0_ k_ ∨ P1_ k_) ∨ w.heap.size ≤ k_)) ho1 (fun k_ hk_ => Or.elim hk_ (fun hs_ => Or.elim hs_ id id) (fun hn_ => .inr (Nat.le_trans (below_size (bup HB.out)) hn_))); replace HB := bA HB hb; clear hb ho0 ho1))
   go_roundg k1
   case measure => have := HK1.out; omega
   case rel => exact ⟨(x1_1), (t116), H', ⟨hk1⟩, ⟨vup HO_1.out⟩, ⟨vup HO118.out⟩, ⟨bup HB.out⟩⟩
def ratio_low.j0 : Nat → Bool → List Int → List Int → Bool → Option (Bool × List Int × List Int)
 | 0, _, _, _, _ => none
 | k + 1, x0, x1, x2, x21 => if x21 = true then ((nat_New.f k 1).bind fun t104 => (some (false, ([] : List Int), t104))) else ((nat_Nat_Gcd.f k x1 x2).bind fun t107 => ((nat_Nat_Div.f k x1 t107).bind fun bt110 => ((nat_Nat_Div.f k x2 t107).bind fun bt117 => (some (x0, bt110.1, bt117.1)))))
def ratio_low.f (k : Nat) (a0 : Bool) (l1 : List Int) (l2 : List Int) : Option (Bool × List Int × List Int) := (nat_Nat_Len.f k l1).bind fun t102 => (if t102 = 0 then (ratio_low.j0 k a0 l1 l2 true) else ((nat_Nat_Len.f k l2).bind fun t103 => (ratio_low.j0 k a0 l1 l2 (t103 == 0))))
theorem ratio_low.mono_l : ∀ k, (∀ y0 y1 y2 y3, LeO (ratio_low.j0 k y0 y1 y2 y3) (ratio_low.j0 (k + 1) y0 y1 y2 y3))
 | 0 => fun _ _ _ _ r h => by simp [ratio_low.j0] at h
 | k + 1 => by
  have ih0 := ratio_low.mono_l k
  ·intro y0 y1 y2 y3
   unfold ratio_low.j0
   repeat' with_reducible first | exact ih0 _ _ _ _ | exact nat_Nat_Div.mono _ _ _ | exact nat_Nat_Gcd.mono _ _ _ | exact nat_Nat_Len.mono _ _ | exact nat_New.mono _ _ | exact LeO.refl _ | exact LeO.none _ | refine LeO.ite ?_ ?_ | refine LeO.bind ?_ (fun _ => ?_)
theorem ratio_low.mono : ∀ a0 a1 a2 k, LeO (ratio_low.f k a0 a1 a2) (ratio_low.f (k + 1) a0 a1 a2) := by
 intro a0 a1 a2 k
 have ih0 := ratio_low.mono_l k
 unfold ratio_low.f
 repeat' with_reducible first | exact ih0 _ _ _ _ | exact nat_Nat_Div.mono _ _ _ | exact nat_Nat_Gcd.mono _ _ _ | exact nat_Nat_Len.mono _ _ | exact nat_New.mono _ _ | exact LeO.refl _ | exact LeO.none _ | refine LeO.ite ?_ ?_ | refine LeO.bind ?_ (fun _ => ?_)
set_option maxHeartbeats 8000000 in
set_option maxRecDepth 100000 in
theorem ratio_low.calls (k : Nat) (a0 : Bool) (P1_ : Nat → Prop) (A1 : Option Addr) (c1 : Nat) (l1 : List Int) (P2_ : Nat → Prop) (A2 : Option Addr) (c2 : Nat) (l2 : List Int) (r1 : Bool) (r2 : List Int) (r3 : List Int) (w : World) (hs1 : Kd.V (Kd.int .u32) 118 w w.heap.size (fun k_ => P1_ k_) (.slice A1 l1.length c1) l1) (hs2 : Kd.V (Kd.int .u32) 118 w w.heap.size (fun k_ => P2_ k_) (.slice A2 l2.length c2) l2) (H : ratio_low.f k a0 l1 l2 = some (r1, r2, r3)) :
  Calls Try.prog 126 #[.bool a0, .slice A1 l1.length c1, .slice A2 l2.length c2] w fun e w' => ∃ v1_ v2_ : Value, e = .returned (.agg #[.bool r1, v1_, v2_]) ∧ Kd.V (Kd.int .u32) 118 w' w.heap.size (fun k_ => ((P1_ k_ ∨ P2_ k_) ∨ w.heap.size ≤ k_)) v1_ r2 ∧ Kd.V (Kd.int .u32) 118 w' w.heap.size (fun k_ => ((P1_ k_ ∨ P2_ k_) ∨ w.heap.size ≤ k_)) v2_ r3 ∧ Below w.heap.size w w' := by
 have hu69 := Try.underlying69
 have HO1 := Aside0.mk (show Kd.V (Kd.int .u32) 118 w w.heap.size (fun k_ => ((P1_ k_ ∨ P2_ k_) ∨ w.heap.size ≤ k_)) (.slice A1 l1.length c1) l1 from Kd.V_mono hs1 (fun k_ hk => .inl (.inl hk)))
 have HO2 := Aside0.mk (show Kd.V (Kd.int .u32) 118 w w.heap.size (fun k_ => ((P1_ k_ ∨ P2_ k_) ∨ w.heap.size ≤ k_)) (.slice A2 l2.length c2) l2 from Kd.V_mono hs2 (fun k_ hk => .inl (.inr hk)))
 have HB := Aside0.mk (Below.refl w.heap.size w)
 unfold ratio_low.f at H
 have HC4 := Aside0.mk H
 clear H
 go_enter Try.func126, Try.ntmps126
 go_upto_region 1 with (first | ((with_reducible refine gd 6 rfl ?_); refine bx 6 #[.bool false, .slice none 0 0, .slice none 0 0] ?_; intro gb101 hg w5 hbox hb; replace HO1 := vE HO1 hg hb; replace HO2 := vE HO2 hg hb; have BK101 := Aside0.mk hbox; have GW101 := gB hg HB; have GE101 := gB hg HB; replace HB := bA HB hb; clear hb hbox hg))
 (try simp only [Act.put, List.setIfInBounds_toArray, List.set_cons_zero, List.set_cons_succ])
 go_cut [21] (fun v21 wc => ∃ (kq : Nat) (x21_3 : Bool), v21 = .bool x21_3 ∧ Aside0 (ratio_low.j0 kq a0 l1 l2 x21_3 = some (r1, r2, r3)) ∧ Aside0 (kq ≤ k) ∧ Aside0 (Kd.V (Kd.int .u32) 118 wc w.heap.size (fun k_ => ((P1_ k_ ∨ P2_ k_) ∨ w.heap.size ≤ k_) ∧ k_ ≠ gb101) (.slice A1 l1.length c1) l1) ∧ Aside0 (Kd.V (Kd.int .u32) 118 wc w.heap.size (fun k_ => ((P1_ k_ ∨ P2_ k_) ∨ w.heap.size ≤ k_) ∧ k_ ≠ gb101) (.slice A2 l2.length c2) l2) ∧ Aside0 (wc.heap[gb101]? = some (.cells #[.bool false, (.slice none 0 0), (.slice none 0 0)] 69 (0, 0))) ∧ Aside0 (Below w.heap.size w wc))
 case first =>
  have H := HC4.out
  clear HC4
  replace H := bi H
  obtain ⟨t102, A6, H⟩ := H
  by_cases c7 : t102 = 0
  ·rw [if_pos c7] at H
   obtain ⟨c7b0, c7b1⟩ := bqT c7
   clear c7
   (first | rw [c7b0] | (simp only [i64_w, i32_w]; rw [c7b0]) | skip)
   have H' := Aside0.mk H
   clear H
   go_wp2_with (first | ((with_reducible refine gc 43 rfl ?_); refine gL 15 Try.func43 #[.slice A1 l1.length c1] ?_; (with_reducible refine (nat_Nat_Len.calls k _ _ l1 t102 _ ?_ ?_ A6.out).mono ?_); exact cup ((Kd.V_reads' HO1.out).2.2); exact (Kd.V_reads' HO1.out).2.1; rintro e w8 ⟨rfl, hb⟩; refine ⟨_, rfl, ?_⟩; replace HO1 := vA HO1 hb; replace HO2 := vA HO2 hb; replace BK101 := kA BK101 hb; replace HB := bS HB hb; clear hb))
   go_meet
   case rel => exact ⟨_, (true), rS, H', ⟨by first | omega | exact Nat.le_refl _⟩, ⟨vup HO1.out⟩, ⟨vup HO2.out⟩, ⟨by exact kU BK101⟩, ⟨hB⟩⟩
  rw [if_neg c7] at H
  obtain ⟨c7b0, c7b1⟩ := bqF c7
  (first | rw [c7b0] | (simp only [i64_w, i32_w]; rw [c7b0]) | skip)
  replace H := bi H
  obtain ⟨t103, A9, H⟩ := H
  have H' := Aside0.mk H
  clear H
  go_wp2_with (first | ((with_reducible refine gc 43 rfl ?_); refine gL 15 Try.func43 #[.slice A1 l1.length c1] ?_; (with_reducible refine (nat_Nat_Len.calls k _ _ l1 t102 _ ?_ ?_ A6.out).mono ?_); exact cup ((Kd.V_reads' HO1.out).2.2); exact (Kd.V_reads' HO1.out).2.1; rintro e w10 ⟨rfl, hb⟩; refine ⟨_, rfl, ?_⟩; replace HO1 := vA HO1 hb; replace HO2 := vA HO2 hb; replace BK101 := kA BK101 hb; replace HB := bS HB hb; clear hb) | (go_at_call 43; (with_reducible refine (nat_Nat_Len.calls k _ _ l2 t103 _ ?_ ?_ A9.out).mono ?_); exact cup ((Kd.V_reads' HO2.out).2.2); exact (Kd.V_reads' HO2.out).2.1; rintro e w11 ⟨rfl, hb⟩; replace HO1 := vA HO1 hb; replace HO2 := vA HO2 hb; replace BK101 := kA BK101 hb; replace HB := bS HB hb; clear hb))
  go_meet
  case rel => exact ⟨_, ((t103 == 0)), rS, H', ⟨by first | omega | exact Nat.le_refl _⟩, ⟨vup HO1.out⟩, ⟨vup HO2.out⟩, ⟨by exact kU BK101⟩, ⟨hB⟩⟩
 case rest =>
  clear HC4
  try clear c1
  try clear c2
  try clear p2
  try clear c4
  try clear c7
  try clear c7b0
  try clear c7b1
  obtain ⟨kq, x21_3, rfl, HA, HJ3, HO_1, HO_2, BK101, HB⟩ := hcut
  cases kq with
  | zero => exact absurd HA.out (by simp [ratio_low.j0])
  | succ kj3 =>
   have H := HA.out
   clear HA
   simp only [ratio_low.j0] at H
   by_cases c12 : x21_3 = true
   ·subst c12
    replace H := ifT H
    replace H := bi H
    obtain ⟨t104, A13, H⟩ := H
    simp only [Option.some.injEq, Prod.mk.injEq] at H
    obtain ⟨rfl, rfl, rfl⟩ := H
    go_wp2_with (first | ((with_reducible refine gc 52 rfl ?_); refine gL 22 Try.func52 #[.int .u64 1] ?_; (with_reducible refine (nat_New.calls kj3 1 t104 _ A13.out).mono ?_); rintro e w14 ⟨v105, rfl, ho0, hb⟩; refine ⟨_, rfl, ?_⟩; replace HO_1 := vA HO_1 hb; replace HO_2 := vA HO_2 hb; have HO106 := lw HB (fun k_ => ((P1_ k_ ∨ P2_ k_) ∨ w.heap.size ≤ k_) ∧ k_ ≠ gb101) ho0 (fun k_ hk_ => ⟨(.inr (Nat.le_trans (below_size hB) hk_)), (kF BK101 hk_)⟩); replace BK101 := kA BK101 hb; replace HB := bS HB hb; clear hb ho0; obtain ⟨Ao15, co15, eo15⟩ := Kd.V_slice HO106.out; subst eo15; obtain ⟨⟨hcz16_0, hcz16_1, hcz16_2⟩, hfz16_0, hfz16_1, hfz16_2⟩ := cE BK101))
    refine bodyPost_ret (results_cell_row rfl _ _ gb101 69 #[.bool false, .slice none 0 0, .slice Ao15 t104.length co15] (0, 0) _ rfl (by exact kU (p3 BK101)) Try.underlying69 rfl (by kernel_rfl)) rfl ?_
    exact ⟨_, _, er, Kd.V_mono (Kd.V_nil _ _ _ _ _) (fun k_ hk => by first | exact ⟨(.inr (hk.1)), hk.2⟩ | exact (.inr (hk))), vG (v3p HO106 (fun _ hk => hk.2)) (fun _ hk => hk.1.1), hB⟩
   ·replace c12 := Bool.eq_false_iff.mpr c12
    subst c12
    have H1 : ((nat_Nat_Gcd.f kj3 l1 l2).bind fun t107 => ((nat_Nat_Div.f kj3 l1 t107).bind fun bt110 => ((nat_Nat_Div.f kj3 l2 t107).bind fun bt117 => (some (a0, bt110.1, bt117.1))))) = some (r1, r2, r3) := by rw [if_neg (show ¬ (false = true) by decide)] at H; exact H
    clear H
    have H := H1
    clear H1
    replace H := bi H
    obtain ⟨t107, A17, H⟩ := H
    replace H := bi H
    obtain ⟨⟨t110, t113, t116⟩, A18, H⟩ := H
    try dsimp only at H
    replace H := bi H
    obtain ⟨⟨t117, t120, t123⟩, A19, H⟩ := H
    try dsimp only at H
    simp only [Option.some.injEq, Prod.mk.injEq] at H
    obtain ⟨rfl, rfl, rfl⟩ := H
    go_wp2_with (first | ((with_reducible refine gc 35 rfl ?_); refine gL 26 Try.func35 #[.slice A1 l1.length c1, .slice A2 l2.length c2] ?_; (with_reducible refine (nat_Nat_Gcd.calls kj3 (fun k_ => (((P1_ k_ ∨ P2_ k_) ∨ w.heap.size ≤ k_) ∧ k_ ≠ gb101)) _ _ l1 (fun k_ => (((P1_ k_ ∨ P2_ k_) ∨ w.heap.size ≤ k_) ∧ k_ ≠ gb101)) _ _ l2 t107 _ ?_ ?_ A17.out).mono ?_); exact HO_1.out; exact HO_2.out; rintro e w20 ⟨v108, rfl, ho0, hb⟩; refine ⟨_, rfl, ?_⟩; replace HO_1 := vA HO_1 hb; replace HO_2 := vA HO_2 hb; have HO109 := lw HB (fun k_ => ((P1_ k_ ∨ P2_ k_) ∨ w.heap.size ≤ k_) ∧ k_ ≠ gb101) ho0 (fun k_ hk_ => Or.elim hk_ (fun hs_ => Or.elim hs_ id id) (fun hn_ => ⟨.inr (Nat.le_trans (below_size hB) hn_), kF BK101 hn_⟩)); replace BK101 := kA BK101 hb; replace HB := bS HB hb; clear hb ho0; obtain ⟨Ao21, co21, eo21⟩ := Kd.V_slice HO109.out; subst eo21) | ((with_reducible refine gc 37 rfl ?_); refine gL 30 Try.func37 #[.slice A1 l1.length c1, .slice Ao21 t107.length co21] ?_; (with_reducible refine (nat_Nat_Div.calls kj3 (fun k_ => (((P1_ k_ ∨ P2_ k_) ∨ w.heap.size ≤ k_) ∧ k_ ≠ gb101)) _ _ l1 (fun k_ => (((P1_ k_ ∨ P2_ k_) ∨ w.heap.size ≤ k_) ∧ k_ ≠ gb101)) _ _ t107 t110 t113 t116 _ ?_ ?_ A18.out).mono ?_); exact HO_1.out; exact HO109.out; rintro e w22 ⟨v111, v114, rfl, ho0, ho1, hb⟩; refine ⟨_, rfl, ?_⟩; replace HO_1 := vA HO_1 hb; replace HO_2 := vA HO_2 hb; replace HO109 := vA HO109 hb; have HO112 := lw HB (fun k_ => ((P1_ k_ ∨ P2_ k_) ∨ w.heap.size ≤ k_) ∧ k_ ≠ gb101) ho0 (fun k_ hk_ => Or.elim hk_ (fun hs_ => Or.elim hs_ id id) (fun hn_ => ⟨.inr (Nat.le_trans (below_size hB) hn_), kF BK101 hn_⟩)); have HO115 := lw HB (fun k_ => ((P1_ k_ ∨ P2_ k_) ∨ w.heap.size ≤ k_) ∧ k_ ≠ gb101) ho1 (fun k_ hk_ => Or.elim hk_ (fun hs_ => Or.elim hs_ id id) (fun hn_ => ⟨.inr (Nat.le_trans (below_size hB) hn_), kF BK101 hn_⟩)); replace BK101 := kA BK101 hb; replace HB := bS HB hb; clear hb ho0 ho1) | ((with_reducible refine gc 37 rfl ?_); refine gL 37 Try.func37 #[.slice A2 l2.length c2, .slice Ao21 t107.length co21] ?_; (with_reducible refine (nat_Nat_Div.calls kj3 (fun k_ => (((P1_ k_ ∨ P2_ k_) ∨ w.heap.size ≤ k_) ∧ k_ ≠ gb101)) _ _ l2 (fun k_ => (((P1_ k_ ∨ P2_ k_) ∨ w.heap.size ≤ k_) ∧ k_ ≠ gb101)) _ _ t107 t117 t120 t123 _ ?_ ?_ A19.out).mono ?_); exact HO_2.out; exact HO109.out; rintro e w23 ⟨v118, v121, rfl, ho0, ho1, hb⟩; refine ⟨_, rfl, ?_⟩; replace HO_1 := vA HO_1 hb; replace HO_2 := vA HO_2 hb; replace HO109 := vA HO109 hb; replace HO112 := vA HO112 hb; replace HO115 := vA HO115 hb; have HO119 := lw HB (fun k_ => ((P1_ k_ ∨ P2_ k_) ∨ w.heap.size ≤ k_) ∧ k_ ≠ gb101) ho0 (fun k_ hk_ => Or.elim hk_ (fun hs_ => Or.elim hs_ id id) (fun hn_ => ⟨.inr (Nat.le_trans (below_size hB) hn_), kF BK101 hn_⟩)); have HO122 := lw HB (fun k_ => ((P1_ k_ ∨ P2_ k_) ∨ w.heap.size ≤ k_) ∧ k_ ≠ gb101) ho1 (fun k_ hk_ => Or.elim hk_ (fun hs_ => Or.elim hs_ id id) (fun hn_ => ⟨.inr (Nat.le_trans (below_size hB) hn_), kF BK101 hn_⟩)); replace BK101 := kA BK101 hb; replace HB := bS HB hb; clear hb ho0 ho1; obtain ⟨Ao24, co24, eo24⟩ := Kd.V_slice HO119.out; subst eo24; obtain ⟨Ao25, co25, eo25⟩ := Kd.V_slice HO112.out; subst eo25; obtain ⟨⟨hcz26_0, hcz26_1, hcz26_2⟩, hfz26_0, hfz26_1, hfz26_2⟩ := cE BK101))
    refine bodyPost_ret (results_cell_row rfl _ _ gb101 69 #[.bool a0, .slice Ao25 t110.length co25, .slice Ao24 t117.length co24] (0, 0) _ rfl (by exact kU (p3 BK101)) Try.underlying69 rfl (by kernel_rfl)) rfl ?_
    exact ⟨_, _, er, vG (v3p HO112 (fun _ hk => hk.2)) (fun _ hk => hk.1.1), vG (v3p HO119 (fun _ hk => hk.2)) (fun _ hk => hk.1.1), hB⟩
def ratio_Int.f (k : Nat) (a0 : Int) : Option (Bool × List Int × List Int) := if a0 < 0 then ((nat_New.f k (IntKind.u64.wrap (-(IntKind.u64.wrap (a0))))).bind fun t102 => ((nat_New.f k 1).bind fun t105 => ((ratio_low.f k true t102 t105).bind fun bt108 => (some (bt108.1, bt108.2.1, bt108.2.2))))) else ((nat_New.f k (IntKind.u64.wrap (a0))).bind fun t115 => ((nat_New.f k 1).bind fun t118 => ((ratio_low.f k false t115 t118).bind fun bt121 => (some (bt121.1, bt121.2.1, bt121.2.2)))))
theorem ratio_Int.mono : ∀ a0 k, LeO (ratio_Int.f k a0) (ratio_Int.f (k + 1) a0) := by
 intro a0 k
 unfold ratio_Int.f
 repeat' with_reducible first | exact nat_New.mono _ _ | exact ratio_low.mono _ _ _ _ | exact LeO.refl _ | exact LeO.none _ | refine LeO.ite ?_ ?_ | refine LeO.bind ?_ (fun _ => ?_)
set_option maxHeartbeats 8000000 in
set_option maxRecDepth 100000 in
theorem ratio_Int.calls (k : Nat) (a0 : Int) (r1 : Bool) (r2 : List Int) (r3 : List Int) (w : World) (H : ratio_Int.f k a0 = some (r1, r2, r3)) :
  Calls Try.prog 103 #[.int .i64 a0] w fun e w' => ∃ v1_ v2_ : Value, e = .returned (.agg #[.bool r1, v1_, v2_]) ∧ Kd.V (Kd.int .u32) 118 w' w.heap.size (fun k_ => (w.heap.size ≤ k_)) v1_ r2 ∧ Kd.V (Kd.int .u32) 118 w' w.heap.size (fun k_ => (w.heap.size ≤ k_)) v2_ r3 ∧ Below w.heap.size w w' := by
 have hu69 := Try.underlying69
 have HB := Aside0.mk (Below.refl w.heap.size w)
 unfold ratio_Int.f at H
 by_cases c2 : a0 < 0
 rotate_left
 ·rw [if_neg c2] at H
  have c2b0 : decide (a0 < 0) = false := decide_eq_false c2
  clear c2
  replace H := bi H
  obtain ⟨t115, A15, H⟩ := H
  replace H := bi H
  obtain ⟨t118, A16, H⟩ := H
  replace H := bi H
  obtain ⟨⟨t121, t122, t125⟩, A17, H⟩ := H
  try dsimp only at H
  simp only [Option.some.injEq, Prod.mk.injEq] at H
  obtain ⟨rfl, rfl, rfl⟩ := H
  go_enter Try.func103, Try.ntmps103
  go_wp2_with (first | ((with_reducible refine gd 2 rfl ?_); refine bx 2 #[.bool false, .slice none 0 0, .slice none 0 0] ?_; intro gb101 hg w18 hbox hb; have BK101 := Aside0.mk hbox; have GW101 := gB hg HB; have GE101 := gB hg HB; replace HB := bA HB hb; clear hb hbox hg) | ((with_reducible refine gc 52 rfl ?_); refine gL 13 Try.func52 #[.int .u64 (IntKind.u64.wrap (a0))] ?_; (with_reducible refine (nat_New.calls k (IntKind.u64.wrap (a0)) t115 _ A15.out).mono ?_); rintro e w19 ⟨v116, rfl, ho0, hb⟩; refine ⟨_, rfl, ?_⟩; have HO117 := lw HB (fun k_ => (w.heap.size ≤ k_) ∧ k_ ≠ gb101) ho0 (fun k_ hk_ => ⟨(Nat.le_trans (below_size hB) hk_), (kF BK101 hk_)⟩); replace BK101 := kA BK101 hb; replace HB := bS HB hb; clear hb ho0) | ((with_reducible refine gc 52 rfl ?_); refine gL 14 Try.func52 #[.int .u64 1] ?_; (with_reducible refine (nat_New.calls k 1 t118 _ A16.out).mono ?_); rintro e w20 ⟨v119, rfl, ho0, hb⟩; refine ⟨_, rfl, ?_⟩; replace HO117 := vA HO117 hb; have HO120 := lw HB (fun k_ => (w.heap.size ≤ k_) ∧ k_ ≠ gb101) ho0 (fun k_ hk_ => ⟨(Nat.le_trans (below_size hB) hk_), (kF BK101 hk_)⟩); replace BK101 := kA BK101 hb; replace HB := bS HB hb; clear hb ho0; obtain ⟨Ao21, co21, eo21⟩ := Kd.V_slice HO117.out; subst eo21; obtain ⟨Ao22, co22, eo22⟩ := Kd.V_slice HO120.out; subst eo22) | ((with_reducible refine gc 126 rfl ?_); refine gL 15 Try.func126 #[.bool false, .slice Ao21 t115.length co21, .slice Ao22 t118.length co22] ?_; (with_reducible refine (ratio_low.calls k false (fun k_ => ((w.heap.size ≤ k_) ∧ k_ ≠ gb101)) _ _ t115 (fun k_ => ((w.heap.size ≤ k_) ∧ k_ ≠ gb101)) _ _ t118 t121 t122 t125 _ ?_ ?_ A17.out).mono ?_); exact HO117.out; exact HO120.out; rintro e w23 ⟨v123, v126, rfl, ho0, ho1, hb⟩; refine ⟨_, rfl, ?_⟩; replace HO117 := vA HO117 hb; replace HO120 := vA HO120 hb; have HO124 := lw HB (fun k_ => (w.heap.size ≤ k_) ∧ k_ ≠ gb101) ho0 (fun k_ hk_ => Or.elim hk_ (fun hs_ => Or.elim hs_ id id) (fun hn_ => ⟨Nat.le_trans (below_size hB) hn_, kF BK101 hn_⟩)); have HO127 := lw HB (fun k_ => (w.heap.size ≤ k_) ∧ k_ ≠ gb101) ho1 (fun k_ hk_ => Or.elim hk_ (fun hs_ => Or.elim hs_ id id) (fun hn_ => ⟨Nat.le_trans (below_size hB) hn_, kF BK101 hn_⟩)); replace BK101 := kA BK101 hb; replace HB := bS HB hb; clear hb ho0 ho1; obtain ⟨⟨hcz24_0, hcz24_1, hcz24_2⟩, hfz24_0, hfz24_1, hfz24_2⟩ := cE BK101; obtain ⟨Ao25, co25, eo25⟩ := Kd.V_slice HO124.out; subst eo25; obtain ⟨Ao26, co26, eo26⟩ := Kd.V_slice HO127.out; subst eo26))
  refine bodyPost_ret (results_cell_row rfl _ _ gb101 69 #[.bool t121, .slice Ao25 t122.length co25, .slice Ao26 t125.length co26] (0, 0) _ rfl (by exact kU (p3 BK101)) Try.underlying69 rfl (by kernel_rfl)) rfl ?_
  exact ⟨_, _, er, vG (v3p HO124 (fun _ hk => hk.2)) (fun _ hk => hk.1.1), vG (v3p HO127 (fun _ hk => hk.2)) (fun _ hk => hk.1.1), hB⟩
 rw [if_pos c2] at H
 have c2b0 : decide (a0 < 0) = true := decide_eq_true c2
 clear c2
 replace H := bi H
 obtain ⟨t102, A3, H⟩ := H
 replace H := bi H
 obtain ⟨t105, A4, H⟩ := H
 replace H := bi H
 obtain ⟨⟨t108, t109, t112⟩, A5, H⟩ := H
 try dsimp only at H
 simp only [Option.some.injEq, Prod.mk.injEq] at H
 obtain ⟨rfl, rfl, rfl⟩ := H
 go_enter Try.func103, Try.ntmps103
 go_wp2_with (first | ((with_reducible refine gd 2 rfl ?_); refine bx 2 #[.bool false, .slice none 0 0, .slice none 0 0] ?_; intro gb101 hg w6 hbox hb; have BK101 := Aside0.mk hbox; have GW101 := gB hg HB; have GE101 := gB hg HB; replace HB := bA HB hb; clear hb hbox hg) | ((with_reducible refine gc 52 rfl ?_); refine gL 8 Try.func52 #[.int .u64 (IntKind.u64.wrap (-(IntKind.u64.wrap (a0))))] ?_; (with_reducible refine (nat_New.calls k (IntKind.u64.wrap (-(IntKind.u64.wrap (a0)))) t102 _ A3.out).mono ?_); rintro e w7 ⟨v103, rfl, ho0, hb⟩; refine ⟨_, rfl, ?_⟩; have HO104 := lw HB (fun k_ => (w.heap.size ≤ k_) ∧ k_ ≠ gb101) ho0 (fun k_ hk_ => ⟨(Nat.le_trans (below_size hB) hk_), (kF BK101 hk_)⟩); replace BK101 := kA BK101 hb; replace HB := bS HB hb; clear hb ho0) | ((with_reducible refine gc 52 rfl ?_); refine gL 9 Try.func52 #[.int .u64 1] ?_; (with_reducible refine (nat_New.calls k 1 t105 _ A4.out).mono ?_); rintro e w8 ⟨v106, rfl, ho0, hb⟩; refine ⟨_, rfl, ?_⟩; replace HO104 := vA HO104 hb; have HO107 := lw HB (fun k_ => (w.heap.size ≤ k_) ∧ k_ ≠ gb101) ho0 (fun k_ hk_ => ⟨(Nat.le_trans (below_size hB) hk_), (kF BK101 hk_)⟩); replace BK101 := kA BK101 hb; replace HB := bS HB hb; clear hb ho0; obtain ⟨Ao9, co9, eo9⟩ := Kd.V_slice HO104.out; subst eo9; obtain ⟨Ao10, co10, eo10⟩ := Kd.V_slice HO107.out; subst eo10) | ((with_reducible refine gc 126 rfl ?_); refine gL 10 Try.func126 #[.bool true, .slice Ao9 t102.length co9, .slice Ao10 t105.length co10] ?_; (with_reducible refine (ratio_low.calls k true (fun k_ => ((w.heap.size ≤ k_) ∧ k_ ≠ gb101)) _ _ t102 (fun k_ => ((w.heap.size ≤ k_) ∧ k_ ≠ gb101)) _ _ t105 t108 t109 t112 _ ?_ ?_ A5.out).mono ?_); exact HO104.out; exact HO107.out; rintro e w11 ⟨v110, v113, rfl, ho0, ho1, hb⟩; refine ⟨_, rfl, ?_⟩; replace HO104 := vA HO104 hb; replace HO107 := vA HO107 hb; have HO111 := lw HB (fun k_ => (w.heap.size ≤ k_) ∧ k_ ≠ gb101) ho0 (fun k_ hk_ => Or.elim hk_ (fun hs_ => Or.elim hs_ id id) (fun hn_ => ⟨Nat.le_trans (below_size hB) hn_, kF BK101 hn_⟩)); have HO114 := lw HB (fun k_ => (w.heap.size ≤ k_) ∧ k_ ≠ gb101) ho1 (fun k_ hk_ => Or.elim hk_ (fun hs_ => Or.elim hs_ id id) (fun hn_ => ⟨Nat.le_trans (below_size hB) hn_, kF BK101 hn_⟩)); replace BK101 := kA BK101 hb; replace HB := bS HB hb; clear hb ho0 ho1; obtain ⟨⟨hcz12_0, hcz12_1, hcz12_2⟩, hfz12_0, hfz12_1, hfz12_2⟩ := cE BK101; obtain ⟨Ao13, co13, eo13⟩ := Kd.V_slice HO111.out; subst eo13; obtain ⟨Ao14, co14, eo14⟩ := Kd.V_slice HO114.out; subst eo14))
 refine bodyPost_ret (results_cell_row rfl _ _ gb101 69 #[.bool t108, .slice Ao13 t109.length co13, .slice Ao14 t112.length co14] (0, 0) _ rfl (by exact kU (p3 BK101)) Try.underlying69 rfl (by kernel_rfl)) rfl ?_
 exact ⟨_, _, er, vG (v3p HO111 (fun _ hk => hk.2)) (fun _ hk => hk.1.1), vG (v3p HO114 (fun _ hk => hk.2)) (fun _ hk => hk.1.1), hB⟩
def ratio_R_low.f (k : Nat) (a0_0 : Bool) (l0_1 : List Int) (l0_2 : List Int) : Option (Bool × List Int × List Int) := (ratio_low.f k a0_0 l0_1 l0_2).bind fun bt103 => (some (bt103.1, bt103.2.1, bt103.2.2))
theorem ratio_R_low.mono : ∀ a0 a1 a2 k, LeO (ratio_R_low.f k a0 a1 a2) (ratio_R_low.f (k + 1) a0 a1 a2) := by
 intro a0 a1 a2 k
 unfold ratio_R_low.f
 repeat' with_reducible first | exact ratio_low.mono _ _ _ _ | exact LeO.refl _ | exact LeO.none _ | refine LeO.ite ?_ ?_ | refine LeO.bind ?_ (fun _ => ?_)
set_option maxHeartbeats 8000000 in
set_option maxRecDepth 100000 in
theorem ratio_R_low.calls (k : Nat) (a0_0 : Bool) (P0_1_ : Nat → Prop) (A0_1 : Option Addr) (c0_1 : Nat) (l0_1 : List Int) (P0_2_ : Nat → Prop) (A0_2 : Option Addr) (c0_2 : Nat) (l0_2 : List Int) (r1 : Bool) (r2 : List Int) (r3 : List Int) (w : World) (hs0_1 : Kd.V (Kd.int .u32) 118 w w.heap.size (fun k_ => P0_1_ k_) (.slice A0_1 l0_1.length c0_1) l0_1) (hs0_2 : Kd.V (Kd.int .u32) 118 w w.heap.size (fun k_ => P0_2_ k_) (.slice A0_2 l0_2.length c0_2) l0_2) (H : ratio_R_low.f k a0_0 l0_1 l0_2 = some (r1, r2, r3)) :
  Calls Try.prog 119 #[.agg #[.bool a0_0, .slice A0_1 l0_1.length c0_1, .slice A0_2 l0_2.length c0_2]] w fun e w' => ∃ v1_ v2_ : Value, e = .returned (.agg #[.bool r1, v1_, v2_]) ∧ Kd.V (Kd.int .u32) 118 w' w.heap.size (fun k_ => ((P0_1_ k_ ∨ P0_2_ k_) ∨ w.heap.size ≤ k_)) v1_ r2 ∧ Kd.V (Kd.int .u32) 118 w' w.heap.size (fun k_ => ((P0_1_ k_ ∨ P0_2_ k_) ∨ w.heap.size ≤ k_)) v2_ r3 ∧ Below w.heap.size w w' := by
 have hu69 := Try.underlying69
 have HO0_1 := Aside0.mk (show Kd.V (Kd.int .u32) 118 w w.heap.size (fun k_ => ((P0_1_ k_ ∨ P0_2_ k_) ∨ w.heap.size ≤ k_)) (.slice A0_1 l0_1.length c0_1) l0_1 from Kd.V_mono hs0_1 (fun k_ hk => .inl (.inl hk)))
 have HO0_2 := Aside0.mk (show Kd.V (Kd.int .u32) 118 w w.heap.size (fun k_ => ((P0_1_ k_ ∨ P0_2_ k_) ∨ w.heap.size ≤ k_)) (.slice A0_2 l0_2.length c0_2) l0_2 from Kd.V_mono hs0_2 (fun k_ hk => .inl (.inr hk)))
 have HB := Aside0.mk (Below.refl w.heap.size w)
 unfold ratio_R_low.f at H
 replace H := bi H
 obtain ⟨⟨t103, t104, t107⟩, A2, H⟩ := H
 try dsimp only at H
 simp only [Option.some.injEq, Prod.mk.injEq] at H
 obtain ⟨rfl, rfl, rfl⟩ := H
 go_enter Try.func119, Try.ntmps119
 go_wp2_with (first | ((with_reducible refine gd 1 rfl ?_); refine bx 1 #[.bool a0_0, .slice A0_1 l0_1.length c0_1, .slice A0_2 l0_2.length c0_2] ?_; intro gb101 hg w3 hbox hb; replace HO0_1 := vE HO0_1 hg hb; replace HO0_2 := vE HO0_2 hg hb; have BK101 := Aside0.mk hbox; have GW101 := gB hg HB; have GE101 := gB hg HB; replace HB := bA HB hb; clear hb hbox hg) | ((with_reducible refine gd 2 rfl ?_); refine bx 2 #[.bool false, .slice none 0 0, .slice none 0 0] ?_; intro gb102 hg w4 hbox hb; replace HO0_1 := vE HO0_1 hg hb; replace HO0_2 := vE HO0_2 hg hb; have BK102 := Aside0.mk hbox; have GW102 := gS' hg HB; have GE102 := gS' hg HB; replace HB := bS HB hb; have NB101_102 := nL hg BK101; have NB102_101 := nR hg BK101; replace BK101 := kA BK101 hb; clear hb hbox hg; have hnb5 := NB101_102.out; have hnc5 := NB102_101.out; obtain ⟨⟨hcz6_0, hcz6_1, hcz6_2⟩, hfz6_0, hfz6_1, hfz6_2⟩ := cE BK101) | ((with_reducible refine gc 126 rfl ?_); refine gL 9 Try.func126 #[.bool a0_0, .slice A0_1 l0_1.length c0_1, .slice A0_2 l0_2.length c0_2] ?_; (with_reducible refine (ratio_low.calls k a0_0 (fun k_ => ((((P0_1_ k_ ∨ P0_2_ k_) ∨ w.heap.size ≤ k_) ∧ k_ ≠ gb101) ∧ k_ ≠ gb102)) _ _ l0_1 (fun k_ => ((((P0_1_ k_ ∨ P0_2_ k_) ∨ w.heap.size ≤ k_) ∧ k_ ≠ gb101) ∧ k_ ≠ gb102)) _ _ l0_2 t103 t104 t107 _ ?_ ?_ A2.out).mono ?_); exact HO0_1.out; exact HO0_2.out; rintro e w7 ⟨v105, v108, rfl, ho0, ho1, hb⟩; refine ⟨_, rfl, ?_⟩; replace HO0_1 := vA HO0_1 hb; replace HO0_2 := vA HO0_2 hb; have HO106 := lw HB (fun k_ => ((P0_1_ k_ ∨ P0_2_ k_) ∨ w.heap.size ≤ k_) ∧ k_ ≠ gb101 ∧ k_ ≠ gb102) ho0 (fun k_ hk_ => Or.elim hk_ (fun hs_ => Or.elim hs_ (fun hs_ => ⟨hs_.1.1, hs_.1.2, hs_.2⟩) (fun hs_ => ⟨hs_.1.1, hs_.1.2, hs_.2⟩)) (fun hn_ => ⟨.inr (Nat.le_trans (below_size hB) hn_), kF BK101 hn_, kF BK102 hn_⟩)); have HO109 := lw HB (fun k_ => ((P0_1_ k_ ∨ P0_2_ k_) ∨ w.heap.size ≤ k_) ∧ k_ ≠ gb101 ∧ k_ ≠ gb102) ho1 (fun k_ hk_ => Or.elim hk_ (fun hs_ => Or.elim hs_ (fun hs_ => ⟨hs_.1.1, hs_.1.2, hs_.2⟩) (fun hs_ => ⟨hs_.1.1, hs_.1.2, hs_.2⟩)) (fun hn_ => ⟨.inr (Nat.le_trans (below_size hB) hn_), kF BK101 hn_, kF BK102 hn_⟩)); replace BK101 := kA BK101 hb; replace BK102 := kA BK102 hb; replace HB := bS HB hb; clear hb ho0 ho1; obtain ⟨⟨hcz8_0, hcz8_1, hcz8_2⟩, hfz8_0, hfz8_1, hfz8_2⟩ := cE BK102; obtain ⟨Ao9, co9, eo9⟩ := Kd.V_slice HO106.out; subst eo9; obtain ⟨Ao10, co10, eo10⟩ := Kd.V_slice HO109.out; subst eo10))
 refine bodyPost_ret (results_cell_row rfl _ _ gb102 69 #[.bool t103, .slice Ao9 t104.length co9, .slice Ao10 t107.length co10] (0, 0) _ rfl (by exact kU (p3 BK102)) Try.underlying69 rfl (by kernel_rfl)) rfl ?_
 exact ⟨_, _, er, vG (v3p HO106 (fun _ hk => hk.2.2)) (fun _ hk => hk.1.1), vG (v3p HO109 (fun _ hk => hk.2.2)) (fun _ hk => hk.1.1), hB⟩
def ratio_R_Cmp.f (k : Nat) (a0_0 : Bool) (l0_1 : List Int) (l0_2 : List Int) (a1_0 : Bool) (l1_1 : List Int) (l1_2 : List Int) : Option (Int) := (ratio_R_low.f k a0_0 l0_1 l0_2).bind fun bt103 => ((ratio_R_low.f k a1_0 l1_1 l1_2).bind fun bt110 => (if (bt103.1 != bt110.1) = true then (if bt103.1 = true then (some (-1)) else (some 1)) else ((nat_Nat_Mul.f k bt103.2.1 bt110.2.2).bind fun t117 => ((nat_Nat_Mul.f k bt110.2.1 bt103.2.2).bind fun t120 => ((nat_Nat_Cmp.f k t117 t120).bind fun t123 => (if bt103.1 = true then (some (wrap64 (-t123))) else (some t123)))))))
theorem ratio_R_Cmp.mono : ∀ a0 a1 a2 a3 a4 a5 k, LeO (ratio_R_Cmp.f k a0 a1 a2 a3 a4 a5) (ratio_R_Cmp.f (k + 1) a0 a1 a2 a3 a4 a5) := by
 intro a0 a1 a2 a3 a4 a5 k
 unfold ratio_R_Cmp.f
 repeat' with_reducible first | exact nat_Nat_Cmp.mono _ _ _ | exact nat_Nat_Mul.mono _ _ _ | exact ratio_R_low.mono _ _ _ _ | exact LeO.refl _ | exact LeO.none _ | refine LeO.ite ?_ ?_ | refine LeO.bind ?_ (fun _ => ?_)
def ratio_R_Cmp.T6 : Bool × List (List Nat × List Nat) := (true, [([], []), ([0], [0]), ([], []), ([2], [2]), ([1, 3], [1, 3]), ([], []), ([5], [5]), ([], []), ([7], [7]), ([6, 8, 4], [6, 8]), ([4, 9, 9], [4, 9]), ([10, 10, 0, 1, 2, 3, 4, 5, 6, 7, 8, 9, 10], [10])])
def ratio_R_Cmp.B6 : List Nat := [0, 1, 0, 4, 15, 0, 32, 0, 128, 511, 1023, 2047]
theorem ratio_R_Cmp.tab6 : rtab .any (opsOf Try.f58 6) = ratio_R_Cmp.T6 := by kernel_rfl
theorem ratio_R_Cmp.bits6 : waitsOk ratio_R_Cmp.T6.2 ratio_R_Cmp.B6 = true := by kernel_rfl
set_option maxHeartbeats 8000000 in
set_option maxRecDepth 100000 in
theorem ratio_R_Cmp.calls (k : Nat) (a0_0 : Bool) (A0_1 : Option Addr) (c0_1 : Nat) (l0_1 : List Int) (A0_2 : Option Addr) (c0_2 : Nat) (l0_2 : List Int) (a1_0 : Bool) (A1_1 : Option Addr) (c1_1 : Nat) (l1_1 : List Int) (A1_2 : Option Addr) (c1_2 : Nat) (l1_2 : List Int) (r : Int) (w : World) (hr0_1 : Kd.C (Kd.int .u32) w A0_1 l0_1.length l0_1) (hc0_1 : l0_1.length ≤ c0_1) (hr0_2 : Kd.C (Kd.int .u32) w A0_2 l0_2.length l0_2) (hc0_2 : l0_2.length ≤ c0_2) (hr1_1 : Kd.C (Kd.int .u32) w A1_1 l1_1.length l1_1) (hc1_1 : l1_1.length ≤ c1_1) (hr1_2 : Kd.C (Kd.int .u32) w A1_2 l1_2.length l1_2) (hc1_2 : l1_2.length ≤ c1_2) (H : ratio_R_Cmp.f k a0_0 l0_1 l0_2 a1_0 l1_1 l1_2 = some r) :
  Calls Try.prog 58 #[.agg #[.bool a0_0, .slice A0_1 l0_1.length c0_1, .slice A0_2 l0_2.length c0_2], .agg #[.bool a1_0, .slice A1_1 l1_1.length c1_1, .slice A1_2 l1_2.length c1_2]] w fun e w' => e = .returned (.int .i64 r) ∧ Below w.heap.size w w' := by
 have hu69 := Try.underlying69
 have HR0_1 := Aside0.mk hr0_1
 have HC0_1 := Aside0.mk hc0_1
 clear hr0_1 hc0_1
 have HR0_2 := Aside0.mk hr0_2
 have HC0_2 := Aside0.mk hc0_2
 clear hr0_2 hc0_2
 have HR1_1 := Aside0.mk hr1_1
 have HC1_1 := Aside0.mk hc1_1
 clear hr1_1 hc1_1
 have HR1_2 := Aside0.mk hr1_2
 have HC1_2 := Aside0.mk hc1_2
 clear hr1_2 hc1_2
 have HB := Aside0.mk (Below.refl w.heap.size w)
 unfold ratio_R_Cmp.f at H
 replace H := bi H
 obtain ⟨⟨t103, t104, t107⟩, A3, H⟩ := H
 try dsimp only at H
 replace H := bi H
 obtain ⟨⟨t110, t111, t114⟩, A4, H⟩ := H
 try dsimp only at H
 by_cases c5 : (t103 != t110) = true
 ·rw [if_pos c5] at H
  have c5b0 : (t103 != t110) = true := c5
  (try (have c5b1 : decide (t103 = t110) = false := by simpa using c5))
  (try (have c5b2 : (t103 == t110) = false := by simpa using c5))
  (try (have c5b3 : ¬ (t103 = t110) := by simpa using c5))
  clear c5
  by_cases c6 : t103 = true
  ·subst c6
   replace H := ifT H
   obtain rfl := Option.some.inj H
   go_enter Try.func58, Try.ntmps58
   try go_wp2_with (first | ((with_reducible refine gd 2 rfl ?_); refine bx 2 #[.bool a0_0, .slice A0_1 l0_1.length c0_1, .slice A0_2 l0_2.length c0_2] ?_; intro gb101 hg w7 hbox hb; have BK101 := Aside0.mk hbox; have GW101 := gB hg HB; have GE101 := gB hg HB; replace HB := bA HB hb; clear hb hbox hg) | ((with_reducible refine gd 3 rfl ?_); refine bx 3 #[.bool a1_0, .slice A1_1 l1_1.length c1_1, .slice A1_2 l1_2.length c1_2] ?_; intro gb102 hg w8 hbox hb; have BK102 := Aside0.mk hbox; have GW102 := gS' hg HB; have GE102 := gS' hg HB; replace HB := bS HB hb; have NB101_102 := nL hg BK101; have NB102_101 := nR hg BK101; replace BK101 := kA BK101 hb; clear hb hbox hg))
   replace BK101 := kd BK101
   replace BK102 := kd BK102
   replace HB := bd HB
   refine st (S := fun w' => B3 w' gb101 (.bool a0_0) (.slice A0_1 l0_1.length c0_1) (.slice A0_2 l0_2.length c0_2) ∧ B3 w' gb102 (.bool a1_0) (.slice A1_1 l1_1.length c1_1) (.slice A1_2 l1_2.length c1_2)) 6 [4, 5] (tf 0 6) ⟨b3 BK101, b3 BK102⟩ (fun hHeld => ?_)
   generalize w8.drew = w9 at BK101 BK102 HB hHeld ⊢
   refine tk 0 6 (tf 1 5) hHeld ?_
   refine tk 2 8 #[true, false, true, false, false, false] hHeld ?_
   refine on 1 (some 7) (tf 3 3) (fun K hK => ?_)
   refine gS Try.func119 #[.agg #[.bool a0_0, .slice A0_1 l0_1.length c0_1, .slice A0_2 l0_2.length c0_2]] ?_
   with_reducible refine (ratio_R_low.calls k a0_0 (fun k_ => k_ < w.heap.size) _ _ l0_1 (fun k_ => k_ < w.heap.size) _ _ l0_2 true t104 t107 _ ?_ ?_ A3.out).mono ?_
   exact Kd.V_mk HC0_1.out (Kd.F_below (Kd.C_F (Kd.heap_int .u32) HR0_1.out) hB)
   exact Kd.V_mk HC0_2.out (Kd.F_below (Kd.C_F (Kd.heap_int .u32) HR0_2.out) hB)
   rintro e w10 ⟨v105, v108, rfl, ho0, ho1, hb⟩
   refine ⟨_, rfl, ?_⟩
   have HO106 := lw HB (fun k_ => k_ ≠ gb101 ∧ k_ ≠ gb102) ho0 (fun k_ hk_ => Or.elim hk_ (fun hs_ => Or.elim hs_ (fun hs_ => ⟨gw hs_ GW101, gw hs_ GW102⟩) (fun hs_ => ⟨gw hs_ GW101, gw hs_ GW102⟩)) (fun hn_ => ⟨kF BK101 hn_, kF BK102 hn_⟩))
   have HO109 := lw HB (fun k_ => k_ ≠ gb101 ∧ k_ ≠ gb102) ho1 (fun k_ hk_ => Or.elim hk_ (fun hs_ => Or.elim hs_ (fun hs_ => ⟨gw hs_ GW101, gw hs_ GW102⟩) (fun hs_ => ⟨gw hs_ GW101, gw hs_ GW102⟩)) (fun hn_ => ⟨kF BK101 hn_, kF BK102 hn_⟩))
   replace BK101 := kA BK101 hb
   replace BK102 := kA BK102 hb
   replace HB := bS HB hb
   clear hb ho0 ho1
   refine hK.out _ _ ⟨b3 BK101, b3 BK102⟩ (fun hHeld => nm ?_)
   clear hK K
   refine on 3 (some 9) (tf 4 2) (fun K hK => ?_)
   refine gS Try.func119 #[.agg #[.bool a1_0, .slice A1_1 l1_1.length c1_1, .slice A1_2 l1_2.length c1_2]] ?_
   with_reducible refine (ratio_R_low.calls k a1_0 (fun k_ => k_ < w.heap.size) _ _ l1_1 (fun k_ => k_ < w.heap.size) _ _ l1_2 t110 t111 t114 _ ?_ ?_ A4.out).mono ?_
   exact Kd.V_mk HC1_1.out (Kd.F_below (Kd.C_F (Kd.heap_int .u32) HR1_1.out) hB)
   exact Kd.V_mk HC1_2.out (Kd.F_below (Kd.C_F (Kd.heap_int .u32) HR1_2.out) hB)
   rintro e w11 ⟨v112, v115, rfl, ho0, ho1, hb⟩
   refine ⟨_, rfl, ?_⟩
   replace HO106 := vA HO106 hb
   replace HO109 := vA HO109 hb
   have HO113 := lw HB (fun k_ => k_ ≠ gb101 ∧ k_ ≠ gb102) ho0 (fun k_ hk_ => Or.elim hk_ (fun hs_ => Or.elim hs_ (fun hs_ => ⟨gw hs_ GW101, gw hs_ GW102⟩) (fun hs_ => ⟨gw hs_ GW101, gw hs_ GW102⟩)) (fun hn_ => ⟨kF BK101 hn_, kF BK102 hn_⟩))
   have HO116 := lw HB (fun k_ => k_ ≠ gb101 ∧ k_ ≠ gb102) ho1 (fun k_ hk_ => Or.elim hk_ (fun hs_ => Or.elim hs_ (fun hs_ => ⟨gw hs_ GW101, gw hs_ GW102⟩) (fun hs_ => ⟨gw hs_ GW101, gw hs_ GW102⟩)) (fun hn_ => ⟨kF BK101 hn_, kF BK102 hn_⟩))
   replace BK101 := kA BK101 hb
   replace BK102 := kA BK102 hb
   replace HB := bS HB hb
   clear hb ho0 ho1
   obtain ⟨Ao13, co13, eo13⟩ := Kd.V_slice HO106.out
   (first | subst eo13 | (injection eo13 with f1_ f2_ f3_; have f4_ := f1_.symm; have f5_ := f3_.symm; clear f1_ f2_ f3_; subst f4_; subst f5_))
   obtain ⟨Ao15, co15, eo15⟩ := Kd.V_slice HO109.out
   (first | subst eo15 | (injection eo15 with f1_ f2_ f3_; have f4_ := f1_.symm; have f5_ := f3_.symm; clear f1_ f2_ f3_; subst f4_; subst f5_))
   obtain ⟨Ao18, co18, eo18⟩ := Kd.V_slice HO113.out
   (first | subst eo18 | (injection eo18 with f1_ f2_ f3_; have f4_ := f1_.symm; have f5_ := f3_.symm; clear f1_ f2_ f3_; subst f4_; subst f5_))
   obtain ⟨Ao20, co20, eo20⟩ := Kd.V_slice HO116.out
   (first | subst eo20 | (injection eo20 with f1_ f2_ f3_; have f4_ := f1_.symm; have f5_ := f3_.symm; clear f1_ f2_ f3_; subst f4_; subst f5_))
   refine hK.out _ _ ⟨b3 BK101, b3 BK102⟩ (fun hHeld => nm ?_)
   clear hK K
   refine la 4 none (tf 5 1) (fun K hK => ?_)
   obtain ⟨hs12, hfs12⟩ := e0 BK101
   have hns12_1 := NB102_101.out
   have hms12_1 := NB101_102.out
   obtain ⟨hs14, hfs14⟩ := e1 BK101
   have hns14_1 := NB102_101.out
   have hms14_1 := NB101_102.out
   obtain ⟨hs16, hfs16⟩ := e2 BK101
   have hns16_1 := NB102_101.out
   have hms16_1 := NB101_102.out
   refine sk (hK.out _ _ ?_)
   clear hK K
   refine la 5 none (tf 6 0) (fun K hK => ?_)
   obtain ⟨hs17, hfs17⟩ := e0 BK102
   have hns17_0 := NB101_102.out
   have hms17_0 := NB102_101.out
   obtain ⟨hs19, hfs19⟩ := e1 BK102
   have hns19_0 := NB101_102.out
   have hms19_0 := NB102_101.out
   obtain ⟨hs21, hfs21⟩ := e2 BK102
   have hns21_0 := NB101_102.out
   have hms21_0 := NB102_101.out
   refine sk (hK.out _ _ ?_)
   clear hK K
   refine done_ (by kernel_rfl) ?_
   have hnb22 := NB101_102.out
   have hnc22 := NB102_101.out
   obtain ⟨⟨hcz23_0, hcz23_1, hcz23_2⟩, hfz23_0, hfz23_1, hfz23_2⟩ := cE BK101
   obtain ⟨⟨hcz24_0, hcz24_1, hcz24_2⟩, hfz24_0, hfz24_1, hfz24_2⟩ := cE BK102
   try go_wp2
   go_ret
   exact ⟨er, hB⟩
  ·replace c6 := Bool.eq_false_iff.mpr c6
   subst c6
   have H1 : (some 1) = some r := by rw [if_neg (show ¬ (false = true) by decide)] at H; exact H
   clear H
   have H := H1
   clear H1
   obtain rfl := Option.some.inj H
   go_enter Try.func58, Try.ntmps58
   try go_wp2_with (first | ((with_reducible refine gd 2 rfl ?_); refine bx 2 #[.bool a0_0, .slice A0_1 l0_1.length c0_1, .slice A0_2 l0_2.length c0_2] ?_; intro gb101 hg w25 hbox hb; have BK101 := Aside0.mk hbox; have GW101 := gB hg HB; have GE101 := gB hg HB; replace HB := bA HB hb; clear hb hbox hg) | ((with_reducible refine gd 3 rfl ?_); refine bx 3 #[.bool a1_0, .slice A1_1 l1_1.length c1_1, .slice A1_2 l1_2.length c1_2] ?_; intro gb102 hg w26 hbox hb; have BK102 := Aside0.mk hbox; have GW102 := gS' hg HB; have GE102 := gS' hg HB; replace HB := bS HB hb; have NB101_102 := nL hg BK101; have NB102_101 := nR hg BK101; replace BK101 := kA BK101 hb; clear hb hbox hg))
   replace BK101 := kd BK101
   replace BK102 := kd BK102
   replace HB := bd HB
   refine st (S := fun w' => B3 w' gb101 (.bool a0_0) (.slice A0_1 l0_1.length c0_1) (.slice A0_2 l0_2.length c0_2) ∧ B3 w' gb102 (.bool a1_0) (.slice A1_1 l1_1.length c1_1) (.slice A1_2 l1_2.length c1_2)) 6 [4, 5] (tf 0 6) ⟨b3 BK101, b3 BK102⟩ (fun hHeld => ?_)
   generalize w26.drew = w27 at BK101 BK102 HB hHeld ⊢
   refine tk 0 6 (tf 1 5) hHeld ?_
   refine tk 2 8 #[true, false, true, false, false, false] hHeld ?_
   refine on 1 (some 7) (tf 3 3) (fun K hK => ?_)
   refine gS Try.func119 #[.agg #[.bool a0_0, .slice A0_1 l0_1.length c0_1, .slice A0_2 l0_2.length c0_2]] ?_
   with_reducible refine (ratio_R_low.calls k a0_0 (fun k_ => k_ < w.heap.size) _ _ l0_1 (fun k_ => k_ < w.heap.size) _ _ l0_2 false t104 t107 _ ?_ ?_ A3.out).mono ?_
   exact Kd.V_mk HC0_1.out (Kd.F_below (Kd.C_F (Kd.heap_int .u32) HR0_1.out) hB)
   exact Kd.V_mk HC0_2.out (Kd.F_below (Kd.C_F (Kd.heap_int .u32) HR0_2.out) hB)
   rintro e w28 ⟨v105, v108, rfl, ho0, ho1, hb⟩
   refine ⟨_, rfl, ?_⟩
   have HO106 := lw HB (fun k_ => k_ ≠ gb101 ∧ k_ ≠ gb102) ho0 (fun k_ hk_ => Or.elim hk_ (fun hs_ => Or.elim hs_ (fun hs_ => ⟨gw hs_ GW101, gw hs_ GW102⟩) (fun hs_ => ⟨gw hs_ GW101, gw hs_ GW102⟩)) (fun hn_ => ⟨kF BK101 hn_, kF BK102 hn_⟩))
   have HO109 := lw HB (fun k_ => k_ ≠ gb101 ∧ k_ ≠ gb102) ho1 (fun k_ hk_ => Or.elim hk_ (fun hs_ => Or.elim hs_ (fun hs_ => ⟨gw hs_ GW101, gw hs_ GW102⟩) (fun hs_ => ⟨gw hs_ GW101, gw hs_ GW102⟩)) (fun hn_ => ⟨kF BK101 hn_, kF BK102 hn_⟩))
   replace BK101 := kA BK101 hb
   replace BK102 := kA BK102 hb
   replace HB := bS HB hb
   clear hb ho0 ho1
   refine hK.out _ _ ⟨b3 BK101, b3 BK102⟩ (fun hHeld => nm ?_)
   clear hK K
   refine on 3 (some 9) (tf 4 2) (fun K hK => ?_)
   refine gS Try.func119 #[.agg #[.bool a1_0, .slice A1_1 l1_1.length c1_1, .slice A1_2 l1_2.length c1_2]] ?_
   with_reducible refine (ratio_R_low.calls k a1_0 (fun k_ => k_ < w.heap.size) _ _ l1_1 (fun k_ => k_ < w.heap.size) _ _ l1_2 t110 t111 t114 _ ?_ ?_ A4.out).mono ?_
   exact Kd.V_mk HC1_1.out (Kd.F_below (Kd.C_F (Kd.heap_int .u32) HR1_1.out) hB)
   exact Kd.V_mk HC1_2.out (Kd.F_below (Kd.C_F (Kd.heap_int .u32) HR1_2.out) hB)
   rintro e w29 ⟨v112, v115, rfl, ho0, ho1, hb⟩
   refine ⟨_, rfl, ?_⟩
   replace HO106 := vA HO106 hb
   replace HO109 := vA HO109 hb
   have HO113 := lw HB (fun k_ => k_ ≠ gb101 ∧ k_ ≠ gb102) ho0 (fun k_ hk_ => Or.elim hk_ (fun hs_ => Or.elim hs_ (fun hs_ => ⟨gw hs_ GW101, gw hs_ GW102⟩) (fun hs_ => ⟨gw hs_ GW101, gw hs_ GW102⟩)) (fun hn_ => ⟨kF BK101 hn_, kF BK102 hn_⟩))
   have HO116 := lw HB (fun k_ => k_ ≠ gb101 ∧ k_ ≠ gb102) ho1 (fun k_ hk_ => Or.elim hk_ (fun hs_ => Or.elim hs_ (fun hs_ => ⟨gw hs_ GW101, gw hs_ GW102⟩) (fun hs_ => ⟨gw hs_ GW101, gw hs_ GW102⟩)) (fun hn_ => ⟨kF BK101 hn_, kF BK102 hn_⟩))
   replace BK101 := kA BK101 hb
   replace BK102 := kA BK102 hb
   replace HB := bS HB hb
   clear hb ho0 ho1
   obtain ⟨Ao31, co31, eo31⟩ := Kd.V_slice HO106.out
   (first | subst eo31 | (injection eo31 with f1_ f2_ f3_; have f4_ := f1_.symm; have f5_ := f3_.symm; clear f1_ f2_ f3_; subst f4_; subst f5_))
   obtain ⟨Ao33, co33, eo33⟩ := Kd.V_slice HO109.out
   (first | subst eo33 | (injection eo33 with f1_ f2_ f3_; have f4_ := f1_.symm; have f5_ := f3_.symm; clear f1_ f2_ f3_; subst f4_; subst f5_))
   obtain ⟨Ao36, co36, eo36⟩ := Kd.V_slice HO113.out
   (first | subst eo36 | (injection eo36 with f1_ f2_ f3_; have f4_ := f1_.symm; have f5_ := f3_.symm; clear f1_ f2_ f3_; subst f4_; subst f5_))
   obtain ⟨Ao38, co38, eo38⟩ := Kd.V_slice HO116.out
   (first | subst eo38 | (injection eo38 with f1_ f2_ f3_; have f4_ := f1_.symm; have f5_ := f3_.symm; clear f1_ f2_ f3_; subst f4_; subst f5_))
   refine hK.out _ _ ⟨b3 BK101, b3 BK102⟩ (fun hHeld => nm ?_)
   clear hK K
   refine la 4 none (tf 5 1) (fun K hK => ?_)
   obtain ⟨hs30, hfs30⟩ := e0 BK101
   have hns30_1 := NB102_101.out
   have hms30_1 := NB101_102.out
   obtain ⟨hs32, hfs32⟩ := e1 BK101
   have hns32_1 := NB102_101.out
   have hms32_1 := NB101_102.out
   obtain ⟨hs34, hfs34⟩ := e2 BK101
   have hns34_1 := NB102_101.out
   have hms34_1 := NB101_102.out
   refine sk (hK.out _ _ ?_)
   clear hK K
   refine la 5 none (tf 6 0) (fun K hK => ?_)
   obtain ⟨hs35, hfs35⟩ := e0 BK102
   have hns35_0 := NB101_102.out
   have hms35_0 := NB102_101.out
   obtain ⟨hs37, hfs37⟩ := e1 BK102
   have hns37_0 := NB101_102.out
   have hms37_0 := NB102_101.out
   obtain ⟨hs39, hfs39⟩ := e2 BK102
   have hns39_0 := NB101_102.out
   have hms39_0 := NB102_101.out
   refine sk (hK.out _ _ ?_)
   clear hK K
   refine done_ (by kernel_rfl) ?_
   have hnb40 := NB101_102.out
   have hnc40 := NB102_101.out
   obtain ⟨⟨hcz41_0, hcz41_1, hcz41_2⟩, hfz41_0, hfz41_1, hfz41_2⟩ := cE BK101
   obtain ⟨⟨hcz42_0, hcz42_1, hcz42_2⟩, hfz42_0, hfz42_1, hfz42_2⟩ := cE BK102
   try go_wp2
   go_ret
   exact ⟨er, hB⟩
 rw [if_neg c5] at H
 have c5b0 : (t103 != t110) = false := by simpa using c5
 (try (have c5b1 : decide (t103 = t110) = true := by simpa using c5))
 (try (have c5b2 : (t103 == t110) = true := by simpa using c5))
 clear c5
 replace H := bi H
 obtain ⟨t117, A43, H⟩ := H
 replace H := bi H
 obtain ⟨t120, A44, H⟩ := H
 replace H := bi H
 obtain ⟨t123, A45, H⟩ := H
 by_cases c46 : t103 = true
 ·subst c46
  replace H := ifT H
  obtain rfl := Option.some.inj H
  go_enter Try.func58, Try.ntmps58
  try go_wp2_with (first | ((with_reducible refine gd 2 rfl ?_); refine bx 2 #[.bool a0_0, .slice A0_1 l0_1.length c0_1, .slice A0_2 l0_2.length c0_2] ?_; intro gb101 hg w47 hbox hb; have BK101 := Aside0.mk hbox; have GW101 := gB hg HB; have GE101 := gB hg HB; replace HB := bA HB hb; clear hb hbox hg) | ((with_reducible refine gd 3 rfl ?_); refine bx 3 #[.bool a1_0, .slice A1_1 l1_1.length c1_1, .slice A1_2 l1_2.length c1_2] ?_; intro gb102 hg w48 hbox hb; have BK102 := Aside0.mk hbox; have GW102 := gS' hg HB; have GE102 := gS' hg HB; replace HB := bS HB hb; have NB101_102 := nL hg BK101; have NB102_101 := nR hg BK101; replace BK101 := kA BK101 hb; clear hb hbox hg))
  replace BK101 := kd BK101
  replace BK102 := kd BK102
  replace HB := bd HB
  refine st (S := fun w' => B3 w' gb101 (.bool a0_0) (.slice A0_1 l0_1.length c0_1) (.slice A0_2 l0_2.length c0_2) ∧ B3 w' gb102 (.bool a1_0) (.slice A1_1 l1_1.length c1_1) (.slice A1_2 l1_2.length c1_2)) 6 [4, 5] (tf 0 6) ⟨b3 BK101, b3 BK102⟩ (fun hHeld => ?_)
  generalize w48.drew = w49 at BK101 BK102 HB hHeld ⊢
  refine tk 0 6 (tf 1 5) hHeld ?_
  refine tk 2 8 #[true, false, true, false, false, false] hHeld ?_
  refine on 1 (some 7) (tf 3 3) (fun K hK => ?_)
  refine gS Try.func119 #[.agg #[.bool a0_0, .slice A0_1 l0_1.length c0_1, .slice A0_2 l0_2.length c0_2]] ?_
  with_reducible refine (ratio_R_low.calls k a0_0 (fun k_ => k_ < w.heap.size) _ _ l0_1 (fun k_ => k_ < w.heap.size) _ _ l0_2 true t104 t107 _ ?_ ?_ A3.out).mono ?_
  exact Kd.V_mk HC0_1.out (Kd.F_below (Kd.C_F (Kd.heap_int .u32) HR0_1.out) hB)
  exact Kd.V_mk HC0_2.out (Kd.F_below (Kd.C_F (Kd.heap_int .u32) HR0_2.out) hB)
  rintro e w50 ⟨v105, v108, rfl, ho0, ho1, hb⟩
  refine ⟨_, rfl, ?_⟩
  have HO106 := lw HB (fun k_ => k_ ≠ gb101 ∧ k_ ≠ gb102) ho0 (fun k_ hk_ => Or.elim hk_ (fun hs_ => Or.elim hs_ (fun hs_ => ⟨gw hs_ GW101, gw hs_ GW102⟩) (fun hs_ => ⟨gw hs_ GW101, gw hs_ GW102⟩)) (fun hn_ => ⟨kF BK101 hn_, kF BK102 hn_⟩))
  have HO109 := lw HB (fun k_ => k_ ≠ gb101 ∧ k_ ≠ gb102) ho1 (fun k_ hk_ => Or.elim hk_ (fun hs_ => Or.elim hs_ (fun hs_ => ⟨gw hs_ GW101, gw hs_ GW102⟩) (fun hs_ => ⟨gw hs_ GW101, gw hs_ GW102⟩)) (fun hn_ => ⟨kF BK101 hn_, kF BK102 hn_⟩))
  replace BK101 := kA BK101 hb
  replace BK102 := kA BK102 hb
  replace HB := bS HB hb
  clear hb ho0 ho1
  refine hK.out _ _ ⟨b3 BK101, b3 BK102⟩ (fun hHeld => nm ?_)
  clear hK K
  refine on 3 (some 9) (tf 4 2) (fun K hK => ?_)
  refine gS Try.func119 #[.agg #[.bool a1_0, .slice A1_1 l1_1.length c1_1, .slice A1_2 l1_2.length c1_2]] ?_
  with_reducible refine (ratio_R_low.calls k a1_0 (fun k_ => k_ < w.heap.size) _ _ l1_1 (fun k_ => k_ < w.heap.size) _ _ l1_2 t110 t111 t114 _ ?_ ?_ A4.out).mono ?_
  exact Kd.V_mk HC1_1.out (Kd.F_below (Kd.C_F (Kd.heap_int .u32) HR1_1.out) hB)
  exact Kd.V_mk HC1_2.out (Kd.F_below (Kd.C_F (Kd.heap_int .u32) HR1_2.out) hB)
  rintro e w51 ⟨v112, v115, rfl, ho0, ho1, hb⟩
  refine ⟨_, rfl, ?_⟩
  replace HO106 := vA HO106 hb
  replace HO109 := vA HO109 hb
  have HO113 := lw HB (fun k_ => k_ ≠ gb101 ∧ k_ ≠ gb102) ho0 (fun k_ hk_ => Or.elim hk_ (fun hs_ => Or.elim hs_ (fun hs_ => ⟨gw hs_ GW101, gw hs_ GW102⟩) (fun hs_ => ⟨gw hs_ GW101, gw hs_ GW102⟩)) (fun hn_ => ⟨kF BK101 hn_, kF BK102 hn_⟩))
  have HO116 := lw HB (fun k_ => k_ ≠ gb101 ∧ k_ ≠ gb102) ho1 (fun k_ hk_ => Or.elim hk_ (fun hs_ => Or.elim hs_ (fun hs_ => ⟨gw hs_ GW101, gw hs_ GW102⟩) (fun hs_ => ⟨gw hs_ GW101, gw hs_ GW102⟩)) (fun hn_ => ⟨kF BK101 hn_, kF BK102 hn_⟩))
  replace BK101 := kA BK101 hb
  replace BK102 := kA BK102 hb
  replace HB := bS HB hb
  clear hb ho0 ho1
  obtain ⟨Ao53, co53, eo53⟩ := Kd.V_slice HO106.out
  (first | subst eo53 | (injection eo53 with f1_ f2_ f3_; have f4_ := f1_.symm; have f5_ := f3_.symm; clear f1_ f2_ f3_; subst f4_; subst f5_))
  obtain ⟨Ao55, co55, eo55⟩ := Kd.V_slice HO109.out
  (first | subst eo55 | (injection eo55 with f1_ f2_ f3_; have f4_ := f1_.symm; have f5_ := f3_.symm; clear f1_ f2_ f3_; subst f4_; subst f5_))
  obtain ⟨Ao58, co58, eo58⟩ := Kd.V_slice HO113.out
  (first | subst eo58 | (injection eo58 with f1_ f2_ f3_; have f4_ := f1_.symm; have f5_ := f3_.symm; clear f1_ f2_ f3_; subst f4_; subst f5_))
  obtain ⟨Ao60, co60, eo60⟩ := Kd.V_slice HO116.out
  (first | subst eo60 | (injection eo60 with f1_ f2_ f3_; have f4_ := f1_.symm; have f5_ := f3_.symm; clear f1_ f2_ f3_; subst f4_; subst f5_))
  refine hK.out _ _ ⟨b3 BK101, b3 BK102⟩ (fun hHeld => nm ?_)
  clear hK K
  refine la 4 none (tf 5 1) (fun K hK => ?_)
  obtain ⟨hs52, hfs52⟩ := e0 BK101
  have hns52_1 := NB102_101.out
  have hms52_1 := NB101_102.out
  obtain ⟨hs54, hfs54⟩ := e1 BK101
  have hns54_1 := NB102_101.out
  have hms54_1 := NB101_102.out
  obtain ⟨hs56, hfs56⟩ := e2 BK101
  have hns56_1 := NB102_101.out
  have hms56_1 := NB101_102.out
  refine sk (hK.out _ _ ?_)
  clear hK K
  refine la 5 none (tf 6 0) (fun K hK => ?_)
  obtain ⟨hs57, hfs57⟩ := e0 BK102
  have hns57_0 := NB101_102.out
  have hms57_0 := NB102_101.out
  obtain ⟨hs59, hfs59⟩ := e1 BK102
  have hns59_0 := NB101_102.out
  have hms59_0 := NB102_101.out
  obtain ⟨hs61, hfs61⟩ := e2 BK102
  have hns61_0 := NB101_102.out
  have hms61_0 := NB102_101.out
  refine sk (hK.out _ _ ?_)
  clear hK K
  refine done_ (by kernel_rfl) ?_
  have hnb62 := NB101_102.out
  have hnc62 := NB102_101.out
  obtain ⟨⟨hcz63_0, hcz63_1, hcz63_2⟩, hfz63_0, hfz63_1, hfz63_2⟩ := cE BK101
  obtain ⟨⟨hcz64_0, hcz64_1, hcz64_2⟩, hfz64_0, hfz64_1, hfz64_2⟩ := cE BK102
  try go_wp2
  generalize hw : ((((((w51.setCell ⟨gb101, 0, none⟩ (.bool true)).setCell ⟨gb101, 1, none⟩ (.slice Ao53 t104.length co53)).setCell ⟨gb101, 2, none⟩ (.slice Ao55 t107.length co55)).setCell ⟨gb102, 0, none⟩ (.bool t110)).setCell ⟨gb102, 1, none⟩ (.slice Ao58 t111.length co58)).setCell ⟨gb102, 2, none⟩ (.slice Ao60 t114.length co60)) = w65
  replace hw := hw.symm
  replace HO106 := vW hw (fun k_ => k_ ≠ gb101 ∧ k_ ≠ gb102) (v3p (v3p HO106 (fun _ hk => hk.1)) (fun _ hk => hk.1.2)) (fun _ hk => ⟨hk.1.1.1, hk.1.1.2⟩)
  replace HO109 := vW hw (fun k_ => k_ ≠ gb101 ∧ k_ ≠ gb102) (v3p (v3p HO109 (fun _ hk => hk.1)) (fun _ hk => hk.1.2)) (fun _ hk => ⟨hk.1.1.1, hk.1.1.2⟩)
  replace HO113 := vW hw (fun k_ => k_ ≠ gb101 ∧ k_ ≠ gb102) (v3p (v3p HO113 (fun _ hk => hk.1)) (fun _ hk => hk.1.2)) (fun _ hk => ⟨hk.1.1.1, hk.1.1.2⟩)
  replace HO116 := vW hw (fun k_ => k_ ≠ gb101 ∧ k_ ≠ gb102) (v3p (v3p HO116 (fun _ hk => hk.1)) (fun _ hk => hk.1.2)) (fun _ hk => ⟨hk.1.1.1, hk.1.1.2⟩)
  replace BK101 := kW hw (q3 (p3 BK101) NB101_102)
  replace BK102 := kW hw (p3 (q3 BK102 NB102_101))
  replace HB := bW HB hw
  clear hw
  replace HO106 := vd HO106
  replace HO109 := vd HO109
  replace HO113 := vd HO113
  replace HO116 := vd HO116
  replace BK101 := kd BK101
  replace BK102 := kd BK102
  replace HB := bd HB
  refine st (S := fun w' => B3 w' gb101 (.bool true) (.slice Ao53 t104.length co53) (.slice Ao55 t107.length co55) ∧ B3 w' gb102 (.bool t110) (.slice Ao58 t111.length co58) (.slice Ao60 t114.length co60)) 12 [] (tf 0 12) ⟨b3 BK101, b3 BK102⟩ (fun hHeld => ?_); refine with_tabW ratio_R_Cmp.tab6 ratio_R_Cmp.bits6 (fun HT_ HW_ => ?_)
  generalize w65.drew = w66 at HO106 HO109 HO113 HO116 BK101 BK102 HB hHeld ⊢
  refine pu 0 17 (tf 1 11) ?_
  refine pu 2 19 #[true, false, true, false, false, false, false, false, false, false, false, false] ?_
  refine pu 5 22 #[true, false, true, false, false, true, false, false, false, false, false, false] ?_
  refine pu 7 24 #[true, false, true, false, false, true, false, true, false, false, false, false] ?_
  refine tk 1 18 #[true, true, true, false, false, true, false, true, false, false, false, false] hHeld ?_
  refine tk 3 20 #[true, true, true, true, false, true, false, true, false, false, false, false] hHeld ?_
  refine tk 6 23 #[true, true, true, true, false, true, true, true, false, false, false, false] hHeld ?_
  refine tk 8 25 #[true, true, true, true, false, true, true, true, true, false, false, false] hHeld ?_
  refine on 4 (some 21) (tf 9 3) (fun K hK => ?_)
  refine gS Try.func30 #[.slice Ao53 t104.length co53, .slice Ao60 t114.length co60] ?_
  with_reducible refine (nat_Nat_Mul.calls k _ _ t104 _ _ t114 t117 _ ?_ ?_ ?_ ?_ A43.out).mono ?_
  exact cup ((Kd.V_reads' HO106.out).2.2)
  exact (Kd.V_reads' HO106.out).2.1
  exact cup ((Kd.V_reads' HO116.out).2.2)
  exact (Kd.V_reads' HO116.out).2.1
  rintro e w67 ⟨v118, rfl, ho0, hb⟩
  refine ⟨_, rfl, ?_⟩
  replace HO109 := vA HO109 hb
  replace HO113 := vA HO113 hb
  have HO119 := lw HB (fun k_ => k_ ≠ gb101 ∧ k_ ≠ gb102) ho0 (fun k_ hk_ => ⟨(kF BK101 hk_), (kF BK102 hk_)⟩)
  replace BK101 := kA BK101 hb
  replace BK102 := kA BK102 hb
  replace HB := bS HB hb
  clear HO106 HO116
  clear hb ho0
  refine hK.out _ _ ⟨b3 BK101, b3 BK102⟩ (fun hHeld => nm ?_)
  clear hK K
  refine on 9 (some 26) (tf 10 2) (fun K hK => ?_)
  refine gS Try.func30 #[.slice Ao58 t111.length co58, .slice Ao55 t107.length co55] ?_
  with_reducible refine (nat_Nat_Mul.calls k _ _ t111 _ _ t107 t120 _ ?_ ?_ ?_ ?_ A44.out).mono ?_
  exact cup ((Kd.V_reads' HO113.out).2.2)
  exact (Kd.V_reads' HO113.out).2.1
  exact cup ((Kd.V_reads' HO109.out).2.2)
  exact (Kd.V_reads' HO109.out).2.1
  rintro e w68 ⟨v121, rfl, ho0, hb⟩
  refine ⟨_, rfl, ?_⟩
  replace HO119 := vA HO119 hb
  have HO122 := lw HB (fun k_ => k_ ≠ gb101 ∧ k_ ≠ gb102) ho0 (fun k_ hk_ => ⟨(kF BK101 hk_), (kF BK102 hk_)⟩)
  replace BK101 := kA BK101 hb
  replace BK102 := kA BK102 hb
  replace HB := bS HB hb
  clear HO109 HO113
  clear hb ho0
  obtain ⟨Ao69, co69, eo69⟩ := Kd.V_slice HO119.out
  (first | subst eo69 | (injection eo69 with f1_ f2_ f3_; have f4_ := f1_.symm; have f5_ := f3_.symm; clear f1_ f2_ f3_; subst f4_; subst f5_))
  obtain ⟨Ao70, co70, eo70⟩ := Kd.V_slice HO122.out
  (first | subst eo70 | (injection eo70 with f1_ f2_ f3_; have f4_ := f1_.symm; have f5_ := f3_.symm; clear f1_ f2_ f3_; subst f4_; subst f5_))
  refine hK.out _ _ ⟨b3 BK101, b3 BK102⟩ (fun hHeld => nm ?_)
  clear hK K
  refine on 10 (some 27) (tf 11 1) (fun K hK => ?_)
  refine gS Try.func33 #[.slice Ao69 t117.length co69, .slice Ao70 t120.length co70] ?_
  with_reducible refine (nat_Nat_Cmp.calls k _ _ t117 _ _ t120 t123 _ ?_ ?_ ?_ ?_ A45.out).mono ?_
  exact cup ((Kd.V_reads' HO119.out).2.2)
  exact (Kd.V_reads' HO119.out).2.1
  exact cup ((Kd.V_reads' HO122.out).2.2)
  exact (Kd.V_reads' HO122.out).2.1
  rintro e w71 ⟨rfl, hb⟩
  refine ⟨_, rfl, ?_⟩
  replace BK101 := kA BK101 hb
  replace BK102 := kA BK102 hb
  replace HB := bS HB hb
  clear HO119 HO122
  clear hb
  refine hK.out _ _ ⟨b3 BK101, b3 BK102⟩ (fun hHeld => nm ?_)
  clear hK K
  refine pu 11 5 (tf 12 0) ?_
  refine done_ (done_of HT_.out (by kernel_rfl)) ?_
  obtain ⟨⟨hcz72_0, hcz72_1, hcz72_2⟩, hfz72_0, hfz72_1, hfz72_2⟩ := cE BK101
  try go_wp2
  go_ret
  exact ⟨er, hB⟩
 ·replace c46 := Bool.eq_false_iff.mpr c46
  subst c46
  have H1 : (some t123) = some r := by rw [if_neg (show ¬ (false = true) by decide)] at H; exact H
  clear H
  have H := H1
  clear H1
  obtain rfl := Option.some.inj H
  go_enter Try.func58, Try.ntmps58
  try go_wp2_with (first | ((with_reducible refine gd 2 rfl ?_); refine bx 2 #[.bool a0_0, .slice A0_1 l0_1.length c0_1, .slice A0_2 l0_2.length c0_2] ?_; intro gb101 hg w73 hbox hb; have BK101 := Aside0.mk hbox; have GW101 := gB hg HB; have GE101 := gB hg HB; replace HB := bA HB hb; clear hb hbox hg) | ((with_reducible refine gd 3 rfl ?_); refine bx 3 #[.bool a1_0, .slice A1_1 l1_1.length c1_1, .slice A1_2 l1_2.length c1_2] ?_; intro gb102 hg w74 hbox hb; have BK102 := Aside0.mk hbox; have GW102 := gS' hg HB; have GE102 := gS' hg HB; replace HB := bS HB hb; have NB101_102 := nL hg BK101; have NB102_101 := nR hg BK101; replace BK101 := kA BK101 hb; clear hb hbox hg))
  replace BK101 := kd BK101
  replace BK102 := kd BK102
  replace HB := bd HB
  refine st (S := fun w' => B3 w' gb101 (.bool a0_0) (.slice A0_1 l0_1.length c0_1) (.slice A0_2 l0_2.length c0_2) ∧ B3 w' gb102 (.bool a1_0) (.slice A1_1 l1_1.length c1_1) (.slice A1_2 l1_2.length c1_2)) 6 [4, 5] (tf 0 6) ⟨b3 BK101, b3 BK102⟩ (fun hHeld => ?_)
  generalize w74.drew = w75 at BK101 BK102 HB hHeld ⊢
  refine tk 0 6 (tf 1 5) hHeld ?_
  refine tk 2 8 #[true, false, true, false, false, false] hHeld ?_
  refine on 1 (some 7) (tf 3 3) (fun K hK => ?_)
  refine gS Try.func119 #[.agg #[.bool a0_0, .slice A0_1 l0_1.length c0_1, .slice A0_2 l0_2.length c0_2]] ?_
  with_reducible refine (ratio_R_low.calls k a0_0 (fun k_ => k_ < w.heap.size) _ _ l0_1 (fun k_ => k_ < w.heap.size) _ _ l0_2 false t104 t107 _ ?_ ?_ A3.out).mono ?_
  exact Kd.V_mk HC0_1.out (Kd.F_below (Kd.C_F (Kd.heap_int .u32) HR0_1.out) hB)
  exact Kd.V_mk HC0_2.out (Kd.F_below (Kd.C_F (Kd.heap_int .u32) HR0_2.out) hB)
  rintro e w76 ⟨v105, v108, rfl, ho0, ho1, hb⟩
  refine ⟨_, rfl, ?_⟩
  have HO106 := lw HB (fun k_ => k_ ≠ gb101 ∧ k_ ≠ gb102) ho0 (fun k_ hk_ => Or.elim hk_ (fun hs_ => Or.elim hs_ (fun hs_ => ⟨gw hs_ GW101, gw hs_ GW102⟩) (fun hs_ => ⟨gw hs_ GW101, gw hs_ GW102⟩)) (fun hn_ => ⟨kF BK101 hn_, kF BK102 hn_⟩))
  have HO109 := lw HB (fun k_ => k_ ≠ gb101 ∧ k_ ≠ gb102) ho1 (fun k_ hk_ => Or.elim hk_ (fun hs_ => Or.elim hs_ (fun hs_ => ⟨gw hs_ GW101, gw hs_ GW102⟩) (fun hs_ => ⟨gw hs_ GW101, gw hs_ GW102⟩)) (fun hn_ => ⟨kF BK101 hn_, kF BK102 hn_⟩))
  replace BK101 := kA BK101 hb
  replace BK102 := kA BK102 hb
  replace HB := bS HB hb
  clear hb ho0 ho1
  refine hK.out _ _ ⟨b3 BK101, b3 BK102⟩ (fun hHeld => nm ?_)
  clear hK K
  refine on 3 (some 9) (tf 4 2) (fun K hK => ?_)
  refine gS Try.func119 #[.agg #[.bool a1_0, .slice A1_1 l1_1.length c1_1, .slice A1_2 l1_2.length c1_2]] ?_
  with_reducible refine (ratio_R_low.calls k a1_0 (fun k_ => k_ < w.heap.size) _ _ l1_1 (fun k_ => k_ < w.heap.size) _ _ l1_2 t110 t111 t114 _ ?_ ?_ A4.out).mono ?_
  exact Kd.V_mk HC1_1.out (Kd.F_below (Kd.C_F (Kd.heap_int .u32) HR1_1.out) hB)
  exact Kd.V_mk HC1_2.out (Kd.F_below (Kd.C_F (Kd.heap_int .u32) HR1_2.out) hB)
  rintro e w77 ⟨v112, v115, rfl, ho0, ho1, hb⟩
  refine ⟨_, rfl, ?_⟩
  replace HO106 := vA HO106 hb
  replace HO109 := vA HO109 hb
  have HO113 := lw HB (fun k_ => k_ ≠ gb101 ∧ k_ ≠ gb102) ho0 (fun k_ hk_ => Or.elim hk_ (fun hs_ => Or.elim hs_ (fun hs_ => ⟨gw hs_ GW101, gw hs_ GW102⟩) (fun hs_ => ⟨gw hs_ GW101, gw hs_ GW102⟩)) (fun hn_ => ⟨kF BK101 hn_, kF BK102 hn_⟩))
  have HO116 := lw HB (fun k_ => k_ ≠ gb101 ∧ k_ ≠ gb102) ho1 (fun k_ hk_ => Or.elim hk_ (fun hs_ => Or.elim hs_ (fun hs_ => ⟨gw hs_ GW101, gw hs_ GW102⟩) (fun hs_ => ⟨gw hs_ GW101, gw hs_ GW102⟩)) (fun hn_ => ⟨kF BK101 hn_, kF BK102 hn_⟩))
  replace BK101 := kA BK101 hb
  replace BK102 := kA BK102 hb
  replace HB := bS HB hb
  clear hb ho0 ho1
  obtain ⟨Ao79, co79, eo79⟩ := Kd.V_slice HO106.out
  (first | subst eo79 | (injection eo79 with f1_ f2_ f3_; have f4_ := f1_.symm; have f5_ := f3_.symm; clear f1_ f2_ f3_; subst f4_; subst f5_))
  obtain ⟨Ao81, co81, eo81⟩ := Kd.V_slice HO109.out
  (first | subst eo81 | (injection eo81 with f1_ f2_ f3_; have f4_ := f1_.symm; have f5_ := f3_.symm; clear f1_ f2_ f3_; subst f4_; subst f5_))
  obtain ⟨Ao84, co84, eo84⟩ := Kd.V_slice HO113.out
  (first | subst eo84 | (injection eo84 with f1_ f2_ f3_; have f4_ := f1_.symm; have f5_ := f3_.symm; clear f1_ f2_ f3_; subst f4_; subst f5_))
  obtain ⟨Ao86, co86, eo86⟩ := Kd.V_slice HO116.out
  (first | subst eo86 | (injection eo86 with f1_ f2_ f3_; have f4_ := f1_.symm; have f5_ := f3_.symm; clear f1_ f2_ f3_; subst f4_; subst f5_))
  refine hK.out _ _ ⟨b3 BK101, b3 BK102⟩ (fun hHeld => nm ?_)
  clear hK K
  refine la 4 none (tf 5 1) (fun K hK => ?_)
  obtain ⟨hs78, hfs78⟩ := e0 BK101
  have hns78_1 := NB102_101.out
  have hms78_1 := NB101_102.out
  obtain ⟨hs80, hfs80⟩ := e1 BK101
  have hns80_1 := NB102_101.out
  have hms80_1 := NB101_102.out
  obtain ⟨hs82, hfs82⟩ := e2 BK101
  have hns82_1 := NB102_101.out
  have hms82_1 := NB101_102.out
  refine sk (hK.out _ _ ?_)
  clear hK K
  refine la 5 none (tf 6 0) (fun K hK => ?_)
  obtain ⟨hs83, hfs83⟩ := e0 BK102
  have hns83_0 := NB101_102.out
  have hms83_0 := NB102_101.out
  obtain ⟨hs85, hfs85⟩ := e1 BK102
  have hns85_0 := NB101_102.out
  have hms85_0 := NB102_101.out
  obtain ⟨hs87, hfs87⟩ := e2 BK102
  have hns87_0 := NB101_102.out
  have hms87_0 := NB102_101.out
  refine sk (hK.out _ _ ?_)
  clear hK K
  refine done_ (by kernel_rfl) ?_
  have hnb88 := NB101_102.out
  have hnc88 := NB102_101.out
  obtain ⟨⟨hcz89_0, hcz89_1, hcz89_2⟩, hfz89_0, hfz89_1, hfz89_2⟩ := cE BK101
  obtain ⟨⟨hcz90_0, hcz90_1, hcz90_2⟩, hfz90_0, hfz90_1, hfz90_2⟩ := cE BK102
  try go_wp2
  generalize hw : ((((((w77.setCell ⟨gb101, 0, none⟩ (.bool false)).setCell ⟨gb101, 1, none⟩ (.slice Ao79 t104.length co79)).setCell ⟨gb101, 2, none⟩ (.slice Ao81 t107.length co81)).setCell ⟨gb102, 0, none⟩ (.bool t110)).setCell ⟨gb102, 1, none⟩ (.slice Ao84 t111.length co84)).setCell ⟨gb102, 2, none⟩ (.slice Ao86 t114.length co86)) = w91
  replace hw := hw.symm
  replace HO106 := vW hw (fun k_ => k_ ≠ gb101 ∧ k_ ≠ gb102) (v3p (v3p HO106 (fun _ hk => hk.1)) (fun _ hk => hk.1.2)) (fun _ hk => ⟨hk.1.1.1, hk.1.1.2⟩)
  replace HO109 := vW hw (fun k_ => k_ ≠ gb101 ∧ k_ ≠ gb102) (v3p (v3p HO109 (fun _ hk => hk.1)) (fun _ hk => hk.1.2)) (fun _ hk => ⟨hk.1.1.1, hk.1.1.2⟩)
  replace HO113 := vW hw (fun k_ => k_ ≠ gb101 ∧ k_ ≠ gb102) (v3p (v3p HO113 (fun _ hk => hk.1)) (fun _ hk => hk.1.2)) (fun _ hk => ⟨hk.1.1.1, hk.1.1.2⟩)
  replace HO116 := vW hw (fun k_ => k_ ≠ gb101 ∧ k_ ≠ gb102) (v3p (v3p HO116 (fun _ hk => hk.1)) (fun _ hk => hk.1.2)) (fun _ hk => ⟨hk.1.1.1, hk.1.1.2⟩)
  replace BK101 := kW hw (q3 (p3 BK101) NB101_102)
  replace BK102 := kW hw (p3 (q3 BK102 NB102_101))
  replace HB := bW HB hw
  clear hw
  replace HO106 := vd HO106
  replace HO109 := vd HO109
  replace HO113 := vd HO113
  replace HO116 := vd HO116
  replace BK101 := kd BK101
  replace BK102 := kd BK102
  replace HB := bd HB
  refine st (S := fun w' => B3 w' gb101 (.bool false) (.slice Ao79 t104.length co79) (.slice Ao81 t107.length co81) ∧ B3 w' gb102 (.bool t110) (.slice Ao84 t111.length co84) (.slice Ao86 t114.length co86)) 12 [] (tf 0 12) ⟨b3 BK101, b3 BK102⟩ (fun hHeld => ?_); refine with_tabW ratio_R_Cmp.tab6 ratio_R_Cmp.bits6 (fun HT_ HW_ => ?_)
  generalize w91.drew = w92 at HO106 HO109 HO113 HO116 BK101 BK102 HB hHeld ⊢
  refine pu 0 17 (tf 1 11) ?_
  refine pu 2 19 #[true, false, true, false, false, false, false, false, false, false, false, false] ?_
  refine pu 5 22 #[true, false, true, false, false, true, false, false, false, false, false, false] ?_
  refine pu 7 24 #[true, false, true, false, false, true, false, true, false, false, false, false] ?_
  refine tk 1 18 #[true, true, true, false, false, true, false, true, false, false, false, false] hHeld ?_
  refine tk 3 20 #[true, true, true, true, false, true, false, true, false, false, false, false] hHeld ?_
  refine tk 6 23 #[true, true, true, true, false, true, true, true, false, false, false, false] hHeld ?_
  refine tk 8 25 #[true, true, true, true, false, true, true, true, true, false, false, false] hHeld ?_
  refine on 4 (some 21) (tf 9 3) (fun K hK => ?_)
  refine gS Try.func30 #[.slice Ao79 t104.length co79, .slice Ao86 t114.length co86] ?_
  with_reducible refine (nat_Nat_Mul.calls k _ _ t104 _ _ t114 t117 _ ?_ ?_ ?_ ?_ A43.out).mono ?_
  exact cup ((Kd.V_reads' HO106.out).2.2)
  exact (Kd.V_reads' HO106.out).2.1
  exact cup ((Kd.V_reads' HO116.out).2.2)
  exact (Kd.V_reads' HO116.out).2.1
  rintro e w93 ⟨v118, rfl, ho0, hb⟩
  refine ⟨_, rfl, ?_⟩
  replace HO109 := vA HO109 hb
  replace HO113 := vA HO113 hb
  have HO119 := lw HB (fun k_ => k_ ≠ gb101 ∧ k_ ≠ gb102) ho0 (fun k_ hk_ => ⟨(kF BK101 hk_), (kF BK102 hk_)⟩)
  replace BK101 := kA BK101 hb
  replace BK102 := kA BK102 hb
  replace HB := bS HB hb
  clear HO106 HO116
  clear hb ho0
  refine hK.out _ _ ⟨b3 BK101, b3 BK102⟩ (fun hHeld => nm ?_)
  clear hK K
  refine on 9 (some 26) (tf 10 2) (fun K hK => ?_)
  refine gS Try.func30 #[.slice Ao84 t111.length co84, .slice Ao81 t107.length co81] ?_
  with_reducible refine (nat_Nat_Mul.calls k _ _ t111 _ _ t107 t120 _ ?_ ?_ ?_ ?_ A44.out).mono ?_
  exact cup ((Kd.V_reads' HO113.out).2.2)
  exact (Kd.V_reads' HO113.out).2.1
  exact cup ((Kd.V_reads' HO109.out).2.2)
  exact (Kd.V_reads' HO109.out).2.1
  rintro e w94 ⟨v121, rfl, ho0, hb⟩
  refine ⟨_, rfl, ?_⟩
  replace HO119 := vA HO119 hb
  have HO122 := lw HB (fun k_ => k_ ≠ gb101 ∧ k_ ≠ gb102) ho0 (fun k_ hk_ => ⟨(kF BK101 hk_), (kF BK102 hk_)⟩)
  replace BK101 := kA BK101 hb
  replace BK102 := kA BK102 hb
  replace HB := bS HB hb
  clear HO109 HO113
  clear hb ho0
  obtain ⟨Ao95, co95, eo95⟩ := Kd.V_slice HO119.out
  (first | subst eo95 | (injection eo95 with f1_ f2_ f3_; have f4_ := f1_.symm; have f5_ := f3_.symm; clear f1_ f2_ f3_; subst f4_; subst f5_))
  obtain ⟨Ao96, co96, eo96⟩ := Kd.V_slice HO122.out
  (first | subst eo96 | (injection eo96 with f1_ f2_ f3_; have f4_ := f1_.symm; have f5_ := f3_.symm; clear f1_ f2_ f3_; subst f4_; subst f5_))
  refine hK.out _ _ ⟨b3 BK101, b3 BK102⟩ (fun hHeld => nm ?_)
  clear hK K
  refine on 10 (some 27) (tf 11 1) (fun K hK => ?_)
  refine gS Try.func33 #[.slice Ao95 t117.length co95, .slice Ao96 t120.length co96] ?_
  with_reducible refine (nat_Nat_Cmp.calls k _ _ t117 _ _ t120 t123 _ ?_ ?_ ?_ ?_ A45.out).mono ?_
  exact cup ((Kd.V_reads' HO119.out).2.2)
  exact (Kd.V_reads' HO119.out).2.1
  exact cup ((Kd.V_reads' HO122.out).2.2)
  exact (Kd.V_reads' HO122.out).2.1
  rintro e w97 ⟨rfl, hb⟩
  refine ⟨_, rfl, ?_⟩
  replace BK101 := kA BK101 hb
  replace BK102 := kA BK102 hb
  replace HB := bS HB hb
  clear HO119 HO122
  clear hb
  refine hK.out _ _ ⟨b3 BK101, b3 BK102⟩ (fun hHeld => nm ?_)
  clear hK K
  refine pu 11 5 (tf 12 0) ?_
  refine done_ (done_of HT_.out (by kernel_rfl)) ?_
  obtain ⟨⟨hcz98_0, hcz98_1, hcz98_2⟩, hfz98_0, hfz98_1, hfz98_2⟩ := cE BK101
  try go_wp2
  go_ret
  exact ⟨er, hB⟩
end Go.Proofs.Ytagbnkbhobmgjaa.Fn
end
section
/- slices.MaxFunc at the rationals' own order: what it hands back is an element of the row. -/
set_option linter.unusedVariables false
set_option linter.unusedSimpArgs false
namespace Go.Proofs.Ytagbnkbhobmgjaa.Fn
open Go.RowKit Go.Proofs.YtagbnkbhobmgjaaW.PrintWords Go.Proofs.YtagbnkbhobmgjaaW.PrintLast Go.Proofs.YtagbnkbhobmgjaaW.PrintMore
attribute [local go_sem] max2_int min2_int max_two min_two max_three min_three max_four min_four
def slices_MaxFunc.l0 : Nat → List S69 → Int → Int → Option Int
  | 0, _, _, _ => none
  | k + 1, x, p, i => if i < (x.length : Int) then (if 0 ≤ i then ((ratio_R_Cmp.f k (rd_T69 x i).f0 (rd_T69 x i).f1 (rd_T69 x i).f2 (rd_T69 x p).f0 (rd_T69 x p).f1 (rd_T69 x p).f2).bind fun t => if t > 0 then slices_MaxFunc.l0 k x i (wrap64 (i + 1)) else slices_MaxFunc.l0 k x p (wrap64 (i + 1))) else none) else some p
def slices_MaxFunc.f (k : Nat) (x : List S69) : Option (Bool × List Int × List Int) := if 0 < (x.length : Int) then (slices_MaxFunc.l0 k x 0 1).bind fun p => some ((rd_T69 x p).f0, (rd_T69 x p).f1, (rd_T69 x p).f2) else none
theorem slices_MaxFunc.mono_l : ∀ k x p i, LeO (slices_MaxFunc.l0 k x p i) (slices_MaxFunc.l0 (k + 1) x p i)
  | 0, _, _, _ => fun r h => by simp [slices_MaxFunc.l0] at h
  | k + 1, x, p, i => by
    have ih := slices_MaxFunc.mono_l k
    unfold slices_MaxFunc.l0
    refine LeO.ite (LeO.ite (LeO.bind (ratio_R_Cmp.mono _ _ _ _ _ _ _) (fun _ => LeO.ite (ih _ _ _) (ih _ _ _))) (LeO.none _)) (LeO.refl _)
theorem slices_MaxFunc.mono : ∀ x k, LeO (slices_MaxFunc.f k x) (slices_MaxFunc.f (k + 1) x) := by
  intro x k
  unfold slices_MaxFunc.f
  exact LeO.ite (LeO.bind (slices_MaxFunc.mono_l k _ _ _) (fun _ => LeO.refl _)) (LeO.none _)
/-- An element of a row of rationals: its cells, and its two rows. -/
theorem elem_F {w : World} {P : Nat → Prop} {A : Option Addr} {n : Nat} {xs : List S69} (h : Kd.F k69 w P A n xs) (i : Int) (h0 : 0 ≤ i) (h1 : i < n) :
    ∃ ad A1 c1 A2 c2, A = some ad ∧ w.cell? (ad.add (i.toNat * 3)) = some (.bool (rd_T69 xs i).f0) ∧ w.cell? ⟨(ad.add (i.toNat * 3)).block, (ad.add (i.toNat * 3)).off + 1, none⟩ = some (.slice A1 (rd_T69 xs i).f1.length c1) ∧ w.cell? ⟨(ad.add (i.toNat * 3)).block, (ad.add (i.toNat * 3)).off + 2, none⟩ = some (.slice A2 (rd_T69 xs i).f2.length c2) ∧ (rd_T69 xs i).f1.length ≤ c1 ∧ Kd.F (Kd.int .u32) w P A1 (rd_T69 xs i).f1.length (rd_T69 xs i).f1 ∧ (rd_T69 xs i).f2.length ≤ c2 ∧ Kd.F (Kd.int .u32) w P A2 (rd_T69 xs i).f2.length (rd_T69 xs i).f2 := by
  obtain ⟨ad, c, e, _, hK, hc0⟩ := ReadsRow.get_ (Kd.F_rows h) z69 i h0 h1
  have hc : ∀ j u, c[j]? = some u → w.cell? (ad.add (i.toNat * 3 + j)) = some u := hc0
  obtain ⟨A1, c1, A2, c2, rfl, l1, g1, l2, g2⟩ := k69_openF hK
  exact ⟨ad, A1, c1, A2, c2, e, hc 0 _ rfl, by rw [← add_field _ _ 1 (by omega)]; exact hc 1 _ rfl, by rw [← add_field _ _ 2 (by omega)]; exact hc 2 _ rfl, l1, g1, l2, g2⟩
/-- The variable m's block holds what an element's cells hold. -/
def IsElem (w0 : World) (P : Nat → Prop) (w : World) (gm : Nat) (x : S69) (A1 : Option Addr) (c1 : Nat) (A2 : Option Addr) (c2 : Nat) : Prop :=
  w.heap[gm]? = some (.cells #[.bool x.f0, .slice A1 x.f1.length c1, .slice A2 x.f2.length c2] 69 (0, 0)) ∧ x.f1.length ≤ c1 ∧ Kd.F (Kd.int .u32) w0 P A1 x.f1.length x.f1 ∧ x.f2.length ≤ c2 ∧ Kd.F (Kd.int .u32) w0 P A2 x.f2.length x.f2
set_option maxHeartbeats 8000000 in
set_option maxRecDepth 100000 in
theorem slices_MaxFunc.calls (k : Nat) (P0_ : Nat → Prop) (A0 : Option Addr) (c0 : Nat) (l0 : List S69) (r1 : Bool) (r2 : List Int) (r3 : List Int) (w : World) (hs0 : Kd.V k69 69 w w.heap.size (fun k_ => P0_ k_) (.slice A0 l0.length c0) l0) (h : slices_MaxFunc.f k l0 = some (r1, r2, r3)) :
    Calls Try.prog 118 #[.slice A0 l0.length c0, .func (.func 58) #[] #[]] w fun e w' => ∃ v1_ v2_ : Value, e = .returned (.agg #[.bool r1, v1_, v2_]) ∧ Kd.V (Kd.int .u32) 118 w' w.heap.size (fun k_ => (P0_ k_ ∨ w.heap.size ≤ k_)) v1_ r2 ∧ Kd.V (Kd.int .u32) 118 w' w.heap.size (fun k_ => (P0_ k_ ∨ w.heap.size ≤ k_)) v2_ r3 ∧ Below w.heap.size w w' := by
  have hF := Aside0.mk (Kd.V_F hs0)
  have hcap := Aside0.mk (Kd.V_at hs0).2.1
  clear hs0
  unfold slices_MaxFunc.f at h
  by_cases hpos : 0 < (l0.length : Int)
  · rw [if_pos hpos] at h
    obtain ⟨p, hp, h2⟩ := Option.bind_eq_some_iff.mp h
    simp only [Option.some.injEq, Prod.mk.injEq] at h2
    obtain ⟨rfl, rfl, rfl⟩ := h2
    have H := Aside0.mk hp
    clear h hp
    obtain ⟨ad, A1, c1, A2, c2, e, hx0, hx1, hx2, hl1, hf1, hl2, hf2⟩ := elem_F hF.out 0 (by omega) hpos
    subst e
    have e00 : ad.add ((0 : Int).toNat * 3) = ad := by rw [show ((0 : Int)).toNat = 0 from rfl, show 0 * 3 = 0 from rfl, Addr.add_zero']
    rw [e00] at hx0 hx1 hx2
    have hu69 := Try.underlying69
    have hlt : ad.block < w.heap.size := World.block_lt_of_cell? w _ hx0
    have hl1' : decide ((l0.length : Int) < 1) = false := decide_eq_false (by omega)
    go_enter Try.func118, Try.ntmps118
    go_wp2
    have hgm : ((w.alloc (Obj.cells #[Value.bool false, Value.slice none 0 0, Value.slice none 0 0] 69)).alloc (Obj.cells #[Value.bool (rd_T69 l0 0).f0, Value.slice A1 (rd_T69 l0 0).f1.length c1, Value.slice A2 (rd_T69 l0 0).f2.length c2] 69)).heap[w.heap.size + 1]? = some (.cells #[Value.bool (rd_T69 l0 0).f0, Value.slice A1 (rd_T69 l0 0).f1.length c1, Value.slice A2 (rd_T69 l0 0).f2.length c2] 69 (0, 0)) := by
      have h1 := blk_new (w.alloc (Obj.cells #[Value.bool false, Value.slice none 0 0, Value.slice none 0 0] 69)) (Obj.cells #[Value.bool (rd_T69 l0 0).f0, Value.slice A1 (rd_T69 l0 0).f1.length c1, Value.slice A2 (rd_T69 l0 0).f2.length c2] 69)
      rw [World.size_alloc] at h1
      exact h1
    have hgr : ((w.alloc (Obj.cells #[Value.bool false, Value.slice none 0 0, Value.slice none 0 0] 69)).alloc (Obj.cells #[Value.bool (rd_T69 l0 0).f0, Value.slice A1 (rd_T69 l0 0).f1.length c1, Value.slice A2 (rd_T69 l0 0).f2.length c2] 69)).heap[w.heap.size]? = some (.cells #[Value.bool false, Value.slice none 0 0, Value.slice none 0 0] 69 (0, 0)) :=
      blk_alloc (blk_new w _) _
    go_loopg [6] k (fun kq v6 wl => ∃ (xi xp : Int) (B1 : Option Addr) (d1 : Nat) (B2 : Option Addr) (d2 : Nat), v6 = .int .i64 xi ∧ Aside0 (slices_MaxFunc.l0 kq l0 xp xi = some p) ∧ Aside0 (kq ≤ k) ∧ Aside0 (IsElem w (fun k_ => P0_ k_) wl (w.heap.size + 1) (rd_T69 l0 xp) B1 d1 B2 d2) ∧ Aside0 (wl.heap[w.heap.size]? = some (.cells #[.bool false, .slice none 0 0, .slice none 0 0] 69 (0, 0))) ∧ Aside0 (Below w.heap.size w wl))
    case atStart => exact ⟨1, 0, A1, c1, A2, c2, rfl, H, ⟨Nat.le_refl _⟩, ⟨hgm, hl1, hf1, hl2, hf2⟩, ⟨hgr⟩, ⟨below_alloc (below_alloc (Below.refl _ _) _) _⟩⟩
    case round =>
      clear hx0 hx1 hx2 hl1 hf1 hl2 hf2 H hgm hgr e00
      obtain ⟨xi, xp, B1, d1, B2, d2, rfl, HA, HK1, HE, HR, HB⟩ := hrel
      cases gk with
      | zero => exact absurd HA.out (by simp [slices_MaxFunc.l0])
      | succ k1 =>
        have H := HA.out
        clear HA
        simp only [slices_MaxFunc.l0] at H
        by_cases c1 : xi < (l0.length : Int)
        · rw [if_pos c1] at H
          by_cases c2 : 0 ≤ xi
          · rw [if_pos c2] at H
            obtain ⟨tc, hc, H⟩ := Option.bind_eq_some_iff.mp H
            have HC := Aside0.mk hc
            clear hc
            obtain ⟨ad', E1, e1, E2, e2, ee, hy0, hy1, hy2, hm1, hg1, hm2, hg2⟩ := elem_F hF.out xi c2 c1
            injection ee with ee
            subst ee
            have hb1 : (ad.add (xi.toNat * 3)).block < w.heap.size := World.block_lt_of_cell? w _ hy0
            have c1b : decide (xi < (l0.length : Int)) = true := decide_eq_true c1
            have c2b : decide (0 ≤ xi) = true := decide_eq_true c2
            have hz0 := (HB.out.cell hb1).trans hy0
            have hz1 := (HB.out.cell (p := ⟨(ad.add (xi.toNat * 3)).block, (ad.add (xi.toNat * 3)).off + 1, none⟩) hb1).trans hy1
            have hz2 := (HB.out.cell (p := ⟨(ad.add (xi.toNat * 3)).block, (ad.add (xi.toNat * 3)).off + 2, none⟩) hb1).trans hy2
            have hv0 := (blk_cell HE.out.1 0).trans rfl
            have hv1 := (blk_cell HE.out.1 1).trans rfl
            have hv2 := (blk_cell HE.out.1 2).trans rfl
            have side := Aside0.mk (show ∀ W', Below w.heap.size w W' → Calls Try.prog 58 #[.agg #[.bool (rd_T69 l0 xi).f0, .slice E1 (rd_T69 l0 xi).f1.length e1, .slice E2 (rd_T69 l0 xi).f2.length e2], .agg #[.bool (rd_T69 l0 xp).f0, .slice B1 (rd_T69 l0 xp).f1.length d1, .slice B2 (rd_T69 l0 xp).f2.length d2]] W' fun e w' => e = .returned (.int .i64 tc) ∧ Below W'.heap.size W' w' from fun W' hb =>
              ratio_R_Cmp.calls k1 _ _ _ _ _ _ _ _ _ _ _ _ _ _ tc W' (Kd.F_now (Kd.F_below hg1 hb)) hm1 (Kd.F_now (Kd.F_below hg2 hb)) hm2 (Kd.F_now (Kd.F_below HE.out.2.2.1 hb)) HE.out.2.1 (Kd.F_now (Kd.F_below HE.out.2.2.2.2 hb)) HE.out.2.2.2.1 HC.out)
            go_wp2
            go_region_held3 (fun w' => w'.cell? (ad.add (xi.toNat * 3)) = some (.bool (rd_T69 l0 xi).f0) ∧ w'.cell? ⟨(ad.add (xi.toNat * 3)).block, (ad.add (xi.toNat * 3)).off + 1, none⟩ = some (.slice E1 (rd_T69 l0 xi).f1.length e1) ∧ w'.cell? ⟨(ad.add (xi.toNat * 3)).block, (ad.add (xi.toNat * 3)).off + 2, none⟩ = some (.slice E2 (rd_T69 l0 xi).f2.length e2) ∧ w'.cell? ⟨w.heap.size + 1, 0, none⟩ = some (.bool (rd_T69 l0 xp).f0) ∧ w'.cell? ⟨w.heap.size + 1, 1, none⟩ = some (.slice B1 (rd_T69 l0 xp).f1.length d1) ∧ w'.cell? ⟨w.heap.size + 1, 2, none⟩ = some (.slice B2 (rd_T69 l0 xp).f2.length d2)) (first | exact ⟨hz0, hz1, hz2, hv0, hv1, hv2⟩ | exact ⟨hs0, hs1, hs2, hs3, hs4, hs5⟩ | go_keep) (first | (go_at_call 58; refine (side.out _ ?side1).mono ?_; (case side1 => (repeat (first | exact HB.out | apply below_alloc | apply pw_below_drewN | apply below_drew1))); rintro e w39 ⟨rfl, hb⟩; have HB2 := Aside0.mk (below_step (by (repeat (first | exact HB.out | apply below_alloc | apply pw_below_drewN | apply below_drew1))) hb); have HM2 := Aside0.mk (blk_below (by (repeat (first | exact HE.out.1 | refine blk_drewN ?_ _ | refine blk_drew ?_))) hb); have HR2 := Aside0.mk (blk_below (by (repeat (first | exact HR.out | refine blk_drewN ?_ _ | refine blk_drew ?_))) hb); have hs0 := (HB2.out.cell hb1).trans hy0; have hs1 := (HB2.out.cell (p := ⟨(ad.add (xi.toNat * 3)).block, (ad.add (xi.toNat * 3)).off + 1, none⟩) hb1).trans hy1; have hs2 := (HB2.out.cell (p := ⟨(ad.add (xi.toNat * 3)).block, (ad.add (xi.toNat * 3)).off + 2, none⟩) hb1).trans hy2; have hs3 := (blk_cell HM2.out 0).trans rfl; have hs4 := (blk_cell HM2.out 1).trans rfl; have hs5 := (blk_cell HM2.out 2).trans rfl; clear hb))
            have hE := HE.out.2
            clear hz0 hz1 hz2 hv0 hv1 hv2 HB HE HR
            by_cases c3 : tc > 0
            · rw [if_pos c3] at H
              have H' := Aside0.mk H
              clear H
              have c3b : decide (0 < tc) = true := decide_eq_true c3
              have hfm0 := blk_frozen HM2.out 0
              have hfm1 := blk_frozen HM2.out 1
              have hfm2 := blk_frozen HM2.out 2
              go_wp2
              go_roundg k1
              case measure => have := HK1.out; omega
              case rel =>
                refine ⟨wrap64 (xi + 1), xi, E1, e1, E2, e2, (by first | rfl | (simp; done) | (simp [*]; done)), H', ⟨by have := HK1.out; omega⟩, ⟨?_, hm1, hg1, hm2, hg2⟩, ⟨?_⟩, ⟨?_⟩⟩
                · refine blk_put (cs := #[.bool (rd_T69 l0 xi).f0, .slice E1 (rd_T69 l0 xi).f1.length e1, .slice B2 (rd_T69 l0 xp).f2.length d2]) ?_ 2 _ rfl
                  refine blk_put (cs := #[.bool (rd_T69 l0 xi).f0, .slice B1 (rd_T69 l0 xp).f1.length d1, .slice B2 (rd_T69 l0 xp).f2.length d2]) ?_ 1 _ rfl
                  refine blk_put (cs := #[.bool (rd_T69 l0 xp).f0, .slice B1 (rd_T69 l0 xp).f1.length d1, .slice B2 (rd_T69 l0 xp).f2.length d2]) ?_ 0 _ rfl
                  exact HM2.out
                · have hne : w.heap.size ≠ w.heap.size + 1 := by omega
                  exact blk_far (blk_far (blk_far HR2.out hne _) hne _) hne _
                · exact below_set (below_set (below_set HB2.out (Nat.le_succ _)) (Nat.le_succ _)) (Nat.le_succ _)
            · rw [if_neg c3] at H
              have H' := Aside0.mk H
              clear H
              have c3b : decide (0 < tc) = false := decide_eq_false c3
              go_wp2
              go_roundg k1
              case measure => have := HK1.out; omega
              case rel => exact ⟨wrap64 (xi + 1), xp, B1, d1, B2, d2, (by first | rfl | (simp; done) | (simp [*]; done)), H', ⟨by have := HK1.out; omega⟩, ⟨HM2.out, hE⟩, HR2, HB2⟩
          · rw [if_neg c2] at H; cases H
        · rw [if_neg c1] at H
          obtain rfl := Option.some.inj H
          have c1b : decide (xi < (l0.length : Int)) = false := decide_eq_false c1
          have hv0 := (blk_cell HE.out.1 0).trans rfl
          have hv1 := (blk_cell HE.out.1 1).trans rfl
          have hv2 := (blk_cell HE.out.1 2).trans rfl
          have hr0 := (blk_cell HR.out 0).trans rfl
          have hr1 := (blk_cell HR.out 1).trans rfl
          have hr2 := (blk_cell HR.out 2).trans rfl
          have hfr0 := blk_frozen HR.out 0
          have hfr1 := blk_frozen HR.out 1
          have hfr2 := blk_frozen HR.out 2
          go_wp2
          refine bodyPost_ret (results_cell_row rfl _ _ w.heap.size 69 #[.bool (rd_T69 l0 xp).f0, .slice B1 (rd_T69 l0 xp).f1.length d1, .slice B2 (rd_T69 l0 xp).f2.length d2] (0, 0) _ rfl (by
            refine blk_put (cs := #[.bool (rd_T69 l0 xp).f0, .slice B1 (rd_T69 l0 xp).f1.length d1, .slice none 0 0]) ?_ 2 _ rfl
            refine blk_put (cs := #[.bool (rd_T69 l0 xp).f0, .slice none 0 0, .slice none 0 0]) ?_ 1 _ rfl
            refine blk_put (cs := #[.bool false, .slice none 0 0, .slice none 0 0]) ?_ 0 _ rfl
            exact HR.out) Try.underlying69 rfl (by kernel_rfl)) rfl ?_
          have hb3 := below_set (j := 2) (v := .slice B2 (rd_T69 l0 xp).f2.length d2) (below_set (j := 1) (v := .slice B1 (rd_T69 l0 xp).f1.length d1) (below_set (j := 0) (v := .bool (rd_T69 l0 xp).f0) HB.out (Nat.le_refl _)) (Nat.le_refl _)) (Nat.le_refl _)
          exact ⟨_, _, rfl, Kd.V_mono (Kd.V_mk HE.out.2.1 (Kd.F_below HE.out.2.2.1 hb3)) (fun k_ hk => .inl hk), Kd.V_mono (Kd.V_mk HE.out.2.2.2.1 (Kd.F_below HE.out.2.2.2.2 hb3)) (fun k_ hk => .inl hk), hb3⟩
  · rw [if_neg hpos] at h; cases h
end Go.Proofs.Ytagbnkbhobmgjaa.Fn
end
section
namespace Go.Proofs.Ytagbnkbhobmgjaa.Fn
open Go.RowKit Go.Proofs.YtagbnkbhobmgjaaW.PrintWords Go.Proofs.YtagbnkbhobmgjaaW.PrintLast Go.Proofs.YtagbnkbhobmgjaaW.PrintMore
attribute [local go_sem] max2_int min2_int max_two min_two max_three min_three max_four min_four   -- for this text's walks alone
set_option linter.unusedVariables false
set_option linter.unusedSimpArgs false
def ratio_Max.f (k : Nat) (l0 : List (S69)) : Option (Bool × List Int × List Int) := if (l0.length : Int) = 0 then ((ratio_Int.f k 0).bind fun bt102 => (some (bt102.1, bt102.2.1, bt102.2.2))) else ((slices_MaxFunc.f k l0).bind fun bt109 => ((ratio_R_low.f k bt109.1 bt109.2.1 bt109.2.2).bind fun bt116 => (some (bt116.1, bt116.2.1, bt116.2.2))))
theorem ratio_Max.mono : ∀ a0 k, LeO (ratio_Max.f k a0) (ratio_Max.f (k + 1) a0) := by
 intro a0 k
 unfold ratio_Max.f
 repeat' with_reducible first | exact ratio_Int.mono _ _ | exact ratio_R_low.mono _ _ _ _ | exact slices_MaxFunc.mono _ _ | exact LeO.refl _ | exact LeO.none _ | refine LeO.ite ?_ ?_ | refine LeO.bind ?_ (fun _ => ?_)
set_option maxHeartbeats 8000000 in
set_option maxRecDepth 100000 in
theorem ratio_Max.calls (k : Nat) (P0_ : Nat → Prop) (A0 : Option Addr) (c0 : Nat) (l0 : List (S69)) (r1 : Bool) (r2 : List Int) (r3 : List Int) (w : World) (hs0 : Kd.V k69 69 w w.heap.size (fun k_ => P0_ k_) (.slice A0 l0.length c0) l0) (H : ratio_Max.f k l0 = some (r1, r2, r3)) :
  Calls Try.prog 56 #[.slice A0 l0.length c0] w fun e w' => ∃ v1_ v2_ : Value, e = .returned (.agg #[.bool r1, v1_, v2_]) ∧ Kd.V (Kd.int .u32) 118 w' w.heap.size (fun k_ => (P0_ k_ ∨ w.heap.size ≤ k_)) v1_ r2 ∧ Kd.V (Kd.int .u32) 118 w' w.heap.size (fun k_ => (P0_ k_ ∨ w.heap.size ≤ k_)) v2_ r3 ∧ Below w.heap.size w w' := by
 have hu69 := Try.underlying69
 have HO0 := Aside0.mk (show Kd.V k69 69 w w.heap.size (fun k_ => (P0_ k_ ∨ w.heap.size ≤ k_)) (.slice A0 l0.length c0) l0 from Kd.V_mono hs0 (fun k_ hk => .inl hk))
 have HB := Aside0.mk (Below.refl w.heap.size w)
 unfold ratio_Max.f at H
 by_cases c2 : (l0.length : Int) = 0
 ·rw [if_pos c2] at H
  obtain ⟨c2b0, c2b1⟩ := bqT c2
  clear c2
  replace H := bi H
  obtain ⟨⟨t102, t103, t106⟩, A3, H⟩ := H
  try dsimp only at H
  simp only [Option.some.injEq, Prod.mk.injEq] at H
  obtain ⟨rfl, rfl, rfl⟩ := H
  go_enter Try.func56, Try.ntmps56
  go_wp2_with (first | ((with_reducible refine gd 2 rfl ?_); refine bx 2 #[.bool false, .slice none 0 0, .slice none 0 0] ?_; intro gb101 hg w4 hbox hb; replace HO0 := vE HO0 hg hb; have BK101 := Aside0.mk hbox; have GW101 := gB hg HB; have GE101 := gB hg HB; replace HB := bA HB hb; clear hb hbox hg) | ((with_reducible refine gc 103 rfl ?_); refine gL 6 Try.func103 #[.int .i64 0] ?_; (with_reducible refine (ratio_Int.calls k 0 t102 t103 t106 _ A3.out).mono ?_); rintro e w5 ⟨v104, v107, rfl, ho0, ho1, hb⟩; refine ⟨_, rfl, ?_⟩; replace HO0 := vA HO0 hb; have HO105 := lw HB (fun k_ => (P0_ k_ ∨ w.heap.size ≤ k_) ∧ k_ ≠ gb101) ho0 (fun k_ hk_ => ⟨(.inr (Nat.le_trans (below_size hB) hk_)), (kF BK101 hk_)⟩); have HO108 := lw HB (fun k_ => (P0_ k_ ∨ w.heap.size ≤ k_) ∧ k_ ≠ gb101) ho1 (fun k_ hk_ => ⟨(.inr (Nat.le_trans (below_size hB) hk_)), (kF BK101 hk_)⟩); replace BK101 := kA BK101 hb; replace HB := bS HB hb; clear hb ho0 ho1; obtain ⟨⟨hcz6_0, hcz6_1, hcz6_2⟩, hfz6_0, hfz6_1, hfz6_2⟩ := cE BK101; obtain ⟨Ao7, co7, eo7⟩ := Kd.V_slice HO105.out; subst eo7; obtain ⟨Ao8, co8, eo8⟩ := Kd.V_slice HO108.out; subst eo8))
  refine bodyPost_ret (results_cell_row rfl _ _ gb101 69 #[.bool t102, .slice Ao7 t103.length co7, .slice Ao8 t106.length co8] (0, 0) _ rfl (by exact kU (p3 BK101)) Try.underlying69 rfl (by kernel_rfl)) rfl ?_
  exact ⟨_, _, er, vG (v3p HO105 (fun _ hk => hk.2)) (fun _ hk => hk.1.1), vG (v3p HO108 (fun _ hk => hk.2)) (fun _ hk => hk.1.1), hB⟩
 rw [if_neg c2] at H
 obtain ⟨c2b0, c2b1⟩ := bqF c2
 have c2b2 : ¬ (l0 = []) := fun h_ => c2 (by rw [h_]; rfl)
 replace H := bi H
 obtain ⟨⟨t109, t110, t113⟩, A9, H⟩ := H
 try dsimp only at H
 replace H := bi H
 obtain ⟨⟨t116, t117, t120⟩, A10, H⟩ := H
 try dsimp only at H
 simp only [Option.some.injEq, Prod.mk.injEq] at H
 obtain ⟨rfl, rfl, rfl⟩ := H
 go_enter Try.func56, Try.ntmps56
 go_wp2_with (first | ((with_reducible refine gd 2 rfl ?_); refine bx 2 #[.bool false, .slice none 0 0, .slice none 0 0] ?_; intro gb101 hg w11 hbox hb; replace HO0 := vE HO0 hg hb; have BK101 := Aside0.mk hbox; have GW101 := gB hg HB; have GE101 := gB hg HB; replace HB := bA HB hb; clear hb hbox hg) | ((with_reducible refine gc 118 rfl ?_); refine gL 8 Try.func118 #[.slice A0 l0.length c0, .func (.func 58) #[] #[]] ?_; (with_reducible refine (slices_MaxFunc.calls k (fun k_ => ((P0_ k_ ∨ w.heap.size ≤ k_) ∧ k_ ≠ gb101)) _ _ l0 t109 t110 t113 _ ?_ A9.out).mono ?_); exact HO0.out; rintro e w12 ⟨v111, v114, rfl, ho0, ho1, hb⟩; refine ⟨_, rfl, ?_⟩; replace HO0 := vA HO0 hb; have HO112 := lw HB (fun k_ => (P0_ k_ ∨ w.heap.size ≤ k_) ∧ k_ ≠ gb101) ho0 (fun k_ hk_ => Or.elim hk_ id (fun hn_ => ⟨.inr (Nat.le_trans (below_size hB) hn_), kF BK101 hn_⟩)); have HO115 := lw HB (fun k_ => (P0_ k_ ∨ w.heap.size ≤ k_) ∧ k_ ≠ gb101) ho1 (fun k_ hk_ => Or.elim hk_ id (fun hn_ => ⟨.inr (Nat.le_trans (below_size hB) hn_), kF BK101 hn_⟩)); replace BK101 := kA BK101 hb; replace HB := bS HB hb; clear hb ho0 ho1; obtain ⟨Ao13, co13, eo13⟩ := Kd.V_slice HO112.out; subst eo13; obtain ⟨Ao14, co14, eo14⟩ := Kd.V_slice HO115.out; subst eo14) | ((with_reducible refine gc 119 rfl ?_); refine gL 9 Try.func119 #[.agg #[.bool t109, .slice Ao13 t110.length co13, .slice Ao14 t113.length co14]] ?_; (with_reducible refine (ratio_R_low.calls k t109 (fun k_ => ((P0_ k_ ∨ w.heap.size ≤ k_) ∧ k_ ≠ gb101)) _ _ t110 (fun k_ => ((P0_ k_ ∨ w.heap.size ≤ k_) ∧ k_ ≠ gb101)) _ _ t113 t116 t117 t120 _ ?_ ?_ A10.out).mono ?_); exact HO112.out; exact HO115.out; rintro e w15 ⟨v118, v121, rfl, ho0, ho1, hb⟩; refine ⟨_, rfl, ?_⟩; replace HO0 := vA HO0 hb; replace HO112 := vA HO112 hb; replace HO115 := vA HO115 hb; have HO119 := lw HB (fun k_ => (P0_ k_ ∨ w.heap.size ≤ k_) ∧ k_ ≠ gb101) ho0 (fun k_ hk_ => Or.elim hk_ (fun hs_ => Or.elim hs_ id id) (fun hn_ => ⟨.inr (Nat.le_trans (below_size hB) hn_), kF BK101 hn_⟩)); have HO122 := lw HB (fun k_ => (P0_ k_ ∨ w.heap.size ≤ k_) ∧ k_ ≠ gb101) ho1 (fun k_ hk_ => Or.elim hk_ (fun hs_ => Or.elim hs_ id id) (fun hn_ => ⟨.inr (Nat.le_trans (below_size hB) hn_), kF BK101 hn_⟩)); replace BK101 := kA BK101 hb; replace HB := bS HB hb; clear hb ho0 ho1; obtain ⟨⟨hcz16_0, hcz16_1, hcz16_2⟩, hfz16_0, hfz16_1, hfz16_2⟩ := cE BK101; obtain ⟨Ao17, co17, eo17⟩ := Kd.V_slice HO119.out; subst eo17; obtain ⟨Ao18, co18, eo18⟩ := Kd.V_slice HO122.out; subst eo18))
 refine bodyPost_ret (results_cell_row rfl _ _ gb101 69 #[.bool t116, .slice Ao17 t117.length co17, .slice Ao18 t120.length co18] (0, 0) _ rfl (by exact kU (p3 BK101)) Try.underlying69 rfl (by kernel_rfl)) rfl ?_
 exact ⟨_, _, er, vG (v3p HO119 (fun _ hk => hk.2)) (fun _ hk => hk.1.1), vG (v3p HO122 (fun _ hk => hk.2)) (fun _ hk => hk.1.1), hB⟩
def ratio_R_Sign.f (k : Nat) (a0_0 : Bool) (l0_1 : List Int) (l0_2 : List Int) : Option (Int) := (ratio_R_low.f k a0_0 l0_1 l0_2).bind fun bt102 => (if (bt102.2.1.length : Int) = 0 then (some 0) else (if bt102.1 = true then (some (-1)) else (some 1)))
theorem ratio_R_Sign.mono : ∀ a0 a1 a2 k, LeO (ratio_R_Sign.f k a0 a1 a2) (ratio_R_Sign.f (k + 1) a0 a1 a2) := by
 intro a0 a1 a2 k
 unfold ratio_R_Sign.f
 repeat' with_reducible first | exact ratio_R_low.mono _ _ _ _ | exact LeO.refl _ | exact LeO.none _ | refine LeO.ite ?_ ?_ | refine LeO.bind ?_ (fun _ => ?_)
set_option maxHeartbeats 8000000 in
set_option maxRecDepth 100000 in
theorem ratio_R_Sign.calls (k : Nat) (a0_0 : Bool) (A0_1 : Option Addr) (c0_1 : Nat) (l0_1 : List Int) (A0_2 : Option Addr) (c0_2 : Nat) (l0_2 : List Int) (r : Int) (w : World) (hr0_1 : Kd.C (Kd.int .u32) w A0_1 l0_1.length l0_1) (hc0_1 : l0_1.length ≤ c0_1) (hr0_2 : Kd.C (Kd.int .u32) w A0_2 l0_2.length l0_2) (hc0_2 : l0_2.length ≤ c0_2) (H : ratio_R_Sign.f k a0_0 l0_1 l0_2 = some r) :
  Calls Try.prog 57 #[.agg #[.bool a0_0, .slice A0_1 l0_1.length c0_1, .slice A0_2 l0_2.length c0_2]] w fun e w' => e = .returned (.int .i64 r) ∧ Below w.heap.size w w' := by
 have hu69 := Try.underlying69
 have HR0_1 := Aside0.mk hr0_1
 have HC0_1 := Aside0.mk hc0_1
 clear hr0_1 hc0_1
 have HR0_2 := Aside0.mk hr0_2
 have HC0_2 := Aside0.mk hc0_2
 clear hr0_2 hc0_2
 have HB := Aside0.mk (Below.refl w.heap.size w)
 unfold ratio_R_Sign.f at H
 replace H := bi H
 obtain ⟨⟨t102, t103, t106⟩, A2, H⟩ := H
 try dsimp only at H
 by_cases c3 : (t103.length : Int) = 0
 ·rw [if_pos c3] at H
  obtain ⟨c3b0, c3b1⟩ := bqT c3
  clear c3
  obtain rfl := Option.some.inj H
  go_enter Try.func57, Try.ntmps57
  go_wp2_with (first | ((with_reducible refine gd 1 rfl ?_); refine bx 1 #[.bool a0_0, .slice A0_1 l0_1.length c0_1, .slice A0_2 l0_2.length c0_2] ?_; intro gb101 hg w4 hbox hb; have BK101 := Aside0.mk hbox; have GW101 := gB hg HB; have GE101 := gB hg HB; replace HB := bA HB hb; clear hb hbox hg; obtain ⟨⟨hcz5_0, hcz5_1, hcz5_2⟩, hfz5_0, hfz5_1, hfz5_2⟩ := cE BK101) | ((with_reducible refine gc 119 rfl ?_); refine gL 4 Try.func119 #[.agg #[.bool a0_0, .slice A0_1 l0_1.length c0_1, .slice A0_2 l0_2.length c0_2]] ?_; (with_reducible refine (ratio_R_low.calls k a0_0 (fun k_ => k_ < w.heap.size) _ _ l0_1 (fun k_ => k_ < w.heap.size) _ _ l0_2 t102 t103 t106 _ ?_ ?_ A2.out).mono ?_); exact Kd.V_mk HC0_1.out (Kd.F_below (Kd.C_F (Kd.heap_int .u32) HR0_1.out) hB); exact Kd.V_mk HC0_2.out (Kd.F_below (Kd.C_F (Kd.heap_int .u32) HR0_2.out) hB); rintro e w6 ⟨v104, v107, rfl, ho0, ho1, hb⟩; refine ⟨_, rfl, ?_⟩; have HO105 := lw HB (fun k_ => k_ ≠ gb101) ho0 (fun k_ hk_ => Or.elim hk_ (fun hs_ => Or.elim hs_ (fun hs_ => gw hs_ GW101) (fun hs_ => gw hs_ GW101)) (fun hn_ => kF BK101 hn_)); have HO108 := lw HB (fun k_ => k_ ≠ gb101) ho1 (fun k_ hk_ => Or.elim hk_ (fun hs_ => Or.elim hs_ (fun hs_ => gw hs_ GW101) (fun hs_ => gw hs_ GW101)) (fun hn_ => kF BK101 hn_)); replace BK101 := kA BK101 hb; replace HB := bS HB hb; clear hb ho0 ho1; obtain ⟨⟨hcz7_0, hcz7_1, hcz7_2⟩, hfz7_0, hfz7_1, hfz7_2⟩ := cE BK101; obtain ⟨Ao8, co8, eo8⟩ := Kd.V_slice HO105.out; subst eo8; obtain ⟨Ao9, co9, eo9⟩ := Kd.V_slice HO108.out; subst eo9))
  go_ret
  exact ⟨er, hB⟩
 rw [if_neg c3] at H
 obtain ⟨c3b0, c3b1⟩ := bqF c3
 have c3b2 : ¬ (t103 = []) := fun h_ => c3 (by rw [h_]; rfl)
 by_cases c10 : t102 = true
 ·subst c10
  replace H := ifT H
  obtain rfl := Option.some.inj H
  go_enter Try.func57, Try.ntmps57
  go_wp2_with (first | ((with_reducible refine gd 1 rfl ?_); refine bx 1 #[.bool a0_0, .slice A0_1 l0_1.length c0_1, .slice A0_2 l0_2.length c0_2] ?_; intro gb101 hg w11 hbox hb; have BK101 := Aside0.mk hbox; have GW101 := gB hg HB; have GE101 := gB hg HB; replace HB := bA HB hb; clear hb hbox hg; obtain ⟨⟨hcz12_0, hcz12_1, hcz12_2⟩, hfz12_0, hfz12_1, hfz12_2⟩ := cE BK101) | ((with_reducible refine gc 119 rfl ?_); refine gL 4 Try.func119 #[.agg #[.bool a0_0, .slice A0_1 l0_1.length c0_1, .slice A0_2 l0_2.length c0_2]] ?_; (with_reducible refine (ratio_R_low.calls k a0_0 (fun k_ => k_ < w.heap.size) _ _ l0_1 (fun k_ => k_ < w.heap.size) _ _ l0_2 true t103 t106 _ ?_ ?_ A2.out).mono ?_); exact Kd.V_mk HC0_1.out (Kd.F_below (Kd.C_F (Kd.heap_int .u32) HR0_1.out) hB); exact Kd.V_mk HC0_2.out (Kd.F_below (Kd.C_F (Kd.heap_int .u32) HR0_2.out) hB); rintro e w13 ⟨v104, v107, rfl, ho0, ho1, hb⟩; refine ⟨_, rfl, ?_⟩; have HO105 := lw HB (fun k_ => k_ ≠ gb101) ho0 (fun k_ hk_ => Or.elim hk_ (fun hs_ => Or.elim hs_ (fun hs_ => gw hs_ GW101) (fun hs_ => gw hs_ GW101)) (fun hn_ => kF BK101 hn_)); have HO108 := lw HB (fun k_ => k_ ≠ gb101) ho1 (fun k_ hk_ => Or.elim hk_ (fun hs_ => Or.elim hs_ (fun hs_ => gw hs_ GW101) (fun hs_ => gw hs_ GW101)) (fun hn_ => kF BK101 hn_)); replace BK101 := kA BK101 hb; replace HB := bS HB hb; clear hb ho0 ho1; obtain ⟨⟨hcz14_0, hcz14_1, hcz14_2⟩, hfz14_0, hfz14_1, hfz14_2⟩ := cE BK101; obtain ⟨Ao15, co15, eo15⟩ := Kd.V_slice HO105.out; subst eo15; obtain ⟨Ao16, co16, eo16⟩ := Kd.V_slice HO108.out; subst eo16))
  go_ret
  exact ⟨er, hB⟩
 ·replace c10 := Bool.eq_false_iff.mpr c10
  subst c10
  have H1 : (some 1) = some r := by rw [if_neg (show ¬ (false = true) by decide)] at H; exact H
  clear H
  have H := H1
  clear H1
  obtain rfl := Option.some.inj H
  go_enter Try.func57, Try.ntmps57
  go_wp2_with (first | ((with_reducible refine gd 1 rfl ?_); refine bx 1 #[.bool a0_0, .slice A0_1 l0_1.length c0_1, .slice A0_2 l0_2.length c0_2] ?_; intro gb101 hg w17 hbox hb; have BK101 := Aside0.mk hbox; have GW101 := gB hg HB; have GE101 := gB hg HB; replace HB := bA HB hb; clear hb hbox hg; obtain ⟨⟨hcz18_0, hcz18_1, hcz18_2⟩, hfz18_0, hfz18_1, hfz18_2⟩ := cE BK101) | ((with_reducible refine gc 119 rfl ?_); refine gL 4 Try.func119 #[.agg #[.bool a0_0, .slice A0_1 l0_1.length c0_1, .slice A0_2 l0_2.length c0_2]] ?_; (with_reducible refine (ratio_R_low.calls k a0_0 (fun k_ => k_ < w.heap.size) _ _ l0_1 (fun k_ => k_ < w.heap.size) _ _ l0_2 false t103 t106 _ ?_ ?_ A2.out).mono ?_); exact Kd.V_mk HC0_1.out (Kd.F_below (Kd.C_F (Kd.heap_int .u32) HR0_1.out) hB); exact Kd.V_mk HC0_2.out (Kd.F_below (Kd.C_F (Kd.heap_int .u32) HR0_2.out) hB); rintro e w19 ⟨v104, v107, rfl, ho0, ho1, hb⟩; refine ⟨_, rfl, ?_⟩; have HO105 := lw HB (fun k_ => k_ ≠ gb101) ho0 (fun k_ hk_ => Or.elim hk_ (fun hs_ => Or.elim hs_ (fun hs_ => gw hs_ GW101) (fun hs_ => gw hs_ GW101)) (fun hn_ => kF BK101 hn_)); have HO108 := lw HB (fun k_ => k_ ≠ gb101) ho1 (fun k_ hk_ => Or.elim hk_ (fun hs_ => Or.elim hs_ (fun hs_ => gw hs_ GW101) (fun hs_ => gw hs_ GW101)) (fun hn_ => kF BK101 hn_)); replace BK101 := kA BK101 hb; replace HB := bS HB hb; clear hb ho0 ho1; obtain ⟨⟨hcz20_0, hcz20_1, hcz20_2⟩, hfz20_0, hfz20_1, hfz20_2⟩ := cE BK101; obtain ⟨Ao21, co21, eo21⟩ := Kd.V_slice HO105.out; subst eo21; obtain ⟨Ao22, co22, eo22⟩ := Kd.V_slice HO108.out; subst eo22))
  go_ret
  exact ⟨er, hB⟩
def ratio_R_Add.f (k : Nat) (a0_0 : Bool) (l0_1 : List Int) (l0_2 : List Int) (a1_0 : Bool) (l1_1 : List Int) (l1_2 : List Int) : Option (Bool × List Int × List Int) := (ratio_R_low.f k a0_0 l0_1 l0_2).bind fun bt104 => ((ratio_R_low.f k a1_0 l1_1 l1_2).bind fun bt111 => ((nat_Nat_Mul.f k bt104.2.1 bt111.2.2).bind fun t118 => ((nat_Nat_Mul.f k bt111.2.1 bt104.2.2).bind fun t121 => ((nat_Nat_Mul.f k bt104.2.2 bt111.2.2).bind fun t124 => (if (bt104.1 == bt111.1) = true then ((nat_Nat_Add.f k t118 t121).bind fun t127 => ((ratio_low.f k bt104.1 t127 t124).bind fun bt130 => (some (bt130.1, bt130.2.1, bt130.2.2)))) else ((nat_Nat_Sub.f k t118 t121).bind fun bt137 => (if bt137.2 = true then ((ratio_low.f k bt104.1 bt137.1 t124).bind fun bt141 => (some (bt141.1, bt141.2.1, bt141.2.2))) else ((nat_Nat_Sub.f k t121 t118).bind fun bt148 => ((ratio_low.f k bt111.1 bt148.1 t124).bind fun bt152 => (some (bt152.1, bt152.2.1, bt152.2.2)))))))))))
theorem ratio_R_Add.mono : ∀ a0 a1 a2 a3 a4 a5 k, LeO (ratio_R_Add.f k a0 a1 a2 a3 a4 a5) (ratio_R_Add.f (k + 1) a0 a1 a2 a3 a4 a5) := by
 intro a0 a1 a2 a3 a4 a5 k
 unfold ratio_R_Add.f
 repeat' with_reducible first | exact nat_Nat_Add.mono _ _ _ | exact nat_Nat_Mul.mono _ _ _ | exact nat_Nat_Sub.mono _ _ _ | exact ratio_R_low.mono _ _ _ _ | exact ratio_low.mono _ _ _ _ | exact LeO.refl _ | exact LeO.none _ | refine LeO.ite ?_ ?_ | refine LeO.bind ?_ (fun _ => ?_)
def ratio_R_Add.T2 : Bool × List (List Nat × List Nat) := (true, [([], []), ([0], [0]), ([], []), ([2], [2]), ([1, 3], [1, 3]), ([], []), ([5], [5]), ([], []), ([7], [7]), ([6, 8, 4], [6, 8]), ([], []), ([10], [10]), ([], []), ([12], [12]), ([11, 13, 9], [11, 13]), ([4, 14, 0, 1, 2, 3, 4], [4]), ([9, 15, 0, 1, 2, 3, 4, 5, 6, 7, 8, 9, 15], [9]), ([14, 16, 0, 1, 2, 3, 4, 5, 6, 7, 8, 9, 10, 11, 12, 13, 14, 15, 16], [14])])
def ratio_R_Add.B2 : List Nat := [0, 1, 0, 4, 15, 0, 32, 0, 128, 511, 0, 1024, 0, 4096, 16383, 32767, 65535, 131071]
theorem ratio_R_Add.tab2 : rtab .any (opsOf Try.f86 2) = ratio_R_Add.T2 := by kernel_rfl
theorem ratio_R_Add.bits2 : waitsOk ratio_R_Add.T2.2 ratio_R_Add.B2 = true := by kernel_rfl
def ratio_R_Add.T4 : Bool × List (List Nat × List Nat) := (true, [([], []), ([0], [0]), ([], []), ([], []), ([2, 3], [2, 3]), ([], []), ([1, 4, 5, 4], [1, 4, 5]), ([6, 6, 0, 1, 2, 3, 4, 5, 6], [6])])
def ratio_R_Add.B4 : List Nat := [0, 1, 0, 0, 12, 0, 63, 127]
theorem ratio_R_Add.tab4 : rtab .any (opsOf Try.f86 4) = ratio_R_Add.T4 := by kernel_rfl
theorem ratio_R_Add.bits4 : waitsOk ratio_R_Add.T4.2 ratio_R_Add.B4 = true := by kernel_rfl
set_option maxHeartbeats 8000000 in
set_option maxRecDepth 100000 in
theorem ratio_R_Add.calls (k : Nat) (a0_0 : Bool) (P0_1_ : Nat → Prop) (A0_1 : Option Addr) (c0_1 : Nat) (l0_1 : List Int) (P0_2_ : Nat → Prop) (A0_2 : Option Addr) (c0_2 : Nat) (l0_2 : List Int) (a1_0 : Bool) (P1_1_ : Nat → Prop) (A1_1 : Option Addr) (c1_1 : Nat) (l1_1 : List Int) (P1_2_ : Nat → Prop) (A1_2 : Option Addr) (c1_2 : Nat) (l1_2 : List Int) (r1 : Bool) (r2 : List Int) (r3 : List Int) (w : World) (hs0_1 : Kd.V (Kd.int .u32) 118 w w.heap.size (fun k_ => P0_1_ k_) (.slice A0_1 l0_1.length c0_1) l0_1) (hs0_2 : Kd.V (Kd.int .u32) 118 w w.heap.size (fun k_ => P0_2_ k_) (.slice A0_2 l0_2.length c0_2) l0_2) (hs1_1 : Kd.V (Kd.int .u32) 118 w w.heap.size (fun k_ => P1_1_ k_) (.slice A1_1 l1_1.length c1_1) l1_1) (hs1_2 : Kd.V (Kd.int .u32) 118 w w.heap.size (fun k_ => P1_2_ k_) (.slice A1_2 l1_2.length c1_2) l1_2) (H : ratio_R_Add.f k a0_0 l0_1 l0_2 a1_0 l1_1 l1_2 = some (r1, r2, r3)) :
  Calls Try.prog 86 #[.agg #[.bool a0_0, .slice A0_1 l0_1.length c0_1, .slice A0_2 l0_2.length c0_2], .agg #[.bool a1_0, .slice A1_1 l1_1.length c1_1, .slice A1_2 l1_2.length c1_2]] w fun e w' => ∃ v1_ v2_ : Value, e = .returned (.agg #[.bool r1, v1_, v2_]) ∧ Kd.V (Kd.int .u32) 118 w' w.heap.size (fun k_ => ((P0_1_ k_ ∨ P0_2_ k_ ∨ P1_1_ k_ ∨ P1_2_ k_) ∨ w.heap.size ≤ k_)) v1_ r2 ∧ Kd.V (Kd.int .u32) 118 w' w.heap.size (fun k_ => ((P0_1_ k_ ∨ P0_2_ k_ ∨ P1_1_ k_ ∨ P1_2_ k_) ∨ w.heap.size ≤ k_)) v2_ r3 ∧ Below w.heap.size w w' := by
 have hu69 := Try.underlying69
 have HO0_1 := Aside0.mk (show Kd.V (Kd.int .u32) 118 w w.heap.size (fun k_ => ((P0_1_ k_ ∨ P0_2_ k_ ∨ P1_1_ k_ ∨ P1_2_ k_) ∨ w.heap.size ≤ k_)) (.slice A0_1 l0_1.length c0_1) l0_1 from Kd.V_mono hs0_1 (fun k_ hk => .inl (.inl hk)))
 have HO0_2 := Aside0.mk (show Kd.V (Kd.int .u32) 118 w w.heap.size (fun k_ => ((P0_1_ k_ ∨ P0_2_ k_ ∨ P1_1_ k_ ∨ P1_2_ k_) ∨ w.heap.size ≤ k_)) (.slice A0_2 l0_2.length c0_2) l0_2 from Kd.V_mono hs0_2 (fun k_ hk => .inl (.inr (.inl hk))))
 have HO1_1 := Aside0.mk (show Kd.V (Kd.int .u32) 118 w w.heap.size (fun k_ => ((P0_1_ k_ ∨ P0_2_ k_ ∨ P1_1_ k_ ∨ P1_2_ k_) ∨ w.heap.size ≤ k_)) (.slice A1_1 l1_1.length c1_1) l1_1 from Kd.V_mono hs1_1 (fun k_ hk => .inl (.inr (.inr (.inl hk)))))
 have HO1_2 := Aside0.mk (show Kd.V (Kd.int .u32) 118 w w.heap.size (fun k_ => ((P0_1_ k_ ∨ P0_2_ k_ ∨ P1_1_ k_ ∨ P1_2_ k_) ∨ w.heap.size ≤ k_)) (.slice A1_2 l1_2.length c1_2) l1_2 from Kd.V_mono hs1_2 (fun k_ hk => .inl (.inr (.inr (.inr hk)))))
 have HB := Aside0.mk (Below.refl w.heap.size w)
 unfold ratio_R_Add.f at H
 replace H := bi H
 obtain ⟨⟨t104, t105, t108⟩, A3, H⟩ := H
 try dsimp only at H
 replace H := bi H
 obtain ⟨⟨t111, t112, t115⟩, A4, H⟩ := H
 try dsimp only at H
 replace H := bi H
 obtain ⟨t118, A5, H⟩ := H
 replace H := bi H
 obtain ⟨t121, A6, H⟩ := H
 replace H := bi H
 obtain ⟨t124, A7, H⟩ := H
 by_cases c8 : (t104 == t111) = true
 ·rw [if_pos c8] at H
  have c8b0 : (t104 == t111) = true := c8
  (try (have c8b1 : decide (t104 = t111) = true := by simpa using c8))
  (try (have c8b2 : (t104 == t111) = true := by simpa using c8))
  clear c8
  replace H := bi H
  obtain ⟨t127, A9, H⟩ := H
  replace H := bi H
  obtain ⟨⟨t130, t131, t134⟩, A10, H⟩ := H
  try dsimp only at H
  simp only [Option.some.injEq, Prod.mk.injEq] at H
  obtain ⟨rfl, rfl, rfl⟩ := H
  go_enter Try.func86, Try.ntmps86
  try go_wp2_with (first | ((with_reducible refine gd 2 rfl ?_); refine bx 2 #[.bool a0_0, .slice A0_1 l0_1.length c0_1, .slice A0_2 l0_2.length c0_2] ?_; intro gb101 hg w11 hbox hb; replace HO0_1 := vE HO0_1 hg hb; replace HO0_2 := vE HO0_2 hg hb; replace HO1_1 := vE HO1_1 hg hb; replace HO1_2 := vE HO1_2 hg hb; have BK101 := Aside0.mk hbox; have GE101 := gB hg HB; replace HB := bA HB hb; clear hb hbox hg) | ((with_reducible refine gd 3 rfl ?_); refine bx 3 #[.bool a1_0, .slice A1_1 l1_1.length c1_1, .slice A1_2 l1_2.length c1_2] ?_; intro gb102 hg w12 hbox hb; replace HO0_1 := vE HO0_1 hg hb; replace HO0_2 := vE HO0_2 hg hb; replace HO1_1 := vE HO1_1 hg hb; replace HO1_2 := vE HO1_2 hg hb; have BK102 := Aside0.mk hbox; have GE102 := gS' hg HB; replace HB := bS HB hb; have NB101_102 := nL hg BK101; have NB102_101 := nR hg BK101; replace BK101 := kA BK101 hb; clear hb hbox hg) | ((with_reducible refine gd 4 rfl ?_); refine bx 4 #[.bool false, .slice none 0 0, .slice none 0 0] ?_; intro gb103 hg w13 hbox hb; replace HO0_1 := vE HO0_1 hg hb; replace HO0_2 := vE HO0_2 hg hb; replace HO1_1 := vE HO1_1 hg hb; replace HO1_2 := vE HO1_2 hg hb; have BK103 := Aside0.mk hbox; have GE103 := gS' hg HB; replace HB := bS HB hb; have NB101_103 := nL hg BK101; have NB103_101 := nR hg BK101; replace BK101 := kA BK101 hb; have NB102_103 := nL hg BK102; have NB103_102 := nR hg BK102; replace BK102 := kA BK102 hb; clear hb hbox hg))
  replace HO0_1 := Aside0.mk (Kd.V_drew HO0_1.out)
  replace HO0_2 := Aside0.mk (Kd.V_drew HO0_2.out)
  replace HO1_1 := Aside0.mk (Kd.V_drew HO1_1.out)
  replace HO1_2 := Aside0.mk (Kd.V_drew HO1_2.out)
  replace BK101 := kd BK101
  replace BK102 := kd BK102
  replace BK103 := kd BK103
  replace HB := bd HB
  refine st (S := fun w' => B3 w' gb101 (.bool a0_0) (.slice A0_1 l0_1.length c0_1) (.slice A0_2 l0_2.length c0_2) ∧ B3 w' gb102 (.bool a1_0) (.slice A1_1 l1_1.length c1_1) (.slice A1_2 l1_2.length c1_2)) 6 [4, 5] (tf 0 6) ⟨b3 BK101, b3 BK102⟩ (fun hHeld => ?_)
  generalize w13.drew = w14 at HO0_1 HO0_2 HO1_1 HO1_2 BK101 BK102 BK103 HB hHeld ⊢
  refine tk 0 12 (tf 1 5) hHeld ?_
  refine tk 2 14 #[true, false, true, false, false, false] hHeld ?_
  refine on 1 (some 13) (tf 3 3) (fun K hK => ?_)
  refine gS Try.func119 #[.agg #[.bool a0_0, .slice A0_1 l0_1.length c0_1, .slice A0_2 l0_2.length c0_2]] ?_
  with_reducible refine (ratio_R_low.calls k a0_0 (fun k_ => (((((P0_1_ k_ ∨ P0_2_ k_ ∨ P1_1_ k_ ∨ P1_2_ k_) ∨ w.heap.size ≤ k_) ∧ k_ ≠ gb101) ∧ k_ ≠ gb102) ∧ k_ ≠ gb103)) _ _ l0_1 (fun k_ => (((((P0_1_ k_ ∨ P0_2_ k_ ∨ P1_1_ k_ ∨ P1_2_ k_) ∨ w.heap.size ≤ k_) ∧ k_ ≠ gb101) ∧ k_ ≠ gb102) ∧ k_ ≠ gb103)) _ _ l0_2 t104 t105 t108 _ ?_ ?_ A3.out).mono ?_
  exact HO0_1.out
  exact HO0_2.out
  rintro e w15 ⟨v106, v109, rfl, ho0, ho1, hb⟩
  refine ⟨_, rfl, ?_⟩
  replace HO1_1 := vA HO1_1 hb
  replace HO1_2 := vA HO1_2 hb
  have HO107 := lw HB (fun k_ => ((P0_1_ k_ ∨ P0_2_ k_ ∨ P1_1_ k_ ∨ P1_2_ k_) ∨ w.heap.size ≤ k_) ∧ k_ ≠ gb101 ∧ k_ ≠ gb102 ∧ k_ ≠ gb103) ho0 (fun k_ hk_ => Or.elim hk_ (fun hs_ => Or.elim hs_ (fun hs_ => ⟨hs_.1.1.1, hs_.1.1.2, hs_.1.2, hs_.2⟩) (fun hs_ => ⟨hs_.1.1.1, hs_.1.1.2, hs_.1.2, hs_.2⟩)) (fun hn_ => ⟨.inr (Nat.le_trans (below_size hB) hn_), kF BK101 hn_, kF BK102 hn_, kF BK103 hn_⟩))
  have HO110 := lw HB (fun k_ => ((P0_1_ k_ ∨ P0_2_ k_ ∨ P1_1_ k_ ∨ P1_2_ k_) ∨ w.heap.size ≤ k_) ∧ k_ ≠ gb101 ∧ k_ ≠ gb102 ∧ k_ ≠ gb103) ho1 (fun k_ hk_ => Or.elim hk_ (fun hs_ => Or.elim hs_ (fun hs_ => ⟨hs_.1.1.1, hs_.1.1.2, hs_.1.2, hs_.2⟩) (fun hs_ => ⟨hs_.1.1.1, hs_.1.1.2, hs_.1.2, hs_.2⟩)) (fun hn_ => ⟨.inr (Nat.le_trans (below_size hB) hn_), kF BK101 hn_, kF BK102 hn_, kF BK103 hn_⟩))
  replace BK101 := kA BK101 hb
  replace BK102 := kA BK102 hb
  replace BK103 := kA BK103 hb
  replace HB := bS HB hb
  clear HO0_1 HO0_2
  clear hb ho0 ho1
  refine hK.out _ _ ⟨b3 BK101, b3 BK102⟩ (fun hHeld => nm ?_)
  clear hK K
  refine on 3 (some 15) (tf 4 2) (fun K hK => ?_)
  refine gS Try.func119 #[.agg #[.bool a1_0, .slice A1_1 l1_1.length c1_1, .slice A1_2 l1_2.length c1_2]] ?_
  with_reducible refine (ratio_R_low.calls k a1_0 (fun k_ => (((((P0_1_ k_ ∨ P0_2_ k_ ∨ P1_1_ k_ ∨ P1_2_ k_) ∨ w.heap.size ≤ k_) ∧ k_ ≠ gb101) ∧ k_ ≠ gb102) ∧ k_ ≠ gb103)) _ _ l1_1 (fun k_ => (((((P0_1_ k_ ∨ P0_2_ k_ ∨ P1_1_ k_ ∨ P1_2_ k_) ∨ w.heap.size ≤ k_) ∧ k_ ≠ gb101) ∧ k_ ≠ gb102) ∧ k_ ≠ gb103)) _ _ l1_2 t111 t112 t115 _ ?_ ?_ A4.out).mono ?_
  exact HO1_1.out
  exact HO1_2.out
  rintro e w16 ⟨v113, v116, rfl, ho0, ho1, hb⟩
  refine ⟨_, rfl, ?_⟩
  replace HO107 := vA HO107 hb
  replace HO110 := vA HO110 hb
  have HO114 := lw HB (fun k_ => ((P0_1_ k_ ∨ P0_2_ k_ ∨ P1_1_ k_ ∨ P1_2_ k_) ∨ w.heap.size ≤ k_) ∧ k_ ≠ gb101 ∧ k_ ≠ gb102 ∧ k_ ≠ gb103) ho0 (fun k_ hk_ => Or.elim hk_ (fun hs_ => Or.elim hs_ (fun hs_ => ⟨hs_.1.1.1, hs_.1.1.2, hs_.1.2, hs_.2⟩) (fun hs_ => ⟨hs_.1.1.1, hs_.1.1.2, hs_.1.2, hs_.2⟩)) (fun hn_ => ⟨.inr (Nat.le_trans (below_size hB) hn_), kF BK101 hn_, kF BK102 hn_, kF BK103 hn_⟩))
  have HO117 := lw HB (fun k_ => ((P0_1_ k_ ∨ P0_2_ k_ ∨ P1_1_ k_ ∨ P1_2_ k_) ∨ w.heap.size ≤ k_) ∧ k_ ≠ gb101 ∧ k_ ≠ gb102 ∧ k_ ≠ gb103) ho1 (fun k_ hk_ => Or.elim hk_ (fun hs_ => Or.elim hs_ (fun hs_ => ⟨hs_.1.1.1, hs_.1.1.2, hs_.1.2, hs_.2⟩) (fun hs_ => ⟨hs_.1.1.1, hs_.1.1.2, hs_.1.2, hs_.2⟩)) (fun hn_ => ⟨.inr (Nat.le_trans (below_size hB) hn_), kF BK101 hn_, kF BK102 hn_, kF BK103 hn_⟩))
  replace BK101 := kA BK101 hb
  replace BK102 := kA BK102 hb
  replace BK103 := kA BK103 hb
  replace HB := bS HB hb
  clear HO1_1 HO1_2
  clear hb ho0 ho1
  obtain ⟨Ao18, co18, eo18⟩ := Kd.V_slice HO107.out
  (first | subst eo18 | (injection eo18 with f1_ f2_ f3_; have f4_ := f1_.symm; have f5_ := f3_.symm; clear f1_ f2_ f3_; subst f4_; subst f5_))
  obtain ⟨Ao20, co20, eo20⟩ := Kd.V_slice HO110.out
  (first | subst eo20 | (injection eo20 with f1_ f2_ f3_; have f4_ := f1_.symm; have f5_ := f3_.symm; clear f1_ f2_ f3_; subst f4_; subst f5_))
  obtain ⟨Ao23, co23, eo23⟩ := Kd.V_slice HO114.out
  (first | subst eo23 | (injection eo23 with f1_ f2_ f3_; have f4_ := f1_.symm; have f5_ := f3_.symm; clear f1_ f2_ f3_; subst f4_; subst f5_))
  obtain ⟨Ao25, co25, eo25⟩ := Kd.V_slice HO117.out
  (first | subst eo25 | (injection eo25 with f1_ f2_ f3_; have f4_ := f1_.symm; have f5_ := f3_.symm; clear f1_ f2_ f3_; subst f4_; subst f5_))
  refine hK.out _ _ ⟨b3 BK101, b3 BK102⟩ (fun hHeld => nm ?_)
  clear hK K
  refine la 4 none (tf 5 1) (fun K hK => ?_)
  obtain ⟨hs17, hfs17⟩ := e0 BK101
  have hns17_1 := NB102_101.out
  have hns17_2 := NB103_101.out
  have hms17_1 := NB101_102.out
  have hms17_2 := NB101_103.out
  obtain ⟨hs19, hfs19⟩ := e1 BK101
  have hns19_1 := NB102_101.out
  have hns19_2 := NB103_101.out
  have hms19_1 := NB101_102.out
  have hms19_2 := NB101_103.out
  obtain ⟨hs21, hfs21⟩ := e2 BK101
  have hns21_1 := NB102_101.out
  have hns21_2 := NB103_101.out
  have hms21_1 := NB101_102.out
  have hms21_2 := NB101_103.out
  refine sk (hK.out _ _ ?_)
  clear hK K
  refine la 5 none (tf 6 0) (fun K hK => ?_)
  obtain ⟨hs22, hfs22⟩ := e0 BK102
  have hns22_0 := NB101_102.out
  have hns22_2 := NB103_102.out
  have hms22_0 := NB102_101.out
  have hms22_2 := NB102_103.out
  obtain ⟨hs24, hfs24⟩ := e1 BK102
  have hns24_0 := NB101_102.out
  have hns24_2 := NB103_102.out
  have hms24_0 := NB102_101.out
  have hms24_2 := NB102_103.out
  obtain ⟨hs26, hfs26⟩ := e2 BK102
  have hns26_0 := NB101_102.out
  have hns26_2 := NB103_102.out
  have hms26_0 := NB102_101.out
  have hms26_2 := NB102_103.out
  refine sk (hK.out _ _ ?_)
  clear hK K
  refine done_ (by kernel_rfl) ?_
  try go_wp2
  generalize hw : ((((((w16.setCell ⟨gb101, 0, none⟩ (.bool t104)).setCell ⟨gb101, 1, none⟩ (.slice Ao18 t105.length co18)).setCell ⟨gb101, 2, none⟩ (.slice Ao20 t108.length co20)).setCell ⟨gb102, 0, none⟩ (.bool t111)).setCell ⟨gb102, 1, none⟩ (.slice Ao23 t112.length co23)).setCell ⟨gb102, 2, none⟩ (.slice Ao25 t115.length co25)) = w27
  replace hw := hw.symm
  replace HO107 := vW hw (fun k_ => ((P0_1_ k_ ∨ P0_2_ k_ ∨ P1_1_ k_ ∨ P1_2_ k_) ∨ w.heap.size ≤ k_) ∧ k_ ≠ gb101 ∧ k_ ≠ gb102 ∧ k_ ≠ gb103) (v3p (v3p HO107 (fun _ hk => hk.2.1)) (fun _ hk => hk.1.2.2.1)) (fun _ hk => ⟨hk.1.1.1, ⟨hk.1.1.2.1, ⟨hk.1.1.2.2.1, hk.1.1.2.2.2⟩⟩⟩)
  replace HO110 := vW hw (fun k_ => ((P0_1_ k_ ∨ P0_2_ k_ ∨ P1_1_ k_ ∨ P1_2_ k_) ∨ w.heap.size ≤ k_) ∧ k_ ≠ gb101 ∧ k_ ≠ gb102 ∧ k_ ≠ gb103) (v3p (v3p HO110 (fun _ hk => hk.2.1)) (fun _ hk => hk.1.2.2.1)) (fun _ hk => ⟨hk.1.1.1, ⟨hk.1.1.2.1, ⟨hk.1.1.2.2.1, hk.1.1.2.2.2⟩⟩⟩)
  replace HO114 := vW hw (fun k_ => ((P0_1_ k_ ∨ P0_2_ k_ ∨ P1_1_ k_ ∨ P1_2_ k_) ∨ w.heap.size ≤ k_) ∧ k_ ≠ gb101 ∧ k_ ≠ gb102 ∧ k_ ≠ gb103) (v3p (v3p HO114 (fun _ hk => hk.2.1)) (fun _ hk => hk.1.2.2.1)) (fun _ hk => ⟨hk.1.1.1, ⟨hk.1.1.2.1, ⟨hk.1.1.2.2.1, hk.1.1.2.2.2⟩⟩⟩)
  replace HO117 := vW hw (fun k_ => ((P0_1_ k_ ∨ P0_2_ k_ ∨ P1_1_ k_ ∨ P1_2_ k_) ∨ w.heap.size ≤ k_) ∧ k_ ≠ gb101 ∧ k_ ≠ gb102 ∧ k_ ≠ gb103) (v3p (v3p HO117 (fun _ hk => hk.2.1)) (fun _ hk => hk.1.2.2.1)) (fun _ hk => ⟨hk.1.1.1, ⟨hk.1.1.2.1, ⟨hk.1.1.2.2.1, hk.1.1.2.2.2⟩⟩⟩)
  replace BK101 := kW hw (q3 (p3 BK101) NB101_102)
  replace BK102 := kW hw (p3 (q3 BK102 NB102_101))
  replace BK103 := kW hw (q3 (q3 BK103 NB103_101) NB103_102)
  replace HB := bW HB hw
  clear hw
  replace HO107 := vd HO107
  replace HO110 := vd HO110
  replace HO114 := vd HO114
  replace HO117 := vd HO117
  replace BK101 := kd BK101
  replace BK102 := kd BK102
  replace BK103 := kd BK103
  replace HB := bd HB
  refine st (S := fun w' => B3 w' gb101 (.bool t104) (.slice Ao18 t105.length co18) (.slice Ao20 t108.length co20) ∧ B3 w' gb102 (.bool t111) (.slice Ao23 t112.length co23) (.slice Ao25 t115.length co25)) 18 [] (tf 0 18) ⟨b3 BK101, b3 BK102⟩ (fun hHeld => ?_); refine with_tabW ratio_R_Add.tab2 ratio_R_Add.bits2 (fun HT_ HW_ => ?_)
  generalize w27.drew = w28 at HO107 HO110 HO114 HO117 BK101 BK102 BK103 HB hHeld ⊢
  refine pu 0 16 (tf 1 17) ?_
  refine pu 2 18 #[true, false, true, false, false, false, false, false, false, false, false, false, false, false, false, false, false, false] ?_
  refine pu 5 21 #[true, false, true, false, false, true, false, false, false, false, false, false, false, false, false, false, false, false] ?_
  refine pu 7 23 #[true, false, true, false, false, true, false, true, false, false, false, false, false, false, false, false, false, false] ?_
  refine pu 10 26 #[true, false, true, false, false, true, false, true, false, false, true, false, false, false, false, false, false, false] ?_
  refine pu 12 28 #[true, false, true, false, false, true, false, true, false, false, true, false, true, false, false, false, false, false] ?_
  refine tk 1 17 #[true, true, true, false, false, true, false, true, false, false, true, false, true, false, false, false, false, false] hHeld ?_
  refine tk 3 19 #[true, true, true, true, false, true, false, true, false, false, true, false, true, false, false, false, false, false] hHeld ?_
  refine tk 6 22 #[true, true, true, true, false, true, true, true, false, false, true, false, true, false, false, false, false, false] hHeld ?_
  refine tk 8 24 #[true, true, true, true, false, true, true, true, true, false, true, false, true, false, false, false, false, false] hHeld ?_
  refine tk 11 27 #[true, true, true, true, false, true, true, true, true, false, true, true, true, false, false, false, false, false] hHeld ?_
  refine tk 13 29 #[true, true, true, true, false, true, true, true, true, false, true, true, true, true, false, false, false, false] hHeld ?_
  refine on 4 (some 20) #[true, true, true, true, true, true, true, true, true, false, true, true, true, true, false, false, false, false] (fun K hK => ?_)
  refine gS Try.func30 #[.slice Ao18 t105.length co18, .slice Ao25 t115.length co25] ?_
  with_reducible refine (nat_Nat_Mul.calls k _ _ t105 _ _ t115 t118 _ ?_ ?_ ?_ ?_ A5.out).mono ?_
  exact cup ((Kd.V_reads' HO107.out).2.2)
  exact (Kd.V_reads' HO107.out).2.1
  exact cup ((Kd.V_reads' HO117.out).2.2)
  exact (Kd.V_reads' HO117.out).2.1
  rintro e w29 ⟨v119, rfl, ho0, hb⟩
  refine ⟨_, rfl, ?_⟩
  replace HO110 := vA HO110 hb
  replace HO114 := vA HO114 hb
  replace HO117 := vA HO117 hb
  have HO120 := lw HB (fun k_ => ((P0_1_ k_ ∨ P0_2_ k_ ∨ P1_1_ k_ ∨ P1_2_ k_) ∨ w.heap.size ≤ k_) ∧ k_ ≠ gb101 ∧ k_ ≠ gb102 ∧ k_ ≠ gb103) ho0 (fun k_ hk_ => ⟨(.inr (Nat.le_trans (below_size hB) hk_)), (kF BK101 hk_), (kF BK102 hk_), (kF BK103 hk_)⟩)
  replace BK101 := kA BK101 hb
  replace BK102 := kA BK102 hb
  replace BK103 := kA BK103 hb
  replace HB := bS HB hb
  clear HO107
  clear hb ho0
  refine hK.out _ _ ⟨b3 BK101, b3 BK102⟩ (fun hHeld => nm ?_)
  clear hK K
  refine on 9 (some 25) (tf 14 4) (fun K hK => ?_)
  refine gS Try.func30 #[.slice Ao23 t112.length co23, .slice Ao20 t108.length co20] ?_
  with_reducible refine (nat_Nat_Mul.calls k _ _ t112 _ _ t108 t121 _ ?_ ?_ ?_ ?_ A6.out).mono ?_
  exact cup ((Kd.V_reads' HO114.out).2.2)
  exact (Kd.V_reads' HO114.out).2.1
  exact cup ((Kd.V_reads' HO110.out).2.2)
  exact (Kd.V_reads' HO110.out).2.1
  rintro e w30 ⟨v122, rfl, ho0, hb⟩
  refine ⟨_, rfl, ?_⟩
  replace HO110 := vA HO110 hb
  replace HO117 := vA HO117 hb
  replace HO120 := vA HO120 hb
  have HO123 := lw HB (fun k_ => ((P0_1_ k_ ∨ P0_2_ k_ ∨ P1_1_ k_ ∨ P1_2_ k_) ∨ w.heap.size ≤ k_) ∧ k_ ≠ gb101 ∧ k_ ≠ gb102 ∧ k_ ≠ gb103) ho0 (fun k_ hk_ => ⟨(.inr (Nat.le_trans (below_size hB) hk_)), (kF BK101 hk_), (kF BK102 hk_), (kF BK103 hk_)⟩)
  replace BK101 := kA BK101 hb
  replace BK102 := kA BK102 hb
  replace BK103 := kA BK103 hb
  replace HB := bS HB hb
  clear HO114
  clear hb ho0
  refine hK.out _ _ ⟨b3 BK101, b3 BK102⟩ (fun hHeld => nm ?_)
  clear hK K
  refine on 14 (some 30) (tf 15 3) (fun K hK => ?_)
  refine gS Try.func30 #[.slice Ao20 t108.length co20, .slice Ao25 t115.length co25] ?_
  with_reducible refine (nat_Nat_Mul.calls k _ _ t108 _ _ t115 t124 _ ?_ ?_ ?_ ?_ A7.out).mono ?_
  exact cup ((Kd.V_reads' HO110.out).2.2)
  exact (Kd.V_reads' HO110.out).2.1
  exact cup ((Kd.V_reads' HO117.out).2.2)
  exact (Kd.V_reads' HO117.out).2.1
  rintro e w31 ⟨v125, rfl, ho0, hb⟩
  refine ⟨_, rfl, ?_⟩
  replace HO120 := vA HO120 hb
  replace HO123 := vA HO123 hb
  have HO126 := lw HB (fun k_ => ((P0_1_ k_ ∨ P0_2_ k_ ∨ P1_1_ k_ ∨ P1_2_ k_) ∨ w.heap.size ≤ k_) ∧ k_ ≠ gb101 ∧ k_ ≠ gb102 ∧ k_ ≠ gb103) ho0 (fun k_ hk_ => ⟨(.inr (Nat.le_trans (below_size hB) hk_)), (kF BK101 hk_), (kF BK102 hk_), (kF BK103 hk_)⟩)
  replace BK101 := kA BK101 hb
  replace BK102 := kA BK102 hb
  replace BK103 := kA BK103 hb
  replace HB := bS HB hb
  clear HO110 HO117
  clear hb ho0
  refine hK.out _ _ ⟨b3 BK101, b3 BK102⟩ (fun hHeld => nm ?_)
  clear hK K
  refine pu 15 5 (tf 16 2) ?_
  refine pu 16 6 (tf 17 1) ?_
  refine pu 17 7 (tf 18 0) ?_
  refine done_ (done_of HT_.out (by kernel_rfl)) ?_
  have hnb32 := NB101_102.out
  have hnc32 := NB102_101.out
  have hnb33 := NB101_103.out
  have hnc33 := NB103_101.out
  obtain ⟨⟨hcz34_0, hcz34_1, hcz34_2⟩, hfz34_0, hfz34_1, hfz34_2⟩ := cE BK101
  have hnb35 := NB102_103.out
  have hnc35 := NB103_102.out
  obtain ⟨⟨hcz36_0, hcz36_1, hcz36_2⟩, hfz36_0, hfz36_1, hfz36_2⟩ := cE BK102
  try go_wp2
  replace HO120 := vd HO120
  replace HO123 := vd HO123
  replace HO126 := vd HO126
  replace BK101 := kd BK101
  replace BK102 := kd BK102
  replace BK103 := kd BK103
  replace HB := bd HB
  obtain ⟨Ao38, co38, eo38⟩ := Kd.V_slice HO120.out
  (first | subst eo38 | (injection eo38 with f1_ f2_ f3_; have f4_ := f1_.symm; have f5_ := f3_.symm; clear f1_ f2_ f3_; subst f4_; subst f5_))
  obtain ⟨Ao39, co39, eo39⟩ := Kd.V_slice HO123.out
  (first | subst eo39 | (injection eo39 with f1_ f2_ f3_; have f4_ := f1_.symm; have f5_ := f3_.symm; clear f1_ f2_ f3_; subst f4_; subst f5_))
  refine st (S := fun w' => B3 w' gb101 (.bool t104) (.slice Ao18 t105.length co18) (.slice Ao20 t108.length co20)) 8 [] (tf 0 8) (b3 BK101) (fun hHeld => ?_); refine with_tabW ratio_R_Add.tab4 ratio_R_Add.bits4 (fun HT_ HW_ => ?_)
  generalize w31.drew = w37 at HO120 HO123 HO126 BK101 BK102 BK103 HB hHeld ⊢
  refine pu 0 36 (tf 1 7) ?_
  refine pu 2 38 #[true, false, true, false, false, false, false, false] ?_
  refine pu 3 39 #[true, false, true, true, false, false, false, false] ?_
  refine pu 5 41 #[true, false, true, true, false, true, false, false] ?_
  refine tk 1 37 #[true, true, true, true, false, true, false, false] hHeld ?_
  refine on 4 (some 40) (tf 6 2) (fun K hK => ?_)
  refine gS Try.func28 #[.slice Ao38 t118.length co38, .slice Ao39 t121.length co39] ?_
  with_reducible refine (nat_Nat_Add.calls k _ _ t118 _ _ t121 t127 _ ?_ ?_ ?_ ?_ A9.out).mono ?_
  exact cup ((Kd.V_reads' HO120.out).2.2)
  exact (Kd.V_reads' HO120.out).2.1
  exact cup ((Kd.V_reads' HO123.out).2.2)
  exact (Kd.V_reads' HO123.out).2.1
  rintro e w40 ⟨v128, rfl, ho0, hb⟩
  refine ⟨_, rfl, ?_⟩
  replace HO126 := vA HO126 hb
  have HO129 := lw HB (fun k_ => ((P0_1_ k_ ∨ P0_2_ k_ ∨ P1_1_ k_ ∨ P1_2_ k_) ∨ w.heap.size ≤ k_) ∧ k_ ≠ gb101 ∧ k_ ≠ gb102 ∧ k_ ≠ gb103) ho0 (fun k_ hk_ => ⟨(.inr (Nat.le_trans (below_size hB) hk_)), (kF BK101 hk_), (kF BK102 hk_), (kF BK103 hk_)⟩)
  replace BK101 := kA BK101 hb
  replace BK102 := kA BK102 hb
  replace BK103 := kA BK103 hb
  replace HB := bS HB hb
  clear HO120 HO123
  clear hb ho0
  obtain ⟨Ao41, co41, eo41⟩ := Kd.V_slice HO129.out
  (first | subst eo41 | (injection eo41 with f1_ f2_ f3_; have f4_ := f1_.symm; have f5_ := f3_.symm; clear f1_ f2_ f3_; subst f4_; subst f5_))
  obtain ⟨Ao42, co42, eo42⟩ := Kd.V_slice HO126.out
  (first | subst eo42 | (injection eo42 with f1_ f2_ f3_; have f4_ := f1_.symm; have f5_ := f3_.symm; clear f1_ f2_ f3_; subst f4_; subst f5_))
  refine hK.out _ _ (b3 BK101) (fun hHeld => nm ?_)
  clear hK K
  refine on 6 (some 42) (tf 7 1) (fun K hK => ?_)
  refine gS Try.func126 #[.bool t104, .slice Ao41 t127.length co41, .slice Ao42 t124.length co42] ?_
  with_reducible refine (ratio_low.calls k t104 (fun k_ => (((P0_1_ k_ ∨ P0_2_ k_ ∨ P1_1_ k_ ∨ P1_2_ k_) ∨ w.heap.size ≤ k_) ∧ (k_ ≠ gb101 ∧ (k_ ≠ gb102 ∧ k_ ≠ gb103)))) _ _ t127 (fun k_ => (((P0_1_ k_ ∨ P0_2_ k_ ∨ P1_1_ k_ ∨ P1_2_ k_) ∨ w.heap.size ≤ k_) ∧ (k_ ≠ gb101 ∧ (k_ ≠ gb102 ∧ k_ ≠ gb103)))) _ _ t124 t130 t131 t134 _ ?_ ?_ A10.out).mono ?_
  exact HO129.out
  exact HO126.out
  rintro e w43 ⟨v132, v135, rfl, ho0, ho1, hb⟩
  refine ⟨_, rfl, ?_⟩
  have HO133 := lw HB (fun k_ => ((P0_1_ k_ ∨ P0_2_ k_ ∨ P1_1_ k_ ∨ P1_2_ k_) ∨ w.heap.size ≤ k_) ∧ k_ ≠ gb101 ∧ k_ ≠ gb102 ∧ k_ ≠ gb103) ho0 (fun k_ hk_ => Or.elim hk_ (fun hs_ => Or.elim hs_ id id) (fun hn_ => ⟨.inr (Nat.le_trans (below_size hB) hn_), kF BK101 hn_, kF BK102 hn_, kF BK103 hn_⟩))
  have HO136 := lw HB (fun k_ => ((P0_1_ k_ ∨ P0_2_ k_ ∨ P1_1_ k_ ∨ P1_2_ k_) ∨ w.heap.size ≤ k_) ∧ k_ ≠ gb101 ∧ k_ ≠ gb102 ∧ k_ ≠ gb103) ho1 (fun k_ hk_ => Or.elim hk_ (fun hs_ => Or.elim hs_ id id) (fun hn_ => ⟨.inr (Nat.le_trans (below_size hB) hn_), kF BK101 hn_, kF BK102 hn_, kF BK103 hn_⟩))
  replace BK101 := kA BK101 hb
  replace BK103 := kA BK103 hb
  replace HB := bS HB hb
  clear HO126 HO129 BK102
  clear hb ho0 ho1
  obtain ⟨Ao45, co45, eo45⟩ := Kd.V_slice HO133.out
  (first | subst eo45 | (injection eo45 with f1_ f2_ f3_; have f4_ := f1_.symm; have f5_ := f3_.symm; clear f1_ f2_ f3_; subst f4_; subst f5_))
  obtain ⟨Ao47, co47, eo47⟩ := Kd.V_slice HO136.out
  (first | subst eo47 | (injection eo47 with f1_ f2_ f3_; have f4_ := f1_.symm; have f5_ := f3_.symm; clear f1_ f2_ f3_; subst f4_; subst f5_))
  refine hK.out _ _ (b3 BK101) (fun hHeld => nm ?_)
  clear hK K
  refine on 7 none (tf 8 0) (fun K hK => ?_)
  obtain ⟨hs44, hfs44⟩ := e0 BK103
  have hns44_0 := NB101_103.out
  have hns44_1 := NB102_103.out
  have hms44_0 := NB103_101.out
  have hms44_1 := NB103_102.out
  obtain ⟨hs46, hfs46⟩ := e1 BK103
  have hns46_0 := NB101_103.out
  have hns46_1 := NB102_103.out
  have hms46_0 := NB103_101.out
  have hms46_1 := NB103_102.out
  obtain ⟨hs48, hfs48⟩ := e2 BK103
  have hns48_0 := NB101_103.out
  have hns48_1 := NB102_103.out
  have hms48_0 := NB103_101.out
  have hms48_1 := NB103_102.out
  refine sk ?_
  refine hK.out _ _ (F3 hHeld NB101_103) (fun hHeld => ?_)
  clear hK K
  refine done_ (done_of HT_.out (by kernel_rfl)) ?_
  try go_wp2
  refine bodyPost_ret (results_cell_row rfl _ _ gb103 69 #[.bool t130, .slice Ao45 t131.length co45, .slice Ao47 t134.length co47] (0, 0) _ rfl (by exact kU (p3 BK103)) Try.underlying69 rfl (by kernel_rfl)) rfl ?_
  exact ⟨_, _, er, vG (v3p HO133 (fun _ hk => hk.2.2.2)) (fun _ hk => hk.1.1), vG (v3p HO136 (fun _ hk => hk.2.2.2)) (fun _ hk => hk.1.1), hB⟩
 rw [if_neg c8] at H
 have c8b0 : (t104 == t111) = false := by simpa using c8
 (try (have c8b1 : decide (t104 = t111) = false := by simpa using c8))
 (try (have c8b2 : (t104 == t111) = false := by simpa using c8))
 (try (have c8b3 : ¬ (t104 = t111) := by simpa using c8))
 clear c8
 replace H := bi H
 obtain ⟨⟨t137, t140⟩, A49, H⟩ := H
 try dsimp only at H
 by_cases c50 : t140 = true
 ·subst c50
  replace H := ifT H
  replace H := bi H
  obtain ⟨⟨t141, t142, t145⟩, A51, H⟩ := H
  try dsimp only at H
  simp only [Option.some.injEq, Prod.mk.injEq] at H
  obtain ⟨rfl, rfl, rfl⟩ := H
  go_enter Try.func86, Try.ntmps86
  try go_wp2_with (first | ((with_reducible refine gd 2 rfl ?_); refine bx 2 #[.bool a0_0, .slice A0_1 l0_1.length c0_1, .slice A0_2 l0_2.length c0_2] ?_; intro gb101 hg w52 hbox hb; replace HO0_1 := vE HO0_1 hg hb; replace HO0_2 := vE HO0_2 hg hb; replace HO1_1 := vE HO1_1 hg hb; replace HO1_2 := vE HO1_2 hg hb; have BK101 := Aside0.mk hbox; have GE101 := gB hg HB; replace HB := bA HB hb; clear hb hbox hg) | ((with_reducible refine gd 3 rfl ?_); refine bx 3 #[.bool a1_0, .slice A1_1 l1_1.length c1_1, .slice A1_2 l1_2.length c1_2] ?_; intro gb102 hg w53 hbox hb; replace HO0_1 := vE HO0_1 hg hb; replace HO0_2 := vE HO0_2 hg hb; replace HO1_1 := vE HO1_1 hg hb; replace HO1_2 := vE HO1_2 hg hb; have BK102 := Aside0.mk hbox; have GE102 := gS' hg HB; replace HB := bS HB hb; have NB101_102 := nL hg BK101; have NB102_101 := nR hg BK101; replace BK101 := kA BK101 hb; clear hb hbox hg) | ((with_reducible refine gd 4 rfl ?_); refine bx 4 #[.bool false, .slice none 0 0, .slice none 0 0] ?_; intro gb103 hg w54 hbox hb; replace HO0_1 := vE HO0_1 hg hb; replace HO0_2 := vE HO0_2 hg hb; replace HO1_1 := vE HO1_1 hg hb; replace HO1_2 := vE HO1_2 hg hb; have BK103 := Aside0.mk hbox; have GE103 := gS' hg HB; replace HB := bS HB hb; have NB101_103 := nL hg BK101; have NB103_101 := nR hg BK101; replace BK101 := kA BK101 hb; have NB102_103 := nL hg BK102; have NB103_102 := nR hg BK102; replace BK102 := kA BK102 hb; clear hb hbox hg))
  replace HO0_1 := Aside0.mk (Kd.V_drew HO0_1.out)
  replace HO0_2 := Aside0.mk (Kd.V_drew HO0_2.out)
  replace HO1_1 := Aside0.mk (Kd.V_drew HO1_1.out)
  replace HO1_2 := Aside0.mk (Kd.V_drew HO1_2.out)
  replace BK101 := kd BK101
  replace BK102 := kd BK102
  replace BK103 := kd BK103
  replace HB := bd HB
  refine st (S := fun w' => B3 w' gb101 (.bool a0_0) (.slice A0_1 l0_1.length c0_1) (.slice A0_2 l0_2.length c0_2) ∧ B3 w' gb102 (.bool a1_0) (.slice A1_1 l1_1.length c1_1) (.slice A1_2 l1_2.length c1_2)) 6 [4, 5] (tf 0 6) ⟨b3 BK101, b3 BK102⟩ (fun hHeld => ?_)
  generalize w54.drew = w55 at HO0_1 HO0_2 HO1_1 HO1_2 BK101 BK102 BK103 HB hHeld ⊢
  refine tk 0 12 (tf 1 5) hHeld ?_
  refine tk 2 14 #[true, false, true, false, false, false] hHeld ?_
  refine on 1 (some 13) (tf 3 3) (fun K hK => ?_)
  refine gS Try.func119 #[.agg #[.bool a0_0, .slice A0_1 l0_1.length c0_1, .slice A0_2 l0_2.length c0_2]] ?_
  with_reducible refine (ratio_R_low.calls k a0_0 (fun k_ => (((((P0_1_ k_ ∨ P0_2_ k_ ∨ P1_1_ k_ ∨ P1_2_ k_) ∨ w.heap.size ≤ k_) ∧ k_ ≠ gb101) ∧ k_ ≠ gb102) ∧ k_ ≠ gb103)) _ _ l0_1 (fun k_ => (((((P0_1_ k_ ∨ P0_2_ k_ ∨ P1_1_ k_ ∨ P1_2_ k_) ∨ w.heap.size ≤ k_) ∧ k_ ≠ gb101) ∧ k_ ≠ gb102) ∧ k_ ≠ gb103)) _ _ l0_2 t104 t105 t108 _ ?_ ?_ A3.out).mono ?_
  exact HO0_1.out
  exact HO0_2.out
  rintro e w56 ⟨v106, v109, rfl, ho0, ho1, hb⟩
  refine ⟨_, rfl, ?_⟩
  replace HO1_1 := vA HO1_1 hb
  replace HO1_2 := vA HO1_2 hb
  have HO107 := lw HB (fun k_ => ((P0_1_ k_ ∨ P0_2_ k_ ∨ P1_1_ k_ ∨ P1_2_ k_) ∨ w.heap.size ≤ k_) ∧ k_ ≠ gb101 ∧ k_ ≠ gb102 ∧ k_ ≠ gb103) ho0 (fun k_ hk_ => Or.elim hk_ (fun hs_ => Or.elim hs_ (fun hs_ => ⟨hs_.1.1.1, hs_.1.1.2, hs_.1.2, hs_.2⟩) (fun hs_ => ⟨hs_.1.1.1, hs_.1.1.2, hs_.1.2, hs_.2⟩)) (fun hn_ => ⟨.inr (Nat.le_trans (below_size hB) hn_), kF BK101 hn_, kF BK102 hn_, kF BK103 hn_⟩))
  have HO110 := lw HB (fun k_ => ((P0_1_ k_ ∨ P0_2_ k_ ∨ P1_1_ k_ ∨ P1_2_ k_) ∨ w.heap.size ≤ k_) ∧ k_ ≠ gb101 ∧ k_ ≠ gb102 ∧ k_ ≠ gb103) ho1 (fun k_ hk_ => Or.elim hk_ (fun hs_ => Or.elim hs_ (fun hs_ => ⟨hs_.1.1.1, hs_.1.1.2, hs_.1.2, hs_.2⟩) (fun hs_ => ⟨hs_.1.1.1, hs_.1.1.2, hs_.1.2, hs_.2⟩)) (fun hn_ => ⟨.inr (Nat.le_trans (below_size hB) hn_), kF BK101 hn_, kF BK102 hn_, kF BK103 hn_⟩))
  replace BK101 := kA BK101 hb
  replace BK102 := kA BK102 hb
  replace BK103 := kA BK103 hb
  replace HB := bS HB hb
  clear HO0_1 HO0_2
  clear hb ho0 ho1
  refine hK.out _ _ ⟨b3 BK101, b3 BK102⟩ (fun hHeld => nm ?_)
  clear hK K
  refine on 3 (some 15) (tf 4 2) (fun K hK => ?_)
  refine gS Try.func119 #[.agg #[.bool a1_0, .slice A1_1 l1_1.length c1_1, .slice A1_2 l1_2.length c1_2]] ?_
  with_reducible refine (ratio_R_low.calls k a1_0 (fun k_ => (((((P0_1_ k_ ∨ P0_2_ k_ ∨ P1_1_ k_ ∨ P1_2_ k_) ∨ w.heap.size ≤ k_) ∧ k_ ≠ gb101) ∧ k_ ≠ gb102) ∧ k_ ≠ gb103)) _ _ l1_1 (fun k_ => (((((P0_1_ k_ ∨ P0_2_ k_ ∨ P1_1_ k_ ∨ P1_2_ k_) ∨ w.heap.size ≤ k_) ∧ k_ ≠ gb101) ∧ k_ ≠ gb102) ∧ k_ ≠ gb103)) _ _ l1_2 t111 t112 t115 _ ?_ ?_ A4.out).mono ?_
  exact HO1_1.out
  exact HO1_2.out
  rintro e w57 ⟨v113, v116, rfl, ho0, ho1, hb⟩
  refine ⟨_, rfl, ?_⟩
  replace HO107 := vA HO107 hb
  replace HO110 := vA HO110 hb
  have HO114 := lw HB (fun k_ => ((P0_1_ k_ ∨ P0_2_ k_ ∨ P1_1_ k_ ∨ P1_2_ k_) ∨ w.heap.size ≤ k_) ∧ k_ ≠ gb101 ∧ k_ ≠ gb102 ∧ k_ ≠ gb103) ho0 (fun k_ hk_ => Or.elim hk_ (fun hs_ => Or.elim hs_ (fun hs_ => ⟨hs_.1.1.1, hs_.1.1.2, hs_.1.2, hs_.2⟩) (fun hs_ => ⟨hs_.1.1.1, hs_.1.1.2, hs_.1.2, hs_.2⟩)) (fun hn_ => ⟨.inr (Nat.le_trans (below_size hB) hn_), kF BK101 hn_, kF BK102 hn_, kF BK103 hn_⟩))
  have HO117 := lw HB (fun k_ => ((P0_1_ k_ ∨ P0_2_ k_ ∨ P1_1_ k_ ∨ P1_2_ k_) ∨ w.heap.size ≤ k_) ∧ k_ ≠ gb101 ∧ k_ ≠ gb102 ∧ k_ ≠ gb103) ho1 (fun k_ hk_ => Or.elim hk_ (fun hs_ => Or.elim hs_ (fun hs_ => ⟨hs_.1.1.1, hs_.1.1.2, hs_.1.2, hs_.2⟩) (fun hs_ => ⟨hs_.1.1.1, hs_.1.1.2, hs_.1.2, hs_.2⟩)) (fun hn_ => ⟨.inr (Nat.le_trans (below_size hB) hn_), kF BK101 hn_, kF BK102 hn_, kF BK103 hn_⟩))
  replace BK101 := kA BK101 hb
  replace BK102 := kA BK102 hb
  replace BK103 := kA BK103 hb
  replace HB := bS HB hb
  clear HO1_1 HO1_2
  clear hb ho0 ho1
  obtain ⟨Ao59, co59, eo59⟩ := Kd.V_slice HO107.out
  (first | subst eo59 | (injection eo59 with f1_ f2_ f3_; have f4_ := f1_.symm; have f5_ := f3_.symm; clear f1_ f2_ f3_; subst f4_; subst f5_))
  obtain ⟨Ao61, co61, eo61⟩ := Kd.V_slice HO110.out
  (first | subst eo61 | (injection eo61 with f1_ f2_ f3_; have f4_ := f1_.symm; have f5_ := f3_.symm; clear f1_ f2_ f3_; subst f4_; subst f5_))
  obtain ⟨Ao64, co64, eo64⟩ := Kd.V_slice HO114.out
  (first | subst eo64 | (injection eo64 with f1_ f2_ f3_; have f4_ := f1_.symm; have f5_ := f3_.symm; clear f1_ f2_ f3_; subst f4_; subst f5_))
  obtain ⟨Ao66, co66, eo66⟩ := Kd.V_slice HO117.out
  (first | subst eo66 | (injection eo66 with f1_ f2_ f3_; have f4_ := f1_.symm; have f5_ := f3_.symm; clear f1_ f2_ f3_; subst f4_; subst f5_))
  refine hK.out _ _ ⟨b3 BK101, b3 BK102⟩ (fun hHeld => nm ?_)
  clear hK K
  refine la 4 none (tf 5 1) (fun K hK => ?_)
  obtain ⟨hs58, hfs58⟩ := e0 BK101
  have hns58_1 := NB102_101.out
  have hns58_2 := NB103_101.out
  have hms58_1 := NB101_102.out
  have hms58_2 := NB101_103.out
  obtain ⟨hs60, hfs60⟩ := e1 BK101
  have hns60_1 := NB102_101.out
  have hns60_2 := NB103_101.out
  have hms60_1 := NB101_102.out
  have hms60_2 := NB101_103.out
  obtain ⟨hs62, hfs62⟩ := e2 BK101
  have hns62_1 := NB102_101.out
  have hns62_2 := NB103_101.out
  have hms62_1 := NB101_102.out
  have hms62_2 := NB101_103.out
  refine sk (hK.out _ _ ?_)
  clear hK K
  refine la 5 none (tf 6 0) (fun K hK => ?_)
  obtain ⟨hs63, hfs63⟩ := e0 BK102
  have hns63_0 := NB101_102.out
  have hns63_2 := NB103_102.out
  have hms63_0 := NB102_101.out
  have hms63_2 := NB102_103.out
  obtain ⟨hs65, hfs65⟩ := e1 BK102
  have hns65_0 := NB101_102.out
  have hns65_2 := NB103_102.out
  have hms65_0 := NB102_101.out
  have hms65_2 := NB102_103.out
  obtain ⟨hs67, hfs67⟩ := e2 BK102
  have hns67_0 := NB101_102.out
  have hns67_2 := NB103_102.out
  have hms67_0 := NB102_101.out
  have hms67_2 := NB102_103.out
  refine sk (hK.out _ _ ?_)
  clear hK K
  refine done_ (by kernel_rfl) ?_
  try go_wp2
  generalize hw : ((((((w57.setCell ⟨gb101, 0, none⟩ (.bool t104)).setCell ⟨gb101, 1, none⟩ (.slice Ao59 t105.length co59)).setCell ⟨gb101, 2, none⟩ (.slice Ao61 t108.length co61)).setCell ⟨gb102, 0, none⟩ (.bool t111)).setCell ⟨gb102, 1, none⟩ (.slice Ao64 t112.length co64)).setCell ⟨gb102, 2, none⟩ (.slice Ao66 t115.length co66)) = w68
  replace hw := hw.symm
  replace HO107 := vW hw (fun k_ => ((P0_1_ k_ ∨ P0_2_ k_ ∨ P1_1_ k_ ∨ P1_2_ k_) ∨ w.heap.size ≤ k_) ∧ k_ ≠ gb101 ∧ k_ ≠ gb102 ∧ k_ ≠ gb103) (v3p (v3p HO107 (fun _ hk => hk.2.1)) (fun _ hk => hk.1.2.2.1)) (fun _ hk => ⟨hk.1.1.1, ⟨hk.1.1.2.1, ⟨hk.1.1.2.2.1, hk.1.1.2.2.2⟩⟩⟩)
  replace HO110 := vW hw (fun k_ => ((P0_1_ k_ ∨ P0_2_ k_ ∨ P1_1_ k_ ∨ P1_2_ k_) ∨ w.heap.size ≤ k_) ∧ k_ ≠ gb101 ∧ k_ ≠ gb102 ∧ k_ ≠ gb103) (v3p (v3p HO110 (fun _ hk => hk.2.1)) (fun _ hk => hk.1.2.2.1)) (fun _ hk => ⟨hk.1.1.1, ⟨hk.1.1.2.1, ⟨hk.1.1.2.2.1, hk.1.1.2.2.2⟩⟩⟩)
  replace HO114 := vW hw (fun k_ => ((P0_1_ k_ ∨ P0_2_ k_ ∨ P1_1_ k_ ∨ P1_2_ k_) ∨ w.heap.size ≤ k_) ∧ k_ ≠ gb101 ∧ k_ ≠ gb102 ∧ k_ ≠ gb103) (v3p (v3p HO114 (fun _ hk => hk.2.1)) (fun _ hk => hk.1.2.2.1)) (fun _ hk => ⟨hk.1.1.1, ⟨hk.1.1.2.1, ⟨hk.1.1.2.2.1, hk.1.1.2.2.2⟩⟩⟩)
  replace HO117 := vW hw (fun k_ => ((P0_1_ k_ ∨ P0_2_ k_ ∨ P1_1_ k_ ∨ P1_2_ k_) ∨ w.heap.size ≤ k_) ∧ k_ ≠ gb101 ∧ k_ ≠ gb102 ∧ k_ ≠ gb103) (v3p (v3p HO117 (fun _ hk => hk.2.1)) (fun _ hk => hk.1.2.2.1)) (fun _ hk => ⟨hk.1.1.1, ⟨hk.1.1.2.1, ⟨hk.1.1.2.2.1, hk.1.1.2.2.2⟩⟩⟩)
  replace BK101 := kW hw (q3 (p3 BK101) NB101_102)
  replace BK102 := kW hw (p3 (q3 BK102 NB102_101))
  replace BK103 := kW hw (q3 (q3 BK103 NB103_101) NB103_102)
  replace HB := bW HB hw
  clear hw
  replace HO107 := vd HO107
  replace HO110 := vd HO110
  replace HO114 := vd HO114
  replace HO117 := vd HO117
  replace BK101 := kd BK101
  replace BK102 := kd BK102
  replace BK103 := kd BK103
  replace HB := bd HB
  refine st (S := fun w' => B3 w' gb101 (.bool t104) (.slice Ao59 t105.length co59) (.slice Ao61 t108.length co61) ∧ B3 w' gb102 (.bool t111) (.slice Ao64 t112.length co64) (.slice Ao66 t115.length co66)) 18 [] (tf 0 18) ⟨b3 BK101, b3 BK102⟩ (fun hHeld => ?_); refine with_tabW ratio_R_Add.tab2 ratio_R_Add.bits2 (fun HT_ HW_ => ?_)
  generalize w68.drew = w69 at HO107 HO110 HO114 HO117 BK101 BK102 BK103 HB hHeld ⊢
  refine pu 0 16 (tf 1 17) ?_
  refine pu 2 18 #[true, false, true, false, false, false, false, false, false, false, false, false, false, false, false, false, false, false] ?_
  refine pu 5 21 #[true, false, true, false, false, true, false, false, false, false, false, false, false, false, false, false, false, false] ?_
  refine pu 7 23 #[true, false, true, false, false, true, false, true, false, false, false, false, false, false, false, false, false, false] ?_
  refine pu 10 26 #[true, false, true, false, false, true, false, true, false, false, true, false, false, false, false, false, false, false] ?_
  refine pu 12 28 #[true, false, true, false, false, true, false, true, false, false, true, false, true, false, false, false, false, false] ?_
  refine tk 1 17 #[true, true, true, false, false, true, false, true, false, false, true, false, true, false, false, false, false, false] hHeld ?_
  refine tk 3 19 #[true, true, true, true, false, true, false, true, false, false, true, false, true, false, false, false, false, false] hHeld ?_
  refine tk 6 22 #[true, true, true, true, false, true, true, true, false, false, true, false, true, false, false, false, false, false] hHeld ?_
  refine tk 8 24 #[true, true, true, true, false, true, true, true, true, false, true, false, true, false, false, false, false, false] hHeld ?_
  refine tk 11 27 #[true, true, true, true, false, true, true, true, true, false, true, true, true, false, false, false, false, false] hHeld ?_
  refine tk 13 29 #[true, true, true, true, false, true, true, true, true, false, true, true, true, true, false, false, false, false] hHeld ?_
  refine on 4 (some 20) #[true, true, true, true, true, true, true, true, true, false, true, true, true, true, false, false, false, false] (fun K hK => ?_)
  refine gS Try.func30 #[.slice Ao59 t105.length co59, .slice Ao66 t115.length co66] ?_
  with_reducible refine (nat_Nat_Mul.calls k _ _ t105 _ _ t115 t118 _ ?_ ?_ ?_ ?_ A5.out).mono ?_
  exact cup ((Kd.V_reads' HO107.out).2.2)
  exact (Kd.V_reads' HO107.out).2.1
  exact cup ((Kd.V_reads' HO117.out).2.2)
  exact (Kd.V_reads' HO117.out).2.1
  rintro e w70 ⟨v119, rfl, ho0, hb⟩
  refine ⟨_, rfl, ?_⟩
  replace HO110 := vA HO110 hb
  replace HO114 := vA HO114 hb
  replace HO117 := vA HO117 hb
  have HO120 := lw HB (fun k_ => ((P0_1_ k_ ∨ P0_2_ k_ ∨ P1_1_ k_ ∨ P1_2_ k_) ∨ w.heap.size ≤ k_) ∧ k_ ≠ gb101 ∧ k_ ≠ gb102 ∧ k_ ≠ gb103) ho0 (fun k_ hk_ => ⟨(.inr (Nat.le_trans (below_size hB) hk_)), (kF BK101 hk_), (kF BK102 hk_), (kF BK103 hk_)⟩)
  replace BK101 := kA BK101 hb
  replace BK102 := kA BK102 hb
  replace BK103 := kA BK103 hb
  replace HB := bS HB hb
  clear HO107
  clear hb ho0
  refine hK.out _ _ ⟨b3 BK101, b3 BK102⟩ (fun hHeld => nm ?_)
  clear hK K
  refine on 9 (some 25) (tf 14 4) (fun K hK => ?_)
  refine gS Try.func30 #[.slice Ao64 t112.length co64, .slice Ao61 t108.length co61] ?_
  with_reducible refine (nat_Nat_Mul.calls k _ _ t112 _ _ t108 t121 _ ?_ ?_ ?_ ?_ A6.out).mono ?_
  exact cup ((Kd.V_reads' HO114.out).2.2)
  exact (Kd.V_reads' HO114.out).2.1
  exact cup ((Kd.V_reads' HO110.out).2.2)
  exact (Kd.V_reads' HO110.out).2.1
  rintro e w71 ⟨v122, rfl, ho0, hb⟩
  refine ⟨_, rfl, ?_⟩
  replace HO110 := vA HO110 hb
  replace HO117 := vA HO117 hb
  replace HO120 := vA HO120 hb
  have HO123 := lw HB (fun k_ => ((P0_1_ k_ ∨ P0_2_ k_ ∨ P1_1_ k_ ∨ P1_2_ k_) ∨ w.heap.size ≤ k_) ∧ k_ ≠ gb101 ∧ k_ ≠ gb102 ∧ k_ ≠ gb103) ho0 (fun k_ hk_ => ⟨(.inr (Nat.le_trans (below_size hB) hk_)), (kF BK101 hk_), (kF BK102 hk_), (kF BK103 hk_)⟩)
  replace BK101 := kA BK101 hb
  replace BK102 := kA BK102 hb
  replace BK103 := kA BK103 hb
  replace HB := bS HB hb
  clear HO114
  clear hb ho0
  refine hK.out _ _ ⟨b3 BK101, b3 BK102⟩ (fun hHeld => nm ?_)
  clear hK K
  refine on 14 (some 30) (tf 15 3) (fun K hK => ?_)
  refine gS Try.func30 #[.slice Ao61 t108.length co61, .slice Ao66 t115.length co66] ?_
  with_reducible refine (nat_Nat_Mul.calls k _ _ t108 _ _ t115 t124 _ ?_ ?_ ?_ ?_ A7.out).mono ?_
  exact cup ((Kd.V_reads' HO110.out).2.2)
  exact (Kd.V_reads' HO110.out).2.1
  exact cup ((Kd.V_reads' HO117.out).2.2)
  exact (Kd.V_reads' HO117.out).2.1
  rintro e w72 ⟨v125, rfl, ho0, hb⟩
  refine ⟨_, rfl, ?_⟩
  replace HO120 := vA HO120 hb
  replace HO123 := vA HO123 hb
  have HO126 := lw HB (fun k_ => ((P0_1_ k_ ∨ P0_2_ k_ ∨ P1_1_ k_ ∨ P1_2_ k_) ∨ w.heap.size ≤ k_) ∧ k_ ≠ gb101 ∧ k_ ≠ gb102 ∧ k_ ≠ gb103) ho0 (fun k_ hk_ => ⟨(.inr (Nat.le_trans (below_size hB) hk_)), (kF BK101 hk_), (kF BK102 hk_), (kF BK103 hk_)⟩)
  replace BK101 := kA BK101 hb
  replace BK102 := kA BK102 hb
  replace BK103 := kA BK103 hb
  replace HB := bS HB hb
  clear HO110 HO117
  clear hb ho0
  refine hK.out _ _ ⟨b3 BK101, b3 BK102⟩ (fun hHeld => nm ?_)
  clear hK K
  refine pu 15 5 (tf 16 2) ?_
  refine pu 16 6 (tf 17 1) ?_
  refine pu 17 7 (tf 18 0) ?_
  refine done_ (done_of HT_.out (by kernel_rfl)) ?_
  have hnb73 := NB101_102.out
  have hnc73 := NB102_101.out
  have hnb74 := NB101_103.out
  have hnc74 := NB103_101.out
  obtain ⟨⟨hcz75_0, hcz75_1, hcz75_2⟩, hfz75_0, hfz75_1, hfz75_2⟩ := cE BK101
  have hnb76 := NB102_103.out
  have hnc76 := NB103_102.out
  obtain ⟨⟨hcz77_0, hcz77_1, hcz77_2⟩, hfz77_0, hfz77_1, hfz77_2⟩ := cE BK102
  obtain ⟨Ao78, co78, eo78⟩ := Kd.V_slice HO120.out
  subst eo78
  obtain ⟨Ao79, co79, eo79⟩ := Kd.V_slice HO123.out
  subst eo79
  try go_wp2_with (first | ((with_reducible refine gc 32 rfl ?_); refine gL 46 Try.func32 #[.slice Ao78 t118.length co78, .slice Ao79 t121.length co79] ?_; (with_reducible refine (nat_Nat_Sub.calls k _ _ t118 _ _ t121 t137 true _ ?_ ?_ ?_ ?_ A49.out).mono ?_); exact cup ((Kd.V_reads' HO120.out).2.2); exact (Kd.V_reads' HO120.out).2.1; exact cup ((Kd.V_reads' HO123.out).2.2); exact (Kd.V_reads' HO123.out).2.1; rintro e w80 ⟨v138, rfl, ho0, hb⟩; refine ⟨_, rfl, ?_⟩; replace HO126 := vA HO126 hb; have HO139 := lw HB (fun k_ => ((P0_1_ k_ ∨ P0_2_ k_ ∨ P1_1_ k_ ∨ P1_2_ k_) ∨ w.heap.size ≤ k_) ∧ k_ ≠ gb101 ∧ k_ ≠ gb102 ∧ k_ ≠ gb103) ho0 (fun k_ hk_ => ⟨(.inr (Nat.le_trans (below_size hB) hk_)), (kF BK101 hk_), (kF BK102 hk_), (kF BK103 hk_)⟩); replace BK101 := kA BK101 hb; replace BK102 := kA BK102 hb; replace BK103 := kA BK103 hb; replace HB := bS HB hb; clear HO120 HO123; clear hb ho0; obtain ⟨⟨hcz81_0, hcz81_1, hcz81_2⟩, hfz81_0, hfz81_1, hfz81_2⟩ := cE BK101; obtain ⟨Ao82, co82, eo82⟩ := Kd.V_slice HO139.out; subst eo82; obtain ⟨Ao83, co83, eo83⟩ := Kd.V_slice HO126.out; subst eo83) | ((with_reducible refine gc 126 rfl ?_); refine gL 54 Try.func126 #[.bool t104, .slice Ao82 t137.length co82, .slice Ao83 t124.length co83] ?_; (with_reducible refine (ratio_low.calls k t104 (fun k_ => (((P0_1_ k_ ∨ P0_2_ k_ ∨ P1_1_ k_ ∨ P1_2_ k_) ∨ w.heap.size ≤ k_) ∧ (k_ ≠ gb101 ∧ (k_ ≠ gb102 ∧ k_ ≠ gb103)))) _ _ t137 (fun k_ => (((P0_1_ k_ ∨ P0_2_ k_ ∨ P1_1_ k_ ∨ P1_2_ k_) ∨ w.heap.size ≤ k_) ∧ (k_ ≠ gb101 ∧ (k_ ≠ gb102 ∧ k_ ≠ gb103)))) _ _ t124 t141 t142 t145 _ ?_ ?_ A51.out).mono ?_); exact HO139.out; exact HO126.out; rintro e w84 ⟨v143, v146, rfl, ho0, ho1, hb⟩; refine ⟨_, rfl, ?_⟩; have HO144 := lw HB (fun k_ => ((P0_1_ k_ ∨ P0_2_ k_ ∨ P1_1_ k_ ∨ P1_2_ k_) ∨ w.heap.size ≤ k_) ∧ k_ ≠ gb101 ∧ k_ ≠ gb102 ∧ k_ ≠ gb103) ho0 (fun k_ hk_ => Or.elim hk_ (fun hs_ => Or.elim hs_ id id) (fun hn_ => ⟨.inr (Nat.le_trans (below_size hB) hn_), kF BK101 hn_, kF BK102 hn_, kF BK103 hn_⟩)); have HO147 := lw HB (fun k_ => ((P0_1_ k_ ∨ P0_2_ k_ ∨ P1_1_ k_ ∨ P1_2_ k_) ∨ w.heap.size ≤ k_) ∧ k_ ≠ gb101 ∧ k_ ≠ gb102 ∧ k_ ≠ gb103) ho1 (fun k_ hk_ => Or.elim hk_ (fun hs_ => Or.elim hs_ id id) (fun hn_ => ⟨.inr (Nat.le_trans (below_size hB) hn_), kF BK101 hn_, kF BK102 hn_, kF BK103 hn_⟩)); replace BK103 := kA BK103 hb; replace HB := bS HB hb; clear HO126 HO139 BK101 BK102; clear hb ho0 ho1; obtain ⟨⟨hcz85_0, hcz85_1, hcz85_2⟩, hfz85_0, hfz85_1, hfz85_2⟩ := cE BK103; obtain ⟨Ao86, co86, eo86⟩ := Kd.V_slice HO144.out; subst eo86; obtain ⟨Ao87, co87, eo87⟩ := Kd.V_slice HO147.out; subst eo87))
  refine bodyPost_ret (results_cell_row rfl _ _ gb103 69 #[.bool t141, .slice Ao86 t142.length co86, .slice Ao87 t145.length co87] (0, 0) _ rfl (by exact kU (p3 BK103)) Try.underlying69 rfl (by kernel_rfl)) rfl ?_
  exact ⟨_, _, er, vG (v3p HO144 (fun _ hk => hk.2.2.2)) (fun _ hk => hk.1.1), vG (v3p HO147 (fun _ hk => hk.2.2.2)) (fun _ hk => hk.1.1), hB⟩
 ·replace c50 := Bool.eq_false_iff.mpr c50
  subst c50
  have H1 : ((nat_Nat_Sub.f k t121 t118).bind fun bt148 => ((ratio_low.f k t111 bt148.1 t124).bind fun bt152 => (some (bt152.1, bt152.2.1, bt152.2.2)))) = some (r1, r2, r3) := by rw [if_neg (show ¬ (false = true) by decide)] at H; exact H
  clear H
  have H := H1
  clear H1
  replace H := bi H
  obtain ⟨⟨t148, t151⟩, A88, H⟩ := H
  try dsimp only at H
  replace H := bi H
  obtain ⟨⟨t152, t153, t156⟩, A89, H⟩ := H
  try dsimp only at H
  simp only [Option.some.injEq, Prod.mk.injEq] at H
  obtain ⟨rfl, rfl, rfl⟩ := H
  go_enter Try.func86, Try.ntmps86
  try go_wp2_with (first | ((with_reducible refine gd 2 rfl ?_); refine bx 2 #[.bool a0_0, .slice A0_1 l0_1.length c0_1, .slice A0_2 l0_2.length c0_2] ?_; intro gb101 hg w90 hbox hb; replace HO0_1 := vE HO0_1 hg hb; replace HO0_2 := vE HO0_2 hg hb; replace HO1_1 := vE HO1_1 hg hb; replace HO1_2 := vE HO1_2 hg hb; have BK101 := Aside0.mk hbox; have GE101 := gB hg HB; replace HB := bA HB hb; clear hb hbox hg) | ((with_reducible refine gd 3 rfl ?_); refine bx 3 #[.bool a1_0, .slice A1_1 l1_1.length c1_1, .slice A1_2 l1_2.length c1_2] ?_; intro gb102 hg w91 hbox hb; replace HO0_1 := vE HO0_1 hg hb; replace HO0_2 := vE HO0_2 hg hb; replace HO1_1 := vE HO1_1 hg hb; replace HO1_2 := vE HO1_2 hg hb; have BK102 := Aside0.mk hbox; have GE102 := gS' hg HB; replace HB := bS HB hb; have NB101_102 := nL hg BK101; have NB102_101 := nR hg BK101; replace BK101 := kA BK101 hb; clear hb hbox hg) | ((with_reducible refine gd 4 rfl ?_); refine bx 4 #[.bool false, .slice none 0 0, .slice none 0 0] ?_; intro gb103 hg w92 hbox hb; replace HO0_1 := vE HO0_1 hg hb; replace HO0_2 := vE HO0_2 hg hb; replace HO1_1 := vE HO1_1 hg hb; replace HO1_2 := vE HO1_2 hg hb; have BK103 := Aside0.mk hbox; have GE103 := gS' hg HB; replace HB := bS HB hb; have NB101_103 := nL hg BK101; have NB103_101 := nR hg BK101; replace BK101 := kA BK101 hb; have NB102_103 := nL hg BK102; have NB103_102 := nR hg BK102; replace BK102 := kA BK102 hb; clear hb hbox hg))
  replace HO0_1 := Aside0.mk (Kd.V_drew HO0_1.out)
  replace HO0_2 := Aside0.mk (Kd.V_drew HO0_2.out)
  replace HO1_1 := Aside0.mk (Kd.V_drew HO1_1.out)
  replace HO1_2 := Aside0.mk (Kd.V_drew HO1_2.out)
  replace BK101 := kd BK101
  replace BK102 := kd BK102
  replace BK103 := kd BK103
  replace HB := bd HB
  refine st (S := fun w' => B3 w' gb101 (.bool a0_0) (.slice A0_1 l0_1.length c0_1) (.slice A0_2 l0_2.length c0_2) ∧ B3 w' gb102 (.bool a1_0) (.slice A1_1 l1_1.length c1_1) (.slice A1_2 l1_2.length c1_2)) 6 [4, 5] (tf 0 6) ⟨b3 BK101, b3 BK102⟩ (fun hHeld => ?_)
  generalize w92.drew = w93 at HO0_1 HO0_2 HO1_1 HO1_2 BK101 BK102 BK103 HB hHeld ⊢
  refine tk 0 12 (tf 1 5) hHeld ?_
  refine tk 2 14 #[true, false, true, false, false, false] hHeld ?_
  refine on 1 (some 13) (tf 3 3) (fun K hK => ?_)
  refine gS Try.func119 #[.agg #[.bool a0_0, .slice A0_1 l0_1.length c0_1, .slice A0_2 l0_2.length c0_2]] ?_
  with_reducible refine (ratio_R_low.calls k a0_0 (fun k_ => (((((P0_1_ k_ ∨ P0_2_ k_ ∨ P1_1_ k_ ∨ P1_2_ k_) ∨ w.heap.size ≤ k_) ∧ k_ ≠ gb101) ∧ k_ ≠ gb102) ∧ k_ ≠ gb103)) _ _ l0_1 (fun k_ => (((((P0_1_ k_ ∨ P0_2_ k_ ∨ P1_1_ k_ ∨ P1_2_ k_) ∨ w.heap.size ≤ k_) ∧ k_ ≠ gb101) ∧ k_ ≠ gb102) ∧ k_ ≠ gb103)) _ _ l0_2 t104 t105 t108 _ ?_ ?_ A3.out).mono ?_
  exact HO0_1.out
  exact HO0_2.out
  rintro e w94 ⟨v106, v109, rfl, ho0, ho1, hb⟩
  refine ⟨_, rfl, ?_⟩
  replace HO1_1 := vA HO1_1 hb
  replace HO1_2 := vA HO1_2 hb
  have HO107 := lw HB (fun k_ => ((P0_1_ k_ ∨ P0_2_ k_ ∨ P1_1_ k_ ∨ P1_2_ k_) ∨ w.heap.size ≤ k_) ∧ k_ ≠ gb101 ∧ k_ ≠ gb102 ∧ k_ ≠ gb103) ho0 (fun k_ hk_ => Or.elim hk_ (fun hs_ => Or.elim hs_ (fun hs_ => ⟨hs_.1.1.1, hs_.1.1.2, hs_.1.2, hs_.2⟩) (fun hs_ => ⟨hs_.1.1.1, hs_.1.1.2, hs_.1.2, hs_.2⟩)) (fun hn_ => ⟨.inr (Nat.le_trans (below_size hB) hn_), kF BK101 hn_, kF BK102 hn_, kF BK103 hn_⟩))
  have HO110 := lw HB (fun k_ => ((P0_1_ k_ ∨ P0_2_ k_ ∨ P1_1_ k_ ∨ P1_2_ k_) ∨ w.heap.size ≤ k_) ∧ k_ ≠ gb101 ∧ k_ ≠ gb102 ∧ k_ ≠ gb103) ho1 (fun k_ hk_ => Or.elim hk_ (fun hs_ => Or.elim hs_ (fun hs_ => ⟨hs_.1.1.1, hs_.1.1.2, hs_.1.2, hs_.2⟩) (fun hs_ => ⟨hs_.1.1.1, hs_.1.1.2, hs_.1.2, hs_.2⟩)) (fun hn_ => ⟨.inr (Nat.le_trans (below_size hB) hn_), kF BK101 hn_, kF BK102 hn_, kF BK103 hn_⟩))
  replace BK101 := kA BK101 hb
  replace BK102 := kA BK102 hb
  replace BK103 := kA BK103 hb
  replace HB := bS HB hb
  clear HO0_1 HO0_2
  clear hb ho0 ho1
  refine hK.out _ _ ⟨b3 BK101, b3 BK102⟩ (fun hHeld => nm ?_)
  clear hK K
  refine on 3 (some 15) (tf 4 2) (fun K hK => ?_)
  refine gS Try.func119 #[.agg #[.bool a1_0, .slice A1_1 l1_1.length c1_1, .slice A1_2 l1_2.length c1_2]] ?_
  with_reducible refine (ratio_R_low.calls k a1_0 (fun k_ => (((((P0_1_ k_ ∨ P0_2_ k_ ∨ P1_1_ k_ ∨ P1_2_ k_) ∨ w.heap.size ≤ k_) ∧ k_ ≠ gb101) ∧ k_ ≠ gb102) ∧ k_ ≠ gb103)) _ _ l1_1 (fun k_ => (((((P0_1_ k_ ∨ P0_2_ k_ ∨ P1_1_ k_ ∨ P1_2_ k_) ∨ w.heap.size ≤ k_) ∧ k_ ≠ gb101) ∧ k_ ≠ gb102) ∧ k_ ≠ gb103)) _ _ l1_2 t111 t112 t115 _ ?_ ?_ A4.out).mono ?_
  exact HO1_1.out
  exact HO1_2.out
  rintro e w95 ⟨v113, v116, rfl, ho0, ho1, hb⟩
  refine ⟨_, rfl, ?_⟩
  replace HO107 := vA HO107 hb
  replace HO110 := vA HO110 hb
  have HO114 := lw HB (fun k_ => ((P0_1_ k_ ∨ P0_2_ k_ ∨ P1_1_ k_ ∨ P1_2_ k_) ∨ w.heap.size ≤ k_) ∧ k_ ≠ gb101 ∧ k_ ≠ gb102 ∧ k_ ≠ gb103) ho0 (fun k_ hk_ => Or.elim hk_ (fun hs_ => Or.elim hs_ (fun hs_ => ⟨hs_.1.1.1, hs_.1.1.2, hs_.1.2, hs_.2⟩) (fun hs_ => ⟨hs_.1.1.1, hs_.1.1.2, hs_.1.2, hs_.2⟩)) (fun hn_ => ⟨.inr (Nat.le_trans (below_size hB) hn_), kF BK101 hn_, kF BK102 hn_, kF BK103 hn_⟩))
  have HO117 := lw HB (fun k_ => ((P0_1_ k_ ∨ P0_2_ k_ ∨ P1_1_ k_ ∨ P1_2_ k_) ∨ w.heap.size ≤ k_) ∧ k_ ≠ gb101 ∧ k_ ≠ gb102 ∧ k_ ≠ gb103) ho1 (fun k_ hk_ => Or.elim hk_ (fun hs_ => Or.elim hs_ (fun hs_ => ⟨hs_.1.1.1, hs_.1.1.2, hs_.1.2, hs_.2⟩) (fun hs_ => ⟨hs_.1.1.1, hs_.1.1.2, hs_.1.2, hs_.2⟩)) (fun hn_ => ⟨.inr (Nat.le_trans (below_size hB) hn_), kF BK101 hn_, kF BK102 hn_, kF BK103 hn_⟩))
  replace BK101 := kA BK101 hb
  replace BK102 := kA BK102 hb
  replace BK103 := kA BK103 hb
  replace HB := bS HB hb
  clear HO1_1 HO1_2
  clear hb ho0 ho1
  obtain ⟨Ao97, co97, eo97⟩ := Kd.V_slice HO107.out
  (first | subst eo97 | (injection eo97 with f1_ f2_ f3_; have f4_ := f1_.symm; have f5_ := f3_.symm; clear f1_ f2_ f3_; subst f4_; subst f5_))
  obtain ⟨Ao99, co99, eo99⟩ := Kd.V_slice HO110.out
  (first | subst eo99 | (injection eo99 with f1_ f2_ f3_; have f4_ := f1_.symm; have f5_ := f3_.symm; clear f1_ f2_ f3_; subst f4_; subst f5_))
  obtain ⟨Ao102, co102, eo102⟩ := Kd.V_slice HO114.out
  (first | subst eo102 | (injection eo102 with f1_ f2_ f3_; have f4_ := f1_.symm; have f5_ := f3_.symm; clear f1_ f2_ f3_; subst f4_; subst f5_))
  obtain ⟨Ao104, co104, eo104⟩ := Kd.V_slice HO117.out
  (first | subst eo104 | (injection eo104 with f1_ f2_ f3_; have f4_ := f1_.symm; have f5_ := f3_.symm; clear f1_ f2_ f3_; subst f4_; subst f5_))
  refine hK.out _ _ ⟨b3 BK101, b3 BK102⟩ (fun hHeld => nm ?_)
  clear hK K
  refine la 4 none (tf 5 1) (fun K hK => ?_)
  obtain ⟨hs96, hfs96⟩ := e0 BK101
  have hns96_1 := NB102_101.out
  have hns96_2 := NB103_101.out
  have hms96_1 := NB101_102.out
  have hms96_2 := NB101_103.out
  obtain ⟨hs98, hfs98⟩ := e1 BK101
  have hns98_1 := NB102_101.out
  have hns98_2 := NB103_101.out
  have hms98_1 := NB101_102.out
  have hms98_2 := NB101_103.out
  obtain ⟨hs100, hfs100⟩ := e2 BK101
  have hns100_1 := NB102_101.out
  have hns100_2 := NB103_101.out
  have hms100_1 := NB101_102.out
  have hms100_2 := NB101_103.out
  refine sk (hK.out _ _ ?_)
  clear hK K
  refine la 5 none (tf 6 0) (fun K hK => ?_)
  obtain ⟨hs101, hfs101⟩ := e0 BK102
  have hns101_0 := NB101_102.out
  have hns101_2 := NB103_102.out
  have hms101_0 := NB102_101.out
  have hms101_2 := NB102_103.out
  obtain ⟨hs103, hfs103⟩ := e1 BK102
  have hns103_0 := NB101_102.out
  have hns103_2 := NB103_102.out
  have hms103_0 := NB102_101.out
  have hms103_2 := NB102_103.out
  obtain ⟨hs105, hfs105⟩ := e2 BK102
  have hns105_0 := NB101_102.out
  have hns105_2 := NB103_102.out
  have hms105_0 := NB102_101.out
  have hms105_2 := NB102_103.out
  refine sk (hK.out _ _ ?_)
  clear hK K
  refine done_ (by kernel_rfl) ?_
  try go_wp2
  generalize hw : ((((((w95.setCell ⟨gb101, 0, none⟩ (.bool t104)).setCell ⟨gb101, 1, none⟩ (.slice Ao97 t105.length co97)).setCell ⟨gb101, 2, none⟩ (.slice Ao99 t108.length co99)).setCell ⟨gb102, 0, none⟩ (.bool t111)).setCell ⟨gb102, 1, none⟩ (.slice Ao102 t112.length co102)).setCell ⟨gb102, 2, none⟩ (.slice Ao104 t115.length co104)) = w106
  replace hw := hw.symm
  replace HO107 := vW hw (fun k_ => ((P0_1_ k_ ∨ P0_2_ k_ ∨ P1_1_ k_ ∨ P1_2_ k_) ∨ w.heap.size ≤ k_) ∧ k_ ≠ gb101 ∧ k_ ≠ gb102 ∧ k_ ≠ gb103) (v3p (v3p HO107 (fun _ hk => hk.2.1)) (fun _ hk => hk.1.2.2.1)) (fun _ hk => ⟨hk.1.1.1, ⟨hk.1.1.2.1, ⟨hk.1.1.2.2.1, hk.1.1.2.2.2⟩⟩⟩)
  replace HO110 := vW hw (fun k_ => ((P0_1_ k_ ∨ P0_2_ k_ ∨ P1_1_ k_ ∨ P1_2_ k_) ∨ w.heap.size ≤ k_) ∧ k_ ≠ gb101 ∧ k_ ≠ gb102 ∧ k_ ≠ gb103) (v3p (v3p HO110 (fun _ hk => hk.2.1)) (fun _ hk => hk.1.2.2.1)) (fun _ hk => ⟨hk.1.1.1, ⟨hk.1.1.2.1, ⟨hk.1.1.2.2.1, hk.1.1.2.2.2⟩⟩⟩)
  replace HO114 := vW hw (fun k_ => ((P0_1_ k_ ∨ P0_2_ k_ ∨ P1_1_ k_ ∨ P1_2_ k_) ∨ w.heap.size ≤ k_) ∧ k_ ≠ gb101 ∧ k_ ≠ gb102 ∧ k_ ≠ gb103) (v3p (v3p HO114 (fun _ hk => hk.2.1)) (fun _ hk => hk.1.2.2.1)) (fun _ hk => ⟨hk.1.1.1, ⟨hk.1.1.2.1, ⟨hk.1.1.2.2.1, hk.1.1.2.2.2⟩⟩⟩)
  replace HO117 := vW hw (fun k_ => ((P0_1_ k_ ∨ P0_2_ k_ ∨ P1_1_ k_ ∨ P1_2_ k_) ∨ w.heap.size ≤ k_) ∧ k_ ≠ gb101 ∧ k_ ≠ gb102 ∧ k_ ≠ gb103) (v3p (v3p HO117 (fun _ hk => hk.2.1)) (fun _ hk => hk.1.2.2.1)) (fun _ hk => ⟨hk.1.1.1, ⟨hk.1.1.2.1, ⟨hk.1.1.2.2.1, hk.1.1.2.2.2⟩⟩⟩)
  replace BK101 := kW hw (q3 (p3 BK101) NB101_102)
  replace BK102 := kW hw (p3 (q3 BK102 NB102_101))
  replace BK103 := kW hw (q3 (q3 BK103 NB103_101) NB103_102)
  replace HB := bW HB hw
  clear hw
  replace HO107 := vd HO107
  replace HO110 := vd HO110
  replace HO114 := vd HO114
  replace HO117 := vd HO117
  replace BK101 := kd BK101
  replace BK102 := kd BK102
  replace BK103 := kd BK103
  replace HB := bd HB
  refine st (S := fun w' => B3 w' gb101 (.bool t104) (.slice Ao97 t105.length co97) (.slice Ao99 t108.length co99) ∧ B3 w' gb102 (.bool t111) (.slice Ao102 t112.length co102) (.slice Ao104 t115.length co104)) 18 [] (tf 0 18) ⟨b3 BK101, b3 BK102⟩ (fun hHeld => ?_); refine with_tabW ratio_R_Add.tab2 ratio_R_Add.bits2 (fun HT_ HW_ => ?_)
  generalize w106.drew = w107 at HO107 HO110 HO114 HO117 BK101 BK102 BK103 HB hHeld ⊢
  refine pu 0 16 (tf 1 17) ?_
  refine pu 2 18 #[true, false, true, false, false, false, false, false, false, false, false, false, false, false, false, false, false, false] ?_
  refine pu 5 21 #[true, false, true, false, false, true, false, false, false, false, false, false, false, false, false, false, false, false] ?_
  refine pu 7 23 #[true, false, true, false, false, true, false, true, false, false, false, false, false, false, false, false, false, false] ?_
  refine pu 10 26 #[true, false, true, false, false, true, false, true, false, false, true, false, false, false, false, false, false, false] ?_
  refine pu 12 28 #[true, false, true, false, false, true, false, true, false, false, true, false, true, false, false, false, false, false] ?_
  refine tk 1 17 #[true, true, true, false, false, true, false, true, false, false, true, false, true, false, false, false, false, false] hHeld ?_
  refine tk 3 19 #[true, true, true, true, false, true, false, true, false, false, true, false, true, false, false, false, false, false] hHeld ?_
  refine tk 6 22 #[true, true, true, true, false, true, true, true, false, false, true, false, true, false, false, false, false, false] hHeld ?_
  refine tk 8 24 #[true, true, true, true, false, true, true, true, true, false, true, false, true, false, false, false, false, false] hHeld ?_
  refine tk 11 27 #[true, true, true, true, false, true, true, true, true, false, true, true, true, false, false, false, false, false] hHeld ?_
  refine tk 13 29 #[true, true, true, true, false, true, true, true, true, false, true, true, true, true, false, false, false, false] hHeld ?_
  refine on 4 (some 20) #[true, true, true, true, true, true, true, true, true, false, true, true, true, true, false, false, false, false] (fun K hK => ?_)
  refine gS Try.func30 #[.slice Ao97 t105.length co97, .slice Ao104 t115.length co104] ?_
  with_reducible refine (nat_Nat_Mul.calls k _ _ t105 _ _ t115 t118 _ ?_ ?_ ?_ ?_ A5.out).mono ?_
  exact cup ((Kd.V_reads' HO107.out).2.2)
  exact (Kd.V_reads' HO107.out).2.1
  exact cup ((Kd.V_reads' HO117.out).2.2)
  exact (Kd.V_reads' HO117.out).2.1
  rintro e w108 ⟨v119, rfl, ho0, hb⟩
  refine ⟨_, rfl, ?_⟩
  replace HO110 := vA HO110 hb
  replace HO114 := vA HO114 hb
  replace HO117 := vA HO117 hb
  have HO120 := lw HB (fun k_ => ((P0_1_ k_ ∨ P0_2_ k_ ∨ P1_1_ k_ ∨ P1_2_ k_) ∨ w.heap.size ≤ k_) ∧ k_ ≠ gb101 ∧ k_ ≠ gb102 ∧ k_ ≠ gb103) ho0 (fun k_ hk_ => ⟨(.inr (Nat.le_trans (below_size hB) hk_)), (kF BK101 hk_), (kF BK102 hk_), (kF BK103 hk_)⟩)
  replace BK101 := kA BK101 hb
  replace BK102 := kA BK102 hb
  replace BK103 := kA BK103 hb
  replace HB := bS HB hb
  clear HO107
  clear hb ho0
  refine hK.out _ _ ⟨b3 BK101, b3 BK102⟩ (fun hHeld => nm ?_)
  clear hK K
  refine on 9 (some 25) (tf 14 4) (fun K hK => ?_)
  refine gS Try.func30 #[.slice Ao102 t112.length co102, .slice Ao99 t108.length co99] ?_
  with_reducible refine (nat_Nat_Mul.calls k _ _ t112 _ _ t108 t121 _ ?_ ?_ ?_ ?_ A6.out).mono ?_
  exact cup ((Kd.V_reads' HO114.out).2.2)
  exact (Kd.V_reads' HO114.out).2.1
  exact cup ((Kd.V_reads' HO110.out).2.2)
  exact (Kd.V_reads' HO110.out).2.1
  rintro e w109 ⟨v122, rfl, ho0, hb⟩
  refine ⟨_, rfl, ?_⟩
  replace HO110 := vA HO110 hb
  replace HO117 := vA HO117 hb
  replace HO120 := vA HO120 hb
  have HO123 := lw HB (fun k_ => ((P0_1_ k_ ∨ P0_2_ k_ ∨ P1_1_ k_ ∨ P1_2_ k_) ∨ w.heap.size ≤ k_) ∧ k_ ≠ gb101 ∧ k_ ≠ gb102 ∧ k_ ≠ gb103) ho0 (fun k_ hk_ => ⟨(.inr (Nat.le_trans (below_size hB) hk_)), (kF BK101 hk_), (kF BK102 hk_), (kF BK103 hk_)⟩)
  replace BK101 := kA BK101 hb
  replace BK102 := kA BK102 hb
  replace BK103 := kA BK103 hb
  replace HB := bS HB hb
  clear HO114
  clear hb ho0
  refine hK.out _ _ ⟨b3 BK101, b3 BK102⟩ (fun hHeld => nm ?_)
  clear hK K
  refine on 14 (some 30) (tf 15 3) (fun K hK => ?_)
  refine gS Try.func30 #[.slice Ao99 t108.length co99, .slice Ao104 t115.length co104] ?_
  with_reducible refine (nat_Nat_Mul.calls k _ _ t108 _ _ t115 t124 _ ?_ ?_ ?_ ?_ A7.out).mono ?_
  exact cup ((Kd.V_reads' HO110.out).2.2)
  exact (Kd.V_reads' HO110.out).2.1
  exact cup ((Kd.V_reads' HO117.out).2.2)
  exact (Kd.V_reads' HO117.out).2.1
  rintro e w110 ⟨v125, rfl, ho0, hb⟩
  refine ⟨_, rfl, ?_⟩
  replace HO120 := vA HO120 hb
  replace HO123 := vA HO123 hb
  have HO126 := lw HB (fun k_ => ((P0_1_ k_ ∨ P0_2_ k_ ∨ P1_1_ k_ ∨ P1_2_ k_) ∨ w.heap.size ≤ k_) ∧ k_ ≠ gb101 ∧ k_ ≠ gb102 ∧ k_ ≠ gb103) ho0 (fun k_ hk_ => ⟨(.inr (Nat.le_trans (below_size hB) hk_)), (kF BK101 hk_), (kF BK102 hk_), (kF BK103 hk_)⟩)
  replace BK101 := kA BK101 hb
  replace BK102 := kA BK102 hb
  replace BK103 := kA BK103 hb
  replace HB := bS HB hb
  clear HO110 HO117
  clear hb ho0
  refine hK.out _ _ ⟨b3 BK101, b3 BK102⟩ (fun hHeld => nm ?_)
  clear hK K
  refine pu 15 5 (tf 16 2) ?_
  refine pu 16 6 (tf 17 1) ?_
  refine pu 17 7 (tf 18 0) ?_
  refine done_ (done_of HT_.out (by kernel_rfl)) ?_
  have hnb111 := NB101_102.out
  have hnc111 := NB102_101.out
  have hnb112 := NB101_103.out
  have hnc112 := NB103_101.out
  obtain ⟨⟨hcz113_0, hcz113_1, hcz113_2⟩, hfz113_0, hfz113_1, hfz113_2⟩ := cE BK101
  have hnb114 := NB102_103.out
  have hnc114 := NB103_102.out
  obtain ⟨⟨hcz115_0, hcz115_1, hcz115_2⟩, hfz115_0, hfz115_1, hfz115_2⟩ := cE BK102
  obtain ⟨Ao116, co116, eo116⟩ := Kd.V_slice HO120.out
  subst eo116
  obtain ⟨Ao117, co117, eo117⟩ := Kd.V_slice HO123.out
  subst eo117
  try go_wp2_with (first | ((with_reducible refine gc 32 rfl ?_); refine gL 46 Try.func32 #[.slice Ao116 t118.length co116, .slice Ao117 t121.length co117] ?_; (with_reducible refine (nat_Nat_Sub.calls k _ _ t118 _ _ t121 t137 false _ ?_ ?_ ?_ ?_ A49.out).mono ?_); exact cup ((Kd.V_reads' HO120.out).2.2); exact (Kd.V_reads' HO120.out).2.1; exact cup ((Kd.V_reads' HO123.out).2.2); exact (Kd.V_reads' HO123.out).2.1; rintro e w118 ⟨v138, rfl, ho0, hb⟩; refine ⟨_, rfl, ?_⟩; replace HO120 := vA HO120 hb; replace HO123 := vA HO123 hb; replace HO126 := vA HO126 hb; replace BK101 := kA BK101 hb; replace BK102 := kA BK102 hb; replace BK103 := kA BK103 hb; replace HB := bS HB hb; clear hb ho0) | ((with_reducible refine gc 32 rfl ?_); refine gL 58 Try.func32 #[.slice Ao117 t121.length co117, .slice Ao116 t118.length co116] ?_; (with_reducible refine (nat_Nat_Sub.calls k _ _ t121 _ _ t118 t148 t151 _ ?_ ?_ ?_ ?_ A88.out).mono ?_); exact cup ((Kd.V_reads' HO123.out).2.2); exact (Kd.V_reads' HO123.out).2.1; exact cup ((Kd.V_reads' HO120.out).2.2); exact (Kd.V_reads' HO120.out).2.1; rintro e w119 ⟨v149, rfl, ho0, hb⟩; refine ⟨_, rfl, ?_⟩; replace HO126 := vA HO126 hb; have HO150 := lw HB (fun k_ => ((P0_1_ k_ ∨ P0_2_ k_ ∨ P1_1_ k_ ∨ P1_2_ k_) ∨ w.heap.size ≤ k_) ∧ k_ ≠ gb101 ∧ k_ ≠ gb102 ∧ k_ ≠ gb103) ho0 (fun k_ hk_ => ⟨(.inr (Nat.le_trans (below_size hB) hk_)), (kF BK101 hk_), (kF BK102 hk_), (kF BK103 hk_)⟩); replace BK101 := kA BK101 hb; replace BK102 := kA BK102 hb; replace BK103 := kA BK103 hb; replace HB := bS HB hb; clear HO120 HO123; clear hb ho0; obtain ⟨⟨hcz120_0, hcz120_1, hcz120_2⟩, hfz120_0, hfz120_1, hfz120_2⟩ := cE BK102; obtain ⟨Ao121, co121, eo121⟩ := Kd.V_slice HO150.out; subst eo121; obtain ⟨Ao122, co122, eo122⟩ := Kd.V_slice HO126.out; subst eo122) | ((with_reducible refine gc 126 rfl ?_); refine gL 65 Try.func126 #[.bool t111, .slice Ao121 t148.length co121, .slice Ao122 t124.length co122] ?_; (with_reducible refine (ratio_low.calls k t111 (fun k_ => (((P0_1_ k_ ∨ P0_2_ k_ ∨ P1_1_ k_ ∨ P1_2_ k_) ∨ w.heap.size ≤ k_) ∧ (k_ ≠ gb101 ∧ (k_ ≠ gb102 ∧ k_ ≠ gb103)))) _ _ t148 (fun k_ => (((P0_1_ k_ ∨ P0_2_ k_ ∨ P1_1_ k_ ∨ P1_2_ k_) ∨ w.heap.size ≤ k_) ∧ (k_ ≠ gb101 ∧ (k_ ≠ gb102 ∧ k_ ≠ gb103)))) _ _ t124 t152 t153 t156 _ ?_ ?_ A89.out).mono ?_); exact HO150.out; exact HO126.out; rintro e w123 ⟨v154, v157, rfl, ho0, ho1, hb⟩; refine ⟨_, rfl, ?_⟩; have HO155 := lw HB (fun k_ => ((P0_1_ k_ ∨ P0_2_ k_ ∨ P1_1_ k_ ∨ P1_2_ k_) ∨ w.heap.size ≤ k_) ∧ k_ ≠ gb101 ∧ k_ ≠ gb102 ∧ k_ ≠ gb103) ho0 (fun k_ hk_ => Or.elim hk_ (fun hs_ => Or.elim hs_ id id) (fun hn_ => ⟨.inr (Nat.le_trans (below_size hB) hn_), kF BK101 hn_, kF BK102 hn_, kF BK103 hn_⟩)); have HO158 := lw HB (fun k_ => ((P0_1_ k_ ∨ P0_2_ k_ ∨ P1_1_ k_ ∨ P1_2_ k_) ∨ w.heap.size ≤ k_) ∧ k_ ≠ gb101 ∧ k_ ≠ gb102 ∧ k_ ≠ gb103) ho1 (fun k_ hk_ => Or.elim hk_ (fun hs_ => Or.elim hs_ id id) (fun hn_ => ⟨.inr (Nat.le_trans (below_size hB) hn_), kF BK101 hn_, kF BK102 hn_, kF BK103 hn_⟩)); replace BK103 := kA BK103 hb; replace HB := bS HB hb; clear HO126 HO150 BK101 BK102; clear hb ho0 ho1; obtain ⟨⟨hcz124_0, hcz124_1, hcz124_2⟩, hfz124_0, hfz124_1, hfz124_2⟩ := cE BK103; obtain ⟨Ao125, co125, eo125⟩ := Kd.V_slice HO155.out; subst eo125; obtain ⟨Ao126, co126, eo126⟩ := Kd.V_slice HO158.out; subst eo126))
  refine bodyPost_ret (results_cell_row rfl _ _ gb103 69 #[.bool t152, .slice Ao125 t153.length co125, .slice Ao126 t156.length co126] (0, 0) _ rfl (by exact kU (p3 BK103)) Try.underlying69 rfl (by kernel_rfl)) rfl ?_
  exact ⟨_, _, er, vG (v3p HO155 (fun _ hk => hk.2.2.2)) (fun _ hk => hk.1.1), vG (v3p HO158 (fun _ hk => hk.2.2.2)) (fun _ hk => hk.1.1), hB⟩
def ratio_R_Neg1.f (k : Nat) (a0_0 : Bool) (l0_1 : List Int) (l0_2 : List Int) : Option (Bool × List Int × List Int) := (ratio_low.f k (!a0_0) l0_1 l0_2).bind fun bt103 => (some (bt103.1, bt103.2.1, bt103.2.2))
theorem ratio_R_Neg1.mono : ∀ a0 a1 a2 k, LeO (ratio_R_Neg1.f k a0 a1 a2) (ratio_R_Neg1.f (k + 1) a0 a1 a2) := by
 intro a0 a1 a2 k
 unfold ratio_R_Neg1.f
 repeat' with_reducible first | exact ratio_low.mono _ _ _ _ | exact LeO.refl _ | exact LeO.none _ | refine LeO.ite ?_ ?_ | refine LeO.bind ?_ (fun _ => ?_)
set_option maxHeartbeats 8000000 in
set_option maxRecDepth 100000 in
theorem ratio_R_Neg1.calls (k : Nat) (a0_0 : Bool) (P0_1_ : Nat → Prop) (A0_1 : Option Addr) (c0_1 : Nat) (l0_1 : List Int) (P0_2_ : Nat → Prop) (A0_2 : Option Addr) (c0_2 : Nat) (l0_2 : List Int) (r1 : Bool) (r2 : List Int) (r3 : List Int) (w : World) (hs0_1 : Kd.V (Kd.int .u32) 118 w w.heap.size (fun k_ => P0_1_ k_) (.slice A0_1 l0_1.length c0_1) l0_1) (hs0_2 : Kd.V (Kd.int .u32) 118 w w.heap.size (fun k_ => P0_2_ k_) (.slice A0_2 l0_2.length c0_2) l0_2) (H : ratio_R_Neg1.f k a0_0 l0_1 l0_2 = some (r1, r2, r3)) :
  Calls Try.prog 95 #[.agg #[.bool a0_0, .slice A0_1 l0_1.length c0_1, .slice A0_2 l0_2.length c0_2]] w fun e w' => ∃ v1_ v2_ : Value, e = .returned (.agg #[.bool r1, v1_, v2_]) ∧ Kd.V (Kd.int .u32) 118 w' w.heap.size (fun k_ => ((P0_1_ k_ ∨ P0_2_ k_) ∨ w.heap.size ≤ k_)) v1_ r2 ∧ Kd.V (Kd.int .u32) 118 w' w.heap.size (fun k_ => ((P0_1_ k_ ∨ P0_2_ k_) ∨ w.heap.size ≤ k_)) v2_ r3 ∧ Below w.heap.size w w' := by
 have hu69 := Try.underlying69
 have HO0_1 := Aside0.mk (show Kd.V (Kd.int .u32) 118 w w.heap.size (fun k_ => ((P0_1_ k_ ∨ P0_2_ k_) ∨ w.heap.size ≤ k_)) (.slice A0_1 l0_1.length c0_1) l0_1 from Kd.V_mono hs0_1 (fun k_ hk => .inl (.inl hk)))
 have HO0_2 := Aside0.mk (show Kd.V (Kd.int .u32) 118 w w.heap.size (fun k_ => ((P0_1_ k_ ∨ P0_2_ k_) ∨ w.heap.size ≤ k_)) (.slice A0_2 l0_2.length c0_2) l0_2 from Kd.V_mono hs0_2 (fun k_ hk => .inl (.inr hk)))
 have HB := Aside0.mk (Below.refl w.heap.size w)
 unfold ratio_R_Neg1.f at H
 replace H := bi H
 obtain ⟨⟨t103, t104, t107⟩, A2, H⟩ := H
 try dsimp only at H
 simp only [Option.some.injEq, Prod.mk.injEq] at H
 obtain ⟨rfl, rfl, rfl⟩ := H
 go_enter Try.func95, Try.ntmps95
 go_wp2_with (first | ((with_reducible refine gd 1 rfl ?_); refine bx 1 #[.bool a0_0, .slice A0_1 l0_1.length c0_1, .slice A0_2 l0_2.length c0_2] ?_; intro gb101 hg w3 hbox hb; replace HO0_1 := vE HO0_1 hg hb; replace HO0_2 := vE HO0_2 hg hb; have BK101 := Aside0.mk hbox; have GW101 := gB hg HB; have GE101 := gB hg HB; replace HB := bA HB hb; clear hb hbox hg) | ((with_reducible refine gd 2 rfl ?_); refine bx 2 #[.bool false, .slice none 0 0, .slice none 0 0] ?_; intro gb102 hg w4 hbox hb; replace HO0_1 := vE HO0_1 hg hb; replace HO0_2 := vE HO0_2 hg hb; have BK102 := Aside0.mk hbox; have GW102 := gS' hg HB; have GE102 := gS' hg HB; replace HB := bS HB hb; have NB101_102 := nL hg BK101; have NB102_101 := nR hg BK101; replace BK101 := kA BK101 hb; clear hb hbox hg; have hnb5 := NB101_102.out; have hnc5 := NB102_101.out; obtain ⟨⟨hcz6_0, hcz6_1, hcz6_2⟩, hfz6_0, hfz6_1, hfz6_2⟩ := cE BK101) | ((with_reducible refine gc 126 rfl ?_); refine gL 10 Try.func126 #[.bool (!a0_0), .slice A0_1 l0_1.length c0_1, .slice A0_2 l0_2.length c0_2] ?_; (with_reducible refine (ratio_low.calls k (!a0_0) (fun k_ => ((((P0_1_ k_ ∨ P0_2_ k_) ∨ w.heap.size ≤ k_) ∧ k_ ≠ gb101) ∧ k_ ≠ gb102)) _ _ l0_1 (fun k_ => ((((P0_1_ k_ ∨ P0_2_ k_) ∨ w.heap.size ≤ k_) ∧ k_ ≠ gb101) ∧ k_ ≠ gb102)) _ _ l0_2 t103 t104 t107 _ ?_ ?_ A2.out).mono ?_); exact HO0_1.out; exact HO0_2.out; rintro e w7 ⟨v105, v108, rfl, ho0, ho1, hb⟩; refine ⟨_, rfl, ?_⟩; replace HO0_1 := vA HO0_1 hb; replace HO0_2 := vA HO0_2 hb; have HO106 := lw HB (fun k_ => ((P0_1_ k_ ∨ P0_2_ k_) ∨ w.heap.size ≤ k_) ∧ k_ ≠ gb101 ∧ k_ ≠ gb102) ho0 (fun k_ hk_ => Or.elim hk_ (fun hs_ => Or.elim hs_ (fun hs_ => ⟨hs_.1.1, hs_.1.2, hs_.2⟩) (fun hs_ => ⟨hs_.1.1, hs_.1.2, hs_.2⟩)) (fun hn_ => ⟨.inr (Nat.le_trans (below_size hB) hn_), kF BK101 hn_, kF BK102 hn_⟩)); have HO109 := lw HB (fun k_ => ((P0_1_ k_ ∨ P0_2_ k_) ∨ w.heap.size ≤ k_) ∧ k_ ≠ gb101 ∧ k_ ≠ gb102) ho1 (fun k_ hk_ => Or.elim hk_ (fun hs_ => Or.elim hs_ (fun hs_ => ⟨hs_.1.1, hs_.1.2, hs_.2⟩) (fun hs_ => ⟨hs_.1.1, hs_.1.2, hs_.2⟩)) (fun hn_ => ⟨.inr (Nat.le_trans (below_size hB) hn_), kF BK101 hn_, kF BK102 hn_⟩)); replace BK101 := kA BK101 hb; replace BK102 := kA BK102 hb; replace HB := bS HB hb; clear hb ho0 ho1; obtain ⟨⟨hcz8_0, hcz8_1, hcz8_2⟩, hfz8_0, hfz8_1, hfz8_2⟩ := cE BK102; obtain ⟨Ao9, co9, eo9⟩ := Kd.V_slice HO106.out; subst eo9; obtain ⟨Ao10, co10, eo10⟩ := Kd.V_slice HO109.out; subst eo10))
 refine bodyPost_ret (results_cell_row rfl _ _ gb102 69 #[.bool t103, .slice Ao9 t104.length co9, .slice Ao10 t107.length co10] (0, 0) _ rfl (by exact kU (p3 BK102)) Try.underlying69 rfl (by kernel_rfl)) rfl ?_
 exact ⟨_, _, er, vG (v3p HO106 (fun _ hk => hk.2.2)) (fun _ hk => hk.1.1), vG (v3p HO109 (fun _ hk => hk.2.2)) (fun _ hk => hk.1.1), hB⟩
def ratio_R_Sub.f (k : Nat) (a0_0 : Bool) (l0_1 : List Int) (l0_2 : List Int) (a1_0 : Bool) (l1_1 : List Int) (l1_2 : List Int) : Option (Bool × List Int × List Int) := (ratio_R_Neg1.f k a1_0 l1_1 l1_2).bind fun bt104 => ((ratio_R_Add.f k a0_0 l0_1 l0_2 bt104.1 bt104.2.1 bt104.2.2).bind fun bt111 => (some (bt111.1, bt111.2.1, bt111.2.2)))
theorem ratio_R_Sub.mono : ∀ a0 a1 a2 a3 a4 a5 k, LeO (ratio_R_Sub.f k a0 a1 a2 a3 a4 a5) (ratio_R_Sub.f (k + 1) a0 a1 a2 a3 a4 a5) := by
 intro a0 a1 a2 a3 a4 a5 k
 unfold ratio_R_Sub.f
 repeat' with_reducible first | exact ratio_R_Add.mono _ _ _ _ _ _ _ | exact ratio_R_Neg1.mono _ _ _ _ | exact LeO.refl _ | exact LeO.none _ | refine LeO.ite ?_ ?_ | refine LeO.bind ?_ (fun _ => ?_)
set_option maxHeartbeats 8000000 in
set_option maxRecDepth 100000 in
theorem ratio_R_Sub.calls (k : Nat) (a0_0 : Bool) (P0_1_ : Nat → Prop) (A0_1 : Option Addr) (c0_1 : Nat) (l0_1 : List Int) (P0_2_ : Nat → Prop) (A0_2 : Option Addr) (c0_2 : Nat) (l0_2 : List Int) (a1_0 : Bool) (P1_1_ : Nat → Prop) (A1_1 : Option Addr) (c1_1 : Nat) (l1_1 : List Int) (P1_2_ : Nat → Prop) (A1_2 : Option Addr) (c1_2 : Nat) (l1_2 : List Int) (r1 : Bool) (r2 : List Int) (r3 : List Int) (w : World) (hs0_1 : Kd.V (Kd.int .u32) 118 w w.heap.size (fun k_ => P0_1_ k_) (.slice A0_1 l0_1.length c0_1) l0_1) (hs0_2 : Kd.V (Kd.int .u32) 118 w w.heap.size (fun k_ => P0_2_ k_) (.slice A0_2 l0_2.length c0_2) l0_2) (hs1_1 : Kd.V (Kd.int .u32) 118 w w.heap.size (fun k_ => P1_1_ k_) (.slice A1_1 l1_1.length c1_1) l1_1) (hs1_2 : Kd.V (Kd.int .u32) 118 w w.heap.size (fun k_ => P1_2_ k_) (.slice A1_2 l1_2.length c1_2) l1_2) (H : ratio_R_Sub.f k a0_0 l0_1 l0_2 a1_0 l1_1 l1_2 = some (r1, r2, r3)) :
  Calls Try.prog 88 #[.agg #[.bool a0_0, .slice A0_1 l0_1.length c0_1, .slice A0_2 l0_2.length c0_2], .agg #[.bool a1_0, .slice A1_1 l1_1.length c1_1, .slice A1_2 l1_2.length c1_2]] w fun e w' => ∃ v1_ v2_ : Value, e = .returned (.agg #[.bool r1, v1_, v2_]) ∧ Kd.V (Kd.int .u32) 118 w' w.heap.size (fun k_ => ((P0_1_ k_ ∨ P0_2_ k_ ∨ P1_1_ k_ ∨ P1_2_ k_) ∨ w.heap.size ≤ k_)) v1_ r2 ∧ Kd.V (Kd.int .u32) 118 w' w.heap.size (fun k_ => ((P0_1_ k_ ∨ P0_2_ k_ ∨ P1_1_ k_ ∨ P1_2_ k_) ∨ w.heap.size ≤ k_)) v2_ r3 ∧ Below w.heap.size w w' := by
 have hu69 := Try.underlying69
 have HO0_1 := Aside0.mk (show Kd.V (Kd.int .u32) 118 w w.heap.size (fun k_ => ((P0_1_ k_ ∨ P0_2_ k_ ∨ P1_1_ k_ ∨ P1_2_ k_) ∨ w.heap.size ≤ k_)) (.slice A0_1 l0_1.length c0_1) l0_1 from Kd.V_mono hs0_1 (fun k_ hk => .inl (.inl hk)))
 have HO0_2 := Aside0.mk (show Kd.V (Kd.int .u32) 118 w w.heap.size (fun k_ => ((P0_1_ k_ ∨ P0_2_ k_ ∨ P1_1_ k_ ∨ P1_2_ k_) ∨ w.heap.size ≤ k_)) (.slice A0_2 l0_2.length c0_2) l0_2 from Kd.V_mono hs0_2 (fun k_ hk => .inl (.inr (.inl hk))))
 have HO1_1 := Aside0.mk (show Kd.V (Kd.int .u32) 118 w w.heap.size (fun k_ => ((P0_1_ k_ ∨ P0_2_ k_ ∨ P1_1_ k_ ∨ P1_2_ k_) ∨ w.heap.size ≤ k_)) (.slice A1_1 l1_1.length c1_1) l1_1 from Kd.V_mono hs1_1 (fun k_ hk => .inl (.inr (.inr (.inl hk)))))
 have HO1_2 := Aside0.mk (show Kd.V (Kd.int .u32) 118 w w.heap.size (fun k_ => ((P0_1_ k_ ∨ P0_2_ k_ ∨ P1_1_ k_ ∨ P1_2_ k_) ∨ w.heap.size ≤ k_)) (.slice A1_2 l1_2.length c1_2) l1_2 from Kd.V_mono hs1_2 (fun k_ hk => .inl (.inr (.inr (.inr hk)))))
 have HB := Aside0.mk (Below.refl w.heap.size w)
 unfold ratio_R_Sub.f at H
 replace H := bi H
 obtain ⟨⟨t104, t105, t108⟩, A3, H⟩ := H
 try dsimp only at H
 replace H := bi H
 obtain ⟨⟨t111, t112, t115⟩, A4, H⟩ := H
 try dsimp only at H
 simp only [Option.some.injEq, Prod.mk.injEq] at H
 obtain ⟨rfl, rfl, rfl⟩ := H
 go_enter Try.func88, Try.ntmps88
 try go_wp2_with (first | ((with_reducible refine gd 2 rfl ?_); refine bx 2 #[.bool a0_0, .slice A0_1 l0_1.length c0_1, .slice A0_2 l0_2.length c0_2] ?_; intro gb101 hg w5 hbox hb; replace HO0_1 := vE HO0_1 hg hb; replace HO0_2 := vE HO0_2 hg hb; replace HO1_1 := vE HO1_1 hg hb; replace HO1_2 := vE HO1_2 hg hb; have BK101 := Aside0.mk hbox; have GE101 := gB hg HB; replace HB := bA HB hb; clear hb hbox hg) | ((with_reducible refine gd 3 rfl ?_); refine bx 3 #[.bool a1_0, .slice A1_1 l1_1.length c1_1, .slice A1_2 l1_2.length c1_2] ?_; intro gb102 hg w6 hbox hb; replace HO0_1 := vE HO0_1 hg hb; replace HO0_2 := vE HO0_2 hg hb; replace HO1_1 := vE HO1_1 hg hb; replace HO1_2 := vE HO1_2 hg hb; replace BK101 := kA BK101 hb; have BK102 := Aside0.mk hbox; have GE102 := gS' hg HB; replace HB := bS HB hb; clear hb hbox hg) | ((with_reducible refine gd 4 rfl ?_); refine bx 4 #[.bool false, .slice none 0 0, .slice none 0 0] ?_; intro gb103 hg w7 hbox hb; replace HO0_1 := vE HO0_1 hg hb; replace HO0_2 := vE HO0_2 hg hb; replace HO1_1 := vE HO1_1 hg hb; replace HO1_2 := vE HO1_2 hg hb; have BK103 := Aside0.mk hbox; have GE103 := gS' hg HB; replace HB := bS HB hb; have NB101_103 := nL hg BK101; have NB103_101 := nR hg BK101; replace BK101 := kA BK101 hb; have NB102_103 := nL hg BK102; have NB103_102 := nR hg BK102; replace BK102 := kA BK102 hb; clear hb hbox hg))
 replace HO0_1 := Aside0.mk (Kd.V_drew HO0_1.out)
 replace HO0_2 := Aside0.mk (Kd.V_drew HO0_2.out)
 replace HO1_1 := Aside0.mk (Kd.V_drew HO1_1.out)
 replace HO1_2 := Aside0.mk (Kd.V_drew HO1_2.out)
 replace BK101 := kd BK101
 replace BK102 := kd BK102
 replace BK103 := kd BK103
 replace HB := bd HB
 refine st (S := fun w' => B3 w' gb101 (.bool a0_0) (.slice A0_1 l0_1.length c0_1) (.slice A0_2 l0_2.length c0_2) ∧ B3 w' gb102 (.bool a1_0) (.slice A1_1 l1_1.length c1_1) (.slice A1_2 l1_2.length c1_2)) 5 [] (tf 0 5) ⟨b3 BK101, b3 BK102⟩ (fun hHeld => ?_)
 generalize w7.drew = w8 at HO0_1 HO0_2 HO1_1 HO1_2 BK101 BK102 BK103 HB hHeld ⊢
 refine tk 0 5 (tf 1 4) hHeld ?_
 refine tk 1 6 (tf 2 3) hHeld ?_
 refine on 2 (some 7) (tf 3 2) (fun K hK => ?_)
 refine gS Try.func95 #[.agg #[.bool a1_0, .slice A1_1 l1_1.length c1_1, .slice A1_2 l1_2.length c1_2]] ?_
 with_reducible refine (ratio_R_Neg1.calls k a1_0 (fun k_ => (((((P0_1_ k_ ∨ P0_2_ k_ ∨ P1_1_ k_ ∨ P1_2_ k_) ∨ w.heap.size ≤ k_) ∧ k_ ≠ gb101) ∧ k_ ≠ gb102) ∧ k_ ≠ gb103)) _ _ l1_1 (fun k_ => (((((P0_1_ k_ ∨ P0_2_ k_ ∨ P1_1_ k_ ∨ P1_2_ k_) ∨ w.heap.size ≤ k_) ∧ k_ ≠ gb101) ∧ k_ ≠ gb102) ∧ k_ ≠ gb103)) _ _ l1_2 t104 t105 t108 _ ?_ ?_ A3.out).mono ?_
 exact HO1_1.out
 exact HO1_2.out
 rintro e w9 ⟨v106, v109, rfl, ho0, ho1, hb⟩
 refine ⟨_, rfl, ?_⟩
 replace HO0_1 := vA HO0_1 hb
 replace HO0_2 := vA HO0_2 hb
 have HO107 := lw HB (fun k_ => ((P0_1_ k_ ∨ P0_2_ k_ ∨ P1_1_ k_ ∨ P1_2_ k_) ∨ w.heap.size ≤ k_) ∧ k_ ≠ gb101 ∧ k_ ≠ gb102 ∧ k_ ≠ gb103) ho0 (fun k_ hk_ => Or.elim hk_ (fun hs_ => Or.elim hs_ (fun hs_ => ⟨hs_.1.1.1, hs_.1.1.2, hs_.1.2, hs_.2⟩) (fun hs_ => ⟨hs_.1.1.1, hs_.1.1.2, hs_.1.2, hs_.2⟩)) (fun hn_ => ⟨.inr (Nat.le_trans (below_size hB) hn_), kF BK101 hn_, kF BK102 hn_, kF BK103 hn_⟩))
 have HO110 := lw HB (fun k_ => ((P0_1_ k_ ∨ P0_2_ k_ ∨ P1_1_ k_ ∨ P1_2_ k_) ∨ w.heap.size ≤ k_) ∧ k_ ≠ gb101 ∧ k_ ≠ gb102 ∧ k_ ≠ gb103) ho1 (fun k_ hk_ => Or.elim hk_ (fun hs_ => Or.elim hs_ (fun hs_ => ⟨hs_.1.1.1, hs_.1.1.2, hs_.1.2, hs_.2⟩) (fun hs_ => ⟨hs_.1.1.1, hs_.1.1.2, hs_.1.2, hs_.2⟩)) (fun hn_ => ⟨.inr (Nat.le_trans (below_size hB) hn_), kF BK101 hn_, kF BK102 hn_, kF BK103 hn_⟩))
 replace BK101 := kA BK101 hb
 replace BK102 := kA BK102 hb
 replace BK103 := kA BK103 hb
 replace HB := bS HB hb
 clear HO1_1 HO1_2
 clear hb ho0 ho1
 obtain ⟨Ao10, co10, eo10⟩ := Kd.V_slice HO107.out
 (first | subst eo10 | (injection eo10 with f1_ f2_ f3_; have f4_ := f1_.symm; have f5_ := f3_.symm; clear f1_ f2_ f3_; subst f4_; subst f5_))
 obtain ⟨Ao11, co11, eo11⟩ := Kd.V_slice HO110.out
 (first | subst eo11 | (injection eo11 with f1_ f2_ f3_; have f4_ := f1_.symm; have f5_ := f3_.symm; clear f1_ f2_ f3_; subst f4_; subst f5_))
 refine hK.out _ _ ⟨b3 BK101, b3 BK102⟩ (fun hHeld => nm ?_)
 clear hK K
 refine on 3 (some 8) (tf 4 1) (fun K hK => ?_)
 refine gS Try.func86 #[.agg #[.bool a0_0, .slice A0_1 l0_1.length c0_1, .slice A0_2 l0_2.length c0_2], .agg #[.bool t104, .slice Ao10 t105.length co10, .slice Ao11 t108.length co11]] ?_
 with_reducible refine (ratio_R_Add.calls k a0_0 (fun k_ => (((((P0_1_ k_ ∨ P0_2_ k_ ∨ P1_1_ k_ ∨ P1_2_ k_) ∨ w.heap.size ≤ k_) ∧ k_ ≠ gb101) ∧ k_ ≠ gb102) ∧ k_ ≠ gb103)) _ _ l0_1 (fun k_ => (((((P0_1_ k_ ∨ P0_2_ k_ ∨ P1_1_ k_ ∨ P1_2_ k_) ∨ w.heap.size ≤ k_) ∧ k_ ≠ gb101) ∧ k_ ≠ gb102) ∧ k_ ≠ gb103)) _ _ l0_2 t104 (fun k_ => (((P0_1_ k_ ∨ P0_2_ k_ ∨ P1_1_ k_ ∨ P1_2_ k_) ∨ w.heap.size ≤ k_) ∧ (k_ ≠ gb101 ∧ (k_ ≠ gb102 ∧ k_ ≠ gb103)))) _ _ t105 (fun k_ => (((P0_1_ k_ ∨ P0_2_ k_ ∨ P1_1_ k_ ∨ P1_2_ k_) ∨ w.heap.size ≤ k_) ∧ (k_ ≠ gb101 ∧ (k_ ≠ gb102 ∧ k_ ≠ gb103)))) _ _ t108 t111 t112 t115 _ ?_ ?_ ?_ ?_ A4.out).mono ?_
 exact HO0_1.out
 exact HO0_2.out
 exact HO107.out
 exact HO110.out
 rintro e w12 ⟨v113, v116, rfl, ho0, ho1, hb⟩
 refine ⟨_, rfl, ?_⟩
 have HO114 := lw HB (fun k_ => ((P0_1_ k_ ∨ P0_2_ k_ ∨ P1_1_ k_ ∨ P1_2_ k_) ∨ w.heap.size ≤ k_) ∧ k_ ≠ gb101 ∧ k_ ≠ gb102 ∧ k_ ≠ gb103) ho0 (fun k_ hk_ => Or.elim hk_ (fun hs_ => Or.elim hs_ (fun hs_ => ⟨hs_.1.1.1, hs_.1.1.2, hs_.1.2, hs_.2⟩) (fun hs_ => Or.elim hs_ (fun hs_ => ⟨hs_.1.1.1, hs_.1.1.2, hs_.1.2, hs_.2⟩) (fun hs_ => Or.elim hs_ id id))) (fun hn_ => ⟨.inr (Nat.le_trans (below_size hB) hn_), kF BK101 hn_, kF BK102 hn_, kF BK103 hn_⟩))
 have HO117 := lw HB (fun k_ => ((P0_1_ k_ ∨ P0_2_ k_ ∨ P1_1_ k_ ∨ P1_2_ k_) ∨ w.heap.size ≤ k_) ∧ k_ ≠ gb101 ∧ k_ ≠ gb102 ∧ k_ ≠ gb103) ho1 (fun k_ hk_ => Or.elim hk_ (fun hs_ => Or.elim hs_ (fun hs_ => ⟨hs_.1.1.1, hs_.1.1.2, hs_.1.2, hs_.2⟩) (fun hs_ => Or.elim hs_ (fun hs_ => ⟨hs_.1.1.1, hs_.1.1.2, hs_.1.2, hs_.2⟩) (fun hs_ => Or.elim hs_ id id))) (fun hn_ => ⟨.inr (Nat.le_trans (below_size hB) hn_), kF BK101 hn_, kF BK102 hn_, kF BK103 hn_⟩))
 replace BK101 := kA BK101 hb
 replace BK102 := kA BK102 hb
 replace BK103 := kA BK103 hb
 replace HB := bS HB hb
 clear HO0_1 HO0_2 HO107 HO110
 clear hb ho0 ho1
 obtain ⟨Ao14, co14, eo14⟩ := Kd.V_slice HO114.out
 (first | subst eo14 | (injection eo14 with f1_ f2_ f3_; have f4_ := f1_.symm; have f5_ := f3_.symm; clear f1_ f2_ f3_; subst f4_; subst f5_))
 obtain ⟨Ao16, co16, eo16⟩ := Kd.V_slice HO117.out
 (first | subst eo16 | (injection eo16 with f1_ f2_ f3_; have f4_ := f1_.symm; have f5_ := f3_.symm; clear f1_ f2_ f3_; subst f4_; subst f5_))
 refine hK.out _ _ ⟨b3 BK101, b3 BK102⟩ (fun hHeld => nm ?_)
 clear hK K
 refine on 4 none (tf 5 0) (fun K hK => ?_)
 obtain ⟨hs13, hfs13⟩ := e0 BK103
 have hns13_0 := NB101_103.out
 have hns13_1 := NB102_103.out
 have hms13_0 := NB103_101.out
 have hms13_1 := NB103_102.out
 obtain ⟨hs15, hfs15⟩ := e1 BK103
 have hns15_0 := NB101_103.out
 have hns15_1 := NB102_103.out
 have hms15_0 := NB103_101.out
 have hms15_1 := NB103_102.out
 obtain ⟨hs17, hfs17⟩ := e2 BK103
 have hns17_0 := NB101_103.out
 have hns17_1 := NB102_103.out
 have hms17_0 := NB103_101.out
 have hms17_1 := NB103_102.out
 refine sk ?_
 refine hK.out _ _ ⟨F3 hHeld.1 NB101_103, F3 hHeld.2 NB102_103⟩ (fun hHeld => ?_)
 clear hK K
 refine done_ (by kernel_rfl) ?_
 try go_wp2
 refine bodyPost_ret (results_cell_row rfl _ _ gb103 69 #[.bool t111, .slice Ao14 t112.length co14, .slice Ao16 t115.length co16] (0, 0) _ rfl (by exact kU (p3 BK103)) Try.underlying69 rfl (by kernel_rfl)) rfl ?_
 exact ⟨_, _, er, vG (v3p HO114 (fun _ hk => hk.2.2.2)) (fun _ hk => hk.1.1), vG (v3p HO117 (fun _ hk => hk.2.2.2)) (fun _ hk => hk.1.1), hB⟩
def ratio_R_Mul.f (k : Nat) (a0_0 : Bool) (l0_1 : List Int) (l0_2 : List Int) (a1_0 : Bool) (l1_1 : List Int) (l1_2 : List Int) : Option (Bool × List Int × List Int) := (ratio_R_low.f k a0_0 l0_1 l0_2).bind fun bt104 => ((ratio_R_low.f k a1_0 l1_1 l1_2).bind fun bt111 => ((nat_Nat_Mul.f k bt104.2.1 bt111.2.1).bind fun t118 => ((nat_Nat_Mul.f k bt104.2.2 bt111.2.2).bind fun t121 => ((ratio_low.f k (bt104.1 != bt111.1) t118 t121).bind fun bt124 => (some (bt124.1, bt124.2.1, bt124.2.2))))))
theorem ratio_R_Mul.mono : ∀ a0 a1 a2 a3 a4 a5 k, LeO (ratio_R_Mul.f k a0 a1 a2 a3 a4 a5) (ratio_R_Mul.f (k + 1) a0 a1 a2 a3 a4 a5) := by
 intro a0 a1 a2 a3 a4 a5 k
 unfold ratio_R_Mul.f
 repeat' with_reducible first | exact nat_Nat_Mul.mono _ _ _ | exact ratio_R_low.mono _ _ _ _ | exact ratio_low.mono _ _ _ _ | exact LeO.refl _ | exact LeO.none _ | refine LeO.ite ?_ ?_ | refine LeO.bind ?_ (fun _ => ?_)
def ratio_R_Mul.T2 : Bool × List (List Nat × List Nat) := (true, [([], []), ([0], [0]), ([], []), ([2], [2]), ([1, 3], [1, 3]), ([], []), ([5], [5]), ([], []), ([7], [7]), ([6, 8], [6, 8]), ([], []), ([10], [10]), ([], []), ([12], [12]), ([11, 13, 9], [11, 13]), ([4, 9, 14, 14], [4, 9, 14]), ([15, 15, 0, 1, 2, 3, 4, 5, 6, 7, 8, 9, 10, 11, 12, 13, 14, 15], [15])])
def ratio_R_Mul.B2 : List Nat := [0, 1, 0, 4, 15, 0, 32, 0, 128, 480, 0, 1024, 0, 4096, 16352, 32767, 65535]
theorem ratio_R_Mul.tab2 : rtab .any (opsOf Try.f90 2) = ratio_R_Mul.T2 := by kernel_rfl
theorem ratio_R_Mul.bits2 : waitsOk ratio_R_Mul.T2.2 ratio_R_Mul.B2 = true := by kernel_rfl
set_option maxHeartbeats 8000000 in
set_option maxRecDepth 100000 in
theorem ratio_R_Mul.calls (k : Nat) (a0_0 : Bool) (P0_1_ : Nat → Prop) (A0_1 : Option Addr) (c0_1 : Nat) (l0_1 : List Int) (P0_2_ : Nat → Prop) (A0_2 : Option Addr) (c0_2 : Nat) (l0_2 : List Int) (a1_0 : Bool) (P1_1_ : Nat → Prop) (A1_1 : Option Addr) (c1_1 : Nat) (l1_1 : List Int) (P1_2_ : Nat → Prop) (A1_2 : Option Addr) (c1_2 : Nat) (l1_2 : List Int) (r1 : Bool) (r2 : List Int) (r3 : List Int) (w : World) (hs0_1 : Kd.V (Kd.int .u32) 118 w w.heap.size (fun k_ => P0_1_ k_) (.slice A0_1 l0_1.length c0_1) l0_1) (hs0_2 : Kd.V (Kd.int .u32) 118 w w.heap.size (fun k_ => P0_2_ k_) (.slice A0_2 l0_2.length c0_2) l0_2) (hs1_1 : Kd.V (Kd.int .u32) 118 w w.heap.size (fun k_ => P1_1_ k_) (.slice A1_1 l1_1.length c1_1) l1_1) (hs1_2 : Kd.V (Kd.int .u32) 118 w w.heap.size (fun k_ => P1_2_ k_) (.slice A1_2 l1_2.length c1_2) l1_2) (H : ratio_R_Mul.f k a0_0 l0_1 l0_2 a1_0 l1_1 l1_2 = some (r1, r2, r3)) :
  Calls Try.prog 90 #[.agg #[.bool a0_0, .slice A0_1 l0_1.length c0_1, .slice A0_2 l0_2.length c0_2], .agg #[.bool a1_0, .slice A1_1 l1_1.length c1_1, .slice A1_2 l1_2.length c1_2]] w fun e w' => ∃ v1_ v2_ : Value, e = .returned (.agg #[.bool r1, v1_, v2_]) ∧ Kd.V (Kd.int .u32) 118 w' w.heap.size (fun k_ => ((P0_1_ k_ ∨ P0_2_ k_ ∨ P1_1_ k_ ∨ P1_2_ k_) ∨ w.heap.size ≤ k_)) v1_ r2 ∧ Kd.V (Kd.int .u32) 118 w' w.heap.size (fun k_ => ((P0_1_ k_ ∨ P0_2_ k_ ∨ P1_1_ k_ ∨ P1_2_ k_) ∨ w.heap.size ≤ k_)) v2_ r3 ∧ Below w.heap.size w w' := by
 have hu69 := Try.underlying69
 have HO0_1 := Aside0.mk (show Kd.V (Kd.int .u32) 118 w w.heap.size (fun k_ => ((P0_1_ k_ ∨ P0_2_ k_ ∨ P1_1_ k_ ∨ P1_2_ k_) ∨ w.heap.size ≤ k_)) (.slice A0_1 l0_1.length c0_1) l0_1 from Kd.V_mono hs0_1 (fun k_ hk => .inl (.inl hk)))
 have HO0_2 := Aside0.mk (show Kd.V (Kd.int .u32) 118 w w.heap.size (fun k_ => ((P0_1_ k_ ∨ P0_2_ k_ ∨ P1_1_ k_ ∨ P1_2_ k_) ∨ w.heap.size ≤ k_)) (.slice A0_2 l0_2.length c0_2) l0_2 from Kd.V_mono hs0_2 (fun k_ hk => .inl (.inr (.inl hk))))
 have HO1_1 := Aside0.mk (show Kd.V (Kd.int .u32) 118 w w.heap.size (fun k_ => ((P0_1_ k_ ∨ P0_2_ k_ ∨ P1_1_ k_ ∨ P1_2_ k_) ∨ w.heap.size ≤ k_)) (.slice A1_1 l1_1.length c1_1) l1_1 from Kd.V_mono hs1_1 (fun k_ hk => .inl (.inr (.inr (.inl hk)))))
 have HO1_2 := Aside0.mk (show Kd.V (Kd.int .u32) 118 w w.heap.size (fun k_ => ((P0_1_ k_ ∨ P0_2_ k_ ∨ P1_1_ k_ ∨ P1_2_ k_) ∨ w.heap.size ≤ k_)) (.slice A1_2 l1_2.length c1_2) l1_2 from Kd.V_mono hs1_2 (fun k_ hk => .inl (.inr (.inr (.inr hk)))))
 have HB := Aside0.mk (Below.refl w.heap.size w)
 unfold ratio_R_Mul.f at H
 replace H := bi H
 obtain ⟨⟨t104, t105, t108⟩, A3, H⟩ := H
 try dsimp only at H
 replace H := bi H
 obtain ⟨⟨t111, t112, t115⟩, A4, H⟩ := H
 try dsimp only at H
 replace H := bi H
 obtain ⟨t118, A5, H⟩ := H
 replace H := bi H
 obtain ⟨t121, A6, H⟩ := H
 replace H := bi H
 obtain ⟨⟨t124, t125, t128⟩, A7, H⟩ := H
 try dsimp only at H
 simp only [Option.some.injEq, Prod.mk.injEq] at H
 obtain ⟨rfl, rfl, rfl⟩ := H
 go_enter Try.func90, Try.ntmps90
 try go_wp2_with (first | ((with_reducible refine gd 2 rfl ?_); refine bx 2 #[.bool a0_0, .slice A0_1 l0_1.length c0_1, .slice A0_2 l0_2.length c0_2] ?_; intro gb101 hg w8 hbox hb; replace HO0_1 := vE HO0_1 hg hb; replace HO0_2 := vE HO0_2 hg hb; replace HO1_1 := vE HO1_1 hg hb; replace HO1_2 := vE HO1_2 hg hb; have BK101 := Aside0.mk hbox; have GE101 := gB hg HB; replace HB := bA HB hb; clear hb hbox hg) | ((with_reducible refine gd 3 rfl ?_); refine bx 3 #[.bool a1_0, .slice A1_1 l1_1.length c1_1, .slice A1_2 l1_2.length c1_2] ?_; intro gb102 hg w9 hbox hb; replace HO0_1 := vE HO0_1 hg hb; replace HO0_2 := vE HO0_2 hg hb; replace HO1_1 := vE HO1_1 hg hb; replace HO1_2 := vE HO1_2 hg hb; have BK102 := Aside0.mk hbox; have GE102 := gS' hg HB; replace HB := bS HB hb; have NB101_102 := nL hg BK101; have NB102_101 := nR hg BK101; replace BK101 := kA BK101 hb; clear hb hbox hg) | ((with_reducible refine gd 4 rfl ?_); refine bx 4 #[.bool false, .slice none 0 0, .slice none 0 0] ?_; intro gb103 hg w10 hbox hb; replace HO0_1 := vE HO0_1 hg hb; replace HO0_2 := vE HO0_2 hg hb; replace HO1_1 := vE HO1_1 hg hb; replace HO1_2 := vE HO1_2 hg hb; have BK103 := Aside0.mk hbox; have GE103 := gS' hg HB; replace HB := bS HB hb; have NB101_103 := nL hg BK101; have NB103_101 := nR hg BK101; replace BK101 := kA BK101 hb; have NB102_103 := nL hg BK102; have NB103_102 := nR hg BK102; replace BK102 := kA BK102 hb; clear hb hbox hg))
 replace HO0_1 := Aside0.mk (Kd.V_drew HO0_1.out)
 replace HO0_2 := Aside0.mk (Kd.V_drew HO0_2.out)
 replace HO1_1 := Aside0.mk (Kd.V_drew HO1_1.out)
 replace HO1_2 := Aside0.mk (Kd.V_drew HO1_2.out)
 replace BK101 := kd BK101
 replace BK102 := kd BK102
 replace BK103 := kd BK103
 replace HB := bd HB
 refine st (S := fun w' => B3 w' gb101 (.bool a0_0) (.slice A0_1 l0_1.length c0_1) (.slice A0_2 l0_2.length c0_2) ∧ B3 w' gb102 (.bool a1_0) (.slice A1_1 l1_1.length c1_1) (.slice A1_2 l1_2.length c1_2)) 6 [4, 5] (tf 0 6) ⟨b3 BK101, b3 BK102⟩ (fun hHeld => ?_)
 generalize w10.drew = w11 at HO0_1 HO0_2 HO1_1 HO1_2 BK101 BK102 BK103 HB hHeld ⊢
 refine tk 0 5 (tf 1 5) hHeld ?_
 refine tk 2 7 #[true, false, true, false, false, false] hHeld ?_
 refine on 1 (some 6) (tf 3 3) (fun K hK => ?_)
 refine gS Try.func119 #[.agg #[.bool a0_0, .slice A0_1 l0_1.length c0_1, .slice A0_2 l0_2.length c0_2]] ?_
 with_reducible refine (ratio_R_low.calls k a0_0 (fun k_ => (((((P0_1_ k_ ∨ P0_2_ k_ ∨ P1_1_ k_ ∨ P1_2_ k_) ∨ w.heap.size ≤ k_) ∧ k_ ≠ gb101) ∧ k_ ≠ gb102) ∧ k_ ≠ gb103)) _ _ l0_1 (fun k_ => (((((P0_1_ k_ ∨ P0_2_ k_ ∨ P1_1_ k_ ∨ P1_2_ k_) ∨ w.heap.size ≤ k_) ∧ k_ ≠ gb101) ∧ k_ ≠ gb102) ∧ k_ ≠ gb103)) _ _ l0_2 t104 t105 t108 _ ?_ ?_ A3.out).mono ?_
 exact HO0_1.out
 exact HO0_2.out
 rintro e w12 ⟨v106, v109, rfl, ho0, ho1, hb⟩
 refine ⟨_, rfl, ?_⟩
 replace HO1_1 := vA HO1_1 hb
 replace HO1_2 := vA HO1_2 hb
 have HO107 := lw HB (fun k_ => ((P0_1_ k_ ∨ P0_2_ k_ ∨ P1_1_ k_ ∨ P1_2_ k_) ∨ w.heap.size ≤ k_) ∧ k_ ≠ gb101 ∧ k_ ≠ gb102 ∧ k_ ≠ gb103) ho0 (fun k_ hk_ => Or.elim hk_ (fun hs_ => Or.elim hs_ (fun hs_ => ⟨hs_.1.1.1, hs_.1.1.2, hs_.1.2, hs_.2⟩) (fun hs_ => ⟨hs_.1.1.1, hs_.1.1.2, hs_.1.2, hs_.2⟩)) (fun hn_ => ⟨.inr (Nat.le_trans (below_size hB) hn_), kF BK101 hn_, kF BK102 hn_, kF BK103 hn_⟩))
 have HO110 := lw HB (fun k_ => ((P0_1_ k_ ∨ P0_2_ k_ ∨ P1_1_ k_ ∨ P1_2_ k_) ∨ w.heap.size ≤ k_) ∧ k_ ≠ gb101 ∧ k_ ≠ gb102 ∧ k_ ≠ gb103) ho1 (fun k_ hk_ => Or.elim hk_ (fun hs_ => Or.elim hs_ (fun hs_ => ⟨hs_.1.1.1, hs_.1.1.2, hs_.1.2, hs_.2⟩) (fun hs_ => ⟨hs_.1.1.1, hs_.1.1.2, hs_.1.2, hs_.2⟩)) (fun hn_ => ⟨.inr (Nat.le_trans (below_size hB) hn_), kF BK101 hn_, kF BK102 hn_, kF BK103 hn_⟩))
 replace BK101 := kA BK101 hb
 replace BK102 := kA BK102 hb
 replace BK103 := kA BK103 hb
 replace HB := bS HB hb
 clear HO0_1 HO0_2
 clear hb ho0 ho1
 refine hK.out _ _ ⟨b3 BK101, b3 BK102⟩ (fun hHeld => nm ?_)
 clear hK K
 refine on 3 (some 8) (tf 4 2) (fun K hK => ?_)
 refine gS Try.func119 #[.agg #[.bool a1_0, .slice A1_1 l1_1.length c1_1, .slice A1_2 l1_2.length c1_2]] ?_
 with_reducible refine (ratio_R_low.calls k a1_0 (fun k_ => (((((P0_1_ k_ ∨ P0_2_ k_ ∨ P1_1_ k_ ∨ P1_2_ k_) ∨ w.heap.size ≤ k_) ∧ k_ ≠ gb101) ∧ k_ ≠ gb102) ∧ k_ ≠ gb103)) _ _ l1_1 (fun k_ => (((((P0_1_ k_ ∨ P0_2_ k_ ∨ P1_1_ k_ ∨ P1_2_ k_) ∨ w.heap.size ≤ k_) ∧ k_ ≠ gb101) ∧ k_ ≠ gb102) ∧ k_ ≠ gb103)) _ _ l1_2 t111 t112 t115 _ ?_ ?_ A4.out).mono ?_
 exact HO1_1.out
 exact HO1_2.out
 rintro e w13 ⟨v113, v116, rfl, ho0, ho1, hb⟩
 refine ⟨_, rfl, ?_⟩
 replace HO107 := vA HO107 hb
 replace HO110 := vA HO110 hb
 have HO114 := lw HB (fun k_ => ((P0_1_ k_ ∨ P0_2_ k_ ∨ P1_1_ k_ ∨ P1_2_ k_) ∨ w.heap.size ≤ k_) ∧ k_ ≠ gb101 ∧ k_ ≠ gb102 ∧ k_ ≠ gb103) ho0 (fun k_ hk_ => Or.elim hk_ (fun hs_ => Or.elim hs_ (fun hs_ => ⟨hs_.1.1.1, hs_.1.1.2, hs_.1.2, hs_.2⟩) (fun hs_ => ⟨hs_.1.1.1, hs_.1.1.2, hs_.1.2, hs_.2⟩)) (fun hn_ => ⟨.inr (Nat.le_trans (below_size hB) hn_), kF BK101 hn_, kF BK102 hn_, kF BK103 hn_⟩))
 have HO117 := lw HB (fun k_ => ((P0_1_ k_ ∨ P0_2_ k_ ∨ P1_1_ k_ ∨ P1_2_ k_) ∨ w.heap.size ≤ k_) ∧ k_ ≠ gb101 ∧ k_ ≠ gb102 ∧ k_ ≠ gb103) ho1 (fun k_ hk_ => Or.elim hk_ (fun hs_ => Or.elim hs_ (fun hs_ => ⟨hs_.1.1.1, hs_.1.1.2, hs_.1.2, hs_.2⟩) (fun hs_ => ⟨hs_.1.1.1, hs_.1.1.2, hs_.1.2, hs_.2⟩)) (fun hn_ => ⟨.inr (Nat.le_trans (below_size hB) hn_), kF BK101 hn_, kF BK102 hn_, kF BK103 hn_⟩))
 replace BK101 := kA BK101 hb
 replace BK102 := kA BK102 hb
 replace BK103 := kA BK103 hb
 replace HB := bS HB hb
 clear HO1_1 HO1_2
 clear hb ho0 ho1
 obtain ⟨Ao15, co15, eo15⟩ := Kd.V_slice HO107.out
 (first | subst eo15 | (injection eo15 with f1_ f2_ f3_; have f4_ := f1_.symm; have f5_ := f3_.symm; clear f1_ f2_ f3_; subst f4_; subst f5_))
 obtain ⟨Ao17, co17, eo17⟩ := Kd.V_slice HO110.out
 (first | subst eo17 | (injection eo17 with f1_ f2_ f3_; have f4_ := f1_.symm; have f5_ := f3_.symm; clear f1_ f2_ f3_; subst f4_; subst f5_))
 obtain ⟨Ao20, co20, eo20⟩ := Kd.V_slice HO114.out
 (first | subst eo20 | (injection eo20 with f1_ f2_ f3_; have f4_ := f1_.symm; have f5_ := f3_.symm; clear f1_ f2_ f3_; subst f4_; subst f5_))
 obtain ⟨Ao22, co22, eo22⟩ := Kd.V_slice HO117.out
 (first | subst eo22 | (injection eo22 with f1_ f2_ f3_; have f4_ := f1_.symm; have f5_ := f3_.symm; clear f1_ f2_ f3_; subst f4_; subst f5_))
 refine hK.out _ _ ⟨b3 BK101, b3 BK102⟩ (fun hHeld => nm ?_)
 clear hK K
 refine la 4 none (tf 5 1) (fun K hK => ?_)
 obtain ⟨hs14, hfs14⟩ := e0 BK101
 have hns14_1 := NB102_101.out
 have hns14_2 := NB103_101.out
 have hms14_1 := NB101_102.out
 have hms14_2 := NB101_103.out
 obtain ⟨hs16, hfs16⟩ := e1 BK101
 have hns16_1 := NB102_101.out
 have hns16_2 := NB103_101.out
 have hms16_1 := NB101_102.out
 have hms16_2 := NB101_103.out
 obtain ⟨hs18, hfs18⟩ := e2 BK101
 have hns18_1 := NB102_101.out
 have hns18_2 := NB103_101.out
 have hms18_1 := NB101_102.out
 have hms18_2 := NB101_103.out
 refine sk (hK.out _ _ ?_)
 clear hK K
 refine la 5 none (tf 6 0) (fun K hK => ?_)
 obtain ⟨hs19, hfs19⟩ := e0 BK102
 have hns19_0 := NB101_102.out
 have hns19_2 := NB103_102.out
 have hms19_0 := NB102_101.out
 have hms19_2 := NB102_103.out
 obtain ⟨hs21, hfs21⟩ := e1 BK102
 have hns21_0 := NB101_102.out
 have hns21_2 := NB103_102.out
 have hms21_0 := NB102_101.out
 have hms21_2 := NB102_103.out
 obtain ⟨hs23, hfs23⟩ := e2 BK102
 have hns23_0 := NB101_102.out
 have hns23_2 := NB103_102.out
 have hms23_0 := NB102_101.out
 have hms23_2 := NB102_103.out
 refine sk (hK.out _ _ ?_)
 clear hK K
 refine done_ (by kernel_rfl) ?_
 try go_wp2
 generalize hw : ((((((w13.setCell ⟨gb101, 0, none⟩ (.bool t104)).setCell ⟨gb101, 1, none⟩ (.slice Ao15 t105.length co15)).setCell ⟨gb101, 2, none⟩ (.slice Ao17 t108.length co17)).setCell ⟨gb102, 0, none⟩ (.bool t111)).setCell ⟨gb102, 1, none⟩ (.slice Ao20 t112.length co20)).setCell ⟨gb102, 2, none⟩ (.slice Ao22 t115.length co22)) = w24
 replace hw := hw.symm
 replace HO107 := vW hw (fun k_ => ((P0_1_ k_ ∨ P0_2_ k_ ∨ P1_1_ k_ ∨ P1_2_ k_) ∨ w.heap.size ≤ k_) ∧ k_ ≠ gb101 ∧ k_ ≠ gb102 ∧ k_ ≠ gb103) (v3p (v3p HO107 (fun _ hk => hk.2.1)) (fun _ hk => hk.1.2.2.1)) (fun _ hk => ⟨hk.1.1.1, ⟨hk.1.1.2.1, ⟨hk.1.1.2.2.1, hk.1.1.2.2.2⟩⟩⟩)
 replace HO110 := vW hw (fun k_ => ((P0_1_ k_ ∨ P0_2_ k_ ∨ P1_1_ k_ ∨ P1_2_ k_) ∨ w.heap.size ≤ k_) ∧ k_ ≠ gb101 ∧ k_ ≠ gb102 ∧ k_ ≠ gb103) (v3p (v3p HO110 (fun _ hk => hk.2.1)) (fun _ hk => hk.1.2.2.1)) (fun _ hk => ⟨hk.1.1.1, ⟨hk.1.1.2.1, ⟨hk.1.1.2.2.1, hk.1.1.2.2.2⟩⟩⟩)
 replace HO114 := vW hw (fun k_ => ((P0_1_ k_ ∨ P0_2_ k_ ∨ P1_1_ k_ ∨ P1_2_ k_) ∨ w.heap.size ≤ k_) ∧ k_ ≠ gb101 ∧ k_ ≠ gb102 ∧ k_ ≠ gb103) (v3p (v3p HO114 (fun _ hk => hk.2.1)) (fun _ hk => hk.1.2.2.1)) (fun _ hk => ⟨hk.1.1.1, ⟨hk.1.1.2.1, ⟨hk.1.1.2.2.1, hk.1.1.2.2.2⟩⟩⟩)
 replace HO117 := vW hw (fun k_ => ((P0_1_ k_ ∨ P0_2_ k_ ∨ P1_1_ k_ ∨ P1_2_ k_) ∨ w.heap.size ≤ k_) ∧ k_ ≠ gb101 ∧ k_ ≠ gb102 ∧ k_ ≠ gb103) (v3p (v3p HO117 (fun _ hk => hk.2.1)) (fun _ hk => hk.1.2.2.1)) (fun _ hk => ⟨hk.1.1.1, ⟨hk.1.1.2.1, ⟨hk.1.1.2.2.1, hk.1.1.2.2.2⟩⟩⟩)
 replace BK101 := kW hw (q3 (p3 BK101) NB101_102)
 replace BK102 := kW hw (p3 (q3 BK102 NB102_101))
 replace BK103 := kW hw (q3 (q3 BK103 NB103_101) NB103_102)
 replace HB := bW HB hw
 clear hw
 replace HO107 := vd HO107
 replace HO110 := vd HO110
 replace HO114 := vd HO114
 replace HO117 := vd HO117
 replace BK101 := kd BK101
 replace BK102 := kd BK102
 replace BK103 := kd BK103
 replace HB := bd HB
 refine st (S := fun w' => B3 w' gb101 (.bool t104) (.slice Ao15 t105.length co15) (.slice Ao17 t108.length co17) ∧ B3 w' gb102 (.bool t111) (.slice Ao20 t112.length co20) (.slice Ao22 t115.length co22)) 17 [] (tf 0 17) ⟨b3 BK101, b3 BK102⟩ (fun hHeld => ?_); refine with_tabW ratio_R_Mul.tab2 ratio_R_Mul.bits2 (fun HT_ HW_ => ?_)
 generalize w24.drew = w25 at HO107 HO110 HO114 HO117 BK101 BK102 BK103 HB hHeld ⊢
 refine pu 0 9 (tf 1 16) ?_
 refine pu 2 11 #[true, false, true, false, false, false, false, false, false, false, false, false, false, false, false, false, false] ?_
 refine pu 5 14 #[true, false, true, false, false, true, false, false, false, false, false, false, false, false, false, false, false] ?_
 refine pu 7 16 #[true, false, true, false, false, true, false, true, false, false, false, false, false, false, false, false, false] ?_
 refine pu 10 19 #[true, false, true, false, false, true, false, true, false, false, true, false, false, false, false, false, false] ?_
 refine pu 12 21 #[true, false, true, false, false, true, false, true, false, false, true, false, true, false, false, false, false] ?_
 refine tk 1 10 #[true, true, true, false, false, true, false, true, false, false, true, false, true, false, false, false, false] hHeld ?_
 refine tk 3 12 #[true, true, true, true, false, true, false, true, false, false, true, false, true, false, false, false, false] hHeld ?_
 refine pu 4 13 #[true, true, true, true, true, true, false, true, false, false, true, false, true, false, false, false, false] ?_
 refine tk 6 15 #[true, true, true, true, true, true, true, true, false, false, true, false, true, false, false, false, false] hHeld ?_
 refine tk 8 17 #[true, true, true, true, true, true, true, true, true, false, true, false, true, false, false, false, false] hHeld ?_
 refine tk 11 20 #[true, true, true, true, true, true, true, true, true, false, true, true, true, false, false, false, false] hHeld ?_
 refine tk 13 22 #[true, true, true, true, true, true, true, true, true, false, true, true, true, true, false, false, false] hHeld ?_
 refine on 9 (some 18) (tf 14 3) (fun K hK => ?_)
 refine gS Try.func30 #[.slice Ao15 t105.length co15, .slice Ao20 t112.length co20] ?_
 with_reducible refine (nat_Nat_Mul.calls k _ _ t105 _ _ t112 t118 _ ?_ ?_ ?_ ?_ A5.out).mono ?_
 exact cup ((Kd.V_reads' HO107.out).2.2)
 exact (Kd.V_reads' HO107.out).2.1
 exact cup ((Kd.V_reads' HO114.out).2.2)
 exact (Kd.V_reads' HO114.out).2.1
 rintro e w26 ⟨v119, rfl, ho0, hb⟩
 refine ⟨_, rfl, ?_⟩
 replace HO110 := vA HO110 hb
 replace HO117 := vA HO117 hb
 have HO120 := lw HB (fun k_ => ((P0_1_ k_ ∨ P0_2_ k_ ∨ P1_1_ k_ ∨ P1_2_ k_) ∨ w.heap.size ≤ k_) ∧ k_ ≠ gb101 ∧ k_ ≠ gb102 ∧ k_ ≠ gb103) ho0 (fun k_ hk_ => ⟨(.inr (Nat.le_trans (below_size hB) hk_)), (kF BK101 hk_), (kF BK102 hk_), (kF BK103 hk_)⟩)
 replace BK101 := kA BK101 hb
 replace BK102 := kA BK102 hb
 replace BK103 := kA BK103 hb
 replace HB := bS HB hb
 clear HO107 HO114
 clear hb ho0
 refine hK.out _ _ ⟨b3 BK101, b3 BK102⟩ (fun hHeld => nm ?_)
 clear hK K
 refine on 14 (some 23) (tf 15 2) (fun K hK => ?_)
 refine gS Try.func30 #[.slice Ao17 t108.length co17, .slice Ao22 t115.length co22] ?_
 with_reducible refine (nat_Nat_Mul.calls k _ _ t108 _ _ t115 t121 _ ?_ ?_ ?_ ?_ A6.out).mono ?_
 exact cup ((Kd.V_reads' HO110.out).2.2)
 exact (Kd.V_reads' HO110.out).2.1
 exact cup ((Kd.V_reads' HO117.out).2.2)
 exact (Kd.V_reads' HO117.out).2.1
 rintro e w27 ⟨v122, rfl, ho0, hb⟩
 refine ⟨_, rfl, ?_⟩
 replace HO120 := vA HO120 hb
 have HO123 := lw HB (fun k_ => ((P0_1_ k_ ∨ P0_2_ k_ ∨ P1_1_ k_ ∨ P1_2_ k_) ∨ w.heap.size ≤ k_) ∧ k_ ≠ gb101 ∧ k_ ≠ gb102 ∧ k_ ≠ gb103) ho0 (fun k_ hk_ => ⟨(.inr (Nat.le_trans (below_size hB) hk_)), (kF BK101 hk_), (kF BK102 hk_), (kF BK103 hk_)⟩)
 replace BK101 := kA BK101 hb
 replace BK102 := kA BK102 hb
 replace BK103 := kA BK103 hb
 replace HB := bS HB hb
 clear HO110 HO117
 clear hb ho0
 obtain ⟨Ao28, co28, eo28⟩ := Kd.V_slice HO120.out
 (first | subst eo28 | (injection eo28 with f1_ f2_ f3_; have f4_ := f1_.symm; have f5_ := f3_.symm; clear f1_ f2_ f3_; subst f4_; subst f5_))
 obtain ⟨Ao29, co29, eo29⟩ := Kd.V_slice HO123.out
 (first | subst eo29 | (injection eo29 with f1_ f2_ f3_; have f4_ := f1_.symm; have f5_ := f3_.symm; clear f1_ f2_ f3_; subst f4_; subst f5_))
 refine hK.out _ _ ⟨b3 BK101, b3 BK102⟩ (fun hHeld => nm ?_)
 clear hK K
 refine on 15 (some 24) (tf 16 1) (fun K hK => ?_)
 refine gS Try.func126 #[.bool (t104 != t111), .slice Ao28 t118.length co28, .slice Ao29 t121.length co29] ?_
 with_reducible refine (ratio_low.calls k (t104 != t111) (fun k_ => (((P0_1_ k_ ∨ P0_2_ k_ ∨ P1_1_ k_ ∨ P1_2_ k_) ∨ w.heap.size ≤ k_) ∧ (k_ ≠ gb101 ∧ (k_ ≠ gb102 ∧ k_ ≠ gb103)))) _ _ t118 (fun k_ => (((P0_1_ k_ ∨ P0_2_ k_ ∨ P1_1_ k_ ∨ P1_2_ k_) ∨ w.heap.size ≤ k_) ∧ (k_ ≠ gb101 ∧ (k_ ≠ gb102 ∧ k_ ≠ gb103)))) _ _ t121 t124 t125 t128 _ ?_ ?_ A7.out).mono ?_
 exact HO120.out
 exact HO123.out
 rintro e w30 ⟨v126, v129, rfl, ho0, ho1, hb⟩
 refine ⟨_, rfl, ?_⟩
 have HO127 := lw HB (fun k_ => ((P0_1_ k_ ∨ P0_2_ k_ ∨ P1_1_ k_ ∨ P1_2_ k_) ∨ w.heap.size ≤ k_) ∧ k_ ≠ gb101 ∧ k_ ≠ gb102 ∧ k_ ≠ gb103) ho0 (fun k_ hk_ => Or.elim hk_ (fun hs_ => Or.elim hs_ id id) (fun hn_ => ⟨.inr (Nat.le_trans (below_size hB) hn_), kF BK101 hn_, kF BK102 hn_, kF BK103 hn_⟩))
 have HO130 := lw HB (fun k_ => ((P0_1_ k_ ∨ P0_2_ k_ ∨ P1_1_ k_ ∨ P1_2_ k_) ∨ w.heap.size ≤ k_) ∧ k_ ≠ gb101 ∧ k_ ≠ gb102 ∧ k_ ≠ gb103) ho1 (fun k_ hk_ => Or.elim hk_ (fun hs_ => Or.elim hs_ id id) (fun hn_ => ⟨.inr (Nat.le_trans (below_size hB) hn_), kF BK101 hn_, kF BK102 hn_, kF BK103 hn_⟩))
 replace BK101 := kA BK101 hb
 replace BK102 := kA BK102 hb
 replace BK103 := kA BK103 hb
 replace HB := bS HB hb
 clear HO120 HO123
 clear hb ho0 ho1
 obtain ⟨Ao32, co32, eo32⟩ := Kd.V_slice HO127.out
 (first | subst eo32 | (injection eo32 with f1_ f2_ f3_; have f4_ := f1_.symm; have f5_ := f3_.symm; clear f1_ f2_ f3_; subst f4_; subst f5_))
 obtain ⟨Ao34, co34, eo34⟩ := Kd.V_slice HO130.out
 (first | subst eo34 | (injection eo34 with f1_ f2_ f3_; have f4_ := f1_.symm; have f5_ := f3_.symm; clear f1_ f2_ f3_; subst f4_; subst f5_))
 refine hK.out _ _ ⟨b3 BK101, b3 BK102⟩ (fun hHeld => nm ?_)
 clear hK K
 refine on 16 none (tf 17 0) (fun K hK => ?_)
 obtain ⟨hs31, hfs31⟩ := e0 BK103
 have hns31_0 := NB101_103.out
 have hns31_1 := NB102_103.out
 have hms31_0 := NB103_101.out
 have hms31_1 := NB103_102.out
 obtain ⟨hs33, hfs33⟩ := e1 BK103
 have hns33_0 := NB101_103.out
 have hns33_1 := NB102_103.out
 have hms33_0 := NB103_101.out
 have hms33_1 := NB103_102.out
 obtain ⟨hs35, hfs35⟩ := e2 BK103
 have hns35_0 := NB101_103.out
 have hns35_1 := NB102_103.out
 have hms35_0 := NB103_101.out
 have hms35_1 := NB103_102.out
 refine sk ?_
 refine hK.out _ _ ⟨F3 hHeld.1 NB101_103, F3 hHeld.2 NB102_103⟩ (fun hHeld => ?_)
 clear hK K
 refine done_ (done_of HT_.out (by kernel_rfl)) ?_
 try go_wp2
 refine bodyPost_ret (results_cell_row rfl _ _ gb103 69 #[.bool t124, .slice Ao32 t125.length co32, .slice Ao34 t128.length co34] (0, 0) _ rfl (by exact kU (p3 BK103)) Try.underlying69 rfl (by kernel_rfl)) rfl ?_
 exact ⟨_, _, er, vG (v3p HO127 (fun _ hk => hk.2.2.2)) (fun _ hk => hk.1.1), vG (v3p HO130 (fun _ hk => hk.2.2.2)) (fun _ hk => hk.1.1), hB⟩
def ratio_R_Div.f (k : Nat) (a0_0 : Bool) (l0_1 : List Int) (l0_2 : List Int) (a1_0 : Bool) (l1_1 : List Int) (l1_2 : List Int) : Option (Bool × List Int × List Int × Int) := (ratio_R_low.f k a1_0 l1_1 l1_2).bind fun bt104 => ((nat_Nat_Len.f k bt104.2.1).bind fun t111 => (if t111 = 0 then (some (false, ([] : List Int), ([] : List Int), 30)) else ((ratio_R_Mul.f k a0_0 l0_1 l0_2 bt104.1 bt104.2.2 bt104.2.1).bind fun bt112 => (some (bt112.1, bt112.2.1, bt112.2.2, 0)))))
theorem ratio_R_Div.mono : ∀ a0 a1 a2 a3 a4 a5 k, LeO (ratio_R_Div.f k a0 a1 a2 a3 a4 a5) (ratio_R_Div.f (k + 1) a0 a1 a2 a3 a4 a5) := by
 intro a0 a1 a2 a3 a4 a5 k
 unfold ratio_R_Div.f
 repeat' with_reducible first | exact nat_Nat_Len.mono _ _ | exact ratio_R_Mul.mono _ _ _ _ _ _ _ | exact ratio_R_low.mono _ _ _ _ | exact LeO.refl _ | exact LeO.none _ | refine LeO.ite ?_ ?_ | refine LeO.bind ?_ (fun _ => ?_)
set_option maxHeartbeats 8000000 in
set_option maxRecDepth 100000 in
theorem ratio_R_Div.calls (k : Nat) (a0_0 : Bool) (P0_1_ : Nat → Prop) (A0_1 : Option Addr) (c0_1 : Nat) (l0_1 : List Int) (P0_2_ : Nat → Prop) (A0_2 : Option Addr) (c0_2 : Nat) (l0_2 : List Int) (a1_0 : Bool) (P1_1_ : Nat → Prop) (A1_1 : Option Addr) (c1_1 : Nat) (l1_1 : List Int) (P1_2_ : Nat → Prop) (A1_2 : Option Addr) (c1_2 : Nat) (l1_2 : List Int) (r1 : Bool) (r2 : List Int) (r3 : List Int) (r4 : Int) (w : World) (hs0_1 : Kd.V (Kd.int .u32) 118 w w.heap.size (fun k_ => P0_1_ k_) (.slice A0_1 l0_1.length c0_1) l0_1) (hs0_2 : Kd.V (Kd.int .u32) 118 w w.heap.size (fun k_ => P0_2_ k_) (.slice A0_2 l0_2.length c0_2) l0_2) (hs1_1 : Kd.V (Kd.int .u32) 118 w w.heap.size (fun k_ => P1_1_ k_) (.slice A1_1 l1_1.length c1_1) l1_1) (hs1_2 : Kd.V (Kd.int .u32) 118 w w.heap.size (fun k_ => P1_2_ k_) (.slice A1_2 l1_2.length c1_2) l1_2) (H : ratio_R_Div.f k a0_0 l0_1 l0_2 a1_0 l1_1 l1_2 = some (r1, r2, r3, r4)) :
  Calls Try.prog 92 #[.agg #[.bool a0_0, .slice A0_1 l0_1.length c0_1, .slice A0_2 l0_2.length c0_2], .agg #[.bool a1_0, .slice A1_1 l1_1.length c1_1, .slice A1_2 l1_2.length c1_2]] w fun e w' => ∃ v1_ v2_ : Value, e = .returned (.tuple #[.agg #[.bool r1, v1_, v2_], .int .i64 r4]) ∧ Kd.V (Kd.int .u32) 118 w' w.heap.size (fun k_ => ((P0_1_ k_ ∨ P0_2_ k_ ∨ P1_1_ k_ ∨ P1_2_ k_) ∨ w.heap.size ≤ k_)) v1_ r2 ∧ Kd.V (Kd.int .u32) 118 w' w.heap.size (fun k_ => ((P0_1_ k_ ∨ P0_2_ k_ ∨ P1_1_ k_ ∨ P1_2_ k_) ∨ w.heap.size ≤ k_)) v2_ r3 ∧ Below w.heap.size w w' := by
 have hu69 := Try.underlying69
 have HO0_1 := Aside0.mk (show Kd.V (Kd.int .u32) 118 w w.heap.size (fun k_ => ((P0_1_ k_ ∨ P0_2_ k_ ∨ P1_1_ k_ ∨ P1_2_ k_) ∨ w.heap.size ≤ k_)) (.slice A0_1 l0_1.length c0_1) l0_1 from Kd.V_mono hs0_1 (fun k_ hk => .inl (.inl hk)))
 have HO0_2 := Aside0.mk (show Kd.V (Kd.int .u32) 118 w w.heap.size (fun k_ => ((P0_1_ k_ ∨ P0_2_ k_ ∨ P1_1_ k_ ∨ P1_2_ k_) ∨ w.heap.size ≤ k_)) (.slice A0_2 l0_2.length c0_2) l0_2 from Kd.V_mono hs0_2 (fun k_ hk => .inl (.inr (.inl hk))))
 have HO1_1 := Aside0.mk (show Kd.V (Kd.int .u32) 118 w w.heap.size (fun k_ => ((P0_1_ k_ ∨ P0_2_ k_ ∨ P1_1_ k_ ∨ P1_2_ k_) ∨ w.heap.size ≤ k_)) (.slice A1_1 l1_1.length c1_1) l1_1 from Kd.V_mono hs1_1 (fun k_ hk => .inl (.inr (.inr (.inl hk)))))
 have HO1_2 := Aside0.mk (show Kd.V (Kd.int .u32) 118 w w.heap.size (fun k_ => ((P0_1_ k_ ∨ P0_2_ k_ ∨ P1_1_ k_ ∨ P1_2_ k_) ∨ w.heap.size ≤ k_)) (.slice A1_2 l1_2.length c1_2) l1_2 from Kd.V_mono hs1_2 (fun k_ hk => .inl (.inr (.inr (.inr hk)))))
 have HB := Aside0.mk (Below.refl w.heap.size w)
 unfold ratio_R_Div.f at H
 replace H := bi H
 obtain ⟨⟨t104, t105, t108⟩, A3, H⟩ := H
 try dsimp only at H
 replace H := bi H
 obtain ⟨t111, A4, H⟩ := H
 by_cases c5 : t111 = 0
 ·rw [if_pos c5] at H
  obtain ⟨c5b0, c5b1⟩ := bqT c5
  clear c5
  simp only [Option.some.injEq, Prod.mk.injEq] at H
  obtain ⟨rfl, rfl, rfl, rfl⟩ := H
  go_enter Try.func92, Try.ntmps92
  go_wp2_with (first | ((with_reducible refine gd 2 rfl ?_); refine bx 2 #[.bool a0_0, .slice A0_1 l0_1.length c0_1, .slice A0_2 l0_2.length c0_2] ?_; intro gb101 hg w6 hbox hb; replace HO1_1 := vE HO1_1 hg hb; replace HO1_2 := vE HO1_2 hg hb; have BK101 := Aside0.mk hbox; have GE101 := gB hg HB; replace HB := bA HB hb; clear HO0_1 HO0_2; clear hb hbox hg) | ((with_reducible refine gd 3 rfl ?_); refine bx 3 #[.bool a1_0, .slice A1_1 l1_1.length c1_1, .slice A1_2 l1_2.length c1_2] ?_; intro gb102 hg w7 hbox hb; replace HO1_1 := vE HO1_1 hg hb; replace HO1_2 := vE HO1_2 hg hb; have BK102 := Aside0.mk hbox; have GE102 := gS' hg HB; replace HB := bS HB hb; have NB101_102 := nL hg BK101; have NB102_101 := nR hg BK101; replace BK101 := kA BK101 hb; clear hb hbox hg) | ((with_reducible refine gd 4 rfl ?_); refine bx 4 #[.bool false, .slice none 0 0, .slice none 0 0] ?_; intro gb103 hg w8 hbox hb; replace HO1_1 := vE HO1_1 hg hb; replace HO1_2 := vE HO1_2 hg hb; have BK103 := Aside0.mk hbox; have GE103 := gS' hg HB; replace HB := bS HB hb; have NB101_103 := nL hg BK101; have NB103_101 := nR hg BK101; replace BK101 := kA BK101 hb; have NB102_103 := nL hg BK102; have NB103_102 := nR hg BK102; replace BK102 := kA BK102 hb; clear hb hbox hg; have hnb9 := NB102_101.out; have hnc9 := NB101_102.out; have hnb10 := NB102_103.out; have hnc10 := NB103_102.out; obtain ⟨⟨hcz11_0, hcz11_1, hcz11_2⟩, hfz11_0, hfz11_1, hfz11_2⟩ := cE BK102) | ((with_reducible refine gc 119 rfl ?_); refine gL 7 Try.func119 #[.agg #[.bool a1_0, .slice A1_1 l1_1.length c1_1, .slice A1_2 l1_2.length c1_2]] ?_; (with_reducible refine (ratio_R_low.calls k a1_0 (fun k_ => (((((P0_1_ k_ ∨ P0_2_ k_ ∨ P1_1_ k_ ∨ P1_2_ k_) ∨ w.heap.size ≤ k_) ∧ k_ ≠ gb101) ∧ k_ ≠ gb102) ∧ k_ ≠ gb103)) _ _ l1_1 (fun k_ => (((((P0_1_ k_ ∨ P0_2_ k_ ∨ P1_1_ k_ ∨ P1_2_ k_) ∨ w.heap.size ≤ k_) ∧ k_ ≠ gb101) ∧ k_ ≠ gb102) ∧ k_ ≠ gb103)) _ _ l1_2 t104 t105 t108 _ ?_ ?_ A3.out).mono ?_); exact HO1_1.out; exact HO1_2.out; rintro e w12 ⟨v106, v109, rfl, ho0, ho1, hb⟩; refine ⟨_, rfl, ?_⟩; have HO107 := lw HB (fun k_ => ((P0_1_ k_ ∨ P0_2_ k_ ∨ P1_1_ k_ ∨ P1_2_ k_) ∨ w.heap.size ≤ k_) ∧ k_ ≠ gb101 ∧ k_ ≠ gb102 ∧ k_ ≠ gb103) ho0 (fun k_ hk_ => Or.elim hk_ (fun hs_ => Or.elim hs_ (fun hs_ => ⟨hs_.1.1.1, hs_.1.1.2, hs_.1.2, hs_.2⟩) (fun hs_ => ⟨hs_.1.1.1, hs_.1.1.2, hs_.1.2, hs_.2⟩)) (fun hn_ => ⟨.inr (Nat.le_trans (below_size hB) hn_), kF BK101 hn_, kF BK102 hn_, kF BK103 hn_⟩)); have HO110 := lw HB (fun k_ => ((P0_1_ k_ ∨ P0_2_ k_ ∨ P1_1_ k_ ∨ P1_2_ k_) ∨ w.heap.size ≤ k_) ∧ k_ ≠ gb101 ∧ k_ ≠ gb102 ∧ k_ ≠ gb103) ho1 (fun k_ hk_ => Or.elim hk_ (fun hs_ => Or.elim hs_ (fun hs_ => ⟨hs_.1.1.1, hs_.1.1.2, hs_.1.2, hs_.2⟩) (fun hs_ => ⟨hs_.1.1.1, hs_.1.1.2, hs_.1.2, hs_.2⟩)) (fun hn_ => ⟨.inr (Nat.le_trans (below_size hB) hn_), kF BK101 hn_, kF BK102 hn_, kF BK103 hn_⟩)); replace BK102 := kA BK102 hb; replace BK103 := kA BK103 hb; replace HB := bS HB hb; clear HO1_1 HO1_2 BK101; clear hb ho0 ho1; obtain ⟨⟨hcz13_0, hcz13_1, hcz13_2⟩, hfz13_0, hfz13_1, hfz13_2⟩ := cE BK102; obtain ⟨Ao14, co14, eo14⟩ := Kd.V_slice HO107.out; subst eo14; obtain ⟨Ao15, co15, eo15⟩ := Kd.V_slice HO110.out; subst eo15) | ((with_reducible refine gc 43 rfl ?_); refine gL 10 Try.func43 #[.slice Ao14 t105.length co14] ?_; (with_reducible refine (nat_Nat_Len.calls k _ _ t105 t111 _ ?_ ?_ A4.out).mono ?_); (refine (Kd.V_reads' (e := 118) (base := w.heap.size) (ok := fun k_ => (((P0_1_ k_ ∨ P0_2_ k_ ∨ P1_1_ k_ ∨ P1_2_ k_) ∨ w.heap.size ≤ k_) ∧ (k_ ≠ gb101 ∧ (k_ ≠ gb102 ∧ k_ ≠ gb103)))) (n := t105.length) (c := co14) ?_).2.2; exact (vG (v3p HO107 (fun _ hk => hk.2.2.1)) (fun _ h_ => h_.1))); exact (Kd.V_reads' HO107.out).2.1; rintro e w16 ⟨rfl, hb⟩; refine ⟨_, rfl, ?_⟩; replace BK103 := kB (q3 BK103 NB103_102) hb; replace HB := bS HB hb; clear HO107 HO110 BK102; clear hb; have hnb17 := NB103_101.out; have hnc17 := NB101_103.out; obtain ⟨⟨hcz18_0, hcz18_1, hcz18_2⟩, hfz18_0, hfz18_1, hfz18_2⟩ := cE BK103))
  refine bodyPost_ret (results_ct rfl _ _ gb103 69 #[.bool false, .slice none 0 0, .slice none 0 0] (0, 0) _ rfl (by exact kU (p3 BK103)) Try.underlying69 rfl (by kernel_rfl)) rfl ?_
  exact ⟨_, _, er, Kd.V_mono (Kd.V_nil _ _ _ _ _) (fun k_ hk => by first | exact ⟨(.inr (hk.1)), hk.2⟩ | exact (.inr (hk))), Kd.V_mono (Kd.V_nil _ _ _ _ _) (fun k_ hk => by first | exact ⟨(.inr (hk.1)), hk.2⟩ | exact (.inr (hk))), hB⟩
 rw [if_neg c5] at H
 obtain ⟨c5b0, c5b1⟩ := bqF c5
 replace H := bi H
 obtain ⟨⟨t112, t113, t116⟩, A19, H⟩ := H
 try dsimp only at H
 simp only [Option.some.injEq, Prod.mk.injEq] at H
 obtain ⟨rfl, rfl, rfl, rfl⟩ := H
 go_enter Try.func92, Try.ntmps92
 go_wp2_with (first | ((with_reducible refine gd 2 rfl ?_); refine bx 2 #[.bool a0_0, .slice A0_1 l0_1.length c0_1, .slice A0_2 l0_2.length c0_2] ?_; intro gb101 hg w20 hbox hb; replace HO0_1 := vE HO0_1 hg hb; replace HO0_2 := vE HO0_2 hg hb; replace HO1_1 := vE HO1_1 hg hb; replace HO1_2 := vE HO1_2 hg hb; have BK101 := Aside0.mk hbox; have GE101 := gB hg HB; replace HB := bA HB hb; clear hb hbox hg) | ((with_reducible refine gd 3 rfl ?_); refine bx 3 #[.bool a1_0, .slice A1_1 l1_1.length c1_1, .slice A1_2 l1_2.length c1_2] ?_; intro gb102 hg w21 hbox hb; replace HO0_1 := vE HO0_1 hg hb; replace HO0_2 := vE HO0_2 hg hb; replace HO1_1 := vE HO1_1 hg hb; replace HO1_2 := vE HO1_2 hg hb; have BK102 := Aside0.mk hbox; have GE102 := gS' hg HB; replace HB := bS HB hb; have NB101_102 := nL hg BK101; have NB102_101 := nR hg BK101; replace BK101 := kA BK101 hb; clear hb hbox hg) | ((with_reducible refine gd 4 rfl ?_); refine bx 4 #[.bool false, .slice none 0 0, .slice none 0 0] ?_; intro gb103 hg w22 hbox hb; replace HO0_1 := vE HO0_1 hg hb; replace HO0_2 := vE HO0_2 hg hb; replace HO1_1 := vE HO1_1 hg hb; replace HO1_2 := vE HO1_2 hg hb; have BK103 := Aside0.mk hbox; have GE103 := gS' hg HB; replace HB := bS HB hb; have NB101_103 := nL hg BK101; have NB103_101 := nR hg BK101; replace BK101 := kA BK101 hb; have NB102_103 := nL hg BK102; have NB103_102 := nR hg BK102; replace BK102 := kA BK102 hb; clear hb hbox hg; have hnb23 := NB102_101.out; have hnc23 := NB101_102.out; have hnb24 := NB102_103.out; have hnc24 := NB103_102.out; obtain ⟨⟨hcz25_0, hcz25_1, hcz25_2⟩, hfz25_0, hfz25_1, hfz25_2⟩ := cE BK102) | ((with_reducible refine gc 119 rfl ?_); refine gL 7 Try.func119 #[.agg #[.bool a1_0, .slice A1_1 l1_1.length c1_1, .slice A1_2 l1_2.length c1_2]] ?_; (with_reducible refine (ratio_R_low.calls k a1_0 (fun k_ => (((((P0_1_ k_ ∨ P0_2_ k_ ∨ P1_1_ k_ ∨ P1_2_ k_) ∨ w.heap.size ≤ k_) ∧ k_ ≠ gb101) ∧ k_ ≠ gb102) ∧ k_ ≠ gb103)) _ _ l1_1 (fun k_ => (((((P0_1_ k_ ∨ P0_2_ k_ ∨ P1_1_ k_ ∨ P1_2_ k_) ∨ w.heap.size ≤ k_) ∧ k_ ≠ gb101) ∧ k_ ≠ gb102) ∧ k_ ≠ gb103)) _ _ l1_2 t104 t105 t108 _ ?_ ?_ A3.out).mono ?_); exact HO1_1.out; exact HO1_2.out; rintro e w26 ⟨v106, v109, rfl, ho0, ho1, hb⟩; refine ⟨_, rfl, ?_⟩; replace HO0_1 := vA HO0_1 hb; replace HO0_2 := vA HO0_2 hb; have HO107 := lw HB (fun k_ => ((P0_1_ k_ ∨ P0_2_ k_ ∨ P1_1_ k_ ∨ P1_2_ k_) ∨ w.heap.size ≤ k_) ∧ k_ ≠ gb101 ∧ k_ ≠ gb102 ∧ k_ ≠ gb103) ho0 (fun k_ hk_ => Or.elim hk_ (fun hs_ => Or.elim hs_ (fun hs_ => ⟨hs_.1.1.1, hs_.1.1.2, hs_.1.2, hs_.2⟩) (fun hs_ => ⟨hs_.1.1.1, hs_.1.1.2, hs_.1.2, hs_.2⟩)) (fun hn_ => ⟨.inr (Nat.le_trans (below_size hB) hn_), kF BK101 hn_, kF BK102 hn_, kF BK103 hn_⟩)); have HO110 := lw HB (fun k_ => ((P0_1_ k_ ∨ P0_2_ k_ ∨ P1_1_ k_ ∨ P1_2_ k_) ∨ w.heap.size ≤ k_) ∧ k_ ≠ gb101 ∧ k_ ≠ gb102 ∧ k_ ≠ gb103) ho1 (fun k_ hk_ => Or.elim hk_ (fun hs_ => Or.elim hs_ (fun hs_ => ⟨hs_.1.1.1, hs_.1.1.2, hs_.1.2, hs_.2⟩) (fun hs_ => ⟨hs_.1.1.1, hs_.1.1.2, hs_.1.2, hs_.2⟩)) (fun hn_ => ⟨.inr (Nat.le_trans (below_size hB) hn_), kF BK101 hn_, kF BK102 hn_, kF BK103 hn_⟩)); replace BK101 := kA BK101 hb; replace BK102 := kA BK102 hb; replace BK103 := kA BK103 hb; replace HB := bS HB hb; clear HO1_1 HO1_2; clear hb ho0 ho1; obtain ⟨⟨hcz27_0, hcz27_1, hcz27_2⟩, hfz27_0, hfz27_1, hfz27_2⟩ := cE BK102; obtain ⟨Ao28, co28, eo28⟩ := Kd.V_slice HO107.out; subst eo28; obtain ⟨Ao29, co29, eo29⟩ := Kd.V_slice HO110.out; subst eo29) | ((with_reducible refine gc 43 rfl ?_); refine gL 10 Try.func43 #[.slice Ao28 t105.length co28] ?_; (with_reducible refine (nat_Nat_Len.calls k _ _ t105 t111 _ ?_ ?_ A4.out).mono ?_); (refine (Kd.V_reads' (e := 118) (base := w.heap.size) (ok := fun k_ => (((P0_1_ k_ ∨ P0_2_ k_ ∨ P1_1_ k_ ∨ P1_2_ k_) ∨ w.heap.size ≤ k_) ∧ (k_ ≠ gb101 ∧ (k_ ≠ gb102 ∧ k_ ≠ gb103)))) (n := t105.length) (c := co28) ?_).2.2; exact (vG (v3p HO107 (fun _ hk => hk.2.2.1)) (fun _ h_ => h_.1))); exact (Kd.V_reads' HO107.out).2.1; rintro e w30 ⟨rfl, hb⟩; refine ⟨_, rfl, ?_⟩; replace HO0_1 := vF hb (v3p HO0_1 (fun _ hk => hk.1.2)) (fun _ h_ => h_.1); replace HO0_2 := vF hb (v3p HO0_2 (fun _ hk => hk.1.2)) (fun _ h_ => h_.1); replace HO107 := vF hb (v3p HO107 (fun _ hk => hk.2.2.1)) (fun _ h_ => h_.1); replace HO110 := vF hb (v3p HO110 (fun _ hk => hk.2.2.1)) (fun _ h_ => h_.1); replace BK101 := kB (q3 BK101 NB101_102) hb; replace BK102 := kB (p3 BK102) hb; replace BK103 := kB (q3 BK103 NB103_102) hb; replace HB := bS HB hb; clear hb; have hnb31 := NB101_103.out; have hnc31 := NB103_101.out; obtain ⟨⟨hcz32_0, hcz32_1, hcz32_2⟩, hfz32_0, hfz32_1, hfz32_2⟩ := cE BK101; obtain ⟨⟨hcz33_0, hcz33_1, hcz33_2⟩, hfz33_0, hfz33_1, hfz33_2⟩ := cE BK102) | ((with_reducible refine gc 90 rfl ?_); refine gL 21 Try.func90 #[.agg #[.bool a0_0, .slice A0_1 l0_1.length c0_1, .slice A0_2 l0_2.length c0_2], .agg #[.bool t104, .slice Ao29 t108.length co29, .slice Ao28 t105.length co28]] ?_; (with_reducible refine (ratio_R_Mul.calls k a0_0 (fun k_ => (((((P0_1_ k_ ∨ P0_2_ k_ ∨ P1_1_ k_ ∨ P1_2_ k_) ∨ w.heap.size ≤ k_) ∧ k_ ≠ gb101) ∧ k_ ≠ gb102) ∧ k_ ≠ gb103)) _ _ l0_1 (fun k_ => (((((P0_1_ k_ ∨ P0_2_ k_ ∨ P1_1_ k_ ∨ P1_2_ k_) ∨ w.heap.size ≤ k_) ∧ k_ ≠ gb101) ∧ k_ ≠ gb102) ∧ k_ ≠ gb103)) _ _ l0_2 t104 (fun k_ => (((P0_1_ k_ ∨ P0_2_ k_ ∨ P1_1_ k_ ∨ P1_2_ k_) ∨ w.heap.size ≤ k_) ∧ (k_ ≠ gb101 ∧ (k_ ≠ gb102 ∧ k_ ≠ gb103)))) _ _ t108 (fun k_ => (((P0_1_ k_ ∨ P0_2_ k_ ∨ P1_1_ k_ ∨ P1_2_ k_) ∨ w.heap.size ≤ k_) ∧ (k_ ≠ gb101 ∧ (k_ ≠ gb102 ∧ k_ ≠ gb103)))) _ _ t105 t112 t113 t116 _ ?_ ?_ ?_ ?_ A19.out).mono ?_); exact HO0_1.out; exact HO0_2.out; exact HO110.out; exact HO107.out; rintro e w34 ⟨v114, v117, rfl, ho0, ho1, hb⟩; refine ⟨_, rfl, ?_⟩; have HO115 := lw HB (fun k_ => ((P0_1_ k_ ∨ P0_2_ k_ ∨ P1_1_ k_ ∨ P1_2_ k_) ∨ w.heap.size ≤ k_) ∧ k_ ≠ gb101 ∧ k_ ≠ gb102 ∧ k_ ≠ gb103) ho0 (fun k_ hk_ => Or.elim hk_ (fun hs_ => Or.elim hs_ (fun hs_ => ⟨hs_.1.1.1, hs_.1.1.2, hs_.1.2, hs_.2⟩) (fun hs_ => Or.elim hs_ (fun hs_ => ⟨hs_.1.1.1, hs_.1.1.2, hs_.1.2, hs_.2⟩) (fun hs_ => Or.elim hs_ id id))) (fun hn_ => ⟨.inr (Nat.le_trans (below_size hB) hn_), kF BK101 hn_, kF BK102 hn_, kF BK103 hn_⟩)); have HO118 := lw HB (fun k_ => ((P0_1_ k_ ∨ P0_2_ k_ ∨ P1_1_ k_ ∨ P1_2_ k_) ∨ w.heap.size ≤ k_) ∧ k_ ≠ gb101 ∧ k_ ≠ gb102 ∧ k_ ≠ gb103) ho1 (fun k_ hk_ => Or.elim hk_ (fun hs_ => Or.elim hs_ (fun hs_ => ⟨hs_.1.1.1, hs_.1.1.2, hs_.1.2, hs_.2⟩) (fun hs_ => Or.elim hs_ (fun hs_ => ⟨hs_.1.1.1, hs_.1.1.2, hs_.1.2, hs_.2⟩) (fun hs_ => Or.elim hs_ id id))) (fun hn_ => ⟨.inr (Nat.le_trans (below_size hB) hn_), kF BK101 hn_, kF BK102 hn_, kF BK103 hn_⟩)); replace BK103 := kA BK103 hb; replace HB := bS HB hb; clear HO0_1 HO0_2 HO107 HO110 BK101 BK102; clear hb ho0 ho1; obtain ⟨⟨hcz35_0, hcz35_1, hcz35_2⟩, hfz35_0, hfz35_1, hfz35_2⟩ := cE BK103; obtain ⟨Ao36, co36, eo36⟩ := Kd.V_slice HO115.out; subst eo36; obtain ⟨Ao37, co37, eo37⟩ := Kd.V_slice HO118.out; subst eo37))
 refine bodyPost_ret (results_ct rfl _ _ gb103 69 #[.bool t112, .slice Ao36 t113.length co36, .slice Ao37 t116.length co37] (0, 0) _ rfl (by exact kU (p3 BK103)) Try.underlying69 rfl (by kernel_rfl)) rfl ?_
 exact ⟨_, _, er, vG (v3p HO115 (fun _ hk => hk.2.2.2)) (fun _ hk => hk.1.1), vG (v3p HO118 (fun _ hk => hk.2.2.2)) (fun _ hk => hk.1.1), hB⟩
def ratio_R_Abs.f (k : Nat) (a0_0 : Bool) (l0_1 : List Int) (l0_2 : List Int) : Option (Bool × List Int × List Int) := (ratio_low.f k false l0_1 l0_2).bind fun bt103 => (some (bt103.1, bt103.2.1, bt103.2.2))
theorem ratio_R_Abs.mono : ∀ a0 a1 a2 k, LeO (ratio_R_Abs.f k a0 a1 a2) (ratio_R_Abs.f (k + 1) a0 a1 a2) := by
 intro a0 a1 a2 k
 unfold ratio_R_Abs.f
 repeat' with_reducible first | exact ratio_low.mono _ _ _ _ | exact LeO.refl _ | exact LeO.none _ | refine LeO.ite ?_ ?_ | refine LeO.bind ?_ (fun _ => ?_)
set_option maxHeartbeats 8000000 in
set_option maxRecDepth 100000 in
theorem ratio_R_Abs.calls (k : Nat) (a0_0 : Bool) (P0_1_ : Nat → Prop) (A0_1 : Option Addr) (c0_1 : Nat) (l0_1 : List Int) (P0_2_ : Nat → Prop) (A0_2 : Option Addr) (c0_2 : Nat) (l0_2 : List Int) (r1 : Bool) (r2 : List Int) (r3 : List Int) (w : World) (hs0_1 : Kd.V (Kd.int .u32) 118 w w.heap.size (fun k_ => P0_1_ k_) (.slice A0_1 l0_1.length c0_1) l0_1) (hs0_2 : Kd.V (Kd.int .u32) 118 w w.heap.size (fun k_ => P0_2_ k_) (.slice A0_2 l0_2.length c0_2) l0_2) (H : ratio_R_Abs.f k a0_0 l0_1 l0_2 = some (r1, r2, r3)) :
  Calls Try.prog 97 #[.agg #[.bool a0_0, .slice A0_1 l0_1.length c0_1, .slice A0_2 l0_2.length c0_2]] w fun e w' => ∃ v1_ v2_ : Value, e = .returned (.agg #[.bool r1, v1_, v2_]) ∧ Kd.V (Kd.int .u32) 118 w' w.heap.size (fun k_ => ((P0_1_ k_ ∨ P0_2_ k_) ∨ w.heap.size ≤ k_)) v1_ r2 ∧ Kd.V (Kd.int .u32) 118 w' w.heap.size (fun k_ => ((P0_1_ k_ ∨ P0_2_ k_) ∨ w.heap.size ≤ k_)) v2_ r3 ∧ Below w.heap.size w w' := by
 have hu69 := Try.underlying69
 have HO0_1 := Aside0.mk (show Kd.V (Kd.int .u32) 118 w w.heap.size (fun k_ => ((P0_1_ k_ ∨ P0_2_ k_) ∨ w.heap.size ≤ k_)) (.slice A0_1 l0_1.length c0_1) l0_1 from Kd.V_mono hs0_1 (fun k_ hk => .inl (.inl hk)))
 have HO0_2 := Aside0.mk (show Kd.V (Kd.int .u32) 118 w w.heap.size (fun k_ => ((P0_1_ k_ ∨ P0_2_ k_) ∨ w.heap.size ≤ k_)) (.slice A0_2 l0_2.length c0_2) l0_2 from Kd.V_mono hs0_2 (fun k_ hk => .inl (.inr hk)))
 have HB := Aside0.mk (Below.refl w.heap.size w)
 unfold ratio_R_Abs.f at H
 replace H := bi H
 obtain ⟨⟨t103, t104, t107⟩, A2, H⟩ := H
 try dsimp only at H
 simp only [Option.some.injEq, Prod.mk.injEq] at H
 obtain ⟨rfl, rfl, rfl⟩ := H
 go_enter Try.func97, Try.ntmps97
 go_wp2_with (first | ((with_reducible refine gd 1 rfl ?_); refine bx 1 #[.bool a0_0, .slice A0_1 l0_1.length c0_1, .slice A0_2 l0_2.length c0_2] ?_; intro gb101 hg w3 hbox hb; replace HO0_1 := vE HO0_1 hg hb; replace HO0_2 := vE HO0_2 hg hb; have BK101 := Aside0.mk hbox; have GW101 := gB hg HB; have GE101 := gB hg HB; replace HB := bA HB hb; clear hb hbox hg) | ((with_reducible refine gd 2 rfl ?_); refine bx 2 #[.bool false, .slice none 0 0, .slice none 0 0] ?_; intro gb102 hg w4 hbox hb; replace HO0_1 := vE HO0_1 hg hb; replace HO0_2 := vE HO0_2 hg hb; have BK102 := Aside0.mk hbox; have GW102 := gS' hg HB; have GE102 := gS' hg HB; replace HB := bS HB hb; have NB101_102 := nL hg BK101; have NB102_101 := nR hg BK101; replace BK101 := kA BK101 hb; clear hb hbox hg; have hnb5 := NB101_102.out; have hnc5 := NB102_101.out; obtain ⟨⟨hcz6_0, hcz6_1, hcz6_2⟩, hfz6_0, hfz6_1, hfz6_2⟩ := cE BK101) | ((with_reducible refine gc 126 rfl ?_); refine gL 7 Try.func126 #[.bool false, .slice A0_1 l0_1.length c0_1, .slice A0_2 l0_2.length c0_2] ?_; (with_reducible refine (ratio_low.calls k false (fun k_ => ((((P0_1_ k_ ∨ P0_2_ k_) ∨ w.heap.size ≤ k_) ∧ k_ ≠ gb101) ∧ k_ ≠ gb102)) _ _ l0_1 (fun k_ => ((((P0_1_ k_ ∨ P0_2_ k_) ∨ w.heap.size ≤ k_) ∧ k_ ≠ gb101) ∧ k_ ≠ gb102)) _ _ l0_2 t103 t104 t107 _ ?_ ?_ A2.out).mono ?_); exact HO0_1.out; exact HO0_2.out; rintro e w7 ⟨v105, v108, rfl, ho0, ho1, hb⟩; refine ⟨_, rfl, ?_⟩; replace HO0_1 := vA HO0_1 hb; replace HO0_2 := vA HO0_2 hb; have HO106 := lw HB (fun k_ => ((P0_1_ k_ ∨ P0_2_ k_) ∨ w.heap.size ≤ k_) ∧ k_ ≠ gb101 ∧ k_ ≠ gb102) ho0 (fun k_ hk_ => Or.elim hk_ (fun hs_ => Or.elim hs_ (fun hs_ => ⟨hs_.1.1, hs_.1.2, hs_.2⟩) (fun hs_ => ⟨hs_.1.1, hs_.1.2, hs_.2⟩)) (fun hn_ => ⟨.inr (Nat.le_trans (below_size hB) hn_), kF BK101 hn_, kF BK102 hn_⟩)); have HO109 := lw HB (fun k_ => ((P0_1_ k_ ∨ P0_2_ k_) ∨ w.heap.size ≤ k_) ∧ k_ ≠ gb101 ∧ k_ ≠ gb102) ho1 (fun k_ hk_ => Or.elim hk_ (fun hs_ => Or.elim hs_ (fun hs_ => ⟨hs_.1.1, hs_.1.2, hs_.2⟩) (fun hs_ => ⟨hs_.1.1, hs_.1.2, hs_.2⟩)) (fun hn_ => ⟨.inr (Nat.le_trans (below_size hB) hn_), kF BK101 hn_, kF BK102 hn_⟩)); replace BK101 := kA BK101 hb; replace BK102 := kA BK102 hb; replace HB := bS HB hb; clear hb ho0 ho1; obtain ⟨⟨hcz8_0, hcz8_1, hcz8_2⟩, hfz8_0, hfz8_1, hfz8_2⟩ := cE BK102; obtain ⟨Ao9, co9, eo9⟩ := Kd.V_slice HO106.out; subst eo9; obtain ⟨Ao10, co10, eo10⟩ := Kd.V_slice HO109.out; subst eo10))
 refine bodyPost_ret (results_cell_row rfl _ _ gb102 69 #[.bool t103, .slice Ao9 t104.length co9, .slice Ao10 t107.length co10] (0, 0) _ rfl (by exact kU (p3 BK102)) Try.underlying69 rfl (by kernel_rfl)) rfl ?_
 exact ⟨_, _, er, vG (v3p HO106 (fun _ hk => hk.2.2)) (fun _ hk => hk.1.1), vG (v3p HO109 (fun _ hk => hk.2.2)) (fun _ hk => hk.1.1), hB⟩
def ratio_R_Len.f (k : Nat) (a0_0 : Bool) (l0_1 : List Int) (l0_2 : List Int) : Option (Int) := (ratio_R_low.f k a0_0 l0_1 l0_2).bind fun bt102 => ((nat_Nat_Len.f k bt102.2.1).bind fun t109 => ((nat_Nat_Len.f k bt102.2.2).bind fun t110 => (some (wrap64 (t109 + t110)))))
theorem ratio_R_Len.mono : ∀ a0 a1 a2 k, LeO (ratio_R_Len.f k a0 a1 a2) (ratio_R_Len.f (k + 1) a0 a1 a2) := by
 intro a0 a1 a2 k
 unfold ratio_R_Len.f
 repeat' with_reducible first | exact nat_Nat_Len.mono _ _ | exact ratio_R_low.mono _ _ _ _ | exact LeO.refl _ | exact LeO.none _ | refine LeO.ite ?_ ?_ | refine LeO.bind ?_ (fun _ => ?_)
def ratio_R_Len.T2 : Bool × List (List Nat × List Nat) := (true, [([], []), ([0], [0]), ([1], [1]), ([], []), ([3], [3]), ([4, 2], [4]), ([2, 5], [2, 5]), ([6, 5, 0, 1, 2, 3, 4, 5, 6], [6])])
def ratio_R_Len.B2 : List Nat := [0, 1, 3, 0, 8, 31, 63, 127]
theorem ratio_R_Len.tab2 : rtab .any (opsOf Try.f99 2) = ratio_R_Len.T2 := by kernel_rfl
theorem ratio_R_Len.bits2 : waitsOk ratio_R_Len.T2.2 ratio_R_Len.B2 = true := by kernel_rfl
set_option maxHeartbeats 8000000 in
set_option maxRecDepth 100000 in
theorem ratio_R_Len.calls (k : Nat) (a0_0 : Bool) (A0_1 : Option Addr) (c0_1 : Nat) (l0_1 : List Int) (A0_2 : Option Addr) (c0_2 : Nat) (l0_2 : List Int) (r : Int) (w : World) (hr0_1 : Kd.C (Kd.int .u32) w A0_1 l0_1.length l0_1) (hc0_1 : l0_1.length ≤ c0_1) (hr0_2 : Kd.C (Kd.int .u32) w A0_2 l0_2.length l0_2) (hc0_2 : l0_2.length ≤ c0_2) (H : ratio_R_Len.f k a0_0 l0_1 l0_2 = some r) :
  Calls Try.prog 99 #[.agg #[.bool a0_0, .slice A0_1 l0_1.length c0_1, .slice A0_2 l0_2.length c0_2]] w fun e w' => e = .returned (.int .i64 r) ∧ Below w.heap.size w w' := by
 have hu69 := Try.underlying69
 have HR0_1 := Aside0.mk hr0_1
 have HC0_1 := Aside0.mk hc0_1
 clear hr0_1 hc0_1
 have HR0_2 := Aside0.mk hr0_2
 have HC0_2 := Aside0.mk hc0_2
 clear hr0_2 hc0_2
 have HB := Aside0.mk (Below.refl w.heap.size w)
 unfold ratio_R_Len.f at H
 replace H := bi H
 obtain ⟨⟨t102, t103, t106⟩, A2, H⟩ := H
 try dsimp only at H
 replace H := bi H
 obtain ⟨t109, A3, H⟩ := H
 replace H := bi H
 obtain ⟨t110, A4, H⟩ := H
 obtain rfl := Option.some.inj H
 go_enter Try.func99, Try.ntmps99
 try go_wp2_with (first | ((with_reducible refine gd 1 rfl ?_); refine bx 1 #[.bool a0_0, .slice A0_1 l0_1.length c0_1, .slice A0_2 l0_2.length c0_2] ?_; intro gb101 hg w5 hbox hb; have BK101 := Aside0.mk hbox; have GW101 := gB hg HB; have GE101 := gB hg HB; replace HB := bA HB hb; clear hb hbox hg; obtain ⟨⟨hcz6_0, hcz6_1, hcz6_2⟩, hfz6_0, hfz6_1, hfz6_2⟩ := cE BK101) | ((with_reducible refine gc 119 rfl ?_); refine gL 4 Try.func119 #[.agg #[.bool a0_0, .slice A0_1 l0_1.length c0_1, .slice A0_2 l0_2.length c0_2]] ?_; (with_reducible refine (ratio_R_low.calls k a0_0 (fun k_ => k_ < w.heap.size) _ _ l0_1 (fun k_ => k_ < w.heap.size) _ _ l0_2 t102 t103 t106 _ ?_ ?_ A2.out).mono ?_); exact Kd.V_mk HC0_1.out (Kd.F_below (Kd.C_F (Kd.heap_int .u32) HR0_1.out) hB); exact Kd.V_mk HC0_2.out (Kd.F_below (Kd.C_F (Kd.heap_int .u32) HR0_2.out) hB); rintro e w7 ⟨v104, v107, rfl, ho0, ho1, hb⟩; refine ⟨_, rfl, ?_⟩; have HO105 := lw HB (fun k_ => k_ ≠ gb101) ho0 (fun k_ hk_ => Or.elim hk_ (fun hs_ => Or.elim hs_ (fun hs_ => gw hs_ GW101) (fun hs_ => gw hs_ GW101)) (fun hn_ => kF BK101 hn_)); have HO108 := lw HB (fun k_ => k_ ≠ gb101) ho1 (fun k_ hk_ => Or.elim hk_ (fun hs_ => Or.elim hs_ (fun hs_ => gw hs_ GW101) (fun hs_ => gw hs_ GW101)) (fun hn_ => kF BK101 hn_)); replace BK101 := kA BK101 hb; replace HB := bS HB hb; clear hb ho0 ho1; obtain ⟨⟨hcz8_0, hcz8_1, hcz8_2⟩, hfz8_0, hfz8_1, hfz8_2⟩ := cE BK101; obtain ⟨Ao9, co9, eo9⟩ := Kd.V_slice HO105.out; subst eo9; obtain ⟨Ao10, co10, eo10⟩ := Kd.V_slice HO108.out; subst eo10))
 generalize hw : (((w7.setCell ⟨gb101, 0, none⟩ (.bool t102)).setCell ⟨gb101, 1, none⟩ (.slice Ao9 t103.length co9)).setCell ⟨gb101, 2, none⟩ (.slice Ao10 t106.length co10)) = w11
 replace hw := hw.symm
 replace HO105 := vW hw (fun k_ => k_ ≠ gb101) (v3p HO105 (fun _ hk => hk)) (fun _ hk => hk.1)
 replace HO108 := vW hw (fun k_ => k_ ≠ gb101) (v3p HO108 (fun _ hk => hk)) (fun _ hk => hk.1)
 replace BK101 := kW hw (p3 BK101)
 replace HB := bW HB hw
 clear hw
 replace HO105 := vd HO105
 replace HO108 := vd HO108
 replace BK101 := kd BK101
 replace HB := bd HB
 refine st (S := fun w' => B3 w' gb101 (.bool t102) (.slice Ao9 t103.length co9) (.slice Ao10 t106.length co10)) 8 [] (tf 0 8) (b3 BK101) (fun hHeld => ?_); refine with_tabW ratio_R_Len.tab2 ratio_R_Len.bits2 (fun HT_ HW_ => ?_)
 generalize w11.drew = w12 at HO105 HO108 BK101 HB hHeld ⊢
 refine pu 0 5 (tf 1 7) ?_
 refine pu 3 8 #[true, false, false, true, false, false, false, false] ?_
 refine tk 1 6 #[true, true, false, true, false, false, false, false] hHeld ?_
 refine tk 4 9 #[true, true, false, true, true, false, false, false] hHeld ?_
 refine on 2 (some 7) (tf 5 3) (fun K hK => ?_)
 refine gS Try.func43 #[.slice Ao9 t103.length co9] ?_
 with_reducible refine (nat_Nat_Len.calls k _ _ t103 t109 _ ?_ ?_ A3.out).mono ?_
 exact cup ((Kd.V_reads' HO105.out).2.2)
 exact (Kd.V_reads' HO105.out).2.1
 rintro e w13 ⟨rfl, hb⟩
 refine ⟨_, rfl, ?_⟩
 replace HO105 := vA HO105 hb
 replace HO108 := vA HO108 hb
 replace BK101 := kA BK101 hb
 replace HB := bS HB hb
 clear hb
 refine hK.out _ _ (b3 BK101) (fun hHeld => nm ?_)
 clear hK K
 refine on 5 (some 10) (tf 6 2) (fun K hK => ?_)
 refine gS Try.func43 #[.slice Ao10 t106.length co10] ?_
 with_reducible refine (nat_Nat_Len.calls k _ _ t106 t110 _ ?_ ?_ A4.out).mono ?_
 exact cup ((Kd.V_reads' HO108.out).2.2)
 exact (Kd.V_reads' HO108.out).2.1
 rintro e w14 ⟨rfl, hb⟩
 refine ⟨_, rfl, ?_⟩
 replace HO105 := vA HO105 hb
 replace HO108 := vA HO108 hb
 replace BK101 := kA BK101 hb
 replace HB := bS HB hb
 clear hb
 refine hK.out _ _ (b3 BK101) (fun hHeld => nm ?_)
 clear hK K
 refine pu 6 11 (tf 7 1) ?_
 refine pu 7 2 (tf 8 0) ?_
 refine done_ (done_of HT_.out (by kernel_rfl)) ?_
 try go_wp2
 go_ret
 exact ⟨er, hB⟩
def ratio_New.f (k : Nat) (a0 : Bool) (l1 : List Int) (l2 : List Int) : Option (Bool × List Int × List Int × Int) := (nat_Nat_Len.f k l2).bind fun t102 => (if t102 = 0 then (some (false, ([] : List Int), ([] : List Int), 30)) else ((ratio_low.f k a0 l1 l2).bind fun bt103 => (some (bt103.1, bt103.2.1, bt103.2.2, 0))))
theorem ratio_New.mono : ∀ a0 a1 a2 k, LeO (ratio_New.f k a0 a1 a2) (ratio_New.f (k + 1) a0 a1 a2) := by
 intro a0 a1 a2 k
 unfold ratio_New.f
 repeat' with_reducible first | exact nat_Nat_Len.mono _ _ | exact ratio_low.mono _ _ _ _ | exact LeO.refl _ | exact LeO.none _ | refine LeO.ite ?_ ?_ | refine LeO.bind ?_ (fun _ => ?_)
set_option maxHeartbeats 8000000 in
set_option maxRecDepth 100000 in
theorem ratio_New.calls (k : Nat) (a0 : Bool) (P1_ : Nat → Prop) (A1 : Option Addr) (c1 : Nat) (l1 : List Int) (P2_ : Nat → Prop) (A2 : Option Addr) (c2 : Nat) (l2 : List Int) (r1 : Bool) (r2 : List Int) (r3 : List Int) (r4 : Int) (w : World) (hs1 : Kd.V (Kd.int .u32) 118 w w.heap.size (fun k_ => P1_ k_) (.slice A1 l1.length c1) l1) (hs2 : Kd.V (Kd.int .u32) 118 w w.heap.size (fun k_ => P2_ k_) (.slice A2 l2.length c2) l2) (H : ratio_New.f k a0 l1 l2 = some (r1, r2, r3, r4)) :
  Calls Try.prog 102 #[.bool a0, .slice A1 l1.length c1, .slice A2 l2.length c2] w fun e w' => ∃ v1_ v2_ : Value, e = .returned (.tuple #[.agg #[.bool r1, v1_, v2_], .int .i64 r4]) ∧ Kd.V (Kd.int .u32) 118 w' w.heap.size (fun k_ => ((P1_ k_ ∨ P2_ k_) ∨ w.heap.size ≤ k_)) v1_ r2 ∧ Kd.V (Kd.int .u32) 118 w' w.heap.size (fun k_ => ((P1_ k_ ∨ P2_ k_) ∨ w.heap.size ≤ k_)) v2_ r3 ∧ Below w.heap.size w w' := by
 have hu69 := Try.underlying69
 have HO1 := Aside0.mk (show Kd.V (Kd.int .u32) 118 w w.heap.size (fun k_ => ((P1_ k_ ∨ P2_ k_) ∨ w.heap.size ≤ k_)) (.slice A1 l1.length c1) l1 from Kd.V_mono hs1 (fun k_ hk => .inl (.inl hk)))
 have HO2 := Aside0.mk (show Kd.V (Kd.int .u32) 118 w w.heap.size (fun k_ => ((P1_ k_ ∨ P2_ k_) ∨ w.heap.size ≤ k_)) (.slice A2 l2.length c2) l2 from Kd.V_mono hs2 (fun k_ hk => .inl (.inr hk)))
 have HB := Aside0.mk (Below.refl w.heap.size w)
 unfold ratio_New.f at H
 replace H := bi H
 obtain ⟨t102, A4, H⟩ := H
 by_cases c5 : t102 = 0
 ·rw [if_pos c5] at H
  obtain ⟨c5b0, c5b1⟩ := bqT c5
  clear c5
  simp only [Option.some.injEq, Prod.mk.injEq] at H
  obtain ⟨rfl, rfl, rfl, rfl⟩ := H
  go_enter Try.func102, Try.ntmps102
  go_wp2_with (first | ((with_reducible refine gd 6 rfl ?_); refine bx 6 #[.bool false, .slice none 0 0, .slice none 0 0] ?_; intro gb101 hg w6 hbox hb; replace HO1 := vE HO1 hg hb; replace HO2 := vE HO2 hg hb; have BK101 := Aside0.mk hbox; have GW101 := gB hg HB; have GE101 := gB hg HB; replace HB := bA HB hb; clear hb hbox hg) | ((with_reducible refine gc 43 rfl ?_); refine gL 9 Try.func43 #[.slice A2 l2.length c2] ?_; (with_reducible refine (nat_Nat_Len.calls k _ _ l2 t102 _ ?_ ?_ A4.out).mono ?_); exact cup ((Kd.V_reads' HO2.out).2.2); exact (Kd.V_reads' HO2.out).2.1; rintro e w7 ⟨rfl, hb⟩; refine ⟨_, rfl, ?_⟩; replace HO1 := vA HO1 hb; replace HO2 := vA HO2 hb; replace BK101 := kA BK101 hb; replace HB := bS HB hb; clear hb; obtain ⟨⟨hcz8_0, hcz8_1, hcz8_2⟩, hfz8_0, hfz8_1, hfz8_2⟩ := cE BK101))
  refine bodyPost_ret (results_ct rfl _ _ gb101 69 #[.bool false, .slice none 0 0, .slice none 0 0] (0, 0) _ rfl (by exact kU (p3 BK101)) Try.underlying69 rfl (by kernel_rfl)) rfl ?_
  exact ⟨_, _, er, Kd.V_mono (Kd.V_nil _ _ _ _ _) (fun k_ hk => by first | exact ⟨(.inr (hk.1)), hk.2⟩ | exact (.inr (hk))), Kd.V_mono (Kd.V_nil _ _ _ _ _) (fun k_ hk => by first | exact ⟨(.inr (hk.1)), hk.2⟩ | exact (.inr (hk))), hB⟩
 rw [if_neg c5] at H
 obtain ⟨c5b0, c5b1⟩ := bqF c5
 replace H := bi H
 obtain ⟨⟨t103, t104, t107⟩, A9, H⟩ := H
 try dsimp only at H
 simp only [Option.some.injEq, Prod.mk.injEq] at H
 obtain ⟨rfl, rfl, rfl, rfl⟩ := H
 go_enter Try.func102, Try.ntmps102
 go_wp2_with (first | ((with_reducible refine gd 6 rfl ?_); refine bx 6 #[.bool false, .slice none 0 0, .slice none 0 0] ?_; intro gb101 hg w10 hbox hb; replace HO1 := vE HO1 hg hb; replace HO2 := vE HO2 hg hb; have BK101 := Aside0.mk hbox; have GW101 := gB hg HB; have GE101 := gB hg HB; replace HB := bA HB hb; clear hb hbox hg) | ((with_reducible refine gc 43 rfl ?_); refine gL 9 Try.func43 #[.slice A2 l2.length c2] ?_; (with_reducible refine (nat_Nat_Len.calls k _ _ l2 t102 _ ?_ ?_ A4.out).mono ?_); exact cup ((Kd.V_reads' HO2.out).2.2); exact (Kd.V_reads' HO2.out).2.1; rintro e w11 ⟨rfl, hb⟩; refine ⟨_, rfl, ?_⟩; replace HO1 := vA HO1 hb; replace HO2 := vA HO2 hb; replace BK101 := kA BK101 hb; replace HB := bS HB hb; clear hb) | ((with_reducible refine gc 126 rfl ?_); refine gL 15 Try.func126 #[.bool a0, .slice A1 l1.length c1, .slice A2 l2.length c2] ?_; (with_reducible refine (ratio_low.calls k a0 (fun k_ => (((P1_ k_ ∨ P2_ k_) ∨ w.heap.size ≤ k_) ∧ k_ ≠ gb101)) _ _ l1 (fun k_ => (((P1_ k_ ∨ P2_ k_) ∨ w.heap.size ≤ k_) ∧ k_ ≠ gb101)) _ _ l2 t103 t104 t107 _ ?_ ?_ A9.out).mono ?_); exact HO1.out; exact HO2.out; rintro e w12 ⟨v105, v108, rfl, ho0, ho1, hb⟩; refine ⟨_, rfl, ?_⟩; replace HO1 := vA HO1 hb; replace HO2 := vA HO2 hb; have HO106 := lw HB (fun k_ => ((P1_ k_ ∨ P2_ k_) ∨ w.heap.size ≤ k_) ∧ k_ ≠ gb101) ho0 (fun k_ hk_ => Or.elim hk_ (fun hs_ => Or.elim hs_ id id) (fun hn_ => ⟨.inr (Nat.le_trans (below_size hB) hn_), kF BK101 hn_⟩)); have HO109 := lw HB (fun k_ => ((P1_ k_ ∨ P2_ k_) ∨ w.heap.size ≤ k_) ∧ k_ ≠ gb101) ho1 (fun k_ hk_ => Or.elim hk_ (fun hs_ => Or.elim hs_ id id) (fun hn_ => ⟨.inr (Nat.le_trans (below_size hB) hn_), kF BK101 hn_⟩)); replace BK101 := kA BK101 hb; replace HB := bS HB hb; clear hb ho0 ho1; obtain ⟨⟨hcz13_0, hcz13_1, hcz13_2⟩, hfz13_0, hfz13_1, hfz13_2⟩ := cE BK101; obtain ⟨Ao14, co14, eo14⟩ := Kd.V_slice HO106.out; subst eo14; obtain ⟨Ao15, co15, eo15⟩ := Kd.V_slice HO109.out; subst eo15))
 refine bodyPost_ret (results_ct rfl _ _ gb101 69 #[.bool t103, .slice Ao14 t104.length co14, .slice Ao15 t107.length co15] (0, 0) _ rfl (by exact kU (p3 BK101)) Try.underlying69 rfl (by kernel_rfl)) rfl ?_
 exact ⟨_, _, er, vG (v3p HO106 (fun _ hk => hk.2)) (fun _ hk => hk.1.1), vG (v3p HO109 (fun _ hk => hk.2)) (fun _ hk => hk.1.1), hB⟩

end Go.Proofs.Ytagbnkbhobmgjaa.Fn
end
section
/- The chapter's own trial of the numbers. -/
set_option linter.unusedVariables false
namespace Go.Proofs.Ytagbnkbhobmgjaa.Pure
open Go.RowKit Go.Proofs.Ytagbnkbhobmgjaa.Fn Go.Proofs.YtagbnkbhobmgjaaW.PrintWords Go.Proofs.YtagbnkbhobmgjaaW.PrintMore Go.Proofs.YtagbnkbhobmgjaaW.PrintLast
end Go.Proofs.Ytagbnkbhobmgjaa.Pure
end
