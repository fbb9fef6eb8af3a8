/- Rational numbers are made in lowest terms, as the document says: of two naturals, of an integer, of an integer times a power of two. Part 14 of 19. -/
import Derived.Test.YtagbnkbhobmgjaaRatioMakesE
import Derived.Test.YtagbnkbhobmgjaaRatioMakesL
import Derived.Test.YtagbnkbhobmgjaaRatioMakesM
import Derived.Test.YtagbnkbhobmgjaaRatioMakesK
section
namespace Go.Proofs.Ytagbnkbhobmgjaa.Fn
open Go.RowKit Go.Proofs.YtagbnkbhobmgjaaW.PrintWords Go.Proofs.YtagbnkbhobmgjaaW.PrintLast Go.Proofs.YtagbnkbhobmgjaaW.PrintMore
attribute [local go_sem] max2_int min2_int max_two min_two max_three min_three max_four min_four   -- for this text's walks alone
set_option linter.unusedVariables false
set_option linter.unusedSimpArgs false
mutual
def flyballlaw03_RatioMakes.j0 : Nat → Bool → List Int → List Int → Int → Int → Int → Bool → Bool → Option (Bool)
 | 0, _, _, _, _, _, _, _, _ => none
 | k + 1, x0, x1, x2, x3, x4, x5, x13, x37 => if x37 = true then (some x13) else ((flyballref02_Bits.f k x1).bind fun t102 => ((flyballref02_Bits.f k x2).bind fun t105 => ((ratio_New.f k x0 x1 x2).bind fun bt108 => (if ((bt108.2.2.2 == 0) != (decide ((t105.length : Int) > 0))) = true then (flyballlaw03_RatioMakes.j1 k x0 x3 x4 x5 x13 t102 t105 bt108.2.2.2 true bt108.1 bt108.2.1 bt108.2.2.1) else (if bt108.2.2.2 = 0 then (flyballlaw03_RatioMakes.j1 k x0 x3 x4 x5 x13 t102 t105 bt108.2.2.2 false bt108.1 bt108.2.1 bt108.2.2.1) else (if bt108.2.2.2 = 30 then (flyballlaw03_RatioMakes.j1 k x0 x3 x4 x5 x13 t102 t105 bt108.2.2.2 (decide ((bt108.2.2.1.length : Int) > 0)) bt108.1 bt108.2.1 bt108.2.2.1) else (flyballlaw03_RatioMakes.j1 k x0 x3 x4 x5 x13 t102 t105 bt108.2.2.2 true bt108.1 bt108.2.1 bt108.2.2.1)))))))
def flyballlaw03_RatioMakes.j1 : Nat → Bool → Int → Int → Int → Bool → List Bool → List Bool → Int → Bool → Bool → List Int → List Int → Option (Bool)
 | 0, _, _, _, _, _, _, _, _, _, _, _, _ => none
 | k + 1, x0, x3, x4, x5, x13, x14, x15, x17, x69, x117000, x117001, x117002 => if x69 = true then (some false) else (if x17 = 0 then ((flyballref03_Low.f k x0 x14 x15).bind fun bt117 => ((flyballlaw03_is.f k x117000 x117001 x117002 bt117.1 bt117.2.1 bt117.2.2).bind fun t124 => (flyballlaw03_RatioMakes.j2 k x0 x3 x4 x5 x13 t124))) else (flyballlaw03_RatioMakes.j2 k x0 x3 x4 x5 x13 true))
def flyballlaw03_RatioMakes.j2 : Nat → Bool → Int → Int → Int → Bool → Bool → Option (Bool)
 | 0, _, _, _, _, _, _ => none
 | k + 1, x0, x3, x4, x5, x13, x18 => if x3 < 0 then (flyballlaw03_RatioMakes.j3 k x0 x3 x4 x5 x13 x18 (IntKind.u64.wrap (-(IntKind.u64.wrap (x3))))) else (flyballlaw03_RatioMakes.j3 k x0 x3 x4 x5 x13 x18 (IntKind.u64.wrap (x3)))
def flyballlaw03_RatioMakes.j3 : Nat → Bool → Int → Int → Int → Bool → Bool → Int → Option (Bool)
 | 0, _, _, _, _, _, _, _ => none
 | k + 1, x0, x3, x4, x5, x13, x18, x19 => (flyballref01_Of.f k (([1] : List Int))).bind fun t128 => ((ratio_Int.f k x3).bind fun bt131 => ((flyballref01_Of.f k (([x19] : List Int))).bind fun t141 => ((flyballref03_Low.f k (decide (x3 < 0)) t141 t128).bind fun bt144 => ((flyballlaw03_is.f k bt131.1 bt131.2.1 bt131.2.2 bt144.1 bt144.2.1 bt144.2.2).bind fun t151 => ((ratio_Dyad.f k x0 x4 x5).bind fun bt152 => (if x5 < (-8192) then (flyballlaw03_RatioMakes.j4 k x0 x4 x5 x13 x18 t128 t151 bt152.2.2.2 true bt152.1 bt152.2.1 bt152.2.2.1) else (flyballlaw03_RatioMakes.j4 k x0 x4 x5 x13 x18 t128 t151 bt152.2.2.2 (decide (x5 > 8192)) bt152.1 bt152.2.1 bt152.2.2.1)))))))
def flyballlaw03_RatioMakes.j4 : Nat → Bool → Int → Int → Bool → Bool → List Bool → Bool → Int → Bool → Bool → List Int → List Int → Option (Bool)
 | 0, _, _, _, _, _, _, _, _, _, _, _, _ => none
 | k + 1, x0, x4, x5, x13, x18, x20, x21, x23, x110, x161000, x161001, x161002 => if x110 = true then (if x13 = true then (if x18 = true then (if x21 = true then (if x23 = 31 then (some ((x161002.length : Int) == 0)) else (some false)) else (some false)) else (some false)) else (some false)) else (if x5 < (-200) then (flyballlaw03_RatioMakes.j5 k x0 x4 x5 x13 x18 x20 x21 x23 true x161000 x161001 x161002) else (flyballlaw03_RatioMakes.j5 k x0 x4 x5 x13 x18 x20 x21 x23 (decide (x5 > 200)) x161000 x161001 x161002))
def flyballlaw03_RatioMakes.j5 : Nat → Bool → Int → Int → Bool → Bool → List Bool → Bool → Int → Bool → Bool → List Int → List Int → Option (Bool)
 | 0, _, _, _, _, _, _, _, _, _, _, _, _ => none
 | k + 1, x0, x4, x5, x13, x18, x20, x21, x23, x133, x161000, x161001, x161002 => if x133 = true then (if x13 = true then (if x18 = true then (if x21 = true then (some (x23 == 0)) else (some false)) else (some false)) else (some false)) else ((flyballref01_Of.f k (([x4] : List Int))).bind fun t164 => ((flyballref01_Shl.f k t164 (mx x5 0)).bind fun t167 => ((flyballref01_Shl.f k x20 (mx (wrap64 (-x5)) 0)).bind fun t170 => ((flyballref03_Low.f k x0 t167 t170).bind fun bt173 => ((flyballlaw03_is.f k x161000 x161001 x161002 bt173.1 bt173.2.1 bt173.2.2).bind fun t181 => (if x13 = true then (if x18 = true then (if x21 = true then (if t181 = true then (some (x23 == 0)) else (some false)) else (some false)) else (some false)) else (some false)))))))
end
def flyballlaw03_RatioMakes.f (k : Nat) (a0 : Bool) (l1 : List Int) (l2 : List Int) (a3 : Int) (a4 : Int) (a5 : Int) : Option (Bool) := (flyballlaw03_works.f k).bind fun t101 => (if t101 = true then (if (l1.length : Int) > 4 then (flyballlaw03_RatioMakes.j0 k a0 l1 l2 a3 a4 a5 t101 true) else (flyballlaw03_RatioMakes.j0 k a0 l1 l2 a3 a4 a5 t101 (decide ((l2.length : Int) > 4)))) else (some false))
def flyballlaw03_RatioMakes.T11 : Bool × List (List Nat × List Nat) := (true, [([], []), ([0], [0]), ([1], [1]), ([2], [2]), ([2], [2]), ([2], [2]), ([2], [2]), ([4, 5, 6, 2, 2], [2, 4, 5, 6]), ([3, 7, 7, 2], [2, 3, 7]), ([2, 8], [2, 8]), ([9, 8, 0, 1, 2, 3, 4, 5, 6, 7, 8, 9], [9])])
def flyballlaw03_RatioMakes.B11 : List Nat := [0, 1, 3, 7, 7, 7, 7, 119, 255, 511, 1023]
theorem flyballlaw03_RatioMakes.tab11 : rtab .any (opsOf Try.f21 11) = flyballlaw03_RatioMakes.T11 := by kernel_rfl
theorem flyballlaw03_RatioMakes.bits11 : waitsOk flyballlaw03_RatioMakes.T11.2 flyballlaw03_RatioMakes.B11 = true := by kernel_rfl
set_option maxHeartbeats 8000000 in
set_option maxRecDepth 100000 in
theorem flyballlaw03_RatioMakes.calls (k : Nat) (a0 : Bool) (A1 : Option Addr) (c1 : Nat) (l1 : List Int) (A2 : Option Addr) (c2 : Nat) (l2 : List Int) (a3 : Int) (a4 : Int) (a5 : Int) (w : World) (hr1 : Kd.C (Kd.int .u32) w A1 l1.length l1) (hc1 : l1.length ≤ c1) (hr2 : Kd.C (Kd.int .u32) w A2 l2.length l2) (hc2 : l2.length ≤ c2) (H : flyballlaw03_RatioMakes.f k a0 l1 l2 a3 a4 a5 = some true) :
  Calls Try.prog 21 #[.bool a0, .slice A1 l1.length c1, .slice A2 l2.length c2, .int .i64 a3, .int .u64 a4, .int .i64 a5] w fun e w' => e = .returned (.bool true) ∧ Below w.heap.size w w' := by
 have hu69 := Try.underlying69
 have hu92 := Try.underlying92
 have HR1 := Aside0.mk hr1
 have HC1 := Aside0.mk hc1
 clear hr1 hc1
 have HR2 := Aside0.mk hr2
 have HC2 := Aside0.mk hc2
 clear hr2 hc2
 have HB := Aside0.mk (Below.refl w.heap.size w)
 unfold flyballlaw03_RatioMakes.f at H
 replace H := bi H
 obtain ⟨t101, A7, H⟩ := H
 by_cases c8 : t101 = true
 ·subst c8
  replace H := ifT H
  have HC9 := Aside0.mk H
  clear H
  go_enter Try.func21, Try.ntmps21
  go_upto_region 4 with (first | ((with_reducible refine gc 54 rfl ?_); refine gL 27 Try.func54 #[] ?_; (with_reducible refine (flyballlaw03_works.calls k  true _ A7.out).mono ?_); rintro e w10 ⟨rfl, hb⟩; refine ⟨_, rfl, ?_⟩; replace HB := bA HB hb; clear hb))
  (try simp only [Act.put, List.setIfInBounds_toArray, List.set_cons_zero, List.set_cons_succ])
  go_cut [37] (fun v37 wc => ∃ (kq : Nat) (x37_8 : Bool), v37 = .bool x37_8 ∧ Aside0 (flyballlaw03_RatioMakes.j0 kq a0 l1 l2 a3 a4 a5 true x37_8 = some true) ∧ Aside0 (kq ≤ k) ∧ Aside0 (Below w.heap.size w wc))
  case first =>
   have H := HC9.out
   clear HC9
   by_cases c11 : (l1.length : Int) > 4
   rotate_left
   ·rw [if_neg c11] at H
    have c11b0 : decide (4 < (l1.length : Int)) = false := decide_eq_false c11
    have c11b1 : decide (4 < l1.length) = false := decide_eq_false (by omega)
    clear c11
    (first | rw [c11b0] | (simp only [i64_w, i32_w]; rw [c11b0]) | skip)
    have H' := Aside0.mk H
    clear H
    go_wp2
    go_meet
    case rel => exact ⟨_, (decide ((l2.length : Int) > 4)), rS, H', ⟨by first | omega | exact Nat.le_refl _⟩, ⟨bup HB.out⟩⟩
   rw [if_pos c11] at H
   have c11b0 : decide (4 < (l1.length : Int)) = true := decide_eq_true c11
   have c11b1 : decide (4 < l1.length) = true := decide_eq_true (by omega)
   clear c11
   (first | rw [c11b0] | (simp only [i64_w, i32_w]; rw [c11b0]) | skip)
   have H' := Aside0.mk H
   clear H
   go_wp2
   go_meet
   case rel => exact ⟨_, (true), rS, H', ⟨by first | omega | exact Nat.le_refl _⟩, ⟨bup HB.out⟩⟩
  case rest =>
   clear HC9
   try clear c1
   try clear c2
   try clear p2
   try clear c5
   try clear c8
   try clear c11
   try clear c11b0
   try clear c11b1
   obtain ⟨kq, x37_8, rfl, HA, HJ8, HB⟩ := hcut
   cases kq with
   | zero => exact absurd HA.out (by simp [flyballlaw03_RatioMakes.j0])
   | succ kj8 =>
    have H := HA.out
    clear HA
    simp only [flyballlaw03_RatioMakes.j0] at H
    by_cases c12 : x37_8 = true
    ·subst c12
     replace H := ifT H
     clear H
     go_wp2
     go_ret
     exact ⟨er, bup HB.out⟩
    ·replace c12 := Bool.eq_false_iff.mpr c12
     subst c12
     have H1 : ((flyballref02_Bits.f kj8 l1).bind fun t102 => ((flyballref02_Bits.f kj8 l2).bind fun t105 => ((ratio_New.f kj8 a0 l1 l2).bind fun bt108 => (if ((bt108.2.2.2 == 0) != (decide ((t105.length : Int) > 0))) = true then (flyballlaw03_RatioMakes.j1 kj8 a0 a3 a4 a5 true t102 t105 bt108.2.2.2 true bt108.1 bt108.2.1 bt108.2.2.1) else (if bt108.2.2.2 = 0 then (flyballlaw03_RatioMakes.j1 kj8 a0 a3 a4 a5 true t102 t105 bt108.2.2.2 false bt108.1 bt108.2.1 bt108.2.2.1) else (if bt108.2.2.2 = 30 then (flyballlaw03_RatioMakes.j1 kj8 a0 a3 a4 a5 true t102 t105 bt108.2.2.2 (decide ((bt108.2.2.1.length : Int) > 0)) bt108.1 bt108.2.1 bt108.2.2.1) else (flyballlaw03_RatioMakes.j1 kj8 a0 a3 a4 a5 true t102 t105 bt108.2.2.2 true bt108.1 bt108.2.1 bt108.2.2.1))))))) = some true := by rw [if_neg (show ¬ (false = true) by decide)] at H; first | done | exact H
     clear H
     have H := H1
     clear H1
     replace H := bi H
     obtain ⟨t102, A13, H⟩ := H
     replace H := bi H
     obtain ⟨t105, A14, H⟩ := H
     replace H := bi H
     obtain ⟨⟨t108, t109, t112, t115⟩, A15, H⟩ := H
     try dsimp only at H
     have HC16 := Aside0.mk H
     clear H
     go_upto_region 9 with (first | ((with_reducible refine gc 25 rfl ?_); refine gL 40 Try.func25 #[.slice A1 l1.length c1] ?_; (with_reducible refine (flyballref02_Bits.calls kj8 _ _ l1 t102 _ ?_ ?_ A13.out).mono ?_); exact Kd.C_below HR1.out (bup HB.out); exact HC1.out; rintro e w17 ⟨v103, rfl, ho0, hb⟩; refine ⟨_, rfl, ?_⟩; have HO104 := Aside0.mk (Kd.R_lower ho0 (below_size (bup HB.out))); replace HB := bA HB hb; clear hb ho0) | ((with_reducible refine gc 25 rfl ?_); refine gL 42 Try.func25 #[.slice A2 l2.length c2] ?_; (with_reducible refine (flyballref02_Bits.calls kj8 _ _ l2 t105 _ ?_ ?_ A14.out).mono ?_); exact Kd.C_below HR2.out (bup HB.out); exact HC2.out; rintro e w18 ⟨v106, rfl, ho0, hb⟩; refine ⟨_, rfl, ?_⟩; have HO107 := Aside0.mk (Kd.R_lower (Kd.R_new' ho0 (Kd.R_lt (rup HO104.out))) (below_size (bup HB.out))); replace HO104 := Aside0.mk (Kd.R_elder' (rup HO104.out) (Kd.R_base ho0) hb); replace HB := bA HB hb; clear hb ho0) | ((with_reducible refine gc 102 rfl ?_); refine gL 47 Try.func102 #[.bool a0, .slice A1 l1.length c1, .slice A2 l2.length c2] ?_; (with_reducible refine (ratio_New.calls kj8 a0 (fun k_ => k_ < w.heap.size) _ _ l1 (fun k_ => k_ < w.heap.size) _ _ l2 t108 t109 t112 t115 _ ?_ ?_ A15.out).mono ?_); exact Kd.V_mk HC1.out (Kd.F_below (Kd.C_F (Kd.heap_int .u32) HR1.out) (bup HB.out)); exact Kd.V_mk HC2.out (Kd.F_below (Kd.C_F (Kd.heap_int .u32) HR2.out) (bup HB.out)); rintro e w19 ⟨v110, v113, rfl, ho0, ho1, hb⟩; refine ⟨_, rfl, ?_⟩; have HO111 := lw HB (fun k_ => some k_ ≠ (v103 : Value).ownBlock ∧ some k_ ≠ (v106 : Value).ownBlock) ho0 (fun k_ hk_ => Or.elim hk_ (fun hs_ => Or.elim hs_ (fun hs_ => ⟨fun e_ => Nat.not_le.2 hs_ (Kd.R_base HO104.out k_ e_.symm), fun e_ => Nat.not_le.2 hs_ (Kd.R_base HO107.out k_ e_.symm)⟩) (fun hs_ => ⟨fun e_ => Nat.not_le.2 hs_ (Kd.R_base HO104.out k_ e_.symm), fun e_ => Nat.not_le.2 hs_ (Kd.R_base HO107.out k_ e_.symm)⟩)) (fun hn_ => ⟨Kd.fresh' (Kd.R_lt (rup HO104.out)) k_ hn_, Kd.fresh' (Kd.R_lt (rup HO107.out)) k_ hn_⟩)); have HO114 := lw HB (fun k_ => some k_ ≠ (v103 : Value).ownBlock ∧ some k_ ≠ (v106 : Value).ownBlock) ho1 (fun k_ hk_ => Or.elim hk_ (fun hs_ => Or.elim hs_ (fun hs_ => ⟨fun e_ => Nat.not_le.2 hs_ (Kd.R_base HO104.out k_ e_.symm), fun e_ => Nat.not_le.2 hs_ (Kd.R_base HO107.out k_ e_.symm)⟩) (fun hs_ => ⟨fun e_ => Nat.not_le.2 hs_ (Kd.R_base HO104.out k_ e_.symm), fun e_ => Nat.not_le.2 hs_ (Kd.R_base HO107.out k_ e_.symm)⟩)) (fun hn_ => ⟨Kd.fresh' (Kd.R_lt (rup HO104.out)) k_ hn_, Kd.fresh' (Kd.R_lt (rup HO107.out)) k_ hn_⟩)); replace HO104 := rA HO104 hb; replace HO107 := rA HO107 hb; replace HB := bA HB hb; clear hb ho0 ho1) | ((with_reducible refine gd 16 rfl ?_); (try (refine gate_guard (by rfl) ?_; dsimp only)); refine bx 16 #[.bool false, .slice none 0 0, .slice none 0 0] ?_; intro gb116 hg w20 hbox hb; replace HO104 := rA HO104 hb; replace HO107 := rA HO107 hb; replace HO111 := vE HO111 hg hb; replace HO114 := vE HO114 hg hb; have BK116 := Aside0.mk hbox; have GW116 := gB hg HB; have GE116 := gB hg HB; replace HB := bA HB hb; clear hb hbox hg; obtain ⟨⟨hcz21_0, hcz21_1, hcz21_2⟩, hfz21_0, hfz21_1, hfz21_2⟩ := cE BK116; obtain ⟨Ao22, co22, eo22⟩ := Kd.V_slice HO111.out; subst eo22; obtain ⟨Ao23, co23, eo23⟩ := Kd.V_slice HO114.out; subst eo23))
     (try simp only [Act.put, List.setIfInBounds_toArray, List.set_cons_zero, List.set_cons_succ])
     go_cut [69] (fun v69 wc => ∃ (kq : Nat) (x69_15 : Bool), v69 = .bool x69_15 ∧ Aside0 (flyballlaw03_RatioMakes.j1 kq a0 a3 a4 a5 true t102 t105 t115 x69_15 t108 t109 t112 = some true) ∧ Aside0 (kq ≤ kj8) ∧ Aside0 (Kd.R Kd.bool 4 wc w.heap.size (fun k_ => some k_ ≠ (v106 : Value).ownBlock) v103 t102) ∧ Aside0 (Kd.R Kd.bool 4 wc w.heap.size (fun k_ => some k_ ≠ (v103 : Value).ownBlock) v106 t105) ∧ Aside0 (Kd.V (Kd.int .u32) 118 wc w.heap.size (fun k_ => some k_ ≠ (v103 : Value).ownBlock ∧ some k_ ≠ (v106 : Value).ownBlock ∧ k_ ≠ gb116) (.slice Ao22 t109.length co22) t109) ∧ Aside0 (Kd.V (Kd.int .u32) 118 wc w.heap.size (fun k_ => some k_ ≠ (v103 : Value).ownBlock ∧ some k_ ≠ (v106 : Value).ownBlock ∧ k_ ≠ gb116) (.slice Ao23 t112.length co23) t112) ∧ Aside0 (wc.heap[gb116]? = some (.cells #[.bool t108, (.slice Ao22 t109.length co22), (.slice Ao23 t112.length co23)] 69 (0, 0))) ∧ Aside0 (Below w.heap.size w wc))
     case first =>
      have H := HC16.out
      clear HC16
      by_cases c24 : ((t115 == 0) != (decide ((t105.length : Int) > 0))) = true
      ·rw [if_pos c24] at H
       have c24b0 : ((t115 == 0) != (decide ((t105.length : Int) > 0))) = true := c24
       have c24b8 : ((t115 == 0) != decide (0 < (t105.length : Int))) = true := c24b0
       have c24b9 : ((t115 == 0) != decide (0 < t105.length)) = true := by rw [show decide (0 < t105.length) = decide (0 < (t105.length : Int)) from by simp]; exact c24b8
       have c24b7 : ((t115 == 0) = decide (0 < t105.length)) = False := eq_false (by simpa using c24b9)
       clear c24b8 c24b9
       (try (have c24b1 : decide ((t115 == 0) = (decide ((t105.length : Int) > 0))) = false := by simpa using c24))
       (try (have c24b2 : ((t115 == 0) == (decide ((t105.length : Int) > 0))) = false := by simpa using c24))
       (try (have c24b3 : ¬ ((t115 == 0) = (decide ((t105.length : Int) > 0))) := by simpa using c24))
       clear c24
       (first | rw [c24b0] | (simp only [i64_w, i32_w]; rw [c24b0]) | skip)
       have H' := Aside0.mk H
       clear H
       obtain ⟨Ao25, co25, eo25⟩ := Kd.R_slice HO107.out
       subst eo25
       go_wp2
       go_meet
       case rel => exact ⟨_, (true), rS, H', ⟨by have := HJ8.out; first | omega | exact Nat.le_refl _⟩, ⟨rG (r3t HO104 BK116) (fun _ hk => hk.1.2)⟩, ⟨rG (r3t HO107 BK116) (fun _ hk => hk.1.2)⟩, ⟨vG (v3p HO111 (fun _ hk => hk.2)) (fun _ hk => by simp only [hk, and_self, ne_eq, not_false_eq_true])⟩, ⟨vG (v3p HO114 (fun _ hk => hk.2)) (fun _ hk => by simp only [hk, and_self, ne_eq, not_false_eq_true])⟩, ⟨by exact kU (p3 BK116)⟩, ⟨hB⟩⟩
      rw [if_neg c24] at H
      have c24b0 : ((t115 == 0) != (decide ((t105.length : Int) > 0))) = false := by simpa using c24
      have c24b8 : ((t115 == 0) != decide (0 < (t105.length : Int))) = false := c24b0
      have c24b9 : ((t115 == 0) != decide (0 < t105.length)) = false := by rw [show decide (0 < t105.length) = decide (0 < (t105.length : Int)) from by simp]; exact c24b8
      have c24b7 : ((t115 == 0) = decide (0 < t105.length)) = True := eq_true (by simpa using c24b9)
      clear c24b8 c24b9
      (try (have c24b1 : decide ((t115 == 0) = (decide ((t105.length : Int) > 0))) = true := by simpa using c24))
      (try (have c24b2 : ((t115 == 0) == (decide ((t105.length : Int) > 0))) = true := by simpa using c24))
      clear c24
      (first | rw [c24b0] | (simp only [i64_w, i32_w]; rw [c24b0]) | skip)
      by_cases c26 : t115 = 0
      ·rw [if_pos c26] at H
       obtain ⟨c26b0, c26b1⟩ := bqT c26
       have c26b7 : (0 < t105.length) = True := eq_true (by have h_ := of_eq_true c24b7; rw [c26b0] at h_; exact of_decide_eq_true h_.symm)
       have c26b8 : decide (0 < t105.length) = true := decide_eq_true (of_eq_true c26b7)
       clear c26
       have H' := Aside0.mk H
       clear H
       obtain ⟨Ao27, co27, eo27⟩ := Kd.R_slice HO107.out
       subst eo27
       go_wp2
       go_meet
       case rel => exact ⟨_, (false), rS, H', ⟨by have := HJ8.out; first | omega | exact Nat.le_refl _⟩, ⟨rG (r3t HO104 BK116) (fun _ hk => hk.1.2)⟩, ⟨rG (r3t HO107 BK116) (fun _ hk => hk.1.2)⟩, ⟨vG (v3p HO111 (fun _ hk => hk.2)) (fun _ hk => by simp only [hk, and_self, ne_eq, not_false_eq_true])⟩, ⟨vG (v3p HO114 (fun _ hk => hk.2)) (fun _ hk => by simp only [hk, and_self, ne_eq, not_false_eq_true])⟩, ⟨by exact kU (p3 BK116)⟩, ⟨hB⟩⟩
      rw [if_neg c26] at H
      obtain ⟨c26b0, c26b1⟩ := bqF c26
      have c26b7 : (0 < t105.length) = False := eq_false (by have h_ := of_eq_true c24b7; rw [c26b0] at h_; exact of_decide_eq_false h_.symm)
      have c26b8 : decide (0 < t105.length) = false := decide_eq_false (of_eq_false c26b7)
      by_cases c28 : t115 = 30
      rotate_left
      ·rw [if_neg c28] at H
       obtain ⟨c28b0, c28b1⟩ := bqF c28
       have H' := Aside0.mk H
       clear H
       obtain ⟨Ao31, co31, eo31⟩ := Kd.R_slice HO107.out
       subst eo31
       go_wp2
       go_meet
       case rel => exact ⟨_, (true), rS, H', ⟨by have := HJ8.out; first | omega | exact Nat.le_refl _⟩, ⟨rG (r3t HO104 BK116) (fun _ hk => hk.1.2)⟩, ⟨rG (r3t HO107 BK116) (fun _ hk => hk.1.2)⟩, ⟨vG (v3p HO111 (fun _ hk => hk.2)) (fun _ hk => by simp only [hk, and_self, ne_eq, not_false_eq_true])⟩, ⟨vG (v3p HO114 (fun _ hk => hk.2)) (fun _ hk => by simp only [hk, and_self, ne_eq, not_false_eq_true])⟩, ⟨by exact kU (p3 BK116)⟩, ⟨hB⟩⟩
      rw [if_pos c28] at H
      obtain ⟨c28b0, c28b1⟩ := bqT c28
      clear c28
      have H' := Aside0.mk H
      clear H
      obtain ⟨Ao29, co29, eo29⟩ := Kd.R_slice HO107.out
      subst eo29
      obtain ⟨⟨hcz30_0, hcz30_1, hcz30_2⟩, hfz30_0, hfz30_1, hfz30_2⟩ := cE BK116
      go_wp2
      go_meet
      case rel => exact ⟨_, (decide ((t112.length : Int) > 0)), rS, H', ⟨by have := HJ8.out; first | omega | exact Nat.le_refl _⟩, ⟨rG (r3t HO104 BK116) (fun _ hk => hk.1.2)⟩, ⟨rG (r3t HO107 BK116) (fun _ hk => hk.1.2)⟩, ⟨vG (v3p HO111 (fun _ hk => hk.2)) (fun _ hk => by simp only [hk, and_self, ne_eq, not_false_eq_true])⟩, ⟨vG (v3p HO114 (fun _ hk => hk.2)) (fun _ hk => by simp only [hk, and_self, ne_eq, not_false_eq_true])⟩, ⟨by exact kU (p3 BK116)⟩, ⟨hB⟩⟩
     case rest =>
      clear HC16
      try clear c1
      try clear c2
      try clear p2
      try clear c5
      try clear c8
      try clear c10
      try clear c11
      try clear c11b0
      try clear c11b1
      try clear c12
      try clear c21
      try clear c24
      try clear c24b0
      try clear c24b1
      try clear c24b2
      try clear c25
      try clear c26
      try clear c26b0
      try clear c26b1
      try clear c28
      try clear c28b0
      try clear c28b1
      try clear hcz21_0
      try clear hcz21_1
      try clear hcz21_2
      try clear hcz30_0
      try clear hcz30_1
      try clear hcz30_2
      try clear hfz21_0
      try clear hfz21_1
      try clear hfz21_2
      try clear hfz30_0
      try clear hfz30_1
      try clear hfz30_2
      try clear p2
      obtain ⟨kq, x69_15, rfl, HA, HJ15, HO_14, HO_15, HO_117001, HO_117002, BK116, HB⟩ := hcut
      cases kq with
      | zero => exact absurd HA.out (by simp [flyballlaw03_RatioMakes.j1])
      | succ kj15 =>
       have H := HA.out
       clear HA
       simp only [flyballlaw03_RatioMakes.j1] at H
       by_cases c32 : x69_15 = true
       ·subst c32
        replace H := ifT H
        exact absurd H (by simp)
       ·replace c32 := Bool.eq_false_iff.mpr c32
        subst c32
        have H1 : (if t115 = 0 then ((flyballref03_Low.f kj15 a0 t102 t105).bind fun bt117 => ((flyballlaw03_is.f kj15 t108 t109 t112 bt117.1 bt117.2.1 bt117.2.2).bind fun t124 => (flyballlaw03_RatioMakes.j2 kj15 a0 a3 a4 a5 true t124))) else (flyballlaw03_RatioMakes.j2 kj15 a0 a3 a4 a5 true true)) = some true := by rw [if_neg (show ¬ (false = true) by decide)] at H; first | done | exact H
        clear H
        have H := H1
        clear H1
        have HC33 := Aside0.mk H
        clear H
        go_upto_region 11 with (fail)
        go_cut [18] (fun v18 wc => ∃ (kq : Nat) (x18_32 : Bool), v18 = .bool x18_32 ∧ Aside0 (flyballlaw03_RatioMakes.j2 kq a0 a3 a4 a5 true x18_32 = some true) ∧ Aside0 (kq ≤ kj15) ∧ Aside0 (Kd.V (Kd.int .u32) 118 wc w.heap.size (fun k_ => k_ ≠ gb116) (.slice Ao22 t109.length co22) t109) ∧ Aside0 (Kd.V (Kd.int .u32) 118 wc w.heap.size (fun k_ => k_ ≠ gb116) (.slice Ao23 t112.length co23) t112) ∧ Aside0 (wc.heap[gb116]? = some (.cells #[.bool t108, (.slice Ao22 t109.length co22), (.slice Ao23 t112.length co23)] 69 (0, 0))) ∧ Aside0 (Below w.heap.size w wc))
        case first =>
         have H := HC33.out
         clear HC33
         by_cases c34 : t115 = 0
         rotate_left
         ·rw [if_neg c34] at H
          obtain ⟨c34b0, c34b1⟩ := bqF c34
          (first | rw [c34b0] | (simp only [i64_w, i32_w]; rw [c34b0]) | skip)
          have H' := Aside0.mk H
          clear H
          try go_wp2
          replace HO_14 := Aside0.mk (Kd.R_drew HO_14.out)
          replace HO_15 := Aside0.mk (Kd.R_drew HO_15.out)
          replace HO_117001 := Aside0.mk (Kd.V_drew HO_117001.out)
          replace HO_117002 := Aside0.mk (Kd.V_drew HO_117002.out)
          replace BK116 := kd BK116
          replace HB := bd HB
          refine start_ (n := 11) (S := fun w' => True) (ds := []) (tf 0 11) (by kernel_rfl) rfl rfl trivial (fun hHeld => ?_); refine with_tabW flyballlaw03_RatioMakes.tab11 flyballlaw03_RatioMakes.bits11 (fun HT_ HW_ => ?_)
          generalize wc.drew = w44 at HO_14 HO_15 HO_117001 HO_117002 BK116 HB hHeld ⊢
          refine pu 0 70 (tf 1 10) ?_
          refine pu 1 71 (tf 2 9) ?_
          refine pu 2 72 (tf 3 8) ?_
          refine pure_ (i := 3) (N := some 73) (v := undef) (a' := ?_) (tf 4 7) rfl rfl (any_of HT_.out (by kernel_rfl)) (fun _ _ _ h => h) (Or.inr ⟨by rfl, rfl⟩) ?_ ?_
          rotate_left
          ·simp only [Act.put, List.setIfInBounds_toArray, List.set_cons_zero, List.set_cons_succ, i64_w, i32_w]
           rfl
          refine pure_ (i := 4) (N := some 74) (v := undef) (a' := ?_) (tf 5 6) rfl rfl (any_of HT_.out (by kernel_rfl)) (fun _ _ _ h => h) (Or.inr ⟨by rfl, rfl⟩) ?_ ?_
          rotate_left
          ·simp only [Act.put, List.setIfInBounds_toArray, List.set_cons_zero, List.set_cons_succ, i64_w, i32_w]
           rfl
          refine pure_ (i := 5) (N := some 75) (v := undef) (a' := ?_) (tf 6 5) rfl rfl (any_of HT_.out (by kernel_rfl)) (fun _ _ _ h => h) (Or.inr ⟨by rfl, rfl⟩) ?_ ?_
          rotate_left
          ·simp only [Act.put, List.setIfInBounds_toArray, List.set_cons_zero, List.set_cons_succ, i64_w, i32_w]
           rfl
          refine pure_ (i := 6) (N := some 76) (v := undef) (a' := ?_) (tf 7 4) rfl rfl (any_of HT_.out (by kernel_rfl)) (fun _ _ _ h => h) (Or.inr ⟨by rfl, rfl⟩) ?_ ?_
          rotate_left
          ·simp only [Act.put, List.setIfInBounds_toArray, List.set_cons_zero, List.set_cons_succ, i64_w, i32_w]
           rfl
          refine pure_ (i := 7) (N := some 77) (v := undef) (a' := ?_) (tf 8 3) rfl rfl (any_of HT_.out (by kernel_rfl)) (fun _ _ _ h => h) (Or.inr ⟨by rfl, rfl⟩) ?_ ?_
          rotate_left
          ·simp only [Act.put, List.setIfInBounds_toArray, List.set_cons_zero, List.set_cons_succ, i64_w, i32_w]
           rfl
          refine pure_ (i := 8) (N := some 78) (v := undef) (a' := ?_) (tf 9 2) rfl rfl (any_of HT_.out (by kernel_rfl)) (fun _ _ _ h => h) (Or.inr ⟨by rfl, rfl⟩) ?_ ?_
          rotate_left
          ·simp only [Act.put, List.setIfInBounds_toArray, List.set_cons_zero, List.set_cons_succ, i64_w, i32_w]
           rfl
          refine pu 9 79 (tf 10 1) ?_
          refine pu 10 18 (tf 11 0) ?_
          refine done_ (done_of HT_.out (by kernel_rfl)) ?_
          try go_wp2
          go_meet
          case rel => exact ⟨_, (true), rS, H', ⟨by have := HJ8.out; have := HJ15.out; first | omega | exact Nat.le_refl _⟩, ⟨by (with_reducible repeat (first | apply Kd.V_alloc | apply Kd.V_drewN | apply Kd.V_drew)); exact Kd.V_mono HO_117001.out (fun _ hk => hk.2.2)⟩, ⟨by (with_reducible repeat (first | apply Kd.V_alloc | apply Kd.V_drewN | apply Kd.V_drew)); exact Kd.V_mono HO_117002.out (fun _ hk => hk.2.2)⟩, ⟨by exact kU BK116⟩, ⟨hB⟩⟩
         rw [if_pos c34] at H
         obtain ⟨c34b0, c34b1⟩ := bqT c34
         clear c34
         (first | rw [c34b0] | (simp only [i64_w, i32_w]; rw [c34b0]) | skip)
         replace H := bi H
         obtain ⟨⟨t117, t118, t121⟩, A35, H⟩ := H
         try dsimp only at H
         replace H := bi H
         obtain ⟨t124, A36, H⟩ := H
         have H' := Aside0.mk H
         clear H
         try go_wp2
         replace HO_14 := Aside0.mk (Kd.R_drew HO_14.out)
         replace HO_15 := Aside0.mk (Kd.R_drew HO_15.out)
         replace HO_117001 := Aside0.mk (Kd.V_drew HO_117001.out)
         replace HO_117002 := Aside0.mk (Kd.V_drew HO_117002.out)
         replace BK116 := kd BK116
         replace HB := bd HB
         obtain ⟨Ao38, co38, eo38⟩ := Kd.R_slice HO_14.out
         (first | subst eo38 | (injection eo38 with f1_ f2_ f3_; have f4_ := f1_.symm; have f5_ := f3_.symm; clear f1_ f2_ f3_; subst f4_; subst f5_))
         obtain ⟨Ao39, co39, eo39⟩ := Kd.R_slice HO_15.out
         (first | subst eo39 | (injection eo39 with f1_ f2_ f3_; have f4_ := f1_.symm; have f5_ := f3_.symm; clear f1_ f2_ f3_; subst f4_; subst f5_))
         refine st (S := fun w' => B3 w' gb116 (.bool t108) (.slice Ao22 t109.length co22) (.slice Ao23 t112.length co23)) 11 [] (tf 0 11) (b3 BK116) (fun hHeld => ?_); refine with_tabW flyballlaw03_RatioMakes.tab11 flyballlaw03_RatioMakes.bits11 (fun HT_ HW_ => ?_)
         generalize wc.drew = w37 at HO_14 HO_15 HO_117001 HO_117002 BK116 HB hHeld ⊢
         refine pu 0 70 (tf 1 10) ?_
         refine pu 1 71 (tf 2 9) ?_
         refine pu 2 72 (tf 3 8) ?_
         refine pu 4 74 #[true, true, true, false, true, false, false, false, false, false, false] ?_
         refine pu 5 75 #[true, true, true, false, true, true, false, false, false, false, false] ?_
         refine pu 6 76 #[true, true, true, false, true, true, true, false, false, false, false] ?_
         refine tk 3 73 (tf 7 4) hHeld ?_
         refine on 7 (some 77) (tf 8 3) (fun K hK => ?_)
         refine gS Try.func96 #[.bool a0, .slice Ao38 t102.length co38, .slice Ao39 t105.length co39] ?_
         with_reducible refine (flyballref03_Low.calls kj15 a0 (fun k_ => some k_ = (.slice Ao38 t102.length co38 : Value).ownBlock) _ _ t102 (fun k_ => some k_ = (.slice Ao39 t105.length co39 : Value).ownBlock) _ _ t105 t117 t118 t121 _ ?_ ?_ A35.out).mono ?_
         exact Kd.R_V (Kd.R_tight rfl (Kd.R_types (HO_14.out) BK116.out (by decide)))
         exact Kd.R_V (Kd.R_tight rfl (Kd.R_types (HO_15.out) BK116.out (by decide)))
         rintro e w40 ⟨v119, v122, rfl, ho0, ho1, hb⟩
         refine ⟨_, rfl, ?_⟩
         replace HO_117001 := vA HO_117001 hb
         replace HO_117002 := vA HO_117002 hb
         have HO120 := lw HB (fun k_ => k_ ≠ gb116) ho0 (fun k_ hk_ => Or.elim hk_ (fun hs_ => Or.elim hs_ (fun hs_ => ((Kd.R_types (HO_14.out) BK116.out (by decide)).1 k_ hs_.symm).2) (fun hs_ => ((Kd.R_types (HO_15.out) BK116.out (by decide)).1 k_ hs_.symm).2)) (fun hn_ => kF BK116 hn_))
         have HO123 := lw HB (fun k_ => k_ ≠ gb116) ho1 (fun k_ hk_ => Or.elim hk_ (fun hs_ => Or.elim hs_ (fun hs_ => ((Kd.R_types (HO_14.out) BK116.out (by decide)).1 k_ hs_.symm).2) (fun hs_ => ((Kd.R_types (HO_15.out) BK116.out (by decide)).1 k_ hs_.symm).2)) (fun hn_ => kF BK116 hn_))
         replace HO_14 := rA HO_14 hb
         replace HO_15 := rA HO_15 hb
         replace BK116 := kA BK116 hb
         replace HB := bS HB hb
         clear hb ho0 ho1
         obtain ⟨Ao41, co41, eo41⟩ := Kd.V_slice HO120.out
         (first | subst eo41 | (injection eo41 with f1_ f2_ f3_; have f4_ := f1_.symm; have f5_ := f3_.symm; clear f1_ f2_ f3_; subst f4_; subst f5_))
         obtain ⟨Ao42, co42, eo42⟩ := Kd.V_slice HO123.out
         (first | subst eo42 | (injection eo42 with f1_ f2_ f3_; have f4_ := f1_.symm; have f5_ := f3_.symm; clear f1_ f2_ f3_; subst f4_; subst f5_))
         refine hK.out _ _ (b3 BK116) (fun hHeld => nm ?_)
         clear hK K
         refine on 8 (some 78) (tf 9 2) (fun K hK => ?_)
         refine gS Try.func85 #[.agg #[.bool t108, .slice Ao22 t109.length co22, .slice Ao23 t112.length co23], .agg #[.bool t117, .slice Ao41 t118.length co41, .slice Ao42 t121.length co42]] ?_
         with_reducible refine (flyballlaw03_is.calls kj15 t108 _ _ t109 _ _ t112 t117 _ _ t118 _ _ t121 t124 _ ?_ ?_ ?_ ?_ ?_ ?_ ?_ ?_ A36.out).mono ?_
         exact cup ((Kd.V_reads' HO_117001.out).2.2)
         exact (Kd.V_reads' HO_117001.out).2.1
         exact cup ((Kd.V_reads' HO_117002.out).2.2)
         exact (Kd.V_reads' HO_117002.out).2.1
         exact cup ((Kd.V_reads' HO120.out).2.2)
         exact (Kd.V_reads' HO120.out).2.1
         exact cup ((Kd.V_reads' HO123.out).2.2)
         exact (Kd.V_reads' HO123.out).2.1
         rintro e w43 ⟨rfl, hb⟩
         refine ⟨_, rfl, ?_⟩
         replace HO_14 := rA HO_14 hb
         replace HO_15 := rA HO_15 hb
         replace HO_117001 := vA HO_117001 hb
         replace HO_117002 := vA HO_117002 hb
         replace HO120 := vA HO120 hb
         replace HO123 := vA HO123 hb
         replace BK116 := kA BK116 hb
         replace HB := bS HB hb
         clear hb
         refine hK.out _ _ (b3 BK116) (fun hHeld => nm ?_)
         clear hK K
         refine pu 9 79 (tf 10 1) ?_
         refine pu 10 18 (tf 11 0) ?_
         refine done_ (done_of HT_.out (by kernel_rfl)) ?_
         try go_wp2
         go_meet
         case rel => exact ⟨_, (t124), rS, H', ⟨by have := HJ8.out; have := HJ15.out; first | omega | exact Nat.le_refl _⟩, ⟨by (with_reducible repeat (first | apply Kd.V_alloc | apply Kd.V_drewN | apply Kd.V_drew)); exact Kd.V_mono HO_117001.out (fun _ hk => hk.2.2)⟩, ⟨by (with_reducible repeat (first | apply Kd.V_alloc | apply Kd.V_drewN | apply Kd.V_drew)); exact Kd.V_mono HO_117002.out (fun _ hk => hk.2.2)⟩, ⟨by exact kU BK116⟩, ⟨hB⟩⟩
        case rest =>
         clear HC33
         try clear c1
         try clear c2
         try clear p2
         try clear c3
         try clear c5
         try clear c8
         try clear c9
         try clear c10
         try clear c11
         try clear c11b0
         try clear c11b1
         try clear c12
         try clear c21
         try clear c24
         try clear c24b0
         try clear c24b1
         try clear c24b2
         try clear c25
         try clear c26
         try clear c26b0
         try clear c26b1
         try clear c28
         try clear c28b0
         try clear c28b1
         try clear c32
         try clear c34
         try clear c34b0
         try clear c34b1
         try clear hcz21_0
         try clear hcz21_1
         try clear hcz21_2
         try clear hcz30_0
         try clear hcz30_1
         try clear hcz30_2
         try clear hfz21_0
         try clear hfz21_1
         try clear hfz21_2
         try clear hfz30_0
         try clear hfz30_1
         try clear hfz30_2
         try clear p2
         obtain ⟨kq, x18_32, rfl, HA, HJ32, HO_117001, HO_117002, BK116, HB⟩ := hcut
         cases kq with
         | zero => exact absurd HA.out (by simp [flyballlaw03_RatioMakes.j2])
         | succ kj32 =>
          have H := HA.out
          clear HA
          simp only [flyballlaw03_RatioMakes.j2] at H
          have HC45 := Aside0.mk H
          clear H
          go_upto_if 83 with (fail)
          go_cut [19] (fun v19 wc => ∃ (kq : Nat) (x19_44 : Int), v19 = .int .u64 x19_44 ∧ Aside0 (flyballlaw03_RatioMakes.j3 kq a0 a3 a4 a5 true x18_32 x19_44 = some true) ∧ Aside0 (kq ≤ kj32) ∧ Aside0 (Kd.V (Kd.int .u32) 118 wc w.heap.size (fun k_ => k_ ≠ gb116) (.slice Ao22 t109.length co22) t109) ∧ Aside0 (Kd.V (Kd.int .u32) 118 wc w.heap.size (fun k_ => k_ ≠ gb116) (.slice Ao23 t112.length co23) t112) ∧ Aside0 (wc.heap[gb116]? = some (.cells #[.bool t108, (.slice Ao22 t109.length co22), (.slice Ao23 t112.length co23)] 69 (0, 0))) ∧ Aside0 (Below w.heap.size w wc))
          case first =>
           have H := HC45.out
           clear HC45
           by_cases c46 : a3 < 0
           rotate_left
           ·rw [if_neg c46] at H
            have c46b0 : decide (a3 < 0) = false := decide_eq_false c46
            clear c46
            (first | rw [c46b0] | (simp only [i64_w, i32_w]; rw [c46b0]) | skip)
            have H' := Aside0.mk H
            clear H
            go_wp2
            go_meet
            case rel => exact ⟨_, (IntKind.u64.wrap (a3)), rS, H', ⟨by have := HJ8.out; have := HJ15.out; have := HJ32.out; first | omega | exact Nat.le_refl _⟩, ⟨vup HO_117001.out⟩, ⟨vup HO_117002.out⟩, ⟨by exact kU BK116⟩, ⟨hB⟩⟩
           rw [if_pos c46] at H
           have c46b0 : decide (a3 < 0) = true := decide_eq_true c46
           clear c46
           (first | rw [c46b0] | (simp only [i64_w, i32_w]; rw [c46b0]) | skip)
           have H' := Aside0.mk H
           clear H
           go_wp2
           go_meet
           case rel => exact ⟨_, (IntKind.u64.wrap (-(IntKind.u64.wrap (a3)))), rS, H', ⟨by have := HJ8.out; have := HJ15.out; have := HJ32.out; first | omega | exact Nat.le_refl _⟩, ⟨vup HO_117001.out⟩, ⟨vup HO_117002.out⟩, ⟨by exact kU BK116⟩, ⟨hB⟩⟩
          case rest =>
           clear HC45
           try clear c1
           try clear c2
           try clear p2
           try clear c3
           try clear c4
           try clear c5
           try clear c8
           try clear c9
           try clear c10
           try clear c11
           try clear c11b0
           try clear c11b1
           try clear c12
           try clear c21
           try clear c24
           try clear c24b0
           try clear c24b1
           try clear c24b2
           try clear c25
           try clear c26
           try clear c26b0
           try clear c26b1
           try clear c28
           try clear c28b0
           try clear c28b1
           try clear c32
           try clear c34
           try clear c34b0
           try clear c34b1
           try clear c46
           try clear c46b0
           try clear hcz21_0
           try clear hcz21_1
           try clear hcz21_2
           try clear hcz30_0
           try clear hcz30_1
           try clear hcz30_2
           try clear hfz21_0
           try clear hfz21_1
           try clear hfz21_2
           try clear hfz30_0
           try clear hfz30_1
           try clear hfz30_2
           try clear p2
           obtain ⟨kq, x19_44, rfl, HA, HJ44, HO_117001, HO_117002, BK116, HB⟩ := hcut
           cases kq with
           | zero => exact absurd HA.out (by simp [flyballlaw03_RatioMakes.j3])
           | succ kj44 =>
            have H := HA.out
            clear HA
            simp only [flyballlaw03_RatioMakes.j3] at H
            obtain ⟨y125, hy125⟩ : ∃ y_ : List Int, y_ = (([1] : List Int)) := ⟨_, rfl⟩
            replace H : ((flyballref01_Of.f kj44 y125).bind fun t128 => ((ratio_Int.f kj44 a3).bind fun bt131 => ((flyballref01_Of.f kj44 (([x19_44] : List Int))).bind fun t141 => ((flyballref03_Low.f kj44 (decide (a3 < 0)) t141 t128).bind fun bt144 => ((flyballlaw03_is.f kj44 bt131.1 bt131.2.1 bt131.2.2 bt144.1 bt144.2.1 bt144.2.2).bind fun t151 => ((ratio_Dyad.f kj44 a0 a4 a5).bind fun bt152 => (if a5 < (-8192) then (flyballlaw03_RatioMakes.j4 kj44 a0 a4 a5 true x18_32 t128 t151 bt152.2.2.2 true bt152.1 bt152.2.1 bt152.2.2.1) else (flyballlaw03_RatioMakes.j4 kj44 a0 a4 a5 true x18_32 t128 t151 bt152.2.2.2 (decide (a5 > 8192)) bt152.1 bt152.2.1 bt152.2.2.1)))))))) = some true := by first | (rw [hy125]; with_reducible exact H) | (have H2_ := (Option.bind_some _ _).symm.trans H; rw [hy125]; with_reducible exact H2_) | (have H2_ := (Option.bind_some _ _).symm.trans H; with_reducible exact H2_) | with_reducible exact H | (rw [hy125]; exact H) | exact H
            have Ny125 := Aside0.mk hy125
            clear hy125
            replace H := bi H
            obtain ⟨t128, A47, H⟩ := H
            replace H := bi H
            obtain ⟨⟨t131, t132, t135⟩, A48, H⟩ := H
            try dsimp only at H
            obtain ⟨y138, hy138⟩ : ∃ y_ : List Int, y_ = (([x19_44] : List Int)) := ⟨_, rfl⟩
            replace H : ((flyballref01_Of.f kj44 y138).bind fun t141 => ((flyballref03_Low.f kj44 (decide (a3 < 0)) t141 t128).bind fun bt144 => ((flyballlaw03_is.f kj44 t131 t132 t135 bt144.1 bt144.2.1 bt144.2.2).bind fun t151 => ((ratio_Dyad.f kj44 a0 a4 a5).bind fun bt152 => (if a5 < (-8192) then (flyballlaw03_RatioMakes.j4 kj44 a0 a4 a5 true x18_32 t128 t151 bt152.2.2.2 true bt152.1 bt152.2.1 bt152.2.2.1) else (flyballlaw03_RatioMakes.j4 kj44 a0 a4 a5 true x18_32 t128 t151 bt152.2.2.2 (decide (a5 > 8192)) bt152.1 bt152.2.1 bt152.2.2.1)))))) = some true := by first | (rw [hy138]; with_reducible exact H) | (have H2_ := (Option.bind_some _ _).symm.trans H; rw [hy138]; with_reducible exact H2_) | (have H2_ := (Option.bind_some _ _).symm.trans H; with_reducible exact H2_) | with_reducible exact H | (rw [hy138]; exact H) | exact H
            have Ny138 := Aside0.mk hy138
            clear hy138
            replace H := bi H
            obtain ⟨t141, A49, H⟩ := H
            replace H := bi H
            obtain ⟨⟨t144, t145, t148⟩, A50, H⟩ := H
            try dsimp only at H
            replace H := bi H
            obtain ⟨t151, A51, H⟩ := H
            replace H := bi H
            obtain ⟨⟨t152, t153, t156, t159⟩, A52, H⟩ := H
            try dsimp only at H
            have HC53 := Aside0.mk H
            clear H
            go_upto_region 18 with (first | ((with_reducible refine gd 86 rfl ?_); (try (refine gate_guard (by rfl) ?_; dsimp only)); refine Kd.R_lit (Kd.int .u64) _ 47 ?hg (N := 86) ?hd (xs := ([1] : List Int)) (inner := [.int .u64 1]) (ok := fun _ => True) (okp := fun _ => True) ?hr ?hp (fun _ hk => hk) trivial (Below.refl _ _) (Nat.le_refl _) (by simp) ?_; (case hd => rfl); (case hg => rfl); (case hr => first | (go_simp; done) | (go_simp; rfl)); (case hp => exact (Reps.one (show Kd.M (Kd.int .u64) _ _ _ 1 [.int .u64 1] from rfl) (Reps.none _ _))); intro v126 w54 ho55 hb hg_ hnew_; clear hg_ hnew_; (first | rw [← Ny125.out] at ho55 | (simp only [Int.reduceToNat] at ho55; rw [← Ny125.out] at ho55)); replace HO_117001 := Aside0.mk (Kd.V_elder' (vup HO_117001.out) (Kd.R_base ho55) hb); replace HO_117002 := Aside0.mk (Kd.V_elder' (vup HO_117002.out) (Kd.R_base ho55) hb); have HO127 := Aside0.mk (Kd.R_lower ho55 (below_size hB)); replace BK116 := kA BK116 hb; replace HB := bS HB hb; clear hb ho55; obtain ⟨Ao56, co56, eo56⟩ := Kd.R_slice HO127.out; subst eo56) | ((with_reducible refine gc 51 rfl ?_); refine gL 87 Try.func51 #[.slice Ao56 y125.length co56] ?_; (with_reducible refine (flyballref01_Of.calls kj44 _ _ y125 t128 _ ?_ ?_ A47.out).mono ?_); exact cup ((Kd.R_reads' HO127.out).2.2); exact (Kd.R_reads' HO127.out).2.1; rintro e w57 ⟨v129, rfl, ho0, hb⟩; refine ⟨_, rfl, ?_⟩; replace HO_117001 := Aside0.mk (Kd.V_elder' (vup HO_117001.out) (Kd.R_base ho0) hb); replace HO_117002 := Aside0.mk (Kd.V_elder' (vup HO_117002.out) (Kd.R_base ho0) hb); replace HO127 := rA HO127 hb; have HO130 := Aside0.mk (Kd.R_lower ho0 (below_size hB)); replace BK116 := kA BK116 hb; replace HB := bS HB hb; clear hb ho0) | ((with_reducible refine gc 103 rfl ?_); refine gL 89 Try.func103 #[.int .i64 a3] ?_; (with_reducible refine (ratio_Int.calls kj44 a3 t131 t132 t135 _ A48.out).mono ?_); rintro e w58 ⟨v133, v136, rfl, ho0, ho1, hb⟩; refine ⟨_, rfl, ?_⟩; replace HO_117001 := vA HO_117001 hb; replace HO_117002 := vA HO_117002 hb; have HO134 := lw HB (fun k_ => some k_ ≠ (.slice Ao56 y125.length co56 : Value).ownBlock ∧ some k_ ≠ (v129 : Value).ownBlock ∧ k_ ≠ gb116) ho0 (fun k_ hk_ => ⟨(Kd.fresh' (Kd.R_lt (rup HO127.out)) k_ hk_), (Kd.fresh' (Kd.R_lt (rup HO130.out)) k_ hk_), (kF BK116 hk_)⟩); have HO137 := lw HB (fun k_ => some k_ ≠ (.slice Ao56 y125.length co56 : Value).ownBlock ∧ some k_ ≠ (v129 : Value).ownBlock ∧ k_ ≠ gb116) ho1 (fun k_ hk_ => ⟨(Kd.fresh' (Kd.R_lt (rup HO127.out)) k_ hk_), (Kd.fresh' (Kd.R_lt (rup HO130.out)) k_ hk_), (kF BK116 hk_)⟩); replace HO127 := rA HO127 hb; replace HO130 := rA HO130 hb; replace BK116 := kA BK116 hb; replace HB := bS HB hb; clear hb ho0 ho1) | ((with_reducible refine gd 93 rfl ?_); (try (refine gate_guard (by rfl) ?_; dsimp only)); refine Kd.R_lit (Kd.int .u64) _ 47 ?hg (N := 93) ?hd (xs := ([x19_44] : List Int)) (inner := [.int .u64 x19_44]) (ok := fun _ => True) (okp := fun _ => True) ?hr ?hp (fun _ hk => hk) trivial (Below.refl _ _) (Nat.le_refl _) (by simp) ?_; (case hd => rfl); (case hg => rfl); (case hr => first | (go_simp; done) | (go_simp; rfl)); (case hp => exact (Reps.one (show Kd.M (Kd.int .u64) _ _ _ x19_44 [.int .u64 x19_44] from rfl) (Reps.none _ _))); intro v139 w59 ho60 hb hg_ hnew_; clear hg_ hnew_; (first | rw [← Ny138.out] at ho60 | (simp only [Int.reduceToNat] at ho60; rw [← Ny138.out] at ho60)); replace HO_117001 := Aside0.mk (Kd.V_elder' (vup HO_117001.out) (Kd.R_base ho60) hb); replace HO_117002 := Aside0.mk (Kd.V_elder' (vup HO_117002.out) (Kd.R_base ho60) hb); replace HO130 := rA HO130 hb; replace HO134 := Aside0.mk (Kd.V_elder' (vup HO134.out) (Kd.R_base ho60) hb); replace HO137 := Aside0.mk (Kd.V_elder' (vup HO137.out) (Kd.R_base ho60) hb); have HO140 := Aside0.mk (Kd.R_lower (Kd.R_new' ho60 (Kd.R_lt (rup HO127.out))) (below_size hB)); replace HO127 := Aside0.mk (Kd.R_elder' (rup HO127.out) (Kd.R_base ho60) hb); replace BK116 := kA BK116 hb; replace HB := bS HB hb; clear hb ho60; obtain ⟨Ao61, co61, eo61⟩ := Kd.R_slice HO140.out; subst eo61) | ((with_reducible refine gc 51 rfl ?_); refine gL 94 Try.func51 #[.slice Ao61 y138.length co61] ?_; (with_reducible refine (flyballref01_Of.calls kj44 _ _ y138 t141 _ ?_ ?_ A49.out).mono ?_); exact cup ((Kd.R_reads' HO140.out).2.2); exact (Kd.R_reads' HO140.out).2.1; rintro e w62 ⟨v142, rfl, ho0, hb⟩; refine ⟨_, rfl, ?_⟩; replace HO_117001 := Aside0.mk (Kd.V_elder' (vup HO_117001.out) (Kd.R_base ho0) hb); replace HO_117002 := Aside0.mk (Kd.V_elder' (vup HO_117002.out) (Kd.R_base ho0) hb); replace HO127 := rA HO127 hb; replace HO134 := Aside0.mk (Kd.V_elder' (vup HO134.out) (Kd.R_base ho0) hb); replace HO137 := Aside0.mk (Kd.V_elder' (vup HO137.out) (Kd.R_base ho0) hb); replace HO140 := rA HO140 hb; have HO143 := Aside0.mk (Kd.R_lower (Kd.R_new' ho0 (Kd.R_lt (rup HO130.out))) (below_size hB)); replace HO130 := Aside0.mk (Kd.R_elder' (rup HO130.out) (Kd.R_base ho0) hb); replace BK116 := kA BK116 hb; replace HB := bS HB hb; clear hb ho0; obtain ⟨Ao63, co63, eo63⟩ := Kd.R_slice HO143.out; subst eo63; obtain ⟨Ao64, co64, eo64⟩ := Kd.R_slice HO130.out; subst eo64) | ((with_reducible refine gc 96 rfl ?_); refine gL 96 Try.func96 #[.bool (decide (a3 < 0)), .slice Ao63 t141.length co63, .slice Ao64 t128.length co64] ?_; (with_reducible refine (flyballref03_Low.calls kj44 (decide (a3 < 0)) (fun k_ => some k_ = (.slice Ao63 t141.length co63 : Value).ownBlock) _ _ t141 (fun k_ => some k_ = (.slice Ao64 t128.length co64 : Value).ownBlock) _ _ t128 t144 t145 t148 _ ?_ ?_ A50.out).mono ?_); (exact Kd.R_V (Kd.R_tight rfl (Kd.R_types (Kd.R_apart' (Kd.R_apart' (HO143.out) (Kd.R_typed HO127.out) (by decide)) (Kd.R_typed HO140.out) (by decide)) BK116.out (by decide)))); (exact Kd.R_V (Kd.R_tight rfl (Kd.R_types (Kd.R_apart' (Kd.R_apart' (HO130.out) (Kd.R_typed HO127.out) (by decide)) (Kd.R_typed HO140.out) (by decide)) BK116.out (by decide)))); rintro e w65 ⟨v146, v149, rfl, ho0, ho1, hb⟩; refine ⟨_, rfl, ?_⟩; replace HO_117001 := vA HO_117001 hb; replace HO_117002 := vA HO_117002 hb; replace HO134 := vA HO134 hb; replace HO137 := vA HO137 hb; have HO147 := lw HB (fun k_ => some k_ ≠ (.slice Ao56 y125.length co56 : Value).ownBlock ∧ some k_ ≠ (.slice Ao61 y138.length co61 : Value).ownBlock ∧ k_ ≠ gb116) ho0 (fun k_ hk_ => Or.elim hk_ (fun hs_ => Or.elim hs_ (fun hs_ => ⟨((Kd.R_types (Kd.R_apart' (Kd.R_apart' (HO143.out) (Kd.R_typed HO127.out) (by decide)) (Kd.R_typed HO140.out) (by decide)) BK116.out (by decide)).1 k_ hs_.symm).1.1.2, ((Kd.R_types (Kd.R_apart' (Kd.R_apart' (HO143.out) (Kd.R_typed HO127.out) (by decide)) (Kd.R_typed HO140.out) (by decide)) BK116.out (by decide)).1 k_ hs_.symm).1.2, ((Kd.R_types (Kd.R_apart' (Kd.R_apart' (HO143.out) (Kd.R_typed HO127.out) (by decide)) (Kd.R_typed HO140.out) (by decide)) BK116.out (by decide)).1 k_ hs_.symm).2⟩) (fun hs_ => ⟨((Kd.R_types (Kd.R_apart' (Kd.R_apart' (HO130.out) (Kd.R_typed HO127.out) (by decide)) (Kd.R_typed HO140.out) (by decide)) BK116.out (by decide)).1 k_ hs_.symm).1.1.2, ((Kd.R_types (Kd.R_apart' (Kd.R_apart' (HO130.out) (Kd.R_typed HO127.out) (by decide)) (Kd.R_typed HO140.out) (by decide)) BK116.out (by decide)).1 k_ hs_.symm).1.2, ((Kd.R_types (Kd.R_apart' (Kd.R_apart' (HO130.out) (Kd.R_typed HO127.out) (by decide)) (Kd.R_typed HO140.out) (by decide)) BK116.out (by decide)).1 k_ hs_.symm).2⟩)) (fun hn_ => ⟨Kd.fresh' (Kd.R_lt (rup HO127.out)) k_ hn_, Kd.fresh' (Kd.R_lt (rup HO140.out)) k_ hn_, kF BK116 hn_⟩)); have HO150 := lw HB (fun k_ => some k_ ≠ (.slice Ao56 y125.length co56 : Value).ownBlock ∧ some k_ ≠ (.slice Ao61 y138.length co61 : Value).ownBlock ∧ k_ ≠ gb116) ho1 (fun k_ hk_ => Or.elim hk_ (fun hs_ => Or.elim hs_ (fun hs_ => ⟨((Kd.R_types (Kd.R_apart' (Kd.R_apart' (HO143.out) (Kd.R_typed HO127.out) (by decide)) (Kd.R_typed HO140.out) (by decide)) BK116.out (by decide)).1 k_ hs_.symm).1.1.2, ((Kd.R_types (Kd.R_apart' (Kd.R_apart' (HO143.out) (Kd.R_typed HO127.out) (by decide)) (Kd.R_typed HO140.out) (by decide)) BK116.out (by decide)).1 k_ hs_.symm).1.2, ((Kd.R_types (Kd.R_apart' (Kd.R_apart' (HO143.out) (Kd.R_typed HO127.out) (by decide)) (Kd.R_typed HO140.out) (by decide)) BK116.out (by decide)).1 k_ hs_.symm).2⟩) (fun hs_ => ⟨((Kd.R_types (Kd.R_apart' (Kd.R_apart' (HO130.out) (Kd.R_typed HO127.out) (by decide)) (Kd.R_typed HO140.out) (by decide)) BK116.out (by decide)).1 k_ hs_.symm).1.1.2, ((Kd.R_types (Kd.R_apart' (Kd.R_apart' (HO130.out) (Kd.R_typed HO127.out) (by decide)) (Kd.R_typed HO140.out) (by decide)) BK116.out (by decide)).1 k_ hs_.symm).1.2, ((Kd.R_types (Kd.R_apart' (Kd.R_apart' (HO130.out) (Kd.R_typed HO127.out) (by decide)) (Kd.R_typed HO140.out) (by decide)) BK116.out (by decide)).1 k_ hs_.symm).2⟩)) (fun hn_ => ⟨Kd.fresh' (Kd.R_lt (rup HO127.out)) k_ hn_, Kd.fresh' (Kd.R_lt (rup HO140.out)) k_ hn_, kF BK116 hn_⟩)); replace HO127 := rA HO127 hb; replace HO130 := rA HO130 hb; replace HO140 := rA HO140 hb; replace HO143 := rA HO143 hb; replace BK116 := kA BK116 hb; replace HB := bS HB hb; clear hb ho0 ho1; obtain ⟨Ao66, co66, eo66⟩ := Kd.V_slice HO134.out; subst eo66; obtain ⟨Ao67, co67, eo67⟩ := Kd.V_slice HO137.out; subst eo67; obtain ⟨Ao68, co68, eo68⟩ := Kd.V_slice HO147.out; subst eo68; obtain ⟨Ao69, co69, eo69⟩ := Kd.V_slice HO150.out; subst eo69) | ((with_reducible refine gc 85 rfl ?_); refine gL 97 Try.func85 #[.agg #[.bool t131, .slice Ao66 t132.length co66, .slice Ao67 t135.length co67], .agg #[.bool t144, .slice Ao68 t145.length co68, .slice Ao69 t148.length co69]] ?_; (with_reducible refine (flyballlaw03_is.calls kj44 t131 _ _ t132 _ _ t135 t144 _ _ t145 _ _ t148 t151 _ ?_ ?_ ?_ ?_ ?_ ?_ ?_ ?_ A51.out).mono ?_); exact cup ((Kd.V_reads' HO134.out).2.2); exact (Kd.V_reads' HO134.out).2.1; exact cup ((Kd.V_reads' HO137.out).2.2); exact (Kd.V_reads' HO137.out).2.1; exact cup ((Kd.V_reads' HO147.out).2.2); exact (Kd.V_reads' HO147.out).2.1; exact cup ((Kd.V_reads' HO150.out).2.2); exact (Kd.V_reads' HO150.out).2.1; rintro e w70 ⟨rfl, hb⟩; refine ⟨_, rfl, ?_⟩; replace HO_117001 := vA HO_117001 hb; replace HO_117002 := vA HO_117002 hb; replace HO127 := rA HO127 hb; replace HO130 := rA HO130 hb; replace HO134 := vA HO134 hb; replace HO137 := vA HO137 hb; replace HO140 := rA HO140 hb; replace HO143 := rA HO143 hb; replace HO147 := vA HO147 hb; replace HO150 := vA HO150 hb; replace BK116 := kA BK116 hb; replace HB := bS HB hb; clear hb) | ((with_reducible refine gc 104 rfl ?_); refine gL 102 Try.func104 #[.bool a0, .int .u64 a4, .int .i64 a5] ?_; (with_reducible refine (ratio_Dyad.calls kj44 a0 a4 a5 t152 t153 t156 t159 _ A52.out).mono ?_); rintro e w71 ⟨v154, v157, rfl, ho0, ho1, hb⟩; refine ⟨_, rfl, ?_⟩; replace HO_117001 := vA HO_117001 hb; replace HO_117002 := vA HO_117002 hb; replace HO134 := vA HO134 hb; replace HO137 := vA HO137 hb; replace HO147 := vA HO147 hb; replace HO150 := vA HO150 hb; have HO155 := lw HB (fun k_ => some k_ ≠ (.slice Ao56 y125.length co56 : Value).ownBlock ∧ some k_ ≠ (.slice Ao64 t128.length co64 : Value).ownBlock ∧ some k_ ≠ (.slice Ao61 y138.length co61 : Value).ownBlock ∧ some k_ ≠ (.slice Ao63 t141.length co63 : Value).ownBlock ∧ k_ ≠ gb116) ho0 (fun k_ hk_ => ⟨(Kd.fresh' (Kd.R_lt (rup HO127.out)) k_ hk_), (Kd.fresh' (Kd.R_lt (rup HO130.out)) k_ hk_), (Kd.fresh' (Kd.R_lt (rup HO140.out)) k_ hk_), (Kd.fresh' (Kd.R_lt (rup HO143.out)) k_ hk_), (kF BK116 hk_)⟩); have HO158 := lw HB (fun k_ => some k_ ≠ (.slice Ao56 y125.length co56 : Value).ownBlock ∧ some k_ ≠ (.slice Ao64 t128.length co64 : Value).ownBlock ∧ some k_ ≠ (.slice Ao61 y138.length co61 : Value).ownBlock ∧ some k_ ≠ (.slice Ao63 t141.length co63 : Value).ownBlock ∧ k_ ≠ gb116) ho1 (fun k_ hk_ => ⟨(Kd.fresh' (Kd.R_lt (rup HO127.out)) k_ hk_), (Kd.fresh' (Kd.R_lt (rup HO130.out)) k_ hk_), (Kd.fresh' (Kd.R_lt (rup HO140.out)) k_ hk_), (Kd.fresh' (Kd.R_lt (rup HO143.out)) k_ hk_), (kF BK116 hk_)⟩); replace HO127 := rA HO127 hb; replace HO130 := rA HO130 hb; replace HO140 := rA HO140 hb; replace HO143 := rA HO143 hb; replace BK116 := kA BK116 hb; replace HB := bS HB hb; clear hb ho0 ho1) | ((with_reducible refine gd 22 rfl ?_); (try (refine gate_guard (by rfl) ?_; dsimp only)); refine bx 22 #[.bool false, .slice none 0 0, .slice none 0 0] ?_; intro gb160 hg w72 hbox hb; replace HO_117001 := vE HO_117001 hg hb; replace HO_117002 := vE HO_117002 hg hb; replace HO127 := rA HO127 hb; replace HO130 := rA HO130 hb; replace HO134 := vE HO134 hg hb; replace HO137 := vE HO137 hg hb; replace HO140 := rA HO140 hb; replace HO143 := rA HO143 hb; replace HO147 := vE HO147 hg hb; replace HO150 := vE HO150 hg hb; replace HO155 := vE HO155 hg hb; replace HO158 := vE HO158 hg hb; have BK160 := Aside0.mk hbox; have GW160 := gS' hg HB; have GE160 := gS' hg HB; replace HB := bS HB hb; have NB116_160 := nL hg BK116; have NB160_116 := nR hg BK116; replace BK116 := kA BK116 hb; clear hb hbox hg; have hnb73 := NB160_116.out; have hnc73 := NB116_160.out; obtain ⟨⟨hcz74_0, hcz74_1, hcz74_2⟩, hfz74_0, hfz74_1, hfz74_2⟩ := cE BK160; obtain ⟨Ao75, co75, eo75⟩ := Kd.V_slice HO155.out; subst eo75; obtain ⟨Ao76, co76, eo76⟩ := Kd.V_slice HO158.out; subst eo76))
            (try simp only [Act.put, List.setIfInBounds_toArray, List.set_cons_zero, List.set_cons_succ])
            go_cut [110] (fun v110 wc => ∃ (kq : Nat) (x110_52 : Bool), v110 = .bool x110_52 ∧ Aside0 (flyballlaw03_RatioMakes.j4 kq a0 a4 a5 true x18_32 t128 t151 t159 x110_52 t152 t153 t156 = some true) ∧ Aside0 (kq ≤ kj44) ∧ Aside0 (Kd.R Kd.bool 4 wc w.heap.size (fun _ => True) (.slice Ao64 t128.length co64) t128) ∧ Aside0 (Kd.V (Kd.int .u32) 118 wc w.heap.size (fun k_ => some k_ ≠ ((.slice Ao64 t128.length co64) : Value).ownBlock ∧ k_ ≠ gb116 ∧ k_ ≠ gb160) (.slice Ao22 t109.length co22) t109) ∧ Aside0 (Kd.V (Kd.int .u32) 118 wc w.heap.size (fun k_ => some k_ ≠ ((.slice Ao64 t128.length co64) : Value).ownBlock ∧ k_ ≠ gb116 ∧ k_ ≠ gb160) (.slice Ao23 t112.length co23) t112) ∧ Aside0 (Kd.V (Kd.int .u32) 118 wc w.heap.size (fun k_ => some k_ ≠ ((.slice Ao64 t128.length co64) : Value).ownBlock ∧ k_ ≠ gb116 ∧ k_ ≠ gb160) (.slice Ao75 t153.length co75) t153) ∧ Aside0 (Kd.V (Kd.int .u32) 118 wc w.heap.size (fun k_ => some k_ ≠ ((.slice Ao64 t128.length co64) : Value).ownBlock ∧ k_ ≠ gb116 ∧ k_ ≠ gb160) (.slice Ao76 t156.length co76) t156) ∧ Aside0 (wc.heap[gb116]? = some (.cells #[.bool t108, (.slice Ao22 t109.length co22), (.slice Ao23 t112.length co23)] 69 (0, 0))) ∧ Aside0 (wc.heap[gb160]? = some (.cells #[.bool t152, (.slice Ao75 t153.length co75), (.slice Ao76 t156.length co76)] 69 (0, 0))) ∧ Aside0 (Below w.heap.size w wc))
            case first =>
             have H := HC53.out
             clear HC53
             by_cases c77 : a5 < (-8192)
             rotate_left
             ·rw [if_neg c77] at H
              have c77b0 : decide (a5 < (-8192)) = false := decide_eq_false c77
              clear c77
              (first | rw [c77b0] | (simp only [i64_w, i32_w]; rw [c77b0]) | skip)
              have H' := Aside0.mk H
              clear H
              go_wp2
              go_meet
              case rel => exact ⟨_, (decide (a5 > 8192)), rS, H', ⟨by have := HJ8.out; have := HJ15.out; have := HJ32.out; have := HJ44.out; first | omega | exact Nat.le_refl _⟩, ⟨rG (r3t HO130 BK160) (fun _ hk => trivial)⟩, ⟨vG (v3p HO_117001 (fun _ hk => hk.2)) (fun _ hk => by simp only [hk, and_self, ne_eq, not_false_eq_true])⟩, ⟨vG (v3p HO_117002 (fun _ hk => hk.2)) (fun _ hk => by simp only [hk, and_self, ne_eq, not_false_eq_true])⟩, ⟨vG (v3p HO155 (fun _ hk => hk.2)) (fun _ hk => by simp only [hk, and_self, ne_eq, not_false_eq_true])⟩, ⟨vG (v3p HO158 (fun _ hk => hk.2)) (fun _ hk => by simp only [hk, and_self, ne_eq, not_false_eq_true])⟩, ⟨by exact kU (q3 BK116 NB116_160)⟩, ⟨by exact kU (p3 BK160)⟩, ⟨hB⟩⟩
             rw [if_pos c77] at H
             have c77b0 : decide (a5 < (-8192)) = true := decide_eq_true c77
             clear c77
             (first | rw [c77b0] | (simp only [i64_w, i32_w]; rw [c77b0]) | skip)
             have H' := Aside0.mk H
             clear H
             go_wp2
             go_meet
             case rel => exact ⟨_, (true), rS, H', ⟨by have := HJ8.out; have := HJ15.out; have := HJ32.out; have := HJ44.out; first | omega | exact Nat.le_refl _⟩, ⟨rG (r3t HO130 BK160) (fun _ hk => trivial)⟩, ⟨vG (v3p HO_117001 (fun _ hk => hk.2)) (fun _ hk => by simp only [hk, and_self, ne_eq, not_false_eq_true])⟩, ⟨vG (v3p HO_117002 (fun _ hk => hk.2)) (fun _ hk => by simp only [hk, and_self, ne_eq, not_false_eq_true])⟩, ⟨vG (v3p HO155 (fun _ hk => hk.2)) (fun _ hk => by simp only [hk, and_self, ne_eq, not_false_eq_true])⟩, ⟨vG (v3p HO158 (fun _ hk => hk.2)) (fun _ hk => by simp only [hk, and_self, ne_eq, not_false_eq_true])⟩, ⟨by exact kU (q3 BK116 NB116_160)⟩, ⟨by exact kU (p3 BK160)⟩, ⟨hB⟩⟩
            case rest =>
             clear HC53
             try clear c1
             try clear c2
             try clear p2
             try clear c3
             try clear c4
             try clear c5
             try clear c7
             try clear c8
             try clear c9
             try clear c10
             try clear c11
             try clear c11b0
             try clear c11b1
             try clear c12
             try clear c21
             try clear c24
             try clear c24b0
             try clear c24b1
             try clear c24b2
             try clear c25
             try clear c26
             try clear c26b0
             try clear c26b1
             try clear c28
             try clear c28b0
             try clear c28b1
             try clear c32
             try clear c34
             try clear c34b0
             try clear c34b1
             try clear c46
             try clear c46b0
             try clear c51
             try clear c73
             try clear c77
             try clear c77b0
             try clear hcz21_0
             try clear hcz21_1
             try clear hcz21_2
             try clear hcz30_0
             try clear hcz30_1
             try clear hcz30_2
             try clear hcz74_0
             try clear hcz74_1
             try clear hcz74_2
             try clear hfz21_0
             try clear hfz21_1
             try clear hfz21_2
             try clear hfz30_0
             try clear hfz30_1
             try clear hfz30_2
             try clear hfz74_0
             try clear hfz74_1
             try clear hfz74_2
             try clear p2
             obtain ⟨kq, x110_52, rfl, HA, HJ52, HO_20, HO_117001, HO_117002, HO_161001, HO_161002, BK116, BK160, HB⟩ := hcut
             cases kq with
             | zero => exact absurd HA.out (by simp [flyballlaw03_RatioMakes.j4])
             | succ kj52 =>
              have H := HA.out
              clear HA
              simp only [flyballlaw03_RatioMakes.j4] at H
              by_cases c78 : x110_52 = true
              ·subst c78
               replace H := ifT H
               by_cases c79 : (true : Bool) = true
               ·clear c79
                replace H := ifT H
                by_cases c80 : x18_32 = true
                ·subst c80
                 replace H := ifT H
                 by_cases c81 : t151 = true
                 ·subst c81
                  replace H := ifT H
                  replace H := iS H
                  obtain ⟨c82, H⟩ := H
                  obtain ⟨c82b0, c82b1⟩ := bqT c82
                  clear c82
                  have HT_ := Option.some.inj H
                  clear H
                  have hnb83 := NB160_116.out
                  have hnc83 := NB116_160.out
                  obtain ⟨⟨hcz84_0, hcz84_1, hcz84_2⟩, hfz84_0, hfz84_1, hfz84_2⟩ := cE BK160
                  go_wp2
                  go_ret
                  exact ⟨er, hB⟩
                 ·replace c81 := Bool.eq_false_iff.mpr c81
                  subst c81
                  have H1 : (some false) = some true := by rw [if_neg (show ¬ (false = true) by decide)] at H; first | done | exact H
                  clear H
                  have H := H1
                  clear H1
                  exact absurd H (by simp)
                ·replace c80 := Bool.eq_false_iff.mpr c80
                 subst c80
                 have H1 : (some false) = some true := by rw [if_neg (show ¬ (false = true) by decide)] at H; first | done | exact H
                 clear H
                 have H := H1
                 clear H1
                 exact absurd H (by simp)
               ·exact absurd rfl c79
              ·replace c78 := Bool.eq_false_iff.mpr c78
               subst c78
               have H1 : (if a5 < (-200) then (flyballlaw03_RatioMakes.j5 kj52 a0 a4 a5 true x18_32 t128 t151 t159 true t152 t153 t156) else (flyballlaw03_RatioMakes.j5 kj52 a0 a4 a5 true x18_32 t128 t151 t159 (decide (a5 > 200)) t152 t153 t156)) = some true := by rw [if_neg (show ¬ (false = true) by decide)] at H; first | done | exact H
               clear H
               have H := H1
               clear H1
               have HC85 := Aside0.mk H
               clear H
               go_upto_region 20 with (fail)
               go_cut [133] (fun v133 wc => ∃ (kq : Nat) (x133_84 : Bool), v133 = .bool x133_84 ∧ Aside0 (flyballlaw03_RatioMakes.j5 kq a0 a4 a5 true x18_32 t128 t151 t159 x133_84 t152 t153 t156 = some true) ∧ Aside0 (kq ≤ kj52) ∧ Aside0 (Kd.R Kd.bool 4 wc w.heap.size (fun _ => True) (.slice Ao64 t128.length co64) t128) ∧ Aside0 (Kd.V (Kd.int .u32) 118 wc w.heap.size (fun k_ => some k_ ≠ ((.slice Ao64 t128.length co64) : Value).ownBlock ∧ k_ ≠ gb116 ∧ k_ ≠ gb160) (.slice Ao22 t109.length co22) t109) ∧ Aside0 (Kd.V (Kd.int .u32) 118 wc w.heap.size (fun k_ => some k_ ≠ ((.slice Ao64 t128.length co64) : Value).ownBlock ∧ k_ ≠ gb116 ∧ k_ ≠ gb160) (.slice Ao23 t112.length co23) t112) ∧ Aside0 (Kd.V (Kd.int .u32) 118 wc w.heap.size (fun k_ => some k_ ≠ ((.slice Ao64 t128.length co64) : Value).ownBlock ∧ k_ ≠ gb116 ∧ k_ ≠ gb160) (.slice Ao75 t153.length co75) t153) ∧ Aside0 (Kd.V (Kd.int .u32) 118 wc w.heap.size (fun k_ => some k_ ≠ ((.slice Ao64 t128.length co64) : Value).ownBlock ∧ k_ ≠ gb116 ∧ k_ ≠ gb160) (.slice Ao76 t156.length co76) t156) ∧ Aside0 (wc.heap[gb116]? = some (.cells #[.bool t108, (.slice Ao22 t109.length co22), (.slice Ao23 t112.length co23)] 69 (0, 0))) ∧ Aside0 (wc.heap[gb160]? = some (.cells #[.bool t152, (.slice Ao75 t153.length co75), (.slice Ao76 t156.length co76)] 69 (0, 0))) ∧ Aside0 (Below w.heap.size w wc))
               case first =>
                have H := HC85.out
                clear HC85
                by_cases c86 : a5 < (-200)
                rotate_left
                ·rw [if_neg c86] at H
                 have c86b0 : decide (a5 < (-200)) = false := decide_eq_false c86
                 clear c86
                 (first | rw [c86b0] | (simp only [i64_w, i32_w]; rw [c86b0]) | skip)
                 have H' := Aside0.mk H
                 clear H
                 go_wp2
                 go_meet
                 case rel => exact ⟨_, (decide (a5 > 200)), rS, H', ⟨by have := HJ8.out; have := HJ15.out; have := HJ32.out; have := HJ44.out; have := HJ52.out; first | omega | exact Nat.le_refl _⟩, ⟨rup HO_20.out⟩, ⟨vup HO_117001.out⟩, ⟨vup HO_117002.out⟩, ⟨vup HO_161001.out⟩, ⟨vup HO_161002.out⟩, ⟨by exact kU BK116⟩, ⟨by exact kU BK160⟩, ⟨hB⟩⟩
                rw [if_pos c86] at H
                have c86b0 : decide (a5 < (-200)) = true := decide_eq_true c86
                clear c86
                (first | rw [c86b0] | (simp only [i64_w, i32_w]; rw [c86b0]) | skip)
                have H' := Aside0.mk H
                clear H
                go_wp2
                go_meet
                case rel => exact ⟨_, (true), rS, H', ⟨by have := HJ8.out; have := HJ15.out; have := HJ32.out; have := HJ44.out; have := HJ52.out; first | omega | exact Nat.le_refl _⟩, ⟨rup HO_20.out⟩, ⟨vup HO_117001.out⟩, ⟨vup HO_117002.out⟩, ⟨vup HO_161001.out⟩, ⟨vup HO_161002.out⟩, ⟨by exact kU BK116⟩, ⟨by exact kU BK160⟩, ⟨hB⟩⟩
               case rest =>
                clear HC85
                try clear c1
                try clear c2
                try clear p2
                try clear c3
                try clear c4
                try clear c5
                try clear c7
                try clear c8
                try clear c9
                try clear c10
                try clear c11
                try clear c11b0
                try clear c11b1
                try clear c12
                try clear c21
                try clear c24
                try clear c24b0
                try clear c24b1
                try clear c24b2
                try clear c25
                try clear c26
                try clear c26b0
                try clear c26b1
                try clear c28
                try clear c28b0
                try clear c28b1
                try clear c32
                try clear c34
                try clear c34b0
                try clear c34b1
                try clear c46
                try clear c46b0
                try clear c51
                try clear c73
                try clear c77
                try clear c77b0
                try clear c78
                try clear c79
                try clear c80
                try clear c81
                try clear c82
                try clear c82b0
                try clear c82b1
                try clear c83
                try clear c85
                try clear c86
                try clear c86b0
                try clear hcz21_0
                try clear hcz21_1
                try clear hcz21_2
                try clear hcz30_0
                try clear hcz30_1
                try clear hcz30_2
                try clear hcz74_0
                try clear hcz74_1
                try clear hcz74_2
                try clear hcz84_0
                try clear hcz84_1
                try clear hcz84_2
                try clear hfz21_0
                try clear hfz21_1
                try clear hfz21_2
                try clear hfz30_0
                try clear hfz30_1
                try clear hfz30_2
                try clear hfz74_0
                try clear hfz74_1
                try clear hfz74_2
                try clear hfz84_0
                try clear hfz84_1
                try clear hfz84_2
                try clear p2
                obtain ⟨kq, x133_84, rfl, HA, HJ84, HO_20, HO_117001, HO_117002, HO_161001, HO_161002, BK116, BK160, HB⟩ := hcut
                cases kq with
                | zero => exact absurd HA.out (by simp [flyballlaw03_RatioMakes.j5])
                | succ kj84 =>
                 have H := HA.out
                 clear HA
                 simp only [flyballlaw03_RatioMakes.j5] at H
                 by_cases c87 : x133_84 = true
                 ·subst c87
                  replace H := ifT H
                  by_cases c88 : (true : Bool) = true
                  ·clear c88
                   replace H := ifT H
                   by_cases c89 : x18_32 = true
                   ·subst c89
                    replace H := ifT H
                    by_cases c90 : t151 = true
                    ·subst c90
                     replace H := ifT H
                     have HT_ := Option.some.inj H
                     clear H
                     go_wp2
                     go_ret
                     exact ⟨er, hB⟩
                    ·replace c90 := Bool.eq_false_iff.mpr c90
                     subst c90
                     have H1 : (some false) = some true := by rw [if_neg (show ¬ (false = true) by decide)] at H; first | done | exact H
                     clear H
                     have H := H1
                     clear H1
                     exact absurd H (by simp)
                   ·replace c89 := Bool.eq_false_iff.mpr c89
                    subst c89
                    have H1 : (some false) = some true := by rw [if_neg (show ¬ (false = true) by decide)] at H; first | done | exact H
                    clear H
                    have H := H1
                    clear H1
                    exact absurd H (by simp)
                  ·exact absurd rfl c88
                 ·replace c87 := Bool.eq_false_iff.mpr c87
                  subst c87
                  have H1 : ((flyballref01_Of.f kj84 (([a4] : List Int))).bind fun t164 => ((flyballref01_Shl.f kj84 t164 (mx a5 0)).bind fun t167 => ((flyballref01_Shl.f kj84 t128 (mx (wrap64 (-a5)) 0)).bind fun t170 => ((flyballref03_Low.f kj84 a0 t167 t170).bind fun bt173 => ((flyballlaw03_is.f kj84 t152 t153 t156 bt173.1 bt173.2.1 bt173.2.2).bind fun t181 => (if true = true then (if x18_32 = true then (if t151 = true then (if t181 = true then (some (t159 == 0)) else (some false)) else (some false)) else (some false)) else (some false))))))) = some true := by rw [if_neg (show ¬ (false = true) by decide)] at H; first | done | exact H
                  clear H
                  have H := H1
                  clear H1
                  obtain ⟨y161, hy161⟩ : ∃ y_ : List Int, y_ = (([a4] : List Int)) := ⟨_, rfl⟩
                  replace H : ((flyballref01_Of.f kj84 y161).bind fun t164 => ((flyballref01_Shl.f kj84 t164 (mx a5 0)).bind fun t167 => ((flyballref01_Shl.f kj84 t128 (mx (wrap64 (-a5)) 0)).bind fun t170 => ((flyballref03_Low.f kj84 a0 t167 t170).bind fun bt173 => ((flyballlaw03_is.f kj84 t152 t153 t156 bt173.1 bt173.2.1 bt173.2.2).bind fun t181 => (if true = true then (if x18_32 = true then (if t151 = true then (if t181 = true then (some (t159 == 0)) else (some false)) else (some false)) else (some false)) else (some false))))))) = some true := by first | (rw [hy161]; with_reducible exact H) | (have H2_ := (Option.bind_some _ _).symm.trans H; rw [hy161]; with_reducible exact H2_) | (have H2_ := (Option.bind_some _ _).symm.trans H; with_reducible exact H2_) | with_reducible exact H | (rw [hy161]; exact H) | exact H
                  have Ny161 := Aside0.mk hy161
                  clear hy161
                  replace H := bi H
                  obtain ⟨t164, A91, H⟩ := H
                  obtain ⟨ji92, hji92⟩ : ∃ j_ : Int, (mx a5 0) = j_ := ⟨_, rfl⟩
                  replace H : ((flyballref01_Shl.f kj84 t164 (ji92)).bind fun t167 => ((flyballref01_Shl.f kj84 t128 (mx (wrap64 (-a5)) 0)).bind fun t170 => ((flyballref03_Low.f kj84 a0 t167 t170).bind fun bt173 => ((flyballlaw03_is.f kj84 t152 t153 t156 bt173.1 bt173.2.1 bt173.2.2).bind fun t181 => (if true = true then (if x18_32 = true then (if t151 = true then (if t181 = true then (some (t159 == 0)) else (some false)) else (some false)) else (some false)) else (some false)))))) = some true := by first | (rw [hji92] at H; exact H) | (simp only [hji92] at H ⊢; exact H)
                  (try rw [hji92] at A91)
                  have hji92_ : (if a5 < 0 then 0 else a5) = ji92 := hji92
                  replace H := bi H
                  obtain ⟨t167, A93, H⟩ := H
                  obtain ⟨ji94, hji94⟩ : ∃ j_ : Int, (mx (wrap64 (-a5)) 0) = j_ := ⟨_, rfl⟩
                  replace H : ((flyballref01_Shl.f kj84 t128 (ji94)).bind fun t170 => ((flyballref03_Low.f kj84 a0 t167 t170).bind fun bt173 => ((flyballlaw03_is.f kj84 t152 t153 t156 bt173.1 bt173.2.1 bt173.2.2).bind fun t181 => (if true = true then (if x18_32 = true then (if t151 = true then (if t181 = true then (some (t159 == 0)) else (some false)) else (some false)) else (some false)) else (some false))))) = some true := by first | (rw [hji94] at H; exact H) | (simp only [hji94] at H ⊢; exact H)
                  (try rw [hji94] at A91)
                  (try rw [hji94] at A93)
                  have hji94_ : (if (wrap64 (-a5)) < 0 then 0 else (wrap64 (-a5))) = ji94 := hji94
                  replace H := bi H
                  obtain ⟨t170, A95, H⟩ := H
                  replace H := bi H
                  obtain ⟨⟨t173, t174, t177⟩, A96, H⟩ := H
                  try dsimp only at H
                  replace H := bi H
                  obtain ⟨t181, A97, H⟩ := H
                  by_cases c98 : (true : Bool) = true
                  ·clear c98
                   replace H := ifT H
                   by_cases c99 : x18_32 = true
                   ·subst c99
                    replace H := ifT H
                    by_cases c100 : t151 = true
                    ·subst c100
                     replace H := ifT H
                     by_cases c101 : t181 = true
                     ·subst c101
                      replace H := ifT H
                      have HT_ := Option.some.inj H
                      clear H
                      go_wp2_with (first | ((with_reducible refine gd 146 rfl ?_); (try (refine gate_guard (by rfl) ?_; dsimp only)); refine Kd.R_lit (Kd.int .u64) _ 47 ?hg (N := 146) ?hd (xs := ([a4] : List Int)) (inner := [.int .u64 a4]) (ok := fun _ => True) (okp := fun _ => True) ?hr ?hp (fun _ hk => hk) trivial (Below.refl _ _) (Nat.le_refl _) (by simp) ?_; (case hd => rfl); (case hg => rfl); (case hr => first | (go_simp; done) | (go_simp; rfl)); (case hp => exact (Reps.one (show Kd.M (Kd.int .u64) _ _ _ a4 [.int .u64 a4] from rfl) (Reps.none _ _))); intro v162 w102 ho103 hb hg_ hnew_; clear hg_ hnew_; (first | rw [← Ny161.out] at ho103 | (simp only [Int.reduceToNat] at ho103; rw [← Ny161.out] at ho103)); replace HO_20 := rA HO_20 hb; replace HO_117001 := Aside0.mk (Kd.V_elder' (vup HO_117001.out) (Kd.R_base ho103) hb); replace HO_117002 := Aside0.mk (Kd.V_elder' (vup HO_117002.out) (Kd.R_base ho103) hb); replace HO_161001 := Aside0.mk (Kd.V_elder' (vup HO_161001.out) (Kd.R_base ho103) hb); replace HO_161002 := Aside0.mk (Kd.V_elder' (vup HO_161002.out) (Kd.R_base ho103) hb); have HO163 := Aside0.mk (Kd.R_lower ho103 (below_size hB)); replace BK116 := kA BK116 hb; replace BK160 := kA BK160 hb; replace HB := bS HB hb; clear hb ho103; obtain ⟨Ao104, co104, eo104⟩ := Kd.R_slice HO163.out; subst eo104) | ((with_reducible refine gc 51 rfl ?_); refine gL 147 Try.func51 #[.slice Ao104 y161.length co104] ?_; (with_reducible refine (flyballref01_Of.calls kj84 _ _ y161 t164 _ ?_ ?_ A91.out).mono ?_); exact cup ((Kd.R_reads' HO163.out).2.2); exact (Kd.R_reads' HO163.out).2.1; rintro e w105 ⟨v165, rfl, ho0, hb⟩; refine ⟨_, rfl, ?_⟩; replace HO_117001 := Aside0.mk (Kd.V_elder' (vup HO_117001.out) (Kd.R_base ho0) hb); replace HO_117002 := Aside0.mk (Kd.V_elder' (vup HO_117002.out) (Kd.R_base ho0) hb); replace HO_161001 := Aside0.mk (Kd.V_elder' (vup HO_161001.out) (Kd.R_base ho0) hb); replace HO_161002 := Aside0.mk (Kd.V_elder' (vup HO_161002.out) (Kd.R_base ho0) hb); replace HO163 := rA HO163 hb; have HO166 := Aside0.mk (Kd.R_lower (Kd.R_new' ho0 (Kd.R_lt (rup HO_20.out))) (below_size hB)); replace HO_20 := Aside0.mk (Kd.R_elder' (rup HO_20.out) (Kd.R_base ho0) hb); replace BK116 := kA BK116 hb; replace BK160 := kA BK160 hb; replace HB := bS HB hb; clear hb ho0; obtain ⟨Ao106, co106, eo106⟩ := Kd.R_slice HO166.out; subst eo106) | ((with_reducible refine gc 45 rfl ?_); refine goesL_ (some 152) rfl rfl Try.func45 (by kernel_rfl) rfl #[.slice Ao106 t164.length co106, .int .i64 ji92] rfl (by (try simp only [List.map_toArray, List.map_cons, List.map_nil]); first | done | (simp only [hji92]; rfl) | rfl | (simp only [List.length_drop, List.length_take]; rfl)) ?_; (with_reducible refine (flyballref01_Shl.calls kj84 _ _ t164 ji92 t167 _ ?_ ?_ A93.out).mono ?_); exact cup ((Kd.R_reads' HO166.out).2.2); exact (Kd.R_reads' HO166.out).2.1; rintro e w107 ⟨v168, rfl, ho0, hb⟩; refine ⟨_, rfl, ?_⟩; replace HO_117001 := Aside0.mk (Kd.V_elder' (vup HO_117001.out) (Kd.R_base ho0) hb); replace HO_117002 := Aside0.mk (Kd.V_elder' (vup HO_117002.out) (Kd.R_base ho0) hb); replace HO_161001 := Aside0.mk (Kd.V_elder' (vup HO_161001.out) (Kd.R_base ho0) hb); replace HO_161002 := Aside0.mk (Kd.V_elder' (vup HO_161002.out) (Kd.R_base ho0) hb); replace HO163 := rA HO163 hb; have HO169 := Aside0.mk (Kd.R_lower (Kd.R_new' (Kd.R_new' ho0 (Kd.R_lt (rup HO_20.out))) (Kd.R_lt (rup HO166.out))) (below_size hB)); replace HO_20 := Aside0.mk (Kd.R_elder' (rup HO_20.out) (Kd.R_base ho0) hb); replace HO166 := Aside0.mk (Kd.R_elder' (rup HO166.out) (Kd.R_base ho0) hb); replace BK116 := kA BK116 hb; replace BK160 := kA BK160 hb; replace HB := bS HB hb; clear hb ho0) | ((with_reducible refine gc 45 rfl ?_); refine goesL_ (some 157) rfl rfl Try.func45 (by kernel_rfl) rfl #[.slice Ao64 t128.length co64, .int .i64 ji94] rfl (by (try simp only [List.map_toArray, List.map_cons, List.map_nil]); first | done | (simp only [hji94]; rfl) | rfl | (simp only [List.length_drop, List.length_take]; rfl)) ?_; (with_reducible refine (flyballref01_Shl.calls kj84 _ _ t128 ji94 t170 _ ?_ ?_ A95.out).mono ?_); exact cup ((Kd.R_reads' HO_20.out).2.2); exact (Kd.R_reads' HO_20.out).2.1; rintro e w108 ⟨v171, rfl, ho0, hb⟩; refine ⟨_, rfl, ?_⟩; replace HO_117001 := Aside0.mk (Kd.V_elder' (vup HO_117001.out) (Kd.R_base ho0) hb); replace HO_117002 := Aside0.mk (Kd.V_elder' (vup HO_117002.out) (Kd.R_base ho0) hb); replace HO_161001 := Aside0.mk (Kd.V_elder' (vup HO_161001.out) (Kd.R_base ho0) hb); replace HO_161002 := Aside0.mk (Kd.V_elder' (vup HO_161002.out) (Kd.R_base ho0) hb); replace HO163 := rA HO163 hb; have HO172 := Aside0.mk (Kd.R_lower (Kd.R_new' (Kd.R_new' (Kd.R_new' ho0 (Kd.R_lt (rup HO_20.out))) (Kd.R_lt (rup HO166.out))) (Kd.R_lt (rup HO169.out))) (below_size hB)); replace HO_20 := Aside0.mk (Kd.R_elder' (rup HO_20.out) (Kd.R_base ho0) hb); replace HO166 := Aside0.mk (Kd.R_elder' (rup HO166.out) (Kd.R_base ho0) hb); replace HO169 := Aside0.mk (Kd.R_elder' (rup HO169.out) (Kd.R_base ho0) hb); replace BK116 := kA BK116 hb; replace BK160 := kA BK160 hb; replace HB := bS HB hb; clear hb ho0; obtain ⟨Ao109, co109, eo109⟩ := Kd.R_slice HO169.out; subst eo109; obtain ⟨Ao110, co110, eo110⟩ := Kd.R_slice HO172.out; subst eo110) | ((with_reducible refine gc 96 rfl ?_); refine gL 158 Try.func96 #[.bool a0, .slice Ao109 t167.length co109, .slice Ao110 t170.length co110] ?_; (with_reducible refine (flyballref03_Low.calls kj84 a0 (fun k_ => some k_ = (.slice Ao109 t167.length co109 : Value).ownBlock) _ _ t167 (fun k_ => some k_ = (.slice Ao110 t170.length co110 : Value).ownBlock) _ _ t170 t173 t174 t177 _ ?_ ?_ A96.out).mono ?_); (exact Kd.R_V (Kd.R_tight rfl (Kd.R_types (Kd.R_types (Kd.R_apart' (HO169.out) (Kd.R_typed HO163.out) (by decide)) BK116.out (by decide)) BK160.out (by decide)))); (exact Kd.R_V (Kd.R_tight rfl (Kd.R_types (Kd.R_types (Kd.R_apart' (HO172.out) (Kd.R_typed HO163.out) (by decide)) BK116.out (by decide)) BK160.out (by decide)))); rintro e w111 ⟨v175, v178, rfl, ho0, ho1, hb⟩; refine ⟨_, rfl, ?_⟩; replace HO_117001 := vA HO_117001 hb; replace HO_117002 := vA HO_117002 hb; replace HO_161001 := vA HO_161001 hb; replace HO_161002 := vA HO_161002 hb; have HO176 := lw HB (fun k_ => some k_ ≠ (.slice Ao64 t128.length co64 : Value).ownBlock ∧ some k_ ≠ (.slice Ao104 y161.length co104 : Value).ownBlock ∧ some k_ ≠ (.slice Ao106 t164.length co106 : Value).ownBlock ∧ k_ ≠ gb116 ∧ k_ ≠ gb160) ho0 (fun k_ hk_ => Or.elim hk_ (fun hs_ => Or.elim hs_ (fun hs_ => ⟨((Kd.R_types (Kd.R_types (Kd.R_apart' (HO169.out) (Kd.R_typed HO163.out) (by decide)) BK116.out (by decide)) BK160.out (by decide)).1 k_ hs_.symm).1.1.1.1.1.2, ((Kd.R_types (Kd.R_types (Kd.R_apart' (HO169.out) (Kd.R_typed HO163.out) (by decide)) BK116.out (by decide)) BK160.out (by decide)).1 k_ hs_.symm).1.1.2, ((Kd.R_types (Kd.R_types (Kd.R_apart' (HO169.out) (Kd.R_typed HO163.out) (by decide)) BK116.out (by decide)) BK160.out (by decide)).1 k_ hs_.symm).1.1.1.1.2, ((Kd.R_types (Kd.R_types (Kd.R_apart' (HO169.out) (Kd.R_typed HO163.out) (by decide)) BK116.out (by decide)) BK160.out (by decide)).1 k_ hs_.symm).1.2, ((Kd.R_types (Kd.R_types (Kd.R_apart' (HO169.out) (Kd.R_typed HO163.out) (by decide)) BK116.out (by decide)) BK160.out (by decide)).1 k_ hs_.symm).2⟩) (fun hs_ => ⟨((Kd.R_types (Kd.R_types (Kd.R_apart' (HO172.out) (Kd.R_typed HO163.out) (by decide)) BK116.out (by decide)) BK160.out (by decide)).1 k_ hs_.symm).1.1.1.1.1.2, ((Kd.R_types (Kd.R_types (Kd.R_apart' (HO172.out) (Kd.R_typed HO163.out) (by decide)) BK116.out (by decide)) BK160.out (by decide)).1 k_ hs_.symm).1.1.2, ((Kd.R_types (Kd.R_types (Kd.R_apart' (HO172.out) (Kd.R_typed HO163.out) (by decide)) BK116.out (by decide)) BK160.out (by decide)).1 k_ hs_.symm).1.1.1.1.2, ((Kd.R_types (Kd.R_types (Kd.R_apart' (HO172.out) (Kd.R_typed HO163.out) (by decide)) BK116.out (by decide)) BK160.out (by decide)).1 k_ hs_.symm).1.2, ((Kd.R_types (Kd.R_types (Kd.R_apart' (HO172.out) (Kd.R_typed HO163.out) (by decide)) BK116.out (by decide)) BK160.out (by decide)).1 k_ hs_.symm).2⟩)) (fun hn_ => ⟨Kd.fresh' (Kd.R_lt (rup HO_20.out)) k_ hn_, Kd.fresh' (Kd.R_lt (rup HO163.out)) k_ hn_, Kd.fresh' (Kd.R_lt (rup HO166.out)) k_ hn_, kF BK116 hn_, kF BK160 hn_⟩)); have HO179 := lw HB (fun k_ => some k_ ≠ (.slice Ao64 t128.length co64 : Value).ownBlock ∧ some k_ ≠ (.slice Ao104 y161.length co104 : Value).ownBlock ∧ some k_ ≠ (.slice Ao106 t164.length co106 : Value).ownBlock ∧ k_ ≠ gb116 ∧ k_ ≠ gb160) ho1 (fun k_ hk_ => Or.elim hk_ (fun hs_ => Or.elim hs_ (fun hs_ => ⟨((Kd.R_types (Kd.R_types (Kd.R_apart' (HO169.out) (Kd.R_typed HO163.out) (by decide)) BK116.out (by decide)) BK160.out (by decide)).1 k_ hs_.symm).1.1.1.1.1.2, ((Kd.R_types (Kd.R_types (Kd.R_apart' (HO169.out) (Kd.R_typed HO163.out) (by decide)) BK116.out (by decide)) BK160.out (by decide)).1 k_ hs_.symm).1.1.2, ((Kd.R_types (Kd.R_types (Kd.R_apart' (HO169.out) (Kd.R_typed HO163.out) (by decide)) BK116.out (by decide)) BK160.out (by decide)).1 k_ hs_.symm).1.1.1.1.2, ((Kd.R_types (Kd.R_types (Kd.R_apart' (HO169.out) (Kd.R_typed HO163.out) (by decide)) BK116.out (by decide)) BK160.out (by decide)).1 k_ hs_.symm).1.2, ((Kd.R_types (Kd.R_types (Kd.R_apart' (HO169.out) (Kd.R_typed HO163.out) (by decide)) BK116.out (by decide)) BK160.out (by decide)).1 k_ hs_.symm).2⟩) (fun hs_ => ⟨((Kd.R_types (Kd.R_types (Kd.R_apart' (HO172.out) (Kd.R_typed HO163.out) (by decide)) BK116.out (by decide)) BK160.out (by decide)).1 k_ hs_.symm).1.1.1.1.1.2, ((Kd.R_types (Kd.R_types (Kd.R_apart' (HO172.out) (Kd.R_typed HO163.out) (by decide)) BK116.out (by decide)) BK160.out (by decide)).1 k_ hs_.symm).1.1.2, ((Kd.R_types (Kd.R_types (Kd.R_apart' (HO172.out) (Kd.R_typed HO163.out) (by decide)) BK116.out (by decide)) BK160.out (by decide)).1 k_ hs_.symm).1.1.1.1.2, ((Kd.R_types (Kd.R_types (Kd.R_apart' (HO172.out) (Kd.R_typed HO163.out) (by decide)) BK116.out (by decide)) BK160.out (by decide)).1 k_ hs_.symm).1.2, ((Kd.R_types (Kd.R_types (Kd.R_apart' (HO172.out) (Kd.R_typed HO163.out) (by decide)) BK116.out (by decide)) BK160.out (by decide)).1 k_ hs_.symm).2⟩)) (fun hn_ => ⟨Kd.fresh' (Kd.R_lt (rup HO_20.out)) k_ hn_, Kd.fresh' (Kd.R_lt (rup HO163.out)) k_ hn_, Kd.fresh' (Kd.R_lt (rup HO166.out)) k_ hn_, kF BK116 hn_, kF BK160 hn_⟩)); replace HO_20 := rA HO_20 hb; replace HO163 := rA HO163 hb; replace HO166 := rA HO166 hb; replace HO169 := rA HO169 hb; replace HO172 := rA HO172 hb; replace BK116 := kA BK116 hb; replace BK160 := kA BK160 hb; replace HB := bS HB hb; clear hb ho0 ho1) | ((with_reducible refine gd 25 rfl ?_); (try (refine gate_guard (by rfl) ?_; dsimp only)); refine box_event ?hg (N := 25) ?hd (cs := #[.bool false, .slice none 0 0, .slice none 0 0]) (t := 92) ?hr ?_; (case hd => rfl); (case hg => rfl); (case hr => first | (go_simp; done) | (go_simp; rfl)); intro gb180 hg w112 hbox hb; replace HO_20 := rA HO_20 hb; replace HO_117001 := vE HO_117001 hg hb; replace HO_117002 := vE HO_117002 hg hb; replace HO_161001 := vE HO_161001 hg hb; replace HO_161002 := vE HO_161002 hg hb; replace HO163 := rA HO163 hb; replace HO166 := rA HO166 hb; replace HO169 := rA HO169 hb; replace HO172 := rA HO172 hb; replace HO176 := vE HO176 hg hb; replace HO179 := vE HO179 hg hb; have BK180 := Aside0.mk hbox; have GW180 := gS' hg HB; have GE180 := gS' hg HB; replace HB := bS HB hb; have NB116_180 := nL hg BK116; have NB180_116 := nR hg BK116; replace BK116 := kA BK116 hb; have NB160_180 := nL hg BK160; have NB180_160 := nR hg BK160; replace BK160 := kA BK160 hb; clear hb hbox hg; have hnb113 := NB180_116.out; have hnc113 := NB116_180.out; have hnb114 := NB180_160.out; have hnc114 := NB160_180.out; obtain ⟨⟨hcz115_0, hcz115_1, hcz115_2⟩, hfz115_0, hfz115_1, hfz115_2⟩ := cE BK180; obtain ⟨Ao116, co116, eo116⟩ := Kd.V_slice HO176.out; subst eo116; obtain ⟨Ao117, co117, eo117⟩ := Kd.V_slice HO179.out; subst eo117; have hnb118 := NB160_116.out; have hnc118 := NB116_160.out; obtain ⟨⟨hcz119_0, hcz119_1, hcz119_2⟩, hfz119_0, hfz119_1, hfz119_2⟩ := cE BK160) | ((with_reducible refine gc 85 rfl ?_); refine gL 161 Try.func85 #[.agg #[.bool t152, .slice Ao75 t153.length co75, .slice Ao76 t156.length co76], .agg #[.bool t173, .slice Ao116 t174.length co116, .slice Ao117 t177.length co117]] ?_; (with_reducible refine (flyballlaw03_is.calls kj84 t152 _ _ t153 _ _ t156 t173 _ _ t174 _ _ t177 true _ ?_ ?_ ?_ ?_ ?_ ?_ ?_ ?_ A97.out).mono ?_); (exact (Kd.V_reads' (e := 118) (base := w.heap.size) (n := t153.length) (c := co75) (vG (v3p HO_161001 (fun _ hk => hk.2)) (fun _ h_ => h_.1))).2.2); exact (Kd.V_reads' HO_161001.out).2.1; (exact (Kd.V_reads' (e := 118) (base := w.heap.size) (n := t156.length) (c := co76) (vG (v3p HO_161002 (fun _ hk => hk.2)) (fun _ h_ => h_.1))).2.2); exact (Kd.V_reads' HO_161002.out).2.1; (exact (Kd.V_reads' (e := 4) (base := w.heap.size) (n := t174.length) (c := co116) (vG (v3p HO176 (fun _ hk => hk.2)) (fun _ h_ => h_.1))).2.2); exact (Kd.V_reads' HO176.out).2.1; (exact (Kd.V_reads' (e := 4) (base := w.heap.size) (n := t177.length) (c := co117) (vG (v3p HO179 (fun _ hk => hk.2)) (fun _ h_ => h_.1))).2.2); exact (Kd.V_reads' HO179.out).2.1; rintro e w120 ⟨rfl, hb⟩; refine ⟨_, rfl, ?_⟩; replace HO_20 := rF hb (r3t HO_20 BK180) (fun _ h_ => h_.1); replace HO_117001 := vF hb (v3p HO_117001 (fun _ hk => hk.2)) (fun _ h_ => h_.1); replace HO_117002 := vF hb (v3p HO_117002 (fun _ hk => hk.2)) (fun _ h_ => h_.1); replace HO_161001 := vF hb (v3p HO_161001 (fun _ hk => hk.2)) (fun _ h_ => h_.1); replace HO_161002 := vF hb (v3p HO_161002 (fun _ hk => hk.2)) (fun _ h_ => h_.1); replace HO163 := rF hb (r3t HO163 BK180) (fun _ h_ => h_.1); replace HO166 := rF hb (r3t HO166 BK180) (fun _ h_ => h_.1); replace HO169 := rF hb (r3t HO169 BK180) (fun _ h_ => h_.1); replace HO172 := rF hb (r3t HO172 BK180) (fun _ h_ => h_.1); replace HO176 := vF hb (v3p HO176 (fun _ hk => hk.2)) (fun _ h_ => h_.1); replace HO179 := vF hb (v3p HO179 (fun _ hk => hk.2)) (fun _ h_ => h_.1); replace BK116 := kB (q3 BK116 NB116_180) hb; replace BK160 := kB (q3 BK160 NB160_180) hb; replace BK180 := kB (p3 BK180) hb; replace HB := bS HB hb; clear hb))
                      go_ret
                      exact ⟨by first | rfl | (simp [errW_none, errW_some] <;> rfl) | (simp only [← hji92, ← hji94]; first | rfl | (simp [errW_none, errW_some] <;> rfl)) | (simp [*, errW_none, errW_some] <;> rfl), hB⟩
                     ·replace c101 := Bool.eq_false_iff.mpr c101
                      subst c101
                      have H1 : (some false) = some true := by rw [if_neg (show ¬ (false = true) by decide)] at H; first | done | exact H
                      clear H
                      have H := H1
                      clear H1
                      exact absurd H (by simp)
                    ·replace c100 := Bool.eq_false_iff.mpr c100
                     subst c100
                     have H1 : (some false) = some true := by rw [if_neg (show ¬ (false = true) by decide)] at H; first | done | exact H
                     clear H
                     have H := H1
                     clear H1
                     exact absurd H (by simp)
                   ·replace c99 := Bool.eq_false_iff.mpr c99
                    subst c99
                    have H1 : (some false) = some true := by rw [if_neg (show ¬ (false = true) by decide)] at H; first | done | exact H
                    clear H
                    have H := H1
                    clear H1
                    exact absurd H (by simp)
                  ·exact absurd rfl c98
 ·replace c8 := Bool.eq_false_iff.mpr c8
  subst c8
  have H1 : (some false) = some true := by rw [if_neg (show ¬ (false = true) by decide)] at H; first | done | exact H
  clear H
  have H := H1
  clear H1
  exact absurd H (by simp)
/-- THE ONE PURE STATEMENT of flyballlaw03_RatioMakes: yours. -/
def flyballlaw03_RatioMakes.Pure : Prop := ∀ (a0 : Bool) (l1 : List Int) (l2 : List Int) (a3 : Int) (a4 : Int) (a5 : Int), l1.length ≤ maxLen → l1.length * 4 ≤ 140737488351232 → (∀ x ∈ l1, (Lit.int .u32 x).wf = true) → l2.length ≤ maxLen → l2.length * 4 ≤ 140737488351232 → (∀ x ∈ l2, (Lit.int .u32 x).wf = true) → (Lit.int .i64 a3).wf = true → (Lit.int .u64 a4).wf = true → (Lit.int .i64 a5).wf = true → ∃ k, flyballlaw03_RatioMakes.f k a0 l1 l2 a3 a4 a5 = some true
theorem flyballlaw03_RatioMakes.walk (P : flyballlaw03_RatioMakes.Pure) (a0 : Bool) (a1 : Option Addr) (len1 cap1 : Nat) (z1 : List Int) (a2 : Option Addr) (len2 cap2 : Nat) (z2 : List Int) (a3 : Int) (a4 : Int) (a5 : Int) (w : World) (w1 : (a1 = none ∧ len1 = 0 ∧ cap1 = 0 ∧ z1 = []) ∨ ∃ x, a1 = some x ∧ len1 ≤ cap1 ∧ cap1 ≤ maxLen ∧ z1.length = cap1 ∧ (∀ i, i < z1.length → w.cell? (x.add i) = some (.int .u32 (z1.getD i 0))) ∧ ∀ n ∈ z1, (Lit.int .u32 n).wf = true) (y1 : len1 * 4 ≤ 140737488351232) (w2 : (a2 = none ∧ len2 = 0 ∧ cap2 = 0 ∧ z2 = []) ∨ ∃ x, a2 = some x ∧ len2 ≤ cap2 ∧ cap2 ≤ maxLen ∧ z2.length = cap2 ∧ (∀ i, i < z2.length → w.cell? (x.add i) = some (.int .u32 (z2.getD i 0))) ∧ ∀ n ∈ z2, (Lit.int .u32 n).wf = true) (y2 : len2 * 4 ≤ 140737488351232) (w3 : (Lit.int .i64 a3).wf = true) (w4 : (Lit.int .u64 a4).wf = true) (w5 : (Lit.int .i64 a5).wf = true) :
  Calls Try.prog 21 #[.bool a0, .slice a1 len1 cap1, .slice a2 len2 cap2, .int .i64 a3, .int .u64 a4, .int .i64 a5] w fun e w' => e = .returned (.bool true) ∧ Below w.heap.size w w' := by
 obtain ⟨l1, rfl, hr1, hm1, hw1, hc1⟩ := ReadsInt.ofRowC w1
 obtain ⟨l2, rfl, hr2, hm2, hw2, hc2⟩ := ReadsInt.ofRowC w2
 obtain ⟨k, h⟩ := P a0 l1 l2 a3 a4 a5 hm1 y1 hw1 hm2 y2 hw2 w3 w4 w5
 refine (flyballlaw03_RatioMakes.calls k a0 _ _ l1 _ _ l2 a3 a4 a5 w (Kd.C_of_reads (d := (0 : Int)) (h1 := fun _ => rfl) hr1) hc1 (Kd.C_of_reads (d := (0 : Int)) (h1 := fun _ => rfl) hr2) hc2 h).mono ?_
 rintro e w' ⟨rfl, hd⟩
 exact ⟨rfl, hd⟩
end Go.Proofs.Ytagbnkbhobmgjaa.Fn
end
