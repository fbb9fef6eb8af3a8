/- The greatest of some rational numbers is one of them, and none is above; where there is none it is 0; and order is order. Part 13 of 19. -/
import Derived.Test.YtagbnkbhobmgjaaRatioMostE
import Derived.Test.YtagbnkbhobmgjaaRatioMostL
import Derived.Test.YtagbnkbhobmgjaaRatioMostK
section
-- Written by a program of this session (a turned copy of the kit's printer, and hand-written parts). Not trusted: Lean checks it.
namespace Go.Proofs.Ytagbnkbhobmgjaa.Fn
open Go.RowKit Go.Proofs.YtagbnkbhobmgjaaW.PrintWords Go.Proofs.YtagbnkbhobmgjaaW.PrintLast Go.Proofs.YtagbnkbhobmgjaaW.PrintMore
attribute [local go_sem] max2_int min2_int max_two min_two max_three min_three max_four min_four   -- for this text's walks alone
set_option linter.unusedVariables false
set_option linter.unusedSimpArgs false
/-! ### flyballlaw03_RatioMost: function 8 -/
mutual
def flyballlaw03_RatioMost.l0 : Nat → List (S69) → Bool → Bool → Int → Bool → List Int → List Int → Option (Bool)
 | 0, _, _, _, _, _, _, _ => none
 | k + 1, x0, x3, x6, x7, x111000, x111001, x111002 => if x7 < (x0.length : Int) then (if 0 ≤ x7 then ((ratio_R_Cmp.f k x111000 x111001 x111002 ((rd_T69 x0 x7).f0) ((rd_T69 x0 x7).f1) ((rd_T69 x0 x7).f2)).bind fun t113 => (if t113 < 0 then (some false) else (if x6 = true then (flyballlaw03_RatioMost.j1 k x0 x3 true x7 x111000 x111001 x111002) else (flyballlaw03_RatioMost.j1 k x0 x3 (t113 == 0) x7 x111000 x111001 x111002)))) else (none)) else (if x3 = true then (some x6) else (some false))
def flyballlaw03_RatioMost.j1 : Nat → List (S69) → Bool → Bool → Int → Bool → List Int → List Int → Option (Bool)
 | 0, _, _, _, _, _, _, _ => none
 | k + 1, x0, x3, x6, x7, x111000, x111001, x111002 => flyballlaw03_RatioMost.l1 k x0 x3 x6 x7 0 x111000 x111001 x111002
def flyballlaw03_RatioMost.l1 : Nat → List (S69) → Bool → Bool → Int → Int → Bool → List Int → List Int → Option (Bool)
 | 0, _, _, _, _, _, _, _, _ => none
 | k + 1, x0, x3, x6, x7, x9, x111000, x111001, x111002 => if x9 < (x0.length : Int) then (if 0 ≤ x7 then (if x7 < (x0.length : Int) then (if 0 ≤ x9 then ((ratio_R_Cmp.f k ((rd_T69 x0 x7).f0) ((rd_T69 x0 x7).f1) ((rd_T69 x0 x7).f2) ((rd_T69 x0 x9).f0) ((rd_T69 x0 x9).f1) ((rd_T69 x0 x9).f2)).bind fun t116 => ((ratio_R_Cmp.f k ((rd_T69 x0 x9).f0) ((rd_T69 x0 x9).f1) ((rd_T69 x0 x9).f2) ((rd_T69 x0 x7).f0) ((rd_T69 x0 x7).f1) ((rd_T69 x0 x7).f2)).bind fun t119 => (if t116 = (wrap64 (-t119)) then ((ratio_R_Cmp.f k ((rd_T69 x0 x7).f0) ((rd_T69 x0 x7).f1) ((rd_T69 x0 x7).f2) ((rd_T69 x0 x9).f0) ((rd_T69 x0 x9).f1) ((rd_T69 x0 x9).f2)).bind fun t122 => (if t122 < 0 then (if 0 < (x0.length : Int) then ((ratio_R_Cmp.f k ((rd_T69 x0 0).f0) ((rd_T69 x0 0).f1) ((rd_T69 x0 0).f2) ((rd_T69 x0 x7).f0) ((rd_T69 x0 x7).f1) ((rd_T69 x0 x7).f2)).bind fun t125 => (if t125 < 0 then ((ratio_R_Cmp.f k ((rd_T69 x0 0).f0) ((rd_T69 x0 0).f1) ((rd_T69 x0 0).f2) ((rd_T69 x0 x9).f0) ((rd_T69 x0 x9).f1) ((rd_T69 x0 x9).f2)).bind fun t128 => (if t128 ≥ 0 then (some false) else (flyballlaw03_RatioMost.l1 k x0 x3 x6 x7 (wrap64 (x9 + 1)) x111000 x111001 x111002))) else (flyballlaw03_RatioMost.l1 k x0 x3 x6 x7 (wrap64 (x9 + 1)) x111000 x111001 x111002))) else (none)) else (flyballlaw03_RatioMost.l1 k x0 x3 x6 x7 (wrap64 (x9 + 1)) x111000 x111001 x111002))) else (some false)))) else (none)) else (none)) else (none)) else (flyballlaw03_RatioMost.l0 k x0 x3 x6 (wrap64 (x7 + 1)) x111000 x111001 x111002)
end
def flyballlaw03_RatioMost.f (k : Nat) (l0 : List (S69)) : Option (Bool) := (flyballlaw03_works.f k).bind fun t101 => (if t101 = true then (if (l0.length : Int) > 8 then (some t101) else ((flyballlaw03_small.f k l0).bind fun t102 => (if t102 = true then ((ratio_Max.f k l0).bind fun bt103 => (if (l0.length : Int) = 0 then ((ratio_R_Sign.f k bt103.1 bt103.2.1 bt103.2.2).bind fun t111 => (some (t111 == 0))) else (flyballlaw03_RatioMost.l0 k l0 t101 false 0 bt103.1 bt103.2.1 bt103.2.2))) else (some t101)))) else (some false))
def flyballlaw03_RatioMost.T23 : Bool × List (List Nat × List Nat) := (true, [([], []), ([], []), ([0, 1], [0, 1]), ([2], [2]), ([], []), ([], []), ([4, 5], [4, 5]), ([6], [6]), ([3, 7], [3, 7]), ([], []), ([], []), ([9, 10], [9, 10]), ([11], [11]), ([], []), ([], []), ([13, 14], [13, 14]), ([15], [15]), ([12, 16, 8], [12, 16]), ([17], [17]), ([8, 18], [8, 18]), ([19, 17], [19]), ([20], [20]), ([20], [20]), ([21, 22, 20], [20, 21, 22]), ([23, 20], [20, 23]), ([20], [20]), ([20], [20]), ([25, 26, 20], [20, 25, 26]), ([27, 20], [20, 27]), ([24, 28, 20, 20], [20, 24, 28]), ([29, 20], [20, 29]), ([30, 29, 20], [20, 30]), ([31], [31]), ([32, 31], [31, 32]), ([33, 31], [31, 33]), ([31], [31]), ([31], [31]), ([35, 36, 31], [31, 35, 36]), ([37, 31], [31, 37]), ([34, 38, 31, 31], [31, 34, 38]), ([39, 31], [31, 39]), ([31, 40, 20], [20, 31, 40]), ([41, 39, 20], [20, 41]), ([42], [42]), ([43, 42], [42, 43]), ([44, 42], [42, 44]), ([42], [42]), ([42], [42]), ([46, 47, 42], [42, 46, 47]), ([48, 42], [42, 48]), ([45, 49, 42, 42], [42, 45, 49]), ([50, 42], [42, 50]), ([42, 51, 20], [20, 42, 51]), ([20, 52], [20, 52])])
def flyballlaw03_RatioMost.B23 : List Nat := [0, 0, 3, 7, 0, 0, 48, 112, 255, 0, 0, 1536, 3584, 0, 0, 24576, 57344, 131071, 262143, 524287, 1048575, 2097151, 2097151, 8388607, 16777215, 2097151, 2097151, 102760447, 236978175, 536870911, 1073741823, 2147483647, 4294967295, 8589934591, 17179869183, 4294967295, 4294967295, 107374182399, 244813135871, 549755813887, 1099511627775, 2199023255551, 4398046511103, 8796093022207, 17592186044415, 35184372088831, 8796093022207, 8796093022207, 219902325555199, 501377302265855, 1125899906842623, 2251799813685247, 4503599627370495, 9007199254740991]
theorem flyballlaw03_RatioMost.tab23 : rtab .any (opsOf Try.f8 23) = flyballlaw03_RatioMost.T23 := by kernel_rfl
theorem flyballlaw03_RatioMost.bits23 : waitsOk flyballlaw03_RatioMost.T23.2 flyballlaw03_RatioMost.B23 = true := by kernel_rfl
set_option maxHeartbeats 8000000 in
set_option maxRecDepth 100000 in
theorem flyballlaw03_RatioMost.calls (k : Nat) (A0 : Option Addr) (c0 : Nat) (l0 : List (S69)) (r : Bool) (w : World) (hr0 : Kd.C k69 w A0 l0.length l0) (hc0 : l0.length ≤ c0) (H : flyballlaw03_RatioMost.f k l0 = some r) :
  Calls Try.prog 8 #[.slice A0 l0.length c0] w fun e w' => e = .returned (.bool r) ∧ Below w.heap.size w w' := by
 have hu69 := Try.underlying69
 have HR0 := Aside0.mk hr0
 have HC0 := Aside0.mk hc0
 clear hr0 hc0
 have HB := Aside0.mk (Below.refl w.heap.size w)
 unfold flyballlaw03_RatioMost.f at H
 replace H := bi H
 obtain ⟨t101, A2, H⟩ := H
 by_cases c3 : t101 = true
 ·subst c3
  have H1 : (if (l0.length : Int) > 8 then (some true) else ((flyballlaw03_small.f k l0).bind fun t102 => (if t102 = true then ((ratio_Max.f k l0).bind fun bt103 => (if (l0.length : Int) = 0 then ((ratio_R_Sign.f k bt103.1 bt103.2.1 bt103.2.2).bind fun t111 => (some (t111 == 0))) else (flyballlaw03_RatioMost.l0 k l0 true false 0 bt103.1 bt103.2.1 bt103.2.2))) else (some true)))) = some r := by first | (rw [if_pos rfl] at H; exact H) | (rw [if_pos trivial] at H; exact H)
  clear H
  have H := H1
  clear H1
  by_cases c4 : (l0.length : Int) > 8
  ·rw [if_pos c4] at H
   have c4b0 : decide (8 < (l0.length : Int)) = true := decide_eq_true c4
   have c4b1 : decide (8 < l0.length) = true := decide_eq_true (by omega)
   clear c4
   obtain rfl := Option.some.inj H
   go_enter Try.func8, Try.ntmps8
   go_wp2_with (first | ((with_reducible refine gc 54 rfl ?_); refine gL 10 Try.func54 #[] ?_; (with_reducible refine (flyballlaw03_works.calls k  true _ A2.out).mono ?_); rintro e w5 ⟨rfl, hb⟩; refine ⟨_, rfl, ?_⟩; replace HB := bA HB hb; clear hb))
   go_ret
   exact ⟨er, bup HB.out⟩
  rw [if_neg c4] at H
  have c4b0 : decide (8 < (l0.length : Int)) = false := decide_eq_false c4
  have c4b1 : decide (8 < l0.length) = false := decide_eq_false (by omega)
  clear c4
  replace H := bi H
  obtain ⟨t102, A6, H⟩ := H
  by_cases c7 : t102 = true
  ·subst c7
   have H1 : ((ratio_Max.f k l0).bind fun bt103 => (if (l0.length : Int) = 0 then ((ratio_R_Sign.f k bt103.1 bt103.2.1 bt103.2.2).bind fun t111 => (some (t111 == 0))) else (flyballlaw03_RatioMost.l0 k l0 true false 0 bt103.1 bt103.2.1 bt103.2.2))) = some r := by first | (rw [if_pos rfl] at H; exact H) | (rw [if_pos trivial] at H; exact H)
   clear H
   have H := H1
   clear H1
   replace H := bi H
   obtain ⟨⟨t103, t104, t107⟩, A8, H⟩ := H
   try dsimp only at H
   by_cases c9 : (l0.length : Int) = 0
   ·rw [if_pos c9] at H
    obtain ⟨c9b0, c9b1⟩ := bqT c9
    clear c9
    replace H := bi H
    obtain ⟨t111, A10, H⟩ := H
    obtain rfl := Option.some.inj H
    go_enter Try.func8, Try.ntmps8
    go_wp2_with (first | ((with_reducible refine gc 54 rfl ?_); refine gL 10 Try.func54 #[] ?_; (with_reducible refine (flyballlaw03_works.calls k  true _ A2.out).mono ?_); rintro e w11 ⟨rfl, hb⟩; refine ⟨_, rfl, ?_⟩; replace HB := bA HB hb; clear hb) | ((with_reducible refine gc 55 rfl ?_); refine gL 18 Try.func55 #[.slice A0 l0.length c0] ?_; (with_reducible refine (flyballlaw03_small.calls k _ _ l0 true _ ?_ ?_ A6.out).mono ?_); exact Kd.C_below HR0.out (bup HB.out); exact HC0.out; rintro e w' ⟨rfl, ⟨nd, rfl⟩⟩; refine ⟨_, rfl, ?_⟩; (try (rw [drewN_self w11]; generalize hq_ : World.drewN w11 _ = w11; have n0_ : Aside0 (Below w.heap.size w w11) := ⟨by rw [← hq_]; exact (bup HB.out)⟩; clear HB hq_; have HB := n0_; clear n0_))) | ((with_reducible refine gc 56 rfl ?_); refine gL 23 Try.func56 #[.slice A0 l0.length c0] ?_; (with_reducible refine (ratio_Max.calls k (fun k_ => k_ < w.heap.size) _ _ l0 t103 t104 t107 _ ?_ A8.out).mono ?_); exact Kd.V_mk HC0.out (Kd.F_below (Kd.C_F k69_heap HR0.out) (bup HB.out)); rintro e w12 ⟨v105, v108, rfl, ho0, ho1, hb⟩; refine ⟨_, rfl, ?_⟩; have HO106 := lw HB (fun k_ => True) ho0 (fun k_ hk_ => trivial); have HO109 := lw HB (fun k_ => True) ho1 (fun k_ hk_ => trivial); replace HB := bA HB hb; clear hb ho0 ho1) | ((with_reducible refine gd 5 rfl ?_); refine bx 5 #[.bool false, .slice none 0 0, .slice none 0 0] ?_; intro gb110 hg w13 hbox hb; replace HO106 := vE HO106 hg hb; replace HO109 := vE HO109 hg hb; have BK110 := Aside0.mk hbox; have GW110 := gB hg HB; have GE110 := gB hg HB; replace HB := bA HB hb; clear hb hbox hg; obtain ⟨⟨hcz14_0, hcz14_1, hcz14_2⟩, hfz14_0, hfz14_1, hfz14_2⟩ := cE BK110; obtain ⟨Ao15, co15, eo15⟩ := Kd.V_slice HO106.out; subst eo15; obtain ⟨Ao16, co16, eo16⟩ := Kd.V_slice HO109.out; subst eo16) | (go_at_call 57; (with_reducible refine (ratio_R_Sign.calls k t103 _ _ t104 _ _ t107 t111 _ ?_ ?_ ?_ ?_ A10.out).mono ?_); (refine (Kd.V_reads' (e := 118) (base := w.heap.size) (ok := fun k_ => (True ∧ k_ ≠ gb110)) (n := t104.length) (c := co15) ?_).2.2; exact (vG (v3p HO106 (fun _ hk => hk.2)) (fun _ h_ => h_.1))); exact (Kd.V_reads' HO106.out).2.1; (refine (Kd.V_reads' (e := 118) (base := w.heap.size) (ok := fun k_ => (True ∧ k_ ≠ gb110)) (n := t107.length) (c := co16) ?_).2.2; exact (vG (v3p HO109 (fun _ hk => hk.2)) (fun _ h_ => h_.1))); exact (Kd.V_reads' HO109.out).2.1; rintro e w17 ⟨rfl, hb⟩; replace HO106 := vF hb (v3p HO106 (fun _ hk => hk.2)) (fun _ h_ => h_.1); replace HO109 := vF hb (v3p HO109 (fun _ hk => hk.2)) (fun _ h_ => h_.1); replace BK110 := kB (p3 BK110) hb; replace HB := bS HB hb; clear hb))
    go_ret
    exact ⟨er, hB⟩
   rw [if_neg c9] at H
   obtain ⟨c9b0, c9b1⟩ := bqF c9
   have c9b2 : ¬ (l0 = []) := fun h_ => c9 (by rw [h_]; rfl)
   have H' := Aside0.mk H
   clear H
   go_enter Try.func8, Try.ntmps8
   go_wp2_with (first | ((with_reducible refine gc 54 rfl ?_); refine gL 10 Try.func54 #[] ?_; (with_reducible refine (flyballlaw03_works.calls k  true _ A2.out).mono ?_); rintro e w18 ⟨rfl, hb⟩; refine ⟨_, rfl, ?_⟩; replace HB := bA HB hb; clear hb) | ((with_reducible refine gc 55 rfl ?_); refine gL 18 Try.func55 #[.slice A0 l0.length c0] ?_; (with_reducible refine (flyballlaw03_small.calls k _ _ l0 true _ ?_ ?_ A6.out).mono ?_); exact Kd.C_below HR0.out (bup HB.out); exact HC0.out; rintro e w' ⟨rfl, ⟨nd, rfl⟩⟩; refine ⟨_, rfl, ?_⟩; (try (rw [drewN_self w18]; generalize hq_ : World.drewN w18 _ = w18; have n0_ : Aside0 (Below w.heap.size w w18) := ⟨by rw [← hq_]; exact (bup HB.out)⟩; clear HB hq_; have HB := n0_; clear n0_))) | ((with_reducible refine gc 56 rfl ?_); refine gL 23 Try.func56 #[.slice A0 l0.length c0] ?_; (with_reducible refine (ratio_Max.calls k (fun k_ => k_ < w.heap.size) _ _ l0 t103 t104 t107 _ ?_ A8.out).mono ?_); exact Kd.V_mk HC0.out (Kd.F_below (Kd.C_F k69_heap HR0.out) (bup HB.out)); rintro e w19 ⟨v105, v108, rfl, ho0, ho1, hb⟩; refine ⟨_, rfl, ?_⟩; have HO106 := lw HB (fun k_ => True) ho0 (fun k_ hk_ => trivial); have HO109 := lw HB (fun k_ => True) ho1 (fun k_ hk_ => trivial); replace HB := bA HB hb; clear hb ho0 ho1) | ((with_reducible refine gd 5 rfl ?_); refine bx 5 #[.bool false, .slice none 0 0, .slice none 0 0] ?_; intro gb110 hg w20 hbox hb; replace HO106 := vE HO106 hg hb; replace HO109 := vE HO109 hg hb; have BK110 := Aside0.mk hbox; have GW110 := gB hg HB; have GE110 := gB hg HB; replace HB := bA HB hb; clear hb hbox hg; obtain ⟨⟨hcz21_0, hcz21_1, hcz21_2⟩, hfz21_0, hfz21_1, hfz21_2⟩ := cE BK110; obtain ⟨Ao22, co22, eo22⟩ := Kd.V_slice HO106.out; subst eo22; obtain ⟨Ao23, co23, eo23⟩ := Kd.V_slice HO109.out; subst eo23))
   go_loopg [6, 7] k (fun kq v6 v7 w' => ∃ (x6_1 : Bool) (x7_1 : Int), v6 = .bool x6_1 ∧ v7 = .int .i64 x7_1 ∧ Aside0 (flyballlaw03_RatioMost.l0 kq l0 true x6_1 x7_1 t103 t104 t107 = some r) ∧ Aside0 (kq ≤ k) ∧ Aside0 (Kd.V (Kd.int .u32) 118 w' w.heap.size (fun k_ => k_ ≠ gb110) (.slice Ao22 t104.length co22) t104) ∧ Aside0 (Kd.V (Kd.int .u32) 118 w' w.heap.size (fun k_ => k_ ≠ gb110) (.slice Ao23 t107.length co23) t107) ∧ Aside0 (w'.heap[gb110]? = some (.cells #[.bool t103, (.slice Ao22 t104.length co22), (.slice Ao23 t107.length co23)] 69 (0, 0))) ∧ Aside0 (Below w.heap.size w w'))
   case atStart => exact ⟨(false), (0), rS, rS, H', ⟨Nat.le_refl _⟩, ⟨vG (v3p HO106 (fun _ hk => hk.2)) (fun _ hk => hk.1.2)⟩, ⟨vG (v3p HO109 (fun _ hk => hk.2)) (fun _ hk => hk.1.2)⟩, ⟨by exact kU (p3 BK110)⟩, ⟨hB⟩⟩
   case round =>
    clear H'
    try clear p2
    try clear c3
    try clear c4
    try clear c4b0
    try clear c4b1
    try clear c5
    try clear c7
    try clear c8
    try clear c9
    try clear c9b0
    try clear c9b1
    try clear c9b2
    try clear hcz14_0
    try clear hcz14_1
    try clear hcz14_2
    try clear hcz21_0
    try clear hcz21_1
    try clear hcz21_2
    try clear hfz14_0
    try clear hfz14_1
    try clear hfz14_2
    try clear hfz21_0
    try clear hfz21_1
    try clear hfz21_2
    obtain ⟨x6_1, x7_1, rfl, rfl, HA, HK1, HO_111001, HO_111002, BK110, HB⟩ := hrel
    cases gk with
    | zero => exact absurd HA.out (by simp [flyballlaw03_RatioMost.l0])
    | succ k1 =>
     have H := HA.out
     clear HA
     simp only [flyballlaw03_RatioMost.l0] at H
     by_cases c24 : x7_1 < (l0.length : Int)
     rotate_left
     ·rw [if_neg c24] at H
      have c24b0 : decide (x7_1 < (l0.length : Int)) = false := decide_eq_false c24
      clear c24
      by_cases c72 : (true : Bool) = true
      ·clear c72
       have H1 : (some x6_1) = some r := by first | (rw [if_pos rfl] at H; exact H) | (rw [if_pos trivial] at H; exact H)
       clear H
       have H := H1
       clear H1
       obtain rfl := Option.some.inj H
       go_wp2
       go_ret
       exact ⟨er, hB⟩
      ·exact absurd rfl c72
     rw [if_pos c24] at H
     have c24b0 : decide (x7_1 < (l0.length : Int)) = true := decide_eq_true c24
     clear c24
     replace H := iS H
     obtain ⟨c25, H⟩ := H
     have c25b0 : decide (0 ≤ x7_1) = true := decide_eq_true c25
     clear c25
     replace H := bi H
     obtain ⟨t113, A26, H⟩ := H
     by_cases c27 : t113 < 0
     ·rw [if_pos c27] at H
      have c27b0 : decide (t113 < 0) = true := decide_eq_true c27
      clear c27
      obtain rfl := Option.some.inj H
      try go_wp2
      replace HO_111001 := Aside0.mk (Kd.V_drew HO_111001.out)
      replace HO_111002 := Aside0.mk (Kd.V_drew HO_111002.out)
      replace BK110 := kd BK110
      replace HB := bd HB
      have p112 : 0 ≤ (x7_1 : Int) := of_decide_eq_true asm
      have q112 : x7_1 < (l0.length : Int) := of_decide_eq_true asm
      obtain ⟨ad112, A112_1, c112_1, A112_2, c112_2, e112, hx112_0, hx112_1, hx112_2, hl112_1, hi112_1, hl112_2, hi112_2⟩ := at_T69 HR0.out x7_1 p112 q112
      have hw112_2 := hx112_2
      have hw112_1 := hx112_1
      have hw112_0 := hx112_0
      cases e112
      replace hx112_0 := (HB.out.cell (World.block_lt_of_cell? w _ hx112_0)).trans hx112_0
      replace hx112_1 := (HB.out.cell (World.block_lt_of_cell? w _ hx112_1)).trans hx112_1
      replace hx112_2 := (HB.out.cell (World.block_lt_of_cell? w _ hx112_2)).trans hx112_2
      have HR112_1 := Aside0.mk hi112_1
      have HC112_1 := Aside0.mk hl112_1
      clear hi112_1 hl112_1
      have HR112_2 := Aside0.mk hi112_2
      have HC112_2 := Aside0.mk hl112_2
      clear hi112_2 hl112_2
      replace p112 := eq_true p112
      replace q112 := eq_true q112
      refine st (S := fun w' => B3 w' gb110 (.bool t103) (.slice Ao22 t104.length co22) (.slice Ao23 t107.length co23) ∧ w'.cell? (ad112.add ((x7_1).toNat * 3)) = some (.bool ((rd_T69 l0 x7_1).f0)) ∧ w'.cell? ⟨(ad112.add ((x7_1).toNat * 3)).block, (ad112.add ((x7_1).toNat * 3)).off + 1, none⟩ = some (.slice A112_1 ((rd_T69 l0 x7_1).f1).length c112_1) ∧ w'.cell? ⟨(ad112.add ((x7_1).toNat * 3)).block, (ad112.add ((x7_1).toNat * 3)).off + 2, none⟩ = some (.slice A112_2 ((rd_T69 l0 x7_1).f2).length c112_2)) 7 [] (tf 0 7) ⟨b3 BK110, ((HB.out.cell (World.block_lt_of_cell? w _ hw112_0)).trans hw112_0), ((HB.out.cell (World.block_lt_of_cell? w _ hw112_1)).trans hw112_1), ((HB.out.cell (World.block_lt_of_cell? w _ hw112_2)).trans hw112_2)⟩ (fun hHeld => ?_)
      generalize wr.drew = w28 at HO_111001 HO_111002 BK110 HB HR112_1 HR112_2 hx112_0 hx112_1 hx112_2 hHeld ⊢
      refine pu 1 40 #[false, true, false, false, false, false, false] ?_
      refine pu 2 41 #[false, true, true, false, false, false, false] ?_
      refine pu 3 42 #[false, true, true, true, false, false, false] ?_
      refine tk 0 39 (tf 4 3) hHeld ?_
      refine tk 4 43 (tf 5 2) hHeld ?_
      refine on 5 (some 44) (tf 6 1) (fun K hK => ?_)
      refine gS Try.func58 #[.agg #[.bool t103, .slice Ao22 t104.length co22, .slice Ao23 t107.length co23], .agg #[.bool ((rd_T69 l0 x7_1).f0), .slice A112_1 ((rd_T69 l0 x7_1).f1).length c112_1, .slice A112_2 ((rd_T69 l0 x7_1).f2).length c112_2]] ?_
      with_reducible refine (ratio_R_Cmp.calls k1 t103 _ _ t104 _ _ t107 ((rd_T69 l0 x7_1).f0) _ _ ((rd_T69 l0 x7_1).f1) _ _ ((rd_T69 l0 x7_1).f2) t113 _ ?_ ?_ ?_ ?_ ?_ ?_ ?_ ?_ A26.out).mono ?_
      exact cup ((Kd.V_reads' HO_111001.out).2.2)
      exact (Kd.V_reads' HO_111001.out).2.1
      exact cup ((Kd.V_reads' HO_111002.out).2.2)
      exact (Kd.V_reads' HO_111002.out).2.1
      exact Kd.C_below HR112_1.out (bup HB.out)
      exact HC112_1.out
      exact Kd.C_below HR112_2.out (bup HB.out)
      exact HC112_2.out
      rintro e w29 ⟨rfl, hb⟩
      refine ⟨_, rfl, ?_⟩
      replace HO_111001 := vA HO_111001 hb
      replace HO_111002 := vA HO_111002 hb
      replace BK110 := kA BK110 hb
      replace HB := bS HB hb
      clear hb
      refine hK.out _ _ ⟨b3 BK110, ((HB.out.cell (World.block_lt_of_cell? w _ hw112_0)).trans hw112_0), ((HB.out.cell (World.block_lt_of_cell? w _ hw112_1)).trans hw112_1), ((HB.out.cell (World.block_lt_of_cell? w _ hw112_2)).trans hw112_2)⟩ (fun hHeld => nm ?_)
      clear hK K
      refine pu 6 8 (tf 7 0) ?_
      refine done_ (by kernel_rfl) ?_
      try go_wp2
      go_ret
      exact ⟨er, hB⟩
     rw [if_neg c27] at H
     have c27b0 : decide (t113 < 0) = false := decide_eq_false c27
     clear c27
     have HC30 := Aside0.mk H
     clear H
     try go_wp2
     replace HO_111001 := Aside0.mk (Kd.V_drew HO_111001.out)
     replace HO_111002 := Aside0.mk (Kd.V_drew HO_111002.out)
     replace BK110 := kd BK110
     replace HB := bd HB
     have p112 : 0 ≤ (x7_1 : Int) := of_decide_eq_true asm
     have q112 : x7_1 < (l0.length : Int) := of_decide_eq_true asm
     obtain ⟨ad112, A112_1, c112_1, A112_2, c112_2, e112, hx112_0, hx112_1, hx112_2, hl112_1, hi112_1, hl112_2, hi112_2⟩ := at_T69 HR0.out x7_1 p112 q112
     have hw112_2 := hx112_2
     have hw112_1 := hx112_1
     have hw112_0 := hx112_0
     cases e112
     replace hx112_0 := (HB.out.cell (World.block_lt_of_cell? w _ hx112_0)).trans hx112_0
     replace hx112_1 := (HB.out.cell (World.block_lt_of_cell? w _ hx112_1)).trans hx112_1
     replace hx112_2 := (HB.out.cell (World.block_lt_of_cell? w _ hx112_2)).trans hx112_2
     have HR112_1 := Aside0.mk hi112_1
     have HC112_1 := Aside0.mk hl112_1
     clear hi112_1 hl112_1
     have HR112_2 := Aside0.mk hi112_2
     have HC112_2 := Aside0.mk hl112_2
     clear hi112_2 hl112_2
     replace p112 := eq_true p112
     replace q112 := eq_true q112
     refine st (S := fun w' => B3 w' gb110 (.bool t103) (.slice Ao22 t104.length co22) (.slice Ao23 t107.length co23) ∧ w'.cell? (ad112.add ((x7_1).toNat * 3)) = some (.bool ((rd_T69 l0 x7_1).f0)) ∧ w'.cell? ⟨(ad112.add ((x7_1).toNat * 3)).block, (ad112.add ((x7_1).toNat * 3)).off + 1, none⟩ = some (.slice A112_1 ((rd_T69 l0 x7_1).f1).length c112_1) ∧ w'.cell? ⟨(ad112.add ((x7_1).toNat * 3)).block, (ad112.add ((x7_1).toNat * 3)).off + 2, none⟩ = some (.slice A112_2 ((rd_T69 l0 x7_1).f2).length c112_2)) 7 [] (tf 0 7) ⟨b3 BK110, ((HB.out.cell (World.block_lt_of_cell? w _ hw112_0)).trans hw112_0), ((HB.out.cell (World.block_lt_of_cell? w _ hw112_1)).trans hw112_1), ((HB.out.cell (World.block_lt_of_cell? w _ hw112_2)).trans hw112_2)⟩ (fun hHeld => ?_)
     generalize wr.drew = w31 at HO_111001 HO_111002 BK110 HB HR112_1 HR112_2 hx112_0 hx112_1 hx112_2 hHeld ⊢
     refine pu 1 40 #[false, true, false, false, false, false, false] ?_
     refine pu 2 41 #[false, true, true, false, false, false, false] ?_
     refine pu 3 42 #[false, true, true, true, false, false, false] ?_
     refine tk 0 39 (tf 4 3) hHeld ?_
     refine tk 4 43 (tf 5 2) hHeld ?_
     refine on 5 (some 44) (tf 6 1) (fun K hK => ?_)
     refine gS Try.func58 #[.agg #[.bool t103, .slice Ao22 t104.length co22, .slice Ao23 t107.length co23], .agg #[.bool ((rd_T69 l0 x7_1).f0), .slice A112_1 ((rd_T69 l0 x7_1).f1).length c112_1, .slice A112_2 ((rd_T69 l0 x7_1).f2).length c112_2]] ?_
     with_reducible refine (ratio_R_Cmp.calls k1 t103 _ _ t104 _ _ t107 ((rd_T69 l0 x7_1).f0) _ _ ((rd_T69 l0 x7_1).f1) _ _ ((rd_T69 l0 x7_1).f2) t113 _ ?_ ?_ ?_ ?_ ?_ ?_ ?_ ?_ A26.out).mono ?_
     exact cup ((Kd.V_reads' HO_111001.out).2.2)
     exact (Kd.V_reads' HO_111001.out).2.1
     exact cup ((Kd.V_reads' HO_111002.out).2.2)
     exact (Kd.V_reads' HO_111002.out).2.1
     exact Kd.C_below HR112_1.out (bup HB.out)
     exact HC112_1.out
     exact Kd.C_below HR112_2.out (bup HB.out)
     exact HC112_2.out
     rintro e w32 ⟨rfl, hb⟩
     refine ⟨_, rfl, ?_⟩
     replace HO_111001 := vA HO_111001 hb
     replace HO_111002 := vA HO_111002 hb
     replace BK110 := kA BK110 hb
     replace HB := bS HB hb
     clear hb
     refine hK.out _ _ ⟨b3 BK110, ((HB.out.cell (World.block_lt_of_cell? w _ hw112_0)).trans hw112_0), ((HB.out.cell (World.block_lt_of_cell? w _ hw112_1)).trans hw112_1), ((HB.out.cell (World.block_lt_of_cell? w _ hw112_2)).trans hw112_2)⟩ (fun hHeld => nm ?_)
     clear hK K
     refine pu 6 8 (tf 7 0) ?_
     refine done_ (by kernel_rfl) ?_
     go_upto_region 19 with (fail)
     go_cut [6] (fun v6 wc => ∃ (kq : Nat) (x6_29 : Bool), v6 = .bool x6_29 ∧ Aside0 (flyballlaw03_RatioMost.j1 kq l0 true x6_29 x7_1 t103 t104 t107 = some r) ∧ Aside0 (kq ≤ k1) ∧ Aside0 (Kd.V (Kd.int .u32) 118 wc w.heap.size (fun k_ => k_ ≠ gb110) (.slice Ao22 t104.length co22) t104) ∧ Aside0 (Kd.V (Kd.int .u32) 118 wc w.heap.size (fun k_ => k_ ≠ gb110) (.slice Ao23 t107.length co23) t107) ∧ Aside0 (wc.heap[gb110]? = some (.cells #[.bool t103, (.slice Ao22 t104.length co22), (.slice Ao23 t107.length co23)] 69 (0, 0))) ∧ Aside0 (Below w.heap.size w wc))
     case first =>
      have H := HC30.out
      clear HC30
      by_cases c33 : x6_1 = true
      ·subst c33
       have H1 : (flyballlaw03_RatioMost.j1 k1 l0 true true x7_1 t103 t104 t107) = some r := by first | (rw [if_pos rfl] at H; exact H) | (rw [if_pos trivial] at H; exact H)
       clear H
       have H := H1
       clear H1
       have H' := Aside0.mk H
       clear H
       go_wp2
       go_meet
       case rel => exact ⟨_, (true), rS, H', ⟨hk1⟩, ⟨vup HO_111001.out⟩, ⟨vup HO_111002.out⟩, ⟨by exact kU BK110⟩, ⟨hB⟩⟩
      ·replace c33 := Bool.eq_false_iff.mpr c33
       subst c33
       have H1 : (flyballlaw03_RatioMost.j1 k1 l0 true (t113 == 0) x7_1 t103 t104 t107) = some r := by rw [if_neg (show ¬ (false = true) by decide)] at H; exact H
       clear H
       have H := H1
       clear H1
       have H' := Aside0.mk H
       clear H
       go_wp2
       go_meet
       case rel => exact ⟨_, ((t113 == 0)), rS, H', ⟨hk1⟩, ⟨vup HO_111001.out⟩, ⟨vup HO_111002.out⟩, ⟨by exact kU BK110⟩, ⟨hB⟩⟩
     case rest =>
      clear HC30
      try clear c1
      try clear p1
      try clear q1
      try clear hx1
      try clear c2
      try clear p2
      try clear c3
      try clear c4
      try clear c4b0
      try clear c4b1
      try clear c5
      try clear c7
      try clear c8
      try clear c9
      try clear c9b0
      try clear c9b1
      try clear c9b2
      try clear c11
      try clear p11
      try clear q11
      try clear hx11
      try clear c24
      try clear c24b0
      try clear c25
      try clear c25b0
      try clear c27
      try clear c27b0
      try clear c33
      try clear hcz14_0
      try clear hcz14_1
      try clear hcz14_2
      try clear hcz21_0
      try clear hcz21_1
      try clear hcz21_2
      try clear hfz14_0
      try clear hfz14_1
      try clear hfz14_2
      try clear hfz21_0
      try clear hfz21_1
      try clear hfz21_2
      try clear hx112_0
      try clear hx112_1
      try clear hx112_2
      try clear p112
      try clear p2
      try clear q112
      obtain ⟨kq, x6_29, rfl, HA, HJ29, HO_111001, HO_111002, BK110, HB⟩ := hcut
      cases kq with
      | zero => exact absurd HA.out (by simp [flyballlaw03_RatioMost.j1])
      | succ kj29 =>
       have H := HA.out
       clear HA
       simp only [flyballlaw03_RatioMost.j1] at H
       have H' := Aside0.mk H
       clear H
       go_wp2
       go_loopg [9] kj29 (fun kq v9 w' => ∃ (x9_3 : Int), v9 = .int .i64 x9_3 ∧ Aside0 (flyballlaw03_RatioMost.l1 kq l0 true x6_29 x7_1 x9_3 t103 t104 t107 = some r) ∧ Aside0 (kq ≤ kj29) ∧ Aside0 (Kd.V (Kd.int .u32) 118 w' w.heap.size (fun k_ => k_ ≠ gb110) (.slice Ao22 t104.length co22) t104) ∧ Aside0 (Kd.V (Kd.int .u32) 118 w' w.heap.size (fun k_ => k_ ≠ gb110) (.slice Ao23 t107.length co23) t107) ∧ Aside0 (w'.heap[gb110]? = some (.cells #[.bool t103, (.slice Ao22 t104.length co22), (.slice Ao23 t107.length co23)] 69 (0, 0))) ∧ Aside0 (Below w.heap.size w w'))
       case atStart => exact ⟨(0), rS, H', ⟨Nat.le_refl _⟩, ⟨vup HO_111001.out⟩, ⟨vup HO_111002.out⟩, ⟨by exact kU BK110⟩, ⟨hB⟩⟩
       case round =>
        clear H'
        try clear c1
        try clear p1
        try clear q1
        try clear hx1
        try clear c2
        try clear p2
        try clear c3
        try clear c4
        try clear c4b0
        try clear c4b1
        try clear c5
        try clear c7
        try clear c8
        try clear c9
        try clear c9b0
        try clear c9b1
        try clear c9b2
        try clear c11
        try clear p11
        try clear q11
        try clear hx11
        try clear c24
        try clear c24b0
        try clear c25
        try clear c25b0
        try clear c27
        try clear c27b0
        try clear c33
        try clear hcz14_0
        try clear hcz14_1
        try clear hcz14_2
        try clear hcz21_0
        try clear hcz21_1
        try clear hcz21_2
        try clear hfz14_0
        try clear hfz14_1
        try clear hfz14_2
        try clear hfz21_0
        try clear hfz21_1
        try clear hfz21_2
        try clear hx112_0
        try clear hx112_1
        try clear hx112_2
        try clear p1
        try clear p11
        try clear p112
        try clear p2
        try clear q1
        try clear q11
        try clear q112
        obtain ⟨x9_3, rfl, HA, HK3, HO_111001, HO_111002, BK110, HB⟩ := hrel
        cases gk with
        | zero => exact absurd HA.out (by simp [flyballlaw03_RatioMost.l1])
        | succ k3 =>
         have H := HA.out
         clear HA
         simp only [flyballlaw03_RatioMost.l1] at H
         by_cases c34 : x9_3 < (l0.length : Int)
         rotate_left
         ·rw [if_neg c34] at H
          have c34b0 : decide (x9_3 < (l0.length : Int)) = false := decide_eq_false c34
          clear c34
          have H' := Aside0.mk H
          clear H
          go_wp2
          go_roundg k3
          case measure => have := HK1.out; have := HJ29.out; have := HK3.out; omega
          case rel => exact ⟨(x6_29), (wrap64 (x7_1 + 1)), rS, rS, H', ⟨by have := HK1.out; have := HJ29.out; have := HK3.out; omega⟩, ⟨vup HO_111001.out⟩, ⟨vup HO_111002.out⟩, ⟨by exact kU BK110⟩, ⟨hB⟩⟩
         rw [if_pos c34] at H
         have c34b0 : decide (x9_3 < (l0.length : Int)) = true := decide_eq_true c34
         clear c34
         replace H := iS H
         obtain ⟨c35, H⟩ := H
         have c35b0 : decide (0 ≤ x7_1) = true := decide_eq_true c35
         clear c35
         replace H := iS H
         obtain ⟨c36, H⟩ := H
         have c36b0 : decide (x7_1 < (l0.length : Int)) = true := decide_eq_true c36
         clear c36
         replace H := iS H
         obtain ⟨c37, H⟩ := H
         have c37b0 : decide (0 ≤ x9_3) = true := decide_eq_true c37
         clear c37
         replace H := bi H
         obtain ⟨t116, A38, H⟩ := H
         replace H := bi H
         obtain ⟨t119, A39, H⟩ := H
         by_cases c40 : t116 = (wrap64 (-t119))
         rotate_left
         ·rw [if_neg c40] at H
          obtain ⟨c40b0, c40b1⟩ := bqF c40
          obtain rfl := Option.some.inj H
          try go_wp2
          replace HO_111001 := Aside0.mk (Kd.V_drew HO_111001.out)
          replace HO_111002 := Aside0.mk (Kd.V_drew HO_111002.out)
          replace BK110 := kd BK110
          replace HB := bd HB
          have p114 : 0 ≤ (x7_1 : Int) := of_decide_eq_true asm
          have q114 : x7_1 < (l0.length : Int) := of_decide_eq_true asm
          obtain ⟨ad114, A114_1, c114_1, A114_2, c114_2, e114, hx114_0, hx114_1, hx114_2, hl114_1, hi114_1, hl114_2, hi114_2⟩ := at_T69 HR0.out x7_1 p114 q114
          have hw114_2 := hx114_2
          have hw114_1 := hx114_1
          have hw114_0 := hx114_0
          obtain rfl : ad112 = ad114 := (by injection e114)
          replace hx114_0 := (HB.out.cell (World.block_lt_of_cell? w _ hx114_0)).trans hx114_0
          replace hx114_1 := (HB.out.cell (World.block_lt_of_cell? w _ hx114_1)).trans hx114_1
          replace hx114_2 := (HB.out.cell (World.block_lt_of_cell? w _ hx114_2)).trans hx114_2
          have HR114_1 := Aside0.mk hi114_1
          have HC114_1 := Aside0.mk hl114_1
          clear hi114_1 hl114_1
          have HR114_2 := Aside0.mk hi114_2
          have HC114_2 := Aside0.mk hl114_2
          clear hi114_2 hl114_2
          replace p114 := eq_true p114
          replace q114 := eq_true q114
          have p115 : 0 ≤ (x9_3 : Int) := of_decide_eq_true asm
          have q115 : x9_3 < (l0.length : Int) := of_decide_eq_true asm
          obtain ⟨ad115, A115_1, c115_1, A115_2, c115_2, e115, hx115_0, hx115_1, hx115_2, hl115_1, hi115_1, hl115_2, hi115_2⟩ := at_T69 HR0.out x9_3 p115 q115
          have hw115_2 := hx115_2
          have hw115_1 := hx115_1
          have hw115_0 := hx115_0
          obtain rfl : ad112 = ad115 := (by injection e115)
          replace hx115_0 := (HB.out.cell (World.block_lt_of_cell? w _ hx115_0)).trans hx115_0
          replace hx115_1 := (HB.out.cell (World.block_lt_of_cell? w _ hx115_1)).trans hx115_1
          replace hx115_2 := (HB.out.cell (World.block_lt_of_cell? w _ hx115_2)).trans hx115_2
          have HR115_1 := Aside0.mk hi115_1
          have HC115_1 := Aside0.mk hl115_1
          clear hi115_1 hl115_1
          have HR115_2 := Aside0.mk hi115_2
          have HC115_2 := Aside0.mk hl115_2
          clear hi115_2 hl115_2
          replace p115 := eq_true p115
          replace q115 := eq_true q115
          have p117 : 0 ≤ (x9_3 : Int) := of_decide_eq_true asm
          have q117 : x9_3 < (l0.length : Int) := of_decide_eq_true asm
          obtain ⟨ad117, A117_1, c117_1, A117_2, c117_2, e117, hx117_0, hx117_1, hx117_2, hl117_1, hi117_1, hl117_2, hi117_2⟩ := at_T69 HR0.out x9_3 p117 q117
          have hw117_2 := hx117_2
          have hw117_1 := hx117_1
          have hw117_0 := hx117_0
          obtain rfl : ad112 = ad117 := (by injection e117)
          replace hx117_0 := (HB.out.cell (World.block_lt_of_cell? w _ hx117_0)).trans hx117_0
          replace hx117_1 := (HB.out.cell (World.block_lt_of_cell? w _ hx117_1)).trans hx117_1
          replace hx117_2 := (HB.out.cell (World.block_lt_of_cell? w _ hx117_2)).trans hx117_2
          have HR117_1 := Aside0.mk hi117_1
          have HC117_1 := Aside0.mk hl117_1
          clear hi117_1 hl117_1
          have HR117_2 := Aside0.mk hi117_2
          have HC117_2 := Aside0.mk hl117_2
          clear hi117_2 hl117_2
          replace p117 := eq_true p117
          replace q117 := eq_true q117
          have ea_ := Option.some.inj (hx115_1.symm.trans hx117_1)
          injection ea_ with ea_ en_ ec_
          subst ea_
          subst ec_
          clear en_
          have ea_ := Option.some.inj (hx115_2.symm.trans hx117_2)
          injection ea_ with ea_ en_ ec_
          subst ea_
          subst ec_
          clear en_
          have p118 : 0 ≤ (x7_1 : Int) := of_decide_eq_true asm
          have q118 : x7_1 < (l0.length : Int) := of_decide_eq_true asm
          obtain ⟨ad118, A118_1, c118_1, A118_2, c118_2, e118, hx118_0, hx118_1, hx118_2, hl118_1, hi118_1, hl118_2, hi118_2⟩ := at_T69 HR0.out x7_1 p118 q118
          have hw118_2 := hx118_2
          have hw118_1 := hx118_1
          have hw118_0 := hx118_0
          obtain rfl : ad112 = ad118 := (by injection e118)
          replace hx118_0 := (HB.out.cell (World.block_lt_of_cell? w _ hx118_0)).trans hx118_0
          replace hx118_1 := (HB.out.cell (World.block_lt_of_cell? w _ hx118_1)).trans hx118_1
          replace hx118_2 := (HB.out.cell (World.block_lt_of_cell? w _ hx118_2)).trans hx118_2
          have HR118_1 := Aside0.mk hi118_1
          have HC118_1 := Aside0.mk hl118_1
          clear hi118_1 hl118_1
          have HR118_2 := Aside0.mk hi118_2
          have HC118_2 := Aside0.mk hl118_2
          clear hi118_2 hl118_2
          replace p118 := eq_true p118
          replace q118 := eq_true q118
          have ea_ := Option.some.inj (hx114_1.symm.trans hx118_1)
          injection ea_ with ea_ en_ ec_
          subst ea_
          subst ec_
          clear en_
          have ea_ := Option.some.inj (hx114_2.symm.trans hx118_2)
          injection ea_ with ea_ en_ ec_
          subst ea_
          subst ec_
          clear en_
          refine st (S := fun w' => w'.cell? (ad112.add ((x7_1).toNat * 3)) = some (.bool ((rd_T69 l0 x7_1).f0)) ∧ w'.cell? ⟨(ad112.add ((x7_1).toNat * 3)).block, (ad112.add ((x7_1).toNat * 3)).off + 1, none⟩ = some (.slice A114_1 ((rd_T69 l0 x7_1).f1).length c114_1) ∧ w'.cell? ⟨(ad112.add ((x7_1).toNat * 3)).block, (ad112.add ((x7_1).toNat * 3)).off + 2, none⟩ = some (.slice A114_2 ((rd_T69 l0 x7_1).f2).length c114_2) ∧ w'.cell? (ad112.add ((x9_3).toNat * 3)) = some (.bool ((rd_T69 l0 x9_3).f0)) ∧ w'.cell? ⟨(ad112.add ((x9_3).toNat * 3)).block, (ad112.add ((x9_3).toNat * 3)).off + 1, none⟩ = some (.slice A115_1 ((rd_T69 l0 x9_3).f1).length c115_1) ∧ w'.cell? ⟨(ad112.add ((x9_3).toNat * 3)).block, (ad112.add ((x9_3).toNat * 3)).off + 2, none⟩ = some (.slice A115_2 ((rd_T69 l0 x9_3).f2).length c115_2) ∧ w'.cell? (ad112.add ((x9_3).toNat * 3)) = some (.bool ((rd_T69 l0 x9_3).f0)) ∧ w'.cell? ⟨(ad112.add ((x9_3).toNat * 3)).block, (ad112.add ((x9_3).toNat * 3)).off + 1, none⟩ = some (.slice A115_1 ((rd_T69 l0 x9_3).f1).length c115_1) ∧ w'.cell? ⟨(ad112.add ((x9_3).toNat * 3)).block, (ad112.add ((x9_3).toNat * 3)).off + 2, none⟩ = some (.slice A115_2 ((rd_T69 l0 x9_3).f2).length c115_2) ∧ w'.cell? (ad112.add ((x7_1).toNat * 3)) = some (.bool ((rd_T69 l0 x7_1).f0)) ∧ w'.cell? ⟨(ad112.add ((x7_1).toNat * 3)).block, (ad112.add ((x7_1).toNat * 3)).off + 1, none⟩ = some (.slice A114_1 ((rd_T69 l0 x7_1).f1).length c114_1) ∧ w'.cell? ⟨(ad112.add ((x7_1).toNat * 3)).block, (ad112.add ((x7_1).toNat * 3)).off + 2, none⟩ = some (.slice A114_2 ((rd_T69 l0 x7_1).f2).length c114_2)) 54 [] (tf 0 54) ⟨((HB.out.cell (World.block_lt_of_cell? w _ hw114_0)).trans hw114_0), ((HB.out.cell (World.block_lt_of_cell? w _ hw114_1)).trans hw114_1), ((HB.out.cell (World.block_lt_of_cell? w _ hw114_2)).trans hw114_2), ((HB.out.cell (World.block_lt_of_cell? w _ hw115_0)).trans hw115_0), ((HB.out.cell (World.block_lt_of_cell? w _ hw115_1)).trans hw115_1), ((HB.out.cell (World.block_lt_of_cell? w _ hw115_2)).trans hw115_2), ((HB.out.cell (World.block_lt_of_cell? w _ hw117_0)).trans hw117_0), ((HB.out.cell (World.block_lt_of_cell? w _ hw117_1)).trans hw117_1), ((HB.out.cell (World.block_lt_of_cell? w _ hw117_2)).trans hw117_2), ((HB.out.cell (World.block_lt_of_cell? w _ hw118_0)).trans hw118_0), ((HB.out.cell (World.block_lt_of_cell? w _ hw118_1)).trans hw118_1), ((HB.out.cell (World.block_lt_of_cell? w _ hw118_2)).trans hw118_2)⟩ (fun hHeld => ?_); refine with_tabW flyballlaw03_RatioMost.tab23 flyballlaw03_RatioMost.bits23 (fun HT_ HW_ => ?_)
          generalize wr.drew = w69 at HO_111001 HO_111002 BK110 HB HR114_1 HR114_2 HR115_1 HR115_2 HR117_1 HR117_2 HR118_1 HR118_2 hx114_0 hx114_1 hx114_2 hx115_0 hx115_1 hx115_2 hx117_0 hx117_1 hx117_2 hx118_0 hx118_1 hx118_2 hHeld ⊢
          refine pu 0 58 (tf 1 53) ?_
          refine pu 1 59 (tf 2 52) ?_
          refine pu 2 60 (tf 3 51) ?_
          refine pu 4 62 #[true, true, true, false, true, false, false, false, false, false, false, false, false, false, false, false, false, false, false, false, false, false, false, false, false, false, false, false, false, false, false, false, false, false, false, false, false, false, false, false, false, false, false, false, false, false, false, false, false, false, false, false, false, false] ?_
          refine pu 5 63 #[true, true, true, false, true, true, false, false, false, false, false, false, false, false, false, false, false, false, false, false, false, false, false, false, false, false, false, false, false, false, false, false, false, false, false, false, false, false, false, false, false, false, false, false, false, false, false, false, false, false, false, false, false, false] ?_
          refine pu 6 64 #[true, true, true, false, true, true, true, false, false, false, false, false, false, false, false, false, false, false, false, false, false, false, false, false, false, false, false, false, false, false, false, false, false, false, false, false, false, false, false, false, false, false, false, false, false, false, false, false, false, false, false, false, false, false] ?_
          refine pu 9 67 #[true, true, true, false, true, true, true, false, false, true, false, false, false, false, false, false, false, false, false, false, false, false, false, false, false, false, false, false, false, false, false, false, false, false, false, false, false, false, false, false, false, false, false, false, false, false, false, false, false, false, false, false, false, false] ?_
          refine pu 10 68 #[true, true, true, false, true, true, true, false, false, true, true, false, false, false, false, false, false, false, false, false, false, false, false, false, false, false, false, false, false, false, false, false, false, false, false, false, false, false, false, false, false, false, false, false, false, false, false, false, false, false, false, false, false, false] ?_
          refine pu 11 69 #[true, true, true, false, true, true, true, false, false, true, true, true, false, false, false, false, false, false, false, false, false, false, false, false, false, false, false, false, false, false, false, false, false, false, false, false, false, false, false, false, false, false, false, false, false, false, false, false, false, false, false, false, false, false] ?_
          refine pu 13 71 #[true, true, true, false, true, true, true, false, false, true, true, true, false, true, false, false, false, false, false, false, false, false, false, false, false, false, false, false, false, false, false, false, false, false, false, false, false, false, false, false, false, false, false, false, false, false, false, false, false, false, false, false, false, false] ?_
          refine pu 14 72 #[true, true, true, false, true, true, true, false, false, true, true, true, false, true, true, false, false, false, false, false, false, false, false, false, false, false, false, false, false, false, false, false, false, false, false, false, false, false, false, false, false, false, false, false, false, false, false, false, false, false, false, false, false, false] ?_
          refine pu 15 73 #[true, true, true, false, true, true, true, false, false, true, true, true, false, true, true, true, false, false, false, false, false, false, false, false, false, false, false, false, false, false, false, false, false, false, false, false, false, false, false, false, false, false, false, false, false, false, false, false, false, false, false, false, false, false] ?_
          refine tk 3 61 #[true, true, true, true, true, true, true, false, false, true, true, true, false, true, true, true, false, false, false, false, false, false, false, false, false, false, false, false, false, false, false, false, false, false, false, false, false, false, false, false, false, false, false, false, false, false, false, false, false, false, false, false, false, false] hHeld ?_
          refine tk 7 65 #[true, true, true, true, true, true, true, true, false, true, true, true, false, true, true, true, false, false, false, false, false, false, false, false, false, false, false, false, false, false, false, false, false, false, false, false, false, false, false, false, false, false, false, false, false, false, false, false, false, false, false, false, false, false] hHeld ?_
          refine tk 12 70 #[true, true, true, true, true, true, true, true, false, true, true, true, true, true, true, true, false, false, false, false, false, false, false, false, false, false, false, false, false, false, false, false, false, false, false, false, false, false, false, false, false, false, false, false, false, false, false, false, false, false, false, false, false, false] hHeld ?_
          refine tk 16 74 #[true, true, true, true, true, true, true, true, false, true, true, true, true, true, true, true, true, false, false, false, false, false, false, false, false, false, false, false, false, false, false, false, false, false, false, false, false, false, false, false, false, false, false, false, false, false, false, false, false, false, false, false, false, false] hHeld ?_
          refine on 8 (some 66) (tf 17 37) (fun K hK => ?_)
          refine gS Try.func58 #[.agg #[.bool ((rd_T69 l0 x7_1).f0), .slice A114_1 ((rd_T69 l0 x7_1).f1).length c114_1, .slice A114_2 ((rd_T69 l0 x7_1).f2).length c114_2], .agg #[.bool ((rd_T69 l0 x9_3).f0), .slice A115_1 ((rd_T69 l0 x9_3).f1).length c115_1, .slice A115_2 ((rd_T69 l0 x9_3).f2).length c115_2]] ?_
          with_reducible refine (ratio_R_Cmp.calls k3 ((rd_T69 l0 x7_1).f0) _ _ ((rd_T69 l0 x7_1).f1) _ _ ((rd_T69 l0 x7_1).f2) ((rd_T69 l0 x9_3).f0) _ _ ((rd_T69 l0 x9_3).f1) _ _ ((rd_T69 l0 x9_3).f2) t116 _ ?_ ?_ ?_ ?_ ?_ ?_ ?_ ?_ A38.out).mono ?_
          exact Kd.C_below HR114_1.out (bup HB.out)
          exact HC114_1.out
          exact Kd.C_below HR114_2.out (bup HB.out)
          exact HC114_2.out
          exact Kd.C_below HR115_1.out (bup HB.out)
          exact HC115_1.out
          exact Kd.C_below HR115_2.out (bup HB.out)
          exact HC115_2.out
          rintro e w70 ⟨rfl, hb⟩
          refine ⟨_, rfl, ?_⟩
          replace HO_111001 := vA HO_111001 hb
          replace HO_111002 := vA HO_111002 hb
          replace BK110 := kA BK110 hb
          replace HB := bS HB hb
          clear hb
          refine hK.out _ _ ⟨((HB.out.cell (World.block_lt_of_cell? w _ hw114_0)).trans hw114_0), ((HB.out.cell (World.block_lt_of_cell? w _ hw114_1)).trans hw114_1), ((HB.out.cell (World.block_lt_of_cell? w _ hw114_2)).trans hw114_2), ((HB.out.cell (World.block_lt_of_cell? w _ hw115_0)).trans hw115_0), ((HB.out.cell (World.block_lt_of_cell? w _ hw115_1)).trans hw115_1), ((HB.out.cell (World.block_lt_of_cell? w _ hw115_2)).trans hw115_2), ((HB.out.cell (World.block_lt_of_cell? w _ hw117_0)).trans hw117_0), ((HB.out.cell (World.block_lt_of_cell? w _ hw117_1)).trans hw117_1), ((HB.out.cell (World.block_lt_of_cell? w _ hw117_2)).trans hw117_2), ((HB.out.cell (World.block_lt_of_cell? w _ hw118_0)).trans hw118_0), ((HB.out.cell (World.block_lt_of_cell? w _ hw118_1)).trans hw118_1), ((HB.out.cell (World.block_lt_of_cell? w _ hw118_2)).trans hw118_2)⟩ (fun hHeld => nm ?_)
          clear hK K
          refine on 17 (some 75) (tf 18 36) (fun K hK => ?_)
          refine gS Try.func58 #[.agg #[.bool ((rd_T69 l0 x9_3).f0), .slice A115_1 ((rd_T69 l0 x9_3).f1).length c115_1, .slice A115_2 ((rd_T69 l0 x9_3).f2).length c115_2], .agg #[.bool ((rd_T69 l0 x7_1).f0), .slice A114_1 ((rd_T69 l0 x7_1).f1).length c114_1, .slice A114_2 ((rd_T69 l0 x7_1).f2).length c114_2]] ?_
          with_reducible refine (ratio_R_Cmp.calls k3 ((rd_T69 l0 x9_3).f0) _ _ ((rd_T69 l0 x9_3).f1) _ _ ((rd_T69 l0 x9_3).f2) ((rd_T69 l0 x7_1).f0) _ _ ((rd_T69 l0 x7_1).f1) _ _ ((rd_T69 l0 x7_1).f2) t119 _ ?_ ?_ ?_ ?_ ?_ ?_ ?_ ?_ A39.out).mono ?_
          exact Kd.C_below HR117_1.out (bup HB.out)
          exact HC117_1.out
          exact Kd.C_below HR117_2.out (bup HB.out)
          exact HC117_2.out
          exact Kd.C_below HR118_1.out (bup HB.out)
          exact HC118_1.out
          exact Kd.C_below HR118_2.out (bup HB.out)
          exact HC118_2.out
          rintro e w71 ⟨rfl, hb⟩
          refine ⟨_, rfl, ?_⟩
          replace HO_111001 := vA HO_111001 hb
          replace HO_111002 := vA HO_111002 hb
          replace BK110 := kA BK110 hb
          replace HB := bS HB hb
          clear hb
          refine hK.out _ _ ⟨((HB.out.cell (World.block_lt_of_cell? w _ hw114_0)).trans hw114_0), ((HB.out.cell (World.block_lt_of_cell? w _ hw114_1)).trans hw114_1), ((HB.out.cell (World.block_lt_of_cell? w _ hw114_2)).trans hw114_2), ((HB.out.cell (World.block_lt_of_cell? w _ hw115_0)).trans hw115_0), ((HB.out.cell (World.block_lt_of_cell? w _ hw115_1)).trans hw115_1), ((HB.out.cell (World.block_lt_of_cell? w _ hw115_2)).trans hw115_2), ((HB.out.cell (World.block_lt_of_cell? w _ hw117_0)).trans hw117_0), ((HB.out.cell (World.block_lt_of_cell? w _ hw117_1)).trans hw117_1), ((HB.out.cell (World.block_lt_of_cell? w _ hw117_2)).trans hw117_2), ((HB.out.cell (World.block_lt_of_cell? w _ hw118_0)).trans hw118_0), ((HB.out.cell (World.block_lt_of_cell? w _ hw118_1)).trans hw118_1), ((HB.out.cell (World.block_lt_of_cell? w _ hw118_2)).trans hw118_2)⟩ (fun hHeld => nm ?_)
          clear hK K
          refine pu 18 76 (tf 19 35) ?_
          refine pu 19 77 (tf 20 34) ?_
          refine pu 20 78 (tf 21 33) ?_
          refine pure_ (i := 21) (N := some 79) (v := undef) (a' := ?_) (tf 22 32) rfl rfl (any_of HT_.out (by kernel_rfl)) (fun _ _ _ h => h) (Or.inr ⟨by rfl, rfl⟩) ?_ ?_
          rotate_left
          ·simp only [Act.put, List.setIfInBounds_toArray, List.set_cons_zero, List.set_cons_succ, i64_w, i32_w]
           rfl
          refine pure_ (i := 22) (N := some 80) (v := undef) (a' := ?_) (tf 23 31) rfl rfl (any_of HT_.out (by kernel_rfl)) (fun _ _ _ h => h) (Or.inr ⟨by rfl, rfl⟩) ?_ ?_
          rotate_left
          ·simp only [Act.put, List.setIfInBounds_toArray, List.set_cons_zero, List.set_cons_succ, i64_w, i32_w]
           rfl
          refine pure_ (i := 23) (N := some 81) (v := undef) (a' := ?_) (tf 24 30) rfl rfl (any_of HT_.out (by kernel_rfl)) (fun _ _ _ h => h) (Or.inr ⟨by rfl, rfl⟩) ?_ ?_
          rotate_left
          ·simp only [Act.put, List.setIfInBounds_toArray, List.set_cons_zero, List.set_cons_succ, i64_w, i32_w]
           rfl
          refine pure_ (i := 24) (N := some 82) (v := undef) (a' := ?_) (tf 25 29) rfl rfl (any_of HT_.out (by kernel_rfl)) (fun _ _ _ h => h) (Or.inr ⟨by rfl, rfl⟩) ?_ ?_
          rotate_left
          ·simp only [Act.put, List.setIfInBounds_toArray, List.set_cons_zero, List.set_cons_succ, i64_w, i32_w]
           rfl
          refine pure_ (i := 25) (N := some 83) (v := undef) (a' := ?_) (tf 26 28) rfl rfl (any_of HT_.out (by kernel_rfl)) (fun _ _ _ h => h) (Or.inr ⟨by rfl, rfl⟩) ?_ ?_
          rotate_left
          ·simp only [Act.put, List.setIfInBounds_toArray, List.set_cons_zero, List.set_cons_succ, i64_w, i32_w]
           rfl
          refine pure_ (i := 26) (N := some 84) (v := undef) (a' := ?_) (tf 27 27) rfl rfl (any_of HT_.out (by kernel_rfl)) (fun _ _ _ h => h) (Or.inr ⟨by rfl, rfl⟩) ?_ ?_
          rotate_left
          ·simp only [Act.put, List.setIfInBounds_toArray, List.set_cons_zero, List.set_cons_succ, i64_w, i32_w]
           rfl
          refine pure_ (i := 27) (N := some 85) (v := undef) (a' := ?_) (tf 28 26) rfl rfl (any_of HT_.out (by kernel_rfl)) (fun _ _ _ h => h) (Or.inr ⟨by rfl, rfl⟩) ?_ ?_
          rotate_left
          ·simp only [Act.put, List.setIfInBounds_toArray, List.set_cons_zero, List.set_cons_succ, i64_w, i32_w]
           rfl
          refine pure_ (i := 28) (N := some 86) (v := undef) (a' := ?_) (tf 29 25) rfl rfl (any_of HT_.out (by kernel_rfl)) (fun _ _ _ h => h) (Or.inr ⟨by rfl, rfl⟩) ?_ ?_
          rotate_left
          ·simp only [Act.put, List.setIfInBounds_toArray, List.set_cons_zero, List.set_cons_succ, i64_w, i32_w]
           rfl
          refine pure_ (i := 29) (N := some 87) (v := undef) (a' := ?_) (tf 30 24) rfl rfl (any_of HT_.out (by kernel_rfl)) (fun _ _ _ h => h) (Or.inr ⟨by rfl, rfl⟩) ?_ ?_
          rotate_left
          ·simp only [Act.put, List.setIfInBounds_toArray, List.set_cons_zero, List.set_cons_succ, i64_w, i32_w]
           rfl
          refine pure_ (i := 30) (N := some 88) (v := undef) (a' := ?_) (tf 31 23) rfl rfl (any_of HT_.out (by kernel_rfl)) (fun _ _ _ h => h) (Or.inr ⟨by rfl, rfl⟩) ?_ ?_
          rotate_left
          ·simp only [Act.put, List.setIfInBounds_toArray, List.set_cons_zero, List.set_cons_succ, i64_w, i32_w]
           rfl
          refine pure_ (i := 31) (N := some 89) (v := undef) (a' := ?_) (tf 32 22) rfl rfl (any_of HT_.out (by kernel_rfl)) (fun _ _ _ h => h) (Or.inr ⟨by rfl, rfl⟩) ?_ ?_
          rotate_left
          ·simp only [Act.put, List.setIfInBounds_toArray, List.set_cons_zero, List.set_cons_succ, i64_w, i32_w]
           rfl
          refine pure_ (i := 32) (N := some 90) (v := undef) (a' := ?_) (tf 33 21) rfl rfl (any_of HT_.out (by kernel_rfl)) (fun _ _ _ h => h) (Or.inr ⟨by rfl, rfl⟩) ?_ ?_
          rotate_left
          ·simp only [Act.put, List.setIfInBounds_toArray, List.set_cons_zero, List.set_cons_succ, i64_w, i32_w]
           rfl
          refine pure_ (i := 33) (N := some 91) (v := undef) (a' := ?_) (tf 34 20) rfl rfl (any_of HT_.out (by kernel_rfl)) (fun _ _ _ h => h) (Or.inr ⟨by rfl, rfl⟩) ?_ ?_
          rotate_left
          ·simp only [Act.put, List.setIfInBounds_toArray, List.set_cons_zero, List.set_cons_succ, i64_w, i32_w]
           rfl
          refine pure_ (i := 34) (N := some 92) (v := undef) (a' := ?_) (tf 35 19) rfl rfl (any_of HT_.out (by kernel_rfl)) (fun _ _ _ h => h) (Or.inr ⟨by rfl, rfl⟩) ?_ ?_
          rotate_left
          ·simp only [Act.put, List.setIfInBounds_toArray, List.set_cons_zero, List.set_cons_succ, i64_w, i32_w]
           rfl
          refine pure_ (i := 35) (N := some 93) (v := undef) (a' := ?_) (tf 36 18) rfl rfl (any_of HT_.out (by kernel_rfl)) (fun _ _ _ h => h) (Or.inr ⟨by rfl, rfl⟩) ?_ ?_
          rotate_left
          ·simp only [Act.put, List.setIfInBounds_toArray, List.set_cons_zero, List.set_cons_succ, i64_w, i32_w]
           rfl
          refine pure_ (i := 36) (N := some 94) (v := undef) (a' := ?_) (tf 37 17) rfl rfl (any_of HT_.out (by kernel_rfl)) (fun _ _ _ h => h) (Or.inr ⟨by rfl, rfl⟩) ?_ ?_
          rotate_left
          ·simp only [Act.put, List.setIfInBounds_toArray, List.set_cons_zero, List.set_cons_succ, i64_w, i32_w]
           rfl
          refine pure_ (i := 37) (N := some 95) (v := undef) (a' := ?_) (tf 38 16) rfl rfl (any_of HT_.out (by kernel_rfl)) (fun _ _ _ h => h) (Or.inr ⟨by rfl, rfl⟩) ?_ ?_
          rotate_left
          ·simp only [Act.put, List.setIfInBounds_toArray, List.set_cons_zero, List.set_cons_succ, i64_w, i32_w]
           rfl
          refine pure_ (i := 38) (N := some 96) (v := undef) (a' := ?_) (tf 39 15) rfl rfl (any_of HT_.out (by kernel_rfl)) (fun _ _ _ h => h) (Or.inr ⟨by rfl, rfl⟩) ?_ ?_
          rotate_left
          ·simp only [Act.put, List.setIfInBounds_toArray, List.set_cons_zero, List.set_cons_succ, i64_w, i32_w]
           rfl
          refine pure_ (i := 39) (N := some 97) (v := undef) (a' := ?_) (tf 40 14) rfl rfl (any_of HT_.out (by kernel_rfl)) (fun _ _ _ h => h) (Or.inr ⟨by rfl, rfl⟩) ?_ ?_
          rotate_left
          ·simp only [Act.put, List.setIfInBounds_toArray, List.set_cons_zero, List.set_cons_succ, i64_w, i32_w]
           rfl
          refine pure_ (i := 40) (N := some 98) (v := undef) (a' := ?_) (tf 41 13) rfl rfl (any_of HT_.out (by kernel_rfl)) (fun _ _ _ h => h) (Or.inr ⟨by rfl, rfl⟩) ?_ ?_
          rotate_left
          ·simp only [Act.put, List.setIfInBounds_toArray, List.set_cons_zero, List.set_cons_succ, i64_w, i32_w]
           rfl
          refine pure_ (i := 41) (N := some 99) (v := undef) (a' := ?_) (tf 42 12) rfl rfl (any_of HT_.out (by kernel_rfl)) (fun _ _ _ h => h) (Or.inr ⟨by rfl, rfl⟩) ?_ ?_
          rotate_left
          ·simp only [Act.put, List.setIfInBounds_toArray, List.set_cons_zero, List.set_cons_succ, i64_w, i32_w]
           rfl
          refine pure_ (i := 42) (N := some 100) (v := undef) (a' := ?_) (tf 43 11) rfl rfl (any_of HT_.out (by kernel_rfl)) (fun _ _ _ h => h) (Or.inr ⟨by rfl, rfl⟩) ?_ ?_
          rotate_left
          ·simp only [Act.put, List.setIfInBounds_toArray, List.set_cons_zero, List.set_cons_succ, i64_w, i32_w]
           rfl
          refine pure_ (i := 43) (N := some 101) (v := undef) (a' := ?_) (tf 44 10) rfl rfl (any_of HT_.out (by kernel_rfl)) (fun _ _ _ h => h) (Or.inr ⟨by rfl, rfl⟩) ?_ ?_
          rotate_left
          ·simp only [Act.put, List.setIfInBounds_toArray, List.set_cons_zero, List.set_cons_succ, i64_w, i32_w]
           rfl
          refine pure_ (i := 44) (N := some 102) (v := undef) (a' := ?_) (tf 45 9) rfl rfl (any_of HT_.out (by kernel_rfl)) (fun _ _ _ h => h) (Or.inr ⟨by rfl, rfl⟩) ?_ ?_
          rotate_left
          ·simp only [Act.put, List.setIfInBounds_toArray, List.set_cons_zero, List.set_cons_succ, i64_w, i32_w]
           rfl
          refine pure_ (i := 45) (N := some 103) (v := undef) (a' := ?_) (tf 46 8) rfl rfl (any_of HT_.out (by kernel_rfl)) (fun _ _ _ h => h) (Or.inr ⟨by rfl, rfl⟩) ?_ ?_
          rotate_left
          ·simp only [Act.put, List.setIfInBounds_toArray, List.set_cons_zero, List.set_cons_succ, i64_w, i32_w]
           rfl
          refine pure_ (i := 46) (N := some 104) (v := undef) (a' := ?_) (tf 47 7) rfl rfl (any_of HT_.out (by kernel_rfl)) (fun _ _ _ h => h) (Or.inr ⟨by rfl, rfl⟩) ?_ ?_
          rotate_left
          ·simp only [Act.put, List.setIfInBounds_toArray, List.set_cons_zero, List.set_cons_succ, i64_w, i32_w]
           rfl
          refine pure_ (i := 47) (N := some 105) (v := undef) (a' := ?_) (tf 48 6) rfl rfl (any_of HT_.out (by kernel_rfl)) (fun _ _ _ h => h) (Or.inr ⟨by rfl, rfl⟩) ?_ ?_
          rotate_left
          ·simp only [Act.put, List.setIfInBounds_toArray, List.set_cons_zero, List.set_cons_succ, i64_w, i32_w]
           rfl
          refine pure_ (i := 48) (N := some 106) (v := undef) (a' := ?_) (tf 49 5) rfl rfl (any_of HT_.out (by kernel_rfl)) (fun _ _ _ h => h) (Or.inr ⟨by rfl, rfl⟩) ?_ ?_
          rotate_left
          ·simp only [Act.put, List.setIfInBounds_toArray, List.set_cons_zero, List.set_cons_succ, i64_w, i32_w]
           rfl
          refine pure_ (i := 49) (N := some 107) (v := undef) (a' := ?_) (tf 50 4) rfl rfl (any_of HT_.out (by kernel_rfl)) (fun _ _ _ h => h) (Or.inr ⟨by rfl, rfl⟩) ?_ ?_
          rotate_left
          ·simp only [Act.put, List.setIfInBounds_toArray, List.set_cons_zero, List.set_cons_succ, i64_w, i32_w]
           rfl
          refine pure_ (i := 50) (N := some 108) (v := undef) (a' := ?_) (tf 51 3) rfl rfl (any_of HT_.out (by kernel_rfl)) (fun _ _ _ h => h) (Or.inr ⟨by rfl, rfl⟩) ?_ ?_
          rotate_left
          ·simp only [Act.put, List.setIfInBounds_toArray, List.set_cons_zero, List.set_cons_succ, i64_w, i32_w]
           rfl
          refine pure_ (i := 51) (N := some 109) (v := undef) (a' := ?_) (tf 52 2) rfl rfl (any_of HT_.out (by kernel_rfl)) (fun _ _ _ h => h) (Or.inr ⟨by rfl, rfl⟩) ?_ ?_
          rotate_left
          ·simp only [Act.put, List.setIfInBounds_toArray, List.set_cons_zero, List.set_cons_succ, i64_w, i32_w]
           rfl
          refine pure_ (i := 52) (N := some 110) (v := undef) (a' := ?_) (tf 53 1) rfl rfl (any_of HT_.out (by kernel_rfl)) (fun _ _ _ h => h) (Or.inr ⟨by rfl, rfl⟩) ?_ ?_
          rotate_left
          ·simp only [Act.put, List.setIfInBounds_toArray, List.set_cons_zero, List.set_cons_succ, i64_w, i32_w]
           rfl
          refine pu 53 111 (tf 54 0) ?_
          refine done_ (done_of HT_.out (by kernel_rfl)) ?_
          try go_wp2
          go_ret
          exact ⟨er, hB⟩
         rw [if_pos c40] at H
         obtain ⟨c40b0, c40b1⟩ := bqT c40
         clear c40
         replace H := bi H
         obtain ⟨t122, A41, H⟩ := H
         by_cases c42 : t122 < 0
         rotate_left
         ·rw [if_neg c42] at H
          have c42b0 : decide (t122 < 0) = false := decide_eq_false c42
          clear c42
          have H' := Aside0.mk H
          clear H
          try go_wp2
          replace HO_111001 := Aside0.mk (Kd.V_drew HO_111001.out)
          replace HO_111002 := Aside0.mk (Kd.V_drew HO_111002.out)
          replace BK110 := kd BK110
          replace HB := bd HB
          have p114 : 0 ≤ (x7_1 : Int) := of_decide_eq_true asm
          have q114 : x7_1 < (l0.length : Int) := of_decide_eq_true asm
          obtain ⟨ad114, A114_1, c114_1, A114_2, c114_2, e114, hx114_0, hx114_1, hx114_2, hl114_1, hi114_1, hl114_2, hi114_2⟩ := at_T69 HR0.out x7_1 p114 q114
          have hw114_2 := hx114_2
          have hw114_1 := hx114_1
          have hw114_0 := hx114_0
          obtain rfl : ad112 = ad114 := (by injection e114)
          replace hx114_0 := (HB.out.cell (World.block_lt_of_cell? w _ hx114_0)).trans hx114_0
          replace hx114_1 := (HB.out.cell (World.block_lt_of_cell? w _ hx114_1)).trans hx114_1
          replace hx114_2 := (HB.out.cell (World.block_lt_of_cell? w _ hx114_2)).trans hx114_2
          have HR114_1 := Aside0.mk hi114_1
          have HC114_1 := Aside0.mk hl114_1
          clear hi114_1 hl114_1
          have HR114_2 := Aside0.mk hi114_2
          have HC114_2 := Aside0.mk hl114_2
          clear hi114_2 hl114_2
          replace p114 := eq_true p114
          replace q114 := eq_true q114
          have p115 : 0 ≤ (x9_3 : Int) := of_decide_eq_true asm
          have q115 : x9_3 < (l0.length : Int) := of_decide_eq_true asm
          obtain ⟨ad115, A115_1, c115_1, A115_2, c115_2, e115, hx115_0, hx115_1, hx115_2, hl115_1, hi115_1, hl115_2, hi115_2⟩ := at_T69 HR0.out x9_3 p115 q115
          have hw115_2 := hx115_2
          have hw115_1 := hx115_1
          have hw115_0 := hx115_0
          obtain rfl : ad112 = ad115 := (by injection e115)
          replace hx115_0 := (HB.out.cell (World.block_lt_of_cell? w _ hx115_0)).trans hx115_0
          replace hx115_1 := (HB.out.cell (World.block_lt_of_cell? w _ hx115_1)).trans hx115_1
          replace hx115_2 := (HB.out.cell (World.block_lt_of_cell? w _ hx115_2)).trans hx115_2
          have HR115_1 := Aside0.mk hi115_1
          have HC115_1 := Aside0.mk hl115_1
          clear hi115_1 hl115_1
          have HR115_2 := Aside0.mk hi115_2
          have HC115_2 := Aside0.mk hl115_2
          clear hi115_2 hl115_2
          replace p115 := eq_true p115
          replace q115 := eq_true q115
          have p117 : 0 ≤ (x9_3 : Int) := of_decide_eq_true asm
          have q117 : x9_3 < (l0.length : Int) := of_decide_eq_true asm
          obtain ⟨ad117, A117_1, c117_1, A117_2, c117_2, e117, hx117_0, hx117_1, hx117_2, hl117_1, hi117_1, hl117_2, hi117_2⟩ := at_T69 HR0.out x9_3 p117 q117
          have hw117_2 := hx117_2
          have hw117_1 := hx117_1
          have hw117_0 := hx117_0
          obtain rfl : ad112 = ad117 := (by injection e117)
          replace hx117_0 := (HB.out.cell (World.block_lt_of_cell? w _ hx117_0)).trans hx117_0
          replace hx117_1 := (HB.out.cell (World.block_lt_of_cell? w _ hx117_1)).trans hx117_1
          replace hx117_2 := (HB.out.cell (World.block_lt_of_cell? w _ hx117_2)).trans hx117_2
          have HR117_1 := Aside0.mk hi117_1
          have HC117_1 := Aside0.mk hl117_1
          clear hi117_1 hl117_1
          have HR117_2 := Aside0.mk hi117_2
          have HC117_2 := Aside0.mk hl117_2
          clear hi117_2 hl117_2
          replace p117 := eq_true p117
          replace q117 := eq_true q117
          have ea_ := Option.some.inj (hx115_1.symm.trans hx117_1)
          injection ea_ with ea_ en_ ec_
          subst ea_
          subst ec_
          clear en_
          have ea_ := Option.some.inj (hx115_2.symm.trans hx117_2)
          injection ea_ with ea_ en_ ec_
          subst ea_
          subst ec_
          clear en_
          have p118 : 0 ≤ (x7_1 : Int) := of_decide_eq_true asm
          have q118 : x7_1 < (l0.length : Int) := of_decide_eq_true asm
          obtain ⟨ad118, A118_1, c118_1, A118_2, c118_2, e118, hx118_0, hx118_1, hx118_2, hl118_1, hi118_1, hl118_2, hi118_2⟩ := at_T69 HR0.out x7_1 p118 q118
          have hw118_2 := hx118_2
          have hw118_1 := hx118_1
          have hw118_0 := hx118_0
          obtain rfl : ad112 = ad118 := (by injection e118)
          replace hx118_0 := (HB.out.cell (World.block_lt_of_cell? w _ hx118_0)).trans hx118_0
          replace hx118_1 := (HB.out.cell (World.block_lt_of_cell? w _ hx118_1)).trans hx118_1
          replace hx118_2 := (HB.out.cell (World.block_lt_of_cell? w _ hx118_2)).trans hx118_2
          have HR118_1 := Aside0.mk hi118_1
          have HC118_1 := Aside0.mk hl118_1
          clear hi118_1 hl118_1
          have HR118_2 := Aside0.mk hi118_2
          have HC118_2 := Aside0.mk hl118_2
          clear hi118_2 hl118_2
          replace p118 := eq_true p118
          replace q118 := eq_true q118
          have ea_ := Option.some.inj (hx114_1.symm.trans hx118_1)
          injection ea_ with ea_ en_ ec_
          subst ea_
          subst ec_
          clear en_
          have ea_ := Option.some.inj (hx114_2.symm.trans hx118_2)
          injection ea_ with ea_ en_ ec_
          subst ea_
          subst ec_
          clear en_
          have p120 : 0 ≤ (x7_1 : Int) := of_decide_eq_true asm
          have q120 : x7_1 < (l0.length : Int) := of_decide_eq_true asm
          obtain ⟨ad120, A120_1, c120_1, A120_2, c120_2, e120, hx120_0, hx120_1, hx120_2, hl120_1, hi120_1, hl120_2, hi120_2⟩ := at_T69 HR0.out x7_1 p120 q120
          have hw120_2 := hx120_2
          have hw120_1 := hx120_1
          have hw120_0 := hx120_0
          obtain rfl : ad112 = ad120 := (by injection e120)
          replace hx120_0 := (HB.out.cell (World.block_lt_of_cell? w _ hx120_0)).trans hx120_0
          replace hx120_1 := (HB.out.cell (World.block_lt_of_cell? w _ hx120_1)).trans hx120_1
          replace hx120_2 := (HB.out.cell (World.block_lt_of_cell? w _ hx120_2)).trans hx120_2
          have HR120_1 := Aside0.mk hi120_1
          have HC120_1 := Aside0.mk hl120_1
          clear hi120_1 hl120_1
          have HR120_2 := Aside0.mk hi120_2
          have HC120_2 := Aside0.mk hl120_2
          clear hi120_2 hl120_2
          replace p120 := eq_true p120
          replace q120 := eq_true q120
          have p121 : 0 ≤ (x9_3 : Int) := of_decide_eq_true asm
          have q121 : x9_3 < (l0.length : Int) := of_decide_eq_true asm
          obtain ⟨ad121, A121_1, c121_1, A121_2, c121_2, e121, hx121_0, hx121_1, hx121_2, hl121_1, hi121_1, hl121_2, hi121_2⟩ := at_T69 HR0.out x9_3 p121 q121
          have hw121_2 := hx121_2
          have hw121_1 := hx121_1
          have hw121_0 := hx121_0
          obtain rfl : ad112 = ad121 := (by injection e121)
          replace hx121_0 := (HB.out.cell (World.block_lt_of_cell? w _ hx121_0)).trans hx121_0
          replace hx121_1 := (HB.out.cell (World.block_lt_of_cell? w _ hx121_1)).trans hx121_1
          replace hx121_2 := (HB.out.cell (World.block_lt_of_cell? w _ hx121_2)).trans hx121_2
          have HR121_1 := Aside0.mk hi121_1
          have HC121_1 := Aside0.mk hl121_1
          clear hi121_1 hl121_1
          have HR121_2 := Aside0.mk hi121_2
          have HC121_2 := Aside0.mk hl121_2
          clear hi121_2 hl121_2
          replace p121 := eq_true p121
          replace q121 := eq_true q121
          refine st (S := fun w' => w'.cell? (ad112.add ((x7_1).toNat * 3)) = some (.bool ((rd_T69 l0 x7_1).f0)) ∧ w'.cell? ⟨(ad112.add ((x7_1).toNat * 3)).block, (ad112.add ((x7_1).toNat * 3)).off + 1, none⟩ = some (.slice A114_1 ((rd_T69 l0 x7_1).f1).length c114_1) ∧ w'.cell? ⟨(ad112.add ((x7_1).toNat * 3)).block, (ad112.add ((x7_1).toNat * 3)).off + 2, none⟩ = some (.slice A114_2 ((rd_T69 l0 x7_1).f2).length c114_2) ∧ w'.cell? (ad112.add ((x9_3).toNat * 3)) = some (.bool ((rd_T69 l0 x9_3).f0)) ∧ w'.cell? ⟨(ad112.add ((x9_3).toNat * 3)).block, (ad112.add ((x9_3).toNat * 3)).off + 1, none⟩ = some (.slice A115_1 ((rd_T69 l0 x9_3).f1).length c115_1) ∧ w'.cell? ⟨(ad112.add ((x9_3).toNat * 3)).block, (ad112.add ((x9_3).toNat * 3)).off + 2, none⟩ = some (.slice A115_2 ((rd_T69 l0 x9_3).f2).length c115_2) ∧ w'.cell? (ad112.add ((x9_3).toNat * 3)) = some (.bool ((rd_T69 l0 x9_3).f0)) ∧ w'.cell? ⟨(ad112.add ((x9_3).toNat * 3)).block, (ad112.add ((x9_3).toNat * 3)).off + 1, none⟩ = some (.slice A115_1 ((rd_T69 l0 x9_3).f1).length c115_1) ∧ w'.cell? ⟨(ad112.add ((x9_3).toNat * 3)).block, (ad112.add ((x9_3).toNat * 3)).off + 2, none⟩ = some (.slice A115_2 ((rd_T69 l0 x9_3).f2).length c115_2) ∧ w'.cell? (ad112.add ((x7_1).toNat * 3)) = some (.bool ((rd_T69 l0 x7_1).f0)) ∧ w'.cell? ⟨(ad112.add ((x7_1).toNat * 3)).block, (ad112.add ((x7_1).toNat * 3)).off + 1, none⟩ = some (.slice A114_1 ((rd_T69 l0 x7_1).f1).length c114_1) ∧ w'.cell? ⟨(ad112.add ((x7_1).toNat * 3)).block, (ad112.add ((x7_1).toNat * 3)).off + 2, none⟩ = some (.slice A114_2 ((rd_T69 l0 x7_1).f2).length c114_2) ∧ w'.cell? (ad112.add ((x7_1).toNat * 3)) = some (.bool ((rd_T69 l0 x7_1).f0)) ∧ w'.cell? ⟨(ad112.add ((x7_1).toNat * 3)).block, (ad112.add ((x7_1).toNat * 3)).off + 1, none⟩ = some (.slice A120_1 ((rd_T69 l0 x7_1).f1).length c120_1) ∧ w'.cell? ⟨(ad112.add ((x7_1).toNat * 3)).block, (ad112.add ((x7_1).toNat * 3)).off + 2, none⟩ = some (.slice A120_2 ((rd_T69 l0 x7_1).f2).length c120_2) ∧ w'.cell? (ad112.add ((x9_3).toNat * 3)) = some (.bool ((rd_T69 l0 x9_3).f0)) ∧ w'.cell? ⟨(ad112.add ((x9_3).toNat * 3)).block, (ad112.add ((x9_3).toNat * 3)).off + 1, none⟩ = some (.slice A121_1 ((rd_T69 l0 x9_3).f1).length c121_1) ∧ w'.cell? ⟨(ad112.add ((x9_3).toNat * 3)).block, (ad112.add ((x9_3).toNat * 3)).off + 2, none⟩ = some (.slice A121_2 ((rd_T69 l0 x9_3).f2).length c121_2)) 54 [] (tf 0 54) ⟨((HB.out.cell (World.block_lt_of_cell? w _ hw114_0)).trans hw114_0), ((HB.out.cell (World.block_lt_of_cell? w _ hw114_1)).trans hw114_1), ((HB.out.cell (World.block_lt_of_cell? w _ hw114_2)).trans hw114_2), ((HB.out.cell (World.block_lt_of_cell? w _ hw115_0)).trans hw115_0), ((HB.out.cell (World.block_lt_of_cell? w _ hw115_1)).trans hw115_1), ((HB.out.cell (World.block_lt_of_cell? w _ hw115_2)).trans hw115_2), ((HB.out.cell (World.block_lt_of_cell? w _ hw117_0)).trans hw117_0), ((HB.out.cell (World.block_lt_of_cell? w _ hw117_1)).trans hw117_1), ((HB.out.cell (World.block_lt_of_cell? w _ hw117_2)).trans hw117_2), ((HB.out.cell (World.block_lt_of_cell? w _ hw118_0)).trans hw118_0), ((HB.out.cell (World.block_lt_of_cell? w _ hw118_1)).trans hw118_1), ((HB.out.cell (World.block_lt_of_cell? w _ hw118_2)).trans hw118_2), ((HB.out.cell (World.block_lt_of_cell? w _ hw120_0)).trans hw120_0), ((HB.out.cell (World.block_lt_of_cell? w _ hw120_1)).trans hw120_1), ((HB.out.cell (World.block_lt_of_cell? w _ hw120_2)).trans hw120_2), ((HB.out.cell (World.block_lt_of_cell? w _ hw121_0)).trans hw121_0), ((HB.out.cell (World.block_lt_of_cell? w _ hw121_1)).trans hw121_1), ((HB.out.cell (World.block_lt_of_cell? w _ hw121_2)).trans hw121_2)⟩ (fun hHeld => ?_); refine with_tabW flyballlaw03_RatioMost.tab23 flyballlaw03_RatioMost.bits23 (fun HT_ HW_ => ?_)
          generalize wr.drew = w65 at HO_111001 HO_111002 BK110 HB HR114_1 HR114_2 HR115_1 HR115_2 HR117_1 HR117_2 HR118_1 HR118_2 HR120_1 HR120_2 HR121_1 HR121_2 hx114_0 hx114_1 hx114_2 hx115_0 hx115_1 hx115_2 hx117_0 hx117_1 hx117_2 hx118_0 hx118_1 hx118_2 hx120_0 hx120_1 hx120_2 hx121_0 hx121_1 hx121_2 hHeld ⊢
          refine pu 0 58 (tf 1 53) ?_
          refine pu 1 59 (tf 2 52) ?_
          refine pu 2 60 (tf 3 51) ?_
          refine pu 4 62 #[true, true, true, false, true, false, false, false, false, false, false, false, false, false, false, false, false, false, false, false, false, false, false, false, false, false, false, false, false, false, false, false, false, false, false, false, false, false, false, false, false, false, false, false, false, false, false, false, false, false, false, false, false, false] ?_
          refine pu 5 63 #[true, true, true, false, true, true, false, false, false, false, false, false, false, false, false, false, false, false, false, false, false, false, false, false, false, false, false, false, false, false, false, false, false, false, false, false, false, false, false, false, false, false, false, false, false, false, false, false, false, false, false, false, false, false] ?_
          refine pu 6 64 #[true, true, true, false, true, true, true, false, false, false, false, false, false, false, false, false, false, false, false, false, false, false, false, false, false, false, false, false, false, false, false, false, false, false, false, false, false, false, false, false, false, false, false, false, false, false, false, false, false, false, false, false, false, false] ?_
          refine pu 9 67 #[true, true, true, false, true, true, true, false, false, true, false, false, false, false, false, false, false, false, false, false, false, false, false, false, false, false, false, false, false, false, false, false, false, false, false, false, false, false, false, false, false, false, false, false, false, false, false, false, false, false, false, false, false, false] ?_
          refine pu 10 68 #[true, true, true, false, true, true, true, false, false, true, true, false, false, false, false, false, false, false, false, false, false, false, false, false, false, false, false, false, false, false, false, false, false, false, false, false, false, false, false, false, false, false, false, false, false, false, false, false, false, false, false, false, false, false] ?_
          refine pu 11 69 #[true, true, true, false, true, true, true, false, false, true, true, true, false, false, false, false, false, false, false, false, false, false, false, false, false, false, false, false, false, false, false, false, false, false, false, false, false, false, false, false, false, false, false, false, false, false, false, false, false, false, false, false, false, false] ?_
          refine pu 13 71 #[true, true, true, false, true, true, true, false, false, true, true, true, false, true, false, false, false, false, false, false, false, false, false, false, false, false, false, false, false, false, false, false, false, false, false, false, false, false, false, false, false, false, false, false, false, false, false, false, false, false, false, false, false, false] ?_
          refine pu 14 72 #[true, true, true, false, true, true, true, false, false, true, true, true, false, true, true, false, false, false, false, false, false, false, false, false, false, false, false, false, false, false, false, false, false, false, false, false, false, false, false, false, false, false, false, false, false, false, false, false, false, false, false, false, false, false] ?_
          refine pu 15 73 #[true, true, true, false, true, true, true, false, false, true, true, true, false, true, true, true, false, false, false, false, false, false, false, false, false, false, false, false, false, false, false, false, false, false, false, false, false, false, false, false, false, false, false, false, false, false, false, false, false, false, false, false, false, false] ?_
          refine tk 3 61 #[true, true, true, true, true, true, true, false, false, true, true, true, false, true, true, true, false, false, false, false, false, false, false, false, false, false, false, false, false, false, false, false, false, false, false, false, false, false, false, false, false, false, false, false, false, false, false, false, false, false, false, false, false, false] hHeld ?_
          refine tk 7 65 #[true, true, true, true, true, true, true, true, false, true, true, true, false, true, true, true, false, false, false, false, false, false, false, false, false, false, false, false, false, false, false, false, false, false, false, false, false, false, false, false, false, false, false, false, false, false, false, false, false, false, false, false, false, false] hHeld ?_
          refine tk 12 70 #[true, true, true, true, true, true, true, true, false, true, true, true, true, true, true, true, false, false, false, false, false, false, false, false, false, false, false, false, false, false, false, false, false, false, false, false, false, false, false, false, false, false, false, false, false, false, false, false, false, false, false, false, false, false] hHeld ?_
          refine tk 16 74 #[true, true, true, true, true, true, true, true, false, true, true, true, true, true, true, true, true, false, false, false, false, false, false, false, false, false, false, false, false, false, false, false, false, false, false, false, false, false, false, false, false, false, false, false, false, false, false, false, false, false, false, false, false, false] hHeld ?_
          refine on 8 (some 66) (tf 17 37) (fun K hK => ?_)
          refine gS Try.func58 #[.agg #[.bool ((rd_T69 l0 x7_1).f0), .slice A114_1 ((rd_T69 l0 x7_1).f1).length c114_1, .slice A114_2 ((rd_T69 l0 x7_1).f2).length c114_2], .agg #[.bool ((rd_T69 l0 x9_3).f0), .slice A115_1 ((rd_T69 l0 x9_3).f1).length c115_1, .slice A115_2 ((rd_T69 l0 x9_3).f2).length c115_2]] ?_
          with_reducible refine (ratio_R_Cmp.calls k3 ((rd_T69 l0 x7_1).f0) _ _ ((rd_T69 l0 x7_1).f1) _ _ ((rd_T69 l0 x7_1).f2) ((rd_T69 l0 x9_3).f0) _ _ ((rd_T69 l0 x9_3).f1) _ _ ((rd_T69 l0 x9_3).f2) t116 _ ?_ ?_ ?_ ?_ ?_ ?_ ?_ ?_ A38.out).mono ?_
          exact Kd.C_below HR114_1.out (bup HB.out)
          exact HC114_1.out
          exact Kd.C_below HR114_2.out (bup HB.out)
          exact HC114_2.out
          exact Kd.C_below HR115_1.out (bup HB.out)
          exact HC115_1.out
          exact Kd.C_below HR115_2.out (bup HB.out)
          exact HC115_2.out
          rintro e w66 ⟨rfl, hb⟩
          refine ⟨_, rfl, ?_⟩
          replace HO_111001 := vA HO_111001 hb
          replace HO_111002 := vA HO_111002 hb
          replace BK110 := kA BK110 hb
          replace HB := bS HB hb
          clear hb
          refine hK.out _ _ ⟨((HB.out.cell (World.block_lt_of_cell? w _ hw114_0)).trans hw114_0), ((HB.out.cell (World.block_lt_of_cell? w _ hw114_1)).trans hw114_1), ((HB.out.cell (World.block_lt_of_cell? w _ hw114_2)).trans hw114_2), ((HB.out.cell (World.block_lt_of_cell? w _ hw115_0)).trans hw115_0), ((HB.out.cell (World.block_lt_of_cell? w _ hw115_1)).trans hw115_1), ((HB.out.cell (World.block_lt_of_cell? w _ hw115_2)).trans hw115_2), ((HB.out.cell (World.block_lt_of_cell? w _ hw117_0)).trans hw117_0), ((HB.out.cell (World.block_lt_of_cell? w _ hw117_1)).trans hw117_1), ((HB.out.cell (World.block_lt_of_cell? w _ hw117_2)).trans hw117_2), ((HB.out.cell (World.block_lt_of_cell? w _ hw118_0)).trans hw118_0), ((HB.out.cell (World.block_lt_of_cell? w _ hw118_1)).trans hw118_1), ((HB.out.cell (World.block_lt_of_cell? w _ hw118_2)).trans hw118_2), ((HB.out.cell (World.block_lt_of_cell? w _ hw120_0)).trans hw120_0), ((HB.out.cell (World.block_lt_of_cell? w _ hw120_1)).trans hw120_1), ((HB.out.cell (World.block_lt_of_cell? w _ hw120_2)).trans hw120_2), ((HB.out.cell (World.block_lt_of_cell? w _ hw121_0)).trans hw121_0), ((HB.out.cell (World.block_lt_of_cell? w _ hw121_1)).trans hw121_1), ((HB.out.cell (World.block_lt_of_cell? w _ hw121_2)).trans hw121_2)⟩ (fun hHeld => nm ?_)
          clear hK K
          refine on 17 (some 75) (tf 18 36) (fun K hK => ?_)
          refine gS Try.func58 #[.agg #[.bool ((rd_T69 l0 x9_3).f0), .slice A115_1 ((rd_T69 l0 x9_3).f1).length c115_1, .slice A115_2 ((rd_T69 l0 x9_3).f2).length c115_2], .agg #[.bool ((rd_T69 l0 x7_1).f0), .slice A114_1 ((rd_T69 l0 x7_1).f1).length c114_1, .slice A114_2 ((rd_T69 l0 x7_1).f2).length c114_2]] ?_
          with_reducible refine (ratio_R_Cmp.calls k3 ((rd_T69 l0 x9_3).f0) _ _ ((rd_T69 l0 x9_3).f1) _ _ ((rd_T69 l0 x9_3).f2) ((rd_T69 l0 x7_1).f0) _ _ ((rd_T69 l0 x7_1).f1) _ _ ((rd_T69 l0 x7_1).f2) t119 _ ?_ ?_ ?_ ?_ ?_ ?_ ?_ ?_ A39.out).mono ?_
          exact Kd.C_below HR117_1.out (bup HB.out)
          exact HC117_1.out
          exact Kd.C_below HR117_2.out (bup HB.out)
          exact HC117_2.out
          exact Kd.C_below HR118_1.out (bup HB.out)
          exact HC118_1.out
          exact Kd.C_below HR118_2.out (bup HB.out)
          exact HC118_2.out
          rintro e w67 ⟨rfl, hb⟩
          refine ⟨_, rfl, ?_⟩
          replace HO_111001 := vA HO_111001 hb
          replace HO_111002 := vA HO_111002 hb
          replace BK110 := kA BK110 hb
          replace HB := bS HB hb
          clear hb
          refine hK.out _ _ ⟨((HB.out.cell (World.block_lt_of_cell? w _ hw114_0)).trans hw114_0), ((HB.out.cell (World.block_lt_of_cell? w _ hw114_1)).trans hw114_1), ((HB.out.cell (World.block_lt_of_cell? w _ hw114_2)).trans hw114_2), ((HB.out.cell (World.block_lt_of_cell? w _ hw115_0)).trans hw115_0), ((HB.out.cell (World.block_lt_of_cell? w _ hw115_1)).trans hw115_1), ((HB.out.cell (World.block_lt_of_cell? w _ hw115_2)).trans hw115_2), ((HB.out.cell (World.block_lt_of_cell? w _ hw117_0)).trans hw117_0), ((HB.out.cell (World.block_lt_of_cell? w _ hw117_1)).trans hw117_1), ((HB.out.cell (World.block_lt_of_cell? w _ hw117_2)).trans hw117_2), ((HB.out.cell (World.block_lt_of_cell? w _ hw118_0)).trans hw118_0), ((HB.out.cell (World.block_lt_of_cell? w _ hw118_1)).trans hw118_1), ((HB.out.cell (World.block_lt_of_cell? w _ hw118_2)).trans hw118_2), ((HB.out.cell (World.block_lt_of_cell? w _ hw120_0)).trans hw120_0), ((HB.out.cell (World.block_lt_of_cell? w _ hw120_1)).trans hw120_1), ((HB.out.cell (World.block_lt_of_cell? w _ hw120_2)).trans hw120_2), ((HB.out.cell (World.block_lt_of_cell? w _ hw121_0)).trans hw121_0), ((HB.out.cell (World.block_lt_of_cell? w _ hw121_1)).trans hw121_1), ((HB.out.cell (World.block_lt_of_cell? w _ hw121_2)).trans hw121_2)⟩ (fun hHeld => nm ?_)
          clear hK K
          refine pu 18 76 (tf 19 35) ?_
          refine pu 19 77 (tf 20 34) ?_
          refine pu 20 78 (tf 21 33) ?_
          refine pu 21 79 (tf 22 32) ?_
          refine pu 22 80 (tf 23 31) ?_
          refine pu 23 81 (tf 24 30) ?_
          refine pu 25 83 #[true, true, true, true, true, true, true, true, true, true, true, true, true, true, true, true, true, true, true, true, true, true, true, true, false, true, false, false, false, false, false, false, false, false, false, false, false, false, false, false, false, false, false, false, false, false, false, false, false, false, false, false, false, false] ?_
          refine pu 26 84 #[true, true, true, true, true, true, true, true, true, true, true, true, true, true, true, true, true, true, true, true, true, true, true, true, false, true, true, false, false, false, false, false, false, false, false, false, false, false, false, false, false, false, false, false, false, false, false, false, false, false, false, false, false, false] ?_
          refine pu 27 85 #[true, true, true, true, true, true, true, true, true, true, true, true, true, true, true, true, true, true, true, true, true, true, true, true, false, true, true, true, false, false, false, false, false, false, false, false, false, false, false, false, false, false, false, false, false, false, false, false, false, false, false, false, false, false] ?_
          refine tk 24 82 (tf 28 26) hHeld ?_
          refine tk 28 86 (tf 29 25) hHeld ?_
          refine on 29 (some 87) (tf 30 24) (fun K hK => ?_)
          refine gS Try.func58 #[.agg #[.bool ((rd_T69 l0 x7_1).f0), .slice A114_1 ((rd_T69 l0 x7_1).f1).length c114_1, .slice A114_2 ((rd_T69 l0 x7_1).f2).length c114_2], .agg #[.bool ((rd_T69 l0 x9_3).f0), .slice A115_1 ((rd_T69 l0 x9_3).f1).length c115_1, .slice A115_2 ((rd_T69 l0 x9_3).f2).length c115_2]] ?_
          with_reducible refine (ratio_R_Cmp.calls k3 ((rd_T69 l0 x7_1).f0) _ _ ((rd_T69 l0 x7_1).f1) _ _ ((rd_T69 l0 x7_1).f2) ((rd_T69 l0 x9_3).f0) _ _ ((rd_T69 l0 x9_3).f1) _ _ ((rd_T69 l0 x9_3).f2) t122 _ ?_ ?_ ?_ ?_ ?_ ?_ ?_ ?_ A41.out).mono ?_
          exact Kd.C_below HR114_1.out (bup HB.out)
          exact HC114_1.out
          exact Kd.C_below HR114_2.out (bup HB.out)
          exact HC114_2.out
          exact Kd.C_below HR115_1.out (bup HB.out)
          exact HC115_1.out
          exact Kd.C_below HR115_2.out (bup HB.out)
          exact HC115_2.out
          rintro e w68 ⟨rfl, hb⟩
          refine ⟨_, rfl, ?_⟩
          replace HO_111001 := vA HO_111001 hb
          replace HO_111002 := vA HO_111002 hb
          replace BK110 := kA BK110 hb
          replace HB := bS HB hb
          clear hb
          refine hK.out _ _ ⟨((HB.out.cell (World.block_lt_of_cell? w _ hw114_0)).trans hw114_0), ((HB.out.cell (World.block_lt_of_cell? w _ hw114_1)).trans hw114_1), ((HB.out.cell (World.block_lt_of_cell? w _ hw114_2)).trans hw114_2), ((HB.out.cell (World.block_lt_of_cell? w _ hw115_0)).trans hw115_0), ((HB.out.cell (World.block_lt_of_cell? w _ hw115_1)).trans hw115_1), ((HB.out.cell (World.block_lt_of_cell? w _ hw115_2)).trans hw115_2), ((HB.out.cell (World.block_lt_of_cell? w _ hw117_0)).trans hw117_0), ((HB.out.cell (World.block_lt_of_cell? w _ hw117_1)).trans hw117_1), ((HB.out.cell (World.block_lt_of_cell? w _ hw117_2)).trans hw117_2), ((HB.out.cell (World.block_lt_of_cell? w _ hw118_0)).trans hw118_0), ((HB.out.cell (World.block_lt_of_cell? w _ hw118_1)).trans hw118_1), ((HB.out.cell (World.block_lt_of_cell? w _ hw118_2)).trans hw118_2), ((HB.out.cell (World.block_lt_of_cell? w _ hw120_0)).trans hw120_0), ((HB.out.cell (World.block_lt_of_cell? w _ hw120_1)).trans hw120_1), ((HB.out.cell (World.block_lt_of_cell? w _ hw120_2)).trans hw120_2), ((HB.out.cell (World.block_lt_of_cell? w _ hw121_0)).trans hw121_0), ((HB.out.cell (World.block_lt_of_cell? w _ hw121_1)).trans hw121_1), ((HB.out.cell (World.block_lt_of_cell? w _ hw121_2)).trans hw121_2)⟩ (fun hHeld => nm ?_)
          clear hK K
          refine pu 30 88 (tf 31 23) ?_
          refine pu 31 89 (tf 32 22) ?_
          refine pure_ (i := 32) (N := some 90) (v := undef) (a' := ?_) (tf 33 21) rfl rfl (any_of HT_.out (by kernel_rfl)) (fun _ _ _ h => h) (Or.inr ⟨by rfl, rfl⟩) ?_ ?_
          rotate_left
          ·simp only [Act.put, List.setIfInBounds_toArray, List.set_cons_zero, List.set_cons_succ, i64_w, i32_w]
           rfl
          refine pure_ (i := 33) (N := some 91) (v := undef) (a' := ?_) (tf 34 20) rfl rfl (any_of HT_.out (by kernel_rfl)) (fun _ _ _ h => h) (Or.inr ⟨by rfl, rfl⟩) ?_ ?_
          rotate_left
          ·simp only [Act.put, List.setIfInBounds_toArray, List.set_cons_zero, List.set_cons_succ, i64_w, i32_w]
           rfl
          refine pure_ (i := 34) (N := some 92) (v := undef) (a' := ?_) (tf 35 19) rfl rfl (any_of HT_.out (by kernel_rfl)) (fun _ _ _ h => h) (Or.inr ⟨by rfl, rfl⟩) ?_ ?_
          rotate_left
          ·simp only [Act.put, List.setIfInBounds_toArray, List.set_cons_zero, List.set_cons_succ, i64_w, i32_w]
           rfl
          refine pure_ (i := 35) (N := some 93) (v := undef) (a' := ?_) (tf 36 18) rfl rfl (any_of HT_.out (by kernel_rfl)) (fun _ _ _ h => h) (Or.inr ⟨by rfl, rfl⟩) ?_ ?_
          rotate_left
          ·simp only [Act.put, List.setIfInBounds_toArray, List.set_cons_zero, List.set_cons_succ, i64_w, i32_w]
           rfl
          refine pure_ (i := 36) (N := some 94) (v := undef) (a' := ?_) (tf 37 17) rfl rfl (any_of HT_.out (by kernel_rfl)) (fun _ _ _ h => h) (Or.inr ⟨by rfl, rfl⟩) ?_ ?_
          rotate_left
          ·simp only [Act.put, List.setIfInBounds_toArray, List.set_cons_zero, List.set_cons_succ, i64_w, i32_w]
           rfl
          refine pure_ (i := 37) (N := some 95) (v := undef) (a' := ?_) (tf 38 16) rfl rfl (any_of HT_.out (by kernel_rfl)) (fun _ _ _ h => h) (Or.inr ⟨by rfl, rfl⟩) ?_ ?_
          rotate_left
          ·simp only [Act.put, List.setIfInBounds_toArray, List.set_cons_zero, List.set_cons_succ, i64_w, i32_w]
           rfl
          refine pure_ (i := 38) (N := some 96) (v := undef) (a' := ?_) (tf 39 15) rfl rfl (any_of HT_.out (by kernel_rfl)) (fun _ _ _ h => h) (Or.inr ⟨by rfl, rfl⟩) ?_ ?_
          rotate_left
          ·simp only [Act.put, List.setIfInBounds_toArray, List.set_cons_zero, List.set_cons_succ, i64_w, i32_w]
           rfl
          refine pure_ (i := 39) (N := some 97) (v := undef) (a' := ?_) (tf 40 14) rfl rfl (any_of HT_.out (by kernel_rfl)) (fun _ _ _ h => h) (Or.inr ⟨by rfl, rfl⟩) ?_ ?_
          rotate_left
          ·simp only [Act.put, List.setIfInBounds_toArray, List.set_cons_zero, List.set_cons_succ, i64_w, i32_w]
           rfl
          refine pure_ (i := 40) (N := some 98) (v := undef) (a' := ?_) (tf 41 13) rfl rfl (any_of HT_.out (by kernel_rfl)) (fun _ _ _ h => h) (Or.inr ⟨by rfl, rfl⟩) ?_ ?_
          rotate_left
          ·simp only [Act.put, List.setIfInBounds_toArray, List.set_cons_zero, List.set_cons_succ, i64_w, i32_w]
           rfl
          refine pu 41 99 (tf 42 12) ?_
          refine pu 42 100 (tf 43 11) ?_
          refine pure_ (i := 43) (N := some 101) (v := undef) (a' := ?_) (tf 44 10) rfl rfl (any_of HT_.out (by kernel_rfl)) (fun _ _ _ h => h) (Or.inr ⟨by rfl, rfl⟩) ?_ ?_
          rotate_left
          ·simp only [Act.put, List.setIfInBounds_toArray, List.set_cons_zero, List.set_cons_succ, i64_w, i32_w]
           rfl
          refine pure_ (i := 44) (N := some 102) (v := undef) (a' := ?_) (tf 45 9) rfl rfl (any_of HT_.out (by kernel_rfl)) (fun _ _ _ h => h) (Or.inr ⟨by rfl, rfl⟩) ?_ ?_
          rotate_left
          ·simp only [Act.put, List.setIfInBounds_toArray, List.set_cons_zero, List.set_cons_succ, i64_w, i32_w]
           rfl
          refine pure_ (i := 45) (N := some 103) (v := undef) (a' := ?_) (tf 46 8) rfl rfl (any_of HT_.out (by kernel_rfl)) (fun _ _ _ h => h) (Or.inr ⟨by rfl, rfl⟩) ?_ ?_
          rotate_left
          ·simp only [Act.put, List.setIfInBounds_toArray, List.set_cons_zero, List.set_cons_succ, i64_w, i32_w]
           rfl
          refine pure_ (i := 46) (N := some 104) (v := undef) (a' := ?_) (tf 47 7) rfl rfl (any_of HT_.out (by kernel_rfl)) (fun _ _ _ h => h) (Or.inr ⟨by rfl, rfl⟩) ?_ ?_
          rotate_left
          ·simp only [Act.put, List.setIfInBounds_toArray, List.set_cons_zero, List.set_cons_succ, i64_w, i32_w]
           rfl
          refine pure_ (i := 47) (N := some 105) (v := undef) (a' := ?_) (tf 48 6) rfl rfl (any_of HT_.out (by kernel_rfl)) (fun _ _ _ h => h) (Or.inr ⟨by rfl, rfl⟩) ?_ ?_
          rotate_left
          ·simp only [Act.put, List.setIfInBounds_toArray, List.set_cons_zero, List.set_cons_succ, i64_w, i32_w]
           rfl
          refine pure_ (i := 48) (N := some 106) (v := undef) (a' := ?_) (tf 49 5) rfl rfl (any_of HT_.out (by kernel_rfl)) (fun _ _ _ h => h) (Or.inr ⟨by rfl, rfl⟩) ?_ ?_
          rotate_left
          ·simp only [Act.put, List.setIfInBounds_toArray, List.set_cons_zero, List.set_cons_succ, i64_w, i32_w]
           rfl
          refine pure_ (i := 49) (N := some 107) (v := undef) (a' := ?_) (tf 50 4) rfl rfl (any_of HT_.out (by kernel_rfl)) (fun _ _ _ h => h) (Or.inr ⟨by rfl, rfl⟩) ?_ ?_
          rotate_left
          ·simp only [Act.put, List.setIfInBounds_toArray, List.set_cons_zero, List.set_cons_succ, i64_w, i32_w]
           rfl
          refine pure_ (i := 50) (N := some 108) (v := undef) (a' := ?_) (tf 51 3) rfl rfl (any_of HT_.out (by kernel_rfl)) (fun _ _ _ h => h) (Or.inr ⟨by rfl, rfl⟩) ?_ ?_
          rotate_left
          ·simp only [Act.put, List.setIfInBounds_toArray, List.set_cons_zero, List.set_cons_succ, i64_w, i32_w]
           rfl
          refine pure_ (i := 51) (N := some 109) (v := undef) (a' := ?_) (tf 52 2) rfl rfl (any_of HT_.out (by kernel_rfl)) (fun _ _ _ h => h) (Or.inr ⟨by rfl, rfl⟩) ?_ ?_
          rotate_left
          ·simp only [Act.put, List.setIfInBounds_toArray, List.set_cons_zero, List.set_cons_succ, i64_w, i32_w]
           rfl
          refine pu 52 110 (tf 53 1) ?_
          refine pu 53 111 (tf 54 0) ?_
          refine done_ (done_of HT_.out (by kernel_rfl)) ?_
          try go_wp2
          go_roundg k3
          case measure => have := HK1.out; have := HJ29.out; have := HK3.out; omega
          case rel => exact ⟨(wrap64 (x9_3 + 1)), rS, H', ⟨by have := HK1.out; have := HJ29.out; have := HK3.out; omega⟩, ⟨vup HO_111001.out⟩, ⟨vup HO_111002.out⟩, ⟨by exact kU BK110⟩, ⟨hB⟩⟩
         rw [if_pos c42] at H
         have c42b0 : decide (t122 < 0) = true := decide_eq_true c42
         clear c42
         replace H := iS H
         obtain ⟨c43, H⟩ := H
         have c43b0 : decide (0 < (l0.length : Int)) = true := decide_eq_true c43
         have c43b1 : decide (0 < l0.length) = true := decide_eq_true (by omega)
         clear c43
         replace H := bi H
         obtain ⟨t125, A44, H⟩ := H
         by_cases c45 : t125 < 0
         rotate_left
         ·rw [if_neg c45] at H
          have c45b0 : decide (t125 < 0) = false := decide_eq_false c45
          clear c45
          have H' := Aside0.mk H
          clear H
          try go_wp2
          replace HO_111001 := Aside0.mk (Kd.V_drew HO_111001.out)
          replace HO_111002 := Aside0.mk (Kd.V_drew HO_111002.out)
          replace BK110 := kd BK110
          replace HB := bd HB
          have p114 : 0 ≤ (x7_1 : Int) := of_decide_eq_true asm
          have q114 : x7_1 < (l0.length : Int) := of_decide_eq_true asm
          obtain ⟨ad114, A114_1, c114_1, A114_2, c114_2, e114, hx114_0, hx114_1, hx114_2, hl114_1, hi114_1, hl114_2, hi114_2⟩ := at_T69 HR0.out x7_1 p114 q114
          have hw114_2 := hx114_2
          have hw114_1 := hx114_1
          have hw114_0 := hx114_0
          obtain rfl : ad112 = ad114 := (by injection e114)
          replace hx114_0 := (HB.out.cell (World.block_lt_of_cell? w _ hx114_0)).trans hx114_0
          replace hx114_1 := (HB.out.cell (World.block_lt_of_cell? w _ hx114_1)).trans hx114_1
          replace hx114_2 := (HB.out.cell (World.block_lt_of_cell? w _ hx114_2)).trans hx114_2
          have HR114_1 := Aside0.mk hi114_1
          have HC114_1 := Aside0.mk hl114_1
          clear hi114_1 hl114_1
          have HR114_2 := Aside0.mk hi114_2
          have HC114_2 := Aside0.mk hl114_2
          clear hi114_2 hl114_2
          replace p114 := eq_true p114
          replace q114 := eq_true q114
          have p115 : 0 ≤ (x9_3 : Int) := of_decide_eq_true asm
          have q115 : x9_3 < (l0.length : Int) := of_decide_eq_true asm
          obtain ⟨ad115, A115_1, c115_1, A115_2, c115_2, e115, hx115_0, hx115_1, hx115_2, hl115_1, hi115_1, hl115_2, hi115_2⟩ := at_T69 HR0.out x9_3 p115 q115
          have hw115_2 := hx115_2
          have hw115_1 := hx115_1
          have hw115_0 := hx115_0
          obtain rfl : ad112 = ad115 := (by injection e115)
          replace hx115_0 := (HB.out.cell (World.block_lt_of_cell? w _ hx115_0)).trans hx115_0
          replace hx115_1 := (HB.out.cell (World.block_lt_of_cell? w _ hx115_1)).trans hx115_1
          replace hx115_2 := (HB.out.cell (World.block_lt_of_cell? w _ hx115_2)).trans hx115_2
          have HR115_1 := Aside0.mk hi115_1
          have HC115_1 := Aside0.mk hl115_1
          clear hi115_1 hl115_1
          have HR115_2 := Aside0.mk hi115_2
          have HC115_2 := Aside0.mk hl115_2
          clear hi115_2 hl115_2
          replace p115 := eq_true p115
          replace q115 := eq_true q115
          have p117 : 0 ≤ (x9_3 : Int) := of_decide_eq_true asm
          have q117 : x9_3 < (l0.length : Int) := of_decide_eq_true asm
          obtain ⟨ad117, A117_1, c117_1, A117_2, c117_2, e117, hx117_0, hx117_1, hx117_2, hl117_1, hi117_1, hl117_2, hi117_2⟩ := at_T69 HR0.out x9_3 p117 q117
          have hw117_2 := hx117_2
          have hw117_1 := hx117_1
          have hw117_0 := hx117_0
          obtain rfl : ad112 = ad117 := (by injection e117)
          replace hx117_0 := (HB.out.cell (World.block_lt_of_cell? w _ hx117_0)).trans hx117_0
          replace hx117_1 := (HB.out.cell (World.block_lt_of_cell? w _ hx117_1)).trans hx117_1
          replace hx117_2 := (HB.out.cell (World.block_lt_of_cell? w _ hx117_2)).trans hx117_2
          have HR117_1 := Aside0.mk hi117_1
          have HC117_1 := Aside0.mk hl117_1
          clear hi117_1 hl117_1
          have HR117_2 := Aside0.mk hi117_2
          have HC117_2 := Aside0.mk hl117_2
          clear hi117_2 hl117_2
          replace p117 := eq_true p117
          replace q117 := eq_true q117
          have ea_ := Option.some.inj (hx115_1.symm.trans hx117_1)
          injection ea_ with ea_ en_ ec_
          subst ea_
          subst ec_
          clear en_
          have ea_ := Option.some.inj (hx115_2.symm.trans hx117_2)
          injection ea_ with ea_ en_ ec_
          subst ea_
          subst ec_
          clear en_
          have p118 : 0 ≤ (x7_1 : Int) := of_decide_eq_true asm
          have q118 : x7_1 < (l0.length : Int) := of_decide_eq_true asm
          obtain ⟨ad118, A118_1, c118_1, A118_2, c118_2, e118, hx118_0, hx118_1, hx118_2, hl118_1, hi118_1, hl118_2, hi118_2⟩ := at_T69 HR0.out x7_1 p118 q118
          have hw118_2 := hx118_2
          have hw118_1 := hx118_1
          have hw118_0 := hx118_0
          obtain rfl : ad112 = ad118 := (by injection e118)
          replace hx118_0 := (HB.out.cell (World.block_lt_of_cell? w _ hx118_0)).trans hx118_0
          replace hx118_1 := (HB.out.cell (World.block_lt_of_cell? w _ hx118_1)).trans hx118_1
          replace hx118_2 := (HB.out.cell (World.block_lt_of_cell? w _ hx118_2)).trans hx118_2
          have HR118_1 := Aside0.mk hi118_1
          have HC118_1 := Aside0.mk hl118_1
          clear hi118_1 hl118_1
          have HR118_2 := Aside0.mk hi118_2
          have HC118_2 := Aside0.mk hl118_2
          clear hi118_2 hl118_2
          replace p118 := eq_true p118
          replace q118 := eq_true q118
          have ea_ := Option.some.inj (hx114_1.symm.trans hx118_1)
          injection ea_ with ea_ en_ ec_
          subst ea_
          subst ec_
          clear en_
          have ea_ := Option.some.inj (hx114_2.symm.trans hx118_2)
          injection ea_ with ea_ en_ ec_
          subst ea_
          subst ec_
          clear en_
          have p120 : 0 ≤ (x7_1 : Int) := of_decide_eq_true asm
          have q120 : x7_1 < (l0.length : Int) := of_decide_eq_true asm
          obtain ⟨ad120, A120_1, c120_1, A120_2, c120_2, e120, hx120_0, hx120_1, hx120_2, hl120_1, hi120_1, hl120_2, hi120_2⟩ := at_T69 HR0.out x7_1 p120 q120
          have hw120_2 := hx120_2
          have hw120_1 := hx120_1
          have hw120_0 := hx120_0
          obtain rfl : ad112 = ad120 := (by injection e120)
          replace hx120_0 := (HB.out.cell (World.block_lt_of_cell? w _ hx120_0)).trans hx120_0
          replace hx120_1 := (HB.out.cell (World.block_lt_of_cell? w _ hx120_1)).trans hx120_1
          replace hx120_2 := (HB.out.cell (World.block_lt_of_cell? w _ hx120_2)).trans hx120_2
          have HR120_1 := Aside0.mk hi120_1
          have HC120_1 := Aside0.mk hl120_1
          clear hi120_1 hl120_1
          have HR120_2 := Aside0.mk hi120_2
          have HC120_2 := Aside0.mk hl120_2
          clear hi120_2 hl120_2
          replace p120 := eq_true p120
          replace q120 := eq_true q120
          have p121 : 0 ≤ (x9_3 : Int) := of_decide_eq_true asm
          have q121 : x9_3 < (l0.length : Int) := of_decide_eq_true asm
          obtain ⟨ad121, A121_1, c121_1, A121_2, c121_2, e121, hx121_0, hx121_1, hx121_2, hl121_1, hi121_1, hl121_2, hi121_2⟩ := at_T69 HR0.out x9_3 p121 q121
          have hw121_2 := hx121_2
          have hw121_1 := hx121_1
          have hw121_0 := hx121_0
          obtain rfl : ad112 = ad121 := (by injection e121)
          replace hx121_0 := (HB.out.cell (World.block_lt_of_cell? w _ hx121_0)).trans hx121_0
          replace hx121_1 := (HB.out.cell (World.block_lt_of_cell? w _ hx121_1)).trans hx121_1
          replace hx121_2 := (HB.out.cell (World.block_lt_of_cell? w _ hx121_2)).trans hx121_2
          have HR121_1 := Aside0.mk hi121_1
          have HC121_1 := Aside0.mk hl121_1
          clear hi121_1 hl121_1
          have HR121_2 := Aside0.mk hi121_2
          have HC121_2 := Aside0.mk hl121_2
          clear hi121_2 hl121_2
          replace p121 := eq_true p121
          replace q121 := eq_true q121
          have p123 : 0 ≤ (0 : Int) := (by omega)
          have q123 : 0 < (l0.length : Int) := of_decide_eq_true asm
          obtain ⟨ad123, A123_1, c123_1, A123_2, c123_2, e123, hx123_0, hx123_1, hx123_2, hl123_1, hi123_1, hl123_2, hi123_2⟩ := at_T69 HR0.out 0 p123 q123
          have hw123_2 := hx123_2
          (try rw [show ((0 : Int)).toNat = 0 from rfl] at hw123_2)
          (try rw [show 0 * 3 = 0 from rfl] at hw123_2)
          (try rw [Addr.add_zero'] at hw123_2)
          have hw123_1 := hx123_1
          (try rw [show ((0 : Int)).toNat = 0 from rfl] at hw123_1)
          (try rw [show 0 * 3 = 0 from rfl] at hw123_1)
          (try rw [Addr.add_zero'] at hw123_1)
          have hw123_0 := hx123_0
          (try rw [show ((0 : Int)).toNat = 0 from rfl] at hw123_0)
          (try rw [show 0 * 3 = 0 from rfl] at hw123_0)
          (try rw [Addr.add_zero'] at hw123_0)
          obtain rfl : ad112 = ad123 := (by injection e123)
          have qi123 : (0 < l0.length) = True := eq_true (by omega)
          (try rw [show ((0 : Int)).toNat = 0 from rfl] at hx123_0)
          (try rw [show 0 * 3 = 0 from rfl] at hx123_0)
          (try rw [Addr.add_zero'] at hx123_0)
          (try rw [show ((0 : Int)).toNat = 0 from rfl] at hx123_1)
          (try rw [show 0 * 3 = 0 from rfl] at hx123_1)
          (try rw [Addr.add_zero'] at hx123_1)
          (try rw [show ((0 : Int)).toNat = 0 from rfl] at hx123_2)
          (try rw [show 0 * 3 = 0 from rfl] at hx123_2)
          (try rw [Addr.add_zero'] at hx123_2)
          replace hx123_0 := (HB.out.cell (World.block_lt_of_cell? w _ hx123_0)).trans hx123_0
          replace hx123_1 := (HB.out.cell (World.block_lt_of_cell? w _ hx123_1)).trans hx123_1
          replace hx123_2 := (HB.out.cell (World.block_lt_of_cell? w _ hx123_2)).trans hx123_2
          have HR123_1 := Aside0.mk hi123_1
          have HC123_1 := Aside0.mk hl123_1
          clear hi123_1 hl123_1
          have HR123_2 := Aside0.mk hi123_2
          have HC123_2 := Aside0.mk hl123_2
          clear hi123_2 hl123_2
          replace p123 := eq_true p123
          replace q123 := eq_true q123
          have p124 : 0 ≤ (x7_1 : Int) := of_decide_eq_true asm
          have q124 : x7_1 < (l0.length : Int) := of_decide_eq_true asm
          obtain ⟨ad124, A124_1, c124_1, A124_2, c124_2, e124, hx124_0, hx124_1, hx124_2, hl124_1, hi124_1, hl124_2, hi124_2⟩ := at_T69 HR0.out x7_1 p124 q124
          have hw124_2 := hx124_2
          have hw124_1 := hx124_1
          have hw124_0 := hx124_0
          obtain rfl : ad112 = ad124 := (by injection e124)
          replace hx124_0 := (HB.out.cell (World.block_lt_of_cell? w _ hx124_0)).trans hx124_0
          replace hx124_1 := (HB.out.cell (World.block_lt_of_cell? w _ hx124_1)).trans hx124_1
          replace hx124_2 := (HB.out.cell (World.block_lt_of_cell? w _ hx124_2)).trans hx124_2
          have HR124_1 := Aside0.mk hi124_1
          have HC124_1 := Aside0.mk hl124_1
          clear hi124_1 hl124_1
          have HR124_2 := Aside0.mk hi124_2
          have HC124_2 := Aside0.mk hl124_2
          clear hi124_2 hl124_2
          replace p124 := eq_true p124
          replace q124 := eq_true q124
          refine st (S := fun w' => w'.cell? (ad112.add ((x7_1).toNat * 3)) = some (.bool ((rd_T69 l0 x7_1).f0)) ∧ w'.cell? ⟨(ad112.add ((x7_1).toNat * 3)).block, (ad112.add ((x7_1).toNat * 3)).off + 1, none⟩ = some (.slice A114_1 ((rd_T69 l0 x7_1).f1).length c114_1) ∧ w'.cell? ⟨(ad112.add ((x7_1).toNat * 3)).block, (ad112.add ((x7_1).toNat * 3)).off + 2, none⟩ = some (.slice A114_2 ((rd_T69 l0 x7_1).f2).length c114_2) ∧ w'.cell? (ad112.add ((x9_3).toNat * 3)) = some (.bool ((rd_T69 l0 x9_3).f0)) ∧ w'.cell? ⟨(ad112.add ((x9_3).toNat * 3)).block, (ad112.add ((x9_3).toNat * 3)).off + 1, none⟩ = some (.slice A115_1 ((rd_T69 l0 x9_3).f1).length c115_1) ∧ w'.cell? ⟨(ad112.add ((x9_3).toNat * 3)).block, (ad112.add ((x9_3).toNat * 3)).off + 2, none⟩ = some (.slice A115_2 ((rd_T69 l0 x9_3).f2).length c115_2) ∧ w'.cell? (ad112.add ((x9_3).toNat * 3)) = some (.bool ((rd_T69 l0 x9_3).f0)) ∧ w'.cell? ⟨(ad112.add ((x9_3).toNat * 3)).block, (ad112.add ((x9_3).toNat * 3)).off + 1, none⟩ = some (.slice A115_1 ((rd_T69 l0 x9_3).f1).length c115_1) ∧ w'.cell? ⟨(ad112.add ((x9_3).toNat * 3)).block, (ad112.add ((x9_3).toNat * 3)).off + 2, none⟩ = some (.slice A115_2 ((rd_T69 l0 x9_3).f2).length c115_2) ∧ w'.cell? (ad112.add ((x7_1).toNat * 3)) = some (.bool ((rd_T69 l0 x7_1).f0)) ∧ w'.cell? ⟨(ad112.add ((x7_1).toNat * 3)).block, (ad112.add ((x7_1).toNat * 3)).off + 1, none⟩ = some (.slice A114_1 ((rd_T69 l0 x7_1).f1).length c114_1) ∧ w'.cell? ⟨(ad112.add ((x7_1).toNat * 3)).block, (ad112.add ((x7_1).toNat * 3)).off + 2, none⟩ = some (.slice A114_2 ((rd_T69 l0 x7_1).f2).length c114_2) ∧ w'.cell? (ad112.add ((x7_1).toNat * 3)) = some (.bool ((rd_T69 l0 x7_1).f0)) ∧ w'.cell? ⟨(ad112.add ((x7_1).toNat * 3)).block, (ad112.add ((x7_1).toNat * 3)).off + 1, none⟩ = some (.slice A120_1 ((rd_T69 l0 x7_1).f1).length c120_1) ∧ w'.cell? ⟨(ad112.add ((x7_1).toNat * 3)).block, (ad112.add ((x7_1).toNat * 3)).off + 2, none⟩ = some (.slice A120_2 ((rd_T69 l0 x7_1).f2).length c120_2) ∧ w'.cell? (ad112.add ((x9_3).toNat * 3)) = some (.bool ((rd_T69 l0 x9_3).f0)) ∧ w'.cell? ⟨(ad112.add ((x9_3).toNat * 3)).block, (ad112.add ((x9_3).toNat * 3)).off + 1, none⟩ = some (.slice A121_1 ((rd_T69 l0 x9_3).f1).length c121_1) ∧ w'.cell? ⟨(ad112.add ((x9_3).toNat * 3)).block, (ad112.add ((x9_3).toNat * 3)).off + 2, none⟩ = some (.slice A121_2 ((rd_T69 l0 x9_3).f2).length c121_2) ∧ w'.cell? ad112 = some (.bool ((rd_T69 l0 0).f0)) ∧ w'.cell? ⟨ad112.block, ad112.off + 1, none⟩ = some (.slice A123_1 ((rd_T69 l0 0).f1).length c123_1) ∧ w'.cell? ⟨ad112.block, ad112.off + 2, none⟩ = some (.slice A123_2 ((rd_T69 l0 0).f2).length c123_2) ∧ w'.cell? (ad112.add ((x7_1).toNat * 3)) = some (.bool ((rd_T69 l0 x7_1).f0)) ∧ w'.cell? ⟨(ad112.add ((x7_1).toNat * 3)).block, (ad112.add ((x7_1).toNat * 3)).off + 1, none⟩ = some (.slice A124_1 ((rd_T69 l0 x7_1).f1).length c124_1) ∧ w'.cell? ⟨(ad112.add ((x7_1).toNat * 3)).block, (ad112.add ((x7_1).toNat * 3)).off + 2, none⟩ = some (.slice A124_2 ((rd_T69 l0 x7_1).f2).length c124_2)) 54 [] (tf 0 54) ⟨((HB.out.cell (World.block_lt_of_cell? w _ hw114_0)).trans hw114_0), ((HB.out.cell (World.block_lt_of_cell? w _ hw114_1)).trans hw114_1), ((HB.out.cell (World.block_lt_of_cell? w _ hw114_2)).trans hw114_2), ((HB.out.cell (World.block_lt_of_cell? w _ hw115_0)).trans hw115_0), ((HB.out.cell (World.block_lt_of_cell? w _ hw115_1)).trans hw115_1), ((HB.out.cell (World.block_lt_of_cell? w _ hw115_2)).trans hw115_2), ((HB.out.cell (World.block_lt_of_cell? w _ hw117_0)).trans hw117_0), ((HB.out.cell (World.block_lt_of_cell? w _ hw117_1)).trans hw117_1), ((HB.out.cell (World.block_lt_of_cell? w _ hw117_2)).trans hw117_2), ((HB.out.cell (World.block_lt_of_cell? w _ hw118_0)).trans hw118_0), ((HB.out.cell (World.block_lt_of_cell? w _ hw118_1)).trans hw118_1), ((HB.out.cell (World.block_lt_of_cell? w _ hw118_2)).trans hw118_2), ((HB.out.cell (World.block_lt_of_cell? w _ hw120_0)).trans hw120_0), ((HB.out.cell (World.block_lt_of_cell? w _ hw120_1)).trans hw120_1), ((HB.out.cell (World.block_lt_of_cell? w _ hw120_2)).trans hw120_2), ((HB.out.cell (World.block_lt_of_cell? w _ hw121_0)).trans hw121_0), ((HB.out.cell (World.block_lt_of_cell? w _ hw121_1)).trans hw121_1), ((HB.out.cell (World.block_lt_of_cell? w _ hw121_2)).trans hw121_2), ((HB.out.cell (World.block_lt_of_cell? w _ hw123_0)).trans hw123_0), ((HB.out.cell (World.block_lt_of_cell? w _ hw123_1)).trans hw123_1), ((HB.out.cell (World.block_lt_of_cell? w _ hw123_2)).trans hw123_2), ((HB.out.cell (World.block_lt_of_cell? w _ hw124_0)).trans hw124_0), ((HB.out.cell (World.block_lt_of_cell? w _ hw124_1)).trans hw124_1), ((HB.out.cell (World.block_lt_of_cell? w _ hw124_2)).trans hw124_2)⟩ (fun hHeld => ?_); refine with_tabW flyballlaw03_RatioMost.tab23 flyballlaw03_RatioMost.bits23 (fun HT_ HW_ => ?_)
          generalize wr.drew = w60 at HO_111001 HO_111002 BK110 HB HR114_1 HR114_2 HR115_1 HR115_2 HR117_1 HR117_2 HR118_1 HR118_2 HR120_1 HR120_2 HR121_1 HR121_2 HR123_1 HR123_2 HR124_1 HR124_2 hx114_0 hx114_1 hx114_2 hx115_0 hx115_1 hx115_2 hx117_0 hx117_1 hx117_2 hx118_0 hx118_1 hx118_2 hx120_0 hx120_1 hx120_2 hx121_0 hx121_1 hx121_2 hx123_0 hx123_1 hx123_2 hx124_0 hx124_1 hx124_2 hHeld ⊢
          refine pu 0 58 (tf 1 53) ?_
          refine pu 1 59 (tf 2 52) ?_
          refine pu 2 60 (tf 3 51) ?_
          refine pu 4 62 #[true, true, true, false, true, false, false, false, false, false, false, false, false, false, false, false, false, false, false, false, false, false, false, false, false, false, false, false, false, false, false, false, false, false, false, false, false, false, false, false, false, false, false, false, false, false, false, false, false, false, false, false, false, false] ?_
          refine pu 5 63 #[true, true, true, false, true, true, false, false, false, false, false, false, false, false, false, false, false, false, false, false, false, false, false, false, false, false, false, false, false, false, false, false, false, false, false, false, false, false, false, false, false, false, false, false, false, false, false, false, false, false, false, false, false, false] ?_
          refine pu 6 64 #[true, true, true, false, true, true, true, false, false, false, false, false, false, false, false, false, false, false, false, false, false, false, false, false, false, false, false, false, false, false, false, false, false, false, false, false, false, false, false, false, false, false, false, false, false, false, false, false, false, false, false, false, false, false] ?_
          refine pu 9 67 #[true, true, true, false, true, true, true, false, false, true, false, false, false, false, false, false, false, false, false, false, false, false, false, false, false, false, false, false, false, false, false, false, false, false, false, false, false, false, false, false, false, false, false, false, false, false, false, false, false, false, false, false, false, false] ?_
          refine pu 10 68 #[true, true, true, false, true, true, true, false, false, true, true, false, false, false, false, false, false, false, false, false, false, false, false, false, false, false, false, false, false, false, false, false, false, false, false, false, false, false, false, false, false, false, false, false, false, false, false, false, false, false, false, false, false, false] ?_
          refine pu 11 69 #[true, true, true, false, true, true, true, false, false, true, true, true, false, false, false, false, false, false, false, false, false, false, false, false, false, false, false, false, false, false, false, false, false, false, false, false, false, false, false, false, false, false, false, false, false, false, false, false, false, false, false, false, false, false] ?_
          refine pu 13 71 #[true, true, true, false, true, true, true, false, false, true, true, true, false, true, false, false, false, false, false, false, false, false, false, false, false, false, false, false, false, false, false, false, false, false, false, false, false, false, false, false, false, false, false, false, false, false, false, false, false, false, false, false, false, false] ?_
          refine pu 14 72 #[true, true, true, false, true, true, true, false, false, true, true, true, false, true, true, false, false, false, false, false, false, false, false, false, false, false, false, false, false, false, false, false, false, false, false, false, false, false, false, false, false, false, false, false, false, false, false, false, false, false, false, false, false, false] ?_
          refine pu 15 73 #[true, true, true, false, true, true, true, false, false, true, true, true, false, true, true, true, false, false, false, false, false, false, false, false, false, false, false, false, false, false, false, false, false, false, false, false, false, false, false, false, false, false, false, false, false, false, false, false, false, false, false, false, false, false] ?_
          refine tk 3 61 #[true, true, true, true, true, true, true, false, false, true, true, true, false, true, true, true, false, false, false, false, false, false, false, false, false, false, false, false, false, false, false, false, false, false, false, false, false, false, false, false, false, false, false, false, false, false, false, false, false, false, false, false, false, false] hHeld ?_
          refine tk 7 65 #[true, true, true, true, true, true, true, true, false, true, true, true, false, true, true, true, false, false, false, false, false, false, false, false, false, false, false, false, false, false, false, false, false, false, false, false, false, false, false, false, false, false, false, false, false, false, false, false, false, false, false, false, false, false] hHeld ?_
          refine tk 12 70 #[true, true, true, true, true, true, true, true, false, true, true, true, true, true, true, true, false, false, false, false, false, false, false, false, false, false, false, false, false, false, false, false, false, false, false, false, false, false, false, false, false, false, false, false, false, false, false, false, false, false, false, false, false, false] hHeld ?_
          refine tk 16 74 #[true, true, true, true, true, true, true, true, false, true, true, true, true, true, true, true, true, false, false, false, false, false, false, false, false, false, false, false, false, false, false, false, false, false, false, false, false, false, false, false, false, false, false, false, false, false, false, false, false, false, false, false, false, false] hHeld ?_
          refine on 8 (some 66) (tf 17 37) (fun K hK => ?_)
          refine gS Try.func58 #[.agg #[.bool ((rd_T69 l0 x7_1).f0), .slice A114_1 ((rd_T69 l0 x7_1).f1).length c114_1, .slice A114_2 ((rd_T69 l0 x7_1).f2).length c114_2], .agg #[.bool ((rd_T69 l0 x9_3).f0), .slice A115_1 ((rd_T69 l0 x9_3).f1).length c115_1, .slice A115_2 ((rd_T69 l0 x9_3).f2).length c115_2]] ?_
          with_reducible refine (ratio_R_Cmp.calls k3 ((rd_T69 l0 x7_1).f0) _ _ ((rd_T69 l0 x7_1).f1) _ _ ((rd_T69 l0 x7_1).f2) ((rd_T69 l0 x9_3).f0) _ _ ((rd_T69 l0 x9_3).f1) _ _ ((rd_T69 l0 x9_3).f2) t116 _ ?_ ?_ ?_ ?_ ?_ ?_ ?_ ?_ A38.out).mono ?_
          exact Kd.C_below HR114_1.out (bup HB.out)
          exact HC114_1.out
          exact Kd.C_below HR114_2.out (bup HB.out)
          exact HC114_2.out
          exact Kd.C_below HR115_1.out (bup HB.out)
          exact HC115_1.out
          exact Kd.C_below HR115_2.out (bup HB.out)
          exact HC115_2.out
          rintro e w61 ⟨rfl, hb⟩
          refine ⟨_, rfl, ?_⟩
          replace HO_111001 := vA HO_111001 hb
          replace HO_111002 := vA HO_111002 hb
          replace BK110 := kA BK110 hb
          replace HB := bS HB hb
          clear hb
          refine hK.out _ _ ⟨((HB.out.cell (World.block_lt_of_cell? w _ hw114_0)).trans hw114_0), ((HB.out.cell (World.block_lt_of_cell? w _ hw114_1)).trans hw114_1), ((HB.out.cell (World.block_lt_of_cell? w _ hw114_2)).trans hw114_2), ((HB.out.cell (World.block_lt_of_cell? w _ hw115_0)).trans hw115_0), ((HB.out.cell (World.block_lt_of_cell? w _ hw115_1)).trans hw115_1), ((HB.out.cell (World.block_lt_of_cell? w _ hw115_2)).trans hw115_2), ((HB.out.cell (World.block_lt_of_cell? w _ hw117_0)).trans hw117_0), ((HB.out.cell (World.block_lt_of_cell? w _ hw117_1)).trans hw117_1), ((HB.out.cell (World.block_lt_of_cell? w _ hw117_2)).trans hw117_2), ((HB.out.cell (World.block_lt_of_cell? w _ hw118_0)).trans hw118_0), ((HB.out.cell (World.block_lt_of_cell? w _ hw118_1)).trans hw118_1), ((HB.out.cell (World.block_lt_of_cell? w _ hw118_2)).trans hw118_2), ((HB.out.cell (World.block_lt_of_cell? w _ hw120_0)).trans hw120_0), ((HB.out.cell (World.block_lt_of_cell? w _ hw120_1)).trans hw120_1), ((HB.out.cell (World.block_lt_of_cell? w _ hw120_2)).trans hw120_2), ((HB.out.cell (World.block_lt_of_cell? w _ hw121_0)).trans hw121_0), ((HB.out.cell (World.block_lt_of_cell? w _ hw121_1)).trans hw121_1), ((HB.out.cell (World.block_lt_of_cell? w _ hw121_2)).trans hw121_2), ((HB.out.cell (World.block_lt_of_cell? w _ hw123_0)).trans hw123_0), ((HB.out.cell (World.block_lt_of_cell? w _ hw123_1)).trans hw123_1), ((HB.out.cell (World.block_lt_of_cell? w _ hw123_2)).trans hw123_2), ((HB.out.cell (World.block_lt_of_cell? w _ hw124_0)).trans hw124_0), ((HB.out.cell (World.block_lt_of_cell? w _ hw124_1)).trans hw124_1), ((HB.out.cell (World.block_lt_of_cell? w _ hw124_2)).trans hw124_2)⟩ (fun hHeld => nm ?_)
          clear hK K
          refine on 17 (some 75) (tf 18 36) (fun K hK => ?_)
          refine gS Try.func58 #[.agg #[.bool ((rd_T69 l0 x9_3).f0), .slice A115_1 ((rd_T69 l0 x9_3).f1).length c115_1, .slice A115_2 ((rd_T69 l0 x9_3).f2).length c115_2], .agg #[.bool ((rd_T69 l0 x7_1).f0), .slice A114_1 ((rd_T69 l0 x7_1).f1).length c114_1, .slice A114_2 ((rd_T69 l0 x7_1).f2).length c114_2]] ?_
          with_reducible refine (ratio_R_Cmp.calls k3 ((rd_T69 l0 x9_3).f0) _ _ ((rd_T69 l0 x9_3).f1) _ _ ((rd_T69 l0 x9_3).f2) ((rd_T69 l0 x7_1).f0) _ _ ((rd_T69 l0 x7_1).f1) _ _ ((rd_T69 l0 x7_1).f2) t119 _ ?_ ?_ ?_ ?_ ?_ ?_ ?_ ?_ A39.out).mono ?_
          exact Kd.C_below HR117_1.out (bup HB.out)
          exact HC117_1.out
          exact Kd.C_below HR117_2.out (bup HB.out)
          exact HC117_2.out
          exact Kd.C_below HR118_1.out (bup HB.out)
          exact HC118_1.out
          exact Kd.C_below HR118_2.out (bup HB.out)
          exact HC118_2.out
          rintro e w62 ⟨rfl, hb⟩
          refine ⟨_, rfl, ?_⟩
          replace HO_111001 := vA HO_111001 hb
          replace HO_111002 := vA HO_111002 hb
          replace BK110 := kA BK110 hb
          replace HB := bS HB hb
          clear hb
          refine hK.out _ _ ⟨((HB.out.cell (World.block_lt_of_cell? w _ hw114_0)).trans hw114_0), ((HB.out.cell (World.block_lt_of_cell? w _ hw114_1)).trans hw114_1), ((HB.out.cell (World.block_lt_of_cell? w _ hw114_2)).trans hw114_2), ((HB.out.cell (World.block_lt_of_cell? w _ hw115_0)).trans hw115_0), ((HB.out.cell (World.block_lt_of_cell? w _ hw115_1)).trans hw115_1), ((HB.out.cell (World.block_lt_of_cell? w _ hw115_2)).trans hw115_2), ((HB.out.cell (World.block_lt_of_cell? w _ hw117_0)).trans hw117_0), ((HB.out.cell (World.block_lt_of_cell? w _ hw117_1)).trans hw117_1), ((HB.out.cell (World.block_lt_of_cell? w _ hw117_2)).trans hw117_2), ((HB.out.cell (World.block_lt_of_cell? w _ hw118_0)).trans hw118_0), ((HB.out.cell (World.block_lt_of_cell? w _ hw118_1)).trans hw118_1), ((HB.out.cell (World.block_lt_of_cell? w _ hw118_2)).trans hw118_2), ((HB.out.cell (World.block_lt_of_cell? w _ hw120_0)).trans hw120_0), ((HB.out.cell (World.block_lt_of_cell? w _ hw120_1)).trans hw120_1), ((HB.out.cell (World.block_lt_of_cell? w _ hw120_2)).trans hw120_2), ((HB.out.cell (World.block_lt_of_cell? w _ hw121_0)).trans hw121_0), ((HB.out.cell (World.block_lt_of_cell? w _ hw121_1)).trans hw121_1), ((HB.out.cell (World.block_lt_of_cell? w _ hw121_2)).trans hw121_2), ((HB.out.cell (World.block_lt_of_cell? w _ hw123_0)).trans hw123_0), ((HB.out.cell (World.block_lt_of_cell? w _ hw123_1)).trans hw123_1), ((HB.out.cell (World.block_lt_of_cell? w _ hw123_2)).trans hw123_2), ((HB.out.cell (World.block_lt_of_cell? w _ hw124_0)).trans hw124_0), ((HB.out.cell (World.block_lt_of_cell? w _ hw124_1)).trans hw124_1), ((HB.out.cell (World.block_lt_of_cell? w _ hw124_2)).trans hw124_2)⟩ (fun hHeld => nm ?_)
          clear hK K
          refine pu 18 76 (tf 19 35) ?_
          refine pu 19 77 (tf 20 34) ?_
          refine pu 20 78 (tf 21 33) ?_
          refine pu 21 79 (tf 22 32) ?_
          refine pu 22 80 (tf 23 31) ?_
          refine pu 23 81 (tf 24 30) ?_
          refine pu 25 83 #[true, true, true, true, true, true, true, true, true, true, true, true, true, true, true, true, true, true, true, true, true, true, true, true, false, true, false, false, false, false, false, false, false, false, false, false, false, false, false, false, false, false, false, false, false, false, false, false, false, false, false, false, false, false] ?_
          refine pu 26 84 #[true, true, true, true, true, true, true, true, true, true, true, true, true, true, true, true, true, true, true, true, true, true, true, true, false, true, true, false, false, false, false, false, false, false, false, false, false, false, false, false, false, false, false, false, false, false, false, false, false, false, false, false, false, false] ?_
          refine pu 27 85 #[true, true, true, true, true, true, true, true, true, true, true, true, true, true, true, true, true, true, true, true, true, true, true, true, false, true, true, true, false, false, false, false, false, false, false, false, false, false, false, false, false, false, false, false, false, false, false, false, false, false, false, false, false, false] ?_
          refine tk 24 82 (tf 28 26) hHeld ?_
          refine tk 28 86 (tf 29 25) hHeld ?_
          refine on 29 (some 87) (tf 30 24) (fun K hK => ?_)
          refine gS Try.func58 #[.agg #[.bool ((rd_T69 l0 x7_1).f0), .slice A114_1 ((rd_T69 l0 x7_1).f1).length c114_1, .slice A114_2 ((rd_T69 l0 x7_1).f2).length c114_2], .agg #[.bool ((rd_T69 l0 x9_3).f0), .slice A115_1 ((rd_T69 l0 x9_3).f1).length c115_1, .slice A115_2 ((rd_T69 l0 x9_3).f2).length c115_2]] ?_
          with_reducible refine (ratio_R_Cmp.calls k3 ((rd_T69 l0 x7_1).f0) _ _ ((rd_T69 l0 x7_1).f1) _ _ ((rd_T69 l0 x7_1).f2) ((rd_T69 l0 x9_3).f0) _ _ ((rd_T69 l0 x9_3).f1) _ _ ((rd_T69 l0 x9_3).f2) t122 _ ?_ ?_ ?_ ?_ ?_ ?_ ?_ ?_ A41.out).mono ?_
          exact Kd.C_below HR114_1.out (bup HB.out)
          exact HC114_1.out
          exact Kd.C_below HR114_2.out (bup HB.out)
          exact HC114_2.out
          exact Kd.C_below HR115_1.out (bup HB.out)
          exact HC115_1.out
          exact Kd.C_below HR115_2.out (bup HB.out)
          exact HC115_2.out
          rintro e w63 ⟨rfl, hb⟩
          refine ⟨_, rfl, ?_⟩
          replace HO_111001 := vA HO_111001 hb
          replace HO_111002 := vA HO_111002 hb
          replace BK110 := kA BK110 hb
          replace HB := bS HB hb
          clear hb
          refine hK.out _ _ ⟨((HB.out.cell (World.block_lt_of_cell? w _ hw114_0)).trans hw114_0), ((HB.out.cell (World.block_lt_of_cell? w _ hw114_1)).trans hw114_1), ((HB.out.cell (World.block_lt_of_cell? w _ hw114_2)).trans hw114_2), ((HB.out.cell (World.block_lt_of_cell? w _ hw115_0)).trans hw115_0), ((HB.out.cell (World.block_lt_of_cell? w _ hw115_1)).trans hw115_1), ((HB.out.cell (World.block_lt_of_cell? w _ hw115_2)).trans hw115_2), ((HB.out.cell (World.block_lt_of_cell? w _ hw117_0)).trans hw117_0), ((HB.out.cell (World.block_lt_of_cell? w _ hw117_1)).trans hw117_1), ((HB.out.cell (World.block_lt_of_cell? w _ hw117_2)).trans hw117_2), ((HB.out.cell (World.block_lt_of_cell? w _ hw118_0)).trans hw118_0), ((HB.out.cell (World.block_lt_of_cell? w _ hw118_1)).trans hw118_1), ((HB.out.cell (World.block_lt_of_cell? w _ hw118_2)).trans hw118_2), ((HB.out.cell (World.block_lt_of_cell? w _ hw120_0)).trans hw120_0), ((HB.out.cell (World.block_lt_of_cell? w _ hw120_1)).trans hw120_1), ((HB.out.cell (World.block_lt_of_cell? w _ hw120_2)).trans hw120_2), ((HB.out.cell (World.block_lt_of_cell? w _ hw121_0)).trans hw121_0), ((HB.out.cell (World.block_lt_of_cell? w _ hw121_1)).trans hw121_1), ((HB.out.cell (World.block_lt_of_cell? w _ hw121_2)).trans hw121_2), ((HB.out.cell (World.block_lt_of_cell? w _ hw123_0)).trans hw123_0), ((HB.out.cell (World.block_lt_of_cell? w _ hw123_1)).trans hw123_1), ((HB.out.cell (World.block_lt_of_cell? w _ hw123_2)).trans hw123_2), ((HB.out.cell (World.block_lt_of_cell? w _ hw124_0)).trans hw124_0), ((HB.out.cell (World.block_lt_of_cell? w _ hw124_1)).trans hw124_1), ((HB.out.cell (World.block_lt_of_cell? w _ hw124_2)).trans hw124_2)⟩ (fun hHeld => nm ?_)
          clear hK K
          refine pu 30 88 (tf 31 23) ?_
          refine pu 31 89 (tf 32 22) ?_
          refine pu 32 90 (tf 33 21) ?_
          refine pu 33 91 (tf 34 20) ?_
          refine pu 35 93 #[true, true, true, true, true, true, true, true, true, true, true, true, true, true, true, true, true, true, true, true, true, true, true, true, true, true, true, true, true, true, true, true, true, true, false, true, false, false, false, false, false, false, false, false, false, false, false, false, false, false, false, false, false, false] ?_
          refine pu 36 94 #[true, true, true, true, true, true, true, true, true, true, true, true, true, true, true, true, true, true, true, true, true, true, true, true, true, true, true, true, true, true, true, true, true, true, false, true, true, false, false, false, false, false, false, false, false, false, false, false, false, false, false, false, false, false] ?_
          refine pu 37 95 #[true, true, true, true, true, true, true, true, true, true, true, true, true, true, true, true, true, true, true, true, true, true, true, true, true, true, true, true, true, true, true, true, true, true, false, true, true, true, false, false, false, false, false, false, false, false, false, false, false, false, false, false, false, false] ?_
          refine tk 34 92 (tf 38 16) hHeld ?_
          refine tk 38 96 (tf 39 15) hHeld ?_
          refine on 39 (some 97) (tf 40 14) (fun K hK => ?_)
          refine gS Try.func58 #[.agg #[.bool ((rd_T69 l0 0).f0), .slice A123_1 ((rd_T69 l0 0).f1).length c123_1, .slice A123_2 ((rd_T69 l0 0).f2).length c123_2], .agg #[.bool ((rd_T69 l0 x7_1).f0), .slice A114_1 ((rd_T69 l0 x7_1).f1).length c114_1, .slice A114_2 ((rd_T69 l0 x7_1).f2).length c114_2]] ?_
          with_reducible refine (ratio_R_Cmp.calls k3 ((rd_T69 l0 0).f0) _ _ ((rd_T69 l0 0).f1) _ _ ((rd_T69 l0 0).f2) ((rd_T69 l0 x7_1).f0) _ _ ((rd_T69 l0 x7_1).f1) _ _ ((rd_T69 l0 x7_1).f2) t125 _ ?_ ?_ ?_ ?_ ?_ ?_ ?_ ?_ A44.out).mono ?_
          exact Kd.C_below HR123_1.out (bup HB.out)
          exact HC123_1.out
          exact Kd.C_below HR123_2.out (bup HB.out)
          exact HC123_2.out
          exact Kd.C_below HR114_1.out (bup HB.out)
          exact HC114_1.out
          exact Kd.C_below HR114_2.out (bup HB.out)
          exact HC114_2.out
          rintro e w64 ⟨rfl, hb⟩
          refine ⟨_, rfl, ?_⟩
          replace HO_111001 := vA HO_111001 hb
          replace HO_111002 := vA HO_111002 hb
          replace BK110 := kA BK110 hb
          replace HB := bS HB hb
          clear hb
          refine hK.out _ _ ⟨((HB.out.cell (World.block_lt_of_cell? w _ hw114_0)).trans hw114_0), ((HB.out.cell (World.block_lt_of_cell? w _ hw114_1)).trans hw114_1), ((HB.out.cell (World.block_lt_of_cell? w _ hw114_2)).trans hw114_2), ((HB.out.cell (World.block_lt_of_cell? w _ hw115_0)).trans hw115_0), ((HB.out.cell (World.block_lt_of_cell? w _ hw115_1)).trans hw115_1), ((HB.out.cell (World.block_lt_of_cell? w _ hw115_2)).trans hw115_2), ((HB.out.cell (World.block_lt_of_cell? w _ hw117_0)).trans hw117_0), ((HB.out.cell (World.block_lt_of_cell? w _ hw117_1)).trans hw117_1), ((HB.out.cell (World.block_lt_of_cell? w _ hw117_2)).trans hw117_2), ((HB.out.cell (World.block_lt_of_cell? w _ hw118_0)).trans hw118_0), ((HB.out.cell (World.block_lt_of_cell? w _ hw118_1)).trans hw118_1), ((HB.out.cell (World.block_lt_of_cell? w _ hw118_2)).trans hw118_2), ((HB.out.cell (World.block_lt_of_cell? w _ hw120_0)).trans hw120_0), ((HB.out.cell (World.block_lt_of_cell? w _ hw120_1)).trans hw120_1), ((HB.out.cell (World.block_lt_of_cell? w _ hw120_2)).trans hw120_2), ((HB.out.cell (World.block_lt_of_cell? w _ hw121_0)).trans hw121_0), ((HB.out.cell (World.block_lt_of_cell? w _ hw121_1)).trans hw121_1), ((HB.out.cell (World.block_lt_of_cell? w _ hw121_2)).trans hw121_2), ((HB.out.cell (World.block_lt_of_cell? w _ hw123_0)).trans hw123_0), ((HB.out.cell (World.block_lt_of_cell? w _ hw123_1)).trans hw123_1), ((HB.out.cell (World.block_lt_of_cell? w _ hw123_2)).trans hw123_2), ((HB.out.cell (World.block_lt_of_cell? w _ hw124_0)).trans hw124_0), ((HB.out.cell (World.block_lt_of_cell? w _ hw124_1)).trans hw124_1), ((HB.out.cell (World.block_lt_of_cell? w _ hw124_2)).trans hw124_2)⟩ (fun hHeld => nm ?_)
          clear hK K
          refine pu 40 98 (tf 41 13) ?_
          refine pu 41 99 (tf 42 12) ?_
          refine pu 42 100 (tf 43 11) ?_
          refine pure_ (i := 43) (N := some 101) (v := undef) (a' := ?_) (tf 44 10) rfl rfl (any_of HT_.out (by kernel_rfl)) (fun _ _ _ h => h) (Or.inr ⟨by rfl, rfl⟩) ?_ ?_
          rotate_left
          ·simp only [Act.put, List.setIfInBounds_toArray, List.set_cons_zero, List.set_cons_succ, i64_w, i32_w]
           rfl
          refine pure_ (i := 44) (N := some 102) (v := undef) (a' := ?_) (tf 45 9) rfl rfl (any_of HT_.out (by kernel_rfl)) (fun _ _ _ h => h) (Or.inr ⟨by rfl, rfl⟩) ?_ ?_
          rotate_left
          ·simp only [Act.put, List.setIfInBounds_toArray, List.set_cons_zero, List.set_cons_succ, i64_w, i32_w]
           rfl
          refine pure_ (i := 45) (N := some 103) (v := undef) (a' := ?_) (tf 46 8) rfl rfl (any_of HT_.out (by kernel_rfl)) (fun _ _ _ h => h) (Or.inr ⟨by rfl, rfl⟩) ?_ ?_
          rotate_left
          ·simp only [Act.put, List.setIfInBounds_toArray, List.set_cons_zero, List.set_cons_succ, i64_w, i32_w]
           rfl
          refine pure_ (i := 46) (N := some 104) (v := undef) (a' := ?_) (tf 47 7) rfl rfl (any_of HT_.out (by kernel_rfl)) (fun _ _ _ h => h) (Or.inr ⟨by rfl, rfl⟩) ?_ ?_
          rotate_left
          ·simp only [Act.put, List.setIfInBounds_toArray, List.set_cons_zero, List.set_cons_succ, i64_w, i32_w]
           rfl
          refine pure_ (i := 47) (N := some 105) (v := undef) (a' := ?_) (tf 48 6) rfl rfl (any_of HT_.out (by kernel_rfl)) (fun _ _ _ h => h) (Or.inr ⟨by rfl, rfl⟩) ?_ ?_
          rotate_left
          ·simp only [Act.put, List.setIfInBounds_toArray, List.set_cons_zero, List.set_cons_succ, i64_w, i32_w]
           rfl
          refine pure_ (i := 48) (N := some 106) (v := undef) (a' := ?_) (tf 49 5) rfl rfl (any_of HT_.out (by kernel_rfl)) (fun _ _ _ h => h) (Or.inr ⟨by rfl, rfl⟩) ?_ ?_
          rotate_left
          ·simp only [Act.put, List.setIfInBounds_toArray, List.set_cons_zero, List.set_cons_succ, i64_w, i32_w]
           rfl
          refine pure_ (i := 49) (N := some 107) (v := undef) (a' := ?_) (tf 50 4) rfl rfl (any_of HT_.out (by kernel_rfl)) (fun _ _ _ h => h) (Or.inr ⟨by rfl, rfl⟩) ?_ ?_
          rotate_left
          ·simp only [Act.put, List.setIfInBounds_toArray, List.set_cons_zero, List.set_cons_succ, i64_w, i32_w]
           rfl
          refine pure_ (i := 50) (N := some 108) (v := undef) (a' := ?_) (tf 51 3) rfl rfl (any_of HT_.out (by kernel_rfl)) (fun _ _ _ h => h) (Or.inr ⟨by rfl, rfl⟩) ?_ ?_
          rotate_left
          ·simp only [Act.put, List.setIfInBounds_toArray, List.set_cons_zero, List.set_cons_succ, i64_w, i32_w]
           rfl
          refine pure_ (i := 51) (N := some 109) (v := undef) (a' := ?_) (tf 52 2) rfl rfl (any_of HT_.out (by kernel_rfl)) (fun _ _ _ h => h) (Or.inr ⟨by rfl, rfl⟩) ?_ ?_
          rotate_left
          ·simp only [Act.put, List.setIfInBounds_toArray, List.set_cons_zero, List.set_cons_succ, i64_w, i32_w]
           rfl
          refine pu 52 110 (tf 53 1) ?_
          refine pu 53 111 (tf 54 0) ?_
          refine done_ (done_of HT_.out (by kernel_rfl)) ?_
          try go_wp2
          go_roundg k3
          case measure => have := HK1.out; have := HJ29.out; have := HK3.out; omega
          case rel => exact ⟨(wrap64 (x9_3 + 1)), rS, H', ⟨by have := HK1.out; have := HJ29.out; have := HK3.out; omega⟩, ⟨vup HO_111001.out⟩, ⟨vup HO_111002.out⟩, ⟨by exact kU BK110⟩, ⟨hB⟩⟩
         rw [if_pos c45] at H
         have c45b0 : decide (t125 < 0) = true := decide_eq_true c45
         clear c45
         replace H := bi H
         obtain ⟨t128, A46, H⟩ := H
         by_cases c47 : t128 ≥ 0
         ·rw [if_pos c47] at H
          have c47b0 : decide (0 ≤ t128) = true := decide_eq_true c47
          clear c47
          obtain rfl := Option.some.inj H
          try go_wp2
          replace HO_111001 := Aside0.mk (Kd.V_drew HO_111001.out)
          replace HO_111002 := Aside0.mk (Kd.V_drew HO_111002.out)
          replace BK110 := kd BK110
          replace HB := bd HB
          have p114 : 0 ≤ (x7_1 : Int) := of_decide_eq_true asm
          have q114 : x7_1 < (l0.length : Int) := of_decide_eq_true asm
          obtain ⟨ad114, A114_1, c114_1, A114_2, c114_2, e114, hx114_0, hx114_1, hx114_2, hl114_1, hi114_1, hl114_2, hi114_2⟩ := at_T69 HR0.out x7_1 p114 q114
          have hw114_2 := hx114_2
          have hw114_1 := hx114_1
          have hw114_0 := hx114_0
          obtain rfl : ad112 = ad114 := (by injection e114)
          replace hx114_0 := (HB.out.cell (World.block_lt_of_cell? w _ hx114_0)).trans hx114_0
          replace hx114_1 := (HB.out.cell (World.block_lt_of_cell? w _ hx114_1)).trans hx114_1
          replace hx114_2 := (HB.out.cell (World.block_lt_of_cell? w _ hx114_2)).trans hx114_2
          have HR114_1 := Aside0.mk hi114_1
          have HC114_1 := Aside0.mk hl114_1
          clear hi114_1 hl114_1
          have HR114_2 := Aside0.mk hi114_2
          have HC114_2 := Aside0.mk hl114_2
          clear hi114_2 hl114_2
          replace p114 := eq_true p114
          replace q114 := eq_true q114
          have p115 : 0 ≤ (x9_3 : Int) := of_decide_eq_true asm
          have q115 : x9_3 < (l0.length : Int) := of_decide_eq_true asm
          obtain ⟨ad115, A115_1, c115_1, A115_2, c115_2, e115, hx115_0, hx115_1, hx115_2, hl115_1, hi115_1, hl115_2, hi115_2⟩ := at_T69 HR0.out x9_3 p115 q115
          have hw115_2 := hx115_2
          have hw115_1 := hx115_1
          have hw115_0 := hx115_0
          obtain rfl : ad112 = ad115 := (by injection e115)
          replace hx115_0 := (HB.out.cell (World.block_lt_of_cell? w _ hx115_0)).trans hx115_0
          replace hx115_1 := (HB.out.cell (World.block_lt_of_cell? w _ hx115_1)).trans hx115_1
          replace hx115_2 := (HB.out.cell (World.block_lt_of_cell? w _ hx115_2)).trans hx115_2
          have HR115_1 := Aside0.mk hi115_1
          have HC115_1 := Aside0.mk hl115_1
          clear hi115_1 hl115_1
          have HR115_2 := Aside0.mk hi115_2
          have HC115_2 := Aside0.mk hl115_2
          clear hi115_2 hl115_2
          replace p115 := eq_true p115
          replace q115 := eq_true q115
          have p117 : 0 ≤ (x9_3 : Int) := of_decide_eq_true asm
          have q117 : x9_3 < (l0.length : Int) := of_decide_eq_true asm
          obtain ⟨ad117, A117_1, c117_1, A117_2, c117_2, e117, hx117_0, hx117_1, hx117_2, hl117_1, hi117_1, hl117_2, hi117_2⟩ := at_T69 HR0.out x9_3 p117 q117
          have hw117_2 := hx117_2
          have hw117_1 := hx117_1
          have hw117_0 := hx117_0
          obtain rfl : ad112 = ad117 := (by injection e117)
          replace hx117_0 := (HB.out.cell (World.block_lt_of_cell? w _ hx117_0)).trans hx117_0
          replace hx117_1 := (HB.out.cell (World.block_lt_of_cell? w _ hx117_1)).trans hx117_1
          replace hx117_2 := (HB.out.cell (World.block_lt_of_cell? w _ hx117_2)).trans hx117_2
          have HR117_1 := Aside0.mk hi117_1
          have HC117_1 := Aside0.mk hl117_1
          clear hi117_1 hl117_1
          have HR117_2 := Aside0.mk hi117_2
          have HC117_2 := Aside0.mk hl117_2
          clear hi117_2 hl117_2
          replace p117 := eq_true p117
          replace q117 := eq_true q117
          have ea_ := Option.some.inj (hx115_1.symm.trans hx117_1)
          injection ea_ with ea_ en_ ec_
          subst ea_
          subst ec_
          clear en_
          have ea_ := Option.some.inj (hx115_2.symm.trans hx117_2)
          injection ea_ with ea_ en_ ec_
          subst ea_
          subst ec_
          clear en_
          have p118 : 0 ≤ (x7_1 : Int) := of_decide_eq_true asm
          have q118 : x7_1 < (l0.length : Int) := of_decide_eq_true asm
          obtain ⟨ad118, A118_1, c118_1, A118_2, c118_2, e118, hx118_0, hx118_1, hx118_2, hl118_1, hi118_1, hl118_2, hi118_2⟩ := at_T69 HR0.out x7_1 p118 q118
          have hw118_2 := hx118_2
          have hw118_1 := hx118_1
          have hw118_0 := hx118_0
          obtain rfl : ad112 = ad118 := (by injection e118)
          replace hx118_0 := (HB.out.cell (World.block_lt_of_cell? w _ hx118_0)).trans hx118_0
          replace hx118_1 := (HB.out.cell (World.block_lt_of_cell? w _ hx118_1)).trans hx118_1
          replace hx118_2 := (HB.out.cell (World.block_lt_of_cell? w _ hx118_2)).trans hx118_2
          have HR118_1 := Aside0.mk hi118_1
          have HC118_1 := Aside0.mk hl118_1
          clear hi118_1 hl118_1
          have HR118_2 := Aside0.mk hi118_2
          have HC118_2 := Aside0.mk hl118_2
          clear hi118_2 hl118_2
          replace p118 := eq_true p118
          replace q118 := eq_true q118
          have ea_ := Option.some.inj (hx114_1.symm.trans hx118_1)
          injection ea_ with ea_ en_ ec_
          subst ea_
          subst ec_
          clear en_
          have ea_ := Option.some.inj (hx114_2.symm.trans hx118_2)
          injection ea_ with ea_ en_ ec_
          subst ea_
          subst ec_
          clear en_
          have p120 : 0 ≤ (x7_1 : Int) := of_decide_eq_true asm
          have q120 : x7_1 < (l0.length : Int) := of_decide_eq_true asm
          obtain ⟨ad120, A120_1, c120_1, A120_2, c120_2, e120, hx120_0, hx120_1, hx120_2, hl120_1, hi120_1, hl120_2, hi120_2⟩ := at_T69 HR0.out x7_1 p120 q120
          have hw120_2 := hx120_2
          have hw120_1 := hx120_1
          have hw120_0 := hx120_0
          obtain rfl : ad112 = ad120 := (by injection e120)
          replace hx120_0 := (HB.out.cell (World.block_lt_of_cell? w _ hx120_0)).trans hx120_0
          replace hx120_1 := (HB.out.cell (World.block_lt_of_cell? w _ hx120_1)).trans hx120_1
          replace hx120_2 := (HB.out.cell (World.block_lt_of_cell? w _ hx120_2)).trans hx120_2
          have HR120_1 := Aside0.mk hi120_1
          have HC120_1 := Aside0.mk hl120_1
          clear hi120_1 hl120_1
          have HR120_2 := Aside0.mk hi120_2
          have HC120_2 := Aside0.mk hl120_2
          clear hi120_2 hl120_2
          replace p120 := eq_true p120
          replace q120 := eq_true q120
          have p121 : 0 ≤ (x9_3 : Int) := of_decide_eq_true asm
          have q121 : x9_3 < (l0.length : Int) := of_decide_eq_true asm
          obtain ⟨ad121, A121_1, c121_1, A121_2, c121_2, e121, hx121_0, hx121_1, hx121_2, hl121_1, hi121_1, hl121_2, hi121_2⟩ := at_T69 HR0.out x9_3 p121 q121
          have hw121_2 := hx121_2
          have hw121_1 := hx121_1
          have hw121_0 := hx121_0
          obtain rfl : ad112 = ad121 := (by injection e121)
          replace hx121_0 := (HB.out.cell (World.block_lt_of_cell? w _ hx121_0)).trans hx121_0
          replace hx121_1 := (HB.out.cell (World.block_lt_of_cell? w _ hx121_1)).trans hx121_1
          replace hx121_2 := (HB.out.cell (World.block_lt_of_cell? w _ hx121_2)).trans hx121_2
          have HR121_1 := Aside0.mk hi121_1
          have HC121_1 := Aside0.mk hl121_1
          clear hi121_1 hl121_1
          have HR121_2 := Aside0.mk hi121_2
          have HC121_2 := Aside0.mk hl121_2
          clear hi121_2 hl121_2
          replace p121 := eq_true p121
          replace q121 := eq_true q121
          have p123 : 0 ≤ (0 : Int) := (by omega)
          have q123 : 0 < (l0.length : Int) := of_decide_eq_true asm
          obtain ⟨ad123, A123_1, c123_1, A123_2, c123_2, e123, hx123_0, hx123_1, hx123_2, hl123_1, hi123_1, hl123_2, hi123_2⟩ := at_T69 HR0.out 0 p123 q123
          have hw123_2 := hx123_2
          (try rw [show ((0 : Int)).toNat = 0 from rfl] at hw123_2)
          (try rw [show 0 * 3 = 0 from rfl] at hw123_2)
          (try rw [Addr.add_zero'] at hw123_2)
          have hw123_1 := hx123_1
          (try rw [show ((0 : Int)).toNat = 0 from rfl] at hw123_1)
          (try rw [show 0 * 3 = 0 from rfl] at hw123_1)
          (try rw [Addr.add_zero'] at hw123_1)
          have hw123_0 := hx123_0
          (try rw [show ((0 : Int)).toNat = 0 from rfl] at hw123_0)
          (try rw [show 0 * 3 = 0 from rfl] at hw123_0)
          (try rw [Addr.add_zero'] at hw123_0)
          obtain rfl : ad112 = ad123 := (by injection e123)
          have qi123 : (0 < l0.length) = True := eq_true (by omega)
          (try rw [show ((0 : Int)).toNat = 0 from rfl] at hx123_0)
          (try rw [show 0 * 3 = 0 from rfl] at hx123_0)
          (try rw [Addr.add_zero'] at hx123_0)
          (try rw [show ((0 : Int)).toNat = 0 from rfl] at hx123_1)
          (try rw [show 0 * 3 = 0 from rfl] at hx123_1)
          (try rw [Addr.add_zero'] at hx123_1)
          (try rw [show ((0 : Int)).toNat = 0 from rfl] at hx123_2)
          (try rw [show 0 * 3 = 0 from rfl] at hx123_2)
          (try rw [Addr.add_zero'] at hx123_2)
          replace hx123_0 := (HB.out.cell (World.block_lt_of_cell? w _ hx123_0)).trans hx123_0
          replace hx123_1 := (HB.out.cell (World.block_lt_of_cell? w _ hx123_1)).trans hx123_1
          replace hx123_2 := (HB.out.cell (World.block_lt_of_cell? w _ hx123_2)).trans hx123_2
          have HR123_1 := Aside0.mk hi123_1
          have HC123_1 := Aside0.mk hl123_1
          clear hi123_1 hl123_1
          have HR123_2 := Aside0.mk hi123_2
          have HC123_2 := Aside0.mk hl123_2
          clear hi123_2 hl123_2
          replace p123 := eq_true p123
          replace q123 := eq_true q123
          have p124 : 0 ≤ (x7_1 : Int) := of_decide_eq_true asm
          have q124 : x7_1 < (l0.length : Int) := of_decide_eq_true asm
          obtain ⟨ad124, A124_1, c124_1, A124_2, c124_2, e124, hx124_0, hx124_1, hx124_2, hl124_1, hi124_1, hl124_2, hi124_2⟩ := at_T69 HR0.out x7_1 p124 q124
          have hw124_2 := hx124_2
          have hw124_1 := hx124_1
          have hw124_0 := hx124_0
          obtain rfl : ad112 = ad124 := (by injection e124)
          replace hx124_0 := (HB.out.cell (World.block_lt_of_cell? w _ hx124_0)).trans hx124_0
          replace hx124_1 := (HB.out.cell (World.block_lt_of_cell? w _ hx124_1)).trans hx124_1
          replace hx124_2 := (HB.out.cell (World.block_lt_of_cell? w _ hx124_2)).trans hx124_2
          have HR124_1 := Aside0.mk hi124_1
          have HC124_1 := Aside0.mk hl124_1
          clear hi124_1 hl124_1
          have HR124_2 := Aside0.mk hi124_2
          have HC124_2 := Aside0.mk hl124_2
          clear hi124_2 hl124_2
          replace p124 := eq_true p124
          replace q124 := eq_true q124
          have p126 : 0 ≤ (0 : Int) := (by omega)
          have q126 : 0 < (l0.length : Int) := of_decide_eq_true asm
          obtain ⟨ad126, A126_1, c126_1, A126_2, c126_2, e126, hx126_0, hx126_1, hx126_2, hl126_1, hi126_1, hl126_2, hi126_2⟩ := at_T69 HR0.out 0 p126 q126
          have hw126_2 := hx126_2
          (try rw [show ((0 : Int)).toNat = 0 from rfl] at hw126_2)
          (try rw [show 0 * 3 = 0 from rfl] at hw126_2)
          (try rw [Addr.add_zero'] at hw126_2)
          have hw126_1 := hx126_1
          (try rw [show ((0 : Int)).toNat = 0 from rfl] at hw126_1)
          (try rw [show 0 * 3 = 0 from rfl] at hw126_1)
          (try rw [Addr.add_zero'] at hw126_1)
          have hw126_0 := hx126_0
          (try rw [show ((0 : Int)).toNat = 0 from rfl] at hw126_0)
          (try rw [show 0 * 3 = 0 from rfl] at hw126_0)
          (try rw [Addr.add_zero'] at hw126_0)
          obtain rfl : ad112 = ad126 := (by injection e126)
          have qi126 : (0 < l0.length) = True := eq_true (by omega)
          (try rw [show ((0 : Int)).toNat = 0 from rfl] at hx126_0)
          (try rw [show 0 * 3 = 0 from rfl] at hx126_0)
          (try rw [Addr.add_zero'] at hx126_0)
          (try rw [show ((0 : Int)).toNat = 0 from rfl] at hx126_1)
          (try rw [show 0 * 3 = 0 from rfl] at hx126_1)
          (try rw [Addr.add_zero'] at hx126_1)
          (try rw [show ((0 : Int)).toNat = 0 from rfl] at hx126_2)
          (try rw [show 0 * 3 = 0 from rfl] at hx126_2)
          (try rw [Addr.add_zero'] at hx126_2)
          replace hx126_0 := (HB.out.cell (World.block_lt_of_cell? w _ hx126_0)).trans hx126_0
          replace hx126_1 := (HB.out.cell (World.block_lt_of_cell? w _ hx126_1)).trans hx126_1
          replace hx126_2 := (HB.out.cell (World.block_lt_of_cell? w _ hx126_2)).trans hx126_2
          have HR126_1 := Aside0.mk hi126_1
          have HC126_1 := Aside0.mk hl126_1
          clear hi126_1 hl126_1
          have HR126_2 := Aside0.mk hi126_2
          have HC126_2 := Aside0.mk hl126_2
          clear hi126_2 hl126_2
          replace p126 := eq_true p126
          replace q126 := eq_true q126
          have p127 : 0 ≤ (x9_3 : Int) := of_decide_eq_true asm
          have q127 : x9_3 < (l0.length : Int) := of_decide_eq_true asm
          obtain ⟨ad127, A127_1, c127_1, A127_2, c127_2, e127, hx127_0, hx127_1, hx127_2, hl127_1, hi127_1, hl127_2, hi127_2⟩ := at_T69 HR0.out x9_3 p127 q127
          have hw127_2 := hx127_2
          have hw127_1 := hx127_1
          have hw127_0 := hx127_0
          obtain rfl : ad112 = ad127 := (by injection e127)
          replace hx127_0 := (HB.out.cell (World.block_lt_of_cell? w _ hx127_0)).trans hx127_0
          replace hx127_1 := (HB.out.cell (World.block_lt_of_cell? w _ hx127_1)).trans hx127_1
          replace hx127_2 := (HB.out.cell (World.block_lt_of_cell? w _ hx127_2)).trans hx127_2
          have HR127_1 := Aside0.mk hi127_1
          have HC127_1 := Aside0.mk hl127_1
          clear hi127_1 hl127_1
          have HR127_2 := Aside0.mk hi127_2
          have HC127_2 := Aside0.mk hl127_2
          clear hi127_2 hl127_2
          replace p127 := eq_true p127
          replace q127 := eq_true q127
          refine st (S := fun w' => w'.cell? (ad112.add ((x7_1).toNat * 3)) = some (.bool ((rd_T69 l0 x7_1).f0)) ∧ w'.cell? ⟨(ad112.add ((x7_1).toNat * 3)).block, (ad112.add ((x7_1).toNat * 3)).off + 1, none⟩ = some (.slice A114_1 ((rd_T69 l0 x7_1).f1).length c114_1) ∧ w'.cell? ⟨(ad112.add ((x7_1).toNat * 3)).block, (ad112.add ((x7_1).toNat * 3)).off + 2, none⟩ = some (.slice A114_2 ((rd_T69 l0 x7_1).f2).length c114_2) ∧ w'.cell? (ad112.add ((x9_3).toNat * 3)) = some (.bool ((rd_T69 l0 x9_3).f0)) ∧ w'.cell? ⟨(ad112.add ((x9_3).toNat * 3)).block, (ad112.add ((x9_3).toNat * 3)).off + 1, none⟩ = some (.slice A115_1 ((rd_T69 l0 x9_3).f1).length c115_1) ∧ w'.cell? ⟨(ad112.add ((x9_3).toNat * 3)).block, (ad112.add ((x9_3).toNat * 3)).off + 2, none⟩ = some (.slice A115_2 ((rd_T69 l0 x9_3).f2).length c115_2) ∧ w'.cell? (ad112.add ((x9_3).toNat * 3)) = some (.bool ((rd_T69 l0 x9_3).f0)) ∧ w'.cell? ⟨(ad112.add ((x9_3).toNat * 3)).block, (ad112.add ((x9_3).toNat * 3)).off + 1, none⟩ = some (.slice A115_1 ((rd_T69 l0 x9_3).f1).length c115_1) ∧ w'.cell? ⟨(ad112.add ((x9_3).toNat * 3)).block, (ad112.add ((x9_3).toNat * 3)).off + 2, none⟩ = some (.slice A115_2 ((rd_T69 l0 x9_3).f2).length c115_2) ∧ w'.cell? (ad112.add ((x7_1).toNat * 3)) = some (.bool ((rd_T69 l0 x7_1).f0)) ∧ w'.cell? ⟨(ad112.add ((x7_1).toNat * 3)).block, (ad112.add ((x7_1).toNat * 3)).off + 1, none⟩ = some (.slice A114_1 ((rd_T69 l0 x7_1).f1).length c114_1) ∧ w'.cell? ⟨(ad112.add ((x7_1).toNat * 3)).block, (ad112.add ((x7_1).toNat * 3)).off + 2, none⟩ = some (.slice A114_2 ((rd_T69 l0 x7_1).f2).length c114_2) ∧ w'.cell? (ad112.add ((x7_1).toNat * 3)) = some (.bool ((rd_T69 l0 x7_1).f0)) ∧ w'.cell? ⟨(ad112.add ((x7_1).toNat * 3)).block, (ad112.add ((x7_1).toNat * 3)).off + 1, none⟩ = some (.slice A120_1 ((rd_T69 l0 x7_1).f1).length c120_1) ∧ w'.cell? ⟨(ad112.add ((x7_1).toNat * 3)).block, (ad112.add ((x7_1).toNat * 3)).off + 2, none⟩ = some (.slice A120_2 ((rd_T69 l0 x7_1).f2).length c120_2) ∧ w'.cell? (ad112.add ((x9_3).toNat * 3)) = some (.bool ((rd_T69 l0 x9_3).f0)) ∧ w'.cell? ⟨(ad112.add ((x9_3).toNat * 3)).block, (ad112.add ((x9_3).toNat * 3)).off + 1, none⟩ = some (.slice A121_1 ((rd_T69 l0 x9_3).f1).length c121_1) ∧ w'.cell? ⟨(ad112.add ((x9_3).toNat * 3)).block, (ad112.add ((x9_3).toNat * 3)).off + 2, none⟩ = some (.slice A121_2 ((rd_T69 l0 x9_3).f2).length c121_2) ∧ w'.cell? ad112 = some (.bool ((rd_T69 l0 0).f0)) ∧ w'.cell? ⟨ad112.block, ad112.off + 1, none⟩ = some (.slice A123_1 ((rd_T69 l0 0).f1).length c123_1) ∧ w'.cell? ⟨ad112.block, ad112.off + 2, none⟩ = some (.slice A123_2 ((rd_T69 l0 0).f2).length c123_2) ∧ w'.cell? (ad112.add ((x7_1).toNat * 3)) = some (.bool ((rd_T69 l0 x7_1).f0)) ∧ w'.cell? ⟨(ad112.add ((x7_1).toNat * 3)).block, (ad112.add ((x7_1).toNat * 3)).off + 1, none⟩ = some (.slice A124_1 ((rd_T69 l0 x7_1).f1).length c124_1) ∧ w'.cell? ⟨(ad112.add ((x7_1).toNat * 3)).block, (ad112.add ((x7_1).toNat * 3)).off + 2, none⟩ = some (.slice A124_2 ((rd_T69 l0 x7_1).f2).length c124_2) ∧ w'.cell? ad112 = some (.bool ((rd_T69 l0 0).f0)) ∧ w'.cell? ⟨ad112.block, ad112.off + 1, none⟩ = some (.slice A126_1 ((rd_T69 l0 0).f1).length c126_1) ∧ w'.cell? ⟨ad112.block, ad112.off + 2, none⟩ = some (.slice A126_2 ((rd_T69 l0 0).f2).length c126_2) ∧ w'.cell? (ad112.add ((x9_3).toNat * 3)) = some (.bool ((rd_T69 l0 x9_3).f0)) ∧ w'.cell? ⟨(ad112.add ((x9_3).toNat * 3)).block, (ad112.add ((x9_3).toNat * 3)).off + 1, none⟩ = some (.slice A127_1 ((rd_T69 l0 x9_3).f1).length c127_1) ∧ w'.cell? ⟨(ad112.add ((x9_3).toNat * 3)).block, (ad112.add ((x9_3).toNat * 3)).off + 2, none⟩ = some (.slice A127_2 ((rd_T69 l0 x9_3).f2).length c127_2)) 54 [] (tf 0 54) ⟨((HB.out.cell (World.block_lt_of_cell? w _ hw114_0)).trans hw114_0), ((HB.out.cell (World.block_lt_of_cell? w _ hw114_1)).trans hw114_1), ((HB.out.cell (World.block_lt_of_cell? w _ hw114_2)).trans hw114_2), ((HB.out.cell (World.block_lt_of_cell? w _ hw115_0)).trans hw115_0), ((HB.out.cell (World.block_lt_of_cell? w _ hw115_1)).trans hw115_1), ((HB.out.cell (World.block_lt_of_cell? w _ hw115_2)).trans hw115_2), ((HB.out.cell (World.block_lt_of_cell? w _ hw117_0)).trans hw117_0), ((HB.out.cell (World.block_lt_of_cell? w _ hw117_1)).trans hw117_1), ((HB.out.cell (World.block_lt_of_cell? w _ hw117_2)).trans hw117_2), ((HB.out.cell (World.block_lt_of_cell? w _ hw118_0)).trans hw118_0), ((HB.out.cell (World.block_lt_of_cell? w _ hw118_1)).trans hw118_1), ((HB.out.cell (World.block_lt_of_cell? w _ hw118_2)).trans hw118_2), ((HB.out.cell (World.block_lt_of_cell? w _ hw120_0)).trans hw120_0), ((HB.out.cell (World.block_lt_of_cell? w _ hw120_1)).trans hw120_1), ((HB.out.cell (World.block_lt_of_cell? w _ hw120_2)).trans hw120_2), ((HB.out.cell (World.block_lt_of_cell? w _ hw121_0)).trans hw121_0), ((HB.out.cell (World.block_lt_of_cell? w _ hw121_1)).trans hw121_1), ((HB.out.cell (World.block_lt_of_cell? w _ hw121_2)).trans hw121_2), ((HB.out.cell (World.block_lt_of_cell? w _ hw123_0)).trans hw123_0), ((HB.out.cell (World.block_lt_of_cell? w _ hw123_1)).trans hw123_1), ((HB.out.cell (World.block_lt_of_cell? w _ hw123_2)).trans hw123_2), ((HB.out.cell (World.block_lt_of_cell? w _ hw124_0)).trans hw124_0), ((HB.out.cell (World.block_lt_of_cell? w _ hw124_1)).trans hw124_1), ((HB.out.cell (World.block_lt_of_cell? w _ hw124_2)).trans hw124_2), ((HB.out.cell (World.block_lt_of_cell? w _ hw126_0)).trans hw126_0), ((HB.out.cell (World.block_lt_of_cell? w _ hw126_1)).trans hw126_1), ((HB.out.cell (World.block_lt_of_cell? w _ hw126_2)).trans hw126_2), ((HB.out.cell (World.block_lt_of_cell? w _ hw127_0)).trans hw127_0), ((HB.out.cell (World.block_lt_of_cell? w _ hw127_1)).trans hw127_1), ((HB.out.cell (World.block_lt_of_cell? w _ hw127_2)).trans hw127_2)⟩ (fun hHeld => ?_); refine with_tabW flyballlaw03_RatioMost.tab23 flyballlaw03_RatioMost.bits23 (fun HT_ HW_ => ?_)
          generalize wr.drew = w48 at HO_111001 HO_111002 BK110 HB HR114_1 HR114_2 HR115_1 HR115_2 HR117_1 HR117_2 HR118_1 HR118_2 HR120_1 HR120_2 HR121_1 HR121_2 HR123_1 HR123_2 HR124_1 HR124_2 HR126_1 HR126_2 HR127_1 HR127_2 hx114_0 hx114_1 hx114_2 hx115_0 hx115_1 hx115_2 hx117_0 hx117_1 hx117_2 hx118_0 hx118_1 hx118_2 hx120_0 hx120_1 hx120_2 hx121_0 hx121_1 hx121_2 hx123_0 hx123_1 hx123_2 hx124_0 hx124_1 hx124_2 hx126_0 hx126_1 hx126_2 hx127_0 hx127_1 hx127_2 hHeld ⊢
          refine pu 0 58 (tf 1 53) ?_
          refine pu 1 59 (tf 2 52) ?_
          refine pu 2 60 (tf 3 51) ?_
          refine pu 4 62 #[true, true, true, false, true, false, false, false, false, false, false, false, false, false, false, false, false, false, false, false, false, false, false, false, false, false, false, false, false, false, false, false, false, false, false, false, false, false, false, false, false, false, false, false, false, false, false, false, false, false, false, false, false, false] ?_
          refine pu 5 63 #[true, true, true, false, true, true, false, false, false, false, false, false, false, false, false, false, false, false, false, false, false, false, false, false, false, false, false, false, false, false, false, false, false, false, false, false, false, false, false, false, false, false, false, false, false, false, false, false, false, false, false, false, false, false] ?_
          refine pu 6 64 #[true, true, true, false, true, true, true, false, false, false, false, false, false, false, false, false, false, false, false, false, false, false, false, false, false, false, false, false, false, false, false, false, false, false, false, false, false, false, false, false, false, false, false, false, false, false, false, false, false, false, false, false, false, false] ?_
          refine pu 9 67 #[true, true, true, false, true, true, true, false, false, true, false, false, false, false, false, false, false, false, false, false, false, false, false, false, false, false, false, false, false, false, false, false, false, false, false, false, false, false, false, false, false, false, false, false, false, false, false, false, false, false, false, false, false, false] ?_
          refine pu 10 68 #[true, true, true, false, true, true, true, false, false, true, true, false, false, false, false, false, false, false, false, false, false, false, false, false, false, false, false, false, false, false, false, false, false, false, false, false, false, false, false, false, false, false, false, false, false, false, false, false, false, false, false, false, false, false] ?_
          refine pu 11 69 #[true, true, true, false, true, true, true, false, false, true, true, true, false, false, false, false, false, false, false, false, false, false, false, false, false, false, false, false, false, false, false, false, false, false, false, false, false, false, false, false, false, false, false, false, false, false, false, false, false, false, false, false, false, false] ?_
          refine pu 13 71 #[true, true, true, false, true, true, true, false, false, true, true, true, false, true, false, false, false, false, false, false, false, false, false, false, false, false, false, false, false, false, false, false, false, false, false, false, false, false, false, false, false, false, false, false, false, false, false, false, false, false, false, false, false, false] ?_
          refine pu 14 72 #[true, true, true, false, true, true, true, false, false, true, true, true, false, true, true, false, false, false, false, false, false, false, false, false, false, false, false, false, false, false, false, false, false, false, false, false, false, false, false, false, false, false, false, false, false, false, false, false, false, false, false, false, false, false] ?_
          refine pu 15 73 #[true, true, true, false, true, true, true, false, false, true, true, true, false, true, true, true, false, false, false, false, false, false, false, false, false, false, false, false, false, false, false, false, false, false, false, false, false, false, false, false, false, false, false, false, false, false, false, false, false, false, false, false, false, false] ?_
          refine tk 3 61 #[true, true, true, true, true, true, true, false, false, true, true, true, false, true, true, true, false, false, false, false, false, false, false, false, false, false, false, false, false, false, false, false, false, false, false, false, false, false, false, false, false, false, false, false, false, false, false, false, false, false, false, false, false, false] hHeld ?_
          refine tk 7 65 #[true, true, true, true, true, true, true, true, false, true, true, true, false, true, true, true, false, false, false, false, false, false, false, false, false, false, false, false, false, false, false, false, false, false, false, false, false, false, false, false, false, false, false, false, false, false, false, false, false, false, false, false, false, false] hHeld ?_
          refine tk 12 70 #[true, true, true, true, true, true, true, true, false, true, true, true, true, true, true, true, false, false, false, false, false, false, false, false, false, false, false, false, false, false, false, false, false, false, false, false, false, false, false, false, false, false, false, false, false, false, false, false, false, false, false, false, false, false] hHeld ?_
          refine tk 16 74 #[true, true, true, true, true, true, true, true, false, true, true, true, true, true, true, true, true, false, false, false, false, false, false, false, false, false, false, false, false, false, false, false, false, false, false, false, false, false, false, false, false, false, false, false, false, false, false, false, false, false, false, false, false, false] hHeld ?_
          refine on 8 (some 66) (tf 17 37) (fun K hK => ?_)
          refine gS Try.func58 #[.agg #[.bool ((rd_T69 l0 x7_1).f0), .slice A114_1 ((rd_T69 l0 x7_1).f1).length c114_1, .slice A114_2 ((rd_T69 l0 x7_1).f2).length c114_2], .agg #[.bool ((rd_T69 l0 x9_3).f0), .slice A115_1 ((rd_T69 l0 x9_3).f1).length c115_1, .slice A115_2 ((rd_T69 l0 x9_3).f2).length c115_2]] ?_
          with_reducible refine (ratio_R_Cmp.calls k3 ((rd_T69 l0 x7_1).f0) _ _ ((rd_T69 l0 x7_1).f1) _ _ ((rd_T69 l0 x7_1).f2) ((rd_T69 l0 x9_3).f0) _ _ ((rd_T69 l0 x9_3).f1) _ _ ((rd_T69 l0 x9_3).f2) t116 _ ?_ ?_ ?_ ?_ ?_ ?_ ?_ ?_ A38.out).mono ?_
          exact Kd.C_below HR114_1.out (bup HB.out)
          exact HC114_1.out
          exact Kd.C_below HR114_2.out (bup HB.out)
          exact HC114_2.out
          exact Kd.C_below HR115_1.out (bup HB.out)
          exact HC115_1.out
          exact Kd.C_below HR115_2.out (bup HB.out)
          exact HC115_2.out
          rintro e w49 ⟨rfl, hb⟩
          refine ⟨_, rfl, ?_⟩
          replace HO_111001 := vA HO_111001 hb
          replace HO_111002 := vA HO_111002 hb
          replace BK110 := kA BK110 hb
          replace HB := bS HB hb
          clear hb
          refine hK.out _ _ ⟨((HB.out.cell (World.block_lt_of_cell? w _ hw114_0)).trans hw114_0), ((HB.out.cell (World.block_lt_of_cell? w _ hw114_1)).trans hw114_1), ((HB.out.cell (World.block_lt_of_cell? w _ hw114_2)).trans hw114_2), ((HB.out.cell (World.block_lt_of_cell? w _ hw115_0)).trans hw115_0), ((HB.out.cell (World.block_lt_of_cell? w _ hw115_1)).trans hw115_1), ((HB.out.cell (World.block_lt_of_cell? w _ hw115_2)).trans hw115_2), ((HB.out.cell (World.block_lt_of_cell? w _ hw117_0)).trans hw117_0), ((HB.out.cell (World.block_lt_of_cell? w _ hw117_1)).trans hw117_1), ((HB.out.cell (World.block_lt_of_cell? w _ hw117_2)).trans hw117_2), ((HB.out.cell (World.block_lt_of_cell? w _ hw118_0)).trans hw118_0), ((HB.out.cell (World.block_lt_of_cell? w _ hw118_1)).trans hw118_1), ((HB.out.cell (World.block_lt_of_cell? w _ hw118_2)).trans hw118_2), ((HB.out.cell (World.block_lt_of_cell? w _ hw120_0)).trans hw120_0), ((HB.out.cell (World.block_lt_of_cell? w _ hw120_1)).trans hw120_1), ((HB.out.cell (World.block_lt_of_cell? w _ hw120_2)).trans hw120_2), ((HB.out.cell (World.block_lt_of_cell? w _ hw121_0)).trans hw121_0), ((HB.out.cell (World.block_lt_of_cell? w _ hw121_1)).trans hw121_1), ((HB.out.cell (World.block_lt_of_cell? w _ hw121_2)).trans hw121_2), ((HB.out.cell (World.block_lt_of_cell? w _ hw123_0)).trans hw123_0), ((HB.out.cell (World.block_lt_of_cell? w _ hw123_1)).trans hw123_1), ((HB.out.cell (World.block_lt_of_cell? w _ hw123_2)).trans hw123_2), ((HB.out.cell (World.block_lt_of_cell? w _ hw124_0)).trans hw124_0), ((HB.out.cell (World.block_lt_of_cell? w _ hw124_1)).trans hw124_1), ((HB.out.cell (World.block_lt_of_cell? w _ hw124_2)).trans hw124_2), ((HB.out.cell (World.block_lt_of_cell? w _ hw126_0)).trans hw126_0), ((HB.out.cell (World.block_lt_of_cell? w _ hw126_1)).trans hw126_1), ((HB.out.cell (World.block_lt_of_cell? w _ hw126_2)).trans hw126_2), ((HB.out.cell (World.block_lt_of_cell? w _ hw127_0)).trans hw127_0), ((HB.out.cell (World.block_lt_of_cell? w _ hw127_1)).trans hw127_1), ((HB.out.cell (World.block_lt_of_cell? w _ hw127_2)).trans hw127_2)⟩ (fun hHeld => nm ?_)
          clear hK K
          refine on 17 (some 75) (tf 18 36) (fun K hK => ?_)
          refine gS Try.func58 #[.agg #[.bool ((rd_T69 l0 x9_3).f0), .slice A115_1 ((rd_T69 l0 x9_3).f1).length c115_1, .slice A115_2 ((rd_T69 l0 x9_3).f2).length c115_2], .agg #[.bool ((rd_T69 l0 x7_1).f0), .slice A114_1 ((rd_T69 l0 x7_1).f1).length c114_1, .slice A114_2 ((rd_T69 l0 x7_1).f2).length c114_2]] ?_
          with_reducible refine (ratio_R_Cmp.calls k3 ((rd_T69 l0 x9_3).f0) _ _ ((rd_T69 l0 x9_3).f1) _ _ ((rd_T69 l0 x9_3).f2) ((rd_T69 l0 x7_1).f0) _ _ ((rd_T69 l0 x7_1).f1) _ _ ((rd_T69 l0 x7_1).f2) t119 _ ?_ ?_ ?_ ?_ ?_ ?_ ?_ ?_ A39.out).mono ?_
          exact Kd.C_below HR117_1.out (bup HB.out)
          exact HC117_1.out
          exact Kd.C_below HR117_2.out (bup HB.out)
          exact HC117_2.out
          exact Kd.C_below HR118_1.out (bup HB.out)
          exact HC118_1.out
          exact Kd.C_below HR118_2.out (bup HB.out)
          exact HC118_2.out
          rintro e w50 ⟨rfl, hb⟩
          refine ⟨_, rfl, ?_⟩
          replace HO_111001 := vA HO_111001 hb
          replace HO_111002 := vA HO_111002 hb
          replace BK110 := kA BK110 hb
          replace HB := bS HB hb
          clear hb
          refine hK.out _ _ ⟨((HB.out.cell (World.block_lt_of_cell? w _ hw114_0)).trans hw114_0), ((HB.out.cell (World.block_lt_of_cell? w _ hw114_1)).trans hw114_1), ((HB.out.cell (World.block_lt_of_cell? w _ hw114_2)).trans hw114_2), ((HB.out.cell (World.block_lt_of_cell? w _ hw115_0)).trans hw115_0), ((HB.out.cell (World.block_lt_of_cell? w _ hw115_1)).trans hw115_1), ((HB.out.cell (World.block_lt_of_cell? w _ hw115_2)).trans hw115_2), ((HB.out.cell (World.block_lt_of_cell? w _ hw117_0)).trans hw117_0), ((HB.out.cell (World.block_lt_of_cell? w _ hw117_1)).trans hw117_1), ((HB.out.cell (World.block_lt_of_cell? w _ hw117_2)).trans hw117_2), ((HB.out.cell (World.block_lt_of_cell? w _ hw118_0)).trans hw118_0), ((HB.out.cell (World.block_lt_of_cell? w _ hw118_1)).trans hw118_1), ((HB.out.cell (World.block_lt_of_cell? w _ hw118_2)).trans hw118_2), ((HB.out.cell (World.block_lt_of_cell? w _ hw120_0)).trans hw120_0), ((HB.out.cell (World.block_lt_of_cell? w _ hw120_1)).trans hw120_1), ((HB.out.cell (World.block_lt_of_cell? w _ hw120_2)).trans hw120_2), ((HB.out.cell (World.block_lt_of_cell? w _ hw121_0)).trans hw121_0), ((HB.out.cell (World.block_lt_of_cell? w _ hw121_1)).trans hw121_1), ((HB.out.cell (World.block_lt_of_cell? w _ hw121_2)).trans hw121_2), ((HB.out.cell (World.block_lt_of_cell? w _ hw123_0)).trans hw123_0), ((HB.out.cell (World.block_lt_of_cell? w _ hw123_1)).trans hw123_1), ((HB.out.cell (World.block_lt_of_cell? w _ hw123_2)).trans hw123_2), ((HB.out.cell (World.block_lt_of_cell? w _ hw124_0)).trans hw124_0), ((HB.out.cell (World.block_lt_of_cell? w _ hw124_1)).trans hw124_1), ((HB.out.cell (World.block_lt_of_cell? w _ hw124_2)).trans hw124_2), ((HB.out.cell (World.block_lt_of_cell? w _ hw126_0)).trans hw126_0), ((HB.out.cell (World.block_lt_of_cell? w _ hw126_1)).trans hw126_1), ((HB.out.cell (World.block_lt_of_cell? w _ hw126_2)).trans hw126_2), ((HB.out.cell (World.block_lt_of_cell? w _ hw127_0)).trans hw127_0), ((HB.out.cell (World.block_lt_of_cell? w _ hw127_1)).trans hw127_1), ((HB.out.cell (World.block_lt_of_cell? w _ hw127_2)).trans hw127_2)⟩ (fun hHeld => nm ?_)
          clear hK K
          refine pu 18 76 (tf 19 35) ?_
          refine pu 19 77 (tf 20 34) ?_
          refine pu 20 78 (tf 21 33) ?_
          refine pu 21 79 (tf 22 32) ?_
          refine pu 22 80 (tf 23 31) ?_
          refine pu 23 81 (tf 24 30) ?_
          refine pu 25 83 #[true, true, true, true, true, true, true, true, true, true, true, true, true, true, true, true, true, true, true, true, true, true, true, true, false, true, false, false, false, false, false, false, false, false, false, false, false, false, false, false, false, false, false, false, false, false, false, false, false, false, false, false, false, false] ?_
          refine pu 26 84 #[true, true, true, true, true, true, true, true, true, true, true, true, true, true, true, true, true, true, true, true, true, true, true, true, false, true, true, false, false, false, false, false, false, false, false, false, false, false, false, false, false, false, false, false, false, false, false, false, false, false, false, false, false, false] ?_
          refine pu 27 85 #[true, true, true, true, true, true, true, true, true, true, true, true, true, true, true, true, true, true, true, true, true, true, true, true, false, true, true, true, false, false, false, false, false, false, false, false, false, false, false, false, false, false, false, false, false, false, false, false, false, false, false, false, false, false] ?_
          refine tk 24 82 (tf 28 26) hHeld ?_
          refine tk 28 86 (tf 29 25) hHeld ?_
          refine on 29 (some 87) (tf 30 24) (fun K hK => ?_)
          refine gS Try.func58 #[.agg #[.bool ((rd_T69 l0 x7_1).f0), .slice A114_1 ((rd_T69 l0 x7_1).f1).length c114_1, .slice A114_2 ((rd_T69 l0 x7_1).f2).length c114_2], .agg #[.bool ((rd_T69 l0 x9_3).f0), .slice A115_1 ((rd_T69 l0 x9_3).f1).length c115_1, .slice A115_2 ((rd_T69 l0 x9_3).f2).length c115_2]] ?_
          with_reducible refine (ratio_R_Cmp.calls k3 ((rd_T69 l0 x7_1).f0) _ _ ((rd_T69 l0 x7_1).f1) _ _ ((rd_T69 l0 x7_1).f2) ((rd_T69 l0 x9_3).f0) _ _ ((rd_T69 l0 x9_3).f1) _ _ ((rd_T69 l0 x9_3).f2) t122 _ ?_ ?_ ?_ ?_ ?_ ?_ ?_ ?_ A41.out).mono ?_
          exact Kd.C_below HR114_1.out (bup HB.out)
          exact HC114_1.out
          exact Kd.C_below HR114_2.out (bup HB.out)
          exact HC114_2.out
          exact Kd.C_below HR115_1.out (bup HB.out)
          exact HC115_1.out
          exact Kd.C_below HR115_2.out (bup HB.out)
          exact HC115_2.out
          rintro e w51 ⟨rfl, hb⟩
          refine ⟨_, rfl, ?_⟩
          replace HO_111001 := vA HO_111001 hb
          replace HO_111002 := vA HO_111002 hb
          replace BK110 := kA BK110 hb
          replace HB := bS HB hb
          clear hb
          refine hK.out _ _ ⟨((HB.out.cell (World.block_lt_of_cell? w _ hw114_0)).trans hw114_0), ((HB.out.cell (World.block_lt_of_cell? w _ hw114_1)).trans hw114_1), ((HB.out.cell (World.block_lt_of_cell? w _ hw114_2)).trans hw114_2), ((HB.out.cell (World.block_lt_of_cell? w _ hw115_0)).trans hw115_0), ((HB.out.cell (World.block_lt_of_cell? w _ hw115_1)).trans hw115_1), ((HB.out.cell (World.block_lt_of_cell? w _ hw115_2)).trans hw115_2), ((HB.out.cell (World.block_lt_of_cell? w _ hw117_0)).trans hw117_0), ((HB.out.cell (World.block_lt_of_cell? w _ hw117_1)).trans hw117_1), ((HB.out.cell (World.block_lt_of_cell? w _ hw117_2)).trans hw117_2), ((HB.out.cell (World.block_lt_of_cell? w _ hw118_0)).trans hw118_0), ((HB.out.cell (World.block_lt_of_cell? w _ hw118_1)).trans hw118_1), ((HB.out.cell (World.block_lt_of_cell? w _ hw118_2)).trans hw118_2), ((HB.out.cell (World.block_lt_of_cell? w _ hw120_0)).trans hw120_0), ((HB.out.cell (World.block_lt_of_cell? w _ hw120_1)).trans hw120_1), ((HB.out.cell (World.block_lt_of_cell? w _ hw120_2)).trans hw120_2), ((HB.out.cell (World.block_lt_of_cell? w _ hw121_0)).trans hw121_0), ((HB.out.cell (World.block_lt_of_cell? w _ hw121_1)).trans hw121_1), ((HB.out.cell (World.block_lt_of_cell? w _ hw121_2)).trans hw121_2), ((HB.out.cell (World.block_lt_of_cell? w _ hw123_0)).trans hw123_0), ((HB.out.cell (World.block_lt_of_cell? w _ hw123_1)).trans hw123_1), ((HB.out.cell (World.block_lt_of_cell? w _ hw123_2)).trans hw123_2), ((HB.out.cell (World.block_lt_of_cell? w _ hw124_0)).trans hw124_0), ((HB.out.cell (World.block_lt_of_cell? w _ hw124_1)).trans hw124_1), ((HB.out.cell (World.block_lt_of_cell? w _ hw124_2)).trans hw124_2), ((HB.out.cell (World.block_lt_of_cell? w _ hw126_0)).trans hw126_0), ((HB.out.cell (World.block_lt_of_cell? w _ hw126_1)).trans hw126_1), ((HB.out.cell (World.block_lt_of_cell? w _ hw126_2)).trans hw126_2), ((HB.out.cell (World.block_lt_of_cell? w _ hw127_0)).trans hw127_0), ((HB.out.cell (World.block_lt_of_cell? w _ hw127_1)).trans hw127_1), ((HB.out.cell (World.block_lt_of_cell? w _ hw127_2)).trans hw127_2)⟩ (fun hHeld => nm ?_)
          clear hK K
          refine pu 30 88 (tf 31 23) ?_
          refine pu 31 89 (tf 32 22) ?_
          refine pu 32 90 (tf 33 21) ?_
          refine pu 33 91 (tf 34 20) ?_
          refine pu 35 93 #[true, true, true, true, true, true, true, true, true, true, true, true, true, true, true, true, true, true, true, true, true, true, true, true, true, true, true, true, true, true, true, true, true, true, false, true, false, false, false, false, false, false, false, false, false, false, false, false, false, false, false, false, false, false] ?_
          refine pu 36 94 #[true, true, true, true, true, true, true, true, true, true, true, true, true, true, true, true, true, true, true, true, true, true, true, true, true, true, true, true, true, true, true, true, true, true, false, true, true, false, false, false, false, false, false, false, false, false, false, false, false, false, false, false, false, false] ?_
          refine pu 37 95 #[true, true, true, true, true, true, true, true, true, true, true, true, true, true, true, true, true, true, true, true, true, true, true, true, true, true, true, true, true, true, true, true, true, true, false, true, true, true, false, false, false, false, false, false, false, false, false, false, false, false, false, false, false, false] ?_
          refine tk 34 92 (tf 38 16) hHeld ?_
          refine tk 38 96 (tf 39 15) hHeld ?_
          refine on 39 (some 97) (tf 40 14) (fun K hK => ?_)
          refine gS Try.func58 #[.agg #[.bool ((rd_T69 l0 0).f0), .slice A123_1 ((rd_T69 l0 0).f1).length c123_1, .slice A123_2 ((rd_T69 l0 0).f2).length c123_2], .agg #[.bool ((rd_T69 l0 x7_1).f0), .slice A114_1 ((rd_T69 l0 x7_1).f1).length c114_1, .slice A114_2 ((rd_T69 l0 x7_1).f2).length c114_2]] ?_
          with_reducible refine (ratio_R_Cmp.calls k3 ((rd_T69 l0 0).f0) _ _ ((rd_T69 l0 0).f1) _ _ ((rd_T69 l0 0).f2) ((rd_T69 l0 x7_1).f0) _ _ ((rd_T69 l0 x7_1).f1) _ _ ((rd_T69 l0 x7_1).f2) t125 _ ?_ ?_ ?_ ?_ ?_ ?_ ?_ ?_ A44.out).mono ?_
          exact Kd.C_below HR123_1.out (bup HB.out)
          exact HC123_1.out
          exact Kd.C_below HR123_2.out (bup HB.out)
          exact HC123_2.out
          exact Kd.C_below HR114_1.out (bup HB.out)
          exact HC114_1.out
          exact Kd.C_below HR114_2.out (bup HB.out)
          exact HC114_2.out
          rintro e w52 ⟨rfl, hb⟩
          refine ⟨_, rfl, ?_⟩
          replace HO_111001 := vA HO_111001 hb
          replace HO_111002 := vA HO_111002 hb
          replace BK110 := kA BK110 hb
          replace HB := bS HB hb
          clear hb
          refine hK.out _ _ ⟨((HB.out.cell (World.block_lt_of_cell? w _ hw114_0)).trans hw114_0), ((HB.out.cell (World.block_lt_of_cell? w _ hw114_1)).trans hw114_1), ((HB.out.cell (World.block_lt_of_cell? w _ hw114_2)).trans hw114_2), ((HB.out.cell (World.block_lt_of_cell? w _ hw115_0)).trans hw115_0), ((HB.out.cell (World.block_lt_of_cell? w _ hw115_1)).trans hw115_1), ((HB.out.cell (World.block_lt_of_cell? w _ hw115_2)).trans hw115_2), ((HB.out.cell (World.block_lt_of_cell? w _ hw117_0)).trans hw117_0), ((HB.out.cell (World.block_lt_of_cell? w _ hw117_1)).trans hw117_1), ((HB.out.cell (World.block_lt_of_cell? w _ hw117_2)).trans hw117_2), ((HB.out.cell (World.block_lt_of_cell? w _ hw118_0)).trans hw118_0), ((HB.out.cell (World.block_lt_of_cell? w _ hw118_1)).trans hw118_1), ((HB.out.cell (World.block_lt_of_cell? w _ hw118_2)).trans hw118_2), ((HB.out.cell (World.block_lt_of_cell? w _ hw120_0)).trans hw120_0), ((HB.out.cell (World.block_lt_of_cell? w _ hw120_1)).trans hw120_1), ((HB.out.cell (World.block_lt_of_cell? w _ hw120_2)).trans hw120_2), ((HB.out.cell (World.block_lt_of_cell? w _ hw121_0)).trans hw121_0), ((HB.out.cell (World.block_lt_of_cell? w _ hw121_1)).trans hw121_1), ((HB.out.cell (World.block_lt_of_cell? w _ hw121_2)).trans hw121_2), ((HB.out.cell (World.block_lt_of_cell? w _ hw123_0)).trans hw123_0), ((HB.out.cell (World.block_lt_of_cell? w _ hw123_1)).trans hw123_1), ((HB.out.cell (World.block_lt_of_cell? w _ hw123_2)).trans hw123_2), ((HB.out.cell (World.block_lt_of_cell? w _ hw124_0)).trans hw124_0), ((HB.out.cell (World.block_lt_of_cell? w _ hw124_1)).trans hw124_1), ((HB.out.cell (World.block_lt_of_cell? w _ hw124_2)).trans hw124_2), ((HB.out.cell (World.block_lt_of_cell? w _ hw126_0)).trans hw126_0), ((HB.out.cell (World.block_lt_of_cell? w _ hw126_1)).trans hw126_1), ((HB.out.cell (World.block_lt_of_cell? w _ hw126_2)).trans hw126_2), ((HB.out.cell (World.block_lt_of_cell? w _ hw127_0)).trans hw127_0), ((HB.out.cell (World.block_lt_of_cell? w _ hw127_1)).trans hw127_1), ((HB.out.cell (World.block_lt_of_cell? w _ hw127_2)).trans hw127_2)⟩ (fun hHeld => nm ?_)
          clear hK K
          refine pu 40 98 (tf 41 13) ?_
          refine pu 41 99 (tf 42 12) ?_
          refine pu 42 100 (tf 43 11) ?_
          refine pu 43 101 (tf 44 10) ?_
          refine pu 44 102 (tf 45 9) ?_
          refine pu 46 104 #[true, true, true, true, true, true, true, true, true, true, true, true, true, true, true, true, true, true, true, true, true, true, true, true, true, true, true, true, true, true, true, true, true, true, true, true, true, true, true, true, true, true, true, true, true, false, true, false, false, false, false, false, false, false] ?_
          refine pu 47 105 #[true, true, true, true, true, true, true, true, true, true, true, true, true, true, true, true, true, true, true, true, true, true, true, true, true, true, true, true, true, true, true, true, true, true, true, true, true, true, true, true, true, true, true, true, true, false, true, true, false, false, false, false, false, false] ?_
          refine pu 48 106 #[true, true, true, true, true, true, true, true, true, true, true, true, true, true, true, true, true, true, true, true, true, true, true, true, true, true, true, true, true, true, true, true, true, true, true, true, true, true, true, true, true, true, true, true, true, false, true, true, true, false, false, false, false, false] ?_
          refine tk 45 103 (tf 49 5) hHeld ?_
          refine tk 49 107 (tf 50 4) hHeld ?_
          refine on 50 (some 108) (tf 51 3) (fun K hK => ?_)
          refine gS Try.func58 #[.agg #[.bool ((rd_T69 l0 0).f0), .slice A123_1 ((rd_T69 l0 0).f1).length c123_1, .slice A123_2 ((rd_T69 l0 0).f2).length c123_2], .agg #[.bool ((rd_T69 l0 x9_3).f0), .slice A115_1 ((rd_T69 l0 x9_3).f1).length c115_1, .slice A115_2 ((rd_T69 l0 x9_3).f2).length c115_2]] ?_
          with_reducible refine (ratio_R_Cmp.calls k3 ((rd_T69 l0 0).f0) _ _ ((rd_T69 l0 0).f1) _ _ ((rd_T69 l0 0).f2) ((rd_T69 l0 x9_3).f0) _ _ ((rd_T69 l0 x9_3).f1) _ _ ((rd_T69 l0 x9_3).f2) t128 _ ?_ ?_ ?_ ?_ ?_ ?_ ?_ ?_ A46.out).mono ?_
          exact Kd.C_below HR123_1.out (bup HB.out)
          exact HC123_1.out
          exact Kd.C_below HR123_2.out (bup HB.out)
          exact HC123_2.out
          exact Kd.C_below HR115_1.out (bup HB.out)
          exact HC115_1.out
          exact Kd.C_below HR115_2.out (bup HB.out)
          exact HC115_2.out
          rintro e w53 ⟨rfl, hb⟩
          refine ⟨_, rfl, ?_⟩
          replace HO_111001 := vA HO_111001 hb
          replace HO_111002 := vA HO_111002 hb
          replace BK110 := kA BK110 hb
          replace HB := bS HB hb
          clear hb
          refine hK.out _ _ ⟨((HB.out.cell (World.block_lt_of_cell? w _ hw114_0)).trans hw114_0), ((HB.out.cell (World.block_lt_of_cell? w _ hw114_1)).trans hw114_1), ((HB.out.cell (World.block_lt_of_cell? w _ hw114_2)).trans hw114_2), ((HB.out.cell (World.block_lt_of_cell? w _ hw115_0)).trans hw115_0), ((HB.out.cell (World.block_lt_of_cell? w _ hw115_1)).trans hw115_1), ((HB.out.cell (World.block_lt_of_cell? w _ hw115_2)).trans hw115_2), ((HB.out.cell (World.block_lt_of_cell? w _ hw117_0)).trans hw117_0), ((HB.out.cell (World.block_lt_of_cell? w _ hw117_1)).trans hw117_1), ((HB.out.cell (World.block_lt_of_cell? w _ hw117_2)).trans hw117_2), ((HB.out.cell (World.block_lt_of_cell? w _ hw118_0)).trans hw118_0), ((HB.out.cell (World.block_lt_of_cell? w _ hw118_1)).trans hw118_1), ((HB.out.cell (World.block_lt_of_cell? w _ hw118_2)).trans hw118_2), ((HB.out.cell (World.block_lt_of_cell? w _ hw120_0)).trans hw120_0), ((HB.out.cell (World.block_lt_of_cell? w _ hw120_1)).trans hw120_1), ((HB.out.cell (World.block_lt_of_cell? w _ hw120_2)).trans hw120_2), ((HB.out.cell (World.block_lt_of_cell? w _ hw121_0)).trans hw121_0), ((HB.out.cell (World.block_lt_of_cell? w _ hw121_1)).trans hw121_1), ((HB.out.cell (World.block_lt_of_cell? w _ hw121_2)).trans hw121_2), ((HB.out.cell (World.block_lt_of_cell? w _ hw123_0)).trans hw123_0), ((HB.out.cell (World.block_lt_of_cell? w _ hw123_1)).trans hw123_1), ((HB.out.cell (World.block_lt_of_cell? w _ hw123_2)).trans hw123_2), ((HB.out.cell (World.block_lt_of_cell? w _ hw124_0)).trans hw124_0), ((HB.out.cell (World.block_lt_of_cell? w _ hw124_1)).trans hw124_1), ((HB.out.cell (World.block_lt_of_cell? w _ hw124_2)).trans hw124_2), ((HB.out.cell (World.block_lt_of_cell? w _ hw126_0)).trans hw126_0), ((HB.out.cell (World.block_lt_of_cell? w _ hw126_1)).trans hw126_1), ((HB.out.cell (World.block_lt_of_cell? w _ hw126_2)).trans hw126_2), ((HB.out.cell (World.block_lt_of_cell? w _ hw127_0)).trans hw127_0), ((HB.out.cell (World.block_lt_of_cell? w _ hw127_1)).trans hw127_1), ((HB.out.cell (World.block_lt_of_cell? w _ hw127_2)).trans hw127_2)⟩ (fun hHeld => nm ?_)
          clear hK K
          refine pu 51 109 (tf 52 2) ?_
          refine pu 52 110 (tf 53 1) ?_
          refine pu 53 111 (tf 54 0) ?_
          refine done_ (done_of HT_.out (by kernel_rfl)) ?_
          try go_wp2
          go_ret
          exact ⟨er, hB⟩
         rw [if_neg c47] at H
         have c47b0 : decide (0 ≤ t128) = false := decide_eq_false c47
         clear c47
         have H' := Aside0.mk H
         clear H
         try go_wp2
         replace HO_111001 := Aside0.mk (Kd.V_drew HO_111001.out)
         replace HO_111002 := Aside0.mk (Kd.V_drew HO_111002.out)
         replace BK110 := kd BK110
         replace HB := bd HB
         have p114 : 0 ≤ (x7_1 : Int) := of_decide_eq_true asm
         have q114 : x7_1 < (l0.length : Int) := of_decide_eq_true asm
         obtain ⟨ad114, A114_1, c114_1, A114_2, c114_2, e114, hx114_0, hx114_1, hx114_2, hl114_1, hi114_1, hl114_2, hi114_2⟩ := at_T69 HR0.out x7_1 p114 q114
         have hw114_2 := hx114_2
         have hw114_1 := hx114_1
         have hw114_0 := hx114_0
         obtain rfl : ad112 = ad114 := (by injection e114)
         replace hx114_0 := (HB.out.cell (World.block_lt_of_cell? w _ hx114_0)).trans hx114_0
         replace hx114_1 := (HB.out.cell (World.block_lt_of_cell? w _ hx114_1)).trans hx114_1
         replace hx114_2 := (HB.out.cell (World.block_lt_of_cell? w _ hx114_2)).trans hx114_2
         have HR114_1 := Aside0.mk hi114_1
         have HC114_1 := Aside0.mk hl114_1
         clear hi114_1 hl114_1
         have HR114_2 := Aside0.mk hi114_2
         have HC114_2 := Aside0.mk hl114_2
         clear hi114_2 hl114_2
         replace p114 := eq_true p114
         replace q114 := eq_true q114
         have p115 : 0 ≤ (x9_3 : Int) := of_decide_eq_true asm
         have q115 : x9_3 < (l0.length : Int) := of_decide_eq_true asm
         obtain ⟨ad115, A115_1, c115_1, A115_2, c115_2, e115, hx115_0, hx115_1, hx115_2, hl115_1, hi115_1, hl115_2, hi115_2⟩ := at_T69 HR0.out x9_3 p115 q115
         have hw115_2 := hx115_2
         have hw115_1 := hx115_1
         have hw115_0 := hx115_0
         obtain rfl : ad112 = ad115 := (by injection e115)
         replace hx115_0 := (HB.out.cell (World.block_lt_of_cell? w _ hx115_0)).trans hx115_0
         replace hx115_1 := (HB.out.cell (World.block_lt_of_cell? w _ hx115_1)).trans hx115_1
         replace hx115_2 := (HB.out.cell (World.block_lt_of_cell? w _ hx115_2)).trans hx115_2
         have HR115_1 := Aside0.mk hi115_1
         have HC115_1 := Aside0.mk hl115_1
         clear hi115_1 hl115_1
         have HR115_2 := Aside0.mk hi115_2
         have HC115_2 := Aside0.mk hl115_2
         clear hi115_2 hl115_2
         replace p115 := eq_true p115
         replace q115 := eq_true q115
         have p117 : 0 ≤ (x9_3 : Int) := of_decide_eq_true asm
         have q117 : x9_3 < (l0.length : Int) := of_decide_eq_true asm
         obtain ⟨ad117, A117_1, c117_1, A117_2, c117_2, e117, hx117_0, hx117_1, hx117_2, hl117_1, hi117_1, hl117_2, hi117_2⟩ := at_T69 HR0.out x9_3 p117 q117
         have hw117_2 := hx117_2
         have hw117_1 := hx117_1
         have hw117_0 := hx117_0
         obtain rfl : ad112 = ad117 := (by injection e117)
         replace hx117_0 := (HB.out.cell (World.block_lt_of_cell? w _ hx117_0)).trans hx117_0
         replace hx117_1 := (HB.out.cell (World.block_lt_of_cell? w _ hx117_1)).trans hx117_1
         replace hx117_2 := (HB.out.cell (World.block_lt_of_cell? w _ hx117_2)).trans hx117_2
         have HR117_1 := Aside0.mk hi117_1
         have HC117_1 := Aside0.mk hl117_1
         clear hi117_1 hl117_1
         have HR117_2 := Aside0.mk hi117_2
         have HC117_2 := Aside0.mk hl117_2
         clear hi117_2 hl117_2
         replace p117 := eq_true p117
         replace q117 := eq_true q117
         have ea_ := Option.some.inj (hx115_1.symm.trans hx117_1)
         injection ea_ with ea_ en_ ec_
         subst ea_
         subst ec_
         clear en_
         have ea_ := Option.some.inj (hx115_2.symm.trans hx117_2)
         injection ea_ with ea_ en_ ec_
         subst ea_
         subst ec_
         clear en_
         have p118 : 0 ≤ (x7_1 : Int) := of_decide_eq_true asm
         have q118 : x7_1 < (l0.length : Int) := of_decide_eq_true asm
         obtain ⟨ad118, A118_1, c118_1, A118_2, c118_2, e118, hx118_0, hx118_1, hx118_2, hl118_1, hi118_1, hl118_2, hi118_2⟩ := at_T69 HR0.out x7_1 p118 q118
         have hw118_2 := hx118_2
         have hw118_1 := hx118_1
         have hw118_0 := hx118_0
         obtain rfl : ad112 = ad118 := (by injection e118)
         replace hx118_0 := (HB.out.cell (World.block_lt_of_cell? w _ hx118_0)).trans hx118_0
         replace hx118_1 := (HB.out.cell (World.block_lt_of_cell? w _ hx118_1)).trans hx118_1
         replace hx118_2 := (HB.out.cell (World.block_lt_of_cell? w _ hx118_2)).trans hx118_2
         have HR118_1 := Aside0.mk hi118_1
         have HC118_1 := Aside0.mk hl118_1
         clear hi118_1 hl118_1
         have HR118_2 := Aside0.mk hi118_2
         have HC118_2 := Aside0.mk hl118_2
         clear hi118_2 hl118_2
         replace p118 := eq_true p118
         replace q118 := eq_true q118
         have ea_ := Option.some.inj (hx114_1.symm.trans hx118_1)
         injection ea_ with ea_ en_ ec_
         subst ea_
         subst ec_
         clear en_
         have ea_ := Option.some.inj (hx114_2.symm.trans hx118_2)
         injection ea_ with ea_ en_ ec_
         subst ea_
         subst ec_
         clear en_
         have p120 : 0 ≤ (x7_1 : Int) := of_decide_eq_true asm
         have q120 : x7_1 < (l0.length : Int) := of_decide_eq_true asm
         obtain ⟨ad120, A120_1, c120_1, A120_2, c120_2, e120, hx120_0, hx120_1, hx120_2, hl120_1, hi120_1, hl120_2, hi120_2⟩ := at_T69 HR0.out x7_1 p120 q120
         have hw120_2 := hx120_2
         have hw120_1 := hx120_1
         have hw120_0 := hx120_0
         obtain rfl : ad112 = ad120 := (by injection e120)
         replace hx120_0 := (HB.out.cell (World.block_lt_of_cell? w _ hx120_0)).trans hx120_0
         replace hx120_1 := (HB.out.cell (World.block_lt_of_cell? w _ hx120_1)).trans hx120_1
         replace hx120_2 := (HB.out.cell (World.block_lt_of_cell? w _ hx120_2)).trans hx120_2
         have HR120_1 := Aside0.mk hi120_1
         have HC120_1 := Aside0.mk hl120_1
         clear hi120_1 hl120_1
         have HR120_2 := Aside0.mk hi120_2
         have HC120_2 := Aside0.mk hl120_2
         clear hi120_2 hl120_2
         replace p120 := eq_true p120
         replace q120 := eq_true q120
         have p121 : 0 ≤ (x9_3 : Int) := of_decide_eq_true asm
         have q121 : x9_3 < (l0.length : Int) := of_decide_eq_true asm
         obtain ⟨ad121, A121_1, c121_1, A121_2, c121_2, e121, hx121_0, hx121_1, hx121_2, hl121_1, hi121_1, hl121_2, hi121_2⟩ := at_T69 HR0.out x9_3 p121 q121
         have hw121_2 := hx121_2
         have hw121_1 := hx121_1
         have hw121_0 := hx121_0
         obtain rfl : ad112 = ad121 := (by injection e121)
         replace hx121_0 := (HB.out.cell (World.block_lt_of_cell? w _ hx121_0)).trans hx121_0
         replace hx121_1 := (HB.out.cell (World.block_lt_of_cell? w _ hx121_1)).trans hx121_1
         replace hx121_2 := (HB.out.cell (World.block_lt_of_cell? w _ hx121_2)).trans hx121_2
         have HR121_1 := Aside0.mk hi121_1
         have HC121_1 := Aside0.mk hl121_1
         clear hi121_1 hl121_1
         have HR121_2 := Aside0.mk hi121_2
         have HC121_2 := Aside0.mk hl121_2
         clear hi121_2 hl121_2
         replace p121 := eq_true p121
         replace q121 := eq_true q121
         have p123 : 0 ≤ (0 : Int) := (by omega)
         have q123 : 0 < (l0.length : Int) := of_decide_eq_true asm
         obtain ⟨ad123, A123_1, c123_1, A123_2, c123_2, e123, hx123_0, hx123_1, hx123_2, hl123_1, hi123_1, hl123_2, hi123_2⟩ := at_T69 HR0.out 0 p123 q123
         have hw123_2 := hx123_2
         (try rw [show ((0 : Int)).toNat = 0 from rfl] at hw123_2)
         (try rw [show 0 * 3 = 0 from rfl] at hw123_2)
         (try rw [Addr.add_zero'] at hw123_2)
         have hw123_1 := hx123_1
         (try rw [show ((0 : Int)).toNat = 0 from rfl] at hw123_1)
         (try rw [show 0 * 3 = 0 from rfl] at hw123_1)
         (try rw [Addr.add_zero'] at hw123_1)
         have hw123_0 := hx123_0
         (try rw [show ((0 : Int)).toNat = 0 from rfl] at hw123_0)
         (try rw [show 0 * 3 = 0 from rfl] at hw123_0)
         (try rw [Addr.add_zero'] at hw123_0)
         obtain rfl : ad112 = ad123 := (by injection e123)
         have qi123 : (0 < l0.length) = True := eq_true (by omega)
         (try rw [show ((0 : Int)).toNat = 0 from rfl] at hx123_0)
         (try rw [show 0 * 3 = 0 from rfl] at hx123_0)
         (try rw [Addr.add_zero'] at hx123_0)
         (try rw [show ((0 : Int)).toNat = 0 from rfl] at hx123_1)
         (try rw [show 0 * 3 = 0 from rfl] at hx123_1)
         (try rw [Addr.add_zero'] at hx123_1)
         (try rw [show ((0 : Int)).toNat = 0 from rfl] at hx123_2)
         (try rw [show 0 * 3 = 0 from rfl] at hx123_2)
         (try rw [Addr.add_zero'] at hx123_2)
         replace hx123_0 := (HB.out.cell (World.block_lt_of_cell? w _ hx123_0)).trans hx123_0
         replace hx123_1 := (HB.out.cell (World.block_lt_of_cell? w _ hx123_1)).trans hx123_1
         replace hx123_2 := (HB.out.cell (World.block_lt_of_cell? w _ hx123_2)).trans hx123_2
         have HR123_1 := Aside0.mk hi123_1
         have HC123_1 := Aside0.mk hl123_1
         clear hi123_1 hl123_1
         have HR123_2 := Aside0.mk hi123_2
         have HC123_2 := Aside0.mk hl123_2
         clear hi123_2 hl123_2
         replace p123 := eq_true p123
         replace q123 := eq_true q123
         have p124 : 0 ≤ (x7_1 : Int) := of_decide_eq_true asm
         have q124 : x7_1 < (l0.length : Int) := of_decide_eq_true asm
         obtain ⟨ad124, A124_1, c124_1, A124_2, c124_2, e124, hx124_0, hx124_1, hx124_2, hl124_1, hi124_1, hl124_2, hi124_2⟩ := at_T69 HR0.out x7_1 p124 q124
         have hw124_2 := hx124_2
         have hw124_1 := hx124_1
         have hw124_0 := hx124_0
         obtain rfl : ad112 = ad124 := (by injection e124)
         replace hx124_0 := (HB.out.cell (World.block_lt_of_cell? w _ hx124_0)).trans hx124_0
         replace hx124_1 := (HB.out.cell (World.block_lt_of_cell? w _ hx124_1)).trans hx124_1
         replace hx124_2 := (HB.out.cell (World.block_lt_of_cell? w _ hx124_2)).trans hx124_2
         have HR124_1 := Aside0.mk hi124_1
         have HC124_1 := Aside0.mk hl124_1
         clear hi124_1 hl124_1
         have HR124_2 := Aside0.mk hi124_2
         have HC124_2 := Aside0.mk hl124_2
         clear hi124_2 hl124_2
         replace p124 := eq_true p124
         replace q124 := eq_true q124
         have p126 : 0 ≤ (0 : Int) := (by omega)
         have q126 : 0 < (l0.length : Int) := of_decide_eq_true asm
         obtain ⟨ad126, A126_1, c126_1, A126_2, c126_2, e126, hx126_0, hx126_1, hx126_2, hl126_1, hi126_1, hl126_2, hi126_2⟩ := at_T69 HR0.out 0 p126 q126
         have hw126_2 := hx126_2
         (try rw [show ((0 : Int)).toNat = 0 from rfl] at hw126_2)
         (try rw [show 0 * 3 = 0 from rfl] at hw126_2)
         (try rw [Addr.add_zero'] at hw126_2)
         have hw126_1 := hx126_1
         (try rw [show ((0 : Int)).toNat = 0 from rfl] at hw126_1)
         (try rw [show 0 * 3 = 0 from rfl] at hw126_1)
         (try rw [Addr.add_zero'] at hw126_1)
         have hw126_0 := hx126_0
         (try rw [show ((0 : Int)).toNat = 0 from rfl] at hw126_0)
         (try rw [show 0 * 3 = 0 from rfl] at hw126_0)
         (try rw [Addr.add_zero'] at hw126_0)
         obtain rfl : ad112 = ad126 := (by injection e126)
         have qi126 : (0 < l0.length) = True := eq_true (by omega)
         (try rw [show ((0 : Int)).toNat = 0 from rfl] at hx126_0)
         (try rw [show 0 * 3 = 0 from rfl] at hx126_0)
         (try rw [Addr.add_zero'] at hx126_0)
         (try rw [show ((0 : Int)).toNat = 0 from rfl] at hx126_1)
         (try rw [show 0 * 3 = 0 from rfl] at hx126_1)
         (try rw [Addr.add_zero'] at hx126_1)
         (try rw [show ((0 : Int)).toNat = 0 from rfl] at hx126_2)
         (try rw [show 0 * 3 = 0 from rfl] at hx126_2)
         (try rw [Addr.add_zero'] at hx126_2)
         replace hx126_0 := (HB.out.cell (World.block_lt_of_cell? w _ hx126_0)).trans hx126_0
         replace hx126_1 := (HB.out.cell (World.block_lt_of_cell? w _ hx126_1)).trans hx126_1
         replace hx126_2 := (HB.out.cell (World.block_lt_of_cell? w _ hx126_2)).trans hx126_2
         have HR126_1 := Aside0.mk hi126_1
         have HC126_1 := Aside0.mk hl126_1
         clear hi126_1 hl126_1
         have HR126_2 := Aside0.mk hi126_2
         have HC126_2 := Aside0.mk hl126_2
         clear hi126_2 hl126_2
         replace p126 := eq_true p126
         replace q126 := eq_true q126
         have p127 : 0 ≤ (x9_3 : Int) := of_decide_eq_true asm
         have q127 : x9_3 < (l0.length : Int) := of_decide_eq_true asm
         obtain ⟨ad127, A127_1, c127_1, A127_2, c127_2, e127, hx127_0, hx127_1, hx127_2, hl127_1, hi127_1, hl127_2, hi127_2⟩ := at_T69 HR0.out x9_3 p127 q127
         have hw127_2 := hx127_2
         have hw127_1 := hx127_1
         have hw127_0 := hx127_0
         obtain rfl : ad112 = ad127 := (by injection e127)
         replace hx127_0 := (HB.out.cell (World.block_lt_of_cell? w _ hx127_0)).trans hx127_0
         replace hx127_1 := (HB.out.cell (World.block_lt_of_cell? w _ hx127_1)).trans hx127_1
         replace hx127_2 := (HB.out.cell (World.block_lt_of_cell? w _ hx127_2)).trans hx127_2
         have HR127_1 := Aside0.mk hi127_1
         have HC127_1 := Aside0.mk hl127_1
         clear hi127_1 hl127_1
         have HR127_2 := Aside0.mk hi127_2
         have HC127_2 := Aside0.mk hl127_2
         clear hi127_2 hl127_2
         replace p127 := eq_true p127
         replace q127 := eq_true q127
         refine st (S := fun w' => w'.cell? (ad112.add ((x7_1).toNat * 3)) = some (.bool ((rd_T69 l0 x7_1).f0)) ∧ w'.cell? ⟨(ad112.add ((x7_1).toNat * 3)).block, (ad112.add ((x7_1).toNat * 3)).off + 1, none⟩ = some (.slice A114_1 ((rd_T69 l0 x7_1).f1).length c114_1) ∧ w'.cell? ⟨(ad112.add ((x7_1).toNat * 3)).block, (ad112.add ((x7_1).toNat * 3)).off + 2, none⟩ = some (.slice A114_2 ((rd_T69 l0 x7_1).f2).length c114_2) ∧ w'.cell? (ad112.add ((x9_3).toNat * 3)) = some (.bool ((rd_T69 l0 x9_3).f0)) ∧ w'.cell? ⟨(ad112.add ((x9_3).toNat * 3)).block, (ad112.add ((x9_3).toNat * 3)).off + 1, none⟩ = some (.slice A115_1 ((rd_T69 l0 x9_3).f1).length c115_1) ∧ w'.cell? ⟨(ad112.add ((x9_3).toNat * 3)).block, (ad112.add ((x9_3).toNat * 3)).off + 2, none⟩ = some (.slice A115_2 ((rd_T69 l0 x9_3).f2).length c115_2) ∧ w'.cell? (ad112.add ((x9_3).toNat * 3)) = some (.bool ((rd_T69 l0 x9_3).f0)) ∧ w'.cell? ⟨(ad112.add ((x9_3).toNat * 3)).block, (ad112.add ((x9_3).toNat * 3)).off + 1, none⟩ = some (.slice A115_1 ((rd_T69 l0 x9_3).f1).length c115_1) ∧ w'.cell? ⟨(ad112.add ((x9_3).toNat * 3)).block, (ad112.add ((x9_3).toNat * 3)).off + 2, none⟩ = some (.slice A115_2 ((rd_T69 l0 x9_3).f2).length c115_2) ∧ w'.cell? (ad112.add ((x7_1).toNat * 3)) = some (.bool ((rd_T69 l0 x7_1).f0)) ∧ w'.cell? ⟨(ad112.add ((x7_1).toNat * 3)).block, (ad112.add ((x7_1).toNat * 3)).off + 1, none⟩ = some (.slice A114_1 ((rd_T69 l0 x7_1).f1).length c114_1) ∧ w'.cell? ⟨(ad112.add ((x7_1).toNat * 3)).block, (ad112.add ((x7_1).toNat * 3)).off + 2, none⟩ = some (.slice A114_2 ((rd_T69 l0 x7_1).f2).length c114_2) ∧ w'.cell? (ad112.add ((x7_1).toNat * 3)) = some (.bool ((rd_T69 l0 x7_1).f0)) ∧ w'.cell? ⟨(ad112.add ((x7_1).toNat * 3)).block, (ad112.add ((x7_1).toNat * 3)).off + 1, none⟩ = some (.slice A120_1 ((rd_T69 l0 x7_1).f1).length c120_1) ∧ w'.cell? ⟨(ad112.add ((x7_1).toNat * 3)).block, (ad112.add ((x7_1).toNat * 3)).off + 2, none⟩ = some (.slice A120_2 ((rd_T69 l0 x7_1).f2).length c120_2) ∧ w'.cell? (ad112.add ((x9_3).toNat * 3)) = some (.bool ((rd_T69 l0 x9_3).f0)) ∧ w'.cell? ⟨(ad112.add ((x9_3).toNat * 3)).block, (ad112.add ((x9_3).toNat * 3)).off + 1, none⟩ = some (.slice A121_1 ((rd_T69 l0 x9_3).f1).length c121_1) ∧ w'.cell? ⟨(ad112.add ((x9_3).toNat * 3)).block, (ad112.add ((x9_3).toNat * 3)).off + 2, none⟩ = some (.slice A121_2 ((rd_T69 l0 x9_3).f2).length c121_2) ∧ w'.cell? ad112 = some (.bool ((rd_T69 l0 0).f0)) ∧ w'.cell? ⟨ad112.block, ad112.off + 1, none⟩ = some (.slice A123_1 ((rd_T69 l0 0).f1).length c123_1) ∧ w'.cell? ⟨ad112.block, ad112.off + 2, none⟩ = some (.slice A123_2 ((rd_T69 l0 0).f2).length c123_2) ∧ w'.cell? (ad112.add ((x7_1).toNat * 3)) = some (.bool ((rd_T69 l0 x7_1).f0)) ∧ w'.cell? ⟨(ad112.add ((x7_1).toNat * 3)).block, (ad112.add ((x7_1).toNat * 3)).off + 1, none⟩ = some (.slice A124_1 ((rd_T69 l0 x7_1).f1).length c124_1) ∧ w'.cell? ⟨(ad112.add ((x7_1).toNat * 3)).block, (ad112.add ((x7_1).toNat * 3)).off + 2, none⟩ = some (.slice A124_2 ((rd_T69 l0 x7_1).f2).length c124_2) ∧ w'.cell? ad112 = some (.bool ((rd_T69 l0 0).f0)) ∧ w'.cell? ⟨ad112.block, ad112.off + 1, none⟩ = some (.slice A126_1 ((rd_T69 l0 0).f1).length c126_1) ∧ w'.cell? ⟨ad112.block, ad112.off + 2, none⟩ = some (.slice A126_2 ((rd_T69 l0 0).f2).length c126_2) ∧ w'.cell? (ad112.add ((x9_3).toNat * 3)) = some (.bool ((rd_T69 l0 x9_3).f0)) ∧ w'.cell? ⟨(ad112.add ((x9_3).toNat * 3)).block, (ad112.add ((x9_3).toNat * 3)).off + 1, none⟩ = some (.slice A127_1 ((rd_T69 l0 x9_3).f1).length c127_1) ∧ w'.cell? ⟨(ad112.add ((x9_3).toNat * 3)).block, (ad112.add ((x9_3).toNat * 3)).off + 2, none⟩ = some (.slice A127_2 ((rd_T69 l0 x9_3).f2).length c127_2)) 54 [] (tf 0 54) ⟨((HB.out.cell (World.block_lt_of_cell? w _ hw114_0)).trans hw114_0), ((HB.out.cell (World.block_lt_of_cell? w _ hw114_1)).trans hw114_1), ((HB.out.cell (World.block_lt_of_cell? w _ hw114_2)).trans hw114_2), ((HB.out.cell (World.block_lt_of_cell? w _ hw115_0)).trans hw115_0), ((HB.out.cell (World.block_lt_of_cell? w _ hw115_1)).trans hw115_1), ((HB.out.cell (World.block_lt_of_cell? w _ hw115_2)).trans hw115_2), ((HB.out.cell (World.block_lt_of_cell? w _ hw117_0)).trans hw117_0), ((HB.out.cell (World.block_lt_of_cell? w _ hw117_1)).trans hw117_1), ((HB.out.cell (World.block_lt_of_cell? w _ hw117_2)).trans hw117_2), ((HB.out.cell (World.block_lt_of_cell? w _ hw118_0)).trans hw118_0), ((HB.out.cell (World.block_lt_of_cell? w _ hw118_1)).trans hw118_1), ((HB.out.cell (World.block_lt_of_cell? w _ hw118_2)).trans hw118_2), ((HB.out.cell (World.block_lt_of_cell? w _ hw120_0)).trans hw120_0), ((HB.out.cell (World.block_lt_of_cell? w _ hw120_1)).trans hw120_1), ((HB.out.cell (World.block_lt_of_cell? w _ hw120_2)).trans hw120_2), ((HB.out.cell (World.block_lt_of_cell? w _ hw121_0)).trans hw121_0), ((HB.out.cell (World.block_lt_of_cell? w _ hw121_1)).trans hw121_1), ((HB.out.cell (World.block_lt_of_cell? w _ hw121_2)).trans hw121_2), ((HB.out.cell (World.block_lt_of_cell? w _ hw123_0)).trans hw123_0), ((HB.out.cell (World.block_lt_of_cell? w _ hw123_1)).trans hw123_1), ((HB.out.cell (World.block_lt_of_cell? w _ hw123_2)).trans hw123_2), ((HB.out.cell (World.block_lt_of_cell? w _ hw124_0)).trans hw124_0), ((HB.out.cell (World.block_lt_of_cell? w _ hw124_1)).trans hw124_1), ((HB.out.cell (World.block_lt_of_cell? w _ hw124_2)).trans hw124_2), ((HB.out.cell (World.block_lt_of_cell? w _ hw126_0)).trans hw126_0), ((HB.out.cell (World.block_lt_of_cell? w _ hw126_1)).trans hw126_1), ((HB.out.cell (World.block_lt_of_cell? w _ hw126_2)).trans hw126_2), ((HB.out.cell (World.block_lt_of_cell? w _ hw127_0)).trans hw127_0), ((HB.out.cell (World.block_lt_of_cell? w _ hw127_1)).trans hw127_1), ((HB.out.cell (World.block_lt_of_cell? w _ hw127_2)).trans hw127_2)⟩ (fun hHeld => ?_); refine with_tabW flyballlaw03_RatioMost.tab23 flyballlaw03_RatioMost.bits23 (fun HT_ HW_ => ?_)
         generalize wr.drew = w54 at HO_111001 HO_111002 BK110 HB HR114_1 HR114_2 HR115_1 HR115_2 HR117_1 HR117_2 HR118_1 HR118_2 HR120_1 HR120_2 HR121_1 HR121_2 HR123_1 HR123_2 HR124_1 HR124_2 HR126_1 HR126_2 HR127_1 HR127_2 hx114_0 hx114_1 hx114_2 hx115_0 hx115_1 hx115_2 hx117_0 hx117_1 hx117_2 hx118_0 hx118_1 hx118_2 hx120_0 hx120_1 hx120_2 hx121_0 hx121_1 hx121_2 hx123_0 hx123_1 hx123_2 hx124_0 hx124_1 hx124_2 hx126_0 hx126_1 hx126_2 hx127_0 hx127_1 hx127_2 hHeld ⊢
         refine pu 0 58 (tf 1 53) ?_
         refine pu 1 59 (tf 2 52) ?_
         refine pu 2 60 (tf 3 51) ?_
         refine pu 4 62 #[true, true, true, false, true, false, false, false, false, false, false, false, false, false, false, false, false, false, false, false, false, false, false, false, false, false, false, false, false, false, false, false, false, false, false, false, false, false, false, false, false, false, false, false, false, false, false, false, false, false, false, false, false, false] ?_
         refine pu 5 63 #[true, true, true, false, true, true, false, false, false, false, false, false, false, false, false, false, false, false, false, false, false, false, false, false, false, false, false, false, false, false, false, false, false, false, false, false, false, false, false, false, false, false, false, false, false, false, false, false, false, false, false, false, false, false] ?_
         refine pu 6 64 #[true, true, true, false, true, true, true, false, false, false, false, false, false, false, false, false, false, false, false, false, false, false, false, false, false, false, false, false, false, false, false, false, false, false, false, false, false, false, false, false, false, false, false, false, false, false, false, false, false, false, false, false, false, false] ?_
         refine pu 9 67 #[true, true, true, false, true, true, true, false, false, true, false, false, false, false, false, false, false, false, false, false, false, false, false, false, false, false, false, false, false, false, false, false, false, false, false, false, false, false, false, false, false, false, false, false, false, false, false, false, false, false, false, false, false, false] ?_
         refine pu 10 68 #[true, true, true, false, true, true, true, false, false, true, true, false, false, false, false, false, false, false, false, false, false, false, false, false, false, false, false, false, false, false, false, false, false, false, false, false, false, false, false, false, false, false, false, false, false, false, false, false, false, false, false, false, false, false] ?_
         refine pu 11 69 #[true, true, true, false, true, true, true, false, false, true, true, true, false, false, false, false, false, false, false, false, false, false, false, false, false, false, false, false, false, false, false, false, false, false, false, false, false, false, false, false, false, false, false, false, false, false, false, false, false, false, false, false, false, false] ?_
         refine pu 13 71 #[true, true, true, false, true, true, true, false, false, true, true, true, false, true, false, false, false, false, false, false, false, false, false, false, false, false, false, false, false, false, false, false, false, false, false, false, false, false, false, false, false, false, false, false, false, false, false, false, false, false, false, false, false, false] ?_
         refine pu 14 72 #[true, true, true, false, true, true, true, false, false, true, true, true, false, true, true, false, false, false, false, false, false, false, false, false, false, false, false, false, false, false, false, false, false, false, false, false, false, false, false, false, false, false, false, false, false, false, false, false, false, false, false, false, false, false] ?_
         refine pu 15 73 #[true, true, true, false, true, true, true, false, false, true, true, true, false, true, true, true, false, false, false, false, false, false, false, false, false, false, false, false, false, false, false, false, false, false, false, false, false, false, false, false, false, false, false, false, false, false, false, false, false, false, false, false, false, false] ?_
         refine tk 3 61 #[true, true, true, true, true, true, true, false, false, true, true, true, false, true, true, true, false, false, false, false, false, false, false, false, false, false, false, false, false, false, false, false, false, false, false, false, false, false, false, false, false, false, false, false, false, false, false, false, false, false, false, false, false, false] hHeld ?_
         refine tk 7 65 #[true, true, true, true, true, true, true, true, false, true, true, true, false, true, true, true, false, false, false, false, false, false, false, false, false, false, false, false, false, false, false, false, false, false, false, false, false, false, false, false, false, false, false, false, false, false, false, false, false, false, false, false, false, false] hHeld ?_
         refine tk 12 70 #[true, true, true, true, true, true, true, true, false, true, true, true, true, true, true, true, false, false, false, false, false, false, false, false, false, false, false, false, false, false, false, false, false, false, false, false, false, false, false, false, false, false, false, false, false, false, false, false, false, false, false, false, false, false] hHeld ?_
         refine tk 16 74 #[true, true, true, true, true, true, true, true, false, true, true, true, true, true, true, true, true, false, false, false, false, false, false, false, false, false, false, false, false, false, false, false, false, false, false, false, false, false, false, false, false, false, false, false, false, false, false, false, false, false, false, false, false, false] hHeld ?_
         refine on 8 (some 66) (tf 17 37) (fun K hK => ?_)
         refine gS Try.func58 #[.agg #[.bool ((rd_T69 l0 x7_1).f0), .slice A114_1 ((rd_T69 l0 x7_1).f1).length c114_1, .slice A114_2 ((rd_T69 l0 x7_1).f2).length c114_2], .agg #[.bool ((rd_T69 l0 x9_3).f0), .slice A115_1 ((rd_T69 l0 x9_3).f1).length c115_1, .slice A115_2 ((rd_T69 l0 x9_3).f2).length c115_2]] ?_
         with_reducible refine (ratio_R_Cmp.calls k3 ((rd_T69 l0 x7_1).f0) _ _ ((rd_T69 l0 x7_1).f1) _ _ ((rd_T69 l0 x7_1).f2) ((rd_T69 l0 x9_3).f0) _ _ ((rd_T69 l0 x9_3).f1) _ _ ((rd_T69 l0 x9_3).f2) t116 _ ?_ ?_ ?_ ?_ ?_ ?_ ?_ ?_ A38.out).mono ?_
         exact Kd.C_below HR114_1.out (bup HB.out)
         exact HC114_1.out
         exact Kd.C_below HR114_2.out (bup HB.out)
         exact HC114_2.out
         exact Kd.C_below HR115_1.out (bup HB.out)
         exact HC115_1.out
         exact Kd.C_below HR115_2.out (bup HB.out)
         exact HC115_2.out
         rintro e w55 ⟨rfl, hb⟩
         refine ⟨_, rfl, ?_⟩
         replace HO_111001 := vA HO_111001 hb
         replace HO_111002 := vA HO_111002 hb
         replace BK110 := kA BK110 hb
         replace HB := bS HB hb
         clear hb
         refine hK.out _ _ ⟨((HB.out.cell (World.block_lt_of_cell? w _ hw114_0)).trans hw114_0), ((HB.out.cell (World.block_lt_of_cell? w _ hw114_1)).trans hw114_1), ((HB.out.cell (World.block_lt_of_cell? w _ hw114_2)).trans hw114_2), ((HB.out.cell (World.block_lt_of_cell? w _ hw115_0)).trans hw115_0), ((HB.out.cell (World.block_lt_of_cell? w _ hw115_1)).trans hw115_1), ((HB.out.cell (World.block_lt_of_cell? w _ hw115_2)).trans hw115_2), ((HB.out.cell (World.block_lt_of_cell? w _ hw117_0)).trans hw117_0), ((HB.out.cell (World.block_lt_of_cell? w _ hw117_1)).trans hw117_1), ((HB.out.cell (World.block_lt_of_cell? w _ hw117_2)).trans hw117_2), ((HB.out.cell (World.block_lt_of_cell? w _ hw118_0)).trans hw118_0), ((HB.out.cell (World.block_lt_of_cell? w _ hw118_1)).trans hw118_1), ((HB.out.cell (World.block_lt_of_cell? w _ hw118_2)).trans hw118_2), ((HB.out.cell (World.block_lt_of_cell? w _ hw120_0)).trans hw120_0), ((HB.out.cell (World.block_lt_of_cell? w _ hw120_1)).trans hw120_1), ((HB.out.cell (World.block_lt_of_cell? w _ hw120_2)).trans hw120_2), ((HB.out.cell (World.block_lt_of_cell? w _ hw121_0)).trans hw121_0), ((HB.out.cell (World.block_lt_of_cell? w _ hw121_1)).trans hw121_1), ((HB.out.cell (World.block_lt_of_cell? w _ hw121_2)).trans hw121_2), ((HB.out.cell (World.block_lt_of_cell? w _ hw123_0)).trans hw123_0), ((HB.out.cell (World.block_lt_of_cell? w _ hw123_1)).trans hw123_1), ((HB.out.cell (World.block_lt_of_cell? w _ hw123_2)).trans hw123_2), ((HB.out.cell (World.block_lt_of_cell? w _ hw124_0)).trans hw124_0), ((HB.out.cell (World.block_lt_of_cell? w _ hw124_1)).trans hw124_1), ((HB.out.cell (World.block_lt_of_cell? w _ hw124_2)).trans hw124_2), ((HB.out.cell (World.block_lt_of_cell? w _ hw126_0)).trans hw126_0), ((HB.out.cell (World.block_lt_of_cell? w _ hw126_1)).trans hw126_1), ((HB.out.cell (World.block_lt_of_cell? w _ hw126_2)).trans hw126_2), ((HB.out.cell (World.block_lt_of_cell? w _ hw127_0)).trans hw127_0), ((HB.out.cell (World.block_lt_of_cell? w _ hw127_1)).trans hw127_1), ((HB.out.cell (World.block_lt_of_cell? w _ hw127_2)).trans hw127_2)⟩ (fun hHeld => nm ?_)
         clear hK K
         refine on 17 (some 75) (tf 18 36) (fun K hK => ?_)
         refine gS Try.func58 #[.agg #[.bool ((rd_T69 l0 x9_3).f0), .slice A115_1 ((rd_T69 l0 x9_3).f1).length c115_1, .slice A115_2 ((rd_T69 l0 x9_3).f2).length c115_2], .agg #[.bool ((rd_T69 l0 x7_1).f0), .slice A114_1 ((rd_T69 l0 x7_1).f1).length c114_1, .slice A114_2 ((rd_T69 l0 x7_1).f2).length c114_2]] ?_
         with_reducible refine (ratio_R_Cmp.calls k3 ((rd_T69 l0 x9_3).f0) _ _ ((rd_T69 l0 x9_3).f1) _ _ ((rd_T69 l0 x9_3).f2) ((rd_T69 l0 x7_1).f0) _ _ ((rd_T69 l0 x7_1).f1) _ _ ((rd_T69 l0 x7_1).f2) t119 _ ?_ ?_ ?_ ?_ ?_ ?_ ?_ ?_ A39.out).mono ?_
         exact Kd.C_below HR117_1.out (bup HB.out)
         exact HC117_1.out
         exact Kd.C_below HR117_2.out (bup HB.out)
         exact HC117_2.out
         exact Kd.C_below HR118_1.out (bup HB.out)
         exact HC118_1.out
         exact Kd.C_below HR118_2.out (bup HB.out)
         exact HC118_2.out
         rintro e w56 ⟨rfl, hb⟩
         refine ⟨_, rfl, ?_⟩
         replace HO_111001 := vA HO_111001 hb
         replace HO_111002 := vA HO_111002 hb
         replace BK110 := kA BK110 hb
         replace HB := bS HB hb
         clear hb
         refine hK.out _ _ ⟨((HB.out.cell (World.block_lt_of_cell? w _ hw114_0)).trans hw114_0), ((HB.out.cell (World.block_lt_of_cell? w _ hw114_1)).trans hw114_1), ((HB.out.cell (World.block_lt_of_cell? w _ hw114_2)).trans hw114_2), ((HB.out.cell (World.block_lt_of_cell? w _ hw115_0)).trans hw115_0), ((HB.out.cell (World.block_lt_of_cell? w _ hw115_1)).trans hw115_1), ((HB.out.cell (World.block_lt_of_cell? w _ hw115_2)).trans hw115_2), ((HB.out.cell (World.block_lt_of_cell? w _ hw117_0)).trans hw117_0), ((HB.out.cell (World.block_lt_of_cell? w _ hw117_1)).trans hw117_1), ((HB.out.cell (World.block_lt_of_cell? w _ hw117_2)).trans hw117_2), ((HB.out.cell (World.block_lt_of_cell? w _ hw118_0)).trans hw118_0), ((HB.out.cell (World.block_lt_of_cell? w _ hw118_1)).trans hw118_1), ((HB.out.cell (World.block_lt_of_cell? w _ hw118_2)).trans hw118_2), ((HB.out.cell (World.block_lt_of_cell? w _ hw120_0)).trans hw120_0), ((HB.out.cell (World.block_lt_of_cell? w _ hw120_1)).trans hw120_1), ((HB.out.cell (World.block_lt_of_cell? w _ hw120_2)).trans hw120_2), ((HB.out.cell (World.block_lt_of_cell? w _ hw121_0)).trans hw121_0), ((HB.out.cell (World.block_lt_of_cell? w _ hw121_1)).trans hw121_1), ((HB.out.cell (World.block_lt_of_cell? w _ hw121_2)).trans hw121_2), ((HB.out.cell (World.block_lt_of_cell? w _ hw123_0)).trans hw123_0), ((HB.out.cell (World.block_lt_of_cell? w _ hw123_1)).trans hw123_1), ((HB.out.cell (World.block_lt_of_cell? w _ hw123_2)).trans hw123_2), ((HB.out.cell (World.block_lt_of_cell? w _ hw124_0)).trans hw124_0), ((HB.out.cell (World.block_lt_of_cell? w _ hw124_1)).trans hw124_1), ((HB.out.cell (World.block_lt_of_cell? w _ hw124_2)).trans hw124_2), ((HB.out.cell (World.block_lt_of_cell? w _ hw126_0)).trans hw126_0), ((HB.out.cell (World.block_lt_of_cell? w _ hw126_1)).trans hw126_1), ((HB.out.cell (World.block_lt_of_cell? w _ hw126_2)).trans hw126_2), ((HB.out.cell (World.block_lt_of_cell? w _ hw127_0)).trans hw127_0), ((HB.out.cell (World.block_lt_of_cell? w _ hw127_1)).trans hw127_1), ((HB.out.cell (World.block_lt_of_cell? w _ hw127_2)).trans hw127_2)⟩ (fun hHeld => nm ?_)
         clear hK K
         refine pu 18 76 (tf 19 35) ?_
         refine pu 19 77 (tf 20 34) ?_
         refine pu 20 78 (tf 21 33) ?_
         refine pu 21 79 (tf 22 32) ?_
         refine pu 22 80 (tf 23 31) ?_
         refine pu 23 81 (tf 24 30) ?_
         refine pu 25 83 #[true, true, true, true, true, true, true, true, true, true, true, true, true, true, true, true, true, true, true, true, true, true, true, true, false, true, false, false, false, false, false, false, false, false, false, false, false, false, false, false, false, false, false, false, false, false, false, false, false, false, false, false, false, false] ?_
         refine pu 26 84 #[true, true, true, true, true, true, true, true, true, true, true, true, true, true, true, true, true, true, true, true, true, true, true, true, false, true, true, false, false, false, false, false, false, false, false, false, false, false, false, false, false, false, false, false, false, false, false, false, false, false, false, false, false, false] ?_
         refine pu 27 85 #[true, true, true, true, true, true, true, true, true, true, true, true, true, true, true, true, true, true, true, true, true, true, true, true, false, true, true, true, false, false, false, false, false, false, false, false, false, false, false, false, false, false, false, false, false, false, false, false, false, false, false, false, false, false] ?_
         refine tk 24 82 (tf 28 26) hHeld ?_
         refine tk 28 86 (tf 29 25) hHeld ?_
         refine on 29 (some 87) (tf 30 24) (fun K hK => ?_)
         refine gS Try.func58 #[.agg #[.bool ((rd_T69 l0 x7_1).f0), .slice A114_1 ((rd_T69 l0 x7_1).f1).length c114_1, .slice A114_2 ((rd_T69 l0 x7_1).f2).length c114_2], .agg #[.bool ((rd_T69 l0 x9_3).f0), .slice A115_1 ((rd_T69 l0 x9_3).f1).length c115_1, .slice A115_2 ((rd_T69 l0 x9_3).f2).length c115_2]] ?_
         with_reducible refine (ratio_R_Cmp.calls k3 ((rd_T69 l0 x7_1).f0) _ _ ((rd_T69 l0 x7_1).f1) _ _ ((rd_T69 l0 x7_1).f2) ((rd_T69 l0 x9_3).f0) _ _ ((rd_T69 l0 x9_3).f1) _ _ ((rd_T69 l0 x9_3).f2) t122 _ ?_ ?_ ?_ ?_ ?_ ?_ ?_ ?_ A41.out).mono ?_
         exact Kd.C_below HR114_1.out (bup HB.out)
         exact HC114_1.out
         exact Kd.C_below HR114_2.out (bup HB.out)
         exact HC114_2.out
         exact Kd.C_below HR115_1.out (bup HB.out)
         exact HC115_1.out
         exact Kd.C_below HR115_2.out (bup HB.out)
         exact HC115_2.out
         rintro e w57 ⟨rfl, hb⟩
         refine ⟨_, rfl, ?_⟩
         replace HO_111001 := vA HO_111001 hb
         replace HO_111002 := vA HO_111002 hb
         replace BK110 := kA BK110 hb
         replace HB := bS HB hb
         clear hb
         refine hK.out _ _ ⟨((HB.out.cell (World.block_lt_of_cell? w _ hw114_0)).trans hw114_0), ((HB.out.cell (World.block_lt_of_cell? w _ hw114_1)).trans hw114_1), ((HB.out.cell (World.block_lt_of_cell? w _ hw114_2)).trans hw114_2), ((HB.out.cell (World.block_lt_of_cell? w _ hw115_0)).trans hw115_0), ((HB.out.cell (World.block_lt_of_cell? w _ hw115_1)).trans hw115_1), ((HB.out.cell (World.block_lt_of_cell? w _ hw115_2)).trans hw115_2), ((HB.out.cell (World.block_lt_of_cell? w _ hw117_0)).trans hw117_0), ((HB.out.cell (World.block_lt_of_cell? w _ hw117_1)).trans hw117_1), ((HB.out.cell (World.block_lt_of_cell? w _ hw117_2)).trans hw117_2), ((HB.out.cell (World.block_lt_of_cell? w _ hw118_0)).trans hw118_0), ((HB.out.cell (World.block_lt_of_cell? w _ hw118_1)).trans hw118_1), ((HB.out.cell (World.block_lt_of_cell? w _ hw118_2)).trans hw118_2), ((HB.out.cell (World.block_lt_of_cell? w _ hw120_0)).trans hw120_0), ((HB.out.cell (World.block_lt_of_cell? w _ hw120_1)).trans hw120_1), ((HB.out.cell (World.block_lt_of_cell? w _ hw120_2)).trans hw120_2), ((HB.out.cell (World.block_lt_of_cell? w _ hw121_0)).trans hw121_0), ((HB.out.cell (World.block_lt_of_cell? w _ hw121_1)).trans hw121_1), ((HB.out.cell (World.block_lt_of_cell? w _ hw121_2)).trans hw121_2), ((HB.out.cell (World.block_lt_of_cell? w _ hw123_0)).trans hw123_0), ((HB.out.cell (World.block_lt_of_cell? w _ hw123_1)).trans hw123_1), ((HB.out.cell (World.block_lt_of_cell? w _ hw123_2)).trans hw123_2), ((HB.out.cell (World.block_lt_of_cell? w _ hw124_0)).trans hw124_0), ((HB.out.cell (World.block_lt_of_cell? w _ hw124_1)).trans hw124_1), ((HB.out.cell (World.block_lt_of_cell? w _ hw124_2)).trans hw124_2), ((HB.out.cell (World.block_lt_of_cell? w _ hw126_0)).trans hw126_0), ((HB.out.cell (World.block_lt_of_cell? w _ hw126_1)).trans hw126_1), ((HB.out.cell (World.block_lt_of_cell? w _ hw126_2)).trans hw126_2), ((HB.out.cell (World.block_lt_of_cell? w _ hw127_0)).trans hw127_0), ((HB.out.cell (World.block_lt_of_cell? w _ hw127_1)).trans hw127_1), ((HB.out.cell (World.block_lt_of_cell? w _ hw127_2)).trans hw127_2)⟩ (fun hHeld => nm ?_)
         clear hK K
         refine pu 30 88 (tf 31 23) ?_
         refine pu 31 89 (tf 32 22) ?_
         refine pu 32 90 (tf 33 21) ?_
         refine pu 33 91 (tf 34 20) ?_
         refine pu 35 93 #[true, true, true, true, true, true, true, true, true, true, true, true, true, true, true, true, true, true, true, true, true, true, true, true, true, true, true, true, true, true, true, true, true, true, false, true, false, false, false, false, false, false, false, false, false, false, false, false, false, false, false, false, false, false] ?_
         refine pu 36 94 #[true, true, true, true, true, true, true, true, true, true, true, true, true, true, true, true, true, true, true, true, true, true, true, true, true, true, true, true, true, true, true, true, true, true, false, true, true, false, false, false, false, false, false, false, false, false, false, false, false, false, false, false, false, false] ?_
         refine pu 37 95 #[true, true, true, true, true, true, true, true, true, true, true, true, true, true, true, true, true, true, true, true, true, true, true, true, true, true, true, true, true, true, true, true, true, true, false, true, true, true, false, false, false, false, false, false, false, false, false, false, false, false, false, false, false, false] ?_
         refine tk 34 92 (tf 38 16) hHeld ?_
         refine tk 38 96 (tf 39 15) hHeld ?_
         refine on 39 (some 97) (tf 40 14) (fun K hK => ?_)
         refine gS Try.func58 #[.agg #[.bool ((rd_T69 l0 0).f0), .slice A123_1 ((rd_T69 l0 0).f1).length c123_1, .slice A123_2 ((rd_T69 l0 0).f2).length c123_2], .agg #[.bool ((rd_T69 l0 x7_1).f0), .slice A114_1 ((rd_T69 l0 x7_1).f1).length c114_1, .slice A114_2 ((rd_T69 l0 x7_1).f2).length c114_2]] ?_
         with_reducible refine (ratio_R_Cmp.calls k3 ((rd_T69 l0 0).f0) _ _ ((rd_T69 l0 0).f1) _ _ ((rd_T69 l0 0).f2) ((rd_T69 l0 x7_1).f0) _ _ ((rd_T69 l0 x7_1).f1) _ _ ((rd_T69 l0 x7_1).f2) t125 _ ?_ ?_ ?_ ?_ ?_ ?_ ?_ ?_ A44.out).mono ?_
         exact Kd.C_below HR123_1.out (bup HB.out)
         exact HC123_1.out
         exact Kd.C_below HR123_2.out (bup HB.out)
         exact HC123_2.out
         exact Kd.C_below HR114_1.out (bup HB.out)
         exact HC114_1.out
         exact Kd.C_below HR114_2.out (bup HB.out)
         exact HC114_2.out
         rintro e w58 ⟨rfl, hb⟩
         refine ⟨_, rfl, ?_⟩
         replace HO_111001 := vA HO_111001 hb
         replace HO_111002 := vA HO_111002 hb
         replace BK110 := kA BK110 hb
         replace HB := bS HB hb
         clear hb
         refine hK.out _ _ ⟨((HB.out.cell (World.block_lt_of_cell? w _ hw114_0)).trans hw114_0), ((HB.out.cell (World.block_lt_of_cell? w _ hw114_1)).trans hw114_1), ((HB.out.cell (World.block_lt_of_cell? w _ hw114_2)).trans hw114_2), ((HB.out.cell (World.block_lt_of_cell? w _ hw115_0)).trans hw115_0), ((HB.out.cell (World.block_lt_of_cell? w _ hw115_1)).trans hw115_1), ((HB.out.cell (World.block_lt_of_cell? w _ hw115_2)).trans hw115_2), ((HB.out.cell (World.block_lt_of_cell? w _ hw117_0)).trans hw117_0), ((HB.out.cell (World.block_lt_of_cell? w _ hw117_1)).trans hw117_1), ((HB.out.cell (World.block_lt_of_cell? w _ hw117_2)).trans hw117_2), ((HB.out.cell (World.block_lt_of_cell? w _ hw118_0)).trans hw118_0), ((HB.out.cell (World.block_lt_of_cell? w _ hw118_1)).trans hw118_1), ((HB.out.cell (World.block_lt_of_cell? w _ hw118_2)).trans hw118_2), ((HB.out.cell (World.block_lt_of_cell? w _ hw120_0)).trans hw120_0), ((HB.out.cell (World.block_lt_of_cell? w _ hw120_1)).trans hw120_1), ((HB.out.cell (World.block_lt_of_cell? w _ hw120_2)).trans hw120_2), ((HB.out.cell (World.block_lt_of_cell? w _ hw121_0)).trans hw121_0), ((HB.out.cell (World.block_lt_of_cell? w _ hw121_1)).trans hw121_1), ((HB.out.cell (World.block_lt_of_cell? w _ hw121_2)).trans hw121_2), ((HB.out.cell (World.block_lt_of_cell? w _ hw123_0)).trans hw123_0), ((HB.out.cell (World.block_lt_of_cell? w _ hw123_1)).trans hw123_1), ((HB.out.cell (World.block_lt_of_cell? w _ hw123_2)).trans hw123_2), ((HB.out.cell (World.block_lt_of_cell? w _ hw124_0)).trans hw124_0), ((HB.out.cell (World.block_lt_of_cell? w _ hw124_1)).trans hw124_1), ((HB.out.cell (World.block_lt_of_cell? w _ hw124_2)).trans hw124_2), ((HB.out.cell (World.block_lt_of_cell? w _ hw126_0)).trans hw126_0), ((HB.out.cell (World.block_lt_of_cell? w _ hw126_1)).trans hw126_1), ((HB.out.cell (World.block_lt_of_cell? w _ hw126_2)).trans hw126_2), ((HB.out.cell (World.block_lt_of_cell? w _ hw127_0)).trans hw127_0), ((HB.out.cell (World.block_lt_of_cell? w _ hw127_1)).trans hw127_1), ((HB.out.cell (World.block_lt_of_cell? w _ hw127_2)).trans hw127_2)⟩ (fun hHeld => nm ?_)
         clear hK K
         refine pu 40 98 (tf 41 13) ?_
         refine pu 41 99 (tf 42 12) ?_
         refine pu 42 100 (tf 43 11) ?_
         refine pu 43 101 (tf 44 10) ?_
         refine pu 44 102 (tf 45 9) ?_
         refine pu 46 104 #[true, true, true, true, true, true, true, true, true, true, true, true, true, true, true, true, true, true, true, true, true, true, true, true, true, true, true, true, true, true, true, true, true, true, true, true, true, true, true, true, true, true, true, true, true, false, true, false, false, false, false, false, false, false] ?_
         refine pu 47 105 #[true, true, true, true, true, true, true, true, true, true, true, true, true, true, true, true, true, true, true, true, true, true, true, true, true, true, true, true, true, true, true, true, true, true, true, true, true, true, true, true, true, true, true, true, true, false, true, true, false, false, false, false, false, false] ?_
         refine pu 48 106 #[true, true, true, true, true, true, true, true, true, true, true, true, true, true, true, true, true, true, true, true, true, true, true, true, true, true, true, true, true, true, true, true, true, true, true, true, true, true, true, true, true, true, true, true, true, false, true, true, true, false, false, false, false, false] ?_
         refine tk 45 103 (tf 49 5) hHeld ?_
         refine tk 49 107 (tf 50 4) hHeld ?_
         refine on 50 (some 108) (tf 51 3) (fun K hK => ?_)
         refine gS Try.func58 #[.agg #[.bool ((rd_T69 l0 0).f0), .slice A123_1 ((rd_T69 l0 0).f1).length c123_1, .slice A123_2 ((rd_T69 l0 0).f2).length c123_2], .agg #[.bool ((rd_T69 l0 x9_3).f0), .slice A115_1 ((rd_T69 l0 x9_3).f1).length c115_1, .slice A115_2 ((rd_T69 l0 x9_3).f2).length c115_2]] ?_
         with_reducible refine (ratio_R_Cmp.calls k3 ((rd_T69 l0 0).f0) _ _ ((rd_T69 l0 0).f1) _ _ ((rd_T69 l0 0).f2) ((rd_T69 l0 x9_3).f0) _ _ ((rd_T69 l0 x9_3).f1) _ _ ((rd_T69 l0 x9_3).f2) t128 _ ?_ ?_ ?_ ?_ ?_ ?_ ?_ ?_ A46.out).mono ?_
         exact Kd.C_below HR123_1.out (bup HB.out)
         exact HC123_1.out
         exact Kd.C_below HR123_2.out (bup HB.out)
         exact HC123_2.out
         exact Kd.C_below HR115_1.out (bup HB.out)
         exact HC115_1.out
         exact Kd.C_below HR115_2.out (bup HB.out)
         exact HC115_2.out
         rintro e w59 ⟨rfl, hb⟩
         refine ⟨_, rfl, ?_⟩
         replace HO_111001 := vA HO_111001 hb
         replace HO_111002 := vA HO_111002 hb
         replace BK110 := kA BK110 hb
         replace HB := bS HB hb
         clear hb
         refine hK.out _ _ ⟨((HB.out.cell (World.block_lt_of_cell? w _ hw114_0)).trans hw114_0), ((HB.out.cell (World.block_lt_of_cell? w _ hw114_1)).trans hw114_1), ((HB.out.cell (World.block_lt_of_cell? w _ hw114_2)).trans hw114_2), ((HB.out.cell (World.block_lt_of_cell? w _ hw115_0)).trans hw115_0), ((HB.out.cell (World.block_lt_of_cell? w _ hw115_1)).trans hw115_1), ((HB.out.cell (World.block_lt_of_cell? w _ hw115_2)).trans hw115_2), ((HB.out.cell (World.block_lt_of_cell? w _ hw117_0)).trans hw117_0), ((HB.out.cell (World.block_lt_of_cell? w _ hw117_1)).trans hw117_1), ((HB.out.cell (World.block_lt_of_cell? w _ hw117_2)).trans hw117_2), ((HB.out.cell (World.block_lt_of_cell? w _ hw118_0)).trans hw118_0), ((HB.out.cell (World.block_lt_of_cell? w _ hw118_1)).trans hw118_1), ((HB.out.cell (World.block_lt_of_cell? w _ hw118_2)).trans hw118_2), ((HB.out.cell (World.block_lt_of_cell? w _ hw120_0)).trans hw120_0), ((HB.out.cell (World.block_lt_of_cell? w _ hw120_1)).trans hw120_1), ((HB.out.cell (World.block_lt_of_cell? w _ hw120_2)).trans hw120_2), ((HB.out.cell (World.block_lt_of_cell? w _ hw121_0)).trans hw121_0), ((HB.out.cell (World.block_lt_of_cell? w _ hw121_1)).trans hw121_1), ((HB.out.cell (World.block_lt_of_cell? w _ hw121_2)).trans hw121_2), ((HB.out.cell (World.block_lt_of_cell? w _ hw123_0)).trans hw123_0), ((HB.out.cell (World.block_lt_of_cell? w _ hw123_1)).trans hw123_1), ((HB.out.cell (World.block_lt_of_cell? w _ hw123_2)).trans hw123_2), ((HB.out.cell (World.block_lt_of_cell? w _ hw124_0)).trans hw124_0), ((HB.out.cell (World.block_lt_of_cell? w _ hw124_1)).trans hw124_1), ((HB.out.cell (World.block_lt_of_cell? w _ hw124_2)).trans hw124_2), ((HB.out.cell (World.block_lt_of_cell? w _ hw126_0)).trans hw126_0), ((HB.out.cell (World.block_lt_of_cell? w _ hw126_1)).trans hw126_1), ((HB.out.cell (World.block_lt_of_cell? w _ hw126_2)).trans hw126_2), ((HB.out.cell (World.block_lt_of_cell? w _ hw127_0)).trans hw127_0), ((HB.out.cell (World.block_lt_of_cell? w _ hw127_1)).trans hw127_1), ((HB.out.cell (World.block_lt_of_cell? w _ hw127_2)).trans hw127_2)⟩ (fun hHeld => nm ?_)
         clear hK K
         refine pu 51 109 (tf 52 2) ?_
         refine pu 52 110 (tf 53 1) ?_
         refine pu 53 111 (tf 54 0) ?_
         refine done_ (done_of HT_.out (by kernel_rfl)) ?_
         try go_wp2
         go_roundg k3
         case measure => have := HK1.out; have := HJ29.out; have := HK3.out; omega
         case rel => exact ⟨(wrap64 (x9_3 + 1)), rS, H', ⟨by have := HK1.out; have := HJ29.out; have := HK3.out; omega⟩, ⟨vup HO_111001.out⟩, ⟨vup HO_111002.out⟩, ⟨by exact kU BK110⟩, ⟨hB⟩⟩
  ·replace c7 := Bool.eq_false_iff.mpr c7
   subst c7
   have H1 : (some true) = some r := by rw [if_neg (show ¬ (false = true) by decide)] at H; exact H
   clear H
   have H := H1
   clear H1
   obtain rfl := Option.some.inj H
   go_enter Try.func8, Try.ntmps8
   go_wp2_with (first | ((with_reducible refine gc 54 rfl ?_); refine gL 10 Try.func54 #[] ?_; (with_reducible refine (flyballlaw03_works.calls k  true _ A2.out).mono ?_); rintro e w73 ⟨rfl, hb⟩; refine ⟨_, rfl, ?_⟩; replace HB := bA HB hb; clear hb) | ((with_reducible refine gc 55 rfl ?_); refine gL 18 Try.func55 #[.slice A0 l0.length c0] ?_; (with_reducible refine (flyballlaw03_small.calls k _ _ l0 false _ ?_ ?_ A6.out).mono ?_); exact Kd.C_below HR0.out (bup HB.out); exact HC0.out; rintro e w' ⟨rfl, ⟨nd, rfl⟩⟩; refine ⟨_, rfl, ?_⟩))
   go_ret
   exact ⟨er, bup HB.out⟩
 ·replace c3 := Bool.eq_false_iff.mpr c3
  subst c3
  have H1 : (some false) = some r := by rw [if_neg (show ¬ (false = true) by decide)] at H; exact H
  clear H
  have H := H1
  clear H1
  obtain rfl := Option.some.inj H
  go_enter Try.func8, Try.ntmps8
  go_wp2_with (first | ((with_reducible refine gc 54 rfl ?_); refine gL 10 Try.func54 #[] ?_; (with_reducible refine (flyballlaw03_works.calls k  false _ A2.out).mono ?_); rintro e w74 ⟨rfl, hb⟩; refine ⟨_, rfl, ?_⟩; replace HB := bA HB hb; clear hb))
  go_ret
  exact ⟨er, bup HB.out⟩
end Go.Proofs.Ytagbnkbhobmgjaa.Fn
end
