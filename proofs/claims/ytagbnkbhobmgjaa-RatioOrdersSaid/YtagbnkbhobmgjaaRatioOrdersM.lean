/- How rational numbers compare, their signs, what they are without these, how long they are, and their digits, are just what the document says. Part 13 of 20. -/
import Derived.Test.YtagbnkbhobmgjaaRatioOrdersE
import Derived.Test.YtagbnkbhobmgjaaRatioOrdersC
section
namespace Go.Proofs.Ytagbnkbhobmgjaa.Fn
open Go.RowKit Go.Proofs.YtagbnkbhobmgjaaW.PrintWords Go.Proofs.YtagbnkbhobmgjaaW.PrintLast Go.Proofs.YtagbnkbhobmgjaaW.PrintMore
attribute [local go_sem] max2_int min2_int max_two min_two max_three min_three max_four min_four   -- for this text's walks alone
set_option linter.unusedVariables false
set_option linter.unusedSimpArgs false
def flyballref03_trim.f (k : Nat) (l0 : List Bool) : Option (List Bool) := (flyballref01_Len.f k l0).bind fun t101 => (if 0 ≤ t101 then (if t101 ≤ (l0.length : Int) then (some (l0.take (t101 : Int).toNat)) else (none)) else (none))
set_option maxHeartbeats 8000000 in
set_option maxRecDepth 100000 in
theorem flyballref03_trim.calls (k : Nat) (P0_ : Nat → Prop) (A0 : Option Addr) (c0 : Nat) (l0 : List Bool) (r : List Bool) (w : World) (hs0 : Kd.V Kd.bool 4 w w.heap.size (fun k_ => P0_ k_) (.slice A0 l0.length c0) l0) (H : flyballref03_trim.f k l0 = some r) :
  Calls Try.prog 127 #[.slice A0 l0.length c0] w fun e w' => ∃ v0_ : Value, e = .returned (v0_) ∧ Kd.V Kd.bool 4 w' w.heap.size (fun k_ => (P0_ k_ ∨ w.heap.size ≤ k_)) v0_ r ∧ Below w.heap.size w w' := by
 have HO0 := Aside0.mk (show Kd.V Kd.bool 4 w w.heap.size (fun k_ => (P0_ k_ ∨ w.heap.size ≤ k_)) (.slice A0 l0.length c0) l0 from Kd.V_mono hs0 (fun k_ hk => .inl hk))
 have HB := Aside0.mk (Below.refl w.heap.size w)
 unfold flyballref03_trim.f at H
 replace H := bi H
 obtain ⟨t101, A2, H⟩ := H
 replace H := iS H
 obtain ⟨c3, H⟩ := H
 have c3b0 := eq_true c3
 have c3b1 : decide (0 ≤ t101) = true := decide_eq_true c3
 clear c3
 replace H := iS H
 obtain ⟨c4, H⟩ := H
 have c4b0 := eq_true c4
 have c4b1 : decide (t101 ≤ (l0.length : Int)) = true := decide_eq_true c4
 clear c4
 obtain ⟨y102, hy102⟩ : ∃ y_ : List Bool, y_ = (l0.take (t101 : Int).toNat) := ⟨_, rfl⟩
 replace H : (some y102) = some r := by first | (rw [hy102]; with_reducible exact H) | (have H2_ := (Option.bind_some _ _).symm.trans H; rw [hy102]; with_reducible exact H2_) | (have H2_ := (Option.bind_some _ _).symm.trans H; with_reducible exact H2_) | with_reducible exact H | (rw [hy102]; exact H) | exact H
 have Ny102 := Aside0.mk hy102
 clear hy102
 obtain rfl := Option.some.inj H
 go_enter Try.func127, Try.ntmps127
 go_wp2_with (first | ((with_reducible refine gc 53 rfl ?_); refine gL 5 Try.func53 #[.slice A0 l0.length c0] ?_; (with_reducible refine (flyballref01_Len.calls k _ _ l0 t101 _ ?_ ?_ A2.out).mono ?_); exact cup ((Kd.V_reads' HO0.out).2.2); exact (Kd.V_reads' HO0.out).2.1; rintro e w' ⟨rfl, ⟨nd, rfl⟩⟩; refine ⟨_, rfl, ?_⟩; have q5 : (t101 : Int) ≤ ((l0.length : Int) : Int) := of_decide_eq_true asm; obtain ⟨i05, hi05, _, hsz5, _⟩ := info_parts info4; have hroom5 : l0.length ≤ c0 := (Kd.V_reads' HO0.out).2.1; have hC5 : Kd.F Kd.bool _ _ A0 l0.length l0 := (Kd.V_at (base := w.heap.size) HO0.out).2.2; have hcut5 := cut_to (P := Try.prog) 26 4 .i64 Try.underlying26 hi05 A0 l0.length c0 t101 (of_decide_eq_true asm) q5 hroom5; have hr5 := Kd.F_take (m := (t101 : Int).toNat) hC5 (by omega); have hy5 : y102.length = (t101 : Int).toNat := (by rw [Ny102.out, List.length_take]; omega); rw [← Ny102.out] at hr5; rw [← hy5] at hcut5; have HO106 := Aside0.mk (show Kd.V Kd.bool 4 _ w.heap.size _ (.slice A0 y102.length c0) y102 from Kd.V_mk (by omega) hr5); have HC106 := Aside0.mk (show y102.length ≤ c0 from by omega); clear hr5 hC5 hroom5 hi05 hsz5; have KY5 := Aside0.mk hy5; clear hy5; replace q5 := eq_true q5))
 go_ret
 exact ⟨_, er, vup HO106.out, bup HB.out⟩
def flyballref03_one.f  : Option (List Bool) := some (([true] : List Bool))
set_option maxHeartbeats 8000000 in
set_option maxRecDepth 100000 in
theorem flyballref03_one.calls  (r : List Bool) (w : World) (h : flyballref03_one.f  = some r) :
  Calls Try.prog 128 #[] w fun e w' => ∃ v0_ : Value, e = .returned (v0_) ∧ Kd.R Kd.bool 4 w' w.heap.size (fun _ => True) v0_ r ∧ Below w.heap.size w w' := by
 have HB := Aside0.mk (Below.refl w.heap.size w)
 have H : (some (([true] : List Bool))) = some r := h
 clear h
 obtain ⟨y101, hy101⟩ : ∃ y_ : List Bool, y_ = (([true] : List Bool)) := ⟨_, rfl⟩
 replace H : (some y101) = some r := by first | (rw [hy101]; with_reducible exact H) | (have H2_ := (Option.bind_some _ _).symm.trans H; rw [hy101]; with_reducible exact H2_) | (have H2_ := (Option.bind_some _ _).symm.trans H; with_reducible exact H2_) | with_reducible exact H | (rw [hy101]; exact H) | exact H
 have Ny101 := Aside0.mk hy101
 clear hy101
 obtain rfl := Option.some.inj H
 go_enter Try.func128, Try.ntmps128
 go_wp2_with (first | ((with_reducible refine gate_dst (N := 1) rfl ?_); refine Kd.R_lit Kd.bool _ 4 ?hg (N := 1) ?hd (xs := ([true] : List Bool)) (inner := [.bool true]) (ok := fun _ => True) (okp := fun _ => True) ?hr ?hp (fun _ hk => hk) trivial (Below.refl _ _) (Nat.le_refl _) (by simp) ?_; (case hd => rfl); (case hg => rfl); (case hr => first | (go_simp; done) | (go_simp; rfl)); (case hp => exact (Reps.one (show Kd.M Kd.bool _ _ _ true [.bool true] from rfl) (Reps.none _ _))); intro v102 w1 ho2 hb hg_ hnew_; clear hg_ hnew_; (first | rw [← Ny101.out] at ho2 | (simp only [Int.reduceToNat] at ho2; rw [← Ny101.out] at ho2)); have n0_ := Aside0.mk (Kd.R_lower ho2 (below_size (by repeat (first | (with_reducible first | exact HB.out | apply below_alloc | apply pw_below_drewN | apply below_drew1) | exact HB.out)))); have n1_ := Aside0.mk (below_step (by repeat (first | (with_reducible first | exact HB.out | apply below_alloc | apply pw_below_drewN | apply below_drew1) | exact HB.out)) hb); clear HB; have HO103 := n0_; have HB := n1_; clear n0_ n1_; clear hb ho2))
 go_ret
 exact ⟨_, by first | rfl | (simp [errW_none, errW_some] <;> rfl) | (simp [*, errW_none, errW_some] <;> rfl), by (with_reducible repeat (first | apply Kd.R_alloc | apply Kd.R_drewN | apply Kd.R_drew)); exact HO103.out, by repeat (first | (with_reducible first | exact HB.out | apply below_alloc | apply pw_below_drewN | apply below_drew1) | exact HB.out)⟩
def flyballref03_Low.j0 : Nat → Bool → List Bool → List Bool → Bool → Option (Bool × List Bool × List Bool)
 | 0, _, _, _, _ => none
 | k + 1, x0, x7, x8, x25 => if x25 = true then ((flyballref03_one.f).bind fun t108 => (some (false, ([] : List Bool), t108))) else ((flyballref02_Gcd.f k x7 x8).bind fun t111 => ((flyballref01_Div.f k x7 t111).bind fun bt114 => ((flyballref01_Div.f k x8 t111).bind fun bt120 => ((flyballref03_trim.f k bt114.1).bind fun t126 => ((flyballref03_trim.f k bt120.1).bind fun t129 => (some (x0, t126, t129)))))))
def flyballref03_Low.f (k : Nat) (a0 : Bool) (l1 : List Bool) (l2 : List Bool) : Option (Bool × List Bool × List Bool) := (flyballref03_trim.f k l1).bind fun t102 => ((flyballref03_trim.f k l2).bind fun t105 => (if (t102.length : Int) = 0 then (flyballref03_Low.j0 k a0 t102 t105 true) else (flyballref03_Low.j0 k a0 t102 t105 ((t105.length : Int) == 0))))
set_option maxHeartbeats 8000000 in
set_option maxRecDepth 100000 in
theorem flyballref03_Low.calls (k : Nat) (a0 : Bool) (P1_ : Nat → Prop) (A1 : Option Addr) (c1 : Nat) (l1 : List Bool) (P2_ : Nat → Prop) (A2 : Option Addr) (c2 : Nat) (l2 : List Bool) (r1 : Bool) (r2 : List Bool) (r3 : List Bool) (w : World) (hs1 : Kd.V Kd.bool 4 w w.heap.size (fun k_ => P1_ k_) (.slice A1 l1.length c1) l1) (hs2 : Kd.V Kd.bool 4 w w.heap.size (fun k_ => P2_ k_) (.slice A2 l2.length c2) l2) (H : flyballref03_Low.f k a0 l1 l2 = some (r1, r2, r3)) :
  Calls Try.prog 96 #[.bool a0, .slice A1 l1.length c1, .slice A2 l2.length c2] w fun e w' => ∃ v1_ v2_ : Value, e = .returned (.agg #[.bool r1, v1_, v2_]) ∧ Kd.V Kd.bool 4 w' w.heap.size (fun k_ => ((P1_ k_ ∨ P2_ k_) ∨ w.heap.size ≤ k_)) v1_ r2 ∧ Kd.V Kd.bool 4 w' w.heap.size (fun k_ => ((P1_ k_ ∨ P2_ k_) ∨ w.heap.size ≤ k_)) v2_ r3 ∧ Below w.heap.size w w' := by
 have hu92 := Try.underlying92
 have HO1 := Aside0.mk (show Kd.V Kd.bool 4 w w.heap.size (fun k_ => ((P1_ k_ ∨ P2_ k_) ∨ w.heap.size ≤ k_)) (.slice A1 l1.length c1) l1 from Kd.V_mono hs1 (fun k_ hk => .inl (.inl hk)))
 have HO2 := Aside0.mk (show Kd.V Kd.bool 4 w w.heap.size (fun k_ => ((P1_ k_ ∨ P2_ k_) ∨ w.heap.size ≤ k_)) (.slice A2 l2.length c2) l2 from Kd.V_mono hs2 (fun k_ hk => .inl (.inr hk)))
 have HB := Aside0.mk (Below.refl w.heap.size w)
 unfold flyballref03_Low.f at H
 replace H := bi H
 obtain ⟨t102, A4, H⟩ := H
 replace H := bi H
 obtain ⟨t105, A5, H⟩ := H
 have HC6 := Aside0.mk H
 clear H
 go_enter Try.func96, Try.ntmps96
 go_upto_region 3 with (first | ((with_reducible refine gd 6 rfl ?_); (try (refine gate_guard (by rfl) ?_; dsimp only)); refine box_event ?hg (N := 6) ?hd (cs := #[.bool false, .slice none 0 0, .slice none 0 0]) (t := 92) ?hr ?_; (case hd => rfl); (case hg => rfl); (case hr => first | (go_simp; done) | (go_simp; rfl)); intro gb101 hg w7 hbox hb; replace HO1 := vE HO1 hg hb; replace HO2 := vE HO2 hg hb; have BK101 := Aside0.mk hbox; have GW101 := gB hg HB; have GE101 := gB hg HB; replace HB := bA HB hb; clear hb hbox hg) | ((with_reducible refine gc 127 rfl ?_); refine gL 15 Try.func127 #[.slice A1 l1.length c1] ?_; (with_reducible refine (flyballref03_trim.calls k (fun k_ => (((P1_ k_ ∨ P2_ k_) ∨ w.heap.size ≤ k_) ∧ k_ ≠ gb101)) _ _ l1 t102 _ ?_ A4.out).mono ?_); exact HO1.out; rintro e w8 ⟨v103, rfl, ho0, hb⟩; refine ⟨_, rfl, ?_⟩; replace HO1 := vA HO1 hb; replace HO2 := vA HO2 hb; have HO104 := lw HB (fun k_ => ((P1_ k_ ∨ P2_ k_) ∨ w.heap.size ≤ k_) ∧ k_ ≠ gb101) ho0 (fun k_ hk_ => Or.elim hk_ id (fun hn_ => ⟨.inr (Nat.le_trans (below_size hB) hn_), kF BK101 hn_⟩)); replace BK101 := kA BK101 hb; replace HB := bS HB hb; clear hb ho0) | ((with_reducible refine gc 127 rfl ?_); refine gL 17 Try.func127 #[.slice A2 l2.length c2] ?_; (with_reducible refine (flyballref03_trim.calls k (fun k_ => (((P1_ k_ ∨ P2_ k_) ∨ w.heap.size ≤ k_) ∧ k_ ≠ gb101)) _ _ l2 t105 _ ?_ A5.out).mono ?_); exact HO2.out; rintro e w9 ⟨v106, rfl, ho0, hb⟩; refine ⟨_, rfl, ?_⟩; replace HO1 := vA HO1 hb; replace HO2 := vA HO2 hb; replace HO104 := vA HO104 hb; have HO107 := lw HB (fun k_ => ((P1_ k_ ∨ P2_ k_) ∨ w.heap.size ≤ k_) ∧ k_ ≠ gb101) ho0 (fun k_ hk_ => Or.elim hk_ id (fun hn_ => ⟨.inr (Nat.le_trans (below_size hB) hn_), kF BK101 hn_⟩)); replace BK101 := kA BK101 hb; replace HB := bS HB hb; clear hb ho0))
 (try simp only [Act.put, List.setIfInBounds_toArray, List.set_cons_zero, List.set_cons_succ])
 go_cut [25] (fun v25 wc => ∃ (kq : Nat) (x25_5 : Bool), v25 = .bool x25_5 ∧ Aside0 (flyballref03_Low.j0 kq a0 t102 t105 x25_5 = some (r1, r2, r3)) ∧ Aside0 (kq ≤ k) ∧ Aside0 (Kd.V Kd.bool 4 wc w.heap.size (fun k_ => ((P1_ k_ ∨ P2_ k_) ∨ w.heap.size ≤ k_) ∧ k_ ≠ gb101) v103 t102) ∧ Aside0 (Kd.V Kd.bool 4 wc w.heap.size (fun k_ => ((P1_ k_ ∨ P2_ k_) ∨ w.heap.size ≤ k_) ∧ k_ ≠ gb101) v106 t105) ∧ Aside0 (wc.heap[gb101]? = some (.cells #[.bool false, (.slice none 0 0), (.slice none 0 0)] 92 (0, 0))) ∧ Aside0 (Below w.heap.size w wc))
 case first =>
  have H := HC6.out
  clear HC6
  by_cases c10 : (t102.length : Int) = 0
  ·rw [if_pos c10] at H
   obtain ⟨c10b0, c10b1⟩ := bqT c10
   clear c10
   (first | rw [c10b0] | (simp only [i64_w, i32_w]; rw [c10b0]) | skip)
   have H' := Aside0.mk H
   clear H
   obtain ⟨Ao11, co11, eo11⟩ := Kd.V_slice HO104.out
   subst eo11
   go_wp2
   go_meet
   case rel => exact ⟨_, (true), rS, H', ⟨by first | omega | exact Nat.le_refl _⟩, ⟨vup HO104.out⟩, ⟨vup HO107.out⟩, ⟨by exact kU BK101⟩, ⟨hB⟩⟩
  rw [if_neg c10] at H
  obtain ⟨c10b0, c10b1⟩ := bqF c10
  have c10b2 : ¬ (t102 = []) := fun h_ => c10 (by rw [h_]; rfl)
  (first | rw [c10b0] | (simp only [i64_w, i32_w]; rw [c10b0]) | skip)
  have H' := Aside0.mk H
  clear H
  obtain ⟨Ao12, co12, eo12⟩ := Kd.V_slice HO104.out
  subst eo12
  obtain ⟨Ao13, co13, eo13⟩ := Kd.V_slice HO107.out
  subst eo13
  go_wp2
  go_meet
  case rel => exact ⟨_, (((t105.length : Int) == 0)), rS, H', ⟨by first | omega | exact Nat.le_refl _⟩, ⟨vup HO104.out⟩, ⟨vup HO107.out⟩, ⟨by exact kU BK101⟩, ⟨hB⟩⟩
 case rest =>
  clear HC6
  try clear c1
  try clear c2
  try clear p2
  try clear c9
  try clear c10
  try clear c10b0
  try clear c10b1
  try clear c10b2
  try clear c12
  obtain ⟨kq, x25_5, rfl, HA, HJ5, HO_7, HO_8, BK101, HB⟩ := hcut
  cases kq with
  | zero => exact absurd HA.out (by simp [flyballref03_Low.j0])
  | succ kj5 =>
   have H := HA.out
   clear HA
   simp only [flyballref03_Low.j0] at H
   by_cases c14 : x25_5 = true
   ·subst c14
    replace H := ifT H
    replace H := bi H
    obtain ⟨t108, A15, H⟩ := H
    simp only [Option.some.injEq, Prod.mk.injEq] at H
    obtain ⟨rfl, rfl, rfl⟩ := H
    go_wp2_with (first | ((with_reducible refine gc 128 rfl ?_); refine gL 26 Try.func128 #[] ?_; (with_reducible refine (flyballref03_one.calls  t108 _ A15.out).mono ?_); rintro e w16 ⟨v109, rfl, ho0, hb⟩; refine ⟨_, rfl, ?_⟩; replace HO_7 := Aside0.mk (Kd.V_elder' (vup HO_7.out) (Kd.R_base ho0) hb); replace HO_8 := Aside0.mk (Kd.V_elder' (vup HO_8.out) (Kd.R_base ho0) hb); have HO110 := Aside0.mk (Kd.R_lower (Kd.R_newM (M := fun k_ => (w.heap.size ≤ k_)) ho0 (below_size hB) (fun k_ h_ => h_)) (below_size hB)); replace BK101 := kA BK101 hb; replace HB := bS HB hb; clear hb ho0; obtain ⟨Ao17, co17, eo17⟩ := Kd.R_slice HO110.out; subst eo17; obtain ⟨⟨hcz18_0, hcz18_1, hcz18_2⟩, hfz18_0, hfz18_1, hfz18_2⟩ := cE BK101))
    refine bodyPost_ret (results_cell_row rfl _ _ gb101 92 #[.bool false, .slice none 0 0, .slice Ao17 t108.length co17] (0, 0) _ rfl (by exact kU (p3 BK101)) Try.underlying92 rfl (by kernel_rfl)) rfl ?_
    exact ⟨_, _, er, Kd.V_mono (Kd.V_nil _ _ _ _ _) (fun k_ hk => by first | exact ⟨(.inr (hk.1)), hk.2⟩ | exact (.inr (hk))), Kd.V_mono (Kd.R_V (rG (r3t HO110 BK101) (fun _ hk => hk.1.1))) (fun k_ hk => by first | exact ⟨(.inr (hk.1)), hk.2⟩ | exact (.inr (hk))), hB⟩
   ·replace c14 := Bool.eq_false_iff.mpr c14
    subst c14
    have H1 : ((flyballref02_Gcd.f kj5 t102 t105).bind fun t111 => ((flyballref01_Div.f kj5 t102 t111).bind fun bt114 => ((flyballref01_Div.f kj5 t105 t111).bind fun bt120 => ((flyballref03_trim.f kj5 bt114.1).bind fun t126 => ((flyballref03_trim.f kj5 bt120.1).bind fun t129 => (some (a0, t126, t129))))))) = some (r1, r2, r3) := by rw [if_neg (show ¬ (false = true) by decide)] at H; exact H
    clear H
    have H := H1
    clear H1
    replace H := bi H
    obtain ⟨t111, A19, H⟩ := H
    replace H := bi H
    obtain ⟨⟨t114, t115⟩, A20, H⟩ := H
    try dsimp only at H
    replace H := bi H
    obtain ⟨⟨t120, t121⟩, A21, H⟩ := H
    try dsimp only at H
    replace H := bi H
    obtain ⟨t126, A22, H⟩ := H
    replace H := bi H
    obtain ⟨t129, A23, H⟩ := H
    simp only [Option.some.injEq, Prod.mk.injEq] at H
    obtain ⟨rfl, rfl, rfl⟩ := H
    obtain ⟨Ao24, co24, eo24⟩ := Kd.V_slice HO_7.out
    subst eo24
    obtain ⟨Ao25, co25, eo25⟩ := Kd.V_slice HO_8.out
    subst eo25
    go_wp2_with (first | ((with_reducible refine gc 36 rfl ?_); refine gL 30 Try.func36 #[.slice Ao24 t102.length co24, .slice Ao25 t105.length co25] ?_; (with_reducible refine (flyballref02_Gcd.calls kj5 (fun k_ => (((P1_ k_ ∨ P2_ k_) ∨ w.heap.size ≤ k_) ∧ k_ ≠ gb101)) _ _ t102 (fun k_ => (((P1_ k_ ∨ P2_ k_) ∨ w.heap.size ≤ k_) ∧ k_ ≠ gb101)) _ _ t105 t111 _ ?_ ?_ A19.out).mono ?_); exact HO_7.out; exact HO_8.out; rintro e w26 ⟨v112, rfl, ho0, hb⟩; refine ⟨_, rfl, ?_⟩; replace HO_7 := vA HO_7 hb; replace HO_8 := vA HO_8 hb; have HO113 := lw HB (fun k_ => ((P1_ k_ ∨ P2_ k_) ∨ w.heap.size ≤ k_) ∧ k_ ≠ gb101) ho0 (fun k_ hk_ => Or.elim hk_ (fun hs_ => Or.elim hs_ id id) (fun hn_ => ⟨.inr (Nat.le_trans (below_size hB) hn_), kF BK101 hn_⟩)); replace BK101 := kA BK101 hb; replace HB := bS HB hb; clear hb ho0; obtain ⟨Ao27, co27, eo27⟩ := Kd.V_slice HO113.out; subst eo27) | ((with_reducible refine gc 38 rfl ?_); refine gL 34 Try.func38 #[.slice Ao24 t102.length co24, .slice Ao27 t111.length co27] ?_; (with_reducible refine (flyballref01_Div.calls kj5 _ _ t102 _ _ t111 t114 t115 _ ?_ ?_ ?_ ?_ A20.out).mono ?_); exact cup ((Kd.V_reads' HO_7.out).2.2); exact (Kd.V_reads' HO_7.out).2.1; exact cup ((Kd.V_reads' HO113.out).2.2); exact (Kd.V_reads' HO113.out).2.1; rintro e w28 ⟨v116, v118, rfl, ho0, ho1, hb⟩; refine ⟨_, rfl, ?_⟩; replace HO_7 := v2 HO_7 hb ho0 ho1; replace HO_8 := v2 HO_8 hb ho0 ho1; replace HO113 := v2 HO113 hb ho0 ho1; have HO117 := Aside0.mk (Kd.R_lower (Kd.R_newM (M := fun k_ => (w.heap.size ≤ k_)) ho0 (below_size hB) (fun k_ h_ => h_)) (below_size hB)); have HO119 := Aside0.mk (Kd.R_lower (Kd.R_newM (M := fun k_ => (w.heap.size ≤ k_)) ho1 (below_size hB) (fun k_ h_ => h_)) (below_size hB)); replace BK101 := kA BK101 hb; replace HB := bS HB hb; clear hb ho0 ho1) | ((with_reducible refine gc 38 rfl ?_); refine gL 40 Try.func38 #[.slice Ao25 t105.length co25, .slice Ao27 t111.length co27] ?_; (with_reducible refine (flyballref01_Div.calls kj5 _ _ t105 _ _ t111 t120 t121 _ ?_ ?_ ?_ ?_ A21.out).mono ?_); exact cup ((Kd.V_reads' HO_8.out).2.2); exact (Kd.V_reads' HO_8.out).2.1; exact cup ((Kd.V_reads' HO113.out).2.2); exact (Kd.V_reads' HO113.out).2.1; rintro e w29 ⟨v122, v124, rfl, ho0, ho1, hb⟩; refine ⟨_, rfl, ?_⟩; replace HO_7 := v2 HO_7 hb ho0 ho1; replace HO_8 := v2 HO_8 hb ho0 ho1; replace HO113 := v2 HO113 hb ho0 ho1; have HO123 := Aside0.mk (Kd.R_lower (Kd.R_new' (Kd.R_new' (Kd.R_newM (M := fun k_ => (w.heap.size ≤ k_)) ho0 (below_size hB) (fun k_ h_ => h_)) (Kd.R_lt (rup HO117.out))) (Kd.R_lt (rup HO119.out))) (below_size hB)); have HO125 := Aside0.mk (Kd.R_lower (Kd.R_new' (Kd.R_new' (Kd.R_newM (M := fun k_ => (w.heap.size ≤ k_)) ho1 (below_size hB) (fun k_ h_ => h_)) (Kd.R_lt (rup HO117.out))) (Kd.R_lt (rup HO119.out))) (below_size hB)); replace HO117 := r2 HO117 hb ho0 ho1; replace HO119 := r2 HO119 hb ho0 ho1; replace BK101 := kA BK101 hb; replace HB := bS HB hb; clear hb ho0 ho1; obtain ⟨Ao30, co30, eo30⟩ := Kd.R_slice HO117.out; subst eo30) | ((with_reducible refine gc 127 rfl ?_); refine gL 45 Try.func127 #[.slice Ao30 t114.length co30] ?_; (with_reducible refine (flyballref03_trim.calls kj5 (fun k_ => some k_ = (.slice Ao30 t114.length co30 : Value).ownBlock) _ _ t114 t126 _ ?_ A22.out).mono ?_); exact Kd.R_V (Kd.R_tight rfl (Kd.R_types (HO117.out) BK101.out (by decide))); rintro e w31 ⟨v127, rfl, ho0, hb⟩; refine ⟨_, rfl, ?_⟩; replace HO_7 := vA HO_7 hb; replace HO_8 := vA HO_8 hb; replace HO113 := vA HO113 hb; have HO128 := lw HB (fun k_ => ((P1_ k_ ∨ P2_ k_) ∨ w.heap.size ≤ k_) ∧ some k_ ≠ (v118 : Value).ownBlock ∧ some k_ ≠ (v122 : Value).ownBlock ∧ some k_ ≠ (v124 : Value).ownBlock ∧ k_ ≠ gb101) ho0 (fun k_ hk_ => Or.elim hk_ (fun hs_ => ⟨.inr (((Kd.R_types (HO117.out) BK101.out (by decide)).1 k_ hs_.symm).1.1.1.1), ((Kd.R_types (HO117.out) BK101.out (by decide)).1 k_ hs_.symm).1.1.1.2, ((Kd.R_types (HO117.out) BK101.out (by decide)).1 k_ hs_.symm).1.1.2, ((Kd.R_types (HO117.out) BK101.out (by decide)).1 k_ hs_.symm).1.2, ((Kd.R_types (HO117.out) BK101.out (by decide)).1 k_ hs_.symm).2⟩) (fun hn_ => ⟨.inr (Nat.le_trans (below_size hB) hn_), Kd.fresh' (Kd.R_lt (rup HO119.out)) k_ hn_, Kd.fresh' (Kd.R_lt (rup HO123.out)) k_ hn_, Kd.fresh' (Kd.R_lt (rup HO125.out)) k_ hn_, kF BK101 hn_⟩)); replace HO117 := rA HO117 hb; replace HO119 := rA HO119 hb; replace HO123 := rA HO123 hb; replace HO125 := rA HO125 hb; replace BK101 := kA BK101 hb; replace HB := bS HB hb; clear hb ho0; obtain ⟨Ao32, co32, eo32⟩ := Kd.R_slice HO123.out; subst eo32) | ((with_reducible refine gc 127 rfl ?_); refine gL 47 Try.func127 #[.slice Ao32 t120.length co32] ?_; (with_reducible refine (flyballref03_trim.calls kj5 (fun k_ => some k_ = (.slice Ao32 t120.length co32 : Value).ownBlock) _ _ t120 t129 _ ?_ A23.out).mono ?_); exact Kd.R_V (Kd.R_tight rfl (Kd.R_types (HO123.out) BK101.out (by decide))); rintro e w33 ⟨v130, rfl, ho0, hb⟩; refine ⟨_, rfl, ?_⟩; replace HO_7 := vA HO_7 hb; replace HO_8 := vA HO_8 hb; replace HO113 := vA HO113 hb; replace HO128 := vA HO128 hb; have HO131 := lw HB (fun k_ => ((P1_ k_ ∨ P2_ k_) ∨ w.heap.size ≤ k_) ∧ some k_ ≠ (.slice Ao30 t114.length co30 : Value).ownBlock ∧ some k_ ≠ (v118 : Value).ownBlock ∧ some k_ ≠ (v124 : Value).ownBlock ∧ k_ ≠ gb101) ho0 (fun k_ hk_ => Or.elim hk_ (fun hs_ => ⟨.inr (((Kd.R_types (HO123.out) BK101.out (by decide)).1 k_ hs_.symm).1.1.1.1), ((Kd.R_types (HO123.out) BK101.out (by decide)).1 k_ hs_.symm).1.1.2, ((Kd.R_types (HO123.out) BK101.out (by decide)).1 k_ hs_.symm).1.2, ((Kd.R_types (HO123.out) BK101.out (by decide)).1 k_ hs_.symm).1.1.1.2, ((Kd.R_types (HO123.out) BK101.out (by decide)).1 k_ hs_.symm).2⟩) (fun hn_ => ⟨.inr (Nat.le_trans (below_size hB) hn_), Kd.fresh' (Kd.R_lt (rup HO117.out)) k_ hn_, Kd.fresh' (Kd.R_lt (rup HO119.out)) k_ hn_, Kd.fresh' (Kd.R_lt (rup HO125.out)) k_ hn_, kF BK101 hn_⟩)); replace HO117 := rA HO117 hb; replace HO119 := rA HO119 hb; replace HO123 := rA HO123 hb; replace HO125 := rA HO125 hb; replace BK101 := kA BK101 hb; replace HB := bS HB hb; clear hb ho0; obtain ⟨Ao34, co34, eo34⟩ := Kd.V_slice HO131.out; subst eo34; obtain ⟨Ao35, co35, eo35⟩ := Kd.V_slice HO128.out; subst eo35; obtain ⟨⟨hcz36_0, hcz36_1, hcz36_2⟩, hfz36_0, hfz36_1, hfz36_2⟩ := cE BK101))
    refine bodyPost_ret (results_cell_row rfl _ _ gb101 92 #[.bool a0, .slice Ao35 t126.length co35, .slice Ao34 t129.length co34] (0, 0) _ rfl (by exact kU (p3 BK101)) Try.underlying92 rfl (by kernel_rfl)) rfl ?_
    exact ⟨_, _, er, vG (v3p HO128 (fun _ hk => hk.2.2.2.2)) (fun _ hk => hk.1.1), vG (v3p HO131 (fun _ hk => hk.2.2.2.2)) (fun _ hk => hk.1.1), hB⟩
def flyballlaw03_of.f (k : Nat) (a0_0 : Bool) (l0_1 : List Int) (l0_2 : List Int) : Option (Bool × List Bool × List Bool) := (flyballref02_Bits.f k l0_1).bind fun t103 => ((flyballref02_Bits.f k l0_2).bind fun t106 => ((flyballref03_Low.f k a0_0 t103 t106).bind fun bt109 => (some (bt109.1, bt109.2.1, bt109.2.2))))
def flyballlaw03_of.T1 : Bool × List (List Nat × List Nat) := (true, [([], []), ([0], [0]), ([], []), ([2], [2]), ([3], [3]), ([], []), ([5], [5]), ([6, 4], [6]), ([1, 4, 7, 7], [1, 4, 7]), ([8, 8, 0, 1, 2, 3, 4, 5, 6, 7, 8], [8])])
def flyballlaw03_of.B1 : List Nat := [0, 1, 0, 4, 12, 0, 32, 124, 255, 511]
theorem flyballlaw03_of.tab1 : rtab .any (opsOf Try.f84 1) = flyballlaw03_of.T1 := by kernel_rfl
theorem flyballlaw03_of.bits1 : waitsOk flyballlaw03_of.T1.2 flyballlaw03_of.B1 = true := by kernel_rfl
set_option maxHeartbeats 8000000 in
set_option maxRecDepth 100000 in
theorem flyballlaw03_of.calls (k : Nat) (a0_0 : Bool) (A0_1 : Option Addr) (c0_1 : Nat) (l0_1 : List Int) (A0_2 : Option Addr) (c0_2 : Nat) (l0_2 : List Int) (r1 : Bool) (r2 : List Bool) (r3 : List Bool) (w : World) (hr0_1 : Kd.C (Kd.int .u32) w A0_1 l0_1.length l0_1) (hc0_1 : l0_1.length ≤ c0_1) (hr0_2 : Kd.C (Kd.int .u32) w A0_2 l0_2.length l0_2) (hc0_2 : l0_2.length ≤ c0_2) (H : flyballlaw03_of.f k a0_0 l0_1 l0_2 = some (r1, r2, r3)) :
  Calls Try.prog 84 #[.agg #[.bool a0_0, .slice A0_1 l0_1.length c0_1, .slice A0_2 l0_2.length c0_2]] w fun e w' => ∃ v1_ v2_ : Value, e = .returned (.agg #[.bool r1, v1_, v2_]) ∧ Kd.V Kd.bool 4 w' w.heap.size (fun k_ => (w.heap.size ≤ k_)) v1_ r2 ∧ Kd.V Kd.bool 4 w' w.heap.size (fun k_ => (w.heap.size ≤ k_)) v2_ r3 ∧ Below w.heap.size w w' := by
 have hu69 := Try.underlying69
 have hu92 := Try.underlying92
 have HR0_1 := Aside0.mk hr0_1
 have HC0_1 := Aside0.mk hc0_1
 clear hr0_1 hc0_1
 have HR0_2 := Aside0.mk hr0_2
 have HC0_2 := Aside0.mk hc0_2
 clear hr0_2 hc0_2
 have HB := Aside0.mk (Below.refl w.heap.size w)
 unfold flyballlaw03_of.f at H
 replace H := bi H
 obtain ⟨t103, A2, H⟩ := H
 replace H := bi H
 obtain ⟨t106, A3, H⟩ := H
 replace H := bi H
 obtain ⟨⟨t109, t110, t113⟩, A4, H⟩ := H
 try dsimp only at H
 simp only [Option.some.injEq, Prod.mk.injEq] at H
 obtain ⟨rfl, rfl, rfl⟩ := H
 go_enter Try.func84, Try.ntmps84
 try go_wp2_with (first | ((with_reducible refine gd 1 rfl ?_); refine bx 1 #[.bool a0_0, .slice A0_1 l0_1.length c0_1, .slice A0_2 l0_2.length c0_2] ?_; intro gb101 hg w5 hbox hb; have BK101 := Aside0.mk hbox; have GW101 := gB hg HB; have GE101 := gB hg HB; replace HB := bA HB hb; clear hb hbox hg) | ((with_reducible refine gd 2 rfl ?_); refine box_event ?hg (N := 2) ?hd (cs := #[.bool false, .slice none 0 0, .slice none 0 0]) (t := 92) ?hr ?_; (case hd => rfl); (case hg => rfl); (case hr => first | (go_simp; done) | (go_simp; rfl)); intro gb102 hg w6 hbox hb; have BK102 := Aside0.mk hbox; have GW102 := gS' hg HB; have GE102 := gS' hg HB; replace HB := bS HB hb; have NB101_102 := nL hg BK101; have NB102_101 := nR hg BK101; replace BK101 := kA BK101 hb; clear hb hbox hg))
 replace BK101 := kd BK101
 replace BK102 := kd BK102
 replace HB := bd HB
 refine st (S := fun w' => B3 w' gb101 (.bool a0_0) (.slice A0_1 l0_1.length c0_1) (.slice A0_2 l0_2.length c0_2)) 10 [] (tf 0 10) (b3 BK101) (fun hHeld => ?_); refine with_tabW flyballlaw03_of.tab1 flyballlaw03_of.bits1 (fun HT_ HW_ => ?_)
 generalize w6.drew = w7 at BK101 BK102 HB hHeld ⊢
 refine pu 0 3 (tf 1 9) ?_
 refine pu 2 5 #[true, false, true, false, false, false, false, false, false, false] ?_
 refine pu 5 8 #[true, false, true, false, false, true, false, false, false, false] ?_
 refine tk 1 4 #[true, true, true, false, false, true, false, false, false, false] hHeld ?_
 refine tk 3 6 #[true, true, true, true, false, true, false, false, false, false] hHeld ?_
 refine tk 6 9 #[true, true, true, true, false, true, true, false, false, false] hHeld ?_
 refine on 4 (some 7) (tf 7 3) (fun K hK => ?_)
 refine gS Try.func25 #[.slice A0_1 l0_1.length c0_1] ?_
 with_reducible refine (flyballref02_Bits.calls k _ _ l0_1 t103 _ ?_ ?_ A2.out).mono ?_
 exact Kd.C_below HR0_1.out (bup HB.out)
 exact HC0_1.out
 rintro e w8 ⟨v104, rfl, ho0, hb⟩
 refine ⟨_, rfl, ?_⟩
 have HO105 := Aside0.mk (Kd.R_lower (Kd.R_newM (M := fun k_ => (w.heap.size ≤ k_)) ho0 (below_size hB) (fun k_ h_ => h_)) (below_size hB))
 replace BK101 := kA BK101 hb
 replace BK102 := kA BK102 hb
 replace HB := bS HB hb
 clear hb ho0
 refine hK.out _ _ (b3 BK101) (fun hHeld => nm ?_)
 clear hK K
 refine on 7 (some 10) (tf 8 2) (fun K hK => ?_)
 refine gS Try.func25 #[.slice A0_2 l0_2.length c0_2] ?_
 with_reducible refine (flyballref02_Bits.calls k _ _ l0_2 t106 _ ?_ ?_ A3.out).mono ?_
 exact Kd.C_below HR0_2.out (bup HB.out)
 exact HC0_2.out
 rintro e w9 ⟨v107, rfl, ho0, hb⟩
 refine ⟨_, rfl, ?_⟩
 have HO108 := Aside0.mk (Kd.R_lower (Kd.R_new' (Kd.R_newM (M := fun k_ => (w.heap.size ≤ k_)) ho0 (below_size hB) (fun k_ h_ => h_)) (Kd.R_lt (rup HO105.out))) (below_size hB))
 replace HO105 := Aside0.mk (Kd.R_elder' (rup HO105.out) (Kd.R_base ho0) hb)
 replace BK101 := kA BK101 hb
 replace BK102 := kA BK102 hb
 replace HB := bS HB hb
 clear hb ho0
 obtain ⟨Ao10, co10, eo10⟩ := Kd.R_slice HO105.out
 (first | subst eo10 | (injection eo10 with f1_ f2_ f3_; have f4_ := f1_.symm; have f5_ := f3_.symm; clear f1_ f2_ f3_; subst f4_; subst f5_))
 obtain ⟨Ao11, co11, eo11⟩ := Kd.R_slice HO108.out
 (first | subst eo11 | (injection eo11 with f1_ f2_ f3_; have f4_ := f1_.symm; have f5_ := f3_.symm; clear f1_ f2_ f3_; subst f4_; subst f5_))
 refine hK.out _ _ (b3 BK101) (fun hHeld => nm ?_)
 clear hK K
 refine on 8 (some 11) (tf 9 1) (fun K hK => ?_)
 refine gS Try.func96 #[.bool a0_0, .slice Ao10 t103.length co10, .slice Ao11 t106.length co11] ?_
 with_reducible refine (flyballref03_Low.calls k a0_0 (fun k_ => some k_ = (.slice Ao10 t103.length co10 : Value).ownBlock) _ _ t103 (fun k_ => some k_ = (.slice Ao11 t106.length co11 : Value).ownBlock) _ _ t106 t109 t110 t113 _ ?_ ?_ A4.out).mono ?_
 exact Kd.R_V (Kd.R_tight rfl (Kd.R_types (Kd.R_types (HO105.out) BK101.out (by decide)) BK102.out (by decide)))
 exact Kd.R_V (Kd.R_tight rfl (Kd.R_types (Kd.R_types (HO108.out) BK101.out (by decide)) BK102.out (by decide)))
 rintro e w12 ⟨v111, v114, rfl, ho0, ho1, hb⟩
 refine ⟨_, rfl, ?_⟩
 have HO112 := lw HB (fun k_ => (w.heap.size ≤ k_) ∧ k_ ≠ gb101 ∧ k_ ≠ gb102) ho0 (fun k_ hk_ => Or.elim hk_ (fun hs_ => Or.elim hs_ (fun hs_ => ⟨((Kd.R_types (Kd.R_types (HO105.out) BK101.out (by decide)) BK102.out (by decide)).1 k_ hs_.symm).1.1.1.1, ((Kd.R_types (Kd.R_types (HO105.out) BK101.out (by decide)) BK102.out (by decide)).1 k_ hs_.symm).1.2, ((Kd.R_types (Kd.R_types (HO105.out) BK101.out (by decide)) BK102.out (by decide)).1 k_ hs_.symm).2⟩) (fun hs_ => ⟨((Kd.R_types (Kd.R_types (HO108.out) BK101.out (by decide)) BK102.out (by decide)).1 k_ hs_.symm).1.1.1.1, ((Kd.R_types (Kd.R_types (HO108.out) BK101.out (by decide)) BK102.out (by decide)).1 k_ hs_.symm).1.2, ((Kd.R_types (Kd.R_types (HO108.out) BK101.out (by decide)) BK102.out (by decide)).1 k_ hs_.symm).2⟩)) (fun hn_ => ⟨Nat.le_trans (below_size hB) hn_, kF BK101 hn_, kF BK102 hn_⟩))
 have HO115 := lw HB (fun k_ => (w.heap.size ≤ k_) ∧ k_ ≠ gb101 ∧ k_ ≠ gb102) ho1 (fun k_ hk_ => Or.elim hk_ (fun hs_ => Or.elim hs_ (fun hs_ => ⟨((Kd.R_types (Kd.R_types (HO105.out) BK101.out (by decide)) BK102.out (by decide)).1 k_ hs_.symm).1.1.1.1, ((Kd.R_types (Kd.R_types (HO105.out) BK101.out (by decide)) BK102.out (by decide)).1 k_ hs_.symm).1.2, ((Kd.R_types (Kd.R_types (HO105.out) BK101.out (by decide)) BK102.out (by decide)).1 k_ hs_.symm).2⟩) (fun hs_ => ⟨((Kd.R_types (Kd.R_types (HO108.out) BK101.out (by decide)) BK102.out (by decide)).1 k_ hs_.symm).1.1.1.1, ((Kd.R_types (Kd.R_types (HO108.out) BK101.out (by decide)) BK102.out (by decide)).1 k_ hs_.symm).1.2, ((Kd.R_types (Kd.R_types (HO108.out) BK101.out (by decide)) BK102.out (by decide)).1 k_ hs_.symm).2⟩)) (fun hn_ => ⟨Nat.le_trans (below_size hB) hn_, kF BK101 hn_, kF BK102 hn_⟩))
 replace HO105 := rA HO105 hb
 replace HO108 := rA HO108 hb
 replace BK101 := kA BK101 hb
 replace BK102 := kA BK102 hb
 replace HB := bS HB hb
 clear hb ho0 ho1
 obtain ⟨Ao14, co14, eo14⟩ := Kd.V_slice HO112.out
 (first | subst eo14 | (injection eo14 with f1_ f2_ f3_; have f4_ := f1_.symm; have f5_ := f3_.symm; clear f1_ f2_ f3_; subst f4_; subst f5_))
 obtain ⟨Ao16, co16, eo16⟩ := Kd.V_slice HO115.out
 (first | subst eo16 | (injection eo16 with f1_ f2_ f3_; have f4_ := f1_.symm; have f5_ := f3_.symm; clear f1_ f2_ f3_; subst f4_; subst f5_))
 refine hK.out _ _ (b3 BK101) (fun hHeld => nm ?_)
 clear hK K
 refine on 9 none (tf 10 0) (fun K hK => ?_)
 obtain ⟨hs13, hfs13⟩ := e0 BK102
 have hns13_0 := NB101_102.out
 have hms13_0 := NB102_101.out
 obtain ⟨hs15, hfs15⟩ := e1 BK102
 have hns15_0 := NB101_102.out
 have hms15_0 := NB102_101.out
 obtain ⟨hs17, hfs17⟩ := e2 BK102
 have hns17_0 := NB101_102.out
 have hms17_0 := NB102_101.out
 refine sk ?_
 refine hK.out _ _ (F3 hHeld NB101_102) (fun hHeld => ?_)
 clear hK K
 refine done_ (done_of HT_.out (by kernel_rfl)) ?_
 try go_wp2
 refine bodyPost_ret (results_cell_row rfl _ _ gb102 92 #[.bool t109, .slice Ao14 t110.length co14, .slice Ao16 t113.length co16] (0, 0) _ rfl (by exact kU (p3 BK102)) Try.underlying92 rfl (by kernel_rfl)) rfl ?_
 exact ⟨_, _, er, vG (v3p HO112 (fun _ hk => hk.2.2)) (fun _ hk => hk.1.1), vG (v3p HO115 (fun _ hk => hk.2.2)) (fun _ hk => hk.1.1), hB⟩
def flyballref02_Same.l0 : Nat → List Int → List Int → Int → Option (Bool)
 | 0, _, _, _ => none
 | k + 1, x0, x1, x5 => if x5 < (x0.length : Int) then (if 0 ≤ x5 then (if x5 < (x1.length : Int) then (if (rd x0 x5) = (rd x1 x5) then (flyballref02_Same.l0 k x0 x1 (wrap64 (x5 + 1))) else (some false)) else (none)) else (none)) else (some true)
def flyballref02_Same.f (k : Nat) (l0 : List Int) (l1 : List Int) : Option (Bool) := if (l0.length : Int) = (l1.length : Int) then (flyballref02_Same.l0 k l0 l1 0) else (some false)
set_option maxHeartbeats 8000000 in
set_option maxRecDepth 100000 in
theorem flyballref02_Same.calls (k : Nat) (A0 : Option Addr) (c0 : Nat) (l0 : List Int) (A1 : Option Addr) (c1 : Nat) (l1 : List Int) (r : Bool) (w : World) (hr0 : Kd.C (Kd.int .u32) w A0 l0.length l0) (hc0 : l0.length ≤ c0) (hr1 : Kd.C (Kd.int .u32) w A1 l1.length l1) (hc1 : l1.length ≤ c1) (H : flyballref02_Same.f k l0 l1 = some r) :
  Calls Try.prog 106 #[.slice A0 l0.length c0, .slice A1 l1.length c1] w fun e w' => e = .returned (.bool r) ∧ Drawn0 w w' := by
 have HR0 := Aside0.mk hr0
 have HC0 := Aside0.mk hc0
 clear hr0 hc0
 have HR1 := Aside0.mk hr1
 have HC1 := Aside0.mk hc1
 clear hr1 hc1
 unfold flyballref02_Same.f at H
 by_cases c3 : (l0.length : Int) = (l1.length : Int)
 rotate_left
 ·rw [if_neg c3] at H
  obtain ⟨c3b0, c3b1⟩ := bqF c3
  have c3b2 : (l0.length == l1.length) = false := by first | simpa using c3 | (simp at c3 ⊢; omega)
  obtain rfl := Option.some.inj H
  go_enter Try.func106, Try.ntmps106
  go_wp2
  repeat (go_quiet (fail); try go_wp2)
  go_ret
  exact ⟨rS, by repeat (first | exact Drawn0.refl _ | apply Drawn0.step)⟩
 rw [if_pos c3] at H
 obtain ⟨c3b0, c3b1⟩ := bqT c3
 have c3b2 : (l0.length == l1.length) = true := by first | simpa using c3 | (simp at c3 ⊢; omega)
 clear c3
 have H' := Aside0.mk H
 clear H
 go_enter Try.func106, Try.ntmps106
 go_wp2
 repeat (go_quiet (fail); try go_wp2)
 go_loopg [5] k (fun kq v5 w' => ∃ (x5_1 : Int), v5 = .int .i64 x5_1 ∧ Aside0 (flyballref02_Same.l0 kq l0 l1 x5_1 = some r) ∧ Aside0 (kq ≤ k) ∧ Drawn0 w w')
 case atStart => exact ⟨(0), rS, H', ⟨Nat.le_refl _⟩, by repeat (first | exact Drawn0.refl _ | apply Drawn0.step)⟩
 case round =>
  clear H'
  try clear c1
  try clear p2
  try clear c3
  try clear c3b0
  try clear c3b1
  try clear c3b2
  obtain ⟨x5_1, rfl, HA, HK1, ⟨m1, rfl⟩⟩ := hrel
  cases gk with
  | zero => exact absurd HA.out (by simp [flyballref02_Same.l0])
  | succ k1 =>
   have H := HA.out
   clear HA
   simp only [flyballref02_Same.l0] at H
   by_cases c4 : x5_1 < (l0.length : Int)
   rotate_left
   ·rw [if_neg c4] at H
    have c4b0 : decide (x5_1 < (l0.length : Int)) = false := decide_eq_false c4
    clear c4
    obtain rfl := Option.some.inj H
    go_wp2
    repeat (go_quiet (fail); try go_wp2)
    go_ret
    exact ⟨rS, by repeat (first | exact Drawn0.refl _ | apply Drawn0.step)⟩
   rw [if_pos c4] at H
   have c4b0 : decide (x5_1 < (l0.length : Int)) = true := decide_eq_true c4
   clear c4
   replace H := iS H
   obtain ⟨c5, H⟩ := H
   have c5b0 : decide (0 ≤ x5_1) = true := decide_eq_true c5
   clear c5
   replace H := iS H
   obtain ⟨c6, H⟩ := H
   have c6b0 : decide (x5_1 < (l1.length : Int)) = true := decide_eq_true c6
   clear c6
   by_cases c7 : (rd l0 x5_1) = (rd l1 x5_1)
   rotate_left
   ·rw [if_neg c7] at H
    obtain ⟨c7b0, c7b1⟩ := bqF c7
    obtain rfl := Option.some.inj H
    have p101 : 0 ≤ (x5_1 : Int) := of_decide_eq_true asm
    have q101 : x5_1 < (l0.length : Int) := of_decide_eq_true asm
    obtain ⟨ad101, e101, hx101_0⟩ := Kd.at_int HR0.out x5_1 p101 q101
    cases e101
    replace p101 := eq_true p101
    replace q101 := eq_true q101
    have p102 : 0 ≤ (x5_1 : Int) := of_decide_eq_true asm
    have q102 : x5_1 < (l1.length : Int) := of_decide_eq_true asm
    obtain ⟨ad102, e102, hx102_0⟩ := Kd.at_int HR1.out x5_1 p102 q102
    cases e102
    replace p102 := eq_true p102
    replace q102 := eq_true q102
    go_wp2
    repeat (go_quiet (fail); try go_wp2)
    go_ret
    exact ⟨rS, by repeat (first | exact Drawn0.refl _ | apply Drawn0.step)⟩
   rw [if_pos c7] at H
   obtain ⟨c7b0, c7b1⟩ := bqT c7
   clear c7
   have H' := Aside0.mk H
   clear H
   have p101 : 0 ≤ (x5_1 : Int) := of_decide_eq_true asm
   have q101 : x5_1 < (l0.length : Int) := of_decide_eq_true asm
   obtain ⟨ad101, e101, hx101_0⟩ := Kd.at_int HR0.out x5_1 p101 q101
   cases e101
   replace p101 := eq_true p101
   replace q101 := eq_true q101
   have p102 : 0 ≤ (x5_1 : Int) := of_decide_eq_true asm
   have q102 : x5_1 < (l1.length : Int) := of_decide_eq_true asm
   obtain ⟨ad102, e102, hx102_0⟩ := Kd.at_int HR1.out x5_1 p102 q102
   cases e102
   replace p102 := eq_true p102
   replace q102 := eq_true q102
   go_wp2
   repeat (go_quiet (fail); try go_wp2)
   go_roundg k1
   case measure => have := HK1.out; omega
   case rel => exact ⟨(wrap64 (x5_1 + 1)), rS, H', ⟨hk1⟩, by repeat (first | exact Drawn0.refl _ | apply Drawn0.step)⟩
def flyballref02_Words.l0 : Nat → List Bool → Int → List Int → Int → Option (List Int)
 | 0, _, _, _, _ => none
 | k + 1, x0, x3, x4, x5 => if x5 < x3 then (if 0 ≤ x5 then (if x5 < (x0.length : Int) then (if rdOf false x0 x5 = true then (if 0 ≤ (wrap64 (Int.tdiv x5 32)) then (if (wrap64 (Int.tdiv x5 32)) < (x4.length : Int) then (if 0 ≤ (IntKind.u64.wrap (Int.tmod x5 32)) then (flyballref02_Words.l0 k x0 x3 (x4.set ((wrap64 (Int.tdiv x5 32)) : Int).toNat (Go.bits .or .u32 (rd x4 (wrap64 (Int.tdiv x5 32))) (shl .u32 1 (IntKind.u64.wrap (Int.tmod x5 32))))) (wrap64 (x5 + 1))) else (none)) else (none)) else (none)) else (flyballref02_Words.l0 k x0 x3 x4 (wrap64 (x5 + 1)))) else (none)) else (none)) else (some x4)
def flyballref02_Words.f (k : Nat) (l0 : List Bool) : Option (List Int) := (flyballref01_Len.f k l0).bind fun t101 => (if 0 ≤ (wrap64 (Int.tdiv (wrap64 (t101 + 31)) 32)) then (if (wrap64 (Int.tdiv (wrap64 (t101 + 31)) 32) : Int).toNat ≤ 70368744177664 then (flyballref02_Words.l0 k l0 t101 (List.replicate (wrap64 (Int.tdiv (wrap64 (t101 + 31)) 32) : Int).toNat 0) 0) else (none)) else (none))
set_option maxHeartbeats 8000000 in
set_option maxRecDepth 100000 in
theorem flyballref02_Words.calls (k : Nat) (A0 : Option Addr) (c0 : Nat) (l0 : List Bool) (r : List Int) (w : World) (hr0 : Kd.C Kd.bool w A0 l0.length l0) (hc0 : l0.length ≤ c0) (H : flyballref02_Words.f k l0 = some r) :
  Calls Try.prog 107 #[.slice A0 l0.length c0] w fun e w' => ∃ v0_ : Value, e = .returned (v0_) ∧ Kd.R (Kd.int .u32) 118 w' w.heap.size (fun _ => True) v0_ r ∧ Below w.heap.size w w' := by
 have HR0 := Aside0.mk hr0
 have HC0 := Aside0.mk hc0
 clear hr0 hc0
 have HB := Aside0.mk (Below.refl w.heap.size w)
 unfold flyballref02_Words.f at H
 replace H := bi H
 obtain ⟨t101, A2, H⟩ := H
 obtain ⟨ji3, hji3⟩ : ∃ j_ : Int, (wrap64 (Int.tdiv (wrap64 (t101 + 31)) 32)) = j_ := ⟨_, rfl⟩
 replace H : (if 0 ≤ (ji3) then (if (ji3 : Int).toNat ≤ 70368744177664 then (flyballref02_Words.l0 k l0 t101 (List.replicate (ji3 : Int).toNat 0) 0) else (none)) else (none)) = some r := by first | (rw [hji3] at H; exact H) | (simp only [hji3] at H ⊢; exact H)
 (try rw [hji3] at A2)
 have hji3w : (IntKind.i64.wrap (Int.tdiv (wrap64 (t101 + 31)) 32)) = ji3 := (i64_w _).trans hji3
 replace H := iS H
 obtain ⟨c4, H⟩ := H
 have c4b0 := eq_true c4
 have c4b1 : decide (0 ≤ (ji3)) = true := decide_eq_true c4
 clear c4
 replace H := iS H
 obtain ⟨c5, H⟩ := H
 have c5b0 := eq_true c5
 have c5b1 : decide ((ji3 : Int).toNat ≤ 70368744177664) = true := decide_eq_true c5
 clear c5
 obtain ⟨y102, hy102⟩ : ∃ y_ : List Int, y_ = (List.replicate (ji3 : Int).toNat 0) := ⟨_, rfl⟩
 replace H : (flyballref02_Words.l0 k l0 t101 y102 0) = some r := by first | (rw [hy102]; with_reducible exact H) | (have H2_ := (Option.bind_some _ _).symm.trans H; rw [hy102]; with_reducible exact H2_) | (have H2_ := (Option.bind_some _ _).symm.trans H; with_reducible exact H2_) | with_reducible exact H | (rw [hy102]; exact H) | exact H
 have Ny102 := Aside0.mk hy102
 clear hy102
 have H' := Aside0.mk H
 clear H
 go_enter Try.func107, Try.ntmps107
 go_wp2_with (first | ((with_reducible refine gc 53 rfl ?_); refine gL 7 Try.func53 #[.slice A0 l0.length c0] ?_; (with_reducible refine (flyballref01_Len.calls k _ _ l0 t101 _ ?_ ?_ A2.out).mono ?_); exact cup (HR0.out); exact HC0.out; rintro e w' ⟨rfl, ⟨nd, rfl⟩⟩; refine ⟨_, rfl, ?_⟩) | ((with_reducible refine gd 11 rfl ?_); refine Kd.R_make (Kd.int .u32) _ 118 rfl (N := 11) rfl 22 _ _ rfl ji3 rfl rfl Try.underlying22 (.int .u32 0) 4 info118 rfl (by decide) (by omega) 0 (ok := fun _ => True) (okp := fun _ => True) rfl (fun _ hk => hk) trivial (of_decide_eq_true asm) (Nat.le_trans (Nat.mul_le_mul_right _ (of_decide_eq_true asm : ji3.toNat ≤ 70368744177664)) (by omega)) (Below.refl _ _) (Nat.le_refl _) ?_; intro v103 w6 ho7 hb hg_ hnew_; clear hg_ hnew_; (first | rw [← Ny102.out] at ho7 | (simp only [Int.reduceToNat] at ho7; rw [← Ny102.out] at ho7)); have HO104 := Aside0.mk (Kd.R_lower ho7 (below_size (bup HB.out))); replace HB := bA HB hb; clear hb ho7))
 go_loopg [5] k (fun kq v5 w' => ∃ (x4_1 : List Int) (x5_1 : Int), v5 = .int .i64 x5_1 ∧ Aside0 (flyballref02_Words.l0 kq l0 t101 x4_1 x5_1 = some r) ∧ Aside0 (kq ≤ k) ∧ Aside0 (Kd.R (Kd.int .u32) 118 w' w.heap.size (fun _ => True) v103 x4_1) ∧ Aside0 (Below w.heap.size w w'))
 case atStart => exact ⟨(y102), (0), rS, H', ⟨Nat.le_refl _⟩, ⟨rup HO104.out⟩, ⟨bup HB.out⟩⟩
 case round =>
  clear H'
  try clear c1
  try clear p2
  try clear c4
  try clear c4b0
  try clear c4b1
  try clear c5
  try clear c5b0
  try clear c5b1
  try clear p6
  obtain ⟨x4_1, x5_1, rfl, HA, HK1, HO_4, HB⟩ := hrel
  cases gk with
  | zero => exact absurd HA.out (by simp [flyballref02_Words.l0])
  | succ k1 =>
   have H := HA.out
   clear HA
   simp only [flyballref02_Words.l0] at H
   by_cases c8 : x5_1 < t101
   rotate_left
   ·rw [if_neg c8] at H
    have c8b0 : decide (x5_1 < t101) = false := decide_eq_false c8
    clear c8
    obtain rfl := Option.some.inj H
    go_wp2
    go_ret
    exact ⟨_, by first | rfl | (simp [errW_none, errW_some] <;> rfl) | (simp only [← hji3]; first | rfl | (simp [errW_none, errW_some] <;> rfl)) | (simp [*, errW_none, errW_some] <;> rfl), rup HO_4.out, bup HB.out⟩
   rw [if_pos c8] at H
   have c8b0 : decide (x5_1 < t101) = true := decide_eq_true c8
   clear c8
   replace H := iS H
   obtain ⟨c9, H⟩ := H
   have c9b0 : decide (0 ≤ x5_1) = true := decide_eq_true c9
   clear c9
   replace H := iS H
   obtain ⟨c10, H⟩ := H
   have c10b0 : decide (x5_1 < (l0.length : Int)) = true := decide_eq_true c10
   clear c10
   obtain ⟨bq11, hbq11⟩ : ∃ b_ : Bool, b_ = (rdOf false l0 x5_1) := ⟨_, rfl⟩
   replace H : (if bq11 = true then (if 0 ≤ (wrap64 (Int.tdiv x5_1 32)) then (if (wrap64 (Int.tdiv x5_1 32)) < (x4_1.length : Int) then (if 0 ≤ (IntKind.u64.wrap (Int.tmod x5_1 32)) then (flyballref02_Words.l0 k1 l0 t101 (x4_1.set ((wrap64 (Int.tdiv x5_1 32)) : Int).toNat (Go.bits .or .u32 (rd x4_1 (wrap64 (Int.tdiv x5_1 32))) (shl .u32 1 (IntKind.u64.wrap (Int.tmod x5_1 32))))) (wrap64 (x5_1 + 1))) else (none)) else (none)) else (none)) else (flyballref02_Words.l0 k1 l0 t101 x4_1 (wrap64 (x5_1 + 1)))) = some r := by rw [← hbq11] at H; exact H
   have Nbq11 := Aside0.mk hbq11
   clear hbq11
   by_cases c12 : bq11 = true
   ·subst c12
    replace H := ifT H
    obtain ⟨ji13, hji13⟩ : ∃ j_ : Int, (wrap64 (Int.tdiv x5_1 32)) = j_ := ⟨_, rfl⟩
    replace H : (if 0 ≤ (ji13) then (if (ji13) < (x4_1.length : Int) then (if 0 ≤ (IntKind.u64.wrap (Int.tmod x5_1 32)) then (flyballref02_Words.l0 k1 l0 t101 (x4_1.set ((ji13) : Int).toNat (Go.bits .or .u32 (rd x4_1 (ji13)) (shl .u32 1 (IntKind.u64.wrap (Int.tmod x5_1 32))))) (wrap64 (x5_1 + 1))) else (none)) else (none)) else (none)) = some r := by first | (rw [hji13] at H; exact H) | (simp only [hji13] at H ⊢; exact H)
    have hji13w : (IntKind.i64.wrap (Int.tdiv x5_1 32)) = ji13 := (i64_w _).trans hji13
    replace H := iS H
    obtain ⟨c14, H⟩ := H
    have c14b0 : decide (0 ≤ (ji13)) = true := decide_eq_true c14
    clear c14
    replace H := iS H
    obtain ⟨c15, H⟩ := H
    have c15b0 : decide ((ji13) < (x4_1.length : Int)) = true := decide_eq_true c15
    clear c15
    obtain ⟨ji16, hji16⟩ : ∃ j_ : Int, (IntKind.u64.wrap (Int.tmod x5_1 32)) = j_ := ⟨_, rfl⟩
    replace H : (if 0 ≤ (ji16) then (flyballref02_Words.l0 k1 l0 t101 (x4_1.set ((ji13) : Int).toNat (Go.bits .or .u32 (rd x4_1 (ji13)) (shl .u32 1 (ji16)))) (wrap64 (x5_1 + 1))) else (none)) = some r := by first | (rw [hji16] at H; exact H) | (simp only [hji16] at H ⊢; exact H)
    replace H := iS H
    obtain ⟨c17, H⟩ := H
    have c17b0 := eq_true c17
    have c17b1 : decide (0 ≤ (ji16)) = true := decide_eq_true c17
    clear c17
    obtain ⟨ji18, hji18⟩ : ∃ j_ : Int, (shl .u32 1 (ji16)) = j_ := ⟨_, rfl⟩
    replace H : (flyballref02_Words.l0 k1 l0 t101 (x4_1.set ((ji13) : Int).toNat (Go.bits .or .u32 (rd x4_1 (ji13)) (ji18))) (wrap64 (x5_1 + 1))) = some r := by first | (rw [hji18] at H; exact H) | (simp only [hji18] at H ⊢; exact H)
    have hji18_ : (IntKind.u32.wrap (1 * 2 ^ min (ji16).toNat 32)) = ji18 := hji18
    have hji18z : (ji16) ≤ 32 → (IntKind.u32.wrap (1 * 2 ^ (ji16).toNat)) = ji18 := shl_small hji18
    have hji18u : (IntKind.u32.wrap (2 ^ min (ji16).toNat 32)) = ji18 := by have h_ := hji18_; rw [Int.one_mul] at h_; exact h_
    have hji18v : (ji16) ≤ 32 → (IntKind.u32.wrap (2 ^ (ji16).toNat)) = ji18 := fun hle_ => by have h_ := hji18z hle_; rw [Int.one_mul] at h_; exact h_
    obtain ⟨y107, hy107⟩ : ∃ y_ : List Int, y_ = (x4_1.set ((ji13) : Int).toNat (Go.bits .or .u32 (rd x4_1 (ji13)) (ji18))) := ⟨_, rfl⟩
    replace H : (flyballref02_Words.l0 k1 l0 t101 y107 (wrap64 (x5_1 + 1))) = some r := by first | (rw [hy107]; with_reducible exact H) | (have H2_ := (Option.bind_some _ _).symm.trans H; rw [hy107]; with_reducible exact H2_) | (have H2_ := (Option.bind_some _ _).symm.trans H; with_reducible exact H2_) | with_reducible exact H | (rw [hy107]; exact H) | exact H
    have Ny107 := Aside0.mk hy107
    clear hy107
    have H' := Aside0.mk H
    clear H
    have p105 : 0 ≤ (x5_1 : Int) := of_decide_eq_true asm
    have q105 : x5_1 < (l0.length : Int) := of_decide_eq_true asm
    obtain ⟨ad105, e105, hx105_0⟩ := Kd.at_bool HR0.out x5_1 p105 q105
    (try rw [← Nbq11.out] at hx105_0)
    cases e105
    replace hx105_0 := (HB.out.cell (World.block_lt_of_cell? w _ hx105_0)).trans hx105_0
    replace p105 := eq_true p105
    replace q105 := eq_true q105
    obtain ⟨Ao20, co20, eo20⟩ := Kd.R_slice HO_4.out
    subst eo20
    have p106 : 0 ≤ ((ji13) : Int) := of_decide_eq_true asm
    have q106 : (ji13) < (x4_1.length : Int) := of_decide_eq_true asm
    obtain ⟨ad106, e106, hx106_0⟩ := Kd.at_int (Kd.R_reads' HO_4.out).2.2 (ji13) p106 q106
    cases e106
    replace p106 := eq_true p106
    replace q106 := eq_true q106
    have p19 : 0 ≤ ((ji13) : Int) := of_decide_eq_true asm
    have q19 : ((ji13) : Int) < ((x4_1.length : Int) : Int) := of_decide_eq_true asm
    obtain ⟨go19, co19, eo19, gb19, gl19, cl19, HG19⟩ := Kd.R_form HO_4.out (by omega)
    (first | cases eo19 | (injection eo19 with ea_ en_ ec_; (first | subst ea_ | (injection ea_ with ea_; subst ea_)); subst ec_; clear en_))
    have GB19 := Aside0.mk gb19
    have GG19 := Aside0.mk HG19
    clear gb19 gl19 HG19
    (first | simp only [add_plain] at hx106_0 | skip)
    obtain ⟨hx19_0, hf19_0⟩ := Kd.R_celln 0 HO_4.out ((ji13) : Int) p19 q19
    replace p19 := eq_true p19
    replace q19 := eq_true q19
    have HP21 := Kd.R_putg HO_4.out ((ji13) : Int) (Go.bits .or .u32 (rd x4_1 (ji13)) (ji18))
    go_wp2_with (first | ((with_reducible refine gate_store (t := 118) (p := 34) rfl ?_); refine store_event (t := 118) (p := 34) (v := ?vo_w22) (w1 := (wr.setCell ⟨go19, ((ji13) : Int).toNat, none⟩ (.int .u32 (Go.bits .or .u32 (rd x4_1 (ji13)) (ji18))))) ?hg ?ho ?hn ?hr ?_; (case ho => rfl); (case hg => rfl); (case hn => rfl); (case hr => first | (go_simp; done) | (go_simp; rfl)); intro w22 hw; have hg : wr.grownBy w22 (some go19) := (by rw [hw]; exact HP21.2); have hp_ : Kd.R (Kd.int .u32) 118 w22 w.heap.size (fun _ => True) (.slice (some ⟨go19, 0, none⟩) x4_1.length co20) y107 := (by rw [hw, Ny107.out]; exact HP21.1); clear HP21; replace HO_4 := Aside0.mk (hp_); replace HB := Aside0.mk ((by rw [hw]; exact below_set (HB.out) GB19.out : Below w.heap.size w w22)); clear hg hw hp_))
    go_roundg k1
    case measure => have := HK1.out; omega
    case rel => exact ⟨(y107), (wrap64 (x5_1 + 1)), rS, H', ⟨hk1⟩, ⟨rup HO_4.out⟩, ⟨bup HB.out⟩⟩
   ·replace c12 := Bool.eq_false_iff.mpr c12
    subst c12
    have H1 : (flyballref02_Words.l0 k1 l0 t101 x4_1 (wrap64 (x5_1 + 1))) = some r := by rw [if_neg (show ¬ (false = true) by decide)] at H; exact H
    clear H
    have H := H1
    clear H1
    have H' := Aside0.mk H
    clear H
    have p105 : 0 ≤ (x5_1 : Int) := of_decide_eq_true asm
    have q105 : x5_1 < (l0.length : Int) := of_decide_eq_true asm
    obtain ⟨ad105, e105, hx105_0⟩ := Kd.at_bool HR0.out x5_1 p105 q105
    (try rw [← Nbq11.out] at hx105_0)
    cases e105
    replace hx105_0 := (HB.out.cell (World.block_lt_of_cell? w _ hx105_0)).trans hx105_0
    replace p105 := eq_true p105
    replace q105 := eq_true q105
    go_wp2
    go_roundg k1
    case measure => have := HK1.out; omega
    case rel => exact ⟨(x4_1), (wrap64 (x5_1 + 1)), rS, H', ⟨hk1⟩, ⟨rup HO_4.out⟩, ⟨bup HB.out⟩⟩
def flyballref02_Is.f (k : Nat) (l0 : List Int) (l1 : List Bool) : Option (Bool) := (flyballref02_Words.f k l1).bind fun t101 => ((flyballref02_Same.f k l0 t101).bind fun t104 => (some t104))
set_option maxHeartbeats 8000000 in
set_option maxRecDepth 100000 in
theorem flyballref02_Is.calls (k : Nat) (A0 : Option Addr) (c0 : Nat) (l0 : List Int) (A1 : Option Addr) (c1 : Nat) (l1 : List Bool) (r : Bool) (w : World) (hr0 : Kd.C (Kd.int .u32) w A0 l0.length l0) (hc0 : l0.length ≤ c0) (hr1 : Kd.C Kd.bool w A1 l1.length l1) (hc1 : l1.length ≤ c1) (H : flyballref02_Is.f k l0 l1 = some r) :
  Calls Try.prog 27 #[.slice A0 l0.length c0, .slice A1 l1.length c1] w fun e w' => e = .returned (.bool r) ∧ Below w.heap.size w w' := by
 have HR0 := Aside0.mk hr0
 have HC0 := Aside0.mk hc0
 clear hr0 hc0
 have HR1 := Aside0.mk hr1
 have HC1 := Aside0.mk hc1
 clear hr1 hc1
 have HB := Aside0.mk (Below.refl w.heap.size w)
 unfold flyballref02_Is.f at H
 replace H := bi H
 obtain ⟨t101, A3, H⟩ := H
 replace H := bi H
 obtain ⟨t104, A4, H⟩ := H
 obtain rfl := Option.some.inj H
 go_enter Try.func27, Try.ntmps27
 go_wp2_with (first | ((with_reducible refine gc 107 rfl ?_); refine gL 7 Try.func107 #[.slice A1 l1.length c1] ?_; (with_reducible refine (flyballref02_Words.calls k _ _ l1 t101 _ ?_ ?_ A3.out).mono ?_); exact cup (HR1.out); exact HC1.out; rintro e w5 ⟨v102, rfl, ho0, hb⟩; refine ⟨_, rfl, ?_⟩; have HO103 := Aside0.mk (Kd.R_lower ho0 (below_size (bup HB.out))); replace HB := bA HB hb; clear hb ho0; obtain ⟨Ao6, co6, eo6⟩ := Kd.R_slice HO103.out; subst eo6) | ((with_reducible refine gc 106 rfl ?_); refine gL 8 Try.func106 #[.slice A0 l0.length c0, .slice Ao6 t101.length co6] ?_; (with_reducible refine (flyballref02_Same.calls k _ _ l0 _ _ t101 t104 _ ?_ ?_ ?_ ?_ A4.out).mono ?_); exact Kd.C_below HR0.out (bup HB.out); exact HC0.out; exact cup ((Kd.R_reads' HO103.out).2.2); exact (Kd.R_reads' HO103.out).2.1; rintro e w' ⟨rfl, ⟨nd, rfl⟩⟩; refine ⟨_, rfl, ?_⟩))
 go_ret
 exact ⟨er, bup HB.out⟩
def flyballlaw03_is.f (k : Nat) (a0_0 : Bool) (l0_1 : List Int) (l0_2 : List Int) (a1_0 : Bool) (l1_1 : List Bool) (l1_2 : List Bool) : Option (Bool) := if (a0_0 == a1_0) = true then ((flyballref02_Is.f k l0_1 l1_1).bind fun t103 => (if t103 = true then ((flyballref02_Is.f k l0_2 l1_2).bind fun t104 => (some t104)) else (some false))) else (some false)
set_option maxHeartbeats 8000000 in
set_option maxRecDepth 100000 in
theorem flyballlaw03_is.calls (k : Nat) (a0_0 : Bool) (A0_1 : Option Addr) (c0_1 : Nat) (l0_1 : List Int) (A0_2 : Option Addr) (c0_2 : Nat) (l0_2 : List Int) (a1_0 : Bool) (A1_1 : Option Addr) (c1_1 : Nat) (l1_1 : List Bool) (A1_2 : Option Addr) (c1_2 : Nat) (l1_2 : List Bool) (r : Bool) (w : World) (hr0_1 : Kd.C (Kd.int .u32) w A0_1 l0_1.length l0_1) (hc0_1 : l0_1.length ≤ c0_1) (hr0_2 : Kd.C (Kd.int .u32) w A0_2 l0_2.length l0_2) (hc0_2 : l0_2.length ≤ c0_2) (hr1_1 : Kd.C Kd.bool w A1_1 l1_1.length l1_1) (hc1_1 : l1_1.length ≤ c1_1) (hr1_2 : Kd.C Kd.bool w A1_2 l1_2.length l1_2) (hc1_2 : l1_2.length ≤ c1_2) (H : flyballlaw03_is.f k a0_0 l0_1 l0_2 a1_0 l1_1 l1_2 = some r) :
  Calls Try.prog 85 #[.agg #[.bool a0_0, .slice A0_1 l0_1.length c0_1, .slice A0_2 l0_2.length c0_2], .agg #[.bool a1_0, .slice A1_1 l1_1.length c1_1, .slice A1_2 l1_2.length c1_2]] w fun e w' => e = .returned (.bool r) ∧ Below w.heap.size w w' := by
 have hu69 := Try.underlying69
 have hu92 := Try.underlying92
 have HR0_1 := Aside0.mk hr0_1
 have HC0_1 := Aside0.mk hc0_1
 clear hr0_1 hc0_1
 have HR0_2 := Aside0.mk hr0_2
 have HC0_2 := Aside0.mk hc0_2
 clear hr0_2 hc0_2
 have HR1_1 := Aside0.mk hr1_1
 have HC1_1 := Aside0.mk hc1_1
 clear hr1_1 hc1_1
 have HR1_2 := Aside0.mk hr1_2
 have HC1_2 := Aside0.mk hc1_2
 clear hr1_2 hc1_2
 have HB := Aside0.mk (Below.refl w.heap.size w)
 unfold flyballlaw03_is.f at H
 by_cases c3 : (a0_0 == a1_0) = true
 rotate_left
 ·rw [if_neg c3] at H
  have c3b0 : (a0_0 == a1_0) = false := by simpa using c3
  (try (have c3b1 : decide (a0_0 = a1_0) = false := by simpa using c3))
  (try (have c3b2 : (a0_0 == a1_0) = false := by simpa using c3))
  (try (have c3b3 : ¬ (a0_0 = a1_0) := by simpa using c3))
  clear c3
  obtain rfl := Option.some.inj H
  go_enter Try.func85, Try.ntmps85
  go_wp2_with (first | ((with_reducible refine gd 2 rfl ?_); refine bx 2 #[.bool a0_0, .slice A0_1 l0_1.length c0_1, .slice A0_2 l0_2.length c0_2] ?_; intro gb101 hg w22 hbox hb; have BK101 := Aside0.mk hbox; have GW101 := gB hg HB; have GE101 := gB hg HB; replace HB := bA HB hb; clear hb hbox hg) | ((with_reducible refine gd 3 rfl ?_); refine box_event ?hg (N := 3) ?hd (cs := #[.bool a1_0, .slice A1_1 l1_1.length c1_1, .slice A1_2 l1_2.length c1_2]) (t := 92) ?hr ?_; (case hd => rfl); (case hg => rfl); (case hr => first | (go_simp; done) | (go_simp; rfl)); intro gb102 hg w23 hbox hb; have BK102 := Aside0.mk hbox; have GW102 := gS' hg HB; have GE102 := gS' hg HB; replace HB := bS HB hb; have NB101_102 := nL hg BK101; have NB102_101 := nR hg BK101; replace BK101 := kA BK101 hb; clear hb hbox hg; have hnb24 := NB101_102.out; have hnc24 := NB102_101.out; obtain ⟨⟨hcz25_0, hcz25_1, hcz25_2⟩, hfz25_0, hfz25_1, hfz25_2⟩ := cE BK101; obtain ⟨⟨hcz26_0, hcz26_1, hcz26_2⟩, hfz26_0, hfz26_1, hfz26_2⟩ := cE BK102))
  go_ret
  exact ⟨er, hB⟩
 rw [if_pos c3] at H
 have c3b0 : (a0_0 == a1_0) = true := c3
 (try (have c3b1 : decide (a0_0 = a1_0) = true := by simpa using c3))
 (try (have c3b2 : (a0_0 == a1_0) = true := by simpa using c3))
 clear c3
 replace H := bi H
 obtain ⟨t103, A4, H⟩ := H
 by_cases c5 : t103 = true
 ·subst c5
  replace H := ifT H
  replace H := bi H
  obtain ⟨t104, A6, H⟩ := H
  obtain rfl := Option.some.inj H
  go_enter Try.func85, Try.ntmps85
  go_wp2_with (first | ((with_reducible refine gd 2 rfl ?_); refine bx 2 #[.bool a0_0, .slice A0_1 l0_1.length c0_1, .slice A0_2 l0_2.length c0_2] ?_; intro gb101 hg w7 hbox hb; have BK101 := Aside0.mk hbox; have GW101 := gB hg HB; have GE101 := gB hg HB; replace HB := bA HB hb; clear hb hbox hg) | ((with_reducible refine gd 3 rfl ?_); refine box_event ?hg (N := 3) ?hd (cs := #[.bool a1_0, .slice A1_1 l1_1.length c1_1, .slice A1_2 l1_2.length c1_2]) (t := 92) ?hr ?_; (case hd => rfl); (case hg => rfl); (case hr => first | (go_simp; done) | (go_simp; rfl)); intro gb102 hg w8 hbox hb; have BK102 := Aside0.mk hbox; have GW102 := gS' hg HB; have GE102 := gS' hg HB; replace HB := bS HB hb; have NB101_102 := nL hg BK101; have NB102_101 := nR hg BK101; replace BK101 := kA BK101 hb; clear hb hbox hg; have hnb9 := NB101_102.out; have hnc9 := NB102_101.out; obtain ⟨⟨hcz10_0, hcz10_1, hcz10_2⟩, hfz10_0, hfz10_1, hfz10_2⟩ := cE BK101; obtain ⟨⟨hcz11_0, hcz11_1, hcz11_2⟩, hfz11_0, hfz11_1, hfz11_2⟩ := cE BK102) | (go_at_call 27; (with_reducible refine (flyballref02_Is.calls k _ _ l0_1 _ _ l1_1 true _ ?_ ?_ ?_ ?_ A4.out).mono ?_); exact Kd.C_below HR0_1.out (bup HB.out); exact HC0_1.out; exact Kd.C_below HR1_1.out (bup HB.out); exact HC1_1.out; rintro e w12 ⟨rfl, hb⟩; replace BK101 := kA BK101 hb; replace BK102 := kA BK102 hb; replace HB := bS HB hb; clear hb; obtain ⟨⟨hcz13_0, hcz13_1, hcz13_2⟩, hfz13_0, hfz13_1, hfz13_2⟩ := cE BK101; obtain ⟨⟨hcz14_0, hcz14_1, hcz14_2⟩, hfz14_0, hfz14_1, hfz14_2⟩ := cE BK102) | (go_at_call 27; (with_reducible refine (flyballref02_Is.calls k _ _ l0_2 _ _ l1_2 t104 _ ?_ ?_ ?_ ?_ A6.out).mono ?_); exact Kd.C_below HR0_2.out (bup HB.out); exact HC0_2.out; exact Kd.C_below HR1_2.out (bup HB.out); exact HC1_2.out; rintro e w15 ⟨rfl, hb⟩; replace BK101 := kA BK101 hb; replace BK102 := kA BK102 hb; replace HB := bS HB hb; clear hb))
  go_ret
  exact ⟨er, hB⟩
 ·replace c5 := Bool.eq_false_iff.mpr c5
  subst c5
  have H1 : (some false) = some r := by rw [if_neg (show ¬ (false = true) by decide)] at H; exact H
  clear H
  have H := H1
  clear H1
  obtain rfl := Option.some.inj H
  go_enter Try.func85, Try.ntmps85
  go_wp2_with (first | ((with_reducible refine gd 2 rfl ?_); refine bx 2 #[.bool a0_0, .slice A0_1 l0_1.length c0_1, .slice A0_2 l0_2.length c0_2] ?_; intro gb101 hg w16 hbox hb; have BK101 := Aside0.mk hbox; have GW101 := gB hg HB; have GE101 := gB hg HB; replace HB := bA HB hb; clear hb hbox hg) | ((with_reducible refine gd 3 rfl ?_); refine box_event ?hg (N := 3) ?hd (cs := #[.bool a1_0, .slice A1_1 l1_1.length c1_1, .slice A1_2 l1_2.length c1_2]) (t := 92) ?hr ?_; (case hd => rfl); (case hg => rfl); (case hr => first | (go_simp; done) | (go_simp; rfl)); intro gb102 hg w17 hbox hb; have BK102 := Aside0.mk hbox; have GW102 := gS' hg HB; have GE102 := gS' hg HB; replace HB := bS HB hb; have NB101_102 := nL hg BK101; have NB102_101 := nR hg BK101; replace BK101 := kA BK101 hb; clear hb hbox hg; have hnb18 := NB101_102.out; have hnc18 := NB102_101.out; obtain ⟨⟨hcz19_0, hcz19_1, hcz19_2⟩, hfz19_0, hfz19_1, hfz19_2⟩ := cE BK101; obtain ⟨⟨hcz20_0, hcz20_1, hcz20_2⟩, hfz20_0, hfz20_1, hfz20_2⟩ := cE BK102) | (go_at_call 27; (with_reducible refine (flyballref02_Is.calls k _ _ l0_1 _ _ l1_1 false _ ?_ ?_ ?_ ?_ A4.out).mono ?_); exact Kd.C_below HR0_1.out (bup HB.out); exact HC0_1.out; exact Kd.C_below HR1_1.out (bup HB.out); exact HC1_1.out; rintro e w21 ⟨rfl, hb⟩; replace BK101 := kA BK101 hb; replace BK102 := kA BK102 hb; replace HB := bS HB hb; clear hb))
  go_ret
  exact ⟨er, hB⟩
def flyballref03_Minus.f (k : Nat) (a0_0 : Bool) (l0_1 : List Bool) (l0_2 : List Bool) : Option (Bool × List Bool × List Bool) := (flyballref03_Low.f k (!a0_0) l0_1 l0_2).bind fun bt103 => (some (bt103.1, bt103.2.1, bt103.2.2))
set_option maxHeartbeats 8000000 in
set_option maxRecDepth 100000 in
theorem flyballref03_Minus.calls (k : Nat) (a0_0 : Bool) (P0_1_ : Nat → Prop) (A0_1 : Option Addr) (c0_1 : Nat) (l0_1 : List Bool) (P0_2_ : Nat → Prop) (A0_2 : Option Addr) (c0_2 : Nat) (l0_2 : List Bool) (r1 : Bool) (r2 : List Bool) (r3 : List Bool) (w : World) (hs0_1 : Kd.V Kd.bool 4 w w.heap.size (fun k_ => P0_1_ k_) (.slice A0_1 l0_1.length c0_1) l0_1) (hs0_2 : Kd.V Kd.bool 4 w w.heap.size (fun k_ => P0_2_ k_) (.slice A0_2 l0_2.length c0_2) l0_2) (H : flyballref03_Minus.f k a0_0 l0_1 l0_2 = some (r1, r2, r3)) :
  Calls Try.prog 89 #[.agg #[.bool a0_0, .slice A0_1 l0_1.length c0_1, .slice A0_2 l0_2.length c0_2]] w fun e w' => ∃ v1_ v2_ : Value, e = .returned (.agg #[.bool r1, v1_, v2_]) ∧ Kd.V Kd.bool 4 w' w.heap.size (fun k_ => ((P0_1_ k_ ∨ P0_2_ k_) ∨ w.heap.size ≤ k_)) v1_ r2 ∧ Kd.V Kd.bool 4 w' w.heap.size (fun k_ => ((P0_1_ k_ ∨ P0_2_ k_) ∨ w.heap.size ≤ k_)) v2_ r3 ∧ Below w.heap.size w w' := by
 have hu92 := Try.underlying92
 have HO0_1 := Aside0.mk (show Kd.V Kd.bool 4 w w.heap.size (fun k_ => ((P0_1_ k_ ∨ P0_2_ k_) ∨ w.heap.size ≤ k_)) (.slice A0_1 l0_1.length c0_1) l0_1 from Kd.V_mono hs0_1 (fun k_ hk => .inl (.inl hk)))
 have HO0_2 := Aside0.mk (show Kd.V Kd.bool 4 w w.heap.size (fun k_ => ((P0_1_ k_ ∨ P0_2_ k_) ∨ w.heap.size ≤ k_)) (.slice A0_2 l0_2.length c0_2) l0_2 from Kd.V_mono hs0_2 (fun k_ hk => .inl (.inr hk)))
 have HB := Aside0.mk (Below.refl w.heap.size w)
 unfold flyballref03_Minus.f at H
 replace H := bi H
 obtain ⟨⟨t103, t104, t107⟩, A2, H⟩ := H
 try dsimp only at H
 simp only [Option.some.injEq, Prod.mk.injEq] at H
 obtain ⟨rfl, rfl, rfl⟩ := H
 go_enter Try.func89, Try.ntmps89
 go_wp2_with (first | ((with_reducible refine gd 1 rfl ?_); refine box_event ?hg (N := 1) ?hd (cs := #[.bool a0_0, .slice A0_1 l0_1.length c0_1, .slice A0_2 l0_2.length c0_2]) (t := 92) ?hr ?_; (case hd => rfl); (case hg => rfl); (case hr => first | (go_simp; done) | (go_simp; rfl)); intro gb101 hg w3 hbox hb; replace HO0_1 := vE HO0_1 hg hb; replace HO0_2 := vE HO0_2 hg hb; have BK101 := Aside0.mk hbox; have GW101 := gB hg HB; have GE101 := gB hg HB; replace HB := bA HB hb; clear hb hbox hg) | ((with_reducible refine gd 2 rfl ?_); refine box_event ?hg (N := 2) ?hd (cs := #[.bool false, .slice none 0 0, .slice none 0 0]) (t := 92) ?hr ?_; (case hd => rfl); (case hg => rfl); (case hr => first | (go_simp; done) | (go_simp; rfl)); intro gb102 hg w4 hbox hb; replace HO0_1 := vE HO0_1 hg hb; replace HO0_2 := vE HO0_2 hg hb; have BK102 := Aside0.mk hbox; have GW102 := gS' hg HB; have GE102 := gS' hg HB; replace HB := bS HB hb; have NB101_102 := nL hg BK101; have NB102_101 := nR hg BK101; replace BK101 := kA BK101 hb; clear hb hbox hg; have hnb5 := NB101_102.out; have hnc5 := NB102_101.out; obtain ⟨⟨hcz6_0, hcz6_1, hcz6_2⟩, hfz6_0, hfz6_1, hfz6_2⟩ := cE BK101) | ((with_reducible refine gc 96 rfl ?_); refine gL 10 Try.func96 #[.bool (!a0_0), .slice A0_1 l0_1.length c0_1, .slice A0_2 l0_2.length c0_2] ?_; (with_reducible refine (flyballref03_Low.calls k (!a0_0) (fun k_ => ((((P0_1_ k_ ∨ P0_2_ k_) ∨ w.heap.size ≤ k_) ∧ k_ ≠ gb101) ∧ k_ ≠ gb102)) _ _ l0_1 (fun k_ => ((((P0_1_ k_ ∨ P0_2_ k_) ∨ w.heap.size ≤ k_) ∧ k_ ≠ gb101) ∧ k_ ≠ gb102)) _ _ l0_2 t103 t104 t107 _ ?_ ?_ A2.out).mono ?_); exact HO0_1.out; exact HO0_2.out; rintro e w7 ⟨v105, v108, rfl, ho0, ho1, hb⟩; refine ⟨_, rfl, ?_⟩; replace HO0_1 := vA HO0_1 hb; replace HO0_2 := vA HO0_2 hb; have HO106 := lw HB (fun k_ => ((P0_1_ k_ ∨ P0_2_ k_) ∨ w.heap.size ≤ k_) ∧ k_ ≠ gb101 ∧ k_ ≠ gb102) ho0 (fun k_ hk_ => Or.elim hk_ (fun hs_ => Or.elim hs_ (fun hs_ => ⟨hs_.1.1, hs_.1.2, hs_.2⟩) (fun hs_ => ⟨hs_.1.1, hs_.1.2, hs_.2⟩)) (fun hn_ => ⟨.inr (Nat.le_trans (below_size hB) hn_), kF BK101 hn_, kF BK102 hn_⟩)); have HO109 := lw HB (fun k_ => ((P0_1_ k_ ∨ P0_2_ k_) ∨ w.heap.size ≤ k_) ∧ k_ ≠ gb101 ∧ k_ ≠ gb102) ho1 (fun k_ hk_ => Or.elim hk_ (fun hs_ => Or.elim hs_ (fun hs_ => ⟨hs_.1.1, hs_.1.2, hs_.2⟩) (fun hs_ => ⟨hs_.1.1, hs_.1.2, hs_.2⟩)) (fun hn_ => ⟨.inr (Nat.le_trans (below_size hB) hn_), kF BK101 hn_, kF BK102 hn_⟩)); replace BK101 := kA BK101 hb; replace BK102 := kA BK102 hb; replace HB := bS HB hb; clear hb ho0 ho1; obtain ⟨⟨hcz8_0, hcz8_1, hcz8_2⟩, hfz8_0, hfz8_1, hfz8_2⟩ := cE BK102; obtain ⟨Ao9, co9, eo9⟩ := Kd.V_slice HO106.out; subst eo9; obtain ⟨Ao10, co10, eo10⟩ := Kd.V_slice HO109.out; subst eo10))
 refine bodyPost_ret (results_cell_row rfl _ _ gb102 92 #[.bool t103, .slice Ao9 t104.length co9, .slice Ao10 t107.length co10] (0, 0) _ rfl (by exact kU (p3 BK102)) Try.underlying92 rfl (by kernel_rfl)) rfl ?_
 exact ⟨_, _, er, vG (v3p HO106 (fun _ hk => hk.2.2)) (fun _ hk => hk.1.1), vG (v3p HO109 (fun _ hk => hk.2.2)) (fun _ hk => hk.1.1), hB⟩
def flyballref03_Sign.f (k : Nat) (a0_0 : Bool) (l0_1 : List Bool) (l0_2 : List Bool) : Option (Int) := (flyballref01_Len.f k l0_1).bind fun t102 => (if t102 = 0 then (some 0) else (if a0_0 = true then (some (-1)) else (some 1)))
set_option maxHeartbeats 8000000 in
set_option maxRecDepth 100000 in
theorem flyballref03_Sign.calls (k : Nat) (a0_0 : Bool) (A0_1 : Option Addr) (c0_1 : Nat) (l0_1 : List Bool) (A0_2 : Option Addr) (c0_2 : Nat) (l0_2 : List Bool) (r : Int) (w : World) (hr0_1 : Kd.C Kd.bool w A0_1 l0_1.length l0_1) (hc0_1 : l0_1.length ≤ c0_1) (hr0_2 : Kd.C Kd.bool w A0_2 l0_2.length l0_2) (hc0_2 : l0_2.length ≤ c0_2) (H : flyballref03_Sign.f k a0_0 l0_1 l0_2 = some r) :
  Calls Try.prog 93 #[.agg #[.bool a0_0, .slice A0_1 l0_1.length c0_1, .slice A0_2 l0_2.length c0_2]] w fun e w' => e = .returned (.int .i64 r) ∧ Below w.heap.size w w' := by
 have hu92 := Try.underlying92
 have HR0_1 := Aside0.mk hr0_1
 have HC0_1 := Aside0.mk hc0_1
 clear hr0_1 hc0_1
 have HR0_2 := Aside0.mk hr0_2
 have HC0_2 := Aside0.mk hc0_2
 clear hr0_2 hc0_2
 have HB := Aside0.mk (Below.refl w.heap.size w)
 unfold flyballref03_Sign.f at H
 replace H := bi H
 obtain ⟨t102, A2, H⟩ := H
 by_cases c3 : t102 = 0
 ·rw [if_pos c3] at H
  obtain ⟨c3b0, c3b1⟩ := bqT c3
  clear c3
  obtain rfl := Option.some.inj H
  go_enter Try.func93, Try.ntmps93
  go_wp2_with (first | ((with_reducible refine gd 1 rfl ?_); refine box_event ?hg (N := 1) ?hd (cs := #[.bool a0_0, .slice A0_1 l0_1.length c0_1, .slice A0_2 l0_2.length c0_2]) (t := 92) ?hr ?_; (case hd => rfl); (case hg => rfl); (case hr => first | (go_simp; done) | (go_simp; rfl)); intro gb101 hg w4 hbox hb; have BK101 := Aside0.mk hbox; have GW101 := gB hg HB; have GE101 := gB hg HB; replace HB := bA HB hb; clear hb hbox hg; obtain ⟨⟨hcz5_0, hcz5_1, hcz5_2⟩, hfz5_0, hfz5_1, hfz5_2⟩ := cE BK101) | ((with_reducible refine gc 53 rfl ?_); refine gL 5 Try.func53 #[.slice A0_1 l0_1.length c0_1] ?_; (with_reducible refine (flyballref01_Len.calls k _ _ l0_1 t102 _ ?_ ?_ A2.out).mono ?_); exact Kd.C_below HR0_1.out (bup HB.out); exact HC0_1.out; rintro e w' ⟨rfl, ⟨nd, rfl⟩⟩; refine ⟨_, rfl, ?_⟩))
  go_ret
  exact ⟨er, hB⟩
 rw [if_neg c3] at H
 obtain ⟨c3b0, c3b1⟩ := bqF c3
 by_cases c6 : a0_0 = true
 ·subst c6
  replace H := ifT H
  obtain rfl := Option.some.inj H
  go_enter Try.func93, Try.ntmps93
  go_wp2_with (first | ((with_reducible refine gd 1 rfl ?_); refine box_event ?hg (N := 1) ?hd (cs := #[.bool true, .slice A0_1 l0_1.length c0_1, .slice A0_2 l0_2.length c0_2]) (t := 92) ?hr ?_; (case hd => rfl); (case hg => rfl); (case hr => first | (go_simp; done) | (go_simp; rfl)); intro gb101 hg w7 hbox hb; have BK101 := Aside0.mk hbox; have GW101 := gB hg HB; have GE101 := gB hg HB; replace HB := bA HB hb; clear hb hbox hg; obtain ⟨⟨hcz8_0, hcz8_1, hcz8_2⟩, hfz8_0, hfz8_1, hfz8_2⟩ := cE BK101) | ((with_reducible refine gc 53 rfl ?_); refine gL 5 Try.func53 #[.slice A0_1 l0_1.length c0_1] ?_; (with_reducible refine (flyballref01_Len.calls k _ _ l0_1 t102 _ ?_ ?_ A2.out).mono ?_); exact Kd.C_below HR0_1.out (bup HB.out); exact HC0_1.out; rintro e w' ⟨rfl, ⟨nd, rfl⟩⟩; refine ⟨_, rfl, ?_⟩))
  go_ret
  exact ⟨er, hB⟩
 ·replace c6 := Bool.eq_false_iff.mpr c6
  subst c6
  have H1 : (some 1) = some r := by rw [if_neg (show ¬ (false = true) by decide)] at H; exact H
  clear H
  have H := H1
  clear H1
  obtain rfl := Option.some.inj H
  go_enter Try.func93, Try.ntmps93
  go_wp2_with (first | ((with_reducible refine gd 1 rfl ?_); refine box_event ?hg (N := 1) ?hd (cs := #[.bool false, .slice A0_1 l0_1.length c0_1, .slice A0_2 l0_2.length c0_2]) (t := 92) ?hr ?_; (case hd => rfl); (case hg => rfl); (case hr => first | (go_simp; done) | (go_simp; rfl)); intro gb101 hg w9 hbox hb; have BK101 := Aside0.mk hbox; have GW101 := gB hg HB; have GE101 := gB hg HB; replace HB := bA HB hb; clear hb hbox hg; obtain ⟨⟨hcz10_0, hcz10_1, hcz10_2⟩, hfz10_0, hfz10_1, hfz10_2⟩ := cE BK101) | ((with_reducible refine gc 53 rfl ?_); refine gL 5 Try.func53 #[.slice A0_1 l0_1.length c0_1] ?_; (with_reducible refine (flyballref01_Len.calls k _ _ l0_1 t102 _ ?_ ?_ A2.out).mono ?_); exact Kd.C_below HR0_1.out (bup HB.out); exact HC0_1.out; rintro e w' ⟨rfl, ⟨nd, rfl⟩⟩; refine ⟨_, rfl, ?_⟩))
  go_ret
  exact ⟨er, hB⟩
mutual
def flyballref01_Add.l0 : Nat → List Bool → List Bool → List Bool → Bool → Int → Option (List Bool)
 | 0, _, _, _, _, _ => none
 | k + 1, x0, x1, x5, x6, x7 => if x7 < (x0.length : Int) then (flyballref01_Add.j1 k x0 x1 x5 x6 x7 true) else (if x7 < (x1.length : Int) then (flyballref01_Add.j1 k x0 x1 x5 x6 x7 true) else (flyballref01_Add.j1 k x0 x1 x5 x6 x7 x6))
def flyballref01_Add.j1 : Nat → List Bool → List Bool → List Bool → Bool → Int → Bool → Option (List Bool)
 | 0, _, _, _, _, _, _ => none
 | k + 1, x0, x1, x5, x6, x7, x22 => if x22 = true then ((flyballref01_bit.f x0 x7).bind fun t101 => ((flyballref01_bit.f x1 x7).bind fun t102 => (if x5.length < 140737488355328 then ((some (x5 ++ [((t101 != t102) != x6)] : List Bool)).bind fun y103 => (if t101 = true then (if t102 = true then (flyballref01_Add.l0 k x0 x1 y103 true (wrap64 (x7 + 1))) else (if x6 = true then (flyballref01_Add.l0 k x0 x1 y103 true (wrap64 (x7 + 1))) else (flyballref01_Add.l0 k x0 x1 y103 false (wrap64 (x7 + 1))))) else (if t102 = true then (flyballref01_Add.l0 k x0 x1 y103 x6 (wrap64 (x7 + 1))) else (flyballref01_Add.l0 k x0 x1 y103 false (wrap64 (x7 + 1)))))) else (none)))) else (some x5)
end
def flyballref01_Add.f (k : Nat) (l0 : List Bool) (l1 : List Bool) : Option (List Bool) := flyballref01_Add.l0 k l0 l1 ([] : List Bool) false 0
set_option maxHeartbeats 8000000 in
set_option maxRecDepth 100000 in
theorem flyballref01_Add.calls (k : Nat) (A0 : Option Addr) (c0 : Nat) (l0 : List Bool) (A1 : Option Addr) (c1 : Nat) (l1 : List Bool) (r : List Bool) (w : World) (hr0 : Kd.C Kd.bool w A0 l0.length l0) (hc0 : l0.length ≤ c0) (hr1 : Kd.C Kd.bool w A1 l1.length l1) (hc1 : l1.length ≤ c1) (H : flyballref01_Add.f k l0 l1 = some r) :
  Calls Try.prog 29 #[.slice A0 l0.length c0, .slice A1 l1.length c1] w fun e w' => ∃ v0_ : Value, e = .returned (v0_) ∧ Kd.R Kd.bool 4 w' w.heap.size (fun _ => True) v0_ r ∧ Below w.heap.size w w' := by
 have HR0 := Aside0.mk hr0
 have HC0 := Aside0.mk hc0
 clear hr0 hc0
 have HR1 := Aside0.mk hr1
 have HC1 := Aside0.mk hc1
 clear hr1 hc1
 have HB := Aside0.mk (Below.refl w.heap.size w)
 unfold flyballref01_Add.f at H
 have H' := Aside0.mk H
 clear H
 go_enter Try.func29, Try.ntmps29
 go_wp2
 go_loopg [5, 6, 7] k (fun kq v5 v6 v7 w' => ∃ (x5_1 : List Bool) (x6_1 : Bool) (x7_1 : Int), v6 = .bool x6_1 ∧ v7 = .int .i64 x7_1 ∧ Aside0 (flyballref01_Add.l0 kq l0 l1 x5_1 x6_1 x7_1 = some r) ∧ Aside0 (kq ≤ k) ∧ Aside0 (Kd.R Kd.bool 4 w' w.heap.size (fun _ => True) v5 x5_1) ∧ Aside0 (Below w.heap.size w w'))
 case atStart => exact ⟨(([] : List Bool)), (false), (0), rS, rS, H', ⟨Nat.le_refl _⟩, ⟨nil5⟩, ⟨bup HB.out⟩⟩
 case round =>
  clear H'
  try clear c1
  try clear c2
  try clear p2
  obtain ⟨x5_1, x6_1, x7_1, rfl, rfl, HA, HK1, HO_5, HB⟩ := hrel
  cases gk with
  | zero => exact absurd HA.out (by simp [flyballref01_Add.l0])
  | succ k1 =>
   have H := HA.out
   clear HA
   simp only [flyballref01_Add.l0] at H
   have HC3 := Aside0.mk H
   clear H
   go_upto_region 4 with (fail)
   go_cut [22] (fun v22 wc => ∃ (kq : Nat) (x22_2 : Bool), v22 = .bool x22_2 ∧ Aside0 (flyballref01_Add.j1 kq l0 l1 x5_1 x6_1 x7_1 x22_2 = some r) ∧ Aside0 (kq ≤ k1) ∧ Aside0 (Kd.R Kd.bool 4 wc w.heap.size (fun _ => True) u5 x5_1) ∧ Aside0 (Below w.heap.size w wc))
   case first =>
    have H := HC3.out
    clear HC3
    by_cases c4 : x7_1 < (l0.length : Int)
    ·rw [if_pos c4] at H
     have c4b0 : decide (x7_1 < (l0.length : Int)) = true := decide_eq_true c4
     clear c4
     (first | rw [c4b0] | (simp only [i64_w, i32_w]; rw [c4b0]) | skip)
     have H' := Aside0.mk H
     clear H
     go_wp2
     go_meet
     case rel => exact ⟨_, (true), rS, H', ⟨hk1⟩, ⟨rup HO_5.out⟩, ⟨bup HB.out⟩⟩
    rw [if_neg c4] at H
    have c4b0 : decide (x7_1 < (l0.length : Int)) = false := decide_eq_false c4
    clear c4
    (first | rw [c4b0] | (simp only [i64_w, i32_w]; rw [c4b0]) | skip)
    by_cases c5 : x7_1 < (l1.length : Int)
    rotate_left
    ·rw [if_neg c5] at H
     have c5b0 : decide (x7_1 < (l1.length : Int)) = false := decide_eq_false c5
     clear c5
     have H' := Aside0.mk H
     clear H
     go_wp2
     go_meet
     case rel => exact ⟨_, (x6_1), rS, H', ⟨hk1⟩, ⟨rup HO_5.out⟩, ⟨bup HB.out⟩⟩
    rw [if_pos c5] at H
    have c5b0 : decide (x7_1 < (l1.length : Int)) = true := decide_eq_true c5
    clear c5
    have H' := Aside0.mk H
    clear H
    go_wp2
    go_meet
    case rel => exact ⟨_, (true), rS, H', ⟨hk1⟩, ⟨rup HO_5.out⟩, ⟨bup HB.out⟩⟩
   case rest =>
    clear HC3
    try clear c1
    try clear c2
    try clear p2
    try clear c4
    try clear c4b0
    try clear c5
    try clear c5b0
    try clear p2
    obtain ⟨kq, x22_2, rfl, HA, HJ2, HO_5, HB⟩ := hcut
    cases kq with
    | zero => exact absurd HA.out (by simp [flyballref01_Add.j1])
    | succ kj2 =>
     have H := HA.out
     clear HA
     simp only [flyballref01_Add.j1] at H
     by_cases c6 : x22_2 = true
     ·subst c6
      replace H := ifT H
      replace H := bi H
      obtain ⟨t101, A7, H⟩ := H
      replace H := bi H
      obtain ⟨t102, A8, H⟩ := H
      replace H := iS H
      obtain ⟨c9, H⟩ := H
      have LMc9 := Aside0.mk c9
      clear c9
      obtain ⟨y103, hy103⟩ : ∃ y_ : List Bool, y_ = (x5_1 ++ [((t101 != t102) != x6_1)]) := ⟨_, rfl⟩
      replace H : (if t101 = true then (if t102 = true then (flyballref01_Add.l0 kj2 l0 l1 y103 true (wrap64 (x7_1 + 1))) else (if x6_1 = true then (flyballref01_Add.l0 kj2 l0 l1 y103 true (wrap64 (x7_1 + 1))) else (flyballref01_Add.l0 kj2 l0 l1 y103 false (wrap64 (x7_1 + 1))))) else (if t102 = true then (flyballref01_Add.l0 kj2 l0 l1 y103 x6_1 (wrap64 (x7_1 + 1))) else (flyballref01_Add.l0 kj2 l0 l1 y103 false (wrap64 (x7_1 + 1))))) = some r := by first | (rw [hy103]; with_reducible exact H) | (have H2_ := (Option.bind_some _ _).symm.trans H; rw [hy103]; with_reducible exact H2_) | (have H2_ := (Option.bind_some _ _).symm.trans H; with_reducible exact H2_) | with_reducible exact H | (rw [hy103]; exact H) | exact H
      have Ny103 := Aside0.mk hy103
      clear hy103
      by_cases c10 : t101 = true
      ·subst c10
       replace H := ifT H
       by_cases c11 : t102 = true
       ·subst c11
        replace H := ifT H
        have H' := Aside0.mk H
        clear H
        go_wp2_with (first | ((with_reducible refine gc 105 rfl ?_); refine gL 27 Try.func105 #[.slice A0 l0.length c0, .int .i64 x7_1] ?_; (with_reducible refine (flyballref01_bit.calls _ _ l0 x7_1 true _ ?_ ?_ A7.out).mono ?_); exact Kd.C_below HR0.out (bup HB.out); exact HC0.out; rintro e w' ⟨rfl, ⟨nd, rfl⟩⟩; refine ⟨_, rfl, ?_⟩) | ((with_reducible refine gc 105 rfl ?_); refine gL 30 Try.func105 #[.slice A1 l1.length c1, .int .i64 x7_1] ?_; (with_reducible refine (flyballref01_bit.calls _ _ l1 x7_1 true _ ?_ ?_ A8.out).mono ?_); exact Kd.C_below HR1.out (bup HB.out); exact HC1.out; rintro e w' ⟨rfl, ⟨nd, rfl⟩⟩; refine ⟨_, rfl, ?_⟩) | ((with_reducible refine gate_builtin (b := .append) (xs := #[.tmp 31, .tmp 37]) rfl ?_); (try (refine gate_guard (by rfl) ?_; dsimp only)); at_builtin; refine Kd.R_append Kd.bool (w0 := w) w.heap.size rfl (.tmp 31) (.tmp 37) 26 4 (.bool false) 1 rfl Try.underlying26 info4 rfl (by decide) (by omega) u5 x5_1 x6_1 [.bool x6_1] (fun _ => True) (fun _ => False) rfl rfl ?aP (fun _ hk => hk.elim) ?aF ?aO ?aB ?aS ?aL ?_; (case aP => exact rfl); (case aB => exact (bup HB.out)); (case aF => exact (fun _ _ => trivial)); (case aO => exact (rup HO_5.out)); (case aS => exact (below_size (bup HB.out))); (case aL => have := LMc9.out; omega); intro v104 w12 ho hb hg hat; rw [show x6_1 = ((true != true) != x6_1) from by cases x6_1 <;> rfl] at ho; rw [← Ny103.out] at ho; replace HB := Aside0.mk (hb); have HO105 := Aside0.mk (ho); clear HO_5; clear ho hb hg hat))
        go_roundg kj2
        case measure => have := HK1.out; have := HJ2.out; omega
        case rel => exact ⟨(y103), (true), (wrap64 (x7_1 + 1)), rS, rS, H', ⟨by have := HK1.out; have := HJ2.out; omega⟩, ⟨rup HO105.out⟩, ⟨bup HB.out⟩⟩
       ·replace c11 := Bool.eq_false_iff.mpr c11
        subst c11
        have H1 : (if x6_1 = true then (flyballref01_Add.l0 kj2 l0 l1 y103 true (wrap64 (x7_1 + 1))) else (flyballref01_Add.l0 kj2 l0 l1 y103 false (wrap64 (x7_1 + 1)))) = some r := by rw [if_neg (show ¬ (false = true) by decide)] at H; exact H
        clear H
        have H := H1
        clear H1
        by_cases c13 : x6_1 = true
        ·subst c13
         replace H := ifT H
         have H' := Aside0.mk H
         clear H
         go_wp2_with (first | ((with_reducible refine gc 105 rfl ?_); refine gL 27 Try.func105 #[.slice A0 l0.length c0, .int .i64 x7_1] ?_; (with_reducible refine (flyballref01_bit.calls _ _ l0 x7_1 true _ ?_ ?_ A7.out).mono ?_); exact Kd.C_below HR0.out (bup HB.out); exact HC0.out; rintro e w' ⟨rfl, ⟨nd, rfl⟩⟩; refine ⟨_, rfl, ?_⟩) | ((with_reducible refine gc 105 rfl ?_); refine gL 30 Try.func105 #[.slice A1 l1.length c1, .int .i64 x7_1] ?_; (with_reducible refine (flyballref01_bit.calls _ _ l1 x7_1 false _ ?_ ?_ A8.out).mono ?_); exact Kd.C_below HR1.out (bup HB.out); exact HC1.out; rintro e w' ⟨rfl, ⟨nd, rfl⟩⟩; refine ⟨_, rfl, ?_⟩) | ((with_reducible refine gate_builtin (b := .append) (xs := #[.tmp 31, .tmp 37]) rfl ?_); (try (refine gate_guard (by rfl) ?_; dsimp only)); at_builtin; refine Kd.R_append Kd.bool (w0 := w) w.heap.size rfl (.tmp 31) (.tmp 37) 26 4 (.bool false) 1 rfl Try.underlying26 info4 rfl (by decide) (by omega) u5 x5_1 ((true != false) != true) [.bool ((true != false) != true)] (fun _ => True) (fun _ => False) rfl rfl ?aP (fun _ hk => hk.elim) ?aF ?aO ?aB ?aS ?aL ?_; (case aP => exact rfl); (case aB => exact (bup HB.out)); (case aF => exact (fun _ _ => trivial)); (case aO => exact (rup HO_5.out)); (case aS => exact (below_size (bup HB.out))); (case aL => have := LMc9.out; omega); intro v104 w14 ho hb hg hat; rw [← Ny103.out] at ho; replace HB := Aside0.mk (hb); have HO105 := Aside0.mk (ho); clear HO_5; clear ho hb hg hat))
         go_roundg kj2
         case measure => have := HK1.out; have := HJ2.out; omega
         case rel => exact ⟨(y103), (true), (wrap64 (x7_1 + 1)), rS, rS, H', ⟨by have := HK1.out; have := HJ2.out; omega⟩, ⟨rup HO105.out⟩, ⟨bup HB.out⟩⟩
        ·replace c13 := Bool.eq_false_iff.mpr c13
         subst c13
         have H1 : (flyballref01_Add.l0 kj2 l0 l1 y103 false (wrap64 (x7_1 + 1))) = some r := by rw [if_neg (show ¬ (false = true) by decide)] at H; exact H
         clear H
         have H := H1
         clear H1
         have H' := Aside0.mk H
         clear H
         go_wp2_with (first | ((with_reducible refine gc 105 rfl ?_); refine gL 27 Try.func105 #[.slice A0 l0.length c0, .int .i64 x7_1] ?_; (with_reducible refine (flyballref01_bit.calls _ _ l0 x7_1 true _ ?_ ?_ A7.out).mono ?_); exact Kd.C_below HR0.out (bup HB.out); exact HC0.out; rintro e w' ⟨rfl, ⟨nd, rfl⟩⟩; refine ⟨_, rfl, ?_⟩) | ((with_reducible refine gc 105 rfl ?_); refine gL 30 Try.func105 #[.slice A1 l1.length c1, .int .i64 x7_1] ?_; (with_reducible refine (flyballref01_bit.calls _ _ l1 x7_1 false _ ?_ ?_ A8.out).mono ?_); exact Kd.C_below HR1.out (bup HB.out); exact HC1.out; rintro e w' ⟨rfl, ⟨nd, rfl⟩⟩; refine ⟨_, rfl, ?_⟩) | ((with_reducible refine gate_builtin (b := .append) (xs := #[.tmp 31, .tmp 37]) rfl ?_); (try (refine gate_guard (by rfl) ?_; dsimp only)); at_builtin; refine Kd.R_append Kd.bool (w0 := w) w.heap.size rfl (.tmp 31) (.tmp 37) 26 4 (.bool false) 1 rfl Try.underlying26 info4 rfl (by decide) (by omega) u5 x5_1 ((true != false) != false) [.bool ((true != false) != false)] (fun _ => True) (fun _ => False) rfl rfl ?aP (fun _ hk => hk.elim) ?aF ?aO ?aB ?aS ?aL ?_; (case aP => exact rfl); (case aB => exact (bup HB.out)); (case aF => exact (fun _ _ => trivial)); (case aO => exact (rup HO_5.out)); (case aS => exact (below_size (bup HB.out))); (case aL => have := LMc9.out; omega); intro v104 w15 ho hb hg hat; rw [← Ny103.out] at ho; replace HB := Aside0.mk (hb); have HO105 := Aside0.mk (ho); clear HO_5; clear ho hb hg hat))
         go_roundg kj2
         case measure => have := HK1.out; have := HJ2.out; omega
         case rel => exact ⟨(y103), (false), (wrap64 (x7_1 + 1)), rS, rS, H', ⟨by have := HK1.out; have := HJ2.out; omega⟩, ⟨rup HO105.out⟩, ⟨bup HB.out⟩⟩
      ·replace c10 := Bool.eq_false_iff.mpr c10
       subst c10
       have H1 : (if t102 = true then (flyballref01_Add.l0 kj2 l0 l1 y103 x6_1 (wrap64 (x7_1 + 1))) else (flyballref01_Add.l0 kj2 l0 l1 y103 false (wrap64 (x7_1 + 1)))) = some r := by rw [if_neg (show ¬ (false = true) by decide)] at H; exact H
       clear H
       have H := H1
       clear H1
       by_cases c16 : t102 = true
       ·subst c16
        replace H := ifT H
        have H' := Aside0.mk H
        clear H
        go_wp2_with (first | ((with_reducible refine gc 105 rfl ?_); refine gL 27 Try.func105 #[.slice A0 l0.length c0, .int .i64 x7_1] ?_; (with_reducible refine (flyballref01_bit.calls _ _ l0 x7_1 false _ ?_ ?_ A7.out).mono ?_); exact Kd.C_below HR0.out (bup HB.out); exact HC0.out; rintro e w' ⟨rfl, ⟨nd, rfl⟩⟩; refine ⟨_, rfl, ?_⟩) | ((with_reducible refine gc 105 rfl ?_); refine gL 30 Try.func105 #[.slice A1 l1.length c1, .int .i64 x7_1] ?_; (with_reducible refine (flyballref01_bit.calls _ _ l1 x7_1 true _ ?_ ?_ A8.out).mono ?_); exact Kd.C_below HR1.out (bup HB.out); exact HC1.out; rintro e w' ⟨rfl, ⟨nd, rfl⟩⟩; refine ⟨_, rfl, ?_⟩) | ((with_reducible refine gate_builtin (b := .append) (xs := #[.tmp 31, .tmp 37]) rfl ?_); (try (refine gate_guard (by rfl) ?_; dsimp only)); at_builtin; refine Kd.R_append Kd.bool (w0 := w) w.heap.size rfl (.tmp 31) (.tmp 37) 26 4 (.bool false) 1 rfl Try.underlying26 info4 rfl (by decide) (by omega) u5 x5_1 (!x6_1) [.bool (!x6_1)] (fun _ => True) (fun _ => False) rfl rfl ?aP (fun _ hk => hk.elim) ?aF ?aO ?aB ?aS ?aL ?_; (case aP => exact rfl); (case aB => exact (bup HB.out)); (case aF => exact (fun _ _ => trivial)); (case aO => exact (rup HO_5.out)); (case aS => exact (below_size (bup HB.out))); (case aL => have := LMc9.out; omega); intro v104 w17 ho hb hg hat; rw [show (!x6_1) = ((false != true) != x6_1) from by cases x6_1 <;> rfl] at ho; rw [← Ny103.out] at ho; replace HB := Aside0.mk (hb); have HO105 := Aside0.mk (ho); clear HO_5; clear ho hb hg hat))
        go_roundg kj2
        case measure => have := HK1.out; have := HJ2.out; omega
        case rel => exact ⟨(y103), (x6_1), (wrap64 (x7_1 + 1)), rS, rS, H', ⟨by have := HK1.out; have := HJ2.out; omega⟩, ⟨rup HO105.out⟩, ⟨bup HB.out⟩⟩
       ·replace c16 := Bool.eq_false_iff.mpr c16
        subst c16
        have H1 : (flyballref01_Add.l0 kj2 l0 l1 y103 false (wrap64 (x7_1 + 1))) = some r := by rw [if_neg (show ¬ (false = true) by decide)] at H; exact H
        clear H
        have H := H1
        clear H1
        have H' := Aside0.mk H
        clear H
        go_wp2_with (first | ((with_reducible refine gc 105 rfl ?_); refine gL 27 Try.func105 #[.slice A0 l0.length c0, .int .i64 x7_1] ?_; (with_reducible refine (flyballref01_bit.calls _ _ l0 x7_1 false _ ?_ ?_ A7.out).mono ?_); exact Kd.C_below HR0.out (bup HB.out); exact HC0.out; rintro e w' ⟨rfl, ⟨nd, rfl⟩⟩; refine ⟨_, rfl, ?_⟩) | ((with_reducible refine gc 105 rfl ?_); refine gL 30 Try.func105 #[.slice A1 l1.length c1, .int .i64 x7_1] ?_; (with_reducible refine (flyballref01_bit.calls _ _ l1 x7_1 false _ ?_ ?_ A8.out).mono ?_); exact Kd.C_below HR1.out (bup HB.out); exact HC1.out; rintro e w' ⟨rfl, ⟨nd, rfl⟩⟩; refine ⟨_, rfl, ?_⟩) | ((with_reducible refine gate_builtin (b := .append) (xs := #[.tmp 31, .tmp 37]) rfl ?_); (try (refine gate_guard (by rfl) ?_; dsimp only)); at_builtin; refine Kd.R_append Kd.bool (w0 := w) w.heap.size rfl (.tmp 31) (.tmp 37) 26 4 (.bool false) 1 rfl Try.underlying26 info4 rfl (by decide) (by omega) u5 x5_1 x6_1 [.bool x6_1] (fun _ => True) (fun _ => False) rfl rfl ?aP (fun _ hk => hk.elim) ?aF ?aO ?aB ?aS ?aL ?_; (case aP => exact rfl); (case aB => exact (bup HB.out)); (case aF => exact (fun _ _ => trivial)); (case aO => exact (rup HO_5.out)); (case aS => exact (below_size (bup HB.out))); (case aL => have := LMc9.out; omega); intro v104 w18 ho hb hg hat; rw [show x6_1 = ((false != false) != x6_1) from by cases x6_1 <;> rfl] at ho; rw [← Ny103.out] at ho; replace HB := Aside0.mk (hb); have HO105 := Aside0.mk (ho); clear HO_5; clear ho hb hg hat))
        go_roundg kj2
        case measure => have := HK1.out; have := HJ2.out; omega
        case rel => exact ⟨(y103), (false), (wrap64 (x7_1 + 1)), rS, rS, H', ⟨by have := HK1.out; have := HJ2.out; omega⟩, ⟨rup HO105.out⟩, ⟨bup HB.out⟩⟩
     ·replace c6 := Bool.eq_false_iff.mpr c6
      subst c6
      have H1 : (some x5_1) = some r := by rw [if_neg (show ¬ (false = true) by decide)] at H; exact H
      clear H
      have H := H1
      clear H1
      obtain rfl := Option.some.inj H
      go_wp2
      go_ret
      exact ⟨_, er, rup HO_5.out, bup HB.out⟩
def flyballref01_Shl.l0 : Nat → List Bool → Int → List Bool → Int → Option (List Bool)
 | 0, _, _, _, _ => none
 | k + 1, x0, x1, x5, x6 => if x6 < x1 then (if x5.length < 140737488355328 then (flyballref01_Shl.l0 k x0 x1 (x5 ++ [false]) (wrap64 (x6 + 1))) else (none)) else (if x5.length + x0.length < 140737488355328 then (some (x5 ++ x0)) else (none))
def flyballref01_Shl.f (k : Nat) (l0 : List Bool) (a1 : Int) : Option (List Bool) := flyballref01_Shl.l0 k l0 a1 ([] : List Bool) 0
set_option maxHeartbeats 8000000 in
set_option maxRecDepth 100000 in
theorem flyballref01_Shl.calls (k : Nat) (A0 : Option Addr) (c0 : Nat) (l0 : List Bool) (a1 : Int) (r : List Bool) (w : World) (hr0 : Kd.C Kd.bool w A0 l0.length l0) (hc0 : l0.length ≤ c0) (H : flyballref01_Shl.f k l0 a1 = some r) :
  Calls Try.prog 45 #[.slice A0 l0.length c0, .int .i64 a1] w fun e w' => ∃ v0_ : Value, e = .returned (v0_) ∧ Kd.R Kd.bool 4 w' w.heap.size (fun _ => True) v0_ r ∧ Below w.heap.size w w' := by
 have HR0 := Aside0.mk hr0
 have HC0 := Aside0.mk hc0
 clear hr0 hc0
 have HB := Aside0.mk (Below.refl w.heap.size w)
 unfold flyballref01_Shl.f at H
 have H' := Aside0.mk H
 clear H
 go_enter Try.func45, Try.ntmps45
 go_wp2
 go_loopg [5, 6] k (fun kq v5 v6 w' => ∃ (x5_1 : List Bool) (x6_1 : Int), v6 = .int .i64 x6_1 ∧ Aside0 (flyballref01_Shl.l0 kq l0 a1 x5_1 x6_1 = some r) ∧ Aside0 (kq ≤ k) ∧ Aside0 (Kd.R Kd.bool 4 w' w.heap.size (fun _ => True) v5 x5_1) ∧ Aside0 (Below w.heap.size w w'))
 case atStart => exact ⟨(([] : List Bool)), (0), rS, H', ⟨Nat.le_refl _⟩, ⟨nil5⟩, ⟨bup HB.out⟩⟩
 case round =>
  clear H'
  try clear p2
  obtain ⟨x5_1, x6_1, rfl, HA, HK1, HO_5, HB⟩ := hrel
  cases gk with
  | zero => exact absurd HA.out (by simp [flyballref01_Shl.l0])
  | succ k1 =>
   have H := HA.out
   clear HA
   simp only [flyballref01_Shl.l0] at H
   by_cases c3 : x6_1 < a1
   rotate_left
   ·rw [if_neg c3] at H
    have c3b0 : decide (x6_1 < a1) = false := decide_eq_false c3
    clear c3
    replace H := iS H
    obtain ⟨c6, H⟩ := H
    have LMc6 := Aside0.mk c6
    clear c6
    obtain ⟨y104, hy104⟩ : ∃ y_ : List Bool, y_ = (x5_1 ++ l0) := ⟨_, rfl⟩
    replace H : (some y104) = some r := by first | (rw [hy104]; with_reducible exact H) | (have H2_ := (Option.bind_some _ _).symm.trans H; rw [hy104]; with_reducible exact H2_) | (have H2_ := (Option.bind_some _ _).symm.trans H; with_reducible exact H2_) | with_reducible exact H | (rw [hy104]; exact H) | exact H
    have Ny104 := Aside0.mk hy104
    clear hy104
    obtain rfl := Option.some.inj H
    go_wp2_with (first | ((with_reducible refine gate_builtin (b := .append) (xs := #[.tmp 15, .tmp 16]) rfl ?_); at_builtin; refine Kd.R_append_rows Kd.bool (w0 := w) w.heap.size rfl (.tmp 15) (.tmp 16) 26 4 (.bool false) 1 rfl Try.underlying26 info4 rfl (by decide) (by omega) u5 x5_1 l0 _ _ _ (fun _ => True) (fun _ => False) rfl rfl ?aO ?aR (fun _ _ h => h) (fun _ h => h.elim) ?aF ?aB ?aS ?aL ?_; (case aR => repeat (first | exact (Kd.C_below HR0.out HB.out) | (with_reducible refine Kd.C_alloc ?_ _) | (with_reducible refine Kd.C_drewN ?_ _) | (with_reducible refine Kd.C_drew ?_))); (case aB => exact (bup HB.out)); (case aF => exact (fun _ _ => trivial)); (case aO => exact (rup HO_5.out)); (case aS => exact (below_size (bup HB.out))); (case aL => have := LMc6.out; omega); intro v105 w7 ho hb hg hat; rw [← Ny104.out] at ho; replace HB := Aside0.mk (hb); have HO106 := Aside0.mk (ho); clear HO_5; clear ho hb hg hat))
    go_ret
    exact ⟨_, er, rup HO106.out, bup HB.out⟩
   rw [if_pos c3] at H
   have c3b0 : decide (x6_1 < a1) = true := decide_eq_true c3
   clear c3
   replace H := iS H
   obtain ⟨c4, H⟩ := H
   have LMc4 := Aside0.mk c4
   clear c4
   obtain ⟨y101, hy101⟩ : ∃ y_ : List Bool, y_ = (x5_1 ++ [false]) := ⟨_, rfl⟩
   replace H : (flyballref01_Shl.l0 k1 l0 a1 y101 (wrap64 (x6_1 + 1))) = some r := by first | (rw [hy101]; with_reducible exact H) | (have H2_ := (Option.bind_some _ _).symm.trans H; rw [hy101]; with_reducible exact H2_) | (have H2_ := (Option.bind_some _ _).symm.trans H; with_reducible exact H2_) | with_reducible exact H | (rw [hy101]; exact H) | exact H
   have Ny101 := Aside0.mk hy101
   clear hy101
   have H' := Aside0.mk H
   clear H
   go_wp2_with (first | ((with_reducible refine gate_builtin (b := .append) (xs := #[.tmp 12, .tmp 13]) rfl ?_); at_builtin; refine Kd.R_append Kd.bool (w0 := w) w.heap.size rfl (.tmp 12) (.tmp 13) 26 4 (.bool false) 1 rfl Try.underlying26 info4 rfl (by decide) (by omega) u5 x5_1 false [.bool false] (fun _ => True) (fun _ => False) rfl rfl ?aP (fun _ hk => hk.elim) ?aF ?aO ?aB ?aS ?aL ?_; (case aP => exact rfl); (case aB => exact (bup HB.out)); (case aF => exact (fun _ _ => trivial)); (case aO => exact (rup HO_5.out)); (case aS => exact (below_size (bup HB.out))); (case aL => have := LMc4.out; omega); intro v102 w5 ho hb hg hat; rw [← Ny101.out] at ho; replace HB := Aside0.mk (hb); have HO103 := Aside0.mk (ho); clear HO_5; clear ho hb hg hat))
   go_roundg k1
   case measure => have := HK1.out; omega
   case rel => exact ⟨(y101), (wrap64 (x6_1 + 1)), rS, H', ⟨hk1⟩, ⟨rup HO103.out⟩, ⟨bup HB.out⟩⟩
def flyballref01_Mul.l0 : Nat → List Bool → List Bool → List Bool → Int → Option (List Bool)
 | 0, _, _, _, _ => none
 | k + 1, x0, x1, x5, x6 => if x6 < (x1.length : Int) then (if 0 ≤ x6 then (if rdOf false x1 x6 = true then ((flyballref01_Shl.f k x0 x6).bind fun t102 => ((flyballref01_Add.f k x5 t102).bind fun t105 => (flyballref01_Mul.l0 k x0 x1 t105 (wrap64 (x6 + 1))))) else (flyballref01_Mul.l0 k x0 x1 x5 (wrap64 (x6 + 1)))) else (none)) else (some x5)
def flyballref01_Mul.f (k : Nat) (l0 : List Bool) (l1 : List Bool) : Option (List Bool) := flyballref01_Mul.l0 k l0 l1 ([] : List Bool) 0
set_option maxHeartbeats 8000000 in
set_option maxRecDepth 100000 in
theorem flyballref01_Mul.calls (k : Nat) (A0 : Option Addr) (c0 : Nat) (l0 : List Bool) (A1 : Option Addr) (c1 : Nat) (l1 : List Bool) (r : List Bool) (w : World) (hr0 : Kd.C Kd.bool w A0 l0.length l0) (hc0 : l0.length ≤ c0) (hr1 : Kd.C Kd.bool w A1 l1.length l1) (hc1 : l1.length ≤ c1) (H : flyballref01_Mul.f k l0 l1 = some r) :
  Calls Try.prog 31 #[.slice A0 l0.length c0, .slice A1 l1.length c1] w fun e w' => ∃ v0_ : Value, e = .returned (v0_) ∧ Kd.R Kd.bool 4 w' w.heap.size (fun _ => True) v0_ r ∧ Below w.heap.size w w' := by
 have HR0 := Aside0.mk hr0
 have HC0 := Aside0.mk hc0
 clear hr0 hc0
 have HR1 := Aside0.mk hr1
 have HC1 := Aside0.mk hc1
 clear hr1 hc1
 have HB := Aside0.mk (Below.refl w.heap.size w)
 unfold flyballref01_Mul.f at H
 have H' := Aside0.mk H
 clear H
 go_enter Try.func31, Try.ntmps31
 go_wp2
 go_loopg [5, 6] k (fun kq v5 v6 w' => ∃ (x5_1 : List Bool) (x6_1 : Int), v6 = .int .i64 x6_1 ∧ Aside0 (flyballref01_Mul.l0 kq l0 l1 x5_1 x6_1 = some r) ∧ Aside0 (kq ≤ k) ∧ Aside0 (Kd.R Kd.bool 4 w' w.heap.size (fun _ => True) v5 x5_1) ∧ Aside0 (Below w.heap.size w w'))
 case atStart => exact ⟨(([] : List Bool)), (0), rS, H', ⟨Nat.le_refl _⟩, ⟨nil5⟩, ⟨bup HB.out⟩⟩
 case round =>
  clear H'
  try clear c1
  try clear p2
  obtain ⟨x5_1, x6_1, rfl, HA, HK1, HO_5, HB⟩ := hrel
  cases gk with
  | zero => exact absurd HA.out (by simp [flyballref01_Mul.l0])
  | succ k1 =>
   have H := HA.out
   clear HA
   simp only [flyballref01_Mul.l0] at H
   by_cases c3 : x6_1 < (l1.length : Int)
   rotate_left
   ·rw [if_neg c3] at H
    have c3b0 : decide (x6_1 < (l1.length : Int)) = false := decide_eq_false c3
    clear c3
    obtain rfl := Option.some.inj H
    go_wp2
    go_ret
    exact ⟨_, er, rup HO_5.out, bup HB.out⟩
   rw [if_pos c3] at H
   have c3b0 : decide (x6_1 < (l1.length : Int)) = true := decide_eq_true c3
   clear c3
   replace H := iS H
   obtain ⟨c4, H⟩ := H
   have c4b0 : decide (0 ≤ x6_1) = true := decide_eq_true c4
   clear c4
   obtain ⟨bq5, hbq5⟩ : ∃ b_ : Bool, b_ = (rdOf false l1 x6_1) := ⟨_, rfl⟩
   replace H : (if bq5 = true then ((flyballref01_Shl.f k1 l0 x6_1).bind fun t102 => ((flyballref01_Add.f k1 x5_1 t102).bind fun t105 => (flyballref01_Mul.l0 k1 l0 l1 t105 (wrap64 (x6_1 + 1))))) else (flyballref01_Mul.l0 k1 l0 l1 x5_1 (wrap64 (x6_1 + 1)))) = some r := by rw [← hbq5] at H; exact H
   have Nbq5 := Aside0.mk hbq5
   clear hbq5
   by_cases c6 : bq5 = true
   ·subst c6
    replace H := ifT H
    replace H := bi H
    obtain ⟨t102, A7, H⟩ := H
    replace H := bi H
    obtain ⟨t105, A8, H⟩ := H
    have H' := Aside0.mk H
    clear H
    have p101 : 0 ≤ (x6_1 : Int) := of_decide_eq_true asm
    have q101 : x6_1 < (l1.length : Int) := of_decide_eq_true asm
    obtain ⟨ad101, e101, hx101_0⟩ := Kd.at_bool HR1.out x6_1 p101 q101
    (try rw [← Nbq5.out] at hx101_0)
    cases e101
    replace hx101_0 := (HB.out.cell (World.block_lt_of_cell? w _ hx101_0)).trans hx101_0
    replace p101 := eq_true p101
    replace q101 := eq_true q101
    go_wp2_with (first | ((with_reducible refine gc 45 rfl ?_); refine gL 20 Try.func45 #[.slice A0 l0.length c0, .int .i64 x6_1] ?_; (with_reducible refine (flyballref01_Shl.calls k1 _ _ l0 x6_1 t102 _ ?_ ?_ A7.out).mono ?_); exact Kd.C_below HR0.out (bup HB.out); exact HC0.out; rintro e w9 ⟨v103, rfl, ho0, hb⟩; refine ⟨_, rfl, ?_⟩; have HO104 := Aside0.mk (Kd.R_lower (Kd.R_new' ho0 (Kd.R_lt (rup HO_5.out))) (below_size (bup HB.out))); replace HO_5 := Aside0.mk (Kd.R_elder' (rup HO_5.out) (Kd.R_base ho0) hb); replace HB := bA HB hb; clear hb ho0; obtain ⟨Ao10, co10, eo10⟩ := Kd.R_slice HO_5.out; subst eo10; obtain ⟨Ao11, co11, eo11⟩ := Kd.R_slice HO104.out; subst eo11) | ((with_reducible refine gc 29 rfl ?_); refine gL 21 Try.func29 #[.slice Ao10 x5_1.length co10, .slice Ao11 t102.length co11] ?_; (with_reducible refine (flyballref01_Add.calls k1 _ _ x5_1 _ _ t102 t105 _ ?_ ?_ ?_ ?_ A8.out).mono ?_); exact cup ((Kd.R_reads' HO_5.out).2.2); exact (Kd.R_reads' HO_5.out).2.1; exact cup ((Kd.R_reads' HO104.out).2.2); exact (Kd.R_reads' HO104.out).2.1; rintro e w12 ⟨v106, rfl, ho0, hb⟩; refine ⟨_, rfl, ?_⟩; have HO107 := Aside0.mk (Kd.R_lower (Kd.R_new' (Kd.R_new' ho0 (Kd.R_lt (rup HO_5.out))) (Kd.R_lt (rup HO104.out))) (below_size (bup HB.out))); replace HO_5 := Aside0.mk (Kd.R_elder' (rup HO_5.out) (Kd.R_base ho0) hb); replace HO104 := Aside0.mk (Kd.R_elder' (rup HO104.out) (Kd.R_base ho0) hb); replace HB := bA HB hb; clear hb ho0))
    go_roundg k1
    case measure => have := HK1.out; omega
    case rel => exact ⟨(t105), (wrap64 (x6_1 + 1)), rS, H', ⟨hk1⟩, ⟨by (with_reducible repeat (first | apply Kd.R_alloc | apply Kd.R_drewN | apply Kd.R_drew)); exact Kd.R_mono HO107.out (fun _ hk => trivial)⟩, ⟨bup HB.out⟩⟩
   ·replace c6 := Bool.eq_false_iff.mpr c6
    subst c6
    have H1 : (flyballref01_Mul.l0 k1 l0 l1 x5_1 (wrap64 (x6_1 + 1))) = some r := by rw [if_neg (show ¬ (false = true) by decide)] at H; exact H
    clear H
    have H := H1
    clear H1
    have H' := Aside0.mk H
    clear H
    have p101 : 0 ≤ (x6_1 : Int) := of_decide_eq_true asm
    have q101 : x6_1 < (l1.length : Int) := of_decide_eq_true asm
    obtain ⟨ad101, e101, hx101_0⟩ := Kd.at_bool HR1.out x6_1 p101 q101
    (try rw [← Nbq5.out] at hx101_0)
    cases e101
    replace hx101_0 := (HB.out.cell (World.block_lt_of_cell? w _ hx101_0)).trans hx101_0
    replace p101 := eq_true p101
    replace q101 := eq_true q101
    go_wp2
    go_roundg k1
    case measure => have := HK1.out; omega
    case rel => exact ⟨(x5_1), (wrap64 (x6_1 + 1)), rS, H', ⟨hk1⟩, ⟨rup HO_5.out⟩, ⟨bup HB.out⟩⟩
def flyballref03_Add.f (k : Nat) (a0_0 : Bool) (l0_1 : List Bool) (l0_2 : List Bool) (a1_0 : Bool) (l1_1 : List Bool) (l1_2 : List Bool) : Option (Bool × List Bool × List Bool) := (flyballref01_Mul.f k l0_1 l1_2).bind fun t104 => ((flyballref01_Mul.f k l1_1 l0_2).bind fun t107 => ((flyballref01_Mul.f k l0_2 l1_2).bind fun t110 => (if (a0_0 == a1_0) = true then ((flyballref01_Add.f k t104 t107).bind fun t113 => ((flyballref03_Low.f k a0_0 t113 t110).bind fun bt116 => (some (bt116.1, bt116.2.1, bt116.2.2)))) else ((flyballref01_Cmp.f k t104 t107).bind fun t123 => (if t123 ≥ 0 then ((flyballref01_Sub.f k t104 t107 (mx (t104.length : Int) (t107.length : Int))).bind fun bt124 => ((flyballref03_Low.f k a0_0 bt124.1 t110).bind fun bt128 => (some (bt128.1, bt128.2.1, bt128.2.2)))) else ((flyballref01_Sub.f k t107 t104 (mx (t104.length : Int) (t107.length : Int))).bind fun bt135 => ((flyballref03_Low.f k a1_0 bt135.1 t110).bind fun bt139 => (some (bt139.1, bt139.2.1, bt139.2.2)))))))))
def flyballref03_Add.T5 : Bool × List (List Nat × List Nat) := (true, [([], []), ([0], [0]), ([], []), ([], []), ([2, 3], [2, 3]), ([], []), ([1, 4, 5, 4], [1, 4, 5]), ([6, 6, 0, 1, 2, 3, 4, 5, 6], [6])])
def flyballref03_Add.B5 : List Nat := [0, 1, 0, 0, 12, 0, 63, 127]
theorem flyballref03_Add.tab5 : rtab .any (opsOf Try.f87 5) = flyballref03_Add.T5 := by kernel_rfl
theorem flyballref03_Add.bits5 : waitsOk flyballref03_Add.T5.2 flyballref03_Add.B5 = true := by kernel_rfl
set_option maxHeartbeats 8000000 in
set_option maxRecDepth 100000 in
theorem flyballref03_Add.calls (k : Nat) (a0_0 : Bool) (A0_1 : Option Addr) (c0_1 : Nat) (l0_1 : List Bool) (A0_2 : Option Addr) (c0_2 : Nat) (l0_2 : List Bool) (a1_0 : Bool) (A1_1 : Option Addr) (c1_1 : Nat) (l1_1 : List Bool) (A1_2 : Option Addr) (c1_2 : Nat) (l1_2 : List Bool) (r1 : Bool) (r2 : List Bool) (r3 : List Bool) (w : World) (hr0_1 : Kd.C Kd.bool w A0_1 l0_1.length l0_1) (hc0_1 : l0_1.length ≤ c0_1) (hr0_2 : Kd.C Kd.bool w A0_2 l0_2.length l0_2) (hc0_2 : l0_2.length ≤ c0_2) (hr1_1 : Kd.C Kd.bool w A1_1 l1_1.length l1_1) (hc1_1 : l1_1.length ≤ c1_1) (hr1_2 : Kd.C Kd.bool w A1_2 l1_2.length l1_2) (hc1_2 : l1_2.length ≤ c1_2) (H : flyballref03_Add.f k a0_0 l0_1 l0_2 a1_0 l1_1 l1_2 = some (r1, r2, r3)) :
  Calls Try.prog 87 #[.agg #[.bool a0_0, .slice A0_1 l0_1.length c0_1, .slice A0_2 l0_2.length c0_2], .agg #[.bool a1_0, .slice A1_1 l1_1.length c1_1, .slice A1_2 l1_2.length c1_2]] w fun e w' => ∃ v1_ v2_ : Value, e = .returned (.agg #[.bool r1, v1_, v2_]) ∧ Kd.V Kd.bool 4 w' w.heap.size (fun k_ => (w.heap.size ≤ k_)) v1_ r2 ∧ Kd.V Kd.bool 4 w' w.heap.size (fun k_ => (w.heap.size ≤ k_)) v2_ r3 ∧ Below w.heap.size w w' := by
 have hu92 := Try.underlying92
 have HR0_1 := Aside0.mk hr0_1
 have HC0_1 := Aside0.mk hc0_1
 clear hr0_1 hc0_1
 have HR0_2 := Aside0.mk hr0_2
 have HC0_2 := Aside0.mk hc0_2
 clear hr0_2 hc0_2
 have HR1_1 := Aside0.mk hr1_1
 have HC1_1 := Aside0.mk hc1_1
 clear hr1_1 hc1_1
 have HR1_2 := Aside0.mk hr1_2
 have HC1_2 := Aside0.mk hc1_2
 clear hr1_2 hc1_2
 have HB := Aside0.mk (Below.refl w.heap.size w)
 unfold flyballref03_Add.f at H
 replace H := bi H
 obtain ⟨t104, A3, H⟩ := H
 replace H := bi H
 obtain ⟨t107, A4, H⟩ := H
 replace H := bi H
 obtain ⟨t110, A5, H⟩ := H
 by_cases c6 : (a0_0 == a1_0) = true
 rotate_left
 ·rw [if_neg c6] at H
  have c6b0 : (a0_0 == a1_0) = false := by simpa using c6
  (try (have c6b1 : decide (a0_0 = a1_0) = false := by simpa using c6))
  (try (have c6b2 : (a0_0 == a1_0) = false := by simpa using c6))
  (try (have c6b3 : ¬ (a0_0 = a1_0) := by simpa using c6))
  clear c6
  replace H := bi H
  obtain ⟨t123, A38, H⟩ := H
  by_cases c39 : t123 ≥ 0
  rotate_left
  ·rw [if_neg c39] at H
   have c39b0 : decide (0 ≤ t123) = false := decide_eq_false c39
   clear c39
   obtain ⟨ji71, hji71⟩ : ∃ j_ : Int, (mx (t104.length : Int) (t107.length : Int)) = j_ := ⟨_, rfl⟩
   replace H : ((flyballref01_Sub.f k t107 t104 (ji71)).bind fun bt135 => ((flyballref03_Low.f k a1_0 bt135.1 t110).bind fun bt139 => (some (bt139.1, bt139.2.1, bt139.2.2)))) = some (r1, r2, r3) := by first | (rw [hji71] at H; exact H) | (simp only [hji71] at H ⊢; exact H)
   (try rw [hji71] at A3)
   (try rw [hji71] at A4)
   (try rw [hji71] at A5)
   (try rw [hji71] at A38)
   (try (have hji71l : 0 ≤ ji71 := by (rw [← hji71]; unfold mx; (repeat' split) <;> omega)))
   (try (have hji71m : 0 ≤ ji71 := by omega))
   have hji71_ : (if (t104.length : Int) < (t107.length : Int) then (t107.length : Int) else (t104.length : Int)) = ji71 := hji71
   have hji71n : (if t104.length < t107.length then (t107.length : Int) else (t104.length : Int)) = ji71 := by
    rw [← hji71_]; by_cases hq_ : t104.length < t107.length
    ·rw [if_pos hq_, if_pos (by omega)]
    ·rw [if_neg hq_, if_neg (by omega)]
   replace H := bi H
   obtain ⟨⟨t135, t136⟩, A72, H⟩ := H
   try dsimp only at H
   replace H := bi H
   obtain ⟨⟨t139, t140, t143⟩, A73, H⟩ := H
   try dsimp only at H
   simp only [Option.some.injEq, Prod.mk.injEq] at H
   obtain ⟨rfl, rfl, rfl⟩ := H
   go_enter Try.func87, Try.ntmps87
   go_wp2_with (first | ((with_reducible refine gd 2 rfl ?_); refine box_event ?hg (N := 2) ?hd (cs := #[.bool a0_0, .slice A0_1 l0_1.length c0_1, .slice A0_2 l0_2.length c0_2]) (t := 92) ?hr ?_; (case hd => rfl); (case hg => rfl); (case hr => first | (go_simp; done) | (go_simp; rfl)); intro gb101 hg w74 hbox hb; have BK101 := Aside0.mk hbox; have GW101 := gB hg HB; have GE101 := gB hg HB; replace HB := bA HB hb; clear hb hbox hg) | ((with_reducible refine gd 3 rfl ?_); refine box_event ?hg (N := 3) ?hd (cs := #[.bool a1_0, .slice A1_1 l1_1.length c1_1, .slice A1_2 l1_2.length c1_2]) (t := 92) ?hr ?_; (case hd => rfl); (case hg => rfl); (case hr => first | (go_simp; done) | (go_simp; rfl)); intro gb102 hg w75 hbox hb; have BK102 := Aside0.mk hbox; have GW102 := gS' hg HB; have GE102 := gS' hg HB; replace HB := bS HB hb; have NB101_102 := nL hg BK101; have NB102_101 := nR hg BK101; replace BK101 := kA BK101 hb; clear hb hbox hg) | ((with_reducible refine gd 4 rfl ?_); refine box_event ?hg (N := 4) ?hd (cs := #[.bool false, .slice none 0 0, .slice none 0 0]) (t := 92) ?hr ?_; (case hd => rfl); (case hg => rfl); (case hr => first | (go_simp; done) | (go_simp; rfl)); intro gb103 hg w76 hbox hb; have BK103 := Aside0.mk hbox; have GW103 := gS' hg HB; have GE103 := gS' hg HB; replace HB := bS HB hb; have NB101_103 := nL hg BK101; have NB103_101 := nR hg BK101; replace BK101 := kA BK101 hb; have NB102_103 := nL hg BK102; have NB103_102 := nR hg BK102; replace BK102 := kA BK102 hb; clear hb hbox hg; have hnb77 := NB101_102.out; have hnc77 := NB102_101.out; have hnb78 := NB101_103.out; have hnc78 := NB103_101.out; obtain ⟨⟨hcz79_0, hcz79_1, hcz79_2⟩, hfz79_0, hfz79_1, hfz79_2⟩ := cE BK101; have hnb80 := NB102_103.out; have hnc80 := NB103_102.out; obtain ⟨⟨hcz81_0, hcz81_1, hcz81_2⟩, hfz81_0, hfz81_1, hfz81_2⟩ := cE BK102) | ((with_reducible refine gc 31 rfl ?_); refine gL 16 Try.func31 #[.slice A0_1 l0_1.length c0_1, .slice A1_2 l1_2.length c1_2] ?_; (with_reducible refine (flyballref01_Mul.calls k _ _ l0_1 _ _ l1_2 t104 _ ?_ ?_ ?_ ?_ A3.out).mono ?_); exact Kd.C_below HR0_1.out (bup HB.out); exact HC0_1.out; exact Kd.C_below HR1_2.out (bup HB.out); exact HC1_2.out; rintro e w82 ⟨v105, rfl, ho0, hb⟩; refine ⟨_, rfl, ?_⟩; have HO106 := Aside0.mk (Kd.R_lower (Kd.R_newM (M := fun k_ => (w.heap.size ≤ k_)) ho0 (below_size hB) (fun k_ h_ => h_)) (below_size hB)); replace BK101 := kA BK101 hb; replace BK102 := kA BK102 hb; replace BK103 := kA BK103 hb; replace HB := bS HB hb; clear hb ho0; obtain ⟨⟨hcz83_0, hcz83_1, hcz83_2⟩, hfz83_0, hfz83_1, hfz83_2⟩ := cE BK102; obtain ⟨⟨hcz84_0, hcz84_1, hcz84_2⟩, hfz84_0, hfz84_1, hfz84_2⟩ := cE BK101) | ((with_reducible refine gc 31 rfl ?_); refine gL 21 Try.func31 #[.slice A1_1 l1_1.length c1_1, .slice A0_2 l0_2.length c0_2] ?_; (with_reducible refine (flyballref01_Mul.calls k _ _ l1_1 _ _ l0_2 t107 _ ?_ ?_ ?_ ?_ A4.out).mono ?_); exact Kd.C_below HR1_1.out (bup HB.out); exact HC1_1.out; exact Kd.C_below HR0_2.out (bup HB.out); exact HC0_2.out; rintro e w85 ⟨v108, rfl, ho0, hb⟩; refine ⟨_, rfl, ?_⟩; have HO109 := Aside0.mk (Kd.R_lower (Kd.R_new' (Kd.R_newM (M := fun k_ => (w.heap.size ≤ k_)) ho0 (below_size hB) (fun k_ h_ => h_)) (Kd.R_lt (rup HO106.out))) (below_size hB)); replace HO106 := Aside0.mk (Kd.R_elder' (rup HO106.out) (Kd.R_base ho0) hb); replace BK101 := kA BK101 hb; replace BK102 := kA BK102 hb; replace BK103 := kA BK103 hb; replace HB := bS HB hb; clear hb ho0; obtain ⟨⟨hcz86_0, hcz86_1, hcz86_2⟩, hfz86_0, hfz86_1, hfz86_2⟩ := cE BK101; obtain ⟨⟨hcz87_0, hcz87_1, hcz87_2⟩, hfz87_0, hfz87_1, hfz87_2⟩ := cE BK102) | ((with_reducible refine gc 31 rfl ?_); refine gL 26 Try.func31 #[.slice A0_2 l0_2.length c0_2, .slice A1_2 l1_2.length c1_2] ?_; (with_reducible refine (flyballref01_Mul.calls k _ _ l0_2 _ _ l1_2 t110 _ ?_ ?_ ?_ ?_ A5.out).mono ?_); exact Kd.C_below HR0_2.out (bup HB.out); exact HC0_2.out; exact Kd.C_below HR1_2.out (bup HB.out); exact HC1_2.out; rintro e w88 ⟨v111, rfl, ho0, hb⟩; refine ⟨_, rfl, ?_⟩; have HO112 := Aside0.mk (Kd.R_lower (Kd.R_new' (Kd.R_new' (Kd.R_newM (M := fun k_ => (w.heap.size ≤ k_)) ho0 (below_size hB) (fun k_ h_ => h_)) (Kd.R_lt (rup HO106.out))) (Kd.R_lt (rup HO109.out))) (below_size hB)); replace HO106 := Aside0.mk (Kd.R_elder' (rup HO106.out) (Kd.R_base ho0) hb); replace HO109 := Aside0.mk (Kd.R_elder' (rup HO109.out) (Kd.R_base ho0) hb); replace BK101 := kA BK101 hb; replace BK102 := kA BK102 hb; replace BK103 := kA BK103 hb; replace HB := bS HB hb; clear hb ho0; obtain ⟨⟨hcz89_0, hcz89_1, hcz89_2⟩, hfz89_0, hfz89_1, hfz89_2⟩ := cE BK101; obtain ⟨⟨hcz90_0, hcz90_1, hcz90_2⟩, hfz90_0, hfz90_1, hfz90_2⟩ := cE BK102; obtain ⟨Ao91, co91, eo91⟩ := Kd.R_slice HO106.out; subst eo91; obtain ⟨Ao92, co92, eo92⟩ := Kd.R_slice HO109.out; subst eo92) | ((with_reducible refine gc 26 rfl ?_); refine gL 41 Try.func26 #[.slice Ao91 t104.length co91, .slice Ao92 t107.length co92] ?_; (with_reducible refine (flyballref01_Cmp.calls k _ _ t104 _ _ t107 t123 _ ?_ ?_ ?_ ?_ A38.out).mono ?_); exact cup ((Kd.R_reads' HO106.out).2.2); exact (Kd.R_reads' HO106.out).2.1; exact cup ((Kd.R_reads' HO109.out).2.2); exact (Kd.R_reads' HO109.out).2.1; rintro e w93 ⟨rfl, hb⟩; refine ⟨_, rfl, ?_⟩; replace HO106 := rA HO106 hb; replace HO109 := rA HO109 hb; replace HO112 := rA HO112 hb; replace BK101 := kA BK101 hb; replace BK102 := kA BK102 hb; replace BK103 := kA BK103 hb; replace HB := bS HB hb; clear hb) | ((with_reducible refine gc 34 rfl ?_); refine goesL_ (some 67) rfl rfl Try.func34 (by kernel_rfl) rfl #[.slice Ao92 t107.length co92, .slice Ao91 t104.length co91, .int .i64 ji71] rfl (by (try simp only [List.map_toArray, List.map_cons, List.map_nil]); first | done | (simp only [hji71]; rfl) | rfl | (simp only [List.length_drop, List.length_take]; rfl)) ?_; (with_reducible refine (flyballref01_Sub.calls k _ _ t107 _ _ t104 ji71 t135 t136 _ ?_ ?_ ?_ ?_ A72.out).mono ?_); exact cup ((Kd.R_reads' HO109.out).2.2); exact (Kd.R_reads' HO109.out).2.1; exact cup ((Kd.R_reads' HO106.out).2.2); exact (Kd.R_reads' HO106.out).2.1; rintro e w94 ⟨v137, rfl, ho0, hb⟩; refine ⟨_, rfl, ?_⟩; have HO138 := Aside0.mk (Kd.R_lower (Kd.R_new' (Kd.R_new' (Kd.R_new' (Kd.R_newM (M := fun k_ => (w.heap.size ≤ k_)) ho0 (below_size hB) (fun k_ h_ => h_)) (Kd.R_lt (rup HO106.out))) (Kd.R_lt (rup HO109.out))) (Kd.R_lt (rup HO112.out))) (below_size hB)); replace HO106 := Aside0.mk (Kd.R_elder' (rup HO106.out) (Kd.R_base ho0) hb); replace HO109 := Aside0.mk (Kd.R_elder' (rup HO109.out) (Kd.R_base ho0) hb); replace HO112 := Aside0.mk (Kd.R_elder' (rup HO112.out) (Kd.R_base ho0) hb); replace BK101 := kA BK101 hb; replace BK102 := kA BK102 hb; replace BK103 := kA BK103 hb; replace HB := bS HB hb; clear hb ho0; obtain ⟨⟨hcz95_0, hcz95_1, hcz95_2⟩, hfz95_0, hfz95_1, hfz95_2⟩ := cE BK102; obtain ⟨Ao96, co96, eo96⟩ := Kd.R_slice HO138.out; subst eo96; obtain ⟨Ao97, co97, eo97⟩ := Kd.R_slice HO112.out; subst eo97) | ((with_reducible refine gc 96 rfl ?_); refine gL 74 Try.func96 #[.bool a1_0, .slice Ao96 t135.length co96, .slice Ao97 t110.length co97] ?_; (with_reducible refine (flyballref03_Low.calls k a1_0 (fun k_ => some k_ = (.slice Ao96 t135.length co96 : Value).ownBlock) _ _ t135 (fun k_ => some k_ = (.slice Ao97 t110.length co97 : Value).ownBlock) _ _ t110 t139 t140 t143 _ ?_ ?_ A73.out).mono ?_); (exact Kd.R_V (Kd.R_tight rfl (Kd.R_types (Kd.R_types (Kd.R_types (HO138.out) BK101.out (by decide)) BK102.out (by decide)) BK103.out (by decide)))); (exact Kd.R_V (Kd.R_tight rfl (Kd.R_types (Kd.R_types (Kd.R_types (HO112.out) BK101.out (by decide)) BK102.out (by decide)) BK103.out (by decide)))); rintro e w98 ⟨v141, v144, rfl, ho0, ho1, hb⟩; refine ⟨_, rfl, ?_⟩; have HO142 := lw HB (fun k_ => (w.heap.size ≤ k_) ∧ some k_ ≠ (.slice Ao91 t104.length co91 : Value).ownBlock ∧ some k_ ≠ (.slice Ao92 t107.length co92 : Value).ownBlock ∧ k_ ≠ gb101 ∧ k_ ≠ gb102 ∧ k_ ≠ gb103) ho0 (fun k_ hk_ => Or.elim hk_ (fun hs_ => Or.elim hs_ (fun hs_ => ⟨((Kd.R_types (Kd.R_types (Kd.R_types (HO138.out) BK101.out (by decide)) BK102.out (by decide)) BK103.out (by decide)).1 k_ hs_.symm).1.1.1.1.1.1.1, ((Kd.R_types (Kd.R_types (Kd.R_types (HO138.out) BK101.out (by decide)) BK102.out (by decide)) BK103.out (by decide)).1 k_ hs_.symm).1.1.1.1.1.2, ((Kd.R_types (Kd.R_types (Kd.R_types (HO138.out) BK101.out (by decide)) BK102.out (by decide)) BK103.out (by decide)).1 k_ hs_.symm).1.1.1.1.2, ((Kd.R_types (Kd.R_types (Kd.R_types (HO138.out) BK101.out (by decide)) BK102.out (by decide)) BK103.out (by decide)).1 k_ hs_.symm).1.1.2, ((Kd.R_types (Kd.R_types (Kd.R_types (HO138.out) BK101.out (by decide)) BK102.out (by decide)) BK103.out (by decide)).1 k_ hs_.symm).1.2, ((Kd.R_types (Kd.R_types (Kd.R_types (HO138.out) BK101.out (by decide)) BK102.out (by decide)) BK103.out (by decide)).1 k_ hs_.symm).2⟩) (fun hs_ => ⟨((Kd.R_types (Kd.R_types (Kd.R_types (HO112.out) BK101.out (by decide)) BK102.out (by decide)) BK103.out (by decide)).1 k_ hs_.symm).1.1.1.1.1.1.1, ((Kd.R_types (Kd.R_types (Kd.R_types (HO112.out) BK101.out (by decide)) BK102.out (by decide)) BK103.out (by decide)).1 k_ hs_.symm).1.1.1.1.1.2, ((Kd.R_types (Kd.R_types (Kd.R_types (HO112.out) BK101.out (by decide)) BK102.out (by decide)) BK103.out (by decide)).1 k_ hs_.symm).1.1.1.1.2, ((Kd.R_types (Kd.R_types (Kd.R_types (HO112.out) BK101.out (by decide)) BK102.out (by decide)) BK103.out (by decide)).1 k_ hs_.symm).1.1.2, ((Kd.R_types (Kd.R_types (Kd.R_types (HO112.out) BK101.out (by decide)) BK102.out (by decide)) BK103.out (by decide)).1 k_ hs_.symm).1.2, ((Kd.R_types (Kd.R_types (Kd.R_types (HO112.out) BK101.out (by decide)) BK102.out (by decide)) BK103.out (by decide)).1 k_ hs_.symm).2⟩)) (fun hn_ => ⟨Nat.le_trans (below_size hB) hn_, Kd.fresh' (Kd.R_lt (rup HO106.out)) k_ hn_, Kd.fresh' (Kd.R_lt (rup HO109.out)) k_ hn_, kF BK101 hn_, kF BK102 hn_, kF BK103 hn_⟩)); have HO145 := lw HB (fun k_ => (w.heap.size ≤ k_) ∧ some k_ ≠ (.slice Ao91 t104.length co91 : Value).ownBlock ∧ some k_ ≠ (.slice Ao92 t107.length co92 : Value).ownBlock ∧ k_ ≠ gb101 ∧ k_ ≠ gb102 ∧ k_ ≠ gb103) ho1 (fun k_ hk_ => Or.elim hk_ (fun hs_ => Or.elim hs_ (fun hs_ => ⟨((Kd.R_types (Kd.R_types (Kd.R_types (HO138.out) BK101.out (by decide)) BK102.out (by decide)) BK103.out (by decide)).1 k_ hs_.symm).1.1.1.1.1.1.1, ((Kd.R_types (Kd.R_types (Kd.R_types (HO138.out) BK101.out (by decide)) BK102.out (by decide)) BK103.out (by decide)).1 k_ hs_.symm).1.1.1.1.1.2, ((Kd.R_types (Kd.R_types (Kd.R_types (HO138.out) BK101.out (by decide)) BK102.out (by decide)) BK103.out (by decide)).1 k_ hs_.symm).1.1.1.1.2, ((Kd.R_types (Kd.R_types (Kd.R_types (HO138.out) BK101.out (by decide)) BK102.out (by decide)) BK103.out (by decide)).1 k_ hs_.symm).1.1.2, ((Kd.R_types (Kd.R_types (Kd.R_types (HO138.out) BK101.out (by decide)) BK102.out (by decide)) BK103.out (by decide)).1 k_ hs_.symm).1.2, ((Kd.R_types (Kd.R_types (Kd.R_types (HO138.out) BK101.out (by decide)) BK102.out (by decide)) BK103.out (by decide)).1 k_ hs_.symm).2⟩) (fun hs_ => ⟨((Kd.R_types (Kd.R_types (Kd.R_types (HO112.out) BK101.out (by decide)) BK102.out (by decide)) BK103.out (by decide)).1 k_ hs_.symm).1.1.1.1.1.1.1, ((Kd.R_types (Kd.R_types (Kd.R_types (HO112.out) BK101.out (by decide)) BK102.out (by decide)) BK103.out (by decide)).1 k_ hs_.symm).1.1.1.1.1.2, ((Kd.R_types (Kd.R_types (Kd.R_types (HO112.out) BK101.out (by decide)) BK102.out (by decide)) BK103.out (by decide)).1 k_ hs_.symm).1.1.1.1.2, ((Kd.R_types (Kd.R_types (Kd.R_types (HO112.out) BK101.out (by decide)) BK102.out (by decide)) BK103.out (by decide)).1 k_ hs_.symm).1.1.2, ((Kd.R_types (Kd.R_types (Kd.R_types (HO112.out) BK101.out (by decide)) BK102.out (by decide)) BK103.out (by decide)).1 k_ hs_.symm).1.2, ((Kd.R_types (Kd.R_types (Kd.R_types (HO112.out) BK101.out (by decide)) BK102.out (by decide)) BK103.out (by decide)).1 k_ hs_.symm).2⟩)) (fun hn_ => ⟨Nat.le_trans (below_size hB) hn_, Kd.fresh' (Kd.R_lt (rup HO106.out)) k_ hn_, Kd.fresh' (Kd.R_lt (rup HO109.out)) k_ hn_, kF BK101 hn_, kF BK102 hn_, kF BK103 hn_⟩)); replace HO106 := rA HO106 hb; replace HO109 := rA HO109 hb; replace HO112 := rA HO112 hb; replace HO138 := rA HO138 hb; replace BK101 := kA BK101 hb; replace BK102 := kA BK102 hb; replace BK103 := kA BK103 hb; replace HB := bS HB hb; clear hb ho0 ho1; obtain ⟨⟨hcz99_0, hcz99_1, hcz99_2⟩, hfz99_0, hfz99_1, hfz99_2⟩ := cE BK103; obtain ⟨Ao100, co100, eo100⟩ := Kd.V_slice HO142.out; subst eo100; obtain ⟨Ao101, co101, eo101⟩ := Kd.V_slice HO145.out; subst eo101))
   refine bodyPost_ret (results_cell_row rfl _ _ gb103 92 #[.bool t139, .slice Ao100 t140.length co100, .slice Ao101 t143.length co101] (0, 0) _ rfl (by exact kU (p3 BK103)) Try.underlying92 rfl (by kernel_rfl)) rfl ?_
   exact ⟨_, _, by first | rfl | (simp [errW_none, errW_some] <;> rfl) | (simp only [← hji71]; first | rfl | (simp [errW_none, errW_some] <;> rfl)) | (simp [*, errW_none, errW_some] <;> rfl), vG (v3p HO142 (fun _ hk => hk.2.2.2.2.2)) (fun _ hk => hk.1.1), vG (v3p HO145 (fun _ hk => hk.2.2.2.2.2)) (fun _ hk => hk.1.1), hB⟩
  rw [if_pos c39] at H
  have c39b0 : decide (0 ≤ t123) = true := decide_eq_true c39
  clear c39
  obtain ⟨ji40, hji40⟩ : ∃ j_ : Int, (mx (t104.length : Int) (t107.length : Int)) = j_ := ⟨_, rfl⟩
  replace H : ((flyballref01_Sub.f k t104 t107 (ji40)).bind fun bt124 => ((flyballref03_Low.f k a0_0 bt124.1 t110).bind fun bt128 => (some (bt128.1, bt128.2.1, bt128.2.2)))) = some (r1, r2, r3) := by first | (rw [hji40] at H; exact H) | (simp only [hji40] at H ⊢; exact H)
  (try rw [hji40] at A3)
  (try rw [hji40] at A4)
  (try rw [hji40] at A5)
  (try rw [hji40] at A38)
  (try (have hji40l : 0 ≤ ji40 := by (rw [← hji40]; unfold mx; (repeat' split) <;> omega)))
  (try (have hji40m : 0 ≤ ji40 := by omega))
  have hji40_ : (if (t104.length : Int) < (t107.length : Int) then (t107.length : Int) else (t104.length : Int)) = ji40 := hji40
  have hji40n : (if t104.length < t107.length then (t107.length : Int) else (t104.length : Int)) = ji40 := by
   rw [← hji40_]; by_cases hq_ : t104.length < t107.length
   ·rw [if_pos hq_, if_pos (by omega)]
   ·rw [if_neg hq_, if_neg (by omega)]
  replace H := bi H
  obtain ⟨⟨t124, t125⟩, A41, H⟩ := H
  try dsimp only at H
  replace H := bi H
  obtain ⟨⟨t128, t129, t132⟩, A42, H⟩ := H
  try dsimp only at H
  simp only [Option.some.injEq, Prod.mk.injEq] at H
  obtain ⟨rfl, rfl, rfl⟩ := H
  go_enter Try.func87, Try.ntmps87
  go_wp2_with (first | ((with_reducible refine gd 2 rfl ?_); refine box_event ?hg (N := 2) ?hd (cs := #[.bool a0_0, .slice A0_1 l0_1.length c0_1, .slice A0_2 l0_2.length c0_2]) (t := 92) ?hr ?_; (case hd => rfl); (case hg => rfl); (case hr => first | (go_simp; done) | (go_simp; rfl)); intro gb101 hg w43 hbox hb; have BK101 := Aside0.mk hbox; have GW101 := gB hg HB; have GE101 := gB hg HB; replace HB := bA HB hb; clear hb hbox hg) | ((with_reducible refine gd 3 rfl ?_); refine box_event ?hg (N := 3) ?hd (cs := #[.bool a1_0, .slice A1_1 l1_1.length c1_1, .slice A1_2 l1_2.length c1_2]) (t := 92) ?hr ?_; (case hd => rfl); (case hg => rfl); (case hr => first | (go_simp; done) | (go_simp; rfl)); intro gb102 hg w44 hbox hb; have BK102 := Aside0.mk hbox; have GW102 := gS' hg HB; have GE102 := gS' hg HB; replace HB := bS HB hb; have NB101_102 := nL hg BK101; have NB102_101 := nR hg BK101; replace BK101 := kA BK101 hb; clear hb hbox hg) | ((with_reducible refine gd 4 rfl ?_); refine box_event ?hg (N := 4) ?hd (cs := #[.bool false, .slice none 0 0, .slice none 0 0]) (t := 92) ?hr ?_; (case hd => rfl); (case hg => rfl); (case hr => first | (go_simp; done) | (go_simp; rfl)); intro gb103 hg w45 hbox hb; have BK103 := Aside0.mk hbox; have GW103 := gS' hg HB; have GE103 := gS' hg HB; replace HB := bS HB hb; have NB101_103 := nL hg BK101; have NB103_101 := nR hg BK101; replace BK101 := kA BK101 hb; have NB102_103 := nL hg BK102; have NB103_102 := nR hg BK102; replace BK102 := kA BK102 hb; clear hb hbox hg; have hnb46 := NB101_102.out; have hnc46 := NB102_101.out; have hnb47 := NB101_103.out; have hnc47 := NB103_101.out; obtain ⟨⟨hcz48_0, hcz48_1, hcz48_2⟩, hfz48_0, hfz48_1, hfz48_2⟩ := cE BK101; have hnb49 := NB102_103.out; have hnc49 := NB103_102.out; obtain ⟨⟨hcz50_0, hcz50_1, hcz50_2⟩, hfz50_0, hfz50_1, hfz50_2⟩ := cE BK102) | ((with_reducible refine gc 31 rfl ?_); refine gL 16 Try.func31 #[.slice A0_1 l0_1.length c0_1, .slice A1_2 l1_2.length c1_2] ?_; (with_reducible refine (flyballref01_Mul.calls k _ _ l0_1 _ _ l1_2 t104 _ ?_ ?_ ?_ ?_ A3.out).mono ?_); exact Kd.C_below HR0_1.out (bup HB.out); exact HC0_1.out; exact Kd.C_below HR1_2.out (bup HB.out); exact HC1_2.out; rintro e w51 ⟨v105, rfl, ho0, hb⟩; refine ⟨_, rfl, ?_⟩; have HO106 := Aside0.mk (Kd.R_lower (Kd.R_newM (M := fun k_ => (w.heap.size ≤ k_)) ho0 (below_size hB) (fun k_ h_ => h_)) (below_size hB)); replace BK101 := kA BK101 hb; replace BK102 := kA BK102 hb; replace BK103 := kA BK103 hb; replace HB := bS HB hb; clear hb ho0; obtain ⟨⟨hcz52_0, hcz52_1, hcz52_2⟩, hfz52_0, hfz52_1, hfz52_2⟩ := cE BK102; obtain ⟨⟨hcz53_0, hcz53_1, hcz53_2⟩, hfz53_0, hfz53_1, hfz53_2⟩ := cE BK101) | ((with_reducible refine gc 31 rfl ?_); refine gL 21 Try.func31 #[.slice A1_1 l1_1.length c1_1, .slice A0_2 l0_2.length c0_2] ?_; (with_reducible refine (flyballref01_Mul.calls k _ _ l1_1 _ _ l0_2 t107 _ ?_ ?_ ?_ ?_ A4.out).mono ?_); exact Kd.C_below HR1_1.out (bup HB.out); exact HC1_1.out; exact Kd.C_below HR0_2.out (bup HB.out); exact HC0_2.out; rintro e w54 ⟨v108, rfl, ho0, hb⟩; refine ⟨_, rfl, ?_⟩; have HO109 := Aside0.mk (Kd.R_lower (Kd.R_new' (Kd.R_newM (M := fun k_ => (w.heap.size ≤ k_)) ho0 (below_size hB) (fun k_ h_ => h_)) (Kd.R_lt (rup HO106.out))) (below_size hB)); replace HO106 := Aside0.mk (Kd.R_elder' (rup HO106.out) (Kd.R_base ho0) hb); replace BK101 := kA BK101 hb; replace BK102 := kA BK102 hb; replace BK103 := kA BK103 hb; replace HB := bS HB hb; clear hb ho0; obtain ⟨⟨hcz55_0, hcz55_1, hcz55_2⟩, hfz55_0, hfz55_1, hfz55_2⟩ := cE BK101; obtain ⟨⟨hcz56_0, hcz56_1, hcz56_2⟩, hfz56_0, hfz56_1, hfz56_2⟩ := cE BK102) | ((with_reducible refine gc 31 rfl ?_); refine gL 26 Try.func31 #[.slice A0_2 l0_2.length c0_2, .slice A1_2 l1_2.length c1_2] ?_; (with_reducible refine (flyballref01_Mul.calls k _ _ l0_2 _ _ l1_2 t110 _ ?_ ?_ ?_ ?_ A5.out).mono ?_); exact Kd.C_below HR0_2.out (bup HB.out); exact HC0_2.out; exact Kd.C_below HR1_2.out (bup HB.out); exact HC1_2.out; rintro e w57 ⟨v111, rfl, ho0, hb⟩; refine ⟨_, rfl, ?_⟩; have HO112 := Aside0.mk (Kd.R_lower (Kd.R_new' (Kd.R_new' (Kd.R_newM (M := fun k_ => (w.heap.size ≤ k_)) ho0 (below_size hB) (fun k_ h_ => h_)) (Kd.R_lt (rup HO106.out))) (Kd.R_lt (rup HO109.out))) (below_size hB)); replace HO106 := Aside0.mk (Kd.R_elder' (rup HO106.out) (Kd.R_base ho0) hb); replace HO109 := Aside0.mk (Kd.R_elder' (rup HO109.out) (Kd.R_base ho0) hb); replace BK101 := kA BK101 hb; replace BK102 := kA BK102 hb; replace BK103 := kA BK103 hb; replace HB := bS HB hb; clear hb ho0; obtain ⟨⟨hcz58_0, hcz58_1, hcz58_2⟩, hfz58_0, hfz58_1, hfz58_2⟩ := cE BK101; obtain ⟨⟨hcz59_0, hcz59_1, hcz59_2⟩, hfz59_0, hfz59_1, hfz59_2⟩ := cE BK102; obtain ⟨Ao60, co60, eo60⟩ := Kd.R_slice HO106.out; subst eo60; obtain ⟨Ao61, co61, eo61⟩ := Kd.R_slice HO109.out; subst eo61) | ((with_reducible refine gc 26 rfl ?_); refine gL 41 Try.func26 #[.slice Ao60 t104.length co60, .slice Ao61 t107.length co61] ?_; (with_reducible refine (flyballref01_Cmp.calls k _ _ t104 _ _ t107 t123 _ ?_ ?_ ?_ ?_ A38.out).mono ?_); exact cup ((Kd.R_reads' HO106.out).2.2); exact (Kd.R_reads' HO106.out).2.1; exact cup ((Kd.R_reads' HO109.out).2.2); exact (Kd.R_reads' HO109.out).2.1; rintro e w62 ⟨rfl, hb⟩; refine ⟨_, rfl, ?_⟩; replace HO106 := rA HO106 hb; replace HO109 := rA HO109 hb; replace HO112 := rA HO112 hb; replace BK101 := kA BK101 hb; replace BK102 := kA BK102 hb; replace BK103 := kA BK103 hb; replace HB := bS HB hb; clear hb) | ((with_reducible refine gc 34 rfl ?_); refine goesL_ (some 51) rfl rfl Try.func34 (by kernel_rfl) rfl #[.slice Ao60 t104.length co60, .slice Ao61 t107.length co61, .int .i64 ji40] rfl (by (try simp only [List.map_toArray, List.map_cons, List.map_nil]); first | done | (simp only [hji40]; rfl) | rfl | (simp only [List.length_drop, List.length_take]; rfl)) ?_; (with_reducible refine (flyballref01_Sub.calls k _ _ t104 _ _ t107 ji40 t124 t125 _ ?_ ?_ ?_ ?_ A41.out).mono ?_); exact cup ((Kd.R_reads' HO106.out).2.2); exact (Kd.R_reads' HO106.out).2.1; exact cup ((Kd.R_reads' HO109.out).2.2); exact (Kd.R_reads' HO109.out).2.1; rintro e w63 ⟨v126, rfl, ho0, hb⟩; refine ⟨_, rfl, ?_⟩; have HO127 := Aside0.mk (Kd.R_lower (Kd.R_new' (Kd.R_new' (Kd.R_new' (Kd.R_newM (M := fun k_ => (w.heap.size ≤ k_)) ho0 (below_size hB) (fun k_ h_ => h_)) (Kd.R_lt (rup HO106.out))) (Kd.R_lt (rup HO109.out))) (Kd.R_lt (rup HO112.out))) (below_size hB)); replace HO106 := Aside0.mk (Kd.R_elder' (rup HO106.out) (Kd.R_base ho0) hb); replace HO109 := Aside0.mk (Kd.R_elder' (rup HO109.out) (Kd.R_base ho0) hb); replace HO112 := Aside0.mk (Kd.R_elder' (rup HO112.out) (Kd.R_base ho0) hb); replace BK101 := kA BK101 hb; replace BK102 := kA BK102 hb; replace BK103 := kA BK103 hb; replace HB := bS HB hb; clear hb ho0; obtain ⟨⟨hcz64_0, hcz64_1, hcz64_2⟩, hfz64_0, hfz64_1, hfz64_2⟩ := cE BK101; obtain ⟨Ao65, co65, eo65⟩ := Kd.R_slice HO127.out; subst eo65; obtain ⟨Ao66, co66, eo66⟩ := Kd.R_slice HO112.out; subst eo66) | ((with_reducible refine gc 96 rfl ?_); refine gL 58 Try.func96 #[.bool a0_0, .slice Ao65 t124.length co65, .slice Ao66 t110.length co66] ?_; (with_reducible refine (flyballref03_Low.calls k a0_0 (fun k_ => some k_ = (.slice Ao65 t124.length co65 : Value).ownBlock) _ _ t124 (fun k_ => some k_ = (.slice Ao66 t110.length co66 : Value).ownBlock) _ _ t110 t128 t129 t132 _ ?_ ?_ A42.out).mono ?_); (exact Kd.R_V (Kd.R_tight rfl (Kd.R_types (Kd.R_types (Kd.R_types (HO127.out) BK101.out (by decide)) BK102.out (by decide)) BK103.out (by decide)))); (exact Kd.R_V (Kd.R_tight rfl (Kd.R_types (Kd.R_types (Kd.R_types (HO112.out) BK101.out (by decide)) BK102.out (by decide)) BK103.out (by decide)))); rintro e w67 ⟨v130, v133, rfl, ho0, ho1, hb⟩; refine ⟨_, rfl, ?_⟩; have HO131 := lw HB (fun k_ => (w.heap.size ≤ k_) ∧ some k_ ≠ (.slice Ao60 t104.length co60 : Value).ownBlock ∧ some k_ ≠ (.slice Ao61 t107.length co61 : Value).ownBlock ∧ k_ ≠ gb101 ∧ k_ ≠ gb102 ∧ k_ ≠ gb103) ho0 (fun k_ hk_ => Or.elim hk_ (fun hs_ => Or.elim hs_ (fun hs_ => ⟨((Kd.R_types (Kd.R_types (Kd.R_types (HO127.out) BK101.out (by decide)) BK102.out (by decide)) BK103.out (by decide)).1 k_ hs_.symm).1.1.1.1.1.1.1, ((Kd.R_types (Kd.R_types (Kd.R_types (HO127.out) BK101.out (by decide)) BK102.out (by decide)) BK103.out (by decide)).1 k_ hs_.symm).1.1.1.1.1.2, ((Kd.R_types (Kd.R_types (Kd.R_types (HO127.out) BK101.out (by decide)) BK102.out (by decide)) BK103.out (by decide)).1 k_ hs_.symm).1.1.1.1.2, ((Kd.R_types (Kd.R_types (Kd.R_types (HO127.out) BK101.out (by decide)) BK102.out (by decide)) BK103.out (by decide)).1 k_ hs_.symm).1.1.2, ((Kd.R_types (Kd.R_types (Kd.R_types (HO127.out) BK101.out (by decide)) BK102.out (by decide)) BK103.out (by decide)).1 k_ hs_.symm).1.2, ((Kd.R_types (Kd.R_types (Kd.R_types (HO127.out) BK101.out (by decide)) BK102.out (by decide)) BK103.out (by decide)).1 k_ hs_.symm).2⟩) (fun hs_ => ⟨((Kd.R_types (Kd.R_types (Kd.R_types (HO112.out) BK101.out (by decide)) BK102.out (by decide)) BK103.out (by decide)).1 k_ hs_.symm).1.1.1.1.1.1.1, ((Kd.R_types (Kd.R_types (Kd.R_types (HO112.out) BK101.out (by decide)) BK102.out (by decide)) BK103.out (by decide)).1 k_ hs_.symm).1.1.1.1.1.2, ((Kd.R_types (Kd.R_types (Kd.R_types (HO112.out) BK101.out (by decide)) BK102.out (by decide)) BK103.out (by decide)).1 k_ hs_.symm).1.1.1.1.2, ((Kd.R_types (Kd.R_types (Kd.R_types (HO112.out) BK101.out (by decide)) BK102.out (by decide)) BK103.out (by decide)).1 k_ hs_.symm).1.1.2, ((Kd.R_types (Kd.R_types (Kd.R_types (HO112.out) BK101.out (by decide)) BK102.out (by decide)) BK103.out (by decide)).1 k_ hs_.symm).1.2, ((Kd.R_types (Kd.R_types (Kd.R_types (HO112.out) BK101.out (by decide)) BK102.out (by decide)) BK103.out (by decide)).1 k_ hs_.symm).2⟩)) (fun hn_ => ⟨Nat.le_trans (below_size hB) hn_, Kd.fresh' (Kd.R_lt (rup HO106.out)) k_ hn_, Kd.fresh' (Kd.R_lt (rup HO109.out)) k_ hn_, kF BK101 hn_, kF BK102 hn_, kF BK103 hn_⟩)); have HO134 := lw HB (fun k_ => (w.heap.size ≤ k_) ∧ some k_ ≠ (.slice Ao60 t104.length co60 : Value).ownBlock ∧ some k_ ≠ (.slice Ao61 t107.length co61 : Value).ownBlock ∧ k_ ≠ gb101 ∧ k_ ≠ gb102 ∧ k_ ≠ gb103) ho1 (fun k_ hk_ => Or.elim hk_ (fun hs_ => Or.elim hs_ (fun hs_ => ⟨((Kd.R_types (Kd.R_types (Kd.R_types (HO127.out) BK101.out (by decide)) BK102.out (by decide)) BK103.out (by decide)).1 k_ hs_.symm).1.1.1.1.1.1.1, ((Kd.R_types (Kd.R_types (Kd.R_types (HO127.out) BK101.out (by decide)) BK102.out (by decide)) BK103.out (by decide)).1 k_ hs_.symm).1.1.1.1.1.2, ((Kd.R_types (Kd.R_types (Kd.R_types (HO127.out) BK101.out (by decide)) BK102.out (by decide)) BK103.out (by decide)).1 k_ hs_.symm).1.1.1.1.2, ((Kd.R_types (Kd.R_types (Kd.R_types (HO127.out) BK101.out (by decide)) BK102.out (by decide)) BK103.out (by decide)).1 k_ hs_.symm).1.1.2, ((Kd.R_types (Kd.R_types (Kd.R_types (HO127.out) BK101.out (by decide)) BK102.out (by decide)) BK103.out (by decide)).1 k_ hs_.symm).1.2, ((Kd.R_types (Kd.R_types (Kd.R_types (HO127.out) BK101.out (by decide)) BK102.out (by decide)) BK103.out (by decide)).1 k_ hs_.symm).2⟩) (fun hs_ => ⟨((Kd.R_types (Kd.R_types (Kd.R_types (HO112.out) BK101.out (by decide)) BK102.out (by decide)) BK103.out (by decide)).1 k_ hs_.symm).1.1.1.1.1.1.1, ((Kd.R_types (Kd.R_types (Kd.R_types (HO112.out) BK101.out (by decide)) BK102.out (by decide)) BK103.out (by decide)).1 k_ hs_.symm).1.1.1.1.1.2, ((Kd.R_types (Kd.R_types (Kd.R_types (HO112.out) BK101.out (by decide)) BK102.out (by decide)) BK103.out (by decide)).1 k_ hs_.symm).1.1.1.1.2, ((Kd.R_types (Kd.R_types (Kd.R_types (HO112.out) BK101.out (by decide)) BK102.out (by decide)) BK103.out (by decide)).1 k_ hs_.symm).1.1.2, ((Kd.R_types (Kd.R_types (Kd.R_types (HO112.out) BK101.out (by decide)) BK102.out (by decide)) BK103.out (by decide)).1 k_ hs_.symm).1.2, ((Kd.R_types (Kd.R_types (Kd.R_types (HO112.out) BK101.out (by decide)) BK102.out (by decide)) BK103.out (by decide)).1 k_ hs_.symm).2⟩)) (fun hn_ => ⟨Nat.le_trans (below_size hB) hn_, Kd.fresh' (Kd.R_lt (rup HO106.out)) k_ hn_, Kd.fresh' (Kd.R_lt (rup HO109.out)) k_ hn_, kF BK101 hn_, kF BK102 hn_, kF BK103 hn_⟩)); replace HO106 := rA HO106 hb; replace HO109 := rA HO109 hb; replace HO112 := rA HO112 hb; replace HO127 := rA HO127 hb; replace BK101 := kA BK101 hb; replace BK102 := kA BK102 hb; replace BK103 := kA BK103 hb; replace HB := bS HB hb; clear hb ho0 ho1; obtain ⟨⟨hcz68_0, hcz68_1, hcz68_2⟩, hfz68_0, hfz68_1, hfz68_2⟩ := cE BK103; obtain ⟨Ao69, co69, eo69⟩ := Kd.V_slice HO131.out; subst eo69; obtain ⟨Ao70, co70, eo70⟩ := Kd.V_slice HO134.out; subst eo70))
  refine bodyPost_ret (results_cell_row rfl _ _ gb103 92 #[.bool t128, .slice Ao69 t129.length co69, .slice Ao70 t132.length co70] (0, 0) _ rfl (by exact kU (p3 BK103)) Try.underlying92 rfl (by kernel_rfl)) rfl ?_
  exact ⟨_, _, by first | rfl | (simp [errW_none, errW_some] <;> rfl) | (simp only [← hji40]; first | rfl | (simp [errW_none, errW_some] <;> rfl)) | (simp [*, errW_none, errW_some] <;> rfl), vG (v3p HO131 (fun _ hk => hk.2.2.2.2.2)) (fun _ hk => hk.1.1), vG (v3p HO134 (fun _ hk => hk.2.2.2.2.2)) (fun _ hk => hk.1.1), hB⟩
 rw [if_pos c6] at H
 have c6b0 : (a0_0 == a1_0) = true := c6
 (try (have c6b1 : decide (a0_0 = a1_0) = true := by simpa using c6))
 (try (have c6b2 : (a0_0 == a1_0) = true := by simpa using c6))
 clear c6
 replace H := bi H
 obtain ⟨t113, A7, H⟩ := H
 replace H := bi H
 obtain ⟨⟨t116, t117, t120⟩, A8, H⟩ := H
 try dsimp only at H
 simp only [Option.some.injEq, Prod.mk.injEq] at H
 obtain ⟨rfl, rfl, rfl⟩ := H
 go_enter Try.func87, Try.ntmps87
 try go_wp2_with (first | ((with_reducible refine gd 2 rfl ?_); refine box_event ?hg (N := 2) ?hd (cs := #[.bool a0_0, .slice A0_1 l0_1.length c0_1, .slice A0_2 l0_2.length c0_2]) (t := 92) ?hr ?_; (case hd => rfl); (case hg => rfl); (case hr => first | (go_simp; done) | (go_simp; rfl)); intro gb101 hg w9 hbox hb; have BK101 := Aside0.mk hbox; have GW101 := gB hg HB; have GE101 := gB hg HB; replace HB := bA HB hb; clear hb hbox hg) | ((with_reducible refine gd 3 rfl ?_); refine box_event ?hg (N := 3) ?hd (cs := #[.bool a1_0, .slice A1_1 l1_1.length c1_1, .slice A1_2 l1_2.length c1_2]) (t := 92) ?hr ?_; (case hd => rfl); (case hg => rfl); (case hr => first | (go_simp; done) | (go_simp; rfl)); intro gb102 hg w10 hbox hb; have BK102 := Aside0.mk hbox; have GW102 := gS' hg HB; have GE102 := gS' hg HB; replace HB := bS HB hb; have NB101_102 := nL hg BK101; have NB102_101 := nR hg BK101; replace BK101 := kA BK101 hb; clear hb hbox hg) | ((with_reducible refine gd 4 rfl ?_); refine box_event ?hg (N := 4) ?hd (cs := #[.bool false, .slice none 0 0, .slice none 0 0]) (t := 92) ?hr ?_; (case hd => rfl); (case hg => rfl); (case hr => first | (go_simp; done) | (go_simp; rfl)); intro gb103 hg w11 hbox hb; have BK103 := Aside0.mk hbox; have GW103 := gS' hg HB; have GE103 := gS' hg HB; replace HB := bS HB hb; have NB101_103 := nL hg BK101; have NB103_101 := nR hg BK101; replace BK101 := kA BK101 hb; have NB102_103 := nL hg BK102; have NB103_102 := nR hg BK102; replace BK102 := kA BK102 hb; clear hb hbox hg; have hnb12 := NB101_102.out; have hnc12 := NB102_101.out; have hnb13 := NB101_103.out; have hnc13 := NB103_101.out; obtain ⟨⟨hcz14_0, hcz14_1, hcz14_2⟩, hfz14_0, hfz14_1, hfz14_2⟩ := cE BK101; have hnb15 := NB102_103.out; have hnc15 := NB103_102.out; obtain ⟨⟨hcz16_0, hcz16_1, hcz16_2⟩, hfz16_0, hfz16_1, hfz16_2⟩ := cE BK102) | ((with_reducible refine gc 31 rfl ?_); refine gL 16 Try.func31 #[.slice A0_1 l0_1.length c0_1, .slice A1_2 l1_2.length c1_2] ?_; (with_reducible refine (flyballref01_Mul.calls k _ _ l0_1 _ _ l1_2 t104 _ ?_ ?_ ?_ ?_ A3.out).mono ?_); exact Kd.C_below HR0_1.out (bup HB.out); exact HC0_1.out; exact Kd.C_below HR1_2.out (bup HB.out); exact HC1_2.out; rintro e w17 ⟨v105, rfl, ho0, hb⟩; refine ⟨_, rfl, ?_⟩; have HO106 := Aside0.mk (Kd.R_lower (Kd.R_newM (M := fun k_ => (w.heap.size ≤ k_)) ho0 (below_size hB) (fun k_ h_ => h_)) (below_size hB)); replace BK101 := kA BK101 hb; replace BK102 := kA BK102 hb; replace BK103 := kA BK103 hb; replace HB := bS HB hb; clear hb ho0; obtain ⟨⟨hcz18_0, hcz18_1, hcz18_2⟩, hfz18_0, hfz18_1, hfz18_2⟩ := cE BK102; obtain ⟨⟨hcz19_0, hcz19_1, hcz19_2⟩, hfz19_0, hfz19_1, hfz19_2⟩ := cE BK101) | ((with_reducible refine gc 31 rfl ?_); refine gL 21 Try.func31 #[.slice A1_1 l1_1.length c1_1, .slice A0_2 l0_2.length c0_2] ?_; (with_reducible refine (flyballref01_Mul.calls k _ _ l1_1 _ _ l0_2 t107 _ ?_ ?_ ?_ ?_ A4.out).mono ?_); exact Kd.C_below HR1_1.out (bup HB.out); exact HC1_1.out; exact Kd.C_below HR0_2.out (bup HB.out); exact HC0_2.out; rintro e w20 ⟨v108, rfl, ho0, hb⟩; refine ⟨_, rfl, ?_⟩; have HO109 := Aside0.mk (Kd.R_lower (Kd.R_new' (Kd.R_newM (M := fun k_ => (w.heap.size ≤ k_)) ho0 (below_size hB) (fun k_ h_ => h_)) (Kd.R_lt (rup HO106.out))) (below_size hB)); replace HO106 := Aside0.mk (Kd.R_elder' (rup HO106.out) (Kd.R_base ho0) hb); replace BK101 := kA BK101 hb; replace BK102 := kA BK102 hb; replace BK103 := kA BK103 hb; replace HB := bS HB hb; clear hb ho0; obtain ⟨⟨hcz21_0, hcz21_1, hcz21_2⟩, hfz21_0, hfz21_1, hfz21_2⟩ := cE BK101; obtain ⟨⟨hcz22_0, hcz22_1, hcz22_2⟩, hfz22_0, hfz22_1, hfz22_2⟩ := cE BK102) | ((with_reducible refine gc 31 rfl ?_); refine gL 26 Try.func31 #[.slice A0_2 l0_2.length c0_2, .slice A1_2 l1_2.length c1_2] ?_; (with_reducible refine (flyballref01_Mul.calls k _ _ l0_2 _ _ l1_2 t110 _ ?_ ?_ ?_ ?_ A5.out).mono ?_); exact Kd.C_below HR0_2.out (bup HB.out); exact HC0_2.out; exact Kd.C_below HR1_2.out (bup HB.out); exact HC1_2.out; rintro e w23 ⟨v111, rfl, ho0, hb⟩; refine ⟨_, rfl, ?_⟩; have HO112 := Aside0.mk (Kd.R_lower (Kd.R_new' (Kd.R_new' (Kd.R_newM (M := fun k_ => (w.heap.size ≤ k_)) ho0 (below_size hB) (fun k_ h_ => h_)) (Kd.R_lt (rup HO106.out))) (Kd.R_lt (rup HO109.out))) (below_size hB)); replace HO106 := Aside0.mk (Kd.R_elder' (rup HO106.out) (Kd.R_base ho0) hb); replace HO109 := Aside0.mk (Kd.R_elder' (rup HO109.out) (Kd.R_base ho0) hb); replace BK101 := kA BK101 hb; replace BK102 := kA BK102 hb; replace BK103 := kA BK103 hb; replace HB := bS HB hb; clear hb ho0; obtain ⟨⟨hcz24_0, hcz24_1, hcz24_2⟩, hfz24_0, hfz24_1, hfz24_2⟩ := cE BK101; obtain ⟨⟨hcz25_0, hcz25_1, hcz25_2⟩, hfz25_0, hfz25_1, hfz25_2⟩ := cE BK102))
 replace HO106 := Aside0.mk (Kd.R_drew HO106.out)
 replace HO109 := Aside0.mk (Kd.R_drew HO109.out)
 replace HO112 := Aside0.mk (Kd.R_drew HO112.out)
 replace BK101 := kd BK101
 replace BK102 := kd BK102
 replace BK103 := kd BK103
 replace HB := bd HB
 obtain ⟨Ao27, co27, eo27⟩ := Kd.R_slice HO106.out
 (first | subst eo27 | (injection eo27 with f1_ f2_ f3_; have f4_ := f1_.symm; have f5_ := f3_.symm; clear f1_ f2_ f3_; subst f4_; subst f5_))
 obtain ⟨Ao28, co28, eo28⟩ := Kd.R_slice HO109.out
 (first | subst eo28 | (injection eo28 with f1_ f2_ f3_; have f4_ := f1_.symm; have f5_ := f3_.symm; clear f1_ f2_ f3_; subst f4_; subst f5_))
 refine st (S := fun w' => B3 w' gb101 (.bool a0_0) (.slice A0_1 l0_1.length c0_1) (.slice A0_2 l0_2.length c0_2)) 8 [] (tf 0 8) (b3 BK101) (fun hHeld => ?_); refine with_tabW flyballref03_Add.tab5 flyballref03_Add.bits5 (fun HT_ HW_ => ?_)
 generalize w23.drew = w26 at HO106 HO109 HO112 BK101 BK102 BK103 HB hHeld ⊢
 refine pu 0 32 (tf 1 7) ?_
 refine pu 2 34 #[true, false, true, false, false, false, false, false] ?_
 refine pu 3 35 #[true, false, true, true, false, false, false, false] ?_
 refine pu 5 37 #[true, false, true, true, false, true, false, false] ?_
 refine tk 1 33 #[true, true, true, true, false, true, false, false] hHeld ?_
 refine on 4 (some 36) (tf 6 2) (fun K hK => ?_)
 refine gS Try.func29 #[.slice Ao27 t104.length co27, .slice Ao28 t107.length co28] ?_
 with_reducible refine (flyballref01_Add.calls k _ _ t104 _ _ t107 t113 _ ?_ ?_ ?_ ?_ A7.out).mono ?_
 exact cup ((Kd.R_reads' HO106.out).2.2)
 exact (Kd.R_reads' HO106.out).2.1
 exact cup ((Kd.R_reads' HO109.out).2.2)
 exact (Kd.R_reads' HO109.out).2.1
 rintro e w29 ⟨v114, rfl, ho0, hb⟩
 refine ⟨_, rfl, ?_⟩
 have HO115 := Aside0.mk (Kd.R_lower (Kd.R_new' (Kd.R_new' (Kd.R_new' (Kd.R_newM (M := fun k_ => (w.heap.size ≤ k_)) ho0 (below_size hB) (fun k_ h_ => h_)) (Kd.R_lt (rup HO106.out))) (Kd.R_lt (rup HO109.out))) (Kd.R_lt (rup HO112.out))) (below_size hB))
 replace HO106 := Aside0.mk (Kd.R_elder' (rup HO106.out) (Kd.R_base ho0) hb)
 replace HO109 := Aside0.mk (Kd.R_elder' (rup HO109.out) (Kd.R_base ho0) hb)
 replace HO112 := Aside0.mk (Kd.R_elder' (rup HO112.out) (Kd.R_base ho0) hb)
 replace BK101 := kA BK101 hb
 replace BK102 := kA BK102 hb
 replace BK103 := kA BK103 hb
 replace HB := bS HB hb
 clear hb ho0
 obtain ⟨Ao30, co30, eo30⟩ := Kd.R_slice HO115.out
 (first | subst eo30 | (injection eo30 with f1_ f2_ f3_; have f4_ := f1_.symm; have f5_ := f3_.symm; clear f1_ f2_ f3_; subst f4_; subst f5_))
 obtain ⟨Ao31, co31, eo31⟩ := Kd.R_slice HO112.out
 (first | subst eo31 | (injection eo31 with f1_ f2_ f3_; have f4_ := f1_.symm; have f5_ := f3_.symm; clear f1_ f2_ f3_; subst f4_; subst f5_))
 refine hK.out _ _ (b3 BK101) (fun hHeld => nm ?_)
 clear hK K
 refine on 6 (some 38) (tf 7 1) (fun K hK => ?_)
 refine gS Try.func96 #[.bool a0_0, .slice Ao30 t113.length co30, .slice Ao31 t110.length co31] ?_
 with_reducible refine (flyballref03_Low.calls k a0_0 (fun k_ => some k_ = (.slice Ao30 t113.length co30 : Value).ownBlock) _ _ t113 (fun k_ => some k_ = (.slice Ao31 t110.length co31 : Value).ownBlock) _ _ t110 t116 t117 t120 _ ?_ ?_ A8.out).mono ?_
 (exact Kd.R_V (Kd.R_tight rfl (Kd.R_types (Kd.R_types (Kd.R_types (HO115.out) BK101.out (by decide)) BK102.out (by decide)) BK103.out (by decide))))
 (exact Kd.R_V (Kd.R_tight rfl (Kd.R_types (Kd.R_types (Kd.R_types (HO112.out) BK101.out (by decide)) BK102.out (by decide)) BK103.out (by decide))))
 rintro e w32 ⟨v118, v121, rfl, ho0, ho1, hb⟩
 refine ⟨_, rfl, ?_⟩
 have HO119 := lw HB (fun k_ => (w.heap.size ≤ k_) ∧ some k_ ≠ (.slice Ao27 t104.length co27 : Value).ownBlock ∧ some k_ ≠ (.slice Ao28 t107.length co28 : Value).ownBlock ∧ k_ ≠ gb101 ∧ k_ ≠ gb102 ∧ k_ ≠ gb103) ho0 (fun k_ hk_ => Or.elim hk_ (fun hs_ => Or.elim hs_ (fun hs_ => ⟨((Kd.R_types (Kd.R_types (Kd.R_types (HO115.out) BK101.out (by decide)) BK102.out (by decide)) BK103.out (by decide)).1 k_ hs_.symm).1.1.1.1.1.1.1, ((Kd.R_types (Kd.R_types (Kd.R_types (HO115.out) BK101.out (by decide)) BK102.out (by decide)) BK103.out (by decide)).1 k_ hs_.symm).1.1.1.1.1.2, ((Kd.R_types (Kd.R_types (Kd.R_types (HO115.out) BK101.out (by decide)) BK102.out (by decide)) BK103.out (by decide)).1 k_ hs_.symm).1.1.1.1.2, ((Kd.R_types (Kd.R_types (Kd.R_types (HO115.out) BK101.out (by decide)) BK102.out (by decide)) BK103.out (by decide)).1 k_ hs_.symm).1.1.2, ((Kd.R_types (Kd.R_types (Kd.R_types (HO115.out) BK101.out (by decide)) BK102.out (by decide)) BK103.out (by decide)).1 k_ hs_.symm).1.2, ((Kd.R_types (Kd.R_types (Kd.R_types (HO115.out) BK101.out (by decide)) BK102.out (by decide)) BK103.out (by decide)).1 k_ hs_.symm).2⟩) (fun hs_ => ⟨((Kd.R_types (Kd.R_types (Kd.R_types (HO112.out) BK101.out (by decide)) BK102.out (by decide)) BK103.out (by decide)).1 k_ hs_.symm).1.1.1.1.1.1.1, ((Kd.R_types (Kd.R_types (Kd.R_types (HO112.out) BK101.out (by decide)) BK102.out (by decide)) BK103.out (by decide)).1 k_ hs_.symm).1.1.1.1.1.2, ((Kd.R_types (Kd.R_types (Kd.R_types (HO112.out) BK101.out (by decide)) BK102.out (by decide)) BK103.out (by decide)).1 k_ hs_.symm).1.1.1.1.2, ((Kd.R_types (Kd.R_types (Kd.R_types (HO112.out) BK101.out (by decide)) BK102.out (by decide)) BK103.out (by decide)).1 k_ hs_.symm).1.1.2, ((Kd.R_types (Kd.R_types (Kd.R_types (HO112.out) BK101.out (by decide)) BK102.out (by decide)) BK103.out (by decide)).1 k_ hs_.symm).1.2, ((Kd.R_types (Kd.R_types (Kd.R_types (HO112.out) BK101.out (by decide)) BK102.out (by decide)) BK103.out (by decide)).1 k_ hs_.symm).2⟩)) (fun hn_ => ⟨Nat.le_trans (below_size hB) hn_, Kd.fresh' (Kd.R_lt (rup HO106.out)) k_ hn_, Kd.fresh' (Kd.R_lt (rup HO109.out)) k_ hn_, kF BK101 hn_, kF BK102 hn_, kF BK103 hn_⟩))
 have HO122 := lw HB (fun k_ => (w.heap.size ≤ k_) ∧ some k_ ≠ (.slice Ao27 t104.length co27 : Value).ownBlock ∧ some k_ ≠ (.slice Ao28 t107.length co28 : Value).ownBlock ∧ k_ ≠ gb101 ∧ k_ ≠ gb102 ∧ k_ ≠ gb103) ho1 (fun k_ hk_ => Or.elim hk_ (fun hs_ => Or.elim hs_ (fun hs_ => ⟨((Kd.R_types (Kd.R_types (Kd.R_types (HO115.out) BK101.out (by decide)) BK102.out (by decide)) BK103.out (by decide)).1 k_ hs_.symm).1.1.1.1.1.1.1, ((Kd.R_types (Kd.R_types (Kd.R_types (HO115.out) BK101.out (by decide)) BK102.out (by decide)) BK103.out (by decide)).1 k_ hs_.symm).1.1.1.1.1.2, ((Kd.R_types (Kd.R_types (Kd.R_types (HO115.out) BK101.out (by decide)) BK102.out (by decide)) BK103.out (by decide)).1 k_ hs_.symm).1.1.1.1.2, ((Kd.R_types (Kd.R_types (Kd.R_types (HO115.out) BK101.out (by decide)) BK102.out (by decide)) BK103.out (by decide)).1 k_ hs_.symm).1.1.2, ((Kd.R_types (Kd.R_types (Kd.R_types (HO115.out) BK101.out (by decide)) BK102.out (by decide)) BK103.out (by decide)).1 k_ hs_.symm).1.2, ((Kd.R_types (Kd.R_types (Kd.R_types (HO115.out) BK101.out (by decide)) BK102.out (by decide)) BK103.out (by decide)).1 k_ hs_.symm).2⟩) (fun hs_ => ⟨((Kd.R_types (Kd.R_types (Kd.R_types (HO112.out) BK101.out (by decide)) BK102.out (by decide)) BK103.out (by decide)).1 k_ hs_.symm).1.1.1.1.1.1.1, ((Kd.R_types (Kd.R_types (Kd.R_types (HO112.out) BK101.out (by decide)) BK102.out (by decide)) BK103.out (by decide)).1 k_ hs_.symm).1.1.1.1.1.2, ((Kd.R_types (Kd.R_types (Kd.R_types (HO112.out) BK101.out (by decide)) BK102.out (by decide)) BK103.out (by decide)).1 k_ hs_.symm).1.1.1.1.2, ((Kd.R_types (Kd.R_types (Kd.R_types (HO112.out) BK101.out (by decide)) BK102.out (by decide)) BK103.out (by decide)).1 k_ hs_.symm).1.1.2, ((Kd.R_types (Kd.R_types (Kd.R_types (HO112.out) BK101.out (by decide)) BK102.out (by decide)) BK103.out (by decide)).1 k_ hs_.symm).1.2, ((Kd.R_types (Kd.R_types (Kd.R_types (HO112.out) BK101.out (by decide)) BK102.out (by decide)) BK103.out (by decide)).1 k_ hs_.symm).2⟩)) (fun hn_ => ⟨Nat.le_trans (below_size hB) hn_, Kd.fresh' (Kd.R_lt (rup HO106.out)) k_ hn_, Kd.fresh' (Kd.R_lt (rup HO109.out)) k_ hn_, kF BK101 hn_, kF BK102 hn_, kF BK103 hn_⟩))
 replace HO106 := rA HO106 hb
 replace HO109 := rA HO109 hb
 replace HO112 := rA HO112 hb
 replace HO115 := rA HO115 hb
 replace BK101 := kA BK101 hb
 replace BK102 := kA BK102 hb
 replace BK103 := kA BK103 hb
 replace HB := bS HB hb
 clear hb ho0 ho1
 obtain ⟨Ao34, co34, eo34⟩ := Kd.V_slice HO119.out
 (first | subst eo34 | (injection eo34 with f1_ f2_ f3_; have f4_ := f1_.symm; have f5_ := f3_.symm; clear f1_ f2_ f3_; subst f4_; subst f5_))
 obtain ⟨Ao36, co36, eo36⟩ := Kd.V_slice HO122.out
 (first | subst eo36 | (injection eo36 with f1_ f2_ f3_; have f4_ := f1_.symm; have f5_ := f3_.symm; clear f1_ f2_ f3_; subst f4_; subst f5_))
 refine hK.out _ _ (b3 BK101) (fun hHeld => nm ?_)
 clear hK K
 refine on 7 none (tf 8 0) (fun K hK => ?_)
 obtain ⟨hs33, hfs33⟩ := e0 BK103
 have hns33_0 := NB101_103.out
 have hns33_1 := NB102_103.out
 have hms33_0 := NB103_101.out
 have hms33_1 := NB103_102.out
 obtain ⟨hs35, hfs35⟩ := e1 BK103
 have hns35_0 := NB101_103.out
 have hns35_1 := NB102_103.out
 have hms35_0 := NB103_101.out
 have hms35_1 := NB103_102.out
 obtain ⟨hs37, hfs37⟩ := e2 BK103
 have hns37_0 := NB101_103.out
 have hns37_1 := NB102_103.out
 have hms37_0 := NB103_101.out
 have hms37_1 := NB103_102.out
 refine sk ?_
 refine hK.out _ _ (F3 hHeld NB101_103) (fun hHeld => ?_)
 clear hK K
 refine done_ (done_of HT_.out (by kernel_rfl)) ?_
 try go_wp2
 refine bodyPost_ret (results_cell_row rfl _ _ gb103 92 #[.bool t116, .slice Ao34 t117.length co34, .slice Ao36 t120.length co36] (0, 0) _ rfl (by exact kU (p3 BK103)) Try.underlying92 rfl (by kernel_rfl)) rfl ?_
 exact ⟨_, _, er, vG (v3p HO119 (fun _ hk => hk.2.2.2.2.2)) (fun _ hk => hk.1.1), vG (v3p HO122 (fun _ hk => hk.2.2.2.2.2)) (fun _ hk => hk.1.1), hB⟩
def flyballref03_Cmp.f (k : Nat) (a0_0 : Bool) (l0_1 : List Bool) (l0_2 : List Bool) (a1_0 : Bool) (l1_1 : List Bool) (l1_2 : List Bool) : Option (Int) := (flyballref03_Minus.f k a1_0 l1_1 l1_2).bind fun bt103 => ((flyballref03_Add.f k a0_0 l0_1 l0_2 bt103.1 bt103.2.1 bt103.2.2).bind fun bt110 => ((flyballref03_Sign.f k bt110.1 bt110.2.1 bt110.2.2).bind fun t117 => (some t117)))
set_option maxHeartbeats 8000000 in
set_option maxRecDepth 100000 in
theorem flyballref03_Cmp.calls (k : Nat) (a0_0 : Bool) (A0_1 : Option Addr) (c0_1 : Nat) (l0_1 : List Bool) (A0_2 : Option Addr) (c0_2 : Nat) (l0_2 : List Bool) (a1_0 : Bool) (A1_1 : Option Addr) (c1_1 : Nat) (l1_1 : List Bool) (A1_2 : Option Addr) (c1_2 : Nat) (l1_2 : List Bool) (r : Int) (w : World) (hr0_1 : Kd.C Kd.bool w A0_1 l0_1.length l0_1) (hc0_1 : l0_1.length ≤ c0_1) (hr0_2 : Kd.C Kd.bool w A0_2 l0_2.length l0_2) (hc0_2 : l0_2.length ≤ c0_2) (hr1_1 : Kd.C Kd.bool w A1_1 l1_1.length l1_1) (hc1_1 : l1_1.length ≤ c1_1) (hr1_2 : Kd.C Kd.bool w A1_2 l1_2.length l1_2) (hc1_2 : l1_2.length ≤ c1_2) (H : flyballref03_Cmp.f k a0_0 l0_1 l0_2 a1_0 l1_1 l1_2 = some r) :
  Calls Try.prog 98 #[.agg #[.bool a0_0, .slice A0_1 l0_1.length c0_1, .slice A0_2 l0_2.length c0_2], .agg #[.bool a1_0, .slice A1_1 l1_1.length c1_1, .slice A1_2 l1_2.length c1_2]] w fun e w' => e = .returned (.int .i64 r) ∧ Below w.heap.size w w' := by
 have hu92 := Try.underlying92
 have HR0_1 := Aside0.mk hr0_1
 have HC0_1 := Aside0.mk hc0_1
 clear hr0_1 hc0_1
 have HR0_2 := Aside0.mk hr0_2
 have HC0_2 := Aside0.mk hc0_2
 clear hr0_2 hc0_2
 have HR1_1 := Aside0.mk hr1_1
 have HC1_1 := Aside0.mk hc1_1
 clear hr1_1 hc1_1
 have HR1_2 := Aside0.mk hr1_2
 have HC1_2 := Aside0.mk hc1_2
 clear hr1_2 hc1_2
 have HB := Aside0.mk (Below.refl w.heap.size w)
 unfold flyballref03_Cmp.f at H
 replace H := bi H
 obtain ⟨⟨t103, t104, t107⟩, A3, H⟩ := H
 try dsimp only at H
 replace H := bi H
 obtain ⟨⟨t110, t111, t114⟩, A4, H⟩ := H
 try dsimp only at H
 replace H := bi H
 obtain ⟨t117, A5, H⟩ := H
 obtain rfl := Option.some.inj H
 go_enter Try.func98, Try.ntmps98
 try go_wp2_with (first | ((with_reducible refine gd 2 rfl ?_); refine box_event ?hg (N := 2) ?hd (cs := #[.bool a0_0, .slice A0_1 l0_1.length c0_1, .slice A0_2 l0_2.length c0_2]) (t := 92) ?hr ?_; (case hd => rfl); (case hg => rfl); (case hr => first | (go_simp; done) | (go_simp; rfl)); intro gb101 hg w6 hbox hb; have BK101 := Aside0.mk hbox; have GW101 := gB hg HB; have GE101 := gB hg HB; replace HB := bA HB hb; clear hb hbox hg) | ((with_reducible refine gd 3 rfl ?_); refine box_event ?hg (N := 3) ?hd (cs := #[.bool a1_0, .slice A1_1 l1_1.length c1_1, .slice A1_2 l1_2.length c1_2]) (t := 92) ?hr ?_; (case hd => rfl); (case hg => rfl); (case hr => first | (go_simp; done) | (go_simp; rfl)); intro gb102 hg w7 hbox hb; have BK102 := Aside0.mk hbox; have GW102 := gS' hg HB; have GE102 := gS' hg HB; replace HB := bS HB hb; have NB101_102 := nL hg BK101; have NB102_101 := nR hg BK101; replace BK101 := kA BK101 hb; clear hb hbox hg))
 replace BK101 := kd BK101
 replace BK102 := kd BK102
 replace HB := bd HB
 refine st (S := fun w' => B3 w' gb101 (.bool a0_0) (.slice A0_1 l0_1.length c0_1) (.slice A0_2 l0_2.length c0_2) ∧ B3 w' gb102 (.bool a1_0) (.slice A1_1 l1_1.length c1_1) (.slice A1_2 l1_2.length c1_2)) 6 [] (tf 0 6) ⟨b3 BK101, b3 BK102⟩ (fun hHeld => ?_)
 generalize w7.drew = w8 at BK101 BK102 HB hHeld ⊢
 refine tk 0 5 (tf 1 5) hHeld ?_
 refine tk 1 6 (tf 2 4) hHeld ?_
 refine on 2 (some 7) (tf 3 3) (fun K hK => ?_)
 refine gS Try.func89 #[.agg #[.bool a1_0, .slice A1_1 l1_1.length c1_1, .slice A1_2 l1_2.length c1_2]] ?_
 with_reducible refine (flyballref03_Minus.calls k a1_0 (fun k_ => k_ < w.heap.size) _ _ l1_1 (fun k_ => k_ < w.heap.size) _ _ l1_2 t103 t104 t107 _ ?_ ?_ A3.out).mono ?_
 exact Kd.V_mk HC1_1.out (Kd.F_below (Kd.C_F Kd.heap_bool HR1_1.out) hB)
 exact Kd.V_mk HC1_2.out (Kd.F_below (Kd.C_F Kd.heap_bool HR1_2.out) hB)
 rintro e w9 ⟨v105, v108, rfl, ho0, ho1, hb⟩
 refine ⟨_, rfl, ?_⟩
 have HO106 := lw HB (fun k_ => k_ ≠ gb101 ∧ k_ ≠ gb102) ho0 (fun k_ hk_ => Or.elim hk_ (fun hs_ => Or.elim hs_ (fun hs_ => ⟨gw hs_ GW101, gw hs_ GW102⟩) (fun hs_ => ⟨gw hs_ GW101, gw hs_ GW102⟩)) (fun hn_ => ⟨kF BK101 hn_, kF BK102 hn_⟩))
 have HO109 := lw HB (fun k_ => k_ ≠ gb101 ∧ k_ ≠ gb102) ho1 (fun k_ hk_ => Or.elim hk_ (fun hs_ => Or.elim hs_ (fun hs_ => ⟨gw hs_ GW101, gw hs_ GW102⟩) (fun hs_ => ⟨gw hs_ GW101, gw hs_ GW102⟩)) (fun hn_ => ⟨kF BK101 hn_, kF BK102 hn_⟩))
 replace BK101 := kA BK101 hb
 replace BK102 := kA BK102 hb
 replace HB := bS HB hb
 clear hb ho0 ho1
 obtain ⟨Ao10, co10, eo10⟩ := Kd.V_slice HO106.out
 (first | subst eo10 | (injection eo10 with f1_ f2_ f3_; have f4_ := f1_.symm; have f5_ := f3_.symm; clear f1_ f2_ f3_; subst f4_; subst f5_))
 obtain ⟨Ao11, co11, eo11⟩ := Kd.V_slice HO109.out
 (first | subst eo11 | (injection eo11 with f1_ f2_ f3_; have f4_ := f1_.symm; have f5_ := f3_.symm; clear f1_ f2_ f3_; subst f4_; subst f5_))
 refine hK.out _ _ ⟨b3 BK101, b3 BK102⟩ (fun hHeld => nm ?_)
 clear hK K
 refine on 3 (some 8) (tf 4 2) (fun K hK => ?_)
 refine gS Try.func87 #[.agg #[.bool a0_0, .slice A0_1 l0_1.length c0_1, .slice A0_2 l0_2.length c0_2], .agg #[.bool t103, .slice Ao10 t104.length co10, .slice Ao11 t107.length co11]] ?_
 with_reducible refine (flyballref03_Add.calls k a0_0 _ _ l0_1 _ _ l0_2 t103 _ _ t104 _ _ t107 t110 t111 t114 _ ?_ ?_ ?_ ?_ ?_ ?_ ?_ ?_ A4.out).mono ?_
 exact Kd.C_below HR0_1.out (bup HB.out)
 exact HC0_1.out
 exact Kd.C_below HR0_2.out (bup HB.out)
 exact HC0_2.out
 exact cup ((Kd.V_reads' HO106.out).2.2)
 exact (Kd.V_reads' HO106.out).2.1
 exact cup ((Kd.V_reads' HO109.out).2.2)
 exact (Kd.V_reads' HO109.out).2.1
 rintro e w12 ⟨v112, v115, rfl, ho0, ho1, hb⟩
 refine ⟨_, rfl, ?_⟩
 replace HO106 := vA HO106 hb
 replace HO109 := vA HO109 hb
 have HO113 := lw HB (fun k_ => k_ ≠ gb101 ∧ k_ ≠ gb102) ho0 (fun k_ hk_ => ⟨(kF BK101 hk_), (kF BK102 hk_)⟩)
 have HO116 := lw HB (fun k_ => k_ ≠ gb101 ∧ k_ ≠ gb102) ho1 (fun k_ hk_ => ⟨(kF BK101 hk_), (kF BK102 hk_)⟩)
 replace BK101 := kA BK101 hb
 replace BK102 := kA BK102 hb
 replace HB := bS HB hb
 clear hb ho0 ho1
 obtain ⟨Ao13, co13, eo13⟩ := Kd.V_slice HO113.out
 (first | subst eo13 | (injection eo13 with f1_ f2_ f3_; have f4_ := f1_.symm; have f5_ := f3_.symm; clear f1_ f2_ f3_; subst f4_; subst f5_))
 obtain ⟨Ao14, co14, eo14⟩ := Kd.V_slice HO116.out
 (first | subst eo14 | (injection eo14 with f1_ f2_ f3_; have f4_ := f1_.symm; have f5_ := f3_.symm; clear f1_ f2_ f3_; subst f4_; subst f5_))
 refine hK.out _ _ ⟨b3 BK101, b3 BK102⟩ (fun hHeld => nm ?_)
 clear hK K
 refine on 4 (some 9) (tf 5 1) (fun K hK => ?_)
 refine gS Try.func93 #[.agg #[.bool t110, .slice Ao13 t111.length co13, .slice Ao14 t114.length co14]] ?_
 with_reducible refine (flyballref03_Sign.calls k t110 _ _ t111 _ _ t114 t117 _ ?_ ?_ ?_ ?_ A5.out).mono ?_
 exact cup ((Kd.V_reads' HO113.out).2.2)
 exact (Kd.V_reads' HO113.out).2.1
 exact cup ((Kd.V_reads' HO116.out).2.2)
 exact (Kd.V_reads' HO116.out).2.1
 rintro e w15 ⟨rfl, hb⟩
 refine ⟨_, rfl, ?_⟩
 replace HO106 := vA HO106 hb
 replace HO109 := vA HO109 hb
 replace HO113 := vA HO113 hb
 replace HO116 := vA HO116 hb
 replace BK101 := kA BK101 hb
 replace BK102 := kA BK102 hb
 replace HB := bS HB hb
 clear hb
 refine hK.out _ _ ⟨b3 BK101, b3 BK102⟩ (fun hHeld => nm ?_)
 clear hK K
 refine pu 5 4 (tf 6 0) ?_
 refine done_ (by kernel_rfl) ?_
 try go_wp2
 go_ret
 exact ⟨er, hB⟩
mutual
def flyballref01_Words.l0 : Nat → List Bool → Int → List Int → Int → Option (List Int)
 | 0, _, _, _, _ => none
 | k + 1, x0, x1, x5, x6 => if x6 < (x0.length : Int) then (flyballref01_Words.j1 k x0 x1 x5 x6 (decide (x6 < (wrap64 (64 * x1))))) else (flyballref01_Words.j1 k x0 x1 x5 x6 false)
def flyballref01_Words.j1 : Nat → List Bool → Int → List Int → Int → Bool → Option (List Int)
 | 0, _, _, _, _, _ => none
 | k + 1, x0, x1, x5, x6, x18 => if x18 = true then (if 0 ≤ x6 then (if x6 < (x0.length : Int) then (if rdOf false x0 x6 = true then (if 0 ≤ (wrap64 (Int.tdiv x6 64)) then (if (wrap64 (Int.tdiv x6 64)) < (x5.length : Int) then (if 0 ≤ (IntKind.u64.wrap (Int.tmod x6 64)) then (flyballref01_Words.l0 k x0 x1 (x5.set ((wrap64 (Int.tdiv x6 64)) : Int).toNat (Go.bits .or .u64 (rd x5 (wrap64 (Int.tdiv x6 64))) (shl .u64 1 (IntKind.u64.wrap (Int.tmod x6 64))))) (wrap64 (x6 + 1))) else (none)) else (none)) else (none)) else (flyballref01_Words.l0 k x0 x1 x5 (wrap64 (x6 + 1)))) else (none)) else (none)) else (some x5)
end
def flyballref01_Words.f (k : Nat) (l0 : List Bool) (a1 : Int) : Option (List Int) := if 0 ≤ a1 then (if (a1 : Int).toNat ≤ 35184372088832 then (flyballref01_Words.l0 k l0 a1 (List.replicate (a1 : Int).toNat 0) 0) else (none)) else (none)
set_option maxHeartbeats 8000000 in
set_option maxRecDepth 100000 in
theorem flyballref01_Words.calls (k : Nat) (A0 : Option Addr) (c0 : Nat) (l0 : List Bool) (a1 : Int) (r : List Int) (w : World) (hr0 : Kd.C Kd.bool w A0 l0.length l0) (hc0 : l0.length ≤ c0) (H : flyballref01_Words.f k l0 a1 = some r) :
  Calls Try.prog 40 #[.slice A0 l0.length c0, .int .i64 a1] w fun e w' => ∃ v0_ : Value, e = .returned (v0_) ∧ Kd.R (Kd.int .u64) 47 w' w.heap.size (fun _ => True) v0_ r ∧ Below w.heap.size w w' := by
 have HR0 := Aside0.mk hr0
 have HC0 := Aside0.mk hc0
 clear hr0 hc0
 have HB := Aside0.mk (Below.refl w.heap.size w)
 unfold flyballref01_Words.f at H
 replace H := iS H
 obtain ⟨c3, H⟩ := H
 have c3b0 := eq_true c3
 have c3b1 : decide (0 ≤ a1) = true := decide_eq_true c3
 clear c3
 replace H := iS H
 obtain ⟨c4, H⟩ := H
 have c4b0 := eq_true c4
 have c4b1 : decide ((a1 : Int).toNat ≤ 35184372088832) = true := decide_eq_true c4
 clear c4
 obtain ⟨y101, hy101⟩ : ∃ y_ : List Int, y_ = (List.replicate (a1 : Int).toNat 0) := ⟨_, rfl⟩
 replace H : (flyballref01_Words.l0 k l0 a1 y101 0) = some r := by first | (rw [hy101]; with_reducible exact H) | (have H2_ := (Option.bind_some _ _).symm.trans H; rw [hy101]; with_reducible exact H2_) | (have H2_ := (Option.bind_some _ _).symm.trans H; with_reducible exact H2_) | with_reducible exact H | (rw [hy101]; exact H) | exact H
 have Ny101 := Aside0.mk hy101
 clear hy101
 have H' := Aside0.mk H
 clear H
 go_enter Try.func40, Try.ntmps40
 go_wp2_with (first | ((with_reducible refine gd 8 rfl ?_); refine Kd.R_make (Kd.int .u64) _ 47 rfl (N := 8) rfl 45 _ _ rfl a1 rfl rfl Try.underlying45 (.int .u64 0) 8 info47 rfl (by decide) (by omega) 0 (ok := fun _ => True) (okp := fun _ => True) rfl (fun _ hk => hk) trivial (of_decide_eq_true asm) (Nat.le_trans (Nat.mul_le_mul_right _ (of_decide_eq_true asm : a1.toNat ≤ 35184372088832)) (by omega)) (Below.refl _ _) (Nat.le_refl _) ?_; intro v102 w5 ho6 hb hg_ hnew_; clear hg_ hnew_; (first | rw [← Ny101.out] at ho6 | (simp only [Int.reduceToNat] at ho6; rw [← Ny101.out] at ho6)); have HO103 := Aside0.mk (Kd.R_lower ho6 (below_size (bup HB.out))); replace HB := bA HB hb; clear hb ho6))
 go_loopg [6] k (fun kq v6 w' => ∃ (x5_1 : List Int) (x6_1 : Int), v6 = .int .i64 x6_1 ∧ Aside0 (flyballref01_Words.l0 kq l0 a1 x5_1 x6_1 = some r) ∧ Aside0 (kq ≤ k) ∧ Aside0 (Kd.R (Kd.int .u64) 47 w' w.heap.size (fun _ => True) v102 x5_1) ∧ Aside0 (Below w.heap.size w w'))
 case atStart => exact ⟨(y101), (0), rS, H', ⟨Nat.le_refl _⟩, ⟨rup HO103.out⟩, ⟨bup HB.out⟩⟩
 case round =>
  clear H'
  try clear p2
  try clear c3
  try clear c3b0
  try clear c3b1
  try clear c4
  try clear c4b0
  try clear c4b1
  obtain ⟨x5_1, x6_1, rfl, HA, HK1, HO_5, HB⟩ := hrel
  cases gk with
  | zero => exact absurd HA.out (by simp [flyballref01_Words.l0])
  | succ k1 =>
   have H := HA.out
   clear HA
   simp only [flyballref01_Words.l0] at H
   have HC7 := Aside0.mk H
   clear H
   go_upto_region 3 with (fail)
   go_cut [18] (fun v18 wc => ∃ (kq : Nat) (x18_6 : Bool), v18 = .bool x18_6 ∧ Aside0 (flyballref01_Words.j1 kq l0 a1 x5_1 x6_1 x18_6 = some r) ∧ Aside0 (kq ≤ k1) ∧ Aside0 (Kd.R (Kd.int .u64) 47 wc w.heap.size (fun _ => True) v102 x5_1) ∧ Aside0 (Below w.heap.size w wc))
   case first =>
    have H := HC7.out
    clear HC7
    by_cases c8 : x6_1 < (l0.length : Int)
    rotate_left
    ·rw [if_neg c8] at H
     have c8b0 : decide (x6_1 < (l0.length : Int)) = false := decide_eq_false c8
     clear c8
     (first | rw [c8b0] | (simp only [i64_w, i32_w]; rw [c8b0]) | skip)
     have H' := Aside0.mk H
     clear H
     go_wp2
     go_meet
     case rel => exact ⟨_, (false), rS, H', ⟨hk1⟩, ⟨rup HO_5.out⟩, ⟨bup HB.out⟩⟩
    rw [if_pos c8] at H
    have c8b0 : decide (x6_1 < (l0.length : Int)) = true := decide_eq_true c8
    clear c8
    (first | rw [c8b0] | (simp only [i64_w, i32_w]; rw [c8b0]) | skip)
    have H' := Aside0.mk H
    clear H
    go_wp2
    go_meet
    case rel => exact ⟨_, (decide (x6_1 < (wrap64 (64 * a1)))), rS, H', ⟨hk1⟩, ⟨rup HO_5.out⟩, ⟨bup HB.out⟩⟩
   case rest =>
    clear HC7
    try clear p2
    try clear c3
    try clear c3b0
    try clear c3b1
    try clear c4
    try clear c4b0
    try clear c4b1
    try clear p6
    try clear c8
    try clear c8b0
    try clear p2
    obtain ⟨kq, x18_6, rfl, HA, HJ6, HO_5, HB⟩ := hcut
    cases kq with
    | zero => exact absurd HA.out (by simp [flyballref01_Words.j1])
    | succ kj6 =>
     have H := HA.out
     clear HA
     simp only [flyballref01_Words.j1] at H
     by_cases c9 : x18_6 = true
     ·subst c9
      replace H := ifT H
      replace H := iS H
      obtain ⟨c10, H⟩ := H
      have c10b0 : decide (0 ≤ x6_1) = true := decide_eq_true c10
      clear c10
      replace H := iS H
      obtain ⟨c11, H⟩ := H
      have c11b0 : decide (x6_1 < (l0.length : Int)) = true := decide_eq_true c11
      clear c11
      obtain ⟨bq12, hbq12⟩ : ∃ b_ : Bool, b_ = (rdOf false l0 x6_1) := ⟨_, rfl⟩
      replace H : (if bq12 = true then (if 0 ≤ (wrap64 (Int.tdiv x6_1 64)) then (if (wrap64 (Int.tdiv x6_1 64)) < (x5_1.length : Int) then (if 0 ≤ (IntKind.u64.wrap (Int.tmod x6_1 64)) then (flyballref01_Words.l0 kj6 l0 a1 (x5_1.set ((wrap64 (Int.tdiv x6_1 64)) : Int).toNat (Go.bits .or .u64 (rd x5_1 (wrap64 (Int.tdiv x6_1 64))) (shl .u64 1 (IntKind.u64.wrap (Int.tmod x6_1 64))))) (wrap64 (x6_1 + 1))) else (none)) else (none)) else (none)) else (flyballref01_Words.l0 kj6 l0 a1 x5_1 (wrap64 (x6_1 + 1)))) = some r := by rw [← hbq12] at H; exact H
      have Nbq12 := Aside0.mk hbq12
      clear hbq12
      by_cases c13 : bq12 = true
      ·subst c13
       replace H := ifT H
       obtain ⟨ji14, hji14⟩ : ∃ j_ : Int, (wrap64 (Int.tdiv x6_1 64)) = j_ := ⟨_, rfl⟩
       replace H : (if 0 ≤ (ji14) then (if (ji14) < (x5_1.length : Int) then (if 0 ≤ (IntKind.u64.wrap (Int.tmod x6_1 64)) then (flyballref01_Words.l0 kj6 l0 a1 (x5_1.set ((ji14) : Int).toNat (Go.bits .or .u64 (rd x5_1 (ji14)) (shl .u64 1 (IntKind.u64.wrap (Int.tmod x6_1 64))))) (wrap64 (x6_1 + 1))) else (none)) else (none)) else (none)) = some r := by first | (rw [hji14] at H; exact H) | (simp only [hji14] at H ⊢; exact H)
       have hji14w : (IntKind.i64.wrap (Int.tdiv x6_1 64)) = ji14 := (i64_w _).trans hji14
       replace H := iS H
       obtain ⟨c15, H⟩ := H
       have c15b0 : decide (0 ≤ (ji14)) = true := decide_eq_true c15
       clear c15
       replace H := iS H
       obtain ⟨c16, H⟩ := H
       have c16b0 : decide ((ji14) < (x5_1.length : Int)) = true := decide_eq_true c16
       clear c16
       obtain ⟨ji17, hji17⟩ : ∃ j_ : Int, (IntKind.u64.wrap (Int.tmod x6_1 64)) = j_ := ⟨_, rfl⟩
       replace H : (if 0 ≤ (ji17) then (flyballref01_Words.l0 kj6 l0 a1 (x5_1.set ((ji14) : Int).toNat (Go.bits .or .u64 (rd x5_1 (ji14)) (shl .u64 1 (ji17)))) (wrap64 (x6_1 + 1))) else (none)) = some r := by first | (rw [hji17] at H; exact H) | (simp only [hji17] at H ⊢; exact H)
       replace H := iS H
       obtain ⟨c18, H⟩ := H
       have c18b0 := eq_true c18
       have c18b1 : decide (0 ≤ (ji17)) = true := decide_eq_true c18
       clear c18
       obtain ⟨ji19, hji19⟩ : ∃ j_ : Int, (shl .u64 1 (ji17)) = j_ := ⟨_, rfl⟩
       replace H : (flyballref01_Words.l0 kj6 l0 a1 (x5_1.set ((ji14) : Int).toNat (Go.bits .or .u64 (rd x5_1 (ji14)) (ji19))) (wrap64 (x6_1 + 1))) = some r := by first | (rw [hji19] at H; exact H) | (simp only [hji19] at H ⊢; exact H)
       have hji19_ : (IntKind.u64.wrap (1 * 2 ^ min (ji17).toNat 64)) = ji19 := hji19
       have hji19z : (ji17) ≤ 64 → (IntKind.u64.wrap (1 * 2 ^ (ji17).toNat)) = ji19 := shl_small hji19
       have hji19u : (IntKind.u64.wrap (2 ^ min (ji17).toNat 64)) = ji19 := by have h_ := hji19_; rw [Int.one_mul] at h_; exact h_
       have hji19v : (ji17) ≤ 64 → (IntKind.u64.wrap (2 ^ (ji17).toNat)) = ji19 := fun hle_ => by have h_ := hji19z hle_; rw [Int.one_mul] at h_; exact h_
       obtain ⟨y106, hy106⟩ : ∃ y_ : List Int, y_ = (x5_1.set ((ji14) : Int).toNat (Go.bits .or .u64 (rd x5_1 (ji14)) (ji19))) := ⟨_, rfl⟩
       replace H : (flyballref01_Words.l0 kj6 l0 a1 y106 (wrap64 (x6_1 + 1))) = some r := by first | (rw [hy106]; with_reducible exact H) | (have H2_ := (Option.bind_some _ _).symm.trans H; rw [hy106]; with_reducible exact H2_) | (have H2_ := (Option.bind_some _ _).symm.trans H; with_reducible exact H2_) | with_reducible exact H | (rw [hy106]; exact H) | exact H
       have Ny106 := Aside0.mk hy106
       clear hy106
       have H' := Aside0.mk H
       clear H
       have p104 : 0 ≤ (x6_1 : Int) := of_decide_eq_true asm
       have q104 : x6_1 < (l0.length : Int) := of_decide_eq_true asm
       obtain ⟨ad104, e104, hx104_0⟩ := Kd.at_bool HR0.out x6_1 p104 q104
       (try rw [← Nbq12.out] at hx104_0)
       cases e104
       replace hx104_0 := (HB.out.cell (World.block_lt_of_cell? w _ hx104_0)).trans hx104_0
       replace p104 := eq_true p104
       replace q104 := eq_true q104
       obtain ⟨Ao21, co21, eo21⟩ := Kd.R_slice HO_5.out
       subst eo21
       have p105 : 0 ≤ ((ji14) : Int) := of_decide_eq_true asm
       have q105 : (ji14) < (x5_1.length : Int) := of_decide_eq_true asm
       obtain ⟨ad105, e105, hx105_0⟩ := Kd.at_int (Kd.R_reads' HO_5.out).2.2 (ji14) p105 q105
       cases e105
       replace p105 := eq_true p105
       replace q105 := eq_true q105
       have p20 : 0 ≤ ((ji14) : Int) := of_decide_eq_true asm
       have q20 : ((ji14) : Int) < ((x5_1.length : Int) : Int) := of_decide_eq_true asm
       obtain ⟨go20, co20, eo20, gb20, gl20, cl20, HG20⟩ := Kd.R_form HO_5.out (by omega)
       (first | cases eo20 | (injection eo20 with ea_ en_ ec_; (first | subst ea_ | (injection ea_ with ea_; subst ea_)); subst ec_; clear en_))
       have GB20 := Aside0.mk gb20
       have GG20 := Aside0.mk HG20
       clear gb20 gl20 HG20
       (first | simp only [add_plain] at hx105_0 | skip)
       obtain ⟨hx20_0, hf20_0⟩ := Kd.R_celln 0 HO_5.out ((ji14) : Int) p20 q20
       replace p20 := eq_true p20
       replace q20 := eq_true q20
       have HP22 := Kd.R_putg HO_5.out ((ji14) : Int) (Go.bits .or .u64 (rd x5_1 (ji14)) (ji19))
       go_wp2_with (first | ((with_reducible refine gate_store (t := 47) (p := 38) rfl ?_); refine store_event (t := 47) (p := 38) (v := ?vo_w23) (w1 := (wc.setCell ⟨go20, ((ji14) : Int).toNat, none⟩ (.int .u64 (Go.bits .or .u64 (rd x5_1 (ji14)) (ji19))))) ?hg ?ho ?hn ?hr ?_; (case ho => rfl); (case hg => rfl); (case hn => rfl); (case hr => first | (go_simp; done) | (go_simp; rfl)); intro w23 hw; have hg : wc.grownBy w23 (some go20) := (by rw [hw]; exact HP22.2); have hp_ : Kd.R (Kd.int .u64) 47 w23 w.heap.size (fun _ => True) (.slice (some ⟨go20, 0, none⟩) x5_1.length co21) y106 := (by rw [hw, Ny106.out]; exact HP22.1); clear HP22; replace HO_5 := Aside0.mk (hp_); replace HB := Aside0.mk ((by rw [hw]; exact below_set (HB.out) GB20.out : Below w.heap.size w w23)); clear hg hw hp_))
       go_roundg kj6
       case measure => have := HK1.out; have := HJ6.out; omega
       case rel => exact ⟨(y106), (wrap64 (x6_1 + 1)), rS, H', ⟨by have := HK1.out; have := HJ6.out; omega⟩, ⟨rup HO_5.out⟩, ⟨bup HB.out⟩⟩
      ·replace c13 := Bool.eq_false_iff.mpr c13
       subst c13
       have H1 : (flyballref01_Words.l0 kj6 l0 a1 x5_1 (wrap64 (x6_1 + 1))) = some r := by rw [if_neg (show ¬ (false = true) by decide)] at H; exact H
       clear H
       have H := H1
       clear H1
       have H' := Aside0.mk H
       clear H
       have p104 : 0 ≤ (x6_1 : Int) := of_decide_eq_true asm
       have q104 : x6_1 < (l0.length : Int) := of_decide_eq_true asm
       obtain ⟨ad104, e104, hx104_0⟩ := Kd.at_bool HR0.out x6_1 p104 q104
       (try rw [← Nbq12.out] at hx104_0)
       cases e104
       replace hx104_0 := (HB.out.cell (World.block_lt_of_cell? w _ hx104_0)).trans hx104_0
       replace p104 := eq_true p104
       replace q104 := eq_true q104
       go_wp2
       go_roundg kj6
       case measure => have := HK1.out; have := HJ6.out; omega
       case rel => exact ⟨(x5_1), (wrap64 (x6_1 + 1)), rS, H', ⟨by have := HK1.out; have := HJ6.out; omega⟩, ⟨rup HO_5.out⟩, ⟨bup HB.out⟩⟩
     ·replace c9 := Bool.eq_false_iff.mpr c9
      subst c9
      have H1 : (some x5_1) = some r := by rw [if_neg (show ¬ (false = true) by decide)] at H; exact H
      clear H
      have H := H1
      clear H1
      obtain rfl := Option.some.inj H
      go_wp2
      go_ret
      exact ⟨_, er, rup HO_5.out, bup HB.out⟩
mutual
def flyballref01_Of.l0 : Nat → List Int → List Bool → Int → Option (List Bool)
 | 0, _, _, _ => none
 | k + 1, x0, x3, x4 => if x4 < (x0.length : Int) then (flyballref01_Of.l1 k x0 x3 x4 0) else (some x3)
def flyballref01_Of.l1 : Nat → List Int → List Bool → Int → Int → Option (List Bool)
 | 0, _, _, _, _ => none
 | k + 1, x0, x3, x4, x5 => if x5 < 64 then (if 0 ≤ x4 then (if x4 < (x0.length : Int) then (if 0 ≤ (IntKind.u64.wrap (x5)) then (if x3.length < 140737488355328 then (flyballref01_Of.l1 k x0 (x3 ++ [((Go.bits .and .u64 (shr .u64 (rd x0 x4) (IntKind.u64.wrap (x5))) 1) == 1)]) x4 (wrap64 (x5 + 1))) else (none)) else (none)) else (none)) else (none)) else (flyballref01_Of.l0 k x0 x3 (wrap64 (x4 + 1)))
end
def flyballref01_Of.f (k : Nat) (l0 : List Int) : Option (List Bool) := flyballref01_Of.l0 k l0 ([] : List Bool) 0
set_option maxHeartbeats 8000000 in
set_option maxRecDepth 100000 in
theorem flyballref01_Of.calls (k : Nat) (A0 : Option Addr) (c0 : Nat) (l0 : List Int) (r : List Bool) (w : World) (hr0 : Kd.C (Kd.int .u64) w A0 l0.length l0) (hc0 : l0.length ≤ c0) (H : flyballref01_Of.f k l0 = some r) :
  Calls Try.prog 51 #[.slice A0 l0.length c0] w fun e w' => ∃ v0_ : Value, e = .returned (v0_) ∧ Kd.R Kd.bool 4 w' w.heap.size (fun _ => True) v0_ r ∧ Below w.heap.size w w' := by
 have HR0 := Aside0.mk hr0
 have HC0 := Aside0.mk hc0
 clear hr0 hc0
 have HB := Aside0.mk (Below.refl w.heap.size w)
 unfold flyballref01_Of.f at H
 have H' := Aside0.mk H
 clear H
 go_enter Try.func51, Try.ntmps51
 go_wp2
 go_loopg [3, 4] k (fun kq v3 v4 w' => ∃ (x3_1 : List Bool) (x4_1 : Int), v4 = .int .i64 x4_1 ∧ Aside0 (flyballref01_Of.l0 kq l0 x3_1 x4_1 = some r) ∧ Aside0 (kq ≤ k) ∧ Aside0 (Kd.R Kd.bool 4 w' w.heap.size (fun _ => True) v3 x3_1) ∧ Aside0 (Below w.heap.size w w'))
 case atStart => exact ⟨(([] : List Bool)), (0), rS, H', ⟨Nat.le_refl _⟩, ⟨nil5⟩, ⟨bup HB.out⟩⟩
 case round =>
  clear H'
  obtain ⟨x3_1, x4_1, rfl, HA, HK1, HO_3, HB⟩ := hrel
  cases gk with
  | zero => exact absurd HA.out (by simp [flyballref01_Of.l0])
  | succ k1 =>
   have H := HA.out
   clear HA
   simp only [flyballref01_Of.l0] at H
   by_cases c2 : x4_1 < (l0.length : Int)
   rotate_left
   ·rw [if_neg c2] at H
    have c2b0 : decide (x4_1 < (l0.length : Int)) = false := decide_eq_false c2
    clear c2
    obtain rfl := Option.some.inj H
    go_wp2
    go_ret
    exact ⟨_, er, rup HO_3.out, bup HB.out⟩
   rw [if_pos c2] at H
   have c2b0 : decide (x4_1 < (l0.length : Int)) = true := decide_eq_true c2
   clear c2
   have H' := Aside0.mk H
   clear H
   go_wp2
   go_loopg [3, 5] k1 (fun kq v3 v5 w' => ∃ (x3_2 : List Bool) (x5_2 : Int), v5 = .int .i64 x5_2 ∧ Aside0 (flyballref01_Of.l1 kq l0 x3_2 x4_1 x5_2 = some r) ∧ Aside0 (kq ≤ k1) ∧ Aside0 (Kd.R Kd.bool 4 w' w.heap.size (fun _ => True) v3 x3_2) ∧ Aside0 (Below w.heap.size w w'))
   case atStart => exact ⟨(x3_1), (0), rS, H', ⟨Nat.le_refl _⟩, ⟨rup HO_3.out⟩, ⟨bup HB.out⟩⟩
   case round =>
    clear H'
    try clear c2
    try clear c2b0
    try clear p2
    obtain ⟨x3_2, x5_2, rfl, HA, HK2, HO_3, HB⟩ := hrel
    cases gk with
    | zero => exact absurd HA.out (by simp [flyballref01_Of.l1])
    | succ k2 =>
     have H := HA.out
     clear HA
     simp only [flyballref01_Of.l1] at H
     by_cases c3 : x5_2 < 64
     rotate_left
     ·rw [if_neg c3] at H
      have c3b0 : decide (x5_2 < 64) = false := decide_eq_false c3
      clear c3
      have H' := Aside0.mk H
      clear H
      go_wp2
      go_roundg k2
      case measure => have := HK1.out; have := HK2.out; omega
      case rel => exact ⟨(x3_2), (wrap64 (x4_1 + 1)), rS, H', ⟨by have := HK1.out; have := HK2.out; omega⟩, ⟨rup HO_3.out⟩, ⟨bup HB.out⟩⟩
     rw [if_pos c3] at H
     have c3b0 : decide (x5_2 < 64) = true := decide_eq_true c3
     clear c3
     replace H := iS H
     obtain ⟨c4, H⟩ := H
     have c4b0 : decide (0 ≤ x4_1) = true := decide_eq_true c4
     clear c4
     replace H := iS H
     obtain ⟨c5, H⟩ := H
     have c5b0 : decide (x4_1 < (l0.length : Int)) = true := decide_eq_true c5
     clear c5
     obtain ⟨ji6, hji6⟩ : ∃ j_ : Int, (IntKind.u64.wrap (x5_2)) = j_ := ⟨_, rfl⟩
     replace H : (if 0 ≤ (ji6) then (if x3_2.length < 140737488355328 then (flyballref01_Of.l1 k2 l0 (x3_2 ++ [((Go.bits .and .u64 (shr .u64 (rd l0 x4_1) (ji6)) 1) == 1)]) x4_1 (wrap64 (x5_2 + 1))) else (none)) else (none)) = some r := by first | (rw [hji6] at H; exact H) | (simp only [hji6] at H ⊢; exact H)
     replace H := iS H
     obtain ⟨c7, H⟩ := H
     have c7b0 := eq_true c7
     have c7b1 : decide (0 ≤ (ji6)) = true := decide_eq_true c7
     clear c7
     obtain ⟨ji8, hji8⟩ : ∃ j_ : Int, (shr .u64 (rd l0 x4_1) (ji6)) = j_ := ⟨_, rfl⟩
     replace H : (if x3_2.length < 140737488355328 then (flyballref01_Of.l1 k2 l0 (x3_2 ++ [((Go.bits .and .u64 (ji8) 1) == 1)]) x4_1 (wrap64 (x5_2 + 1))) else (none)) = some r := by first | (rw [hji8] at H; exact H) | (simp only [hji8] at H ⊢; exact H)
     have hji8_ : ((rd l0 x4_1) / 2 ^ min (ji6).toNat 64) = ji8 := hji8
     have hji8z : (ji6) ≤ 64 → ((rd l0 x4_1) / 2 ^ (ji6).toNat) = ji8 := shr_small hji8
     replace H := iS H
     obtain ⟨c9, H⟩ := H
     have LMc9 := Aside0.mk c9
     clear c9
     obtain ⟨y102, hy102⟩ : ∃ y_ : List Bool, y_ = (x3_2 ++ [((Go.bits .and .u64 (ji8) 1) == 1)]) := ⟨_, rfl⟩
     replace H : (flyballref01_Of.l1 k2 l0 y102 x4_1 (wrap64 (x5_2 + 1))) = some r := by first | (rw [hy102]; with_reducible exact H) | (have H2_ := (Option.bind_some _ _).symm.trans H; rw [hy102]; with_reducible exact H2_) | (have H2_ := (Option.bind_some _ _).symm.trans H; with_reducible exact H2_) | with_reducible exact H | (rw [hy102]; exact H) | exact H
     have Ny102 := Aside0.mk hy102
     clear hy102
     have H' := Aside0.mk H
     clear H
     have p101 : 0 ≤ (x4_1 : Int) := of_decide_eq_true asm
     have q101 : x4_1 < (l0.length : Int) := of_decide_eq_true asm
     obtain ⟨ad101, e101, hx101_0⟩ := Kd.at_int HR0.out x4_1 p101 q101
     cases e101
     replace hx101_0 := (HB.out.cell (World.block_lt_of_cell? w _ hx101_0)).trans hx101_0
     replace p101 := eq_true p101
     replace q101 := eq_true q101
     go_wp2_with (first | ((with_reducible refine gate_builtin (b := .append) (xs := #[.tmp 16, .tmp 26]) rfl ?_); at_builtin; refine Kd.R_append Kd.bool (w0 := w) w.heap.size rfl (.tmp 16) (.tmp 26) 26 4 (.bool false) 1 rfl Try.underlying26 info4 rfl (by decide) (by omega) u3 x3_2 ((Go.bits .and .u64 (ji8) 1) == 1) [.bool ((Go.bits .and .u64 (ji8) 1) == 1)] (fun _ => True) (fun _ => False) rfl rfl ?aP (fun _ hk => hk.elim) ?aF ?aO ?aB ?aS ?aL ?_; (case aP => exact rfl); (case aB => exact (bup HB.out)); (case aF => exact (fun _ _ => trivial)); (case aO => exact (rup HO_3.out)); (case aS => exact (below_size (bup HB.out))); (case aL => have := LMc9.out; omega); intro v103 w10 ho hb hg hat; rw [← Ny102.out] at ho; replace HB := Aside0.mk (hb); have HO104 := Aside0.mk (ho); clear HO_3; clear ho hb hg hat))
     go_roundg k2
     case measure => have := HK1.out; have := HK2.out; omega
     case rel => exact ⟨(y102), (wrap64 (x5_2 + 1)), rS, H', ⟨by have := HK1.out; have := HK2.out; omega⟩, ⟨rup HO104.out⟩, ⟨bup HB.out⟩⟩
def flyballref02_Text.l0 : Nat → List Bool → List Bool → ByteArray → Option (ByteArray)
 | 0, _, _, _ => none
 | k + 1, x0, x3, x4 => (flyballref01_Len.f k x0).bind fun t107 => (if t107 > 0 then ((flyballref01_Div.f k x0 x3).bind fun bt108 => ((flyballref01_Words.f k bt108.2 1).bind fun t114 => (if 0 < (t114.length : Int) then ((some (([(IntKind.u64.wrap (48 + (rd t114 0))) % 256] : List Int) : List Int)).bind fun y118 => (if (strOfNums y118).size + x4.size ≤ 9223372036854775807 then ((flyballref01_Len.f k bt108.1).bind fun t121 => (if 0 ≤ t121 then (if t121 ≤ (bt108.1.length : Int) then (flyballref02_Text.l0 k (bt108.1.take (t121 : Int).toNat) x3 ((strOfNums y118) ++ x4)) else (none)) else (none))) else (none))) else (none)))) else (if x4.toList = ([] : List UInt8) then (some (⟨#[48]⟩ : ByteArray)) else (some x4)))
def flyballref02_Text.f (k : Nat) (l0 : List Bool) : Option (ByteArray) := (flyballref01_Of.f k (([10] : List Int))).bind fun t104 => (flyballref02_Text.l0 k l0 t104 (⟨#[]⟩ : ByteArray))
set_option maxHeartbeats 8000000 in
set_option maxRecDepth 100000 in
theorem flyballref02_Text.calls (k : Nat) (P0_ : Nat → Prop) (A0 : Option Addr) (c0 : Nat) (l0 : List Bool) (r : ByteArray) (w : World) (hs0 : Kd.V Kd.bool 4 w w.heap.size (fun k_ => P0_ k_) (.slice A0 l0.length c0) l0) (H : flyballref02_Text.f k l0 = some r) :
  Calls Try.prog 48 #[.slice A0 l0.length c0] w fun e w' => e = .returned (.string r) ∧ Below w.heap.size w w' := by
 have HO0 := Aside0.mk (show Kd.V Kd.bool 4 w w.heap.size (fun k_ => (P0_ k_ ∨ w.heap.size ≤ k_)) (.slice A0 l0.length c0) l0 from Kd.V_mono hs0 (fun k_ hk => .inl hk))
 have HB := Aside0.mk (Below.refl w.heap.size w)
 unfold flyballref02_Text.f at H
 obtain ⟨y101, hy101⟩ : ∃ y_ : List Int, y_ = (([10] : List Int)) := ⟨_, rfl⟩
 replace H : ((flyballref01_Of.f k y101).bind fun t104 => (flyballref02_Text.l0 k l0 t104 (⟨#[]⟩ : ByteArray))) = some r := by first | (rw [hy101]; with_reducible exact H) | (have H2_ := (Option.bind_some _ _).symm.trans H; rw [hy101]; with_reducible exact H2_) | (have H2_ := (Option.bind_some _ _).symm.trans H; with_reducible exact H2_) | with_reducible exact H | (rw [hy101]; exact H) | exact H
 have Ny101 := Aside0.mk hy101
 clear hy101
 replace H := bi H
 obtain ⟨t104, A2, H⟩ := H
 have H' := Aside0.mk H
 clear H
 go_enter Try.func48, Try.ntmps48
 go_wp2_with (first | ((with_reducible refine gd 8 rfl ?_); refine Kd.R_lit (Kd.int .u64) _ 47 ?hg (N := 8) ?hd (xs := ([10] : List Int)) (inner := [.int .u64 10]) (ok := fun _ => True) (okp := fun _ => True) ?hr ?hp (fun _ hk => hk) trivial (Below.refl _ _) (Nat.le_refl _) (by simp) ?_; (case hd => rfl); (case hg => rfl); (case hr => first | (go_simp; done) | (go_simp; rfl)); (case hp => exact (Reps.one (show Kd.M (Kd.int .u64) _ _ _ 10 [.int .u64 10] from rfl) (Reps.none _ _))); intro v102 w3 ho4 hb hg_ hnew_; clear hg_ hnew_; (first | rw [← Ny101.out] at ho4 | (simp only [Int.reduceToNat] at ho4; rw [← Ny101.out] at ho4)); replace HO0 := Aside0.mk (Kd.V_elder' (vup HO0.out) (Kd.R_base ho4) hb); have HO103 := Aside0.mk (Kd.R_lower (Kd.R_newM (M := fun k_ => (w.heap.size ≤ k_)) ho4 (below_size (bup HB.out)) (fun k_ h_ => h_)) (below_size (bup HB.out))); replace HB := bA HB hb; clear hb ho4; obtain ⟨Ao5, co5, eo5⟩ := Kd.R_slice HO103.out; subst eo5) | ((with_reducible refine gc 51 rfl ?_); refine gL 9 Try.func51 #[.slice Ao5 y101.length co5] ?_; (with_reducible refine (flyballref01_Of.calls k _ _ y101 t104 _ ?_ ?_ A2.out).mono ?_); exact cup ((Kd.R_reads' HO103.out).2.2); exact (Kd.R_reads' HO103.out).2.1; rintro e w6 ⟨v105, rfl, ho0, hb⟩; refine ⟨_, rfl, ?_⟩; replace HO0 := Aside0.mk (Kd.V_elder' (vup HO0.out) (Kd.R_base ho0) hb); replace HO103 := rA HO103 hb; have HO106 := Aside0.mk (Kd.R_lower (Kd.R_newM (M := fun k_ => (w.heap.size ≤ k_)) ho0 (below_size (bup HB.out)) (fun k_ h_ => h_)) (below_size (bup HB.out))); replace HB := bA HB hb; clear hb ho0))
 go_loopg [0, 4] k (fun kq v0 v4 w' => ∃ (x0_1 : List Bool) (x4_1 : ByteArray), v4 = .string x4_1 ∧ Aside0 (flyballref02_Text.l0 kq x0_1 t104 x4_1 = some r) ∧ Aside0 (kq ≤ k) ∧ Aside0 (Kd.V Kd.bool 4 w' w.heap.size (fun k_ => (P0_ k_ ∨ w.heap.size ≤ k_) ∧ some k_ ≠ (v105 : Value).ownBlock) v0 x0_1) ∧ Aside0 (Kd.R Kd.bool 4 w' w.heap.size (fun k_ => (w.heap.size ≤ k_)) v105 t104) ∧ Aside0 (Below w.heap.size w w'))
 case atStart => exact ⟨(l0), ((⟨#[]⟩ : ByteArray)), rS, H', ⟨Nat.le_refl _⟩, ⟨by (with_reducible repeat (first | apply Kd.V_alloc | apply Kd.V_drewN | apply Kd.V_drew)); exact Kd.V_mono HO0.out (fun _ hk => ⟨hk.1.1, hk.2⟩)⟩, ⟨by (with_reducible repeat (first | apply Kd.R_alloc | apply Kd.R_drewN | apply Kd.R_drew)); exact Kd.R_mono HO106.out (fun _ hk => hk.1)⟩, ⟨bup HB.out⟩⟩
 case round =>
  clear H'
  try clear p2
  try clear c4
  try clear c5
  obtain ⟨x0_1, x4_1, rfl, HA, HK1, HO_0, HO_3, HB⟩ := hrel
  cases gk with
  | zero => exact absurd HA.out (by simp [flyballref02_Text.l0])
  | succ k1 =>
   have H := HA.out
   clear HA
   simp only [flyballref02_Text.l0] at H
   replace H := bi H
   obtain ⟨t107, A7, H⟩ := H
   by_cases c8 : t107 > 0
   rotate_left
   ·rw [if_neg c8] at H
    have c8b0 : decide (0 < t107) = false := decide_eq_false c8
    clear c8
    by_cases c27 : x4_1.toList = ([] : List UInt8)
    rotate_left
    ·rw [if_neg c27] at H
     obtain ⟨c27b0, c27b1⟩ := bqF c27
     obtain rfl := Option.some.inj H
     obtain ⟨Ao29, co29, eo29⟩ := Kd.V_slice HO_0.out
     subst eo29
     go_wp2_with (first | ((with_reducible refine gc 53 rfl ?_); refine gL 11 Try.func53 #[.slice Ao29 x0_1.length co29] ?_; (with_reducible refine (flyballref01_Len.calls k1 _ _ x0_1 t107 _ ?_ ?_ A7.out).mono ?_); exact cup ((Kd.V_reads' HO_0.out).2.2); exact (Kd.V_reads' HO_0.out).2.1; rintro e w' ⟨rfl, ⟨nd, rfl⟩⟩; refine ⟨_, rfl, ?_⟩))
     go_ret
     exact ⟨er, bup HB.out⟩
    rw [if_pos c27] at H
    obtain ⟨c27b0, c27b1⟩ := bqT c27
    clear c27
    obtain rfl := Option.some.inj H
    obtain ⟨Ao28, co28, eo28⟩ := Kd.V_slice HO_0.out
    subst eo28
    go_wp2_with (first | ((with_reducible refine gc 53 rfl ?_); refine gL 11 Try.func53 #[.slice Ao28 x0_1.length co28] ?_; (with_reducible refine (flyballref01_Len.calls k1 _ _ x0_1 t107 _ ?_ ?_ A7.out).mono ?_); exact cup ((Kd.V_reads' HO_0.out).2.2); exact (Kd.V_reads' HO_0.out).2.1; rintro e w' ⟨rfl, ⟨nd, rfl⟩⟩; refine ⟨_, rfl, ?_⟩))
    go_ret
    exact ⟨er, bup HB.out⟩
   rw [if_pos c8] at H
   have c8b0 : decide (0 < t107) = true := decide_eq_true c8
   clear c8
   replace H := bi H
   obtain ⟨⟨t108, t109⟩, A9, H⟩ := H
   try dsimp only at H
   replace H := bi H
   obtain ⟨t114, A10, H⟩ := H
   replace H := iS H
   obtain ⟨c11, H⟩ := H
   have c11b0 : decide (0 < (t114.length : Int)) = true := decide_eq_true c11
   have c11b1 : decide (0 < t114.length) = true := decide_eq_true (by omega)
   clear c11
   obtain ⟨y118, hy118⟩ : ∃ y_ : List Int, y_ = (([(IntKind.u64.wrap (48 + (rd t114 0))) % 256] : List Int)) := ⟨_, rfl⟩
   replace H : (if (strOfNums y118).size + x4_1.size ≤ 9223372036854775807 then ((flyballref01_Len.f k1 t108).bind fun t121 => (if 0 ≤ t121 then (if t121 ≤ (t108.length : Int) then (flyballref02_Text.l0 k1 (t108.take (t121 : Int).toNat) t104 ((strOfNums y118) ++ x4_1)) else (none)) else (none))) else (none)) = some r := by first | (rw [hy118]; with_reducible exact H) | (have H2_ := (Option.bind_some _ _).symm.trans H; rw [hy118]; with_reducible exact H2_) | (have H2_ := (Option.bind_some _ _).symm.trans H; with_reducible exact H2_) | with_reducible exact H | (rw [hy118]; exact H) | exact H
   have Ny118 := Aside0.mk hy118
   clear hy118
   replace H := iS H
   obtain ⟨c12, H⟩ := H
   have c12b0 := eq_true c12
   have c12b1 : decide ((strOfNums y118).size + x4_1.size ≤ 9223372036854775807) = true := decide_eq_true c12
   try have c12b2 : (9223372036854775807 < (strOfNums y118).size + x4_1.size) = False := eq_false (Nat.not_lt.2 c12)
   replace H := bi H
   obtain ⟨t121, A13, H⟩ := H
   replace H := iS H
   obtain ⟨c14, H⟩ := H
   have c14b0 := eq_true c14
   have c14b1 : decide (0 ≤ t121) = true := decide_eq_true c14
   clear c14
   replace H := iS H
   obtain ⟨c15, H⟩ := H
   have c15b0 := eq_true c15
   have c15b1 : decide (t121 ≤ (t108.length : Int)) = true := decide_eq_true c15
   clear c15
   obtain ⟨y122, hy122⟩ : ∃ y_ : List Bool, y_ = (t108.take (t121 : Int).toNat) := ⟨_, rfl⟩
   replace H : (flyballref02_Text.l0 k1 y122 t104 ((strOfNums y118) ++ x4_1)) = some r := by first | (rw [hy122]; with_reducible exact H) | (have H2_ := (Option.bind_some _ _).symm.trans H; rw [hy122]; with_reducible exact H2_) | (have H2_ := (Option.bind_some _ _).symm.trans H; with_reducible exact H2_) | with_reducible exact H | (rw [hy122]; exact H) | exact H
   have Ny122 := Aside0.mk hy122
   clear hy122
   have H' := Aside0.mk H
   clear H
   obtain ⟨Ao16, co16, eo16⟩ := Kd.V_slice HO_0.out
   subst eo16
   go_wp2_with (first | ((with_reducible refine gc 53 rfl ?_); refine gL 11 Try.func53 #[.slice Ao16 x0_1.length co16] ?_; (with_reducible refine (flyballref01_Len.calls k1 _ _ x0_1 t107 _ ?_ ?_ A7.out).mono ?_); exact cup ((Kd.V_reads' HO_0.out).2.2); exact (Kd.V_reads' HO_0.out).2.1; rintro e w' ⟨rfl, ⟨nd, rfl⟩⟩; refine ⟨_, rfl, ?_⟩; obtain ⟨Ao17, co17, eo17⟩ := Kd.R_slice HO_3.out; subst eo17) | ((with_reducible refine gc 38 rfl ?_); refine gL 16 Try.func38 #[.slice Ao16 x0_1.length co16, .slice Ao17 t104.length co17] ?_; (with_reducible refine (flyballref01_Div.calls k1 _ _ x0_1 _ _ t104 t108 t109 _ ?_ ?_ ?_ ?_ A9.out).mono ?_); exact cup ((Kd.V_reads' HO_0.out).2.2); exact (Kd.V_reads' HO_0.out).2.1; exact cup ((Kd.R_reads' HO_3.out).2.2); exact (Kd.R_reads' HO_3.out).2.1; rintro e w18 ⟨v110, v112, rfl, ho0, ho1, hb⟩; refine ⟨_, rfl, ?_⟩; replace HO_0 := v2 HO_0 hb ho0 ho1; have HO111 := Aside0.mk (Kd.R_lower (Kd.R_new' (Kd.R_newM (M := fun k_ => (w.heap.size ≤ k_)) ho0 (below_size (bup HB.out)) (fun k_ h_ => h_)) (Kd.R_lt (rup HO_3.out))) (below_size (bup HB.out))); have HO113 := Aside0.mk (Kd.R_lower (Kd.R_new' (Kd.R_newM (M := fun k_ => (w.heap.size ≤ k_)) ho1 (below_size (bup HB.out)) (fun k_ h_ => h_)) (Kd.R_lt (rup HO_3.out))) (below_size (bup HB.out))); replace HO_3 := r2 HO_3 hb ho0 ho1; replace HB := bA HB hb; clear hb ho0 ho1; obtain ⟨Ao19, co19, eo19⟩ := Kd.R_slice HO113.out; subst eo19) | ((with_reducible refine gc 40 rfl ?_); refine gL 20 Try.func40 #[.slice Ao19 t109.length co19, .int .i64 1] ?_; (with_reducible refine (flyballref01_Words.calls k1 _ _ t109 1 t114 _ ?_ ?_ A10.out).mono ?_); exact cup ((Kd.R_reads' HO113.out).2.2); exact (Kd.R_reads' HO113.out).2.1; rintro e w20 ⟨v115, rfl, ho0, hb⟩; refine ⟨_, rfl, ?_⟩; replace HO_0 := Aside0.mk (Kd.V_elder' (vup HO_0.out) (Kd.R_base ho0) hb); replace HO_3 := rA HO_3 hb; replace HO111 := rA HO111 hb; replace HO113 := rA HO113 hb; have HO116 := Aside0.mk (Kd.R_lower (Kd.R_newM (M := fun k_ => (w.heap.size ≤ k_)) ho0 (below_size (bup HB.out)) (fun k_ h_ => h_)) (below_size (bup HB.out))); replace HB := bA HB hb; clear hb ho0; obtain ⟨Ao21, co21, eo21⟩ := Kd.R_slice HO116.out; subst eo21; have p117 : 0 ≤ (0 : Int) := (by omega); have q117 : 0 < (t114.length : Int) := of_decide_eq_true asm; obtain ⟨ad117, e117, hx117_0⟩ := Kd.at_int (Kd.R_reads' HO116.out).2.2 0 p117 q117; cases e117; have qi117 : (0 < t114.length) = True := eq_true (by omega); (try rw [show ((0 : Int)).toNat = 0 from rfl] at hx117_0); (try rw [Addr.add_zero'] at hx117_0); replace p117 := eq_true p117; replace q117 := eq_true q117) | ((with_reducible refine gd 26 rfl ?_); refine Kd.R_lit (Kd.int .u8) _ 5 ?hg (N := 26) ?hd (xs := ([(IntKind.u64.wrap (48 + (rd t114 0))) % 256] : List Int)) (inner := [.int .u8 ((IntKind.u64.wrap (48 + (rd t114 0))) % 256)]) (ok := fun _ => True) (okp := fun _ => True) ?hr ?hp (fun _ hk => hk) trivial (Below.refl _ _) (Nat.le_refl _) (by simp) ?_; (case hd => rfl); (case hg => rfl); (case hr => first | (go_simp; done) | (go_simp; rfl)); (case hp => exact (Reps.one (show Kd.M (Kd.int .u8) _ _ _ ((IntKind.u64.wrap (48 + (rd t114 0))) % 256) [.int .u8 ((IntKind.u64.wrap (48 + (rd t114 0))) % 256)] from rfl) (Reps.none _ _))); intro v119 w22 ho23 hb hg_ hnew_; clear hg_ hnew_; (first | rw [← Ny118.out] at ho23 | (simp only [Int.reduceToNat] at ho23; rw [← Ny118.out] at ho23)); replace HO_0 := Aside0.mk (Kd.V_elder' (vup HO_0.out) (Kd.R_base ho23) hb); replace HO_3 := rA HO_3 hb; replace HO111 := rA HO111 hb; replace HO113 := rA HO113 hb; replace HO116 := rA HO116 hb; have HO120 := Aside0.mk (Kd.R_lower (Kd.R_newM (M := fun k_ => (w.heap.size ≤ k_)) ho23 (below_size (bup HB.out)) (fun k_ h_ => h_)) (below_size (bup HB.out))); replace HB := bA HB hb; clear hb ho23; have hcv24 := own_string (P := Try.prog) Try.underlying130 Try.underlying5 Try.underlying9 (Kd.own_of_R HO120.out); obtain ⟨Ao25, co25, eo25⟩ := Kd.R_slice HO111.out; subst eo25) | ((with_reducible refine gc 53 rfl ?_); refine gL 32 Try.func53 #[.slice Ao25 t108.length co25] ?_; (with_reducible refine (flyballref01_Len.calls k1 _ _ t108 t121 _ ?_ ?_ A13.out).mono ?_); exact cup ((Kd.R_reads' HO111.out).2.2); exact (Kd.R_reads' HO111.out).2.1; rintro e w' ⟨rfl, ⟨nd, rfl⟩⟩; refine ⟨_, rfl, ?_⟩; have q26 : (t121 : Int) ≤ ((t108.length : Int) : Int) := of_decide_eq_true asm; obtain ⟨i026, hi026, _, hsz26, _⟩ := info_parts info4; have hcut26 := cut_to (P := Try.prog) 26 4 .i64 Try.underlying26 hi026 Ao25 t108.length co25 t121 (of_decide_eq_true asm) q26 (Kd.R_reads' HO111.out).2.1; have hr26 := Kd.R_take (m := (t121 : Int).toNat) HO111.out (by omega); have hy26 : y122.length = (t121 : Int).toNat := (by rw [Ny122.out, List.length_take]; omega); rw [← Ny122.out] at hr26; rw [← hy26] at hr26 hcut26; clear hy26 hi026 hsz26 HO111; have HO124 := Aside0.mk hr26; clear hr26; replace q26 := eq_true q26))
   go_roundg k1
   case measure => have := HK1.out; omega
   case rel => exact ⟨(y122), ((strOfNums y118) ++ x4_1), rS, H', ⟨hk1⟩, ⟨Kd.V_mono (Kd.R_V (rup HO124.out)) (fun k_ hk => by first | exact ⟨.inr hk.1.1, hk.2⟩ | exact ⟨.inr hk.1.1.1, hk.2⟩ | exact ⟨.inr hk.1, hk.2⟩ | exact .inr hk.1.1 | exact .inr hk.1.1.1)⟩, ⟨by (with_reducible repeat (first | apply Kd.R_alloc | apply Kd.R_drewN | apply Kd.R_drew)); exact Kd.R_mono HO_3.out (fun _ hk => hk.1.1)⟩, ⟨bup HB.out⟩⟩
def flyballref03_Text.j0 : Nat → ByteArray → Bool → List Bool → List Bool → Option (ByteArray)
 | 0, _, _, _, _ => none
 | k + 1, x3, x102000, x102001, x102002 => (flyballref03_one.f).bind fun t103 => ((flyballref01_Cmp.f k x102002 t103).bind fun t106 => (if t106 = 0 then (some x3) else (if x3.size + 1 ≤ 9223372036854775807 then ((flyballref02_Text.f k x102002).bind fun t107 => (if (x3 ++ (⟨#[47]⟩ : ByteArray)).size + t107.size ≤ 9223372036854775807 then (some ((x3 ++ (⟨#[47]⟩ : ByteArray)) ++ t107)) else (none))) else (none))))
def flyballref03_Text.f (k : Nat) (a0_0 : Bool) (l0_1 : List Bool) (l0_2 : List Bool) : Option (ByteArray) := (flyballref02_Text.f k l0_1).bind fun t102 => (if a0_0 = true then (if 1 + t102.size ≤ 9223372036854775807 then (flyballref03_Text.j0 k ((⟨#[45]⟩ : ByteArray) ++ t102) a0_0 l0_1 l0_2) else (none)) else (flyballref03_Text.j0 k t102 a0_0 l0_1 l0_2))
set_option maxHeartbeats 8000000 in
set_option maxRecDepth 100000 in
theorem flyballref03_Text.calls (k : Nat) (a0_0 : Bool) (A0_1 : Option Addr) (c0_1 : Nat) (l0_1 : List Bool) (A0_2 : Option Addr) (c0_2 : Nat) (l0_2 : List Bool) (r : ByteArray) (w : World) (hr0_1 : Kd.C Kd.bool w A0_1 l0_1.length l0_1) (hc0_1 : l0_1.length ≤ c0_1) (hr0_2 : Kd.C Kd.bool w A0_2 l0_2.length l0_2) (hc0_2 : l0_2.length ≤ c0_2) (H : flyballref03_Text.f k a0_0 l0_1 l0_2 = some r) :
  Calls Try.prog 101 #[.agg #[.bool a0_0, .slice A0_1 l0_1.length c0_1, .slice A0_2 l0_2.length c0_2]] w fun e w' => e = .returned (.string r) ∧ Below w.heap.size w w' := by
 have hu92 := Try.underlying92
 have HR0_1 := Aside0.mk hr0_1
 have HC0_1 := Aside0.mk hc0_1
 clear hr0_1 hc0_1
 have HR0_2 := Aside0.mk hr0_2
 have HC0_2 := Aside0.mk hc0_2
 clear hr0_2 hc0_2
 have HB := Aside0.mk (Below.refl w.heap.size w)
 unfold flyballref03_Text.f at H
 replace H := bi H
 obtain ⟨t102, A2, H⟩ := H
 have HC3 := Aside0.mk H
 clear H
 go_enter Try.func101, Try.ntmps101
 go_upto_if 8 with (first | ((with_reducible refine gd 1 rfl ?_); refine box_event ?hg (N := 1) ?hd (cs := #[.bool a0_0, .slice A0_1 l0_1.length c0_1, .slice A0_2 l0_2.length c0_2]) (t := 92) ?hr ?_; (case hd => rfl); (case hg => rfl); (case hr => first | (go_simp; done) | (go_simp; rfl)); intro gb101 hg w4 hbox hb; have BK101 := Aside0.mk hbox; have GW101 := gB hg HB; have GE101 := gB hg HB; replace HB := bA HB hb; clear hb hbox hg; obtain ⟨⟨hcz5_0, hcz5_1, hcz5_2⟩, hfz5_0, hfz5_1, hfz5_2⟩ := cE BK101) | ((with_reducible refine gc 48 rfl ?_); refine gL 6 Try.func48 #[.slice A0_1 l0_1.length c0_1] ?_; (with_reducible refine (flyballref02_Text.calls k (fun k_ => k_ < w.heap.size) _ _ l0_1 t102 _ ?_ A2.out).mono ?_); exact Kd.V_mk HC0_1.out (Kd.F_below (Kd.C_F Kd.heap_bool HR0_1.out) hB); rintro e w6 ⟨rfl, hb⟩; refine ⟨_, rfl, ?_⟩; replace BK101 := kA BK101 hb; replace HB := bS HB hb; clear hb; obtain ⟨⟨hcz7_0, hcz7_1, hcz7_2⟩, hfz7_0, hfz7_1, hfz7_2⟩ := cE BK101))
 (try simp only [Act.put, List.setIfInBounds_toArray, List.set_cons_zero, List.set_cons_succ])
 go_cut [3] (fun v3 wc => ∃ (kq : Nat) (x3_2 : ByteArray), v3 = .string x3_2 ∧ Aside0 (flyballref03_Text.j0 kq x3_2 a0_0 l0_1 l0_2 = some r) ∧ Aside0 (kq ≤ k) ∧ Aside0 (wc.heap[gb101]? = some (.cells #[.bool a0_0, (.slice A0_1 l0_1.length c0_1), (.slice A0_2 l0_2.length c0_2)] 92 (0, 0))) ∧ Aside0 (Below w.heap.size w wc))
 case first =>
  have H := HC3.out
  clear HC3
  by_cases c8 : a0_0 = true
  ·subst c8
   replace H := ifT H
   replace H := iS H
   obtain ⟨c9, H⟩ := H
   have c9b0 := eq_true c9
   have c9b1 : decide (1 + t102.size ≤ 9223372036854775807) = true := decide_eq_true c9
   try have c9b2 : (9223372036854775807 < 1 + t102.size) = False := eq_false (Nat.not_lt.2 c9)
   have H' := Aside0.mk H
   clear H
   go_wp2
   go_meet
   case rel => exact ⟨_, ((⟨#[45]⟩ : ByteArray) ++ t102), rS, H', ⟨by first | omega | exact Nat.le_refl _⟩, ⟨by exact kU BK101⟩, ⟨hB⟩⟩
  ·replace c8 := Bool.eq_false_iff.mpr c8
   subst c8
   have H1 : (flyballref03_Text.j0 k t102 false l0_1 l0_2) = some r := by rw [if_neg (show ¬ (false = true) by decide)] at H; exact H
   clear H
   have H := H1
   clear H1
   have H' := Aside0.mk H
   clear H
   go_wp2
   go_meet
   case rel => exact ⟨_, (t102), rS, H', ⟨by first | omega | exact Nat.le_refl _⟩, ⟨by exact kU BK101⟩, ⟨hB⟩⟩
 case rest =>
  clear HC3
  try clear c1
  try clear p2
  try clear c4
  try clear c8
  try clear c9
  try clear c9b0
  try clear c9b1
  try clear c9b2
  try clear hcz5_0
  try clear hcz5_1
  try clear hcz5_2
  try clear hcz7_0
  try clear hcz7_1
  try clear hcz7_2
  try clear hfz5_0
  try clear hfz5_1
  try clear hfz5_2
  try clear hfz7_0
  try clear hfz7_1
  try clear hfz7_2
  obtain ⟨kq, x3_2, rfl, HA, HJ2, BK101, HB⟩ := hcut
  cases kq with
  | zero => exact absurd HA.out (by simp [flyballref03_Text.j0])
  | succ kj2 =>
   have H := HA.out
   clear HA
   simp only [flyballref03_Text.j0] at H
   replace H := bi H
   obtain ⟨t103, A10, H⟩ := H
   replace H := bi H
   obtain ⟨t106, A11, H⟩ := H
   by_cases c12 : t106 = 0
   ·rw [if_pos c12] at H
    obtain ⟨c12b0, c12b1⟩ := bqT c12
    clear c12
    obtain rfl := Option.some.inj H
    try go_wp2
    replace BK101 := kd BK101
    replace HB := bd HB
    refine st (S := fun w' => B3 w' gb101 (.bool a0_0) (.slice A0_1 l0_1.length c0_1) (.slice A0_2 l0_2.length c0_2)) 5 [] (tf 0 5) (b3 BK101) (fun hHeld => ?_)
    generalize wc.drew = w13 at BK101 HB hHeld ⊢
    refine pu 0 11 (tf 1 4) ?_
    refine tk 1 12 (tf 2 3) hHeld ?_
    refine on 2 (some 13) (tf 3 2) (fun K hK => ?_)
    refine gS Try.func128 #[] ?_
    with_reducible refine (flyballref03_one.calls  t103 _ A10.out).mono ?_
    rintro e w14 ⟨v104, rfl, ho0, hb⟩
    refine ⟨_, rfl, ?_⟩
    have HO105 := Aside0.mk (Kd.R_lower ho0 (below_size hB))
    replace BK101 := kA BK101 hb
    replace HB := bS HB hb
    clear hb ho0
    obtain ⟨Ao15, co15, eo15⟩ := Kd.R_slice HO105.out
    (first | subst eo15 | (injection eo15 with f1_ f2_ f3_; have f4_ := f1_.symm; have f5_ := f3_.symm; clear f1_ f2_ f3_; subst f4_; subst f5_))
    refine hK.out _ _ (b3 BK101) (fun hHeld => nm ?_)
    clear hK K
    refine on 3 (some 14) (tf 4 1) (fun K hK => ?_)
    refine gS Try.func26 #[.slice A0_2 l0_2.length c0_2, .slice Ao15 t103.length co15] ?_
    with_reducible refine (flyballref01_Cmp.calls kj2 _ _ l0_2 _ _ t103 t106 _ ?_ ?_ ?_ ?_ A11.out).mono ?_
    exact Kd.C_below HR0_2.out (bup HB.out)
    exact HC0_2.out
    exact cup ((Kd.R_reads' HO105.out).2.2)
    exact (Kd.R_reads' HO105.out).2.1
    rintro e w16 ⟨rfl, hb⟩
    refine ⟨_, rfl, ?_⟩
    replace HO105 := rA HO105 hb
    replace BK101 := kA BK101 hb
    replace HB := bS HB hb
    clear hb
    refine hK.out _ _ (b3 BK101) (fun hHeld => nm ?_)
    clear hK K
    refine pu 4 15 (tf 5 0) ?_
    refine done_ (by kernel_rfl) ?_
    try go_wp2
    go_ret
    exact ⟨er, hB⟩
   rw [if_neg c12] at H
   obtain ⟨c12b0, c12b1⟩ := bqF c12
   replace H := iS H
   obtain ⟨c17, H⟩ := H
   have c17b0 := eq_true c17
   have c17b1 : decide (x3_2.size + 1 ≤ 9223372036854775807) = true := decide_eq_true c17
   try have c17b2 : (9223372036854775807 < x3_2.size + 1) = False := eq_false (Nat.not_lt.2 c17)
   replace H := bi H
   obtain ⟨t107, A18, H⟩ := H
   replace H := iS H
   obtain ⟨c19, H⟩ := H
   have c19b0 := eq_true c19
   have c19b1 : decide ((x3_2 ++ (⟨#[47]⟩ : ByteArray)).size + t107.size ≤ 9223372036854775807) = true := decide_eq_true c19
   try have c19b2 : (9223372036854775807 < (x3_2 ++ (⟨#[47]⟩ : ByteArray)).size + t107.size) = False := eq_false (Nat.not_lt.2 c19)
   have c19b9 : (9223372036854775807 < x3_2.size + 1 + t107.size) = False := by have h_ := c19b2; rw [ByteArray.size_append] at h_; exact h_
   obtain rfl := Option.some.inj H
   try go_wp2
   replace BK101 := kd BK101
   replace HB := bd HB
   refine st (S := fun w' => B3 w' gb101 (.bool a0_0) (.slice A0_1 l0_1.length c0_1) (.slice A0_2 l0_2.length c0_2)) 5 [] (tf 0 5) (b3 BK101) (fun hHeld => ?_)
   generalize wc.drew = w20 at BK101 HB hHeld ⊢
   refine pu 0 11 (tf 1 4) ?_
   refine tk 1 12 (tf 2 3) hHeld ?_
   refine on 2 (some 13) (tf 3 2) (fun K hK => ?_)
   refine gS Try.func128 #[] ?_
   with_reducible refine (flyballref03_one.calls  t103 _ A10.out).mono ?_
   rintro e w21 ⟨v104, rfl, ho0, hb⟩
   refine ⟨_, rfl, ?_⟩
   have HO105 := Aside0.mk (Kd.R_lower ho0 (below_size hB))
   replace BK101 := kA BK101 hb
   replace HB := bS HB hb
   clear hb ho0
   obtain ⟨Ao22, co22, eo22⟩ := Kd.R_slice HO105.out
   (first | subst eo22 | (injection eo22 with f1_ f2_ f3_; have f4_ := f1_.symm; have f5_ := f3_.symm; clear f1_ f2_ f3_; subst f4_; subst f5_))
   refine hK.out _ _ (b3 BK101) (fun hHeld => nm ?_)
   clear hK K
   refine on 3 (some 14) (tf 4 1) (fun K hK => ?_)
   refine gS Try.func26 #[.slice A0_2 l0_2.length c0_2, .slice Ao22 t103.length co22] ?_
   with_reducible refine (flyballref01_Cmp.calls kj2 _ _ l0_2 _ _ t103 t106 _ ?_ ?_ ?_ ?_ A11.out).mono ?_
   exact Kd.C_below HR0_2.out (bup HB.out)
   exact HC0_2.out
   exact cup ((Kd.R_reads' HO105.out).2.2)
   exact (Kd.R_reads' HO105.out).2.1
   rintro e w23 ⟨rfl, hb⟩
   refine ⟨_, rfl, ?_⟩
   replace HO105 := rA HO105 hb
   replace BK101 := kA BK101 hb
   replace HB := bS HB hb
   clear hb
   refine hK.out _ _ (b3 BK101) (fun hHeld => nm ?_)
   clear hK K
   refine pu 4 15 (tf 5 0) ?_
   refine done_ (by kernel_rfl) ?_
   obtain ⟨⟨hcz24_0, hcz24_1, hcz24_2⟩, hfz24_0, hfz24_1, hfz24_2⟩ := cE BK101
   try go_wp2_with (first | ((with_reducible refine gc 48 rfl ?_); refine gL 20 Try.func48 #[.slice A0_2 l0_2.length c0_2] ?_; (with_reducible refine (flyballref02_Text.calls kj2 (fun k_ => k_ < w.heap.size) _ _ l0_2 t107 _ ?_ A18.out).mono ?_); exact Kd.V_mk HC0_2.out (Kd.F_below (Kd.C_F Kd.heap_bool HR0_2.out) hB); rintro e w25 ⟨rfl, hb⟩; refine ⟨_, rfl, ?_⟩; replace HO105 := rA HO105 hb; replace BK101 := kA BK101 hb; replace HB := bS HB hb; clear hb))
   go_ret
   exact ⟨er, hB⟩
end Go.Proofs.Ytagbnkbhobmgjaa.Fn
end
section
/- What the functions at, trim, New, Add, Sub, Mul, Cmp of package nat compute: the words of the sum, the difference, the product. -/
set_option linter.unusedVariables false
set_option linter.unusedSimpArgs false
namespace Go.Proofs.Ytagbnkbhobmgjaa.Pure
open Go.RowKit Go.Proofs.Ytagbnkbhobmgjaa.Fn Go.Proofs.YtagbnkbhobmgjaaW.PrintWords Go.Proofs.YtagbnkbhobmgjaaW.PrintMore
theorem at_spec {a : List Int} (hW : WD a) (i : Int) (h0 : 0 ≤ i) : nat_Nat_at.f a i = some (rd a i) := by
  unfold nat_Nat_at.f
  by_cases h : i < (a.length : Int)
  · rw [if_pos h, if_pos h0, u64i (WD_rd hW i).1 (by have := (WD_rd hW i).2; omega)]
  · rw [if_neg h]
    unfold rd
    rw [List.getD_eq_getElem?_getD, List.getElem?_eq_none (by omega)]
    rfl
theorem rd_lt (a : List Int) (i : Nat) (h : i < a.length) : rd a (i : Int) = a[i] := by
  unfold rd
  rw [Int.toNat_natCast, List.getD_eq_getElem?_getD, List.getElem?_eq_getElem h]
  rfl
theorem rd_ge (a : List Int) (i : Nat) (h : a.length ≤ i) : rd a (i : Int) = 0 := by
  unfold rd
  rw [Int.toNat_natCast, List.getD_eq_getElem?_getD, List.getElem?_eq_none h]
  rfl
theorem wv_drop (a : List Int) (i : Nat) : wv (a.drop i) = (rd a (i : Int)).toNat + BW * wv (a.drop (i + 1)) := by
  by_cases h : i < a.length
  · rw [List.drop_eq_getElem_cons h, wv_cons, rd_lt a i h]
  · rw [List.drop_eq_nil_of_le (by omega), List.drop_eq_nil_of_le (by omega), rd_ge a i (by omega)]
    rfl
theorem rd_last (xs : List Int) (x : Int) : rd (xs ++ [x]) ((xs ++ [x]).length - 1 : Int) = x := by
  have e : (((xs ++ [x]).length : Int) - 1) = ((xs.length : Nat) : Int) := by simp
  rw [e, rd_lt _ _ (by simp)]
  simp
theorem trim_ev : ∀ (n : Nat) (a : List Int), a.length = n → WD a → a.length ≤ 9223372036854775807 → Ev (fun k => nat_trim.l0 k a) (words (wv a))
  | 0, a, hl, _, _ => by
    obtain rfl := List.eq_nil_of_length_eq_zero hl
    rw [wv_nil, words_zero]
    exact Ev.step (f := fun _ => some []) (fun k => by simp only [nat_trim.l0]; rw [if_neg (by simp)]) (Ev.now _)
  | n + 1, a, hl, hW, hm => by
    have hne : a ≠ [] := by intro e; subst e; simp at hl
    obtain ⟨xs, x, rfl⟩ : ∃ xs x, a = xs ++ [x] := ⟨a.dropLast, a.getLast hne, (List.dropLast_concat_getLast hne).symm⟩
    have hlx : xs.length = n := by simpa using hl
    have hw : wrap64 ((xs ++ [x]).length - 1 : Int) = ((xs ++ [x]).length - 1 : Int) := w64 (by omega) (by omega)
    have hx := (hW x (by simp))
    by_cases h0 : x = 0
    · subst h0
      have ih := trim_ev n xs hlx (WD_left hW) (by simp at hm; omega)
      have e : wv (xs ++ [0]) = wv xs := by rw [wv_snoc]; simp
      rw [e]
      refine Ev.step (f := fun k => nat_trim.l0 k xs) (fun k => ?_) ih
      simp only [nat_trim.l0]
      rw [hw, if_pos (by simp), if_pos (by simp), if_pos (by omega), rd_last, if_pos rfl, if_pos (by omega)]
      congr 1
      have : (((xs ++ [(0 : Int)]).length : Int) - 1).toNat = xs.length := by simp
      rw [this, List.take_left']
      rfl
    · have e : words (wv (xs ++ [x])) = xs ++ [x] := words_wv hW (fun y hy => by
        rw [List.getLast?_concat] at hy
        injection hy with hy
        rw [← hy]; exact h0)
      rw [e]
      refine Ev.step (f := fun _ => some (xs ++ [x])) (fun k => ?_) (Ev.now _)
      simp only [nat_trim.l0]
      rw [hw, if_pos (by simp), if_pos (by simp), if_pos (by omega), rd_last, if_neg h0]
theorem trim_spec {a : List Int} (hW : WD a) (hm : a.length ≤ 9223372036854775807) : Ev (fun k => nat_trim.f k a) (words (wv a)) := trim_ev _ a rfl hW hm
theorem New_spec (x : Int) (h0 : 0 ≤ x) (h1 : x < 18446744073709551616) : Ev (fun k => nat_New.f k x) (words x.toNat) := by
  have hW : WD [x % 4294967296, (x / 4294967296) % 4294967296] := WD_mk (by omega) (by omega) (WD_mk (by omega) (by omega) WD_nil)
  have e : wv [x % 4294967296, (x / 4294967296) % 4294967296] = x.toNat := by
    simp only [wv_cons, wv_nil, BW_eq]; omega
  have := trim_spec hW (by simp)
  rw [e] at this
  unfold nat_New.f
  exact Ev.bind this (Ev.now _)
theorem mx_nat (a b : Nat) : mx (a : Int) (b : Int) = ((max a b : Nat) : Int) := by unfold mx; split <;> omega
theorem Add_ev (a b : List Int) (ha : WD a) (hb : WD b) (n : Nat) (hn : n = max a.length b.length) (hm : n ≤ 1000000000) : ∀ (d i : Nat) (acc : List Int) (c : Int), i + d = n → acc.length = i → WD acc → 0 ≤ c → c ≤ 1 →
    Ev (fun k => nat_Nat_Add.l0 k a b acc c (n : Int) (i : Int)) (words (wv acc + BW ^ acc.length * (c.toNat + wv (a.drop i) + wv (b.drop i))))
  | 0, i, acc, c, hd, hl, hW, h0, h1 => by
    have ea : a.drop i = [] := List.drop_eq_nil_of_le (by omega)
    have eb : b.drop i = [] := List.drop_eq_nil_of_le (by omega)
    rw [ea, eb, wv_nil]
    have hc : c % 4294967296 = c := by omega
    have ht := trim_spec (WD_append hW (WD_mk h0 (by omega) WD_nil) : WD (acc ++ [c])) (by simp; omega)
    rw [wv_snoc] at ht
    refine Ev.step (f := fun k => (nat_trim.f k (acc ++ [c])).bind fun t => some t) (fun k => ?_) (Ev.bind (by simpa using ht) (Ev.now _))
    simp only [nat_Nat_Add.l0]
    rw [if_neg (by omega), if_pos (by omega), hc]
  | d + 1, i, acc, c, hd, hl, hW, h0, h1 => by
    obtain ⟨ra0, ra1⟩ := WD_rd ha (i : Int)
    obtain ⟨rb0, rb1⟩ := WD_rd hb (i : Int)
    generalize hra : rd a (i : Int) = x at *
    generalize hrb : rd b (i : Int) = y at *
    have es : IntKind.u64.wrap (c + IntKind.u64.wrap (x + y)) = c + x + y := by rw [u64i (x := x + y) (by omega) (by omega), u64i (by omega) (by omega)]; omega
    have ih := Add_ev a b ha hb n hn hm d (i + 1) (acc ++ [(c + x + y) % 4294967296]) ((c + x + y) / 4294967296) (by omega) (by simp [hl]) (WD_append hW (WD_mk (by omega) (by omega) WD_nil)) (by omega) (by omega)
    have e : wv (acc ++ [(c + x + y) % 4294967296]) + BW ^ (acc ++ [(c + x + y) % 4294967296]).length * (((c + x + y) / 4294967296).toNat + wv (a.drop (i + 1)) + wv (b.drop (i + 1))) = wv acc + BW ^ acc.length * (c.toNat + wv (a.drop i) + wv (b.drop i)) := by
      rw [wv_drop a i, wv_drop b i, hra, hrb, wv_snoc, List.length_append, List.length_singleton, Nat.pow_succ, Nat.add_assoc, Nat.mul_assoc, ← Nat.mul_add]
      congr 2
      have hq : ((c + x + y) % 4294967296).toNat + BW * ((c + x + y) / 4294967296).toNat = c.toNat + x.toNat + y.toNat := by rw [BW_eq]; omega
      rw [Nat.mul_add, Nat.mul_add]
      omega
    rw [e] at ih
    refine Ev.step (fun k => ?_) ih
    simp only [nat_Nat_Add.l0]
    rw [if_pos (by omega), at_spec ha _ (by omega), at_spec hb _ (by omega), Option.bind_some, Option.bind_some, hra, hrb, if_pos (by omega), es, w64 (by omega) (by omega)]
    rfl
theorem Add_spec {a b : List Int} (ha : WD a) (hb : WD b) (la : a.length ≤ 1000000000) (lb : b.length ≤ 1000000000) : Ev (fun k => nat_Nat_Add.f k a b) (words (wv a + wv b)) := by
  have := Add_ev a b ha hb (max a.length b.length) rfl (by omega) (max a.length b.length) 0 [] 0 (by omega) rfl WD_nil (by omega) (by omega)
  unfold nat_Nat_Add.f
  rw [mx_nat]
  simpa [wv_nil] using this
/-! ### Cmp -/
/-- How numbers compare. -/
def cmpN (m n : Nat) : Int := if m < n then -1 else if m = n then 0 else 1
theorem cmpN_lt {m n : Nat} (h : m < n) : cmpN m n = -1 := if_pos h
theorem cmpN_eq (n : Nat) : cmpN n n = 0 := by unfold cmpN; rw [if_neg (Nat.lt_irrefl _), if_pos rfl]
theorem cmpN_gt {m n : Nat} (h : n < m) : cmpN m n = 1 := by unfold cmpN; rw [if_neg (by omega), if_neg (by omega)]
theorem wv_take_succ (a : List Int) (i : Nat) : wv (a.take (i + 1)) = wv (a.take i) + (if i < a.length then BW ^ i * (rd a (i : Int)).toNat else 0) := by
  by_cases h : i < a.length
  · rw [if_pos h, List.take_succ_eq_append_getElem h, wv_snoc, List.length_take, rd_lt a i h, Nat.min_eq_left (by omega)]
  · rw [if_neg h, List.take_of_length_le (by omega), List.take_of_length_le (by omega)]; rfl
theorem take_lt {a : List Int} (h : WD a) (i : Nat) : wv (a.take i) < BW ^ i := by
  have h1 := wv_lt (WD_take h i)
  rw [List.length_take] at h1
  exact Nat.lt_of_lt_of_le h1 (Nat.pow_le_pow_right BW_pos (Nat.min_le_left _ _))
theorem take_succ' {a : List Int} (i : Nat) : wv (a.take (i + 1)) = wv (a.take i) + BW ^ i * (rd a (i : Int)).toNat := by
  rw [wv_take_succ]
  by_cases h : i < a.length
  · rw [if_pos h]
  · rw [if_neg h, rd_ge a i (by omega)]; rfl
theorem Cmp_ev (a b : List Int) (ha : WD a) (hb : WD b) : ∀ (i : Nat), i ≤ 1000000000 → Ev (fun k => nat_Nat_Cmp.l0 k a b ((i : Int) - 1)) (cmpN (wv (a.take i)) (wv (b.take i)))
  | 0, _ => by
    rw [List.take_zero, List.take_zero, cmpN_eq]
    refine Ev.step (f := fun _ => some 0) (fun k => ?_) (Ev.now _)
    simp only [nat_Nat_Cmp.l0]
    rw [if_neg (by omega)]
  | i + 1, hi => by
    have e : (((i + 1 : Nat) : Int) - 1) = (i : Int) := by omega
    rw [e, take_succ', take_succ']
    obtain ⟨ra0, ra1⟩ := WD_rd ha (i : Int)
    obtain ⟨rb0, rb1⟩ := WD_rd hb (i : Int)
    have la := take_lt ha i
    have lb := take_lt hb i
    generalize hra : rd a (i : Int) = x at *
    generalize hrb : rd b (i : Int) = y at *
    by_cases hxy : x = y
    · have ih := Cmp_ev a b ha hb i (by omega)
      subst hxy
      have ec : cmpN (wv (a.take i) + BW ^ i * x.toNat) (wv (b.take i) + BW ^ i * x.toNat) = cmpN (wv (a.take i)) (wv (b.take i)) := by
        unfold cmpN
        by_cases h1 : wv (a.take i) < wv (b.take i)
        · rw [if_pos h1, if_pos (by omega)]
        · rw [if_neg h1, if_neg (by omega)]
          by_cases h2 : wv (a.take i) = wv (b.take i)
          · rw [if_pos h2, if_pos (by omega)]
          · rw [if_neg h2, if_neg (by omega)]
      rw [ec]
      refine Ev.step (fun k => ?_) ih
      simp only [nat_Nat_Cmp.l0]
      rw [if_pos (by omega), at_spec ha _ (by omega), at_spec hb _ (by omega), Option.bind_some, Option.bind_some, hra, hrb, if_pos rfl, w64 (by omega) (by omega)]
    · by_cases hlt : x < y
      · have : wv (a.take i) + BW ^ i * x.toNat < wv (b.take i) + BW ^ i * y.toNat := by
          have h1 : BW ^ i * x.toNat + BW ^ i ≤ BW ^ i * y.toNat := by
            rw [← Nat.mul_succ]; exact Nat.mul_le_mul_left _ (by omega)
          omega
        rw [cmpN_lt this]
        refine Ev.step (f := fun _ => some (-1)) (fun k => ?_) (Ev.now _)
        simp only [nat_Nat_Cmp.l0]
        rw [if_pos (by omega), at_spec ha _ (by omega), at_spec hb _ (by omega), Option.bind_some, Option.bind_some, hra, hrb, if_neg hxy, if_pos hlt]
      · have : wv (b.take i) + BW ^ i * y.toNat < wv (a.take i) + BW ^ i * x.toNat := by
          have h1 : BW ^ i * y.toNat + BW ^ i ≤ BW ^ i * x.toNat := by
            rw [← Nat.mul_succ]; exact Nat.mul_le_mul_left _ (by omega)
          omega
        rw [cmpN_gt this]
        refine Ev.step (f := fun _ => some 1) (fun k => ?_) (Ev.now _)
        simp only [nat_Nat_Cmp.l0]
        rw [if_pos (by omega), at_spec ha _ (by omega), at_spec hb _ (by omega), Option.bind_some, Option.bind_some, hra, hrb, if_neg hxy, if_neg hlt]
theorem Cmp_spec {a b : List Int} (ha : WD a) (hb : WD b) (la : a.length ≤ 1000000000) (lb : b.length ≤ 1000000000) : Ev (fun k => nat_Nat_Cmp.f k a b) (cmpN (wv a) (wv b)) := by
  have := Cmp_ev a b ha hb (max a.length b.length) (by omega)
  rw [List.take_of_length_le (by omega), List.take_of_length_le (by omega)] at this
  unfold nat_Nat_Cmp.f
  rw [mx_nat, w64 (by omega) (by omega)]
  exact this
/-! ### Sub -/
end Go.Proofs.Ytagbnkbhobmgjaa.Pure
end
section
/- What the products are: plain arithmetic. -/
set_option linter.unusedVariables false
set_option linter.unusedSimpArgs false
namespace Go.Proofs.Ytagbnkbhobmgjaa.Pure
open Go.RowKit Go.Proofs.Ytagbnkbhobmgjaa.Fn Go.Proofs.YtagbnkbhobmgjaaW.PrintWords Go.Proofs.YtagbnkbhobmgjaaW.PrintMore Go.Proofs.YtagbnkbhobmgjaaW.PrintLast
theorem wv_set : ∀ (x : List Int) (i : Nat) (y : Int), i < x.length → wv (x.set i y) + BW ^ i * (rd x (i : Int)).toNat = wv x + BW ^ i * y.toNat
  | [], i, y, h => by simp at h
  | z :: zs, 0, y, h => by
    rw [rd_lt _ _ h]
    simp only [List.set_cons_zero, wv_cons, List.getElem_cons_zero, Nat.pow_zero, Nat.one_mul]
    omega
  | z :: zs, i + 1, y, h => by
    have h' : i < zs.length := by simpa using h
    have ih := wv_set zs i y h'
    rw [rd_lt _ _ h]
    rw [rd_lt _ _ h'] at ih
    simp only [List.set_cons_succ, wv_cons, List.getElem_cons_succ]
    have e : ∀ t : Nat, BW ^ (i + 1) * t = BW * (BW ^ i * t) := fun t => by rw [Nat.pow_succ, Nat.mul_comm (BW ^ i) BW, Nat.mul_assoc]
    rw [e, e, Nat.add_assoc, Nat.add_assoc, ← Nat.mul_add, ← Nat.mul_add, ih]
theorem rd_le_wv (x : List Int) (i : Nat) : BW ^ i * (rd x (i : Int)).toNat ≤ wv x := by
  by_cases h : i < x.length
  · have := wv_set x i 0 h
    simp at this
    omega
  · rw [rd_ge x i (by omega)]; simp
theorem rd_zero_of_lt (x : List Int) (hx : WD x) (i : Nat) (h : wv x < BW ^ i) : rd x (i : Int) = 0 := by
  have h1 := rd_le_wv x i
  have h2 := (WD_rd hx (i : Int)).1
  rcases Nat.eq_zero_or_pos (rd x (i : Int)).toNat with h0 | h0
  · omega
  · have := Nat.le_mul_of_pos_right (BW ^ i) h0
    omega
theorem rd_set_ne (x : List Int) (i j : Nat) (y : Int) (h : i ≠ j) : rd (x.set i y) (j : Int) = rd x (j : Int) := by
  unfold rd
  simp only [Int.toNat_natCast, List.getD_eq_getElem?_getD]
  rw [List.getElem?_set_ne h]
theorem mul32 {x y : Int} (x0 : 0 ≤ x) (x1 : x < 4294967296) (y0 : 0 ≤ y) (y1 : y < 4294967296) : 0 ≤ x * y ∧ x * y ≤ 18446744065119617025 := by
  refine ⟨Int.mul_nonneg x0 y0, ?_⟩
  have h := Int.mul_le_mul (show x ≤ 4294967295 by omega) (show y ≤ 4294967295 by omega) y0 (by omega)
  omega
theorem Mul_row (b : List Int) (hb : WD b) (a : List Int) (i : Nat) (hlen : a.length + b.length ≤ 2000000000) (hi : i < a.length) (x : Int) (x0 : 0 ≤ x) (x1 : x < 4294967296) :
    ∀ (d j : Nat) (r : List Int) (c : Int) (X R : Nat), j + d = b.length → r.length = a.length + b.length → WD r → 0 ≤ c → c < 4294967296 →
      rd r ((i + b.length : Nat) : Int) = 0 →
      wv r + BW ^ (i + j) * c.toNat = X + BW ^ i * (x.toNat * wv (b.take j)) →
      (∀ (r' : List Int), r'.length = a.length + b.length → WD r' → wv r' = X + BW ^ i * (x.toNat * wv b) → Ev (fun k => nat_Nat_Mul.l0 k b r' a (a.length : Int) ((i + 1 : Nat) : Int)) (words R)) →
      Ev (fun k => nat_Nat_Mul.l1 k b r (i : Int) x c a (a.length : Int) (i : Int) b (b.length : Int) (j : Int)) (words R)
  | 0, j, r, c, X, R, hd, hl, hW, c0, c1, hz, hv, hk => by
    have ej : j = b.length := by omega
    subst ej
    rw [List.take_length] at hv
    have hs := wv_set r (i + b.length) c (by omega)
    rw [hz] at hs
    have h := hk (r.set (i + b.length) c) (by simp [hl]) (WD_set hW _ c0 c1) (by simpa [hv] using hs)
    refine Ev.step (fun k => ?_) h
    simp only [nat_Nat_Mul.l1]
    rw [if_neg (by omega), w64 (by omega) (by omega), if_pos (by omega), if_pos (by omega), w64 (by omega) (by omega), Int.emod_eq_of_lt c0 c1]
    rfl
  | d + 1, j, r, c, X, R, hd, hl, hW, c0, c1, hz, hv, hk => by
    obtain ⟨y0, y1⟩ := WD_rd hb (j : Int)
    obtain ⟨z0, z1⟩ := WD_rd hW ((i + j : Nat) : Int)
    have hs := wv_set r (i + j) ((c + (x * rd b (j : Int) + rd r ((i + j : Nat) : Int))) % 4294967296) (by omega)
    have ht := take_succ' (a := b) j
    generalize hy : rd b (j : Int) = y at *
    generalize hzz : rd r ((i + j : Nat) : Int) = z at *
    obtain ⟨m0, m1⟩ := mul32 x0 x1 y0 y1
    have et : x.toNat * y.toNat = (x * y).toNat := by
      rw [Int.toNat_mul x0 y0]
    generalize hp : x * y = p at *
    have hq : ((c + (p + z)) % 4294967296).toNat + BW * ((c + (p + z)) / 4294967296).toNat = c.toNat + p.toNat + z.toNat := by rw [BW_eq]; omega
    have ih := Mul_row b hb a i hlen hi x x0 x1 d (j + 1) (r.set (i + j) ((c + (p + z)) % 4294967296)) ((c + (p + z)) / 4294967296) X R (by omega) (by simp [hl]) (WD_set hW _ (by omega) (by omega)) (by omega) (by omega)
      (by rw [rd_set_ne _ _ _ _ (by omega)]; exact hz)
      (by
        rw [ht, Nat.mul_add, Nat.mul_add, ← Nat.add_assoc X, ← hv]
        have e1 : BW ^ i * (x.toNat * (BW ^ j * y.toNat)) = BW ^ (i + j) * p.toNat := by
          rw [← et, Nat.pow_add, Nat.mul_left_comm x.toNat, Nat.mul_assoc]
        have e2 : BW ^ (i + (j + 1)) * ((c + (p + z)) / 4294967296).toNat = BW ^ (i + j) * (BW * ((c + (p + z)) / 4294967296).toNat) := by
          rw [← Nat.add_assoc, Nat.pow_succ, Nat.mul_assoc]
        rw [e1, e2]
        have h3 : BW ^ (i + j) * ((c + (p + z)) % 4294967296).toNat + BW ^ (i + j) * (BW * ((c + (p + z)) / 4294967296).toNat) = BW ^ (i + j) * c.toNat + BW ^ (i + j) * p.toNat + BW ^ (i + j) * z.toNat := by
          rw [← Nat.mul_add, hq, Nat.mul_add, Nat.mul_add]
        omega) hk
    refine Ev.step (fun k => ?_) ih
    simp only [nat_Nat_Mul.l1]
    rw [if_pos (by omega), if_pos (by omega), if_pos (by omega), w64 (by omega) (by omega), if_pos (by omega), if_pos (by omega), w64 (by omega) (by omega), hy]
    have ec : ((i : Int) + (j : Int)) = ((i + j : Nat) : Int) := by omega
    rw [ec, hzz, u64i x0 (by omega), u64i y0 (by omega), hp, u64i m0 (by omega), u64i z0 (by omega), u64i (x := p + z) (by omega) (by omega), u64i (x := c + (p + z)) (by omega) (by omega)]
    rfl
theorem Mul_ev (a b : List Int) (ha : WD a) (hb : WD b) (hlen : a.length + b.length ≤ 2000000000) :
    ∀ (d i : Nat) (r : List Int), i + d = a.length → r.length = a.length + b.length → WD r → wv r = wv (a.take i) * wv b →
      Ev (fun k => nat_Nat_Mul.l0 k b r a (a.length : Int) (i : Int)) (words (wv a * wv b))
  | 0, i, r, hd, hl, hW, hv => by
    rw [List.take_of_length_le (by omega)] at hv
    have ht := trim_spec hW (by omega)
    rw [hv] at ht
    refine Ev.step (f := fun k => (nat_trim.f k r).bind fun t => some t) (fun k => ?_) (Ev.bind ht (Ev.now _))
    simp only [nat_Nat_Mul.l0]
    rw [if_neg (by omega)]
  | d + 1, i, r, hd, hl, hW, hv => by
    obtain ⟨x0, x1⟩ := WD_rd ha (i : Int)
    have hz : rd r ((i + b.length : Nat) : Int) = 0 := by
      refine rd_zero_of_lt r hW _ ?_
      rw [hv, Nat.pow_add]
      exact Nat.mul_lt_mul'' (take_lt ha i) (wv_lt hb)
    have h := Mul_row b hb a i hlen (by omega) (rd a (i : Int)) x0 x1 b.length 0 r 0 (wv r) (wv a * wv b) (by omega) hl hW (by omega) (by omega) hz (by simp [wv_nil])
      (fun r' hl' hW' hv' => Mul_ev a b ha hb hlen d (i + 1) r' (by omega) hl' hW' (by
        rw [hv', hv, take_succ', Nat.add_mul, Nat.mul_assoc]))
    refine Ev.step (fun k => ?_) h
    simp only [nat_Nat_Mul.l0]
    rw [if_pos (by omega), if_pos (by omega), if_pos (by omega)]
    rfl
theorem Mul_spec {a b : List Int} (ha : WD a) (hb : WD b) (la : a.length ≤ 1000000000) (lb : b.length ≤ 1000000000) : Ev (fun k => nat_Nat_Mul.f k a b) (words (wv a * wv b)) := by
  have h := Mul_ev a b ha hb (by omega) a.length 0 (List.replicate (a.length + b.length) 0) (by omega) (by simp) (WD_rep _) (by simp [wv_rep, wv_nil])
  unfold nat_Nat_Mul.f
  have e : wrap64 ((a.length : Int) + (b.length : Int)) = ((a.length + b.length : Nat) : Int) := by rw [w64 (by omega) (by omega)]; omega
  rw [e, Int.toNat_natCast]
  refine Ev.congr (fun k => ?_) h
  rw [if_pos (by omega), if_pos (by omega)]
  rfl
end Go.Proofs.Ytagbnkbhobmgjaa.Pure
end
section
namespace Go.Proofs.Ytagbnkbhobmgjaa.Fn
open Go.RowKit Go.Proofs.YtagbnkbhobmgjaaW.PrintWords Go.Proofs.YtagbnkbhobmgjaaW.PrintLast Go.Proofs.YtagbnkbhobmgjaaW.PrintMore
attribute [local go_sem] max2_int min2_int max_two min_two max_three min_three max_four min_four   -- for this text's walks alone
set_option linter.unusedVariables false
set_option linter.unusedSimpArgs false

mutual
def nat_Parse.l0 : Nat → ByteArray → List Int → Int → Int → Int → Int → Option (List Int × Int)
 | 0, _, _, _, _, _, _ => none
 | k + 1, x0, x4, x5, x6, x16, x17 => if x17 < x16 then (if 0 ≤ x17 then (if x17 < (x0.size : Int) then (if (bt x0 x17) < 48 then (nat_Parse.j1 k x0 x4 x5 x6 x17 x16 x17 true) else (nat_Parse.j1 k x0 x4 x5 x6 x17 x16 x17 (decide ((bt x0 x17) > 57)))) else (none)) else (none)) else (some (x4, 0))
def nat_Parse.j1 : Nat → ByteArray → List Int → Int → Int → Int → Int → Int → Bool → Option (List Int × Int)
 | 0, _, _, _, _, _, _, _, _ => none
 | k + 1, x0, x4, x5, x6, x7, x16, x17, x29 => if x29 = true then (some (([] : List Int), 22)) else (if 0 ≤ x7 then (if x7 < (x0.size : Int) then (if (IntKind.u64.wrap (x6 * 10)) = 1000000000 then (nat_Parse.j2 k x0 x4 (IntKind.u64.wrap ((IntKind.u64.wrap (x5 * 10)) + (((bt x0 x7) - 48) % 256))) (IntKind.u64.wrap (x6 * 10)) x16 x17 true) else (nat_Parse.j2 k x0 x4 (IntKind.u64.wrap ((IntKind.u64.wrap (x5 * 10)) + (((bt x0 x7) - 48) % 256))) (IntKind.u64.wrap (x6 * 10)) x16 x17 (x7 == (wrap64 ((x0.size : Int) - 1))))) else (none)) else (none))
def nat_Parse.j2 : Nat → ByteArray → List Int → Int → Int → Int → Int → Bool → Option (List Int × Int)
 | 0, _, _, _, _, _, _, _ => none
 | k + 1, x0, x4, x5, x6, x16, x17, x48 => if x48 = true then ((nat_New.f k x6).bind fun t101 => ((nat_Nat_Mul.f k x4 t101).bind fun t104 => ((nat_New.f k x5).bind fun t107 => ((nat_Nat_Add.f k t104 t107).bind fun t110 => (nat_Parse.l0 k x0 t110 0 1 x16 (wrap64 (x17 + 1))))))) else (nat_Parse.l0 k x0 x4 x5 x6 x16 (wrap64 (x17 + 1)))
end


end Go.Proofs.Ytagbnkbhobmgjaa.Fn
end
