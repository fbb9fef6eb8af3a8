/- Products and quotients of rational numbers are just what the document says, in lowest terms; nothing is divided by nought. Part 13 of 19. -/
import Derived.Test.YtagbnkbhobmgjaaRatioMulsE
import Derived.Test.YtagbnkbhobmgjaaRatioMulsC
section
-- Written by a program of this session (a turned copy of the kit's printer, and hand-written parts). Not trusted: Lean checks it.
namespace Go.Proofs.Ytagbnkbhobmgjaa.Fn
open Go.RowKit Go.Proofs.YtagbnkbhobmgjaaW.PrintWords Go.Proofs.YtagbnkbhobmgjaaW.PrintLast Go.Proofs.YtagbnkbhobmgjaaW.PrintMore
attribute [local go_sem] max2_int min2_int max_two min_two max_three min_three max_four min_four   -- for this text's walks alone
set_option linter.unusedVariables false
set_option linter.unusedSimpArgs false
/-! ### flyballref03_trim: function 127 -/
def flyballref03_trim.f (k : Nat) (l0 : List Bool) : Option (List Bool) := (flyballref01_Len.f k l0).bind fun t101 => (if 0 ≤ t101 then (if t101 ≤ (l0.length : Int) then (some (l0.take (t101 : Int).toNat)) else (none)) else (none))
set_option maxHeartbeats 8000000 in
set_option maxRecDepth 100000 in
theorem flyballref03_trim.calls (k : Nat) (P0_ : Nat → Prop) (u9000_ : Value) (l0 : List Bool) (r : List Bool) (w0 w : World) (hB : Below w0.heap.size w0 w) (ho0 : Kd.R Kd.bool 4 w w0.heap.size P0_ u9000_ l0) (h : flyballref03_trim.f k l0 = some r) :
  Calls Try.prog 127 #[u9000_] w fun e w' => ∃ v0_ : Value, e = .returned (v0_) ∧ Kd.R Kd.bool 4 w' w0.heap.size (fun k_ => (P0_ k_ ∨ w.heap.size ≤ k_)) v0_ r ∧ Below w0.heap.size w0 w' ∧ Kept w w' (fun k_ => P0_ k_) := by
 have HO0 := Aside0.mk (show Kd.R Kd.bool 4 w w0.heap.size (fun k_ => (P0_ k_ ∨ w.heap.size ≤ k_)) u9000_ l0 from Kd.R_mono ho0 (fun k_ hk => (.inl hk)))
 have HK := Aside0.mk (Kept.refl w (fun k_ => P0_ k_))
 have HW0 := Aside0.mk hB.size
 have HB := Aside0.mk hB
 clear hB
 have H : ((flyballref01_Len.f k l0).bind fun t101 => (if 0 ≤ t101 then (if t101 ≤ (l0.length : Int) then (some (l0.take (t101 : Int).toNat)) else (none)) else (none))) = some r := h
 clear h
 replace H := Option.bind_eq_some_iff.mp H
 obtain ⟨t101, A20, H⟩ := H
 replace H : (if 0 ≤ t101 then (if t101 ≤ (l0.length : Int) then (some (l0.take (t101 : Int).toNat)) else (none)) else (none)) = some r := H
 have A2 := Aside0.mk A20
 clear A20
 by_cases c3 : 0 ≤ t101
 ·rw [if_pos c3] at H
  have c3b0 := eq_true c3
  have c3b1 : decide (0 ≤ t101) = true := decide_eq_true c3
  clear c3
  by_cases c4 : t101 ≤ (l0.length : Int)
  ·rw [if_pos c4] at H
   have c4b0 := eq_true c4
   have c4b1 : decide (t101 ≤ (l0.length : Int)) = true := decide_eq_true c4
   clear c4
   obtain ⟨y102, hy102⟩ : ∃ y_ : List Bool, y_ = (l0.take (t101 : Int).toNat) := ⟨_, rfl⟩
   replace H : (some y102) = some r := by first | (rw [hy102]; with_reducible exact H) | (have H2_ := (Option.bind_some _ _).symm.trans H; rw [hy102]; with_reducible exact H2_) | (have H2_ := (Option.bind_some _ _).symm.trans H; with_reducible exact H2_) | with_reducible exact H | (rw [hy102]; exact H) | exact H
   have Ny102 := Aside0.mk hy102
   clear hy102
   obtain rfl := Option.some.inj H
   obtain ⟨Ao5, co5, eo5⟩ := Kd.R_slice HO0.out
   subst eo5
   go_enter Try.func127, Try.ntmps127
   go_wp2_with (first | ((with_reducible refine gate_callee (f := 53) rfl ?_); refine goesL_ (some 5) rfl rfl Try.func53 (by kernel_rfl) rfl #[.slice Ao5 l0.length co5] rfl (by (try simp only [List.map_toArray, List.map_cons, List.map_nil]); first | done | rfl | (simp only [List.length_drop, List.length_take]; rfl)) ?_; (with_reducible refine (flyballref01_Len.calls k _ _ l0 t101 _ ?side1 ?side2 A2.out).mono ?_); (case side1 => repeat (first | exact (Kd.R_reads' HO0.out).2.2 | (with_reducible refine Kd.C_alloc ?_ _) | (with_reducible refine Kd.C_drewN ?_ _) | (with_reducible refine Kd.C_drew ?_))); (case side2 => exact (Kd.R_reads' HO0.out).2.1); rintro e w' ⟨rfl, ⟨nd, rfl⟩⟩; refine ⟨_, rfl, ?_⟩; have q6 : (t101 : Int) ≤ ((l0.length : Int) : Int) := of_decide_eq_true (by first | (with_reducible assumption) | assumption); obtain ⟨i06, hi06, _, hsz6, _⟩ := info_parts info4; have hcut6 := cut_to (P := Try.prog) 26 4 .i64 Try.underlying26 hi06 Ao5 l0.length co5 t101 (of_decide_eq_true (by first | (with_reducible assumption) | assumption)) q6 (Kd.R_reads' HO0.out).2.1; have hr6 := Kd.R_take (m := (t101 : Int).toNat) HO0.out (by omega); have hy6 : y102.length = (t101 : Int).toNat := (by rw [Ny102.out, List.length_take]; omega); rw [← Ny102.out] at hr6; rw [← hy6] at hr6 hcut6; clear hy6 hi06 hsz6 HO0; have HO104 := Aside0.mk hr6; clear hr6; replace q6 := eq_true q6))
   go_ret
   exact ⟨_, by first | rfl | (simp [errW_none, errW_some] <;> rfl) | (simp [*, errW_none, errW_some] <;> rfl), by (with_reducible repeat (first | apply Kd.R_alloc | apply Kd.R_drewN | apply Kd.R_drew)); exact HO104.out, by repeat (first | (with_reducible first | exact HB.out | apply below_alloc | apply pw_below_drewN | apply below_drew1) | exact HB.out), by repeat (first | (with_reducible first | exact HK.out | apply Kept.alloc | apply Kept.drewN | apply Kept.drew) | exact HK.out)⟩
  ·rw [if_neg c4] at H
   exact absurd H (by simp)
 ·rw [if_neg c3] at H
  exact absurd H (by simp)
end Go.Proofs.Ytagbnkbhobmgjaa.Fn
end
section
-- Written by a program of this session (a turned copy of the kit's printer, and hand-written parts). Not trusted: Lean checks it.
namespace Go.Proofs.Ytagbnkbhobmgjaa.Fn
open Go.RowKit Go.Proofs.YtagbnkbhobmgjaaW.PrintWords Go.Proofs.YtagbnkbhobmgjaaW.PrintLast Go.Proofs.YtagbnkbhobmgjaaW.PrintMore
attribute [local go_sem] max2_int min2_int max_two min_two max_three min_three max_four min_four   -- for this text's walks alone
set_option linter.unusedVariables false
set_option linter.unusedSimpArgs false
/-! ### flyballref03_one: function 128 -/
def flyballref03_one.f  : Option (List Bool) := some (([true] : List Bool))
set_option maxHeartbeats 8000000 in
set_option maxRecDepth 100000 in
theorem flyballref03_one.calls  (r : List Bool) (w : World) (h : flyballref03_one.f  = some r) :
  Calls Try.prog 128 #[] w fun e w' => ∃ v0_ : Value, e = .returned (v0_) ∧ Kd.R Kd.bool 4 w' w.heap.size (fun _ => True) v0_ r ∧ Below w.heap.size w w' := by
 have HB := Aside0.mk (Below.refl w.heap.size w)
 have H : (some (([true] : List Bool))) = some r := h
 clear h
 obtain ⟨y101, hy101⟩ : ∃ y_ : List Bool, y_ = (([true] : List Bool)) := ⟨_, rfl⟩
 replace H : (some y101) = some r := by first | (rw [hy101]; with_reducible exact H) | (have H2_ := (Option.bind_some _ _).symm.trans H; rw [hy101]; with_reducible exact H2_) | (have H2_ := (Option.bind_some _ _).symm.trans H; with_reducible exact H2_) | with_reducible exact H | (rw [hy101]; exact H) | exact H
 have Ny101 := Aside0.mk hy101
 clear hy101
 obtain rfl := Option.some.inj H
 go_enter Try.func128, Try.ntmps128
 go_wp2_with (first | ((with_reducible refine gate_dst (N := 1) rfl ?_); refine Kd.R_lit Kd.bool _ 4 ?hg (N := 1) ?hd (xs := ([true] : List Bool)) (inner := [.bool true]) (ok := fun _ => True) (okp := fun _ => True) ?hr ?hp (fun _ hk => hk) trivial (Below.refl _ _) (Nat.le_refl _) (by simp) ?_; (case hd => rfl); (case hg => rfl); (case hr => first | (go_simp; done) | (go_simp; rfl)); (case hp => exact (Reps.one (show Kd.M Kd.bool _ _ _ true [.bool true] from rfl) (Reps.none _ _))); intro v102 w1 ho2 hb hg_ hnew_; clear hg_ hnew_; (first | rw [← Ny101.out] at ho2 | (simp only [Int.reduceToNat] at ho2; rw [← Ny101.out] at ho2)); have n0_ := Aside0.mk (Kd.R_lower ho2 (below_size (by repeat (first | (with_reducible first | exact HB.out | apply below_alloc | apply pw_below_drewN | apply below_drew1) | exact HB.out)))); have n1_ := Aside0.mk (below_step (by repeat (first | (with_reducible first | exact HB.out | apply below_alloc | apply pw_below_drewN | apply below_drew1) | exact HB.out)) hb); clear HB; have HO103 := n0_; have HB := n1_; clear n0_ n1_; clear hb ho2))
 go_ret
 exact ⟨_, by first | rfl | (simp [errW_none, errW_some] <;> rfl) | (simp [*, errW_none, errW_some] <;> rfl), by (with_reducible repeat (first | apply Kd.R_alloc | apply Kd.R_drewN | apply Kd.R_drew)); exact HO103.out, by repeat (first | (with_reducible first | exact HB.out | apply below_alloc | apply pw_below_drewN | apply below_drew1) | exact HB.out)⟩
end Go.Proofs.Ytagbnkbhobmgjaa.Fn
end
section
-- Written by a program of this session (a turned copy of the kit's printer, and hand-written parts). Not trusted: Lean checks it.
namespace Go.Proofs.Ytagbnkbhobmgjaa.Fn
open Go.RowKit Go.Proofs.YtagbnkbhobmgjaaW.PrintWords Go.Proofs.YtagbnkbhobmgjaaW.PrintLast Go.Proofs.YtagbnkbhobmgjaaW.PrintMore
attribute [local go_sem] max2_int min2_int max_two min_two max_three min_three max_four min_four   -- for this text's walks alone
set_option linter.unusedVariables false
set_option linter.unusedSimpArgs false
/-! ### flyballref03_Low: function 96 -/
def flyballref03_Low.j0 : Nat → Bool → List Bool → List Bool → Bool → Option (Bool × List Bool × List Bool)
 | 0, _, _, _, _ => none
 | k + 1, x0, x7, x8, x25 => if x25 = true then ((flyballref03_one.f).bind fun t108 => (some (false, ([] : List Bool), t108))) else ((flyballref02_Gcd.f k x7 x8).bind fun t111 => ((flyballref01_Div.f k x7 t111).bind fun bt114 => ((flyballref01_Div.f k x8 t111).bind fun bt120 => ((flyballref03_trim.f k bt114.1).bind fun t126 => ((flyballref03_trim.f k bt120.1).bind fun t129 => (some (x0, t126, t129)))))))
def flyballref03_Low.f (k : Nat) (a0 : Bool) (l1 : List Bool) (l2 : List Bool) : Option (Bool × List Bool × List Bool) := (flyballref03_trim.f k l1).bind fun t102 => ((flyballref03_trim.f k l2).bind fun t105 => (if (t102.length : Int) = 0 then (flyballref03_Low.j0 k a0 t102 t105 true) else (flyballref03_Low.j0 k a0 t102 t105 ((t105.length : Int) == 0))))
set_option maxHeartbeats 8000000 in
set_option maxRecDepth 100000 in
theorem flyballref03_Low.calls (k : Nat) (a0 : Bool) (P1_ : Nat → Prop) (u9000_ : Value) (l1 : List Bool) (P2_ : Nat → Prop) (u9001_ : Value) (l2 : List Bool) (r1 : Bool) (r2 : List Bool) (r3 : List Bool) (w0 w : World) (hB : Below w0.heap.size w0 w) (ho1 : Kd.R Kd.bool 4 w w0.heap.size P1_ u9000_ l1) (hp1_2 : ∀ k_, P1_ k_ → ¬ P2_ k_) (ho2 : Kd.R Kd.bool 4 w w0.heap.size P2_ u9001_ l2) (hp2_1 : ∀ k_, P2_ k_ → ¬ P1_ k_) (H : flyballref03_Low.f k a0 l1 l2 = some (r1, r2, r3)) :
  Calls Try.prog 96 #[.bool a0, u9000_, u9001_] w fun e w' => ∃ v1_ v2_ : Value, e = .returned (.agg #[.bool r1, v1_, v2_]) ∧ Kd.R Kd.bool 4 w' w0.heap.size (fun k_ => ((P1_ k_ ∨ P2_ k_) ∨ w.heap.size ≤ k_) ∧ some k_ ≠ (v2_ : Value).ownBlock) v1_ r2 ∧ Kd.R Kd.bool 4 w' w0.heap.size (fun k_ => ((P1_ k_ ∨ P2_ k_) ∨ w.heap.size ≤ k_) ∧ some k_ ≠ (v1_ : Value).ownBlock) v2_ r3 ∧ Below w0.heap.size w0 w' ∧ Kept w w' (fun k_ => P1_ k_ ∨ P2_ k_) := by
 have hu92 := Try.underlying92
 have HO1 := Aside0.mk (show Kd.R Kd.bool 4 w w0.heap.size (fun k_ => ((P1_ k_ ∨ P2_ k_) ∨ w.heap.size ≤ k_) ∧ some k_ ≠ (u9001_ : Value).ownBlock) u9000_ l1 from Kd.R_mono ho1 (fun k_ hk => ⟨(.inl (.inl hk)), fun e_ => hp1_2 k_ hk (ho2.1 k_ e_.symm)⟩))
 have HO2 := Aside0.mk (show Kd.R Kd.bool 4 w w0.heap.size (fun k_ => ((P1_ k_ ∨ P2_ k_) ∨ w.heap.size ≤ k_) ∧ some k_ ≠ (u9000_ : Value).ownBlock) u9001_ l2 from Kd.R_mono ho2 (fun k_ hk => ⟨(.inl (.inr hk)), fun e_ => hp2_1 k_ hk (ho1.1 k_ e_.symm)⟩))
 have HK := Aside0.mk (Kept.refl w (fun k_ => P1_ k_ ∨ P2_ k_))
 have HW0 := Aside0.mk hB.size
 have HB := Aside0.mk hB
 clear hB
 unfold flyballref03_Low.f at H
 replace H := bi H
 obtain ⟨t102, A4, H⟩ := H
 replace H := bi H
 obtain ⟨t105, A5, H⟩ := H
 have HC6 := Aside0.mk H
 clear H
 go_enter Try.func96, Try.ntmps96
 go_upto_region 3 with (first | ((with_reducible refine gd 6 rfl ?_); (try (refine gate_guard (by rfl) ?_; dsimp only)); refine box_event ?hg (N := 6) ?hd (cs := #[.bool false, .slice none 0 0, .slice none 0 0]) (t := 92) ?hr ?_; (case hd => rfl); (case hg => rfl); (case hr => first | (go_simp; done) | (go_simp; rfl)); intro gb101 hg w7 hbox hb; replace HO1 := rA HO1 hb; replace HO2 := rA HO2 hb; have BK101 := Aside0.mk hbox; have GW101 := Aside0.mk ((by rw [hg]; exact (by first | exact HK.out.1 | exact (show Kept w _ (fun k_ => P1_ k_ ∨ P2_ k_) from hK0).1) : w.heap.size ≤ gb101)); replace HK := Aside0.mk (Kept.below (S := (fun k_ => P1_ k_ ∨ P2_ k_)) hK0 hb); have GE101 := Aside0.mk ((by rw [hg]; exact (below_size (bup HB.out)) : w0.heap.size ≤ gb101)); replace HB := bA HB hb; clear hb hbox hg; obtain ⟨Ao8, co8, eo8⟩ := Kd.R_slice HO1.out; subst eo8) | ((with_reducible refine gc 127 rfl ?_); refine gL 15 Try.func127 #[.slice Ao8 l1.length co8] ?_; (with_reducible refine (flyballref03_trim.calls k (fun k_ => some k_ = (.slice Ao8 l1.length co8 : Value).ownBlock) (.slice Ao8 l1.length co8) l1 t102 w0 _ ?_ ?_ A4.out).mono ?_); (repeat (first | (with_reducible first | exact HB.out | apply below_alloc | apply pw_below_drewN | apply below_drew1 | refine below_set ?_ GE101.out) | exact HB.out)); exact Kd.R_tight rfl HO1.out; rintro e w9 ⟨v103, rfl, ho0, hb, hkp⟩; refine ⟨_, rfl, ?_⟩; replace BK101 := Aside0.mk (blk_kept (by exact kU BK101) hkp (fun hs_ => (fun e_ => (Kd.R_ne HO1.out BK101.out (by decide)) e_) hs_)); have HO104 := Aside0.mk (Kd.R_mono (ok' := fun k_ => ((P1_ k_ ∨ P2_ k_) ∨ w.heap.size ≤ k_) ∧ some k_ ≠ (u9001_ : Value).ownBlock) ho0 (fun k_ hk_ => Or.elim hk_ (fun hs_ => ⟨(HO1.out.1 k_ (hs_).symm).1, fun e_ => (((HO2.out).1 k_ e_.symm).2) hs_⟩) (fun hn_ => ⟨.inr (Nat.le_trans (by first | exact HK.out.1 | exact (show Kept w _ (fun k_ => P1_ k_ ∨ P2_ k_) from hK1).1) hn_), Kd.fresh' (Kd.R_lt (rup HO2.out)) k_ hn_⟩))); replace HO2 := Aside0.mk (Kd.R_mono (ok' := fun k_ => ((P1_ k_ ∨ P2_ k_) ∨ w.heap.size ≤ k_) ∧ some k_ ≠ (v103 : Value).ownBlock) (Kd.R_keptB (HO2.out) hkp (fun k_ hk_ hs_ => (hk_.2) hs_)) (fun k_ hk_ => ⟨hk_.1.1, fun e_ => Or.elim (ho0.1 k_ e_.symm) (fun hs_ => hk_.2.1 hs_) (fun hn_ => Nat.not_le.2 hk_.2.2 hn_)⟩)); replace HK := Aside0.mk (Kept.then_ (S := (fun k_ => P1_ k_ ∨ P2_ k_)) hK1 hkp (fun k_ hs_ => (fun e_ => (HO1.out.1 k_ e_.symm).1) hs_)); replace HB := Aside0.mk (hb); clear HO1; clear hb; (try clear hkp); clear ho0; obtain ⟨Ao10, co10, eo10⟩ := Kd.R_slice HO2.out; subst eo10) | ((with_reducible refine gc 127 rfl ?_); refine gL 17 Try.func127 #[.slice Ao10 l2.length co10] ?_; (with_reducible refine (flyballref03_trim.calls k (fun k_ => some k_ = (.slice Ao10 l2.length co10 : Value).ownBlock) (.slice Ao10 l2.length co10) l2 t105 w0 _ ?_ ?_ A5.out).mono ?_); (repeat (first | (with_reducible first | exact HB.out | apply below_alloc | apply pw_below_drewN | apply below_drew1 | refine below_set ?_ GE101.out) | exact HB.out)); exact Kd.R_tight rfl HO2.out; rintro e w11 ⟨v106, rfl, ho0, hb, hkp⟩; refine ⟨_, rfl, ?_⟩; replace BK101 := Aside0.mk (blk_kept (by exact kU BK101) hkp (fun hs_ => (fun e_ => (Kd.R_ne HO2.out BK101.out (by decide)) e_) hs_)); have HO107 := Aside0.mk (Kd.R_mono (ok' := fun k_ => ((P1_ k_ ∨ P2_ k_) ∨ w.heap.size ≤ k_) ∧ some k_ ≠ (v103 : Value).ownBlock) ho0 (fun k_ hk_ => Or.elim hk_ (fun hs_ => ⟨(HO2.out.1 k_ (hs_).symm).1, fun e_ => (((HO104.out).1 k_ e_.symm).2) hs_⟩) (fun hn_ => ⟨.inr (Nat.le_trans (by first | exact HK.out.1 | exact (show Kept w _ (fun k_ => P1_ k_ ∨ P2_ k_) from hK1).1) hn_), Kd.fresh' (Kd.R_lt (rup HO104.out)) k_ hn_⟩))); replace HO104 := Aside0.mk (Kd.R_mono (ok' := fun k_ => ((P1_ k_ ∨ P2_ k_) ∨ w.heap.size ≤ k_) ∧ some k_ ≠ (v106 : Value).ownBlock) (Kd.R_keptB (HO104.out) hkp (fun k_ hk_ hs_ => (hk_.2) hs_)) (fun k_ hk_ => ⟨hk_.1.1, fun e_ => Or.elim (ho0.1 k_ e_.symm) (fun hs_ => hk_.2.1 hs_) (fun hn_ => Nat.not_le.2 hk_.2.2 hn_)⟩)); replace HK := Aside0.mk (Kept.then_ (S := (fun k_ => P1_ k_ ∨ P2_ k_)) hK1 hkp (fun k_ hs_ => (fun e_ => (HO2.out.1 k_ e_.symm).1) hs_)); replace HB := Aside0.mk (hb); clear HO2; clear hb; (try clear hkp); clear ho0))
 (try simp only [Act.put, List.setIfInBounds_toArray, List.set_cons_zero, List.set_cons_succ])
 go_cut [25] (fun v25 wc => ∃ (kq : Nat) (x25_5 : Bool), v25 = .bool x25_5 ∧ Aside0 (flyballref03_Low.j0 kq a0 t102 t105 x25_5 = some (r1, r2, r3)) ∧ Aside0 (kq ≤ k) ∧ Aside0 (Kd.R Kd.bool 4 wc w0.heap.size (fun k_ => ((P1_ k_ ∨ P2_ k_) ∨ w.heap.size ≤ k_) ∧ some k_ ≠ (v106 : Value).ownBlock) v103 t102) ∧ Aside0 (Kd.R Kd.bool 4 wc w0.heap.size (fun k_ => ((P1_ k_ ∨ P2_ k_) ∨ w.heap.size ≤ k_) ∧ some k_ ≠ (v103 : Value).ownBlock) v106 t105) ∧ Aside0 (wc.heap[gb101]? = some (.cells #[.bool false, (.slice none 0 0), (.slice none 0 0)] 92 (0, 0))) ∧ Aside0 (Kept w wc (fun k_ => P1_ k_ ∨ P2_ k_)) ∧ Aside0 (Below w0.heap.size w0 wc))
 case first =>
  have H := HC6.out
  clear HC6
  by_cases c12 : (t102.length : Int) = 0
  ·rw [if_pos c12] at H
   obtain ⟨c12b0, c12b1⟩ := bqT c12
   clear c12
   (first | rw [c12b0] | (simp only [i64_w, i32_w]; rw [c12b0]) | skip)
   have H' := Aside0.mk H
   clear H
   obtain ⟨Ao13, co13, eo13⟩ := Kd.R_slice HO104.out
   subst eo13
   go_wp2
   go_meet
   case rel => exact ⟨_, (true), rS, H', ⟨by first | omega | exact Nat.le_refl _⟩, ⟨rup HO104.out⟩, ⟨rup HO107.out⟩, ⟨by exact kU BK101⟩, ⟨hK1⟩, ⟨hB⟩⟩
  rw [if_neg c12] at H
  obtain ⟨c12b0, c12b1⟩ := bqF c12
  have c12b2 : ¬ (t102 = []) := fun h_ => c12 (by rw [h_]; rfl)
  (first | rw [c12b0] | (simp only [i64_w, i32_w]; rw [c12b0]) | skip)
  have H' := Aside0.mk H
  clear H
  obtain ⟨Ao14, co14, eo14⟩ := Kd.R_slice HO104.out
  subst eo14
  obtain ⟨Ao15, co15, eo15⟩ := Kd.R_slice HO107.out
  subst eo15
  go_wp2
  go_meet
  case rel => exact ⟨_, (((t105.length : Int) == 0)), rS, H', ⟨by first | omega | exact Nat.le_refl _⟩, ⟨rup HO104.out⟩, ⟨rup HO107.out⟩, ⟨by exact kU BK101⟩, ⟨hK1⟩, ⟨hB⟩⟩
 case rest =>
  clear HC6
  try clear c1
  try clear p1
  try clear p2
  try clear c9
  try clear c12
  try clear c12b0
  try clear c12b1
  try clear c12b2
  obtain ⟨kq, x25_5, rfl, HA, HJ5, HO_7, HO_8, BK101, HK, HB⟩ := hcut
  cases kq with
  | zero => exact absurd HA.out (by simp [flyballref03_Low.j0])
  | succ kj5 =>
   have H := HA.out
   clear HA
   simp only [flyballref03_Low.j0] at H
   by_cases c16 : x25_5 = true
   ·subst c16
    replace H := ifT H
    replace H := bi H
    obtain ⟨t108, A17, H⟩ := H
    simp only [Option.some.injEq, Prod.mk.injEq] at H
    obtain ⟨rfl, rfl, rfl⟩ := H
    go_wp2_with (first | ((with_reducible refine gc 128 rfl ?_); refine gL 26 Try.func128 #[] ?_; (with_reducible refine (flyballref03_one.calls  t108 _ A17.out).mono ?_); rintro e w18 ⟨v109, rfl, ho0, hb⟩; refine ⟨_, rfl, ?_⟩; have HO110 := Aside0.mk (Kd.R_lower (Kd.R_new' (Kd.R_new' (Kd.R_newM (M := fun k_ => ((P1_ k_ ∨ P2_ k_) ∨ w.heap.size ≤ k_)) ho0 (by first | exact HK.out.1 | exact (show Kept w _ (fun k_ => P1_ k_ ∨ P2_ k_) from hK1).1) (fun k_ h_ => .inr h_)) (Kd.R_lt (rup HO_7.out))) (Kd.R_lt (rup HO_8.out))) (below_size hB)); replace HO_7 := Aside0.mk (Kd.R_elder' (rup HO_7.out) (Kd.R_base ho0) hb); replace HO_8 := Aside0.mk (Kd.R_elder' (rup HO_8.out) (Kd.R_base ho0) hb); replace BK101 := kA BK101 hb; replace HK := Aside0.mk (Kept.below (S := (fun k_ => P1_ k_ ∨ P2_ k_)) hK1 hb); replace HB := bS HB hb; clear hb ho0; obtain ⟨Ao19, co19, eo19⟩ := Kd.R_slice HO110.out; subst eo19; obtain ⟨⟨hcz20_0, hcz20_1, hcz20_2⟩, hfz20_0, hfz20_1, hfz20_2⟩ := cE BK101))
    refine bodyPost_ret (results_cell_row rfl _ _ gb101 92 #[.bool false, .slice none 0 0, .slice Ao19 t108.length co19] (0, 0) _ rfl (by exact kU (p3 BK101)) Try.underlying92 rfl (by kernel_rfl)) rfl ?_
    exact ⟨_, _, er, nil5, rG (r3t HO110 BK101) (fun _ hk => ⟨hk.1.1.1.1, (by simp [Value.ownBlock])⟩), hB, hK1⟩
   ·replace c16 := Bool.eq_false_iff.mpr c16
    subst c16
    have H1 : ((flyballref02_Gcd.f kj5 t102 t105).bind fun t111 => ((flyballref01_Div.f kj5 t102 t111).bind fun bt114 => ((flyballref01_Div.f kj5 t105 t111).bind fun bt120 => ((flyballref03_trim.f kj5 bt114.1).bind fun t126 => ((flyballref03_trim.f kj5 bt120.1).bind fun t129 => (some (a0, t126, t129))))))) = some (r1, r2, r3) := by rw [if_neg (show ¬ (false = true) by decide)] at H; exact H
    clear H
    have H := H1
    clear H1
    replace H := bi H
    obtain ⟨t111, A21, H⟩ := H
    replace H := bi H
    obtain ⟨⟨t114, t115⟩, A22, H⟩ := H
    try dsimp only at H
    replace H := bi H
    obtain ⟨⟨t120, t121⟩, A23, H⟩ := H
    try dsimp only at H
    replace H := bi H
    obtain ⟨t126, A24, H⟩ := H
    replace H := bi H
    obtain ⟨t129, A25, H⟩ := H
    simp only [Option.some.injEq, Prod.mk.injEq] at H
    obtain ⟨rfl, rfl, rfl⟩ := H
    obtain ⟨Ao26, co26, eo26⟩ := Kd.R_slice HO_7.out
    subst eo26
    obtain ⟨Ao27, co27, eo27⟩ := Kd.R_slice HO_8.out
    subst eo27
    go_wp2_with (first | ((with_reducible refine gc 36 rfl ?_); refine gL 30 Try.func36 #[.slice Ao26 t102.length co26, .slice Ao27 t105.length co27] ?_; (with_reducible refine (flyballref02_Gcd.calls kj5 (fun k_ => some k_ = (.slice Ao26 t102.length co26 : Value).ownBlock) _ _ t102 (fun k_ => some k_ = (.slice Ao27 t105.length co27 : Value).ownBlock) _ _ t105 t111 _ ?_ ?_ A21.out).mono ?_); exact Kd.R_V (Kd.R_tight rfl (Kd.R_types (HO_7.out) BK101.out (by decide))); exact Kd.R_V (Kd.R_tight rfl (Kd.R_types (HO_8.out) BK101.out (by decide))); rintro e w28 ⟨v112, rfl, ho0, hb⟩; refine ⟨_, rfl, ?_⟩; have HO113 := lw HB (fun k_ => ((P1_ k_ ∨ P2_ k_) ∨ w.heap.size ≤ k_) ∧ k_ ≠ gb101) ho0 (fun k_ hk_ => Or.elim hk_ (fun hs_ => Or.elim hs_ (fun hs_ => ⟨((Kd.R_types (HO_7.out) BK101.out (by decide)).1 k_ hs_.symm).1.1, ((Kd.R_types (HO_7.out) BK101.out (by decide)).1 k_ hs_.symm).2⟩) (fun hs_ => ⟨((Kd.R_types (HO_8.out) BK101.out (by decide)).1 k_ hs_.symm).1.1, ((Kd.R_types (HO_8.out) BK101.out (by decide)).1 k_ hs_.symm).2⟩)) (fun hn_ => ⟨.inr (Nat.le_trans (by first | exact HK.out.1 | exact (show Kept w _ (fun k_ => P1_ k_ ∨ P2_ k_) from hK1).1) hn_), kF BK101 hn_⟩)); replace HO_7 := rA HO_7 hb; replace HO_8 := rA HO_8 hb; replace BK101 := kA BK101 hb; replace HK := Aside0.mk (Kept.below (S := (fun k_ => P1_ k_ ∨ P2_ k_)) hK1 hb); replace HB := bS HB hb; clear hb ho0; obtain ⟨Ao29, co29, eo29⟩ := Kd.V_slice HO113.out; subst eo29) | ((with_reducible refine gc 38 rfl ?_); refine gL 34 Try.func38 #[.slice Ao26 t102.length co26, .slice Ao29 t111.length co29] ?_; (with_reducible refine (flyballref01_Div.calls kj5 _ _ t102 _ _ t111 t114 t115 _ ?_ ?_ ?_ ?_ A22.out).mono ?_); exact cup ((Kd.R_reads' HO_7.out).2.2); exact (Kd.R_reads' HO_7.out).2.1; exact cup ((Kd.V_reads' HO113.out).2.2); exact (Kd.V_reads' HO113.out).2.1; rintro e w30 ⟨v116, v118, rfl, ho0, ho1, hb⟩; refine ⟨_, rfl, ?_⟩; replace HO113 := v2 HO113 hb ho0 ho1; have HO117 := Aside0.mk (Kd.R_lower (Kd.R_new' (Kd.R_new' (Kd.R_newM (M := fun k_ => ((P1_ k_ ∨ P2_ k_) ∨ w.heap.size ≤ k_)) ho0 (by first | exact HK.out.1 | exact (show Kept w _ (fun k_ => P1_ k_ ∨ P2_ k_) from hK1).1) (fun k_ h_ => .inr h_)) (Kd.R_lt (rup HO_7.out))) (Kd.R_lt (rup HO_8.out))) (below_size hB)); have HO119 := Aside0.mk (Kd.R_lower (Kd.R_new' (Kd.R_new' (Kd.R_newM (M := fun k_ => ((P1_ k_ ∨ P2_ k_) ∨ w.heap.size ≤ k_)) ho1 (by first | exact HK.out.1 | exact (show Kept w _ (fun k_ => P1_ k_ ∨ P2_ k_) from hK1).1) (fun k_ h_ => .inr h_)) (Kd.R_lt (rup HO_7.out))) (Kd.R_lt (rup HO_8.out))) (below_size hB)); replace HO_7 := r2 HO_7 hb ho0 ho1; replace HO_8 := r2 HO_8 hb ho0 ho1; replace BK101 := kA BK101 hb; replace HK := Aside0.mk (Kept.below (S := (fun k_ => P1_ k_ ∨ P2_ k_)) hK1 hb); replace HB := bS HB hb; clear hb ho0 ho1) | ((with_reducible refine gc 38 rfl ?_); refine gL 40 Try.func38 #[.slice Ao27 t105.length co27, .slice Ao29 t111.length co29] ?_; (with_reducible refine (flyballref01_Div.calls kj5 _ _ t105 _ _ t111 t120 t121 _ ?_ ?_ ?_ ?_ A23.out).mono ?_); exact cup ((Kd.R_reads' HO_8.out).2.2); exact (Kd.R_reads' HO_8.out).2.1; exact cup ((Kd.V_reads' HO113.out).2.2); exact (Kd.V_reads' HO113.out).2.1; rintro e w31 ⟨v122, v124, rfl, ho0, ho1, hb⟩; refine ⟨_, rfl, ?_⟩; replace HO113 := v2 HO113 hb ho0 ho1; have HO123 := Aside0.mk (Kd.R_lower (Kd.R_new' (Kd.R_new' (Kd.R_new' (Kd.R_new' (Kd.R_newM (M := fun k_ => ((P1_ k_ ∨ P2_ k_) ∨ w.heap.size ≤ k_)) ho0 (by first | exact HK.out.1 | exact (show Kept w _ (fun k_ => P1_ k_ ∨ P2_ k_) from hK1).1) (fun k_ h_ => .inr h_)) (Kd.R_lt (rup HO_7.out))) (Kd.R_lt (rup HO_8.out))) (Kd.R_lt (rup HO117.out))) (Kd.R_lt (rup HO119.out))) (below_size hB)); have HO125 := Aside0.mk (Kd.R_lower (Kd.R_new' (Kd.R_new' (Kd.R_new' (Kd.R_new' (Kd.R_newM (M := fun k_ => ((P1_ k_ ∨ P2_ k_) ∨ w.heap.size ≤ k_)) ho1 (by first | exact HK.out.1 | exact (show Kept w _ (fun k_ => P1_ k_ ∨ P2_ k_) from hK1).1) (fun k_ h_ => .inr h_)) (Kd.R_lt (rup HO_7.out))) (Kd.R_lt (rup HO_8.out))) (Kd.R_lt (rup HO117.out))) (Kd.R_lt (rup HO119.out))) (below_size hB)); replace HO_7 := r2 HO_7 hb ho0 ho1; replace HO_8 := r2 HO_8 hb ho0 ho1; replace HO117 := r2 HO117 hb ho0 ho1; replace HO119 := r2 HO119 hb ho0 ho1; replace BK101 := kA BK101 hb; replace HK := Aside0.mk (Kept.below (S := (fun k_ => P1_ k_ ∨ P2_ k_)) hK1 hb); replace HB := bS HB hb; clear hb ho0 ho1; obtain ⟨Ao32, co32, eo32⟩ := Kd.R_slice HO117.out; subst eo32) | ((with_reducible refine gc 127 rfl ?_); refine gL 45 Try.func127 #[.slice Ao32 t114.length co32] ?_; (with_reducible refine (flyballref03_trim.calls kj5 (fun k_ => some k_ = (.slice Ao32 t114.length co32 : Value).ownBlock) (.slice Ao32 t114.length co32) t114 t126 w0 _ ?_ ?_ A24.out).mono ?_); (repeat (first | (with_reducible first | exact HB.out | apply below_alloc | apply pw_below_drewN | apply below_drew1 | refine below_set ?_ GE101.out) | exact HB.out)); exact Kd.R_tight rfl HO117.out; rintro e w33 ⟨v127, rfl, ho0, hb, hkp⟩; refine ⟨_, rfl, ?_⟩; replace BK101 := Aside0.mk (blk_kept (by exact kU BK101) hkp (fun hs_ => (fun e_ => (Kd.R_ne HO117.out BK101.out (by decide)) e_) hs_)); replace HO113 := Aside0.mk (Kd.V_mono (ok' := fun k_ => ((P1_ k_ ∨ P2_ k_) ∨ w.heap.size ≤ k_) ∧ some k_ ≠ (v118 : Value).ownBlock ∧ some k_ ≠ (v122 : Value).ownBlock ∧ some k_ ≠ (v124 : Value).ownBlock ∧ k_ ≠ gb101 ∧ some k_ ≠ (v127 : Value).ownBlock) (Kd.V_keptB (HO113.out) hkp (fun k_ hk_ hs_ => (hk_.1.1.1.2) hs_)) (fun k_ hk_ => ⟨hk_.1.1.1.1.1.1, hk_.1.1.1.2, hk_.1.1.2, hk_.1.2, hk_.1.1.1.1.1.2, fun e_ => Or.elim (ho0.1 k_ e_.symm) (fun hs_ => hk_.2.1 hs_) (fun hn_ => Nat.not_le.2 hk_.2.2 hn_)⟩)); have HO128 := Aside0.mk (Kd.R_mono (ok' := fun k_ => ((P1_ k_ ∨ P2_ k_) ∨ w.heap.size ≤ k_) ∧ some k_ ≠ (.slice Ao26 t102.length co26 : Value).ownBlock ∧ some k_ ≠ (.slice Ao27 t105.length co27 : Value).ownBlock ∧ some k_ ≠ (v118 : Value).ownBlock ∧ some k_ ≠ (v122 : Value).ownBlock ∧ some k_ ≠ (v124 : Value).ownBlock) ho0 (fun k_ hk_ => Or.elim hk_ (fun hs_ => ⟨(HO117.out.1 k_ (hs_).symm).1.1.1.1.1, fun e_ => (((HO_7.out).1 k_ e_.symm).1.1.1.2) hs_, fun e_ => (((HO_8.out).1 k_ e_.symm).1.1.1.2) hs_, fun e_ => (((HO119.out).1 k_ e_.symm).1.1.1.1.2) hs_, fun e_ => (((HO123.out).1 k_ e_.symm).1.2) hs_, fun e_ => (((HO125.out).1 k_ e_.symm).1.2) hs_⟩) (fun hn_ => ⟨.inr (Nat.le_trans (by first | exact HK.out.1 | exact (show Kept w _ (fun k_ => P1_ k_ ∨ P2_ k_) from hK1).1) hn_), Kd.fresh' (Kd.R_lt (rup HO_7.out)) k_ hn_, Kd.fresh' (Kd.R_lt (rup HO_8.out)) k_ hn_, Kd.fresh' (Kd.R_lt (rup HO119.out)) k_ hn_, Kd.fresh' (Kd.R_lt (rup HO123.out)) k_ hn_, Kd.fresh' (Kd.R_lt (rup HO125.out)) k_ hn_⟩))); replace HO_7 := Aside0.mk (Kd.R_mono (ok' := fun k_ => ((P1_ k_ ∨ P2_ k_) ∨ w.heap.size ≤ k_) ∧ some k_ ≠ (.slice Ao27 t105.length co27 : Value).ownBlock ∧ some k_ ≠ (v118 : Value).ownBlock ∧ some k_ ≠ (v122 : Value).ownBlock ∧ some k_ ≠ (v124 : Value).ownBlock ∧ some k_ ≠ (v127 : Value).ownBlock) (Kd.R_keptB (HO_7.out) hkp (fun k_ hk_ hs_ => (hk_.1.1.1.2) hs_)) (fun k_ hk_ => ⟨hk_.1.1.1.1.1.1, hk_.1.1.1.1.1.2, hk_.1.1.1.2, hk_.1.1.2, hk_.1.2, fun e_ => Or.elim (ho0.1 k_ e_.symm) (fun hs_ => hk_.2.1 hs_) (fun hn_ => Nat.not_le.2 hk_.2.2 hn_)⟩)); replace HO_8 := Aside0.mk (Kd.R_mono (ok' := fun k_ => ((P1_ k_ ∨ P2_ k_) ∨ w.heap.size ≤ k_) ∧ some k_ ≠ (.slice Ao26 t102.length co26 : Value).ownBlock ∧ some k_ ≠ (v118 : Value).ownBlock ∧ some k_ ≠ (v122 : Value).ownBlock ∧ some k_ ≠ (v124 : Value).ownBlock ∧ some k_ ≠ (v127 : Value).ownBlock) (Kd.R_keptB (HO_8.out) hkp (fun k_ hk_ hs_ => (hk_.1.1.1.2) hs_)) (fun k_ hk_ => ⟨hk_.1.1.1.1.1.1, hk_.1.1.1.1.1.2, hk_.1.1.1.2, hk_.1.1.2, hk_.1.2, fun e_ => Or.elim (ho0.1 k_ e_.symm) (fun hs_ => hk_.2.1 hs_) (fun hn_ => Nat.not_le.2 hk_.2.2 hn_)⟩)); replace HO119 := Aside0.mk (Kd.R_mono (ok' := fun k_ => ((P1_ k_ ∨ P2_ k_) ∨ w.heap.size ≤ k_) ∧ some k_ ≠ (.slice Ao26 t102.length co26 : Value).ownBlock ∧ some k_ ≠ (.slice Ao27 t105.length co27 : Value).ownBlock ∧ some k_ ≠ (v122 : Value).ownBlock ∧ some k_ ≠ (v124 : Value).ownBlock ∧ some k_ ≠ (v127 : Value).ownBlock) (Kd.R_keptB (HO119.out) hkp (fun k_ hk_ hs_ => (hk_.1.1.1.1.2) hs_)) (fun k_ hk_ => ⟨hk_.1.1.1.1.1.1, hk_.1.1.1.1.2, hk_.1.1.1.2, hk_.1.1.2, hk_.1.2, fun e_ => Or.elim (ho0.1 k_ e_.symm) (fun hs_ => hk_.2.1 hs_) (fun hn_ => Nat.not_le.2 hk_.2.2 hn_)⟩)); replace HO123 := Aside0.mk (Kd.R_mono (ok' := fun k_ => ((P1_ k_ ∨ P2_ k_) ∨ w.heap.size ≤ k_) ∧ some k_ ≠ (.slice Ao26 t102.length co26 : Value).ownBlock ∧ some k_ ≠ (.slice Ao27 t105.length co27 : Value).ownBlock ∧ some k_ ≠ (v118 : Value).ownBlock ∧ some k_ ≠ (v124 : Value).ownBlock ∧ some k_ ≠ (v127 : Value).ownBlock) (Kd.R_keptB (HO123.out) hkp (fun k_ hk_ hs_ => (hk_.1.2) hs_)) (fun k_ hk_ => ⟨hk_.1.1.1.1.1.1, hk_.1.1.1.1.2, hk_.1.1.1.2, hk_.1.2, hk_.1.1.1.1.1.2, fun e_ => Or.elim (ho0.1 k_ e_.symm) (fun hs_ => hk_.2.1 hs_) (fun hn_ => Nat.not_le.2 hk_.2.2 hn_)⟩)); replace HO125 := Aside0.mk (Kd.R_mono (ok' := fun k_ => ((P1_ k_ ∨ P2_ k_) ∨ w.heap.size ≤ k_) ∧ some k_ ≠ (.slice Ao26 t102.length co26 : Value).ownBlock ∧ some k_ ≠ (.slice Ao27 t105.length co27 : Value).ownBlock ∧ some k_ ≠ (v118 : Value).ownBlock ∧ some k_ ≠ (v122 : Value).ownBlock ∧ some k_ ≠ (v127 : Value).ownBlock) (Kd.R_keptB (HO125.out) hkp (fun k_ hk_ hs_ => (hk_.1.2) hs_)) (fun k_ hk_ => ⟨hk_.1.1.1.1.1.1, hk_.1.1.1.1.2, hk_.1.1.1.2, hk_.1.2, hk_.1.1.1.1.1.2, fun e_ => Or.elim (ho0.1 k_ e_.symm) (fun hs_ => hk_.2.1 hs_) (fun hn_ => Nat.not_le.2 hk_.2.2 hn_)⟩)); replace HK := Aside0.mk (Kept.then_ (S := (fun k_ => P1_ k_ ∨ P2_ k_)) hK1 hkp (fun k_ hs_ => (fun e_ => (HO117.out.1 k_ e_.symm).1.1.1.1.1) hs_)); replace HB := Aside0.mk (hb); clear HO117; clear hb; (try clear hkp); clear ho0; obtain ⟨Ao34, co34, eo34⟩ := Kd.R_slice HO123.out; subst eo34) | ((with_reducible refine gc 127 rfl ?_); refine gL 47 Try.func127 #[.slice Ao34 t120.length co34] ?_; (with_reducible refine (flyballref03_trim.calls kj5 (fun k_ => some k_ = (.slice Ao34 t120.length co34 : Value).ownBlock) (.slice Ao34 t120.length co34) t120 t129 w0 _ ?_ ?_ A25.out).mono ?_); (repeat (first | (with_reducible first | exact HB.out | apply below_alloc | apply pw_below_drewN | apply below_drew1 | refine below_set ?_ GE101.out) | exact HB.out)); exact Kd.R_tight rfl HO123.out; rintro e w35 ⟨v130, rfl, ho0, hb, hkp⟩; refine ⟨_, rfl, ?_⟩; replace BK101 := Aside0.mk (blk_kept (by exact kU BK101) hkp (fun hs_ => (fun e_ => (Kd.R_ne HO123.out BK101.out (by decide)) e_) hs_)); replace HO113 := Aside0.mk (Kd.V_mono (ok' := fun k_ => ((P1_ k_ ∨ P2_ k_) ∨ w.heap.size ≤ k_) ∧ some k_ ≠ (v118 : Value).ownBlock ∧ some k_ ≠ (v124 : Value).ownBlock ∧ some k_ ≠ (v127 : Value).ownBlock ∧ k_ ≠ gb101 ∧ some k_ ≠ (v130 : Value).ownBlock) (Kd.V_keptB (HO113.out) hkp (fun k_ hk_ hs_ => (hk_.2.2.1) hs_)) (fun k_ hk_ => ⟨hk_.1.1, hk_.1.2.1, hk_.1.2.2.2.1, hk_.1.2.2.2.2.2, hk_.1.2.2.2.2.1, fun e_ => Or.elim (ho0.1 k_ e_.symm) (fun hs_ => hk_.2.1 hs_) (fun hn_ => Nat.not_le.2 hk_.2.2 hn_)⟩)); have HO131 := Aside0.mk (Kd.R_mono (ok' := fun k_ => ((P1_ k_ ∨ P2_ k_) ∨ w.heap.size ≤ k_) ∧ some k_ ≠ (.slice Ao26 t102.length co26 : Value).ownBlock ∧ some k_ ≠ (.slice Ao27 t105.length co27 : Value).ownBlock ∧ some k_ ≠ (v118 : Value).ownBlock ∧ some k_ ≠ (v124 : Value).ownBlock ∧ some k_ ≠ (v127 : Value).ownBlock) ho0 (fun k_ hk_ => Or.elim hk_ (fun hs_ => ⟨(HO123.out.1 k_ (hs_).symm).1, fun e_ => (((HO_7.out).1 k_ e_.symm).2.2.2.1) hs_, fun e_ => (((HO_8.out).1 k_ e_.symm).2.2.2.1) hs_, fun e_ => (((HO119.out).1 k_ e_.symm).2.2.2.1) hs_, fun e_ => (((HO125.out).1 k_ e_.symm).2.2.2.2.1) hs_, fun e_ => (((HO128.out).1 k_ e_.symm).2.2.2.2.1) hs_⟩) (fun hn_ => ⟨.inr (Nat.le_trans (by first | exact HK.out.1 | exact (show Kept w _ (fun k_ => P1_ k_ ∨ P2_ k_) from hK1).1) hn_), Kd.fresh' (Kd.R_lt (rup HO_7.out)) k_ hn_, Kd.fresh' (Kd.R_lt (rup HO_8.out)) k_ hn_, Kd.fresh' (Kd.R_lt (rup HO119.out)) k_ hn_, Kd.fresh' (Kd.R_lt (rup HO125.out)) k_ hn_, Kd.fresh' (Kd.R_lt (rup HO128.out)) k_ hn_⟩))); replace HO_7 := Aside0.mk (Kd.R_mono (ok' := fun k_ => ((P1_ k_ ∨ P2_ k_) ∨ w.heap.size ≤ k_) ∧ some k_ ≠ (.slice Ao27 t105.length co27 : Value).ownBlock ∧ some k_ ≠ (v118 : Value).ownBlock ∧ some k_ ≠ (v124 : Value).ownBlock ∧ some k_ ≠ (v127 : Value).ownBlock ∧ some k_ ≠ (v130 : Value).ownBlock) (Kd.R_keptB (HO_7.out) hkp (fun k_ hk_ hs_ => (hk_.2.2.2.1) hs_)) (fun k_ hk_ => ⟨hk_.1.1, hk_.1.2.1, hk_.1.2.2.1, hk_.1.2.2.2.2.1, hk_.1.2.2.2.2.2, fun e_ => Or.elim (ho0.1 k_ e_.symm) (fun hs_ => hk_.2.1 hs_) (fun hn_ => Nat.not_le.2 hk_.2.2 hn_)⟩)); replace HO_8 := Aside0.mk (Kd.R_mono (ok' := fun k_ => ((P1_ k_ ∨ P2_ k_) ∨ w.heap.size ≤ k_) ∧ some k_ ≠ (.slice Ao26 t102.length co26 : Value).ownBlock ∧ some k_ ≠ (v118 : Value).ownBlock ∧ some k_ ≠ (v124 : Value).ownBlock ∧ some k_ ≠ (v127 : Value).ownBlock ∧ some k_ ≠ (v130 : Value).ownBlock) (Kd.R_keptB (HO_8.out) hkp (fun k_ hk_ hs_ => (hk_.2.2.2.1) hs_)) (fun k_ hk_ => ⟨hk_.1.1, hk_.1.2.1, hk_.1.2.2.1, hk_.1.2.2.2.2.1, hk_.1.2.2.2.2.2, fun e_ => Or.elim (ho0.1 k_ e_.symm) (fun hs_ => hk_.2.1 hs_) (fun hn_ => Nat.not_le.2 hk_.2.2 hn_)⟩)); replace HO119 := Aside0.mk (Kd.R_mono (ok' := fun k_ => ((P1_ k_ ∨ P2_ k_) ∨ w.heap.size ≤ k_) ∧ some k_ ≠ (.slice Ao26 t102.length co26 : Value).ownBlock ∧ some k_ ≠ (.slice Ao27 t105.length co27 : Value).ownBlock ∧ some k_ ≠ (v124 : Value).ownBlock ∧ some k_ ≠ (v127 : Value).ownBlock ∧ some k_ ≠ (v130 : Value).ownBlock) (Kd.R_keptB (HO119.out) hkp (fun k_ hk_ hs_ => (hk_.2.2.2.1) hs_)) (fun k_ hk_ => ⟨hk_.1.1, hk_.1.2.1, hk_.1.2.2.1, hk_.1.2.2.2.2.1, hk_.1.2.2.2.2.2, fun e_ => Or.elim (ho0.1 k_ e_.symm) (fun hs_ => hk_.2.1 hs_) (fun hn_ => Nat.not_le.2 hk_.2.2 hn_)⟩)); replace HO125 := Aside0.mk (Kd.R_mono (ok' := fun k_ => ((P1_ k_ ∨ P2_ k_) ∨ w.heap.size ≤ k_) ∧ some k_ ≠ (.slice Ao26 t102.length co26 : Value).ownBlock ∧ some k_ ≠ (.slice Ao27 t105.length co27 : Value).ownBlock ∧ some k_ ≠ (v118 : Value).ownBlock ∧ some k_ ≠ (v127 : Value).ownBlock ∧ some k_ ≠ (v130 : Value).ownBlock) (Kd.R_keptB (HO125.out) hkp (fun k_ hk_ hs_ => (hk_.2.2.2.2.1) hs_)) (fun k_ hk_ => ⟨hk_.1.1, hk_.1.2.1, hk_.1.2.2.1, hk_.1.2.2.2.1, hk_.1.2.2.2.2.2, fun e_ => Or.elim (ho0.1 k_ e_.symm) (fun hs_ => hk_.2.1 hs_) (fun hn_ => Nat.not_le.2 hk_.2.2 hn_)⟩)); replace HO128 := Aside0.mk (Kd.R_mono (ok' := fun k_ => ((P1_ k_ ∨ P2_ k_) ∨ w.heap.size ≤ k_) ∧ some k_ ≠ (.slice Ao26 t102.length co26 : Value).ownBlock ∧ some k_ ≠ (.slice Ao27 t105.length co27 : Value).ownBlock ∧ some k_ ≠ (v118 : Value).ownBlock ∧ some k_ ≠ (v124 : Value).ownBlock ∧ some k_ ≠ (v130 : Value).ownBlock) (Kd.R_keptB (HO128.out) hkp (fun k_ hk_ hs_ => (hk_.2.2.2.2.1) hs_)) (fun k_ hk_ => ⟨hk_.1.1, hk_.1.2.1, hk_.1.2.2.1, hk_.1.2.2.2.1, hk_.1.2.2.2.2.2, fun e_ => Or.elim (ho0.1 k_ e_.symm) (fun hs_ => hk_.2.1 hs_) (fun hn_ => Nat.not_le.2 hk_.2.2 hn_)⟩)); replace HK := Aside0.mk (Kept.then_ (S := (fun k_ => P1_ k_ ∨ P2_ k_)) hK1 hkp (fun k_ hs_ => (fun e_ => (HO123.out.1 k_ e_.symm).1) hs_)); replace HB := Aside0.mk (hb); clear HO123; clear hb; (try clear hkp); clear ho0; obtain ⟨Ao36, co36, eo36⟩ := Kd.R_slice HO131.out; subst eo36; obtain ⟨Ao37, co37, eo37⟩ := Kd.R_slice HO128.out; subst eo37; obtain ⟨⟨hcz38_0, hcz38_1, hcz38_2⟩, hfz38_0, hfz38_1, hfz38_2⟩ := cE BK101))
    refine bodyPost_ret (results_cell_row rfl _ _ gb101 92 #[.bool a0, .slice Ao37 t126.length co37, .slice Ao36 t129.length co36] (0, 0) _ rfl (by exact kU (p3 BK101)) Try.underlying92 rfl (by kernel_rfl)) rfl ?_
    exact ⟨_, _, er, rG (r3t HO128 BK101) (fun _ hk => ⟨hk.1.1, hk.1.2.2.2.2.2⟩), rG (r3t HO131 BK101) (fun _ hk => ⟨hk.1.1, hk.1.2.2.2.2.2⟩), hB, hK1⟩
end Go.Proofs.Ytagbnkbhobmgjaa.Fn
end
section
-- Written by a program of this session (a turned copy of the kit's printer, and hand-written parts). Not trusted: Lean checks it.
namespace Go.Proofs.Ytagbnkbhobmgjaa.Fn
open Go.RowKit Go.Proofs.YtagbnkbhobmgjaaW.PrintWords Go.Proofs.YtagbnkbhobmgjaaW.PrintLast Go.Proofs.YtagbnkbhobmgjaaW.PrintMore
attribute [local go_sem] max2_int min2_int max_two min_two max_three min_three max_four min_four   -- for this text's walks alone
set_option linter.unusedVariables false
set_option linter.unusedSimpArgs false
/-! ### flyballlaw03_of: function 84 -/
def flyballlaw03_of.f (k : Nat) (a0_0 : Bool) (l0_1 : List Int) (l0_2 : List Int) : Option (Bool × List Bool × List Bool) := (flyballref02_Bits.f k l0_1).bind fun t103 => ((flyballref02_Bits.f k l0_2).bind fun t106 => ((flyballref03_Low.f k a0_0 t103 t106).bind fun bt109 => (some (bt109.1, bt109.2.1, bt109.2.2))))
def flyballlaw03_of.T1 : Bool × List (List Nat × List Nat) := (true, [([], []), ([0], [0]), ([], []), ([2], [2]), ([3], [3]), ([], []), ([5], [5]), ([6, 4], [6]), ([1, 4, 7, 7], [1, 4, 7]), ([8, 8, 0, 1, 2, 3, 4, 5, 6, 7, 8], [8])])
def flyballlaw03_of.B1 : List Nat := [0, 1, 0, 4, 12, 0, 32, 124, 255, 511]
theorem flyballlaw03_of.tab1 : rtab .any (opsOf Try.f84 1) = flyballlaw03_of.T1 := by kernel_rfl
theorem flyballlaw03_of.bits1 : waitsOk flyballlaw03_of.T1.2 flyballlaw03_of.B1 = true := by kernel_rfl
set_option maxHeartbeats 8000000 in
set_option maxRecDepth 100000 in
theorem flyballlaw03_of.calls (k : Nat) (a0_0 : Bool) (A0_1 : Option Addr) (c0_1 : Nat) (l0_1 : List Int) (A0_2 : Option Addr) (c0_2 : Nat) (l0_2 : List Int) (r1 : Bool) (r2 : List Bool) (r3 : List Bool) (w : World) (hr0_1 : Kd.C (Kd.int .u32) w A0_1 l0_1.length l0_1) (hc0_1 : l0_1.length ≤ c0_1) (hr0_2 : Kd.C (Kd.int .u32) w A0_2 l0_2.length l0_2) (hc0_2 : l0_2.length ≤ c0_2) (H : flyballlaw03_of.f k a0_0 l0_1 l0_2 = some (r1, r2, r3)) :
  Calls Try.prog 84 #[.agg #[.bool a0_0, .slice A0_1 l0_1.length c0_1, .slice A0_2 l0_2.length c0_2]] w fun e w' => ∃ v1_ v2_ : Value, e = .returned (.agg #[.bool r1, v1_, v2_]) ∧ Kd.R Kd.bool 4 w' w.heap.size (fun k_ => some k_ ≠ (v2_ : Value).ownBlock) v1_ r2 ∧ Kd.R Kd.bool 4 w' w.heap.size (fun k_ => some k_ ≠ (v1_ : Value).ownBlock) v2_ r3 ∧ Below w.heap.size w w' := by
 have hu69 := Try.underlying69
 have hu92 := Try.underlying92
 have HR0_1 := Aside0.mk hr0_1
 have HC0_1 := Aside0.mk hc0_1
 clear hr0_1 hc0_1
 have HR0_2 := Aside0.mk hr0_2
 have HC0_2 := Aside0.mk hc0_2
 clear hr0_2 hc0_2
 have HB := Aside0.mk (Below.refl w.heap.size w)
 unfold flyballlaw03_of.f at H
 replace H := bi H
 obtain ⟨t103, A2, H⟩ := H
 replace H := bi H
 obtain ⟨t106, A3, H⟩ := H
 replace H := bi H
 obtain ⟨⟨t109, t110, t113⟩, A4, H⟩ := H
 try dsimp only at H
 simp only [Option.some.injEq, Prod.mk.injEq] at H
 obtain ⟨rfl, rfl, rfl⟩ := H
 go_enter Try.func84, Try.ntmps84
 try go_wp2_with (first | ((with_reducible refine gd 1 rfl ?_); refine bx 1 #[.bool a0_0, .slice A0_1 l0_1.length c0_1, .slice A0_2 l0_2.length c0_2] ?_; intro gb101 hg w5 hbox hb; have BK101 := Aside0.mk hbox; have GW101 := gB hg HB; have GE101 := gB hg HB; replace HB := bA HB hb; clear hb hbox hg) | ((with_reducible refine gd 2 rfl ?_); refine box_event ?hg (N := 2) ?hd (cs := #[.bool false, .slice none 0 0, .slice none 0 0]) (t := 92) ?hr ?_; (case hd => rfl); (case hg => rfl); (case hr => first | (go_simp; done) | (go_simp; rfl)); intro gb102 hg w6 hbox hb; have BK102 := Aside0.mk hbox; have GW102 := gS' hg HB; have GE102 := gS' hg HB; replace HB := bS HB hb; have NB101_102 := nL hg BK101; have NB102_101 := nR hg BK101; replace BK101 := kA BK101 hb; clear hb hbox hg))
 replace BK101 := kd BK101
 replace BK102 := kd BK102
 replace HB := bd HB
 refine st (S := fun w' => B3 w' gb101 (.bool a0_0) (.slice A0_1 l0_1.length c0_1) (.slice A0_2 l0_2.length c0_2)) 10 [] (tf 0 10) (b3 BK101) (fun hHeld => ?_); refine with_tabW flyballlaw03_of.tab1 flyballlaw03_of.bits1 (fun HT_ HW_ => ?_)
 generalize w6.drew = w7 at BK101 BK102 HB hHeld ⊢
 refine pu 0 3 (tf 1 9) ?_
 refine pu 2 5 #[true, false, true, false, false, false, false, false, false, false] ?_
 refine pu 5 8 #[true, false, true, false, false, true, false, false, false, false] ?_
 refine tk 1 4 #[true, true, true, false, false, true, false, false, false, false] hHeld ?_
 refine tk 3 6 #[true, true, true, true, false, true, false, false, false, false] hHeld ?_
 refine tk 6 9 #[true, true, true, true, false, true, true, false, false, false] hHeld ?_
 refine on 4 (some 7) (tf 7 3) (fun K hK => ?_)
 refine gS Try.func25 #[.slice A0_1 l0_1.length c0_1] ?_
 with_reducible refine (flyballref02_Bits.calls k _ _ l0_1 t103 _ ?_ ?_ A2.out).mono ?_
 exact Kd.C_below HR0_1.out (bup HB.out)
 exact HC0_1.out
 rintro e w8 ⟨v104, rfl, ho0, hb⟩
 refine ⟨_, rfl, ?_⟩
 have HO105 := Aside0.mk (Kd.R_lower ho0 (below_size hB))
 replace BK101 := kA BK101 hb
 replace BK102 := kA BK102 hb
 replace HB := bS HB hb
 clear hb ho0
 refine hK.out _ _ (b3 BK101) (fun hHeld => nm ?_)
 clear hK K
 refine on 7 (some 10) (tf 8 2) (fun K hK => ?_)
 refine gS Try.func25 #[.slice A0_2 l0_2.length c0_2] ?_
 with_reducible refine (flyballref02_Bits.calls k _ _ l0_2 t106 _ ?_ ?_ A3.out).mono ?_
 exact Kd.C_below HR0_2.out (bup HB.out)
 exact HC0_2.out
 rintro e w9 ⟨v107, rfl, ho0, hb⟩
 refine ⟨_, rfl, ?_⟩
 have HO108 := Aside0.mk (Kd.R_lower (Kd.R_new' ho0 (Kd.R_lt (rup HO105.out))) (below_size hB))
 replace HO105 := Aside0.mk (Kd.R_elder' (rup HO105.out) (Kd.R_base ho0) hb)
 replace BK101 := kA BK101 hb
 replace BK102 := kA BK102 hb
 replace HB := bS HB hb
 clear hb ho0
 obtain ⟨Ao10, co10, eo10⟩ := Kd.R_slice HO105.out
 (first | subst eo10 | (injection eo10 with f1_ f2_ f3_; have f4_ := f1_.symm; have f5_ := f3_.symm; clear f1_ f2_ f3_; subst f4_; subst f5_))
 obtain ⟨Ao11, co11, eo11⟩ := Kd.R_slice HO108.out
 (first | subst eo11 | (injection eo11 with f1_ f2_ f3_; have f4_ := f1_.symm; have f5_ := f3_.symm; clear f1_ f2_ f3_; subst f4_; subst f5_))
 refine hK.out _ _ (b3 BK101) (fun hHeld => nm ?_)
 clear hK K
 refine on 8 (some 11) (tf 9 1) (fun K hK => ?_)
 refine gS Try.func96 #[.bool a0_0, .slice Ao10 t103.length co10, .slice Ao11 t106.length co11] ?_
 with_reducible refine (flyballref03_Low.calls k a0_0 (fun k_ => some k_ = (.slice Ao10 t103.length co10 : Value).ownBlock) (.slice Ao10 t103.length co10) t103 (fun k_ => some k_ = (.slice Ao11 t106.length co11 : Value).ownBlock) (.slice Ao11 t106.length co11) t106 t109 t110 t113 w _ ?_ ?_ ?_ ?_ ?_ A4.out).mono ?_
 (repeat (first | (with_reducible first | exact HB.out | apply below_alloc | apply pw_below_drewN | apply below_drew1 | refine below_set ?_ GE101.out | refine below_set ?_ GE102.out) | exact HB.out))
 exact Kd.R_tight rfl HO105.out
 exact fun k_ e_ => (HO105.out.1 k_ e_.symm).2
 exact Kd.R_tight rfl HO108.out
 exact fun k_ e_ => (HO108.out.1 k_ e_.symm).2
 rintro e w12 ⟨v111, v114, rfl, ho0, ho1, hb, hkp⟩
 refine ⟨_, rfl, ?_⟩
 replace BK101 := Aside0.mk (blk_kept (by exact kU BK101) hkp (fun hs_ => Or.elim hs_ (fun e_ => (fun e_ => (Kd.R_ne HO105.out BK101.out (by decide)) e_) e_) (fun e_ => (fun e_ => (Kd.R_ne HO108.out BK101.out (by decide)) e_) e_)))
 replace BK102 := Aside0.mk (blk_kept (by exact kU BK102) hkp (fun hs_ => Or.elim hs_ (fun e_ => (fun e_ => (Kd.R_ne HO105.out BK102.out (by decide)) e_) e_) (fun e_ => (fun e_ => (Kd.R_ne HO108.out BK102.out (by decide)) e_) e_)))
 have HO112 := Aside0.mk (Kd.R_mono (ok' := fun k_ => some k_ ≠ (v114 : Value).ownBlock) ho0 (fun k_ hk_ => hk_.2))
 have HO115 := Aside0.mk (Kd.R_mono (ok' := fun k_ => some k_ ≠ (v111 : Value).ownBlock) ho1 (fun k_ hk_ => hk_.2))
 replace HB := Aside0.mk (hb)
 clear HO105 HO108
 clear hb
 (try clear hkp)
 clear ho0 ho1
 obtain ⟨Ao14, co14, eo14⟩ := Kd.R_slice HO112.out
 (first | subst eo14 | (injection eo14 with f1_ f2_ f3_; have f4_ := f1_.symm; have f5_ := f3_.symm; clear f1_ f2_ f3_; subst f4_; subst f5_))
 obtain ⟨Ao16, co16, eo16⟩ := Kd.R_slice HO115.out
 (first | subst eo16 | (injection eo16 with f1_ f2_ f3_; have f4_ := f1_.symm; have f5_ := f3_.symm; clear f1_ f2_ f3_; subst f4_; subst f5_))
 refine hK.out _ _ (b3 BK101) (fun hHeld => nm ?_)
 clear hK K
 refine on 9 none (tf 10 0) (fun K hK => ?_)
 obtain ⟨hs13, hfs13⟩ := e0 BK102
 have hns13_0 := NB101_102.out
 have hms13_0 := NB102_101.out
 obtain ⟨hs15, hfs15⟩ := e1 BK102
 have hns15_0 := NB101_102.out
 have hms15_0 := NB102_101.out
 obtain ⟨hs17, hfs17⟩ := e2 BK102
 have hns17_0 := NB101_102.out
 have hms17_0 := NB102_101.out
 refine sk ?_
 refine hK.out _ _ (F3 hHeld NB101_102) (fun hHeld => ?_)
 clear hK K
 refine done_ (done_of HT_.out (by kernel_rfl)) ?_
 try go_wp2
 refine bodyPost_ret (results_cell_row rfl _ _ gb102 92 #[.bool t109, .slice Ao14 t110.length co14, .slice Ao16 t113.length co16] (0, 0) _ rfl (by exact kU (p3 BK102)) Try.underlying92 rfl (by kernel_rfl)) rfl ?_
 exact ⟨_, _, er, rG (r3t HO112 BK102) (fun _ hk => hk.1), rG (r3t HO115 BK102) (fun _ hk => hk.1), hB⟩
end Go.Proofs.Ytagbnkbhobmgjaa.Fn
end
section
-- Written by a program of this session (a turned copy of the kit's printer, and hand-written parts). Not trusted: Lean checks it.
namespace Go.Proofs.Ytagbnkbhobmgjaa.Fn
open Go.RowKit Go.Proofs.YtagbnkbhobmgjaaW.PrintWords Go.Proofs.YtagbnkbhobmgjaaW.PrintLast Go.Proofs.YtagbnkbhobmgjaaW.PrintMore
attribute [local go_sem] max2_int min2_int max_two min_two max_three min_three max_four min_four   -- for this text's walks alone
set_option linter.unusedVariables false
set_option linter.unusedSimpArgs false
/-! ### flyballref02_Same: function 106 -/
def flyballref02_Same.l0 : Nat → List Int → List Int → Int → Option (Bool)
 | 0, _, _, _ => none
 | k + 1, x0, x1, x5 => if x5 < (x0.length : Int) then (if 0 ≤ x5 then (if x5 < (x1.length : Int) then (if (rd x0 x5) = (rd x1 x5) then (flyballref02_Same.l0 k x0 x1 (wrap64 (x5 + 1))) else (some false)) else (none)) else (none)) else (some true)
def flyballref02_Same.f (k : Nat) (l0 : List Int) (l1 : List Int) : Option (Bool) := if (l0.length : Int) = (l1.length : Int) then (flyballref02_Same.l0 k l0 l1 0) else (some false)
set_option maxHeartbeats 8000000 in
set_option maxRecDepth 100000 in
theorem flyballref02_Same.calls (k : Nat) (A0 : Option Addr) (c0 : Nat) (l0 : List Int) (A1 : Option Addr) (c1 : Nat) (l1 : List Int) (r : Bool) (w : World) (hr0 : Kd.C (Kd.int .u32) w A0 l0.length l0) (hc0 : l0.length ≤ c0) (hr1 : Kd.C (Kd.int .u32) w A1 l1.length l1) (hc1 : l1.length ≤ c1) (H : flyballref02_Same.f k l0 l1 = some r) :
  Calls Try.prog 106 #[.slice A0 l0.length c0, .slice A1 l1.length c1] w fun e w' => e = .returned (.bool r) ∧ Drawn0 w w' := by
 have HR0 := Aside0.mk hr0
 have HC0 := Aside0.mk hc0
 clear hr0 hc0
 have HR1 := Aside0.mk hr1
 have HC1 := Aside0.mk hc1
 clear hr1 hc1
 unfold flyballref02_Same.f at H
 by_cases c3 : (l0.length : Int) = (l1.length : Int)
 rotate_left
 ·rw [if_neg c3] at H
  obtain ⟨c3b0, c3b1⟩ := bqF c3
  have c3b2 : (l0.length == l1.length) = false := by first | simpa using c3 | (simp at c3 ⊢; omega)
  obtain rfl := Option.some.inj H
  go_enter Try.func106, Try.ntmps106
  go_wp2
  repeat (go_quiet (fail); try go_wp2)
  go_ret
  exact ⟨rS, by repeat (first | exact Drawn0.refl _ | apply Drawn0.step)⟩
 rw [if_pos c3] at H
 obtain ⟨c3b0, c3b1⟩ := bqT c3
 have c3b2 : (l0.length == l1.length) = true := by first | simpa using c3 | (simp at c3 ⊢; omega)
 clear c3
 have H' := Aside0.mk H
 clear H
 go_enter Try.func106, Try.ntmps106
 go_wp2
 repeat (go_quiet (fail); try go_wp2)
 go_loopg [5] k (fun kq v5 w' => ∃ (x5_1 : Int), v5 = .int .i64 x5_1 ∧ Aside0 (flyballref02_Same.l0 kq l0 l1 x5_1 = some r) ∧ Aside0 (kq ≤ k) ∧ Drawn0 w w')
 case atStart => exact ⟨(0), rS, H', ⟨Nat.le_refl _⟩, by repeat (first | exact Drawn0.refl _ | apply Drawn0.step)⟩
 case round =>
  clear H'
  try clear c1
  try clear p2
  try clear c3
  try clear c3b0
  try clear c3b1
  try clear c3b2
  obtain ⟨x5_1, rfl, HA, HK1, ⟨m1, rfl⟩⟩ := hrel
  cases gk with
  | zero => exact absurd HA.out (by simp [flyballref02_Same.l0])
  | succ k1 =>
   have H := HA.out
   clear HA
   simp only [flyballref02_Same.l0] at H
   by_cases c4 : x5_1 < (l0.length : Int)
   rotate_left
   ·rw [if_neg c4] at H
    have c4b0 : decide (x5_1 < (l0.length : Int)) = false := decide_eq_false c4
    clear c4
    obtain rfl := Option.some.inj H
    go_wp2
    repeat (go_quiet (fail); try go_wp2)
    go_ret
    exact ⟨rS, by repeat (first | exact Drawn0.refl _ | apply Drawn0.step)⟩
   rw [if_pos c4] at H
   have c4b0 : decide (x5_1 < (l0.length : Int)) = true := decide_eq_true c4
   clear c4
   replace H := iS H
   obtain ⟨c5, H⟩ := H
   have c5b0 : decide (0 ≤ x5_1) = true := decide_eq_true c5
   clear c5
   replace H := iS H
   obtain ⟨c6, H⟩ := H
   have c6b0 : decide (x5_1 < (l1.length : Int)) = true := decide_eq_true c6
   clear c6
   by_cases c7 : (rd l0 x5_1) = (rd l1 x5_1)
   rotate_left
   ·rw [if_neg c7] at H
    obtain ⟨c7b0, c7b1⟩ := bqF c7
    obtain rfl := Option.some.inj H
    have p101 : 0 ≤ (x5_1 : Int) := of_decide_eq_true asm
    have q101 : x5_1 < (l0.length : Int) := of_decide_eq_true asm
    obtain ⟨ad101, e101, hx101_0⟩ := Kd.at_int HR0.out x5_1 p101 q101
    cases e101
    replace p101 := eq_true p101
    replace q101 := eq_true q101
    have p102 : 0 ≤ (x5_1 : Int) := of_decide_eq_true asm
    have q102 : x5_1 < (l1.length : Int) := of_decide_eq_true asm
    obtain ⟨ad102, e102, hx102_0⟩ := Kd.at_int HR1.out x5_1 p102 q102
    cases e102
    replace p102 := eq_true p102
    replace q102 := eq_true q102
    go_wp2
    repeat (go_quiet (fail); try go_wp2)
    go_ret
    exact ⟨rS, by repeat (first | exact Drawn0.refl _ | apply Drawn0.step)⟩
   rw [if_pos c7] at H
   obtain ⟨c7b0, c7b1⟩ := bqT c7
   clear c7
   have H' := Aside0.mk H
   clear H
   have p101 : 0 ≤ (x5_1 : Int) := of_decide_eq_true asm
   have q101 : x5_1 < (l0.length : Int) := of_decide_eq_true asm
   obtain ⟨ad101, e101, hx101_0⟩ := Kd.at_int HR0.out x5_1 p101 q101
   cases e101
   replace p101 := eq_true p101
   replace q101 := eq_true q101
   have p102 : 0 ≤ (x5_1 : Int) := of_decide_eq_true asm
   have q102 : x5_1 < (l1.length : Int) := of_decide_eq_true asm
   obtain ⟨ad102, e102, hx102_0⟩ := Kd.at_int HR1.out x5_1 p102 q102
   cases e102
   replace p102 := eq_true p102
   replace q102 := eq_true q102
   go_wp2
   repeat (go_quiet (fail); try go_wp2)
   go_roundg k1
   case measure => have := HK1.out; omega
   case rel => exact ⟨(wrap64 (x5_1 + 1)), rS, H', ⟨hk1⟩, by repeat (first | exact Drawn0.refl _ | apply Drawn0.step)⟩
end Go.Proofs.Ytagbnkbhobmgjaa.Fn
end
section
-- Written by a program of this session (a turned copy of the kit's printer, and hand-written parts). Not trusted: Lean checks it.
namespace Go.Proofs.Ytagbnkbhobmgjaa.Fn
open Go.RowKit Go.Proofs.YtagbnkbhobmgjaaW.PrintWords Go.Proofs.YtagbnkbhobmgjaaW.PrintLast Go.Proofs.YtagbnkbhobmgjaaW.PrintMore
attribute [local go_sem] max2_int min2_int max_two min_two max_three min_three max_four min_four   -- for this text's walks alone
set_option linter.unusedVariables false
set_option linter.unusedSimpArgs false
/-! ### flyballref02_Words: function 107 -/
def flyballref02_Words.l0 : Nat → List Bool → Int → List Int → Int → Option (List Int)
 | 0, _, _, _, _ => none
 | k + 1, x0, x3, x4, x5 => if x5 < x3 then (if 0 ≤ x5 then (if x5 < (x0.length : Int) then (if rdOf false x0 x5 = true then (if 0 ≤ (wrap64 (Int.tdiv x5 32)) then (if (wrap64 (Int.tdiv x5 32)) < (x4.length : Int) then (if 0 ≤ (IntKind.u64.wrap (Int.tmod x5 32)) then (flyballref02_Words.l0 k x0 x3 (x4.set ((wrap64 (Int.tdiv x5 32)) : Int).toNat (Go.bits .or .u32 (rd x4 (wrap64 (Int.tdiv x5 32))) (shl .u32 1 (IntKind.u64.wrap (Int.tmod x5 32))))) (wrap64 (x5 + 1))) else (none)) else (none)) else (none)) else (flyballref02_Words.l0 k x0 x3 x4 (wrap64 (x5 + 1)))) else (none)) else (none)) else (some x4)
def flyballref02_Words.f (k : Nat) (l0 : List Bool) : Option (List Int) := (flyballref01_Len.f k l0).bind fun t101 => (if 0 ≤ (wrap64 (Int.tdiv (wrap64 (t101 + 31)) 32)) then (if (wrap64 (Int.tdiv (wrap64 (t101 + 31)) 32) : Int).toNat ≤ 70368744177664 then (flyballref02_Words.l0 k l0 t101 (List.replicate (wrap64 (Int.tdiv (wrap64 (t101 + 31)) 32) : Int).toNat 0) 0) else (none)) else (none))
set_option maxHeartbeats 8000000 in
set_option maxRecDepth 100000 in
theorem flyballref02_Words.calls (k : Nat) (A0 : Option Addr) (c0 : Nat) (l0 : List Bool) (r : List Int) (w : World) (hr0 : Kd.C Kd.bool w A0 l0.length l0) (hc0 : l0.length ≤ c0) (H : flyballref02_Words.f k l0 = some r) :
  Calls Try.prog 107 #[.slice A0 l0.length c0] w fun e w' => ∃ v0_ : Value, e = .returned (v0_) ∧ Kd.R (Kd.int .u32) 118 w' w.heap.size (fun _ => True) v0_ r ∧ Below w.heap.size w w' := by
 have HR0 := Aside0.mk hr0
 have HC0 := Aside0.mk hc0
 clear hr0 hc0
 have HB := Aside0.mk (Below.refl w.heap.size w)
 unfold flyballref02_Words.f at H
 replace H := bi H
 obtain ⟨t101, A2, H⟩ := H
 obtain ⟨ji3, hji3⟩ : ∃ j_ : Int, (wrap64 (Int.tdiv (wrap64 (t101 + 31)) 32)) = j_ := ⟨_, rfl⟩
 replace H : (if 0 ≤ (ji3) then (if (ji3 : Int).toNat ≤ 70368744177664 then (flyballref02_Words.l0 k l0 t101 (List.replicate (ji3 : Int).toNat 0) 0) else (none)) else (none)) = some r := by first | (rw [hji3] at H; exact H) | (simp only [hji3] at H ⊢; exact H)
 (try rw [hji3] at A2)
 have hji3w : (IntKind.i64.wrap (Int.tdiv (wrap64 (t101 + 31)) 32)) = ji3 := (i64_w _).trans hji3
 replace H := iS H
 obtain ⟨c4, H⟩ := H
 have c4b0 := eq_true c4
 have c4b1 : decide (0 ≤ (ji3)) = true := decide_eq_true c4
 clear c4
 replace H := iS H
 obtain ⟨c5, H⟩ := H
 have c5b0 := eq_true c5
 have c5b1 : decide ((ji3 : Int).toNat ≤ 70368744177664) = true := decide_eq_true c5
 clear c5
 obtain ⟨y102, hy102⟩ : ∃ y_ : List Int, y_ = (List.replicate (ji3 : Int).toNat 0) := ⟨_, rfl⟩
 replace H : (flyballref02_Words.l0 k l0 t101 y102 0) = some r := by first | (rw [hy102]; with_reducible exact H) | (have H2_ := (Option.bind_some _ _).symm.trans H; rw [hy102]; with_reducible exact H2_) | (have H2_ := (Option.bind_some _ _).symm.trans H; with_reducible exact H2_) | with_reducible exact H | (rw [hy102]; exact H) | exact H
 have Ny102 := Aside0.mk hy102
 clear hy102
 have H' := Aside0.mk H
 clear H
 go_enter Try.func107, Try.ntmps107
 go_wp2_with (first | ((with_reducible refine gc 53 rfl ?_); refine gL 7 Try.func53 #[.slice A0 l0.length c0] ?_; (with_reducible refine (flyballref01_Len.calls k _ _ l0 t101 _ ?_ ?_ A2.out).mono ?_); exact cup (HR0.out); exact HC0.out; rintro e w' ⟨rfl, ⟨nd, rfl⟩⟩; refine ⟨_, rfl, ?_⟩) | ((with_reducible refine gd 11 rfl ?_); refine Kd.R_make (Kd.int .u32) _ 118 rfl (N := 11) rfl 22 _ _ rfl ji3 rfl rfl Try.underlying22 (.int .u32 0) 4 info118 rfl (by decide) (by omega) 0 (ok := fun _ => True) (okp := fun _ => True) rfl (fun _ hk => hk) trivial (of_decide_eq_true asm) (Nat.le_trans (Nat.mul_le_mul_right _ (of_decide_eq_true asm : ji3.toNat ≤ 70368744177664)) (by omega)) (Below.refl _ _) (Nat.le_refl _) ?_; intro v103 w6 ho7 hb hg_ hnew_; clear hg_ hnew_; (first | rw [← Ny102.out] at ho7 | (simp only [Int.reduceToNat] at ho7; rw [← Ny102.out] at ho7)); have HO104 := Aside0.mk (Kd.R_lower ho7 (below_size (bup HB.out))); replace HB := bA HB hb; clear hb ho7))
 go_loopg [5] k (fun kq v5 w' => ∃ (x4_1 : List Int) (x5_1 : Int), v5 = .int .i64 x5_1 ∧ Aside0 (flyballref02_Words.l0 kq l0 t101 x4_1 x5_1 = some r) ∧ Aside0 (kq ≤ k) ∧ Aside0 (Kd.R (Kd.int .u32) 118 w' w.heap.size (fun _ => True) v103 x4_1) ∧ Aside0 (Below w.heap.size w w'))
 case atStart => exact ⟨(y102), (0), rS, H', ⟨Nat.le_refl _⟩, ⟨rup HO104.out⟩, ⟨bup HB.out⟩⟩
 case round =>
  clear H'
  try clear c1
  try clear p2
  try clear c4
  try clear c4b0
  try clear c4b1
  try clear c5
  try clear c5b0
  try clear c5b1
  try clear p6
  obtain ⟨x4_1, x5_1, rfl, HA, HK1, HO_4, HB⟩ := hrel
  cases gk with
  | zero => exact absurd HA.out (by simp [flyballref02_Words.l0])
  | succ k1 =>
   have H := HA.out
   clear HA
   simp only [flyballref02_Words.l0] at H
   by_cases c8 : x5_1 < t101
   rotate_left
   ·rw [if_neg c8] at H
    have c8b0 : decide (x5_1 < t101) = false := decide_eq_false c8
    clear c8
    obtain rfl := Option.some.inj H
    go_wp2
    go_ret
    exact ⟨_, by first | rfl | (simp [errW_none, errW_some] <;> rfl) | (simp only [← hji3]; first | rfl | (simp [errW_none, errW_some] <;> rfl)) | (simp [*, errW_none, errW_some] <;> rfl), rup HO_4.out, bup HB.out⟩
   rw [if_pos c8] at H
   have c8b0 : decide (x5_1 < t101) = true := decide_eq_true c8
   clear c8
   replace H := iS H
   obtain ⟨c9, H⟩ := H
   have c9b0 : decide (0 ≤ x5_1) = true := decide_eq_true c9
   clear c9
   replace H := iS H
   obtain ⟨c10, H⟩ := H
   have c10b0 : decide (x5_1 < (l0.length : Int)) = true := decide_eq_true c10
   clear c10
   obtain ⟨bq11, hbq11⟩ : ∃ b_ : Bool, b_ = (rdOf false l0 x5_1) := ⟨_, rfl⟩
   replace H : (if bq11 = true then (if 0 ≤ (wrap64 (Int.tdiv x5_1 32)) then (if (wrap64 (Int.tdiv x5_1 32)) < (x4_1.length : Int) then (if 0 ≤ (IntKind.u64.wrap (Int.tmod x5_1 32)) then (flyballref02_Words.l0 k1 l0 t101 (x4_1.set ((wrap64 (Int.tdiv x5_1 32)) : Int).toNat (Go.bits .or .u32 (rd x4_1 (wrap64 (Int.tdiv x5_1 32))) (shl .u32 1 (IntKind.u64.wrap (Int.tmod x5_1 32))))) (wrap64 (x5_1 + 1))) else (none)) else (none)) else (none)) else (flyballref02_Words.l0 k1 l0 t101 x4_1 (wrap64 (x5_1 + 1)))) = some r := by rw [← hbq11] at H; exact H
   have Nbq11 := Aside0.mk hbq11
   clear hbq11
   by_cases c12 : bq11 = true
   ·subst c12
    replace H := ifT H
    obtain ⟨ji13, hji13⟩ : ∃ j_ : Int, (wrap64 (Int.tdiv x5_1 32)) = j_ := ⟨_, rfl⟩
    replace H : (if 0 ≤ (ji13) then (if (ji13) < (x4_1.length : Int) then (if 0 ≤ (IntKind.u64.wrap (Int.tmod x5_1 32)) then (flyballref02_Words.l0 k1 l0 t101 (x4_1.set ((ji13) : Int).toNat (Go.bits .or .u32 (rd x4_1 (ji13)) (shl .u32 1 (IntKind.u64.wrap (Int.tmod x5_1 32))))) (wrap64 (x5_1 + 1))) else (none)) else (none)) else (none)) = some r := by first | (rw [hji13] at H; exact H) | (simp only [hji13] at H ⊢; exact H)
    have hji13w : (IntKind.i64.wrap (Int.tdiv x5_1 32)) = ji13 := (i64_w _).trans hji13
    replace H := iS H
    obtain ⟨c14, H⟩ := H
    have c14b0 : decide (0 ≤ (ji13)) = true := decide_eq_true c14
    clear c14
    replace H := iS H
    obtain ⟨c15, H⟩ := H
    have c15b0 : decide ((ji13) < (x4_1.length : Int)) = true := decide_eq_true c15
    clear c15
    obtain ⟨ji16, hji16⟩ : ∃ j_ : Int, (IntKind.u64.wrap (Int.tmod x5_1 32)) = j_ := ⟨_, rfl⟩
    replace H : (if 0 ≤ (ji16) then (flyballref02_Words.l0 k1 l0 t101 (x4_1.set ((ji13) : Int).toNat (Go.bits .or .u32 (rd x4_1 (ji13)) (shl .u32 1 (ji16)))) (wrap64 (x5_1 + 1))) else (none)) = some r := by first | (rw [hji16] at H; exact H) | (simp only [hji16] at H ⊢; exact H)
    replace H := iS H
    obtain ⟨c17, H⟩ := H
    have c17b0 := eq_true c17
    have c17b1 : decide (0 ≤ (ji16)) = true := decide_eq_true c17
    clear c17
    obtain ⟨ji18, hji18⟩ : ∃ j_ : Int, (shl .u32 1 (ji16)) = j_ := ⟨_, rfl⟩
    replace H : (flyballref02_Words.l0 k1 l0 t101 (x4_1.set ((ji13) : Int).toNat (Go.bits .or .u32 (rd x4_1 (ji13)) (ji18))) (wrap64 (x5_1 + 1))) = some r := by first | (rw [hji18] at H; exact H) | (simp only [hji18] at H ⊢; exact H)
    have hji18_ : (IntKind.u32.wrap (1 * 2 ^ min (ji16).toNat 32)) = ji18 := hji18
    have hji18z : (ji16) ≤ 32 → (IntKind.u32.wrap (1 * 2 ^ (ji16).toNat)) = ji18 := shl_small hji18
    have hji18u : (IntKind.u32.wrap (2 ^ min (ji16).toNat 32)) = ji18 := by have h_ := hji18_; rw [Int.one_mul] at h_; exact h_
    have hji18v : (ji16) ≤ 32 → (IntKind.u32.wrap (2 ^ (ji16).toNat)) = ji18 := fun hle_ => by have h_ := hji18z hle_; rw [Int.one_mul] at h_; exact h_
    obtain ⟨y107, hy107⟩ : ∃ y_ : List Int, y_ = (x4_1.set ((ji13) : Int).toNat (Go.bits .or .u32 (rd x4_1 (ji13)) (ji18))) := ⟨_, rfl⟩
    replace H : (flyballref02_Words.l0 k1 l0 t101 y107 (wrap64 (x5_1 + 1))) = some r := by first | (rw [hy107]; with_reducible exact H) | (have H2_ := (Option.bind_some _ _).symm.trans H; rw [hy107]; with_reducible exact H2_) | (have H2_ := (Option.bind_some _ _).symm.trans H; with_reducible exact H2_) | with_reducible exact H | (rw [hy107]; exact H) | exact H
    have Ny107 := Aside0.mk hy107
    clear hy107
    have H' := Aside0.mk H
    clear H
    have p105 : 0 ≤ (x5_1 : Int) := of_decide_eq_true asm
    have q105 : x5_1 < (l0.length : Int) := of_decide_eq_true asm
    obtain ⟨ad105, e105, hx105_0⟩ := Kd.at_bool HR0.out x5_1 p105 q105
    (try rw [← Nbq11.out] at hx105_0)
    cases e105
    replace hx105_0 := (HB.out.cell (World.block_lt_of_cell? w _ hx105_0)).trans hx105_0
    replace p105 := eq_true p105
    replace q105 := eq_true q105
    obtain ⟨Ao20, co20, eo20⟩ := Kd.R_slice HO_4.out
    subst eo20
    have p106 : 0 ≤ ((ji13) : Int) := of_decide_eq_true asm
    have q106 : (ji13) < (x4_1.length : Int) := of_decide_eq_true asm
    obtain ⟨ad106, e106, hx106_0⟩ := Kd.at_int (Kd.R_reads' HO_4.out).2.2 (ji13) p106 q106
    cases e106
    replace p106 := eq_true p106
    replace q106 := eq_true q106
    have p19 : 0 ≤ ((ji13) : Int) := of_decide_eq_true asm
    have q19 : ((ji13) : Int) < ((x4_1.length : Int) : Int) := of_decide_eq_true asm
    obtain ⟨go19, co19, eo19, gb19, gl19, cl19, HG19⟩ := Kd.R_form HO_4.out (by omega)
    (first | cases eo19 | (injection eo19 with ea_ en_ ec_; (first | subst ea_ | (injection ea_ with ea_; subst ea_)); subst ec_; clear en_))
    have GB19 := Aside0.mk gb19
    have GG19 := Aside0.mk HG19
    clear gb19 gl19 HG19
    (first | simp only [add_plain] at hx106_0 | skip)
    obtain ⟨hx19_0, hf19_0⟩ := Kd.R_celln 0 HO_4.out ((ji13) : Int) p19 q19
    replace p19 := eq_true p19
    replace q19 := eq_true q19
    have HP21 := Kd.R_putg HO_4.out ((ji13) : Int) (Go.bits .or .u32 (rd x4_1 (ji13)) (ji18))
    go_wp2_with (first | ((with_reducible refine gate_store (t := 118) (p := 34) rfl ?_); refine store_event (t := 118) (p := 34) (v := ?vo_w22) (w1 := (wr.setCell ⟨go19, ((ji13) : Int).toNat, none⟩ (.int .u32 (Go.bits .or .u32 (rd x4_1 (ji13)) (ji18))))) ?hg ?ho ?hn ?hr ?_; (case ho => rfl); (case hg => rfl); (case hn => rfl); (case hr => first | (go_simp; done) | (go_simp; rfl)); intro w22 hw; have hg : wr.grownBy w22 (some go19) := (by rw [hw]; exact HP21.2); have hp_ : Kd.R (Kd.int .u32) 118 w22 w.heap.size (fun _ => True) (.slice (some ⟨go19, 0, none⟩) x4_1.length co20) y107 := (by rw [hw, Ny107.out]; exact HP21.1); clear HP21; replace HO_4 := Aside0.mk (hp_); replace HB := Aside0.mk ((by rw [hw]; exact below_set (HB.out) GB19.out : Below w.heap.size w w22)); clear hg hw hp_))
    go_roundg k1
    case measure => have := HK1.out; omega
    case rel => exact ⟨(y107), (wrap64 (x5_1 + 1)), rS, H', ⟨hk1⟩, ⟨rup HO_4.out⟩, ⟨bup HB.out⟩⟩
   ·replace c12 := Bool.eq_false_iff.mpr c12
    subst c12
    have H1 : (flyballref02_Words.l0 k1 l0 t101 x4_1 (wrap64 (x5_1 + 1))) = some r := by rw [if_neg (show ¬ (false = true) by decide)] at H; exact H
    clear H
    have H := H1
    clear H1
    have H' := Aside0.mk H
    clear H
    have p105 : 0 ≤ (x5_1 : Int) := of_decide_eq_true asm
    have q105 : x5_1 < (l0.length : Int) := of_decide_eq_true asm
    obtain ⟨ad105, e105, hx105_0⟩ := Kd.at_bool HR0.out x5_1 p105 q105
    (try rw [← Nbq11.out] at hx105_0)
    cases e105
    replace hx105_0 := (HB.out.cell (World.block_lt_of_cell? w _ hx105_0)).trans hx105_0
    replace p105 := eq_true p105
    replace q105 := eq_true q105
    go_wp2
    go_roundg k1
    case measure => have := HK1.out; omega
    case rel => exact ⟨(x4_1), (wrap64 (x5_1 + 1)), rS, H', ⟨hk1⟩, ⟨rup HO_4.out⟩, ⟨bup HB.out⟩⟩
end Go.Proofs.Ytagbnkbhobmgjaa.Fn
end
section
-- Written by a program of this session (a turned copy of the kit's printer, and hand-written parts). Not trusted: Lean checks it.
namespace Go.Proofs.Ytagbnkbhobmgjaa.Fn
open Go.RowKit Go.Proofs.YtagbnkbhobmgjaaW.PrintWords Go.Proofs.YtagbnkbhobmgjaaW.PrintLast Go.Proofs.YtagbnkbhobmgjaaW.PrintMore
attribute [local go_sem] max2_int min2_int max_two min_two max_three min_three max_four min_four   -- for this text's walks alone
set_option linter.unusedVariables false
set_option linter.unusedSimpArgs false
/-! ### flyballref02_Is: function 27 -/
def flyballref02_Is.f (k : Nat) (l0 : List Int) (l1 : List Bool) : Option (Bool) := (flyballref02_Words.f k l1).bind fun t101 => ((flyballref02_Same.f k l0 t101).bind fun t104 => (some t104))
set_option maxHeartbeats 8000000 in
set_option maxRecDepth 100000 in
theorem flyballref02_Is.calls (k : Nat) (A0 : Option Addr) (c0 : Nat) (l0 : List Int) (A1 : Option Addr) (c1 : Nat) (l1 : List Bool) (r : Bool) (w : World) (hr0 : Kd.C (Kd.int .u32) w A0 l0.length l0) (hc0 : l0.length ≤ c0) (hr1 : Kd.C Kd.bool w A1 l1.length l1) (hc1 : l1.length ≤ c1) (H : flyballref02_Is.f k l0 l1 = some r) :
  Calls Try.prog 27 #[.slice A0 l0.length c0, .slice A1 l1.length c1] w fun e w' => e = .returned (.bool r) ∧ Below w.heap.size w w' := by
 have HR0 := Aside0.mk hr0
 have HC0 := Aside0.mk hc0
 clear hr0 hc0
 have HR1 := Aside0.mk hr1
 have HC1 := Aside0.mk hc1
 clear hr1 hc1
 have HB := Aside0.mk (Below.refl w.heap.size w)
 unfold flyballref02_Is.f at H
 replace H := bi H
 obtain ⟨t101, A3, H⟩ := H
 replace H := bi H
 obtain ⟨t104, A4, H⟩ := H
 obtain rfl := Option.some.inj H
 go_enter Try.func27, Try.ntmps27
 go_wp2_with (first | ((with_reducible refine gc 107 rfl ?_); refine gL 7 Try.func107 #[.slice A1 l1.length c1] ?_; (with_reducible refine (flyballref02_Words.calls k _ _ l1 t101 _ ?_ ?_ A3.out).mono ?_); exact cup (HR1.out); exact HC1.out; rintro e w5 ⟨v102, rfl, ho0, hb⟩; refine ⟨_, rfl, ?_⟩; have HO103 := Aside0.mk (Kd.R_lower ho0 (below_size (bup HB.out))); replace HB := bA HB hb; clear hb ho0; obtain ⟨Ao6, co6, eo6⟩ := Kd.R_slice HO103.out; subst eo6) | ((with_reducible refine gc 106 rfl ?_); refine gL 8 Try.func106 #[.slice A0 l0.length c0, .slice Ao6 t101.length co6] ?_; (with_reducible refine (flyballref02_Same.calls k _ _ l0 _ _ t101 t104 _ ?_ ?_ ?_ ?_ A4.out).mono ?_); exact Kd.C_below HR0.out (bup HB.out); exact HC0.out; exact cup ((Kd.R_reads' HO103.out).2.2); exact (Kd.R_reads' HO103.out).2.1; rintro e w' ⟨rfl, ⟨nd, rfl⟩⟩; refine ⟨_, rfl, ?_⟩))
 go_ret
 exact ⟨er, bup HB.out⟩
end Go.Proofs.Ytagbnkbhobmgjaa.Fn
end
section
-- Written by a program of this session (a turned copy of the kit's printer, and hand-written parts). Not trusted: Lean checks it.
namespace Go.Proofs.Ytagbnkbhobmgjaa.Fn
open Go.RowKit Go.Proofs.YtagbnkbhobmgjaaW.PrintWords Go.Proofs.YtagbnkbhobmgjaaW.PrintLast Go.Proofs.YtagbnkbhobmgjaaW.PrintMore
attribute [local go_sem] max2_int min2_int max_two min_two max_three min_three max_four min_four   -- for this text's walks alone
set_option linter.unusedVariables false
set_option linter.unusedSimpArgs false
/-! ### flyballlaw03_is: function 85 -/
def flyballlaw03_is.f (k : Nat) (a0_0 : Bool) (l0_1 : List Int) (l0_2 : List Int) (a1_0 : Bool) (l1_1 : List Bool) (l1_2 : List Bool) : Option (Bool) := if (a0_0 == a1_0) = true then ((flyballref02_Is.f k l0_1 l1_1).bind fun t103 => (if t103 = true then ((flyballref02_Is.f k l0_2 l1_2).bind fun t104 => (some t104)) else (some false))) else (some false)
set_option maxHeartbeats 8000000 in
set_option maxRecDepth 100000 in
theorem flyballlaw03_is.calls (k : Nat) (a0_0 : Bool) (A0_1 : Option Addr) (c0_1 : Nat) (l0_1 : List Int) (A0_2 : Option Addr) (c0_2 : Nat) (l0_2 : List Int) (a1_0 : Bool) (A1_1 : Option Addr) (c1_1 : Nat) (l1_1 : List Bool) (A1_2 : Option Addr) (c1_2 : Nat) (l1_2 : List Bool) (r : Bool) (w : World) (hr0_1 : Kd.C (Kd.int .u32) w A0_1 l0_1.length l0_1) (hc0_1 : l0_1.length ≤ c0_1) (hr0_2 : Kd.C (Kd.int .u32) w A0_2 l0_2.length l0_2) (hc0_2 : l0_2.length ≤ c0_2) (hr1_1 : Kd.C Kd.bool w A1_1 l1_1.length l1_1) (hc1_1 : l1_1.length ≤ c1_1) (hr1_2 : Kd.C Kd.bool w A1_2 l1_2.length l1_2) (hc1_2 : l1_2.length ≤ c1_2) (H : flyballlaw03_is.f k a0_0 l0_1 l0_2 a1_0 l1_1 l1_2 = some r) :
  Calls Try.prog 85 #[.agg #[.bool a0_0, .slice A0_1 l0_1.length c0_1, .slice A0_2 l0_2.length c0_2], .agg #[.bool a1_0, .slice A1_1 l1_1.length c1_1, .slice A1_2 l1_2.length c1_2]] w fun e w' => e = .returned (.bool r) ∧ Below w.heap.size w w' := by
 have hu69 := Try.underlying69
 have hu92 := Try.underlying92
 have HR0_1 := Aside0.mk hr0_1
 have HC0_1 := Aside0.mk hc0_1
 clear hr0_1 hc0_1
 have HR0_2 := Aside0.mk hr0_2
 have HC0_2 := Aside0.mk hc0_2
 clear hr0_2 hc0_2
 have HR1_1 := Aside0.mk hr1_1
 have HC1_1 := Aside0.mk hc1_1
 clear hr1_1 hc1_1
 have HR1_2 := Aside0.mk hr1_2
 have HC1_2 := Aside0.mk hc1_2
 clear hr1_2 hc1_2
 have HB := Aside0.mk (Below.refl w.heap.size w)
 unfold flyballlaw03_is.f at H
 by_cases c3 : (a0_0 == a1_0) = true
 rotate_left
 ·rw [if_neg c3] at H
  have c3b0 : (a0_0 == a1_0) = false := by simpa using c3
  (try (have c3b1 : decide (a0_0 = a1_0) = false := by simpa using c3))
  (try (have c3b2 : (a0_0 == a1_0) = false := by simpa using c3))
  (try (have c3b3 : ¬ (a0_0 = a1_0) := by simpa using c3))
  clear c3
  obtain rfl := Option.some.inj H
  go_enter Try.func85, Try.ntmps85
  go_wp2_with (first | ((with_reducible refine gd 2 rfl ?_); refine bx 2 #[.bool a0_0, .slice A0_1 l0_1.length c0_1, .slice A0_2 l0_2.length c0_2] ?_; intro gb101 hg w22 hbox hb; have BK101 := Aside0.mk hbox; have GW101 := gB hg HB; have GE101 := gB hg HB; replace HB := bA HB hb; clear hb hbox hg) | ((with_reducible refine gd 3 rfl ?_); refine box_event ?hg (N := 3) ?hd (cs := #[.bool a1_0, .slice A1_1 l1_1.length c1_1, .slice A1_2 l1_2.length c1_2]) (t := 92) ?hr ?_; (case hd => rfl); (case hg => rfl); (case hr => first | (go_simp; done) | (go_simp; rfl)); intro gb102 hg w23 hbox hb; have BK102 := Aside0.mk hbox; have GW102 := gS' hg HB; have GE102 := gS' hg HB; replace HB := bS HB hb; have NB101_102 := nL hg BK101; have NB102_101 := nR hg BK101; replace BK101 := kA BK101 hb; clear hb hbox hg; have hnb24 := NB101_102.out; have hnc24 := NB102_101.out; obtain ⟨⟨hcz25_0, hcz25_1, hcz25_2⟩, hfz25_0, hfz25_1, hfz25_2⟩ := cE BK101; obtain ⟨⟨hcz26_0, hcz26_1, hcz26_2⟩, hfz26_0, hfz26_1, hfz26_2⟩ := cE BK102))
  go_ret
  exact ⟨er, hB⟩
 rw [if_pos c3] at H
 have c3b0 : (a0_0 == a1_0) = true := c3
 (try (have c3b1 : decide (a0_0 = a1_0) = true := by simpa using c3))
 (try (have c3b2 : (a0_0 == a1_0) = true := by simpa using c3))
 clear c3
 replace H := bi H
 obtain ⟨t103, A4, H⟩ := H
 by_cases c5 : t103 = true
 ·subst c5
  replace H := ifT H
  replace H := bi H
  obtain ⟨t104, A6, H⟩ := H
  obtain rfl := Option.some.inj H
  go_enter Try.func85, Try.ntmps85
  go_wp2_with (first | ((with_reducible refine gd 2 rfl ?_); refine bx 2 #[.bool a0_0, .slice A0_1 l0_1.length c0_1, .slice A0_2 l0_2.length c0_2] ?_; intro gb101 hg w7 hbox hb; have BK101 := Aside0.mk hbox; have GW101 := gB hg HB; have GE101 := gB hg HB; replace HB := bA HB hb; clear hb hbox hg) | ((with_reducible refine gd 3 rfl ?_); refine box_event ?hg (N := 3) ?hd (cs := #[.bool a1_0, .slice A1_1 l1_1.length c1_1, .slice A1_2 l1_2.length c1_2]) (t := 92) ?hr ?_; (case hd => rfl); (case hg => rfl); (case hr => first | (go_simp; done) | (go_simp; rfl)); intro gb102 hg w8 hbox hb; have BK102 := Aside0.mk hbox; have GW102 := gS' hg HB; have GE102 := gS' hg HB; replace HB := bS HB hb; have NB101_102 := nL hg BK101; have NB102_101 := nR hg BK101; replace BK101 := kA BK101 hb; clear hb hbox hg; have hnb9 := NB101_102.out; have hnc9 := NB102_101.out; obtain ⟨⟨hcz10_0, hcz10_1, hcz10_2⟩, hfz10_0, hfz10_1, hfz10_2⟩ := cE BK101; obtain ⟨⟨hcz11_0, hcz11_1, hcz11_2⟩, hfz11_0, hfz11_1, hfz11_2⟩ := cE BK102) | (go_at_call 27; (with_reducible refine (flyballref02_Is.calls k _ _ l0_1 _ _ l1_1 true _ ?_ ?_ ?_ ?_ A4.out).mono ?_); exact Kd.C_below HR0_1.out (bup HB.out); exact HC0_1.out; exact Kd.C_below HR1_1.out (bup HB.out); exact HC1_1.out; rintro e w12 ⟨rfl, hb⟩; replace BK101 := kA BK101 hb; replace BK102 := kA BK102 hb; replace HB := bS HB hb; clear hb; obtain ⟨⟨hcz13_0, hcz13_1, hcz13_2⟩, hfz13_0, hfz13_1, hfz13_2⟩ := cE BK101; obtain ⟨⟨hcz14_0, hcz14_1, hcz14_2⟩, hfz14_0, hfz14_1, hfz14_2⟩ := cE BK102) | (go_at_call 27; (with_reducible refine (flyballref02_Is.calls k _ _ l0_2 _ _ l1_2 t104 _ ?_ ?_ ?_ ?_ A6.out).mono ?_); exact Kd.C_below HR0_2.out (bup HB.out); exact HC0_2.out; exact Kd.C_below HR1_2.out (bup HB.out); exact HC1_2.out; rintro e w15 ⟨rfl, hb⟩; replace BK101 := kA BK101 hb; replace BK102 := kA BK102 hb; replace HB := bS HB hb; clear hb))
  go_ret
  exact ⟨er, hB⟩
 ·replace c5 := Bool.eq_false_iff.mpr c5
  subst c5
  have H1 : (some false) = some r := by rw [if_neg (show ¬ (false = true) by decide)] at H; exact H
  clear H
  have H := H1
  clear H1
  obtain rfl := Option.some.inj H
  go_enter Try.func85, Try.ntmps85
  go_wp2_with (first | ((with_reducible refine gd 2 rfl ?_); refine bx 2 #[.bool a0_0, .slice A0_1 l0_1.length c0_1, .slice A0_2 l0_2.length c0_2] ?_; intro gb101 hg w16 hbox hb; have BK101 := Aside0.mk hbox; have GW101 := gB hg HB; have GE101 := gB hg HB; replace HB := bA HB hb; clear hb hbox hg) | ((with_reducible refine gd 3 rfl ?_); refine box_event ?hg (N := 3) ?hd (cs := #[.bool a1_0, .slice A1_1 l1_1.length c1_1, .slice A1_2 l1_2.length c1_2]) (t := 92) ?hr ?_; (case hd => rfl); (case hg => rfl); (case hr => first | (go_simp; done) | (go_simp; rfl)); intro gb102 hg w17 hbox hb; have BK102 := Aside0.mk hbox; have GW102 := gS' hg HB; have GE102 := gS' hg HB; replace HB := bS HB hb; have NB101_102 := nL hg BK101; have NB102_101 := nR hg BK101; replace BK101 := kA BK101 hb; clear hb hbox hg; have hnb18 := NB101_102.out; have hnc18 := NB102_101.out; obtain ⟨⟨hcz19_0, hcz19_1, hcz19_2⟩, hfz19_0, hfz19_1, hfz19_2⟩ := cE BK101; obtain ⟨⟨hcz20_0, hcz20_1, hcz20_2⟩, hfz20_0, hfz20_1, hfz20_2⟩ := cE BK102) | (go_at_call 27; (with_reducible refine (flyballref02_Is.calls k _ _ l0_1 _ _ l1_1 false _ ?_ ?_ ?_ ?_ A4.out).mono ?_); exact Kd.C_below HR0_1.out (bup HB.out); exact HC0_1.out; exact Kd.C_below HR1_1.out (bup HB.out); exact HC1_1.out; rintro e w21 ⟨rfl, hb⟩; replace BK101 := kA BK101 hb; replace BK102 := kA BK102 hb; replace HB := bS HB hb; clear hb))
  go_ret
  exact ⟨er, hB⟩
end Go.Proofs.Ytagbnkbhobmgjaa.Fn
end
section
-- Written by a program of this session (a turned copy of the kit's printer, and hand-written parts). Not trusted: Lean checks it.
namespace Go.Proofs.Ytagbnkbhobmgjaa.Fn
open Go.RowKit Go.Proofs.YtagbnkbhobmgjaaW.PrintWords Go.Proofs.YtagbnkbhobmgjaaW.PrintLast Go.Proofs.YtagbnkbhobmgjaaW.PrintMore
attribute [local go_sem] max2_int min2_int max_two min_two max_three min_three max_four min_four   -- for this text's walks alone
set_option linter.unusedVariables false
set_option linter.unusedSimpArgs false
/-! ### flyballref01_Add: function 29 -/
mutual
def flyballref01_Add.l0 : Nat → List Bool → List Bool → List Bool → Bool → Int → Option (List Bool)
 | 0, _, _, _, _, _ => none
 | k + 1, x0, x1, x5, x6, x7 => if x7 < (x0.length : Int) then (flyballref01_Add.j1 k x0 x1 x5 x6 x7 true) else (if x7 < (x1.length : Int) then (flyballref01_Add.j1 k x0 x1 x5 x6 x7 true) else (flyballref01_Add.j1 k x0 x1 x5 x6 x7 x6))
def flyballref01_Add.j1 : Nat → List Bool → List Bool → List Bool → Bool → Int → Bool → Option (List Bool)
 | 0, _, _, _, _, _, _ => none
 | k + 1, x0, x1, x5, x6, x7, x22 => if x22 = true then ((flyballref01_bit.f x0 x7).bind fun t101 => ((flyballref01_bit.f x1 x7).bind fun t102 => (if x5.length < 140737488355328 then ((some (x5 ++ [((t101 != t102) != x6)] : List Bool)).bind fun y103 => (if t101 = true then (if t102 = true then (flyballref01_Add.l0 k x0 x1 y103 true (wrap64 (x7 + 1))) else (if x6 = true then (flyballref01_Add.l0 k x0 x1 y103 true (wrap64 (x7 + 1))) else (flyballref01_Add.l0 k x0 x1 y103 false (wrap64 (x7 + 1))))) else (if t102 = true then (flyballref01_Add.l0 k x0 x1 y103 x6 (wrap64 (x7 + 1))) else (flyballref01_Add.l0 k x0 x1 y103 false (wrap64 (x7 + 1)))))) else (none)))) else (some x5)
end
def flyballref01_Add.f (k : Nat) (l0 : List Bool) (l1 : List Bool) : Option (List Bool) := flyballref01_Add.l0 k l0 l1 ([] : List Bool) false 0
set_option maxHeartbeats 8000000 in
set_option maxRecDepth 100000 in
theorem flyballref01_Add.calls (k : Nat) (A0 : Option Addr) (c0 : Nat) (l0 : List Bool) (A1 : Option Addr) (c1 : Nat) (l1 : List Bool) (r : List Bool) (w : World) (hr0 : Kd.C Kd.bool w A0 l0.length l0) (hc0 : l0.length ≤ c0) (hr1 : Kd.C Kd.bool w A1 l1.length l1) (hc1 : l1.length ≤ c1) (H : flyballref01_Add.f k l0 l1 = some r) :
  Calls Try.prog 29 #[.slice A0 l0.length c0, .slice A1 l1.length c1] w fun e w' => ∃ v0_ : Value, e = .returned (v0_) ∧ Kd.R Kd.bool 4 w' w.heap.size (fun _ => True) v0_ r ∧ Below w.heap.size w w' := by
 have HR0 := Aside0.mk hr0
 have HC0 := Aside0.mk hc0
 clear hr0 hc0
 have HR1 := Aside0.mk hr1
 have HC1 := Aside0.mk hc1
 clear hr1 hc1
 have HB := Aside0.mk (Below.refl w.heap.size w)
 unfold flyballref01_Add.f at H
 have H' := Aside0.mk H
 clear H
 go_enter Try.func29, Try.ntmps29
 go_wp2
 go_loopg [5, 6, 7] k (fun kq v5 v6 v7 w' => ∃ (x5_1 : List Bool) (x6_1 : Bool) (x7_1 : Int), v6 = .bool x6_1 ∧ v7 = .int .i64 x7_1 ∧ Aside0 (flyballref01_Add.l0 kq l0 l1 x5_1 x6_1 x7_1 = some r) ∧ Aside0 (kq ≤ k) ∧ Aside0 (Kd.R Kd.bool 4 w' w.heap.size (fun _ => True) v5 x5_1) ∧ Aside0 (Below w.heap.size w w'))
 case atStart => exact ⟨(([] : List Bool)), (false), (0), rS, rS, H', ⟨Nat.le_refl _⟩, ⟨nil5⟩, ⟨bup HB.out⟩⟩
 case round =>
  clear H'
  try clear c1
  try clear c2
  try clear p2
  obtain ⟨x5_1, x6_1, x7_1, rfl, rfl, HA, HK1, HO_5, HB⟩ := hrel
  cases gk with
  | zero => exact absurd HA.out (by simp [flyballref01_Add.l0])
  | succ k1 =>
   have H := HA.out
   clear HA
   simp only [flyballref01_Add.l0] at H
   have HC3 := Aside0.mk H
   clear H
   go_upto_region 4 with (fail)
   go_cut [22] (fun v22 wc => ∃ (kq : Nat) (x22_2 : Bool), v22 = .bool x22_2 ∧ Aside0 (flyballref01_Add.j1 kq l0 l1 x5_1 x6_1 x7_1 x22_2 = some r) ∧ Aside0 (kq ≤ k1) ∧ Aside0 (Kd.R Kd.bool 4 wc w.heap.size (fun _ => True) u5 x5_1) ∧ Aside0 (Below w.heap.size w wc))
   case first =>
    have H := HC3.out
    clear HC3
    by_cases c4 : x7_1 < (l0.length : Int)
    ·rw [if_pos c4] at H
     have c4b0 : decide (x7_1 < (l0.length : Int)) = true := decide_eq_true c4
     clear c4
     (first | rw [c4b0] | (simp only [i64_w, i32_w]; rw [c4b0]) | skip)
     have H' := Aside0.mk H
     clear H
     go_wp2
     go_meet
     case rel => exact ⟨_, (true), rS, H', ⟨hk1⟩, ⟨rup HO_5.out⟩, ⟨bup HB.out⟩⟩
    rw [if_neg c4] at H
    have c4b0 : decide (x7_1 < (l0.length : Int)) = false := decide_eq_false c4
    clear c4
    (first | rw [c4b0] | (simp only [i64_w, i32_w]; rw [c4b0]) | skip)
    by_cases c5 : x7_1 < (l1.length : Int)
    rotate_left
    ·rw [if_neg c5] at H
     have c5b0 : decide (x7_1 < (l1.length : Int)) = false := decide_eq_false c5
     clear c5
     have H' := Aside0.mk H
     clear H
     go_wp2
     go_meet
     case rel => exact ⟨_, (x6_1), rS, H', ⟨hk1⟩, ⟨rup HO_5.out⟩, ⟨bup HB.out⟩⟩
    rw [if_pos c5] at H
    have c5b0 : decide (x7_1 < (l1.length : Int)) = true := decide_eq_true c5
    clear c5
    have H' := Aside0.mk H
    clear H
    go_wp2
    go_meet
    case rel => exact ⟨_, (true), rS, H', ⟨hk1⟩, ⟨rup HO_5.out⟩, ⟨bup HB.out⟩⟩
   case rest =>
    clear HC3
    try clear c1
    try clear c2
    try clear p2
    try clear c4
    try clear c4b0
    try clear c5
    try clear c5b0
    try clear p2
    obtain ⟨kq, x22_2, rfl, HA, HJ2, HO_5, HB⟩ := hcut
    cases kq with
    | zero => exact absurd HA.out (by simp [flyballref01_Add.j1])
    | succ kj2 =>
     have H := HA.out
     clear HA
     simp only [flyballref01_Add.j1] at H
     by_cases c6 : x22_2 = true
     ·subst c6
      replace H := ifT H
      replace H := bi H
      obtain ⟨t101, A7, H⟩ := H
      replace H := bi H
      obtain ⟨t102, A8, H⟩ := H
      replace H := iS H
      obtain ⟨c9, H⟩ := H
      have LMc9 := Aside0.mk c9
      clear c9
      obtain ⟨y103, hy103⟩ : ∃ y_ : List Bool, y_ = (x5_1 ++ [((t101 != t102) != x6_1)]) := ⟨_, rfl⟩
      replace H : (if t101 = true then (if t102 = true then (flyballref01_Add.l0 kj2 l0 l1 y103 true (wrap64 (x7_1 + 1))) else (if x6_1 = true then (flyballref01_Add.l0 kj2 l0 l1 y103 true (wrap64 (x7_1 + 1))) else (flyballref01_Add.l0 kj2 l0 l1 y103 false (wrap64 (x7_1 + 1))))) else (if t102 = true then (flyballref01_Add.l0 kj2 l0 l1 y103 x6_1 (wrap64 (x7_1 + 1))) else (flyballref01_Add.l0 kj2 l0 l1 y103 false (wrap64 (x7_1 + 1))))) = some r := by first | (rw [hy103]; with_reducible exact H) | (have H2_ := (Option.bind_some _ _).symm.trans H; rw [hy103]; with_reducible exact H2_) | (have H2_ := (Option.bind_some _ _).symm.trans H; with_reducible exact H2_) | with_reducible exact H | (rw [hy103]; exact H) | exact H
      have Ny103 := Aside0.mk hy103
      clear hy103
      by_cases c10 : t101 = true
      ·subst c10
       replace H := ifT H
       by_cases c11 : t102 = true
       ·subst c11
        replace H := ifT H
        have H' := Aside0.mk H
        clear H
        go_wp2_with (first | ((with_reducible refine gc 105 rfl ?_); refine gL 27 Try.func105 #[.slice A0 l0.length c0, .int .i64 x7_1] ?_; (with_reducible refine (flyballref01_bit.calls _ _ l0 x7_1 true _ ?_ ?_ A7.out).mono ?_); exact Kd.C_below HR0.out (bup HB.out); exact HC0.out; rintro e w' ⟨rfl, ⟨nd, rfl⟩⟩; refine ⟨_, rfl, ?_⟩) | ((with_reducible refine gc 105 rfl ?_); refine gL 30 Try.func105 #[.slice A1 l1.length c1, .int .i64 x7_1] ?_; (with_reducible refine (flyballref01_bit.calls _ _ l1 x7_1 true _ ?_ ?_ A8.out).mono ?_); exact Kd.C_below HR1.out (bup HB.out); exact HC1.out; rintro e w' ⟨rfl, ⟨nd, rfl⟩⟩; refine ⟨_, rfl, ?_⟩) | ((with_reducible refine gate_builtin (b := .append) (xs := #[.tmp 31, .tmp 37]) rfl ?_); (try (refine gate_guard (by rfl) ?_; dsimp only)); at_builtin; refine Kd.R_append Kd.bool (w0 := w) w.heap.size rfl (.tmp 31) (.tmp 37) 26 4 (.bool false) 1 rfl Try.underlying26 info4 rfl (by decide) (by omega) u5 x5_1 x6_1 [.bool x6_1] (fun _ => True) (fun _ => False) rfl rfl ?aP (fun _ hk => hk.elim) ?aF ?aO ?aB ?aS ?aL ?_; (case aP => exact rfl); (case aB => exact (bup HB.out)); (case aF => exact (fun _ _ => trivial)); (case aO => exact (rup HO_5.out)); (case aS => exact (below_size (bup HB.out))); (case aL => have := LMc9.out; omega); intro v104 w12 ho hb hg hat; rw [show x6_1 = ((true != true) != x6_1) from by cases x6_1 <;> rfl] at ho; rw [← Ny103.out] at ho; replace HB := Aside0.mk (hb); have HO105 := Aside0.mk (ho); clear HO_5; clear ho hb hg hat))
        go_roundg kj2
        case measure => have := HK1.out; have := HJ2.out; omega
        case rel => exact ⟨(y103), (true), (wrap64 (x7_1 + 1)), rS, rS, H', ⟨by have := HK1.out; have := HJ2.out; omega⟩, ⟨rup HO105.out⟩, ⟨bup HB.out⟩⟩
       ·replace c11 := Bool.eq_false_iff.mpr c11
        subst c11
        have H1 : (if x6_1 = true then (flyballref01_Add.l0 kj2 l0 l1 y103 true (wrap64 (x7_1 + 1))) else (flyballref01_Add.l0 kj2 l0 l1 y103 false (wrap64 (x7_1 + 1)))) = some r := by rw [if_neg (show ¬ (false = true) by decide)] at H; exact H
        clear H
        have H := H1
        clear H1
        by_cases c13 : x6_1 = true
        ·subst c13
         replace H := ifT H
         have H' := Aside0.mk H
         clear H
         go_wp2_with (first | ((with_reducible refine gc 105 rfl ?_); refine gL 27 Try.func105 #[.slice A0 l0.length c0, .int .i64 x7_1] ?_; (with_reducible refine (flyballref01_bit.calls _ _ l0 x7_1 true _ ?_ ?_ A7.out).mono ?_); exact Kd.C_below HR0.out (bup HB.out); exact HC0.out; rintro e w' ⟨rfl, ⟨nd, rfl⟩⟩; refine ⟨_, rfl, ?_⟩) | ((with_reducible refine gc 105 rfl ?_); refine gL 30 Try.func105 #[.slice A1 l1.length c1, .int .i64 x7_1] ?_; (with_reducible refine (flyballref01_bit.calls _ _ l1 x7_1 false _ ?_ ?_ A8.out).mono ?_); exact Kd.C_below HR1.out (bup HB.out); exact HC1.out; rintro e w' ⟨rfl, ⟨nd, rfl⟩⟩; refine ⟨_, rfl, ?_⟩) | ((with_reducible refine gate_builtin (b := .append) (xs := #[.tmp 31, .tmp 37]) rfl ?_); (try (refine gate_guard (by rfl) ?_; dsimp only)); at_builtin; refine Kd.R_append Kd.bool (w0 := w) w.heap.size rfl (.tmp 31) (.tmp 37) 26 4 (.bool false) 1 rfl Try.underlying26 info4 rfl (by decide) (by omega) u5 x5_1 ((true != false) != true) [.bool ((true != false) != true)] (fun _ => True) (fun _ => False) rfl rfl ?aP (fun _ hk => hk.elim) ?aF ?aO ?aB ?aS ?aL ?_; (case aP => exact rfl); (case aB => exact (bup HB.out)); (case aF => exact (fun _ _ => trivial)); (case aO => exact (rup HO_5.out)); (case aS => exact (below_size (bup HB.out))); (case aL => have := LMc9.out; omega); intro v104 w14 ho hb hg hat; rw [← Ny103.out] at ho; replace HB := Aside0.mk (hb); have HO105 := Aside0.mk (ho); clear HO_5; clear ho hb hg hat))
         go_roundg kj2
         case measure => have := HK1.out; have := HJ2.out; omega
         case rel => exact ⟨(y103), (true), (wrap64 (x7_1 + 1)), rS, rS, H', ⟨by have := HK1.out; have := HJ2.out; omega⟩, ⟨rup HO105.out⟩, ⟨bup HB.out⟩⟩
        ·replace c13 := Bool.eq_false_iff.mpr c13
         subst c13
         have H1 : (flyballref01_Add.l0 kj2 l0 l1 y103 false (wrap64 (x7_1 + 1))) = some r := by rw [if_neg (show ¬ (false = true) by decide)] at H; exact H
         clear H
         have H := H1
         clear H1
         have H' := Aside0.mk H
         clear H
         go_wp2_with (first | ((with_reducible refine gc 105 rfl ?_); refine gL 27 Try.func105 #[.slice A0 l0.length c0, .int .i64 x7_1] ?_; (with_reducible refine (flyballref01_bit.calls _ _ l0 x7_1 true _ ?_ ?_ A7.out).mono ?_); exact Kd.C_below HR0.out (bup HB.out); exact HC0.out; rintro e w' ⟨rfl, ⟨nd, rfl⟩⟩; refine ⟨_, rfl, ?_⟩) | ((with_reducible refine gc 105 rfl ?_); refine gL 30 Try.func105 #[.slice A1 l1.length c1, .int .i64 x7_1] ?_; (with_reducible refine (flyballref01_bit.calls _ _ l1 x7_1 false _ ?_ ?_ A8.out).mono ?_); exact Kd.C_below HR1.out (bup HB.out); exact HC1.out; rintro e w' ⟨rfl, ⟨nd, rfl⟩⟩; refine ⟨_, rfl, ?_⟩) | ((with_reducible refine gate_builtin (b := .append) (xs := #[.tmp 31, .tmp 37]) rfl ?_); (try (refine gate_guard (by rfl) ?_; dsimp only)); at_builtin; refine Kd.R_append Kd.bool (w0 := w) w.heap.size rfl (.tmp 31) (.tmp 37) 26 4 (.bool false) 1 rfl Try.underlying26 info4 rfl (by decide) (by omega) u5 x5_1 ((true != false) != false) [.bool ((true != false) != false)] (fun _ => True) (fun _ => False) rfl rfl ?aP (fun _ hk => hk.elim) ?aF ?aO ?aB ?aS ?aL ?_; (case aP => exact rfl); (case aB => exact (bup HB.out)); (case aF => exact (fun _ _ => trivial)); (case aO => exact (rup HO_5.out)); (case aS => exact (below_size (bup HB.out))); (case aL => have := LMc9.out; omega); intro v104 w15 ho hb hg hat; rw [← Ny103.out] at ho; replace HB := Aside0.mk (hb); have HO105 := Aside0.mk (ho); clear HO_5; clear ho hb hg hat))
         go_roundg kj2
         case measure => have := HK1.out; have := HJ2.out; omega
         case rel => exact ⟨(y103), (false), (wrap64 (x7_1 + 1)), rS, rS, H', ⟨by have := HK1.out; have := HJ2.out; omega⟩, ⟨rup HO105.out⟩, ⟨bup HB.out⟩⟩
      ·replace c10 := Bool.eq_false_iff.mpr c10
       subst c10
       have H1 : (if t102 = true then (flyballref01_Add.l0 kj2 l0 l1 y103 x6_1 (wrap64 (x7_1 + 1))) else (flyballref01_Add.l0 kj2 l0 l1 y103 false (wrap64 (x7_1 + 1)))) = some r := by rw [if_neg (show ¬ (false = true) by decide)] at H; exact H
       clear H
       have H := H1
       clear H1
       by_cases c16 : t102 = true
       ·subst c16
        replace H := ifT H
        have H' := Aside0.mk H
        clear H
        go_wp2_with (first | ((with_reducible refine gc 105 rfl ?_); refine gL 27 Try.func105 #[.slice A0 l0.length c0, .int .i64 x7_1] ?_; (with_reducible refine (flyballref01_bit.calls _ _ l0 x7_1 false _ ?_ ?_ A7.out).mono ?_); exact Kd.C_below HR0.out (bup HB.out); exact HC0.out; rintro e w' ⟨rfl, ⟨nd, rfl⟩⟩; refine ⟨_, rfl, ?_⟩) | ((with_reducible refine gc 105 rfl ?_); refine gL 30 Try.func105 #[.slice A1 l1.length c1, .int .i64 x7_1] ?_; (with_reducible refine (flyballref01_bit.calls _ _ l1 x7_1 true _ ?_ ?_ A8.out).mono ?_); exact Kd.C_below HR1.out (bup HB.out); exact HC1.out; rintro e w' ⟨rfl, ⟨nd, rfl⟩⟩; refine ⟨_, rfl, ?_⟩) | ((with_reducible refine gate_builtin (b := .append) (xs := #[.tmp 31, .tmp 37]) rfl ?_); (try (refine gate_guard (by rfl) ?_; dsimp only)); at_builtin; refine Kd.R_append Kd.bool (w0 := w) w.heap.size rfl (.tmp 31) (.tmp 37) 26 4 (.bool false) 1 rfl Try.underlying26 info4 rfl (by decide) (by omega) u5 x5_1 (!x6_1) [.bool (!x6_1)] (fun _ => True) (fun _ => False) rfl rfl ?aP (fun _ hk => hk.elim) ?aF ?aO ?aB ?aS ?aL ?_; (case aP => exact rfl); (case aB => exact (bup HB.out)); (case aF => exact (fun _ _ => trivial)); (case aO => exact (rup HO_5.out)); (case aS => exact (below_size (bup HB.out))); (case aL => have := LMc9.out; omega); intro v104 w17 ho hb hg hat; rw [show (!x6_1) = ((false != true) != x6_1) from by cases x6_1 <;> rfl] at ho; rw [← Ny103.out] at ho; replace HB := Aside0.mk (hb); have HO105 := Aside0.mk (ho); clear HO_5; clear ho hb hg hat))
        go_roundg kj2
        case measure => have := HK1.out; have := HJ2.out; omega
        case rel => exact ⟨(y103), (x6_1), (wrap64 (x7_1 + 1)), rS, rS, H', ⟨by have := HK1.out; have := HJ2.out; omega⟩, ⟨rup HO105.out⟩, ⟨bup HB.out⟩⟩
       ·replace c16 := Bool.eq_false_iff.mpr c16
        subst c16
        have H1 : (flyballref01_Add.l0 kj2 l0 l1 y103 false (wrap64 (x7_1 + 1))) = some r := by rw [if_neg (show ¬ (false = true) by decide)] at H; exact H
        clear H
        have H := H1
        clear H1
        have H' := Aside0.mk H
        clear H
        go_wp2_with (first | ((with_reducible refine gc 105 rfl ?_); refine gL 27 Try.func105 #[.slice A0 l0.length c0, .int .i64 x7_1] ?_; (with_reducible refine (flyballref01_bit.calls _ _ l0 x7_1 false _ ?_ ?_ A7.out).mono ?_); exact Kd.C_below HR0.out (bup HB.out); exact HC0.out; rintro e w' ⟨rfl, ⟨nd, rfl⟩⟩; refine ⟨_, rfl, ?_⟩) | ((with_reducible refine gc 105 rfl ?_); refine gL 30 Try.func105 #[.slice A1 l1.length c1, .int .i64 x7_1] ?_; (with_reducible refine (flyballref01_bit.calls _ _ l1 x7_1 false _ ?_ ?_ A8.out).mono ?_); exact Kd.C_below HR1.out (bup HB.out); exact HC1.out; rintro e w' ⟨rfl, ⟨nd, rfl⟩⟩; refine ⟨_, rfl, ?_⟩) | ((with_reducible refine gate_builtin (b := .append) (xs := #[.tmp 31, .tmp 37]) rfl ?_); (try (refine gate_guard (by rfl) ?_; dsimp only)); at_builtin; refine Kd.R_append Kd.bool (w0 := w) w.heap.size rfl (.tmp 31) (.tmp 37) 26 4 (.bool false) 1 rfl Try.underlying26 info4 rfl (by decide) (by omega) u5 x5_1 x6_1 [.bool x6_1] (fun _ => True) (fun _ => False) rfl rfl ?aP (fun _ hk => hk.elim) ?aF ?aO ?aB ?aS ?aL ?_; (case aP => exact rfl); (case aB => exact (bup HB.out)); (case aF => exact (fun _ _ => trivial)); (case aO => exact (rup HO_5.out)); (case aS => exact (below_size (bup HB.out))); (case aL => have := LMc9.out; omega); intro v104 w18 ho hb hg hat; rw [show x6_1 = ((false != false) != x6_1) from by cases x6_1 <;> rfl] at ho; rw [← Ny103.out] at ho; replace HB := Aside0.mk (hb); have HO105 := Aside0.mk (ho); clear HO_5; clear ho hb hg hat))
        go_roundg kj2
        case measure => have := HK1.out; have := HJ2.out; omega
        case rel => exact ⟨(y103), (false), (wrap64 (x7_1 + 1)), rS, rS, H', ⟨by have := HK1.out; have := HJ2.out; omega⟩, ⟨rup HO105.out⟩, ⟨bup HB.out⟩⟩
     ·replace c6 := Bool.eq_false_iff.mpr c6
      subst c6
      have H1 : (some x5_1) = some r := by rw [if_neg (show ¬ (false = true) by decide)] at H; exact H
      clear H
      have H := H1
      clear H1
      obtain rfl := Option.some.inj H
      go_wp2
      go_ret
      exact ⟨_, er, rup HO_5.out, bup HB.out⟩
end Go.Proofs.Ytagbnkbhobmgjaa.Fn
end
section
-- Written by a program of this session (a turned copy of the kit's printer, and hand-written parts). Not trusted: Lean checks it.
namespace Go.Proofs.Ytagbnkbhobmgjaa.Fn
open Go.RowKit Go.Proofs.YtagbnkbhobmgjaaW.PrintWords Go.Proofs.YtagbnkbhobmgjaaW.PrintLast Go.Proofs.YtagbnkbhobmgjaaW.PrintMore
attribute [local go_sem] max2_int min2_int max_two min_two max_three min_three max_four min_four   -- for this text's walks alone
set_option linter.unusedVariables false
set_option linter.unusedSimpArgs false
/-! ### flyballref01_Shl: function 45 -/
def flyballref01_Shl.l0 : Nat → List Bool → Int → List Bool → Int → Option (List Bool)
 | 0, _, _, _, _ => none
 | k + 1, x0, x1, x5, x6 => if x6 < x1 then (if x5.length < 140737488355328 then (flyballref01_Shl.l0 k x0 x1 (x5 ++ [false]) (wrap64 (x6 + 1))) else (none)) else (if x5.length + x0.length < 140737488355328 then (some (x5 ++ x0)) else (none))
def flyballref01_Shl.f (k : Nat) (l0 : List Bool) (a1 : Int) : Option (List Bool) := flyballref01_Shl.l0 k l0 a1 ([] : List Bool) 0
set_option maxHeartbeats 8000000 in
set_option maxRecDepth 100000 in
theorem flyballref01_Shl.calls (k : Nat) (A0 : Option Addr) (c0 : Nat) (l0 : List Bool) (a1 : Int) (r : List Bool) (w : World) (hr0 : Kd.C Kd.bool w A0 l0.length l0) (hc0 : l0.length ≤ c0) (h : flyballref01_Shl.f k l0 a1 = some r) :
  Calls Try.prog 45 #[.slice A0 l0.length c0, .int .i64 a1] w fun e w' => ∃ v0_ : Value, e = .returned (v0_) ∧ Kd.R Kd.bool 4 w' w.heap.size (fun _ => True) v0_ r ∧ Below w.heap.size w w' := by
 have HR0 := Aside0.mk hr0
 have HC0 := Aside0.mk hc0
 clear hr0 hc0
 have HB := Aside0.mk (Below.refl w.heap.size w)
 have H : (flyballref01_Shl.l0 k l0 a1 ([] : List Bool) 0) = some r := h
 clear h
 have H' := Aside0.mk H
 clear H
 go_enter Try.func45, Try.ntmps45
 go_wp2
 go_loopg [5, 6] k (fun kq v5 v6 w' => ∃ (x5_1 : List Bool) (x6_1 : Int), v6 = .int .i64 x6_1 ∧ Aside0 (flyballref01_Shl.l0 kq l0 a1 x5_1 x6_1 = some r) ∧ Aside0 (kq ≤ k) ∧ Aside0 (Kd.R Kd.bool 4 w' w.heap.size (fun _ => True) v5 x5_1) ∧ Aside0 (Below w.heap.size w w'))
 case atStart => exact ⟨(([] : List Bool)), (0), (by first | rfl | (simp; done) | (simp [*]; done)), H', ⟨Nat.le_refl _⟩, ⟨by first | exact Kd.R_nil _ _ _ _ _ | exact Kd.N_nil _ _ _ _ _ | exact Kd.V_nil _ _ _ _ _ | exact Kd.Q_nil _ _ _ _ _ | exact Kd.S_nil _ _ _ _ _⟩, ⟨by repeat (first | (with_reducible first | exact HB.out | apply below_alloc | apply pw_below_drewN | apply below_drew1) | exact HB.out)⟩⟩
 case round =>
  clear H'
  try clear p2
  obtain ⟨x5_1, x6_1, rfl, HA, HK1, HO_5, HB⟩ := hrel
  cases gk with
  | zero => exact absurd HA.out (by simp [flyballref01_Shl.l0])
  | succ k1 =>
   have H := HA.out
   clear HA
   simp only [flyballref01_Shl.l0] at H
   by_cases c3 : x6_1 < a1
   ·rw [if_pos c3] at H
    have c3b0 : decide (x6_1 < a1) = true := decide_eq_true c3
    clear c3
    by_cases c4 : x5_1.length < 140737488355328
    ·rw [if_pos c4] at H
     have LMc4 := Aside0.mk c4
     clear c4
     obtain ⟨y101, hy101⟩ : ∃ y_ : List Bool, y_ = (x5_1 ++ [false]) := ⟨_, rfl⟩
     replace H : (flyballref01_Shl.l0 k1 l0 a1 y101 (wrap64 (x6_1 + 1))) = some r := by first | (rw [hy101]; with_reducible exact H) | (have H2_ := (Option.bind_some _ _).symm.trans H; rw [hy101]; with_reducible exact H2_) | (have H2_ := (Option.bind_some _ _).symm.trans H; with_reducible exact H2_) | with_reducible exact H | (rw [hy101]; exact H) | exact H
     have Ny101 := Aside0.mk hy101
     clear hy101
     have H' := Aside0.mk H
     clear H
     go_wp2_with (first | ((with_reducible refine gate_builtin (b := .append) (xs := #[.tmp 12, .tmp 13]) rfl ?_); at_builtin; refine Kd.R_append Kd.bool (w0 := w) w.heap.size rfl (.tmp 12) (.tmp 13) 26 4 (.bool false) 1 rfl Try.underlying26 info4 rfl (by decide) (by omega) u5 x5_1 false [.bool false] (fun _ => True) (fun _ => False) rfl rfl ?aP (fun _ hk => hk.elim) ?aF ?aO ?aB ?aS ?aL ?_; (case aP => exact rfl); (case aB => exact (by repeat (first | (with_reducible first | exact HB.out | apply below_alloc | apply pw_below_drewN | apply below_drew1) | exact HB.out))); (case aF => exact (fun _ _ => trivial)); (case aO => exact (by (with_reducible repeat (first | apply Kd.R_alloc | apply Kd.R_drewN | apply Kd.R_drew)); exact HO_5.out)); (case aS => exact (below_size (by repeat (first | (with_reducible first | exact HB.out | apply below_alloc | apply pw_below_drewN | apply below_drew1) | exact HB.out)))); (case aL => have := LMc4.out; omega); intro v102 w5 ho hb hg hat; rw [← Ny101.out] at ho; have n0_ := Aside0.mk (hb); have n1_ := Aside0.mk (ho); clear HB; clear HO_5; have HB := n0_; have HO103 := n1_; clear n0_ n1_; clear ho hb hg hat))
     go_roundg k1
     case measure => have := HK1.out; omega
     case rel => exact ⟨(y101), (wrap64 (x6_1 + 1)), (by first | rfl | (simp; done) | (simp [*]; done)), H', ⟨by have := HK1.out; omega⟩, ⟨by (with_reducible repeat (first | apply Kd.R_alloc | apply Kd.R_drewN | apply Kd.R_drew)); exact HO103.out⟩, ⟨by repeat (first | (with_reducible first | exact HB.out | apply below_alloc | apply pw_below_drewN | apply below_drew1) | exact HB.out)⟩⟩
    ·rw [if_neg c4] at H
     exact absurd H (by simp)
   ·rw [if_neg c3] at H
    have c3b0 : decide (x6_1 < a1) = false := decide_eq_false c3
    clear c3
    by_cases c6 : x5_1.length + l0.length < 140737488355328
    ·rw [if_pos c6] at H
     have LMc6 := Aside0.mk c6
     clear c6
     obtain ⟨y104, hy104⟩ : ∃ y_ : List Bool, y_ = (x5_1 ++ l0) := ⟨_, rfl⟩
     replace H : (some y104) = some r := by first | (rw [hy104]; with_reducible exact H) | (have H2_ := (Option.bind_some _ _).symm.trans H; rw [hy104]; with_reducible exact H2_) | (have H2_ := (Option.bind_some _ _).symm.trans H; with_reducible exact H2_) | with_reducible exact H | (rw [hy104]; exact H) | exact H
     have Ny104 := Aside0.mk hy104
     clear hy104
     obtain rfl := Option.some.inj H
     go_wp2_with (first | ((with_reducible refine gate_builtin (b := .append) (xs := #[.tmp 15, .tmp 16]) rfl ?_); at_builtin; refine Kd.R_append_rows Kd.bool (w0 := w) w.heap.size rfl (.tmp 15) (.tmp 16) 26 4 (.bool false) 1 rfl Try.underlying26 info4 rfl (by decide) (by omega) u5 x5_1 l0 _ _ _ (fun _ => True) (fun _ => False) rfl rfl ?aO ?aR (fun _ _ h => h) (fun _ h => h.elim) ?aF ?aB ?aS ?aL ?_; (case aR => repeat (first | exact (Kd.C_below HR0.out HB.out) | (with_reducible refine Kd.C_alloc ?_ _) | (with_reducible refine Kd.C_drewN ?_ _) | (with_reducible refine Kd.C_drew ?_))); (case aB => exact (by repeat (first | (with_reducible first | exact HB.out | apply below_alloc | apply pw_below_drewN | apply below_drew1) | exact HB.out))); (case aF => exact (fun _ _ => trivial)); (case aO => exact (by (with_reducible repeat (first | apply Kd.R_alloc | apply Kd.R_drewN | apply Kd.R_drew)); exact HO_5.out)); (case aS => exact (below_size (by repeat (first | (with_reducible first | exact HB.out | apply below_alloc | apply pw_below_drewN | apply below_drew1) | exact HB.out)))); (case aL => have := LMc6.out; omega); intro v105 w7 ho hb hg hat; rw [← Ny104.out] at ho; have n0_ := Aside0.mk (hb); have n1_ := Aside0.mk (ho); clear HB; clear HO_5; have HB := n0_; have HO106 := n1_; clear n0_ n1_; clear ho hb hg hat))
     go_ret
     exact ⟨_, by first | rfl | (simp [errW_none, errW_some] <;> rfl) | (simp [*, errW_none, errW_some] <;> rfl), by (with_reducible repeat (first | apply Kd.R_alloc | apply Kd.R_drewN | apply Kd.R_drew)); exact HO106.out, by repeat (first | (with_reducible first | exact HB.out | apply below_alloc | apply pw_below_drewN | apply below_drew1) | exact HB.out)⟩
    ·rw [if_neg c6] at H
     exact absurd H (by simp)
end Go.Proofs.Ytagbnkbhobmgjaa.Fn
end
section
-- Written by a program of this session (a turned copy of the kit's printer, and hand-written parts). Not trusted: Lean checks it.
namespace Go.Proofs.Ytagbnkbhobmgjaa.Fn
open Go.RowKit Go.Proofs.YtagbnkbhobmgjaaW.PrintWords Go.Proofs.YtagbnkbhobmgjaaW.PrintLast Go.Proofs.YtagbnkbhobmgjaaW.PrintMore
attribute [local go_sem] max2_int min2_int max_two min_two max_three min_three max_four min_four   -- for this text's walks alone
set_option linter.unusedVariables false
set_option linter.unusedSimpArgs false
/-! ### flyballref01_Mul: function 31 -/
def flyballref01_Mul.l0 : Nat → List Bool → List Bool → List Bool → Int → Option (List Bool)
 | 0, _, _, _, _ => none
 | k + 1, x0, x1, x5, x6 => if x6 < (x1.length : Int) then (if 0 ≤ x6 then (if rdOf false x1 x6 = true then ((flyballref01_Shl.f k x0 x6).bind fun t102 => ((flyballref01_Add.f k x5 t102).bind fun t105 => (flyballref01_Mul.l0 k x0 x1 t105 (wrap64 (x6 + 1))))) else (flyballref01_Mul.l0 k x0 x1 x5 (wrap64 (x6 + 1)))) else (none)) else (some x5)
def flyballref01_Mul.f (k : Nat) (l0 : List Bool) (l1 : List Bool) : Option (List Bool) := flyballref01_Mul.l0 k l0 l1 ([] : List Bool) 0
set_option maxHeartbeats 8000000 in
set_option maxRecDepth 100000 in
theorem flyballref01_Mul.calls (k : Nat) (A0 : Option Addr) (c0 : Nat) (l0 : List Bool) (A1 : Option Addr) (c1 : Nat) (l1 : List Bool) (r : List Bool) (w : World) (hr0 : Kd.C Kd.bool w A0 l0.length l0) (hc0 : l0.length ≤ c0) (hr1 : Kd.C Kd.bool w A1 l1.length l1) (hc1 : l1.length ≤ c1) (H : flyballref01_Mul.f k l0 l1 = some r) :
  Calls Try.prog 31 #[.slice A0 l0.length c0, .slice A1 l1.length c1] w fun e w' => ∃ v0_ : Value, e = .returned (v0_) ∧ Kd.R Kd.bool 4 w' w.heap.size (fun _ => True) v0_ r ∧ Below w.heap.size w w' := by
 have HR0 := Aside0.mk hr0
 have HC0 := Aside0.mk hc0
 clear hr0 hc0
 have HR1 := Aside0.mk hr1
 have HC1 := Aside0.mk hc1
 clear hr1 hc1
 have HB := Aside0.mk (Below.refl w.heap.size w)
 unfold flyballref01_Mul.f at H
 have H' := Aside0.mk H
 clear H
 go_enter Try.func31, Try.ntmps31
 go_wp2
 go_loopg [5, 6] k (fun kq v5 v6 w' => ∃ (x5_1 : List Bool) (x6_1 : Int), v6 = .int .i64 x6_1 ∧ Aside0 (flyballref01_Mul.l0 kq l0 l1 x5_1 x6_1 = some r) ∧ Aside0 (kq ≤ k) ∧ Aside0 (Kd.R Kd.bool 4 w' w.heap.size (fun _ => True) v5 x5_1) ∧ Aside0 (Below w.heap.size w w'))
 case atStart => exact ⟨(([] : List Bool)), (0), rS, H', ⟨Nat.le_refl _⟩, ⟨nil5⟩, ⟨bup HB.out⟩⟩
 case round =>
  clear H'
  try clear c1
  try clear p2
  obtain ⟨x5_1, x6_1, rfl, HA, HK1, HO_5, HB⟩ := hrel
  cases gk with
  | zero => exact absurd HA.out (by simp [flyballref01_Mul.l0])
  | succ k1 =>
   have H := HA.out
   clear HA
   simp only [flyballref01_Mul.l0] at H
   by_cases c3 : x6_1 < (l1.length : Int)
   rotate_left
   ·rw [if_neg c3] at H
    have c3b0 : decide (x6_1 < (l1.length : Int)) = false := decide_eq_false c3
    clear c3
    obtain rfl := Option.some.inj H
    go_wp2
    go_ret
    exact ⟨_, er, rup HO_5.out, bup HB.out⟩
   rw [if_pos c3] at H
   have c3b0 : decide (x6_1 < (l1.length : Int)) = true := decide_eq_true c3
   clear c3
   replace H := iS H
   obtain ⟨c4, H⟩ := H
   have c4b0 : decide (0 ≤ x6_1) = true := decide_eq_true c4
   clear c4
   obtain ⟨bq5, hbq5⟩ : ∃ b_ : Bool, b_ = (rdOf false l1 x6_1) := ⟨_, rfl⟩
   replace H : (if bq5 = true then ((flyballref01_Shl.f k1 l0 x6_1).bind fun t102 => ((flyballref01_Add.f k1 x5_1 t102).bind fun t105 => (flyballref01_Mul.l0 k1 l0 l1 t105 (wrap64 (x6_1 + 1))))) else (flyballref01_Mul.l0 k1 l0 l1 x5_1 (wrap64 (x6_1 + 1)))) = some r := by rw [← hbq5] at H; exact H
   have Nbq5 := Aside0.mk hbq5
   clear hbq5
   by_cases c6 : bq5 = true
   ·subst c6
    replace H := ifT H
    replace H := bi H
    obtain ⟨t102, A7, H⟩ := H
    replace H := bi H
    obtain ⟨t105, A8, H⟩ := H
    have H' := Aside0.mk H
    clear H
    have p101 : 0 ≤ (x6_1 : Int) := of_decide_eq_true asm
    have q101 : x6_1 < (l1.length : Int) := of_decide_eq_true asm
    obtain ⟨ad101, e101, hx101_0⟩ := Kd.at_bool HR1.out x6_1 p101 q101
    (try rw [← Nbq5.out] at hx101_0)
    cases e101
    replace hx101_0 := (HB.out.cell (World.block_lt_of_cell? w _ hx101_0)).trans hx101_0
    replace p101 := eq_true p101
    replace q101 := eq_true q101
    go_wp2_with (first | ((with_reducible refine gc 45 rfl ?_); refine gL 20 Try.func45 #[.slice A0 l0.length c0, .int .i64 x6_1] ?_; (with_reducible refine (flyballref01_Shl.calls k1 _ _ l0 x6_1 t102 _ ?_ ?_ A7.out).mono ?_); exact Kd.C_below HR0.out (bup HB.out); exact HC0.out; rintro e w9 ⟨v103, rfl, ho0, hb⟩; refine ⟨_, rfl, ?_⟩; have HO104 := Aside0.mk (Kd.R_lower (Kd.R_new' ho0 (Kd.R_lt (rup HO_5.out))) (below_size (bup HB.out))); replace HO_5 := Aside0.mk (Kd.R_elder' (rup HO_5.out) (Kd.R_base ho0) hb); replace HB := bA HB hb; clear hb ho0; obtain ⟨Ao10, co10, eo10⟩ := Kd.R_slice HO_5.out; subst eo10; obtain ⟨Ao11, co11, eo11⟩ := Kd.R_slice HO104.out; subst eo11) | ((with_reducible refine gc 29 rfl ?_); refine gL 21 Try.func29 #[.slice Ao10 x5_1.length co10, .slice Ao11 t102.length co11] ?_; (with_reducible refine (flyballref01_Add.calls k1 _ _ x5_1 _ _ t102 t105 _ ?_ ?_ ?_ ?_ A8.out).mono ?_); exact cup ((Kd.R_reads' HO_5.out).2.2); exact (Kd.R_reads' HO_5.out).2.1; exact cup ((Kd.R_reads' HO104.out).2.2); exact (Kd.R_reads' HO104.out).2.1; rintro e w12 ⟨v106, rfl, ho0, hb⟩; refine ⟨_, rfl, ?_⟩; have HO107 := Aside0.mk (Kd.R_lower (Kd.R_new' (Kd.R_new' ho0 (Kd.R_lt (rup HO_5.out))) (Kd.R_lt (rup HO104.out))) (below_size (bup HB.out))); replace HO_5 := Aside0.mk (Kd.R_elder' (rup HO_5.out) (Kd.R_base ho0) hb); replace HO104 := Aside0.mk (Kd.R_elder' (rup HO104.out) (Kd.R_base ho0) hb); replace HB := bA HB hb; clear hb ho0))
    go_roundg k1
    case measure => have := HK1.out; omega
    case rel => exact ⟨(t105), (wrap64 (x6_1 + 1)), rS, H', ⟨hk1⟩, ⟨by (with_reducible repeat (first | apply Kd.R_alloc | apply Kd.R_drewN | apply Kd.R_drew)); exact Kd.R_mono HO107.out (fun _ hk => trivial)⟩, ⟨bup HB.out⟩⟩
   ·replace c6 := Bool.eq_false_iff.mpr c6
    subst c6
    have H1 : (flyballref01_Mul.l0 k1 l0 l1 x5_1 (wrap64 (x6_1 + 1))) = some r := by rw [if_neg (show ¬ (false = true) by decide)] at H; exact H
    clear H
    have H := H1
    clear H1
    have H' := Aside0.mk H
    clear H
    have p101 : 0 ≤ (x6_1 : Int) := of_decide_eq_true asm
    have q101 : x6_1 < (l1.length : Int) := of_decide_eq_true asm
    obtain ⟨ad101, e101, hx101_0⟩ := Kd.at_bool HR1.out x6_1 p101 q101
    (try rw [← Nbq5.out] at hx101_0)
    cases e101
    replace hx101_0 := (HB.out.cell (World.block_lt_of_cell? w _ hx101_0)).trans hx101_0
    replace p101 := eq_true p101
    replace q101 := eq_true q101
    go_wp2
    go_roundg k1
    case measure => have := HK1.out; omega
    case rel => exact ⟨(x5_1), (wrap64 (x6_1 + 1)), rS, H', ⟨hk1⟩, ⟨rup HO_5.out⟩, ⟨bup HB.out⟩⟩
end Go.Proofs.Ytagbnkbhobmgjaa.Fn
end
section
-- Written by a program of this session (a turned copy of the kit's printer, and hand-written parts). Not trusted: Lean checks it.
namespace Go.Proofs.Ytagbnkbhobmgjaa.Fn
open Go.RowKit Go.Proofs.YtagbnkbhobmgjaaW.PrintWords Go.Proofs.YtagbnkbhobmgjaaW.PrintLast Go.Proofs.YtagbnkbhobmgjaaW.PrintMore
attribute [local go_sem] max2_int min2_int max_two min_two max_three min_three max_four min_four   -- for this text's walks alone
set_option linter.unusedVariables false
set_option linter.unusedSimpArgs false
/-! ### flyballref03_Mul: function 91 -/
def flyballref03_Mul.f (k : Nat) (a0_0 : Bool) (l0_1 : List Bool) (l0_2 : List Bool) (a1_0 : Bool) (l1_1 : List Bool) (l1_2 : List Bool) : Option (Bool × List Bool × List Bool) := (flyballref01_Mul.f k l0_1 l1_1).bind fun t104 => ((flyballref01_Mul.f k l0_2 l1_2).bind fun t107 => ((flyballref03_Low.f k (a0_0 != a1_0) t104 t107).bind fun bt110 => (some (bt110.1, bt110.2.1, bt110.2.2))))
def flyballref03_Mul.T1 : Bool × List (List Nat × List Nat) := (true, [([], []), ([0], [0]), ([], []), ([2], [2]), ([1, 3], [1, 3]), ([], []), ([5], [5]), ([], []), ([7], [7]), ([6, 8], [6, 8]), ([], []), ([10], [10]), ([], []), ([12], [12]), ([11, 13, 9], [11, 13]), ([4, 9, 14, 14], [4, 9, 14]), ([15, 15, 0, 1, 2, 3, 4, 5, 6, 7, 8, 9, 10, 11, 12, 13, 14, 15], [15])])
def flyballref03_Mul.B1 : List Nat := [0, 1, 0, 4, 15, 0, 32, 0, 128, 480, 0, 1024, 0, 4096, 16352, 32767, 65535]
theorem flyballref03_Mul.tab1 : rtab .any (opsOf Try.f91 1) = flyballref03_Mul.T1 := by kernel_rfl
theorem flyballref03_Mul.bits1 : waitsOk flyballref03_Mul.T1.2 flyballref03_Mul.B1 = true := by kernel_rfl
set_option maxHeartbeats 8000000 in
set_option maxRecDepth 100000 in
theorem flyballref03_Mul.calls (k : Nat) (a0_0 : Bool) (A0_1 : Option Addr) (c0_1 : Nat) (l0_1 : List Bool) (A0_2 : Option Addr) (c0_2 : Nat) (l0_2 : List Bool) (a1_0 : Bool) (A1_1 : Option Addr) (c1_1 : Nat) (l1_1 : List Bool) (A1_2 : Option Addr) (c1_2 : Nat) (l1_2 : List Bool) (r1 : Bool) (r2 : List Bool) (r3 : List Bool) (w : World) (hr0_1 : Kd.C Kd.bool w A0_1 l0_1.length l0_1) (hc0_1 : l0_1.length ≤ c0_1) (hr0_2 : Kd.C Kd.bool w A0_2 l0_2.length l0_2) (hc0_2 : l0_2.length ≤ c0_2) (hr1_1 : Kd.C Kd.bool w A1_1 l1_1.length l1_1) (hc1_1 : l1_1.length ≤ c1_1) (hr1_2 : Kd.C Kd.bool w A1_2 l1_2.length l1_2) (hc1_2 : l1_2.length ≤ c1_2) (H : flyballref03_Mul.f k a0_0 l0_1 l0_2 a1_0 l1_1 l1_2 = some (r1, r2, r3)) :
  Calls Try.prog 91 #[.agg #[.bool a0_0, .slice A0_1 l0_1.length c0_1, .slice A0_2 l0_2.length c0_2], .agg #[.bool a1_0, .slice A1_1 l1_1.length c1_1, .slice A1_2 l1_2.length c1_2]] w fun e w' => ∃ v1_ v2_ : Value, e = .returned (.agg #[.bool r1, v1_, v2_]) ∧ Kd.R Kd.bool 4 w' w.heap.size (fun k_ => some k_ ≠ (v2_ : Value).ownBlock) v1_ r2 ∧ Kd.R Kd.bool 4 w' w.heap.size (fun k_ => some k_ ≠ (v1_ : Value).ownBlock) v2_ r3 ∧ Below w.heap.size w w' := by
 have hu92 := Try.underlying92
 have HR0_1 := Aside0.mk hr0_1
 have HC0_1 := Aside0.mk hc0_1
 clear hr0_1 hc0_1
 have HR0_2 := Aside0.mk hr0_2
 have HC0_2 := Aside0.mk hc0_2
 clear hr0_2 hc0_2
 have HR1_1 := Aside0.mk hr1_1
 have HC1_1 := Aside0.mk hc1_1
 clear hr1_1 hc1_1
 have HR1_2 := Aside0.mk hr1_2
 have HC1_2 := Aside0.mk hc1_2
 clear hr1_2 hc1_2
 have HB := Aside0.mk (Below.refl w.heap.size w)
 unfold flyballref03_Mul.f at H
 replace H := bi H
 obtain ⟨t104, A3, H⟩ := H
 replace H := bi H
 obtain ⟨t107, A4, H⟩ := H
 replace H := bi H
 obtain ⟨⟨t110, t111, t114⟩, A5, H⟩ := H
 try dsimp only at H
 simp only [Option.some.injEq, Prod.mk.injEq] at H
 obtain ⟨rfl, rfl, rfl⟩ := H
 go_enter Try.func91, Try.ntmps91
 try go_wp2_with (first | ((with_reducible refine gd 2 rfl ?_); refine box_event ?hg (N := 2) ?hd (cs := #[.bool a0_0, .slice A0_1 l0_1.length c0_1, .slice A0_2 l0_2.length c0_2]) (t := 92) ?hr ?_; (case hd => rfl); (case hg => rfl); (case hr => first | (go_simp; done) | (go_simp; rfl)); intro gb101 hg w6 hbox hb; have BK101 := Aside0.mk hbox; have GW101 := gB hg HB; have GE101 := gB hg HB; replace HB := bA HB hb; clear hb hbox hg) | ((with_reducible refine gd 3 rfl ?_); refine box_event ?hg (N := 3) ?hd (cs := #[.bool a1_0, .slice A1_1 l1_1.length c1_1, .slice A1_2 l1_2.length c1_2]) (t := 92) ?hr ?_; (case hd => rfl); (case hg => rfl); (case hr => first | (go_simp; done) | (go_simp; rfl)); intro gb102 hg w7 hbox hb; have BK102 := Aside0.mk hbox; have GW102 := gS' hg HB; have GE102 := gS' hg HB; replace HB := bS HB hb; have NB101_102 := nL hg BK101; have NB102_101 := nR hg BK101; replace BK101 := kA BK101 hb; clear hb hbox hg) | ((with_reducible refine gd 4 rfl ?_); refine box_event ?hg (N := 4) ?hd (cs := #[.bool false, .slice none 0 0, .slice none 0 0]) (t := 92) ?hr ?_; (case hd => rfl); (case hg => rfl); (case hr => first | (go_simp; done) | (go_simp; rfl)); intro gb103 hg w8 hbox hb; have BK103 := Aside0.mk hbox; have GW103 := gS' hg HB; have GE103 := gS' hg HB; replace HB := bS HB hb; have NB101_103 := nL hg BK101; have NB103_101 := nR hg BK101; replace BK101 := kA BK101 hb; have NB102_103 := nL hg BK102; have NB103_102 := nR hg BK102; replace BK102 := kA BK102 hb; clear hb hbox hg))
 replace BK101 := kd BK101
 replace BK102 := kd BK102
 replace BK103 := kd BK103
 replace HB := bd HB
 refine st (S := fun w' => B3 w' gb101 (.bool a0_0) (.slice A0_1 l0_1.length c0_1) (.slice A0_2 l0_2.length c0_2) ∧ B3 w' gb102 (.bool a1_0) (.slice A1_1 l1_1.length c1_1) (.slice A1_2 l1_2.length c1_2)) 17 [] (tf 0 17) ⟨b3 BK101, b3 BK102⟩ (fun hHeld => ?_); refine with_tabW flyballref03_Mul.tab1 flyballref03_Mul.bits1 (fun HT_ HW_ => ?_)
 generalize w8.drew = w9 at BK101 BK102 BK103 HB hHeld ⊢
 refine pu 0 5 (tf 1 16) ?_
 refine pu 2 7 #[true, false, true, false, false, false, false, false, false, false, false, false, false, false, false, false, false] ?_
 refine pu 5 10 #[true, false, true, false, false, true, false, false, false, false, false, false, false, false, false, false, false] ?_
 refine pu 7 12 #[true, false, true, false, false, true, false, true, false, false, false, false, false, false, false, false, false] ?_
 refine pu 10 15 #[true, false, true, false, false, true, false, true, false, false, true, false, false, false, false, false, false] ?_
 refine pu 12 17 #[true, false, true, false, false, true, false, true, false, false, true, false, true, false, false, false, false] ?_
 refine tk 1 6 #[true, true, true, false, false, true, false, true, false, false, true, false, true, false, false, false, false] hHeld ?_
 refine tk 3 8 #[true, true, true, true, false, true, false, true, false, false, true, false, true, false, false, false, false] hHeld ?_
 refine pu 4 9 #[true, true, true, true, true, true, false, true, false, false, true, false, true, false, false, false, false] ?_
 refine tk 6 11 #[true, true, true, true, true, true, true, true, false, false, true, false, true, false, false, false, false] hHeld ?_
 refine tk 8 13 #[true, true, true, true, true, true, true, true, true, false, true, false, true, false, false, false, false] hHeld ?_
 refine tk 11 16 #[true, true, true, true, true, true, true, true, true, false, true, true, true, false, false, false, false] hHeld ?_
 refine tk 13 18 #[true, true, true, true, true, true, true, true, true, false, true, true, true, true, false, false, false] hHeld ?_
 refine on 9 (some 14) (tf 14 3) (fun K hK => ?_)
 refine gS Try.func31 #[.slice A0_1 l0_1.length c0_1, .slice A1_1 l1_1.length c1_1] ?_
 with_reducible refine (flyballref01_Mul.calls k _ _ l0_1 _ _ l1_1 t104 _ ?_ ?_ ?_ ?_ A3.out).mono ?_
 exact Kd.C_below HR0_1.out (bup HB.out)
 exact HC0_1.out
 exact Kd.C_below HR1_1.out (bup HB.out)
 exact HC1_1.out
 rintro e w10 ⟨v105, rfl, ho0, hb⟩
 refine ⟨_, rfl, ?_⟩
 have HO106 := Aside0.mk (Kd.R_lower ho0 (below_size hB))
 replace BK101 := kA BK101 hb
 replace BK102 := kA BK102 hb
 replace BK103 := kA BK103 hb
 replace HB := bS HB hb
 clear hb ho0
 refine hK.out _ _ ⟨b3 BK101, b3 BK102⟩ (fun hHeld => nm ?_)
 clear hK K
 refine on 14 (some 19) (tf 15 2) (fun K hK => ?_)
 refine gS Try.func31 #[.slice A0_2 l0_2.length c0_2, .slice A1_2 l1_2.length c1_2] ?_
 with_reducible refine (flyballref01_Mul.calls k _ _ l0_2 _ _ l1_2 t107 _ ?_ ?_ ?_ ?_ A4.out).mono ?_
 exact Kd.C_below HR0_2.out (bup HB.out)
 exact HC0_2.out
 exact Kd.C_below HR1_2.out (bup HB.out)
 exact HC1_2.out
 rintro e w11 ⟨v108, rfl, ho0, hb⟩
 refine ⟨_, rfl, ?_⟩
 have HO109 := Aside0.mk (Kd.R_lower (Kd.R_new' ho0 (Kd.R_lt (rup HO106.out))) (below_size hB))
 replace HO106 := Aside0.mk (Kd.R_elder' (rup HO106.out) (Kd.R_base ho0) hb)
 replace BK101 := kA BK101 hb
 replace BK102 := kA BK102 hb
 replace BK103 := kA BK103 hb
 replace HB := bS HB hb
 clear hb ho0
 obtain ⟨Ao12, co12, eo12⟩ := Kd.R_slice HO106.out
 (first | subst eo12 | (injection eo12 with f1_ f2_ f3_; have f4_ := f1_.symm; have f5_ := f3_.symm; clear f1_ f2_ f3_; subst f4_; subst f5_))
 obtain ⟨Ao13, co13, eo13⟩ := Kd.R_slice HO109.out
 (first | subst eo13 | (injection eo13 with f1_ f2_ f3_; have f4_ := f1_.symm; have f5_ := f3_.symm; clear f1_ f2_ f3_; subst f4_; subst f5_))
 refine hK.out _ _ ⟨b3 BK101, b3 BK102⟩ (fun hHeld => nm ?_)
 clear hK K
 refine on 15 (some 20) (tf 16 1) (fun K hK => ?_)
 refine gS Try.func96 #[.bool (a0_0 != a1_0), .slice Ao12 t104.length co12, .slice Ao13 t107.length co13] ?_
 with_reducible refine (flyballref03_Low.calls k (a0_0 != a1_0) (fun k_ => some k_ = (.slice Ao12 t104.length co12 : Value).ownBlock) (.slice Ao12 t104.length co12) t104 (fun k_ => some k_ = (.slice Ao13 t107.length co13 : Value).ownBlock) (.slice Ao13 t107.length co13) t107 t110 t111 t114 w _ ?_ ?_ ?_ ?_ ?_ A5.out).mono ?_
 (repeat (first | (with_reducible first | exact HB.out | apply below_alloc | apply pw_below_drewN | apply below_drew1 | refine below_set ?_ GE101.out | refine below_set ?_ GE102.out | refine below_set ?_ GE103.out) | exact HB.out))
 exact Kd.R_tight rfl HO106.out
 exact fun k_ e_ => (HO106.out.1 k_ e_.symm).2
 exact Kd.R_tight rfl HO109.out
 exact fun k_ e_ => (HO109.out.1 k_ e_.symm).2
 rintro e w14 ⟨v112, v115, rfl, ho0, ho1, hb, hkp⟩
 refine ⟨_, rfl, ?_⟩
 replace BK101 := Aside0.mk (blk_kept (by exact kU BK101) hkp (fun hs_ => Or.elim hs_ (fun e_ => (fun e_ => (Kd.R_ne HO106.out BK101.out (by decide)) e_) e_) (fun e_ => (fun e_ => (Kd.R_ne HO109.out BK101.out (by decide)) e_) e_)))
 replace BK102 := Aside0.mk (blk_kept (by exact kU BK102) hkp (fun hs_ => Or.elim hs_ (fun e_ => (fun e_ => (Kd.R_ne HO106.out BK102.out (by decide)) e_) e_) (fun e_ => (fun e_ => (Kd.R_ne HO109.out BK102.out (by decide)) e_) e_)))
 replace BK103 := Aside0.mk (blk_kept (by exact kU BK103) hkp (fun hs_ => Or.elim hs_ (fun e_ => (fun e_ => (Kd.R_ne HO106.out BK103.out (by decide)) e_) e_) (fun e_ => (fun e_ => (Kd.R_ne HO109.out BK103.out (by decide)) e_) e_)))
 have HO113 := Aside0.mk (Kd.R_mono (ok' := fun k_ => some k_ ≠ (v115 : Value).ownBlock) ho0 (fun k_ hk_ => hk_.2))
 have HO116 := Aside0.mk (Kd.R_mono (ok' := fun k_ => some k_ ≠ (v112 : Value).ownBlock) ho1 (fun k_ hk_ => hk_.2))
 replace HB := Aside0.mk (hb)
 clear HO106 HO109
 clear hb
 (try clear hkp)
 clear ho0 ho1
 obtain ⟨Ao16, co16, eo16⟩ := Kd.R_slice HO113.out
 (first | subst eo16 | (injection eo16 with f1_ f2_ f3_; have f4_ := f1_.symm; have f5_ := f3_.symm; clear f1_ f2_ f3_; subst f4_; subst f5_))
 obtain ⟨Ao18, co18, eo18⟩ := Kd.R_slice HO116.out
 (first | subst eo18 | (injection eo18 with f1_ f2_ f3_; have f4_ := f1_.symm; have f5_ := f3_.symm; clear f1_ f2_ f3_; subst f4_; subst f5_))
 refine hK.out _ _ ⟨b3 BK101, b3 BK102⟩ (fun hHeld => nm ?_)
 clear hK K
 refine on 16 none (tf 17 0) (fun K hK => ?_)
 obtain ⟨hs15, hfs15⟩ := e0 BK103
 have hns15_0 := NB101_103.out
 have hns15_1 := NB102_103.out
 have hms15_0 := NB103_101.out
 have hms15_1 := NB103_102.out
 obtain ⟨hs17, hfs17⟩ := e1 BK103
 have hns17_0 := NB101_103.out
 have hns17_1 := NB102_103.out
 have hms17_0 := NB103_101.out
 have hms17_1 := NB103_102.out
 obtain ⟨hs19, hfs19⟩ := e2 BK103
 have hns19_0 := NB101_103.out
 have hns19_1 := NB102_103.out
 have hms19_0 := NB103_101.out
 have hms19_1 := NB103_102.out
 refine sk ?_
 refine hK.out _ _ ⟨F3 hHeld.1 NB101_103, F3 hHeld.2 NB102_103⟩ (fun hHeld => ?_)
 clear hK K
 refine done_ (done_of HT_.out (by kernel_rfl)) ?_
 try go_wp2
 refine bodyPost_ret (results_cell_row rfl _ _ gb103 92 #[.bool t110, .slice Ao16 t111.length co16, .slice Ao18 t114.length co18] (0, 0) _ rfl (by exact kU (p3 BK103)) Try.underlying92 rfl (by kernel_rfl)) rfl ?_
 exact ⟨_, _, er, rG (r3t HO113 BK103) (fun _ hk => hk.1), rG (r3t HO116 BK103) (fun _ hk => hk.1), hB⟩
end Go.Proofs.Ytagbnkbhobmgjaa.Fn
end
section
-- Written by a program of this session (a turned copy of the kit's printer, and hand-written parts). Not trusted: Lean checks it.
namespace Go.Proofs.Ytagbnkbhobmgjaa.Fn
open Go.RowKit Go.Proofs.YtagbnkbhobmgjaaW.PrintWords Go.Proofs.YtagbnkbhobmgjaaW.PrintLast Go.Proofs.YtagbnkbhobmgjaaW.PrintMore
attribute [local go_sem] max2_int min2_int max_two min_two max_three min_three max_four min_four   -- for this text's walks alone
set_option linter.unusedVariables false
set_option linter.unusedSimpArgs false
/-! ### flyballref03_Sign: function 93 -/
def flyballref03_Sign.f (k : Nat) (a0_0 : Bool) (l0_1 : List Bool) (l0_2 : List Bool) : Option (Int) := (flyballref01_Len.f k l0_1).bind fun t102 => (if t102 = 0 then (some 0) else (if a0_0 = true then (some (-1)) else (some 1)))
set_option maxHeartbeats 8000000 in
set_option maxRecDepth 100000 in
theorem flyballref03_Sign.calls (k : Nat) (a0_0 : Bool) (A0_1 : Option Addr) (c0_1 : Nat) (l0_1 : List Bool) (A0_2 : Option Addr) (c0_2 : Nat) (l0_2 : List Bool) (r : Int) (w : World) (hr0_1 : Kd.C Kd.bool w A0_1 l0_1.length l0_1) (hc0_1 : l0_1.length ≤ c0_1) (hr0_2 : Kd.C Kd.bool w A0_2 l0_2.length l0_2) (hc0_2 : l0_2.length ≤ c0_2) (H : flyballref03_Sign.f k a0_0 l0_1 l0_2 = some r) :
  Calls Try.prog 93 #[.agg #[.bool a0_0, .slice A0_1 l0_1.length c0_1, .slice A0_2 l0_2.length c0_2]] w fun e w' => e = .returned (.int .i64 r) ∧ Below w.heap.size w w' := by
 have hu92 := Try.underlying92
 have HR0_1 := Aside0.mk hr0_1
 have HC0_1 := Aside0.mk hc0_1
 clear hr0_1 hc0_1
 have HR0_2 := Aside0.mk hr0_2
 have HC0_2 := Aside0.mk hc0_2
 clear hr0_2 hc0_2
 have HB := Aside0.mk (Below.refl w.heap.size w)
 unfold flyballref03_Sign.f at H
 replace H := bi H
 obtain ⟨t102, A2, H⟩ := H
 by_cases c3 : t102 = 0
 ·rw [if_pos c3] at H
  obtain ⟨c3b0, c3b1⟩ := bqT c3
  clear c3
  obtain rfl := Option.some.inj H
  go_enter Try.func93, Try.ntmps93
  go_wp2_with (first | ((with_reducible refine gd 1 rfl ?_); refine box_event ?hg (N := 1) ?hd (cs := #[.bool a0_0, .slice A0_1 l0_1.length c0_1, .slice A0_2 l0_2.length c0_2]) (t := 92) ?hr ?_; (case hd => rfl); (case hg => rfl); (case hr => first | (go_simp; done) | (go_simp; rfl)); intro gb101 hg w4 hbox hb; have BK101 := Aside0.mk hbox; have GW101 := gB hg HB; have GE101 := gB hg HB; replace HB := bA HB hb; clear hb hbox hg; obtain ⟨⟨hcz5_0, hcz5_1, hcz5_2⟩, hfz5_0, hfz5_1, hfz5_2⟩ := cE BK101) | ((with_reducible refine gc 53 rfl ?_); refine gL 5 Try.func53 #[.slice A0_1 l0_1.length c0_1] ?_; (with_reducible refine (flyballref01_Len.calls k _ _ l0_1 t102 _ ?_ ?_ A2.out).mono ?_); exact Kd.C_below HR0_1.out (bup HB.out); exact HC0_1.out; rintro e w' ⟨rfl, ⟨nd, rfl⟩⟩; refine ⟨_, rfl, ?_⟩))
  go_ret
  exact ⟨er, hB⟩
 rw [if_neg c3] at H
 obtain ⟨c3b0, c3b1⟩ := bqF c3
 by_cases c6 : a0_0 = true
 ·subst c6
  replace H := ifT H
  obtain rfl := Option.some.inj H
  go_enter Try.func93, Try.ntmps93
  go_wp2_with (first | ((with_reducible refine gd 1 rfl ?_); refine box_event ?hg (N := 1) ?hd (cs := #[.bool true, .slice A0_1 l0_1.length c0_1, .slice A0_2 l0_2.length c0_2]) (t := 92) ?hr ?_; (case hd => rfl); (case hg => rfl); (case hr => first | (go_simp; done) | (go_simp; rfl)); intro gb101 hg w7 hbox hb; have BK101 := Aside0.mk hbox; have GW101 := gB hg HB; have GE101 := gB hg HB; replace HB := bA HB hb; clear hb hbox hg; obtain ⟨⟨hcz8_0, hcz8_1, hcz8_2⟩, hfz8_0, hfz8_1, hfz8_2⟩ := cE BK101) | ((with_reducible refine gc 53 rfl ?_); refine gL 5 Try.func53 #[.slice A0_1 l0_1.length c0_1] ?_; (with_reducible refine (flyballref01_Len.calls k _ _ l0_1 t102 _ ?_ ?_ A2.out).mono ?_); exact Kd.C_below HR0_1.out (bup HB.out); exact HC0_1.out; rintro e w' ⟨rfl, ⟨nd, rfl⟩⟩; refine ⟨_, rfl, ?_⟩))
  go_ret
  exact ⟨er, hB⟩
 ·replace c6 := Bool.eq_false_iff.mpr c6
  subst c6
  have H1 : (some 1) = some r := by rw [if_neg (show ¬ (false = true) by decide)] at H; exact H
  clear H
  have H := H1
  clear H1
  obtain rfl := Option.some.inj H
  go_enter Try.func93, Try.ntmps93
  go_wp2_with (first | ((with_reducible refine gd 1 rfl ?_); refine box_event ?hg (N := 1) ?hd (cs := #[.bool false, .slice A0_1 l0_1.length c0_1, .slice A0_2 l0_2.length c0_2]) (t := 92) ?hr ?_; (case hd => rfl); (case hg => rfl); (case hr => first | (go_simp; done) | (go_simp; rfl)); intro gb101 hg w9 hbox hb; have BK101 := Aside0.mk hbox; have GW101 := gB hg HB; have GE101 := gB hg HB; replace HB := bA HB hb; clear hb hbox hg; obtain ⟨⟨hcz10_0, hcz10_1, hcz10_2⟩, hfz10_0, hfz10_1, hfz10_2⟩ := cE BK101) | ((with_reducible refine gc 53 rfl ?_); refine gL 5 Try.func53 #[.slice A0_1 l0_1.length c0_1] ?_; (with_reducible refine (flyballref01_Len.calls k _ _ l0_1 t102 _ ?_ ?_ A2.out).mono ?_); exact Kd.C_below HR0_1.out (bup HB.out); exact HC0_1.out; rintro e w' ⟨rfl, ⟨nd, rfl⟩⟩; refine ⟨_, rfl, ?_⟩))
  go_ret
  exact ⟨er, hB⟩
end Go.Proofs.Ytagbnkbhobmgjaa.Fn
end
section
-- Written by a program of this session (a turned copy of the kit's printer, and hand-written parts). Not trusted: Lean checks it.
namespace Go.Proofs.Ytagbnkbhobmgjaa.Fn
open Go.RowKit Go.Proofs.YtagbnkbhobmgjaaW.PrintWords Go.Proofs.YtagbnkbhobmgjaaW.PrintLast Go.Proofs.YtagbnkbhobmgjaaW.PrintMore
attribute [local go_sem] max2_int min2_int max_two min_two max_three min_three max_four min_four   -- for this text's walks alone
set_option linter.unusedVariables false
set_option linter.unusedSimpArgs false
/-! ### flyballref03_Over: function 94 -/
def flyballref03_Over.f (k : Nat) (a0_0 : Bool) (l0_1 : List Bool) (l0_2 : List Bool) : Option (Bool × List Bool × List Bool) := (flyballref03_Low.f k a0_0 l0_2 l0_1).bind fun bt103 => (some (bt103.1, bt103.2.1, bt103.2.2))
set_option maxHeartbeats 8000000 in
set_option maxRecDepth 100000 in
theorem flyballref03_Over.calls (k : Nat) (a0_0 : Bool) (P0_1_ : Nat → Prop) (u9000_ : Value) (l0_1 : List Bool) (P0_2_ : Nat → Prop) (u9001_ : Value) (l0_2 : List Bool) (r1 : Bool) (r2 : List Bool) (r3 : List Bool) (w0 w : World) (hB : Below w0.heap.size w0 w) (ho0_1 : Kd.R Kd.bool 4 w w0.heap.size P0_1_ u9000_ l0_1) (hp0_1_0_2 : ∀ k_, P0_1_ k_ → ¬ P0_2_ k_) (ho0_2 : Kd.R Kd.bool 4 w w0.heap.size P0_2_ u9001_ l0_2) (hp0_2_0_1 : ∀ k_, P0_2_ k_ → ¬ P0_1_ k_) (H : flyballref03_Over.f k a0_0 l0_1 l0_2 = some (r1, r2, r3)) :
  Calls Try.prog 94 #[.agg #[.bool a0_0, u9000_, u9001_]] w fun e w' => ∃ v1_ v2_ : Value, e = .returned (.agg #[.bool r1, v1_, v2_]) ∧ Kd.R Kd.bool 4 w' w0.heap.size (fun k_ => ((P0_1_ k_ ∨ P0_2_ k_) ∨ w.heap.size ≤ k_) ∧ some k_ ≠ (v2_ : Value).ownBlock) v1_ r2 ∧ Kd.R Kd.bool 4 w' w0.heap.size (fun k_ => ((P0_1_ k_ ∨ P0_2_ k_) ∨ w.heap.size ≤ k_) ∧ some k_ ≠ (v1_ : Value).ownBlock) v2_ r3 ∧ Below w0.heap.size w0 w' ∧ Kept w w' (fun k_ => P0_1_ k_ ∨ P0_2_ k_) := by
 have hu92 := Try.underlying92
 have HO0_1 := Aside0.mk (show Kd.R Kd.bool 4 w w0.heap.size (fun k_ => ((P0_1_ k_ ∨ P0_2_ k_) ∨ w.heap.size ≤ k_) ∧ some k_ ≠ (u9001_ : Value).ownBlock) u9000_ l0_1 from Kd.R_mono ho0_1 (fun k_ hk => ⟨(.inl (.inl hk)), fun e_ => hp0_1_0_2 k_ hk (ho0_2.1 k_ e_.symm)⟩))
 have HO0_2 := Aside0.mk (show Kd.R Kd.bool 4 w w0.heap.size (fun k_ => ((P0_1_ k_ ∨ P0_2_ k_) ∨ w.heap.size ≤ k_) ∧ some k_ ≠ (u9000_ : Value).ownBlock) u9001_ l0_2 from Kd.R_mono ho0_2 (fun k_ hk => ⟨(.inl (.inr hk)), fun e_ => hp0_2_0_1 k_ hk (ho0_1.1 k_ e_.symm)⟩))
 have HK := Aside0.mk (Kept.refl w (fun k_ => P0_1_ k_ ∨ P0_2_ k_))
 have HW0 := Aside0.mk hB.size
 have HB := Aside0.mk hB
 clear hB
 unfold flyballref03_Over.f at H
 replace H := bi H
 obtain ⟨⟨t103, t104, t107⟩, A2, H⟩ := H
 try dsimp only at H
 simp only [Option.some.injEq, Prod.mk.injEq] at H
 obtain ⟨rfl, rfl, rfl⟩ := H
 obtain ⟨Ao3, co3, eo3⟩ := Kd.R_slice HO0_1.out
 subst eo3
 obtain ⟨Ao4, co4, eo4⟩ := Kd.R_slice HO0_2.out
 subst eo4
 go_enter Try.func94, Try.ntmps94
 go_wp2_with (first | ((with_reducible refine gd 1 rfl ?_); refine box_event ?hg (N := 1) ?hd (cs := #[.bool a0_0, .slice Ao3 l0_1.length co3, .slice Ao4 l0_2.length co4]) (t := 92) ?hr ?_; (case hd => rfl); (case hg => rfl); (case hr => first | (go_simp; done) | (go_simp; rfl)); intro gb101 hg w5 hbox hb; replace HO0_1 := rA HO0_1 hb; replace HO0_2 := rA HO0_2 hb; have BK101 := Aside0.mk hbox; have GW101 := Aside0.mk ((by rw [hg]; exact (by first | exact HK.out.1 | exact (show Kept w _ (fun k_ => P0_1_ k_ ∨ P0_2_ k_) from hK0).1) : w.heap.size ≤ gb101)); replace HK := Aside0.mk (Kept.below (S := (fun k_ => P0_1_ k_ ∨ P0_2_ k_)) hK0 hb); have GE101 := Aside0.mk ((by rw [hg]; exact (below_size (bup HB.out)) : w0.heap.size ≤ gb101)); replace HB := bA HB hb; clear hb hbox hg) | ((with_reducible refine gd 2 rfl ?_); refine box_event ?hg (N := 2) ?hd (cs := #[.bool false, .slice none 0 0, .slice none 0 0]) (t := 92) ?hr ?_; (case hd => rfl); (case hg => rfl); (case hr => first | (go_simp; done) | (go_simp; rfl)); intro gb102 hg w6 hbox hb; replace HO0_1 := rA HO0_1 hb; replace HO0_2 := rA HO0_2 hb; have BK102 := Aside0.mk hbox; have GW102 := Aside0.mk ((by rw [hg]; exact (by first | exact HK.out.1 | exact (show Kept w _ (fun k_ => P0_1_ k_ ∨ P0_2_ k_) from hK1).1) : w.heap.size ≤ gb102)); replace HK := Aside0.mk (Kept.below (S := (fun k_ => P0_1_ k_ ∨ P0_2_ k_)) hK1 hb); have GE102 := Aside0.mk ((by rw [hg]; exact (below_size hB) : w0.heap.size ≤ gb102)); replace HB := bS HB hb; have NB101_102 := nL hg BK101; have NB102_101 := nR hg BK101; replace BK101 := kA BK101 hb; clear hb hbox hg; have hnb7 := NB101_102.out; have hnc7 := NB102_101.out; obtain ⟨⟨hcz8_0, hcz8_1, hcz8_2⟩, hfz8_0, hfz8_1, hfz8_2⟩ := cE BK101) | ((with_reducible refine gc 96 rfl ?_); refine gL 9 Try.func96 #[.bool a0_0, .slice Ao4 l0_2.length co4, .slice Ao3 l0_1.length co3] ?_; (with_reducible refine (flyballref03_Low.calls k a0_0 (fun k_ => some k_ = (.slice Ao4 l0_2.length co4 : Value).ownBlock) (.slice Ao4 l0_2.length co4) l0_2 (fun k_ => some k_ = (.slice Ao3 l0_1.length co3 : Value).ownBlock) (.slice Ao3 l0_1.length co3) l0_1 t103 t104 t107 w0 _ ?_ ?_ ?_ ?_ ?_ A2.out).mono ?_); (repeat (first | (with_reducible first | exact HB.out | apply below_alloc | apply pw_below_drewN | apply below_drew1 | refine below_set ?_ GE101.out | refine below_set ?_ GE102.out) | exact HB.out)); exact Kd.R_tight rfl HO0_2.out; exact fun k_ e_ => (HO0_2.out.1 k_ e_.symm).2; exact Kd.R_tight rfl HO0_1.out; exact fun k_ e_ => (HO0_1.out.1 k_ e_.symm).2; rintro e w9 ⟨v105, v108, rfl, ho0, ho1, hb, hkp⟩; refine ⟨_, rfl, ?_⟩; replace BK101 := Aside0.mk (blk_kept (by exact kU BK101) hkp (fun hs_ => Or.elim hs_ (fun e_ => (fun e_ => (Kd.R_ne HO0_2.out BK101.out (by decide)) e_) e_) (fun e_ => (fun e_ => (Kd.R_ne HO0_1.out BK101.out (by decide)) e_) e_))); replace BK102 := Aside0.mk (blk_kept (by exact kU BK102) hkp (fun hs_ => Or.elim hs_ (fun e_ => (fun e_ => (Kd.R_ne HO0_2.out BK102.out (by decide)) e_) e_) (fun e_ => (fun e_ => (Kd.R_ne HO0_1.out BK102.out (by decide)) e_) e_))); have HO106 := Aside0.mk (Kd.R_mono (ok' := fun k_ => ((P0_1_ k_ ∨ P0_2_ k_) ∨ w.heap.size ≤ k_) ∧ some k_ ≠ (v108 : Value).ownBlock) ho0 (fun k_ hk_ => ⟨Or.elim hk_.1 (fun hs_ => Or.elim hs_ (fun hs_ => (HO0_2.out.1 k_ (hs_).symm).1) (fun hs_ => (HO0_1.out.1 k_ (hs_).symm).1)) (fun hn_ => (.inr (Nat.le_trans (by first | exact HK.out.1 | exact (show Kept w _ (fun k_ => P0_1_ k_ ∨ P0_2_ k_) from by repeat (first | (with_reducible first | exact HK.out | apply Kept.alloc | apply Kept.drewN | apply Kept.drew | refine Kept.setCell ?_ (.inr GW101.out) _ | refine Kept.setCell ?_ (.inr GW102.out) _) | exact HK.out)).1) hn_))), hk_.2⟩)); have HO109 := Aside0.mk (Kd.R_mono (ok' := fun k_ => ((P0_1_ k_ ∨ P0_2_ k_) ∨ w.heap.size ≤ k_) ∧ some k_ ≠ (v105 : Value).ownBlock) ho1 (fun k_ hk_ => ⟨Or.elim hk_.1 (fun hs_ => Or.elim hs_ (fun hs_ => (HO0_2.out.1 k_ (hs_).symm).1) (fun hs_ => (HO0_1.out.1 k_ (hs_).symm).1)) (fun hn_ => (.inr (Nat.le_trans (by first | exact HK.out.1 | exact (show Kept w _ (fun k_ => P0_1_ k_ ∨ P0_2_ k_) from by repeat (first | (with_reducible first | exact HK.out | apply Kept.alloc | apply Kept.drewN | apply Kept.drew | refine Kept.setCell ?_ (.inr GW101.out) _ | refine Kept.setCell ?_ (.inr GW102.out) _) | exact HK.out)).1) hn_))), hk_.2⟩)); replace HK := Aside0.mk (Kept.then_ (S := (fun k_ => P0_1_ k_ ∨ P0_2_ k_)) (by repeat (first | (with_reducible first | exact HK.out | apply Kept.alloc | apply Kept.drewN | apply Kept.drew | refine Kept.setCell ?_ (.inr GW101.out) _ | refine Kept.setCell ?_ (.inr GW102.out) _) | exact HK.out)) hkp (fun k_ hs_ => Or.elim hs_ (fun e_ => (fun e_ => (HO0_2.out.1 k_ e_.symm).1) e_) (fun e_ => (fun e_ => (HO0_1.out.1 k_ e_.symm).1) e_))); replace HB := Aside0.mk (hb); clear HO0_1 HO0_2; clear hb; (try clear hkp); clear ho0 ho1; obtain ⟨⟨hcz10_0, hcz10_1, hcz10_2⟩, hfz10_0, hfz10_1, hfz10_2⟩ := cE BK102; obtain ⟨Ao11, co11, eo11⟩ := Kd.R_slice HO106.out; subst eo11; obtain ⟨Ao12, co12, eo12⟩ := Kd.R_slice HO109.out; subst eo12))
 refine bodyPost_ret (results_cell_row rfl _ _ gb102 92 #[.bool t103, .slice Ao11 t104.length co11, .slice Ao12 t107.length co12] (0, 0) _ rfl (by exact kU (p3 BK102)) Try.underlying92 rfl (by kernel_rfl)) rfl ?_
 exact ⟨_, _, er, rG (r3t HO106 BK102) (fun _ hk => ⟨hk.1.1, hk.1.2⟩), rG (r3t HO109 BK102) (fun _ hk => ⟨hk.1.1, hk.1.2⟩), hB, by repeat (first | (with_reducible first | exact HK.out | apply Kept.alloc | apply Kept.drewN | apply Kept.drew | refine Kept.setCell ?_ (.inr GW101.out) _ | refine Kept.setCell ?_ (.inr GW102.out) _) | exact HK.out)⟩
end Go.Proofs.Ytagbnkbhobmgjaa.Fn
end
section
/-! Small words on wrapped numbers. -/
set_option linter.unusedVariables false
set_option linter.unusedSimpArgs false
namespace Go.Proofs.Ytagbnkbhobmgjaa.Fn
open Go.RowKit Go.Proofs.YtagbnkbhobmgjaaW.PrintWords
/-- What came in, told as what may be shared. -/
theorem V_of_Cd {α : Type} {d : Kd α} (hd : Kd.Heap d) {w : World} {e base c : Nat} {A : Option Addr} {xs : List α} (h : d.C w A xs.length xs) (hc : xs.length ≤ c) : Kd.V d e w base (fun k_ => k_ < w.heap.size) (.slice A xs.length c) xs :=
  ⟨A, c, rfl, hc, fun W' hW => Kd.Heap.C hd (fun k hk => hW k hk hk) h⟩
theorem V_of_C {w : World} {k : IntKind} {e base c : Nat} {A : Option Addr} {xs : List Int} (h : Kd.C (Kd.int k) w A xs.length xs) (hc : xs.length ≤ c) : Kd.V (Kd.int k) e w base (fun k_ => k_ < w.heap.size) (.slice A xs.length c) xs := V_of_Cd (Kd.heap_int k) h hc
end Go.Proofs.Ytagbnkbhobmgjaa.Fn
end
section
/- What the functions at, trim, New, Add, Sub, Mul, Cmp of package nat compute: the words of the sum, the difference, the product. -/
set_option linter.unusedVariables false
set_option linter.unusedSimpArgs false
namespace Go.Proofs.Ytagbnkbhobmgjaa.Pure
open Go.RowKit Go.Proofs.Ytagbnkbhobmgjaa.Fn Go.Proofs.YtagbnkbhobmgjaaW.PrintWords Go.Proofs.YtagbnkbhobmgjaaW.PrintMore
theorem at_spec {a : List Int} (hW : WD a) (i : Int) (h0 : 0 ≤ i) : nat_Nat_at.f a i = some (rd a i) := by
  unfold nat_Nat_at.f
  by_cases h : i < (a.length : Int)
  · rw [if_pos h, if_pos h0, u64i (WD_rd hW i).1 (by have := (WD_rd hW i).2; omega)]
  · rw [if_neg h]
    unfold rd
    rw [List.getD_eq_getElem?_getD, List.getElem?_eq_none (by omega)]
    rfl
theorem rd_lt (a : List Int) (i : Nat) (h : i < a.length) : rd a (i : Int) = a[i] := by
  unfold rd
  rw [Int.toNat_natCast, List.getD_eq_getElem?_getD, List.getElem?_eq_getElem h]
  rfl
theorem rd_ge (a : List Int) (i : Nat) (h : a.length ≤ i) : rd a (i : Int) = 0 := by
  unfold rd
  rw [Int.toNat_natCast, List.getD_eq_getElem?_getD, List.getElem?_eq_none h]
  rfl
theorem wv_drop (a : List Int) (i : Nat) : wv (a.drop i) = (rd a (i : Int)).toNat + BW * wv (a.drop (i + 1)) := by
  by_cases h : i < a.length
  · rw [List.drop_eq_getElem_cons h, wv_cons, rd_lt a i h]
  · rw [List.drop_eq_nil_of_le (by omega), List.drop_eq_nil_of_le (by omega), rd_ge a i (by omega)]
    rfl
theorem rd_last (xs : List Int) (x : Int) : rd (xs ++ [x]) ((xs ++ [x]).length - 1 : Int) = x := by
  have e : (((xs ++ [x]).length : Int) - 1) = ((xs.length : Nat) : Int) := by simp
  rw [e, rd_lt _ _ (by simp)]
  simp
theorem trim_ev : ∀ (n : Nat) (a : List Int), a.length = n → WD a → a.length ≤ 9223372036854775807 → Ev (fun k => nat_trim.l0 k a) (words (wv a))
  | 0, a, hl, _, _ => by
    obtain rfl := List.eq_nil_of_length_eq_zero hl
    rw [wv_nil, words_zero]
    exact Ev.step (f := fun _ => some []) (fun k => by simp only [nat_trim.l0]; rw [if_neg (by simp)]) (Ev.now _)
  | n + 1, a, hl, hW, hm => by
    have hne : a ≠ [] := by intro e; subst e; simp at hl
    obtain ⟨xs, x, rfl⟩ : ∃ xs x, a = xs ++ [x] := ⟨a.dropLast, a.getLast hne, (List.dropLast_concat_getLast hne).symm⟩
    have hlx : xs.length = n := by simpa using hl
    have hw : wrap64 ((xs ++ [x]).length - 1 : Int) = ((xs ++ [x]).length - 1 : Int) := w64 (by omega) (by omega)
    have hx := (hW x (by simp))
    by_cases h0 : x = 0
    · subst h0
      have ih := trim_ev n xs hlx (WD_left hW) (by simp at hm; omega)
      have e : wv (xs ++ [0]) = wv xs := by rw [wv_snoc]; simp
      rw [e]
      refine Ev.step (f := fun k => nat_trim.l0 k xs) (fun k => ?_) ih
      simp only [nat_trim.l0]
      rw [hw, if_pos (by simp), if_pos (by simp), if_pos (by omega), rd_last, if_pos rfl, if_pos (by omega)]
      congr 1
      have : (((xs ++ [(0 : Int)]).length : Int) - 1).toNat = xs.length := by simp
      rw [this, List.take_left']
      rfl
    · have e : words (wv (xs ++ [x])) = xs ++ [x] := words_wv hW (fun y hy => by
        rw [List.getLast?_concat] at hy
        injection hy with hy
        rw [← hy]; exact h0)
      rw [e]
      refine Ev.step (f := fun _ => some (xs ++ [x])) (fun k => ?_) (Ev.now _)
      simp only [nat_trim.l0]
      rw [hw, if_pos (by simp), if_pos (by simp), if_pos (by omega), rd_last, if_neg h0]
theorem trim_spec {a : List Int} (hW : WD a) (hm : a.length ≤ 9223372036854775807) : Ev (fun k => nat_trim.f k a) (words (wv a)) := trim_ev _ a rfl hW hm
theorem New_spec (x : Int) (h0 : 0 ≤ x) (h1 : x < 18446744073709551616) : Ev (fun k => nat_New.f k x) (words x.toNat) := by
  have hW : WD [x % 4294967296, (x / 4294967296) % 4294967296] := WD_mk (by omega) (by omega) (WD_mk (by omega) (by omega) WD_nil)
  have e : wv [x % 4294967296, (x / 4294967296) % 4294967296] = x.toNat := by
    simp only [wv_cons, wv_nil, BW_eq]; omega
  have := trim_spec hW (by simp)
  rw [e] at this
  unfold nat_New.f
  exact Ev.bind this (Ev.now _)
theorem mx_nat (a b : Nat) : mx (a : Int) (b : Int) = ((max a b : Nat) : Int) := by unfold mx; split <;> omega
theorem Add_ev (a b : List Int) (ha : WD a) (hb : WD b) (n : Nat) (hn : n = max a.length b.length) (hm : n ≤ 1000000000) : ∀ (d i : Nat) (acc : List Int) (c : Int), i + d = n → acc.length = i → WD acc → 0 ≤ c → c ≤ 1 →
    Ev (fun k => nat_Nat_Add.l0 k a b acc c (n : Int) (i : Int)) (words (wv acc + BW ^ acc.length * (c.toNat + wv (a.drop i) + wv (b.drop i))))
  | 0, i, acc, c, hd, hl, hW, h0, h1 => by
    have ea : a.drop i = [] := List.drop_eq_nil_of_le (by omega)
    have eb : b.drop i = [] := List.drop_eq_nil_of_le (by omega)
    rw [ea, eb, wv_nil]
    have hc : c % 4294967296 = c := by omega
    have ht := trim_spec (WD_append hW (WD_mk h0 (by omega) WD_nil) : WD (acc ++ [c])) (by simp; omega)
    rw [wv_snoc] at ht
    refine Ev.step (f := fun k => (nat_trim.f k (acc ++ [c])).bind fun t => some t) (fun k => ?_) (Ev.bind (by simpa using ht) (Ev.now _))
    simp only [nat_Nat_Add.l0]
    rw [if_neg (by omega), if_pos (by omega), hc]
  | d + 1, i, acc, c, hd, hl, hW, h0, h1 => by
    obtain ⟨ra0, ra1⟩ := WD_rd ha (i : Int)
    obtain ⟨rb0, rb1⟩ := WD_rd hb (i : Int)
    generalize hra : rd a (i : Int) = x at *
    generalize hrb : rd b (i : Int) = y at *
    have es : IntKind.u64.wrap (c + IntKind.u64.wrap (x + y)) = c + x + y := by rw [u64i (x := x + y) (by omega) (by omega), u64i (by omega) (by omega)]; omega
    have ih := Add_ev a b ha hb n hn hm d (i + 1) (acc ++ [(c + x + y) % 4294967296]) ((c + x + y) / 4294967296) (by omega) (by simp [hl]) (WD_append hW (WD_mk (by omega) (by omega) WD_nil)) (by omega) (by omega)
    have e : wv (acc ++ [(c + x + y) % 4294967296]) + BW ^ (acc ++ [(c + x + y) % 4294967296]).length * (((c + x + y) / 4294967296).toNat + wv (a.drop (i + 1)) + wv (b.drop (i + 1))) = wv acc + BW ^ acc.length * (c.toNat + wv (a.drop i) + wv (b.drop i)) := by
      rw [wv_drop a i, wv_drop b i, hra, hrb, wv_snoc, List.length_append, List.length_singleton, Nat.pow_succ, Nat.add_assoc, Nat.mul_assoc, ← Nat.mul_add]
      congr 2
      have hq : ((c + x + y) % 4294967296).toNat + BW * ((c + x + y) / 4294967296).toNat = c.toNat + x.toNat + y.toNat := by rw [BW_eq]; omega
      rw [Nat.mul_add, Nat.mul_add]
      omega
    rw [e] at ih
    refine Ev.step (fun k => ?_) ih
    simp only [nat_Nat_Add.l0]
    rw [if_pos (by omega), at_spec ha _ (by omega), at_spec hb _ (by omega), Option.bind_some, Option.bind_some, hra, hrb, if_pos (by omega), es, w64 (by omega) (by omega)]
    rfl
theorem Add_spec {a b : List Int} (ha : WD a) (hb : WD b) (la : a.length ≤ 1000000000) (lb : b.length ≤ 1000000000) : Ev (fun k => nat_Nat_Add.f k a b) (words (wv a + wv b)) := by
  have := Add_ev a b ha hb (max a.length b.length) rfl (by omega) (max a.length b.length) 0 [] 0 (by omega) rfl WD_nil (by omega) (by omega)
  unfold nat_Nat_Add.f
  rw [mx_nat]
  simpa [wv_nil] using this
/-! ### Cmp -/
/-- How numbers compare. -/
def cmpN (m n : Nat) : Int := if m < n then -1 else if m = n then 0 else 1
theorem cmpN_lt {m n : Nat} (h : m < n) : cmpN m n = -1 := if_pos h
theorem cmpN_eq (n : Nat) : cmpN n n = 0 := by unfold cmpN; rw [if_neg (Nat.lt_irrefl _), if_pos rfl]
theorem cmpN_gt {m n : Nat} (h : n < m) : cmpN m n = 1 := by unfold cmpN; rw [if_neg (by omega), if_neg (by omega)]
theorem wv_take_succ (a : List Int) (i : Nat) : wv (a.take (i + 1)) = wv (a.take i) + (if i < a.length then BW ^ i * (rd a (i : Int)).toNat else 0) := by
  by_cases h : i < a.length
  · rw [if_pos h, List.take_succ_eq_append_getElem h, wv_snoc, List.length_take, rd_lt a i h, Nat.min_eq_left (by omega)]
  · rw [if_neg h, List.take_of_length_le (by omega), List.take_of_length_le (by omega)]; rfl
theorem take_lt {a : List Int} (h : WD a) (i : Nat) : wv (a.take i) < BW ^ i := by
  have h1 := wv_lt (WD_take h i)
  rw [List.length_take] at h1
  exact Nat.lt_of_lt_of_le h1 (Nat.pow_le_pow_right BW_pos (Nat.min_le_left _ _))
theorem take_succ' {a : List Int} (i : Nat) : wv (a.take (i + 1)) = wv (a.take i) + BW ^ i * (rd a (i : Int)).toNat := by
  rw [wv_take_succ]
  by_cases h : i < a.length
  · rw [if_pos h]
  · rw [if_neg h, rd_ge a i (by omega)]; rfl
theorem Cmp_ev (a b : List Int) (ha : WD a) (hb : WD b) : ∀ (i : Nat), i ≤ 1000000000 → Ev (fun k => nat_Nat_Cmp.l0 k a b ((i : Int) - 1)) (cmpN (wv (a.take i)) (wv (b.take i)))
  | 0, _ => by
    rw [List.take_zero, List.take_zero, cmpN_eq]
    refine Ev.step (f := fun _ => some 0) (fun k => ?_) (Ev.now _)
    simp only [nat_Nat_Cmp.l0]
    rw [if_neg (by omega)]
  | i + 1, hi => by
    have e : (((i + 1 : Nat) : Int) - 1) = (i : Int) := by omega
    rw [e, take_succ', take_succ']
    obtain ⟨ra0, ra1⟩ := WD_rd ha (i : Int)
    obtain ⟨rb0, rb1⟩ := WD_rd hb (i : Int)
    have la := take_lt ha i
    have lb := take_lt hb i
    generalize hra : rd a (i : Int) = x at *
    generalize hrb : rd b (i : Int) = y at *
    by_cases hxy : x = y
    · have ih := Cmp_ev a b ha hb i (by omega)
      subst hxy
      have ec : cmpN (wv (a.take i) + BW ^ i * x.toNat) (wv (b.take i) + BW ^ i * x.toNat) = cmpN (wv (a.take i)) (wv (b.take i)) := by
        unfold cmpN
        by_cases h1 : wv (a.take i) < wv (b.take i)
        · rw [if_pos h1, if_pos (by omega)]
        · rw [if_neg h1, if_neg (by omega)]
          by_cases h2 : wv (a.take i) = wv (b.take i)
          · rw [if_pos h2, if_pos (by omega)]
          · rw [if_neg h2, if_neg (by omega)]
      rw [ec]
      refine Ev.step (fun k => ?_) ih
      simp only [nat_Nat_Cmp.l0]
      rw [if_pos (by omega), at_spec ha _ (by omega), at_spec hb _ (by omega), Option.bind_some, Option.bind_some, hra, hrb, if_pos rfl, w64 (by omega) (by omega)]
    · by_cases hlt : x < y
      · have : wv (a.take i) + BW ^ i * x.toNat < wv (b.take i) + BW ^ i * y.toNat := by
          have h1 : BW ^ i * x.toNat + BW ^ i ≤ BW ^ i * y.toNat := by
            rw [← Nat.mul_succ]; exact Nat.mul_le_mul_left _ (by omega)
          omega
        rw [cmpN_lt this]
        refine Ev.step (f := fun _ => some (-1)) (fun k => ?_) (Ev.now _)
        simp only [nat_Nat_Cmp.l0]
        rw [if_pos (by omega), at_spec ha _ (by omega), at_spec hb _ (by omega), Option.bind_some, Option.bind_some, hra, hrb, if_neg hxy, if_pos hlt]
      · have : wv (b.take i) + BW ^ i * y.toNat < wv (a.take i) + BW ^ i * x.toNat := by
          have h1 : BW ^ i * y.toNat + BW ^ i ≤ BW ^ i * x.toNat := by
            rw [← Nat.mul_succ]; exact Nat.mul_le_mul_left _ (by omega)
          omega
        rw [cmpN_gt this]
        refine Ev.step (f := fun _ => some 1) (fun k => ?_) (Ev.now _)
        simp only [nat_Nat_Cmp.l0]
        rw [if_pos (by omega), at_spec ha _ (by omega), at_spec hb _ (by omega), Option.bind_some, Option.bind_some, hra, hrb, if_neg hxy, if_neg hlt]
theorem Cmp_spec {a b : List Int} (ha : WD a) (hb : WD b) (la : a.length ≤ 1000000000) (lb : b.length ≤ 1000000000) : Ev (fun k => nat_Nat_Cmp.f k a b) (cmpN (wv a) (wv b)) := by
  have := Cmp_ev a b ha hb (max a.length b.length) (by omega)
  rw [List.take_of_length_le (by omega), List.take_of_length_le (by omega)] at this
  unfold nat_Nat_Cmp.f
  rw [mx_nat, w64 (by omega) (by omega)]
  exact this
/-! ### Sub -/
end Go.Proofs.Ytagbnkbhobmgjaa.Pure
end
section
/- What the products are: plain arithmetic. -/
set_option linter.unusedVariables false
set_option linter.unusedSimpArgs false
namespace Go.Proofs.Ytagbnkbhobmgjaa.Pure
open Go.RowKit Go.Proofs.Ytagbnkbhobmgjaa.Fn Go.Proofs.YtagbnkbhobmgjaaW.PrintWords Go.Proofs.YtagbnkbhobmgjaaW.PrintMore Go.Proofs.YtagbnkbhobmgjaaW.PrintLast
theorem wv_set : ∀ (x : List Int) (i : Nat) (y : Int), i < x.length → wv (x.set i y) + BW ^ i * (rd x (i : Int)).toNat = wv x + BW ^ i * y.toNat
  | [], i, y, h => by simp at h
  | z :: zs, 0, y, h => by
    rw [rd_lt _ _ h]
    simp only [List.set_cons_zero, wv_cons, List.getElem_cons_zero, Nat.pow_zero, Nat.one_mul]
    omega
  | z :: zs, i + 1, y, h => by
    have h' : i < zs.length := by simpa using h
    have ih := wv_set zs i y h'
    rw [rd_lt _ _ h]
    rw [rd_lt _ _ h'] at ih
    simp only [List.set_cons_succ, wv_cons, List.getElem_cons_succ]
    have e : ∀ t : Nat, BW ^ (i + 1) * t = BW * (BW ^ i * t) := fun t => by rw [Nat.pow_succ, Nat.mul_comm (BW ^ i) BW, Nat.mul_assoc]
    rw [e, e, Nat.add_assoc, Nat.add_assoc, ← Nat.mul_add, ← Nat.mul_add, ih]
theorem rd_le_wv (x : List Int) (i : Nat) : BW ^ i * (rd x (i : Int)).toNat ≤ wv x := by
  by_cases h : i < x.length
  · have := wv_set x i 0 h
    simp at this
    omega
  · rw [rd_ge x i (by omega)]; simp
theorem rd_zero_of_lt (x : List Int) (hx : WD x) (i : Nat) (h : wv x < BW ^ i) : rd x (i : Int) = 0 := by
  have h1 := rd_le_wv x i
  have h2 := (WD_rd hx (i : Int)).1
  rcases Nat.eq_zero_or_pos (rd x (i : Int)).toNat with h0 | h0
  · omega
  · have := Nat.le_mul_of_pos_right (BW ^ i) h0
    omega
theorem rd_set_ne (x : List Int) (i j : Nat) (y : Int) (h : i ≠ j) : rd (x.set i y) (j : Int) = rd x (j : Int) := by
  unfold rd
  simp only [Int.toNat_natCast, List.getD_eq_getElem?_getD]
  rw [List.getElem?_set_ne h]
theorem mul32 {x y : Int} (x0 : 0 ≤ x) (x1 : x < 4294967296) (y0 : 0 ≤ y) (y1 : y < 4294967296) : 0 ≤ x * y ∧ x * y ≤ 18446744065119617025 := by
  refine ⟨Int.mul_nonneg x0 y0, ?_⟩
  have h := Int.mul_le_mul (show x ≤ 4294967295 by omega) (show y ≤ 4294967295 by omega) y0 (by omega)
  omega
theorem Mul_row (b : List Int) (hb : WD b) (a : List Int) (i : Nat) (hlen : a.length + b.length ≤ 2000000000) (hi : i < a.length) (x : Int) (x0 : 0 ≤ x) (x1 : x < 4294967296) :
    ∀ (d j : Nat) (r : List Int) (c : Int) (X R : Nat), j + d = b.length → r.length = a.length + b.length → WD r → 0 ≤ c → c < 4294967296 →
      rd r ((i + b.length : Nat) : Int) = 0 →
      wv r + BW ^ (i + j) * c.toNat = X + BW ^ i * (x.toNat * wv (b.take j)) →
      (∀ (r' : List Int), r'.length = a.length + b.length → WD r' → wv r' = X + BW ^ i * (x.toNat * wv b) → Ev (fun k => nat_Nat_Mul.l0 k b r' a (a.length : Int) ((i + 1 : Nat) : Int)) (words R)) →
      Ev (fun k => nat_Nat_Mul.l1 k b r (i : Int) x c a (a.length : Int) (i : Int) b (b.length : Int) (j : Int)) (words R)
  | 0, j, r, c, X, R, hd, hl, hW, c0, c1, hz, hv, hk => by
    have ej : j = b.length := by omega
    subst ej
    rw [List.take_length] at hv
    have hs := wv_set r (i + b.length) c (by omega)
    rw [hz] at hs
    have h := hk (r.set (i + b.length) c) (by simp [hl]) (WD_set hW _ c0 c1) (by simpa [hv] using hs)
    refine Ev.step (fun k => ?_) h
    simp only [nat_Nat_Mul.l1]
    rw [if_neg (by omega), w64 (by omega) (by omega), if_pos (by omega), if_pos (by omega), w64 (by omega) (by omega), Int.emod_eq_of_lt c0 c1]
    rfl
  | d + 1, j, r, c, X, R, hd, hl, hW, c0, c1, hz, hv, hk => by
    obtain ⟨y0, y1⟩ := WD_rd hb (j : Int)
    obtain ⟨z0, z1⟩ := WD_rd hW ((i + j : Nat) : Int)
    have hs := wv_set r (i + j) ((c + (x * rd b (j : Int) + rd r ((i + j : Nat) : Int))) % 4294967296) (by omega)
    have ht := take_succ' (a := b) j
    generalize hy : rd b (j : Int) = y at *
    generalize hzz : rd r ((i + j : Nat) : Int) = z at *
    obtain ⟨m0, m1⟩ := mul32 x0 x1 y0 y1
    have et : x.toNat * y.toNat = (x * y).toNat := by
      rw [Int.toNat_mul x0 y0]
    generalize hp : x * y = p at *
    have hq : ((c + (p + z)) % 4294967296).toNat + BW * ((c + (p + z)) / 4294967296).toNat = c.toNat + p.toNat + z.toNat := by rw [BW_eq]; omega
    have ih := Mul_row b hb a i hlen hi x x0 x1 d (j + 1) (r.set (i + j) ((c + (p + z)) % 4294967296)) ((c + (p + z)) / 4294967296) X R (by omega) (by simp [hl]) (WD_set hW _ (by omega) (by omega)) (by omega) (by omega)
      (by rw [rd_set_ne _ _ _ _ (by omega)]; exact hz)
      (by
        rw [ht, Nat.mul_add, Nat.mul_add, ← Nat.add_assoc X, ← hv]
        have e1 : BW ^ i * (x.toNat * (BW ^ j * y.toNat)) = BW ^ (i + j) * p.toNat := by
          rw [← et, Nat.pow_add, Nat.mul_left_comm x.toNat, Nat.mul_assoc]
        have e2 : BW ^ (i + (j + 1)) * ((c + (p + z)) / 4294967296).toNat = BW ^ (i + j) * (BW * ((c + (p + z)) / 4294967296).toNat) := by
          rw [← Nat.add_assoc, Nat.pow_succ, Nat.mul_assoc]
        rw [e1, e2]
        have h3 : BW ^ (i + j) * ((c + (p + z)) % 4294967296).toNat + BW ^ (i + j) * (BW * ((c + (p + z)) / 4294967296).toNat) = BW ^ (i + j) * c.toNat + BW ^ (i + j) * p.toNat + BW ^ (i + j) * z.toNat := by
          rw [← Nat.mul_add, hq, Nat.mul_add, Nat.mul_add]
        omega) hk
    refine Ev.step (fun k => ?_) ih
    simp only [nat_Nat_Mul.l1]
    rw [if_pos (by omega), if_pos (by omega), if_pos (by omega), w64 (by omega) (by omega), if_pos (by omega), if_pos (by omega), w64 (by omega) (by omega), hy]
    have ec : ((i : Int) + (j : Int)) = ((i + j : Nat) : Int) := by omega
    rw [ec, hzz, u64i x0 (by omega), u64i y0 (by omega), hp, u64i m0 (by omega), u64i z0 (by omega), u64i (x := p + z) (by omega) (by omega), u64i (x := c + (p + z)) (by omega) (by omega)]
    rfl
theorem Mul_ev (a b : List Int) (ha : WD a) (hb : WD b) (hlen : a.length + b.length ≤ 2000000000) :
    ∀ (d i : Nat) (r : List Int), i + d = a.length → r.length = a.length + b.length → WD r → wv r = wv (a.take i) * wv b →
      Ev (fun k => nat_Nat_Mul.l0 k b r a (a.length : Int) (i : Int)) (words (wv a * wv b))
  | 0, i, r, hd, hl, hW, hv => by
    rw [List.take_of_length_le (by omega)] at hv
    have ht := trim_spec hW (by omega)
    rw [hv] at ht
    refine Ev.step (f := fun k => (nat_trim.f k r).bind fun t => some t) (fun k => ?_) (Ev.bind ht (Ev.now _))
    simp only [nat_Nat_Mul.l0]
    rw [if_neg (by omega)]
  | d + 1, i, r, hd, hl, hW, hv => by
    obtain ⟨x0, x1⟩ := WD_rd ha (i : Int)
    have hz : rd r ((i + b.length : Nat) : Int) = 0 := by
      refine rd_zero_of_lt r hW _ ?_
      rw [hv, Nat.pow_add]
      exact Nat.mul_lt_mul'' (take_lt ha i) (wv_lt hb)
    have h := Mul_row b hb a i hlen (by omega) (rd a (i : Int)) x0 x1 b.length 0 r 0 (wv r) (wv a * wv b) (by omega) hl hW (by omega) (by omega) hz (by simp [wv_nil])
      (fun r' hl' hW' hv' => Mul_ev a b ha hb hlen d (i + 1) r' (by omega) hl' hW' (by
        rw [hv', hv, take_succ', Nat.add_mul, Nat.mul_assoc]))
    refine Ev.step (fun k => ?_) h
    simp only [nat_Nat_Mul.l0]
    rw [if_pos (by omega), if_pos (by omega), if_pos (by omega)]
    rfl
theorem Mul_spec {a b : List Int} (ha : WD a) (hb : WD b) (la : a.length ≤ 1000000000) (lb : b.length ≤ 1000000000) : Ev (fun k => nat_Nat_Mul.f k a b) (words (wv a * wv b)) := by
  have h := Mul_ev a b ha hb (by omega) a.length 0 (List.replicate (a.length + b.length) 0) (by omega) (by simp) (WD_rep _) (by simp [wv_rep, wv_nil])
  unfold nat_Nat_Mul.f
  have e : wrap64 ((a.length : Int) + (b.length : Int)) = ((a.length + b.length : Nat) : Int) := by rw [w64 (by omega) (by omega)]; omega
  rw [e, Int.toNat_natCast]
  refine Ev.congr (fun k => ?_) h
  rw [if_pos (by omega), if_pos (by omega)]
  rfl
end Go.Proofs.Ytagbnkbhobmgjaa.Pure
end
section
-- Written by a program of this session (a turned copy of the kit's printer, and hand-written parts). Not trusted: Lean checks it.
namespace Go.Proofs.Ytagbnkbhobmgjaa.Fn
open Go.RowKit Go.Proofs.YtagbnkbhobmgjaaW.PrintWords Go.Proofs.YtagbnkbhobmgjaaW.PrintLast Go.Proofs.YtagbnkbhobmgjaaW.PrintMore
attribute [local go_sem] max2_int min2_int max_two min_two max_three min_three max_four min_four   -- for this text's walks alone
set_option linter.unusedVariables false
set_option linter.unusedSimpArgs false
/-! ### flyballlaw02_small: function 24 -/
end Go.Proofs.Ytagbnkbhobmgjaa.Fn
end
section
-- Written by a program of this session (a turned copy of the kit's printer, and hand-written parts). Not trusted: Lean checks it.
namespace Go.Proofs.Ytagbnkbhobmgjaa.Fn
open Go.RowKit Go.Proofs.YtagbnkbhobmgjaaW.PrintWords Go.Proofs.YtagbnkbhobmgjaaW.PrintLast Go.Proofs.YtagbnkbhobmgjaaW.PrintMore
attribute [local go_sem] max2_int min2_int max_two min_two max_three min_three max_four min_four   -- for this text's walks alone
set_option linter.unusedVariables false
set_option linter.unusedSimpArgs false
/-! ### nat_Nat_Bit: function 42 -/
end Go.Proofs.Ytagbnkbhobmgjaa.Fn
end
section
-- Written by a program of this session (a turned copy of the kit's printer, and hand-written parts). Not trusted: Lean checks it.
namespace Go.Proofs.Ytagbnkbhobmgjaa.Fn
open Go.RowKit Go.Proofs.YtagbnkbhobmgjaaW.PrintWords Go.Proofs.YtagbnkbhobmgjaaW.PrintLast Go.Proofs.YtagbnkbhobmgjaaW.PrintMore
attribute [local go_sem] max2_int min2_int max_two min_two max_three min_three max_four min_four   -- for this text's walks alone
set_option linter.unusedVariables false
set_option linter.unusedSimpArgs false
/-! ### nat_Parse: function 47 -/
mutual
def nat_Parse.l0 : Nat → ByteArray → List Int → Int → Int → Int → Int → Option (List Int × Int)
 | 0, _, _, _, _, _, _ => none
 | k + 1, x0, x4, x5, x6, x16, x17 => if x17 < x16 then (if 0 ≤ x17 then (if x17 < (x0.size : Int) then (if (bt x0 x17) < 48 then (nat_Parse.j1 k x0 x4 x5 x6 x17 x16 x17 true) else (nat_Parse.j1 k x0 x4 x5 x6 x17 x16 x17 (decide ((bt x0 x17) > 57)))) else (none)) else (none)) else (some (x4, 0))
def nat_Parse.j1 : Nat → ByteArray → List Int → Int → Int → Int → Int → Int → Bool → Option (List Int × Int)
 | 0, _, _, _, _, _, _, _, _ => none
 | k + 1, x0, x4, x5, x6, x7, x16, x17, x29 => if x29 = true then (some (([] : List Int), 22)) else (if 0 ≤ x7 then (if x7 < (x0.size : Int) then (if (IntKind.u64.wrap (x6 * 10)) = 1000000000 then (nat_Parse.j2 k x0 x4 (IntKind.u64.wrap ((IntKind.u64.wrap (x5 * 10)) + (((bt x0 x7) - 48) % 256))) (IntKind.u64.wrap (x6 * 10)) x16 x17 true) else (nat_Parse.j2 k x0 x4 (IntKind.u64.wrap ((IntKind.u64.wrap (x5 * 10)) + (((bt x0 x7) - 48) % 256))) (IntKind.u64.wrap (x6 * 10)) x16 x17 (x7 == (wrap64 ((x0.size : Int) - 1))))) else (none)) else (none))
def nat_Parse.j2 : Nat → ByteArray → List Int → Int → Int → Int → Int → Bool → Option (List Int × Int)
 | 0, _, _, _, _, _, _, _ => none
 | k + 1, x0, x4, x5, x6, x16, x17, x48 => if x48 = true then ((nat_New.f k x6).bind fun t101 => ((nat_Nat_Mul.f k x4 t101).bind fun t104 => ((nat_New.f k x5).bind fun t107 => ((nat_Nat_Add.f k t104 t107).bind fun t110 => (nat_Parse.l0 k x0 t110 0 1 x16 (wrap64 (x17 + 1))))))) else (nat_Parse.l0 k x0 x4 x5 x6 x16 (wrap64 (x17 + 1)))
end
end Go.Proofs.Ytagbnkbhobmgjaa.Fn
end
section
-- Written by a program of this session (a turned copy of the kit's printer, and hand-written parts). Not trusted: Lean checks it.
namespace Go.Proofs.Ytagbnkbhobmgjaa.Fn
open Go.RowKit Go.Proofs.YtagbnkbhobmgjaaW.PrintWords Go.Proofs.YtagbnkbhobmgjaaW.PrintLast Go.Proofs.YtagbnkbhobmgjaaW.PrintMore
attribute [local go_sem] max2_int min2_int max_two min_two max_three min_three max_four min_four   -- for this text's walks alone
set_option linter.unusedVariables false
set_option linter.unusedSimpArgs false
/-! ### flyballref01_Words: function 40 -/
mutual
def flyballref01_Words.l0 : Nat → List Bool → Int → List Int → Int → Option (List Int)
 | 0, _, _, _, _ => none
 | k + 1, x0, x1, x5, x6 => if x6 < (x0.length : Int) then (flyballref01_Words.j1 k x0 x1 x5 x6 (decide (x6 < (wrap64 (64 * x1))))) else (flyballref01_Words.j1 k x0 x1 x5 x6 false)
def flyballref01_Words.j1 : Nat → List Bool → Int → List Int → Int → Bool → Option (List Int)
 | 0, _, _, _, _, _ => none
 | k + 1, x0, x1, x5, x6, x18 => if x18 = true then (if 0 ≤ x6 then (if x6 < (x0.length : Int) then (if rdOf false x0 x6 = true then (if 0 ≤ (wrap64 (Int.tdiv x6 64)) then (if (wrap64 (Int.tdiv x6 64)) < (x5.length : Int) then (if 0 ≤ (IntKind.u64.wrap (Int.tmod x6 64)) then (flyballref01_Words.l0 k x0 x1 (x5.set ((wrap64 (Int.tdiv x6 64)) : Int).toNat (Go.bits .or .u64 (rd x5 (wrap64 (Int.tdiv x6 64))) (shl .u64 1 (IntKind.u64.wrap (Int.tmod x6 64))))) (wrap64 (x6 + 1))) else (none)) else (none)) else (none)) else (flyballref01_Words.l0 k x0 x1 x5 (wrap64 (x6 + 1)))) else (none)) else (none)) else (some x5)
end
end Go.Proofs.Ytagbnkbhobmgjaa.Fn
end
section
-- Written by a program of this session (a turned copy of the kit's printer, and hand-written parts). Not trusted: Lean checks it.
namespace Go.Proofs.Ytagbnkbhobmgjaa.Fn
open Go.RowKit Go.Proofs.YtagbnkbhobmgjaaW.PrintWords Go.Proofs.YtagbnkbhobmgjaaW.PrintLast Go.Proofs.YtagbnkbhobmgjaaW.PrintMore
attribute [local go_sem] max2_int min2_int max_two min_two max_three min_three max_four min_four   -- for this text's walks alone
set_option linter.unusedVariables false
set_option linter.unusedSimpArgs false
/-! ### flyballref01_Of: function 51 -/
mutual
def flyballref01_Of.l0 : Nat → List Int → List Bool → Int → Option (List Bool)
 | 0, _, _, _ => none
 | k + 1, x0, x3, x4 => if x4 < (x0.length : Int) then (flyballref01_Of.l1 k x0 x3 x4 0) else (some x3)
def flyballref01_Of.l1 : Nat → List Int → List Bool → Int → Int → Option (List Bool)
 | 0, _, _, _, _ => none
 | k + 1, x0, x3, x4, x5 => if x5 < 64 then (if 0 ≤ x4 then (if x4 < (x0.length : Int) then (if 0 ≤ (IntKind.u64.wrap (x5)) then (if x3.length < 140737488355328 then (flyballref01_Of.l1 k x0 (x3 ++ [((Go.bits .and .u64 (shr .u64 (rd x0 x4) (IntKind.u64.wrap (x5))) 1) == 1)]) x4 (wrap64 (x5 + 1))) else (none)) else (none)) else (none)) else (none)) else (flyballref01_Of.l0 k x0 x3 (wrap64 (x4 + 1)))
end
end Go.Proofs.Ytagbnkbhobmgjaa.Fn
end
section
-- Written by a program of this session (a turned copy of the kit's printer, and hand-written parts). Not trusted: Lean checks it.
namespace Go.Proofs.Ytagbnkbhobmgjaa.Fn
open Go.RowKit Go.Proofs.YtagbnkbhobmgjaaW.PrintWords Go.Proofs.YtagbnkbhobmgjaaW.PrintLast Go.Proofs.YtagbnkbhobmgjaaW.PrintMore
attribute [local go_sem] max2_int min2_int max_two min_two max_three min_three max_four min_four   -- for this text's walks alone
set_option linter.unusedVariables false
set_option linter.unusedSimpArgs false
/-! ### flyballref03_Add: function 87 -/
end Go.Proofs.Ytagbnkbhobmgjaa.Fn
end
section
-- Written by a program of this session (a turned copy of the kit's printer, and hand-written parts). Not trusted: Lean checks it.
namespace Go.Proofs.Ytagbnkbhobmgjaa.Fn
open Go.RowKit Go.Proofs.YtagbnkbhobmgjaaW.PrintWords Go.Proofs.YtagbnkbhobmgjaaW.PrintLast Go.Proofs.YtagbnkbhobmgjaaW.PrintMore
attribute [local go_sem] max2_int min2_int max_two min_two max_three min_three max_four min_four   -- for this text's walks alone
set_option linter.unusedVariables false
set_option linter.unusedSimpArgs false
/-! ### flyballref03_Minus: function 89 -/
end Go.Proofs.Ytagbnkbhobmgjaa.Fn
end
