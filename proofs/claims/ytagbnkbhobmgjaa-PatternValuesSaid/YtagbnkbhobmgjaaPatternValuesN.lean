/- The value of a finite float is just the rational number that the document says; others have none. Part 14 of 22. -/
import Derived.Test.YtagbnkbhobmgjaaPatternValuesE
import Derived.Test.YtagbnkbhobmgjaaPatternValuesM
import Derived.Test.YtagbnkbhobmgjaaPatternValuesK
import Derived.Test.YtagbnkbhobmgjaaPatternValuesL
section
-- Written by a program of this session (a turned copy of the kit's printer, and hand-written parts). Not trusted: Lean checks it.
namespace Go.Proofs.Ytagbnkbhobmgjaa.Fn
open Go.RowKit Go.Proofs.YtagbnkbhobmgjaaW.PrintWords Go.Proofs.YtagbnkbhobmgjaaW.PrintLast Go.Proofs.YtagbnkbhobmgjaaW.PrintMore
attribute [local go_sem] max2_int min2_int max_two min_two max_three min_three max_four min_four   -- for this text's walks alone
set_option linter.unusedVariables false
set_option linter.unusedSimpArgs false
/-! ### ratio_R_Text: function 100 -/
def ratio_R_Text.j0 : Nat → ByteArray → Bool → List Int → List Int → Option (ByteArray)
 | 0, _, _, _, _ => none
 | k + 1, x3, x102000, x102001, x102002 => (nat_New.f k 1).bind fun t110 => ((nat_Nat_Cmp.f k x102002 t110).bind fun t113 => (if t113 = 0 then (some x3) else ((nat_Nat_Text.f k x102002).bind fun t114 => (if 1 + t114.size ≤ 9223372036854775807 then (if x3.size + ((⟨#[47]⟩ : ByteArray) ++ t114).size ≤ 9223372036854775807 then (some (x3 ++ ((⟨#[47]⟩ : ByteArray) ++ t114))) else (none)) else (none)))))
def ratio_R_Text.f (k : Nat) (a0_0 : Bool) (l0_1 : List Int) (l0_2 : List Int) : Option (ByteArray) := (ratio_R_low.f k a0_0 l0_1 l0_2).bind fun bt102 => ((nat_Nat_Text.f k bt102.2.1).bind fun t109 => (if bt102.1 = true then (if 1 + t109.size ≤ 9223372036854775807 then (ratio_R_Text.j0 k ((⟨#[45]⟩ : ByteArray) ++ t109) bt102.1 bt102.2.1 bt102.2.2) else (none)) else (ratio_R_Text.j0 k t109 bt102.1 bt102.2.1 bt102.2.2)))
theorem ratio_R_Text.mono_l : ∀ k, (∀ y0 y1 y2 y3, LeO (ratio_R_Text.j0 k y0 y1 y2 y3) (ratio_R_Text.j0 (k + 1) y0 y1 y2 y3))
 | 0 => fun _ _ _ _ r h => by simp [ratio_R_Text.j0] at h
 | k + 1 => by
  have ih0 := ratio_R_Text.mono_l k
  ·intro y0 y1 y2 y3
   unfold ratio_R_Text.j0
   repeat' first
   | (with_reducible exact ih0 _ _ _ _)
   | (with_reducible exact nat_Nat_Cmp.mono _ _ _)
   | (with_reducible exact nat_Nat_Text.mono _ _)
   | (with_reducible exact nat_New.mono _ _)
   | (with_reducible exact ratio_R_low.mono _ _ _ _)
   | (with_reducible exact LeO.refl _)
   | (with_reducible exact LeO.none _)
   | (with_reducible refine LeO.ite ?_ ?_)
   | (with_reducible refine LeO.bind ?_ (fun _ => ?_))
   | exact ih0 _ _ _ _
   | exact nat_Nat_Cmp.mono _ _ _
   | exact nat_Nat_Text.mono _ _
   | exact nat_New.mono _ _
   | exact ratio_R_low.mono _ _ _ _
   | exact LeO.none _
   | refine LeO.ite ?_ ?_
   | refine LeO.bind ?_ (fun _ => ?_)
theorem ratio_R_Text.mono : ∀ a0 a1 a2 k, LeO (ratio_R_Text.f k a0 a1 a2) (ratio_R_Text.f (k + 1) a0 a1 a2) := by
 intro a0 a1 a2 k
 have ih0 := ratio_R_Text.mono_l k
 unfold ratio_R_Text.f
 repeat' first
   | (with_reducible exact ih0 _ _ _ _)
   | (with_reducible exact nat_Nat_Cmp.mono _ _ _)
   | (with_reducible exact nat_Nat_Text.mono _ _)
   | (with_reducible exact nat_New.mono _ _)
   | (with_reducible exact ratio_R_low.mono _ _ _ _)
   | (with_reducible exact LeO.refl _)
   | (with_reducible exact LeO.none _)
   | (with_reducible refine LeO.ite ?_ ?_)
   | (with_reducible refine LeO.bind ?_ (fun _ => ?_))
   | exact ih0 _ _ _ _
   | exact nat_Nat_Cmp.mono _ _ _
   | exact nat_Nat_Text.mono _ _
   | exact nat_New.mono _ _
   | exact ratio_R_low.mono _ _ _ _
   | exact LeO.none _
   | refine LeO.ite ?_ ?_
   | refine LeO.bind ?_ (fun _ => ?_)
set_option maxHeartbeats 8000000 in
set_option maxRecDepth 100000 in
theorem ratio_R_Text.calls (k : Nat) (a0_0 : Bool) (A0_1 : Option Addr) (c0_1 : Nat) (l0_1 : List Int) (A0_2 : Option Addr) (c0_2 : Nat) (l0_2 : List Int) (r : ByteArray) (w : World) (hr0_1 : Kd.C (Kd.int .u32) w A0_1 l0_1.length l0_1) (hc0_1 : l0_1.length ≤ c0_1) (hr0_2 : Kd.C (Kd.int .u32) w A0_2 l0_2.length l0_2) (hc0_2 : l0_2.length ≤ c0_2) (h : ratio_R_Text.f k a0_0 l0_1 l0_2 = some r) :
  Calls Try.prog 100 #[.agg #[.bool a0_0, .slice A0_1 l0_1.length c0_1, .slice A0_2 l0_2.length c0_2]] w fun e w' => e = .returned (.string r) ∧ Below w.heap.size w w' := by
 have hu69 := Try.underlying69
 have HR0_1 := Aside0.mk hr0_1
 have HC0_1 := Aside0.mk hc0_1
 clear hr0_1 hc0_1
 have HR0_2 := Aside0.mk hr0_2
 have HC0_2 := Aside0.mk hc0_2
 clear hr0_2 hc0_2
 have HB := Aside0.mk (Below.refl w.heap.size w)
 have H : ((ratio_R_low.f k a0_0 l0_1 l0_2).bind fun bt102 => ((nat_Nat_Text.f k bt102.2.1).bind fun t109 => (if bt102.1 = true then (if 1 + t109.size ≤ 9223372036854775807 then (ratio_R_Text.j0 k ((⟨#[45]⟩ : ByteArray) ++ t109) bt102.1 bt102.2.1 bt102.2.2) else (none)) else (ratio_R_Text.j0 k t109 bt102.1 bt102.2.1 bt102.2.2)))) = some r := h
 clear h
 replace H := Option.bind_eq_some_iff.mp H
 obtain ⟨⟨t102, t103, t106⟩, A20, H⟩ := H
 replace H : ((nat_Nat_Text.f k t103).bind fun t109 => (if t102 = true then (if 1 + t109.size ≤ 9223372036854775807 then (ratio_R_Text.j0 k ((⟨#[45]⟩ : ByteArray) ++ t109) t102 t103 t106) else (none)) else (ratio_R_Text.j0 k t109 t102 t103 t106))) = some r := H
 have A2 := Aside0.mk A20
 clear A20
 replace H := Option.bind_eq_some_iff.mp H
 obtain ⟨t109, A30, H⟩ := H
 replace H : (if t102 = true then (if 1 + t109.size ≤ 9223372036854775807 then (ratio_R_Text.j0 k ((⟨#[45]⟩ : ByteArray) ++ t109) t102 t103 t106) else (none)) else (ratio_R_Text.j0 k t109 t102 t103 t106)) = some r := H
 have A3 := Aside0.mk A30
 clear A30
 have HC4 := Aside0.mk H
 clear H
 go_enter Try.func100, Try.ntmps100
 go_upto_if 10 with (first | ((with_reducible refine gate_dst (N := 1) rfl ?_); refine box_event ?hg (N := 1) ?hd (cs := #[.bool a0_0, .slice A0_1 l0_1.length c0_1, .slice A0_2 l0_2.length c0_2]) (t := 69) ?hr ?_; (case hd => rfl); (case hg => rfl); (case hr => first | (go_simp; done) | (go_simp; rfl)); intro gb101 hg w5 hbox hb; have n0_ := Aside0.mk (below_step (by repeat (first | (with_reducible first | exact HB.out | apply below_alloc | apply pw_below_drewN | apply below_drew1) | exact HB.out)) hb); have n1_ := Aside0.mk (hbox); have n2_ := Aside0.mk ((by rw [hg]; exact (below_size (by repeat (first | (with_reducible first | exact HB.out | apply below_alloc | apply pw_below_drewN | apply below_drew1) | exact HB.out))) : w.heap.size ≤ gb101)); have n3_ := Aside0.mk ((by rw [hg]; exact (below_size (by repeat (first | (with_reducible first | exact HB.out | apply below_alloc | apply pw_below_drewN | apply below_drew1) | exact HB.out))) : w.heap.size ≤ gb101)); clear HB; have HB := n0_; have BK101 := n1_; have GW101 := n2_; have GE101 := n3_; clear n0_ n1_ n2_ n3_; clear hb hbox hg; have hcz6_0 : w5.cell? ⟨gb101, 0, none⟩ = some (.bool a0_0) := (blk_cell BK101.out 0).trans rfl; have hcz6_1 : w5.cell? ⟨gb101, 1, none⟩ = some (.slice A0_1 l0_1.length c0_1) := (blk_cell BK101.out 1).trans rfl; have hcz6_2 : w5.cell? ⟨gb101, 2, none⟩ = some (.slice A0_2 l0_2.length c0_2) := (blk_cell BK101.out 2).trans rfl; have hfz6_0 := blk_frozen BK101.out 0; have hfz6_1 := blk_frozen BK101.out 1; have hfz6_2 := blk_frozen BK101.out 2) | ((with_reducible refine gate_callee (f := 119) rfl ?_); refine goesL_ (some 5) rfl rfl Try.func119 (by kernel_rfl) rfl #[.agg #[.bool a0_0, .slice A0_1 l0_1.length c0_1, .slice A0_2 l0_2.length c0_2]] rfl (by (try simp only [List.map_toArray, List.map_cons, List.map_nil]); first | done | rfl | (simp only [List.length_drop, List.length_take]; rfl)) ?_; (with_reducible refine (ratio_R_low.calls k a0_0 (fun k_ => k_ < w.heap.size) _ _ l0_1 (fun k_ => k_ < w.heap.size) _ _ l0_2 t102 t103 t106 _ ?side1 ?side2 A2.out).mono ?_); (case side1 => exact Kd.V_mk HC0_1.out (Kd.F_below (Kd.C_F (Kd.heap_int .u32) HR0_1.out) (by repeat (first | (with_reducible first | exact HB.out | apply below_alloc | apply pw_below_drewN | apply below_drew1 | refine below_set ?_ GE101.out) | exact HB.out)))); (case side2 => exact Kd.V_mk HC0_2.out (Kd.F_below (Kd.C_F (Kd.heap_int .u32) HR0_2.out) (by repeat (first | (with_reducible first | exact HB.out | apply below_alloc | apply pw_below_drewN | apply below_drew1 | refine below_set ?_ GE101.out) | exact HB.out)))); rintro e w7 ⟨v104, v107, rfl, ho0, ho1, hb⟩; refine ⟨_, rfl, ?_⟩; have n0_ := Aside0.mk (Kd.V_lower (Kd.V_mono (ok' := fun k_ => k_ ≠ gb101) ho0 (fun k_ hk_ => Or.elim hk_ (fun hs_ => Or.elim hs_ (fun hs_ => fun e_ => Nat.not_le.2 hs_ (by rw [e_]; exact GW101.out)) (fun hs_ => fun e_ => Nat.not_le.2 hs_ (by rw [e_]; exact GW101.out))) (fun hn_ => (Kd.freshB (g := gb101) (o := .cells #[.bool a0_0, .slice A0_1 l0_1.length c0_1, .slice A0_2 l0_2.length c0_2] 69 (0, 0)) (by (with_reducible repeat (first | refine blk_drewN ?_ _ | refine blk_drew ?_ | refine blk_alloc ?_ _)); exact BK101.out) k_ hn_)))) (below_size (by repeat (first | (with_reducible first | exact HB.out | apply below_alloc | apply pw_below_drewN | apply below_drew1 | refine below_set ?_ GE101.out) | exact HB.out)))); have n1_ := Aside0.mk (Kd.V_lower (Kd.V_mono (ok' := fun k_ => k_ ≠ gb101) ho1 (fun k_ hk_ => Or.elim hk_ (fun hs_ => Or.elim hs_ (fun hs_ => fun e_ => Nat.not_le.2 hs_ (by rw [e_]; exact GW101.out)) (fun hs_ => fun e_ => Nat.not_le.2 hs_ (by rw [e_]; exact GW101.out))) (fun hn_ => (Kd.freshB (g := gb101) (o := .cells #[.bool a0_0, .slice A0_1 l0_1.length c0_1, .slice A0_2 l0_2.length c0_2] 69 (0, 0)) (by (with_reducible repeat (first | refine blk_drewN ?_ _ | refine blk_drew ?_ | refine blk_alloc ?_ _)); exact BK101.out) k_ hn_)))) (below_size (by repeat (first | (with_reducible first | exact HB.out | apply below_alloc | apply pw_below_drewN | apply below_drew1 | refine below_set ?_ GE101.out) | exact HB.out)))); have n2_ := Aside0.mk (blk_below (g := gb101) (o := .cells #[.bool a0_0, .slice A0_1 l0_1.length c0_1, .slice A0_2 l0_2.length c0_2] 69 (0, 0)) (by (with_reducible repeat (first | refine blk_drewN ?_ _ | refine blk_drew ?_ | refine blk_alloc ?_ _)); exact BK101.out) hb); have n3_ := Aside0.mk (below_step (by repeat (first | (with_reducible first | exact HB.out | apply below_alloc | apply pw_below_drewN | apply below_drew1 | refine below_set ?_ GE101.out) | exact HB.out)) hb); clear BK101; clear HB; have HO105 := n0_; have HO108 := n1_; have BK101 := n2_; have HB := n3_; clear n0_ n1_ n2_ n3_; (try clear hb); (try clear hb2); (try clear hk); (try clear hi); (try clear ho0); (try clear ho1); have hcz8_0 : w7.cell? ⟨gb101, 0, none⟩ = some (.bool a0_0) := (blk_cell BK101.out 0).trans rfl; have hcz8_1 : w7.cell? ⟨gb101, 1, none⟩ = some (.slice A0_1 l0_1.length c0_1) := (blk_cell BK101.out 1).trans rfl; have hcz8_2 : w7.cell? ⟨gb101, 2, none⟩ = some (.slice A0_2 l0_2.length c0_2) := (blk_cell BK101.out 2).trans rfl; have hfz8_0 := blk_frozen BK101.out 0; have hfz8_1 := blk_frozen BK101.out 1; have hfz8_2 := blk_frozen BK101.out 2; obtain ⟨Ao9, co9, eo9⟩ := Kd.V_slice HO105.out; subst eo9; obtain ⟨Ao10, co10, eo10⟩ := Kd.V_slice HO108.out; subst eo10) | ((with_reducible refine gate_callee (f := 46) rfl ?_); refine goesL_ (some 8) rfl rfl Try.func46 (by kernel_rfl) rfl #[.slice Ao9 t103.length co9] rfl (by (try simp only [List.map_toArray, List.map_cons, List.map_nil]); first | done | rfl | (simp only [List.length_drop, List.length_take]; rfl)) ?_; (with_reducible refine (nat_Nat_Text.calls k _ _ t103 t109 _ ?side1 ?side2 A3.out).mono ?_); (case side1 => refine (Kd.V_reads' (e := 118) (base := w.heap.size) (ok := fun k_ => k_ ≠ gb101) (n := t103.length) (c := co9) ?_).2.2; exact (by (with_reducible repeat (first | apply Kd.V_alloc | apply Kd.V_drewN | apply Kd.V_drew)); exact (Kd.V_mono (Kd.V_far (p := ⟨gb101, 2, none⟩) (Kd.V_far (p := ⟨gb101, 1, none⟩) (Kd.V_far (p := ⟨gb101, 0, none⟩) (Kd.V_mono HO105.out (fun k_ hk => (⟨hk, hk⟩ : _ ∧ k_ ≠ gb101))) (fun _ hk => hk.2) (.bool t102)) (fun _ hk => hk.2) (.slice Ao9 t103.length co9)) (fun _ hk => hk.2) (.slice Ao10 t106.length co10)) (fun _ h_ => h_.1)))); (case side2 => exact (Kd.V_reads' HO105.out).2.1); rintro e w11 ⟨rfl, hb⟩; refine ⟨_, rfl, ?_⟩; have n0_ := Aside0.mk (Kd.V_below (by (with_reducible repeat (first | apply Kd.V_alloc | apply Kd.V_drewN | apply Kd.V_drew)); exact (Kd.V_mono (Kd.V_far (p := ⟨gb101, 2, none⟩) (Kd.V_far (p := ⟨gb101, 1, none⟩) (Kd.V_far (p := ⟨gb101, 0, none⟩) (Kd.V_mono HO105.out (fun k_ hk => (⟨hk, hk⟩ : _ ∧ k_ ≠ gb101))) (fun _ hk => hk.2) (.bool t102)) (fun _ hk => hk.2) (.slice Ao9 t103.length co9)) (fun _ hk => hk.2) (.slice Ao10 t106.length co10)) (fun _ h_ => h_.1))) hb); have n1_ := Aside0.mk (Kd.V_below (by (with_reducible repeat (first | apply Kd.V_alloc | apply Kd.V_drewN | apply Kd.V_drew)); exact (Kd.V_mono (Kd.V_far (p := ⟨gb101, 2, none⟩) (Kd.V_far (p := ⟨gb101, 1, none⟩) (Kd.V_far (p := ⟨gb101, 0, none⟩) (Kd.V_mono HO108.out (fun k_ hk => (⟨hk, hk⟩ : _ ∧ k_ ≠ gb101))) (fun _ hk => hk.2) (.bool t102)) (fun _ hk => hk.2) (.slice Ao9 t103.length co9)) (fun _ hk => hk.2) (.slice Ao10 t106.length co10)) (fun _ h_ => h_.1))) hb); have n2_ := Aside0.mk (blk_below (g := gb101) (o := .cells #[.bool t102, .slice Ao9 t103.length co9, .slice Ao10 t106.length co10] 69 (0, 0)) (by (with_reducible repeat (first | refine blk_drewN ?_ _ | refine blk_drew ?_ | refine blk_alloc ?_ _)); refine blk_put (cs := #[.bool t102, .slice Ao9 t103.length co9, .slice A0_2 l0_2.length c0_2]) ?_ 2 _ rfl; (with_reducible repeat (first | refine blk_drewN ?_ _ | refine blk_drew ?_ | refine blk_alloc ?_ _)); refine blk_put (cs := #[.bool t102, .slice A0_1 l0_1.length c0_1, .slice A0_2 l0_2.length c0_2]) ?_ 1 _ rfl; (with_reducible repeat (first | refine blk_drewN ?_ _ | refine blk_drew ?_ | refine blk_alloc ?_ _)); refine blk_put (cs := #[.bool a0_0, .slice A0_1 l0_1.length c0_1, .slice A0_2 l0_2.length c0_2]) ?_ 0 _ rfl; (with_reducible repeat (first | refine blk_drewN ?_ _ | refine blk_drew ?_ | refine blk_alloc ?_ _)); exact BK101.out) hb); have n3_ := Aside0.mk (below_step (by repeat (first | (with_reducible first | exact HB.out | apply below_alloc | apply pw_below_drewN | apply below_drew1 | refine below_set ?_ GE101.out) | exact HB.out)) hb); clear HO105; clear HO108; clear BK101; clear HB; have HO105 := n0_; have HO108 := n1_; have BK101 := n2_; have HB := n3_; clear n0_ n1_ n2_ n3_; (try clear hb); (try clear hb2); (try clear hk); (try clear hi); have hcz12_0 : w11.cell? ⟨gb101, 0, none⟩ = some (.bool t102) := (blk_cell BK101.out 0).trans rfl; have hcz12_1 : w11.cell? ⟨gb101, 1, none⟩ = some (.slice Ao9 t103.length co9) := (blk_cell BK101.out 1).trans rfl; have hcz12_2 : w11.cell? ⟨gb101, 2, none⟩ = some (.slice Ao10 t106.length co10) := (blk_cell BK101.out 2).trans rfl; have hfz12_0 := blk_frozen BK101.out 0; have hfz12_1 := blk_frozen BK101.out 1; have hfz12_2 := blk_frozen BK101.out 2))
 (try simp only [Act.put, List.setIfInBounds_toArray, List.set_cons_zero, List.set_cons_succ])
 go_cut [3] (fun v3 wc => ∃ (kq : Nat) (x3_3 : ByteArray), v3 = .string x3_3 ∧ Aside0 (ratio_R_Text.j0 kq x3_3 t102 t103 t106 = some r) ∧ Aside0 (kq ≤ k) ∧ Aside0 (Kd.V (Kd.int .u32) 118 wc w.heap.size (fun k_ => k_ ≠ gb101) (.slice Ao9 t103.length co9) t103) ∧ Aside0 (Kd.V (Kd.int .u32) 118 wc w.heap.size (fun k_ => k_ ≠ gb101) (.slice Ao10 t106.length co10) t106) ∧ Aside0 (wc.heap[gb101]? = some (.cells #[.bool t102, (.slice Ao9 t103.length co9), (.slice Ao10 t106.length co10)] 69 (0, 0))) ∧ Aside0 (Below w.heap.size w wc))
 case first =>
  have H := HC4.out
  clear HC4
  by_cases c13 : t102 = true
  ·subst c13
   have H1 : (if 1 + t109.size ≤ 9223372036854775807 then (ratio_R_Text.j0 k ((⟨#[45]⟩ : ByteArray) ++ t109) true t103 t106) else (none)) = some r := by rw [if_pos rfl] at H; exact H
   clear H
   have H := H1
   clear H1
   by_cases c14 : 1 + t109.size ≤ 9223372036854775807
   ·rw [if_pos c14] at H
    have c14b0 := eq_true c14
    have c14b1 : decide (1 + t109.size ≤ 9223372036854775807) = true := decide_eq_true c14
    try have c14b2 : (9223372036854775807 < 1 + t109.size) = False := eq_false (Nat.not_lt.2 c14)
    have H' := Aside0.mk H
    clear H
    go_wp2
    go_meet
    case rel => exact ⟨_, ((⟨#[45]⟩ : ByteArray) ++ t109), (by first | rfl | (simp; done) | (simp [*]; done)), H', ⟨by first | omega | exact Nat.le_refl _⟩, ⟨by (with_reducible repeat (first | apply Kd.V_alloc | apply Kd.V_drewN | apply Kd.V_drew)); exact HO105.out⟩, ⟨by (with_reducible repeat (first | apply Kd.V_alloc | apply Kd.V_drewN | apply Kd.V_drew)); exact HO108.out⟩, ⟨by (with_reducible repeat (first | refine blk_drewN ?_ _ | refine blk_drew ?_ | refine blk_alloc ?_ _)); exact BK101.out⟩, ⟨by repeat (first | (with_reducible first | exact HB.out | apply below_alloc | apply pw_below_drewN | apply below_drew1 | refine below_set ?_ GE101.out) | exact HB.out)⟩⟩
   ·rw [if_neg c14] at H
    exact absurd H (by simp)
  ·replace c13 := Bool.eq_false_iff.mpr c13
   subst c13
   have H1 : (ratio_R_Text.j0 k t109 false t103 t106) = some r := by rw [if_neg (show ¬ (false = true) by decide)] at H; exact H
   clear H
   have H := H1
   clear H1
   have H' := Aside0.mk H
   clear H
   go_wp2
   go_meet
   case rel => exact ⟨_, (t109), (by first | rfl | (simp; done) | (simp [*]; done)), H', ⟨by first | omega | exact Nat.le_refl _⟩, ⟨by (with_reducible repeat (first | apply Kd.V_alloc | apply Kd.V_drewN | apply Kd.V_drew)); exact HO105.out⟩, ⟨by (with_reducible repeat (first | apply Kd.V_alloc | apply Kd.V_drewN | apply Kd.V_drew)); exact HO108.out⟩, ⟨by (with_reducible repeat (first | refine blk_drewN ?_ _ | refine blk_drew ?_ | refine blk_alloc ?_ _)); exact BK101.out⟩, ⟨by repeat (first | (with_reducible first | exact HB.out | apply below_alloc | apply pw_below_drewN | apply below_drew1 | refine below_set ?_ GE101.out) | exact HB.out)⟩⟩
 case rest =>
  clear HC4
  try clear c1
  try clear p2
  try clear c4
  try clear c10
  try clear c11
  try clear c13
  try clear c14
  try clear c14b0
  try clear c14b1
  try clear c14b2
  try clear hcz12_0
  try clear hcz12_1
  try clear hcz12_2
  try clear hcz6_0
  try clear hcz6_1
  try clear hcz6_2
  try clear hcz8_0
  try clear hcz8_1
  try clear hcz8_2
  try clear hfz12_0
  try clear hfz12_1
  try clear hfz12_2
  try clear hfz6_0
  try clear hfz6_1
  try clear hfz6_2
  try clear hfz8_0
  try clear hfz8_1
  try clear hfz8_2
  obtain ⟨kq, x3_3, rfl, HA, HJ3, HO_102001, HO_102002, BK101, HB⟩ := hcut
  cases kq with
  | zero => exact absurd HA.out (by simp [ratio_R_Text.j0])
  | succ kj3 =>
   have H := HA.out
   clear HA
   simp only [ratio_R_Text.j0] at H
   replace H := Option.bind_eq_some_iff.mp H
   obtain ⟨t110, A150, H⟩ := H
   replace H : ((nat_Nat_Cmp.f kj3 t106 t110).bind fun t113 => (if t113 = 0 then (some x3_3) else ((nat_Nat_Text.f kj3 t106).bind fun t114 => (if 1 + t114.size ≤ 9223372036854775807 then (if x3_3.size + ((⟨#[47]⟩ : ByteArray) ++ t114).size ≤ 9223372036854775807 then (some (x3_3 ++ ((⟨#[47]⟩ : ByteArray) ++ t114))) else (none)) else (none))))) = some r := H
   have A15 := Aside0.mk A150
   clear A150
   replace H := Option.bind_eq_some_iff.mp H
   obtain ⟨t113, A160, H⟩ := H
   replace H : (if t113 = 0 then (some x3_3) else ((nat_Nat_Text.f kj3 t106).bind fun t114 => (if 1 + t114.size ≤ 9223372036854775807 then (if x3_3.size + ((⟨#[47]⟩ : ByteArray) ++ t114).size ≤ 9223372036854775807 then (some (x3_3 ++ ((⟨#[47]⟩ : ByteArray) ++ t114))) else (none)) else (none)))) = some r := H
   have A16 := Aside0.mk A160
   clear A160
   by_cases c17 : t113 = 0
   ·rw [if_pos c17] at H
    have c17b0 : (t113 == 0) = true := beq_iff_eq.mpr c17
    have c17b1 : (t113 != 0) = false := bne_eq_false_iff_eq.mpr c17
    clear c17
    obtain rfl := Option.some.inj H
    try go_wp2
    have n0_ := Aside0.mk (Kd.V_drew HO_102001.out)
    have n1_ := Aside0.mk (Kd.V_drew HO_102002.out)
    have n2_ := Aside0.mk (blk_drew BK101.out)
    have n3_ := Aside0.mk (below_drew1 HB.out)
    clear HO_102001
    clear HO_102002
    clear BK101
    clear HB
    have HO_102001 := n0_
    have HO_102002 := n1_
    have BK101 := n2_
    have HB := n3_
    clear n0_ n1_ n2_ n3_
    refine start_ (n := 5) (S := fun w' => w'.cell? ⟨gb101, 0, none⟩ = some (.bool t102) ∧ w'.cell? ⟨gb101, 1, none⟩ = some (.slice Ao9 t103.length co9) ∧ w'.cell? ⟨gb101, 2, none⟩ = some (.slice Ao10 t106.length co10)) (ds := []) #[false, false, false, false, false] (by kernel_rfl) rfl rfl ⟨(blk_cell BK101.out 0).trans rfl, (blk_cell BK101.out 1).trans rfl, (blk_cell BK101.out 2).trans rfl⟩ (fun hHeld => ?_)
    generalize wc.drew = w18 at HO_102001 HO_102002 BK101 HB hHeld ⊢
    refine pure_ (i := 0) (N := some 13) (v := ?_) (a' := ?_) #[true, false, false, false, false] rfl rfl (by kernel_rfl) (fun _ _ _ h => h) (Or.inl ⟨by rfl, ?_⟩) ?_ ?_
    rotate_left
    ·intro w'
     go_simp
     with_reducible rfl
    rotate_left
    ·simp only [Act.put, List.setIfInBounds_toArray, List.set_cons_zero, List.set_cons_succ, i64_w, i32_w]
     rfl
    refine take_ (i := 1) (N := some 14) (v := ?_) (a' := ?_) #[true, true, false, false, false] rfl rfl (by kernel_rfl) (fun _ _ _ h => h) (Or.inl ⟨by rfl, ?_⟩) hHeld ?_ ?_
    rotate_left
    ·rintro w' ⟨s0, s1, s2⟩
     go_simp
     with_reducible rfl
    rotate_left
    ·simp only [Act.put, List.setIfInBounds_toArray, List.set_cons_zero, List.set_cons_succ, i64_w, i32_w]
     rfl
    refine one_ (i := 2) (N := some 15) #[true, true, true, false, false] rfl rfl (by kernel_rfl) (by decide) (fun K hK => ?_)
    refine goes_ Try.func52 (by kernel_rfl) rfl #[.int .u64 1] (by rfl) rfl rfl (by (try simp only [List.map_toArray, List.map_cons, List.map_nil]); first | done | rfl | (simp only [List.length_drop, List.length_take]; rfl)) ?_
    with_reducible refine (nat_New.calls kj3 1 t110 _ A15.out).mono ?_
    rintro e w19 ⟨v111, rfl, ho0, hb⟩
    refine ⟨_, rfl, ?_⟩
    have n0_ := Aside0.mk (Kd.V_below (by (with_reducible repeat (first | apply Kd.V_alloc | apply Kd.V_drewN | apply Kd.V_drew)); exact HO_102001.out) hb)
    have n1_ := Aside0.mk (Kd.V_below (by (with_reducible repeat (first | apply Kd.V_alloc | apply Kd.V_drewN | apply Kd.V_drew)); exact HO_102002.out) hb)
    have n2_ := Aside0.mk (Kd.V_lower (Kd.V_mono (ok' := fun k_ => k_ ≠ gb101) ho0 (fun k_ hk_ => (Kd.freshB (g := gb101) (o := .cells #[.bool t102, .slice Ao9 t103.length co9, .slice Ao10 t106.length co10] 69 (0, 0)) (by (with_reducible repeat (first | refine blk_drewN ?_ _ | refine blk_drew ?_ | refine blk_alloc ?_ _)); exact BK101.out) k_ hk_))) (below_size (by repeat (first | (with_reducible first | exact HB.out | apply below_alloc | apply pw_below_drewN | apply below_drew1 | refine below_set ?_ GE101.out) | exact HB.out))))
    have n3_ := Aside0.mk (blk_below (g := gb101) (o := .cells #[.bool t102, .slice Ao9 t103.length co9, .slice Ao10 t106.length co10] 69 (0, 0)) (by (with_reducible repeat (first | refine blk_drewN ?_ _ | refine blk_drew ?_ | refine blk_alloc ?_ _)); exact BK101.out) hb)
    have n4_ := Aside0.mk (below_step (by repeat (first | (with_reducible first | exact HB.out | apply below_alloc | apply pw_below_drewN | apply below_drew1 | refine below_set ?_ GE101.out) | exact HB.out)) hb)
    clear HO_102001
    clear HO_102002
    clear BK101
    clear HB
    have HO_102001 := n0_
    have HO_102002 := n1_
    have HO112 := n2_
    have BK101 := n3_
    have HB := n4_
    clear n0_ n1_ n2_ n3_ n4_
    (try clear hb)
    (try clear hb2)
    (try clear hk)
    (try clear hi)
    (try clear ho0)
    obtain ⟨Ao20, co20, eo20⟩ := Kd.V_slice HO112.out
    (first | subst eo20 | (injection eo20 with f1_ f2_ f3_; have f4_ := f1_.symm; have f5_ := f3_.symm; clear f1_ f2_ f3_; subst f4_; subst f5_))
    refine hK.out _ _ ⟨(blk_cell BK101.out 0).trans rfl, (blk_cell BK101.out 1).trans rfl, (blk_cell BK101.out 2).trans rfl⟩ (fun hHeld => ?_)
    clear hK K
    refine norm_ (a' := ?_) ?_ ?_
    rotate_left
    ·show Act.put _ (some 15) _ = _
     simp only [Act.put, List.setIfInBounds_toArray, List.set_cons_zero, List.set_cons_succ, i64_w, i32_w]
     rfl
    refine one_ (i := 3) (N := some 16) #[true, true, true, true, false] rfl rfl (by kernel_rfl) (by decide) (fun K hK => ?_)
    refine goes_ Try.func33 (by kernel_rfl) rfl #[.slice Ao10 t106.length co10, .slice Ao20 t110.length co20] (by rfl) rfl rfl (by (try simp only [List.map_toArray, List.map_cons, List.map_nil]); first | done | rfl | (simp only [List.length_drop, List.length_take]; rfl)) ?_
    with_reducible refine (nat_Nat_Cmp.calls kj3 _ _ t106 _ _ t110 t113 _ ?side1 ?side2 ?side3 ?side4 A16.out).mono ?_
    (case side1 => repeat (first | exact (Kd.V_reads' HO_102002.out).2.2 | (with_reducible refine Kd.C_alloc ?_ _) | (with_reducible refine Kd.C_drewN ?_ _) | (with_reducible refine Kd.C_drew ?_)))
    (case side2 => exact (Kd.V_reads' HO_102002.out).2.1)
    (case side3 => repeat (first | exact (Kd.V_reads' HO112.out).2.2 | (with_reducible refine Kd.C_alloc ?_ _) | (with_reducible refine Kd.C_drewN ?_ _) | (with_reducible refine Kd.C_drew ?_)))
    (case side4 => exact (Kd.V_reads' HO112.out).2.1)
    rintro e w21 ⟨rfl, hb⟩
    refine ⟨_, rfl, ?_⟩
    have n0_ := Aside0.mk (Kd.V_below (by (with_reducible repeat (first | apply Kd.V_alloc | apply Kd.V_drewN | apply Kd.V_drew)); exact HO_102001.out) hb)
    have n1_ := Aside0.mk (Kd.V_below (by (with_reducible repeat (first | apply Kd.V_alloc | apply Kd.V_drewN | apply Kd.V_drew)); exact HO_102002.out) hb)
    have n2_ := Aside0.mk (Kd.V_below (by (with_reducible repeat (first | apply Kd.V_alloc | apply Kd.V_drewN | apply Kd.V_drew)); exact HO112.out) hb)
    have n3_ := Aside0.mk (blk_below (g := gb101) (o := .cells #[.bool t102, .slice Ao9 t103.length co9, .slice Ao10 t106.length co10] 69 (0, 0)) (by (with_reducible repeat (first | refine blk_drewN ?_ _ | refine blk_drew ?_ | refine blk_alloc ?_ _)); exact BK101.out) hb)
    have n4_ := Aside0.mk (below_step (by repeat (first | (with_reducible first | exact HB.out | apply below_alloc | apply pw_below_drewN | apply below_drew1 | refine below_set ?_ GE101.out) | exact HB.out)) hb)
    clear HO_102001
    clear HO_102002
    clear HO112
    clear BK101
    clear HB
    have HO_102001 := n0_
    have HO_102002 := n1_
    have HO112 := n2_
    have BK101 := n3_
    have HB := n4_
    clear n0_ n1_ n2_ n3_ n4_
    (try clear hb)
    (try clear hb2)
    (try clear hk)
    (try clear hi)
    refine hK.out _ _ ⟨(blk_cell BK101.out 0).trans rfl, (blk_cell BK101.out 1).trans rfl, (blk_cell BK101.out 2).trans rfl⟩ (fun hHeld => ?_)
    clear hK K
    refine norm_ (a' := ?_) ?_ ?_
    rotate_left
    ·show Act.put _ (some 16) _ = _
     simp only [Act.put, List.setIfInBounds_toArray, List.set_cons_zero, List.set_cons_succ, i64_w, i32_w]
     rfl
    refine pure_ (i := 4) (N := some 17) (v := ?_) (a' := ?_) #[true, true, true, true, true] rfl rfl (by kernel_rfl) (fun _ _ _ h => h) (Or.inl ⟨by rfl, ?_⟩) ?_ ?_
    rotate_left
    ·intro w'
     go_simp
     with_reducible rfl
    rotate_left
    ·simp only [Act.put, List.setIfInBounds_toArray, List.set_cons_zero, List.set_cons_succ, i64_w, i32_w]
     rfl
    refine done_ (by kernel_rfl) ?_
    try go_wp2
    go_ret
    exact ⟨by first | rfl | (simp [errW_none, errW_some] <;> rfl) | (simp [*, errW_none, errW_some] <;> rfl), by repeat (first | (with_reducible first | exact HB.out | apply below_alloc | apply pw_below_drewN | apply below_drew1 | refine below_set ?_ GE101.out) | exact HB.out)⟩
   ·rw [if_neg c17] at H
    have c17b0 : (t113 == 0) = false := beq_eq_false_iff_ne.mpr c17
    have c17b1 : (t113 != 0) = true := bne_iff_ne.mpr c17
    replace H := Option.bind_eq_some_iff.mp H
    obtain ⟨t114, A220, H⟩ := H
    replace H : (if 1 + t114.size ≤ 9223372036854775807 then (if x3_3.size + ((⟨#[47]⟩ : ByteArray) ++ t114).size ≤ 9223372036854775807 then (some (x3_3 ++ ((⟨#[47]⟩ : ByteArray) ++ t114))) else (none)) else (none)) = some r := H
    have A22 := Aside0.mk A220
    clear A220
    by_cases c23 : 1 + t114.size ≤ 9223372036854775807
    ·rw [if_pos c23] at H
     have c23b0 := eq_true c23
     have c23b1 : decide (1 + t114.size ≤ 9223372036854775807) = true := decide_eq_true c23
     try have c23b2 : (9223372036854775807 < 1 + t114.size) = False := eq_false (Nat.not_lt.2 c23)
     by_cases c24 : x3_3.size + ((⟨#[47]⟩ : ByteArray) ++ t114).size ≤ 9223372036854775807
     ·rw [if_pos c24] at H
      have c24b0 := eq_true c24
      have c24b1 : decide (x3_3.size + ((⟨#[47]⟩ : ByteArray) ++ t114).size ≤ 9223372036854775807) = true := decide_eq_true c24
      try have c24b2 : (9223372036854775807 < x3_3.size + ((⟨#[47]⟩ : ByteArray) ++ t114).size) = False := eq_false (Nat.not_lt.2 c24)
      obtain rfl := Option.some.inj H
      try go_wp2
      have n0_ := Aside0.mk (Kd.V_drew HO_102001.out)
      have n1_ := Aside0.mk (Kd.V_drew HO_102002.out)
      have n2_ := Aside0.mk (blk_drew BK101.out)
      have n3_ := Aside0.mk (below_drew1 HB.out)
      clear HO_102001
      clear HO_102002
      clear BK101
      clear HB
      have HO_102001 := n0_
      have HO_102002 := n1_
      have BK101 := n2_
      have HB := n3_
      clear n0_ n1_ n2_ n3_
      refine start_ (n := 5) (S := fun w' => w'.cell? ⟨gb101, 0, none⟩ = some (.bool t102) ∧ w'.cell? ⟨gb101, 1, none⟩ = some (.slice Ao9 t103.length co9) ∧ w'.cell? ⟨gb101, 2, none⟩ = some (.slice Ao10 t106.length co10)) (ds := []) #[false, false, false, false, false] (by kernel_rfl) rfl rfl ⟨(blk_cell BK101.out 0).trans rfl, (blk_cell BK101.out 1).trans rfl, (blk_cell BK101.out 2).trans rfl⟩ (fun hHeld => ?_)
      generalize wc.drew = w25 at HO_102001 HO_102002 BK101 HB hHeld ⊢
      refine pure_ (i := 0) (N := some 13) (v := ?_) (a' := ?_) #[true, false, false, false, false] rfl rfl (by kernel_rfl) (fun _ _ _ h => h) (Or.inl ⟨by rfl, ?_⟩) ?_ ?_
      rotate_left
      ·intro w'
       go_simp
       with_reducible rfl
      rotate_left
      ·simp only [Act.put, List.setIfInBounds_toArray, List.set_cons_zero, List.set_cons_succ, i64_w, i32_w]
       rfl
      refine take_ (i := 1) (N := some 14) (v := ?_) (a' := ?_) #[true, true, false, false, false] rfl rfl (by kernel_rfl) (fun _ _ _ h => h) (Or.inl ⟨by rfl, ?_⟩) hHeld ?_ ?_
      rotate_left
      ·rintro w' ⟨s0, s1, s2⟩
       go_simp
       with_reducible rfl
      rotate_left
      ·simp only [Act.put, List.setIfInBounds_toArray, List.set_cons_zero, List.set_cons_succ, i64_w, i32_w]
       rfl
      refine one_ (i := 2) (N := some 15) #[true, true, true, false, false] rfl rfl (by kernel_rfl) (by decide) (fun K hK => ?_)
      refine goes_ Try.func52 (by kernel_rfl) rfl #[.int .u64 1] (by rfl) rfl rfl (by (try simp only [List.map_toArray, List.map_cons, List.map_nil]); first | done | rfl | (simp only [List.length_drop, List.length_take]; rfl)) ?_
      with_reducible refine (nat_New.calls kj3 1 t110 _ A15.out).mono ?_
      rintro e w26 ⟨v111, rfl, ho0, hb⟩
      refine ⟨_, rfl, ?_⟩
      have n0_ := Aside0.mk (Kd.V_below (by (with_reducible repeat (first | apply Kd.V_alloc | apply Kd.V_drewN | apply Kd.V_drew)); exact HO_102001.out) hb)
      have n1_ := Aside0.mk (Kd.V_below (by (with_reducible repeat (first | apply Kd.V_alloc | apply Kd.V_drewN | apply Kd.V_drew)); exact HO_102002.out) hb)
      have n2_ := Aside0.mk (Kd.V_lower (Kd.V_mono (ok' := fun k_ => k_ ≠ gb101) ho0 (fun k_ hk_ => (Kd.freshB (g := gb101) (o := .cells #[.bool t102, .slice Ao9 t103.length co9, .slice Ao10 t106.length co10] 69 (0, 0)) (by (with_reducible repeat (first | refine blk_drewN ?_ _ | refine blk_drew ?_ | refine blk_alloc ?_ _)); exact BK101.out) k_ hk_))) (below_size (by repeat (first | (with_reducible first | exact HB.out | apply below_alloc | apply pw_below_drewN | apply below_drew1 | refine below_set ?_ GE101.out) | exact HB.out))))
      have n3_ := Aside0.mk (blk_below (g := gb101) (o := .cells #[.bool t102, .slice Ao9 t103.length co9, .slice Ao10 t106.length co10] 69 (0, 0)) (by (with_reducible repeat (first | refine blk_drewN ?_ _ | refine blk_drew ?_ | refine blk_alloc ?_ _)); exact BK101.out) hb)
      have n4_ := Aside0.mk (below_step (by repeat (first | (with_reducible first | exact HB.out | apply below_alloc | apply pw_below_drewN | apply below_drew1 | refine below_set ?_ GE101.out) | exact HB.out)) hb)
      clear HO_102001
      clear HO_102002
      clear BK101
      clear HB
      have HO_102001 := n0_
      have HO_102002 := n1_
      have HO112 := n2_
      have BK101 := n3_
      have HB := n4_
      clear n0_ n1_ n2_ n3_ n4_
      (try clear hb)
      (try clear hb2)
      (try clear hk)
      (try clear hi)
      (try clear ho0)
      obtain ⟨Ao27, co27, eo27⟩ := Kd.V_slice HO112.out
      (first | subst eo27 | (injection eo27 with f1_ f2_ f3_; have f4_ := f1_.symm; have f5_ := f3_.symm; clear f1_ f2_ f3_; subst f4_; subst f5_))
      refine hK.out _ _ ⟨(blk_cell BK101.out 0).trans rfl, (blk_cell BK101.out 1).trans rfl, (blk_cell BK101.out 2).trans rfl⟩ (fun hHeld => ?_)
      clear hK K
      refine norm_ (a' := ?_) ?_ ?_
      rotate_left
      ·show Act.put _ (some 15) _ = _
       simp only [Act.put, List.setIfInBounds_toArray, List.set_cons_zero, List.set_cons_succ, i64_w, i32_w]
       rfl
      refine one_ (i := 3) (N := some 16) #[true, true, true, true, false] rfl rfl (by kernel_rfl) (by decide) (fun K hK => ?_)
      refine goes_ Try.func33 (by kernel_rfl) rfl #[.slice Ao10 t106.length co10, .slice Ao27 t110.length co27] (by rfl) rfl rfl (by (try simp only [List.map_toArray, List.map_cons, List.map_nil]); first | done | rfl | (simp only [List.length_drop, List.length_take]; rfl)) ?_
      with_reducible refine (nat_Nat_Cmp.calls kj3 _ _ t106 _ _ t110 t113 _ ?side1 ?side2 ?side3 ?side4 A16.out).mono ?_
      (case side1 => repeat (first | exact (Kd.V_reads' HO_102002.out).2.2 | (with_reducible refine Kd.C_alloc ?_ _) | (with_reducible refine Kd.C_drewN ?_ _) | (with_reducible refine Kd.C_drew ?_)))
      (case side2 => exact (Kd.V_reads' HO_102002.out).2.1)
      (case side3 => repeat (first | exact (Kd.V_reads' HO112.out).2.2 | (with_reducible refine Kd.C_alloc ?_ _) | (with_reducible refine Kd.C_drewN ?_ _) | (with_reducible refine Kd.C_drew ?_)))
      (case side4 => exact (Kd.V_reads' HO112.out).2.1)
      rintro e w28 ⟨rfl, hb⟩
      refine ⟨_, rfl, ?_⟩
      have n0_ := Aside0.mk (Kd.V_below (by (with_reducible repeat (first | apply Kd.V_alloc | apply Kd.V_drewN | apply Kd.V_drew)); exact HO_102001.out) hb)
      have n1_ := Aside0.mk (Kd.V_below (by (with_reducible repeat (first | apply Kd.V_alloc | apply Kd.V_drewN | apply Kd.V_drew)); exact HO_102002.out) hb)
      have n2_ := Aside0.mk (Kd.V_below (by (with_reducible repeat (first | apply Kd.V_alloc | apply Kd.V_drewN | apply Kd.V_drew)); exact HO112.out) hb)
      have n3_ := Aside0.mk (blk_below (g := gb101) (o := .cells #[.bool t102, .slice Ao9 t103.length co9, .slice Ao10 t106.length co10] 69 (0, 0)) (by (with_reducible repeat (first | refine blk_drewN ?_ _ | refine blk_drew ?_ | refine blk_alloc ?_ _)); exact BK101.out) hb)
      have n4_ := Aside0.mk (below_step (by repeat (first | (with_reducible first | exact HB.out | apply below_alloc | apply pw_below_drewN | apply below_drew1 | refine below_set ?_ GE101.out) | exact HB.out)) hb)
      clear HO_102001
      clear HO_102002
      clear HO112
      clear BK101
      clear HB
      have HO_102001 := n0_
      have HO_102002 := n1_
      have HO112 := n2_
      have BK101 := n3_
      have HB := n4_
      clear n0_ n1_ n2_ n3_ n4_
      (try clear hb)
      (try clear hb2)
      (try clear hk)
      (try clear hi)
      refine hK.out _ _ ⟨(blk_cell BK101.out 0).trans rfl, (blk_cell BK101.out 1).trans rfl, (blk_cell BK101.out 2).trans rfl⟩ (fun hHeld => ?_)
      clear hK K
      refine norm_ (a' := ?_) ?_ ?_
      rotate_left
      ·show Act.put _ (some 16) _ = _
       simp only [Act.put, List.setIfInBounds_toArray, List.set_cons_zero, List.set_cons_succ, i64_w, i32_w]
       rfl
      refine pure_ (i := 4) (N := some 17) (v := ?_) (a' := ?_) #[true, true, true, true, true] rfl rfl (by kernel_rfl) (fun _ _ _ h => h) (Or.inl ⟨by rfl, ?_⟩) ?_ ?_
      rotate_left
      ·intro w'
       go_simp
       with_reducible rfl
      rotate_left
      ·simp only [Act.put, List.setIfInBounds_toArray, List.set_cons_zero, List.set_cons_succ, i64_w, i32_w]
       rfl
      refine done_ (by kernel_rfl) ?_
      have hcz29_0 : w28.cell? ⟨gb101, 0, none⟩ = some (.bool t102) := (blk_cell BK101.out 0).trans rfl
      have hcz29_1 : w28.cell? ⟨gb101, 1, none⟩ = some (.slice Ao9 t103.length co9) := (blk_cell BK101.out 1).trans rfl
      have hcz29_2 : w28.cell? ⟨gb101, 2, none⟩ = some (.slice Ao10 t106.length co10) := (blk_cell BK101.out 2).trans rfl
      have hfz29_0 := blk_frozen BK101.out 0
      have hfz29_1 := blk_frozen BK101.out 1
      have hfz29_2 := blk_frozen BK101.out 2
      try go_wp2_with (first | ((with_reducible refine gate_callee (f := 46) rfl ?_); refine goesL_ (some 21) rfl rfl Try.func46 (by kernel_rfl) rfl #[.slice Ao10 t106.length co10] rfl (by (try simp only [List.map_toArray, List.map_cons, List.map_nil]); first | done | rfl | (simp only [List.length_drop, List.length_take]; rfl)) ?_; (with_reducible refine (nat_Nat_Text.calls kj3 _ _ t106 t114 _ ?side1 ?side2 A22.out).mono ?_); (case side1 => repeat (first | exact (Kd.V_reads' HO_102002.out).2.2 | (with_reducible refine Kd.C_alloc ?_ _) | (with_reducible refine Kd.C_drewN ?_ _) | (with_reducible refine Kd.C_drew ?_))); (case side2 => exact (Kd.V_reads' HO_102002.out).2.1); rintro e w30 ⟨rfl, hb⟩; refine ⟨_, rfl, ?_⟩; have n0_ := Aside0.mk (Kd.V_below (by (with_reducible repeat (first | apply Kd.V_alloc | apply Kd.V_drewN | apply Kd.V_drew)); exact HO_102001.out) hb); have n1_ := Aside0.mk (Kd.V_below (by (with_reducible repeat (first | apply Kd.V_alloc | apply Kd.V_drewN | apply Kd.V_drew)); exact HO_102002.out) hb); have n2_ := Aside0.mk (Kd.V_below (by (with_reducible repeat (first | apply Kd.V_alloc | apply Kd.V_drewN | apply Kd.V_drew)); exact HO112.out) hb); have n3_ := Aside0.mk (blk_below (g := gb101) (o := .cells #[.bool t102, .slice Ao9 t103.length co9, .slice Ao10 t106.length co10] 69 (0, 0)) (by (with_reducible repeat (first | refine blk_drewN ?_ _ | refine blk_drew ?_ | refine blk_alloc ?_ _)); exact BK101.out) hb); have n4_ := Aside0.mk (below_step (by repeat (first | (with_reducible first | exact HB.out | apply below_alloc | apply pw_below_drewN | apply below_drew1 | refine below_set ?_ GE101.out) | exact HB.out)) hb); clear HO_102001; clear HO_102002; clear HO112; clear BK101; clear HB; have HO_102001 := n0_; have HO_102002 := n1_; have HO112 := n2_; have BK101 := n3_; have HB := n4_; clear n0_ n1_ n2_ n3_ n4_; (try clear hb); (try clear hb2); (try clear hk); (try clear hi)))
      go_ret
      exact ⟨by first | rfl | (simp [errW_none, errW_some] <;> rfl) | (simp [*, errW_none, errW_some] <;> rfl), by repeat (first | (with_reducible first | exact HB.out | apply below_alloc | apply pw_below_drewN | apply below_drew1 | refine below_set ?_ GE101.out) | exact HB.out)⟩
     ·rw [if_neg c24] at H
      exact absurd H (by simp)
    ·rw [if_neg c23] at H
     exact absurd H (by simp)
end Go.Proofs.Ytagbnkbhobmgjaa.Fn
end
section
-- Written by a program of this session (a turned copy of the kit's printer, and hand-written parts). Not trusted: Lean checks it.
namespace Go.Proofs.Ytagbnkbhobmgjaa.Fn
open Go.RowKit Go.Proofs.YtagbnkbhobmgjaaW.PrintWords Go.Proofs.YtagbnkbhobmgjaaW.PrintLast Go.Proofs.YtagbnkbhobmgjaaW.PrintMore
attribute [local go_sem] max2_int min2_int max_two min_two max_three min_three max_four min_four   -- for this text's walks alone
set_option linter.unusedVariables false
set_option linter.unusedSimpArgs false
/-! ### flyballlaw04_works: function 59 -/
def flyballlaw04_worksg.f (k : Nat)  : Option (Bool) := (pattern_Make.f k false 1023 0).bind fun bt101 => ((pattern_Make.f k false 2048 0).bind fun bt103 => ((pattern_Parts.f bt101.1).bind fun bt105 => ((pattern_Split.f k bt101.1).bind fun bt108 => ((pattern_Value.f k 13828302655841107968).bind fun bt110 => ((pattern_Cmp.f k 0 9223372036854775808).bind fun bt119 => (if bt101.1 = 4607182418800017408 then (if bt101.2 = 0 then (if bt103.2 = 1 then (if bt105.1 = true then (some false) else (if bt105.2.1 = 1023 then (if bt105.2.2 = 0 then (if bt108.1 = 4503599627370496 then (if bt108.2 = (-52) then ((ratio_R_Text.f k bt110.1 bt110.2.1 bt110.2.2.1).bind fun t121 => (if t121.toList = ([45, 51, 47, 52] : List UInt8) then (if bt110.2.2.2 = true then ((pattern_Next.f k 0).bind fun t122 => (if t122 = 1 then ((pattern_Next.f k 9223372036854775809).bind fun t123 => (if t123 = 9223372036854775808 then ((pattern_Prev.f k 1).bind fun t124 => (if t124 = 0 then (if bt119.1 = 0 then (if bt119.2 = true then ((pattern_Class.f k bt101.1).bind fun t125 => (if t125 = 2 then ((pattern_Less.f k 0 bt101.1).bind fun t126 => (if t126 = true then ((pattern_Neg.f k bt101.1).bind fun t127 => (if t127 = (Go.bits .or .u64 bt101.1 9223372036854775808) then ((pattern_Abs.f k (Go.bits .or .u64 bt101.1 9223372036854775808)).bind fun t128 => (if t128 = bt101.1 then ((pattern_Inf.f k true).bind fun t129 => (if t129 = 18442240474082181120 then ((pattern_Quiet.f).bind fun t130 => (if t130 = 9221120237041090560 then ((pattern_Max.f k (([0, bt101.1] : List Int))).bind fun t134 => (if t134 = bt101.1 then ((pattern_Min.f k (([0, bt101.1] : List Int))).bind fun t138 => (some (t138 == 0))) else (some false))) else (some false))) else (some false))) else (some false))) else (some false))) else (some false))) else (some false))) else (some false)) else (some false)) else (some false))) else (some false))) else (some false))) else (some false)) else (some false))) else (some false)) else (some false)) else (some false)) else (some false))) else (some false)) else (some false)) else (some false)))))))
theorem flyballlaw04_worksg.mono : ∀ k, LeO (flyballlaw04_worksg.f k ) (flyballlaw04_worksg.f (k + 1) ) := by
 intro  k
 unfold flyballlaw04_worksg.f
 repeat' first
   | (with_reducible exact pattern_Abs.mono _ _)
   | (with_reducible exact pattern_Class.mono _ _)
   | (with_reducible exact pattern_Cmp.mono _ _ _)
   | (with_reducible exact pattern_Inf.mono _ _)
   | (with_reducible exact pattern_Less.mono _ _ _)
   | (with_reducible exact pattern_Make.mono _ _ _ _)
   | (with_reducible exact pattern_Max.mono _ _)
   | (with_reducible exact pattern_Min.mono _ _)
   | (with_reducible exact pattern_Neg.mono _ _)
   | (with_reducible exact pattern_Next.mono _ _)
   | (with_reducible exact pattern_Prev.mono _ _)
   | (with_reducible exact pattern_Split.mono _ _)
   | (with_reducible exact pattern_Value.mono _ _)
   | (with_reducible exact ratio_R_Text.mono _ _ _ _)
   | (with_reducible exact LeO.refl _)
   | (with_reducible exact LeO.none _)
   | (with_reducible refine LeO.ite ?_ ?_)
   | (with_reducible refine LeO.bind ?_ (fun _ => ?_))
   | exact pattern_Abs.mono _ _
   | exact pattern_Class.mono _ _
   | exact pattern_Cmp.mono _ _ _
   | exact pattern_Inf.mono _ _
   | exact pattern_Less.mono _ _ _
   | exact pattern_Make.mono _ _ _ _
   | exact pattern_Max.mono _ _
   | exact pattern_Min.mono _ _
   | exact pattern_Neg.mono _ _
   | exact pattern_Next.mono _ _
   | exact pattern_Prev.mono _ _
   | exact pattern_Split.mono _ _
   | exact pattern_Value.mono _ _
   | exact ratio_R_Text.mono _ _ _ _
   | exact LeO.none _
   | refine LeO.ite ?_ ?_
   | refine LeO.bind ?_ (fun _ => ?_)
set_option maxHeartbeats 8000000 in
set_option maxRecDepth 100000 in
theorem flyballlaw04_worksg.calls (k : Nat)  (w : World) (h : flyballlaw04_worksg.f k  = some true) :
  Calls Try.prog 59 #[] w fun e w' => e = .returned (.bool true) ∧ Below w.heap.size w w' := by
 have hu69 := Try.underlying69
 have HB := Aside0.mk (Below.refl w.heap.size w)
 have H : ((pattern_Make.f k false 1023 0).bind fun bt101 => ((pattern_Make.f k false 2048 0).bind fun bt103 => ((pattern_Parts.f bt101.1).bind fun bt105 => ((pattern_Split.f k bt101.1).bind fun bt108 => ((pattern_Value.f k 13828302655841107968).bind fun bt110 => ((pattern_Cmp.f k 0 9223372036854775808).bind fun bt119 => (if bt101.1 = 4607182418800017408 then (if bt101.2 = 0 then (if bt103.2 = 1 then (if bt105.1 = true then (some false) else (if bt105.2.1 = 1023 then (if bt105.2.2 = 0 then (if bt108.1 = 4503599627370496 then (if bt108.2 = (-52) then ((ratio_R_Text.f k bt110.1 bt110.2.1 bt110.2.2.1).bind fun t121 => (if t121.toList = ([45, 51, 47, 52] : List UInt8) then (if bt110.2.2.2 = true then ((pattern_Next.f k 0).bind fun t122 => (if t122 = 1 then ((pattern_Next.f k 9223372036854775809).bind fun t123 => (if t123 = 9223372036854775808 then ((pattern_Prev.f k 1).bind fun t124 => (if t124 = 0 then (if bt119.1 = 0 then (if bt119.2 = true then ((pattern_Class.f k bt101.1).bind fun t125 => (if t125 = 2 then ((pattern_Less.f k 0 bt101.1).bind fun t126 => (if t126 = true then ((pattern_Neg.f k bt101.1).bind fun t127 => (if t127 = (Go.bits .or .u64 bt101.1 9223372036854775808) then ((pattern_Abs.f k (Go.bits .or .u64 bt101.1 9223372036854775808)).bind fun t128 => (if t128 = bt101.1 then ((pattern_Inf.f k true).bind fun t129 => (if t129 = 18442240474082181120 then ((pattern_Quiet.f).bind fun t130 => (if t130 = 9221120237041090560 then ((pattern_Max.f k (([0, bt101.1] : List Int))).bind fun t134 => (if t134 = bt101.1 then ((pattern_Min.f k (([0, bt101.1] : List Int))).bind fun t138 => (some (t138 == 0))) else (some false))) else (some false))) else (some false))) else (some false))) else (some false))) else (some false))) else (some false))) else (some false)) else (some false)) else (some false))) else (some false))) else (some false))) else (some false)) else (some false))) else (some false)) else (some false)) else (some false)) else (some false))) else (some false)) else (some false)) else (some false)))))))) = some true := h
 clear h
 replace H := Option.bind_eq_some_iff.mp H
 obtain ⟨⟨t101, t102⟩, A10, H⟩ := H
 replace H : ((pattern_Make.f k false 2048 0).bind fun bt103 => ((pattern_Parts.f t101).bind fun bt105 => ((pattern_Split.f k t101).bind fun bt108 => ((pattern_Value.f k 13828302655841107968).bind fun bt110 => ((pattern_Cmp.f k 0 9223372036854775808).bind fun bt119 => (if t101 = 4607182418800017408 then (if t102 = 0 then (if bt103.2 = 1 then (if bt105.1 = true then (some false) else (if bt105.2.1 = 1023 then (if bt105.2.2 = 0 then (if bt108.1 = 4503599627370496 then (if bt108.2 = (-52) then ((ratio_R_Text.f k bt110.1 bt110.2.1 bt110.2.2.1).bind fun t121 => (if t121.toList = ([45, 51, 47, 52] : List UInt8) then (if bt110.2.2.2 = true then ((pattern_Next.f k 0).bind fun t122 => (if t122 = 1 then ((pattern_Next.f k 9223372036854775809).bind fun t123 => (if t123 = 9223372036854775808 then ((pattern_Prev.f k 1).bind fun t124 => (if t124 = 0 then (if bt119.1 = 0 then (if bt119.2 = true then ((pattern_Class.f k t101).bind fun t125 => (if t125 = 2 then ((pattern_Less.f k 0 t101).bind fun t126 => (if t126 = true then ((pattern_Neg.f k t101).bind fun t127 => (if t127 = (Go.bits .or .u64 t101 9223372036854775808) then ((pattern_Abs.f k (Go.bits .or .u64 t101 9223372036854775808)).bind fun t128 => (if t128 = t101 then ((pattern_Inf.f k true).bind fun t129 => (if t129 = 18442240474082181120 then ((pattern_Quiet.f).bind fun t130 => (if t130 = 9221120237041090560 then ((pattern_Max.f k (([0, t101] : List Int))).bind fun t134 => (if t134 = t101 then ((pattern_Min.f k (([0, t101] : List Int))).bind fun t138 => (some (t138 == 0))) else (some false))) else (some false))) else (some false))) else (some false))) else (some false))) else (some false))) else (some false))) else (some false)) else (some false)) else (some false))) else (some false))) else (some false))) else (some false)) else (some false))) else (some false)) else (some false)) else (some false)) else (some false))) else (some false)) else (some false)) else (some false))))))) = some true := H
 have A1 := Aside0.mk A10
 clear A10
 replace H := Option.bind_eq_some_iff.mp H
 obtain ⟨⟨t103, t104⟩, A20, H⟩ := H
 replace H : ((pattern_Parts.f t101).bind fun bt105 => ((pattern_Split.f k t101).bind fun bt108 => ((pattern_Value.f k 13828302655841107968).bind fun bt110 => ((pattern_Cmp.f k 0 9223372036854775808).bind fun bt119 => (if t101 = 4607182418800017408 then (if t102 = 0 then (if t104 = 1 then (if bt105.1 = true then (some false) else (if bt105.2.1 = 1023 then (if bt105.2.2 = 0 then (if bt108.1 = 4503599627370496 then (if bt108.2 = (-52) then ((ratio_R_Text.f k bt110.1 bt110.2.1 bt110.2.2.1).bind fun t121 => (if t121.toList = ([45, 51, 47, 52] : List UInt8) then (if bt110.2.2.2 = true then ((pattern_Next.f k 0).bind fun t122 => (if t122 = 1 then ((pattern_Next.f k 9223372036854775809).bind fun t123 => (if t123 = 9223372036854775808 then ((pattern_Prev.f k 1).bind fun t124 => (if t124 = 0 then (if bt119.1 = 0 then (if bt119.2 = true then ((pattern_Class.f k t101).bind fun t125 => (if t125 = 2 then ((pattern_Less.f k 0 t101).bind fun t126 => (if t126 = true then ((pattern_Neg.f k t101).bind fun t127 => (if t127 = (Go.bits .or .u64 t101 9223372036854775808) then ((pattern_Abs.f k (Go.bits .or .u64 t101 9223372036854775808)).bind fun t128 => (if t128 = t101 then ((pattern_Inf.f k true).bind fun t129 => (if t129 = 18442240474082181120 then ((pattern_Quiet.f).bind fun t130 => (if t130 = 9221120237041090560 then ((pattern_Max.f k (([0, t101] : List Int))).bind fun t134 => (if t134 = t101 then ((pattern_Min.f k (([0, t101] : List Int))).bind fun t138 => (some (t138 == 0))) else (some false))) else (some false))) else (some false))) else (some false))) else (some false))) else (some false))) else (some false))) else (some false)) else (some false)) else (some false))) else (some false))) else (some false))) else (some false)) else (some false))) else (some false)) else (some false)) else (some false)) else (some false))) else (some false)) else (some false)) else (some false)))))) = some true := H
 have A2 := Aside0.mk A20
 clear A20
 replace H := Option.bind_eq_some_iff.mp H
 obtain ⟨⟨t105, t106, t107⟩, A30, H⟩ := H
 replace H : ((pattern_Split.f k t101).bind fun bt108 => ((pattern_Value.f k 13828302655841107968).bind fun bt110 => ((pattern_Cmp.f k 0 9223372036854775808).bind fun bt119 => (if t101 = 4607182418800017408 then (if t102 = 0 then (if t104 = 1 then (if t105 = true then (some false) else (if t106 = 1023 then (if t107 = 0 then (if bt108.1 = 4503599627370496 then (if bt108.2 = (-52) then ((ratio_R_Text.f k bt110.1 bt110.2.1 bt110.2.2.1).bind fun t121 => (if t121.toList = ([45, 51, 47, 52] : List UInt8) then (if bt110.2.2.2 = true then ((pattern_Next.f k 0).bind fun t122 => (if t122 = 1 then ((pattern_Next.f k 9223372036854775809).bind fun t123 => (if t123 = 9223372036854775808 then ((pattern_Prev.f k 1).bind fun t124 => (if t124 = 0 then (if bt119.1 = 0 then (if bt119.2 = true then ((pattern_Class.f k t101).bind fun t125 => (if t125 = 2 then ((pattern_Less.f k 0 t101).bind fun t126 => (if t126 = true then ((pattern_Neg.f k t101).bind fun t127 => (if t127 = (Go.bits .or .u64 t101 9223372036854775808) then ((pattern_Abs.f k (Go.bits .or .u64 t101 9223372036854775808)).bind fun t128 => (if t128 = t101 then ((pattern_Inf.f k true).bind fun t129 => (if t129 = 18442240474082181120 then ((pattern_Quiet.f).bind fun t130 => (if t130 = 9221120237041090560 then ((pattern_Max.f k (([0, t101] : List Int))).bind fun t134 => (if t134 = t101 then ((pattern_Min.f k (([0, t101] : List Int))).bind fun t138 => (some (t138 == 0))) else (some false))) else (some false))) else (some false))) else (some false))) else (some false))) else (some false))) else (some false))) else (some false)) else (some false)) else (some false))) else (some false))) else (some false))) else (some false)) else (some false))) else (some false)) else (some false)) else (some false)) else (some false))) else (some false)) else (some false)) else (some false))))) = some true := H
 have A3 := Aside0.mk A30
 clear A30
 replace H := Option.bind_eq_some_iff.mp H
 obtain ⟨⟨t108, t109⟩, A40, H⟩ := H
 replace H : ((pattern_Value.f k 13828302655841107968).bind fun bt110 => ((pattern_Cmp.f k 0 9223372036854775808).bind fun bt119 => (if t101 = 4607182418800017408 then (if t102 = 0 then (if t104 = 1 then (if t105 = true then (some false) else (if t106 = 1023 then (if t107 = 0 then (if t108 = 4503599627370496 then (if t109 = (-52) then ((ratio_R_Text.f k bt110.1 bt110.2.1 bt110.2.2.1).bind fun t121 => (if t121.toList = ([45, 51, 47, 52] : List UInt8) then (if bt110.2.2.2 = true then ((pattern_Next.f k 0).bind fun t122 => (if t122 = 1 then ((pattern_Next.f k 9223372036854775809).bind fun t123 => (if t123 = 9223372036854775808 then ((pattern_Prev.f k 1).bind fun t124 => (if t124 = 0 then (if bt119.1 = 0 then (if bt119.2 = true then ((pattern_Class.f k t101).bind fun t125 => (if t125 = 2 then ((pattern_Less.f k 0 t101).bind fun t126 => (if t126 = true then ((pattern_Neg.f k t101).bind fun t127 => (if t127 = (Go.bits .or .u64 t101 9223372036854775808) then ((pattern_Abs.f k (Go.bits .or .u64 t101 9223372036854775808)).bind fun t128 => (if t128 = t101 then ((pattern_Inf.f k true).bind fun t129 => (if t129 = 18442240474082181120 then ((pattern_Quiet.f).bind fun t130 => (if t130 = 9221120237041090560 then ((pattern_Max.f k (([0, t101] : List Int))).bind fun t134 => (if t134 = t101 then ((pattern_Min.f k (([0, t101] : List Int))).bind fun t138 => (some (t138 == 0))) else (some false))) else (some false))) else (some false))) else (some false))) else (some false))) else (some false))) else (some false))) else (some false)) else (some false)) else (some false))) else (some false))) else (some false))) else (some false)) else (some false))) else (some false)) else (some false)) else (some false)) else (some false))) else (some false)) else (some false)) else (some false)))) = some true := H
 have A4 := Aside0.mk A40
 clear A40
 replace H := Option.bind_eq_some_iff.mp H
 obtain ⟨⟨t110, t111, t114, t117⟩, A50, H⟩ := H
 replace H : ((pattern_Cmp.f k 0 9223372036854775808).bind fun bt119 => (if t101 = 4607182418800017408 then (if t102 = 0 then (if t104 = 1 then (if t105 = true then (some false) else (if t106 = 1023 then (if t107 = 0 then (if t108 = 4503599627370496 then (if t109 = (-52) then ((ratio_R_Text.f k t110 t111 t114).bind fun t121 => (if t121.toList = ([45, 51, 47, 52] : List UInt8) then (if t117 = true then ((pattern_Next.f k 0).bind fun t122 => (if t122 = 1 then ((pattern_Next.f k 9223372036854775809).bind fun t123 => (if t123 = 9223372036854775808 then ((pattern_Prev.f k 1).bind fun t124 => (if t124 = 0 then (if bt119.1 = 0 then (if bt119.2 = true then ((pattern_Class.f k t101).bind fun t125 => (if t125 = 2 then ((pattern_Less.f k 0 t101).bind fun t126 => (if t126 = true then ((pattern_Neg.f k t101).bind fun t127 => (if t127 = (Go.bits .or .u64 t101 9223372036854775808) then ((pattern_Abs.f k (Go.bits .or .u64 t101 9223372036854775808)).bind fun t128 => (if t128 = t101 then ((pattern_Inf.f k true).bind fun t129 => (if t129 = 18442240474082181120 then ((pattern_Quiet.f).bind fun t130 => (if t130 = 9221120237041090560 then ((pattern_Max.f k (([0, t101] : List Int))).bind fun t134 => (if t134 = t101 then ((pattern_Min.f k (([0, t101] : List Int))).bind fun t138 => (some (t138 == 0))) else (some false))) else (some false))) else (some false))) else (some false))) else (some false))) else (some false))) else (some false))) else (some false)) else (some false)) else (some false))) else (some false))) else (some false))) else (some false)) else (some false))) else (some false)) else (some false)) else (some false)) else (some false))) else (some false)) else (some false)) else (some false))) = some true := H
 have A5 := Aside0.mk A50
 clear A50
 replace H := Option.bind_eq_some_iff.mp H
 obtain ⟨⟨t119, t120⟩, A60, H⟩ := H
 replace H : (if t101 = 4607182418800017408 then (if t102 = 0 then (if t104 = 1 then (if t105 = true then (some false) else (if t106 = 1023 then (if t107 = 0 then (if t108 = 4503599627370496 then (if t109 = (-52) then ((ratio_R_Text.f k t110 t111 t114).bind fun t121 => (if t121.toList = ([45, 51, 47, 52] : List UInt8) then (if t117 = true then ((pattern_Next.f k 0).bind fun t122 => (if t122 = 1 then ((pattern_Next.f k 9223372036854775809).bind fun t123 => (if t123 = 9223372036854775808 then ((pattern_Prev.f k 1).bind fun t124 => (if t124 = 0 then (if t119 = 0 then (if t120 = true then ((pattern_Class.f k t101).bind fun t125 => (if t125 = 2 then ((pattern_Less.f k 0 t101).bind fun t126 => (if t126 = true then ((pattern_Neg.f k t101).bind fun t127 => (if t127 = (Go.bits .or .u64 t101 9223372036854775808) then ((pattern_Abs.f k (Go.bits .or .u64 t101 9223372036854775808)).bind fun t128 => (if t128 = t101 then ((pattern_Inf.f k true).bind fun t129 => (if t129 = 18442240474082181120 then ((pattern_Quiet.f).bind fun t130 => (if t130 = 9221120237041090560 then ((pattern_Max.f k (([0, t101] : List Int))).bind fun t134 => (if t134 = t101 then ((pattern_Min.f k (([0, t101] : List Int))).bind fun t138 => (some (t138 == 0))) else (some false))) else (some false))) else (some false))) else (some false))) else (some false))) else (some false))) else (some false))) else (some false)) else (some false)) else (some false))) else (some false))) else (some false))) else (some false)) else (some false))) else (some false)) else (some false)) else (some false)) else (some false))) else (some false)) else (some false)) else (some false)) = some true := H
 have A6 := Aside0.mk A60
 clear A60
 by_cases c7 : t101 = 4607182418800017408
 ·rw [if_pos c7] at H
  have c7b0 : (t101 == 4607182418800017408) = true := beq_iff_eq.mpr c7
  have c7b1 : (t101 != 4607182418800017408) = false := bne_eq_false_iff_eq.mpr c7
  clear c7
  by_cases c8 : t102 = 0
  ·rw [if_pos c8] at H
   have c8b0 : (t102 == 0) = true := beq_iff_eq.mpr c8
   have c8b1 : (t102 != 0) = false := bne_eq_false_iff_eq.mpr c8
   clear c8
   by_cases c9 : t104 = 1
   ·rw [if_pos c9] at H
    have c9b0 : (t104 == 1) = true := beq_iff_eq.mpr c9
    have c9b1 : (t104 != 1) = false := bne_eq_false_iff_eq.mpr c9
    clear c9
    by_cases c10 : t105 = true
    ·subst c10
     have H1 : (some false) = some true := by rw [if_pos rfl] at H; first | done | exact H
     clear H
     have H := H1
     clear H1
     exact absurd H (by simp)
    ·replace c10 := Bool.eq_false_iff.mpr c10
     subst c10
     have H1 : (if t106 = 1023 then (if t107 = 0 then (if t108 = 4503599627370496 then (if t109 = (-52) then ((ratio_R_Text.f k t110 t111 t114).bind fun t121 => (if t121.toList = ([45, 51, 47, 52] : List UInt8) then (if t117 = true then ((pattern_Next.f k 0).bind fun t122 => (if t122 = 1 then ((pattern_Next.f k 9223372036854775809).bind fun t123 => (if t123 = 9223372036854775808 then ((pattern_Prev.f k 1).bind fun t124 => (if t124 = 0 then (if t119 = 0 then (if t120 = true then ((pattern_Class.f k t101).bind fun t125 => (if t125 = 2 then ((pattern_Less.f k 0 t101).bind fun t126 => (if t126 = true then ((pattern_Neg.f k t101).bind fun t127 => (if t127 = (Go.bits .or .u64 t101 9223372036854775808) then ((pattern_Abs.f k (Go.bits .or .u64 t101 9223372036854775808)).bind fun t128 => (if t128 = t101 then ((pattern_Inf.f k true).bind fun t129 => (if t129 = 18442240474082181120 then ((pattern_Quiet.f).bind fun t130 => (if t130 = 9221120237041090560 then ((pattern_Max.f k (([0, t101] : List Int))).bind fun t134 => (if t134 = t101 then ((pattern_Min.f k (([0, t101] : List Int))).bind fun t138 => (some (t138 == 0))) else (some false))) else (some false))) else (some false))) else (some false))) else (some false))) else (some false))) else (some false))) else (some false)) else (some false)) else (some false))) else (some false))) else (some false))) else (some false)) else (some false))) else (some false)) else (some false)) else (some false)) else (some false)) = some true := by rw [if_neg (show ¬ (false = true) by decide)] at H; first | done | exact H
     clear H
     have H := H1
     clear H1
     by_cases c16 : t106 = 1023
     ·rw [if_pos c16] at H
      have c16b0 : (t106 == 1023) = true := beq_iff_eq.mpr c16
      have c16b1 : (t106 != 1023) = false := bne_eq_false_iff_eq.mpr c16
      clear c16
      by_cases c17 : t107 = 0
      ·rw [if_pos c17] at H
       have c17b0 : (t107 == 0) = true := beq_iff_eq.mpr c17
       have c17b1 : (t107 != 0) = false := bne_eq_false_iff_eq.mpr c17
       clear c17
       by_cases c18 : t108 = 4503599627370496
       ·rw [if_pos c18] at H
        have c18b0 : (t108 == 4503599627370496) = true := beq_iff_eq.mpr c18
        have c18b1 : (t108 != 4503599627370496) = false := bne_eq_false_iff_eq.mpr c18
        clear c18
        by_cases c19 : t109 = (-52)
        ·rw [if_pos c19] at H
         have c19b0 : (t109 == (-52)) = true := beq_iff_eq.mpr c19
         have c19b1 : (t109 != (-52)) = false := bne_eq_false_iff_eq.mpr c19
         clear c19
         replace H := Option.bind_eq_some_iff.mp H
         obtain ⟨t121, A200, H⟩ := H
         replace H : (if t121.toList = ([45, 51, 47, 52] : List UInt8) then (if t117 = true then ((pattern_Next.f k 0).bind fun t122 => (if t122 = 1 then ((pattern_Next.f k 9223372036854775809).bind fun t123 => (if t123 = 9223372036854775808 then ((pattern_Prev.f k 1).bind fun t124 => (if t124 = 0 then (if t119 = 0 then (if t120 = true then ((pattern_Class.f k t101).bind fun t125 => (if t125 = 2 then ((pattern_Less.f k 0 t101).bind fun t126 => (if t126 = true then ((pattern_Neg.f k t101).bind fun t127 => (if t127 = (Go.bits .or .u64 t101 9223372036854775808) then ((pattern_Abs.f k (Go.bits .or .u64 t101 9223372036854775808)).bind fun t128 => (if t128 = t101 then ((pattern_Inf.f k true).bind fun t129 => (if t129 = 18442240474082181120 then ((pattern_Quiet.f).bind fun t130 => (if t130 = 9221120237041090560 then ((pattern_Max.f k (([0, t101] : List Int))).bind fun t134 => (if t134 = t101 then ((pattern_Min.f k (([0, t101] : List Int))).bind fun t138 => (some (t138 == 0))) else (some false))) else (some false))) else (some false))) else (some false))) else (some false))) else (some false))) else (some false))) else (some false)) else (some false)) else (some false))) else (some false))) else (some false))) else (some false)) else (some false)) = some true := H
         have A20 := Aside0.mk A200
         clear A200
         by_cases c21 : t121.toList = ([45, 51, 47, 52] : List UInt8)
         ·rw [if_pos c21] at H
          have c21b0 : (t121.toList == ([45, 51, 47, 52] : List UInt8)) = true := beq_iff_eq.mpr c21
          have c21b1 : (t121.toList != ([45, 51, 47, 52] : List UInt8)) = false := bne_eq_false_iff_eq.mpr c21
          clear c21
          by_cases c22 : t117 = true
          ·subst c22
           have H1 : ((pattern_Next.f k 0).bind fun t122 => (if t122 = 1 then ((pattern_Next.f k 9223372036854775809).bind fun t123 => (if t123 = 9223372036854775808 then ((pattern_Prev.f k 1).bind fun t124 => (if t124 = 0 then (if t119 = 0 then (if t120 = true then ((pattern_Class.f k t101).bind fun t125 => (if t125 = 2 then ((pattern_Less.f k 0 t101).bind fun t126 => (if t126 = true then ((pattern_Neg.f k t101).bind fun t127 => (if t127 = (Go.bits .or .u64 t101 9223372036854775808) then ((pattern_Abs.f k (Go.bits .or .u64 t101 9223372036854775808)).bind fun t128 => (if t128 = t101 then ((pattern_Inf.f k true).bind fun t129 => (if t129 = 18442240474082181120 then ((pattern_Quiet.f).bind fun t130 => (if t130 = 9221120237041090560 then ((pattern_Max.f k (([0, t101] : List Int))).bind fun t134 => (if t134 = t101 then ((pattern_Min.f k (([0, t101] : List Int))).bind fun t138 => (some (t138 == 0))) else (some false))) else (some false))) else (some false))) else (some false))) else (some false))) else (some false))) else (some false))) else (some false)) else (some false)) else (some false))) else (some false))) else (some false))) = some true := by rw [if_pos rfl] at H; first | done | exact H
           clear H
           have H := H1
           clear H1
           replace H := Option.bind_eq_some_iff.mp H
           obtain ⟨t122, A230, H⟩ := H
           replace H : (if t122 = 1 then ((pattern_Next.f k 9223372036854775809).bind fun t123 => (if t123 = 9223372036854775808 then ((pattern_Prev.f k 1).bind fun t124 => (if t124 = 0 then (if t119 = 0 then (if t120 = true then ((pattern_Class.f k t101).bind fun t125 => (if t125 = 2 then ((pattern_Less.f k 0 t101).bind fun t126 => (if t126 = true then ((pattern_Neg.f k t101).bind fun t127 => (if t127 = (Go.bits .or .u64 t101 9223372036854775808) then ((pattern_Abs.f k (Go.bits .or .u64 t101 9223372036854775808)).bind fun t128 => (if t128 = t101 then ((pattern_Inf.f k true).bind fun t129 => (if t129 = 18442240474082181120 then ((pattern_Quiet.f).bind fun t130 => (if t130 = 9221120237041090560 then ((pattern_Max.f k (([0, t101] : List Int))).bind fun t134 => (if t134 = t101 then ((pattern_Min.f k (([0, t101] : List Int))).bind fun t138 => (some (t138 == 0))) else (some false))) else (some false))) else (some false))) else (some false))) else (some false))) else (some false))) else (some false))) else (some false)) else (some false)) else (some false))) else (some false))) else (some false)) = some true := H
           have A23 := Aside0.mk A230
           clear A230
           by_cases c24 : t122 = 1
           ·rw [if_pos c24] at H
            have c24b0 : (t122 == 1) = true := beq_iff_eq.mpr c24
            have c24b1 : (t122 != 1) = false := bne_eq_false_iff_eq.mpr c24
            clear c24
            replace H := Option.bind_eq_some_iff.mp H
            obtain ⟨t123, A250, H⟩ := H
            replace H : (if t123 = 9223372036854775808 then ((pattern_Prev.f k 1).bind fun t124 => (if t124 = 0 then (if t119 = 0 then (if t120 = true then ((pattern_Class.f k t101).bind fun t125 => (if t125 = 2 then ((pattern_Less.f k 0 t101).bind fun t126 => (if t126 = true then ((pattern_Neg.f k t101).bind fun t127 => (if t127 = (Go.bits .or .u64 t101 9223372036854775808) then ((pattern_Abs.f k (Go.bits .or .u64 t101 9223372036854775808)).bind fun t128 => (if t128 = t101 then ((pattern_Inf.f k true).bind fun t129 => (if t129 = 18442240474082181120 then ((pattern_Quiet.f).bind fun t130 => (if t130 = 9221120237041090560 then ((pattern_Max.f k (([0, t101] : List Int))).bind fun t134 => (if t134 = t101 then ((pattern_Min.f k (([0, t101] : List Int))).bind fun t138 => (some (t138 == 0))) else (some false))) else (some false))) else (some false))) else (some false))) else (some false))) else (some false))) else (some false))) else (some false)) else (some false)) else (some false))) else (some false)) = some true := H
            have A25 := Aside0.mk A250
            clear A250
            by_cases c26 : t123 = 9223372036854775808
            ·rw [if_pos c26] at H
             have c26b0 : (t123 == 9223372036854775808) = true := beq_iff_eq.mpr c26
             have c26b1 : (t123 != 9223372036854775808) = false := bne_eq_false_iff_eq.mpr c26
             clear c26
             replace H := Option.bind_eq_some_iff.mp H
             obtain ⟨t124, A270, H⟩ := H
             replace H : (if t124 = 0 then (if t119 = 0 then (if t120 = true then ((pattern_Class.f k t101).bind fun t125 => (if t125 = 2 then ((pattern_Less.f k 0 t101).bind fun t126 => (if t126 = true then ((pattern_Neg.f k t101).bind fun t127 => (if t127 = (Go.bits .or .u64 t101 9223372036854775808) then ((pattern_Abs.f k (Go.bits .or .u64 t101 9223372036854775808)).bind fun t128 => (if t128 = t101 then ((pattern_Inf.f k true).bind fun t129 => (if t129 = 18442240474082181120 then ((pattern_Quiet.f).bind fun t130 => (if t130 = 9221120237041090560 then ((pattern_Max.f k (([0, t101] : List Int))).bind fun t134 => (if t134 = t101 then ((pattern_Min.f k (([0, t101] : List Int))).bind fun t138 => (some (t138 == 0))) else (some false))) else (some false))) else (some false))) else (some false))) else (some false))) else (some false))) else (some false))) else (some false)) else (some false)) else (some false)) = some true := H
             have A27 := Aside0.mk A270
             clear A270
             by_cases c28 : t124 = 0
             ·rw [if_pos c28] at H
              have c28b0 : (t124 == 0) = true := beq_iff_eq.mpr c28
              have c28b1 : (t124 != 0) = false := bne_eq_false_iff_eq.mpr c28
              clear c28
              by_cases c29 : t119 = 0
              ·rw [if_pos c29] at H
               have c29b0 : (t119 == 0) = true := beq_iff_eq.mpr c29
               have c29b1 : (t119 != 0) = false := bne_eq_false_iff_eq.mpr c29
               clear c29
               by_cases c30 : t120 = true
               ·subst c30
                have H1 : ((pattern_Class.f k t101).bind fun t125 => (if t125 = 2 then ((pattern_Less.f k 0 t101).bind fun t126 => (if t126 = true then ((pattern_Neg.f k t101).bind fun t127 => (if t127 = (Go.bits .or .u64 t101 9223372036854775808) then ((pattern_Abs.f k (Go.bits .or .u64 t101 9223372036854775808)).bind fun t128 => (if t128 = t101 then ((pattern_Inf.f k true).bind fun t129 => (if t129 = 18442240474082181120 then ((pattern_Quiet.f).bind fun t130 => (if t130 = 9221120237041090560 then ((pattern_Max.f k (([0, t101] : List Int))).bind fun t134 => (if t134 = t101 then ((pattern_Min.f k (([0, t101] : List Int))).bind fun t138 => (some (t138 == 0))) else (some false))) else (some false))) else (some false))) else (some false))) else (some false))) else (some false))) else (some false))) = some true := by rw [if_pos rfl] at H; first | done | exact H
                clear H
                have H := H1
                clear H1
                replace H := Option.bind_eq_some_iff.mp H
                obtain ⟨t125, A310, H⟩ := H
                replace H : (if t125 = 2 then ((pattern_Less.f k 0 t101).bind fun t126 => (if t126 = true then ((pattern_Neg.f k t101).bind fun t127 => (if t127 = (Go.bits .or .u64 t101 9223372036854775808) then ((pattern_Abs.f k (Go.bits .or .u64 t101 9223372036854775808)).bind fun t128 => (if t128 = t101 then ((pattern_Inf.f k true).bind fun t129 => (if t129 = 18442240474082181120 then ((pattern_Quiet.f).bind fun t130 => (if t130 = 9221120237041090560 then ((pattern_Max.f k (([0, t101] : List Int))).bind fun t134 => (if t134 = t101 then ((pattern_Min.f k (([0, t101] : List Int))).bind fun t138 => (some (t138 == 0))) else (some false))) else (some false))) else (some false))) else (some false))) else (some false))) else (some false))) else (some false)) = some true := H
                have A31 := Aside0.mk A310
                clear A310
                by_cases c32 : t125 = 2
                ·rw [if_pos c32] at H
                 have c32b0 : (t125 == 2) = true := beq_iff_eq.mpr c32
                 have c32b1 : (t125 != 2) = false := bne_eq_false_iff_eq.mpr c32
                 clear c32
                 replace H := Option.bind_eq_some_iff.mp H
                 obtain ⟨t126, A330, H⟩ := H
                 replace H : (if t126 = true then ((pattern_Neg.f k t101).bind fun t127 => (if t127 = (Go.bits .or .u64 t101 9223372036854775808) then ((pattern_Abs.f k (Go.bits .or .u64 t101 9223372036854775808)).bind fun t128 => (if t128 = t101 then ((pattern_Inf.f k true).bind fun t129 => (if t129 = 18442240474082181120 then ((pattern_Quiet.f).bind fun t130 => (if t130 = 9221120237041090560 then ((pattern_Max.f k (([0, t101] : List Int))).bind fun t134 => (if t134 = t101 then ((pattern_Min.f k (([0, t101] : List Int))).bind fun t138 => (some (t138 == 0))) else (some false))) else (some false))) else (some false))) else (some false))) else (some false))) else (some false)) = some true := H
                 have A33 := Aside0.mk A330
                 clear A330
                 by_cases c34 : t126 = true
                 ·subst c34
                  have H1 : ((pattern_Neg.f k t101).bind fun t127 => (if t127 = (Go.bits .or .u64 t101 9223372036854775808) then ((pattern_Abs.f k (Go.bits .or .u64 t101 9223372036854775808)).bind fun t128 => (if t128 = t101 then ((pattern_Inf.f k true).bind fun t129 => (if t129 = 18442240474082181120 then ((pattern_Quiet.f).bind fun t130 => (if t130 = 9221120237041090560 then ((pattern_Max.f k (([0, t101] : List Int))).bind fun t134 => (if t134 = t101 then ((pattern_Min.f k (([0, t101] : List Int))).bind fun t138 => (some (t138 == 0))) else (some false))) else (some false))) else (some false))) else (some false))) else (some false))) = some true := by rw [if_pos rfl] at H; first | done | exact H
                  clear H
                  have H := H1
                  clear H1
                  replace H := Option.bind_eq_some_iff.mp H
                  obtain ⟨t127, A350, H⟩ := H
                  replace H : (if t127 = (Go.bits .or .u64 t101 9223372036854775808) then ((pattern_Abs.f k (Go.bits .or .u64 t101 9223372036854775808)).bind fun t128 => (if t128 = t101 then ((pattern_Inf.f k true).bind fun t129 => (if t129 = 18442240474082181120 then ((pattern_Quiet.f).bind fun t130 => (if t130 = 9221120237041090560 then ((pattern_Max.f k (([0, t101] : List Int))).bind fun t134 => (if t134 = t101 then ((pattern_Min.f k (([0, t101] : List Int))).bind fun t138 => (some (t138 == 0))) else (some false))) else (some false))) else (some false))) else (some false))) else (some false)) = some true := H
                  have A35 := Aside0.mk A350
                  clear A350
                  by_cases c36 : t127 = (Go.bits .or .u64 t101 9223372036854775808)
                  ·rw [if_pos c36] at H
                   have c36b0 : (t127 == (Go.bits .or .u64 t101 9223372036854775808)) = true := beq_iff_eq.mpr c36
                   have c36b1 : (t127 != (Go.bits .or .u64 t101 9223372036854775808)) = false := bne_eq_false_iff_eq.mpr c36
                   clear c36
                   replace H := Option.bind_eq_some_iff.mp H
                   obtain ⟨t128, A370, H⟩ := H
                   replace H : (if t128 = t101 then ((pattern_Inf.f k true).bind fun t129 => (if t129 = 18442240474082181120 then ((pattern_Quiet.f).bind fun t130 => (if t130 = 9221120237041090560 then ((pattern_Max.f k (([0, t101] : List Int))).bind fun t134 => (if t134 = t101 then ((pattern_Min.f k (([0, t101] : List Int))).bind fun t138 => (some (t138 == 0))) else (some false))) else (some false))) else (some false))) else (some false)) = some true := H
                   have A37 := Aside0.mk A370
                   clear A370
                   by_cases c38 : t128 = t101
                   ·rw [if_pos c38] at H
                    have c38b0 : (t128 == t101) = true := beq_iff_eq.mpr c38
                    have c38b1 : (t128 != t101) = false := bne_eq_false_iff_eq.mpr c38
                    clear c38
                    replace H := Option.bind_eq_some_iff.mp H
                    obtain ⟨t129, A390, H⟩ := H
                    replace H : (if t129 = 18442240474082181120 then ((pattern_Quiet.f).bind fun t130 => (if t130 = 9221120237041090560 then ((pattern_Max.f k (([0, t101] : List Int))).bind fun t134 => (if t134 = t101 then ((pattern_Min.f k (([0, t101] : List Int))).bind fun t138 => (some (t138 == 0))) else (some false))) else (some false))) else (some false)) = some true := H
                    have A39 := Aside0.mk A390
                    clear A390
                    by_cases c40 : t129 = 18442240474082181120
                    ·rw [if_pos c40] at H
                     have c40b0 : (t129 == 18442240474082181120) = true := beq_iff_eq.mpr c40
                     have c40b1 : (t129 != 18442240474082181120) = false := bne_eq_false_iff_eq.mpr c40
                     clear c40
                     replace H := Option.bind_eq_some_iff.mp H
                     obtain ⟨t130, A410, H⟩ := H
                     replace H : (if t130 = 9221120237041090560 then ((pattern_Max.f k (([0, t101] : List Int))).bind fun t134 => (if t134 = t101 then ((pattern_Min.f k (([0, t101] : List Int))).bind fun t138 => (some (t138 == 0))) else (some false))) else (some false)) = some true := H
                     have A41 := Aside0.mk A410
                     clear A410
                     by_cases c42 : t130 = 9221120237041090560
                     ·rw [if_pos c42] at H
                      have c42b0 : (t130 == 9221120237041090560) = true := beq_iff_eq.mpr c42
                      have c42b1 : (t130 != 9221120237041090560) = false := bne_eq_false_iff_eq.mpr c42
                      clear c42
                      obtain ⟨y131, hy131⟩ : ∃ y_ : List Int, y_ = (([0, t101] : List Int)) := ⟨_, rfl⟩
                      replace H : ((pattern_Max.f k y131).bind fun t134 => (if t134 = t101 then ((pattern_Min.f k (([0, t101] : List Int))).bind fun t138 => (some (t138 == 0))) else (some false))) = some true := by first | (rw [hy131]; with_reducible exact H) | (have H2_ := (Option.bind_some _ _).symm.trans H; rw [hy131]; with_reducible exact H2_) | (have H2_ := (Option.bind_some _ _).symm.trans H; with_reducible exact H2_) | with_reducible exact H | (rw [hy131]; exact H) | exact H
                      have Ny131 := Aside0.mk hy131
                      clear hy131
                      replace H := Option.bind_eq_some_iff.mp H
                      obtain ⟨t134, A430, H⟩ := H
                      replace H : (if t134 = t101 then ((pattern_Min.f k (([0, t101] : List Int))).bind fun t138 => (some (t138 == 0))) else (some false)) = some true := H
                      have A43 := Aside0.mk A430
                      clear A430
                      by_cases c44 : t134 = t101
                      ·rw [if_pos c44] at H
                       have c44b0 : (t134 == t101) = true := beq_iff_eq.mpr c44
                       have c44b1 : (t134 != t101) = false := bne_eq_false_iff_eq.mpr c44
                       clear c44
                       obtain ⟨y135, hy135⟩ : ∃ y_ : List Int, y_ = (([0, t101] : List Int)) := ⟨_, rfl⟩
                       replace H : ((pattern_Min.f k y135).bind fun t138 => (some (t138 == 0))) = some true := by first | (rw [hy135]; with_reducible exact H) | (have H2_ := (Option.bind_some _ _).symm.trans H; rw [hy135]; with_reducible exact H2_) | (have H2_ := (Option.bind_some _ _).symm.trans H; with_reducible exact H2_) | with_reducible exact H | (rw [hy135]; exact H) | exact H
                       have Ny135 := Aside0.mk hy135
                       clear hy135
                       replace H := Option.bind_eq_some_iff.mp H
                       obtain ⟨t138, A450, H⟩ := H
                       replace H : (some (t138 == 0)) = some true := H
                       have A45 := Aside0.mk A450
                       clear A450
                       have HT_ := Option.some.inj H
                       clear H
                       go_enter Try.func59, Try.ntmps59
                       go_wp2_with (first | ((with_reducible refine gate_callee (f := 68) rfl ?_); refine goesL_ (some 15) rfl rfl Try.func68 (by kernel_rfl) rfl #[.bool false, .int .i64 1023, .int .u64 0] rfl (by (try simp only [List.map_toArray, List.map_cons, List.map_nil]); first | done | rfl | (simp only [List.length_drop, List.length_take]; rfl)) ?_; (with_reducible refine (pattern_Make.calls k false 1023 0 t101 t102 _ A1.out).mono ?_); rintro e w' ⟨rfl, ⟨nd, rfl⟩⟩; refine ⟨_, rfl, ?_⟩) | ((with_reducible refine gate_callee (f := 68) rfl ?_); refine goesL_ (some 19) rfl rfl Try.func68 (by kernel_rfl) rfl #[.bool false, .int .i64 2048, .int .u64 0] rfl (by (try simp only [List.map_toArray, List.map_cons, List.map_nil]); first | done | rfl | (simp only [List.length_drop, List.length_take]; rfl)) ?_; (with_reducible refine (pattern_Make.calls k false 2048 0 t103 t104 _ A2.out).mono ?_); rintro e w' ⟨rfl, ⟨nd, rfl⟩⟩; refine ⟨_, rfl, ?_⟩) | ((with_reducible refine gate_callee (f := 64) rfl ?_); refine goesL_ (some 24) rfl rfl Try.func64 (by kernel_rfl) rfl #[.int .u64 t101] rfl (by (try simp only [List.map_toArray, List.map_cons, List.map_nil]); first | done | rfl | (simp only [List.length_drop, List.length_take]; rfl)) ?_; (with_reducible refine (pattern_Parts.calls t101 false t106 t107 _ A3.out).mono ?_); rintro e w' ⟨rfl, ⟨nd, rfl⟩⟩; refine ⟨_, rfl, ?_⟩) | ((with_reducible refine gate_callee (f := 66) rfl ?_); refine goesL_ (some 30) rfl rfl Try.func66 (by kernel_rfl) rfl #[.int .u64 t101] rfl (by (try simp only [List.map_toArray, List.map_cons, List.map_nil]); first | done | rfl | (simp only [List.length_drop, List.length_take]; rfl)) ?_; (with_reducible refine (pattern_Split.calls k t101 t108 t109 _ A4.out).mono ?_); rintro e w' ⟨rfl, ⟨nd, rfl⟩⟩; refine ⟨_, rfl, ?_⟩) | ((with_reducible refine gate_callee (f := 63) rfl ?_); refine goesL_ (some 34) rfl rfl Try.func63 (by kernel_rfl) rfl #[.int .u64 13828302655841107968] rfl (by (try simp only [List.map_toArray, List.map_cons, List.map_nil]); first | done | rfl | (simp only [List.length_drop, List.length_take]; rfl)) ?_; (with_reducible refine (pattern_Value.calls k 13828302655841107968 t110 t111 t114 true _ A5.out).mono ?_); rintro e w46 ⟨v112, v115, rfl, ho0, ho1, hb⟩; refine ⟨_, rfl, ?_⟩; have n0_ := Aside0.mk (Kd.V_lower (Kd.V_mono (ok' := fun k_ => True) ho0 (fun k_ hk_ => trivial)) (below_size (by repeat (first | (with_reducible first | exact HB.out | apply below_alloc | apply pw_below_drewN | apply below_drew1) | exact HB.out)))); have n1_ := Aside0.mk (Kd.V_lower (Kd.V_mono (ok' := fun k_ => True) ho1 (fun k_ hk_ => trivial)) (below_size (by repeat (first | (with_reducible first | exact HB.out | apply below_alloc | apply pw_below_drewN | apply below_drew1) | exact HB.out)))); have n2_ := Aside0.mk (below_step (by repeat (first | (with_reducible first | exact HB.out | apply below_alloc | apply pw_below_drewN | apply below_drew1) | exact HB.out)) hb); clear HB; have HO113 := n0_; have HO116 := n1_; have HB := n2_; clear n0_ n1_ n2_; (try clear hb); (try clear hb2); (try clear hk); (try clear hi); (try clear ho0); (try clear ho1)) | ((with_reducible refine gate_dst (N := 10) rfl ?_); (try (refine gate_guard (by rfl) ?_; dsimp only)); refine box_event ?hg (N := 10) ?hd (cs := #[.bool false, .slice none 0 0, .slice none 0 0]) (t := 69) ?hr ?_; (case hd => rfl); (case hg => rfl); (case hr => first | (go_simp; done) | (go_simp; rfl)); intro gb118 hg w47 hbox hb; have n0_ := Aside0.mk (Kd.V_below (Kd.V_elderB (by (with_reducible repeat (first | apply Kd.V_alloc | apply Kd.V_drewN | apply Kd.V_drew)); exact HO113.out) gb118 (Nat.le_of_eq hg.symm)) hb); have n1_ := Aside0.mk (Kd.V_below (Kd.V_elderB (by (with_reducible repeat (first | apply Kd.V_alloc | apply Kd.V_drewN | apply Kd.V_drew)); exact HO116.out) gb118 (Nat.le_of_eq hg.symm)) hb); have n2_ := Aside0.mk (below_step (by repeat (first | (with_reducible first | exact HB.out | apply below_alloc | apply pw_below_drewN | apply below_drew1) | exact HB.out)) hb); have n3_ := Aside0.mk (hbox); have n4_ := Aside0.mk ((by rw [hg]; exact (below_size (by repeat (first | (with_reducible first | exact HB.out | apply below_alloc | apply pw_below_drewN | apply below_drew1) | exact HB.out))) : w.heap.size ≤ gb118)); have n5_ := Aside0.mk ((by rw [hg]; exact (below_size (by repeat (first | (with_reducible first | exact HB.out | apply below_alloc | apply pw_below_drewN | apply below_drew1) | exact HB.out))) : w.heap.size ≤ gb118)); clear HO113; clear HO116; clear HB; have HO113 := n0_; have HO116 := n1_; have HB := n2_; have BK118 := n3_; have GW118 := n4_; have GE118 := n5_; clear n0_ n1_ n2_ n3_ n4_ n5_; clear hb hbox hg; have hcz48_0 : w47.cell? ⟨gb118, 0, none⟩ = some (.bool false) := (blk_cell BK118.out 0).trans rfl; have hcz48_1 : w47.cell? ⟨gb118, 1, none⟩ = some (.slice none 0 0) := (blk_cell BK118.out 1).trans rfl; have hcz48_2 : w47.cell? ⟨gb118, 2, none⟩ = some (.slice none 0 0) := (blk_cell BK118.out 2).trans rfl; have hfz48_0 := blk_frozen BK118.out 0; have hfz48_1 := blk_frozen BK118.out 1; have hfz48_2 := blk_frozen BK118.out 2; obtain ⟨Ao49, co49, eo49⟩ := Kd.V_slice HO113.out; subst eo49; obtain ⟨Ao50, co50, eo50⟩ := Kd.V_slice HO116.out; subst eo50) | ((with_reducible refine gate_callee (f := 60) rfl ?_); refine goesL_ (some 38) rfl rfl Try.func60 (by kernel_rfl) rfl #[.int .u64 0, .int .u64 9223372036854775808] rfl (by (try simp only [List.map_toArray, List.map_cons, List.map_nil]); first | done | rfl | (simp only [List.length_drop, List.length_take]; rfl)) ?_; (with_reducible refine (pattern_Cmp.calls k 0 9223372036854775808 t119 true _ A6.out).mono ?_); rintro e w' ⟨rfl, ⟨nd, rfl⟩⟩; refine ⟨_, rfl, ?_⟩) | (go_at_call 100; (with_reducible refine (ratio_R_Text.calls k t110 _ _ t111 _ _ t114 t121 _ ?side1 ?side2 ?side3 ?side4 A20.out).mono ?_); (case side1 => refine (Kd.V_reads' (e := 118) (base := w.heap.size) (ok := fun k_ => (True ∧ k_ ≠ gb118)) (n := t111.length) (c := co49) ?_).2.2; exact (by (with_reducible repeat (first | apply Kd.V_alloc | apply Kd.V_drewN | apply Kd.V_drew)); exact (Kd.V_mono (Kd.V_far (p := ⟨gb118, 2, none⟩) (Kd.V_far (p := ⟨gb118, 1, none⟩) (Kd.V_far (p := ⟨gb118, 0, none⟩) (Kd.V_mono HO113.out (fun k_ hk => (⟨hk, hk.2⟩ : _ ∧ k_ ≠ gb118))) (fun _ hk => hk.2) (.bool t110)) (fun _ hk => hk.2) (.slice Ao49 t111.length co49)) (fun _ hk => hk.2) (.slice Ao50 t114.length co50)) (fun _ h_ => h_.1)))); (case side2 => exact (Kd.V_reads' HO113.out).2.1); (case side3 => refine (Kd.V_reads' (e := 118) (base := w.heap.size) (ok := fun k_ => (True ∧ k_ ≠ gb118)) (n := t114.length) (c := co50) ?_).2.2; exact (by (with_reducible repeat (first | apply Kd.V_alloc | apply Kd.V_drewN | apply Kd.V_drew)); exact (Kd.V_mono (Kd.V_far (p := ⟨gb118, 2, none⟩) (Kd.V_far (p := ⟨gb118, 1, none⟩) (Kd.V_far (p := ⟨gb118, 0, none⟩) (Kd.V_mono HO116.out (fun k_ hk => (⟨hk, hk.2⟩ : _ ∧ k_ ≠ gb118))) (fun _ hk => hk.2) (.bool t110)) (fun _ hk => hk.2) (.slice Ao49 t111.length co49)) (fun _ hk => hk.2) (.slice Ao50 t114.length co50)) (fun _ h_ => h_.1)))); (case side4 => exact (Kd.V_reads' HO116.out).2.1); rintro e w51 ⟨rfl, hb⟩; have n0_ := Aside0.mk (Kd.V_below (by (with_reducible repeat (first | apply Kd.V_alloc | apply Kd.V_drewN | apply Kd.V_drew)); exact (Kd.V_mono (Kd.V_far (p := ⟨gb118, 2, none⟩) (Kd.V_far (p := ⟨gb118, 1, none⟩) (Kd.V_far (p := ⟨gb118, 0, none⟩) (Kd.V_mono HO113.out (fun k_ hk => (⟨hk, hk.2⟩ : _ ∧ k_ ≠ gb118))) (fun _ hk => hk.2) (.bool t110)) (fun _ hk => hk.2) (.slice Ao49 t111.length co49)) (fun _ hk => hk.2) (.slice Ao50 t114.length co50)) (fun _ h_ => h_.1))) hb); have n1_ := Aside0.mk (Kd.V_below (by (with_reducible repeat (first | apply Kd.V_alloc | apply Kd.V_drewN | apply Kd.V_drew)); exact (Kd.V_mono (Kd.V_far (p := ⟨gb118, 2, none⟩) (Kd.V_far (p := ⟨gb118, 1, none⟩) (Kd.V_far (p := ⟨gb118, 0, none⟩) (Kd.V_mono HO116.out (fun k_ hk => (⟨hk, hk.2⟩ : _ ∧ k_ ≠ gb118))) (fun _ hk => hk.2) (.bool t110)) (fun _ hk => hk.2) (.slice Ao49 t111.length co49)) (fun _ hk => hk.2) (.slice Ao50 t114.length co50)) (fun _ h_ => h_.1))) hb); have n2_ := Aside0.mk (blk_below (g := gb118) (o := .cells #[.bool t110, .slice Ao49 t111.length co49, .slice Ao50 t114.length co50] 69 (0, 0)) (by (with_reducible repeat (first | refine blk_drewN ?_ _ | refine blk_drew ?_ | refine blk_alloc ?_ _)); refine blk_put (cs := #[.bool t110, .slice Ao49 t111.length co49, .slice none 0 0]) ?_ 2 _ rfl; (with_reducible repeat (first | refine blk_drewN ?_ _ | refine blk_drew ?_ | refine blk_alloc ?_ _)); refine blk_put (cs := #[.bool t110, .slice none 0 0, .slice none 0 0]) ?_ 1 _ rfl; (with_reducible repeat (first | refine blk_drewN ?_ _ | refine blk_drew ?_ | refine blk_alloc ?_ _)); refine blk_put (cs := #[.bool false, .slice none 0 0, .slice none 0 0]) ?_ 0 _ rfl; (with_reducible repeat (first | refine blk_drewN ?_ _ | refine blk_drew ?_ | refine blk_alloc ?_ _)); exact BK118.out) hb); have n3_ := Aside0.mk (below_step (by repeat (first | (with_reducible first | exact HB.out | apply below_alloc | apply pw_below_drewN | apply below_drew1 | refine below_set ?_ GE118.out) | exact HB.out)) hb); clear HO113; clear HO116; clear BK118; clear HB; have HO113 := n0_; have HO116 := n1_; have BK118 := n2_; have HB := n3_; clear n0_ n1_ n2_ n3_; (try clear hb); (try clear hb2); (try clear hk); (try clear hi)) | (go_at_call 74; (with_reducible refine (pattern_Next.calls k 0 t122 _ A23.out).mono ?_); rintro e w' ⟨rfl, ⟨nd, rfl⟩⟩) | (go_at_call 74; (with_reducible refine (pattern_Next.calls k 9223372036854775809 t123 _ A25.out).mono ?_); rintro e w' ⟨rfl, ⟨nd, rfl⟩⟩) | (go_at_call 76; (with_reducible refine (pattern_Prev.calls k 1 t124 _ A27.out).mono ?_); rintro e w' ⟨rfl, ⟨nd, rfl⟩⟩) | (go_at_call 70; (with_reducible refine (pattern_Class.calls k t101 t125 _ A31.out).mono ?_); rintro e w' ⟨rfl, ⟨nd, rfl⟩⟩) | (go_at_call 62; (with_reducible refine (pattern_Less.calls k 0 t101 true _ A33.out).mono ?_); rintro e w' ⟨rfl, ⟨nd, rfl⟩⟩) | (go_at_call 79; (with_reducible refine (pattern_Neg.calls k t101 t127 _ A35.out).mono ?_); rintro e w' ⟨rfl, ⟨nd, rfl⟩⟩) | (go_at_call 80; (with_reducible refine (pattern_Abs.calls k (Go.bits .or .u64 t101 9223372036854775808) t128 _ A37.out).mono ?_); rintro e w' ⟨rfl, ⟨nd, rfl⟩⟩) | (go_at_call 78; (with_reducible refine (pattern_Inf.calls k true t129 _ A39.out).mono ?_); rintro e w' ⟨rfl, ⟨nd, rfl⟩⟩) | (go_at_call 83; (with_reducible refine (pattern_Quiet.calls  t130 _ A41.out).mono ?_); rintro e w' ⟨rfl, ⟨nd, rfl⟩⟩) | ((with_reducible refine gate_dst (N := 131) rfl ?_); (try (refine gate_guard (by rfl) ?_; dsimp only)); refine Kd.R_lit (Kd.int .u64) _ 74 ?hg (N := 131) ?hd (xs := ([0, t101] : List Int)) (inner := [.int .u64 0, .int .u64 t101]) (ok := fun _ => True) (okp := fun _ => True) ?hr ?hp (fun _ hk => hk) trivial (Below.refl _ _) (Nat.le_refl _) (by simp) ?_; (case hd => rfl); (case hg => rfl); (case hr => first | (go_simp; done) | (go_simp; rfl)); (case hp => exact (Reps.one (show Kd.M (Kd.int .u64) _ _ _ 0 [.int .u64 0] from rfl) (Reps.one (show Kd.M (Kd.int .u64) _ _ _ t101 [.int .u64 t101] from rfl) (Reps.none _ _)))); intro v132 w52 ho53 hb hg_ hnew_; clear hg_ hnew_; (first | rw [← Ny131.out] at ho53 | (simp only [Int.reduceToNat] at ho53; rw [← Ny131.out] at ho53)); have n0_ := Aside0.mk (Kd.V_elder' (by (with_reducible repeat (first | apply Kd.V_alloc | apply Kd.V_drewN | apply Kd.V_drew)); exact HO113.out) (Kd.R_base ho53) hb); have n1_ := Aside0.mk (Kd.V_elder' (by (with_reducible repeat (first | apply Kd.V_alloc | apply Kd.V_drewN | apply Kd.V_drew)); exact HO116.out) (Kd.R_base ho53) hb); have n2_ := Aside0.mk (Kd.R_lower ho53 (below_size (by repeat (first | (with_reducible first | exact HB.out | apply below_alloc | apply pw_below_drewN | apply below_drew1 | refine below_set ?_ GE118.out) | exact HB.out)))); have n3_ := Aside0.mk (blk_below (g := gb118) (o := .cells #[.bool t110, .slice Ao49 t111.length co49, .slice Ao50 t114.length co50] 69 (0, 0)) (by (with_reducible repeat (first | refine blk_drewN ?_ _ | refine blk_drew ?_ | refine blk_alloc ?_ _)); exact BK118.out) hb); have n4_ := Aside0.mk (below_step (by repeat (first | (with_reducible first | exact HB.out | apply below_alloc | apply pw_below_drewN | apply below_drew1 | refine below_set ?_ GE118.out) | exact HB.out)) hb); clear HO113; clear HO116; clear BK118; clear HB; have HO113 := n0_; have HO116 := n1_; have HO133 := n2_; have BK118 := n3_; have HB := n4_; clear n0_ n1_ n2_ n3_ n4_; clear hb ho53; obtain ⟨Ao54, co54, eo54⟩ := Kd.R_slice HO133.out; subst eo54) | (go_at_call 81; (with_reducible refine (pattern_Max.calls k _ _ y131 t134 _ ?side1 ?side2 A43.out).mono ?_); (case side1 => repeat (first | exact (Kd.R_reads' HO133.out).2.2 | (with_reducible refine Kd.C_alloc ?_ _) | (with_reducible refine Kd.C_drewN ?_ _) | (with_reducible refine Kd.C_drew ?_))); (case side2 => exact (Kd.R_reads' HO133.out).2.1); rintro e w' ⟨rfl, ⟨nd, rfl⟩⟩) | ((with_reducible refine gate_dst (N := 138) rfl ?_); (try (refine gate_guard (by rfl) ?_; dsimp only)); refine Kd.R_lit (Kd.int .u64) _ 74 ?hg (N := 138) ?hd (xs := ([0, t101] : List Int)) (inner := [.int .u64 0, .int .u64 t101]) (ok := fun _ => True) (okp := fun _ => True) ?hr ?hp (fun _ hk => hk) trivial (Below.refl _ _) (Nat.le_refl _) (by simp) ?_; (case hd => rfl); (case hg => rfl); (case hr => first | (go_simp; done) | (go_simp; rfl)); (case hp => exact (Reps.one (show Kd.M (Kd.int .u64) _ _ _ 0 [.int .u64 0] from rfl) (Reps.one (show Kd.M (Kd.int .u64) _ _ _ t101 [.int .u64 t101] from rfl) (Reps.none _ _)))); intro v136 w55 ho56 hb hg_ hnew_; clear hg_ hnew_; (first | rw [← Ny135.out] at ho56 | (simp only [Int.reduceToNat] at ho56; rw [← Ny135.out] at ho56)); have n0_ := Aside0.mk (Kd.V_elder' (by (with_reducible repeat (first | apply Kd.V_alloc | apply Kd.V_drewN | apply Kd.V_drew)); exact HO113.out) (Kd.R_base ho56) hb); have n1_ := Aside0.mk (Kd.V_elder' (by (with_reducible repeat (first | apply Kd.V_alloc | apply Kd.V_drewN | apply Kd.V_drew)); exact HO116.out) (Kd.R_base ho56) hb); have n2_ := Aside0.mk (Kd.R_elder' (by (with_reducible repeat (first | apply Kd.R_alloc | apply Kd.R_drewN | apply Kd.R_drew)); exact HO133.out) (Kd.R_base ho56) hb); have n3_ := Aside0.mk (Kd.R_lower (Kd.R_new' ho56 (Kd.R_lt (by (with_reducible repeat (first | apply Kd.R_alloc | apply Kd.R_drewN | apply Kd.R_drew)); exact HO133.out))) (below_size (by repeat (first | (with_reducible first | exact HB.out | apply below_alloc | apply pw_below_drewN | apply below_drew1 | refine below_set ?_ GE118.out) | exact HB.out)))); have n4_ := Aside0.mk (blk_below (g := gb118) (o := .cells #[.bool t110, .slice Ao49 t111.length co49, .slice Ao50 t114.length co50] 69 (0, 0)) (by (with_reducible repeat (first | refine blk_drewN ?_ _ | refine blk_drew ?_ | refine blk_alloc ?_ _)); exact BK118.out) hb); have n5_ := Aside0.mk (below_step (by repeat (first | (with_reducible first | exact HB.out | apply below_alloc | apply pw_below_drewN | apply below_drew1 | refine below_set ?_ GE118.out) | exact HB.out)) hb); clear HO113; clear HO116; clear HO133; clear BK118; clear HB; have HO113 := n0_; have HO116 := n1_; have HO133 := n2_; have HO137 := n3_; have BK118 := n4_; have HB := n5_; clear n0_ n1_ n2_ n3_ n4_ n5_; clear hb ho56; obtain ⟨Ao57, co57, eo57⟩ := Kd.R_slice HO137.out; subst eo57) | (go_at_call 82; (with_reducible refine (pattern_Min.calls k _ _ y135 t138 _ ?side1 ?side2 A45.out).mono ?_); (case side1 => repeat (first | exact (Kd.R_reads' HO137.out).2.2 | (with_reducible refine Kd.C_alloc ?_ _) | (with_reducible refine Kd.C_drewN ?_ _) | (with_reducible refine Kd.C_drew ?_))); (case side2 => exact (Kd.R_reads' HO137.out).2.1); rintro e w' ⟨rfl, ⟨nd, rfl⟩⟩))
                       go_ret
                       exact ⟨by first | rfl | (simp [errW_none, errW_some] <;> rfl) | (simp [*, errW_none, errW_some] <;> rfl), by repeat (first | (with_reducible first | exact HB.out | apply below_alloc | apply pw_below_drewN | apply below_drew1 | refine below_set ?_ GE118.out) | exact HB.out)⟩
                      ·rw [if_neg c44] at H
                       have c44b0 : (t134 == t101) = false := beq_eq_false_iff_ne.mpr c44
                       have c44b1 : (t134 != t101) = true := bne_iff_ne.mpr c44
                       exact absurd H (by simp)
                     ·rw [if_neg c42] at H
                      have c42b0 : (t130 == 9221120237041090560) = false := beq_eq_false_iff_ne.mpr c42
                      have c42b1 : (t130 != 9221120237041090560) = true := bne_iff_ne.mpr c42
                      exact absurd H (by simp)
                    ·rw [if_neg c40] at H
                     have c40b0 : (t129 == 18442240474082181120) = false := beq_eq_false_iff_ne.mpr c40
                     have c40b1 : (t129 != 18442240474082181120) = true := bne_iff_ne.mpr c40
                     exact absurd H (by simp)
                   ·rw [if_neg c38] at H
                    have c38b0 : (t128 == t101) = false := beq_eq_false_iff_ne.mpr c38
                    have c38b1 : (t128 != t101) = true := bne_iff_ne.mpr c38
                    exact absurd H (by simp)
                  ·rw [if_neg c36] at H
                   have c36b0 : (t127 == (Go.bits .or .u64 t101 9223372036854775808)) = false := beq_eq_false_iff_ne.mpr c36
                   have c36b1 : (t127 != (Go.bits .or .u64 t101 9223372036854775808)) = true := bne_iff_ne.mpr c36
                   exact absurd H (by simp)
                 ·replace c34 := Bool.eq_false_iff.mpr c34
                  subst c34
                  have H1 : (some false) = some true := by rw [if_neg (show ¬ (false = true) by decide)] at H; first | done | exact H
                  clear H
                  have H := H1
                  clear H1
                  exact absurd H (by simp)
                ·rw [if_neg c32] at H
                 have c32b0 : (t125 == 2) = false := beq_eq_false_iff_ne.mpr c32
                 have c32b1 : (t125 != 2) = true := bne_iff_ne.mpr c32
                 exact absurd H (by simp)
               ·replace c30 := Bool.eq_false_iff.mpr c30
                subst c30
                have H1 : (some false) = some true := by rw [if_neg (show ¬ (false = true) by decide)] at H; first | done | exact H
                clear H
                have H := H1
                clear H1
                exact absurd H (by simp)
              ·rw [if_neg c29] at H
               have c29b0 : (t119 == 0) = false := beq_eq_false_iff_ne.mpr c29
               have c29b1 : (t119 != 0) = true := bne_iff_ne.mpr c29
               exact absurd H (by simp)
             ·rw [if_neg c28] at H
              have c28b0 : (t124 == 0) = false := beq_eq_false_iff_ne.mpr c28
              have c28b1 : (t124 != 0) = true := bne_iff_ne.mpr c28
              exact absurd H (by simp)
            ·rw [if_neg c26] at H
             have c26b0 : (t123 == 9223372036854775808) = false := beq_eq_false_iff_ne.mpr c26
             have c26b1 : (t123 != 9223372036854775808) = true := bne_iff_ne.mpr c26
             exact absurd H (by simp)
           ·rw [if_neg c24] at H
            have c24b0 : (t122 == 1) = false := beq_eq_false_iff_ne.mpr c24
            have c24b1 : (t122 != 1) = true := bne_iff_ne.mpr c24
            exact absurd H (by simp)
          ·replace c22 := Bool.eq_false_iff.mpr c22
           subst c22
           have H1 : (some false) = some true := by rw [if_neg (show ¬ (false = true) by decide)] at H; first | done | exact H
           clear H
           have H := H1
           clear H1
           exact absurd H (by simp)
         ·rw [if_neg c21] at H
          have c21b0 : (t121.toList == ([45, 51, 47, 52] : List UInt8)) = false := beq_eq_false_iff_ne.mpr c21
          have c21b1 : (t121.toList != ([45, 51, 47, 52] : List UInt8)) = true := bne_iff_ne.mpr c21
          exact absurd H (by simp)
        ·rw [if_neg c19] at H
         have c19b0 : (t109 == (-52)) = false := beq_eq_false_iff_ne.mpr c19
         have c19b1 : (t109 != (-52)) = true := bne_iff_ne.mpr c19
         exact absurd H (by simp)
       ·rw [if_neg c18] at H
        have c18b0 : (t108 == 4503599627370496) = false := beq_eq_false_iff_ne.mpr c18
        have c18b1 : (t108 != 4503599627370496) = true := bne_iff_ne.mpr c18
        exact absurd H (by simp)
      ·rw [if_neg c17] at H
       have c17b0 : (t107 == 0) = false := beq_eq_false_iff_ne.mpr c17
       have c17b1 : (t107 != 0) = true := bne_iff_ne.mpr c17
       exact absurd H (by simp)
     ·rw [if_neg c16] at H
      have c16b0 : (t106 == 1023) = false := beq_eq_false_iff_ne.mpr c16
      have c16b1 : (t106 != 1023) = true := bne_iff_ne.mpr c16
      exact absurd H (by simp)
   ·rw [if_neg c9] at H
    have c9b0 : (t104 == 1) = false := beq_eq_false_iff_ne.mpr c9
    have c9b1 : (t104 != 1) = true := bne_iff_ne.mpr c9
    exact absurd H (by simp)
  ·rw [if_neg c8] at H
   have c8b0 : (t102 == 0) = false := beq_eq_false_iff_ne.mpr c8
   have c8b1 : (t102 != 0) = true := bne_iff_ne.mpr c8
   exact absurd H (by simp)
 ·rw [if_neg c7] at H
  have c7b0 : (t101 == 4607182418800017408) = false := beq_eq_false_iff_ne.mpr c7
  have c7b1 : (t101 != 4607182418800017408) = true := bne_iff_ne.mpr c7
  exact absurd H (by simp)
def flyballlaw04_works.f (k : Nat) : Option (Bool) := if flyballlaw04_worksg.f k = some true then some true else none
theorem flyballlaw04_works.mono : ∀ k, LeO (flyballlaw04_works.f k) (flyballlaw04_works.f (k + 1)) := by
 intro k r h
 unfold flyballlaw04_works.f at h ⊢
 by_cases hg : flyballlaw04_worksg.f k = some true
 ·rw [if_pos hg] at h
  rw [if_pos (flyballlaw04_worksg.mono k true hg)]
  exact h
 ·rw [if_neg hg] at h; cases h
theorem flyballlaw04_works.calls (k : Nat) (r : Bool) (w : World) (h : flyballlaw04_works.f k = some r) :
  Calls Try.prog 59 #[] w fun e w' => e = .returned (.bool r) ∧ Below w.heap.size w w' := by
 unfold flyballlaw04_works.f at h
 by_cases hg : flyballlaw04_worksg.f k = some true
 ·rw [if_pos hg] at h
  obtain rfl := Option.some.inj h
  exact flyballlaw04_worksg.calls k w hg
 ·rw [if_neg hg] at h; cases h
end Go.Proofs.Ytagbnkbhobmgjaa.Fn
end
section
-- Written by a program of this session (a turned copy of the kit's printer, and hand-written parts). Not trusted: Lean checks it.
namespace Go.Proofs.Ytagbnkbhobmgjaa.Fn
open Go.RowKit Go.Proofs.YtagbnkbhobmgjaaW.PrintWords Go.Proofs.YtagbnkbhobmgjaaW.PrintLast Go.Proofs.YtagbnkbhobmgjaaW.PrintMore
attribute [local go_sem] max2_int min2_int max_two min_two max_three min_three max_four min_four   -- for this text's walks alone
set_option linter.unusedVariables false
set_option linter.unusedSimpArgs false
/-! ### ratio_R_Cmp: function 58 -/
end Go.Proofs.Ytagbnkbhobmgjaa.Fn
end
section
/- The chapter's own trial of the floats' patterns. -/
set_option linter.unusedVariables false
namespace Go.Proofs.Ytagbnkbhobmgjaa.Pure
open Go.RowKit Go.Proofs.Ytagbnkbhobmgjaa.Fn Go.Proofs.YtagbnkbhobmgjaaW.PrintWords Go.Proofs.YtagbnkbhobmgjaaW.PrintMore Go.Proofs.YtagbnkbhobmgjaaW.PrintLast
set_option maxRecDepth 100000 in
theorem worksg04 : flyballlaw04_worksg.f 2000 = some true := by decide +kernel
theorem works04_spec : Ev (fun k => flyballlaw04_works.f k) true := by
  refine Ev.of flyballlaw04_works.mono (k := 2000) ?_
  unfold flyballlaw04_works.f
  rw [if_pos worksg04]
end Go.Proofs.Ytagbnkbhobmgjaa.Pure
end
