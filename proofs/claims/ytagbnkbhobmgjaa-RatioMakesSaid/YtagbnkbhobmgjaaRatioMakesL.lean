/- Rational numbers are made in lowest terms, as the document says: of two naturals, of an integer, of an integer times a power of two. Part 12 of 19. -/
import Derived.Test.YtagbnkbhobmgjaaRatioMakesE
import Derived.Test.YtagbnkbhobmgjaaRatioMakesH
import Derived.Test.YtagbnkbhobmgjaaRatioMakesK
import Derived.Test.YtagbnkbhobmgjaaRatioMakesJ
section
namespace Go.Proofs.Ytagbnkbhobmgjaa.Fn
open Go.RowKit Go.Proofs.YtagbnkbhobmgjaaW.PrintWords Go.Proofs.YtagbnkbhobmgjaaW.PrintLast Go.Proofs.YtagbnkbhobmgjaaW.PrintMore
attribute [local go_sem] max2_int min2_int max_two min_two max_three min_three max_four min_four   -- for this text's walks alone
set_option linter.unusedVariables false
set_option linter.unusedSimpArgs false
def ratio_R_Text.j0 : Nat → ByteArray → Bool → List Int → List Int → Option (ByteArray)
 | 0, _, _, _, _ => none
 | k + 1, x3, x102000, x102001, x102002 => (nat_New.f k 1).bind fun t110 => ((nat_Nat_Cmp.f k x102002 t110).bind fun t113 => (if t113 = 0 then (some x3) else ((nat_Nat_Text.f k x102002).bind fun t114 => (if 1 + t114.size ≤ 9223372036854775807 then (if x3.size + ((⟨#[47]⟩ : ByteArray) ++ t114).size ≤ 9223372036854775807 then (some (x3 ++ ((⟨#[47]⟩ : ByteArray) ++ t114))) else (none)) else (none)))))
def ratio_R_Text.f (k : Nat) (a0_0 : Bool) (l0_1 : List Int) (l0_2 : List Int) : Option (ByteArray) := (ratio_R_low.f k a0_0 l0_1 l0_2).bind fun bt102 => ((nat_Nat_Text.f k bt102.2.1).bind fun t109 => (if bt102.1 = true then (if 1 + t109.size ≤ 9223372036854775807 then (ratio_R_Text.j0 k ((⟨#[45]⟩ : ByteArray) ++ t109) bt102.1 bt102.2.1 bt102.2.2) else (none)) else (ratio_R_Text.j0 k t109 bt102.1 bt102.2.1 bt102.2.2)))
theorem ratio_R_Text.mono_l : ∀ k, (∀ y0 y1 y2 y3, LeO (ratio_R_Text.j0 k y0 y1 y2 y3) (ratio_R_Text.j0 (k + 1) y0 y1 y2 y3))
 | 0 => fun _ _ _ _ r h => by simp [ratio_R_Text.j0] at h
 | k + 1 => by
  have ih0 := ratio_R_Text.mono_l k
  ·intro y0 y1 y2 y3
   unfold ratio_R_Text.j0
   repeat' with_reducible first | exact ih0 _ _ _ _ | exact nat_Nat_Cmp.mono _ _ _ | exact nat_Nat_Text.mono _ _ | exact nat_New.mono _ _ | exact ratio_R_low.mono _ _ _ _ | exact LeO.refl _ | exact LeO.none _ | refine LeO.ite ?_ ?_ | refine LeO.bind ?_ (fun _ => ?_)
theorem ratio_R_Text.mono : ∀ a0 a1 a2 k, LeO (ratio_R_Text.f k a0 a1 a2) (ratio_R_Text.f (k + 1) a0 a1 a2) := by
 intro a0 a1 a2 k
 have ih0 := ratio_R_Text.mono_l k
 unfold ratio_R_Text.f
 repeat' with_reducible first | exact ih0 _ _ _ _ | exact nat_Nat_Cmp.mono _ _ _ | exact nat_Nat_Text.mono _ _ | exact nat_New.mono _ _ | exact ratio_R_low.mono _ _ _ _ | exact LeO.refl _ | exact LeO.none _ | refine LeO.ite ?_ ?_ | refine LeO.bind ?_ (fun _ => ?_)
set_option maxHeartbeats 8000000 in
set_option maxRecDepth 100000 in
theorem ratio_R_Text.calls (k : Nat) (a0_0 : Bool) (A0_1 : Option Addr) (c0_1 : Nat) (l0_1 : List Int) (A0_2 : Option Addr) (c0_2 : Nat) (l0_2 : List Int) (r : ByteArray) (w : World) (hr0_1 : Kd.C (Kd.int .u32) w A0_1 l0_1.length l0_1) (hc0_1 : l0_1.length ≤ c0_1) (hr0_2 : Kd.C (Kd.int .u32) w A0_2 l0_2.length l0_2) (hc0_2 : l0_2.length ≤ c0_2) (H : ratio_R_Text.f k a0_0 l0_1 l0_2 = some r) :
  Calls Try.prog 100 #[.agg #[.bool a0_0, .slice A0_1 l0_1.length c0_1, .slice A0_2 l0_2.length c0_2]] w fun e w' => e = .returned (.string r) ∧ Below w.heap.size w w' := by
 have hu69 := Try.underlying69
 have HR0_1 := Aside0.mk hr0_1
 have HC0_1 := Aside0.mk hc0_1
 clear hr0_1 hc0_1
 have HR0_2 := Aside0.mk hr0_2
 have HC0_2 := Aside0.mk hc0_2
 clear hr0_2 hc0_2
 have HB := Aside0.mk (Below.refl w.heap.size w)
 unfold ratio_R_Text.f at H
 replace H := bi H
 obtain ⟨⟨t102, t103, t106⟩, A2, H⟩ := H
 try dsimp only at H
 replace H := bi H
 obtain ⟨t109, A3, H⟩ := H
 have HC4 := Aside0.mk H
 clear H
 go_enter Try.func100, Try.ntmps100
 go_upto_if 10 with (first | ((with_reducible refine gd 1 rfl ?_); refine bx 1 #[.bool a0_0, .slice A0_1 l0_1.length c0_1, .slice A0_2 l0_2.length c0_2] ?_; intro gb101 hg w5 hbox hb; have BK101 := Aside0.mk hbox; have GW101 := gB hg HB; have GE101 := gB hg HB; replace HB := bA HB hb; clear hb hbox hg; obtain ⟨⟨hcz6_0, hcz6_1, hcz6_2⟩, hfz6_0, hfz6_1, hfz6_2⟩ := cE BK101) | ((with_reducible refine gc 119 rfl ?_); refine gL 5 Try.func119 #[.agg #[.bool a0_0, .slice A0_1 l0_1.length c0_1, .slice A0_2 l0_2.length c0_2]] ?_; (with_reducible refine (ratio_R_low.calls k a0_0 (fun k_ => k_ < w.heap.size) _ _ l0_1 (fun k_ => k_ < w.heap.size) _ _ l0_2 t102 t103 t106 _ ?_ ?_ A2.out).mono ?_); exact Kd.V_mk HC0_1.out (Kd.F_below (Kd.C_F (Kd.heap_int .u32) HR0_1.out) hB); exact Kd.V_mk HC0_2.out (Kd.F_below (Kd.C_F (Kd.heap_int .u32) HR0_2.out) hB); rintro e w7 ⟨v104, v107, rfl, ho0, ho1, hb⟩; refine ⟨_, rfl, ?_⟩; have HO105 := lw HB (fun k_ => k_ ≠ gb101) ho0 (fun k_ hk_ => Or.elim hk_ (fun hs_ => Or.elim hs_ (fun hs_ => gw hs_ GW101) (fun hs_ => gw hs_ GW101)) (fun hn_ => kF BK101 hn_)); have HO108 := lw HB (fun k_ => k_ ≠ gb101) ho1 (fun k_ hk_ => Or.elim hk_ (fun hs_ => Or.elim hs_ (fun hs_ => gw hs_ GW101) (fun hs_ => gw hs_ GW101)) (fun hn_ => kF BK101 hn_)); replace BK101 := kA BK101 hb; replace HB := bS HB hb; clear hb ho0 ho1; obtain ⟨⟨hcz8_0, hcz8_1, hcz8_2⟩, hfz8_0, hfz8_1, hfz8_2⟩ := cE BK101; obtain ⟨Ao9, co9, eo9⟩ := Kd.V_slice HO105.out; subst eo9; obtain ⟨Ao10, co10, eo10⟩ := Kd.V_slice HO108.out; subst eo10) | ((with_reducible refine gc 46 rfl ?_); refine gL 8 Try.func46 #[.slice Ao9 t103.length co9] ?_; (with_reducible refine (nat_Nat_Text.calls k _ _ t103 t109 _ ?_ ?_ A3.out).mono ?_); (refine (Kd.V_reads' (e := 118) (base := w.heap.size) (ok := fun k_ => k_ ≠ gb101) (n := t103.length) (c := co9) ?_).2.2; exact (vG (v3p HO105 (fun _ hk => hk)) (fun _ h_ => h_.1))); exact (Kd.V_reads' HO105.out).2.1; rintro e w11 ⟨rfl, hb⟩; refine ⟨_, rfl, ?_⟩; replace HO105 := vF hb (v3p HO105 (fun _ hk => hk)) (fun _ h_ => h_.1); replace HO108 := vF hb (v3p HO108 (fun _ hk => hk)) (fun _ h_ => h_.1); replace BK101 := kB (p3 BK101) hb; replace HB := bS HB hb; clear hb; obtain ⟨⟨hcz12_0, hcz12_1, hcz12_2⟩, hfz12_0, hfz12_1, hfz12_2⟩ := cE BK101))
 (try simp only [Act.put, List.setIfInBounds_toArray, List.set_cons_zero, List.set_cons_succ])
 go_cut [3] (fun v3 wc => ∃ (kq : Nat) (x3_3 : ByteArray), v3 = .string x3_3 ∧ Aside0 (ratio_R_Text.j0 kq x3_3 t102 t103 t106 = some r) ∧ Aside0 (kq ≤ k) ∧ Aside0 (Kd.V (Kd.int .u32) 118 wc w.heap.size (fun k_ => k_ ≠ gb101) (.slice Ao9 t103.length co9) t103) ∧ Aside0 (Kd.V (Kd.int .u32) 118 wc w.heap.size (fun k_ => k_ ≠ gb101) (.slice Ao10 t106.length co10) t106) ∧ Aside0 (wc.heap[gb101]? = some (.cells #[.bool t102, (.slice Ao9 t103.length co9), (.slice Ao10 t106.length co10)] 69 (0, 0))) ∧ Aside0 (Below w.heap.size w wc))
 case first =>
  have H := HC4.out
  clear HC4
  by_cases c13 : t102 = true
  ·subst c13
   replace H := ifT H
   replace H := iS H
   obtain ⟨c14, H⟩ := H
   have c14b0 := eq_true c14
   have c14b1 : decide (1 + t109.size ≤ 9223372036854775807) = true := decide_eq_true c14
   try have c14b2 : (9223372036854775807 < 1 + t109.size) = False := eq_false (Nat.not_lt.2 c14)
   have H' := Aside0.mk H
   clear H
   go_wp2
   go_meet
   case rel => exact ⟨_, ((⟨#[45]⟩ : ByteArray) ++ t109), rS, H', ⟨by first | omega | exact Nat.le_refl _⟩, ⟨vup HO105.out⟩, ⟨vup HO108.out⟩, ⟨by exact kU BK101⟩, ⟨hB⟩⟩
  ·replace c13 := Bool.eq_false_iff.mpr c13
   subst c13
   have H1 : (ratio_R_Text.j0 k t109 false t103 t106) = some r := by rw [if_neg (show ¬ (false = true) by decide)] at H; exact H
   clear H
   have H := H1
   clear H1
   have H' := Aside0.mk H
   clear H
   go_wp2
   go_meet
   case rel => exact ⟨_, (t109), rS, H', ⟨by first | omega | exact Nat.le_refl _⟩, ⟨vup HO105.out⟩, ⟨vup HO108.out⟩, ⟨by exact kU BK101⟩, ⟨hB⟩⟩
 case rest =>
  clear HC4
  try clear c1
  try clear p2
  try clear c4
  try clear c10
  try clear c11
  try clear c13
  try clear c14
  try clear c14b0
  try clear c14b1
  try clear c14b2
  try clear hcz12_0
  try clear hcz12_1
  try clear hcz12_2
  try clear hcz6_0
  try clear hcz6_1
  try clear hcz6_2
  try clear hcz8_0
  try clear hcz8_1
  try clear hcz8_2
  try clear hfz12_0
  try clear hfz12_1
  try clear hfz12_2
  try clear hfz6_0
  try clear hfz6_1
  try clear hfz6_2
  try clear hfz8_0
  try clear hfz8_1
  try clear hfz8_2
  obtain ⟨kq, x3_3, rfl, HA, HJ3, HO_102001, HO_102002, BK101, HB⟩ := hcut
  cases kq with
  | zero => exact absurd HA.out (by simp [ratio_R_Text.j0])
  | succ kj3 =>
   have H := HA.out
   clear HA
   simp only [ratio_R_Text.j0] at H
   replace H := bi H
   obtain ⟨t110, A15, H⟩ := H
   replace H := bi H
   obtain ⟨t113, A16, H⟩ := H
   by_cases c17 : t113 = 0
   ·rw [if_pos c17] at H
    obtain ⟨c17b0, c17b1⟩ := bqT c17
    clear c17
    obtain rfl := Option.some.inj H
    try go_wp2
    replace HO_102001 := Aside0.mk (Kd.V_drew HO_102001.out)
    replace HO_102002 := Aside0.mk (Kd.V_drew HO_102002.out)
    replace BK101 := kd BK101
    replace HB := bd HB
    refine st (S := fun w' => B3 w' gb101 (.bool t102) (.slice Ao9 t103.length co9) (.slice Ao10 t106.length co10)) 5 [] (tf 0 5) (b3 BK101) (fun hHeld => ?_)
    generalize wc.drew = w18 at HO_102001 HO_102002 BK101 HB hHeld ⊢
    refine pu 0 13 (tf 1 4) ?_
    refine tk 1 14 (tf 2 3) hHeld ?_
    refine on 2 (some 15) (tf 3 2) (fun K hK => ?_)
    refine gS Try.func52 #[.int .u64 1] ?_
    with_reducible refine (nat_New.calls kj3 1 t110 _ A15.out).mono ?_
    rintro e w19 ⟨v111, rfl, ho0, hb⟩
    refine ⟨_, rfl, ?_⟩
    replace HO_102001 := vA HO_102001 hb
    replace HO_102002 := vA HO_102002 hb
    have HO112 := lw HB (fun k_ => k_ ≠ gb101) ho0 (fun k_ hk_ => (kF BK101 hk_))
    replace BK101 := kA BK101 hb
    replace HB := bS HB hb
    clear hb ho0
    obtain ⟨Ao20, co20, eo20⟩ := Kd.V_slice HO112.out
    (first | subst eo20 | (injection eo20 with f1_ f2_ f3_; have f4_ := f1_.symm; have f5_ := f3_.symm; clear f1_ f2_ f3_; subst f4_; subst f5_))
    refine hK.out _ _ (b3 BK101) (fun hHeld => nm ?_)
    clear hK K
    refine on 3 (some 16) (tf 4 1) (fun K hK => ?_)
    refine gS Try.func33 #[.slice Ao10 t106.length co10, .slice Ao20 t110.length co20] ?_
    with_reducible refine (nat_Nat_Cmp.calls kj3 _ _ t106 _ _ t110 t113 _ ?_ ?_ ?_ ?_ A16.out).mono ?_
    exact cup ((Kd.V_reads' HO_102002.out).2.2)
    exact (Kd.V_reads' HO_102002.out).2.1
    exact cup ((Kd.V_reads' HO112.out).2.2)
    exact (Kd.V_reads' HO112.out).2.1
    rintro e w21 ⟨rfl, hb⟩
    refine ⟨_, rfl, ?_⟩
    replace HO_102001 := vA HO_102001 hb
    replace HO_102002 := vA HO_102002 hb
    replace HO112 := vA HO112 hb
    replace BK101 := kA BK101 hb
    replace HB := bS HB hb
    clear hb
    refine hK.out _ _ (b3 BK101) (fun hHeld => nm ?_)
    clear hK K
    refine pu 4 17 (tf 5 0) ?_
    refine done_ (by kernel_rfl) ?_
    try go_wp2
    go_ret
    exact ⟨er, hB⟩
   rw [if_neg c17] at H
   obtain ⟨c17b0, c17b1⟩ := bqF c17
   replace H := bi H
   obtain ⟨t114, A22, H⟩ := H
   replace H := iS H
   obtain ⟨c23, H⟩ := H
   have c23b0 := eq_true c23
   have c23b1 : decide (1 + t114.size ≤ 9223372036854775807) = true := decide_eq_true c23
   try have c23b2 : (9223372036854775807 < 1 + t114.size) = False := eq_false (Nat.not_lt.2 c23)
   replace H := iS H
   obtain ⟨c24, H⟩ := H
   have c24b0 := eq_true c24
   have c24b1 : decide (x3_3.size + ((⟨#[47]⟩ : ByteArray) ++ t114).size ≤ 9223372036854775807) = true := decide_eq_true c24
   try have c24b2 : (9223372036854775807 < x3_3.size + ((⟨#[47]⟩ : ByteArray) ++ t114).size) = False := eq_false (Nat.not_lt.2 c24)
   obtain rfl := Option.some.inj H
   try go_wp2
   replace HO_102001 := Aside0.mk (Kd.V_drew HO_102001.out)
   replace HO_102002 := Aside0.mk (Kd.V_drew HO_102002.out)
   replace BK101 := kd BK101
   replace HB := bd HB
   refine st (S := fun w' => B3 w' gb101 (.bool t102) (.slice Ao9 t103.length co9) (.slice Ao10 t106.length co10)) 5 [] (tf 0 5) (b3 BK101) (fun hHeld => ?_)
   generalize wc.drew = w25 at HO_102001 HO_102002 BK101 HB hHeld ⊢
   refine pu 0 13 (tf 1 4) ?_
   refine tk 1 14 (tf 2 3) hHeld ?_
   refine on 2 (some 15) (tf 3 2) (fun K hK => ?_)
   refine gS Try.func52 #[.int .u64 1] ?_
   with_reducible refine (nat_New.calls kj3 1 t110 _ A15.out).mono ?_
   rintro e w26 ⟨v111, rfl, ho0, hb⟩
   refine ⟨_, rfl, ?_⟩
   replace HO_102001 := vA HO_102001 hb
   replace HO_102002 := vA HO_102002 hb
   have HO112 := lw HB (fun k_ => k_ ≠ gb101) ho0 (fun k_ hk_ => (kF BK101 hk_))
   replace BK101 := kA BK101 hb
   replace HB := bS HB hb
   clear hb ho0
   obtain ⟨Ao27, co27, eo27⟩ := Kd.V_slice HO112.out
   (first | subst eo27 | (injection eo27 with f1_ f2_ f3_; have f4_ := f1_.symm; have f5_ := f3_.symm; clear f1_ f2_ f3_; subst f4_; subst f5_))
   refine hK.out _ _ (b3 BK101) (fun hHeld => nm ?_)
   clear hK K
   refine on 3 (some 16) (tf 4 1) (fun K hK => ?_)
   refine gS Try.func33 #[.slice Ao10 t106.length co10, .slice Ao27 t110.length co27] ?_
   with_reducible refine (nat_Nat_Cmp.calls kj3 _ _ t106 _ _ t110 t113 _ ?_ ?_ ?_ ?_ A16.out).mono ?_
   exact cup ((Kd.V_reads' HO_102002.out).2.2)
   exact (Kd.V_reads' HO_102002.out).2.1
   exact cup ((Kd.V_reads' HO112.out).2.2)
   exact (Kd.V_reads' HO112.out).2.1
   rintro e w28 ⟨rfl, hb⟩
   refine ⟨_, rfl, ?_⟩
   replace HO_102001 := vA HO_102001 hb
   replace HO_102002 := vA HO_102002 hb
   replace HO112 := vA HO112 hb
   replace BK101 := kA BK101 hb
   replace HB := bS HB hb
   clear hb
   refine hK.out _ _ (b3 BK101) (fun hHeld => nm ?_)
   clear hK K
   refine pu 4 17 (tf 5 0) ?_
   refine done_ (by kernel_rfl) ?_
   obtain ⟨⟨hcz29_0, hcz29_1, hcz29_2⟩, hfz29_0, hfz29_1, hfz29_2⟩ := cE BK101
   try go_wp2_with (first | ((with_reducible refine gc 46 rfl ?_); refine gL 21 Try.func46 #[.slice Ao10 t106.length co10] ?_; (with_reducible refine (nat_Nat_Text.calls kj3 _ _ t106 t114 _ ?_ ?_ A22.out).mono ?_); exact cup ((Kd.V_reads' HO_102002.out).2.2); exact (Kd.V_reads' HO_102002.out).2.1; rintro e w30 ⟨rfl, hb⟩; refine ⟨_, rfl, ?_⟩; replace HO_102001 := vA HO_102001 hb; replace HO_102002 := vA HO_102002 hb; replace HO112 := vA HO112 hb; replace BK101 := kA BK101 hb; replace HB := bS HB hb; clear hb))
   go_ret
   exact ⟨er, hB⟩
def ratio_Dyad.j0 : Nat → Bool → Int → Int → Bool → Option (Bool × List Int × List Int × Int)
 | 0, _, _, _, _ => none
 | k + 1, x0, x1, x2, x17 => if x17 = true then (some (false, ([] : List Int), ([] : List Int), 31)) else ((nat_New.f k x1).bind fun t102 => ((nat_Nat_Shl.f k t102 x2).bind fun bt105 => ((nat_New.f k 1).bind fun t109 => ((nat_Nat_Shl.f k t109 (wrap64 (-x2))).bind fun bt112 => ((ratio_low.f k x0 bt105.1 bt112.1).bind fun bt116 => (some (bt116.1, bt116.2.1, bt116.2.2, 0)))))))
def ratio_Dyad.f (k : Nat) (a0 : Bool) (a1 : Int) (a2 : Int) : Option (Bool × List Int × List Int × Int) := if a2 < (-8192) then (ratio_Dyad.j0 k a0 a1 a2 true) else (ratio_Dyad.j0 k a0 a1 a2 (decide (a2 > 8192)))
theorem ratio_Dyad.mono_l : ∀ k, (∀ y0 y1 y2 y3, LeO (ratio_Dyad.j0 k y0 y1 y2 y3) (ratio_Dyad.j0 (k + 1) y0 y1 y2 y3))
 | 0 => fun _ _ _ _ r h => by simp [ratio_Dyad.j0] at h
 | k + 1 => by
  have ih0 := ratio_Dyad.mono_l k
  ·intro y0 y1 y2 y3
   unfold ratio_Dyad.j0
   repeat' with_reducible first | exact ih0 _ _ _ _ | exact nat_Nat_Shl.mono _ _ _ | exact nat_New.mono _ _ | exact ratio_low.mono _ _ _ _ | exact LeO.refl _ | exact LeO.none _ | refine LeO.ite ?_ ?_ | refine LeO.bind ?_ (fun _ => ?_)
theorem ratio_Dyad.mono : ∀ a0 a1 a2 k, LeO (ratio_Dyad.f k a0 a1 a2) (ratio_Dyad.f (k + 1) a0 a1 a2) := by
 intro a0 a1 a2 k
 have ih0 := ratio_Dyad.mono_l k
 unfold ratio_Dyad.f
 repeat' with_reducible first | exact ih0 _ _ _ _ | exact nat_Nat_Shl.mono _ _ _ | exact nat_New.mono _ _ | exact ratio_low.mono _ _ _ _ | exact LeO.refl _ | exact LeO.none _ | refine LeO.ite ?_ ?_ | refine LeO.bind ?_ (fun _ => ?_)
set_option maxHeartbeats 8000000 in
set_option maxRecDepth 100000 in
theorem ratio_Dyad.calls (k : Nat) (a0 : Bool) (a1 : Int) (a2 : Int) (r1 : Bool) (r2 : List Int) (r3 : List Int) (r4 : Int) (w : World) (H : ratio_Dyad.f k a0 a1 a2 = some (r1, r2, r3, r4)) :
  Calls Try.prog 104 #[.bool a0, .int .u64 a1, .int .i64 a2] w fun e w' => ∃ v1_ v2_ : Value, e = .returned (.tuple #[.agg #[.bool r1, v1_, v2_], .int .i64 r4]) ∧ Kd.V (Kd.int .u32) 118 w' w.heap.size (fun k_ => (w.heap.size ≤ k_)) v1_ r2 ∧ Kd.V (Kd.int .u32) 118 w' w.heap.size (fun k_ => (w.heap.size ≤ k_)) v2_ r3 ∧ Below w.heap.size w w' := by
 have hu69 := Try.underlying69
 have HB := Aside0.mk (Below.refl w.heap.size w)
 unfold ratio_Dyad.f at H
 have HC4 := Aside0.mk H
 clear H
 go_enter Try.func104, Try.ntmps104
 go_upto_region 1 with (first | ((with_reducible refine gd 6 rfl ?_); refine bx 6 #[.bool false, .slice none 0 0, .slice none 0 0] ?_; intro gb101 hg w5 hbox hb; have BK101 := Aside0.mk hbox; have GW101 := gB hg HB; have GE101 := gB hg HB; replace HB := bA HB hb; clear hb hbox hg))
 (try simp only [Act.put, List.setIfInBounds_toArray, List.set_cons_zero, List.set_cons_succ])
 go_cut [17] (fun v17 wc => ∃ (kq : Nat) (x17_3 : Bool), v17 = .bool x17_3 ∧ Aside0 (ratio_Dyad.j0 kq a0 a1 a2 x17_3 = some (r1, r2, r3, r4)) ∧ Aside0 (kq ≤ k) ∧ Aside0 (wc.heap[gb101]? = some (.cells #[.bool false, (.slice none 0 0), (.slice none 0 0)] 69 (0, 0))) ∧ Aside0 (Below w.heap.size w wc))
 case first =>
  have H := HC4.out
  clear HC4
  by_cases c6 : a2 < (-8192)
  rotate_left
  ·rw [if_neg c6] at H
   have c6b0 : decide (a2 < (-8192)) = false := decide_eq_false c6
   clear c6
   (first | rw [c6b0] | (simp only [i64_w, i32_w]; rw [c6b0]) | skip)
   have H' := Aside0.mk H
   clear H
   go_wp2
   go_meet
   case rel => exact ⟨_, (decide (a2 > 8192)), rS, H', ⟨by first | omega | exact Nat.le_refl _⟩, ⟨by exact kU BK101⟩, ⟨hB⟩⟩
  rw [if_pos c6] at H
  have c6b0 : decide (a2 < (-8192)) = true := decide_eq_true c6
  clear c6
  (first | rw [c6b0] | (simp only [i64_w, i32_w]; rw [c6b0]) | skip)
  have H' := Aside0.mk H
  clear H
  go_wp2
  go_meet
  case rel => exact ⟨_, (true), rS, H', ⟨by first | omega | exact Nat.le_refl _⟩, ⟨by exact kU BK101⟩, ⟨hB⟩⟩
 case rest =>
  clear HC4
  try clear c1
  try clear p2
  try clear c6
  try clear c6b0
  obtain ⟨kq, x17_3, rfl, HA, HJ3, BK101, HB⟩ := hcut
  cases kq with
  | zero => exact absurd HA.out (by simp [ratio_Dyad.j0])
  | succ kj3 =>
   have H := HA.out
   clear HA
   simp only [ratio_Dyad.j0] at H
   by_cases c7 : x17_3 = true
   ·subst c7
    replace H := ifT H
    simp only [Option.some.injEq, Prod.mk.injEq] at H
    obtain ⟨rfl, rfl, rfl, rfl⟩ := H
    obtain ⟨⟨hcz8_0, hcz8_1, hcz8_2⟩, hfz8_0, hfz8_1, hfz8_2⟩ := cE BK101
    go_wp2
    refine bodyPost_ret (results_ct rfl _ _ gb101 69 #[.bool false, .slice none 0 0, .slice none 0 0] (0, 0) _ rfl (by exact kU (p3 BK101)) Try.underlying69 rfl (by kernel_rfl)) rfl ?_
    exact ⟨_, _, er, Kd.V_nil _ _ _ _ _, Kd.V_nil _ _ _ _ _, hB⟩
   ·replace c7 := Bool.eq_false_iff.mpr c7
    subst c7
    have H1 : ((nat_New.f kj3 a1).bind fun t102 => ((nat_Nat_Shl.f kj3 t102 a2).bind fun bt105 => ((nat_New.f kj3 1).bind fun t109 => ((nat_Nat_Shl.f kj3 t109 (wrap64 (-a2))).bind fun bt112 => ((ratio_low.f kj3 a0 bt105.1 bt112.1).bind fun bt116 => (some (bt116.1, bt116.2.1, bt116.2.2, 0))))))) = some (r1, r2, r3, r4) := by rw [if_neg (show ¬ (false = true) by decide)] at H; exact H
    clear H
    have H := H1
    clear H1
    replace H := bi H
    obtain ⟨t102, A9, H⟩ := H
    replace H := bi H
    obtain ⟨⟨t105, t108⟩, A10, H⟩ := H
    try dsimp only at H
    replace H := bi H
    obtain ⟨t109, A11, H⟩ := H
    replace H := bi H
    obtain ⟨⟨t112, t115⟩, A12, H⟩ := H
    try dsimp only at H
    replace H := bi H
    obtain ⟨⟨t116, t117, t120⟩, A13, H⟩ := H
    try dsimp only at H
    simp only [Option.some.injEq, Prod.mk.injEq] at H
    obtain ⟨rfl, rfl, rfl, rfl⟩ := H
    go_wp2_with (first | ((with_reducible refine gc 52 rfl ?_); refine gL 21 Try.func52 #[.int .u64 a1] ?_; (with_reducible refine (nat_New.calls kj3 a1 t102 _ A9.out).mono ?_); rintro e w14 ⟨v103, rfl, ho0, hb⟩; refine ⟨_, rfl, ?_⟩; have HO104 := lw HB (fun k_ => (w.heap.size ≤ k_) ∧ k_ ≠ gb101) ho0 (fun k_ hk_ => ⟨(Nat.le_trans (below_size hB) hk_), (kF BK101 hk_)⟩); replace BK101 := kA BK101 hb; replace HB := bS HB hb; clear hb ho0; obtain ⟨Ao15, co15, eo15⟩ := Kd.V_slice HO104.out; subst eo15) | ((with_reducible refine gc 44 rfl ?_); refine gL 23 Try.func44 #[.slice Ao15 t102.length co15, .int .i64 a2] ?_; (with_reducible refine (nat_Nat_Shl.calls kj3 _ _ t102 a2 t105 t108 _ ?_ ?_ A10.out).mono ?_); exact cup ((Kd.V_reads' HO104.out).2.2); exact (Kd.V_reads' HO104.out).2.1; rintro e w16 ⟨v106, rfl, ho0, hb⟩; refine ⟨_, rfl, ?_⟩; replace HO104 := vA HO104 hb; have HO107 := lw HB (fun k_ => (w.heap.size ≤ k_) ∧ k_ ≠ gb101) ho0 (fun k_ hk_ => ⟨(Nat.le_trans (below_size hB) hk_), (kF BK101 hk_)⟩); replace BK101 := kA BK101 hb; replace HB := bS HB hb; clear hb ho0) | ((with_reducible refine gc 52 rfl ?_); refine gL 27 Try.func52 #[.int .u64 1] ?_; (with_reducible refine (nat_New.calls kj3 1 t109 _ A11.out).mono ?_); rintro e w17 ⟨v110, rfl, ho0, hb⟩; refine ⟨_, rfl, ?_⟩; replace HO104 := vA HO104 hb; replace HO107 := vA HO107 hb; have HO111 := lw HB (fun k_ => (w.heap.size ≤ k_) ∧ k_ ≠ gb101) ho0 (fun k_ hk_ => ⟨(Nat.le_trans (below_size hB) hk_), (kF BK101 hk_)⟩); replace BK101 := kA BK101 hb; replace HB := bS HB hb; clear hb ho0; obtain ⟨Ao18, co18, eo18⟩ := Kd.V_slice HO111.out; subst eo18) | ((with_reducible refine gc 44 rfl ?_); refine gL 30 Try.func44 #[.slice Ao18 t109.length co18, .int .i64 (wrap64 (-a2))] ?_; (with_reducible refine (nat_Nat_Shl.calls kj3 _ _ t109 (wrap64 (-a2)) t112 t115 _ ?_ ?_ A12.out).mono ?_); exact cup ((Kd.V_reads' HO111.out).2.2); exact (Kd.V_reads' HO111.out).2.1; rintro e w19 ⟨v113, rfl, ho0, hb⟩; refine ⟨_, rfl, ?_⟩; replace HO104 := vA HO104 hb; replace HO107 := vA HO107 hb; replace HO111 := vA HO111 hb; have HO114 := lw HB (fun k_ => (w.heap.size ≤ k_) ∧ k_ ≠ gb101) ho0 (fun k_ hk_ => ⟨(Nat.le_trans (below_size hB) hk_), (kF BK101 hk_)⟩); replace BK101 := kA BK101 hb; replace HB := bS HB hb; clear hb ho0; obtain ⟨Ao20, co20, eo20⟩ := Kd.V_slice HO107.out; subst eo20; obtain ⟨Ao21, co21, eo21⟩ := Kd.V_slice HO114.out; subst eo21) | ((with_reducible refine gc 126 rfl ?_); refine gL 36 Try.func126 #[.bool a0, .slice Ao20 t105.length co20, .slice Ao21 t112.length co21] ?_; (with_reducible refine (ratio_low.calls kj3 a0 (fun k_ => ((w.heap.size ≤ k_) ∧ k_ ≠ gb101)) _ _ t105 (fun k_ => ((w.heap.size ≤ k_) ∧ k_ ≠ gb101)) _ _ t112 t116 t117 t120 _ ?_ ?_ A13.out).mono ?_); exact HO107.out; exact HO114.out; rintro e w22 ⟨v118, v121, rfl, ho0, ho1, hb⟩; refine ⟨_, rfl, ?_⟩; replace HO104 := vA HO104 hb; replace HO107 := vA HO107 hb; replace HO111 := vA HO111 hb; replace HO114 := vA HO114 hb; have HO119 := lw HB (fun k_ => (w.heap.size ≤ k_) ∧ k_ ≠ gb101) ho0 (fun k_ hk_ => Or.elim hk_ (fun hs_ => Or.elim hs_ id id) (fun hn_ => ⟨Nat.le_trans (below_size hB) hn_, kF BK101 hn_⟩)); have HO122 := lw HB (fun k_ => (w.heap.size ≤ k_) ∧ k_ ≠ gb101) ho1 (fun k_ hk_ => Or.elim hk_ (fun hs_ => Or.elim hs_ id id) (fun hn_ => ⟨Nat.le_trans (below_size hB) hn_, kF BK101 hn_⟩)); replace BK101 := kA BK101 hb; replace HB := bS HB hb; clear hb ho0 ho1; obtain ⟨⟨hcz23_0, hcz23_1, hcz23_2⟩, hfz23_0, hfz23_1, hfz23_2⟩ := cE BK101; obtain ⟨Ao24, co24, eo24⟩ := Kd.V_slice HO119.out; subst eo24; obtain ⟨Ao25, co25, eo25⟩ := Kd.V_slice HO122.out; subst eo25))
    refine bodyPost_ret (results_ct rfl _ _ gb101 69 #[.bool t116, .slice Ao24 t117.length co24, .slice Ao25 t120.length co25] (0, 0) _ rfl (by exact kU (p3 BK101)) Try.underlying69 rfl (by kernel_rfl)) rfl ?_
    exact ⟨_, _, er, vG (v3p HO119 (fun _ hk => hk.2)) (fun _ hk => hk.1.1), vG (v3p HO122 (fun _ hk => hk.2)) (fun _ hk => hk.1.1), hB⟩
def flyballlaw03_worksg.f (k : Nat)  : Option (Bool) := (nat_New.f k 6).bind fun t101 => ((nat_New.f k 4).bind fun t104 => ((ratio_New.f k true t101 t104).bind fun bt107 => ((nat_New.f k 5).bind fun t116 => ((ratio_New.f k true ([] : List Int) t116).bind fun bt119 => ((ratio_Dyad.f k false 3 (-1)).bind fun bt128 => ((ratio_R_Div.f k bt107.1 bt107.2.1 bt107.2.2.1 bt119.1 bt119.2.1 bt119.2.2.1).bind fun bt137 => ((nat_New.f k 1).bind fun t146 => ((nat_New.f k 2).bind fun t149 => ((ratio_New.f k false t146 t149).bind fun bt152 => ((nat_New.f k 1).bind fun t161 => ((nat_New.f k 3).bind fun t164 => ((ratio_New.f k false t161 t164).bind fun bt167 => ((ratio_R_Div.f k bt152.1 bt152.2.1 bt152.2.2.1 bt167.1 bt167.2.1 bt167.2.2.1).bind fun bt176 => ((ratio_R_Text.f k bt107.1 bt107.2.1 bt107.2.2.1).bind fun t185 => (if t185.toList = ([45, 51, 47, 50] : List UInt8) then (if bt107.2.2.2 = 0 then ((ratio_R_Text.f k bt119.1 bt119.2.1 bt119.2.2.1).bind fun t186 => (if t186.toList = ([48] : List UInt8) then (if bt119.2.2.2 = 0 then ((ratio_R_Text.f k bt128.1 bt128.2.1 bt128.2.2.1).bind fun t187 => (if t187.toList = ([51, 47, 50] : List UInt8) then (if bt128.2.2.2 = 0 then (if bt137.2.2.2 = 30 then ((ratio_R_Add.f k bt152.1 bt152.2.1 bt152.2.2.1 bt167.1 bt167.2.1 bt167.2.2.1).bind fun bt188 => ((ratio_R_Text.f k bt188.1 bt188.2.1 bt188.2.2).bind fun t195 => (if t195.toList = ([53, 47, 54] : List UInt8) then ((ratio_R_Sub.f k bt152.1 bt152.2.1 bt152.2.2.1 bt167.1 bt167.2.1 bt167.2.2.1).bind fun bt196 => ((ratio_R_Text.f k bt196.1 bt196.2.1 bt196.2.2).bind fun t203 => (if t203.toList = ([49, 47, 54] : List UInt8) then ((ratio_R_Mul.f k bt152.1 bt152.2.1 bt152.2.2.1 bt167.1 bt167.2.1 bt167.2.2.1).bind fun bt204 => ((ratio_R_Text.f k bt204.1 bt204.2.1 bt204.2.2).bind fun t211 => (if t211.toList = ([49, 47, 54] : List UInt8) then ((ratio_R_Text.f k bt176.1 bt176.2.1 bt176.2.2.1).bind fun t212 => (if t212.toList = ([51, 47, 50] : List UInt8) then (if bt176.2.2.2 = 0 then ((ratio_R_Cmp.f k bt152.1 bt152.2.1 bt152.2.2.1 bt167.1 bt167.2.1 bt167.2.2.1).bind fun t213 => (if t213 = 1 then ((ratio_R_Neg1.f k bt107.1 bt107.2.1 bt107.2.2.1).bind fun bt214 => ((ratio_R_Cmp.f k bt214.1 bt214.2.1 bt214.2.2 bt128.1 bt128.2.1 bt128.2.2.1).bind fun t221 => (if t221 = 0 then ((ratio_R_Abs.f k bt107.1 bt107.2.1 bt107.2.2.1).bind fun bt222 => ((ratio_R_Cmp.f k bt222.1 bt222.2.1 bt222.2.2 bt128.1 bt128.2.1 bt128.2.2.1).bind fun t229 => (if t229 = 0 then ((ratio_R_Sign.f k bt107.1 bt107.2.1 bt107.2.2.1).bind fun t230 => (if t230 = (-1) then ((ratio_R_Len.f k bt128.1 bt128.2.1 bt128.2.2.1).bind fun t231 => (if t231 = 4 then ((ratio_Int.f k (-7)).bind fun bt232 => ((ratio_R_Text.f k bt232.1 bt232.2.1 bt232.2.2).bind fun t239 => (if t239.toList = ([45, 55] : List UInt8) then ((ratio_Max.f k (([(⟨bt107.1, bt107.2.1, bt107.2.2.1⟩ : S69), (⟨bt152.1, bt152.2.1, bt152.2.2.1⟩ : S69), (⟨bt167.1, bt167.2.1, bt167.2.2.1⟩ : S69)] : List (S69)))).bind fun bt243 => ((ratio_R_Cmp.f k bt243.1 bt243.2.1 bt243.2.2 bt152.1 bt152.2.1 bt152.2.2.1).bind fun t250 => (some (t250 == 0)))) else (some false)))) else (some false))) else (some false))) else (some false)))) else (some false)))) else (some false))) else (some false)) else (some false))) else (some false)))) else (some false)))) else (some false)))) else (some false)) else (some false)) else (some false))) else (some false)) else (some false))) else (some false)) else (some false))))))))))))))))
theorem flyballlaw03_worksg.mono : ∀ k, LeO (flyballlaw03_worksg.f k ) (flyballlaw03_worksg.f (k + 1) ) := by
 intro  k
 unfold flyballlaw03_worksg.f
 repeat' with_reducible first | exact nat_New.mono _ _ | exact ratio_Dyad.mono _ _ _ _ | exact ratio_Int.mono _ _ | exact ratio_Max.mono _ _ | exact ratio_New.mono _ _ _ _ | exact ratio_R_Abs.mono _ _ _ _ | exact ratio_R_Add.mono _ _ _ _ _ _ _ | exact ratio_R_Cmp.mono _ _ _ _ _ _ _ | exact ratio_R_Div.mono _ _ _ _ _ _ _ | exact ratio_R_Len.mono _ _ _ _ | exact ratio_R_Mul.mono _ _ _ _ _ _ _ | exact ratio_R_Neg1.mono _ _ _ _ | exact ratio_R_Sign.mono _ _ _ _ | exact ratio_R_Sub.mono _ _ _ _ _ _ _ | exact ratio_R_Text.mono _ _ _ _ | exact LeO.refl _ | exact LeO.none _ | refine LeO.ite ?_ ?_ | refine LeO.bind ?_ (fun _ => ?_)
def flyballlaw03_works.T8 : Bool × List (List Nat × List Nat) := (true, [([], []), ([0], [0]), ([1], [1]), ([2, 1], [2]), ([3], [3]), ([4, 3], [3, 4]), ([3, 5], [3, 5]), ([6, 3], [6]), ([7], [7]), ([8, 7, 7], [7, 8]), ([9, 7], [7, 9]), ([7, 10], [7, 10]), ([11, 9], [11]), ([12], [12]), ([13, 12], [12, 13]), ([12, 14], [12, 14]), ([15, 12], [15]), ([16], [16]), ([17, 16, 16], [16, 17]), ([18, 16], [16, 18]), ([16, 19], [16, 19]), ([20, 18], [20]), ([21], [21]), ([22, 21], [21, 22]), ([21, 23], [21, 23]), ([24, 21], [24]), ([25], [25]), ([26, 25], [25, 26]), ([25, 27], [25, 27]), ([28, 25], [28]), ([29], [29]), ([29], [29]), ([30, 31, 29, 29], [29, 30, 31]), ([32, 32, 29], [29, 32]), ([33, 29], [29, 33]), ([29, 34], [29, 34]), ([35, 33], [35]), ([36], [36]), ([36], [36]), ([37, 38, 36, 36], [36, 37, 38]), ([39, 39, 36], [36, 39]), ([40, 36], [36, 40]), ([36, 41], [36, 41]), ([42, 40], [42]), ([43], [43]), ([43], [43]), ([44, 45, 43, 43], [43, 44, 45]), ([46, 46, 43], [43, 46]), ([47, 43], [43, 47]), ([43, 48], [43, 48]), ([49, 47], [49]), ([50], [50]), ([51, 50, 50], [50, 51]), ([52, 50], [50, 52]), ([50, 53], [50, 53]), ([54, 52], [54]), ([55], [55]), ([56, 55], [55, 56]), ([55, 57], [55, 57]), ([58, 55], [58]), ([59], [59]), ([59], [59]), ([60, 61, 59, 59], [59, 60, 61]), ([62, 59], [59, 62]), ([59, 63], [59, 63]), ([64, 62], [64]), ([65], [65]), ([66, 65, 65], [65, 66]), ([65], [65]), ([67, 68, 67, 65], [65, 67, 68]), ([69, 65], [65, 69]), ([65, 70], [65, 70]), ([71, 69], [71]), ([72], [72]), ([73, 72, 72], [72, 73]), ([72], [72]), ([74, 75, 74, 72], [72, 74, 75]), ([76, 72], [72, 76]), ([72, 77], [72, 77]), ([78, 76], [78]), ([79], [79]), ([80, 79, 79], [79, 80]), ([81, 79], [79, 81]), ([79, 82], [79, 82]), ([83, 81], [83]), ([84], [84]), ([85, 84, 84], [84, 85]), ([86, 84], [84, 86]), ([84, 87], [84, 87]), ([88, 86], [88]), ([89, 89], [89]), ([90, 90, 89], [89, 90]), ([91, 89], [89, 91]), ([89, 92], [89, 92]), ([93, 91], [93]), ([94], [94]), ([94], [94]), ([94], [94]), ([95, 96, 97, 94], [94, 95, 96, 97]), ([98, 94, 94], [94, 98]), ([94], [94]), ([99, 100, 99, 94], [94, 99, 100]), ([101, 94], [94, 101]), ([94, 102], [94, 102]), ([103, 101, 0, 1, 2, 3, 4, 5, 6, 7, 8, 9, 10, 11, 12, 13, 14, 15, 16, 17, 18, 19, 20, 21, 22, 23, 24, 25, 26, 27, 28, 29, 30, 31, 32, 33, 34, 35, 36, 37, 38, 39, 40, 41, 42, 43, 44, 45, 46, 47, 48, 49, 50, 51, 52, 53, 54, 55, 56, 57, 58, 59, 60, 61, 62, 63, 64, 65, 66, 67, 68, 69, 70, 71, 72, 73, 74, 75, 76, 77, 78, 79, 80, 81, 82, 83, 84, 85, 86, 87, 88, 89, 90, 91, 92, 93, 94, 95, 96, 97, 98, 99, 100, 101, 102, 103], [103])])
def flyballlaw03_works.B8 : List Nat := [0, 1, 3, 7, 15, 31, 63, 127, 255, 511, 1023, 2047, 4095, 8191, 16383, 32767, 65535, 131071, 262143, 524287, 1048575, 2097151, 4194303, 8388607, 16777215, 33554431, 67108863, 134217727, 268435455, 536870911, 1073741823, 1073741823, 4294967295, 8589934591, 17179869183, 34359738367, 68719476735, 137438953471, 137438953471, 549755813887, 1099511627775, 2199023255551, 4398046511103, 8796093022207, 17592186044415, 17592186044415, 70368744177663, 140737488355327, 281474976710655, 562949953421311, 1125899906842623, 2251799813685247, 4503599627370495, 9007199254740991, 18014398509481983, 36028797018963967, 72057594037927935, 144115188075855871, 288230376151711743, 576460752303423487, 1152921504606846975, 1152921504606846975, 4611686018427387903, 9223372036854775807, 18446744073709551615, 36893488147419103231, 73786976294838206463, 147573952589676412927, 73786976294838206463, 590295810358705651711, 1180591620717411303423, 2361183241434822606847, 4722366482869645213695, 9444732965739290427391, 18889465931478580854783, 9444732965739290427391, 75557863725914323419135, 151115727451828646838271, 302231454903657293676543, 604462909807314587353087, 1208925819614629174706175, 2417851639229258349412351, 4835703278458516698824703, 9671406556917033397649407, 19342813113834066795298815, 38685626227668133590597631, 77371252455336267181195263, 154742504910672534362390527, 309485009821345068724781055, 618970019642690137449562111, 1237940039285380274899124223, 2475880078570760549798248447, 4951760157141521099596496895, 9903520314283042199192993791, 19807040628566084398385987583, 39614081257132168796771975167, 39614081257132168796771975167, 39614081257132168796771975167, 316912650057057350374175801343, 633825300114114700748351602687, 39614081257132168796771975167, 2535301200456458802993406410751, 5070602400912917605986812821503, 10141204801825835211973625643007, 20282409603651670423947251286015]
theorem flyballlaw03_works.tab8 : rtab .any (opsOf Try.f54 8) = flyballlaw03_works.T8 := by kernel_rfl
theorem flyballlaw03_works.bits8 : waitsOk flyballlaw03_works.T8.2 flyballlaw03_works.B8 = true := by kernel_rfl
set_option maxHeartbeats 8000000 in
set_option maxRecDepth 100000 in
theorem flyballlaw03_worksg.calls (k : Nat)  (w : World) (H : flyballlaw03_worksg.f k  = some true) :
  Calls Try.prog 54 #[] w fun e w' => e = .returned (.bool true) ∧ Below w.heap.size w w' := by
 have hu69 := Try.underlying69
 have HB := Aside0.mk (Below.refl w.heap.size w)
 unfold flyballlaw03_worksg.f at H
 replace H := bi H
 obtain ⟨t101, A1, H⟩ := H
 replace H := bi H
 obtain ⟨t104, A2, H⟩ := H
 replace H := bi H
 obtain ⟨⟨t107, t108, t111, t114⟩, A3, H⟩ := H
 try dsimp only at H
 replace H := bi H
 obtain ⟨t116, A4, H⟩ := H
 replace H := bi H
 obtain ⟨⟨t119, t120, t123, t126⟩, A5, H⟩ := H
 try dsimp only at H
 replace H := bi H
 obtain ⟨⟨t128, t129, t132, t135⟩, A6, H⟩ := H
 try dsimp only at H
 replace H := bi H
 obtain ⟨⟨t137, t138, t141, t144⟩, A7, H⟩ := H
 try dsimp only at H
 replace H := bi H
 obtain ⟨t146, A8, H⟩ := H
 replace H := bi H
 obtain ⟨t149, A9, H⟩ := H
 replace H := bi H
 obtain ⟨⟨t152, t153, t156, t159⟩, A10, H⟩ := H
 try dsimp only at H
 replace H := bi H
 obtain ⟨t161, A11, H⟩ := H
 replace H := bi H
 obtain ⟨t164, A12, H⟩ := H
 replace H := bi H
 obtain ⟨⟨t167, t168, t171, t174⟩, A13, H⟩ := H
 try dsimp only at H
 replace H := bi H
 obtain ⟨⟨t176, t177, t180, t183⟩, A14, H⟩ := H
 try dsimp only at H
 replace H := bi H
 obtain ⟨t185, A15, H⟩ := H
 replace H := iS H
 obtain ⟨c16, H⟩ := H
 obtain ⟨c16b0, c16b1⟩ := bqT c16
 clear c16
 replace H := iS H
 obtain ⟨c17, H⟩ := H
 obtain ⟨c17b0, c17b1⟩ := bqT c17
 clear c17
 replace H := bi H
 obtain ⟨t186, A18, H⟩ := H
 replace H := iS H
 obtain ⟨c19, H⟩ := H
 obtain ⟨c19b0, c19b1⟩ := bqT c19
 clear c19
 replace H := iS H
 obtain ⟨c20, H⟩ := H
 obtain ⟨c20b0, c20b1⟩ := bqT c20
 clear c20
 replace H := bi H
 obtain ⟨t187, A21, H⟩ := H
 replace H := iS H
 obtain ⟨c22, H⟩ := H
 obtain ⟨c22b0, c22b1⟩ := bqT c22
 clear c22
 replace H := iS H
 obtain ⟨c23, H⟩ := H
 obtain ⟨c23b0, c23b1⟩ := bqT c23
 clear c23
 replace H := iS H
 obtain ⟨c24, H⟩ := H
 obtain ⟨c24b0, c24b1⟩ := bqT c24
 clear c24
 replace H := bi H
 obtain ⟨⟨t188, t189, t192⟩, A25, H⟩ := H
 try dsimp only at H
 replace H := bi H
 obtain ⟨t195, A26, H⟩ := H
 replace H := iS H
 obtain ⟨c27, H⟩ := H
 obtain ⟨c27b0, c27b1⟩ := bqT c27
 clear c27
 replace H := bi H
 obtain ⟨⟨t196, t197, t200⟩, A28, H⟩ := H
 try dsimp only at H
 replace H := bi H
 obtain ⟨t203, A29, H⟩ := H
 replace H := iS H
 obtain ⟨c30, H⟩ := H
 obtain ⟨c30b0, c30b1⟩ := bqT c30
 clear c30
 replace H := bi H
 obtain ⟨⟨t204, t205, t208⟩, A31, H⟩ := H
 try dsimp only at H
 replace H := bi H
 obtain ⟨t211, A32, H⟩ := H
 replace H := iS H
 obtain ⟨c33, H⟩ := H
 obtain ⟨c33b0, c33b1⟩ := bqT c33
 clear c33
 replace H := bi H
 obtain ⟨t212, A34, H⟩ := H
 replace H := iS H
 obtain ⟨c35, H⟩ := H
 obtain ⟨c35b0, c35b1⟩ := bqT c35
 clear c35
 replace H := iS H
 obtain ⟨c36, H⟩ := H
 obtain ⟨c36b0, c36b1⟩ := bqT c36
 clear c36
 replace H := bi H
 obtain ⟨t213, A37, H⟩ := H
 replace H := iS H
 obtain ⟨c38, H⟩ := H
 obtain ⟨c38b0, c38b1⟩ := bqT c38
 clear c38
 replace H := bi H
 obtain ⟨⟨t214, t215, t218⟩, A39, H⟩ := H
 try dsimp only at H
 replace H := bi H
 obtain ⟨t221, A40, H⟩ := H
 replace H := iS H
 obtain ⟨c41, H⟩ := H
 obtain ⟨c41b0, c41b1⟩ := bqT c41
 clear c41
 replace H := bi H
 obtain ⟨⟨t222, t223, t226⟩, A42, H⟩ := H
 try dsimp only at H
 replace H := bi H
 obtain ⟨t229, A43, H⟩ := H
 replace H := iS H
 obtain ⟨c44, H⟩ := H
 obtain ⟨c44b0, c44b1⟩ := bqT c44
 clear c44
 replace H := bi H
 obtain ⟨t230, A45, H⟩ := H
 replace H := iS H
 obtain ⟨c46, H⟩ := H
 obtain ⟨c46b0, c46b1⟩ := bqT c46
 clear c46
 replace H := bi H
 obtain ⟨t231, A47, H⟩ := H
 replace H := iS H
 obtain ⟨c48, H⟩ := H
 obtain ⟨c48b0, c48b1⟩ := bqT c48
 clear c48
 replace H := bi H
 obtain ⟨⟨t232, t233, t236⟩, A49, H⟩ := H
 try dsimp only at H
 replace H := bi H
 obtain ⟨t239, A50, H⟩ := H
 replace H := iS H
 obtain ⟨c51, H⟩ := H
 obtain ⟨c51b0, c51b1⟩ := bqT c51
 clear c51
 obtain ⟨y240, hy240⟩ : ∃ y_ : List (S69), y_ = (([(⟨t107, t108, t111⟩ : S69), (⟨t152, t153, t156⟩ : S69), (⟨t167, t168, t171⟩ : S69)] : List (S69))) := ⟨_, rfl⟩
 replace H : ((ratio_Max.f k y240).bind fun bt243 => ((ratio_R_Cmp.f k bt243.1 bt243.2.1 bt243.2.2 t152 t153 t156).bind fun t250 => (some (t250 == 0)))) = some true := by first | (rw [hy240]; with_reducible exact H) | (have H2_ := (Option.bind_some _ _).symm.trans H; rw [hy240]; with_reducible exact H2_) | (have H2_ := (Option.bind_some _ _).symm.trans H; with_reducible exact H2_) | with_reducible exact H | (rw [hy240]; exact H) | exact H
 have Ny240 := Aside0.mk hy240
 clear hy240
 replace H := bi H
 obtain ⟨⟨t243, t244, t247⟩, A52, H⟩ := H
 try dsimp only at H
 replace H := bi H
 obtain ⟨t250, A53, H⟩ := H
 have HT_ := Option.some.inj H
 clear H
 go_enter Try.func54, Try.ntmps54
 try go_wp2_with (first | ((with_reducible refine gc 52 rfl ?_); refine gL 16 Try.func52 #[.int .u64 6] ?_; (with_reducible refine (nat_New.calls k 6 t101 _ A1.out).mono ?_); rintro e w54 ⟨v102, rfl, ho0, hb⟩; refine ⟨_, rfl, ?_⟩; have HO103 := lw HB (fun k_ => True) ho0 (fun k_ hk_ => trivial); replace HB := bA HB hb; clear hb ho0) | ((with_reducible refine gc 52 rfl ?_); refine gL 17 Try.func52 #[.int .u64 4] ?_; (with_reducible refine (nat_New.calls k 4 t104 _ A2.out).mono ?_); rintro e w55 ⟨v105, rfl, ho0, hb⟩; refine ⟨_, rfl, ?_⟩; replace HO103 := vA HO103 hb; have HO106 := lw HB (fun k_ => True) ho0 (fun k_ hk_ => trivial); replace HB := bA HB hb; clear hb ho0; obtain ⟨Ao56, co56, eo56⟩ := Kd.V_slice HO103.out; subst eo56; obtain ⟨Ao57, co57, eo57⟩ := Kd.V_slice HO106.out; subst eo57) | ((with_reducible refine gc 102 rfl ?_); refine gL 18 Try.func102 #[.bool true, .slice Ao56 t101.length co56, .slice Ao57 t104.length co57] ?_; (with_reducible refine (ratio_New.calls k true (fun k_ => True) _ _ t101 (fun k_ => True) _ _ t104 t107 t108 t111 t114 _ ?_ ?_ A3.out).mono ?_); exact HO103.out; exact HO106.out; rintro e w58 ⟨v109, v112, rfl, ho0, ho1, hb⟩; refine ⟨_, rfl, ?_⟩; have HO110 := lw HB (fun k_ => True) ho0 (fun k_ hk_ => trivial); have HO113 := lw HB (fun k_ => True) ho1 (fun k_ hk_ => trivial); replace HB := bA HB hb; clear HO103 HO106; clear hb ho0 ho1) | ((with_reducible refine gd 1 rfl ?_); (try (refine gate_guard (by rfl) ?_; dsimp only)); refine bx 1 #[.bool false, .slice none 0 0, .slice none 0 0] ?_; intro gb115 hg w59 hbox hb; replace HO110 := vE HO110 hg hb; replace HO113 := vE HO113 hg hb; have BK115 := Aside0.mk hbox; have GE115 := gB hg HB; replace HB := bA HB hb; clear hb hbox hg; obtain ⟨⟨hcz60_0, hcz60_1, hcz60_2⟩, hfz60_0, hfz60_1, hfz60_2⟩ := cE BK115; obtain ⟨Ao61, co61, eo61⟩ := Kd.V_slice HO110.out; subst eo61; obtain ⟨Ao62, co62, eo62⟩ := Kd.V_slice HO113.out; subst eo62) | ((with_reducible refine gc 52 rfl ?_); refine gL 22 Try.func52 #[.int .u64 5] ?_; (with_reducible refine (nat_New.calls k 5 t116 _ A4.out).mono ?_); rintro e w63 ⟨v117, rfl, ho0, hb⟩; refine ⟨_, rfl, ?_⟩; replace HO110 := vF hb (v3p HO110 (fun _ hk => hk.2)) (fun _ h_ => h_.1); replace HO113 := vF hb (v3p HO113 (fun _ hk => hk.2)) (fun _ h_ => h_.1); have HO118 := lw HB (fun k_ => k_ ≠ gb115) ho0 (fun k_ hk_ => (kH (p3 BK115) hk_)); replace BK115 := kB (p3 BK115) hb; replace HB := bS HB hb; clear hb ho0; obtain ⟨Ao64, co64, eo64⟩ := Kd.V_slice HO118.out; subst eo64) | ((with_reducible refine gc 102 rfl ?_); refine gL 23 Try.func102 #[.bool true, .slice none 0 0, .slice Ao64 t116.length co64] ?_; (refine (ratio_New.calls k true (fun k_ => False) _ _ ([] : List Int) (fun k_ => k_ ≠ gb115) _ _ t116 t119 t120 t123 t126 _ ?_ ?_ A5.out).mono ?_); exact Kd.V_nil _ _ _ _ _; exact HO118.out; rintro e w65 ⟨v121, v124, rfl, ho0, ho1, hb⟩; refine ⟨_, rfl, ?_⟩; replace HO110 := vA HO110 hb; replace HO113 := vA HO113 hb; have HO122 := lw HB (fun k_ => k_ ≠ gb115) ho0 (fun k_ hk_ => Or.elim hk_ (fun hs_ => Or.elim hs_ (fun hs_ => (hs_).elim) id) (fun hn_ => kF BK115 hn_)); have HO125 := lw HB (fun k_ => k_ ≠ gb115) ho1 (fun k_ hk_ => Or.elim hk_ (fun hs_ => Or.elim hs_ (fun hs_ => (hs_).elim) id) (fun hn_ => kF BK115 hn_)); replace BK115 := kA BK115 hb; replace HB := bS HB hb; clear HO118; clear hb ho0 ho1) | ((with_reducible refine gd 3 rfl ?_); (try (refine gate_guard (by rfl) ?_; dsimp only)); refine bx 3 #[.bool false, .slice none 0 0, .slice none 0 0] ?_; intro gb127 hg w66 hbox hb; replace HO110 := vE HO110 hg hb; replace HO113 := vE HO113 hg hb; replace HO122 := vE HO122 hg hb; replace HO125 := vE HO125 hg hb; have BK127 := Aside0.mk hbox; have GE127 := gS' hg HB; replace HB := bS HB hb; have NB115_127 := nL hg BK115; have NB127_115 := nR hg BK115; replace BK115 := kA BK115 hb; clear hb hbox hg; have hnb67 := NB127_115.out; have hnc67 := NB115_127.out; obtain ⟨⟨hcz68_0, hcz68_1, hcz68_2⟩, hfz68_0, hfz68_1, hfz68_2⟩ := cE BK127; obtain ⟨Ao69, co69, eo69⟩ := Kd.V_slice HO122.out; subst eo69; obtain ⟨Ao70, co70, eo70⟩ := Kd.V_slice HO125.out; subst eo70) | ((with_reducible refine gc 104 rfl ?_); refine gL 27 Try.func104 #[.bool false, .int .u64 3, .int .i64 (-1)] ?_; (with_reducible refine (ratio_Dyad.calls k false 3 (-1) t128 t129 t132 t135 _ A6.out).mono ?_); rintro e w71 ⟨v130, v133, rfl, ho0, ho1, hb⟩; refine ⟨_, rfl, ?_⟩; replace HO110 := vF hb (v3p HO110 (fun _ hk => hk.2)) (fun _ h_ => h_.1); replace HO113 := vF hb (v3p HO113 (fun _ hk => hk.2)) (fun _ h_ => h_.1); replace HO122 := vF hb (v3p HO122 (fun _ hk => hk.2)) (fun _ h_ => h_.1); replace HO125 := vF hb (v3p HO125 (fun _ hk => hk.2)) (fun _ h_ => h_.1); have HO131 := lw HB (fun k_ => k_ ≠ gb115 ∧ k_ ≠ gb127) ho0 (fun k_ hk_ => ⟨(kH (q3 BK115 NB115_127) hk_), (kH (p3 BK127) hk_)⟩); have HO134 := lw HB (fun k_ => k_ ≠ gb115 ∧ k_ ≠ gb127) ho1 (fun k_ hk_ => ⟨(kH (q3 BK115 NB115_127) hk_), (kH (p3 BK127) hk_)⟩); replace BK115 := kB (q3 BK115 NB115_127) hb; replace BK127 := kB (p3 BK127) hb; replace HB := bS HB hb; clear hb ho0 ho1) | ((with_reducible refine gd 5 rfl ?_); (try (refine gate_guard (by rfl) ?_; dsimp only)); refine bx 5 #[.bool false, .slice none 0 0, .slice none 0 0] ?_; intro gb136 hg w72 hbox hb; replace HO110 := vE HO110 hg hb; replace HO113 := vE HO113 hg hb; replace HO122 := vE HO122 hg hb; replace HO125 := vE HO125 hg hb; replace HO131 := vE HO131 hg hb; replace HO134 := vE HO134 hg hb; have BK136 := Aside0.mk hbox; have GE136 := gS' hg HB; replace HB := bS HB hb; have NB115_136 := nL hg BK115; have NB136_115 := nR hg BK115; replace BK115 := kA BK115 hb; have NB127_136 := nL hg BK127; have NB136_127 := nR hg BK127; replace BK127 := kA BK127 hb; clear hb hbox hg; have hnb73 := NB136_115.out; have hnc73 := NB115_136.out; have hnb74 := NB136_127.out; have hnc74 := NB127_136.out; obtain ⟨⟨hcz75_0, hcz75_1, hcz75_2⟩, hfz75_0, hfz75_1, hfz75_2⟩ := cE BK136; obtain ⟨Ao76, co76, eo76⟩ := Kd.V_slice HO131.out; subst eo76; obtain ⟨Ao77, co77, eo77⟩ := Kd.V_slice HO134.out; subst eo77) | ((with_reducible refine gate_store (t := 69) (p := 5) rfl ?_); refine store_event (t := 69) (p := 5) (v := ?vo_w78) (w1 := (((w72.setCell ⟨gb136, 0, none⟩ (.bool t128)).setCell ⟨gb136, 1, none⟩ (.slice Ao76 t129.length co76)).setCell ⟨gb136, 2, none⟩ (.slice Ao77 t132.length co77))) ?hg ?ho ?hn ?hr ?_; (case ho => rfl); (case hg => rfl); (case hn => rfl); (case hr => first | (go_simp; done) | (go_simp; rfl)); intro w78 hw; have n2_ := vW hw (fun k_ => k_ ≠ gb115 ∧ k_ ≠ gb127 ∧ k_ ≠ gb136) (v3p HO110 (fun _ hk => hk.2)) (fun _ hk => ⟨hk.1.1.1.2, ⟨hk.1.1.2, hk.1.2⟩⟩); have n3_ := vW hw (fun k_ => k_ ≠ gb115 ∧ k_ ≠ gb127 ∧ k_ ≠ gb136) (v3p HO113 (fun _ hk => hk.2)) (fun _ hk => ⟨hk.1.1.1.2, ⟨hk.1.1.2, hk.1.2⟩⟩); have n5_ := vW hw (fun k_ => k_ ≠ gb115 ∧ k_ ≠ gb127 ∧ k_ ≠ gb136) (v3p HO122 (fun _ hk => hk.2)) (fun _ hk => ⟨hk.1.1.1, ⟨hk.1.1.2, hk.1.2⟩⟩); have n6_ := vW hw (fun k_ => k_ ≠ gb115 ∧ k_ ≠ gb127 ∧ k_ ≠ gb136) (v3p HO125 (fun _ hk => hk.2)) (fun _ hk => ⟨hk.1.1.1, ⟨hk.1.1.2, hk.1.2⟩⟩); have n7_ := vW hw (fun k_ => k_ ≠ gb115 ∧ k_ ≠ gb127 ∧ k_ ≠ gb136) (v3p HO131 (fun _ hk => hk.2)) (fun _ hk => ⟨hk.1.1.1, ⟨hk.1.1.2, hk.1.2⟩⟩); have n8_ := vW hw (fun k_ => k_ ≠ gb115 ∧ k_ ≠ gb127 ∧ k_ ≠ gb136) (v3p HO134 (fun _ hk => hk.2)) (fun _ hk => ⟨hk.1.1.1, ⟨hk.1.1.2, hk.1.2⟩⟩); have n9_ := kW hw (q3 BK115 NB115_136); have n10_ := kW hw (q3 BK127 NB127_136); have n11_ := kW hw (p3 BK136); have n12_ := bW HB hw; clear hw HO110 HO113 HO122 HO125 HO131 HO134 BK115 BK127 BK136 HB; have HO110 := n2_; have HO113 := n3_; have HO122 := n5_; have HO125 := n6_; have HO131 := n7_; have HO134 := n8_; have BK115 := n9_; have BK127 := n10_; have BK136 := n11_; have HB := n12_; clear n2_ n3_ n5_ n6_ n7_ n8_ n9_ n10_ n11_ n12_; obtain ⟨⟨hcz79_0, hcz79_1, hcz79_2⟩, hfz79_0, hfz79_1, hfz79_2⟩ := cE BK115; obtain ⟨⟨hcz80_0, hcz80_1, hcz80_2⟩, hfz80_0, hfz80_1, hfz80_2⟩ := cE BK127) | ((with_reducible refine gc 92 rfl ?_); refine gL 33 Try.func92 #[.agg #[.bool t107, .slice Ao61 t108.length co61, .slice Ao62 t111.length co62], .agg #[.bool t119, .slice Ao69 t120.length co69, .slice Ao70 t123.length co70]] ?_; (with_reducible refine (ratio_R_Div.calls k t107 (fun k_ => (k_ ≠ gb115 ∧ (k_ ≠ gb127 ∧ k_ ≠ gb136))) _ _ t108 (fun k_ => (k_ ≠ gb115 ∧ (k_ ≠ gb127 ∧ k_ ≠ gb136))) _ _ t111 t119 (fun k_ => (k_ ≠ gb115 ∧ (k_ ≠ gb127 ∧ k_ ≠ gb136))) _ _ t120 (fun k_ => (k_ ≠ gb115 ∧ (k_ ≠ gb127 ∧ k_ ≠ gb136))) _ _ t123 t137 t138 t141 t144 _ ?_ ?_ ?_ ?_ A7.out).mono ?_); exact HO110.out; exact HO113.out; exact HO122.out; exact HO125.out; rintro e w81 ⟨v139, v142, rfl, ho0, ho1, hb⟩; refine ⟨_, rfl, ?_⟩; replace HO110 := vA HO110 hb; replace HO113 := vA HO113 hb; replace HO122 := vA HO122 hb; replace HO125 := vA HO125 hb; replace HO131 := vA HO131 hb; replace HO134 := vA HO134 hb; have HO140 := lw HB (fun k_ => k_ ≠ gb115 ∧ k_ ≠ gb127 ∧ k_ ≠ gb136) ho0 (fun k_ hk_ => Or.elim hk_ (fun hs_ => Or.elim hs_ id (fun hs_ => Or.elim hs_ id (fun hs_ => Or.elim hs_ id id))) (fun hn_ => ⟨kF BK115 hn_, kF BK127 hn_, kF BK136 hn_⟩)); have HO143 := lw HB (fun k_ => k_ ≠ gb115 ∧ k_ ≠ gb127 ∧ k_ ≠ gb136) ho1 (fun k_ hk_ => Or.elim hk_ (fun hs_ => Or.elim hs_ id (fun hs_ => Or.elim hs_ id (fun hs_ => Or.elim hs_ id id))) (fun hn_ => ⟨kF BK115 hn_, kF BK127 hn_, kF BK136 hn_⟩)); replace BK115 := kA BK115 hb; replace BK127 := kA BK127 hb; replace BK136 := kA BK136 hb; replace HB := bS HB hb; clear hb ho0 ho1) | ((with_reducible refine gd 7 rfl ?_); (try (refine gate_guard (by rfl) ?_; dsimp only)); refine bx 7 #[.bool false, .slice none 0 0, .slice none 0 0] ?_; intro gb145 hg w82 hbox hb; replace HO110 := vE HO110 hg hb; replace HO113 := vE HO113 hg hb; replace HO122 := vE HO122 hg hb; replace HO125 := vE HO125 hg hb; replace HO131 := vE HO131 hg hb; replace HO134 := vE HO134 hg hb; replace HO140 := vE HO140 hg hb; replace HO143 := vE HO143 hg hb; have BK145 := Aside0.mk hbox; have GE145 := gS' hg HB; replace HB := bS HB hb; have NB115_145 := nL hg BK115; have NB145_115 := nR hg BK115; replace BK115 := kA BK115 hb; have NB127_145 := nL hg BK127; have NB145_127 := nR hg BK127; replace BK127 := kA BK127 hb; have NB136_145 := nL hg BK136; have NB145_136 := nR hg BK136; replace BK136 := kA BK136 hb; clear hb hbox hg; have hnb83 := NB145_115.out; have hnc83 := NB115_145.out; have hnb84 := NB145_127.out; have hnc84 := NB127_145.out; have hnb85 := NB145_136.out; have hnc85 := NB136_145.out; obtain ⟨⟨hcz86_0, hcz86_1, hcz86_2⟩, hfz86_0, hfz86_1, hfz86_2⟩ := cE BK145; obtain ⟨Ao87, co87, eo87⟩ := Kd.V_slice HO140.out; subst eo87; obtain ⟨Ao88, co88, eo88⟩ := Kd.V_slice HO143.out; subst eo88) | ((with_reducible refine gc 52 rfl ?_); refine gL 37 Try.func52 #[.int .u64 1] ?_; (with_reducible refine (nat_New.calls k 1 t146 _ A8.out).mono ?_); rintro e w89 ⟨v147, rfl, ho0, hb⟩; refine ⟨_, rfl, ?_⟩; replace HO110 := vF hb (v3p HO110 (fun _ hk => hk.2)) (fun _ h_ => h_.1); replace HO113 := vF hb (v3p HO113 (fun _ hk => hk.2)) (fun _ h_ => h_.1); replace HO122 := vF hb (v3p HO122 (fun _ hk => hk.2)) (fun _ h_ => h_.1); replace HO125 := vF hb (v3p HO125 (fun _ hk => hk.2)) (fun _ h_ => h_.1); replace HO131 := vF hb (v3p HO131 (fun _ hk => hk.2)) (fun _ h_ => h_.1); replace HO134 := vF hb (v3p HO134 (fun _ hk => hk.2)) (fun _ h_ => h_.1); have HO148 := lw HB (fun k_ => k_ ≠ gb115 ∧ k_ ≠ gb127 ∧ k_ ≠ gb136 ∧ k_ ≠ gb145) ho0 (fun k_ hk_ => ⟨(kH (q3 BK115 NB115_145) hk_), (kH (q3 BK127 NB127_145) hk_), (kH (q3 BK136 NB136_145) hk_), (kH (p3 BK145) hk_)⟩); replace BK115 := kB (q3 BK115 NB115_145) hb; replace BK127 := kB (q3 BK127 NB127_145) hb; replace BK136 := kB (q3 BK136 NB136_145) hb; replace BK145 := kB (p3 BK145) hb; replace HB := bS HB hb; clear HO140 HO143; clear hb ho0) | ((with_reducible refine gc 52 rfl ?_); refine gL 38 Try.func52 #[.int .u64 2] ?_; (with_reducible refine (nat_New.calls k 2 t149 _ A9.out).mono ?_); rintro e w90 ⟨v150, rfl, ho0, hb⟩; refine ⟨_, rfl, ?_⟩; replace HO110 := vA HO110 hb; replace HO113 := vA HO113 hb; replace HO122 := vA HO122 hb; replace HO125 := vA HO125 hb; replace HO131 := vA HO131 hb; replace HO134 := vA HO134 hb; replace HO148 := vA HO148 hb; have HO151 := lw HB (fun k_ => k_ ≠ gb115 ∧ k_ ≠ gb127 ∧ k_ ≠ gb136 ∧ k_ ≠ gb145) ho0 (fun k_ hk_ => ⟨(kF BK115 hk_), (kF BK127 hk_), (kF BK136 hk_), (kF BK145 hk_)⟩); replace BK115 := kA BK115 hb; replace BK127 := kA BK127 hb; replace BK136 := kA BK136 hb; replace BK145 := kA BK145 hb; replace HB := bS HB hb; clear hb ho0; obtain ⟨Ao91, co91, eo91⟩ := Kd.V_slice HO148.out; subst eo91; obtain ⟨Ao92, co92, eo92⟩ := Kd.V_slice HO151.out; subst eo92) | ((with_reducible refine gc 102 rfl ?_); refine gL 39 Try.func102 #[.bool false, .slice Ao91 t146.length co91, .slice Ao92 t149.length co92] ?_; (with_reducible refine (ratio_New.calls k false (fun k_ => (k_ ≠ gb115 ∧ (k_ ≠ gb127 ∧ (k_ ≠ gb136 ∧ k_ ≠ gb145)))) _ _ t146 (fun k_ => (k_ ≠ gb115 ∧ (k_ ≠ gb127 ∧ (k_ ≠ gb136 ∧ k_ ≠ gb145)))) _ _ t149 t152 t153 t156 t159 _ ?_ ?_ A10.out).mono ?_); exact HO148.out; exact HO151.out; rintro e w93 ⟨v154, v157, rfl, ho0, ho1, hb⟩; refine ⟨_, rfl, ?_⟩; replace HO110 := vA HO110 hb; replace HO113 := vA HO113 hb; replace HO122 := vA HO122 hb; replace HO125 := vA HO125 hb; replace HO131 := vA HO131 hb; replace HO134 := vA HO134 hb; have HO155 := lw HB (fun k_ => k_ ≠ gb115 ∧ k_ ≠ gb127 ∧ k_ ≠ gb136 ∧ k_ ≠ gb145) ho0 (fun k_ hk_ => Or.elim hk_ (fun hs_ => Or.elim hs_ id id) (fun hn_ => ⟨kF BK115 hn_, kF BK127 hn_, kF BK136 hn_, kF BK145 hn_⟩)); have HO158 := lw HB (fun k_ => k_ ≠ gb115 ∧ k_ ≠ gb127 ∧ k_ ≠ gb136 ∧ k_ ≠ gb145) ho1 (fun k_ hk_ => Or.elim hk_ (fun hs_ => Or.elim hs_ id id) (fun hn_ => ⟨kF BK115 hn_, kF BK127 hn_, kF BK136 hn_, kF BK145 hn_⟩)); replace BK115 := kA BK115 hb; replace BK127 := kA BK127 hb; replace BK136 := kA BK136 hb; replace BK145 := kA BK145 hb; replace HB := bS HB hb; clear HO148 HO151; clear hb ho0 ho1) | ((with_reducible refine gd 9 rfl ?_); (try (refine gate_guard (by rfl) ?_; dsimp only)); refine bx 9 #[.bool false, .slice none 0 0, .slice none 0 0] ?_; intro gb160 hg w94 hbox hb; replace HO110 := vE HO110 hg hb; replace HO113 := vE HO113 hg hb; replace HO122 := vE HO122 hg hb; replace HO125 := vE HO125 hg hb; replace HO131 := vE HO131 hg hb; replace HO134 := vE HO134 hg hb; replace HO155 := vE HO155 hg hb; replace HO158 := vE HO158 hg hb; have BK160 := Aside0.mk hbox; have GE160 := gS' hg HB; replace HB := bS HB hb; have NB115_160 := nL hg BK115; have NB160_115 := nR hg BK115; replace BK115 := kA BK115 hb; have NB127_160 := nL hg BK127; have NB160_127 := nR hg BK127; replace BK127 := kA BK127 hb; have NB136_160 := nL hg BK136; have NB160_136 := nR hg BK136; replace BK136 := kA BK136 hb; have NB145_160 := nL hg BK145; have NB160_145 := nR hg BK145; replace BK145 := kA BK145 hb; clear hb hbox hg; have hnb95 := NB160_115.out; have hnc95 := NB115_160.out; have hnb96 := NB160_127.out; have hnc96 := NB127_160.out; have hnb97 := NB160_136.out; have hnc97 := NB136_160.out; have hnb98 := NB160_145.out; have hnc98 := NB145_160.out; obtain ⟨⟨hcz99_0, hcz99_1, hcz99_2⟩, hfz99_0, hfz99_1, hfz99_2⟩ := cE BK160; obtain ⟨Ao100, co100, eo100⟩ := Kd.V_slice HO155.out; subst eo100; obtain ⟨Ao101, co101, eo101⟩ := Kd.V_slice HO158.out; subst eo101) | ((with_reducible refine gc 52 rfl ?_); refine gL 43 Try.func52 #[.int .u64 1] ?_; (with_reducible refine (nat_New.calls k 1 t161 _ A11.out).mono ?_); rintro e w102 ⟨v162, rfl, ho0, hb⟩; refine ⟨_, rfl, ?_⟩; replace HO110 := vF hb (v3p HO110 (fun _ hk => hk.2)) (fun _ h_ => h_.1); replace HO113 := vF hb (v3p HO113 (fun _ hk => hk.2)) (fun _ h_ => h_.1); replace HO122 := vF hb (v3p HO122 (fun _ hk => hk.2)) (fun _ h_ => h_.1); replace HO125 := vF hb (v3p HO125 (fun _ hk => hk.2)) (fun _ h_ => h_.1); replace HO131 := vF hb (v3p HO131 (fun _ hk => hk.2)) (fun _ h_ => h_.1); replace HO134 := vF hb (v3p HO134 (fun _ hk => hk.2)) (fun _ h_ => h_.1); replace HO155 := vF hb (v3p HO155 (fun _ hk => hk.2)) (fun _ h_ => h_.1); replace HO158 := vF hb (v3p HO158 (fun _ hk => hk.2)) (fun _ h_ => h_.1); have HO163 := lw HB (fun k_ => k_ ≠ gb115 ∧ k_ ≠ gb127 ∧ k_ ≠ gb136 ∧ k_ ≠ gb145 ∧ k_ ≠ gb160) ho0 (fun k_ hk_ => ⟨(kH (q3 BK115 NB115_160) hk_), (kH (q3 BK127 NB127_160) hk_), (kH (q3 BK136 NB136_160) hk_), (kH (q3 BK145 NB145_160) hk_), (kH (p3 BK160) hk_)⟩); replace BK115 := kB (q3 BK115 NB115_160) hb; replace BK127 := kB (q3 BK127 NB127_160) hb; replace BK136 := kB (q3 BK136 NB136_160) hb; replace BK145 := kB (q3 BK145 NB145_160) hb; replace BK160 := kB (p3 BK160) hb; replace HB := bS HB hb; clear hb ho0) | ((with_reducible refine gc 52 rfl ?_); refine gL 44 Try.func52 #[.int .u64 3] ?_; (with_reducible refine (nat_New.calls k 3 t164 _ A12.out).mono ?_); rintro e w103 ⟨v165, rfl, ho0, hb⟩; refine ⟨_, rfl, ?_⟩; replace HO110 := vA HO110 hb; replace HO113 := vA HO113 hb; replace HO122 := vA HO122 hb; replace HO125 := vA HO125 hb; replace HO131 := vA HO131 hb; replace HO134 := vA HO134 hb; replace HO155 := vA HO155 hb; replace HO158 := vA HO158 hb; replace HO163 := vA HO163 hb; have HO166 := lw HB (fun k_ => k_ ≠ gb115 ∧ k_ ≠ gb127 ∧ k_ ≠ gb136 ∧ k_ ≠ gb145 ∧ k_ ≠ gb160) ho0 (fun k_ hk_ => ⟨(kF BK115 hk_), (kF BK127 hk_), (kF BK136 hk_), (kF BK145 hk_), (kF BK160 hk_)⟩); replace BK115 := kA BK115 hb; replace BK127 := kA BK127 hb; replace BK136 := kA BK136 hb; replace BK145 := kA BK145 hb; replace BK160 := kA BK160 hb; replace HB := bS HB hb; clear hb ho0; obtain ⟨Ao104, co104, eo104⟩ := Kd.V_slice HO163.out; subst eo104; obtain ⟨Ao105, co105, eo105⟩ := Kd.V_slice HO166.out; subst eo105) | ((with_reducible refine gc 102 rfl ?_); refine gL 45 Try.func102 #[.bool false, .slice Ao104 t161.length co104, .slice Ao105 t164.length co105] ?_; (with_reducible refine (ratio_New.calls k false (fun k_ => (k_ ≠ gb115 ∧ (k_ ≠ gb127 ∧ (k_ ≠ gb136 ∧ (k_ ≠ gb145 ∧ k_ ≠ gb160))))) _ _ t161 (fun k_ => (k_ ≠ gb115 ∧ (k_ ≠ gb127 ∧ (k_ ≠ gb136 ∧ (k_ ≠ gb145 ∧ k_ ≠ gb160))))) _ _ t164 t167 t168 t171 t174 _ ?_ ?_ A13.out).mono ?_); exact HO163.out; exact HO166.out; rintro e w106 ⟨v169, v172, rfl, ho0, ho1, hb⟩; refine ⟨_, rfl, ?_⟩; replace HO110 := vA HO110 hb; replace HO113 := vA HO113 hb; replace HO122 := vA HO122 hb; replace HO125 := vA HO125 hb; replace HO131 := vA HO131 hb; replace HO134 := vA HO134 hb; replace HO155 := vA HO155 hb; replace HO158 := vA HO158 hb; have HO170 := lw HB (fun k_ => k_ ≠ gb115 ∧ k_ ≠ gb127 ∧ k_ ≠ gb136 ∧ k_ ≠ gb145 ∧ k_ ≠ gb160) ho0 (fun k_ hk_ => Or.elim hk_ (fun hs_ => Or.elim hs_ id id) (fun hn_ => ⟨kF BK115 hn_, kF BK127 hn_, kF BK136 hn_, kF BK145 hn_, kF BK160 hn_⟩)); have HO173 := lw HB (fun k_ => k_ ≠ gb115 ∧ k_ ≠ gb127 ∧ k_ ≠ gb136 ∧ k_ ≠ gb145 ∧ k_ ≠ gb160) ho1 (fun k_ hk_ => Or.elim hk_ (fun hs_ => Or.elim hs_ id id) (fun hn_ => ⟨kF BK115 hn_, kF BK127 hn_, kF BK136 hn_, kF BK145 hn_, kF BK160 hn_⟩)); replace BK115 := kA BK115 hb; replace BK127 := kA BK127 hb; replace BK136 := kA BK136 hb; replace BK145 := kA BK145 hb; replace BK160 := kA BK160 hb; replace HB := bS HB hb; clear HO163 HO166; clear hb ho0 ho1) | ((with_reducible refine gd 11 rfl ?_); (try (refine gate_guard (by rfl) ?_; dsimp only)); refine bx 11 #[.bool false, .slice none 0 0, .slice none 0 0] ?_; intro gb175 hg w107 hbox hb; replace HO110 := vE HO110 hg hb; replace HO113 := vE HO113 hg hb; replace HO122 := vE HO122 hg hb; replace HO125 := vE HO125 hg hb; replace HO131 := vE HO131 hg hb; replace HO134 := vE HO134 hg hb; replace HO155 := vE HO155 hg hb; replace HO158 := vE HO158 hg hb; replace HO170 := vE HO170 hg hb; replace HO173 := vE HO173 hg hb; have BK175 := Aside0.mk hbox; have GE175 := gS' hg HB; replace HB := bS HB hb; have NB115_175 := nL hg BK115; have NB175_115 := nR hg BK115; replace BK115 := kA BK115 hb; have NB127_175 := nL hg BK127; have NB175_127 := nR hg BK127; replace BK127 := kA BK127 hb; have NB136_175 := nL hg BK136; have NB175_136 := nR hg BK136; replace BK136 := kA BK136 hb; have NB145_175 := nL hg BK145; have NB175_145 := nR hg BK145; replace BK145 := kA BK145 hb; have NB160_175 := nL hg BK160; have NB175_160 := nR hg BK160; replace BK160 := kA BK160 hb; clear hb hbox hg; have hnb108 := NB175_115.out; have hnc108 := NB115_175.out; have hnb109 := NB175_127.out; have hnc109 := NB127_175.out; have hnb110 := NB175_136.out; have hnc110 := NB136_175.out; have hnb111 := NB175_145.out; have hnc111 := NB145_175.out; have hnb112 := NB175_160.out; have hnc112 := NB160_175.out; obtain ⟨⟨hcz113_0, hcz113_1, hcz113_2⟩, hfz113_0, hfz113_1, hfz113_2⟩ := cE BK175; obtain ⟨Ao114, co114, eo114⟩ := Kd.V_slice HO170.out; subst eo114; obtain ⟨Ao115, co115, eo115⟩ := Kd.V_slice HO173.out; subst eo115) | ((with_reducible refine gate_store (t := 69) (p := 11) rfl ?_); refine store_event (t := 69) (p := 11) (v := ?vo_w116) (w1 := (((w107.setCell ⟨gb175, 0, none⟩ (.bool t167)).setCell ⟨gb175, 1, none⟩ (.slice Ao114 t168.length co114)).setCell ⟨gb175, 2, none⟩ (.slice Ao115 t171.length co115))) ?hg ?ho ?hn ?hr ?_; (case ho => rfl); (case hg => rfl); (case hn => rfl); (case hr => first | (go_simp; done) | (go_simp; rfl)); intro w116 hw; have n2_ := vW hw (fun k_ => k_ ≠ gb115 ∧ k_ ≠ gb127 ∧ k_ ≠ gb136 ∧ k_ ≠ gb145 ∧ k_ ≠ gb160 ∧ k_ ≠ gb175) (v3p HO110 (fun _ hk => hk.2)) (fun _ hk => ⟨hk.1.1.1.1.1, ⟨hk.1.1.1.1.2.1, ⟨hk.1.1.1.1.2.2, ⟨hk.1.1.1.2, ⟨hk.1.1.2, hk.1.2⟩⟩⟩⟩⟩); have n3_ := vW hw (fun k_ => k_ ≠ gb115 ∧ k_ ≠ gb127 ∧ k_ ≠ gb136 ∧ k_ ≠ gb145 ∧ k_ ≠ gb160 ∧ k_ ≠ gb175) (v3p HO113 (fun _ hk => hk.2)) (fun _ hk => ⟨hk.1.1.1.1.1, ⟨hk.1.1.1.1.2.1, ⟨hk.1.1.1.1.2.2, ⟨hk.1.1.1.2, ⟨hk.1.1.2, hk.1.2⟩⟩⟩⟩⟩); have n5_ := vW hw (fun k_ => k_ ≠ gb115 ∧ k_ ≠ gb127 ∧ k_ ≠ gb136 ∧ k_ ≠ gb145 ∧ k_ ≠ gb160 ∧ k_ ≠ gb175) (v3p HO122 (fun _ hk => hk.2)) (fun _ hk => ⟨hk.1.1.1.1.1, ⟨hk.1.1.1.1.2.1, ⟨hk.1.1.1.1.2.2, ⟨hk.1.1.1.2, ⟨hk.1.1.2, hk.1.2⟩⟩⟩⟩⟩); have n6_ := vW hw (fun k_ => k_ ≠ gb115 ∧ k_ ≠ gb127 ∧ k_ ≠ gb136 ∧ k_ ≠ gb145 ∧ k_ ≠ gb160 ∧ k_ ≠ gb175) (v3p HO125 (fun _ hk => hk.2)) (fun _ hk => ⟨hk.1.1.1.1.1, ⟨hk.1.1.1.1.2.1, ⟨hk.1.1.1.1.2.2, ⟨hk.1.1.1.2, ⟨hk.1.1.2, hk.1.2⟩⟩⟩⟩⟩); have n7_ := vW hw (fun k_ => k_ ≠ gb115 ∧ k_ ≠ gb127 ∧ k_ ≠ gb136 ∧ k_ ≠ gb145 ∧ k_ ≠ gb160 ∧ k_ ≠ gb175) (v3p HO131 (fun _ hk => hk.2)) (fun _ hk => ⟨hk.1.1.1.1.1, ⟨hk.1.1.1.1.2.1, ⟨hk.1.1.1.1.2.2, ⟨hk.1.1.1.2, ⟨hk.1.1.2, hk.1.2⟩⟩⟩⟩⟩); have n8_ := vW hw (fun k_ => k_ ≠ gb115 ∧ k_ ≠ gb127 ∧ k_ ≠ gb136 ∧ k_ ≠ gb145 ∧ k_ ≠ gb160 ∧ k_ ≠ gb175) (v3p HO134 (fun _ hk => hk.2)) (fun _ hk => ⟨hk.1.1.1.1.1, ⟨hk.1.1.1.1.2.1, ⟨hk.1.1.1.1.2.2, ⟨hk.1.1.1.2, ⟨hk.1.1.2, hk.1.2⟩⟩⟩⟩⟩); have n13_ := vW hw (fun k_ => k_ ≠ gb115 ∧ k_ ≠ gb127 ∧ k_ ≠ gb136 ∧ k_ ≠ gb145 ∧ k_ ≠ gb160 ∧ k_ ≠ gb175) (v3p HO155 (fun _ hk => hk.2)) (fun _ hk => ⟨hk.1.1.1.1, ⟨hk.1.1.1.2.1, ⟨hk.1.1.1.2.2.1, ⟨hk.1.1.1.2.2.2, ⟨hk.1.1.2, hk.1.2⟩⟩⟩⟩⟩); have n14_ := vW hw (fun k_ => k_ ≠ gb115 ∧ k_ ≠ gb127 ∧ k_ ≠ gb136 ∧ k_ ≠ gb145 ∧ k_ ≠ gb160 ∧ k_ ≠ gb175) (v3p HO158 (fun _ hk => hk.2)) (fun _ hk => ⟨hk.1.1.1.1, ⟨hk.1.1.1.2.1, ⟨hk.1.1.1.2.2.1, ⟨hk.1.1.1.2.2.2, ⟨hk.1.1.2, hk.1.2⟩⟩⟩⟩⟩); have n17_ := vW hw (fun k_ => k_ ≠ gb115 ∧ k_ ≠ gb127 ∧ k_ ≠ gb136 ∧ k_ ≠ gb145 ∧ k_ ≠ gb160 ∧ k_ ≠ gb175) (v3p HO170 (fun _ hk => hk.2)) (fun _ hk => ⟨hk.1.1.1, ⟨hk.1.1.2.1, ⟨hk.1.1.2.2.1, ⟨hk.1.1.2.2.2.1, ⟨hk.1.1.2.2.2.2, hk.1.2⟩⟩⟩⟩⟩); have n18_ := vW hw (fun k_ => k_ ≠ gb115 ∧ k_ ≠ gb127 ∧ k_ ≠ gb136 ∧ k_ ≠ gb145 ∧ k_ ≠ gb160 ∧ k_ ≠ gb175) (v3p HO173 (fun _ hk => hk.2)) (fun _ hk => ⟨hk.1.1.1, ⟨hk.1.1.2.1, ⟨hk.1.1.2.2.1, ⟨hk.1.1.2.2.2.1, ⟨hk.1.1.2.2.2.2, hk.1.2⟩⟩⟩⟩⟩); have n19_ := kW hw (q3 BK115 NB115_175); have n20_ := kW hw (q3 BK127 NB127_175); have n21_ := kW hw (q3 BK136 NB136_175); have n22_ := kW hw (q3 BK145 NB145_175); have n23_ := kW hw (q3 BK160 NB160_175); have n24_ := kW hw (p3 BK175); have n25_ := bW HB hw; clear hw HO110 HO113 HO122 HO125 HO131 HO134 HO155 HO158 HO170 HO173 BK115 BK127 BK136 BK145 BK160 BK175 HB; have HO110 := n2_; have HO113 := n3_; have HO122 := n5_; have HO125 := n6_; have HO131 := n7_; have HO134 := n8_; have HO155 := n13_; have HO158 := n14_; have HO170 := n17_; have HO173 := n18_; have BK115 := n19_; have BK127 := n20_; have BK136 := n21_; have BK145 := n22_; have BK160 := n23_; have BK175 := n24_; have HB := n25_; clear n2_ n3_ n5_ n6_ n7_ n8_ n13_ n14_ n17_ n18_ n19_ n20_ n21_ n22_ n23_ n24_ n25_; obtain ⟨⟨hcz117_0, hcz117_1, hcz117_2⟩, hfz117_0, hfz117_1, hfz117_2⟩ := cE BK160; obtain ⟨⟨hcz118_0, hcz118_1, hcz118_2⟩, hfz118_0, hfz118_1, hfz118_2⟩ := cE BK175) | ((with_reducible refine gc 92 rfl ?_); refine gL 51 Try.func92 #[.agg #[.bool t152, .slice Ao100 t153.length co100, .slice Ao101 t156.length co101], .agg #[.bool t167, .slice Ao114 t168.length co114, .slice Ao115 t171.length co115]] ?_; (with_reducible refine (ratio_R_Div.calls k t152 (fun k_ => (k_ ≠ gb115 ∧ (k_ ≠ gb127 ∧ (k_ ≠ gb136 ∧ (k_ ≠ gb145 ∧ (k_ ≠ gb160 ∧ k_ ≠ gb175)))))) _ _ t153 (fun k_ => (k_ ≠ gb115 ∧ (k_ ≠ gb127 ∧ (k_ ≠ gb136 ∧ (k_ ≠ gb145 ∧ (k_ ≠ gb160 ∧ k_ ≠ gb175)))))) _ _ t156 t167 (fun k_ => (k_ ≠ gb115 ∧ (k_ ≠ gb127 ∧ (k_ ≠ gb136 ∧ (k_ ≠ gb145 ∧ (k_ ≠ gb160 ∧ k_ ≠ gb175)))))) _ _ t168 (fun k_ => (k_ ≠ gb115 ∧ (k_ ≠ gb127 ∧ (k_ ≠ gb136 ∧ (k_ ≠ gb145 ∧ (k_ ≠ gb160 ∧ k_ ≠ gb175)))))) _ _ t171 t176 t177 t180 t183 _ ?_ ?_ ?_ ?_ A14.out).mono ?_); exact HO155.out; exact HO158.out; exact HO170.out; exact HO173.out; rintro e w119 ⟨v178, v181, rfl, ho0, ho1, hb⟩; refine ⟨_, rfl, ?_⟩; replace HO110 := vA HO110 hb; replace HO113 := vA HO113 hb; replace HO122 := vA HO122 hb; replace HO125 := vA HO125 hb; replace HO131 := vA HO131 hb; replace HO134 := vA HO134 hb; replace HO155 := vA HO155 hb; replace HO158 := vA HO158 hb; replace HO170 := vA HO170 hb; replace HO173 := vA HO173 hb; have HO179 := lw HB (fun k_ => k_ ≠ gb115 ∧ k_ ≠ gb127 ∧ k_ ≠ gb136 ∧ k_ ≠ gb145 ∧ k_ ≠ gb160 ∧ k_ ≠ gb175) ho0 (fun k_ hk_ => Or.elim hk_ (fun hs_ => Or.elim hs_ id (fun hs_ => Or.elim hs_ id (fun hs_ => Or.elim hs_ id id))) (fun hn_ => ⟨kF BK115 hn_, kF BK127 hn_, kF BK136 hn_, kF BK145 hn_, kF BK160 hn_, kF BK175 hn_⟩)); have HO182 := lw HB (fun k_ => k_ ≠ gb115 ∧ k_ ≠ gb127 ∧ k_ ≠ gb136 ∧ k_ ≠ gb145 ∧ k_ ≠ gb160 ∧ k_ ≠ gb175) ho1 (fun k_ hk_ => Or.elim hk_ (fun hs_ => Or.elim hs_ id (fun hs_ => Or.elim hs_ id (fun hs_ => Or.elim hs_ id id))) (fun hn_ => ⟨kF BK115 hn_, kF BK127 hn_, kF BK136 hn_, kF BK145 hn_, kF BK160 hn_, kF BK175 hn_⟩)); replace BK115 := kA BK115 hb; replace BK127 := kA BK127 hb; replace BK136 := kA BK136 hb; replace BK145 := kA BK145 hb; replace BK160 := kA BK160 hb; replace BK175 := kA BK175 hb; replace HB := bS HB hb; clear hb ho0 ho1) | ((with_reducible refine gd 13 rfl ?_); (try (refine gate_guard (by rfl) ?_; dsimp only)); refine bx 13 #[.bool false, .slice none 0 0, .slice none 0 0] ?_; intro gb184 hg w120 hbox hb; replace HO110 := vE HO110 hg hb; replace HO113 := vE HO113 hg hb; replace HO122 := vE HO122 hg hb; replace HO125 := vE HO125 hg hb; replace HO131 := vE HO131 hg hb; replace HO134 := vE HO134 hg hb; replace HO155 := vE HO155 hg hb; replace HO158 := vE HO158 hg hb; replace HO170 := vE HO170 hg hb; replace HO173 := vE HO173 hg hb; replace HO179 := vE HO179 hg hb; replace HO182 := vE HO182 hg hb; have BK184 := Aside0.mk hbox; have GE184 := gS' hg HB; replace HB := bS HB hb; have NB115_184 := nL hg BK115; have NB184_115 := nR hg BK115; replace BK115 := kA BK115 hb; have NB127_184 := nL hg BK127; have NB184_127 := nR hg BK127; replace BK127 := kA BK127 hb; have NB136_184 := nL hg BK136; have NB184_136 := nR hg BK136; replace BK136 := kA BK136 hb; have NB145_184 := nL hg BK145; have NB184_145 := nR hg BK145; replace BK145 := kA BK145 hb; have NB160_184 := nL hg BK160; have NB184_160 := nR hg BK160; replace BK160 := kA BK160 hb; have NB175_184 := nL hg BK175; have NB184_175 := nR hg BK175; replace BK175 := kA BK175 hb; clear hb hbox hg; have hnb121 := NB184_115.out; have hnc121 := NB115_184.out; have hnb122 := NB184_127.out; have hnc122 := NB127_184.out; have hnb123 := NB184_136.out; have hnc123 := NB136_184.out; have hnb124 := NB184_145.out; have hnc124 := NB145_184.out; have hnb125 := NB184_160.out; have hnc125 := NB160_184.out; have hnb126 := NB184_175.out; have hnc126 := NB175_184.out; obtain ⟨⟨hcz127_0, hcz127_1, hcz127_2⟩, hfz127_0, hfz127_1, hfz127_2⟩ := cE BK184; obtain ⟨Ao128, co128, eo128⟩ := Kd.V_slice HO179.out; subst eo128; obtain ⟨Ao129, co129, eo129⟩ := Kd.V_slice HO182.out; subst eo129))
 generalize hw : (((w120.setCell ⟨gb184, 0, none⟩ (.bool t176)).setCell ⟨gb184, 1, none⟩ (.slice Ao128 t177.length co128)).setCell ⟨gb184, 2, none⟩ (.slice Ao129 t180.length co129)) = w130
 replace hw := hw.symm
 replace HO110 := vW hw (fun k_ => k_ ≠ gb115 ∧ k_ ≠ gb127 ∧ k_ ≠ gb136 ∧ k_ ≠ gb145 ∧ k_ ≠ gb160 ∧ k_ ≠ gb175 ∧ k_ ≠ gb184) (v3p HO110 (fun _ hk => hk.2)) (fun _ hk => ⟨hk.1.1.1, ⟨hk.1.1.2.1, ⟨hk.1.1.2.2.1, ⟨hk.1.1.2.2.2.1, ⟨hk.1.1.2.2.2.2.1, ⟨hk.1.1.2.2.2.2.2, hk.1.2⟩⟩⟩⟩⟩⟩)
 replace HO113 := vW hw (fun k_ => k_ ≠ gb115 ∧ k_ ≠ gb127 ∧ k_ ≠ gb136 ∧ k_ ≠ gb145 ∧ k_ ≠ gb160 ∧ k_ ≠ gb175 ∧ k_ ≠ gb184) (v3p HO113 (fun _ hk => hk.2)) (fun _ hk => ⟨hk.1.1.1, ⟨hk.1.1.2.1, ⟨hk.1.1.2.2.1, ⟨hk.1.1.2.2.2.1, ⟨hk.1.1.2.2.2.2.1, ⟨hk.1.1.2.2.2.2.2, hk.1.2⟩⟩⟩⟩⟩⟩)
 replace HO122 := vW hw (fun k_ => k_ ≠ gb115 ∧ k_ ≠ gb127 ∧ k_ ≠ gb136 ∧ k_ ≠ gb145 ∧ k_ ≠ gb160 ∧ k_ ≠ gb175 ∧ k_ ≠ gb184) (v3p HO122 (fun _ hk => hk.2)) (fun _ hk => ⟨hk.1.1.1, ⟨hk.1.1.2.1, ⟨hk.1.1.2.2.1, ⟨hk.1.1.2.2.2.1, ⟨hk.1.1.2.2.2.2.1, ⟨hk.1.1.2.2.2.2.2, hk.1.2⟩⟩⟩⟩⟩⟩)
 replace HO125 := vW hw (fun k_ => k_ ≠ gb115 ∧ k_ ≠ gb127 ∧ k_ ≠ gb136 ∧ k_ ≠ gb145 ∧ k_ ≠ gb160 ∧ k_ ≠ gb175 ∧ k_ ≠ gb184) (v3p HO125 (fun _ hk => hk.2)) (fun _ hk => ⟨hk.1.1.1, ⟨hk.1.1.2.1, ⟨hk.1.1.2.2.1, ⟨hk.1.1.2.2.2.1, ⟨hk.1.1.2.2.2.2.1, ⟨hk.1.1.2.2.2.2.2, hk.1.2⟩⟩⟩⟩⟩⟩)
 replace HO131 := vW hw (fun k_ => k_ ≠ gb115 ∧ k_ ≠ gb127 ∧ k_ ≠ gb136 ∧ k_ ≠ gb145 ∧ k_ ≠ gb160 ∧ k_ ≠ gb175 ∧ k_ ≠ gb184) (v3p HO131 (fun _ hk => hk.2)) (fun _ hk => ⟨hk.1.1.1, ⟨hk.1.1.2.1, ⟨hk.1.1.2.2.1, ⟨hk.1.1.2.2.2.1, ⟨hk.1.1.2.2.2.2.1, ⟨hk.1.1.2.2.2.2.2, hk.1.2⟩⟩⟩⟩⟩⟩)
 replace HO134 := vW hw (fun k_ => k_ ≠ gb115 ∧ k_ ≠ gb127 ∧ k_ ≠ gb136 ∧ k_ ≠ gb145 ∧ k_ ≠ gb160 ∧ k_ ≠ gb175 ∧ k_ ≠ gb184) (v3p HO134 (fun _ hk => hk.2)) (fun _ hk => ⟨hk.1.1.1, ⟨hk.1.1.2.1, ⟨hk.1.1.2.2.1, ⟨hk.1.1.2.2.2.1, ⟨hk.1.1.2.2.2.2.1, ⟨hk.1.1.2.2.2.2.2, hk.1.2⟩⟩⟩⟩⟩⟩)
 replace HO155 := vW hw (fun k_ => k_ ≠ gb115 ∧ k_ ≠ gb127 ∧ k_ ≠ gb136 ∧ k_ ≠ gb145 ∧ k_ ≠ gb160 ∧ k_ ≠ gb175 ∧ k_ ≠ gb184) (v3p HO155 (fun _ hk => hk.2)) (fun _ hk => ⟨hk.1.1.1, ⟨hk.1.1.2.1, ⟨hk.1.1.2.2.1, ⟨hk.1.1.2.2.2.1, ⟨hk.1.1.2.2.2.2.1, ⟨hk.1.1.2.2.2.2.2, hk.1.2⟩⟩⟩⟩⟩⟩)
 replace HO158 := vW hw (fun k_ => k_ ≠ gb115 ∧ k_ ≠ gb127 ∧ k_ ≠ gb136 ∧ k_ ≠ gb145 ∧ k_ ≠ gb160 ∧ k_ ≠ gb175 ∧ k_ ≠ gb184) (v3p HO158 (fun _ hk => hk.2)) (fun _ hk => ⟨hk.1.1.1, ⟨hk.1.1.2.1, ⟨hk.1.1.2.2.1, ⟨hk.1.1.2.2.2.1, ⟨hk.1.1.2.2.2.2.1, ⟨hk.1.1.2.2.2.2.2, hk.1.2⟩⟩⟩⟩⟩⟩)
 replace HO170 := vW hw (fun k_ => k_ ≠ gb115 ∧ k_ ≠ gb127 ∧ k_ ≠ gb136 ∧ k_ ≠ gb145 ∧ k_ ≠ gb160 ∧ k_ ≠ gb175 ∧ k_ ≠ gb184) (v3p HO170 (fun _ hk => hk.2)) (fun _ hk => ⟨hk.1.1.1, ⟨hk.1.1.2.1, ⟨hk.1.1.2.2.1, ⟨hk.1.1.2.2.2.1, ⟨hk.1.1.2.2.2.2.1, ⟨hk.1.1.2.2.2.2.2, hk.1.2⟩⟩⟩⟩⟩⟩)
 replace HO173 := vW hw (fun k_ => k_ ≠ gb115 ∧ k_ ≠ gb127 ∧ k_ ≠ gb136 ∧ k_ ≠ gb145 ∧ k_ ≠ gb160 ∧ k_ ≠ gb175 ∧ k_ ≠ gb184) (v3p HO173 (fun _ hk => hk.2)) (fun _ hk => ⟨hk.1.1.1, ⟨hk.1.1.2.1, ⟨hk.1.1.2.2.1, ⟨hk.1.1.2.2.2.1, ⟨hk.1.1.2.2.2.2.1, ⟨hk.1.1.2.2.2.2.2, hk.1.2⟩⟩⟩⟩⟩⟩)
 replace HO179 := vW hw (fun k_ => k_ ≠ gb115 ∧ k_ ≠ gb127 ∧ k_ ≠ gb136 ∧ k_ ≠ gb145 ∧ k_ ≠ gb160 ∧ k_ ≠ gb175 ∧ k_ ≠ gb184) (v3p HO179 (fun _ hk => hk.2)) (fun _ hk => ⟨hk.1.1.1, ⟨hk.1.1.2.1, ⟨hk.1.1.2.2.1, ⟨hk.1.1.2.2.2.1, ⟨hk.1.1.2.2.2.2.1, ⟨hk.1.1.2.2.2.2.2, hk.1.2⟩⟩⟩⟩⟩⟩)
 replace HO182 := vW hw (fun k_ => k_ ≠ gb115 ∧ k_ ≠ gb127 ∧ k_ ≠ gb136 ∧ k_ ≠ gb145 ∧ k_ ≠ gb160 ∧ k_ ≠ gb175 ∧ k_ ≠ gb184) (v3p HO182 (fun _ hk => hk.2)) (fun _ hk => ⟨hk.1.1.1, ⟨hk.1.1.2.1, ⟨hk.1.1.2.2.1, ⟨hk.1.1.2.2.2.1, ⟨hk.1.1.2.2.2.2.1, ⟨hk.1.1.2.2.2.2.2, hk.1.2⟩⟩⟩⟩⟩⟩)
 replace BK115 := kW hw (q3 BK115 NB115_184)
 replace BK127 := kW hw (q3 BK127 NB127_184)
 replace BK136 := kW hw (q3 BK136 NB136_184)
 replace BK145 := kW hw (q3 BK145 NB145_184)
 replace BK160 := kW hw (q3 BK160 NB160_184)
 replace BK175 := kW hw (q3 BK175 NB175_184)
 replace BK184 := kW hw (p3 BK184)
 replace HB := bW HB hw
 clear hw
 replace HO110 := vd HO110
 replace HO113 := vd HO113
 replace HO122 := vd HO122
 replace HO125 := vd HO125
 replace HO131 := vd HO131
 replace HO134 := vd HO134
 replace HO155 := vd HO155
 replace HO158 := vd HO158
 replace HO170 := vd HO170
 replace HO173 := vd HO173
 replace HO179 := vd HO179
 replace HO182 := vd HO182
 replace BK115 := kd BK115
 replace BK127 := kd BK127
 replace BK136 := kd BK136
 replace BK145 := kd BK145
 replace BK160 := kd BK160
 replace BK175 := kd BK175
 replace BK184 := kd BK184
 replace HB := bd HB
 refine st (S := fun w' => B3 w' gb115 (.bool t107) (.slice Ao61 t108.length co61) (.slice Ao62 t111.length co62) ∧ B3 w' gb127 (.bool t119) (.slice Ao69 t120.length co69) (.slice Ao70 t123.length co70) ∧ B3 w' gb136 (.bool t128) (.slice Ao76 t129.length co76) (.slice Ao77 t132.length co77) ∧ B3 w' gb160 (.bool t152) (.slice Ao100 t153.length co100) (.slice Ao101 t156.length co101) ∧ B3 w' gb175 (.bool t167) (.slice Ao114 t168.length co114) (.slice Ao115 t171.length co115) ∧ B3 w' gb184 (.bool t176) (.slice Ao128 t177.length co128) (.slice Ao129 t180.length co129)) 105 [] (tf 0 105) ⟨b3 BK115, b3 BK127, b3 BK136, b3 BK160, b3 BK175, b3 BK184⟩ (fun hHeld => ?_); refine with_tabW flyballlaw03_works.tab8 flyballlaw03_works.bits8 (fun HT_ HW_ => ?_)
 generalize w130.drew = w131 at HO110 HO113 HO122 HO125 HO131 HO134 HO155 HO158 HO170 HO173 HO179 HO182 BK115 BK127 BK136 BK145 BK160 BK175 BK184 HB hHeld ⊢
 refine tk 0 54 (tf 1 104) hHeld ?_
 refine on 1 (some 55) (tf 2 103) (fun K hK => ?_)
 refine gS Try.func100 #[.agg #[.bool t107, .slice Ao61 t108.length co61, .slice Ao62 t111.length co62]] ?_
 with_reducible refine (ratio_R_Text.calls k t107 _ _ t108 _ _ t111 t185 _ ?_ ?_ ?_ ?_ A15.out).mono ?_
 exact cup ((Kd.V_reads' HO110.out).2.2)
 exact (Kd.V_reads' HO110.out).2.1
 exact cup ((Kd.V_reads' HO113.out).2.2)
 exact (Kd.V_reads' HO113.out).2.1
 rintro e w132 ⟨rfl, hb⟩
 refine ⟨_, rfl, ?_⟩
 replace HO110 := vA HO110 hb
 replace HO113 := vA HO113 hb
 replace HO122 := vA HO122 hb
 replace HO125 := vA HO125 hb
 replace HO131 := vA HO131 hb
 replace HO134 := vA HO134 hb
 replace HO155 := vA HO155 hb
 replace HO158 := vA HO158 hb
 replace HO170 := vA HO170 hb
 replace HO173 := vA HO173 hb
 replace HO179 := vA HO179 hb
 replace HO182 := vA HO182 hb
 replace BK115 := kA BK115 hb
 replace BK127 := kA BK127 hb
 replace BK136 := kA BK136 hb
 replace BK145 := kA BK145 hb
 replace BK160 := kA BK160 hb
 replace BK175 := kA BK175 hb
 replace BK184 := kA BK184 hb
 replace HB := bS HB hb
 clear hb
 refine hK.out _ _ ⟨b3 BK115, b3 BK127, b3 BK136, b3 BK160, b3 BK175, b3 BK184⟩ (fun hHeld => nm ?_)
 clear hK K
 refine pu 2 56 (tf 3 102) ?_
 refine pu 3 57 (tf 4 101) ?_
 refine pu 4 58 (tf 5 100) ?_
 refine pu 5 59 (tf 6 99) ?_
 refine pu 6 60 (tf 7 98) ?_
 refine pu 7 61 (tf 8 97) ?_
 refine tk 8 62 (tf 9 96) hHeld ?_
 refine on 9 (some 63) (tf 10 95) (fun K hK => ?_)
 refine gS Try.func100 #[.agg #[.bool t119, .slice Ao69 t120.length co69, .slice Ao70 t123.length co70]] ?_
 with_reducible refine (ratio_R_Text.calls k t119 _ _ t120 _ _ t123 t186 _ ?_ ?_ ?_ ?_ A18.out).mono ?_
 exact cup ((Kd.V_reads' HO122.out).2.2)
 exact (Kd.V_reads' HO122.out).2.1
 exact cup ((Kd.V_reads' HO125.out).2.2)
 exact (Kd.V_reads' HO125.out).2.1
 rintro e w133 ⟨rfl, hb⟩
 refine ⟨_, rfl, ?_⟩
 replace HO110 := vA HO110 hb
 replace HO113 := vA HO113 hb
 replace HO131 := vA HO131 hb
 replace HO134 := vA HO134 hb
 replace HO155 := vA HO155 hb
 replace HO158 := vA HO158 hb
 replace HO170 := vA HO170 hb
 replace HO173 := vA HO173 hb
 replace HO179 := vA HO179 hb
 replace HO182 := vA HO182 hb
 replace BK115 := kA BK115 hb
 replace BK127 := kA BK127 hb
 replace BK136 := kA BK136 hb
 replace BK145 := kA BK145 hb
 replace BK160 := kA BK160 hb
 replace BK175 := kA BK175 hb
 replace BK184 := kA BK184 hb
 replace HB := bS HB hb
 clear HO122 HO125
 clear hb
 refine hK.out _ _ ⟨b3 BK115, b3 BK127, b3 BK136, b3 BK160, b3 BK175, b3 BK184⟩ (fun hHeld => nm ?_)
 clear hK K
 refine pu 10 64 (tf 11 94) ?_
 refine pu 11 65 (tf 12 93) ?_
 refine pu 12 66 (tf 13 92) ?_
 refine pu 13 67 (tf 14 91) ?_
 refine pu 14 68 (tf 15 90) ?_
 refine pu 15 69 (tf 16 89) ?_
 refine pu 16 70 (tf 17 88) ?_
 refine tk 17 71 (tf 18 87) hHeld ?_
 refine on 18 (some 72) (tf 19 86) (fun K hK => ?_)
 refine gS Try.func100 #[.agg #[.bool t128, .slice Ao76 t129.length co76, .slice Ao77 t132.length co77]] ?_
 with_reducible refine (ratio_R_Text.calls k t128 _ _ t129 _ _ t132 t187 _ ?_ ?_ ?_ ?_ A21.out).mono ?_
 exact cup ((Kd.V_reads' HO131.out).2.2)
 exact (Kd.V_reads' HO131.out).2.1
 exact cup ((Kd.V_reads' HO134.out).2.2)
 exact (Kd.V_reads' HO134.out).2.1
 rintro e w134 ⟨rfl, hb⟩
 refine ⟨_, rfl, ?_⟩
 replace HO110 := vA HO110 hb
 replace HO113 := vA HO113 hb
 replace HO131 := vA HO131 hb
 replace HO134 := vA HO134 hb
 replace HO155 := vA HO155 hb
 replace HO158 := vA HO158 hb
 replace HO170 := vA HO170 hb
 replace HO173 := vA HO173 hb
 replace HO179 := vA HO179 hb
 replace HO182 := vA HO182 hb
 replace BK115 := kA BK115 hb
 replace BK127 := kA BK127 hb
 replace BK136 := kA BK136 hb
 replace BK145 := kA BK145 hb
 replace BK160 := kA BK160 hb
 replace BK175 := kA BK175 hb
 replace BK184 := kA BK184 hb
 replace HB := bS HB hb
 clear hb
 refine hK.out _ _ ⟨b3 BK115, b3 BK127, b3 BK136, b3 BK160, b3 BK175, b3 BK184⟩ (fun hHeld => nm ?_)
 clear hK K
 refine pu 19 73 (tf 20 85) ?_
 refine pu 20 74 (tf 21 84) ?_
 refine pu 21 75 (tf 22 83) ?_
 refine pu 22 76 (tf 23 82) ?_
 refine pu 23 77 (tf 24 81) ?_
 refine pu 24 78 (tf 25 80) ?_
 refine pu 25 79 (tf 26 79) ?_
 refine pu 26 80 (tf 27 78) ?_
 refine pu 27 81 (tf 28 77) ?_
 refine pu 28 82 (tf 29 76) ?_
 refine pu 29 83 (tf 30 75) ?_
 refine tk 30 84 (tf 31 74) hHeld ?_
 refine tk 31 85 (tf 32 73) hHeld ?_
 refine on 32 (some 86) (tf 33 72) (fun K hK => ?_)
 refine gS Try.func86 #[.agg #[.bool t152, .slice Ao100 t153.length co100, .slice Ao101 t156.length co101], .agg #[.bool t167, .slice Ao114 t168.length co114, .slice Ao115 t171.length co115]] ?_
 with_reducible refine (ratio_R_Add.calls k t152 (fun k_ => (k_ ≠ gb115 ∧ (k_ ≠ gb127 ∧ (k_ ≠ gb136 ∧ (k_ ≠ gb145 ∧ (k_ ≠ gb160 ∧ (k_ ≠ gb175 ∧ k_ ≠ gb184))))))) _ _ t153 (fun k_ => (k_ ≠ gb115 ∧ (k_ ≠ gb127 ∧ (k_ ≠ gb136 ∧ (k_ ≠ gb145 ∧ (k_ ≠ gb160 ∧ (k_ ≠ gb175 ∧ k_ ≠ gb184))))))) _ _ t156 t167 (fun k_ => (k_ ≠ gb115 ∧ (k_ ≠ gb127 ∧ (k_ ≠ gb136 ∧ (k_ ≠ gb145 ∧ (k_ ≠ gb160 ∧ (k_ ≠ gb175 ∧ k_ ≠ gb184))))))) _ _ t168 (fun k_ => (k_ ≠ gb115 ∧ (k_ ≠ gb127 ∧ (k_ ≠ gb136 ∧ (k_ ≠ gb145 ∧ (k_ ≠ gb160 ∧ (k_ ≠ gb175 ∧ k_ ≠ gb184))))))) _ _ t171 t188 t189 t192 _ ?_ ?_ ?_ ?_ A25.out).mono ?_
 exact HO155.out
 exact HO158.out
 exact HO170.out
 exact HO173.out
 rintro e w135 ⟨v190, v193, rfl, ho0, ho1, hb⟩
 refine ⟨_, rfl, ?_⟩
 replace HO110 := vA HO110 hb
 replace HO113 := vA HO113 hb
 replace HO131 := vA HO131 hb
 replace HO134 := vA HO134 hb
 replace HO155 := vA HO155 hb
 replace HO158 := vA HO158 hb
 replace HO170 := vA HO170 hb
 replace HO173 := vA HO173 hb
 replace HO179 := vA HO179 hb
 replace HO182 := vA HO182 hb
 have HO191 := lw HB (fun k_ => k_ ≠ gb115 ∧ k_ ≠ gb127 ∧ k_ ≠ gb136 ∧ k_ ≠ gb145 ∧ k_ ≠ gb160 ∧ k_ ≠ gb175 ∧ k_ ≠ gb184) ho0 (fun k_ hk_ => Or.elim hk_ (fun hs_ => Or.elim hs_ id (fun hs_ => Or.elim hs_ id (fun hs_ => Or.elim hs_ id id))) (fun hn_ => ⟨kF BK115 hn_, kF BK127 hn_, kF BK136 hn_, kF BK145 hn_, kF BK160 hn_, kF BK175 hn_, kF BK184 hn_⟩))
 have HO194 := lw HB (fun k_ => k_ ≠ gb115 ∧ k_ ≠ gb127 ∧ k_ ≠ gb136 ∧ k_ ≠ gb145 ∧ k_ ≠ gb160 ∧ k_ ≠ gb175 ∧ k_ ≠ gb184) ho1 (fun k_ hk_ => Or.elim hk_ (fun hs_ => Or.elim hs_ id (fun hs_ => Or.elim hs_ id (fun hs_ => Or.elim hs_ id id))) (fun hn_ => ⟨kF BK115 hn_, kF BK127 hn_, kF BK136 hn_, kF BK145 hn_, kF BK160 hn_, kF BK175 hn_, kF BK184 hn_⟩))
 replace BK115 := kA BK115 hb
 replace BK127 := kA BK127 hb
 replace BK136 := kA BK136 hb
 replace BK145 := kA BK145 hb
 replace BK160 := kA BK160 hb
 replace BK175 := kA BK175 hb
 replace BK184 := kA BK184 hb
 replace HB := bS HB hb
 clear hb ho0 ho1
 obtain ⟨Ao136, co136, eo136⟩ := Kd.V_slice HO191.out
 (first | subst eo136 | (injection eo136 with f1_ f2_ f3_; have f4_ := f1_.symm; have f5_ := f3_.symm; clear f1_ f2_ f3_; subst f4_; subst f5_))
 obtain ⟨Ao137, co137, eo137⟩ := Kd.V_slice HO194.out
 (first | subst eo137 | (injection eo137 with f1_ f2_ f3_; have f4_ := f1_.symm; have f5_ := f3_.symm; clear f1_ f2_ f3_; subst f4_; subst f5_))
 refine hK.out _ _ ⟨b3 BK115, b3 BK127, b3 BK136, b3 BK160, b3 BK175, b3 BK184⟩ (fun hHeld => nm ?_)
 clear hK K
 refine on 33 (some 87) (tf 34 71) (fun K hK => ?_)
 refine gS Try.func100 #[.agg #[.bool t188, .slice Ao136 t189.length co136, .slice Ao137 t192.length co137]] ?_
 with_reducible refine (ratio_R_Text.calls k t188 _ _ t189 _ _ t192 t195 _ ?_ ?_ ?_ ?_ A26.out).mono ?_
 exact cup ((Kd.V_reads' HO191.out).2.2)
 exact (Kd.V_reads' HO191.out).2.1
 exact cup ((Kd.V_reads' HO194.out).2.2)
 exact (Kd.V_reads' HO194.out).2.1
 rintro e w138 ⟨rfl, hb⟩
 refine ⟨_, rfl, ?_⟩
 replace HO110 := vA HO110 hb
 replace HO113 := vA HO113 hb
 replace HO131 := vA HO131 hb
 replace HO134 := vA HO134 hb
 replace HO155 := vA HO155 hb
 replace HO158 := vA HO158 hb
 replace HO170 := vA HO170 hb
 replace HO173 := vA HO173 hb
 replace HO179 := vA HO179 hb
 replace HO182 := vA HO182 hb
 replace BK115 := kA BK115 hb
 replace BK127 := kA BK127 hb
 replace BK136 := kA BK136 hb
 replace BK145 := kA BK145 hb
 replace BK160 := kA BK160 hb
 replace BK175 := kA BK175 hb
 replace BK184 := kA BK184 hb
 replace HB := bS HB hb
 clear HO191 HO194
 clear hb
 refine hK.out _ _ ⟨b3 BK115, b3 BK127, b3 BK136, b3 BK160, b3 BK175, b3 BK184⟩ (fun hHeld => nm ?_)
 clear hK K
 refine pu 34 88 (tf 35 70) ?_
 refine pu 35 89 (tf 36 69) ?_
 refine pu 36 90 (tf 37 68) ?_
 refine tk 37 91 (tf 38 67) hHeld ?_
 refine tk 38 92 (tf 39 66) hHeld ?_
 refine on 39 (some 93) (tf 40 65) (fun K hK => ?_)
 refine gS Try.func88 #[.agg #[.bool t152, .slice Ao100 t153.length co100, .slice Ao101 t156.length co101], .agg #[.bool t167, .slice Ao114 t168.length co114, .slice Ao115 t171.length co115]] ?_
 with_reducible refine (ratio_R_Sub.calls k t152 (fun k_ => (k_ ≠ gb115 ∧ (k_ ≠ gb127 ∧ (k_ ≠ gb136 ∧ (k_ ≠ gb145 ∧ (k_ ≠ gb160 ∧ (k_ ≠ gb175 ∧ k_ ≠ gb184))))))) _ _ t153 (fun k_ => (k_ ≠ gb115 ∧ (k_ ≠ gb127 ∧ (k_ ≠ gb136 ∧ (k_ ≠ gb145 ∧ (k_ ≠ gb160 ∧ (k_ ≠ gb175 ∧ k_ ≠ gb184))))))) _ _ t156 t167 (fun k_ => (k_ ≠ gb115 ∧ (k_ ≠ gb127 ∧ (k_ ≠ gb136 ∧ (k_ ≠ gb145 ∧ (k_ ≠ gb160 ∧ (k_ ≠ gb175 ∧ k_ ≠ gb184))))))) _ _ t168 (fun k_ => (k_ ≠ gb115 ∧ (k_ ≠ gb127 ∧ (k_ ≠ gb136 ∧ (k_ ≠ gb145 ∧ (k_ ≠ gb160 ∧ (k_ ≠ gb175 ∧ k_ ≠ gb184))))))) _ _ t171 t196 t197 t200 _ ?_ ?_ ?_ ?_ A28.out).mono ?_
 exact HO155.out
 exact HO158.out
 exact HO170.out
 exact HO173.out
 rintro e w139 ⟨v198, v201, rfl, ho0, ho1, hb⟩
 refine ⟨_, rfl, ?_⟩
 replace HO110 := vA HO110 hb
 replace HO113 := vA HO113 hb
 replace HO131 := vA HO131 hb
 replace HO134 := vA HO134 hb
 replace HO155 := vA HO155 hb
 replace HO158 := vA HO158 hb
 replace HO170 := vA HO170 hb
 replace HO173 := vA HO173 hb
 replace HO179 := vA HO179 hb
 replace HO182 := vA HO182 hb
 have HO199 := lw HB (fun k_ => k_ ≠ gb115 ∧ k_ ≠ gb127 ∧ k_ ≠ gb136 ∧ k_ ≠ gb145 ∧ k_ ≠ gb160 ∧ k_ ≠ gb175 ∧ k_ ≠ gb184) ho0 (fun k_ hk_ => Or.elim hk_ (fun hs_ => Or.elim hs_ id (fun hs_ => Or.elim hs_ id (fun hs_ => Or.elim hs_ id id))) (fun hn_ => ⟨kF BK115 hn_, kF BK127 hn_, kF BK136 hn_, kF BK145 hn_, kF BK160 hn_, kF BK175 hn_, kF BK184 hn_⟩))
 have HO202 := lw HB (fun k_ => k_ ≠ gb115 ∧ k_ ≠ gb127 ∧ k_ ≠ gb136 ∧ k_ ≠ gb145 ∧ k_ ≠ gb160 ∧ k_ ≠ gb175 ∧ k_ ≠ gb184) ho1 (fun k_ hk_ => Or.elim hk_ (fun hs_ => Or.elim hs_ id (fun hs_ => Or.elim hs_ id (fun hs_ => Or.elim hs_ id id))) (fun hn_ => ⟨kF BK115 hn_, kF BK127 hn_, kF BK136 hn_, kF BK145 hn_, kF BK160 hn_, kF BK175 hn_, kF BK184 hn_⟩))
 replace BK115 := kA BK115 hb
 replace BK127 := kA BK127 hb
 replace BK136 := kA BK136 hb
 replace BK145 := kA BK145 hb
 replace BK160 := kA BK160 hb
 replace BK175 := kA BK175 hb
 replace BK184 := kA BK184 hb
 replace HB := bS HB hb
 clear hb ho0 ho1
 obtain ⟨Ao140, co140, eo140⟩ := Kd.V_slice HO199.out
 (first | subst eo140 | (injection eo140 with f1_ f2_ f3_; have f4_ := f1_.symm; have f5_ := f3_.symm; clear f1_ f2_ f3_; subst f4_; subst f5_))
 obtain ⟨Ao141, co141, eo141⟩ := Kd.V_slice HO202.out
 (first | subst eo141 | (injection eo141 with f1_ f2_ f3_; have f4_ := f1_.symm; have f5_ := f3_.symm; clear f1_ f2_ f3_; subst f4_; subst f5_))
 refine hK.out _ _ ⟨b3 BK115, b3 BK127, b3 BK136, b3 BK160, b3 BK175, b3 BK184⟩ (fun hHeld => nm ?_)
 clear hK K
 refine on 40 (some 94) (tf 41 64) (fun K hK => ?_)
 refine gS Try.func100 #[.agg #[.bool t196, .slice Ao140 t197.length co140, .slice Ao141 t200.length co141]] ?_
 with_reducible refine (ratio_R_Text.calls k t196 _ _ t197 _ _ t200 t203 _ ?_ ?_ ?_ ?_ A29.out).mono ?_
 exact cup ((Kd.V_reads' HO199.out).2.2)
 exact (Kd.V_reads' HO199.out).2.1
 exact cup ((Kd.V_reads' HO202.out).2.2)
 exact (Kd.V_reads' HO202.out).2.1
 rintro e w142 ⟨rfl, hb⟩
 refine ⟨_, rfl, ?_⟩
 replace HO110 := vA HO110 hb
 replace HO113 := vA HO113 hb
 replace HO131 := vA HO131 hb
 replace HO134 := vA HO134 hb
 replace HO155 := vA HO155 hb
 replace HO158 := vA HO158 hb
 replace HO170 := vA HO170 hb
 replace HO173 := vA HO173 hb
 replace HO179 := vA HO179 hb
 replace HO182 := vA HO182 hb
 replace BK115 := kA BK115 hb
 replace BK127 := kA BK127 hb
 replace BK136 := kA BK136 hb
 replace BK145 := kA BK145 hb
 replace BK160 := kA BK160 hb
 replace BK175 := kA BK175 hb
 replace BK184 := kA BK184 hb
 replace HB := bS HB hb
 clear HO199 HO202
 clear hb
 refine hK.out _ _ ⟨b3 BK115, b3 BK127, b3 BK136, b3 BK160, b3 BK175, b3 BK184⟩ (fun hHeld => nm ?_)
 clear hK K
 refine pu 41 95 (tf 42 63) ?_
 refine pu 42 96 (tf 43 62) ?_
 refine pu 43 97 (tf 44 61) ?_
 refine tk 44 98 (tf 45 60) hHeld ?_
 refine tk 45 99 (tf 46 59) hHeld ?_
 refine on 46 (some 100) (tf 47 58) (fun K hK => ?_)
 refine gS Try.func90 #[.agg #[.bool t152, .slice Ao100 t153.length co100, .slice Ao101 t156.length co101], .agg #[.bool t167, .slice Ao114 t168.length co114, .slice Ao115 t171.length co115]] ?_
 with_reducible refine (ratio_R_Mul.calls k t152 (fun k_ => (k_ ≠ gb115 ∧ (k_ ≠ gb127 ∧ (k_ ≠ gb136 ∧ (k_ ≠ gb145 ∧ (k_ ≠ gb160 ∧ (k_ ≠ gb175 ∧ k_ ≠ gb184))))))) _ _ t153 (fun k_ => (k_ ≠ gb115 ∧ (k_ ≠ gb127 ∧ (k_ ≠ gb136 ∧ (k_ ≠ gb145 ∧ (k_ ≠ gb160 ∧ (k_ ≠ gb175 ∧ k_ ≠ gb184))))))) _ _ t156 t167 (fun k_ => (k_ ≠ gb115 ∧ (k_ ≠ gb127 ∧ (k_ ≠ gb136 ∧ (k_ ≠ gb145 ∧ (k_ ≠ gb160 ∧ (k_ ≠ gb175 ∧ k_ ≠ gb184))))))) _ _ t168 (fun k_ => (k_ ≠ gb115 ∧ (k_ ≠ gb127 ∧ (k_ ≠ gb136 ∧ (k_ ≠ gb145 ∧ (k_ ≠ gb160 ∧ (k_ ≠ gb175 ∧ k_ ≠ gb184))))))) _ _ t171 t204 t205 t208 _ ?_ ?_ ?_ ?_ A31.out).mono ?_
 exact HO155.out
 exact HO158.out
 exact HO170.out
 exact HO173.out
 rintro e w143 ⟨v206, v209, rfl, ho0, ho1, hb⟩
 refine ⟨_, rfl, ?_⟩
 replace HO110 := vA HO110 hb
 replace HO113 := vA HO113 hb
 replace HO131 := vA HO131 hb
 replace HO134 := vA HO134 hb
 replace HO155 := vA HO155 hb
 replace HO158 := vA HO158 hb
 replace HO170 := vA HO170 hb
 replace HO173 := vA HO173 hb
 replace HO179 := vA HO179 hb
 replace HO182 := vA HO182 hb
 have HO207 := lw HB (fun k_ => k_ ≠ gb115 ∧ k_ ≠ gb127 ∧ k_ ≠ gb136 ∧ k_ ≠ gb145 ∧ k_ ≠ gb160 ∧ k_ ≠ gb175 ∧ k_ ≠ gb184) ho0 (fun k_ hk_ => Or.elim hk_ (fun hs_ => Or.elim hs_ id (fun hs_ => Or.elim hs_ id (fun hs_ => Or.elim hs_ id id))) (fun hn_ => ⟨kF BK115 hn_, kF BK127 hn_, kF BK136 hn_, kF BK145 hn_, kF BK160 hn_, kF BK175 hn_, kF BK184 hn_⟩))
 have HO210 := lw HB (fun k_ => k_ ≠ gb115 ∧ k_ ≠ gb127 ∧ k_ ≠ gb136 ∧ k_ ≠ gb145 ∧ k_ ≠ gb160 ∧ k_ ≠ gb175 ∧ k_ ≠ gb184) ho1 (fun k_ hk_ => Or.elim hk_ (fun hs_ => Or.elim hs_ id (fun hs_ => Or.elim hs_ id (fun hs_ => Or.elim hs_ id id))) (fun hn_ => ⟨kF BK115 hn_, kF BK127 hn_, kF BK136 hn_, kF BK145 hn_, kF BK160 hn_, kF BK175 hn_, kF BK184 hn_⟩))
 replace BK115 := kA BK115 hb
 replace BK127 := kA BK127 hb
 replace BK136 := kA BK136 hb
 replace BK145 := kA BK145 hb
 replace BK160 := kA BK160 hb
 replace BK175 := kA BK175 hb
 replace BK184 := kA BK184 hb
 replace HB := bS HB hb
 clear hb ho0 ho1
 obtain ⟨Ao144, co144, eo144⟩ := Kd.V_slice HO207.out
 (first | subst eo144 | (injection eo144 with f1_ f2_ f3_; have f4_ := f1_.symm; have f5_ := f3_.symm; clear f1_ f2_ f3_; subst f4_; subst f5_))
 obtain ⟨Ao145, co145, eo145⟩ := Kd.V_slice HO210.out
 (first | subst eo145 | (injection eo145 with f1_ f2_ f3_; have f4_ := f1_.symm; have f5_ := f3_.symm; clear f1_ f2_ f3_; subst f4_; subst f5_))
 refine hK.out _ _ ⟨b3 BK115, b3 BK127, b3 BK136, b3 BK160, b3 BK175, b3 BK184⟩ (fun hHeld => nm ?_)
 clear hK K
 refine on 47 (some 101) (tf 48 57) (fun K hK => ?_)
 refine gS Try.func100 #[.agg #[.bool t204, .slice Ao144 t205.length co144, .slice Ao145 t208.length co145]] ?_
 with_reducible refine (ratio_R_Text.calls k t204 _ _ t205 _ _ t208 t211 _ ?_ ?_ ?_ ?_ A32.out).mono ?_
 exact cup ((Kd.V_reads' HO207.out).2.2)
 exact (Kd.V_reads' HO207.out).2.1
 exact cup ((Kd.V_reads' HO210.out).2.2)
 exact (Kd.V_reads' HO210.out).2.1
 rintro e w146 ⟨rfl, hb⟩
 refine ⟨_, rfl, ?_⟩
 replace HO110 := vA HO110 hb
 replace HO113 := vA HO113 hb
 replace HO131 := vA HO131 hb
 replace HO134 := vA HO134 hb
 replace HO155 := vA HO155 hb
 replace HO158 := vA HO158 hb
 replace HO170 := vA HO170 hb
 replace HO173 := vA HO173 hb
 replace HO179 := vA HO179 hb
 replace HO182 := vA HO182 hb
 replace BK115 := kA BK115 hb
 replace BK127 := kA BK127 hb
 replace BK136 := kA BK136 hb
 replace BK145 := kA BK145 hb
 replace BK160 := kA BK160 hb
 replace BK175 := kA BK175 hb
 replace BK184 := kA BK184 hb
 replace HB := bS HB hb
 clear HO207 HO210
 clear hb
 refine hK.out _ _ ⟨b3 BK115, b3 BK127, b3 BK136, b3 BK160, b3 BK175, b3 BK184⟩ (fun hHeld => nm ?_)
 clear hK K
 refine pu 48 102 (tf 49 56) ?_
 refine pu 49 103 (tf 50 55) ?_
 refine pu 50 104 (tf 51 54) ?_
 refine tk 51 105 (tf 52 53) hHeld ?_
 refine on 52 (some 106) (tf 53 52) (fun K hK => ?_)
 refine gS Try.func100 #[.agg #[.bool t176, .slice Ao128 t177.length co128, .slice Ao129 t180.length co129]] ?_
 with_reducible refine (ratio_R_Text.calls k t176 _ _ t177 _ _ t180 t212 _ ?_ ?_ ?_ ?_ A34.out).mono ?_
 exact cup ((Kd.V_reads' HO179.out).2.2)
 exact (Kd.V_reads' HO179.out).2.1
 exact cup ((Kd.V_reads' HO182.out).2.2)
 exact (Kd.V_reads' HO182.out).2.1
 rintro e w147 ⟨rfl, hb⟩
 refine ⟨_, rfl, ?_⟩
 replace HO110 := vA HO110 hb
 replace HO113 := vA HO113 hb
 replace HO131 := vA HO131 hb
 replace HO134 := vA HO134 hb
 replace HO155 := vA HO155 hb
 replace HO158 := vA HO158 hb
 replace HO170 := vA HO170 hb
 replace HO173 := vA HO173 hb
 replace BK115 := kA BK115 hb
 replace BK127 := kA BK127 hb
 replace BK136 := kA BK136 hb
 replace BK145 := kA BK145 hb
 replace BK160 := kA BK160 hb
 replace BK175 := kA BK175 hb
 replace BK184 := kA BK184 hb
 replace HB := bS HB hb
 clear HO179 HO182
 clear hb
 refine hK.out _ _ ⟨b3 BK115, b3 BK127, b3 BK136, b3 BK160, b3 BK175, b3 BK184⟩ (fun hHeld => nm ?_)
 clear hK K
 refine pu 53 107 (tf 54 51) ?_
 refine pu 54 108 (tf 55 50) ?_
 refine pu 55 109 (tf 56 49) ?_
 refine pu 56 110 (tf 57 48) ?_
 refine pu 57 111 (tf 58 47) ?_
 refine pu 58 112 (tf 59 46) ?_
 refine pu 59 113 (tf 60 45) ?_
 refine tk 60 114 (tf 61 44) hHeld ?_
 refine tk 61 115 (tf 62 43) hHeld ?_
 refine on 62 (some 116) (tf 63 42) (fun K hK => ?_)
 refine gS Try.func58 #[.agg #[.bool t152, .slice Ao100 t153.length co100, .slice Ao101 t156.length co101], .agg #[.bool t167, .slice Ao114 t168.length co114, .slice Ao115 t171.length co115]] ?_
 with_reducible refine (ratio_R_Cmp.calls k t152 _ _ t153 _ _ t156 t167 _ _ t168 _ _ t171 t213 _ ?_ ?_ ?_ ?_ ?_ ?_ ?_ ?_ A37.out).mono ?_
 exact cup ((Kd.V_reads' HO155.out).2.2)
 exact (Kd.V_reads' HO155.out).2.1
 exact cup ((Kd.V_reads' HO158.out).2.2)
 exact (Kd.V_reads' HO158.out).2.1
 exact cup ((Kd.V_reads' HO170.out).2.2)
 exact (Kd.V_reads' HO170.out).2.1
 exact cup ((Kd.V_reads' HO173.out).2.2)
 exact (Kd.V_reads' HO173.out).2.1
 rintro e w148 ⟨rfl, hb⟩
 refine ⟨_, rfl, ?_⟩
 replace HO110 := vA HO110 hb
 replace HO113 := vA HO113 hb
 replace HO131 := vA HO131 hb
 replace HO134 := vA HO134 hb
 replace HO155 := vA HO155 hb
 replace HO158 := vA HO158 hb
 replace HO170 := vA HO170 hb
 replace HO173 := vA HO173 hb
 replace BK115 := kA BK115 hb
 replace BK127 := kA BK127 hb
 replace BK136 := kA BK136 hb
 replace BK145 := kA BK145 hb
 replace BK160 := kA BK160 hb
 replace BK175 := kA BK175 hb
 replace BK184 := kA BK184 hb
 replace HB := bS HB hb
 clear hb
 refine hK.out _ _ ⟨b3 BK115, b3 BK127, b3 BK136, b3 BK160, b3 BK175, b3 BK184⟩ (fun hHeld => nm ?_)
 clear hK K
 refine pu 63 117 (tf 64 41) ?_
 refine pu 64 118 (tf 65 40) ?_
 refine pu 65 119 (tf 66 39) ?_
 refine tk 66 120 (tf 67 38) hHeld ?_
 refine tk 68 122 #[true, true, true, true, true, true, true, true, true, true, true, true, true, true, true, true, true, true, true, true, true, true, true, true, true, true, true, true, true, true, true, true, true, true, true, true, true, true, true, true, true, true, true, true, true, true, true, true, true, true, true, true, true, true, true, true, true, true, true, true, true, true, true, true, true, true, true, false, true, false, false, false, false, false, false, false, false, false, false, false, false, false, false, false, false, false, false, false, false, false, false, false, false, false, false, false, false, false, false, false, false, false, false, false, false] hHeld ?_
 refine on 67 (some 121) (tf 69 36) (fun K hK => ?_)
 refine gS Try.func95 #[.agg #[.bool t107, .slice Ao61 t108.length co61, .slice Ao62 t111.length co62]] ?_
 with_reducible refine (ratio_R_Neg1.calls k t107 (fun k_ => (k_ ≠ gb115 ∧ (k_ ≠ gb127 ∧ (k_ ≠ gb136 ∧ (k_ ≠ gb145 ∧ (k_ ≠ gb160 ∧ (k_ ≠ gb175 ∧ k_ ≠ gb184))))))) _ _ t108 (fun k_ => (k_ ≠ gb115 ∧ (k_ ≠ gb127 ∧ (k_ ≠ gb136 ∧ (k_ ≠ gb145 ∧ (k_ ≠ gb160 ∧ (k_ ≠ gb175 ∧ k_ ≠ gb184))))))) _ _ t111 t214 t215 t218 _ ?_ ?_ A39.out).mono ?_
 exact HO110.out
 exact HO113.out
 rintro e w149 ⟨v216, v219, rfl, ho0, ho1, hb⟩
 refine ⟨_, rfl, ?_⟩
 replace HO110 := vA HO110 hb
 replace HO113 := vA HO113 hb
 replace HO131 := vA HO131 hb
 replace HO134 := vA HO134 hb
 replace HO155 := vA HO155 hb
 replace HO158 := vA HO158 hb
 replace HO170 := vA HO170 hb
 replace HO173 := vA HO173 hb
 have HO217 := lw HB (fun k_ => k_ ≠ gb115 ∧ k_ ≠ gb127 ∧ k_ ≠ gb136 ∧ k_ ≠ gb145 ∧ k_ ≠ gb160 ∧ k_ ≠ gb175 ∧ k_ ≠ gb184) ho0 (fun k_ hk_ => Or.elim hk_ (fun hs_ => Or.elim hs_ id id) (fun hn_ => ⟨kF BK115 hn_, kF BK127 hn_, kF BK136 hn_, kF BK145 hn_, kF BK160 hn_, kF BK175 hn_, kF BK184 hn_⟩))
 have HO220 := lw HB (fun k_ => k_ ≠ gb115 ∧ k_ ≠ gb127 ∧ k_ ≠ gb136 ∧ k_ ≠ gb145 ∧ k_ ≠ gb160 ∧ k_ ≠ gb175 ∧ k_ ≠ gb184) ho1 (fun k_ hk_ => Or.elim hk_ (fun hs_ => Or.elim hs_ id id) (fun hn_ => ⟨kF BK115 hn_, kF BK127 hn_, kF BK136 hn_, kF BK145 hn_, kF BK160 hn_, kF BK175 hn_, kF BK184 hn_⟩))
 replace BK115 := kA BK115 hb
 replace BK127 := kA BK127 hb
 replace BK136 := kA BK136 hb
 replace BK145 := kA BK145 hb
 replace BK160 := kA BK160 hb
 replace BK175 := kA BK175 hb
 replace BK184 := kA BK184 hb
 replace HB := bS HB hb
 clear hb ho0 ho1
 obtain ⟨Ao150, co150, eo150⟩ := Kd.V_slice HO217.out
 (first | subst eo150 | (injection eo150 with f1_ f2_ f3_; have f4_ := f1_.symm; have f5_ := f3_.symm; clear f1_ f2_ f3_; subst f4_; subst f5_))
 obtain ⟨Ao151, co151, eo151⟩ := Kd.V_slice HO220.out
 (first | subst eo151 | (injection eo151 with f1_ f2_ f3_; have f4_ := f1_.symm; have f5_ := f3_.symm; clear f1_ f2_ f3_; subst f4_; subst f5_))
 refine hK.out _ _ ⟨b3 BK115, b3 BK127, b3 BK136, b3 BK160, b3 BK175, b3 BK184⟩ (fun hHeld => nm ?_)
 clear hK K
 refine on 69 (some 123) (tf 70 35) (fun K hK => ?_)
 refine gS Try.func58 #[.agg #[.bool t214, .slice Ao150 t215.length co150, .slice Ao151 t218.length co151], .agg #[.bool t128, .slice Ao76 t129.length co76, .slice Ao77 t132.length co77]] ?_
 with_reducible refine (ratio_R_Cmp.calls k t214 _ _ t215 _ _ t218 t128 _ _ t129 _ _ t132 t221 _ ?_ ?_ ?_ ?_ ?_ ?_ ?_ ?_ A40.out).mono ?_
 exact cup ((Kd.V_reads' HO217.out).2.2)
 exact (Kd.V_reads' HO217.out).2.1
 exact cup ((Kd.V_reads' HO220.out).2.2)
 exact (Kd.V_reads' HO220.out).2.1
 exact cup ((Kd.V_reads' HO131.out).2.2)
 exact (Kd.V_reads' HO131.out).2.1
 exact cup ((Kd.V_reads' HO134.out).2.2)
 exact (Kd.V_reads' HO134.out).2.1
 rintro e w152 ⟨rfl, hb⟩
 refine ⟨_, rfl, ?_⟩
 replace HO110 := vA HO110 hb
 replace HO113 := vA HO113 hb
 replace HO131 := vA HO131 hb
 replace HO134 := vA HO134 hb
 replace HO155 := vA HO155 hb
 replace HO158 := vA HO158 hb
 replace HO170 := vA HO170 hb
 replace HO173 := vA HO173 hb
 replace BK115 := kA BK115 hb
 replace BK127 := kA BK127 hb
 replace BK136 := kA BK136 hb
 replace BK145 := kA BK145 hb
 replace BK160 := kA BK160 hb
 replace BK175 := kA BK175 hb
 replace BK184 := kA BK184 hb
 replace HB := bS HB hb
 clear HO217 HO220
 clear hb
 refine hK.out _ _ ⟨b3 BK115, b3 BK127, b3 BK136, b3 BK160, b3 BK175, b3 BK184⟩ (fun hHeld => nm ?_)
 clear hK K
 refine pu 70 124 (tf 71 34) ?_
 refine pu 71 125 (tf 72 33) ?_
 refine pu 72 126 (tf 73 32) ?_
 refine tk 73 127 (tf 74 31) hHeld ?_
 refine tk 75 129 #[true, true, true, true, true, true, true, true, true, true, true, true, true, true, true, true, true, true, true, true, true, true, true, true, true, true, true, true, true, true, true, true, true, true, true, true, true, true, true, true, true, true, true, true, true, true, true, true, true, true, true, true, true, true, true, true, true, true, true, true, true, true, true, true, true, true, true, true, true, true, true, true, true, true, false, true, false, false, false, false, false, false, false, false, false, false, false, false, false, false, false, false, false, false, false, false, false, false, false, false, false, false, false, false, false] hHeld ?_
 refine on 74 (some 128) (tf 76 29) (fun K hK => ?_)
 refine gS Try.func97 #[.agg #[.bool t107, .slice Ao61 t108.length co61, .slice Ao62 t111.length co62]] ?_
 with_reducible refine (ratio_R_Abs.calls k t107 (fun k_ => (k_ ≠ gb115 ∧ (k_ ≠ gb127 ∧ (k_ ≠ gb136 ∧ (k_ ≠ gb145 ∧ (k_ ≠ gb160 ∧ (k_ ≠ gb175 ∧ k_ ≠ gb184))))))) _ _ t108 (fun k_ => (k_ ≠ gb115 ∧ (k_ ≠ gb127 ∧ (k_ ≠ gb136 ∧ (k_ ≠ gb145 ∧ (k_ ≠ gb160 ∧ (k_ ≠ gb175 ∧ k_ ≠ gb184))))))) _ _ t111 t222 t223 t226 _ ?_ ?_ A42.out).mono ?_
 exact HO110.out
 exact HO113.out
 rintro e w153 ⟨v224, v227, rfl, ho0, ho1, hb⟩
 refine ⟨_, rfl, ?_⟩
 replace HO110 := vA HO110 hb
 replace HO113 := vA HO113 hb
 replace HO131 := vA HO131 hb
 replace HO134 := vA HO134 hb
 replace HO155 := vA HO155 hb
 replace HO158 := vA HO158 hb
 replace HO170 := vA HO170 hb
 replace HO173 := vA HO173 hb
 have HO225 := lw HB (fun k_ => k_ ≠ gb115 ∧ k_ ≠ gb127 ∧ k_ ≠ gb136 ∧ k_ ≠ gb145 ∧ k_ ≠ gb160 ∧ k_ ≠ gb175 ∧ k_ ≠ gb184) ho0 (fun k_ hk_ => Or.elim hk_ (fun hs_ => Or.elim hs_ id id) (fun hn_ => ⟨kF BK115 hn_, kF BK127 hn_, kF BK136 hn_, kF BK145 hn_, kF BK160 hn_, kF BK175 hn_, kF BK184 hn_⟩))
 have HO228 := lw HB (fun k_ => k_ ≠ gb115 ∧ k_ ≠ gb127 ∧ k_ ≠ gb136 ∧ k_ ≠ gb145 ∧ k_ ≠ gb160 ∧ k_ ≠ gb175 ∧ k_ ≠ gb184) ho1 (fun k_ hk_ => Or.elim hk_ (fun hs_ => Or.elim hs_ id id) (fun hn_ => ⟨kF BK115 hn_, kF BK127 hn_, kF BK136 hn_, kF BK145 hn_, kF BK160 hn_, kF BK175 hn_, kF BK184 hn_⟩))
 replace BK115 := kA BK115 hb
 replace BK127 := kA BK127 hb
 replace BK136 := kA BK136 hb
 replace BK145 := kA BK145 hb
 replace BK160 := kA BK160 hb
 replace BK175 := kA BK175 hb
 replace BK184 := kA BK184 hb
 replace HB := bS HB hb
 clear hb ho0 ho1
 obtain ⟨Ao154, co154, eo154⟩ := Kd.V_slice HO225.out
 (first | subst eo154 | (injection eo154 with f1_ f2_ f3_; have f4_ := f1_.symm; have f5_ := f3_.symm; clear f1_ f2_ f3_; subst f4_; subst f5_))
 obtain ⟨Ao155, co155, eo155⟩ := Kd.V_slice HO228.out
 (first | subst eo155 | (injection eo155 with f1_ f2_ f3_; have f4_ := f1_.symm; have f5_ := f3_.symm; clear f1_ f2_ f3_; subst f4_; subst f5_))
 refine hK.out _ _ ⟨b3 BK115, b3 BK127, b3 BK136, b3 BK160, b3 BK175, b3 BK184⟩ (fun hHeld => nm ?_)
 clear hK K
 refine on 76 (some 130) (tf 77 28) (fun K hK => ?_)
 refine gS Try.func58 #[.agg #[.bool t222, .slice Ao154 t223.length co154, .slice Ao155 t226.length co155], .agg #[.bool t128, .slice Ao76 t129.length co76, .slice Ao77 t132.length co77]] ?_
 with_reducible refine (ratio_R_Cmp.calls k t222 _ _ t223 _ _ t226 t128 _ _ t129 _ _ t132 t229 _ ?_ ?_ ?_ ?_ ?_ ?_ ?_ ?_ A43.out).mono ?_
 exact cup ((Kd.V_reads' HO225.out).2.2)
 exact (Kd.V_reads' HO225.out).2.1
 exact cup ((Kd.V_reads' HO228.out).2.2)
 exact (Kd.V_reads' HO228.out).2.1
 exact cup ((Kd.V_reads' HO131.out).2.2)
 exact (Kd.V_reads' HO131.out).2.1
 exact cup ((Kd.V_reads' HO134.out).2.2)
 exact (Kd.V_reads' HO134.out).2.1
 rintro e w156 ⟨rfl, hb⟩
 refine ⟨_, rfl, ?_⟩
 replace HO110 := vA HO110 hb
 replace HO113 := vA HO113 hb
 replace HO131 := vA HO131 hb
 replace HO134 := vA HO134 hb
 replace HO155 := vA HO155 hb
 replace HO158 := vA HO158 hb
 replace HO170 := vA HO170 hb
 replace HO173 := vA HO173 hb
 replace BK115 := kA BK115 hb
 replace BK127 := kA BK127 hb
 replace BK136 := kA BK136 hb
 replace BK145 := kA BK145 hb
 replace BK160 := kA BK160 hb
 replace BK175 := kA BK175 hb
 replace BK184 := kA BK184 hb
 replace HB := bS HB hb
 clear HO225 HO228
 clear hb
 refine hK.out _ _ ⟨b3 BK115, b3 BK127, b3 BK136, b3 BK160, b3 BK175, b3 BK184⟩ (fun hHeld => nm ?_)
 clear hK K
 refine pu 77 131 (tf 78 27) ?_
 refine pu 78 132 (tf 79 26) ?_
 refine pu 79 133 (tf 80 25) ?_
 refine tk 80 134 (tf 81 24) hHeld ?_
 refine on 81 (some 135) (tf 82 23) (fun K hK => ?_)
 refine gS Try.func57 #[.agg #[.bool t107, .slice Ao61 t108.length co61, .slice Ao62 t111.length co62]] ?_
 with_reducible refine (ratio_R_Sign.calls k t107 _ _ t108 _ _ t111 t230 _ ?_ ?_ ?_ ?_ A45.out).mono ?_
 exact cup ((Kd.V_reads' HO110.out).2.2)
 exact (Kd.V_reads' HO110.out).2.1
 exact cup ((Kd.V_reads' HO113.out).2.2)
 exact (Kd.V_reads' HO113.out).2.1
 rintro e w157 ⟨rfl, hb⟩
 refine ⟨_, rfl, ?_⟩
 replace HO110 := vA HO110 hb
 replace HO113 := vA HO113 hb
 replace HO131 := vA HO131 hb
 replace HO134 := vA HO134 hb
 replace HO155 := vA HO155 hb
 replace HO158 := vA HO158 hb
 replace HO170 := vA HO170 hb
 replace HO173 := vA HO173 hb
 replace BK115 := kA BK115 hb
 replace BK127 := kA BK127 hb
 replace BK136 := kA BK136 hb
 replace BK145 := kA BK145 hb
 replace BK160 := kA BK160 hb
 replace BK175 := kA BK175 hb
 replace BK184 := kA BK184 hb
 replace HB := bS HB hb
 clear hb
 refine hK.out _ _ ⟨b3 BK115, b3 BK127, b3 BK136, b3 BK160, b3 BK175, b3 BK184⟩ (fun hHeld => nm ?_)
 clear hK K
 refine pu 82 136 (tf 83 22) ?_
 refine pu 83 137 (tf 84 21) ?_
 refine pu 84 138 (tf 85 20) ?_
 refine tk 85 139 (tf 86 19) hHeld ?_
 refine on 86 (some 140) (tf 87 18) (fun K hK => ?_)
 refine gS Try.func99 #[.agg #[.bool t128, .slice Ao76 t129.length co76, .slice Ao77 t132.length co77]] ?_
 with_reducible refine (ratio_R_Len.calls k t128 _ _ t129 _ _ t132 t231 _ ?_ ?_ ?_ ?_ A47.out).mono ?_
 exact cup ((Kd.V_reads' HO131.out).2.2)
 exact (Kd.V_reads' HO131.out).2.1
 exact cup ((Kd.V_reads' HO134.out).2.2)
 exact (Kd.V_reads' HO134.out).2.1
 rintro e w158 ⟨rfl, hb⟩
 refine ⟨_, rfl, ?_⟩
 replace HO110 := vA HO110 hb
 replace HO113 := vA HO113 hb
 replace HO155 := vA HO155 hb
 replace HO158 := vA HO158 hb
 replace HO170 := vA HO170 hb
 replace HO173 := vA HO173 hb
 replace BK115 := kA BK115 hb
 replace BK127 := kA BK127 hb
 replace BK136 := kA BK136 hb
 replace BK145 := kA BK145 hb
 replace BK160 := kA BK160 hb
 replace BK175 := kA BK175 hb
 replace BK184 := kA BK184 hb
 replace HB := bS HB hb
 clear HO131 HO134
 clear hb
 refine hK.out _ _ ⟨b3 BK115, b3 BK127, b3 BK136, b3 BK160, b3 BK175, b3 BK184⟩ (fun hHeld => nm ?_)
 clear hK K
 refine pu 87 141 (tf 88 17) ?_
 refine pu 88 142 (tf 89 16) ?_
 refine pu 89 143 (tf 90 15) ?_
 refine on 90 (some 144) (tf 91 14) (fun K hK => ?_)
 refine gS Try.func103 #[.int .i64 (-7)] ?_
 with_reducible refine (ratio_Int.calls k (-7) t232 t233 t236 _ A49.out).mono ?_
 rintro e w159 ⟨v234, v237, rfl, ho0, ho1, hb⟩
 refine ⟨_, rfl, ?_⟩
 replace HO110 := vA HO110 hb
 replace HO113 := vA HO113 hb
 replace HO155 := vA HO155 hb
 replace HO158 := vA HO158 hb
 replace HO170 := vA HO170 hb
 replace HO173 := vA HO173 hb
 have HO235 := lw HB (fun k_ => k_ ≠ gb115 ∧ k_ ≠ gb127 ∧ k_ ≠ gb136 ∧ k_ ≠ gb145 ∧ k_ ≠ gb160 ∧ k_ ≠ gb175 ∧ k_ ≠ gb184) ho0 (fun k_ hk_ => ⟨(kF BK115 hk_), (kF BK127 hk_), (kF BK136 hk_), (kF BK145 hk_), (kF BK160 hk_), (kF BK175 hk_), (kF BK184 hk_)⟩)
 have HO238 := lw HB (fun k_ => k_ ≠ gb115 ∧ k_ ≠ gb127 ∧ k_ ≠ gb136 ∧ k_ ≠ gb145 ∧ k_ ≠ gb160 ∧ k_ ≠ gb175 ∧ k_ ≠ gb184) ho1 (fun k_ hk_ => ⟨(kF BK115 hk_), (kF BK127 hk_), (kF BK136 hk_), (kF BK145 hk_), (kF BK160 hk_), (kF BK175 hk_), (kF BK184 hk_)⟩)
 replace BK115 := kA BK115 hb
 replace BK127 := kA BK127 hb
 replace BK136 := kA BK136 hb
 replace BK145 := kA BK145 hb
 replace BK160 := kA BK160 hb
 replace BK175 := kA BK175 hb
 replace BK184 := kA BK184 hb
 replace HB := bS HB hb
 clear hb ho0 ho1
 obtain ⟨Ao160, co160, eo160⟩ := Kd.V_slice HO235.out
 (first | subst eo160 | (injection eo160 with f1_ f2_ f3_; have f4_ := f1_.symm; have f5_ := f3_.symm; clear f1_ f2_ f3_; subst f4_; subst f5_))
 obtain ⟨Ao161, co161, eo161⟩ := Kd.V_slice HO238.out
 (first | subst eo161 | (injection eo161 with f1_ f2_ f3_; have f4_ := f1_.symm; have f5_ := f3_.symm; clear f1_ f2_ f3_; subst f4_; subst f5_))
 refine hK.out _ _ ⟨b3 BK115, b3 BK127, b3 BK136, b3 BK160, b3 BK175, b3 BK184⟩ (fun hHeld => nm ?_)
 clear hK K
 refine on 91 (some 145) (tf 92 13) (fun K hK => ?_)
 refine gS Try.func100 #[.agg #[.bool t232, .slice Ao160 t233.length co160, .slice Ao161 t236.length co161]] ?_
 with_reducible refine (ratio_R_Text.calls k t232 _ _ t233 _ _ t236 t239 _ ?_ ?_ ?_ ?_ A50.out).mono ?_
 exact cup ((Kd.V_reads' HO235.out).2.2)
 exact (Kd.V_reads' HO235.out).2.1
 exact cup ((Kd.V_reads' HO238.out).2.2)
 exact (Kd.V_reads' HO238.out).2.1
 rintro e w162 ⟨rfl, hb⟩
 refine ⟨_, rfl, ?_⟩
 replace HO110 := vA HO110 hb
 replace HO113 := vA HO113 hb
 replace HO155 := vA HO155 hb
 replace HO158 := vA HO158 hb
 replace HO170 := vA HO170 hb
 replace HO173 := vA HO173 hb
 replace BK115 := kA BK115 hb
 replace BK127 := kA BK127 hb
 replace BK136 := kA BK136 hb
 replace BK145 := kA BK145 hb
 replace BK160 := kA BK160 hb
 replace BK175 := kA BK175 hb
 replace BK184 := kA BK184 hb
 replace HB := bS HB hb
 clear HO235 HO238
 clear hb
 refine hK.out _ _ ⟨b3 BK115, b3 BK127, b3 BK136, b3 BK160, b3 BK175, b3 BK184⟩ (fun hHeld => nm ?_)
 clear hK K
 refine pu 92 146 (tf 93 12) ?_
 refine pu 93 147 (tf 94 11) ?_
 refine pu 94 148 (tf 95 10) ?_
 refine tk 95 149 (tf 96 9) hHeld ?_
 refine tk 96 150 (tf 97 8) hHeld ?_
 refine tk 97 151 (tf 98 7) hHeld ?_
 refine tk 100 154 #[true, true, true, true, true, true, true, true, true, true, true, true, true, true, true, true, true, true, true, true, true, true, true, true, true, true, true, true, true, true, true, true, true, true, true, true, true, true, true, true, true, true, true, true, true, true, true, true, true, true, true, true, true, true, true, true, true, true, true, true, true, true, true, true, true, true, true, true, true, true, true, true, true, true, true, true, true, true, true, true, true, true, true, true, true, true, true, true, true, true, true, true, true, true, true, true, true, true, false, false, true, false, false, false, false] hHeld ?_
 refine on 98 (some 152) #[true, true, true, true, true, true, true, true, true, true, true, true, true, true, true, true, true, true, true, true, true, true, true, true, true, true, true, true, true, true, true, true, true, true, true, true, true, true, true, true, true, true, true, true, true, true, true, true, true, true, true, true, true, true, true, true, true, true, true, true, true, true, true, true, true, true, true, true, true, true, true, true, true, true, true, true, true, true, true, true, true, true, true, true, true, true, true, true, true, true, true, true, true, true, true, true, true, true, true, false, true, false, false, false, false] (fun K hK => ?_)
 refine Kd.N_lit_step k69 _ 69 ?hg (N' := 152) ?hd (xs := ([(⟨t107, t108, t111⟩ : S69), (⟨t152, t153, t156⟩ : S69), (⟨t167, t168, t171⟩ : S69)] : List (S69))) (inner := [.bool t107, .slice Ao61 t108.length co61, .slice Ao62 t111.length co62, .bool t152, .slice Ao100 t153.length co100, .slice Ao101 t156.length co101, .bool t167, .slice Ao114 t168.length co114, .slice Ao115 t171.length co115]) (ok := (fun k_ => k_ ≠ gb115 ∧ k_ ≠ gb127 ∧ k_ ≠ gb136 ∧ k_ ≠ gb145 ∧ k_ ≠ gb160 ∧ k_ ≠ gb175 ∧ k_ ≠ gb184)) (okp := (fun k_ => k_ ≠ gb115 ∧ k_ ≠ gb127 ∧ k_ ≠ gb136 ∧ k_ ≠ gb145 ∧ k_ ≠ gb160 ∧ k_ ≠ gb175 ∧ k_ ≠ gb184)) ?hr ?hp (fun _ hk => hk) ((show ∀ k_, w162.heap.size ≤ k_ → (fun k_ => k_ ≠ gb115 ∧ k_ ≠ gb127 ∧ k_ ≠ gb136 ∧ k_ ≠ gb145 ∧ k_ ≠ gb160 ∧ k_ ≠ gb175 ∧ k_ ≠ gb184) k_ from fun k_ hk => ⟨Kd.freshB (kup BK115.out) k_ hk, Kd.freshB (kup BK127.out) k_ hk, Kd.freshB (kup BK136.out) k_ hk, Kd.freshB (kup BK145.out) k_ hk, Kd.freshB (kup BK160.out) k_ hk, Kd.freshB (kup BK175.out) k_ hk, Kd.freshB (kup BK184.out) k_ hk⟩) _ (Nat.le_refl _)) (Below.refl _ _) (Nat.le_refl _) (by simp) ?_; (case hd => rfl); (case hg => rfl); (case hr => first | (go_simp; done) | (go_simp; rfl)); (case hp => exact (Reps.c3 (show Kd.FK k69 _ _ (⟨t107, t108, t111⟩ : S69) [.bool t107, .slice Ao61 t108.length co61, .slice Ao62 t111.length co62] from (k69_mkF _ _ (⟨t107, t108, t111⟩ : S69) (Kd.V_reads' (Kd.V_mono (ok' := (fun k_ => k_ ≠ gb115 ∧ k_ ≠ gb127 ∧ k_ ≠ gb136 ∧ k_ ≠ gb145 ∧ k_ ≠ gb160 ∧ k_ ≠ gb175 ∧ k_ ≠ gb184)) (HO110.out) (fun k_ hk => ⟨hk.1, ⟨hk.2.1, ⟨hk.2.2.1, ⟨hk.2.2.2.1, ⟨hk.2.2.2.2.1, ⟨hk.2.2.2.2.2.1, hk.2.2.2.2.2.2⟩⟩⟩⟩⟩⟩))).2.1 (Kd.V_F (Kd.V_mono (ok' := (fun k_ => k_ ≠ gb115 ∧ k_ ≠ gb127 ∧ k_ ≠ gb136 ∧ k_ ≠ gb145 ∧ k_ ≠ gb160 ∧ k_ ≠ gb175 ∧ k_ ≠ gb184)) (HO110.out) (fun k_ hk => ⟨hk.1, ⟨hk.2.1, ⟨hk.2.2.1, ⟨hk.2.2.2.1, ⟨hk.2.2.2.2.1, ⟨hk.2.2.2.2.2.1, hk.2.2.2.2.2.2⟩⟩⟩⟩⟩⟩))) (Kd.V_reads' (Kd.V_mono (ok' := (fun k_ => k_ ≠ gb115 ∧ k_ ≠ gb127 ∧ k_ ≠ gb136 ∧ k_ ≠ gb145 ∧ k_ ≠ gb160 ∧ k_ ≠ gb175 ∧ k_ ≠ gb184)) (HO113.out) (fun k_ hk => ⟨hk.1, ⟨hk.2.1, ⟨hk.2.2.1, ⟨hk.2.2.2.1, ⟨hk.2.2.2.2.1, ⟨hk.2.2.2.2.2.1, hk.2.2.2.2.2.2⟩⟩⟩⟩⟩⟩))).2.1 (Kd.V_F (Kd.V_mono (ok' := (fun k_ => k_ ≠ gb115 ∧ k_ ≠ gb127 ∧ k_ ≠ gb136 ∧ k_ ≠ gb145 ∧ k_ ≠ gb160 ∧ k_ ≠ gb175 ∧ k_ ≠ gb184)) (HO113.out) (fun k_ hk => ⟨hk.1, ⟨hk.2.1, ⟨hk.2.2.1, ⟨hk.2.2.2.1, ⟨hk.2.2.2.2.1, ⟨hk.2.2.2.2.2.1, hk.2.2.2.2.2.2⟩⟩⟩⟩⟩⟩))))) (Reps.c3 (show Kd.FK k69 _ _ (⟨t152, t153, t156⟩ : S69) [.bool t152, .slice Ao100 t153.length co100, .slice Ao101 t156.length co101] from (k69_mkF _ _ (⟨t152, t153, t156⟩ : S69) (Kd.V_reads' (Kd.V_mono (ok' := (fun k_ => k_ ≠ gb115 ∧ k_ ≠ gb127 ∧ k_ ≠ gb136 ∧ k_ ≠ gb145 ∧ k_ ≠ gb160 ∧ k_ ≠ gb175 ∧ k_ ≠ gb184)) (HO155.out) (fun k_ hk => ⟨hk.1, ⟨hk.2.1, ⟨hk.2.2.1, ⟨hk.2.2.2.1, ⟨hk.2.2.2.2.1, ⟨hk.2.2.2.2.2.1, hk.2.2.2.2.2.2⟩⟩⟩⟩⟩⟩))).2.1 (Kd.V_F (Kd.V_mono (ok' := (fun k_ => k_ ≠ gb115 ∧ k_ ≠ gb127 ∧ k_ ≠ gb136 ∧ k_ ≠ gb145 ∧ k_ ≠ gb160 ∧ k_ ≠ gb175 ∧ k_ ≠ gb184)) (HO155.out) (fun k_ hk => ⟨hk.1, ⟨hk.2.1, ⟨hk.2.2.1, ⟨hk.2.2.2.1, ⟨hk.2.2.2.2.1, ⟨hk.2.2.2.2.2.1, hk.2.2.2.2.2.2⟩⟩⟩⟩⟩⟩))) (Kd.V_reads' (Kd.V_mono (ok' := (fun k_ => k_ ≠ gb115 ∧ k_ ≠ gb127 ∧ k_ ≠ gb136 ∧ k_ ≠ gb145 ∧ k_ ≠ gb160 ∧ k_ ≠ gb175 ∧ k_ ≠ gb184)) (HO158.out) (fun k_ hk => ⟨hk.1, ⟨hk.2.1, ⟨hk.2.2.1, ⟨hk.2.2.2.1, ⟨hk.2.2.2.2.1, ⟨hk.2.2.2.2.2.1, hk.2.2.2.2.2.2⟩⟩⟩⟩⟩⟩))).2.1 (Kd.V_F (Kd.V_mono (ok' := (fun k_ => k_ ≠ gb115 ∧ k_ ≠ gb127 ∧ k_ ≠ gb136 ∧ k_ ≠ gb145 ∧ k_ ≠ gb160 ∧ k_ ≠ gb175 ∧ k_ ≠ gb184)) (HO158.out) (fun k_ hk => ⟨hk.1, ⟨hk.2.1, ⟨hk.2.2.1, ⟨hk.2.2.2.1, ⟨hk.2.2.2.2.1, ⟨hk.2.2.2.2.2.1, hk.2.2.2.2.2.2⟩⟩⟩⟩⟩⟩))))) (Reps.c3 (show Kd.FK k69 _ _ (⟨t167, t168, t171⟩ : S69) [.bool t167, .slice Ao114 t168.length co114, .slice Ao115 t171.length co115] from (k69_mkF _ _ (⟨t167, t168, t171⟩ : S69) (Kd.V_reads' (Kd.V_mono (ok' := (fun k_ => k_ ≠ gb115 ∧ k_ ≠ gb127 ∧ k_ ≠ gb136 ∧ k_ ≠ gb145 ∧ k_ ≠ gb160 ∧ k_ ≠ gb175 ∧ k_ ≠ gb184)) (HO170.out) (fun k_ hk => ⟨hk.1, ⟨hk.2.1, ⟨hk.2.2.1, ⟨hk.2.2.2.1, ⟨hk.2.2.2.2.1, ⟨hk.2.2.2.2.2.1, hk.2.2.2.2.2.2⟩⟩⟩⟩⟩⟩))).2.1 (Kd.V_F (Kd.V_mono (ok' := (fun k_ => k_ ≠ gb115 ∧ k_ ≠ gb127 ∧ k_ ≠ gb136 ∧ k_ ≠ gb145 ∧ k_ ≠ gb160 ∧ k_ ≠ gb175 ∧ k_ ≠ gb184)) (HO170.out) (fun k_ hk => ⟨hk.1, ⟨hk.2.1, ⟨hk.2.2.1, ⟨hk.2.2.2.1, ⟨hk.2.2.2.2.1, ⟨hk.2.2.2.2.2.1, hk.2.2.2.2.2.2⟩⟩⟩⟩⟩⟩))) (Kd.V_reads' (Kd.V_mono (ok' := (fun k_ => k_ ≠ gb115 ∧ k_ ≠ gb127 ∧ k_ ≠ gb136 ∧ k_ ≠ gb145 ∧ k_ ≠ gb160 ∧ k_ ≠ gb175 ∧ k_ ≠ gb184)) (HO173.out) (fun k_ hk => ⟨hk.1, ⟨hk.2.1, ⟨hk.2.2.1, ⟨hk.2.2.2.1, ⟨hk.2.2.2.2.1, ⟨hk.2.2.2.2.2.1, hk.2.2.2.2.2.2⟩⟩⟩⟩⟩⟩))).2.1 (Kd.V_F (Kd.V_mono (ok' := (fun k_ => k_ ≠ gb115 ∧ k_ ≠ gb127 ∧ k_ ≠ gb136 ∧ k_ ≠ gb145 ∧ k_ ≠ gb160 ∧ k_ ≠ gb175 ∧ k_ ≠ gb184)) (HO173.out) (fun k_ hk => ⟨hk.1, ⟨hk.2.1, ⟨hk.2.2.1, ⟨hk.2.2.2.1, ⟨hk.2.2.2.2.1, ⟨hk.2.2.2.2.2.1, hk.2.2.2.2.2.2⟩⟩⟩⟩⟩⟩))))) (Reps.none _ _)))))
 intro v241 w163 ho164 hb hg_ hnew_
 clear hg_ hnew_
 (first | rw [← Ny240.out] at ho164 | (simp only [Int.reduceToNat] at ho164; rw [← Ny240.out] at ho164))
 replace HO155 := Aside0.mk (Kd.V_elder' (vup HO155.out) (Kd.N_base ho164) hb)
 replace HO158 := Aside0.mk (Kd.V_elder' (vup HO158.out) (Kd.N_base ho164) hb)
 have HO242 := Aside0.mk (Kd.N_lower ho164 (below_size hB))
 replace BK115 := kA BK115 hb
 replace BK127 := kA BK127 hb
 replace BK136 := kA BK136 hb
 replace BK145 := kA BK145 hb
 replace BK160 := kA BK160 hb
 replace BK175 := kA BK175 hb
 replace BK184 := kA BK184 hb
 replace HB := bS HB hb
 clear HO110 HO113 HO170 HO173
 clear hb ho164
 obtain ⟨Ao165, co165, eo165⟩ := Kd.N_slice HO242.out
 (first | subst eo165 | (injection eo165 with f1_ f2_ f3_; have f4_ := f1_.symm; have f5_ := f3_.symm; clear f1_ f2_ f3_; subst f4_; subst f5_))
 refine hK.out _ _ ⟨b3 BK115, b3 BK127, b3 BK136, b3 BK160, b3 BK175, b3 BK184⟩ (fun hHeld => nm ?_)
 clear hK K
 refine on 99 (some 153) (tf 101 4) (fun K hK => ?_)
 refine gS Try.func56 #[.slice Ao165 y240.length co165] ?_
 with_reducible refine (ratio_Max.calls k (fun k_ => (k_ ≠ gb115 ∧ (k_ ≠ gb127 ∧ (k_ ≠ gb136 ∧ (k_ ≠ gb145 ∧ (k_ ≠ gb160 ∧ (k_ ≠ gb175 ∧ k_ ≠ gb184))))))) _ _ y240 t243 t244 t247 _ ?_ A52.out).mono ?_
 exact Kd.N_V (HO242.out)
 rintro e w166 ⟨v245, v248, rfl, ho0, ho1, hb⟩
 refine ⟨_, rfl, ?_⟩
 replace HO155 := vA HO155 hb
 replace HO158 := vA HO158 hb
 have HO246 := lw HB (fun k_ => k_ ≠ gb115 ∧ k_ ≠ gb127 ∧ k_ ≠ gb136 ∧ k_ ≠ gb145 ∧ k_ ≠ gb160 ∧ k_ ≠ gb175 ∧ k_ ≠ gb184) ho0 (fun k_ hk_ => Or.elim hk_ id (fun hn_ => ⟨kF BK115 hn_, kF BK127 hn_, kF BK136 hn_, kF BK145 hn_, kF BK160 hn_, kF BK175 hn_, kF BK184 hn_⟩))
 have HO249 := lw HB (fun k_ => k_ ≠ gb115 ∧ k_ ≠ gb127 ∧ k_ ≠ gb136 ∧ k_ ≠ gb145 ∧ k_ ≠ gb160 ∧ k_ ≠ gb175 ∧ k_ ≠ gb184) ho1 (fun k_ hk_ => Or.elim hk_ id (fun hn_ => ⟨kF BK115 hn_, kF BK127 hn_, kF BK136 hn_, kF BK145 hn_, kF BK160 hn_, kF BK175 hn_, kF BK184 hn_⟩))
 replace BK115 := kA BK115 hb
 replace BK127 := kA BK127 hb
 replace BK136 := kA BK136 hb
 replace BK160 := kA BK160 hb
 replace BK175 := kA BK175 hb
 replace BK184 := kA BK184 hb
 replace HB := bS HB hb
 clear HO242 BK145
 clear hb ho0 ho1
 obtain ⟨Ao167, co167, eo167⟩ := Kd.V_slice HO246.out
 (first | subst eo167 | (injection eo167 with f1_ f2_ f3_; have f4_ := f1_.symm; have f5_ := f3_.symm; clear f1_ f2_ f3_; subst f4_; subst f5_))
 obtain ⟨Ao168, co168, eo168⟩ := Kd.V_slice HO249.out
 (first | subst eo168 | (injection eo168 with f1_ f2_ f3_; have f4_ := f1_.symm; have f5_ := f3_.symm; clear f1_ f2_ f3_; subst f4_; subst f5_))
 refine hK.out _ _ ⟨b3 BK115, b3 BK127, b3 BK136, b3 BK160, b3 BK175, b3 BK184⟩ (fun hHeld => nm ?_)
 clear hK K
 refine on 101 (some 155) (tf 102 3) (fun K hK => ?_)
 refine gS Try.func58 #[.agg #[.bool t243, .slice Ao167 t244.length co167, .slice Ao168 t247.length co168], .agg #[.bool t152, .slice Ao100 t153.length co100, .slice Ao101 t156.length co101]] ?_
 with_reducible refine (ratio_R_Cmp.calls k t243 _ _ t244 _ _ t247 t152 _ _ t153 _ _ t156 t250 _ ?_ ?_ ?_ ?_ ?_ ?_ ?_ ?_ A53.out).mono ?_
 exact cup ((Kd.V_reads' HO246.out).2.2)
 exact (Kd.V_reads' HO246.out).2.1
 exact cup ((Kd.V_reads' HO249.out).2.2)
 exact (Kd.V_reads' HO249.out).2.1
 exact cup ((Kd.V_reads' HO155.out).2.2)
 exact (Kd.V_reads' HO155.out).2.1
 exact cup ((Kd.V_reads' HO158.out).2.2)
 exact (Kd.V_reads' HO158.out).2.1
 rintro e w169 ⟨rfl, hb⟩
 refine ⟨_, rfl, ?_⟩
 replace BK115 := kA BK115 hb
 replace BK127 := kA BK127 hb
 replace BK136 := kA BK136 hb
 replace BK160 := kA BK160 hb
 replace BK175 := kA BK175 hb
 replace BK184 := kA BK184 hb
 replace HB := bS HB hb
 clear HO155 HO158 HO246 HO249
 clear hb
 refine hK.out _ _ ⟨b3 BK115, b3 BK127, b3 BK136, b3 BK160, b3 BK175, b3 BK184⟩ (fun hHeld => nm ?_)
 clear hK K
 refine pu 102 156 (tf 103 2) ?_
 refine pu 103 157 (tf 104 1) ?_
 refine pu 104 0 (tf 105 0) ?_
 refine done_ (done_of HT_.out (by kernel_rfl)) ?_
 try go_wp2
 go_ret
 exact ⟨er, hB⟩
def flyballlaw03_works.f (k : Nat) : Option (Bool) := if flyballlaw03_worksg.f k = some true then some true else none
theorem flyballlaw03_works.mono : ∀ k, LeO (flyballlaw03_works.f k) (flyballlaw03_works.f (k + 1)) := by
 intro k r h
 unfold flyballlaw03_works.f at h ⊢
 by_cases hg : flyballlaw03_worksg.f k = some true
 ·rw [if_pos hg] at h
  rw [if_pos (flyballlaw03_worksg.mono k true hg)]
  exact h
 ·rw [if_neg hg] at h; cases h
theorem flyballlaw03_works.calls (k : Nat) (r : Bool) (w : World) (h : flyballlaw03_works.f k = some r) :
  Calls Try.prog 54 #[] w fun e w' => e = .returned (.bool r) ∧ Below w.heap.size w w' := by
 unfold flyballlaw03_works.f at h
 by_cases hg : flyballlaw03_worksg.f k = some true
 ·rw [if_pos hg] at h
  obtain rfl := Option.some.inj h
  exact flyballlaw03_worksg.calls k w hg
 ·rw [if_neg hg] at h; cases h
end Go.Proofs.Ytagbnkbhobmgjaa.Fn
end
section
/- The chapter's own trial of the rationals. -/
set_option linter.unusedVariables false
namespace Go.Proofs.Ytagbnkbhobmgjaa.Pure
open Go.RowKit Go.Proofs.Ytagbnkbhobmgjaa.Fn Go.Proofs.YtagbnkbhobmgjaaW.PrintWords Go.Proofs.YtagbnkbhobmgjaaW.PrintMore Go.Proofs.YtagbnkbhobmgjaaW.PrintLast
set_option maxRecDepth 100000 in
theorem worksg03 : flyballlaw03_worksg.f 2000 = some true := by decide +kernel
theorem works03_spec : Ev (fun k => flyballlaw03_works.f k) true := by
  refine Ev.of flyballlaw03_works.mono (k := 2000) ?_
  unfold flyballlaw03_works.f
  rw [if_pos worksg03]
end Go.Proofs.Ytagbnkbhobmgjaa.Pure
end
