/- Rational numbers are made in lowest terms, as the document says: of two naturals, of an integer, of an integer times a power of two. Part 13 of 19. -/
import Derived.Test.YtagbnkbhobmgjaaRatioMakesE
import Derived.Test.YtagbnkbhobmgjaaRatioMakesC
section
namespace Go.Proofs.Ytagbnkbhobmgjaa.Fn
open Go.RowKit Go.Proofs.YtagbnkbhobmgjaaW.PrintWords Go.Proofs.YtagbnkbhobmgjaaW.PrintLast Go.Proofs.YtagbnkbhobmgjaaW.PrintMore
attribute [local go_sem] max2_int min2_int max_two min_two max_three min_three max_four min_four   -- for this text's walks alone
set_option linter.unusedVariables false
set_option linter.unusedSimpArgs false
def flyballref01_Sub.l0 : Nat → List Bool → List Bool → Int → List Bool → Bool → Int → Option (List Bool × Bool)
 | 0, _, _, _, _, _, _ => none
 | k + 1, x0, x1, x2, x8, x9, x10 => if x10 < x2 then ((flyballref01_bit.f x0 x10).bind fun t101 => ((flyballref01_bit.f x1 x10).bind fun t102 => (if x8.length < 140737488355328 then ((some (x8 ++ [((t101 != t102) != x9)] : List Bool)).bind fun y103 => (if t101 = true then (if t102 = true then (flyballref01_Sub.l0 k x0 x1 x2 y103 x9 (wrap64 (x10 + 1))) else (flyballref01_Sub.l0 k x0 x1 x2 y103 false (wrap64 (x10 + 1)))) else (if t102 = true then (flyballref01_Sub.l0 k x0 x1 x2 y103 true (wrap64 (x10 + 1))) else (if x9 = true then (flyballref01_Sub.l0 k x0 x1 x2 y103 true (wrap64 (x10 + 1))) else (flyballref01_Sub.l0 k x0 x1 x2 y103 false (wrap64 (x10 + 1))))))) else (none)))) else (some (x8, x9))
def flyballref01_Sub.f (k : Nat) (l0 : List Bool) (l1 : List Bool) (a2 : Int) : Option (List Bool × Bool) := flyballref01_Sub.l0 k l0 l1 a2 ([] : List Bool) false 0
set_option maxHeartbeats 8000000 in
set_option maxRecDepth 100000 in
theorem flyballref01_Sub.calls (k : Nat) (A0 : Option Addr) (c0 : Nat) (l0 : List Bool) (A1 : Option Addr) (c1 : Nat) (l1 : List Bool) (a2 : Int) (r1 : List Bool) (r2 : Bool) (w : World) (hr0 : Kd.C Kd.bool w A0 l0.length l0) (hc0 : l0.length ≤ c0) (hr1 : Kd.C Kd.bool w A1 l1.length l1) (hc1 : l1.length ≤ c1) (H : flyballref01_Sub.f k l0 l1 a2 = some (r1, r2)) :
  Calls Try.prog 34 #[.slice A0 l0.length c0, .slice A1 l1.length c1, .int .i64 a2] w fun e w' => ∃ v0_ : Value, e = .returned (.tuple #[v0_, .bool r2]) ∧ Kd.R Kd.bool 4 w' w.heap.size (fun _ => True) v0_ r1 ∧ Below w.heap.size w w' := by
 have HR0 := Aside0.mk hr0
 have HC0 := Aside0.mk hc0
 clear hr0 hc0
 have HR1 := Aside0.mk hr1
 have HC1 := Aside0.mk hc1
 clear hr1 hc1
 have HB := Aside0.mk (Below.refl w.heap.size w)
 unfold flyballref01_Sub.f at H
 have H' := Aside0.mk H
 clear H
 go_enter Try.func34, Try.ntmps34
 go_wp2
 go_loopg [8, 9, 10] k (fun kq v8 v9 v10 w' => ∃ (x8_1 : List Bool) (x9_1 : Bool) (x10_1 : Int), v9 = .bool x9_1 ∧ v10 = .int .i64 x10_1 ∧ Aside0 (flyballref01_Sub.l0 kq l0 l1 a2 x8_1 x9_1 x10_1 = some (r1, r2)) ∧ Aside0 (kq ≤ k) ∧ Aside0 (Kd.R Kd.bool 4 w' w.heap.size (fun _ => True) v8 x8_1) ∧ Aside0 (Below w.heap.size w w'))
 case atStart => exact ⟨(([] : List Bool)), (false), (0), rS, rS, H', ⟨Nat.le_refl _⟩, ⟨nil5⟩, ⟨bup HB.out⟩⟩
 case round =>
  clear H'
  try clear c1
  try clear p2
  try clear c3
  obtain ⟨x8_1, x9_1, x10_1, rfl, rfl, HA, HK1, HO_8, HB⟩ := hrel
  cases gk with
  | zero => exact absurd HA.out (by simp [flyballref01_Sub.l0])
  | succ k1 =>
   have H := HA.out
   clear HA
   simp only [flyballref01_Sub.l0] at H
   by_cases c4 : x10_1 < a2
   rotate_left
   ·rw [if_neg c4] at H
    have c4b0 : decide (x10_1 < a2) = false := decide_eq_false c4
    clear c4
    simp only [Option.some.injEq, Prod.mk.injEq] at H
    obtain ⟨rfl, rfl⟩ := H
    go_wp2
    go_ret2
    exact ⟨_, er, rup HO_8.out, bup HB.out⟩
   rw [if_pos c4] at H
   have c4b0 : decide (x10_1 < a2) = true := decide_eq_true c4
   clear c4
   replace H := bi H
   obtain ⟨t101, A5, H⟩ := H
   replace H := bi H
   obtain ⟨t102, A6, H⟩ := H
   replace H := iS H
   obtain ⟨c7, H⟩ := H
   have LMc7 := Aside0.mk c7
   clear c7
   obtain ⟨y103, hy103⟩ : ∃ y_ : List Bool, y_ = (x8_1 ++ [((t101 != t102) != x9_1)]) := ⟨_, rfl⟩
   replace H : (if t101 = true then (if t102 = true then (flyballref01_Sub.l0 k1 l0 l1 a2 y103 x9_1 (wrap64 (x10_1 + 1))) else (flyballref01_Sub.l0 k1 l0 l1 a2 y103 false (wrap64 (x10_1 + 1)))) else (if t102 = true then (flyballref01_Sub.l0 k1 l0 l1 a2 y103 true (wrap64 (x10_1 + 1))) else (if x9_1 = true then (flyballref01_Sub.l0 k1 l0 l1 a2 y103 true (wrap64 (x10_1 + 1))) else (flyballref01_Sub.l0 k1 l0 l1 a2 y103 false (wrap64 (x10_1 + 1)))))) = some (r1, r2) := by first | (rw [hy103]; with_reducible exact H) | (have H2_ := (Option.bind_some _ _).symm.trans H; rw [hy103]; with_reducible exact H2_) | (have H2_ := (Option.bind_some _ _).symm.trans H; with_reducible exact H2_) | with_reducible exact H | (rw [hy103]; exact H) | exact H
   have Ny103 := Aside0.mk hy103
   clear hy103
   by_cases c8 : t101 = true
   ·subst c8
    replace H := ifT H
    by_cases c9 : t102 = true
    ·subst c9
     replace H := ifT H
     have H' := Aside0.mk H
     clear H
     go_wp2_with (first | ((with_reducible refine gc 105 rfl ?_); refine gL 20 Try.func105 #[.slice A0 l0.length c0, .int .i64 x10_1] ?_; (with_reducible refine (flyballref01_bit.calls _ _ l0 x10_1 true _ ?_ ?_ A5.out).mono ?_); exact Kd.C_below HR0.out (bup HB.out); exact HC0.out; rintro e w' ⟨rfl, ⟨nd, rfl⟩⟩; refine ⟨_, rfl, ?_⟩) | ((with_reducible refine gc 105 rfl ?_); refine gL 23 Try.func105 #[.slice A1 l1.length c1, .int .i64 x10_1] ?_; (with_reducible refine (flyballref01_bit.calls _ _ l1 x10_1 true _ ?_ ?_ A6.out).mono ?_); exact Kd.C_below HR1.out (bup HB.out); exact HC1.out; rintro e w' ⟨rfl, ⟨nd, rfl⟩⟩; refine ⟨_, rfl, ?_⟩) | ((with_reducible refine gate_builtin (b := .append) (xs := #[.tmp 24, .tmp 30]) rfl ?_); at_builtin; refine Kd.R_append Kd.bool (w0 := w) w.heap.size rfl (.tmp 24) (.tmp 30) 26 4 (.bool false) 1 rfl Try.underlying26 info4 rfl (by decide) (by omega) u8 x8_1 x9_1 [.bool x9_1] (fun _ => True) (fun _ => False) rfl rfl ?aP (fun _ hk => hk.elim) ?aF ?aO ?aB ?aS ?aL ?_; (case aP => exact rfl); (case aB => exact (bup HB.out)); (case aF => exact (fun _ _ => trivial)); (case aO => exact (rup HO_8.out)); (case aS => exact (below_size (bup HB.out))); (case aL => have := LMc7.out; omega); intro v104 w10 ho hb hg hat; rw [show x9_1 = ((true != true) != x9_1) from by cases x9_1 <;> rfl] at ho; rw [← Ny103.out] at ho; replace HB := Aside0.mk (hb); have HO105 := Aside0.mk (ho); clear HO_8; clear ho hb hg hat))
     go_roundg k1
     case measure => have := HK1.out; omega
     case rel => exact ⟨(y103), (x9_1), (wrap64 (x10_1 + 1)), rS, rS, H', ⟨hk1⟩, ⟨rup HO105.out⟩, ⟨bup HB.out⟩⟩
    ·replace c9 := Bool.eq_false_iff.mpr c9
     subst c9
     have H1 : (flyballref01_Sub.l0 k1 l0 l1 a2 y103 false (wrap64 (x10_1 + 1))) = some (r1, r2) := by rw [if_neg (show ¬ (false = true) by decide)] at H; exact H
     clear H
     have H := H1
     clear H1
     have H' := Aside0.mk H
     clear H
     go_wp2_with (first | ((with_reducible refine gc 105 rfl ?_); refine gL 20 Try.func105 #[.slice A0 l0.length c0, .int .i64 x10_1] ?_; (with_reducible refine (flyballref01_bit.calls _ _ l0 x10_1 true _ ?_ ?_ A5.out).mono ?_); exact Kd.C_below HR0.out (bup HB.out); exact HC0.out; rintro e w' ⟨rfl, ⟨nd, rfl⟩⟩; refine ⟨_, rfl, ?_⟩) | ((with_reducible refine gc 105 rfl ?_); refine gL 23 Try.func105 #[.slice A1 l1.length c1, .int .i64 x10_1] ?_; (with_reducible refine (flyballref01_bit.calls _ _ l1 x10_1 false _ ?_ ?_ A6.out).mono ?_); exact Kd.C_below HR1.out (bup HB.out); exact HC1.out; rintro e w' ⟨rfl, ⟨nd, rfl⟩⟩; refine ⟨_, rfl, ?_⟩) | ((with_reducible refine gate_builtin (b := .append) (xs := #[.tmp 24, .tmp 30]) rfl ?_); at_builtin; refine Kd.R_append Kd.bool (w0 := w) w.heap.size rfl (.tmp 24) (.tmp 30) 26 4 (.bool false) 1 rfl Try.underlying26 info4 rfl (by decide) (by omega) u8 x8_1 (!x9_1) [.bool (!x9_1)] (fun _ => True) (fun _ => False) rfl rfl ?aP (fun _ hk => hk.elim) ?aF ?aO ?aB ?aS ?aL ?_; (case aP => exact rfl); (case aB => exact (bup HB.out)); (case aF => exact (fun _ _ => trivial)); (case aO => exact (rup HO_8.out)); (case aS => exact (below_size (bup HB.out))); (case aL => have := LMc7.out; omega); intro v104 w11 ho hb hg hat; rw [show (!x9_1) = ((true != false) != x9_1) from by cases x9_1 <;> rfl] at ho; rw [← Ny103.out] at ho; replace HB := Aside0.mk (hb); have HO105 := Aside0.mk (ho); clear HO_8; clear ho hb hg hat))
     go_roundg k1
     case measure => have := HK1.out; omega
     case rel => exact ⟨(y103), (false), (wrap64 (x10_1 + 1)), rS, rS, H', ⟨hk1⟩, ⟨rup HO105.out⟩, ⟨bup HB.out⟩⟩
   ·replace c8 := Bool.eq_false_iff.mpr c8
    subst c8
    have H1 : (if t102 = true then (flyballref01_Sub.l0 k1 l0 l1 a2 y103 true (wrap64 (x10_1 + 1))) else (if x9_1 = true then (flyballref01_Sub.l0 k1 l0 l1 a2 y103 true (wrap64 (x10_1 + 1))) else (flyballref01_Sub.l0 k1 l0 l1 a2 y103 false (wrap64 (x10_1 + 1))))) = some (r1, r2) := by rw [if_neg (show ¬ (false = true) by decide)] at H; exact H
    clear H
    have H := H1
    clear H1
    by_cases c12 : t102 = true
    ·subst c12
     replace H := ifT H
     have H' := Aside0.mk H
     clear H
     go_wp2_with (first | ((with_reducible refine gc 105 rfl ?_); refine gL 20 Try.func105 #[.slice A0 l0.length c0, .int .i64 x10_1] ?_; (with_reducible refine (flyballref01_bit.calls _ _ l0 x10_1 false _ ?_ ?_ A5.out).mono ?_); exact Kd.C_below HR0.out (bup HB.out); exact HC0.out; rintro e w' ⟨rfl, ⟨nd, rfl⟩⟩; refine ⟨_, rfl, ?_⟩) | ((with_reducible refine gc 105 rfl ?_); refine gL 23 Try.func105 #[.slice A1 l1.length c1, .int .i64 x10_1] ?_; (with_reducible refine (flyballref01_bit.calls _ _ l1 x10_1 true _ ?_ ?_ A6.out).mono ?_); exact Kd.C_below HR1.out (bup HB.out); exact HC1.out; rintro e w' ⟨rfl, ⟨nd, rfl⟩⟩; refine ⟨_, rfl, ?_⟩) | ((with_reducible refine gate_builtin (b := .append) (xs := #[.tmp 24, .tmp 30]) rfl ?_); at_builtin; refine Kd.R_append Kd.bool (w0 := w) w.heap.size rfl (.tmp 24) (.tmp 30) 26 4 (.bool false) 1 rfl Try.underlying26 info4 rfl (by decide) (by omega) u8 x8_1 (!x9_1) [.bool (!x9_1)] (fun _ => True) (fun _ => False) rfl rfl ?aP (fun _ hk => hk.elim) ?aF ?aO ?aB ?aS ?aL ?_; (case aP => exact rfl); (case aB => exact (bup HB.out)); (case aF => exact (fun _ _ => trivial)); (case aO => exact (rup HO_8.out)); (case aS => exact (below_size (bup HB.out))); (case aL => have := LMc7.out; omega); intro v104 w13 ho hb hg hat; rw [show (!x9_1) = ((false != true) != x9_1) from by cases x9_1 <;> rfl] at ho; rw [← Ny103.out] at ho; replace HB := Aside0.mk (hb); have HO105 := Aside0.mk (ho); clear HO_8; clear ho hb hg hat))
     go_roundg k1
     case measure => have := HK1.out; omega
     case rel => exact ⟨(y103), (true), (wrap64 (x10_1 + 1)), rS, rS, H', ⟨hk1⟩, ⟨rup HO105.out⟩, ⟨bup HB.out⟩⟩
    ·replace c12 := Bool.eq_false_iff.mpr c12
     subst c12
     have H1 : (if x9_1 = true then (flyballref01_Sub.l0 k1 l0 l1 a2 y103 true (wrap64 (x10_1 + 1))) else (flyballref01_Sub.l0 k1 l0 l1 a2 y103 false (wrap64 (x10_1 + 1)))) = some (r1, r2) := by rw [if_neg (show ¬ (false = true) by decide)] at H; exact H
     clear H
     have H := H1
     clear H1
     by_cases c14 : x9_1 = true
     ·subst c14
      replace H := ifT H
      have H' := Aside0.mk H
      clear H
      go_wp2_with (first | ((with_reducible refine gc 105 rfl ?_); refine gL 20 Try.func105 #[.slice A0 l0.length c0, .int .i64 x10_1] ?_; (with_reducible refine (flyballref01_bit.calls _ _ l0 x10_1 false _ ?_ ?_ A5.out).mono ?_); exact Kd.C_below HR0.out (bup HB.out); exact HC0.out; rintro e w' ⟨rfl, ⟨nd, rfl⟩⟩; refine ⟨_, rfl, ?_⟩) | ((with_reducible refine gc 105 rfl ?_); refine gL 23 Try.func105 #[.slice A1 l1.length c1, .int .i64 x10_1] ?_; (with_reducible refine (flyballref01_bit.calls _ _ l1 x10_1 false _ ?_ ?_ A6.out).mono ?_); exact Kd.C_below HR1.out (bup HB.out); exact HC1.out; rintro e w' ⟨rfl, ⟨nd, rfl⟩⟩; refine ⟨_, rfl, ?_⟩) | ((with_reducible refine gate_builtin (b := .append) (xs := #[.tmp 24, .tmp 30]) rfl ?_); at_builtin; refine Kd.R_append Kd.bool (w0 := w) w.heap.size rfl (.tmp 24) (.tmp 30) 26 4 (.bool false) 1 rfl Try.underlying26 info4 rfl (by decide) (by omega) u8 x8_1 ((false != false) != true) [.bool ((false != false) != true)] (fun _ => True) (fun _ => False) rfl rfl ?aP (fun _ hk => hk.elim) ?aF ?aO ?aB ?aS ?aL ?_; (case aP => exact rfl); (case aB => exact (bup HB.out)); (case aF => exact (fun _ _ => trivial)); (case aO => exact (rup HO_8.out)); (case aS => exact (below_size (bup HB.out))); (case aL => have := LMc7.out; omega); intro v104 w15 ho hb hg hat; rw [← Ny103.out] at ho; replace HB := Aside0.mk (hb); have HO105 := Aside0.mk (ho); clear HO_8; clear ho hb hg hat))
      go_roundg k1
      case measure => have := HK1.out; omega
      case rel => exact ⟨(y103), (true), (wrap64 (x10_1 + 1)), rS, rS, H', ⟨hk1⟩, ⟨rup HO105.out⟩, ⟨bup HB.out⟩⟩
     ·replace c14 := Bool.eq_false_iff.mpr c14
      subst c14
      have H1 : (flyballref01_Sub.l0 k1 l0 l1 a2 y103 false (wrap64 (x10_1 + 1))) = some (r1, r2) := by rw [if_neg (show ¬ (false = true) by decide)] at H; exact H
      clear H
      have H := H1
      clear H1
      have H' := Aside0.mk H
      clear H
      go_wp2_with (first | ((with_reducible refine gc 105 rfl ?_); refine gL 20 Try.func105 #[.slice A0 l0.length c0, .int .i64 x10_1] ?_; (with_reducible refine (flyballref01_bit.calls _ _ l0 x10_1 false _ ?_ ?_ A5.out).mono ?_); exact Kd.C_below HR0.out (bup HB.out); exact HC0.out; rintro e w' ⟨rfl, ⟨nd, rfl⟩⟩; refine ⟨_, rfl, ?_⟩) | ((with_reducible refine gc 105 rfl ?_); refine gL 23 Try.func105 #[.slice A1 l1.length c1, .int .i64 x10_1] ?_; (with_reducible refine (flyballref01_bit.calls _ _ l1 x10_1 false _ ?_ ?_ A6.out).mono ?_); exact Kd.C_below HR1.out (bup HB.out); exact HC1.out; rintro e w' ⟨rfl, ⟨nd, rfl⟩⟩; refine ⟨_, rfl, ?_⟩) | ((with_reducible refine gate_builtin (b := .append) (xs := #[.tmp 24, .tmp 30]) rfl ?_); at_builtin; refine Kd.R_append Kd.bool (w0 := w) w.heap.size rfl (.tmp 24) (.tmp 30) 26 4 (.bool false) 1 rfl Try.underlying26 info4 rfl (by decide) (by omega) u8 x8_1 ((false != false) != false) [.bool ((false != false) != false)] (fun _ => True) (fun _ => False) rfl rfl ?aP (fun _ hk => hk.elim) ?aF ?aO ?aB ?aS ?aL ?_; (case aP => exact rfl); (case aB => exact (bup HB.out)); (case aF => exact (fun _ _ => trivial)); (case aO => exact (rup HO_8.out)); (case aS => exact (below_size (bup HB.out))); (case aL => have := LMc7.out; omega); intro v104 w16 ho hb hg hat; rw [← Ny103.out] at ho; replace HB := Aside0.mk (hb); have HO105 := Aside0.mk (ho); clear HO_8; clear ho hb hg hat))
      go_roundg k1
      case measure => have := HK1.out; omega
      case rel => exact ⟨(y103), (false), (wrap64 (x10_1 + 1)), rS, rS, H', ⟨hk1⟩, ⟨rup HO105.out⟩, ⟨bup HB.out⟩⟩
def flyballref01_Div.l0 : Nat → List Bool → List Bool → List Bool → List Bool → Int → Option (List Bool × List Bool)
 | 0, _, _, _, _, _ => none
 | k + 1, x0, x1, x6, x7, x8 => if x8 ≥ 0 then (if 0 ≤ x8 then (if x8 < (x0.length : Int) then ((some (([rdOf false x0 x8] : List Bool) : List Bool)).bind fun y105 => (if y105.length + x7.length < 140737488355328 then ((some (y105 ++ x7 : List Bool)).bind fun y108 => ((flyballref01_Cmp.f k y108 x1).bind fun t111 => (if t111 ≥ 0 then ((flyballref01_Sub.f k y108 x1 (y108.length : Int)).bind fun bt112 => (if x8 < (x6.length : Int) then ((flyballref01_Len.f k bt112.1).bind fun t117 => (if 0 ≤ t117 then (if t117 ≤ (bt112.1.length : Int) then (flyballref01_Div.l0 k x0 x1 (x6.set (x8 : Int).toNat true) (bt112.1.take (t117 : Int).toNat) (wrap64 (x8 - 1))) else (none)) else (none))) else (none))) else ((flyballref01_Len.f k y108).bind fun t121 => (if 0 ≤ t121 then (if t121 ≤ (y108.length : Int) then (flyballref01_Div.l0 k x0 x1 x6 (y108.take (t121 : Int).toNat) (wrap64 (x8 - 1))) else (none)) else (none)))))) else (none))) else (none)) else (none)) else (some (x6, x7))
def flyballref01_Div.f (k : Nat) (l0 : List Bool) (l1 : List Bool) : Option (List Bool × List Bool) := if 0 ≤ (l0.length : Int) then (if ((l0.length : Int) : Int).toNat ≤ 281474976710656 then (flyballref01_Div.l0 k l0 l1 (List.replicate ((l0.length : Int) : Int).toNat false) ([] : List Bool) (wrap64 ((l0.length : Int) - 1))) else (none)) else (none)
set_option maxHeartbeats 8000000 in
set_option maxRecDepth 100000 in
theorem flyballref01_Div.calls (k : Nat) (A0 : Option Addr) (c0 : Nat) (l0 : List Bool) (A1 : Option Addr) (c1 : Nat) (l1 : List Bool) (r1 : List Bool) (r2 : List Bool) (w : World) (hr0 : Kd.C Kd.bool w A0 l0.length l0) (hc0 : l0.length ≤ c0) (hr1 : Kd.C Kd.bool w A1 l1.length l1) (hc1 : l1.length ≤ c1) (H : flyballref01_Div.f k l0 l1 = some (r1, r2)) :
  Calls Try.prog 38 #[.slice A0 l0.length c0, .slice A1 l1.length c1] w fun e w' => ∃ v0_ v1_ : Value, e = .returned (.tuple #[v0_, v1_]) ∧ Kd.R Kd.bool 4 w' w.heap.size (fun k_ => some k_ ≠ (v1_ : Value).ownBlock) v0_ r1 ∧ Kd.R Kd.bool 4 w' w.heap.size (fun k_ => some k_ ≠ (v0_ : Value).ownBlock) v1_ r2 ∧ Below w.heap.size w w' := by
 have HR0 := Aside0.mk hr0
 have HC0 := Aside0.mk hc0
 clear hr0 hc0
 have HR1 := Aside0.mk hr1
 have HC1 := Aside0.mk hc1
 clear hr1 hc1
 have HB := Aside0.mk (Below.refl w.heap.size w)
 unfold flyballref01_Div.f at H
 replace H := iS H
 obtain ⟨c3, H⟩ := H
 have c3b0 := eq_true c3
 have c3b1 : decide (0 ≤ (l0.length : Int)) = true := decide_eq_true c3
 clear c3
 replace H := iS H
 obtain ⟨c4, H⟩ := H
 have c4b0 := eq_true c4
 have c4b1 : decide (((l0.length : Int) : Int).toNat ≤ 281474976710656) = true := decide_eq_true c4
 clear c4
 obtain ⟨y101, hy101⟩ : ∃ y_ : List Bool, y_ = (List.replicate ((l0.length : Int) : Int).toNat false) := ⟨_, rfl⟩
 replace H : (flyballref01_Div.l0 k l0 l1 y101 ([] : List Bool) (wrap64 ((l0.length : Int) - 1))) = some (r1, r2) := by first | (rw [hy101]; with_reducible exact H) | (have H2_ := (Option.bind_some _ _).symm.trans H; rw [hy101]; with_reducible exact H2_) | (have H2_ := (Option.bind_some _ _).symm.trans H; with_reducible exact H2_) | with_reducible exact H | (rw [hy101]; exact H) | exact H
 have Ny101 := Aside0.mk hy101
 clear hy101
 have H' := Aside0.mk H
 clear H
 go_enter Try.func38, Try.ntmps38
 go_wp2_with (first | ((with_reducible refine gd 12 rfl ?_); refine Kd.R_make Kd.bool _ 4 rfl (N := 12) rfl 26 _ _ rfl (l0.length : Int) rfl rfl Try.underlying26 (.bool false) 1 info4 rfl (by decide) (by omega) false (ok := fun _ => True) (okp := fun _ => True) rfl (fun _ hk => hk) trivial (of_decide_eq_true asm) (Nat.le_trans (Nat.mul_le_mul_right _ (of_decide_eq_true asm : (l0.length : Int).toNat ≤ 281474976710656)) (by omega)) (Below.refl _ _) (Nat.le_refl _) ?_; intro v102 w5 ho6 hb hg_ hnew_; clear hg_ hnew_; (first | rw [← Ny101.out] at ho6 | (simp only [Int.reduceToNat] at ho6; rw [← Ny101.out] at ho6)); have HO103 := Aside0.mk (Kd.R_lower ho6 (below_size (bup HB.out))); replace HB := bA HB hb; clear hb ho6))
 go_loopg [7, 8] k (fun kq v7 v8 w' => ∃ (x6_1 : List Bool) (x7_1 : List Bool) (x8_1 : Int), v8 = .int .i64 x8_1 ∧ Aside0 (flyballref01_Div.l0 kq l0 l1 x6_1 x7_1 x8_1 = some (r1, r2)) ∧ Aside0 (kq ≤ k) ∧ Aside0 (Kd.R Kd.bool 4 w' w.heap.size (fun k_ => some k_ ≠ (v7 : Value).ownBlock) v102 x6_1) ∧ Aside0 (Kd.R Kd.bool 4 w' w.heap.size (fun k_ => some k_ ≠ (v102 : Value).ownBlock) v7 x7_1) ∧ Aside0 (Below w.heap.size w w'))
 case atStart => exact ⟨(y101), (([] : List Bool)), (wrap64 ((l0.length : Int) - 1)), rS, H', ⟨Nat.le_refl _⟩, ⟨by (with_reducible repeat (first | apply Kd.R_alloc | apply Kd.R_drewN | apply Kd.R_drew)); exact Kd.R_mono HO103.out (fun _ hk => (by simp [Value.ownBlock]))⟩, ⟨nil5⟩, ⟨bup HB.out⟩⟩
 case round =>
  clear H'
  try clear c1
  try clear p2
  try clear c3
  try clear c3b0
  try clear c3b1
  try clear c4
  try clear c4b0
  try clear c4b1
  try clear p6
  obtain ⟨x6_1, x7_1, x8_1, rfl, HA, HK1, HO_6, HO_7, HB⟩ := hrel
  cases gk with
  | zero => exact absurd HA.out (by simp [flyballref01_Div.l0])
  | succ k1 =>
   have H := HA.out
   clear HA
   simp only [flyballref01_Div.l0] at H
   by_cases c7 : x8_1 ≥ 0
   rotate_left
   ·rw [if_neg c7] at H
    have c7b0 : decide (0 ≤ x8_1) = false := decide_eq_false c7
    clear c7
    simp only [Option.some.injEq, Prod.mk.injEq] at H
    obtain ⟨rfl, rfl⟩ := H
    go_wp2
    go_ret2
    exact ⟨_, _, er, rup HO_6.out, rup HO_7.out, bup HB.out⟩
   rw [if_pos c7] at H
   have c7b0 : decide (0 ≤ x8_1) = true := decide_eq_true c7
   clear c7
   replace H := iS H
   obtain ⟨c8, H⟩ := H
   have c8b0 : decide (0 ≤ x8_1) = true := decide_eq_true c8
   clear c8
   replace H := iS H
   obtain ⟨c9, H⟩ := H
   have c9b0 : decide (x8_1 < (l0.length : Int)) = true := decide_eq_true c9
   clear c9
   obtain ⟨y105, hy105⟩ : ∃ y_ : List Bool, y_ = (([rdOf false l0 x8_1] : List Bool)) := ⟨_, rfl⟩
   replace H : (if y105.length + x7_1.length < 140737488355328 then ((some (y105 ++ x7_1 : List Bool)).bind fun y108 => ((flyballref01_Cmp.f k1 y108 l1).bind fun t111 => (if t111 ≥ 0 then ((flyballref01_Sub.f k1 y108 l1 (y108.length : Int)).bind fun bt112 => (if x8_1 < (x6_1.length : Int) then ((flyballref01_Len.f k1 bt112.1).bind fun t117 => (if 0 ≤ t117 then (if t117 ≤ (bt112.1.length : Int) then (flyballref01_Div.l0 k1 l0 l1 (x6_1.set (x8_1 : Int).toNat true) (bt112.1.take (t117 : Int).toNat) (wrap64 (x8_1 - 1))) else (none)) else (none))) else (none))) else ((flyballref01_Len.f k1 y108).bind fun t121 => (if 0 ≤ t121 then (if t121 ≤ (y108.length : Int) then (flyballref01_Div.l0 k1 l0 l1 x6_1 (y108.take (t121 : Int).toNat) (wrap64 (x8_1 - 1))) else (none)) else (none)))))) else (none)) = some (r1, r2) := by first | (rw [hy105]; with_reducible exact H) | (have H2_ := (Option.bind_some _ _).symm.trans H; rw [hy105]; with_reducible exact H2_) | (have H2_ := (Option.bind_some _ _).symm.trans H; with_reducible exact H2_) | with_reducible exact H | (rw [hy105]; exact H) | exact H
   have Ny105 := Aside0.mk hy105
   clear hy105
   replace H := iS H
   obtain ⟨c10, H⟩ := H
   have LMc10 := Aside0.mk c10
   clear c10
   obtain ⟨y108, hy108⟩ : ∃ y_ : List Bool, y_ = (y105 ++ x7_1) := ⟨_, rfl⟩
   replace H : ((flyballref01_Cmp.f k1 y108 l1).bind fun t111 => (if t111 ≥ 0 then ((flyballref01_Sub.f k1 y108 l1 (y108.length : Int)).bind fun bt112 => (if x8_1 < (x6_1.length : Int) then ((flyballref01_Len.f k1 bt112.1).bind fun t117 => (if 0 ≤ t117 then (if t117 ≤ (bt112.1.length : Int) then (flyballref01_Div.l0 k1 l0 l1 (x6_1.set (x8_1 : Int).toNat true) (bt112.1.take (t117 : Int).toNat) (wrap64 (x8_1 - 1))) else (none)) else (none))) else (none))) else ((flyballref01_Len.f k1 y108).bind fun t121 => (if 0 ≤ t121 then (if t121 ≤ (y108.length : Int) then (flyballref01_Div.l0 k1 l0 l1 x6_1 (y108.take (t121 : Int).toNat) (wrap64 (x8_1 - 1))) else (none)) else (none))))) = some (r1, r2) := by first | (rw [hy108]; with_reducible exact H) | (have H2_ := (Option.bind_some _ _).symm.trans H; rw [hy108]; with_reducible exact H2_) | (have H2_ := (Option.bind_some _ _).symm.trans H; with_reducible exact H2_) | with_reducible exact H | (rw [hy108]; exact H) | exact H
   have Ny108 := Aside0.mk hy108
   clear hy108
   replace H := bi H
   obtain ⟨t111, A11, H⟩ := H
   by_cases c12 : t111 ≥ 0
   rotate_left
   ·rw [if_neg c12] at H
    have c12b0 : decide (0 ≤ t111) = false := decide_eq_false c12
    clear c12
    replace H := bi H
    obtain ⟨t121, A30, H⟩ := H
    replace H := iS H
    obtain ⟨c31, H⟩ := H
    have c31b0 := eq_true c31
    have c31b1 : decide (0 ≤ t121) = true := decide_eq_true c31
    clear c31
    replace H := iS H
    obtain ⟨c32, H⟩ := H
    have c32b0 := eq_true c32
    have c32b1 : decide (t121 ≤ (y108.length : Int)) = true := decide_eq_true c32
    clear c32
    obtain ⟨y122, hy122⟩ : ∃ y_ : List Bool, y_ = (y108.take (t121 : Int).toNat) := ⟨_, rfl⟩
    replace H : (flyballref01_Div.l0 k1 l0 l1 x6_1 y122 (wrap64 (x8_1 - 1))) = some (r1, r2) := by first | (rw [hy122]; with_reducible exact H) | (have H2_ := (Option.bind_some _ _).symm.trans H; rw [hy122]; with_reducible exact H2_) | (have H2_ := (Option.bind_some _ _).symm.trans H; with_reducible exact H2_) | with_reducible exact H | (rw [hy122]; exact H) | exact H
    have Ny122 := Aside0.mk hy122
    clear hy122
    have H' := Aside0.mk H
    clear H
    have p104 : 0 ≤ (x8_1 : Int) := of_decide_eq_true asm
    have q104 : x8_1 < (l0.length : Int) := of_decide_eq_true asm
    obtain ⟨ad104, e104, hx104_0⟩ := Kd.at_bool HR0.out x8_1 p104 q104
    cases e104
    replace hx104_0 := (HB.out.cell (World.block_lt_of_cell? w _ hx104_0)).trans hx104_0
    replace p104 := eq_true p104
    replace q104 := eq_true q104
    go_wp2_with (first | ((with_reducible refine gd 24 rfl ?_); refine Kd.R_lit Kd.bool _ 4 ?hg (N := 24) ?hd (xs := ([rdOf false l0 x8_1] : List Bool)) (inner := [.bool (rdOf false l0 x8_1)]) (ok := fun _ => True) (okp := fun _ => True) ?hr ?hp (fun _ hk => hk) trivial (Below.refl _ _) (Nat.le_refl _) (by simp) ?_; (case hd => rfl); (case hg => rfl); (case hr => first | (go_simp; done) | (go_simp; rfl)); (case hp => exact (Reps.one (show Kd.M Kd.bool _ _ _ (rdOf false l0 x8_1) [.bool (rdOf false l0 x8_1)] from rfl) (Reps.none _ _))); intro v106 w33 ho34 hb hg_ hnew_; clear hg_ hnew_; (first | rw [← Ny105.out] at ho34 | (simp only [Int.reduceToNat] at ho34; rw [← Ny105.out] at ho34)); have HO107 := Aside0.mk (Kd.R_lower (Kd.R_new' (Kd.R_new' ho34 (Kd.R_lt (rup HO_6.out))) (Kd.R_lt (rup HO_7.out))) (below_size (bup HB.out))); replace HO_6 := Aside0.mk (Kd.R_elder' (rup HO_6.out) (Kd.R_base ho34) hb); replace HO_7 := Aside0.mk (Kd.R_elder' (rup HO_7.out) (Kd.R_base ho34) hb); replace HB := bA HB hb; clear hb ho34; obtain ⟨Ao36, co36, eo36⟩ := Kd.R_slice HO_7.out; subst eo36) | ((with_reducible refine gate_builtin (b := .append) (xs := #[.tmp 25, .tmp 26]) rfl ?_); at_builtin; refine Kd.R_append_rows Kd.bool (w0 := w) w.heap.size rfl (.tmp 25) (.tmp 26) 26 4 (.bool false) 1 rfl Try.underlying26 info4 rfl (by decide) (by omega) v106 y105 x7_1 _ _ _ (fun k_ => some k_ ≠ (v102 : Value).ownBlock ∧ some k_ ≠ (.slice Ao36 x7_1.length co36 : Value).ownBlock) (fun _ => False) rfl rfl ?aO ?aR (fun _ _ h => h) (fun _ h => h.elim) ?aF ?aB ?aS ?aL ?_; (case aR => repeat (first | exact (Kd.R_reads' HO_7.out).2.2 | (with_reducible refine Kd.C_alloc ?_ _) | (with_reducible refine Kd.C_drewN ?_ _) | (with_reducible refine Kd.C_drew ?_))); (case aB => exact (bup HB.out)); (case aF => exact (fun k_ hk => ⟨Kd.fresh' (Kd.R_lt (rup HO_6.out)) k_ hk, Kd.fresh' (Kd.R_lt (rup HO_7.out)) k_ hk⟩)); (case aO => exact (by (with_reducible repeat (first | apply Kd.R_alloc | apply Kd.R_drewN | apply Kd.R_drew)); exact Kd.R_mono HO107.out (fun _ hk => ⟨hk.1.2, hk.2⟩))); (case aS => exact (below_size (bup HB.out))); (case aL => have := LMc10.out; omega); intro v109 w35 ho hb hg hat; rw [← Ny108.out] at ho; replace HO_6 := Aside0.mk (Kd.R_after (ok := (fun k_ => some k_ ≠ (.slice Ao36 x7_1.length co36 : Value).ownBlock)) (rup HO_6.out) hg hat); replace HO_7 := Aside0.mk (Kd.R_after (ok := (fun k_ => some k_ ≠ (v102 : Value).ownBlock)) (rup HO_7.out) hg hat); replace HB := Aside0.mk (hb); have HO110 := Aside0.mk (ho); clear HO107; clear ho hb hg hat; obtain ⟨Ao37, co37, eo37⟩ := Kd.R_slice HO110.out; subst eo37) | ((with_reducible refine gc 26 rfl ?_); refine gL 31 Try.func26 #[.slice Ao37 y108.length co37, .slice A1 l1.length c1] ?_; (with_reducible refine (flyballref01_Cmp.calls k1 _ _ y108 _ _ l1 t111 _ ?_ ?_ ?_ ?_ A11.out).mono ?_); exact cup ((Kd.R_reads' HO110.out).2.2); exact (Kd.R_reads' HO110.out).2.1; exact Kd.C_below HR1.out (bup HB.out); exact HC1.out; rintro e w38 ⟨rfl, hb⟩; refine ⟨_, rfl, ?_⟩; replace HO_6 := rA HO_6 hb; replace HO_7 := rA HO_7 hb; replace HO110 := rA HO110 hb; replace HB := bA HB hb; clear hb) | ((with_reducible refine gc 53 rfl ?_); refine gL 46 Try.func53 #[.slice Ao37 y108.length co37] ?_; (with_reducible refine (flyballref01_Len.calls k1 _ _ y108 t121 _ ?_ ?_ A30.out).mono ?_); exact cup ((Kd.R_reads' HO110.out).2.2); exact (Kd.R_reads' HO110.out).2.1; rintro e w' ⟨rfl, ⟨nd, rfl⟩⟩; refine ⟨_, rfl, ?_⟩; have q39 : (t121 : Int) ≤ ((y108.length : Int) : Int) := of_decide_eq_true asm; obtain ⟨i039, hi039, _, hsz39, _⟩ := info_parts info4; have hcut39 := cut_to (P := Try.prog) 26 4 .i64 Try.underlying26 hi039 Ao37 y108.length co37 t121 (of_decide_eq_true asm) q39 (Kd.R_reads' HO110.out).2.1; have hr39 := Kd.R_take (m := (t121 : Int).toNat) HO110.out (by omega); have hy39 : y122.length = (t121 : Int).toNat := (by rw [Ny122.out, List.length_take]; omega); rw [← Ny122.out] at hr39; rw [← hy39] at hr39 hcut39; clear hy39 hi039 hsz39 HO110; have HO124 := Aside0.mk hr39; clear hr39; replace q39 := eq_true q39))
    go_roundg k1
    case measure => have := HK1.out; omega
    case rel => exact ⟨(x6_1), (y122), (wrap64 (x8_1 - 1)), rS, H', ⟨hk1⟩, ⟨by (with_reducible repeat (first | apply Kd.R_alloc | apply Kd.R_drewN | apply Kd.R_drew)); exact Kd.R_mono HO_6.out (fun _ hk => by cases Ao37 <;> exact hk.2)⟩, ⟨by (with_reducible repeat (first | apply Kd.R_alloc | apply Kd.R_drewN | apply Kd.R_drew)); exact Kd.R_mono HO124.out (fun _ hk => hk.1)⟩, ⟨bup HB.out⟩⟩
   rw [if_pos c12] at H
   have c12b0 : decide (0 ≤ t111) = true := decide_eq_true c12
   clear c12
   replace H := bi H
   obtain ⟨⟨t112, t113⟩, A13, H⟩ := H
   try dsimp only at H
   replace H := iS H
   obtain ⟨c14, H⟩ := H
   have c14b0 : decide (x8_1 < (x6_1.length : Int)) = true := decide_eq_true c14
   clear c14
   obtain ⟨y116, hy116⟩ : ∃ y_ : List Bool, y_ = (x6_1.set (x8_1 : Int).toNat true) := ⟨_, rfl⟩
   replace H : ((flyballref01_Len.f k1 t112).bind fun t117 => (if 0 ≤ t117 then (if t117 ≤ (t112.length : Int) then (flyballref01_Div.l0 k1 l0 l1 y116 (t112.take (t117 : Int).toNat) (wrap64 (x8_1 - 1))) else (none)) else (none))) = some (r1, r2) := by first | (rw [hy116]; with_reducible exact H) | (have H2_ := (Option.bind_some _ _).symm.trans H; rw [hy116]; with_reducible exact H2_) | (have H2_ := (Option.bind_some _ _).symm.trans H; with_reducible exact H2_) | with_reducible exact H | (rw [hy116]; exact H) | exact H
   have Ny116 := Aside0.mk hy116
   clear hy116
   replace H := bi H
   obtain ⟨t117, A16, H⟩ := H
   replace H := iS H
   obtain ⟨c17, H⟩ := H
   have c17b0 := eq_true c17
   have c17b1 : decide (0 ≤ t117) = true := decide_eq_true c17
   clear c17
   replace H := iS H
   obtain ⟨c18, H⟩ := H
   have c18b0 := eq_true c18
   have c18b1 : decide (t117 ≤ (t112.length : Int)) = true := decide_eq_true c18
   clear c18
   obtain ⟨y118, hy118⟩ : ∃ y_ : List Bool, y_ = (t112.take (t117 : Int).toNat) := ⟨_, rfl⟩
   replace H : (flyballref01_Div.l0 k1 l0 l1 y116 y118 (wrap64 (x8_1 - 1))) = some (r1, r2) := by first | (rw [hy118]; with_reducible exact H) | (have H2_ := (Option.bind_some _ _).symm.trans H; rw [hy118]; with_reducible exact H2_) | (have H2_ := (Option.bind_some _ _).symm.trans H; with_reducible exact H2_) | with_reducible exact H | (rw [hy118]; exact H) | exact H
   have Ny118 := Aside0.mk hy118
   clear hy118
   have H' := Aside0.mk H
   clear H
   have p104 : 0 ≤ (x8_1 : Int) := of_decide_eq_true asm
   have q104 : x8_1 < (l0.length : Int) := of_decide_eq_true asm
   obtain ⟨ad104, e104, hx104_0⟩ := Kd.at_bool HR0.out x8_1 p104 q104
   cases e104
   replace hx104_0 := (HB.out.cell (World.block_lt_of_cell? w _ hx104_0)).trans hx104_0
   replace p104 := eq_true p104
   replace q104 := eq_true q104
   go_wp2_with (first | ((with_reducible refine gd 24 rfl ?_); refine Kd.R_lit Kd.bool _ 4 ?hg (N := 24) ?hd (xs := ([rdOf false l0 x8_1] : List Bool)) (inner := [.bool (rdOf false l0 x8_1)]) (ok := fun _ => True) (okp := fun _ => True) ?hr ?hp (fun _ hk => hk) trivial (Below.refl _ _) (Nat.le_refl _) (by simp) ?_; (case hd => rfl); (case hg => rfl); (case hr => first | (go_simp; done) | (go_simp; rfl)); (case hp => exact (Reps.one (show Kd.M Kd.bool _ _ _ (rdOf false l0 x8_1) [.bool (rdOf false l0 x8_1)] from rfl) (Reps.none _ _))); intro v106 w19 ho20 hb hg_ hnew_; clear hg_ hnew_; (first | rw [← Ny105.out] at ho20 | (simp only [Int.reduceToNat] at ho20; rw [← Ny105.out] at ho20)); have HO107 := Aside0.mk (Kd.R_lower (Kd.R_new' (Kd.R_new' ho20 (Kd.R_lt (rup HO_6.out))) (Kd.R_lt (rup HO_7.out))) (below_size (bup HB.out))); replace HO_6 := Aside0.mk (Kd.R_elder' (rup HO_6.out) (Kd.R_base ho20) hb); replace HO_7 := Aside0.mk (Kd.R_elder' (rup HO_7.out) (Kd.R_base ho20) hb); replace HB := bA HB hb; clear hb ho20; obtain ⟨Ao22, co22, eo22⟩ := Kd.R_slice HO_7.out; subst eo22) | ((with_reducible refine gate_builtin (b := .append) (xs := #[.tmp 25, .tmp 26]) rfl ?_); at_builtin; refine Kd.R_append_rows Kd.bool (w0 := w) w.heap.size rfl (.tmp 25) (.tmp 26) 26 4 (.bool false) 1 rfl Try.underlying26 info4 rfl (by decide) (by omega) v106 y105 x7_1 _ _ _ (fun k_ => some k_ ≠ (v102 : Value).ownBlock ∧ some k_ ≠ (.slice Ao22 x7_1.length co22 : Value).ownBlock) (fun _ => False) rfl rfl ?aO ?aR (fun _ _ h => h) (fun _ h => h.elim) ?aF ?aB ?aS ?aL ?_; (case aR => repeat (first | exact (Kd.R_reads' HO_7.out).2.2 | (with_reducible refine Kd.C_alloc ?_ _) | (with_reducible refine Kd.C_drewN ?_ _) | (with_reducible refine Kd.C_drew ?_))); (case aB => exact (bup HB.out)); (case aF => exact (fun k_ hk => ⟨Kd.fresh' (Kd.R_lt (rup HO_6.out)) k_ hk, Kd.fresh' (Kd.R_lt (rup HO_7.out)) k_ hk⟩)); (case aO => exact (by (with_reducible repeat (first | apply Kd.R_alloc | apply Kd.R_drewN | apply Kd.R_drew)); exact Kd.R_mono HO107.out (fun _ hk => ⟨hk.1.2, hk.2⟩))); (case aS => exact (below_size (bup HB.out))); (case aL => have := LMc10.out; omega); intro v109 w21 ho hb hg hat; rw [← Ny108.out] at ho; replace HO_6 := Aside0.mk (Kd.R_after (ok := (fun k_ => some k_ ≠ (.slice Ao22 x7_1.length co22 : Value).ownBlock)) (rup HO_6.out) hg hat); replace HO_7 := Aside0.mk (Kd.R_after (ok := (fun k_ => some k_ ≠ (v102 : Value).ownBlock)) (rup HO_7.out) hg hat); replace HB := Aside0.mk (hb); have HO110 := Aside0.mk (ho); clear HO107; clear ho hb hg hat; obtain ⟨Ao23, co23, eo23⟩ := Kd.R_slice HO110.out; subst eo23) | ((with_reducible refine gc 26 rfl ?_); refine gL 31 Try.func26 #[.slice Ao23 y108.length co23, .slice A1 l1.length c1] ?_; (with_reducible refine (flyballref01_Cmp.calls k1 _ _ y108 _ _ l1 t111 _ ?_ ?_ ?_ ?_ A11.out).mono ?_); exact cup ((Kd.R_reads' HO110.out).2.2); exact (Kd.R_reads' HO110.out).2.1; exact Kd.C_below HR1.out (bup HB.out); exact HC1.out; rintro e w24 ⟨rfl, hb⟩; refine ⟨_, rfl, ?_⟩; replace HO_6 := rA HO_6 hb; replace HO_7 := rA HO_7 hb; replace HO110 := rA HO110 hb; replace HB := bA HB hb; clear hb) | ((with_reducible refine gc 34 rfl ?_); refine gL 38 Try.func34 #[.slice Ao23 y108.length co23, .slice A1 l1.length c1, .int .i64 (y108.length : Int)] ?_; (with_reducible refine (flyballref01_Sub.calls k1 _ _ y108 _ _ l1 (y108.length : Int) t112 t113 _ ?_ ?_ ?_ ?_ A13.out).mono ?_); exact cup ((Kd.R_reads' HO110.out).2.2); exact (Kd.R_reads' HO110.out).2.1; exact Kd.C_below HR1.out (bup HB.out); exact HC1.out; rintro e w25 ⟨v114, rfl, ho0, hb⟩; refine ⟨_, rfl, ?_⟩; have HO115 := Aside0.mk (Kd.R_lower (Kd.R_new' (Kd.R_new' (Kd.R_new' ho0 (Kd.R_lt (rup HO_6.out))) (Kd.R_lt (rup HO_7.out))) (Kd.R_lt (rup HO110.out))) (below_size (bup HB.out))); replace HO_6 := Aside0.mk (Kd.R_elder' (rup HO_6.out) (Kd.R_base ho0) hb); replace HO_7 := Aside0.mk (Kd.R_elder' (rup HO_7.out) (Kd.R_base ho0) hb); replace HO110 := Aside0.mk (Kd.R_elder' (rup HO110.out) (Kd.R_base ho0) hb); replace HB := bA HB hb; clear hb ho0; have p15 : 0 ≤ (x8_1 : Int) := of_decide_eq_true asm; have q15 : (x8_1 : Int) < ((x6_1.length : Int) : Int) := of_decide_eq_true asm; obtain ⟨go15, co15, eo15, gb15, gl15, cl15, HG15⟩ := Kd.R_form HO_6.out (by omega); (first | cases eo15 | (injection eo15 with ea_ en_ ec_; (first | subst ea_ | (injection ea_ with ea_; subst ea_)); subst ec_; clear en_)); have GB15 := Aside0.mk gb15; have GG15 := Aside0.mk HG15; clear gb15 gl15 HG15; obtain ⟨hx15_0, hf15_0⟩ := Kd.R_celln false HO_6.out (x8_1 : Int) p15 q15; replace p15 := eq_true p15; replace q15 := eq_true q15; have n_ := Aside0.mk (Kd.R_mono (ok' := (fun k_ => some k_ ≠ (.slice Ao22 x7_1.length co22 : Value).ownBlock ∧ some k_ ≠ (.slice Ao23 y108.length co23 : Value).ownBlock ∧ some k_ ≠ (v114 : Value).ownBlock)) HO_6.out (fun k_ hk => ⟨hk.1.1, ⟨hk.1.2, hk.2⟩⟩)); clear HO_6; have HO_6 := n_; clear n_; obtain ⟨hy26_, hz26_⟩ := Kd.R_celln false HO_6.out (x8_1 : Int) (of_decide_eq_true asm) (of_decide_eq_true asm); have HP26 := Kd.R_putg HO_6.out (x8_1 : Int) true) | ((with_reducible refine gate_store (t := 4) (p := 43) rfl ?_); refine store_event (t := 4) (p := 43) (v := ?vo_w27) (w1 := (w25.setCell ⟨go15, (x8_1 : Int).toNat, none⟩ (.bool true))) ?hg ?ho ?hn ?hr ?_; (case ho => rfl); (case hg => rfl); (case hn => rfl); (case hr => first | (go_simp; done) | (go_simp; rfl)); intro w27 hw; have hg : w25.grownBy w27 (some go15) := (by rw [hw]; exact HP26.2); have hp_ : Kd.R Kd.bool 4 w27 w.heap.size (fun k_ => some k_ ≠ (.slice Ao22 x7_1.length co22 : Value).ownBlock ∧ some k_ ≠ (.slice Ao23 y108.length co23 : Value).ownBlock ∧ some k_ ≠ (v114 : Value).ownBlock) (.slice (some ⟨go15, 0, none⟩) x6_1.length co15) y116 := (by rw [hw, Ny116.out]; exact HP26.1); clear HP26; replace HO_6 := Aside0.mk (hp_); replace HO_7 := Aside0.mk (Kd.R_after (v := (.slice (some ⟨go15, 0, none⟩) x6_1.length co15)) (v1 := (.slice (some ⟨go15, 0, none⟩) x6_1.length co15)) (ok := (fun k_ => some k_ ≠ (.slice Ao23 y108.length co23 : Value).ownBlock ∧ some k_ ≠ (v114 : Value).ownBlock)) (by (with_reducible repeat (first | apply Kd.R_alloc | apply Kd.R_drewN | apply Kd.R_drew)); exact Kd.R_mono HO_7.out (fun _ hk => ⟨⟨hk.1.2, hk.2⟩, hk.1.1⟩)) hg (.inl rfl)); replace HO110 := Aside0.mk (Kd.R_after (v := (.slice (some ⟨go15, 0, none⟩) x6_1.length co15)) (v1 := (.slice (some ⟨go15, 0, none⟩) x6_1.length co15)) (ok := (fun k_ => some k_ ≠ (.slice Ao22 x7_1.length co22 : Value).ownBlock ∧ some k_ ≠ (v114 : Value).ownBlock)) (by (with_reducible repeat (first | apply Kd.R_alloc | apply Kd.R_drewN | apply Kd.R_drew)); exact Kd.R_mono HO110.out (fun _ hk => ⟨⟨hk.1.2, hk.2⟩, hk.1.1⟩)) hg (.inl rfl)); replace HO115 := Aside0.mk (Kd.R_after (v := (.slice (some ⟨go15, 0, none⟩) x6_1.length co15)) (v1 := (.slice (some ⟨go15, 0, none⟩) x6_1.length co15)) (ok := (fun k_ => some k_ ≠ (.slice Ao22 x7_1.length co22 : Value).ownBlock ∧ some k_ ≠ (.slice Ao23 y108.length co23 : Value).ownBlock)) (by (with_reducible repeat (first | apply Kd.R_alloc | apply Kd.R_drewN | apply Kd.R_drew)); exact Kd.R_mono HO115.out (fun _ hk => ⟨⟨hk.1.2, hk.2⟩, hk.1.1.2⟩)) hg (.inl rfl)); replace HB := Aside0.mk ((by rw [hw]; exact below_set (HB.out) GB15.out : Below w.heap.size w w27)); clear hg hw hp_; obtain ⟨Ao28, co28, eo28⟩ := Kd.R_slice HO115.out; subst eo28) | ((with_reducible refine gc 53 rfl ?_); refine gL 46 Try.func53 #[.slice Ao28 t112.length co28] ?_; (with_reducible refine (flyballref01_Len.calls k1 _ _ t112 t117 _ ?_ ?_ A16.out).mono ?_); exact cup ((Kd.R_reads' HO115.out).2.2); exact (Kd.R_reads' HO115.out).2.1; rintro e w' ⟨rfl, ⟨nd, rfl⟩⟩; refine ⟨_, rfl, ?_⟩; have q29 : (t117 : Int) ≤ ((t112.length : Int) : Int) := of_decide_eq_true asm; obtain ⟨i029, hi029, _, hsz29, _⟩ := info_parts info4; have hcut29 := cut_to (P := Try.prog) 26 4 .i64 Try.underlying26 hi029 Ao28 t112.length co28 t117 (of_decide_eq_true asm) q29 (Kd.R_reads' HO115.out).2.1; have hr29 := Kd.R_take (m := (t117 : Int).toNat) HO115.out (by omega); have hy29 : y118.length = (t117 : Int).toNat := (by rw [Ny118.out, List.length_take]; omega); rw [← Ny118.out] at hr29; rw [← hy29] at hr29 hcut29; clear hy29 hi029 hsz29 HO115; have HO120 := Aside0.mk hr29; clear hr29; replace q29 := eq_true q29))
   go_roundg k1
   case measure => have := HK1.out; omega
   case rel => exact ⟨(y116), (y118), (wrap64 (x8_1 - 1)), rS, H', ⟨hk1⟩, ⟨by (with_reducible repeat (first | apply Kd.R_alloc | apply Kd.R_drewN | apply Kd.R_drew)); exact Kd.R_mono HO_6.out (fun _ hk => by cases Ao28 <;> exact hk.2.2)⟩, ⟨by (with_reducible repeat (first | apply Kd.R_alloc | apply Kd.R_drewN | apply Kd.R_drew)); exact Kd.R_mono HO120.out (fun _ hk => hk.2)⟩, ⟨bup HB.out⟩⟩
def flyballref02_Gcd.l0 : Nat → List Bool → List Bool → Option (List Bool)
 | 0, _, _ => none
 | k + 1, x0, x1 => (flyballref01_Len.f k x1).bind fun t101 => (if t101 > 0 then ((flyballref01_Div.f k x0 x1).bind fun bt102 => (flyballref02_Gcd.l0 k x1 bt102.2)) else (some x0))
def flyballref02_Gcd.f (k : Nat) (l0 : List Bool) (l1 : List Bool) : Option (List Bool) := flyballref02_Gcd.l0 k l0 l1
set_option maxHeartbeats 8000000 in
set_option maxRecDepth 100000 in
theorem flyballref02_Gcd.calls (k : Nat) (P0_ : Nat → Prop) (A0 : Option Addr) (c0 : Nat) (l0 : List Bool) (P1_ : Nat → Prop) (A1 : Option Addr) (c1 : Nat) (l1 : List Bool) (r : List Bool) (w : World) (hs0 : Kd.V Kd.bool 4 w w.heap.size (fun k_ => P0_ k_) (.slice A0 l0.length c0) l0) (hs1 : Kd.V Kd.bool 4 w w.heap.size (fun k_ => P1_ k_) (.slice A1 l1.length c1) l1) (H : flyballref02_Gcd.f k l0 l1 = some r) :
  Calls Try.prog 36 #[.slice A0 l0.length c0, .slice A1 l1.length c1] w fun e w' => ∃ v0_ : Value, e = .returned (v0_) ∧ Kd.V Kd.bool 4 w' w.heap.size (fun k_ => ((P0_ k_ ∨ P1_ k_) ∨ w.heap.size ≤ k_)) v0_ r ∧ Below w.heap.size w w' := by
 have HO0 := Aside0.mk (show Kd.V Kd.bool 4 w w.heap.size (fun k_ => ((P0_ k_ ∨ P1_ k_) ∨ w.heap.size ≤ k_)) (.slice A0 l0.length c0) l0 from Kd.V_mono hs0 (fun k_ hk => .inl (.inl hk)))
 have HO1 := Aside0.mk (show Kd.V Kd.bool 4 w w.heap.size (fun k_ => ((P0_ k_ ∨ P1_ k_) ∨ w.heap.size ≤ k_)) (.slice A1 l1.length c1) l1 from Kd.V_mono hs1 (fun k_ hk => .inl (.inr hk)))
 have HB := Aside0.mk (Below.refl w.heap.size w)
 unfold flyballref02_Gcd.f at H
 have H' := Aside0.mk H
 clear H
 go_enter Try.func36, Try.ntmps36
 go_wp2
 go_loopg [0, 1] k (fun kq v0 v1 w' => ∃ (x0_1 : List Bool) (x1_1 : List Bool), Aside0 (flyballref02_Gcd.l0 kq x0_1 x1_1 = some r) ∧ Aside0 (kq ≤ k) ∧ Aside0 (Kd.V Kd.bool 4 w' w.heap.size (fun k_ => ((P0_ k_ ∨ P1_ k_) ∨ w.heap.size ≤ k_)) v0 x0_1) ∧ Aside0 (Kd.V Kd.bool 4 w' w.heap.size (fun k_ => ((P0_ k_ ∨ P1_ k_) ∨ w.heap.size ≤ k_)) v1 x1_1) ∧ Aside0 (Below w.heap.size w w'))
 case atStart => exact ⟨(l0), (l1), H', ⟨Nat.le_refl _⟩, ⟨vup HO0.out⟩, ⟨vup HO1.out⟩, ⟨bup HB.out⟩⟩
 case round =>
  clear H'
  try clear c1
  try clear p2
  obtain ⟨x0_1, x1_1, HA, HK1, HO_0, HO_1, HB⟩ := hrel
  cases gk with
  | zero => exact absurd HA.out (by simp [flyballref02_Gcd.l0])
  | succ k1 =>
   have H := HA.out
   clear HA
   simp only [flyballref02_Gcd.l0] at H
   replace H := bi H
   obtain ⟨t101, A3, H⟩ := H
   by_cases c4 : t101 > 0
   rotate_left
   ·rw [if_neg c4] at H
    have c4b0 : decide (0 < t101) = false := decide_eq_false c4
    clear c4
    obtain rfl := Option.some.inj H
    obtain ⟨Ao9, co9, eo9⟩ := Kd.V_slice HO_1.out
    subst eo9
    go_wp2_with (first | ((with_reducible refine gc 53 rfl ?_); refine gL 8 Try.func53 #[.slice Ao9 x1_1.length co9] ?_; (with_reducible refine (flyballref01_Len.calls k1 _ _ x1_1 t101 _ ?_ ?_ A3.out).mono ?_); exact cup ((Kd.V_reads' HO_1.out).2.2); exact (Kd.V_reads' HO_1.out).2.1; rintro e w' ⟨rfl, ⟨nd, rfl⟩⟩; refine ⟨_, rfl, ?_⟩))
    go_ret
    exact ⟨_, er, vup HO_0.out, bup HB.out⟩
   rw [if_pos c4] at H
   have c4b0 : decide (0 < t101) = true := decide_eq_true c4
   clear c4
   replace H := bi H
   obtain ⟨⟨t102, t103⟩, A5, H⟩ := H
   try dsimp only at H
   have H' := Aside0.mk H
   clear H
   obtain ⟨Ao6, co6, eo6⟩ := Kd.V_slice HO_1.out
   subst eo6
   go_wp2_with (first | ((with_reducible refine gc 53 rfl ?_); refine gL 8 Try.func53 #[.slice Ao6 x1_1.length co6] ?_; (with_reducible refine (flyballref01_Len.calls k1 _ _ x1_1 t101 _ ?_ ?_ A3.out).mono ?_); exact cup ((Kd.V_reads' HO_1.out).2.2); exact (Kd.V_reads' HO_1.out).2.1; rintro e w' ⟨rfl, ⟨nd, rfl⟩⟩; refine ⟨_, rfl, ?_⟩; obtain ⟨Ao7, co7, eo7⟩ := Kd.V_slice HO_0.out; subst eo7) | ((with_reducible refine gc 38 rfl ?_); refine gL 13 Try.func38 #[.slice Ao7 x0_1.length co7, .slice Ao6 x1_1.length co6] ?_; (with_reducible refine (flyballref01_Div.calls k1 _ _ x0_1 _ _ x1_1 t102 t103 _ ?_ ?_ ?_ ?_ A5.out).mono ?_); exact cup ((Kd.V_reads' HO_0.out).2.2); exact (Kd.V_reads' HO_0.out).2.1; exact cup ((Kd.V_reads' HO_1.out).2.2); exact (Kd.V_reads' HO_1.out).2.1; rintro e w8 ⟨v104, v106, rfl, ho0, ho1, hb⟩; refine ⟨_, rfl, ?_⟩; replace HO_0 := v2 HO_0 hb ho0 ho1; replace HO_1 := v2 HO_1 hb ho0 ho1; have HO105 := Aside0.mk (Kd.R_lower (Kd.R_newM (M := fun k_ => (w.heap.size ≤ k_)) ho0 (below_size (bup HB.out)) (fun k_ h_ => h_)) (below_size (bup HB.out))); have HO107 := Aside0.mk (Kd.R_lower (Kd.R_newM (M := fun k_ => (w.heap.size ≤ k_)) ho1 (below_size (bup HB.out)) (fun k_ h_ => h_)) (below_size (bup HB.out))); replace HB := bA HB hb; clear hb ho0 ho1))
   go_roundg k1
   case measure => have := HK1.out; omega
   case rel => exact ⟨(x1_1), (t103), H', ⟨hk1⟩, ⟨by (with_reducible repeat (first | apply Kd.V_alloc | apply Kd.V_drewN | apply Kd.V_drew)); exact Kd.V_mono HO_1.out (fun _ hk => hk.1.1)⟩, ⟨Kd.V_mono (Kd.R_V (by (with_reducible repeat (first | apply Kd.R_alloc | apply Kd.R_drewN | apply Kd.R_drew)); exact Kd.R_mono HO107.out (fun _ hk => hk.1))) (fun k_ hk => by first | exact ⟨(.inr (hk.1)), hk.2⟩ | exact (.inr (hk)))⟩, ⟨bup HB.out⟩⟩
def flyballref03_Low.j0 : Nat → Bool → List Bool → List Bool → Bool → Option (Bool × List Bool × List Bool)
 | 0, _, _, _, _ => none
 | k + 1, x0, x7, x8, x25 => if x25 = true then ((flyballref03_one.f).bind fun t108 => (some (false, ([] : List Bool), t108))) else ((flyballref02_Gcd.f k x7 x8).bind fun t111 => ((flyballref01_Div.f k x7 t111).bind fun bt114 => ((flyballref01_Div.f k x8 t111).bind fun bt120 => ((flyballref03_trim.f k bt114.1).bind fun t126 => ((flyballref03_trim.f k bt120.1).bind fun t129 => (some (x0, t126, t129)))))))
def flyballref03_Low.f (k : Nat) (a0 : Bool) (l1 : List Bool) (l2 : List Bool) : Option (Bool × List Bool × List Bool) := (flyballref03_trim.f k l1).bind fun t102 => ((flyballref03_trim.f k l2).bind fun t105 => (if (t102.length : Int) = 0 then (flyballref03_Low.j0 k a0 t102 t105 true) else (flyballref03_Low.j0 k a0 t102 t105 ((t105.length : Int) == 0))))
set_option maxHeartbeats 8000000 in
set_option maxRecDepth 100000 in
theorem flyballref03_Low.calls (k : Nat) (a0 : Bool) (P1_ : Nat → Prop) (A1 : Option Addr) (c1 : Nat) (l1 : List Bool) (P2_ : Nat → Prop) (A2 : Option Addr) (c2 : Nat) (l2 : List Bool) (r1 : Bool) (r2 : List Bool) (r3 : List Bool) (w : World) (hs1 : Kd.V Kd.bool 4 w w.heap.size (fun k_ => P1_ k_) (.slice A1 l1.length c1) l1) (hs2 : Kd.V Kd.bool 4 w w.heap.size (fun k_ => P2_ k_) (.slice A2 l2.length c2) l2) (H : flyballref03_Low.f k a0 l1 l2 = some (r1, r2, r3)) :
  Calls Try.prog 96 #[.bool a0, .slice A1 l1.length c1, .slice A2 l2.length c2] w fun e w' => ∃ v1_ v2_ : Value, e = .returned (.agg #[.bool r1, v1_, v2_]) ∧ Kd.V Kd.bool 4 w' w.heap.size (fun k_ => ((P1_ k_ ∨ P2_ k_) ∨ w.heap.size ≤ k_)) v1_ r2 ∧ Kd.V Kd.bool 4 w' w.heap.size (fun k_ => ((P1_ k_ ∨ P2_ k_) ∨ w.heap.size ≤ k_)) v2_ r3 ∧ Below w.heap.size w w' := by
 have hu92 := Try.underlying92
 have HO1 := Aside0.mk (show Kd.V Kd.bool 4 w w.heap.size (fun k_ => ((P1_ k_ ∨ P2_ k_) ∨ w.heap.size ≤ k_)) (.slice A1 l1.length c1) l1 from Kd.V_mono hs1 (fun k_ hk => .inl (.inl hk)))
 have HO2 := Aside0.mk (show Kd.V Kd.bool 4 w w.heap.size (fun k_ => ((P1_ k_ ∨ P2_ k_) ∨ w.heap.size ≤ k_)) (.slice A2 l2.length c2) l2 from Kd.V_mono hs2 (fun k_ hk => .inl (.inr hk)))
 have HB := Aside0.mk (Below.refl w.heap.size w)
 unfold flyballref03_Low.f at H
 replace H := bi H
 obtain ⟨t102, A4, H⟩ := H
 replace H := bi H
 obtain ⟨t105, A5, H⟩ := H
 have HC6 := Aside0.mk H
 clear H
 go_enter Try.func96, Try.ntmps96
 go_upto_region 3 with (first | ((with_reducible refine gd 6 rfl ?_); (try (refine gate_guard (by rfl) ?_; dsimp only)); refine box_event ?hg (N := 6) ?hd (cs := #[.bool false, .slice none 0 0, .slice none 0 0]) (t := 92) ?hr ?_; (case hd => rfl); (case hg => rfl); (case hr => first | (go_simp; done) | (go_simp; rfl)); intro gb101 hg w7 hbox hb; replace HO1 := vE HO1 hg hb; replace HO2 := vE HO2 hg hb; have BK101 := Aside0.mk hbox; have GW101 := gB hg HB; have GE101 := gB hg HB; replace HB := bA HB hb; clear hb hbox hg) | ((with_reducible refine gc 127 rfl ?_); refine gL 15 Try.func127 #[.slice A1 l1.length c1] ?_; (with_reducible refine (flyballref03_trim.calls k (fun k_ => (((P1_ k_ ∨ P2_ k_) ∨ w.heap.size ≤ k_) ∧ k_ ≠ gb101)) _ _ l1 t102 _ ?_ A4.out).mono ?_); exact HO1.out; rintro e w8 ⟨v103, rfl, ho0, hb⟩; refine ⟨_, rfl, ?_⟩; replace HO1 := vA HO1 hb; replace HO2 := vA HO2 hb; have HO104 := lw HB (fun k_ => ((P1_ k_ ∨ P2_ k_) ∨ w.heap.size ≤ k_) ∧ k_ ≠ gb101) ho0 (fun k_ hk_ => Or.elim hk_ id (fun hn_ => ⟨.inr (Nat.le_trans (below_size hB) hn_), kF BK101 hn_⟩)); replace BK101 := kA BK101 hb; replace HB := bS HB hb; clear hb ho0) | ((with_reducible refine gc 127 rfl ?_); refine gL 17 Try.func127 #[.slice A2 l2.length c2] ?_; (with_reducible refine (flyballref03_trim.calls k (fun k_ => (((P1_ k_ ∨ P2_ k_) ∨ w.heap.size ≤ k_) ∧ k_ ≠ gb101)) _ _ l2 t105 _ ?_ A5.out).mono ?_); exact HO2.out; rintro e w9 ⟨v106, rfl, ho0, hb⟩; refine ⟨_, rfl, ?_⟩; replace HO1 := vA HO1 hb; replace HO2 := vA HO2 hb; replace HO104 := vA HO104 hb; have HO107 := lw HB (fun k_ => ((P1_ k_ ∨ P2_ k_) ∨ w.heap.size ≤ k_) ∧ k_ ≠ gb101) ho0 (fun k_ hk_ => Or.elim hk_ id (fun hn_ => ⟨.inr (Nat.le_trans (below_size hB) hn_), kF BK101 hn_⟩)); replace BK101 := kA BK101 hb; replace HB := bS HB hb; clear hb ho0))
 (try simp only [Act.put, List.setIfInBounds_toArray, List.set_cons_zero, List.set_cons_succ])
 go_cut [25] (fun v25 wc => ∃ (kq : Nat) (x25_5 : Bool), v25 = .bool x25_5 ∧ Aside0 (flyballref03_Low.j0 kq a0 t102 t105 x25_5 = some (r1, r2, r3)) ∧ Aside0 (kq ≤ k) ∧ Aside0 (Kd.V Kd.bool 4 wc w.heap.size (fun k_ => ((P1_ k_ ∨ P2_ k_) ∨ w.heap.size ≤ k_) ∧ k_ ≠ gb101) v103 t102) ∧ Aside0 (Kd.V Kd.bool 4 wc w.heap.size (fun k_ => ((P1_ k_ ∨ P2_ k_) ∨ w.heap.size ≤ k_) ∧ k_ ≠ gb101) v106 t105) ∧ Aside0 (wc.heap[gb101]? = some (.cells #[.bool false, (.slice none 0 0), (.slice none 0 0)] 92 (0, 0))) ∧ Aside0 (Below w.heap.size w wc))
 case first =>
  have H := HC6.out
  clear HC6
  by_cases c10 : (t102.length : Int) = 0
  ·rw [if_pos c10] at H
   obtain ⟨c10b0, c10b1⟩ := bqT c10
   clear c10
   (first | rw [c10b0] | (simp only [i64_w, i32_w]; rw [c10b0]) | skip)
   have H' := Aside0.mk H
   clear H
   obtain ⟨Ao11, co11, eo11⟩ := Kd.V_slice HO104.out
   subst eo11
   go_wp2
   go_meet
   case rel => exact ⟨_, (true), rS, H', ⟨by first | omega | exact Nat.le_refl _⟩, ⟨vup HO104.out⟩, ⟨vup HO107.out⟩, ⟨by exact kU BK101⟩, ⟨hB⟩⟩
  rw [if_neg c10] at H
  obtain ⟨c10b0, c10b1⟩ := bqF c10
  have c10b2 : ¬ (t102 = []) := fun h_ => c10 (by rw [h_]; rfl)
  (first | rw [c10b0] | (simp only [i64_w, i32_w]; rw [c10b0]) | skip)
  have H' := Aside0.mk H
  clear H
  obtain ⟨Ao12, co12, eo12⟩ := Kd.V_slice HO104.out
  subst eo12
  obtain ⟨Ao13, co13, eo13⟩ := Kd.V_slice HO107.out
  subst eo13
  go_wp2
  go_meet
  case rel => exact ⟨_, (((t105.length : Int) == 0)), rS, H', ⟨by first | omega | exact Nat.le_refl _⟩, ⟨vup HO104.out⟩, ⟨vup HO107.out⟩, ⟨by exact kU BK101⟩, ⟨hB⟩⟩
 case rest =>
  clear HC6
  try clear c1
  try clear c2
  try clear p2
  try clear c9
  try clear c10
  try clear c10b0
  try clear c10b1
  try clear c10b2
  try clear c12
  obtain ⟨kq, x25_5, rfl, HA, HJ5, HO_7, HO_8, BK101, HB⟩ := hcut
  cases kq with
  | zero => exact absurd HA.out (by simp [flyballref03_Low.j0])
  | succ kj5 =>
   have H := HA.out
   clear HA
   simp only [flyballref03_Low.j0] at H
   by_cases c14 : x25_5 = true
   ·subst c14
    replace H := ifT H
    replace H := bi H
    obtain ⟨t108, A15, H⟩ := H
    simp only [Option.some.injEq, Prod.mk.injEq] at H
    obtain ⟨rfl, rfl, rfl⟩ := H
    go_wp2_with (first | ((with_reducible refine gc 128 rfl ?_); refine gL 26 Try.func128 #[] ?_; (with_reducible refine (flyballref03_one.calls  t108 _ A15.out).mono ?_); rintro e w16 ⟨v109, rfl, ho0, hb⟩; refine ⟨_, rfl, ?_⟩; replace HO_7 := Aside0.mk (Kd.V_elder' (vup HO_7.out) (Kd.R_base ho0) hb); replace HO_8 := Aside0.mk (Kd.V_elder' (vup HO_8.out) (Kd.R_base ho0) hb); have HO110 := Aside0.mk (Kd.R_lower (Kd.R_newM (M := fun k_ => (w.heap.size ≤ k_)) ho0 (below_size hB) (fun k_ h_ => h_)) (below_size hB)); replace BK101 := kA BK101 hb; replace HB := bS HB hb; clear hb ho0; obtain ⟨Ao17, co17, eo17⟩ := Kd.R_slice HO110.out; subst eo17; obtain ⟨⟨hcz18_0, hcz18_1, hcz18_2⟩, hfz18_0, hfz18_1, hfz18_2⟩ := cE BK101))
    refine bodyPost_ret (results_cell_row rfl _ _ gb101 92 #[.bool false, .slice none 0 0, .slice Ao17 t108.length co17] (0, 0) _ rfl (by exact kU (p3 BK101)) Try.underlying92 rfl (by kernel_rfl)) rfl ?_
    exact ⟨_, _, er, Kd.V_mono (Kd.V_nil _ _ _ _ _) (fun k_ hk => by first | exact ⟨(.inr (hk.1)), hk.2⟩ | exact (.inr (hk))), Kd.V_mono (Kd.R_V (rG (r3t HO110 BK101) (fun _ hk => hk.1.1))) (fun k_ hk => by first | exact ⟨(.inr (hk.1)), hk.2⟩ | exact (.inr (hk))), hB⟩
   ·replace c14 := Bool.eq_false_iff.mpr c14
    subst c14
    have H1 : ((flyballref02_Gcd.f kj5 t102 t105).bind fun t111 => ((flyballref01_Div.f kj5 t102 t111).bind fun bt114 => ((flyballref01_Div.f kj5 t105 t111).bind fun bt120 => ((flyballref03_trim.f kj5 bt114.1).bind fun t126 => ((flyballref03_trim.f kj5 bt120.1).bind fun t129 => (some (a0, t126, t129))))))) = some (r1, r2, r3) := by rw [if_neg (show ¬ (false = true) by decide)] at H; exact H
    clear H
    have H := H1
    clear H1
    replace H := bi H
    obtain ⟨t111, A19, H⟩ := H
    replace H := bi H
    obtain ⟨⟨t114, t115⟩, A20, H⟩ := H
    try dsimp only at H
    replace H := bi H
    obtain ⟨⟨t120, t121⟩, A21, H⟩ := H
    try dsimp only at H
    replace H := bi H
    obtain ⟨t126, A22, H⟩ := H
    replace H := bi H
    obtain ⟨t129, A23, H⟩ := H
    simp only [Option.some.injEq, Prod.mk.injEq] at H
    obtain ⟨rfl, rfl, rfl⟩ := H
    obtain ⟨Ao24, co24, eo24⟩ := Kd.V_slice HO_7.out
    subst eo24
    obtain ⟨Ao25, co25, eo25⟩ := Kd.V_slice HO_8.out
    subst eo25
    go_wp2_with (first | ((with_reducible refine gc 36 rfl ?_); refine gL 30 Try.func36 #[.slice Ao24 t102.length co24, .slice Ao25 t105.length co25] ?_; (with_reducible refine (flyballref02_Gcd.calls kj5 (fun k_ => (((P1_ k_ ∨ P2_ k_) ∨ w.heap.size ≤ k_) ∧ k_ ≠ gb101)) _ _ t102 (fun k_ => (((P1_ k_ ∨ P2_ k_) ∨ w.heap.size ≤ k_) ∧ k_ ≠ gb101)) _ _ t105 t111 _ ?_ ?_ A19.out).mono ?_); exact HO_7.out; exact HO_8.out; rintro e w26 ⟨v112, rfl, ho0, hb⟩; refine ⟨_, rfl, ?_⟩; replace HO_7 := vA HO_7 hb; replace HO_8 := vA HO_8 hb; have HO113 := lw HB (fun k_ => ((P1_ k_ ∨ P2_ k_) ∨ w.heap.size ≤ k_) ∧ k_ ≠ gb101) ho0 (fun k_ hk_ => Or.elim hk_ (fun hs_ => Or.elim hs_ id id) (fun hn_ => ⟨.inr (Nat.le_trans (below_size hB) hn_), kF BK101 hn_⟩)); replace BK101 := kA BK101 hb; replace HB := bS HB hb; clear hb ho0; obtain ⟨Ao27, co27, eo27⟩ := Kd.V_slice HO113.out; subst eo27) | ((with_reducible refine gc 38 rfl ?_); refine gL 34 Try.func38 #[.slice Ao24 t102.length co24, .slice Ao27 t111.length co27] ?_; (with_reducible refine (flyballref01_Div.calls kj5 _ _ t102 _ _ t111 t114 t115 _ ?_ ?_ ?_ ?_ A20.out).mono ?_); exact cup ((Kd.V_reads' HO_7.out).2.2); exact (Kd.V_reads' HO_7.out).2.1; exact cup ((Kd.V_reads' HO113.out).2.2); exact (Kd.V_reads' HO113.out).2.1; rintro e w28 ⟨v116, v118, rfl, ho0, ho1, hb⟩; refine ⟨_, rfl, ?_⟩; replace HO_7 := v2 HO_7 hb ho0 ho1; replace HO_8 := v2 HO_8 hb ho0 ho1; replace HO113 := v2 HO113 hb ho0 ho1; have HO117 := Aside0.mk (Kd.R_lower (Kd.R_newM (M := fun k_ => (w.heap.size ≤ k_)) ho0 (below_size hB) (fun k_ h_ => h_)) (below_size hB)); have HO119 := Aside0.mk (Kd.R_lower (Kd.R_newM (M := fun k_ => (w.heap.size ≤ k_)) ho1 (below_size hB) (fun k_ h_ => h_)) (below_size hB)); replace BK101 := kA BK101 hb; replace HB := bS HB hb; clear hb ho0 ho1) | ((with_reducible refine gc 38 rfl ?_); refine gL 40 Try.func38 #[.slice Ao25 t105.length co25, .slice Ao27 t111.length co27] ?_; (with_reducible refine (flyballref01_Div.calls kj5 _ _ t105 _ _ t111 t120 t121 _ ?_ ?_ ?_ ?_ A21.out).mono ?_); exact cup ((Kd.V_reads' HO_8.out).2.2); exact (Kd.V_reads' HO_8.out).2.1; exact cup ((Kd.V_reads' HO113.out).2.2); exact (Kd.V_reads' HO113.out).2.1; rintro e w29 ⟨v122, v124, rfl, ho0, ho1, hb⟩; refine ⟨_, rfl, ?_⟩; replace HO_7 := v2 HO_7 hb ho0 ho1; replace HO_8 := v2 HO_8 hb ho0 ho1; replace HO113 := v2 HO113 hb ho0 ho1; have HO123 := Aside0.mk (Kd.R_lower (Kd.R_new' (Kd.R_new' (Kd.R_newM (M := fun k_ => (w.heap.size ≤ k_)) ho0 (below_size hB) (fun k_ h_ => h_)) (Kd.R_lt (rup HO117.out))) (Kd.R_lt (rup HO119.out))) (below_size hB)); have HO125 := Aside0.mk (Kd.R_lower (Kd.R_new' (Kd.R_new' (Kd.R_newM (M := fun k_ => (w.heap.size ≤ k_)) ho1 (below_size hB) (fun k_ h_ => h_)) (Kd.R_lt (rup HO117.out))) (Kd.R_lt (rup HO119.out))) (below_size hB)); replace HO117 := r2 HO117 hb ho0 ho1; replace HO119 := r2 HO119 hb ho0 ho1; replace BK101 := kA BK101 hb; replace HB := bS HB hb; clear hb ho0 ho1; obtain ⟨Ao30, co30, eo30⟩ := Kd.R_slice HO117.out; subst eo30) | ((with_reducible refine gc 127 rfl ?_); refine gL 45 Try.func127 #[.slice Ao30 t114.length co30] ?_; (with_reducible refine (flyballref03_trim.calls kj5 (fun k_ => some k_ = (.slice Ao30 t114.length co30 : Value).ownBlock) _ _ t114 t126 _ ?_ A22.out).mono ?_); exact Kd.R_V (Kd.R_tight rfl (Kd.R_types (HO117.out) BK101.out (by decide))); rintro e w31 ⟨v127, rfl, ho0, hb⟩; refine ⟨_, rfl, ?_⟩; replace HO_7 := vA HO_7 hb; replace HO_8 := vA HO_8 hb; replace HO113 := vA HO113 hb; have HO128 := lw HB (fun k_ => ((P1_ k_ ∨ P2_ k_) ∨ w.heap.size ≤ k_) ∧ some k_ ≠ (v118 : Value).ownBlock ∧ some k_ ≠ (v122 : Value).ownBlock ∧ some k_ ≠ (v124 : Value).ownBlock ∧ k_ ≠ gb101) ho0 (fun k_ hk_ => Or.elim hk_ (fun hs_ => ⟨.inr (((Kd.R_types (HO117.out) BK101.out (by decide)).1 k_ hs_.symm).1.1.1.1), ((Kd.R_types (HO117.out) BK101.out (by decide)).1 k_ hs_.symm).1.1.1.2, ((Kd.R_types (HO117.out) BK101.out (by decide)).1 k_ hs_.symm).1.1.2, ((Kd.R_types (HO117.out) BK101.out (by decide)).1 k_ hs_.symm).1.2, ((Kd.R_types (HO117.out) BK101.out (by decide)).1 k_ hs_.symm).2⟩) (fun hn_ => ⟨.inr (Nat.le_trans (below_size hB) hn_), Kd.fresh' (Kd.R_lt (rup HO119.out)) k_ hn_, Kd.fresh' (Kd.R_lt (rup HO123.out)) k_ hn_, Kd.fresh' (Kd.R_lt (rup HO125.out)) k_ hn_, kF BK101 hn_⟩)); replace HO117 := rA HO117 hb; replace HO119 := rA HO119 hb; replace HO123 := rA HO123 hb; replace HO125 := rA HO125 hb; replace BK101 := kA BK101 hb; replace HB := bS HB hb; clear hb ho0; obtain ⟨Ao32, co32, eo32⟩ := Kd.R_slice HO123.out; subst eo32) | ((with_reducible refine gc 127 rfl ?_); refine gL 47 Try.func127 #[.slice Ao32 t120.length co32] ?_; (with_reducible refine (flyballref03_trim.calls kj5 (fun k_ => some k_ = (.slice Ao32 t120.length co32 : Value).ownBlock) _ _ t120 t129 _ ?_ A23.out).mono ?_); exact Kd.R_V (Kd.R_tight rfl (Kd.R_types (HO123.out) BK101.out (by decide))); rintro e w33 ⟨v130, rfl, ho0, hb⟩; refine ⟨_, rfl, ?_⟩; replace HO_7 := vA HO_7 hb; replace HO_8 := vA HO_8 hb; replace HO113 := vA HO113 hb; replace HO128 := vA HO128 hb; have HO131 := lw HB (fun k_ => ((P1_ k_ ∨ P2_ k_) ∨ w.heap.size ≤ k_) ∧ some k_ ≠ (.slice Ao30 t114.length co30 : Value).ownBlock ∧ some k_ ≠ (v118 : Value).ownBlock ∧ some k_ ≠ (v124 : Value).ownBlock ∧ k_ ≠ gb101) ho0 (fun k_ hk_ => Or.elim hk_ (fun hs_ => ⟨.inr (((Kd.R_types (HO123.out) BK101.out (by decide)).1 k_ hs_.symm).1.1.1.1), ((Kd.R_types (HO123.out) BK101.out (by decide)).1 k_ hs_.symm).1.1.2, ((Kd.R_types (HO123.out) BK101.out (by decide)).1 k_ hs_.symm).1.2, ((Kd.R_types (HO123.out) BK101.out (by decide)).1 k_ hs_.symm).1.1.1.2, ((Kd.R_types (HO123.out) BK101.out (by decide)).1 k_ hs_.symm).2⟩) (fun hn_ => ⟨.inr (Nat.le_trans (below_size hB) hn_), Kd.fresh' (Kd.R_lt (rup HO117.out)) k_ hn_, Kd.fresh' (Kd.R_lt (rup HO119.out)) k_ hn_, Kd.fresh' (Kd.R_lt (rup HO125.out)) k_ hn_, kF BK101 hn_⟩)); replace HO117 := rA HO117 hb; replace HO119 := rA HO119 hb; replace HO123 := rA HO123 hb; replace HO125 := rA HO125 hb; replace BK101 := kA BK101 hb; replace HB := bS HB hb; clear hb ho0; obtain ⟨Ao34, co34, eo34⟩ := Kd.V_slice HO131.out; subst eo34; obtain ⟨Ao35, co35, eo35⟩ := Kd.V_slice HO128.out; subst eo35; obtain ⟨⟨hcz36_0, hcz36_1, hcz36_2⟩, hfz36_0, hfz36_1, hfz36_2⟩ := cE BK101))
    refine bodyPost_ret (results_cell_row rfl _ _ gb101 92 #[.bool a0, .slice Ao35 t126.length co35, .slice Ao34 t129.length co34] (0, 0) _ rfl (by exact kU (p3 BK101)) Try.underlying92 rfl (by kernel_rfl)) rfl ?_
    exact ⟨_, _, er, vG (v3p HO128 (fun _ hk => hk.2.2.2.2)) (fun _ hk => hk.1.1), vG (v3p HO131 (fun _ hk => hk.2.2.2.2)) (fun _ hk => hk.1.1), hB⟩
end Go.Proofs.Ytagbnkbhobmgjaa.Fn
end
section
/- What the functions at, trim, New, Add, Sub, Mul, Cmp of package nat compute: the words of the sum, the difference, the product. -/
set_option linter.unusedVariables false
set_option linter.unusedSimpArgs false
namespace Go.Proofs.Ytagbnkbhobmgjaa.Pure
open Go.RowKit Go.Proofs.Ytagbnkbhobmgjaa.Fn Go.Proofs.YtagbnkbhobmgjaaW.PrintWords Go.Proofs.YtagbnkbhobmgjaaW.PrintMore
theorem at_spec {a : List Int} (hW : WD a) (i : Int) (h0 : 0 ≤ i) : nat_Nat_at.f a i = some (rd a i) := by
  unfold nat_Nat_at.f
  by_cases h : i < (a.length : Int)
  · rw [if_pos h, if_pos h0, u64i (WD_rd hW i).1 (by have := (WD_rd hW i).2; omega)]
  · rw [if_neg h]
    unfold rd
    rw [List.getD_eq_getElem?_getD, List.getElem?_eq_none (by omega)]
    rfl
theorem rd_lt (a : List Int) (i : Nat) (h : i < a.length) : rd a (i : Int) = a[i] := by
  unfold rd
  rw [Int.toNat_natCast, List.getD_eq_getElem?_getD, List.getElem?_eq_getElem h]
  rfl
theorem rd_ge (a : List Int) (i : Nat) (h : a.length ≤ i) : rd a (i : Int) = 0 := by
  unfold rd
  rw [Int.toNat_natCast, List.getD_eq_getElem?_getD, List.getElem?_eq_none h]
  rfl
theorem wv_drop (a : List Int) (i : Nat) : wv (a.drop i) = (rd a (i : Int)).toNat + BW * wv (a.drop (i + 1)) := by
  by_cases h : i < a.length
  · rw [List.drop_eq_getElem_cons h, wv_cons, rd_lt a i h]
  · rw [List.drop_eq_nil_of_le (by omega), List.drop_eq_nil_of_le (by omega), rd_ge a i (by omega)]
    rfl
theorem rd_last (xs : List Int) (x : Int) : rd (xs ++ [x]) ((xs ++ [x]).length - 1 : Int) = x := by
  have e : (((xs ++ [x]).length : Int) - 1) = ((xs.length : Nat) : Int) := by simp
  rw [e, rd_lt _ _ (by simp)]
  simp
theorem trim_ev : ∀ (n : Nat) (a : List Int), a.length = n → WD a → a.length ≤ 9223372036854775807 → Ev (fun k => nat_trim.l0 k a) (words (wv a))
  | 0, a, hl, _, _ => by
    obtain rfl := List.eq_nil_of_length_eq_zero hl
    rw [wv_nil, words_zero]
    exact Ev.step (f := fun _ => some []) (fun k => by simp only [nat_trim.l0]; rw [if_neg (by simp)]) (Ev.now _)
  | n + 1, a, hl, hW, hm => by
    have hne : a ≠ [] := by intro e; subst e; simp at hl
    obtain ⟨xs, x, rfl⟩ : ∃ xs x, a = xs ++ [x] := ⟨a.dropLast, a.getLast hne, (List.dropLast_concat_getLast hne).symm⟩
    have hlx : xs.length = n := by simpa using hl
    have hw : wrap64 ((xs ++ [x]).length - 1 : Int) = ((xs ++ [x]).length - 1 : Int) := w64 (by omega) (by omega)
    have hx := (hW x (by simp))
    by_cases h0 : x = 0
    · subst h0
      have ih := trim_ev n xs hlx (WD_left hW) (by simp at hm; omega)
      have e : wv (xs ++ [0]) = wv xs := by rw [wv_snoc]; simp
      rw [e]
      refine Ev.step (f := fun k => nat_trim.l0 k xs) (fun k => ?_) ih
      simp only [nat_trim.l0]
      rw [hw, if_pos (by simp), if_pos (by simp), if_pos (by omega), rd_last, if_pos rfl, if_pos (by omega)]
      congr 1
      have : (((xs ++ [(0 : Int)]).length : Int) - 1).toNat = xs.length := by simp
      rw [this, List.take_left']
      rfl
    · have e : words (wv (xs ++ [x])) = xs ++ [x] := words_wv hW (fun y hy => by
        rw [List.getLast?_concat] at hy
        injection hy with hy
        rw [← hy]; exact h0)
      rw [e]
      refine Ev.step (f := fun _ => some (xs ++ [x])) (fun k => ?_) (Ev.now _)
      simp only [nat_trim.l0]
      rw [hw, if_pos (by simp), if_pos (by simp), if_pos (by omega), rd_last, if_neg h0]
theorem trim_spec {a : List Int} (hW : WD a) (hm : a.length ≤ 9223372036854775807) : Ev (fun k => nat_trim.f k a) (words (wv a)) := trim_ev _ a rfl hW hm
theorem New_spec (x : Int) (h0 : 0 ≤ x) (h1 : x < 18446744073709551616) : Ev (fun k => nat_New.f k x) (words x.toNat) := by
  have hW : WD [x % 4294967296, (x / 4294967296) % 4294967296] := WD_mk (by omega) (by omega) (WD_mk (by omega) (by omega) WD_nil)
  have e : wv [x % 4294967296, (x / 4294967296) % 4294967296] = x.toNat := by
    simp only [wv_cons, wv_nil, BW_eq]; omega
  have := trim_spec hW (by simp)
  rw [e] at this
  unfold nat_New.f
  exact Ev.bind this (Ev.now _)
theorem mx_nat (a b : Nat) : mx (a : Int) (b : Int) = ((max a b : Nat) : Int) := by unfold mx; split <;> omega
theorem Add_ev (a b : List Int) (ha : WD a) (hb : WD b) (n : Nat) (hn : n = max a.length b.length) (hm : n ≤ 1000000000) : ∀ (d i : Nat) (acc : List Int) (c : Int), i + d = n → acc.length = i → WD acc → 0 ≤ c → c ≤ 1 →
    Ev (fun k => nat_Nat_Add.l0 k a b acc c (n : Int) (i : Int)) (words (wv acc + BW ^ acc.length * (c.toNat + wv (a.drop i) + wv (b.drop i))))
  | 0, i, acc, c, hd, hl, hW, h0, h1 => by
    have ea : a.drop i = [] := List.drop_eq_nil_of_le (by omega)
    have eb : b.drop i = [] := List.drop_eq_nil_of_le (by omega)
    rw [ea, eb, wv_nil]
    have hc : c % 4294967296 = c := by omega
    have ht := trim_spec (WD_append hW (WD_mk h0 (by omega) WD_nil) : WD (acc ++ [c])) (by simp; omega)
    rw [wv_snoc] at ht
    refine Ev.step (f := fun k => (nat_trim.f k (acc ++ [c])).bind fun t => some t) (fun k => ?_) (Ev.bind (by simpa using ht) (Ev.now _))
    simp only [nat_Nat_Add.l0]
    rw [if_neg (by omega), if_pos (by omega), hc]
  | d + 1, i, acc, c, hd, hl, hW, h0, h1 => by
    obtain ⟨ra0, ra1⟩ := WD_rd ha (i : Int)
    obtain ⟨rb0, rb1⟩ := WD_rd hb (i : Int)
    generalize hra : rd a (i : Int) = x at *
    generalize hrb : rd b (i : Int) = y at *
    have es : IntKind.u64.wrap (c + IntKind.u64.wrap (x + y)) = c + x + y := by rw [u64i (x := x + y) (by omega) (by omega), u64i (by omega) (by omega)]; omega
    have ih := Add_ev a b ha hb n hn hm d (i + 1) (acc ++ [(c + x + y) % 4294967296]) ((c + x + y) / 4294967296) (by omega) (by simp [hl]) (WD_append hW (WD_mk (by omega) (by omega) WD_nil)) (by omega) (by omega)
    have e : wv (acc ++ [(c + x + y) % 4294967296]) + BW ^ (acc ++ [(c + x + y) % 4294967296]).length * (((c + x + y) / 4294967296).toNat + wv (a.drop (i + 1)) + wv (b.drop (i + 1))) = wv acc + BW ^ acc.length * (c.toNat + wv (a.drop i) + wv (b.drop i)) := by
      rw [wv_drop a i, wv_drop b i, hra, hrb, wv_snoc, List.length_append, List.length_singleton, Nat.pow_succ, Nat.add_assoc, Nat.mul_assoc, ← Nat.mul_add]
      congr 2
      have hq : ((c + x + y) % 4294967296).toNat + BW * ((c + x + y) / 4294967296).toNat = c.toNat + x.toNat + y.toNat := by rw [BW_eq]; omega
      rw [Nat.mul_add, Nat.mul_add]
      omega
    rw [e] at ih
    refine Ev.step (fun k => ?_) ih
    simp only [nat_Nat_Add.l0]
    rw [if_pos (by omega), at_spec ha _ (by omega), at_spec hb _ (by omega), Option.bind_some, Option.bind_some, hra, hrb, if_pos (by omega), es, w64 (by omega) (by omega)]
    rfl
theorem Add_spec {a b : List Int} (ha : WD a) (hb : WD b) (la : a.length ≤ 1000000000) (lb : b.length ≤ 1000000000) : Ev (fun k => nat_Nat_Add.f k a b) (words (wv a + wv b)) := by
  have := Add_ev a b ha hb (max a.length b.length) rfl (by omega) (max a.length b.length) 0 [] 0 (by omega) rfl WD_nil (by omega) (by omega)
  unfold nat_Nat_Add.f
  rw [mx_nat]
  simpa [wv_nil] using this
/-! ### Cmp -/
/-- How numbers compare. -/
def cmpN (m n : Nat) : Int := if m < n then -1 else if m = n then 0 else 1
theorem cmpN_lt {m n : Nat} (h : m < n) : cmpN m n = -1 := if_pos h
theorem cmpN_eq (n : Nat) : cmpN n n = 0 := by unfold cmpN; rw [if_neg (Nat.lt_irrefl _), if_pos rfl]
theorem cmpN_gt {m n : Nat} (h : n < m) : cmpN m n = 1 := by unfold cmpN; rw [if_neg (by omega), if_neg (by omega)]
theorem wv_take_succ (a : List Int) (i : Nat) : wv (a.take (i + 1)) = wv (a.take i) + (if i < a.length then BW ^ i * (rd a (i : Int)).toNat else 0) := by
  by_cases h : i < a.length
  · rw [if_pos h, List.take_succ_eq_append_getElem h, wv_snoc, List.length_take, rd_lt a i h, Nat.min_eq_left (by omega)]
  · rw [if_neg h, List.take_of_length_le (by omega), List.take_of_length_le (by omega)]; rfl
theorem take_lt {a : List Int} (h : WD a) (i : Nat) : wv (a.take i) < BW ^ i := by
  have h1 := wv_lt (WD_take h i)
  rw [List.length_take] at h1
  exact Nat.lt_of_lt_of_le h1 (Nat.pow_le_pow_right BW_pos (Nat.min_le_left _ _))
theorem take_succ' {a : List Int} (i : Nat) : wv (a.take (i + 1)) = wv (a.take i) + BW ^ i * (rd a (i : Int)).toNat := by
  rw [wv_take_succ]
  by_cases h : i < a.length
  · rw [if_pos h]
  · rw [if_neg h, rd_ge a i (by omega)]; rfl
theorem Cmp_ev (a b : List Int) (ha : WD a) (hb : WD b) : ∀ (i : Nat), i ≤ 1000000000 → Ev (fun k => nat_Nat_Cmp.l0 k a b ((i : Int) - 1)) (cmpN (wv (a.take i)) (wv (b.take i)))
  | 0, _ => by
    rw [List.take_zero, List.take_zero, cmpN_eq]
    refine Ev.step (f := fun _ => some 0) (fun k => ?_) (Ev.now _)
    simp only [nat_Nat_Cmp.l0]
    rw [if_neg (by omega)]
  | i + 1, hi => by
    have e : (((i + 1 : Nat) : Int) - 1) = (i : Int) := by omega
    rw [e, take_succ', take_succ']
    obtain ⟨ra0, ra1⟩ := WD_rd ha (i : Int)
    obtain ⟨rb0, rb1⟩ := WD_rd hb (i : Int)
    have la := take_lt ha i
    have lb := take_lt hb i
    generalize hra : rd a (i : Int) = x at *
    generalize hrb : rd b (i : Int) = y at *
    by_cases hxy : x = y
    · have ih := Cmp_ev a b ha hb i (by omega)
      subst hxy
      have ec : cmpN (wv (a.take i) + BW ^ i * x.toNat) (wv (b.take i) + BW ^ i * x.toNat) = cmpN (wv (a.take i)) (wv (b.take i)) := by
        unfold cmpN
        by_cases h1 : wv (a.take i) < wv (b.take i)
        · rw [if_pos h1, if_pos (by omega)]
        · rw [if_neg h1, if_neg (by omega)]
          by_cases h2 : wv (a.take i) = wv (b.take i)
          · rw [if_pos h2, if_pos (by omega)]
          · rw [if_neg h2, if_neg (by omega)]
      rw [ec]
      refine Ev.step (fun k => ?_) ih
      simp only [nat_Nat_Cmp.l0]
      rw [if_pos (by omega), at_spec ha _ (by omega), at_spec hb _ (by omega), Option.bind_some, Option.bind_some, hra, hrb, if_pos rfl, w64 (by omega) (by omega)]
    · by_cases hlt : x < y
      · have : wv (a.take i) + BW ^ i * x.toNat < wv (b.take i) + BW ^ i * y.toNat := by
          have h1 : BW ^ i * x.toNat + BW ^ i ≤ BW ^ i * y.toNat := by
            rw [← Nat.mul_succ]; exact Nat.mul_le_mul_left _ (by omega)
          omega
        rw [cmpN_lt this]
        refine Ev.step (f := fun _ => some (-1)) (fun k => ?_) (Ev.now _)
        simp only [nat_Nat_Cmp.l0]
        rw [if_pos (by omega), at_spec ha _ (by omega), at_spec hb _ (by omega), Option.bind_some, Option.bind_some, hra, hrb, if_neg hxy, if_pos hlt]
      · have : wv (b.take i) + BW ^ i * y.toNat < wv (a.take i) + BW ^ i * x.toNat := by
          have h1 : BW ^ i * y.toNat + BW ^ i ≤ BW ^ i * x.toNat := by
            rw [← Nat.mul_succ]; exact Nat.mul_le_mul_left _ (by omega)
          omega
        rw [cmpN_gt this]
        refine Ev.step (f := fun _ => some 1) (fun k => ?_) (Ev.now _)
        simp only [nat_Nat_Cmp.l0]
        rw [if_pos (by omega), at_spec ha _ (by omega), at_spec hb _ (by omega), Option.bind_some, Option.bind_some, hra, hrb, if_neg hxy, if_neg hlt]
theorem Cmp_spec {a b : List Int} (ha : WD a) (hb : WD b) (la : a.length ≤ 1000000000) (lb : b.length ≤ 1000000000) : Ev (fun k => nat_Nat_Cmp.f k a b) (cmpN (wv a) (wv b)) := by
  have := Cmp_ev a b ha hb (max a.length b.length) (by omega)
  rw [List.take_of_length_le (by omega), List.take_of_length_le (by omega)] at this
  unfold nat_Nat_Cmp.f
  rw [mx_nat, w64 (by omega) (by omega)]
  exact this
/-! ### Sub -/
end Go.Proofs.Ytagbnkbhobmgjaa.Pure
end
section
/- What the products are: plain arithmetic. -/
set_option linter.unusedVariables false
set_option linter.unusedSimpArgs false
namespace Go.Proofs.Ytagbnkbhobmgjaa.Pure
open Go.RowKit Go.Proofs.Ytagbnkbhobmgjaa.Fn Go.Proofs.YtagbnkbhobmgjaaW.PrintWords Go.Proofs.YtagbnkbhobmgjaaW.PrintMore Go.Proofs.YtagbnkbhobmgjaaW.PrintLast
theorem wv_set : ∀ (x : List Int) (i : Nat) (y : Int), i < x.length → wv (x.set i y) + BW ^ i * (rd x (i : Int)).toNat = wv x + BW ^ i * y.toNat
  | [], i, y, h => by simp at h
  | z :: zs, 0, y, h => by
    rw [rd_lt _ _ h]
    simp only [List.set_cons_zero, wv_cons, List.getElem_cons_zero, Nat.pow_zero, Nat.one_mul]
    omega
  | z :: zs, i + 1, y, h => by
    have h' : i < zs.length := by simpa using h
    have ih := wv_set zs i y h'
    rw [rd_lt _ _ h]
    rw [rd_lt _ _ h'] at ih
    simp only [List.set_cons_succ, wv_cons, List.getElem_cons_succ]
    have e : ∀ t : Nat, BW ^ (i + 1) * t = BW * (BW ^ i * t) := fun t => by rw [Nat.pow_succ, Nat.mul_comm (BW ^ i) BW, Nat.mul_assoc]
    rw [e, e, Nat.add_assoc, Nat.add_assoc, ← Nat.mul_add, ← Nat.mul_add, ih]
theorem rd_le_wv (x : List Int) (i : Nat) : BW ^ i * (rd x (i : Int)).toNat ≤ wv x := by
  by_cases h : i < x.length
  · have := wv_set x i 0 h
    simp at this
    omega
  · rw [rd_ge x i (by omega)]; simp
theorem rd_zero_of_lt (x : List Int) (hx : WD x) (i : Nat) (h : wv x < BW ^ i) : rd x (i : Int) = 0 := by
  have h1 := rd_le_wv x i
  have h2 := (WD_rd hx (i : Int)).1
  rcases Nat.eq_zero_or_pos (rd x (i : Int)).toNat with h0 | h0
  · omega
  · have := Nat.le_mul_of_pos_right (BW ^ i) h0
    omega
theorem rd_set_ne (x : List Int) (i j : Nat) (y : Int) (h : i ≠ j) : rd (x.set i y) (j : Int) = rd x (j : Int) := by
  unfold rd
  simp only [Int.toNat_natCast, List.getD_eq_getElem?_getD]
  rw [List.getElem?_set_ne h]
theorem mul32 {x y : Int} (x0 : 0 ≤ x) (x1 : x < 4294967296) (y0 : 0 ≤ y) (y1 : y < 4294967296) : 0 ≤ x * y ∧ x * y ≤ 18446744065119617025 := by
  refine ⟨Int.mul_nonneg x0 y0, ?_⟩
  have h := Int.mul_le_mul (show x ≤ 4294967295 by omega) (show y ≤ 4294967295 by omega) y0 (by omega)
  omega
end Go.Proofs.Ytagbnkbhobmgjaa.Pure
end
section
namespace Go.Proofs.Ytagbnkbhobmgjaa.Fn
open Go.RowKit Go.Proofs.YtagbnkbhobmgjaaW.PrintWords Go.Proofs.YtagbnkbhobmgjaaW.PrintLast Go.Proofs.YtagbnkbhobmgjaaW.PrintMore
attribute [local go_sem] max2_int min2_int max_two min_two max_three min_three max_four min_four   -- for this text's walks alone
set_option linter.unusedVariables false
set_option linter.unusedSimpArgs false
mutual
def flyballref01_Words.l0 : Nat → List Bool → Int → List Int → Int → Option (List Int)
 | 0, _, _, _, _ => none
 | k + 1, x0, x1, x5, x6 => if x6 < (x0.length : Int) then (flyballref01_Words.j1 k x0 x1 x5 x6 (decide (x6 < (wrap64 (64 * x1))))) else (flyballref01_Words.j1 k x0 x1 x5 x6 false)
def flyballref01_Words.j1 : Nat → List Bool → Int → List Int → Int → Bool → Option (List Int)
 | 0, _, _, _, _, _ => none
 | k + 1, x0, x1, x5, x6, x18 => if x18 = true then (if 0 ≤ x6 then (if x6 < (x0.length : Int) then (if rdOf false x0 x6 = true then (if 0 ≤ (wrap64 (Int.tdiv x6 64)) then (if (wrap64 (Int.tdiv x6 64)) < (x5.length : Int) then (if 0 ≤ (IntKind.u64.wrap (Int.tmod x6 64)) then (flyballref01_Words.l0 k x0 x1 (x5.set ((wrap64 (Int.tdiv x6 64)) : Int).toNat (Go.bits .or .u64 (rd x5 (wrap64 (Int.tdiv x6 64))) (shl .u64 1 (IntKind.u64.wrap (Int.tmod x6 64))))) (wrap64 (x6 + 1))) else (none)) else (none)) else (none)) else (flyballref01_Words.l0 k x0 x1 x5 (wrap64 (x6 + 1)))) else (none)) else (none)) else (some x5)
end



end Go.Proofs.Ytagbnkbhobmgjaa.Fn
end
