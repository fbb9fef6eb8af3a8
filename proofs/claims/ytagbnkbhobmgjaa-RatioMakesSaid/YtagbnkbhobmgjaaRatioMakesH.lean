/- Rational numbers are made in lowest terms, as the document says: of two naturals, of an integer, of an integer times a power of two. Part 8 of 19. -/
import Derived.Test.YtagbnkbhobmgjaaRatioMakesE
import Derived.Test.YtagbnkbhobmgjaaRatioMakesG
section
namespace Go.Proofs.Ytagbnkbhobmgjaa.Fn
open Go.RowKit Go.Proofs.YtagbnkbhobmgjaaW.PrintWords Go.Proofs.YtagbnkbhobmgjaaW.PrintLast Go.Proofs.YtagbnkbhobmgjaaW.PrintMore
attribute [local go_sem] max2_int min2_int max_two min_two max_three min_three max_four min_four   -- for this text's walks alone
set_option linter.unusedVariables false
set_option linter.unusedSimpArgs false
--EXT
attribute [local go_sem] Oper.semAt_some
/-- One round of short: the quotient's word and what is left. -/
def nat_short_step (b : Int) (s : List Int × Int) (i : Nat) (x : Int) : List Int × Int :=
  (s.1.set i ((IntKind.u64.wrap (Int.tdiv (Go.bits .or .u64 (IntKind.u64.wrap (s.2 * 4294967296)) (IntKind.u64.wrap x)) (IntKind.u64.wrap b))) % 4294967296), Int.tmod (Go.bits .or .u64 (IntKind.u64.wrap (s.2 * 4294967296)) (IntKind.u64.wrap x)) (IntKind.u64.wrap b))
def nat_short_st (b : Int) {n : Nat} (s : List Int × Int) (pre : List (BX n)) : List Int × Int := pre.foldl (fun s x => nat_short_step b s x.1.1 x.1.2) s
def nat_Nat_short.f (k : Nat) (l0 : List Int) (a1 : Int) : Option (List Int × List Int) :=
  if l0.length < 1099511627776 then (if IntKind.u64.wrap a1 = 0 then none else
    ((nat_trim.f k (nat_short_st a1 (List.replicate l0.length 0, 0) (bupto (bpair l0 l0.length) l0.length)).1).bind fun t1 =>
      ((nat_New.f k (nat_short_st a1 (List.replicate l0.length 0, 0) (bupto (bpair l0 l0.length) l0.length)).2).bind fun t2 => (some (t1, t2))))) else none
theorem nat_Nat_short.mono : ∀ a0 a1 k, LeO (nat_Nat_short.f k a0 a1) (nat_Nat_short.f (k + 1) a0 a1) := by
  intro a0 a1 k
  unfold nat_Nat_short.f
  refine LeO.ite (LeO.ite (LeO.refl _) ?_) (LeO.none _)
  refine LeO.bind (nat_trim.mono _ _) (fun _ => ?_)
  exact LeO.bind (nat_New.mono _ _) (fun _ => LeO.refl _)
theorem short_round {w W : World} {B M g i n cq : Nat} {q : List Int} {vb vq vr u1 u3 : Value} {x : Int} (hM : w.heap.size + 1 ≤ M)
    (hb1 : Boxed W w.heap.size 118 vb) (hb2 : Boxed W M 22 vq) (hb3 : Boxed W (M + 1) 47 vr)
    (hrow : Kd.R (Kd.int .u32) 118 W w.heap.size (fun k_ => w.heap.size + 1 ≤ k_ ∧ k_ < M) (.slice (some ⟨g, 0, none⟩) n cq) q) (hbel : Below w.heap.size w W) :
    KeepsFrom B W (((W.setCell ⟨M + 1, 0, none⟩ u1).setCell ⟨g, i, none⟩ (.int .u32 x)).setCell ⟨M + 1, 0, none⟩ u3).drew ∧
    BKeep w.heap.size (M + 1 + 1) W (((W.setCell ⟨M + 1, 0, none⟩ u1).setCell ⟨g, i, none⟩ (.int .u32 x)).setCell ⟨M + 1, 0, none⟩ u3).drew ∧
    (Boxed (((W.setCell ⟨M + 1, 0, none⟩ u1).setCell ⟨g, i, none⟩ (.int .u32 x)).setCell ⟨M + 1, 0, none⟩ u3).drew w.heap.size 118 vb ∧
      Boxed (((W.setCell ⟨M + 1, 0, none⟩ u1).setCell ⟨g, i, none⟩ (.int .u32 x)).setCell ⟨M + 1, 0, none⟩ u3).drew M 22 vq ∧
      Boxed (((W.setCell ⟨M + 1, 0, none⟩ u1).setCell ⟨g, i, none⟩ (.int .u32 x)).setCell ⟨M + 1, 0, none⟩ u3).drew (M + 1) 47 u3) ∧
    Kd.R (Kd.int .u32) 118 (((W.setCell ⟨M + 1, 0, none⟩ u1).setCell ⟨g, i, none⟩ (.int .u32 x)).setCell ⟨M + 1, 0, none⟩ u3).drew w.heap.size (fun k_ => w.heap.size + 1 ≤ k_ ∧ k_ < M) (.slice (some ⟨g, 0, none⟩) n cq) (q.set i x) ∧
    Below w.heap.size w (((W.setCell ⟨M + 1, 0, none⟩ u1).setCell ⟨g, i, none⟩ (.int .u32 x)).setCell ⟨M + 1, 0, none⟩ u3).drew := by
  have hg := hrow.1 g rfl
  have r1 := Kd.R_far hrow (p := ⟨M + 1, 0, none⟩) (fun k hk => by show k ≠ M + 1; omega) u1
  have r2 := Kd.R_putg r1 (i : Int) x
  rw [Int.toNat_natCast] at r2
  have r3 := Kd.R_far r2.1 (p := ⟨M + 1, 0, none⟩) (fun k hk => by show k ≠ M + 1; omega) u3
  have low : Below w.heap.size W (((W.setCell ⟨M + 1, 0, none⟩ u1).setCell ⟨g, i, none⟩ (.int .u32 x)).setCell ⟨M + 1, 0, none⟩ u3).drew :=
    ((((Below.refl _ W).setCell (p := ⟨M + 1, 0, none⟩) (by show w.heap.size ≤ M + 1; omega) _).setCell (p := ⟨g, i, none⟩) (by show w.heap.size ≤ g; omega) _).setCell (p := ⟨M + 1, 0, none⟩) (by show w.heap.size ≤ M + 1; omega) _).drew
  refine ⟨((((KeepsOthers.setCell _ _ _).trans (KeepsOthers.setCell _ _ _)).trans (KeepsOthers.setCell _ _ _)).trans (KeepsOthers.drew _)).from _, ⟨low, ?_⟩, ⟨?_, ?_, ?_⟩, Kd.R_drew r3, hbel.trans low⟩
  · show (((W.setCell ⟨M + 1, 0, none⟩ u1).setCell ⟨g, i, none⟩ (.int .u32 x)).setCell ⟨M + 1, 0, none⟩ u3).heap[M + 1 + 1]? = W.heap[M + 1 + 1]?
    rw [Below.heap_setCell _ _ _ _ (by show M + 1 + 1 ≠ M + 1; omega), Below.heap_setCell _ _ _ _ (by show M + 1 + 1 ≠ g; omega), Below.heap_setCell _ _ _ _ (by show M + 1 + 1 ≠ M + 1; omega)]
  · exact Boxed.other (Boxed.kept (Boxed.other hb1 (by omega) u1) r2.2 (fun e => by injection e with e; omega)) (by omega) u3
  · exact Boxed.other (Boxed.kept (Boxed.other hb2 (by omega) u1) r2.2 (fun e => by injection e with e; omega)) (by omega) u3
  · exact Boxed.set u3 (Boxed.kept (Boxed.set u1 hb3) r2.2 (fun e => by injection e with e; omega))
set_option maxHeartbeats 8000000 in
set_option maxRecDepth 100000 in
theorem nat_Nat_short.calls (k : Nat) (A0 : Option Addr) (c0 : Nat) (l0 : List Int) (a1 : Int) (r1 : List Int) (r2 : List Int) (w : World) (hr0 : Kd.C (Kd.int .u32) w A0 l0.length l0) (hc0 : l0.length ≤ c0) (h : nat_Nat_short.f k l0 a1 = some (r1, r2)) :
    Calls Try.prog 111 #[.slice A0 l0.length c0, .int .u32 a1] w fun e w' => ∃ v0_ v1_ : Value, e = .returned (.tuple #[v0_, v1_]) ∧ Kd.V (Kd.int .u32) 118 w' w.heap.size (fun k_ => (w.heap.size ≤ k_)) v0_ r1 ∧ Kd.V (Kd.int .u32) 118 w' w.heap.size (fun k_ => (w.heap.size ≤ k_)) v1_ r2 ∧ Below w.heap.size w w' := by
  unfold nat_Nat_short.f at h
  by_cases hl : l0.length < 1099511627776
  · rw [if_pos hl] at h
    by_cases hb0 : IntKind.u64.wrap a1 = 0
    · rw [if_pos hb0] at h; cases h
    rw [if_neg hb0] at h
    obtain ⟨t1, h1, h⟩ := Option.bind_eq_some_iff.mp h
    obtain ⟨t2, h2, h⟩ := Option.bind_eq_some_iff.mp h
    simp only [Option.some.injEq, Prod.mk.injEq] at h
    obtain ⟨rfl, rfl⟩ := h
    have HL := Aside0.mk hl
    have HN := Aside0.mk hb0
    have hb0b : (IntKind.u64.wrap a1 == 0) = false := beq_eq_false_iff_ne.mpr hb0
    have A1 := Aside0.mk h1
    have A2 := Aside0.mk h2
    have HR0 := Aside0.mk hr0
    have HC0 := Aside0.mk hc0
    have HB := Aside0.mk (Below.refl w.heap.size w)
    clear hr0 hc0 hl h1 h2 hb0
    refine (callsIn_wide (n := 3)).1 ?_
    refine callsIn_of_wp_marks Try.func111 rfl trivial ?_ rfl
    simp only [Try.ntmps111, List.size_toArray, List.length_cons, List.length_nil, Nat.reduceAdd, Nat.reduceSub, Array.replicate_succ, Array.replicate_zero, List.push_toArray, List.append_toArray, List.nil_append, List.cons_append]
    refine wpIn_wide.2 ?_
    go_wp2_with (first | ((with_reducible refine gate_dst (N := 12) rfl ?_); refine Kd.R_make (Kd.int .u32) _ 118 rfl (N := 12) rfl 22 _ _ rfl (l0.length : Int) rfl rfl Try.underlying22 (.int .u32 0) 4 info118 rfl (by decide) (by omega) 0 (ok := fun _ => True) (okp := fun _ => True) rfl (fun _ hk => hk) trivial (by omega) (by have := HL.out; omega) (Below.refl _ _) (Nat.le_refl _) ?_; intro v127 w46 ho47 hb hg_ hnew_; obtain ⟨Aq, cq, rfl⟩ := Kd.R_slice ho47; rw [List.length_replicate, Int.toNat_natCast] at ho47; (try rw [List.length_replicate, Int.toNat_natCast]); have n0_ := Aside0.mk ho47; have n1_ := Aside0.mk hb; have n2_ := Aside0.mk hnew_; clear ho47 hb hnew_ hg_) | (go_at_call 129; refine (callsIn_wide.1 (back_in Fence.wide 2 trivial rfl _ _ _ _)).mono ?_; rintro e w' ⟨rfl, rfl⟩))
    have hlt46 : w.heap.size + 1 ≤ w46.heap.size := by have := n1_.out.size; simpa using this
    obtain ⟨W0, hW0⟩ : ∃ W0, W0 = ((w46.alloc (.cells #[.slice Aq l0.length cq] 22)).alloc (.cells #[.int .u64 0] 47)).alloc (.cells #[.slice A0 l0.length c0] 23) := ⟨_, rfl⟩
    have hsz : W0.heap.size = w46.heap.size + 1 + 1 + 1 := by rw [hW0]; simp
    have bB : Boxed W0 w.heap.size 118 (.int .u32 a1) := by
      rw [hW0]
      exact ((Boxed.alloc ((n1_.out.block w.heap.size (by simp)).trans (Boxed.new w 118 (.int .u32 a1))) _).alloc _).alloc _
    have bQ : Boxed W0 w46.heap.size 22 (.slice Aq l0.length cq) := by rw [hW0]; exact ((Boxed.new w46 22 _).alloc _).alloc _
    have bR : Boxed W0 (w46.heap.size + 1) 47 (.int .u64 0) := by
      rw [hW0]
      have := (Boxed.new (w46.alloc (.cells #[.slice Aq l0.length cq] 22)) 47 (.int .u64 0)).alloc (.cells #[.slice A0 l0.length c0] 23)
      rw [World.size_alloc] at this
      exact this
    have bS : Boxed W0 (w46.heap.size + 1 + 1) 23 (.slice A0 l0.length c0) := by
      rw [hW0]
      have := Boxed.new ((w46.alloc (.cells #[.slice Aq l0.length cq] 22)).alloc (.cells #[.int .u64 0] 47)) 23 (.slice A0 l0.length c0)
      rw [World.size_alloc, World.size_alloc] at this
      exact this
    have hB46 : Below w.heap.size w w46 := ((Below.refl _ w).alloc (Nat.le_refl _) _).trans (n1_.out.mono (by simp))
    have hBel : Below w.heap.size w W0 := by rw [hW0]; exact ((hB46.alloc (by omega) _).alloc (by simp; omega) _).alloc (by simp; omega) _
    have hRow : Kd.R (Kd.int .u32) 118 W0 w.heap.size (fun k_ => w.heap.size + 1 ≤ k_ ∧ k_ < w46.heap.size) (.slice Aq l0.length cq) (List.replicate l0.length 0) := by
      rw [hW0]
      have h1 := Kd.R_mono (Kd.R_bound n0_.out) (ok' := fun k_ => w.heap.size + 1 ≤ k_ ∧ k_ < w46.heap.size) (fun k_ hk_ => ⟨by have := hk_.2.1; simpa using this, hk_.2.2.1⟩)
      exact Kd.R_alloc (Kd.R_alloc (Kd.R_alloc (Kd.R_lower h1 (by simp)) _) _) _
    have hI : BWords w.heap.size W0 (.slice A0 l0.length c0) l0 := by
      rcases Nat.eq_zero_or_pos l0.length with hz | hz
      · obtain rfl := List.eq_nil_of_length_eq_zero hz
        exact .inl ⟨A0, c0, rfl, rfl⟩
      · obtain ⟨ad, e, hc⟩ := Kd.at_int HR0.out 0 (by omega) (by omega)
        subst e
        refine .inr ⟨ad, c0, rfl, HR0.out.2.1, ?_, fun j hj => ?_⟩
        · have := World.block_lt_of_cell? w _ hc
          rwa [add_block] at this
        · obtain ⟨ad', e', hc'⟩ := Kd.at_int HR0.out (j : Int) (by omega) (by omega)
          injection e' with e'
          subst e'
          rw [Int.toNat_natCast] at hc'
          have hb := World.block_lt_of_cell? w _ hc'
          rw [hBel.cell hb, hc']
          simp [rd]
    rw [← hW0]
    refine (wpIn_wide (n := 3)).1 ?_
    refine wpIn_rangeFunc_ownG (F := Fence.wide) (n := 3) rfl (by omega) (gf := 131) (lb := #[.pointer (some ⟨w46.heap.size + 1 + 1, 0, none⟩)]) rfl trivial (enters_of Try.func131 (by kernel_rfl) rfl)
      (back_stops Fence.wide 2 trivial rfl (by omega) (w46.heap.size + 1 + 1) w.heap.size (.slice A0 l0.length c0) l0 W0 (by omega) hBel.size bS.cell hI) BKeep.trans (BKeep.put hBel.size (by omega)) (Below.refl _ _) (fun _ => rfl)
      (fun pre W => (Boxed W w.heap.size 118 (.int .u32 a1) ∧ Boxed W w46.heap.size 22 (.slice Aq l0.length cq) ∧ Boxed W (w46.heap.size + 1) 47 (.int .u64 (nat_short_st a1 (List.replicate l0.length 0, 0) pre).2)) ∧
        Kd.R (Kd.int .u32) 118 W w.heap.size (fun k_ => w.heap.size + 1 ≤ k_ ∧ k_ < w46.heap.size) (.slice Aq l0.length cq) (nat_short_st a1 (List.replicate l0.length 0, 0) pre).1 ∧ Below w.heap.size w W)
      (fun _ _ _ => False)
      (fun s X Y row hs hg hr => ⟨⟨hs.1.1.kept hg (fun e => by have := (hr _ e.symm).1; omega), hs.1.2.1.kept hg (fun e => by have := (hr _ e.symm).1; omega), hs.1.2.2.kept hg (fun e => by have := (hr _ e.symm).1; omega)⟩,
        Kd.R_grown hs.2.1 hg (fun k hk e => by have := (hr _ e.symm).1; omega), hs.2.2.grown hg hs.2.2.size (fun k e => by have := (hr k e).1; omega)⟩)
      (fun _ _ _ _ _ hs _ _ => hs)
      ⟨⟨bB, bQ, bR⟩, hRow, hBel⟩
      (fun x => { tmps := #[.slice A0 l0.length c0, .int .u32 a1, undef, .pointer (some ⟨w.heap.size, 0, none⟩), .slice none 0 0, .slice none 0 0, .pointer (some ⟨w46.heap.size, 0, none⟩), .pointer (some ⟨w46.heap.size + 1, 0, none⟩), .int .i64 (x.1.1 : Int), .int .u32 x.1.2, .slice A0 l0.length c0, .int .i64 (l0.length : Int), .slice Aq l0.length cq, .slice A0 l0.length c0, .func (.func 131) #[] #[.pointer (some ⟨w46.heap.size + 1 + 1, 0, none⟩)], .int .i64 (x.1.1 : Int), .int .u32 x.1.2, undef, undef, undef, undef, undef, undef, undef, undef, undef, undef, undef, undef, undef, undef, undef, undef, undef, undef, undef, undef, undef], defers := [] }) ?assign ?body ?done ?stop
    case assign =>
      intro l x W K hK
      gi_wp2
      exact hK
    case body =>
      rintro l pre x W ⟨⟨hb1, hb2, hb3⟩, hrow, hbel⟩ hlen
      have hi : x.1.1 < l0.length := by rcases x.2 with h | h <;> omega
      have hlen2 : (nat_short_st a1 (List.replicate l0.length 0, 0) pre).1.length = l0.length := ((Kd.R_reads' hrow).1).symm
      obtain ⟨q, r, hst⟩ : ∃ q r, nat_short_st a1 (List.replicate l0.length 0, 0) pre = (q, r) := ⟨_, _, rfl⟩
      rw [hst] at hb3 hrow hlen2
      dsimp only at hb3 hrow hlen2
      obtain ⟨g, cg, eg, hg1, hg2, cl, hgl⟩ := Kd.R_form hrow (by omega)
      rw [hlen2] at eg
      injection eg with e1 _ e2
      subst e1
      have hcq := Kd.R_celln 0 hrow (x.1.1 : Int) (by omega) (by omega)
      rw [Int.toNat_natCast] at hcq
      obtain ⟨hcq1, hcq2⟩ := hcq
      have hgok := hrow.1 g rfl
      have hc1 := hb1.cell
      have hc2 := hb2.cell
      have hc3 := hb3.cell
      have hf3 := hb3.frozen
      have hne1 : w46.heap.size + 1 ≠ w.heap.size := by omega
      have hne2 : w46.heap.size + 1 ≠ g := by omega
      have hi1 : (x.1.1 : Int) < (l0.length : Int) := by omega
      clear e2
      have hb0p := HN.out
      have hmx : Try.prog.follows .mixedOrders = true := by kernel_rfl
      gi_wp2
      refine wpIn_mono (Q := fun e a' w' => e = Exit.normal ∧ a' = ({ tmps := #[.slice A0 l0.length c0, .int .u32 a1, undef, .pointer (some ⟨w.heap.size, 0, none⟩), .slice none 0 0, .slice none 0 0, .pointer (some ⟨w46.heap.size, 0, none⟩), .pointer (some ⟨w46.heap.size + 1, 0, none⟩), .int .i64 (x.1.1 : Int), .int .u32 x.1.2, .slice A0 l0.length c0, .int .i64 (l0.length : Int), .slice (some ⟨g, 0, none⟩) l0.length cq, .slice A0 l0.length c0, .func (.func 131) #[] #[.pointer (some ⟨w46.heap.size + 1 + 1, 0, none⟩)], .int .i64 (x.1.1 : Int), .int .u32 x.1.2, .int .u64 r, .int .u64 (IntKind.u64.wrap (r * 4294967296)), .int .u32 x.1.2, .int .u64 (IntKind.u64.wrap x.1.2), .int .u64 (Go.bits .or .u64 (IntKind.u64.wrap (r * 4294967296)) (IntKind.u64.wrap x.1.2)), .slice (some ⟨g, 0, none⟩) l0.length cq, .int .i64 (x.1.1 : Int), .int .u64 (Go.bits .or .u64 (IntKind.u64.wrap (r * 4294967296)) (IntKind.u64.wrap x.1.2)), .int .u32 a1, .int .u64 (IntKind.u64.wrap a1), .int .u64 (IntKind.u64.wrap (Int.tdiv (Go.bits .or .u64 (IntKind.u64.wrap (r * 4294967296)) (IntKind.u64.wrap x.1.2)) (IntKind.u64.wrap a1))), .int .u32 (IntKind.u32.wrap (IntKind.u64.wrap (Int.tdiv (Go.bits .or .u64 (IntKind.u64.wrap (r * 4294967296)) (IntKind.u64.wrap x.1.2)) (IntKind.u64.wrap a1)))), .pointer (some ⟨g, x.1.1, none⟩), undef, undef, undef, undef, undef, undef, undef, undef], defers := [] } : Act) ∧ w' = ((W.setCell ⟨w46.heap.size + 1, 0, none⟩ (.int .u64 (Go.bits .or .u64 (IntKind.u64.wrap (r * 4294967296)) (IntKind.u64.wrap x.1.2)))).setCell ⟨g, x.1.1, none⟩ (.int .u32 (IntKind.u32.wrap (IntKind.u64.wrap (Int.tdiv (Go.bits .or .u64 (IntKind.u64.wrap (r * 4294967296)) (IntKind.u64.wrap x.1.2)) (IntKind.u64.wrap a1)))))).drew) ?r ?k
      case r =>
        gi_region
        all_goals exact ⟨rfl, rfl, rfl⟩
      case k =>
        rintro _ _ _ ⟨rfl, rfl, rfl⟩
        gi_wp2
        have hfin := short_round (B := W0.heap.size) (i := x.1.1) (x := (IntKind.u64.wrap (Int.tdiv (Go.bits .or .u64 (IntKind.u64.wrap (r * 4294967296)) (IntKind.u64.wrap x.1.2)) (IntKind.u64.wrap a1))) % 4294967296) (u1 := .int .u64 (Go.bits .or .u64 (IntKind.u64.wrap (r * 4294967296)) (IntKind.u64.wrap x.1.2))) (u3 := .int .u64 (Int.tmod (Go.bits .or .u64 (IntKind.u64.wrap (r * 4294967296)) (IntKind.u64.wrap x.1.2)) (IntKind.u64.wrap a1))) hlt46 hb1 hb2 hb3 hrow hbel
        have hst2 : nat_short_st a1 (List.replicate l0.length 0, 0) (pre ++ [x]) = nat_short_step a1 (q, r) x.1.1 x.1.2 := by
          unfold nat_short_st at hst ⊢
          rw [List.foldl_append, hst]
          rfl
        refine ⟨hfin.1, hfin.2.1, ?_⟩
        show (_ ∧ _ ∧ Boxed _ _ _ (.int .u64 (nat_short_st a1 (List.replicate l0.length 0, 0) (pre ++ [x])).2)) ∧ Kd.R (Kd.int .u32) 118 _ _ _ _ (nat_short_st a1 (List.replicate l0.length 0, 0) (pre ++ [x])).1 ∧ _
        rw [hst2]
        exact ⟨hfin.2.2.1, hfin.2.2.2⟩
    case done =>
      rintro D ys W hD rfl ⟨⟨hb1, hb2, hb3⟩, hrow, hbel⟩ hK
      obtain ⟨q, r, hst⟩ : ∃ q r, nat_short_st a1 (List.replicate l0.length 0, 0) (bupto (bpair l0 l0.length) l0.length) = (q, r) := ⟨_, _, rfl⟩
      rw [hst] at hb3 hrow A1 A2
      dsimp only at hb3 hrow A1 A2
      have HQ := Aside0.mk (Kd.R_V (base' := w.heap.size) hrow)
      have hlq := Aside0.mk (Kd.R_reads' hrow).1
      have hc2 := hb2.cell
      have hc3 := hb3.cell
      have hltR := hb3.lt
      have hltQ := hb2.lt
      have HT : ∀ W', Kd.V (Kd.int .u32) 118 W' W'.heap.size (fun k_ => w.heap.size + 1 ≤ k_ ∧ k_ < w46.heap.size) (.slice Aq l0.length cq) q → Calls Try.prog 109 #[.slice Aq l0.length cq] W' fun e w' => ∃ v0_ : Value, e = .returned (v0_) ∧ Kd.V (Kd.int .u32) 118 w' W'.heap.size (fun k_ => ((w.heap.size + 1 ≤ k_ ∧ k_ < w46.heap.size) ∨ W'.heap.size ≤ k_)) v0_ t1 ∧ Below W'.heap.size W' w' := by
        intro W' hs
        have h1 := nat_trim.calls k (fun k_ => w.heap.size + 1 ≤ k_ ∧ k_ < w46.heap.size) Aq cq q t1 W' (by rw [← hlq.out]; exact hs) A1.out
        rw [← hlq.out] at h1
        exact h1
      have HT' := Aside0.mk HT
      clear hst HT
      go_wp2
      go_region_held3 (fun w' => w'.cell? ⟨w46.heap.size, 0, none⟩ = some (.slice Aq l0.length cq) ∧ w'.cell? ⟨w46.heap.size + 1, 0, none⟩ = some (.int .u64 r)) (first | exact ⟨hc2, hc3⟩ | exact ⟨hq39, hc39⟩ | exact ⟨hq40, hc40⟩ | go_keep) (first | (go_at_call 109; refine (HT'.out _ ?side1).mono ?_; (case side1 => ((with_reducible repeat (first | apply Kd.V_alloc | apply Kd.V_drewN | apply Kd.V_drew)); exact HQ.out)); rintro e w39 ⟨v102, rfl, ho0, hb⟩; have HV0 := Aside0.mk ho0; have HB1 := Aside0.mk hb; have hb39q : Boxed w39 w46.heap.size 22 (.slice Aq l0.length cq) := (hb.block w46.heap.size hltQ).trans hb2; have hb39 : Boxed w39 (w46.heap.size + 1) 47 (.int .u64 r) := (hb.block (w46.heap.size + 1) hltR).trans hb3; have hq39 := hb39q.cell; have hc39 := hb39.cell; clear ho0 hb) | (go_at_call 52; refine (nat_New.calls k r t2 _ A2.out).mono ?_; rintro e w40 ⟨v103, rfl, ho1, hb⟩; have HV1 := Aside0.mk ho1; have HB2 := Aside0.mk hb; have hq40 := ((show Boxed w40 w46.heap.size 22 (.slice Aq l0.length cq) from (hb.block w46.heap.size hb39q.lt).trans hb39q)).cell; have hc40 := ((show Boxed w40 (w46.heap.size + 1) 47 (.int .u64 r) from (hb.block (w46.heap.size + 1) hb39.lt).trans hb39)).cell; clear ho1 hb))
      go_wp2
      have hltD : D < W.heap.size := (Array.getElem?_eq_some_iff.1 hK).1
      have hK1 : w39.heap[D]? = some (.deferred (some [])) := (HB1.out.block D hltD).trans hK
      have hK2 : w40.heap[D]? = some (.deferred (some [])) := (HB2.out.block D (Array.getElem?_eq_some_iff.1 hK1).1).trans hK1
      refine ⟨by simp, .inl ⟨_, _, rfl, run_takeDeferred hK2, ?_⟩⟩
      have hs0 : w.heap.size ≤ W.heap.size := hbel.size
      have hs1 : W.heap.size ≤ w39.heap.size := HB1.out.size
      have hother : ∀ k, k ≠ D → (w40.putObj D (.deferred none)).heap[k]? = w40.heap[k]? := fun k hk => World.putObj_heap_other hk
      have V0 := Kd.V_step (w1 := w40.putObj D (.deferred none)) (Kd.V_below HV0.out HB2.out) (fun k hk _ => hother k (by
        rcases hk with hk | hk
        · omega
        · have : W.heap.size ≤ k := hk
          omega))
      have V1 := Kd.V_step (w1 := w40.putObj D (.deferred none)) HV1.out (fun k hk _ => hother k (by omega))
      have bel1 : Below w.heap.size W w39 := (Below.refl _ W).drew.trans (HB1.out.mono hs0)
      have bel2 : Below w.heap.size w39 w40 := HB2.out.mono (Nat.le_trans hs0 hs1)
      exact ⟨_, results_tmp2 rfl _ _ _, v102, v103, rfl, Kd.V_mono V0 (fun k hk => by rcases hk with hk | hk; exact (by omega); exact Nat.le_trans hs0 hk), Kd.V_mono V1 (fun k hk => by omega), ((hbel.trans bel1).trans bel2).trans (belowK_b (w := w) (Nat.le_refl _) w40 D _ _ (by omega) hK2 rfl rfl)⟩
    case stop =>
      rintro D c pre W _ _ h _
      exact h.elim
  · rw [if_neg hl] at h; cases h
mutual
def nat_Nat_Text.l0 : Nat → List Int → List Int → Option (ByteArray)
 | 0, _, _ => none
 | k + 1, x0, x3 => if (x0.length : Int) > 0 then ((nat_Nat_short.f k x0 1000000000).bind fun bt104 => ((nat_Nat_at.f bt104.2 0).bind fun t110 => (nat_Nat_Text.l1 k bt104.1 x3 t110 0))) else (nat_Nat_Text.l2 k x3)
def nat_Nat_Text.l1 : Nat → List Int → List Int → Int → Int → Option (ByteArray)
 | 0, _, _, _, _ => none
 | k + 1, x0, x3, x5, x18 => if x18 < 9 then (if x3.length < 140737488355328 then (nat_Nat_Text.l1 k x0 (x3 ++ [(IntKind.u64.wrap (48 + (Int.tmod x5 10))) % 256]) (IntKind.u64.wrap (Int.tdiv x5 10)) (wrap64 (x18 + 1))) else (none)) else (nat_Nat_Text.l0 k x0 x3)
def nat_Nat_Text.l2 : Nat → List Int → Option (ByteArray)
 | 0, _ => none
 | k + 1, x3 => if (x3.length : Int) > 0 then (if 0 ≤ (wrap64 ((x3.length : Int) - 1)) then (if (wrap64 ((x3.length : Int) - 1)) < (x3.length : Int) then (if (rd x3 (wrap64 ((x3.length : Int) - 1))) = 48 then (if (wrap64 ((x3.length : Int) - 1)) ≤ (x3.length : Int) then (nat_Nat_Text.l2 k (x3.take ((wrap64 ((x3.length : Int) - 1)) : Int).toNat)) else (none)) else (if (x3.length : Int) = 0 then (some (⟨#[48]⟩ : ByteArray)) else ((slices_Reverse_byte_byte.f k x3).bind fun t118 => (some (strOfNums t118))))) else (none)) else (none)) else (if (x3.length : Int) = 0 then (some (⟨#[48]⟩ : ByteArray)) else ((slices_Reverse_byte_byte.f k x3).bind fun t119 => (some (strOfNums t119))))
end
def nat_Nat_Text.f (k : Nat) (l0 : List Int) : Option (ByteArray) := (nat_trim.f k l0).bind fun t101 => (nat_Nat_Text.l0 k t101 ([] : List Int))
theorem nat_Nat_Text.mono_l : ∀ k, (∀ y0 y1, LeO (nat_Nat_Text.l0 k y0 y1) (nat_Nat_Text.l0 (k + 1) y0 y1)) ∧ (∀ y0 y1 y2 y3, LeO (nat_Nat_Text.l1 k y0 y1 y2 y3) (nat_Nat_Text.l1 (k + 1) y0 y1 y2 y3)) ∧ (∀ y0, LeO (nat_Nat_Text.l2 k y0) (nat_Nat_Text.l2 (k + 1) y0))
 | 0 => ⟨fun _ _ r h => by simp [nat_Nat_Text.l0] at h, fun _ _ _ _ r h => by simp [nat_Nat_Text.l1] at h, fun _ r h => by simp [nat_Nat_Text.l2] at h⟩
 | k + 1 => by
  obtain ⟨ih0, ih1, ih2⟩ := nat_Nat_Text.mono_l k
  refine ⟨?_, ?_, ?_⟩
  ·intro y0 y1
   unfold nat_Nat_Text.l0
   repeat' with_reducible first | exact ih0 _ _ | exact ih1 _ _ _ _ | exact ih2 _ | exact nat_Nat_short.mono _ _ _ | exact nat_trim.mono _ _ | exact slices_Reverse_byte_byte.mono _ _ | exact LeO.refl _ | exact LeO.none _ | refine LeO.ite ?_ ?_ | refine LeO.bind ?_ (fun _ => ?_)
  ·intro y0 y1 y2 y3
   unfold nat_Nat_Text.l1
   repeat' with_reducible first | exact ih0 _ _ | exact ih1 _ _ _ _ | exact ih2 _ | exact nat_Nat_short.mono _ _ _ | exact nat_trim.mono _ _ | exact slices_Reverse_byte_byte.mono _ _ | exact LeO.refl _ | exact LeO.none _ | refine LeO.ite ?_ ?_ | refine LeO.bind ?_ (fun _ => ?_)
  ·intro y0
   unfold nat_Nat_Text.l2
   repeat' with_reducible first | exact ih0 _ _ | exact ih1 _ _ _ _ | exact ih2 _ | exact nat_Nat_short.mono _ _ _ | exact nat_trim.mono _ _ | exact slices_Reverse_byte_byte.mono _ _ | exact LeO.refl _ | exact LeO.none _ | refine LeO.ite ?_ ?_ | refine LeO.bind ?_ (fun _ => ?_)
theorem nat_Nat_Text.mono : ∀ a0 k, LeO (nat_Nat_Text.f k a0) (nat_Nat_Text.f (k + 1) a0) := by
 intro a0 k
 obtain ⟨ih0, ih1, ih2⟩ := nat_Nat_Text.mono_l k
 unfold nat_Nat_Text.f
 repeat' with_reducible first | exact ih0 _ _ | exact ih1 _ _ _ _ | exact ih2 _ | exact nat_Nat_short.mono _ _ _ | exact nat_trim.mono _ _ | exact slices_Reverse_byte_byte.mono _ _ | exact LeO.refl _ | exact LeO.none _ | refine LeO.ite ?_ ?_ | refine LeO.bind ?_ (fun _ => ?_)
set_option maxHeartbeats 8000000 in
set_option maxRecDepth 100000 in
theorem nat_Nat_Text.calls (k : Nat) (A0 : Option Addr) (c0 : Nat) (l0 : List Int) (r : ByteArray) (w : World) (hr0 : Kd.C (Kd.int .u32) w A0 l0.length l0) (hc0 : l0.length ≤ c0) (H : nat_Nat_Text.f k l0 = some r) :
  Calls Try.prog 46 #[.slice A0 l0.length c0] w fun e w' => e = .returned (.string r) ∧ Below w.heap.size w w' := by
 have HR0 := Aside0.mk hr0
 have HC0 := Aside0.mk hc0
 clear hr0 hc0
 have HB := Aside0.mk (Below.refl w.heap.size w)
 unfold nat_Nat_Text.f at H
 replace H := bi H
 obtain ⟨t101, A2, H⟩ := H
 have H' := Aside0.mk H
 clear H
 go_enter Try.func46, Try.ntmps46
 go_wp2_with (first | ((with_reducible refine gc 109 rfl ?_); refine gL 7 Try.func109 #[.slice A0 l0.length c0] ?_; (with_reducible refine (nat_trim.calls k (fun k_ => k_ < w.heap.size) _ _ l0 t101 _ ?_ A2.out).mono ?_); exact Kd.V_mk HC0.out (Kd.F_below (Kd.C_F (Kd.heap_int .u32) HR0.out) (bup HB.out)); rintro e w3 ⟨v102, rfl, ho0, hb⟩; refine ⟨_, rfl, ?_⟩; have HO103 := lw HB (fun k_ => True) ho0 (fun k_ hk_ => trivial); replace HB := bA HB hb; clear hb ho0))
 go_loopg [0, 3] k (fun kq v0 v3 w' => ∃ (x0_1 : List Int) (x3_1 : List Int), Aside0 (nat_Nat_Text.l0 kq x0_1 x3_1 = some r) ∧ Aside0 (kq ≤ k) ∧ Aside0 (Kd.V (Kd.int .u32) 118 w' w.heap.size (fun k_ => some k_ ≠ (v3 : Value).ownBlock) v0 x0_1) ∧ Aside0 (Kd.R (Kd.int .u8) 5 w' w.heap.size (fun _ => True) v3 x3_1) ∧ Aside0 (Below w.heap.size w w'))
 case atStart => exact ⟨(t101), (([] : List Int)), H', ⟨Nat.le_refl _⟩, ⟨by (with_reducible repeat (first | apply Kd.V_alloc | apply Kd.V_drewN | apply Kd.V_drew)); exact Kd.V_mono HO103.out (fun _ hk => (by simp [Value.ownBlock]))⟩, ⟨nil5⟩, ⟨bup HB.out⟩⟩
 case round =>
  clear H'
  try clear c1
  try clear p2
  obtain ⟨x0_1, x3_1, HA, HK1, HO_0, HO_3, HB⟩ := hrel
  cases gk with
  | zero => exact absurd HA.out (by simp [nat_Nat_Text.l0])
  | succ k1 =>
   have H := HA.out
   clear HA
   simp only [nat_Nat_Text.l0] at H
   by_cases c4 : (x0_1.length : Int) > 0
   ·rw [if_pos c4] at H
    have c4b0 : decide (0 < (x0_1.length : Int)) = true := decide_eq_true c4
    have c4b1 : decide (0 < x0_1.length) = true := decide_eq_true (by omega)
    clear c4
    replace H := bi H
    obtain ⟨⟨t104, t107⟩, A5, H⟩ := H
    try dsimp only at H
    replace H := bi H
    obtain ⟨t110, A6, H⟩ := H
    have H' := Aside0.mk H
    clear H
    obtain ⟨Ao7, co7, eo7⟩ := Kd.V_slice HO_0.out
    subst eo7
    go_wp2_with (first | ((with_reducible refine gc 111 rfl ?_); refine gL 13 Try.func111 #[.slice Ao7 x0_1.length co7, .int .u32 1000000000] ?_; (with_reducible refine (nat_Nat_short.calls k1 _ _ x0_1 1000000000 t104 t107 _ ?_ ?_ A5.out).mono ?_); exact cup ((Kd.V_reads' HO_0.out).2.2); exact (Kd.V_reads' HO_0.out).2.1; rintro e w8 ⟨v105, v108, rfl, ho0, ho1, hb⟩; refine ⟨_, rfl, ?_⟩; replace HO_0 := vA HO_0 hb; have HO106 := lw HB (fun k_ => some k_ ≠ (u3 : Value).ownBlock) ho0 (fun k_ hk_ => (Kd.fresh' (Kd.R_lt (rup HO_3.out)) k_ hk_)); have HO109 := lw HB (fun k_ => some k_ ≠ (u3 : Value).ownBlock) ho1 (fun k_ hk_ => (Kd.fresh' (Kd.R_lt (rup HO_3.out)) k_ hk_)); replace HO_3 := rA HO_3 hb; replace HB := bA HB hb; clear hb ho0 ho1; obtain ⟨Ao9, co9, eo9⟩ := Kd.V_slice HO109.out; subst eo9) | ((with_reducible refine gc 108 rfl ?_); refine gL 17 Try.func108 #[.slice Ao9 t107.length co9, .int .i64 0] ?_; (with_reducible refine (nat_Nat_at.calls _ _ t107 0 t110 _ ?_ ?_ A6.out).mono ?_); exact cup ((Kd.V_reads' HO109.out).2.2); exact (Kd.V_reads' HO109.out).2.1; rintro e w' ⟨rfl, ⟨nd, rfl⟩⟩; refine ⟨_, rfl, ?_⟩))
    go_loopg [3, 5, 18] k1 (fun kq v3 v5 v18 w' => ∃ (x3_2 : List Int) (x5_2 : Int) (x18_2 : Int), v5 = .int .u64 x5_2 ∧ v18 = .int .i64 x18_2 ∧ Aside0 (nat_Nat_Text.l1 kq t104 x3_2 x5_2 x18_2 = some r) ∧ Aside0 (kq ≤ k1) ∧ Aside0 (Kd.V (Kd.int .u32) 118 w' w.heap.size (fun k_ => some k_ ≠ (v3 : Value).ownBlock) v105 t104) ∧ Aside0 (Kd.R (Kd.int .u8) 5 w' w.heap.size (fun _ => True) v3 x3_2) ∧ Aside0 (Below w.heap.size w w'))
    case atStart => exact ⟨(x3_1), (t110), (0), rS, rS, H', ⟨Nat.le_refl _⟩, ⟨vup HO106.out⟩, ⟨rup HO_3.out⟩, ⟨bup HB.out⟩⟩
    case round =>
     clear H'
     try clear c1
     try clear p2
     try clear c4
     try clear c4b0
     try clear c4b1
     try clear p2
     obtain ⟨x3_2, x5_2, x18_2, rfl, rfl, HA, HK2, HO_0, HO_3, HB⟩ := hrel
     cases gk with
     | zero => exact absurd HA.out (by simp [nat_Nat_Text.l1])
     | succ k2 =>
      have H := HA.out
      clear HA
      simp only [nat_Nat_Text.l1] at H
      by_cases c10 : x18_2 < 9
      rotate_left
      ·rw [if_neg c10] at H
       have c10b0 : decide (x18_2 < 9) = false := decide_eq_false c10
       clear c10
       have H' := Aside0.mk H
       clear H
       go_wp2
       go_roundg k2
       case measure => have := HK1.out; have := HK2.out; omega
       case rel => exact ⟨(t104), (x3_2), H', ⟨by have := HK1.out; have := HK2.out; omega⟩, ⟨vup HO_0.out⟩, ⟨rup HO_3.out⟩, ⟨bup HB.out⟩⟩
      rw [if_pos c10] at H
      have c10b0 : decide (x18_2 < 9) = true := decide_eq_true c10
      clear c10
      replace H := iS H
      obtain ⟨c11, H⟩ := H
      have LMc11 := Aside0.mk c11
      clear c11
      obtain ⟨y111, hy111⟩ : ∃ y_ : List Int, y_ = (x3_2 ++ [(IntKind.u64.wrap (48 + (Int.tmod x5_2 10))) % 256]) := ⟨_, rfl⟩
      replace H : (nat_Nat_Text.l1 k2 t104 y111 (IntKind.u64.wrap (Int.tdiv x5_2 10)) (wrap64 (x18_2 + 1))) = some r := by first | (rw [hy111]; with_reducible exact H) | (have H2_ := (Option.bind_some _ _).symm.trans H; rw [hy111]; with_reducible exact H2_) | (have H2_ := (Option.bind_some _ _).symm.trans H; with_reducible exact H2_) | with_reducible exact H | (rw [hy111]; exact H) | exact H
      have Ny111 := Aside0.mk hy111
      clear hy111
      have H' := Aside0.mk H
      clear H
      go_wp2_with (first | ((with_reducible refine gate_builtin (b := .append) (xs := #[.tmp 20, .tmp 25]) rfl ?_); (try (refine gate_guard (by rfl) ?_; dsimp only)); at_builtin; refine Kd.R_append (Kd.int .u8) (w0 := w) w.heap.size rfl (.tmp 20) (.tmp 25) 130 5 (.int .u8 0) 1 rfl Try.underlying130 info5 rfl (by decide) (by omega) u3 x3_2 ((IntKind.u64.wrap (48 + (Int.tmod x5_2 10))) % 256) [.int .u8 ((IntKind.u64.wrap (48 + (Int.tmod x5_2 10))) % 256)] (fun _ => True) (fun _ => False) rfl rfl ?aP (fun _ hk => hk.elim) ?aF ?aO ?aB ?aS ?aL ?_; (case aP => exact rfl); (case aB => exact (bup HB.out)); (case aF => exact (fun _ _ => trivial)); (case aO => exact (rup HO_3.out)); (case aS => exact (below_size (bup HB.out))); (case aL => have := LMc11.out; omega); intro v112 w12 ho hb hg hat; rw [← Ny111.out] at ho; replace HO_0 := Aside0.mk (Kd.V_afterv (ok := (fun _ => True)) (by (with_reducible repeat (first | apply Kd.V_alloc | apply Kd.V_drewN | apply Kd.V_drew)); exact Kd.V_mono HO_0.out (fun _ hk => ⟨trivial, hk⟩)) hg hat); replace HB := Aside0.mk (hb); have HO113 := Aside0.mk (ho); clear HO_3; clear ho hb hg hat))
      go_roundg k2
      case measure => have := HK1.out; have := HK2.out; omega
      case rel => exact ⟨(y111), (IntKind.u64.wrap (Int.tdiv x5_2 10)), (wrap64 (x18_2 + 1)), rS, rS, H', ⟨by have := HK1.out; have := HK2.out; omega⟩, ⟨by (with_reducible repeat (first | apply Kd.V_alloc | apply Kd.V_drewN | apply Kd.V_drew)); exact Kd.V_mono HO_0.out (fun _ hk => hk.2)⟩, ⟨rup HO113.out⟩, ⟨bup HB.out⟩⟩
   rw [if_neg c4] at H
   have c4b0 : decide (0 < (x0_1.length : Int)) = false := decide_eq_false c4
   have c4b1 : decide (0 < x0_1.length) = false := decide_eq_false (by omega)
   clear c4
   have H' := Aside0.mk H
   clear H
   obtain ⟨Ao13, co13, eo13⟩ := Kd.V_slice HO_0.out
   subst eo13
   go_wp2
   go_loopg [3] k1 (fun kq v3 w' => ∃ (x3_2 : List Int), Aside0 (nat_Nat_Text.l2 kq x3_2 = some r) ∧ Aside0 (kq ≤ k1) ∧ Aside0 (Kd.R (Kd.int .u8) 5 w' w.heap.size (fun _ => True) v3 x3_2) ∧ Aside0 (Below w.heap.size w w'))
   case atStart => exact ⟨(x3_1), H', ⟨Nat.le_refl _⟩, ⟨rup HO_3.out⟩, ⟨bup HB.out⟩⟩
   case round =>
    clear H'
    try clear c1
    try clear p2
    try clear c4
    try clear c4b0
    try clear c4b1
    try clear p6
    try clear c10
    try clear c10b0
    try clear c11
    try clear p2
    obtain ⟨x3_2, HA, HK2, HO_3, HB⟩ := hrel
    cases gk with
    | zero => exact absurd HA.out (by simp [nat_Nat_Text.l2])
    | succ k2 =>
     have H := HA.out
     clear HA
     simp only [nat_Nat_Text.l2] at H
     by_cases c14 : (x3_2.length : Int) > 0
     rotate_left
     ·rw [if_neg c14] at H
      have c14b0 : decide (0 < (x3_2.length : Int)) = false := decide_eq_false c14
      have c14b1 : decide (0 < x3_2.length) = false := decide_eq_false (by omega)
      clear c14
      by_cases c28 : (x3_2.length : Int) = 0
      ·rw [if_pos c28] at H
       obtain ⟨c28b0, c28b1⟩ := bqT c28
       clear c28
       obtain rfl := Option.some.inj H
       obtain ⟨Ao29, co29, eo29⟩ := Kd.R_slice HO_3.out
       subst eo29
       go_wp2
       go_ret
       exact ⟨er, bup HB.out⟩
      rw [if_neg c28] at H
      obtain ⟨c28b0, c28b1⟩ := bqF c28
      have c28b2 : ¬ (x3_2 = []) := fun h_ => c28 (by rw [h_]; rfl)
      replace H := bi H
      obtain ⟨t119, A30, H⟩ := H
      obtain rfl := Option.some.inj H
      obtain ⟨Ao31, co31, eo31⟩ := Kd.R_slice HO_3.out
      subst eo31
      go_wp2_with (first | ((with_reducible refine gc 116 rfl ?_); refine gL 51 Try.func116 #[.slice Ao31 x3_2.length co31] ?_; (with_reducible refine (slices_Reverse_byte_byte.calls k2 (fun k_ => some k_ = (.slice Ao31 x3_2.length co31 : Value).ownBlock) (.slice Ao31 x3_2.length co31) x3_2 t119 w _ ?_ ?_ A30.out).mono ?_); (repeat (first | (with_reducible first | exact HB.out | apply below_alloc | apply pw_below_drewN | apply below_drew1) | exact HB.out)); exact Kd.R_tight rfl HO_3.out; rintro e w32 ⟨rfl, hy0, hb, hkp⟩; refine ⟨_, rfl, ?_⟩; replace HO_3 := Aside0.mk (Kd.R_reok rfl hy0 (fun k_ e_ => HO_3.out.1 k_ e_)); replace HB := Aside0.mk (hb); clear hb; (try clear hkp); (try clear hy0); have hcv33 := own_string (P := Try.prog) Try.underlying130 Try.underlying5 Try.underlying9 (Kd.own_of_R HO_3.out)))
      go_ret
      exact ⟨er, bup HB.out⟩
     rw [if_pos c14] at H
     have c14b0 : decide (0 < (x3_2.length : Int)) = true := decide_eq_true c14
     have c14b1 : decide (0 < x3_2.length) = true := decide_eq_true (by omega)
     clear c14
     obtain ⟨ji15, hji15⟩ : ∃ j_ : Int, (wrap64 ((x3_2.length : Int) - 1)) = j_ := ⟨_, rfl⟩
     replace H : (if 0 ≤ (ji15) then (if (ji15) < (x3_2.length : Int) then (if (rd x3_2 (ji15)) = 48 then (if (ji15) ≤ (x3_2.length : Int) then (nat_Nat_Text.l2 k2 (x3_2.take ((ji15) : Int).toNat)) else (none)) else (if (x3_2.length : Int) = 0 then (some (⟨#[48]⟩ : ByteArray)) else ((slices_Reverse_byte_byte.f k2 x3_2).bind fun t118 => (some (strOfNums t118))))) else (none)) else (none)) = some r := by first | (rw [hji15] at H; exact H) | (simp only [hji15] at H ⊢; exact H)
     have hji15w : (IntKind.i64.wrap ((x3_2.length : Int) - 1)) = ji15 := (i64_w _).trans hji15
     replace H := iS H
     obtain ⟨c16, H⟩ := H
     have c16b0 : decide (0 ≤ (ji15)) = true := decide_eq_true c16
     clear c16
     replace H := iS H
     obtain ⟨c17, H⟩ := H
     have c17b0 : decide ((ji15) < (x3_2.length : Int)) = true := decide_eq_true c17
     clear c17
     by_cases c18 : (rd x3_2 (ji15)) = 48
     rotate_left
     ·rw [if_neg c18] at H
      obtain ⟨c18b0, c18b1⟩ := bqF c18
      by_cases c22 : (x3_2.length : Int) = 0
      ·rw [if_pos c22] at H
       obtain ⟨c22b0, c22b1⟩ := bqT c22
       clear c22
       obtain rfl := Option.some.inj H
       obtain ⟨Ao23, co23, eo23⟩ := Kd.R_slice HO_3.out
       subst eo23
       have p114 : 0 ≤ ((ji15) : Int) := of_decide_eq_true asm
       have q114 : (ji15) < (x3_2.length : Int) := of_decide_eq_true asm
       obtain ⟨ad114, e114, hx114_0⟩ := Kd.at_int (Kd.R_reads' HO_3.out).2.2 (ji15) p114 q114
       cases e114
       replace p114 := eq_true p114
       replace q114 := eq_true q114
       go_wp2
       go_ret
       exact ⟨by first | rfl | (simp [errW_none, errW_some] <;> rfl) | (simp only [← hji15]; first | rfl | (simp [errW_none, errW_some] <;> rfl)) | (simp [*, errW_none, errW_some] <;> rfl), bup HB.out⟩
      rw [if_neg c22] at H
      obtain ⟨c22b0, c22b1⟩ := bqF c22
      have c22b2 : ¬ (x3_2 = []) := fun h_ => c22 (by rw [h_]; rfl)
      replace H := bi H
      obtain ⟨t118, A24, H⟩ := H
      obtain rfl := Option.some.inj H
      obtain ⟨Ao25, co25, eo25⟩ := Kd.R_slice HO_3.out
      subst eo25
      have p114 : 0 ≤ ((ji15) : Int) := of_decide_eq_true asm
      have q114 : (ji15) < (x3_2.length : Int) := of_decide_eq_true asm
      obtain ⟨ad114, e114, hx114_0⟩ := Kd.at_int (Kd.R_reads' HO_3.out).2.2 (ji15) p114 q114
      cases e114
      replace p114 := eq_true p114
      replace q114 := eq_true q114
      go_wp2_with (first | ((with_reducible refine gc 116 rfl ?_); refine gL 51 Try.func116 #[.slice (some ad114) x3_2.length co25] ?_; (with_reducible refine (slices_Reverse_byte_byte.calls k2 (fun k_ => some k_ = (.slice (some ad114) x3_2.length co25 : Value).ownBlock) (.slice (some ad114) x3_2.length co25) x3_2 t118 w _ ?_ ?_ A24.out).mono ?_); (repeat (first | (with_reducible first | exact HB.out | apply below_alloc | apply pw_below_drewN | apply below_drew1) | exact HB.out)); exact Kd.R_tight rfl HO_3.out; rintro e w26 ⟨rfl, hy0, hb, hkp⟩; refine ⟨_, rfl, ?_⟩; replace HO_3 := Aside0.mk (Kd.R_reok rfl hy0 (fun k_ e_ => HO_3.out.1 k_ e_)); replace HB := Aside0.mk (hb); clear hb; (try clear hkp); (try clear hy0); have hcv27 := own_string (P := Try.prog) Try.underlying130 Try.underlying5 Try.underlying9 (Kd.own_of_R HO_3.out)))
      go_ret
      exact ⟨by first | rfl | (simp [errW_none, errW_some] <;> rfl) | (simp only [← hji15]; first | rfl | (simp [errW_none, errW_some] <;> rfl)) | (simp [*, errW_none, errW_some] <;> rfl), bup HB.out⟩
     rw [if_pos c18] at H
     obtain ⟨c18b0, c18b1⟩ := bqT c18
     clear c18
     replace H := iS H
     obtain ⟨c19, H⟩ := H
     have c19b0 := eq_true c19
     have c19b1 : decide ((ji15) ≤ (x3_2.length : Int)) = true := decide_eq_true c19
     clear c19
     obtain ⟨y115, hy115⟩ : ∃ y_ : List Int, y_ = (x3_2.take ((ji15) : Int).toNat) := ⟨_, rfl⟩
     replace H : (nat_Nat_Text.l2 k2 y115) = some r := by first | (rw [hy115]; with_reducible exact H) | (have H2_ := (Option.bind_some _ _).symm.trans H; rw [hy115]; with_reducible exact H2_) | (have H2_ := (Option.bind_some _ _).symm.trans H; with_reducible exact H2_) | with_reducible exact H | (rw [hy115]; exact H) | exact H
     have Ny115 := Aside0.mk hy115
     clear hy115
     have H' := Aside0.mk H
     clear H
     obtain ⟨Ao20, co20, eo20⟩ := Kd.R_slice HO_3.out
     subst eo20
     have p114 : 0 ≤ ((ji15) : Int) := of_decide_eq_true asm
     have q114 : (ji15) < (x3_2.length : Int) := of_decide_eq_true asm
     obtain ⟨ad114, e114, hx114_0⟩ := Kd.at_int (Kd.R_reads' HO_3.out).2.2 (ji15) p114 q114
     cases e114
     replace p114 := eq_true p114
     replace q114 := eq_true q114
     have q21 : ((ji15) : Int) ≤ ((x3_2.length : Int) : Int) := of_decide_eq_true asm
     obtain ⟨i021, hi021, _, hsz21, _⟩ := info_parts info5
     have hcut21 := cut_to (P := Try.prog) 130 5 .i64 Try.underlying130 hi021 (some ad114) x3_2.length co20 (ji15) (of_decide_eq_true asm) q21 (Kd.R_reads' HO_3.out).2.1
     have hr21 := Kd.R_take (m := ((ji15) : Int).toNat) HO_3.out (by omega)
     have hy21 : y115.length = ((ji15) : Int).toNat := (by rw [Ny115.out, List.length_take]; omega)
     rw [← Ny115.out] at hr21
     rw [← hy21] at hr21 hcut21
     clear hy21 hi021 hsz21 HO_3
     have HO117 := Aside0.mk hr21
     clear hr21
     replace q21 := eq_true q21
     go_wp2
     go_roundg k2
     case measure => have := HK1.out; have := HK2.out; omega
     case rel => exact ⟨(y115), H', ⟨by have := HK1.out; have := HK2.out; omega⟩, ⟨rup HO117.out⟩, ⟨bup HB.out⟩⟩
end Go.Proofs.Ytagbnkbhobmgjaa.Fn
end
