/- Rational numbers are made in lowest terms, as the document says: of two naturals, of an integer, of an integer times a power of two. Part 7 of 19. -/
import Derived.RangeFuncBox
import Derived.RangeFuncLeaves
import Derived.RangeFuncNested
import Derived.Shelf.Abstract
import Derived.WalkKit
import Derived.OwnWalkIn
import Derived.TacticsInMore
import Derived.LoopNIn
import Derived.LoopIn
import Derived.Lib.Hide
import Derived.Shelf.RegionOpen
import Derived.RangeFuncCalls
import Derived.BigRegionIn
import Derived.Deep.RegionWith
import Derived.Test.YtagbnkbhobmgjaaProg
section
/-! slices.Backward over words of 32 bits: its contract as an iterator. -/
namespace Go.Proofs.Ytagbnkbhobmgjaa.Fn
open Go.RowKit Go.Shelf
set_option linter.unusedVariables false
attribute [local go_sem] Oper.semAt_some
/-- What has come when k rounds are over: f 0, .., f (k - 1). -/
def bupto {α : Type} (f : Nat → α) (k : Nat) : List α := (List.range k).map f
theorem bupto_succ {α : Type} (f : Nat → α) (k : Nat) : bupto f (k + 1) = bupto f k ++ [f k] := by simp [bupto, List.range_succ]
theorem bupto_length {α : Type} (f : Nat → α) (k : Nat) : (bupto f k).length = k := by simp [bupto]
/-- The pair that comes in round k of a walk down a row of n words. -/
def BX (n : Nat) := { x : Nat × Int // x.1 < n ∨ n = 0 }
def bpair (zs : List Int) (n k : Nat) : BX n := ⟨(n - 1 - k, zs[n - 1 - k]?.getD 0), by omega⟩
/-- What a round keeps: what lay below n₀, and the box of the slice. -/
structure BKeep (n₀ Bs : Nat) (W W' : World) : Prop where
  low : Below n₀ W W'
  box : W'.heap[Bs]? = W.heap[Bs]?
theorem BKeep.refl (n₀ Bs : Nat) (W : World) : BKeep n₀ Bs W W := ⟨Below.refl _ _, rfl⟩
theorem BKeep.trans {n₀ Bs : Nat} {A B C : World} (h : BKeep n₀ Bs A B) (k : BKeep n₀ Bs B C) : BKeep n₀ Bs A C := ⟨h.low.trans k.low, k.box.trans h.box⟩
theorem BKeep.put {n₀ Bs : Nat} {w : World} (hn : n₀ ≤ w.heap.size) (hB : Bs < w.heap.size) (W : World) (l : Nat) (o o' : Obj) (hl : w.heap.size ≤ l) (h : W.heap[l]? = some o) (hc : o.isCells = false) (hw : o.isWalk = false) : BKeep n₀ Bs W (W.putObj l o') :=
  ⟨belowK_b hn W l o o' hl h hc hw, World.putObj_heap_other (by omega)⟩
theorem BKeep.cell {n₀ Bs : Nat} {W W' : World} (h : BKeep n₀ Bs W W') (j : Nat) : W'.cell? ⟨Bs, j, none⟩ = W.cell? ⟨Bs, j, none⟩ := World.cell?_of_block h.box
set_option maxRecDepth 100000 in
set_option maxHeartbeats 2000000 in
theorem back1_in (F : Fence) (n : Nat) (h7 : F.fn 131) (hro : F.round = none) (hn : 1 ≤ n) (l Bs n₀ : Nat) (ad : Addr) (len cap : Nat) (zs : List Int) (hm : len ≤ 9223372036854775807) (hb : ad.block < n₀) (J Jx : List (BX len) → World → Prop)
    (hY : ∀ pre x W, J pre W → pre.length < len → YieldAt F (n - 1) Try.prog l #[.int .i64 (x.1.1 : Int), .int .u32 x.1.2] W fun e W' =>
      (e = .returned (.bool true) ∧ J (pre ++ [x]) W' ∧ BKeep n₀ Bs W W') ∨ (e = .returned (.bool false) ∧ Jx (pre ++ [x]) W'))
    (W : World) (hBs : W.cell? ⟨Bs, 0, none⟩ = some (.slice (some ad) len cap)) (hc : ∀ j, j < len → W.cell? (ad.add j) = some (.int .u32 (zs[j]?.getD 0))) (h0 : J [] W) :
    CallsIn F n Try.prog 131 #[.func (.yield l) #[] #[], .pointer (some ⟨Bs, 0, none⟩)] W fun e W' => (∃ v, e = .returned v) ∧
      ((∃ ys, ys = bupto (bpair zs len) len ∧ J ys W') ∨ (∃ pre, (∃ k, k ≤ len ∧ pre = bupto (bpair zs len) k) ∧ Jx pre W')) := by
  refine callsIn_of_wp Try.func131 rfl h7 ?_ hro
  simp only [Try.ntmps131, List.size_toArray, List.length_cons, List.length_nil, Nat.reduceAdd, Nat.reduceSub, Array.replicate_succ, Array.replicate_zero, List.push_toArray, List.append_toArray, List.nil_append, List.cons_append]
  gi_wp2
  gi_loopw [3] (fun i wr => ∃ (k : Nat) (xi : Int), k ≤ len ∧ Hid (xi + k = (len : Int) - 1) ∧ i = .int .i64 xi ∧ J (bupto (bpair zs len) k) wr ∧ BKeep n₀ Bs W wr)
    (fun i _ => (intOf i + 1).toNat)
  case atStart => exact ⟨0, (len : Int) - 1, Nat.zero_le _, Lib.hid (by omega), rfl, h0, BKeep.refl _ _ _⟩
  case round =>
    obtain ⟨k, xi, hk, hxi, rfl, hJs, hnx⟩ := hrel
    have hBr : wr.cell? ⟨Bs, 0, none⟩ = some (.slice (some ad) len cap) := (hnx.cell 0).trans hBs
    by_cases hlt : k < len
    · obtain ⟨fn, tmps, assign, body, hy, hR⟩ := hY _ (bpair zs len k) wr hJs (by rw [bupto_length]; exact hlt)
      have hcx : wr.cell? (ad.add xi.toNat) = some (.int .u32 (zs[len - 1 - k]?.getD 0)) := by
        have e : xi.toNat = len - 1 - k := by have := hxi.out; omega
        rw [e]
        exact (hnx.low.cell (p := ad.add (len - 1 - k)) (by rw [show (ad.add (len - 1 - k)).block = ad.block from by unfold Addr.add; split <;> rfl]; exact hb)).trans (hc _ (by omega))
      have e1 : (((len - 1 - k : Nat)) : Int) = xi := by have := hxi.out; omega
      simp only [bpair, e1] at hy
      have hlt0 : (0 : Int) ≤ xi := by have := hxi.out; omega
      have hlt1 : xi < (len : Int) := by have := hxi.out; omega
      clear e1
      gi_wp2
      refine hR.mono ?_
      rintro e W3 (⟨rfl, hJ3, hk3⟩ | ⟨rfl, hJx3⟩)
      · gi_wp2
        go_roundw
        case rel => exact ⟨k + 1, xi - 1, by omega, Lib.hid (by have := hxi.out; omega), rfl, by rw [bupto_succ]; exact hJ3, hnx.trans hk3⟩
        case measure => simp [intOf]; omega
      · gi_wp2
        refine bodyPost_ret (results_none rfl _ _ _) rfl ?_
        exact ⟨⟨_, rfl⟩, .inr ⟨_, ⟨k + 1, by omega, (bupto_succ _ _).symm⟩, hJx3⟩⟩
    · obtain rfl : k = len := by omega
      have hlt0 : xi < 0 := by have := hxi.out; omega
      gi_wp2
      go_end0
      exact ⟨⟨_, rfl⟩, .inl ⟨_, rfl, hJs⟩⟩
set_option maxRecDepth 100000 in
set_option maxHeartbeats 1000000 in
theorem back1_nil_in (F : Fence) (n : Nat) (h7 : F.fn 131) (hro : F.round = none) (l Bs c : Nat) (A : Option Addr) (J : List (BX 0) → World → Prop) (W : World) (hBs : W.cell? ⟨Bs, 0, none⟩ = some (.slice A 0 c)) (h0 : J [] W) :
    CallsIn F n Try.prog 131 #[.func (.yield l) #[] #[], .pointer (some ⟨Bs, 0, none⟩)] W fun e W' => (∃ v, e = .returned v) ∧ J [] W' := by
  refine callsIn_of_wp Try.func131 rfl h7 ?_ hro
  simp only [Try.ntmps131, List.size_toArray, List.length_cons, List.length_nil, Nat.reduceAdd, Nat.reduceSub, Array.replicate_succ, Array.replicate_zero, List.push_toArray, List.append_toArray, List.nil_append, List.cons_append]
  gi_wp2
  gi_loopw [3] (fun i wr => i = .int .i64 (-1) ∧ J [] wr) (fun _ _ => 0)
  case atStart => exact ⟨rfl, h0⟩
  case round =>
    obtain ⟨rfl, hJs⟩ := hrel
    gi_wp2
    go_end0
    exact ⟨⟨_, rfl⟩, hJs⟩
set_option maxHeartbeats 1000000 in
theorem back_in (F : Fence) (n : Nat) (h5 : F.fn 129) (hro : F.round = none) (a : Option Addr) (len cap : Nat) (w : World) :
    CallsIn F n Try.prog 129 #[.slice a len cap] w fun e w' => e = .returned (.func (.func 131) #[] #[.pointer (some ⟨w.heap.size, 0, none⟩)]) ∧ w' = w.alloc (.cells #[.slice a len cap] 23) := by
  refine callsIn_of_wp Try.func129 rfl h5 ?_ hro
  simp only [Try.ntmps129, List.size_toArray, List.length_cons, List.length_nil, Nat.reduceAdd, Nat.reduceSub, Array.replicate_succ, Array.replicate_zero, List.push_toArray, List.append_toArray, List.nil_append, List.cons_append]
  gi_wp2
  go_ret
  exact ⟨rfl, rfl⟩
/-- A slice of 32-bit words that lies below n₀. -/
def BWords (n₀ : Nat) (W : World) (sv : Value) (zs : List Int) : Prop :=
  (∃ A c, sv = .slice A 0 c ∧ zs = []) ∨ ∃ ad cap, sv = .slice (some ad) zs.length cap ∧ zs.length ≤ 9223372036854775807 ∧ ad.block < n₀ ∧ ∀ j, j < zs.length → W.cell? (ad.add j) = some (.int .u32 (zs[j]?.getD 0))
theorem add_block (ad : Addr) (j : Nat) : (ad.add j).block = ad.block := by unfold Addr.add; split <;> rfl
theorem BWords.below {n₀ : Nat} {A B : World} (h : Below n₀ A B) {sv : Value} {zs : List Int} : BWords n₀ A sv zs → BWords n₀ B sv zs
  | .inl e => .inl e
  | .inr ⟨ad, cap, e, hm, hb, hc⟩ => .inr ⟨ad, cap, e, hm, hb, fun j hj => (h.cell (p := ad.add j) (by rw [add_block]; exact hb)).trans (hc j hj)⟩
/-- slices.Backward(s) hands back an iterator: the words come from the last to the first. -/
theorem back_stops (F : Fence) (n : Nat) (h7 : F.fn 131) (hro : F.round = none) (hn : 1 ≤ n) (Bs n₀ : Nat) (sv : Value) (zs : List Int) (w : World) (hBs : Bs < w.heap.size) (hn₀ : n₀ ≤ w.heap.size)
    (hc : w.cell? ⟨Bs, 0, none⟩ = some sv) (hI : BWords n₀ w sv zs) :
    SeqStopsK F n Try.prog 131 #[.pointer (some ⟨Bs, 0, none⟩)] (fun x : BX zs.length => #[Value.int .i64 (x.1.1 : Int), Value.int .u32 x.1.2]) (BKeep n₀ Bs) (fun ys => ys = bupto (bpair zs zs.length) zs.length)
      (fun pre => ∃ k, k ≤ zs.length ∧ pre = bupto (bpair zs zs.length) k) zs.length w := fun l J Jx W hW _ _ hY h0 => by
  have hc' := (hW.cell (p := ⟨Bs, 0, none⟩) hBs).trans hc
  rcases hI.below (hW.mono hn₀) with ⟨A, c, rfl, rfl⟩ | ⟨ad, cap, rfl, hm, hb, hcs⟩
  · exact (back1_nil_in F n h7 hro l Bs c A J W hc' h0).mono fun e W' ⟨he, hj⟩ => ⟨he, .inl ⟨_, rfl, hj⟩⟩
  · exact back1_in F n h7 hro hn l Bs n₀ ad zs.length cap zs hm hb J Jx hY W hc' hcs h0
end Go.Proofs.Ytagbnkbhobmgjaa.Fn
end
