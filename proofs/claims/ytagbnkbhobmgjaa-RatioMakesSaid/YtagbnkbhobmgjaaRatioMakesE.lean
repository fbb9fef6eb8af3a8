/- Rational numbers are made in lowest terms, as the document says: of two naturals, of an integer, of an integer times a power of two. Part 5 of 19. -/
import Derived.Test.YtagbnkbhobmgjaaProg
import Derived.Below
import Derived.Deep.Draws
import Derived.Deep.AppendLies
import Derived.Maps.AppendAt
import Derived.OwnWalk
import Derived.Laws.BytesArg
import Derived.Laws.MakeOwn
import Derived.Laws.OwnMore
import Derived.Deep.OwnRows
import Derived.Tactics
import Derived.Lib.ConvBytes
import Derived.Laws.Slices
import Derived.WalkKit
import Derived.KernelRfl
import Derived.RowKit3
import Derived.Deep.LoopGhost
import Derived.Deep.QuietTactic
import Derived.BigQuiet
import Derived.WideLaws
import Derived.Deep.DeepCutAuto
import Derived.Deep.CutBlock
import Derived.Deep.RegionHeld3
import Derived.Laws.Rows
import Derived.Lib.AppendStr
import Derived.ArgAppend
import Derived.Laws.IdiomCopy
import Derived.OrdersHeld
import Derived.Laws.BitsLemmas
import Derived.RowKit
import Derived.Test.YtagbnkbhobmgjaaRatioMakesA
import Derived.Test.YtagbnkbhobmgjaaRatioMakesB
import Derived.Test.YtagbnkbhobmgjaaRatioMakesC
import Derived.Test.YtagbnkbhobmgjaaRatioMakesD
section
namespace Go.Proofs.Ytagbnkbhobmgjaa.Fn
open Go.RowKit Go.Proofs.YtagbnkbhobmgjaaW.PrintWords Go.Proofs.YtagbnkbhobmgjaaW.PrintLast Go.Proofs.YtagbnkbhobmgjaaW.PrintMore
attribute [local go_sem] max2_int min2_int max_two min_two max_three min_three max_four min_four   -- for this text's walks alone
set_option linter.unusedVariables false
set_option linter.unusedSimpArgs false
def errW : Option Int → Value
  | none => .nilIface
  | some c => .iface 0 (.int .i64 c)
theorem errW_none : errW none = .nilIface := rfl
theorem errW_some (c : Int) : errW (some c) = .iface 0 (.int .i64 c) := rfl
theorem info4 : (Try.prog.info? 4).map (fun i => (i.zero, i.size, i.bytes)) = some (some (.bool false), 1, 1) := by kernel_rfl
theorem info5 : (Try.prog.info? 5).map (fun i => (i.zero, i.size, i.bytes)) = some (some (.int .u8 0), 1, 1) := by kernel_rfl
theorem info118 : (Try.prog.info? 118).map (fun i => (i.zero, i.size, i.bytes)) = some (some (.int .u32 0), 1, 4) := by kernel_rfl
-- the values' own types
/-! #### struct type 69 -/
structure S69 where
  f0 : Bool
  f1 : (List Int)
  f2 : (List Int)
def z69 : S69 := ⟨false, ([] : List Int), ([] : List Int)⟩
def k69 : Kd S69 := Kd.iso (Kd.pair Kd.bool (Kd.pair (Kd.slice 118 (Kd.int .u32)) (Kd.slice 118 (Kd.int .u32)))) (fun x : S69 => (x.f0, x.f1, x.f2))
theorem k69_open {w : World} {x : S69} {cs : List Value} (h : k69.K w x cs) : ∃ A1 c1 A2 c2, cs = [.bool x.f0, .slice A1 x.f1.length c1, .slice A2 x.f2.length c2] ∧ x.f1.length ≤ c1 ∧ (Kd.int .u32).C w A1 x.f1.length x.f1 ∧ x.f2.length ≤ c2 ∧ (Kd.int .u32).C w A2 x.f2.length x.f2 := by
  obtain ⟨_, _, rfl, rfl, ⟨_, _, rfl, ⟨A1, c1, rfl, l1, g1⟩, ⟨A2, c2, rfl, l2, g2⟩⟩⟩ := h
  exact ⟨A1, c1, A2, c2, rfl, l1, g1, l2, g2⟩
theorem k69_mk (w : World) (x : S69) {A1 : Option Addr} {c1 : Nat} (l1 : x.f1.length ≤ c1) (g1 : (Kd.int .u32).C w A1 x.f1.length x.f1) {A2 : Option Addr} {c2 : Nat} (l2 : x.f2.length ≤ c2) (g2 : (Kd.int .u32).C w A2 x.f2.length x.f2) : k69.K w x [.bool x.f0, .slice A1 x.f1.length c1, .slice A2 x.f2.length c2] := ⟨[.bool x.f0], [.slice A1 x.f1.length c1, .slice A2 x.f2.length c2], rfl, rfl, ⟨[.slice A1 x.f1.length c1], [.slice A2 x.f2.length c2], rfl, ⟨A1, c1, rfl, l1, g1⟩, ⟨A2, c2, rfl, l2, g2⟩⟩⟩
theorem k69_openF {W : World} {ok : Nat → Prop} {x : S69} {cs : List Value} (h : Kd.FK k69 W ok x cs) : ∃ A1 c1 A2 c2, cs = [.bool x.f0, .slice A1 x.f1.length c1, .slice A2 x.f2.length c2] ∧ x.f1.length ≤ c1 ∧ Kd.F (Kd.int .u32) W ok A1 x.f1.length x.f1 ∧ x.f2.length ≤ c2 ∧ Kd.F (Kd.int .u32) W ok A2 x.f2.length x.f2 := by
  obtain ⟨A1, c1, A2, c2, rfl, l1, _, l2, _⟩ := k69_open (Kd.FK_now h)
  exact ⟨A1, c1, A2, c2, rfl, l1, (fun W' hW => by obtain ⟨A1_, c1_, A2_, c2_, he, l1_, g1_, l2_, g2_⟩ := k69_open (h W' hW); injection (Option.some.inj (show some (Value.slice A1 x.f1.length c1) = some (Value.slice A1_ x.f1.length c1_) from congrArg (fun l => l[1]?) he)) with ha_ _ _; rw [ha_]; exact g1_), l2, (fun W' hW => by obtain ⟨A1_, c1_, A2_, c2_, he, l1_, g1_, l2_, g2_⟩ := k69_open (h W' hW); injection (Option.some.inj (show some (Value.slice A2 x.f2.length c2) = some (Value.slice A2_ x.f2.length c2_) from congrArg (fun l => l[2]?) he)) with ha_ _ _; rw [ha_]; exact g2_)⟩
theorem k69_mkF (W : World) (ok : Nat → Prop) (x : S69) {A1 : Option Addr} {c1 : Nat} (l1 : x.f1.length ≤ c1) (g1 : Kd.F (Kd.int .u32) W ok A1 x.f1.length x.f1) {A2 : Option Addr} {c2 : Nat} (l2 : x.f2.length ≤ c2) (g2 : Kd.F (Kd.int .u32) W ok A2 x.f2.length x.f2) : Kd.FK k69 W ok x [.bool x.f0, .slice A1 x.f1.length c1, .slice A2 x.f2.length c2] := fun W2 hW => k69_mk W2 x l1 (g1 W2 hW) l2 (g2 W2 hW)
def rd_T69 (xs : List S69) (i : Int) : S69 := xs.getD i.toNat z69
end Go.Proofs.Ytagbnkbhobmgjaa.Fn
end
section
/- What allocations and draws leave as it was, found by instances. -/
set_option linter.unusedVariables false
namespace Go.Proofs.Ytagbnkbhobmgjaa.Fn
open Go.RowKit Go.Proofs.YtagbnkbhobmgjaaW.PrintWords Go.Proofs.YtagbnkbhobmgjaaW.PrintLast Go.Proofs.YtagbnkbhobmgjaaW.PrintMore
/-- The second world comes of the first by allocations and draws. -/
class Up (w w' : World) : Prop where
  out : Below w.heap.size w w'
instance upRefl (w : World) : Up w w := ⟨Below.refl _ _⟩
instance upAlloc (w w' : World) (o : Obj) [h : Up w w'] : Up w (w'.alloc o) := ⟨below_alloc h.out o⟩
instance upDrewN (w w' : World) (n : Nat) [h : Up w w'] : Up w (w'.drewN n) := ⟨pw_below_drewN h.out n⟩
instance upDrew (w w' : World) [h : Up w w'] : Up w w'.drew := ⟨below_drew h.out⟩
theorem vup {α : Type} {d : Kd α} {e base : Nat} {w w' : World} {ok : Nat → Prop} {v : Value} {xs : List α} (hv : Kd.V d e w base ok v xs) [h : Up w w'] : Kd.V d e w' base ok v xs := Kd.V_below hv h.out
theorem rup {α : Type} {d : Kd α} {e base : Nat} {w w' : World} {ok : Nat → Prop} {v : Value} {xs : List α} (hv : Kd.R d e w base ok v xs) [h : Up w w'] : Kd.R d e w' base ok v xs := Kd.R_below hv h.out
theorem bup {w0 w w' : World} (hb : Below w0.heap.size w0 w) [h : Up w w'] : Below w0.heap.size w0 w' := below_step hb h.out
theorem kup {w w' : World} {g : Nat} {o : Obj} (hk : w.heap[g]? = some o) [h : Up w w'] : w'.heap[g]? = some o := blk_below hk h.out
/-- What has run, what has not. -/
def tf (a b : Nat) : Array Bool := (List.replicate a true ++ List.replicate b false).toArray
theorem kF {w w' : World} {g k_ : Nat} {o : Obj} (hk : Aside0 (w.heap[g]? = some o)) [h : Up w w'] (hn : w'.heap.size ≤ k_) : k_ ≠ g := Kd.freshB (kup hk.out) k_ hn
theorem kL {w w' : World} {g : Nat} {o : Obj} (hk : Aside0 (w.heap[g]? = some o)) [h : Up w w'] : g < w'.heap.size := blk_lt (kup hk.out)
theorem bset {w W : World} {g j : Nat} {v : Value} (h : Below w.heap.size w W) (hg : Aside0 (w.heap.size ≤ g)) : Below w.heap.size w (W.setCell ⟨g, j, none⟩ v) := below_set h hg.out
/-! One step of a call, for each kind of thing that is kept in mind. -/
section
variable {α : Type} {d : Kd α} {e base : Nat} {w w' w'' : World} {ok : Nat → Prop} {v : Value} {xs : List α}
theorem kA {g : Nat} {o : Obj} (hk : Aside0 (w.heap[g]? = some o)) [h : Up w w'] (hb : Below w'.heap.size w' w'') : Aside0 (w''.heap[g]? = some o) := ⟨blk_below (kup hk.out) hb⟩
theorem vA (hv : Aside0 (Kd.V d e w base ok v xs)) [h : Up w w'] (hb : Below w'.heap.size w' w'') : Aside0 (Kd.V d e w'' base ok v xs) := ⟨Kd.V_below (vup hv.out) hb⟩
theorem rA (hv : Aside0 (Kd.R d e w base ok v xs)) [h : Up w w'] (hb : Below w'.heap.size w' w'') : Aside0 (Kd.R d e w'' base ok v xs) := ⟨Kd.R_below (rup hv.out) hb⟩
theorem vE (hv : Aside0 (Kd.V d e w base ok v xs)) [h : Up w w'] {g : Nat} (hg : g = w'.heap.size) (hb : Below w'.heap.size w' w'') : Aside0 (Kd.V d e w'' base (fun k => ok k ∧ k ≠ g) v xs) := ⟨Kd.V_below (Kd.V_elderB (vup hv.out) g (Nat.le_of_eq hg.symm)) hb⟩
theorem v2 {α0 α1 : Type} {d0 : Kd α0} {d1 : Kd α1} {e0 e1 : Nat} {ok0 ok1 : Nat → Prop} {u0 u1 : Value} {y0 : List α0} {y1 : List α1} (hv : Aside0 (Kd.V d e w base ok v xs)) [h : Up w w'] (hb : Below w'.heap.size w' w'') (h0 : Kd.R d0 e0 w'' w'.heap.size ok0 u0 y0) (h1 : Kd.R d1 e1 w'' w'.heap.size ok1 u1 y1) : Aside0 (Kd.V d e w'' base (fun k => (ok k ∧ some k ≠ u0.ownBlock) ∧ some k ≠ u1.ownBlock) v xs) :=
  ⟨Kd.V_mono (Kd.V_told (Kd.V_told (Kd.V_old (vup hv.out) hb) (Kd.R_base h0)) (Kd.R_base h1)) (fun _ h_ => h_.1)⟩
theorem r2 {α0 α1 : Type} {d0 : Kd α0} {d1 : Kd α1} {e0 e1 : Nat} {ok0 ok1 : Nat → Prop} {u0 u1 : Value} {y0 : List α0} {y1 : List α1} (hv : Aside0 (Kd.R d e w base ok v xs)) [h : Up w w'] (hb : Below w'.heap.size w' w'') (h0 : Kd.R d0 e0 w'' w'.heap.size ok0 u0 y0) (h1 : Kd.R d1 e1 w'' w'.heap.size ok1 u1 y1) : Aside0 (Kd.R d e w'' base (fun k => (ok k ∧ some k ≠ u0.ownBlock) ∧ some k ≠ u1.ownBlock) v xs) :=
  ⟨Kd.R_mono (Kd.R_told (Kd.R_told (Kd.R_old (rup hv.out) hb) (Kd.R_base h0)) (Kd.R_base h1)) (fun _ h_ => h_.1)⟩
theorem bA {w0 : World} (hv : Aside0 (Below w0.heap.size w0 w)) [h : Up w w'] (hb : Below w'.heap.size w' w'') : Aside0 (Below w0.heap.size w0 w'') := ⟨below_step (bup hv.out) hb⟩
end
/-! Words for the steps of the walks. -/
theorem bi {α β : Type} {o : Option α} {f : α → Option β} {r : β} (h : o.bind f = some r) : ∃ t, Aside0 (o = some t) ∧ f t = some r := by
  obtain ⟨t, a, b⟩ := Option.bind_eq_some_iff.mp h
  exact ⟨t, ⟨a⟩, b⟩
theorem ifT {α : Type} {c : Prop} [Decidable c] {a b o : α} (H : (if c then a else b) = o) (hc : c := by first | rfl | trivial) : a = o := by rw [if_pos hc] at H; exact H
theorem iS {α : Type} {c : Prop} [Decidable c] {a b : Option α} {r : α} (H : (if c then a else b) = some r) (hn : b = some r → False := by simp) : c ∧ a = some r := by
  by_cases h : c
  · rw [if_pos h] at H; exact ⟨h, H⟩
  · rw [if_neg h] at H; exact absurd H hn
theorem iN {α : Type} {c : Prop} [Decidable c] {a b : Option α} {r : α} (H : (if c then a else b) = some r) (hn : a = some r → False := by simp) : ¬ c ∧ b = some r := by
  by_cases h : c
  · rw [if_pos h] at H; exact absurd H hn
  · rw [if_neg h] at H; exact ⟨h, H⟩
theorem bqT {α : Type} [BEq α] [LawfulBEq α] {a b : α} (h : a = b) : (a == b) = true ∧ (a != b) = false := ⟨beq_iff_eq.mpr h, bne_eq_false_iff_eq.mpr h⟩
theorem bqF {α : Type} [BEq α] [LawfulBEq α] {a b : α} (h : ¬ a = b) : (a == b) = false ∧ (a != b) = true := ⟨beq_eq_false_iff_ne.mpr h, bne_iff_ne.mpr h⟩
section
variable {P : Program} {ops : Array Oper} {rest : List Oper} {o : Oper} {a : Act} {Q : Exit → Act → World → Prop} {W w : World}
theorem gc (f : FuncId) {ar : Array Operand} {ts : Array TypeId} (_ho : o.op = .call { callee := .value (.func f), args := ar, argTypes := ts }) (h : wpList P ops Q (o :: rest) a W) : wpList P ops Q (o :: rest) a W := h
theorem gd (N : Tmp) (_hN : o.dst = some N) (h : wpList P ops Q (o :: rest) a W) : wpList P ops Q (o :: rest) a W := h
theorem gL (n : Nat) {f : FuncId} {fn : Func} {ar : Array Operand} {ts : Array TypeId} (hf : P.funcs[f]? = some fn) (args : Array Value)
    (h : Calls P f args w fun e w' => ∃ v, e = .returned v ∧ wpList P ops Q rest (a.put (some n) v) w')
    (hd : o.dst = some n := by exact rfl) (hg : o.guard = none := by exact rfl) (hname : (fn.name == "runtime.NumGoroutine") = false := by kernel_rfl) (hb : fn.body.isSome = true := by exact rfl)
    (hop : o.op = .call { callee := .value (.func f), args := ar, argTypes := ts } := by exact rfl)
    (hargs : ar.map a.eval = args := by ((try simp only [List.map_toArray, List.map_cons, List.map_nil]); first | done | rfl | (simp only [List.length_drop, List.length_take]; rfl))) : wpList P ops Q (o :: rest) a w :=
  goesL_ (some n) hd hg hf hname hb args hop hargs h
theorem gS {N : Option Tmp} {K : Act → World → Prop} {f : FuncId} {fn : Func} {ar : Array Operand} {ts : Array TypeId} (hf : P.funcs[f]? = some fn) (args : Array Value)
    (h : Calls P f args w fun e w' => ∃ v, e = .returned v ∧ K (a.put N v) w')
    (hname : (fn.name == "runtime.NumGoroutine") = false := by kernel_rfl) (hb : fn.body.isSome = true := by exact rfl)
    (hw : Region.wanted o (yielded ops a.tmps) = true := by rfl) (hN : o.dst = N := by exact rfl) (hop : o.op = .call { callee := .value (.func f), args := ar, argTypes := ts } := by exact rfl)
    (hargs : ar.map a.eval = args := by ((try simp only [List.map_toArray, List.map_cons, List.map_nil]); first | done | rfl | (simp only [List.length_drop, List.length_take]; rfl))) : if Region.wanted o (yielded ops a.tmps) = true then Oper.wp P o a w K Q else K (a.put N undef) w :=
  goes_ hf hname hb args hw hN hop hargs h
theorem bx (N : Tmp) (cs : Array Value)
    (h : ∀ g, g = W.heap.size → ∀ w1, w1.heap[g]? = some (.cells cs 69 (0, 0)) → Below W.heap.size W w1 → wpList P ops Q rest (a.put o.dst (.pointer (some ⟨g, 0, none⟩))) w1)
    (hgd : o.guard = none := by rfl) (hd : o.dst = some N := by rfl)
    (hrun : (execOp a.eval o).run P W = .ok (.value (.pointer (some ⟨W.heap.size, 0, none⟩))) (W.alloc (.cells cs 69 (0, 0))) := by first | (go_simp; done) | (go_simp; rfl)) : wpList P ops Q (o :: rest) a W :=
  box_event hgd hd hrun h
end
section
variable {w w' w'' : World} {g h : Nat} {o : Obj}
theorem gB {w0 : World} (hg : g = w'.heap.size) (HB : Aside0 (Below w0.heap.size w0 w)) [u : Up w w'] : Aside0 (w0.heap.size ≤ g) := ⟨by rw [hg]; exact below_size (bup HB.out)⟩
theorem nL (hg : h = w'.heap.size) (hk : Aside0 (w.heap[g]? = some o)) [u : Up w w'] : Aside0 (g ≠ h) := ⟨by rw [hg]; exact Nat.ne_of_lt (kL hk)⟩
theorem nR (hg : h = w'.heap.size) (hk : Aside0 (w.heap[g]? = some o)) [u : Up w w'] : Aside0 (h ≠ g) := ⟨by rw [hg]; exact Nat.ne_of_gt (kL hk)⟩
theorem gw {k : Nat} {w0 : World} (hs : k < w0.heap.size) (hG : Aside0 (w0.heap.size ≤ g)) : k ≠ g := fun e => Nat.not_le.2 hs (by rw [e]; exact hG.out)
/-- The three cells of a box. -/
abbrev B3 (w : World) (g : Nat) (x y z : Value) : Prop := w.cell? ⟨g, 0, none⟩ = some x ∧ w.cell? ⟨g, 1, none⟩ = some y ∧ w.cell? ⟨g, 2, none⟩ = some z
theorem b3 {x y z : Value} {t : TypeId} (hk : Aside0 (w.heap[g]? = some (.cells #[x, y, z] t (0, 0)))) : B3 w g x y z := ⟨(blk_cell hk.out 0).trans rfl, (blk_cell hk.out 1).trans rfl, (blk_cell hk.out 2).trans rfl⟩
theorem F3 {h : Nat} {x y z x' y' z' : Value} (b : B3 w h x y z) (n : Aside0 (h ≠ g)) : B3 (((w.setCell ⟨g, 0, none⟩ x').setCell ⟨g, 1, none⟩ y').setCell ⟨g, 2, none⟩ z') h x y z :=
  have k : ∀ i, (((w.setCell ⟨g, 0, none⟩ x').setCell ⟨g, 1, none⟩ y').setCell ⟨g, 2, none⟩ z').cell? ⟨h, i, none⟩ = w.cell? ⟨h, i, none⟩ := fun i => (cell_far (p := ⟨g, 2, none⟩) n.out _).trans ((cell_far (p := ⟨g, 1, none⟩) n.out _).trans (cell_far (p := ⟨g, 0, none⟩) n.out _))
  ⟨(k 0).trans b.1, (k 1).trans b.2.1, (k 2).trans b.2.2⟩
theorem f3 {x y z : Value} {t : TypeId} (hk : Aside0 (w.heap[g]? = some (.cells #[x, y, z] t (0, 0)))) : w.frozen? ⟨g, 0, none⟩ = false ∧ w.frozen? ⟨g, 1, none⟩ = false ∧ w.frozen? ⟨g, 2, none⟩ = false := ⟨blk_frozen hk.out 0, blk_frozen hk.out 1, blk_frozen hk.out 2⟩
theorem cE {x y z : Value} {t : TypeId} (hk : Aside0 (w.heap[g]? = some (.cells #[x, y, z] t (0, 0)))) : (w.cell? ⟨g, 0, none⟩ = some x ∧ w.cell? ⟨g, 1, none⟩ = some y ∧ w.cell? ⟨g, 2, none⟩ = some z) ∧ w.frozen? ⟨g, 0, none⟩ = false ∧ w.frozen? ⟨g, 1, none⟩ = false ∧ w.frozen? ⟨g, 2, none⟩ = false := ⟨b3 hk, f3 hk⟩
theorem e0 {x : Value} {cs : List Value} {t : TypeId} (hk : Aside0 (w.heap[g]? = some (.cells (x :: cs).toArray t (0, 0)))) : w.cell? ⟨g, 0, none⟩ = some x ∧ w.frozen? ⟨g, 0, none⟩ = false := ⟨(blk_cell hk.out 0).trans rfl, blk_frozen hk.out 0⟩
theorem e1 {x y : Value} {cs : List Value} {t : TypeId} (hk : Aside0 (w.heap[g]? = some (.cells (x :: y :: cs).toArray t (0, 0)))) : w.cell? ⟨g, 1, none⟩ = some y ∧ w.frozen? ⟨g, 1, none⟩ = false := ⟨(blk_cell hk.out 1).trans rfl, blk_frozen hk.out 1⟩
theorem e2 {x y z : Value} {cs : List Value} {t : TypeId} (hk : Aside0 (w.heap[g]? = some (.cells (x :: y :: z :: cs).toArray t (0, 0)))) : w.cell? ⟨g, 2, none⟩ = some z ∧ w.frozen? ⟨g, 2, none⟩ = false := ⟨(blk_cell hk.out 2).trans rfl, blk_frozen hk.out 2⟩
theorem kd (hk : Aside0 (w.heap[g]? = some o)) : Aside0 (w.drew.heap[g]? = some o) := ⟨blk_drew hk.out⟩
theorem bd {w0 : World} (hv : Aside0 (Below w0.heap.size w0 w)) : Aside0 (Below w0.heap.size w0 w.drew) := ⟨below_drew1 hv.out⟩
/-- A box written whole: its own cells, another's cells, what lies elsewhere. -/
theorem p3 {x y z x' y' z' : Value} {t : TypeId} (hk : Aside0 (w.heap[g]? = some (.cells #[x, y, z] t (0, 0)))) : Aside0 ((((w.setCell ⟨g, 0, none⟩ x').setCell ⟨g, 1, none⟩ y').setCell ⟨g, 2, none⟩ z').heap[g]? = some (.cells #[x', y', z'] t (0, 0))) :=
  ⟨blk_put (cs := #[x', y', z]) (blk_put (cs := #[x', y, z]) (blk_put (cs := #[x, y, z]) hk.out 0 _ rfl) 1 _ rfl) 2 _ rfl⟩
theorem q3 {x' y' z' : Value} {t : TypeId} {cs : Array Value} (hk : Aside0 (w.heap[h]? = some (.cells cs t (0, 0)))) (hn : Aside0 (h ≠ g)) : Aside0 ((((w.setCell ⟨g, 0, none⟩ x').setCell ⟨g, 1, none⟩ y').setCell ⟨g, 2, none⟩ z').heap[h]? = some (.cells cs t (0, 0))) :=
  ⟨blk_far (blk_far (blk_far hk.out hn.out _) hn.out _) hn.out _⟩
end
section
variable {α : Type} {d : Kd α} {e base : Nat} {w w' w'' : World} {ok : Nat → Prop} {v : Value} {xs : List α}
theorem vd (hv : Aside0 (Kd.V d e w base ok v xs)) : Aside0 (Kd.V d e w.drew base ok v xs) := ⟨Kd.V_drew hv.out⟩
theorem lw {w0 w1 : World} (_ : Aside0 (Below w0.heap.size w0 w1)) (ok' : Nat → Prop) (hv : Kd.V d e w base ok v xs) (F : ∀ k, ok k → ok' k) : Aside0 (Kd.V d e w w0.heap.size ok' v xs) := ⟨Kd.V_mono hv F⟩
theorem v3 {g : Nat} {x' y' z' : Value} (hv : Aside0 (Kd.V d e w base ok v xs)) (hok : ∀ k, ok k → k ≠ g) : Aside0 (Kd.V d e (((w.setCell ⟨g, 0, none⟩ x').setCell ⟨g, 1, none⟩ y').setCell ⟨g, 2, none⟩ z') base ok v xs) :=
  ⟨Kd.V_far (p := ⟨g, 2, none⟩) (Kd.V_far (p := ⟨g, 1, none⟩) (Kd.V_far (p := ⟨g, 0, none⟩) hv.out hok _) hok _) hok _⟩
theorem v3p {g : Nat} {x' y' z' : Value} (hv : Aside0 (Kd.V d e w base ok v xs)) (hok : ∀ k, ok k → k ≠ g) : Aside0 (Kd.V d e (((w.setCell ⟨g, 0, none⟩ x').setCell ⟨g, 1, none⟩ y').setCell ⟨g, 2, none⟩ z') base (fun k => ok k ∧ k ≠ g) v xs) :=
  ⟨Kd.V_mono (v3 hv hok).out (fun k h => ⟨h, hok k h⟩)⟩
end
section
variable {P : Program} {ops : Array Oper} {Q : Exit → Act → World → Prop} {md : Region.Mode} {S : World → Prop} {ds : List Nat}
theorem st (n : Nat) (ds : List Nat) (l : Array Bool) {id : Nat} {a : Act} {w : World} {S : World → Prop} (hS : S w.drew) (h : S w.drew → wpAnyLast P .any ops Q S ds n l a w.drew)
    (hm : P.follows .mixedOrders = true := by kernel_rfl) (hn : ops.size = n := by exact rfl) (hl : Array.replicate n false = l := by exact rfl) : (Code.region id ops true).wp P Q a w := start_ l hm hn hl hS h
theorem tk (i n : Nat) (l' : Array Bool) {oi : Oper} {v : Value} {fuel : Nat} {l : Array Bool} {a a' : Act} {w : World} (hS : S w) (h : wpAnyLast P md ops Q S ds fuel l' a' w)
    (hi : ops[i]? = some oi := by exact rfl) (hN : oi.dst = some n := by exact rfl) (hc : takeB md ops ds l l' i = true := by first | exact take_ofW HT_.out HW_.out (by kernel_rfl) | kernel_rfl)
    (hQ : ∀ c a w, Q (.panic c) (a.put oi.dst v) w → Q (.panic c) a w := by exact fun _ _ _ h => h)
    (hw : Region.wanted oi (yielded ops a.tmps) = true := by rfl) (hy : ∀ w, S w → (execOp a.eval oi).run P w = .ok (.value v) w := by (intro w' s; go_simp; with_reducible rfl))
    (ha : a.put (some n) v = a' := by (simp only [Act.put, List.setIfInBounds_toArray, List.set_cons_zero, List.set_cons_succ, i64_w, i32_w]; rfl)) :
    wpAnyLast P md ops Q S ds (fuel + 1) l a w := take_ l' hi hN hc hQ (Or.inl ⟨hw, hy⟩) hS ha h
theorem pu (i n : Nat) (l' : Array Bool) {oi : Oper} {v : Value} {fuel : Nat} {l : Array Bool} {a a' : Act} {w : World} (h : wpAnyLast P md ops Q S ds fuel l' a' w)
    (hi : ops[i]? = some oi := by exact rfl) (hN : oi.dst = some n := by exact rfl) (hc : anyB md ops l l' i = true := by first | exact any_of HT_.out (by kernel_rfl) | kernel_rfl)
    (hQ : ∀ c a w, Q (.panic c) (a.put oi.dst v) w → Q (.panic c) a w := by exact fun _ _ _ h => h)
    (hw : Region.wanted oi (yielded ops a.tmps) = true := by rfl) (hy : ∀ w, (execOp a.eval oi).run P w = .ok (.value v) w := by (intro w'; go_simp; with_reducible rfl))
    (ha : a.put (some n) v = a' := by (simp only [Act.put, List.setIfInBounds_toArray, List.set_cons_zero, List.set_cons_succ, i64_w, i32_w]; rfl)) :
    wpAnyLast P md ops Q S ds (fuel + 1) l a w := pure_ l' hi hN hc hQ (Or.inl ⟨hw, hy⟩) ha h
theorem on (i : Nat) (N : Option Tmp) (l' : Array Bool) {oi : Oper} {fuel : Nat} {l : Array Bool} {a : Act} {w : World}
    (h : ∀ K : Act → World → Prop, Shut (∀ a' w', S w' → (S w' → wpAnyLast P md ops Q S ds fuel l' a' w') → K a' w') → if Region.wanted oi (yielded ops a.tmps) = true then Oper.wp P oi a w K Q else K (a.put N undef) w)
    (hi : ops[i]? = some oi := by exact rfl) (hN : oi.dst = N := by exact rfl) (hc : readyB md ops l l' i = true := by first | exact one_of HT_.out (by kernel_rfl) | kernel_rfl) (hd : i ∉ ds := by decide) :
    wpAnyLast P md ops Q S ds (fuel + 1) l a w := one_ l' hi hN hc hd h
theorem la (i : Nat) (N : Option Tmp) (l' : Array Bool) {oi : Oper} {fuel : Nat} {l : Array Bool} {a : Act} {w : World}
    (h : ∀ K : Act → World → Prop, Shut (∀ a' w', wpAnyLast P md ops Q S ds fuel l' a' w' → K a' w') → if Region.wanted oi (yielded ops a.tmps) = true then Oper.wp P oi a w K Q else K (a.put N undef) w)
    (hi : ops[i]? = some oi := by exact rfl) (hN : oi.dst = N := by exact rfl) (hc : readyB md ops l l' i = true := by first | exact one_of HT_.out (by kernel_rfl) | kernel_rfl) (hd : i ∈ ds := by decide) :
    wpAnyLast P md ops Q S ds (fuel + 1) l a w := last_ l' hi hN hc hd h
theorem nm {fuel : Nat} {l : Array Bool} {a a' : Act} {w : World} (h : wpAnyLast P md ops Q S ds fuel l a' w)
    (ha : a = a' := by ((show Act.put _ (some _) _ = _); simp only [Act.put, List.setIfInBounds_toArray, List.set_cons_zero, List.set_cons_succ, i64_w, i32_w]; rfl)) : wpAnyLast P md ops Q S ds fuel l a w := norm_ ha h
theorem sk {oi : Oper} {a : Act} {w w1 : World} {K : Act → World → Prop} (h : K a w1) (hw : Region.wanted oi (yielded ops a.tmps) = true := by rfl) (hN : oi.dst = none := by exact rfl)
    (hrun : (execOp a.eval oi).run P w = .ok .skip w1 := by (go_simp; rfl)) : if Region.wanted oi (yielded ops a.tmps) = true then Oper.wp P oi a w K Q else K (a.put none undef) w := skip_ hw hN hrun h
end
theorem er {p : Prop} (h : p := by first | rfl | (simp [errW_none, errW_some] <;> rfl) | (simp [*, errW_none, errW_some] <;> rfl)) : p := h
section
variable {w w' w'' w0 : World} {g h : Nat} {o : Obj}
theorem kB {S : World} (hk : Aside0 (S.heap[g]? = some o)) (hb : Below w'.heap.size w' w'') (h : Below S.heap.size S w' := by with_reducible repeat first | exact Below.refl _ _ | apply below_alloc | apply pw_below_drewN | apply below_drew1) : Aside0 (w''.heap[g]? = some o) := ⟨blk_below (blk_below hk.out h) hb⟩
theorem kH {S : World} {k_ : Nat} (hk : Aside0 (S.heap[g]? = some o)) (hn : w'.heap.size ≤ k_) (h : Below S.heap.size S w' := by with_reducible repeat first | exact Below.refl _ _ | apply below_alloc | apply pw_below_drewN | apply below_drew1) : k_ ≠ g := Kd.freshB (blk_below hk.out h) k_ hn
theorem kU {S : World} (hk : Aside0 (S.heap[g]? = some o)) (h : Below S.heap.size S w' := by with_reducible repeat first | exact Below.refl _ _ | apply below_alloc | apply pw_below_drewN | apply below_drew1) : w'.heap[g]? = some o := blk_below hk.out h
theorem kW {S : World} (hw : w'' = w') (hk : Aside0 (S.heap[g]? = some o)) (h : Below S.heap.size S w' := by with_reducible repeat first | exact Below.refl _ _ | apply below_alloc | apply pw_below_drewN | apply below_drew1) : Aside0 (w''.heap[g]? = some o) := ⟨by rw [hw]; exact blk_below hk.out h⟩
theorem bS (HB : Aside0 (Below w0.heap.size w0 w)) (hb : Below w'.heap.size w' w'') (h : Below w0.heap.size w0 w' := by repeat first | exact bup HB.out | refine bset ?_ (by assumption) | apply below_alloc | apply pw_below_drewN | apply below_drew1) : Aside0 (Below w0.heap.size w0 w'') := ⟨below_step h hb⟩
theorem bW (HB : Aside0 (Below w0.heap.size w0 w)) (hw : w'' = w') (h : Below w0.heap.size w0 w' := by repeat first | exact bup HB.out | refine bset ?_ (by assumption) | apply below_alloc | apply pw_below_drewN | apply below_drew1) : Aside0 (Below w0.heap.size w0 w'') := ⟨by rw [hw]; exact h⟩
theorem gS' (hg : g = w'.heap.size) (HB : Aside0 (Below w0.heap.size w0 w)) (h : Below w0.heap.size w0 w' := by repeat first | exact bup HB.out | refine bset ?_ (by assumption) | apply below_alloc | apply pw_below_drewN | apply below_drew1) : Aside0 (w0.heap.size ≤ g) := ⟨by rw [hg]; exact below_size h⟩
variable {α : Type} {d : Kd α} {e base : Nat} {ok : Nat → Prop} {v : Value} {xs : List α}
theorem vW {S : World} (hw : w'' = w') (ok' : Nat → Prop) (hv : Aside0 (Kd.V d e S base ok v xs)) (F : ∀ k, ok k → ok' k) (h : Below S.heap.size S w' := by with_reducible repeat first | exact Below.refl _ _ | apply below_alloc | apply pw_below_drewN | apply below_drew1) : Aside0 (Kd.V d e w'' base ok' v xs) := ⟨by rw [hw]; exact Kd.V_mono (Kd.V_below hv.out h) F⟩
theorem vF {S : World} (hb : Below w'.heap.size w' w'') {ok' : Nat → Prop} (hv : Aside0 (Kd.V d e S base ok v xs)) (F : ∀ k, ok k → ok' k) (h : Below S.heap.size S w' := by with_reducible repeat first | exact Below.refl _ _ | apply below_alloc | apply pw_below_drewN | apply below_drew1) : Aside0 (Kd.V d e w'' base ok' v xs) := ⟨Kd.V_mono (Kd.V_below (Kd.V_below hv.out h) hb) F⟩
theorem vG {S : World} {ok' : Nat → Prop} (hv : Aside0 (Kd.V d e S base ok v xs)) (F : ∀ k, ok k → ok' k) (h : Below S.heap.size S w' := by with_reducible repeat first | exact Below.refl _ _ | apply below_alloc | apply pw_below_drewN | apply below_drew1) : Kd.V d e w' base ok' v xs := Kd.V_mono (Kd.V_below hv.out h) F
theorem rF {S : World} (hb : Below w'.heap.size w' w'') {ok' : Nat → Prop} (hv : Aside0 (Kd.R d e S base ok v xs)) (F : ∀ k, ok k → ok' k) (h : Below S.heap.size S w' := by with_reducible repeat first | exact Below.refl _ _ | apply below_alloc | apply pw_below_drewN | apply below_drew1) : Aside0 (Kd.R d e w'' base ok' v xs) := ⟨Kd.R_mono (Kd.R_below (Kd.R_below hv.out h) hb) F⟩
theorem rG {S : World} {ok' : Nat → Prop} (hv : Aside0 (Kd.R d e S base ok v xs)) (F : ∀ k, ok k → ok' k) (h : Below S.heap.size S w' := by with_reducible repeat first | exact Below.refl _ _ | apply below_alloc | apply pw_below_drewN | apply below_drew1) : Kd.R d e w' base ok' v xs := Kd.R_mono (Kd.R_below hv.out h) F
theorem r3t {x' y' z' : Value} {t : Nat} {cells : Array Value} (hv : Aside0 (Kd.R d e w base ok v xs)) (hk : Aside0 (w.heap[g]? = some (.cells cells t (0, 0)))) (ht : ∀ q, q ∈ e :: d.E → q ≠ t := by decide) : Aside0 (Kd.R d e (((w.setCell ⟨g, 0, none⟩ x').setCell ⟨g, 1, none⟩ y').setCell ⟨g, 2, none⟩ z') base (fun k => ok k ∧ k ≠ g) v xs) :=
  ⟨Kd.R_far (p := ⟨g, 2, none⟩) (Kd.R_far (p := ⟨g, 1, none⟩) (Kd.R_far (p := ⟨g, 0, none⟩) (Kd.R_types hv.out hk.out ht) (fun _ h => h.2) _) (fun _ h => h.2) _) (fun _ h => h.2) _⟩
theorem cup {A : Option Addr} {n : Nat} (h : d.C w A n xs) [u : Up w w'] : d.C w' A n xs := Kd.C_below h u.out
end
theorem hB {p : Prop} (h : p := by repeat first | exact bup HB.out | refine bset ?_ (by assumption) | apply below_alloc | apply pw_below_drewN | apply below_drew1) : p := h
theorem asm {p : Prop} (h : p := by first | (with_reducible assumption) | assumption) : p := h
theorem hK0 {p : Prop} (h : p := by repeat (first | (with_reducible first | exact HK.out | apply Kept.alloc | apply Kept.drewN | apply Kept.drew) | exact HK.out)) : p := h
theorem hK1 {p : Prop} (h : p := by repeat (first | (with_reducible first | exact HK.out | apply Kept.alloc | apply Kept.drewN | apply Kept.drew | refine Kept.setCell ?_ (.inr GW101.out) _) | exact HK.out)) : p := h
theorem rS {p : Prop} (h : p := by first | rfl | (simp; done) | (simp [*]; done)) : p := h
theorem nil5 {p : Prop} (h : p := by first | exact Kd.R_nil _ _ _ _ _ | exact Kd.N_nil _ _ _ _ _ | exact Kd.V_nil _ _ _ _ _ | exact Kd.Q_nil _ _ _ _ _ | exact Kd.S_nil _ _ _ _ _) : p := h
theorem hk1 {p : Prop} (h : p := by have := HK1.out; first | omega | exact Nat.le_refl _) : p := h
end Go.Proofs.Ytagbnkbhobmgjaa.Fn
end
section
/- More words for the walks of the great laws. -/
set_option linter.unusedVariables false
namespace Go.Proofs.Ytagbnkbhobmgjaa.Fn
open Go.RowKit Go.Proofs.YtagbnkbhobmgjaaW.PrintWords Go.Proofs.YtagbnkbhobmgjaaW.PrintLast Go.Proofs.YtagbnkbhobmgjaaW.PrintMore
end Go.Proofs.Ytagbnkbhobmgjaa.Fn
end
section
namespace Go.Proofs.Ytagbnkbhobmgjaa.Fn
open Go.RowKit Go.Proofs.YtagbnkbhobmgjaaW.PrintWords Go.Proofs.YtagbnkbhobmgjaaW.PrintLast Go.Proofs.YtagbnkbhobmgjaaW.PrintMore
attribute [local go_sem] max2_int min2_int max_two min_two max_three min_three max_four min_four   -- for this text's walks alone
set_option linter.unusedVariables false
set_option linter.unusedSimpArgs false
def flyballref01_Len.l0 : Nat → List Bool → Int → Option (Int)
 | 0, _, _ => none
 | k + 1, x0, x3 => if x3 > 0 then (if 0 ≤ (wrap64 (x3 - 1)) then (if (wrap64 (x3 - 1)) < (x0.length : Int) then (if (rdOf false x0 (wrap64 (x3 - 1)) = true) then (some x3) else (flyballref01_Len.l0 k x0 (wrap64 (x3 - 1)))) else (none)) else (none)) else (some x3)
def flyballref01_Len.f (k : Nat) (l0 : List Bool) : Option (Int) := flyballref01_Len.l0 k l0 (l0.length : Int)
set_option maxHeartbeats 8000000 in
set_option maxRecDepth 100000 in
theorem flyballref01_Len.calls (k : Nat) (A0 : Option Addr) (c0 : Nat) (l0 : List Bool) (r : Int) (w : World) (hr0 : Kd.C Kd.bool w A0 l0.length l0) (hc0 : l0.length ≤ c0) (H : flyballref01_Len.f k l0 = some r) :
  Calls Try.prog 53 #[.slice A0 l0.length c0] w fun e w' => e = .returned (.int .i64 r) ∧ Drawn0 w w' := by
 have HR0 := Aside0.mk hr0
 have HC0 := Aside0.mk hc0
 clear hr0 hc0
 unfold flyballref01_Len.f at H
 have H' := Aside0.mk H
 clear H
 go_enter Try.func53, Try.ntmps53
 go_wp2
 go_loopg [3] k (fun kq v3 w' => ∃ (x3_1 : Int), v3 = .int .i64 x3_1 ∧ Aside0 (flyballref01_Len.l0 kq l0 x3_1 = some r) ∧ Aside0 (kq ≤ k) ∧ Drawn0 w w')
 case atStart => exact ⟨((l0.length : Int)), rS, H', ⟨Nat.le_refl _⟩, by repeat (first | exact Drawn0.refl _ | apply Drawn0.step)⟩
 case round =>
  clear H'
  obtain ⟨x3_1, rfl, HA, HK1, ⟨m1, rfl⟩⟩ := hrel
  cases gk with
  | zero => exact absurd HA.out (by simp [flyballref01_Len.l0])
  | succ k1 =>
   have H := HA.out
   clear HA
   simp only [flyballref01_Len.l0] at H
   by_cases c2 : x3_1 > 0
   rotate_left
   ·rw [if_neg c2] at H
    have c2b0 : decide (0 < x3_1) = false := decide_eq_false c2
    clear c2
    obtain rfl := Option.some.inj H
    go_wp2
    go_ret
    exact ⟨rS, by repeat (first | exact Drawn0.refl _ | apply Drawn0.step)⟩
   rw [if_pos c2] at H
   have c2b0 : decide (0 < x3_1) = true := decide_eq_true c2
   clear c2
   obtain ⟨ji3, hji3⟩ : ∃ j_ : Int, (wrap64 (x3_1 - 1)) = j_ := ⟨_, rfl⟩
   replace H : (if 0 ≤ (ji3) then (if (ji3) < (l0.length : Int) then (if (rdOf false l0 (ji3) = true) then (some x3_1) else (flyballref01_Len.l0 k1 l0 ji3)) else (none)) else (none)) = some r := by first | (rw [hji3] at H; exact H) | (simp only [hji3] at H ⊢; exact H)
   have hji3w : (IntKind.i64.wrap (x3_1 - 1)) = ji3 := (i64_w _).trans hji3
   replace H := iS H
   obtain ⟨c4, H⟩ := H
   have c4b0 : decide (0 ≤ (ji3)) = true := decide_eq_true c4
   clear c4
   replace H := iS H
   obtain ⟨c5, H⟩ := H
   have c5b0 : decide ((ji3) < (l0.length : Int)) = true := decide_eq_true c5
   clear c5
   obtain ⟨bq6, hbq6⟩ : ∃ b_ : Bool, b_ = (rdOf false l0 (ji3)) := ⟨_, rfl⟩
   replace H : (if (bq6 = true) then (some x3_1) else (flyballref01_Len.l0 k1 l0 ji3)) = some r := by rw [← hbq6] at H; exact H
   have Nbq6 := Aside0.mk hbq6
   clear hbq6
   by_cases c7 : (bq6 = true)
   ·subst c7
    replace H := ifT H
    obtain rfl := Option.some.inj H
    have p101 : 0 ≤ ((ji3) : Int) := of_decide_eq_true asm
    have q101 : (ji3) < (l0.length : Int) := of_decide_eq_true asm
    obtain ⟨ad101, e101, hx101_0⟩ := Kd.at_bool HR0.out (ji3) p101 q101
    (try rw [← Nbq6.out] at hx101_0)
    cases e101
    replace p101 := eq_true p101
    replace q101 := eq_true q101
    go_wp2
    go_ret
    exact ⟨by first | rfl | (simp; done) | (simp only [← hji3] <;> (first | rfl | simp)) | (simp [*]; done), by repeat (first | exact Drawn0.refl _ | apply Drawn0.step)⟩
   ·replace c7 := Bool.eq_false_iff.mpr c7
    subst c7
    have H1 : (flyballref01_Len.l0 k1 l0 ji3) = some r := by rw [if_neg (show ¬ (false = true) by decide)] at H; exact H
    clear H
    have H := H1
    clear H1
    have H' := Aside0.mk H
    clear H
    have p101 : 0 ≤ ((ji3) : Int) := of_decide_eq_true asm
    have q101 : (ji3) < (l0.length : Int) := of_decide_eq_true asm
    obtain ⟨ad101, e101, hx101_0⟩ := Kd.at_bool HR0.out (ji3) p101 q101
    (try rw [← Nbq6.out] at hx101_0)
    cases e101
    replace p101 := eq_true p101
    replace q101 := eq_true q101
    go_wp2
    go_roundg k1
    case measure => have := HK1.out; omega
    case rel => exact ⟨(ji3), (by first | rfl | (simp; done) | (simp only [← hji3] <;> (first | rfl | simp)) | (simp [*]; done)), H', ⟨hk1⟩, by repeat (first | exact Drawn0.refl _ | apply Drawn0.step)⟩
mutual
def flyballref02_Bits.l0 : Nat → List Int → List Bool → Int → Option (List Bool)
 | 0, _, _, _ => none
 | k + 1, x0, x3, x4 => if x4 < (x0.length : Int) then (flyballref02_Bits.l1 k x0 x3 x4 0) else ((flyballref01_Len.f k x3).bind fun t101 => (if 0 ≤ t101 then (if t101 ≤ (x3.length : Int) then (some (x3.take (t101 : Int).toNat)) else (none)) else (none)))
def flyballref02_Bits.l1 : Nat → List Int → List Bool → Int → Int → Option (List Bool)
 | 0, _, _, _, _ => none
 | k + 1, x0, x3, x4, x5 => if x5 < 32 then (if 0 ≤ x4 then (if x4 < (x0.length : Int) then (if 0 ≤ (IntKind.u64.wrap (x5)) then (if x3.length < 140737488355328 then (flyballref02_Bits.l1 k x0 (x3 ++ [((Go.bits .and .u32 (shr .u32 (rd x0 x4) (IntKind.u64.wrap (x5))) 1) == 1)]) x4 (wrap64 (x5 + 1))) else (none)) else (none)) else (none)) else (none)) else (flyballref02_Bits.l0 k x0 x3 (wrap64 (x4 + 1)))
end
def flyballref02_Bits.f (k : Nat) (l0 : List Int) : Option (List Bool) := flyballref02_Bits.l0 k l0 ([] : List Bool) 0
set_option maxHeartbeats 8000000 in
set_option maxRecDepth 100000 in
theorem flyballref02_Bits.calls (k : Nat) (A0 : Option Addr) (c0 : Nat) (l0 : List Int) (r : List Bool) (w : World) (hr0 : Kd.C (Kd.int .u32) w A0 l0.length l0) (hc0 : l0.length ≤ c0) (H : flyballref02_Bits.f k l0 = some r) :
  Calls Try.prog 25 #[.slice A0 l0.length c0] w fun e w' => ∃ v0_ : Value, e = .returned (v0_) ∧ Kd.R Kd.bool 4 w' w.heap.size (fun _ => True) v0_ r ∧ Below w.heap.size w w' := by
 have HR0 := Aside0.mk hr0
 have HC0 := Aside0.mk hc0
 clear hr0 hc0
 have HB := Aside0.mk (Below.refl w.heap.size w)
 unfold flyballref02_Bits.f at H
 have H' := Aside0.mk H
 clear H
 go_enter Try.func25, Try.ntmps25
 go_wp2
 go_loopg [3, 4] k (fun kq v3 v4 w' => ∃ (x3_1 : List Bool) (x4_1 : Int), v4 = .int .i64 x4_1 ∧ Aside0 (flyballref02_Bits.l0 kq l0 x3_1 x4_1 = some r) ∧ Aside0 (kq ≤ k) ∧ Aside0 (Kd.R Kd.bool 4 w' w.heap.size (fun _ => True) v3 x3_1) ∧ Aside0 (Below w.heap.size w w'))
 case atStart => exact ⟨(([] : List Bool)), (0), rS, H', ⟨Nat.le_refl _⟩, ⟨nil5⟩, ⟨bup HB.out⟩⟩
 case round =>
  clear H'
  obtain ⟨x3_1, x4_1, rfl, HA, HK1, HO_3, HB⟩ := hrel
  cases gk with
  | zero => exact absurd HA.out (by simp [flyballref02_Bits.l0])
  | succ k1 =>
   have H := HA.out
   clear HA
   simp only [flyballref02_Bits.l0] at H
   by_cases c2 : x4_1 < (l0.length : Int)
   rotate_left
   ·rw [if_neg c2] at H
    have c2b0 : decide (x4_1 < (l0.length : Int)) = false := decide_eq_false c2
    clear c2
    replace H := bi H
    obtain ⟨t101, A11, H⟩ := H
    replace H := iS H
    obtain ⟨c12, H⟩ := H
    have c12b0 := eq_true c12
    have c12b1 : decide (0 ≤ t101) = true := decide_eq_true c12
    clear c12
    replace H := iS H
    obtain ⟨c13, H⟩ := H
    have c13b0 := eq_true c13
    have c13b1 : decide (t101 ≤ (x3_1.length : Int)) = true := decide_eq_true c13
    clear c13
    obtain ⟨y102, hy102⟩ : ∃ y_ : List Bool, y_ = (x3_1.take (t101 : Int).toNat) := ⟨_, rfl⟩
    replace H : (some y102) = some r := by first | (rw [hy102]; with_reducible exact H) | (have H2_ := (Option.bind_some _ _).symm.trans H; rw [hy102]; with_reducible exact H2_) | (have H2_ := (Option.bind_some _ _).symm.trans H; with_reducible exact H2_) | with_reducible exact H | (rw [hy102]; exact H) | exact H
    have Ny102 := Aside0.mk hy102
    clear hy102
    obtain rfl := Option.some.inj H
    obtain ⟨Ao14, co14, eo14⟩ := Kd.R_slice HO_3.out
    subst eo14
    go_wp2_with (first | ((with_reducible refine gc 53 rfl ?_); refine gL 30 Try.func53 #[.slice Ao14 x3_1.length co14] ?_; (with_reducible refine (flyballref01_Len.calls k1 _ _ x3_1 t101 _ ?_ ?_ A11.out).mono ?_); exact cup ((Kd.R_reads' HO_3.out).2.2); exact (Kd.R_reads' HO_3.out).2.1; rintro e w' ⟨rfl, ⟨nd, rfl⟩⟩; refine ⟨_, rfl, ?_⟩; have q15 : (t101 : Int) ≤ ((x3_1.length : Int) : Int) := of_decide_eq_true asm; obtain ⟨i015, hi015, _, hsz15, _⟩ := info_parts info4; have hcut15 := cut_to (P := Try.prog) 26 4 .i64 Try.underlying26 hi015 Ao14 x3_1.length co14 t101 (of_decide_eq_true asm) q15 (Kd.R_reads' HO_3.out).2.1; have hr15 := Kd.R_take (m := (t101 : Int).toNat) HO_3.out (by omega); have hy15 : y102.length = (t101 : Int).toNat := (by rw [Ny102.out, List.length_take]; omega); rw [← Ny102.out] at hr15; rw [← hy15] at hr15 hcut15; clear hy15 hi015 hsz15 HO_3; have HO104 := Aside0.mk hr15; clear hr15; replace q15 := eq_true q15))
    go_ret
    exact ⟨_, er, rup HO104.out, bup HB.out⟩
   rw [if_pos c2] at H
   have c2b0 : decide (x4_1 < (l0.length : Int)) = true := decide_eq_true c2
   clear c2
   have H' := Aside0.mk H
   clear H
   go_wp2
   go_loopg [3, 5] k1 (fun kq v3 v5 w' => ∃ (x3_2 : List Bool) (x5_2 : Int), v5 = .int .i64 x5_2 ∧ Aside0 (flyballref02_Bits.l1 kq l0 x3_2 x4_1 x5_2 = some r) ∧ Aside0 (kq ≤ k1) ∧ Aside0 (Kd.R Kd.bool 4 w' w.heap.size (fun _ => True) v3 x3_2) ∧ Aside0 (Below w.heap.size w w'))
   case atStart => exact ⟨(x3_1), (0), rS, H', ⟨Nat.le_refl _⟩, ⟨rup HO_3.out⟩, ⟨bup HB.out⟩⟩
   case round =>
    clear H'
    try clear c2
    try clear c2b0
    try clear p2
    obtain ⟨x3_2, x5_2, rfl, HA, HK2, HO_3, HB⟩ := hrel
    cases gk with
    | zero => exact absurd HA.out (by simp [flyballref02_Bits.l1])
    | succ k2 =>
     have H := HA.out
     clear HA
     simp only [flyballref02_Bits.l1] at H
     by_cases c3 : x5_2 < 32
     rotate_left
     ·rw [if_neg c3] at H
      have c3b0 : decide (x5_2 < 32) = false := decide_eq_false c3
      clear c3
      have H' := Aside0.mk H
      clear H
      go_wp2
      go_roundg k2
      case measure => have := HK1.out; have := HK2.out; omega
      case rel => exact ⟨(x3_2), (wrap64 (x4_1 + 1)), rS, H', ⟨by have := HK1.out; have := HK2.out; omega⟩, ⟨rup HO_3.out⟩, ⟨bup HB.out⟩⟩
     rw [if_pos c3] at H
     have c3b0 : decide (x5_2 < 32) = true := decide_eq_true c3
     clear c3
     replace H := iS H
     obtain ⟨c4, H⟩ := H
     have c4b0 : decide (0 ≤ x4_1) = true := decide_eq_true c4
     clear c4
     replace H := iS H
     obtain ⟨c5, H⟩ := H
     have c5b0 : decide (x4_1 < (l0.length : Int)) = true := decide_eq_true c5
     clear c5
     obtain ⟨ji6, hji6⟩ : ∃ j_ : Int, (IntKind.u64.wrap (x5_2)) = j_ := ⟨_, rfl⟩
     replace H : (if 0 ≤ (ji6) then (if x3_2.length < 140737488355328 then (flyballref02_Bits.l1 k2 l0 (x3_2 ++ [((Go.bits .and .u32 (shr .u32 (rd l0 x4_1) (ji6)) 1) == 1)]) x4_1 (wrap64 (x5_2 + 1))) else (none)) else (none)) = some r := by first | (rw [hji6] at H; exact H) | (simp only [hji6] at H ⊢; exact H)
     replace H := iS H
     obtain ⟨c7, H⟩ := H
     have c7b0 := eq_true c7
     have c7b1 : decide (0 ≤ (ji6)) = true := decide_eq_true c7
     clear c7
     obtain ⟨ji8, hji8⟩ : ∃ j_ : Int, (shr .u32 (rd l0 x4_1) (ji6)) = j_ := ⟨_, rfl⟩
     replace H : (if x3_2.length < 140737488355328 then (flyballref02_Bits.l1 k2 l0 (x3_2 ++ [((Go.bits .and .u32 (ji8) 1) == 1)]) x4_1 (wrap64 (x5_2 + 1))) else (none)) = some r := by first | (rw [hji8] at H; exact H) | (simp only [hji8] at H ⊢; exact H)
     have hji8_ : ((rd l0 x4_1) / 2 ^ min (ji6).toNat 32) = ji8 := hji8
     have hji8z : (ji6) ≤ 32 → ((rd l0 x4_1) / 2 ^ (ji6).toNat) = ji8 := shr_small hji8
     replace H := iS H
     obtain ⟨c9, H⟩ := H
     have LMc9 := Aside0.mk c9
     clear c9
     obtain ⟨y106, hy106⟩ : ∃ y_ : List Bool, y_ = (x3_2 ++ [((Go.bits .and .u32 (ji8) 1) == 1)]) := ⟨_, rfl⟩
     replace H : (flyballref02_Bits.l1 k2 l0 y106 x4_1 (wrap64 (x5_2 + 1))) = some r := by first | (rw [hy106]; with_reducible exact H) | (have H2_ := (Option.bind_some _ _).symm.trans H; rw [hy106]; with_reducible exact H2_) | (have H2_ := (Option.bind_some _ _).symm.trans H; with_reducible exact H2_) | with_reducible exact H | (rw [hy106]; exact H) | exact H
     have Ny106 := Aside0.mk hy106
     clear hy106
     have H' := Aside0.mk H
     clear H
     have p105 : 0 ≤ (x4_1 : Int) := of_decide_eq_true asm
     have q105 : x4_1 < (l0.length : Int) := of_decide_eq_true asm
     obtain ⟨ad105, e105, hx105_0⟩ := Kd.at_int HR0.out x4_1 p105 q105
     cases e105
     replace hx105_0 := (HB.out.cell (World.block_lt_of_cell? w _ hx105_0)).trans hx105_0
     replace p105 := eq_true p105
     replace q105 := eq_true q105
     go_wp2_with (first | ((with_reducible refine gate_builtin (b := .append) (xs := #[.tmp 16, .tmp 26]) rfl ?_); at_builtin; refine Kd.R_append Kd.bool (w0 := w) w.heap.size rfl (.tmp 16) (.tmp 26) 26 4 (.bool false) 1 rfl Try.underlying26 info4 rfl (by decide) (by omega) u3 x3_2 ((Go.bits .and .u32 (ji8) 1) == 1) [.bool ((Go.bits .and .u32 (ji8) 1) == 1)] (fun _ => True) (fun _ => False) rfl rfl ?aP (fun _ hk => hk.elim) ?aF ?aO ?aB ?aS ?aL ?_; (case aP => exact rfl); (case aB => exact (bup HB.out)); (case aF => exact (fun _ _ => trivial)); (case aO => exact (rup HO_3.out)); (case aS => exact (below_size (bup HB.out))); (case aL => have := LMc9.out; omega); intro v107 w10 ho hb hg hat; rw [← Ny106.out] at ho; replace HB := Aside0.mk (hb); have HO108 := Aside0.mk (ho); clear HO_3; clear ho hb hg hat))
     go_roundg k2
     case measure => have := HK1.out; have := HK2.out; omega
     case rel => exact ⟨(y106), (wrap64 (x5_2 + 1)), rS, H', ⟨by have := HK1.out; have := HK2.out; omega⟩, ⟨rup HO108.out⟩, ⟨bup HB.out⟩⟩
def flyballref01_Shl.l0 : Nat → List Bool → Int → List Bool → Int → Option (List Bool)
 | 0, _, _, _, _ => none
 | k + 1, x0, x1, x5, x6 => if x6 < x1 then (if x5.length < 140737488355328 then (flyballref01_Shl.l0 k x0 x1 (x5 ++ [false]) (wrap64 (x6 + 1))) else (none)) else (if x5.length + x0.length < 140737488355328 then (some (x5 ++ x0)) else (none))
def flyballref01_Shl.f (k : Nat) (l0 : List Bool) (a1 : Int) : Option (List Bool) := flyballref01_Shl.l0 k l0 a1 ([] : List Bool) 0
set_option maxHeartbeats 8000000 in
set_option maxRecDepth 100000 in
theorem flyballref01_Shl.calls (k : Nat) (A0 : Option Addr) (c0 : Nat) (l0 : List Bool) (a1 : Int) (r : List Bool) (w : World) (hr0 : Kd.C Kd.bool w A0 l0.length l0) (hc0 : l0.length ≤ c0) (H : flyballref01_Shl.f k l0 a1 = some r) :
  Calls Try.prog 45 #[.slice A0 l0.length c0, .int .i64 a1] w fun e w' => ∃ v0_ : Value, e = .returned (v0_) ∧ Kd.R Kd.bool 4 w' w.heap.size (fun _ => True) v0_ r ∧ Below w.heap.size w w' := by
 have HR0 := Aside0.mk hr0
 have HC0 := Aside0.mk hc0
 clear hr0 hc0
 have HB := Aside0.mk (Below.refl w.heap.size w)
 unfold flyballref01_Shl.f at H
 have H' := Aside0.mk H
 clear H
 go_enter Try.func45, Try.ntmps45
 go_wp2
 go_loopg [5, 6] k (fun kq v5 v6 w' => ∃ (x5_1 : List Bool) (x6_1 : Int), v6 = .int .i64 x6_1 ∧ Aside0 (flyballref01_Shl.l0 kq l0 a1 x5_1 x6_1 = some r) ∧ Aside0 (kq ≤ k) ∧ Aside0 (Kd.R Kd.bool 4 w' w.heap.size (fun _ => True) v5 x5_1) ∧ Aside0 (Below w.heap.size w w'))
 case atStart => exact ⟨(([] : List Bool)), (0), rS, H', ⟨Nat.le_refl _⟩, ⟨nil5⟩, ⟨bup HB.out⟩⟩
 case round =>
  clear H'
  try clear p2
  obtain ⟨x5_1, x6_1, rfl, HA, HK1, HO_5, HB⟩ := hrel
  cases gk with
  | zero => exact absurd HA.out (by simp [flyballref01_Shl.l0])
  | succ k1 =>
   have H := HA.out
   clear HA
   simp only [flyballref01_Shl.l0] at H
   by_cases c3 : x6_1 < a1
   rotate_left
   ·rw [if_neg c3] at H
    have c3b0 : decide (x6_1 < a1) = false := decide_eq_false c3
    clear c3
    replace H := iS H
    obtain ⟨c6, H⟩ := H
    have LMc6 := Aside0.mk c6
    clear c6
    obtain ⟨y104, hy104⟩ : ∃ y_ : List Bool, y_ = (x5_1 ++ l0) := ⟨_, rfl⟩
    replace H : (some y104) = some r := by first | (rw [hy104]; with_reducible exact H) | (have H2_ := (Option.bind_some _ _).symm.trans H; rw [hy104]; with_reducible exact H2_) | (have H2_ := (Option.bind_some _ _).symm.trans H; with_reducible exact H2_) | with_reducible exact H | (rw [hy104]; exact H) | exact H
    have Ny104 := Aside0.mk hy104
    clear hy104
    obtain rfl := Option.some.inj H
    go_wp2_with (first | ((with_reducible refine gate_builtin (b := .append) (xs := #[.tmp 15, .tmp 16]) rfl ?_); at_builtin; refine Kd.R_append_rows Kd.bool (w0 := w) w.heap.size rfl (.tmp 15) (.tmp 16) 26 4 (.bool false) 1 rfl Try.underlying26 info4 rfl (by decide) (by omega) u5 x5_1 l0 _ _ _ (fun _ => True) (fun _ => False) rfl rfl ?aO ?aR (fun _ _ h => h) (fun _ h => h.elim) ?aF ?aB ?aS ?aL ?_; (case aR => repeat (first | exact (Kd.C_below HR0.out HB.out) | (with_reducible refine Kd.C_alloc ?_ _) | (with_reducible refine Kd.C_drewN ?_ _) | (with_reducible refine Kd.C_drew ?_))); (case aB => exact (bup HB.out)); (case aF => exact (fun _ _ => trivial)); (case aO => exact (rup HO_5.out)); (case aS => exact (below_size (bup HB.out))); (case aL => have := LMc6.out; omega); intro v105 w7 ho hb hg hat; rw [← Ny104.out] at ho; replace HB := Aside0.mk (hb); have HO106 := Aside0.mk (ho); clear HO_5; clear ho hb hg hat))
    go_ret
    exact ⟨_, er, rup HO106.out, bup HB.out⟩
   rw [if_pos c3] at H
   have c3b0 : decide (x6_1 < a1) = true := decide_eq_true c3
   clear c3
   replace H := iS H
   obtain ⟨c4, H⟩ := H
   have LMc4 := Aside0.mk c4
   clear c4
   obtain ⟨y101, hy101⟩ : ∃ y_ : List Bool, y_ = (x5_1 ++ [false]) := ⟨_, rfl⟩
   replace H : (flyballref01_Shl.l0 k1 l0 a1 y101 (wrap64 (x6_1 + 1))) = some r := by first | (rw [hy101]; with_reducible exact H) | (have H2_ := (Option.bind_some _ _).symm.trans H; rw [hy101]; with_reducible exact H2_) | (have H2_ := (Option.bind_some _ _).symm.trans H; with_reducible exact H2_) | with_reducible exact H | (rw [hy101]; exact H) | exact H
   have Ny101 := Aside0.mk hy101
   clear hy101
   have H' := Aside0.mk H
   clear H
   go_wp2_with (first | ((with_reducible refine gate_builtin (b := .append) (xs := #[.tmp 12, .tmp 13]) rfl ?_); at_builtin; refine Kd.R_append Kd.bool (w0 := w) w.heap.size rfl (.tmp 12) (.tmp 13) 26 4 (.bool false) 1 rfl Try.underlying26 info4 rfl (by decide) (by omega) u5 x5_1 false [.bool false] (fun _ => True) (fun _ => False) rfl rfl ?aP (fun _ hk => hk.elim) ?aF ?aO ?aB ?aS ?aL ?_; (case aP => exact rfl); (case aB => exact (bup HB.out)); (case aF => exact (fun _ _ => trivial)); (case aO => exact (rup HO_5.out)); (case aS => exact (below_size (bup HB.out))); (case aL => have := LMc4.out; omega); intro v102 w5 ho hb hg hat; rw [← Ny101.out] at ho; replace HB := Aside0.mk (hb); have HO103 := Aside0.mk (ho); clear HO_5; clear ho hb hg hat))
   go_roundg k1
   case measure => have := HK1.out; omega
   case rel => exact ⟨(y101), (wrap64 (x6_1 + 1)), rS, H', ⟨hk1⟩, ⟨rup HO103.out⟩, ⟨bup HB.out⟩⟩
mutual
def flyballref01_Of.l0 : Nat → List Int → List Bool → Int → Option (List Bool)
 | 0, _, _, _ => none
 | k + 1, x0, x3, x4 => if x4 < (x0.length : Int) then (flyballref01_Of.l1 k x0 x3 x4 0) else (some x3)
def flyballref01_Of.l1 : Nat → List Int → List Bool → Int → Int → Option (List Bool)
 | 0, _, _, _, _ => none
 | k + 1, x0, x3, x4, x5 => if x5 < 64 then (if 0 ≤ x4 then (if x4 < (x0.length : Int) then (if 0 ≤ (IntKind.u64.wrap (x5)) then (if x3.length < 140737488355328 then (flyballref01_Of.l1 k x0 (x3 ++ [((Go.bits .and .u64 (shr .u64 (rd x0 x4) (IntKind.u64.wrap (x5))) 1) == 1)]) x4 (wrap64 (x5 + 1))) else (none)) else (none)) else (none)) else (none)) else (flyballref01_Of.l0 k x0 x3 (wrap64 (x4 + 1)))
end
def flyballref01_Of.f (k : Nat) (l0 : List Int) : Option (List Bool) := flyballref01_Of.l0 k l0 ([] : List Bool) 0
set_option maxHeartbeats 8000000 in
set_option maxRecDepth 100000 in
theorem flyballref01_Of.calls (k : Nat) (A0 : Option Addr) (c0 : Nat) (l0 : List Int) (r : List Bool) (w : World) (hr0 : Kd.C (Kd.int .u64) w A0 l0.length l0) (hc0 : l0.length ≤ c0) (H : flyballref01_Of.f k l0 = some r) :
  Calls Try.prog 51 #[.slice A0 l0.length c0] w fun e w' => ∃ v0_ : Value, e = .returned (v0_) ∧ Kd.R Kd.bool 4 w' w.heap.size (fun _ => True) v0_ r ∧ Below w.heap.size w w' := by
 have HR0 := Aside0.mk hr0
 have HC0 := Aside0.mk hc0
 clear hr0 hc0
 have HB := Aside0.mk (Below.refl w.heap.size w)
 unfold flyballref01_Of.f at H
 have H' := Aside0.mk H
 clear H
 go_enter Try.func51, Try.ntmps51
 go_wp2
 go_loopg [3, 4] k (fun kq v3 v4 w' => ∃ (x3_1 : List Bool) (x4_1 : Int), v4 = .int .i64 x4_1 ∧ Aside0 (flyballref01_Of.l0 kq l0 x3_1 x4_1 = some r) ∧ Aside0 (kq ≤ k) ∧ Aside0 (Kd.R Kd.bool 4 w' w.heap.size (fun _ => True) v3 x3_1) ∧ Aside0 (Below w.heap.size w w'))
 case atStart => exact ⟨(([] : List Bool)), (0), rS, H', ⟨Nat.le_refl _⟩, ⟨nil5⟩, ⟨bup HB.out⟩⟩
 case round =>
  clear H'
  obtain ⟨x3_1, x4_1, rfl, HA, HK1, HO_3, HB⟩ := hrel
  cases gk with
  | zero => exact absurd HA.out (by simp [flyballref01_Of.l0])
  | succ k1 =>
   have H := HA.out
   clear HA
   simp only [flyballref01_Of.l0] at H
   by_cases c2 : x4_1 < (l0.length : Int)
   rotate_left
   ·rw [if_neg c2] at H
    have c2b0 : decide (x4_1 < (l0.length : Int)) = false := decide_eq_false c2
    clear c2
    obtain rfl := Option.some.inj H
    go_wp2
    go_ret
    exact ⟨_, er, rup HO_3.out, bup HB.out⟩
   rw [if_pos c2] at H
   have c2b0 : decide (x4_1 < (l0.length : Int)) = true := decide_eq_true c2
   clear c2
   have H' := Aside0.mk H
   clear H
   go_wp2
   go_loopg [3, 5] k1 (fun kq v3 v5 w' => ∃ (x3_2 : List Bool) (x5_2 : Int), v5 = .int .i64 x5_2 ∧ Aside0 (flyballref01_Of.l1 kq l0 x3_2 x4_1 x5_2 = some r) ∧ Aside0 (kq ≤ k1) ∧ Aside0 (Kd.R Kd.bool 4 w' w.heap.size (fun _ => True) v3 x3_2) ∧ Aside0 (Below w.heap.size w w'))
   case atStart => exact ⟨(x3_1), (0), rS, H', ⟨Nat.le_refl _⟩, ⟨rup HO_3.out⟩, ⟨bup HB.out⟩⟩
   case round =>
    clear H'
    try clear c2
    try clear c2b0
    try clear p2
    obtain ⟨x3_2, x5_2, rfl, HA, HK2, HO_3, HB⟩ := hrel
    cases gk with
    | zero => exact absurd HA.out (by simp [flyballref01_Of.l1])
    | succ k2 =>
     have H := HA.out
     clear HA
     simp only [flyballref01_Of.l1] at H
     by_cases c3 : x5_2 < 64
     rotate_left
     ·rw [if_neg c3] at H
      have c3b0 : decide (x5_2 < 64) = false := decide_eq_false c3
      clear c3
      have H' := Aside0.mk H
      clear H
      go_wp2
      go_roundg k2
      case measure => have := HK1.out; have := HK2.out; omega
      case rel => exact ⟨(x3_2), (wrap64 (x4_1 + 1)), rS, H', ⟨by have := HK1.out; have := HK2.out; omega⟩, ⟨rup HO_3.out⟩, ⟨bup HB.out⟩⟩
     rw [if_pos c3] at H
     have c3b0 : decide (x5_2 < 64) = true := decide_eq_true c3
     clear c3
     replace H := iS H
     obtain ⟨c4, H⟩ := H
     have c4b0 : decide (0 ≤ x4_1) = true := decide_eq_true c4
     clear c4
     replace H := iS H
     obtain ⟨c5, H⟩ := H
     have c5b0 : decide (x4_1 < (l0.length : Int)) = true := decide_eq_true c5
     clear c5
     obtain ⟨ji6, hji6⟩ : ∃ j_ : Int, (IntKind.u64.wrap (x5_2)) = j_ := ⟨_, rfl⟩
     replace H : (if 0 ≤ (ji6) then (if x3_2.length < 140737488355328 then (flyballref01_Of.l1 k2 l0 (x3_2 ++ [((Go.bits .and .u64 (shr .u64 (rd l0 x4_1) (ji6)) 1) == 1)]) x4_1 (wrap64 (x5_2 + 1))) else (none)) else (none)) = some r := by first | (rw [hji6] at H; exact H) | (simp only [hji6] at H ⊢; exact H)
     replace H := iS H
     obtain ⟨c7, H⟩ := H
     have c7b0 := eq_true c7
     have c7b1 : decide (0 ≤ (ji6)) = true := decide_eq_true c7
     clear c7
     obtain ⟨ji8, hji8⟩ : ∃ j_ : Int, (shr .u64 (rd l0 x4_1) (ji6)) = j_ := ⟨_, rfl⟩
     replace H : (if x3_2.length < 140737488355328 then (flyballref01_Of.l1 k2 l0 (x3_2 ++ [((Go.bits .and .u64 (ji8) 1) == 1)]) x4_1 (wrap64 (x5_2 + 1))) else (none)) = some r := by first | (rw [hji8] at H; exact H) | (simp only [hji8] at H ⊢; exact H)
     have hji8_ : ((rd l0 x4_1) / 2 ^ min (ji6).toNat 64) = ji8 := hji8
     have hji8z : (ji6) ≤ 64 → ((rd l0 x4_1) / 2 ^ (ji6).toNat) = ji8 := shr_small hji8
     replace H := iS H
     obtain ⟨c9, H⟩ := H
     have LMc9 := Aside0.mk c9
     clear c9
     obtain ⟨y102, hy102⟩ : ∃ y_ : List Bool, y_ = (x3_2 ++ [((Go.bits .and .u64 (ji8) 1) == 1)]) := ⟨_, rfl⟩
     replace H : (flyballref01_Of.l1 k2 l0 y102 x4_1 (wrap64 (x5_2 + 1))) = some r := by first | (rw [hy102]; with_reducible exact H) | (have H2_ := (Option.bind_some _ _).symm.trans H; rw [hy102]; with_reducible exact H2_) | (have H2_ := (Option.bind_some _ _).symm.trans H; with_reducible exact H2_) | with_reducible exact H | (rw [hy102]; exact H) | exact H
     have Ny102 := Aside0.mk hy102
     clear hy102
     have H' := Aside0.mk H
     clear H
     have p101 : 0 ≤ (x4_1 : Int) := of_decide_eq_true asm
     have q101 : x4_1 < (l0.length : Int) := of_decide_eq_true asm
     obtain ⟨ad101, e101, hx101_0⟩ := Kd.at_int HR0.out x4_1 p101 q101
     cases e101
     replace hx101_0 := (HB.out.cell (World.block_lt_of_cell? w _ hx101_0)).trans hx101_0
     replace p101 := eq_true p101
     replace q101 := eq_true q101
     go_wp2_with (first | ((with_reducible refine gate_builtin (b := .append) (xs := #[.tmp 16, .tmp 26]) rfl ?_); at_builtin; refine Kd.R_append Kd.bool (w0 := w) w.heap.size rfl (.tmp 16) (.tmp 26) 26 4 (.bool false) 1 rfl Try.underlying26 info4 rfl (by decide) (by omega) u3 x3_2 ((Go.bits .and .u64 (ji8) 1) == 1) [.bool ((Go.bits .and .u64 (ji8) 1) == 1)] (fun _ => True) (fun _ => False) rfl rfl ?aP (fun _ hk => hk.elim) ?aF ?aO ?aB ?aS ?aL ?_; (case aP => exact rfl); (case aB => exact (bup HB.out)); (case aF => exact (fun _ _ => trivial)); (case aO => exact (rup HO_3.out)); (case aS => exact (below_size (bup HB.out))); (case aL => have := LMc9.out; omega); intro v103 w10 ho hb hg hat; rw [← Ny102.out] at ho; replace HB := Aside0.mk (hb); have HO104 := Aside0.mk (ho); clear HO_3; clear ho hb hg hat))
     go_roundg k2
     case measure => have := HK1.out; have := HK2.out; omega
     case rel => exact ⟨(y102), (wrap64 (x5_2 + 1)), rS, H', ⟨by have := HK1.out; have := HK2.out; omega⟩, ⟨rup HO104.out⟩, ⟨bup HB.out⟩⟩
def nat_trim.l0 : Nat → List Int → Option (List Int)
 | 0, _ => none
 | k + 1, x0 => if (x0.length : Int) > 0 then (if 0 ≤ (wrap64 ((x0.length : Int) - 1)) then (if (wrap64 ((x0.length : Int) - 1)) < (x0.length : Int) then (if (rd x0 (wrap64 ((x0.length : Int) - 1))) = 0 then (if (wrap64 ((x0.length : Int) - 1)) ≤ (x0.length : Int) then (nat_trim.l0 k (x0.take ((wrap64 ((x0.length : Int) - 1)) : Int).toNat)) else (none)) else (some x0)) else (none)) else (none)) else (some x0)
def nat_trim.f (k : Nat) (l0 : List Int) : Option (List Int) := nat_trim.l0 k l0
theorem nat_trim.mono_l : ∀ k, (∀ y0, LeO (nat_trim.l0 k y0) (nat_trim.l0 (k + 1) y0))
 | 0 => fun _ r h => by simp [nat_trim.l0] at h
 | k + 1 => by
  have ih0 := nat_trim.mono_l k
  ·intro y0
   unfold nat_trim.l0
   repeat' with_reducible first | exact ih0 _ | exact LeO.refl _ | exact LeO.none _ | refine LeO.ite ?_ ?_ | refine LeO.bind ?_ (fun _ => ?_)
theorem nat_trim.mono : ∀ a0 k, LeO (nat_trim.f k a0) (nat_trim.f (k + 1) a0) := by
 intro a0 k
 have ih0 := nat_trim.mono_l k
 unfold nat_trim.f
 repeat' with_reducible first | exact ih0 _ | exact LeO.refl _ | exact LeO.none _ | refine LeO.ite ?_ ?_ | refine LeO.bind ?_ (fun _ => ?_)
set_option maxHeartbeats 8000000 in
set_option maxRecDepth 100000 in
theorem nat_trim.calls (k : Nat) (P0_ : Nat → Prop) (A0 : Option Addr) (c0 : Nat) (l0 : List Int) (r : List Int) (w : World) (hs0 : Kd.V (Kd.int .u32) 118 w w.heap.size (fun k_ => P0_ k_) (.slice A0 l0.length c0) l0) (H : nat_trim.f k l0 = some r) :
  Calls Try.prog 109 #[.slice A0 l0.length c0] w fun e w' => ∃ v0_ : Value, e = .returned (v0_) ∧ Kd.V (Kd.int .u32) 118 w' w.heap.size (fun k_ => (P0_ k_ ∨ w.heap.size ≤ k_)) v0_ r ∧ Below w.heap.size w w' := by
 have HO0 := Aside0.mk (show Kd.V (Kd.int .u32) 118 w w.heap.size (fun k_ => (P0_ k_ ∨ w.heap.size ≤ k_)) (.slice A0 l0.length c0) l0 from Kd.V_mono hs0 (fun k_ hk => .inl hk))
 have HB := Aside0.mk (Below.refl w.heap.size w)
 unfold nat_trim.f at H
 have H' := Aside0.mk H
 clear H
 go_enter Try.func109, Try.ntmps109
 go_wp2
 go_loopg [0] k (fun kq v0 w' => ∃ (x0_1 : List Int), Aside0 (nat_trim.l0 kq x0_1 = some r) ∧ Aside0 (kq ≤ k) ∧ Aside0 (Kd.V (Kd.int .u32) 118 w' w.heap.size (fun k_ => (P0_ k_ ∨ w.heap.size ≤ k_)) v0 x0_1) ∧ Aside0 (Below w.heap.size w w'))
 case atStart => exact ⟨(l0), H', ⟨Nat.le_refl _⟩, ⟨vup HO0.out⟩, ⟨bup HB.out⟩⟩
 case round =>
  clear H'
  try clear c1
  obtain ⟨x0_1, HA, HK1, HO_0, HB⟩ := hrel
  cases gk with
  | zero => exact absurd HA.out (by simp [nat_trim.l0])
  | succ k1 =>
   have H := HA.out
   clear HA
   simp only [nat_trim.l0] at H
   by_cases c2 : (x0_1.length : Int) > 0
   rotate_left
   ·rw [if_neg c2] at H
    have c2b0 : decide (0 < (x0_1.length : Int)) = false := decide_eq_false c2
    have c2b1 : decide (0 < x0_1.length) = false := decide_eq_false (by omega)
    clear c2
    obtain rfl := Option.some.inj H
    obtain ⟨Ao12, co12, eo12⟩ := Kd.V_slice HO_0.out
    subst eo12
    go_wp2
    go_ret
    exact ⟨_, er, vup HO_0.out, bup HB.out⟩
   rw [if_pos c2] at H
   have c2b0 : decide (0 < (x0_1.length : Int)) = true := decide_eq_true c2
   have c2b1 : decide (0 < x0_1.length) = true := decide_eq_true (by omega)
   clear c2
   obtain ⟨ji3, hji3⟩ : ∃ j_ : Int, (wrap64 ((x0_1.length : Int) - 1)) = j_ := ⟨_, rfl⟩
   replace H : (if 0 ≤ (ji3) then (if (ji3) < (x0_1.length : Int) then (if (rd x0_1 (ji3)) = 0 then (if (ji3) ≤ (x0_1.length : Int) then (nat_trim.l0 k1 (x0_1.take ((ji3) : Int).toNat)) else (none)) else (some x0_1)) else (none)) else (none)) = some r := by first | (rw [hji3] at H; exact H) | (simp only [hji3] at H ⊢; exact H)
   have hji3w : (IntKind.i64.wrap ((x0_1.length : Int) - 1)) = ji3 := (i64_w _).trans hji3
   replace H := iS H
   obtain ⟨c4, H⟩ := H
   have c4b0 : decide (0 ≤ (ji3)) = true := decide_eq_true c4
   clear c4
   replace H := iS H
   obtain ⟨c5, H⟩ := H
   have c5b0 : decide ((ji3) < (x0_1.length : Int)) = true := decide_eq_true c5
   clear c5
   by_cases c6 : (rd x0_1 (ji3)) = 0
   rotate_left
   ·rw [if_neg c6] at H
    obtain ⟨c6b0, c6b1⟩ := bqF c6
    obtain rfl := Option.some.inj H
    obtain ⟨Ao11, co11, eo11⟩ := Kd.V_slice HO_0.out
    subst eo11
    have p101 : 0 ≤ ((ji3) : Int) := of_decide_eq_true asm
    have q101 : (ji3) < (x0_1.length : Int) := of_decide_eq_true asm
    obtain ⟨ad101, e101, hx101_0⟩ := Kd.at_int (Kd.V_reads' HO_0.out).2.2 (ji3) p101 q101
    cases e101
    replace p101 := eq_true p101
    replace q101 := eq_true q101
    go_wp2
    go_ret
    exact ⟨_, by first | rfl | (simp [errW_none, errW_some] <;> rfl) | (simp only [← hji3]; first | rfl | (simp [errW_none, errW_some] <;> rfl)) | (simp [*, errW_none, errW_some] <;> rfl), vup HO_0.out, bup HB.out⟩
   rw [if_pos c6] at H
   obtain ⟨c6b0, c6b1⟩ := bqT c6
   clear c6
   have c7b0 := eq_true (of_decide_eq_true asm : 0 ≤ (ji3))
   replace H := iS H
   obtain ⟨c8, H⟩ := H
   have c8b0 := eq_true c8
   have c8b1 : decide ((ji3) ≤ (x0_1.length : Int)) = true := decide_eq_true c8
   clear c8
   obtain ⟨y102, hy102⟩ : ∃ y_ : List Int, y_ = (x0_1.take ((ji3) : Int).toNat) := ⟨_, rfl⟩
   replace H : (nat_trim.l0 k1 y102) = some r := by first | (rw [hy102]; with_reducible exact H) | (have H2_ := (Option.bind_some _ _).symm.trans H; rw [hy102]; with_reducible exact H2_) | (have H2_ := (Option.bind_some _ _).symm.trans H; with_reducible exact H2_) | with_reducible exact H | (rw [hy102]; exact H) | exact H
   have Ny102 := Aside0.mk hy102
   clear hy102
   have H' := Aside0.mk H
   clear H
   obtain ⟨Ao9, co9, eo9⟩ := Kd.V_slice HO_0.out
   subst eo9
   have p101 : 0 ≤ ((ji3) : Int) := of_decide_eq_true asm
   have q101 : (ji3) < (x0_1.length : Int) := of_decide_eq_true asm
   obtain ⟨ad101, e101, hx101_0⟩ := Kd.at_int (Kd.V_reads' HO_0.out).2.2 (ji3) p101 q101
   cases e101
   replace p101 := eq_true p101
   replace q101 := eq_true q101
   have q10 : ((ji3) : Int) ≤ ((x0_1.length : Int) : Int) := of_decide_eq_true asm
   obtain ⟨i010, hi010, _, hsz10, _⟩ := info_parts info118
   have hroom10 : x0_1.length ≤ co9 := (Kd.V_reads' HO_0.out).2.1
   have hC10 : Kd.F (Kd.int .u32) _ _ (some ad101) x0_1.length x0_1 := (Kd.V_at (base := w.heap.size) HO_0.out).2.2
   have hcut10 := cut_to (P := Try.prog) 22 118 .i64 Try.underlying22 hi010 (some ad101) x0_1.length co9 (ji3) (of_decide_eq_true asm) q10 hroom10
   have hr10 := Kd.F_take (m := ((ji3) : Int).toNat) hC10 (by omega)
   have hy10 : y102.length = ((ji3) : Int).toNat := (by rw [Ny102.out, List.length_take]; omega)
   rw [← Ny102.out] at hr10
   rw [← hy10] at hcut10
   have HO106 := Aside0.mk (show Kd.V (Kd.int .u32) 118 _ w.heap.size _ (.slice (some ad101) y102.length co9) y102 from Kd.V_mk (by omega) hr10)
   have HC106 := Aside0.mk (show y102.length ≤ co9 from by omega)
   clear hr10 hC10 hroom10 hi010 hsz10
   have KY10 := Aside0.mk hy10
   clear hy10
   replace q10 := eq_true q10
   go_wp2
   go_roundg k1
   case measure => have := HK1.out; omega
   case rel => exact ⟨(y102), H', ⟨hk1⟩, ⟨vup HO106.out⟩, ⟨bup HB.out⟩⟩
def nat_New.f (k : Nat) (a0 : Int) : Option (List Int) := (nat_trim.f k (([(a0) % 4294967296, (a0 / 4294967296) % 4294967296] : List Int))).bind fun t104 => (some t104)
theorem nat_New.mono : ∀ a0 k, LeO (nat_New.f k a0) (nat_New.f (k + 1) a0) := by
 intro a0 k
 unfold nat_New.f
 repeat' with_reducible first | exact nat_trim.mono _ _ | exact LeO.refl _ | exact LeO.none _ | refine LeO.ite ?_ ?_ | refine LeO.bind ?_ (fun _ => ?_)
set_option maxHeartbeats 8000000 in
set_option maxRecDepth 100000 in
theorem nat_New.calls (k : Nat) (a0 : Int) (r : List Int) (w : World) (H : nat_New.f k a0 = some r) :
  Calls Try.prog 52 #[.int .u64 a0] w fun e w' => ∃ v0_ : Value, e = .returned (v0_) ∧ Kd.V (Kd.int .u32) 118 w' w.heap.size (fun k_ => (w.heap.size ≤ k_)) v0_ r ∧ Below w.heap.size w w' := by
 have HB := Aside0.mk (Below.refl w.heap.size w)
 unfold nat_New.f at H
 obtain ⟨y101, hy101⟩ : ∃ y_ : List Int, y_ = (([(a0) % 4294967296, (a0 / 4294967296) % 4294967296] : List Int)) := ⟨_, rfl⟩
 replace H : ((nat_trim.f k y101).bind fun t104 => (some t104)) = some r := by first | (rw [hy101]; with_reducible exact H) | (have H2_ := (Option.bind_some _ _).symm.trans H; rw [hy101]; with_reducible exact H2_) | (have H2_ := (Option.bind_some _ _).symm.trans H; with_reducible exact H2_) | with_reducible exact H | (rw [hy101]; exact H) | exact H
 have Ny101 := Aside0.mk hy101
 clear hy101
 replace H := bi H
 obtain ⟨t104, A2, H⟩ := H
 obtain rfl := Option.some.inj H
 go_enter Try.func52, Try.ntmps52
 go_wp2_with (first | ((with_reducible refine gd 8 rfl ?_); refine Kd.R_lit (Kd.int .u32) _ 118 ?hg (N := 8) ?hd (xs := ([(a0) % 4294967296, (a0 / 4294967296) % 4294967296] : List Int)) (inner := [.int .u32 ((a0) % 4294967296), .int .u32 ((a0 / 4294967296) % 4294967296)]) (ok := fun _ => True) (okp := fun _ => True) ?hr ?hp (fun _ hk => hk) trivial (Below.refl _ _) (Nat.le_refl _) (by simp) ?_; (case hd => rfl); (case hg => rfl); (case hr => first | (go_simp; done) | (go_simp; rfl)); (case hp => exact (Reps.one (show Kd.M (Kd.int .u32) _ _ _ ((a0) % 4294967296) [.int .u32 ((a0) % 4294967296)] from rfl) (Reps.one (show Kd.M (Kd.int .u32) _ _ _ ((a0 / 4294967296) % 4294967296) [.int .u32 ((a0 / 4294967296) % 4294967296)] from rfl) (Reps.none _ _)))); intro v102 w3 ho4 hb hg_ hnew_; clear hg_ hnew_; (first | rw [← Ny101.out] at ho4 | (simp only [Int.reduceToNat] at ho4; rw [← Ny101.out] at ho4)); have HO103 := Aside0.mk (Kd.R_lower (Kd.R_newM (M := fun k_ => (w.heap.size ≤ k_)) ho4 (below_size (bup HB.out)) (fun k_ h_ => h_)) (below_size (bup HB.out))); replace HB := bA HB hb; clear hb ho4; obtain ⟨Ao5, co5, eo5⟩ := Kd.R_slice HO103.out; subst eo5) | ((with_reducible refine gc 109 rfl ?_); refine gL 9 Try.func109 #[.slice Ao5 y101.length co5] ?_; (with_reducible refine (nat_trim.calls k (fun k_ => some k_ = (.slice Ao5 y101.length co5 : Value).ownBlock) _ _ y101 t104 _ ?_ A2.out).mono ?_); exact Kd.R_V (Kd.R_tight rfl (HO103.out)); rintro e w6 ⟨v105, rfl, ho0, hb⟩; refine ⟨_, rfl, ?_⟩; have HO106 := lw HB (fun k_ => (w.heap.size ≤ k_)) ho0 (fun k_ hk_ => Or.elim hk_ (fun hs_ => ((HO103.out).1 k_ hs_.symm).1) (fun hn_ => Nat.le_trans (below_size (bup HB.out)) hn_)); replace HO103 := rA HO103 hb; replace HB := bA HB hb; clear hb ho0))
 go_ret
 exact ⟨_, er, vup HO106.out, bup HB.out⟩
def nat_Nat_at.f (l0 : List Int) (a1 : Int) : Option (Int) := if a1 < (l0.length : Int) then (if 0 ≤ a1 then (some (IntKind.u64.wrap (rd l0 a1))) else (none)) else (some 0)
set_option maxHeartbeats 8000000 in
set_option maxRecDepth 100000 in
theorem nat_Nat_at.calls (A0 : Option Addr) (c0 : Nat) (l0 : List Int) (a1 : Int) (r : Int) (w : World) (hr0 : Kd.C (Kd.int .u32) w A0 l0.length l0) (hc0 : l0.length ≤ c0) (H : nat_Nat_at.f l0 a1 = some r) :
  Calls Try.prog 108 #[.slice A0 l0.length c0, .int .i64 a1] w fun e w' => e = .returned (.int .u64 r) ∧ Drawn0 w w' := by
 have HR0 := Aside0.mk hr0
 have HC0 := Aside0.mk hc0
 clear hr0 hc0
 unfold nat_Nat_at.f at H
 by_cases c3 : a1 < (l0.length : Int)
 rotate_left
 ·rw [if_neg c3] at H
  have c3b0 : decide (a1 < (l0.length : Int)) = false := decide_eq_false c3
  clear c3
  obtain rfl := Option.some.inj H
  go_enter Try.func108, Try.ntmps108
  go_wp2
  go_ret
  exact ⟨rS, by repeat (first | exact Drawn0.refl _ | apply Drawn0.step)⟩
 rw [if_pos c3] at H
 have c3b0 : decide (a1 < (l0.length : Int)) = true := decide_eq_true c3
 clear c3
 replace H := iS H
 obtain ⟨c4, H⟩ := H
 have c4b0 : decide (0 ≤ a1) = true := decide_eq_true c4
 clear c4
 obtain rfl := Option.some.inj H
 have p101 : 0 ≤ (a1 : Int) := of_decide_eq_true asm
 have q101 : a1 < (l0.length : Int) := of_decide_eq_true asm
 obtain ⟨ad101, e101, hx101_0⟩ := Kd.at_int HR0.out a1 p101 q101
 cases e101
 replace p101 := eq_true p101
 replace q101 := eq_true q101
 go_enter Try.func108, Try.ntmps108
 go_wp2
 go_ret
 exact ⟨rS, by repeat (first | exact Drawn0.refl _ | apply Drawn0.step)⟩
def nat_Nat_Cmp.l0 : Nat → List Int → List Int → Int → Option (Int)
 | 0, _, _, _ => none
 | k + 1, x0, x1, x5 => if x5 ≥ 0 then ((nat_Nat_at.f x0 x5).bind fun t101 => ((nat_Nat_at.f x1 x5).bind fun t102 => (if t101 = t102 then (nat_Nat_Cmp.l0 k x0 x1 (wrap64 (x5 - 1))) else (if t101 < t102 then (some (-1)) else (some 1))))) else (some 0)
def nat_Nat_Cmp.f (k : Nat) (l0 : List Int) (l1 : List Int) : Option (Int) := nat_Nat_Cmp.l0 k l0 l1 (wrap64 ((mx (l0.length : Int) (l1.length : Int)) - 1))
theorem nat_Nat_Cmp.mono_l : ∀ k, (∀ y0 y1 y2, LeO (nat_Nat_Cmp.l0 k y0 y1 y2) (nat_Nat_Cmp.l0 (k + 1) y0 y1 y2))
 | 0 => fun _ _ _ r h => by simp [nat_Nat_Cmp.l0] at h
 | k + 1 => by
  have ih0 := nat_Nat_Cmp.mono_l k
  ·intro y0 y1 y2
   unfold nat_Nat_Cmp.l0
   repeat' with_reducible first | exact ih0 _ _ _ | exact LeO.refl _ | exact LeO.none _ | refine LeO.ite ?_ ?_ | refine LeO.bind ?_ (fun _ => ?_)
theorem nat_Nat_Cmp.mono : ∀ a0 a1 k, LeO (nat_Nat_Cmp.f k a0 a1) (nat_Nat_Cmp.f (k + 1) a0 a1) := by
 intro a0 a1 k
 have ih0 := nat_Nat_Cmp.mono_l k
 unfold nat_Nat_Cmp.f
 repeat' with_reducible first | exact ih0 _ _ _ | exact LeO.refl _ | exact LeO.none _ | refine LeO.ite ?_ ?_ | refine LeO.bind ?_ (fun _ => ?_)
set_option maxHeartbeats 8000000 in
set_option maxRecDepth 100000 in
theorem nat_Nat_Cmp.calls (k : Nat) (A0 : Option Addr) (c0 : Nat) (l0 : List Int) (A1 : Option Addr) (c1 : Nat) (l1 : List Int) (r : Int) (w : World) (hr0 : Kd.C (Kd.int .u32) w A0 l0.length l0) (hc0 : l0.length ≤ c0) (hr1 : Kd.C (Kd.int .u32) w A1 l1.length l1) (hc1 : l1.length ≤ c1) (H : nat_Nat_Cmp.f k l0 l1 = some r) :
  Calls Try.prog 33 #[.slice A0 l0.length c0, .slice A1 l1.length c1] w fun e w' => e = .returned (.int .i64 r) ∧ Below w.heap.size w w' := by
 have HR0 := Aside0.mk hr0
 have HC0 := Aside0.mk hc0
 clear hr0 hc0
 have HR1 := Aside0.mk hr1
 have HC1 := Aside0.mk hc1
 clear hr1 hc1
 have HB := Aside0.mk (Below.refl w.heap.size w)
 unfold nat_Nat_Cmp.f at H
 obtain ⟨ji3, hji3⟩ : ∃ j_ : Int, (mx (l0.length : Int) (l1.length : Int)) = j_ := ⟨_, rfl⟩
 replace H : (nat_Nat_Cmp.l0 k l0 l1 (wrap64 ((ji3) - 1))) = some r := by first | (rw [hji3] at H; exact H) | (simp only [hji3] at H ⊢; exact H)
 (try (have hji3l : 0 ≤ ji3 := by (rw [← hji3]; unfold mx; (repeat' split) <;> omega)))
 (try (have hji3m : 0 ≤ ji3 := by omega))
 have hji3_ : (if (l0.length : Int) < (l1.length : Int) then (l1.length : Int) else (l0.length : Int)) = ji3 := hji3
 have hji3n : (if l0.length < l1.length then (l1.length : Int) else (l0.length : Int)) = ji3 := by
  rw [← hji3_]; by_cases hq_ : l0.length < l1.length
  ·rw [if_pos hq_, if_pos (by omega)]
  ·rw [if_neg hq_, if_neg (by omega)]
 have H' := Aside0.mk H
 clear H
 go_enter Try.func33, Try.ntmps33
 go_wp2
 go_loopg [5] k (fun kq v5 w' => ∃ (x5_1 : Int), v5 = .int .i64 x5_1 ∧ Aside0 (nat_Nat_Cmp.l0 kq l0 l1 x5_1 = some r) ∧ Aside0 (kq ≤ k) ∧ Aside0 (Below w.heap.size w w'))
 case atStart => exact ⟨(wrap64 ((ji3) - 1)), (by first | rfl | (simp; done) | (simp only [← hji3] <;> (first | rfl | simp)) | (simp [*]; done)), H', ⟨Nat.le_refl _⟩, ⟨bup HB.out⟩⟩
 case round =>
  clear H'
  try clear c1
  try clear p2
  try clear c3
  obtain ⟨x5_1, rfl, HA, HK1, HB⟩ := hrel
  cases gk with
  | zero => exact absurd HA.out (by simp [nat_Nat_Cmp.l0])
  | succ k1 =>
   have H := HA.out
   clear HA
   simp only [nat_Nat_Cmp.l0] at H
   by_cases c4 : x5_1 ≥ 0
   rotate_left
   ·rw [if_neg c4] at H
    have c4b0 : decide (0 ≤ x5_1) = false := decide_eq_false c4
    clear c4
    obtain rfl := Option.some.inj H
    go_wp2
    go_ret
    exact ⟨by first | rfl | (simp [errW_none, errW_some] <;> rfl) | (simp only [← hji3]; first | rfl | (simp [errW_none, errW_some] <;> rfl)) | (simp [*, errW_none, errW_some] <;> rfl), bup HB.out⟩
   rw [if_pos c4] at H
   have c4b0 : decide (0 ≤ x5_1) = true := decide_eq_true c4
   clear c4
   replace H := bi H
   obtain ⟨t101, A5, H⟩ := H
   replace H := bi H
   obtain ⟨t102, A6, H⟩ := H
   by_cases c7 : t101 = t102
   ·rw [if_pos c7] at H
    obtain ⟨c7b0, c7b1⟩ := bqT c7
    clear c7
    have H' := Aside0.mk H
    clear H
    go_wp2_with (first | ((with_reducible refine gc 108 rfl ?_); refine gL 20 Try.func108 #[.slice A0 l0.length c0, .int .i64 x5_1] ?_; (with_reducible refine (nat_Nat_at.calls _ _ l0 x5_1 t101 _ ?_ ?_ A5.out).mono ?_); exact Kd.C_below HR0.out (bup HB.out); exact HC0.out; rintro e w' ⟨rfl, ⟨nd, rfl⟩⟩; refine ⟨_, rfl, ?_⟩) | ((with_reducible refine gc 108 rfl ?_); refine gL 23 Try.func108 #[.slice A1 l1.length c1, .int .i64 x5_1] ?_; (with_reducible refine (nat_Nat_at.calls _ _ l1 x5_1 t102 _ ?_ ?_ A6.out).mono ?_); exact Kd.C_below HR1.out (bup HB.out); exact HC1.out; rintro e w' ⟨rfl, ⟨nd, rfl⟩⟩; refine ⟨_, rfl, ?_⟩))
    go_roundg k1
    case measure => have := HK1.out; omega
    case rel => exact ⟨(wrap64 (x5_1 - 1)), rS, H', ⟨hk1⟩, ⟨bup HB.out⟩⟩
   rw [if_neg c7] at H
   obtain ⟨c7b0, c7b1⟩ := bqF c7
   by_cases c8 : t101 < t102
   rotate_left
   ·rw [if_neg c8] at H
    have c8b0 : decide (t101 < t102) = false := decide_eq_false c8
    clear c8
    obtain rfl := Option.some.inj H
    go_wp2_with (first | ((with_reducible refine gc 108 rfl ?_); refine gL 20 Try.func108 #[.slice A0 l0.length c0, .int .i64 x5_1] ?_; (with_reducible refine (nat_Nat_at.calls _ _ l0 x5_1 t101 _ ?_ ?_ A5.out).mono ?_); exact Kd.C_below HR0.out (bup HB.out); exact HC0.out; rintro e w' ⟨rfl, ⟨nd, rfl⟩⟩; refine ⟨_, rfl, ?_⟩) | ((with_reducible refine gc 108 rfl ?_); refine gL 23 Try.func108 #[.slice A1 l1.length c1, .int .i64 x5_1] ?_; (with_reducible refine (nat_Nat_at.calls _ _ l1 x5_1 t102 _ ?_ ?_ A6.out).mono ?_); exact Kd.C_below HR1.out (bup HB.out); exact HC1.out; rintro e w' ⟨rfl, ⟨nd, rfl⟩⟩; refine ⟨_, rfl, ?_⟩))
    go_ret
    exact ⟨by first | rfl | (simp [errW_none, errW_some] <;> rfl) | (simp only [← hji3]; first | rfl | (simp [errW_none, errW_some] <;> rfl)) | (simp [*, errW_none, errW_some] <;> rfl), bup HB.out⟩
   rw [if_pos c8] at H
   have c8b0 : decide (t101 < t102) = true := decide_eq_true c8
   clear c8
   obtain rfl := Option.some.inj H
   go_wp2_with (first | ((with_reducible refine gc 108 rfl ?_); refine gL 20 Try.func108 #[.slice A0 l0.length c0, .int .i64 x5_1] ?_; (with_reducible refine (nat_Nat_at.calls _ _ l0 x5_1 t101 _ ?_ ?_ A5.out).mono ?_); exact Kd.C_below HR0.out (bup HB.out); exact HC0.out; rintro e w' ⟨rfl, ⟨nd, rfl⟩⟩; refine ⟨_, rfl, ?_⟩) | ((with_reducible refine gc 108 rfl ?_); refine gL 23 Try.func108 #[.slice A1 l1.length c1, .int .i64 x5_1] ?_; (with_reducible refine (nat_Nat_at.calls _ _ l1 x5_1 t102 _ ?_ ?_ A6.out).mono ?_); exact Kd.C_below HR1.out (bup HB.out); exact HC1.out; rintro e w' ⟨rfl, ⟨nd, rfl⟩⟩; refine ⟨_, rfl, ?_⟩))
   go_ret
   exact ⟨by first | rfl | (simp [errW_none, errW_some] <;> rfl) | (simp only [← hji3]; first | rfl | (simp [errW_none, errW_some] <;> rfl)) | (simp [*, errW_none, errW_some] <;> rfl), bup HB.out⟩
def nat_Nat_Shr.l0 : Nat → Int → List Int → List Int → Int → Int → Option (List Int)
 | 0, _, _, _, _, _ => none
 | k + 1, x1, x5, x6, x20, x21 => if x21 < x20 then ((nat_Nat_at.f x5 x21).bind fun t102 => ((nat_Nat_at.f x5 (wrap64 (x21 + 1))).bind fun t103 => (if 0 ≤ (Int.tmod x1 32) then (if x6.length < 35184372088832 then (nat_Nat_Shr.l0 k x1 x5 (x6 ++ [(shr .u64 (Go.bits .or .u64 t102 (IntKind.u64.wrap (t103 * 4294967296))) (Int.tmod x1 32)) % 4294967296]) x20 (wrap64 (x21 + 1))) else (none)) else (none)))) else ((nat_trim.f k x6).bind fun t107 => (some t107))
def nat_Nat_Shr.f (k : Nat) (l0 : List Int) (a1 : Int) : Option (List Int) := if (wrap64 ((mx a1 0) / 32)) ≥ (l0.length : Int) then (some ([] : List Int)) else (if 0 ≤ (wrap64 ((mx a1 0) / 32)) then (if (wrap64 ((mx a1 0) / 32)) ≤ (l0.length : Int) then (nat_Nat_Shr.l0 k (mx a1 0) (l0.drop ((wrap64 ((mx a1 0) / 32)) : Int).toNat) ([] : List Int) ((l0.drop ((wrap64 ((mx a1 0) / 32)) : Int).toNat).length : Int) 0) else (none)) else (none))
theorem nat_Nat_Shr.mono_l : ∀ k, (∀ y0 y1 y2 y3 y4, LeO (nat_Nat_Shr.l0 k y0 y1 y2 y3 y4) (nat_Nat_Shr.l0 (k + 1) y0 y1 y2 y3 y4))
 | 0 => fun _ _ _ _ _ r h => by simp [nat_Nat_Shr.l0] at h
 | k + 1 => by
  have ih0 := nat_Nat_Shr.mono_l k
  ·intro y0 y1 y2 y3 y4
   unfold nat_Nat_Shr.l0
   repeat' with_reducible first | exact ih0 _ _ _ _ _ | exact nat_trim.mono _ _ | exact LeO.refl _ | exact LeO.none _ | refine LeO.ite ?_ ?_ | refine LeO.bind ?_ (fun _ => ?_)
theorem nat_Nat_Shr.mono : ∀ a0 a1 k, LeO (nat_Nat_Shr.f k a0 a1) (nat_Nat_Shr.f (k + 1) a0 a1) := by
 intro a0 a1 k
 have ih0 := nat_Nat_Shr.mono_l k
 unfold nat_Nat_Shr.f
 repeat' with_reducible first | exact ih0 _ _ _ _ _ | exact nat_trim.mono _ _ | exact LeO.refl _ | exact LeO.none _ | refine LeO.ite ?_ ?_ | refine LeO.bind ?_ (fun _ => ?_)
set_option maxHeartbeats 8000000 in
set_option maxRecDepth 100000 in
theorem nat_Nat_Shr.calls (k : Nat) (A0 : Option Addr) (c0 : Nat) (l0 : List Int) (a1 : Int) (r : List Int) (w : World) (hr0 : Kd.C (Kd.int .u32) w A0 l0.length l0) (hc0 : l0.length ≤ c0) (H : nat_Nat_Shr.f k l0 a1 = some r) :
  Calls Try.prog 39 #[.slice A0 l0.length c0, .int .i64 a1] w fun e w' => ∃ v0_ : Value, e = .returned (v0_) ∧ Kd.V (Kd.int .u32) 118 w' w.heap.size (fun k_ => (w.heap.size ≤ k_)) v0_ r ∧ Below w.heap.size w w' := by
 have HR0 := Aside0.mk hr0
 have HC0 := Aside0.mk hc0
 clear hr0 hc0
 have HB := Aside0.mk (Below.refl w.heap.size w)
 unfold nat_Nat_Shr.f at H
 obtain ⟨ji3, hji3⟩ : ∃ j_ : Int, (mx a1 0) = j_ := ⟨_, rfl⟩
 replace H : (if (wrap64 ((ji3) / 32)) ≥ (l0.length : Int) then (some ([] : List Int)) else (if 0 ≤ (wrap64 ((ji3) / 32)) then (if (wrap64 ((ji3) / 32)) ≤ (l0.length : Int) then (nat_Nat_Shr.l0 k ji3 (l0.drop ((wrap64 ((ji3) / 32)) : Int).toNat) ([] : List Int) ((l0.drop ((wrap64 ((ji3) / 32)) : Int).toNat).length : Int) 0) else (none)) else (none))) = some r := by first | (rw [hji3] at H; exact H) | (simp only [hji3] at H ⊢; exact H)
 (try (have hji3l : 0 ≤ ji3 := by (rw [← hji3]; unfold mx; (repeat' split) <;> omega)))
 (try (have hji3m : 0 ≤ ji3 := by omega))
 have hji3_ : (if a1 < 0 then 0 else a1) = ji3 := hji3
 have hji3t : ji3.tdiv 32 = ji3 / 32 := Int.tdiv_eq_ediv_of_nonneg hji3l
 by_cases c4 : (wrap64 ((ji3) / 32)) ≥ (l0.length : Int)
 ·rw [if_pos c4] at H
  have c4b0 : decide ((l0.length : Int) ≤ (wrap64 ((ji3) / 32))) = true := decide_eq_true c4
  clear c4
  obtain rfl := Option.some.inj H
  go_enter Try.func39, Try.ntmps39
  go_wp2
  go_ret
  exact ⟨.slice none 0 0, by first | rfl | (simp [errW_none, errW_some] <;> rfl) | (simp only [← hji3]; first | rfl | (simp [errW_none, errW_some] <;> rfl)) | (simp [*, errW_none, errW_some] <;> rfl), Kd.V_nil _ _ _ _ _, bup HB.out⟩
 rw [if_neg c4] at H
 have c4b0 : decide ((l0.length : Int) ≤ (wrap64 ((ji3) / 32))) = false := decide_eq_false c4
 clear c4
 obtain ⟨ji5, hji5⟩ : ∃ j_ : Int, (wrap64 ((ji3) / 32)) = j_ := ⟨_, rfl⟩
 replace H : (if 0 ≤ (ji5) then (if (ji5) ≤ (l0.length : Int) then (nat_Nat_Shr.l0 k ji3 (l0.drop ((ji5) : Int).toNat) ([] : List Int) ((l0.drop ((ji5) : Int).toNat).length : Int) 0) else (none)) else (none)) = some r := by first | (rw [hji5] at H; exact H) | (simp only [hji5] at H ⊢; exact H)
 (try rw [hji5] at c4b0)
 have hji5w : (IntKind.i64.wrap ((ji3) / 32)) = ji5 := (i64_w _).trans hji5
 replace H := iS H
 obtain ⟨c6, H⟩ := H
 have c6b0 := eq_true c6
 have c6b1 : decide (0 ≤ (ji5)) = true := decide_eq_true c6
 clear c6
 replace H := iS H
 obtain ⟨c7, H⟩ := H
 have c7b0 := eq_true c7
 have c7b1 : decide ((ji5) ≤ (l0.length : Int)) = true := decide_eq_true c7
 clear c7
 have H' := Aside0.mk H
 clear H
 obtain ⟨i08, hi08, _, hsz8, _⟩ := info_parts info118
 obtain ⟨A8, hcut8, hA8, hC8⟩ := print_drop_of (P := Try.prog) (Value.int .u32) 0 23 118 .i64 Try.underlying23 hi08 hsz8 A0 c0 l0 (ji5) (of_decide_eq_true asm) (of_decide_eq_true asm) HC0.out
 have HR101 := Aside0.mk (Kd.C_of_reads (h1 := fun _ => rfl) (hA8 _ (Kd.reads_of_C HR0.out)))
 have HC101 := Aside0.mk hC8
 clear hA8 hC8 hi08 hsz8
 go_enter Try.func39, Try.ntmps39
 go_wp2
 go_loopg [6, 21] k (fun kq v6 v21 w' => ∃ (x6_1 : List Int) (x21_1 : Int), v21 = .int .i64 x21_1 ∧ Aside0 (nat_Nat_Shr.l0 kq ji3 (l0.drop ((ji5) : Int).toNat) x6_1 ((l0.drop ((ji5) : Int).toNat).length : Int) x21_1 = some r) ∧ Aside0 (kq ≤ k) ∧ Aside0 (Kd.R (Kd.int .u32) 118 w' w.heap.size (fun k_ => (w.heap.size ≤ k_)) v6 x6_1) ∧ Aside0 (Below w.heap.size w w'))
 case atStart => exact ⟨(([] : List Int)), (0), rS, H', ⟨Nat.le_refl _⟩, ⟨nil5⟩, ⟨bup HB.out⟩⟩
 case round =>
  clear H'
  try clear p2
  try clear c3
  try clear c4
  try clear c4b0
  try clear c6
  try clear c6b0
  try clear c6b1
  try clear p6
  try clear c7
  try clear c7b0
  try clear c7b1
  obtain ⟨x6_1, x21_1, rfl, HA, HK1, HO_6, HB⟩ := hrel
  cases gk with
  | zero => exact absurd HA.out (by simp [nat_Nat_Shr.l0])
  | succ k1 =>
   have H := HA.out
   clear HA
   simp only [nat_Nat_Shr.l0] at H
   by_cases c9 : x21_1 < ((l0.drop ((ji5) : Int).toNat).length : Int)
   rotate_left
   ·rw [if_neg c9] at H
    have c9b0 : decide (x21_1 < ((l0.drop ((ji5) : Int).toNat).length : Int)) = false := decide_eq_false c9
    have c9b9 : decide (x21_1 < ((l0.length - ji5.toNat : Nat) : Int)) = false := by rw [← List.length_drop]; exact c9b0
    clear c9
    replace H := bi H
    obtain ⟨t107, A17, H⟩ := H
    obtain rfl := Option.some.inj H
    obtain ⟨Ao18, co18, eo18⟩ := Kd.R_slice HO_6.out
    subst eo18
    go_wp2_with (first | ((with_reducible refine gc 109 rfl ?_); refine gL 42 Try.func109 #[.slice Ao18 x6_1.length co18] ?_; (with_reducible refine (nat_trim.calls k1 (fun k_ => some k_ = (.slice Ao18 x6_1.length co18 : Value).ownBlock) _ _ x6_1 t107 _ ?_ A17.out).mono ?_); exact Kd.R_V (Kd.R_tight rfl (HO_6.out)); rintro e w19 ⟨v108, rfl, ho0, hb⟩; refine ⟨_, rfl, ?_⟩; have HO109 := lw HB (fun k_ => (w.heap.size ≤ k_)) ho0 (fun k_ hk_ => Or.elim hk_ (fun hs_ => (HO_6.out).1 k_ hs_.symm) (fun hn_ => Nat.le_trans (below_size (bup HB.out)) hn_)); replace HO_6 := rA HO_6 hb; replace HB := bA HB hb; clear hb ho0))
    go_ret
    exact ⟨_, by first | rfl | (simp [errW_none, errW_some] <;> rfl) | (simp only [← hji3, ← hji5]; first | rfl | (simp [errW_none, errW_some] <;> rfl)) | (simp [*, errW_none, errW_some] <;> rfl), vup HO109.out, bup HB.out⟩
   rw [if_pos c9] at H
   have c9b0 : decide (x21_1 < ((l0.drop ((ji5) : Int).toNat).length : Int)) = true := decide_eq_true c9
   have c9b9 : decide (x21_1 < ((l0.length - ji5.toNat : Nat) : Int)) = true := by rw [← List.length_drop]; exact c9b0
   clear c9
   replace H := bi H
   obtain ⟨t102, A10, H⟩ := H
   replace H := bi H
   obtain ⟨t103, A11, H⟩ := H
   obtain ⟨ji12, hji12⟩ : ∃ j_ : Int, (Int.tmod ji3 32) = j_ := ⟨_, rfl⟩
   replace H : (if 0 ≤ (ji12) then (if x6_1.length < 35184372088832 then (nat_Nat_Shr.l0 k1 ji3 (l0.drop ((ji5) : Int).toNat) (x6_1 ++ [(shr .u64 (Go.bits .or .u64 t102 (IntKind.u64.wrap (t103 * 4294967296))) (ji12)) % 4294967296]) ((l0.drop ((ji5) : Int).toNat).length : Int) (wrap64 (x21_1 + 1))) else (none)) else (none)) = some r := by first | (rw [hji12] at H; exact H) | (simp only [hji12] at H ⊢; exact H)
   (try rw [hji12] at A10)
   (try rw [hji12] at A11)
   replace H := iS H
   obtain ⟨c13, H⟩ := H
   have c13b0 := eq_true c13
   have c13b1 : decide (0 ≤ (ji12)) = true := decide_eq_true c13
   clear c13
   obtain ⟨ji14, hji14⟩ : ∃ j_ : Int, (shr .u64 (Go.bits .or .u64 t102 (IntKind.u64.wrap (t103 * 4294967296))) (ji12)) = j_ := ⟨_, rfl⟩
   replace H : (if x6_1.length < 35184372088832 then (nat_Nat_Shr.l0 k1 ji3 (l0.drop ((ji5) : Int).toNat) (x6_1 ++ [(ji14) % 4294967296]) ((l0.drop ((ji5) : Int).toNat).length : Int) (wrap64 (x21_1 + 1))) else (none)) = some r := by first | (rw [hji14] at H; exact H) | (simp only [hji14] at H ⊢; exact H)
   (try rw [hji14] at A10)
   (try rw [hji14] at A11)
   have hji14_ : ((Go.bits .or .u64 t102 (IntKind.u64.wrap (t103 * 4294967296))) / 2 ^ min (ji12).toNat 64) = ji14 := hji14
   have hji14z : (ji12) ≤ 64 → ((Go.bits .or .u64 t102 (IntKind.u64.wrap (t103 * 4294967296))) / 2 ^ (ji12).toNat) = ji14 := shr_small hji14
   replace H := iS H
   obtain ⟨c15, H⟩ := H
   have LMc15 := Aside0.mk c15
   clear c15
   obtain ⟨y104, hy104⟩ : ∃ y_ : List Int, y_ = (x6_1 ++ [(ji14) % 4294967296]) := ⟨_, rfl⟩
   replace H : (nat_Nat_Shr.l0 k1 ji3 (l0.drop ((ji5) : Int).toNat) y104 ((l0.drop ((ji5) : Int).toNat).length : Int) (wrap64 (x21_1 + 1))) = some r := by first | (rw [hy104]; with_reducible exact H) | (have H2_ := (Option.bind_some _ _).symm.trans H; rw [hy104]; with_reducible exact H2_) | (have H2_ := (Option.bind_some _ _).symm.trans H; with_reducible exact H2_) | with_reducible exact H | (rw [hy104]; exact H) | exact H
   have Ny104 := Aside0.mk hy104
   clear hy104
   have H' := Aside0.mk H
   clear H
   go_wp2_with (first | ((with_reducible refine gc 108 rfl ?_); refine goesL_ (some 27) rfl rfl Try.func108 (by kernel_rfl) rfl #[.slice A8 (l0.drop ((ji5) : Int).toNat).length (c0 - (ji5).toNat), .int .i64 x21_1] rfl (by (try simp only [List.map_toArray, List.map_cons, List.map_nil]); first | done | (rw [show (l0.drop ((ji5) : Int).toNat).length = (l0.length - (ji5).toNat) from List.length_drop] <;> rfl) | (simp only [hji5]; rfl) | rfl | (simp only [List.length_drop, List.length_take]; rfl)) ?_; (with_reducible refine (nat_Nat_at.calls _ _ (l0.drop ((ji5) : Int).toNat) x21_1 t102 _ ?_ ?_ A10.out).mono ?_); exact Kd.C_below HR101.out (bup HB.out); exact HC101.out; rintro e w' ⟨rfl, ⟨nd, rfl⟩⟩; refine ⟨_, rfl, ?_⟩) | ((with_reducible refine gc 108 rfl ?_); refine goesL_ (some 31) rfl rfl Try.func108 (by kernel_rfl) rfl #[.slice A8 (l0.drop ((ji5) : Int).toNat).length (c0 - (ji5).toNat), .int .i64 (wrap64 (x21_1 + 1))] rfl (by (try simp only [List.map_toArray, List.map_cons, List.map_nil]); first | done | (rw [show (l0.drop ((ji5) : Int).toNat).length = (l0.length - (ji5).toNat) from List.length_drop] <;> rfl) | (simp only [hji5]; rfl) | rfl | (simp only [List.length_drop, List.length_take]; rfl)) ?_; (with_reducible refine (nat_Nat_at.calls _ _ (l0.drop ((ji5) : Int).toNat) (wrap64 (x21_1 + 1)) t103 _ ?_ ?_ A11.out).mono ?_); exact Kd.C_below HR101.out (bup HB.out); exact HC101.out; rintro e w' ⟨rfl, ⟨nd, rfl⟩⟩; refine ⟨_, rfl, ?_⟩) | ((with_reducible refine gate_builtin (b := .append) (xs := #[.tmp 24, .tmp 38]) rfl ?_); at_builtin; refine Kd.R_append (Kd.int .u32) (w0 := w) w.heap.size rfl (.tmp 24) (.tmp 38) 23 118 (.int .u32 0) 4 rfl Try.underlying23 info118 rfl (by decide) (by omega) u6 x6_1 ((ji14) % 4294967296) [.int .u32 ((ji14) % 4294967296)] (fun k_ => (w.heap.size ≤ k_)) (fun _ => False) rfl rfl ?aP (fun _ hk => hk.elim) ?aF ?aO ?aB ?aS ?aL ?_; (case aP => exact rfl); (case aB => exact (bup HB.out)); (case aF => exact (fun k_ hk => (Nat.le_trans (below_size (bup HB.out)) hk))); (case aO => exact (rup HO_6.out)); (case aS => exact (below_size (bup HB.out))); (case aL => have := LMc15.out; omega); intro v105 w16 ho hb hg hat; rw [← Ny104.out] at ho; replace HB := Aside0.mk (hb); have HO106 := Aside0.mk (ho); clear HO_6; clear ho hb hg hat))
   go_roundg k1
   case measure => have := HK1.out; omega
   case rel => exact ⟨(y104), (wrap64 (x21_1 + 1)), rS, H', ⟨hk1⟩, ⟨rup HO106.out⟩, ⟨bup HB.out⟩⟩
def nat_shifted.l0 : Nat → List Int → Int → List Int → Int → Int → Option (List Int)
 | 0, _, _, _, _, _ => none
 | k + 1, x0, x1, x7, x13, x14 => if x14 < x13 then ((nat_Nat_at.f x0 x14).bind fun t104 => (if 0 ≤ x1 then (if x14 > 0 then ((nat_Nat_at.f x0 (wrap64 (x14 - 1))).bind fun t105 => (if 0 ≤ x14 then (if x14 < (x7.length : Int) then (nat_shifted.l0 k x0 x1 (x7.set (x14 : Int).toNat ((Go.bits .or .u64 (shl .u64 t104 x1) ((shl .u64 t105 x1) / 4294967296)) % 4294967296)) x13 (wrap64 (x14 + 1))) else (none)) else (none))) else (if 0 ≤ x14 then (if x14 < (x7.length : Int) then (nat_shifted.l0 k x0 x1 (x7.set (x14 : Int).toNat ((shl .u64 t104 x1) % 4294967296)) x13 (wrap64 (x14 + 1))) else (none)) else (none))) else (none))) else (some x7)
def nat_shifted.f (k : Nat) (l0 : List Int) (a1 : Int) (a2 : Int) : Option (List Int) := if 0 ≤ a2 then (if (a2 : Int).toNat ≤ 70368744177664 then ((some (List.replicate (a2 : Int).toNat 0 : List Int)).bind fun y101 => (nat_shifted.l0 k l0 a1 y101 (y101.length : Int) 0)) else (none)) else (none)
theorem nat_shifted.mono_l : ∀ k, (∀ y0 y1 y2 y3 y4, LeO (nat_shifted.l0 k y0 y1 y2 y3 y4) (nat_shifted.l0 (k + 1) y0 y1 y2 y3 y4))
 | 0 => fun _ _ _ _ _ r h => by simp [nat_shifted.l0] at h
 | k + 1 => by
  have ih0 := nat_shifted.mono_l k
  ·intro y0 y1 y2 y3 y4
   unfold nat_shifted.l0
   repeat' with_reducible first | exact ih0 _ _ _ _ _ | exact LeO.refl _ | exact LeO.none _ | refine LeO.ite ?_ ?_ | refine LeO.bind ?_ (fun _ => ?_)
theorem nat_shifted.mono : ∀ a0 a1 a2 k, LeO (nat_shifted.f k a0 a1 a2) (nat_shifted.f (k + 1) a0 a1 a2) := by
 intro a0 a1 a2 k
 have ih0 := nat_shifted.mono_l k
 unfold nat_shifted.f
 repeat' with_reducible first | exact ih0 _ _ _ _ _ | exact LeO.refl _ | exact LeO.none _ | refine LeO.ite ?_ ?_ | refine LeO.bind ?_ (fun _ => ?_)
set_option maxHeartbeats 8000000 in
set_option maxRecDepth 100000 in
theorem nat_shifted.calls (k : Nat) (A0 : Option Addr) (c0 : Nat) (l0 : List Int) (a1 : Int) (a2 : Int) (r : List Int) (w : World) (hr0 : Kd.C (Kd.int .u32) w A0 l0.length l0) (hc0 : l0.length ≤ c0) (H : nat_shifted.f k l0 a1 a2 = some r) :
  Calls Try.prog 113 #[.slice A0 l0.length c0, .int .i64 a1, .int .i64 a2] w fun e w' => ∃ v0_ : Value, e = .returned (v0_) ∧ Kd.R (Kd.int .u32) 118 w' w.heap.size (fun _ => True) v0_ r ∧ Below w.heap.size w w' := by
 have HR0 := Aside0.mk hr0
 have HC0 := Aside0.mk hc0
 clear hr0 hc0
 have HB := Aside0.mk (Below.refl w.heap.size w)
 unfold nat_shifted.f at H
 replace H := iS H
 obtain ⟨c4, H⟩ := H
 have c4b0 := eq_true c4
 have c4b1 : decide (0 ≤ a2) = true := decide_eq_true c4
 clear c4
 replace H := iS H
 obtain ⟨c5, H⟩ := H
 have c5b0 := eq_true c5
 have c5b1 : decide ((a2 : Int).toNat ≤ 70368744177664) = true := decide_eq_true c5
 clear c5
 obtain ⟨y101, hy101⟩ : ∃ y_ : List Int, y_ = (List.replicate (a2 : Int).toNat 0) := ⟨_, rfl⟩
 replace H : (nat_shifted.l0 k l0 a1 y101 (y101.length : Int) 0) = some r := by first | (rw [hy101]; with_reducible exact H) | (have H2_ := (Option.bind_some _ _).symm.trans H; rw [hy101]; with_reducible exact H2_) | (have H2_ := (Option.bind_some _ _).symm.trans H; with_reducible exact H2_) | with_reducible exact H | (rw [hy101]; exact H) | exact H
 have Ny101 := Aside0.mk hy101
 clear hy101
 have H' := Aside0.mk H
 clear H
 go_enter Try.func113, Try.ntmps113
 go_wp2_with (first | ((with_reducible refine gd 11 rfl ?_); refine Kd.R_make (Kd.int .u32) _ 118 rfl (N := 11) rfl 22 _ _ rfl a2 rfl rfl Try.underlying22 (.int .u32 0) 4 info118 rfl (by decide) (by omega) 0 (ok := fun _ => True) (okp := fun _ => True) rfl (fun _ hk => hk) trivial (of_decide_eq_true asm) (Nat.le_trans (Nat.mul_le_mul_right _ (of_decide_eq_true asm : a2.toNat ≤ 70368744177664)) (by omega)) (Below.refl _ _) (Nat.le_refl _) ?_; intro v102 w6 ho7 hb hg_ hnew_; clear hg_ hnew_; (first | rw [← Ny101.out] at ho7 | (simp only [Int.reduceToNat] at ho7; rw [← Ny101.out] at ho7)); have HO103 := Aside0.mk (Kd.R_lower ho7 (below_size (bup HB.out))); replace HB := bA HB hb; clear hb ho7; obtain ⟨Ao8, co8, eo8⟩ := Kd.R_slice HO103.out; subst eo8))
 go_loopg [14] k (fun kq v14 w' => ∃ (x7_1 : List Int) (x14_1 : Int), v14 = .int .i64 x14_1 ∧ Aside0 (nat_shifted.l0 kq l0 a1 x7_1 (y101.length : Int) x14_1 = some r) ∧ Aside0 (kq ≤ k) ∧ Aside0 (Kd.R (Kd.int .u32) 118 w' w.heap.size (fun _ => True) (.slice Ao8 y101.length co8) x7_1) ∧ Aside0 (Below w.heap.size w w'))
 case atStart => exact ⟨(y101), (0), rS, H', ⟨Nat.le_refl _⟩, ⟨rup HO103.out⟩, ⟨bup HB.out⟩⟩
 case round =>
  clear H'
  try clear c1
  try clear p2
  try clear c4
  try clear c4b0
  try clear c4b1
  try clear c5
  try clear c5b0
  try clear c5b1
  obtain ⟨x7_1, x14_1, rfl, HA, HK1, HO_7, HB⟩ := hrel
  have hl7_1 := (Kd.R_reads' HO_7.out).1
  rw [hl7_1] at HO_7
  (try simp only [hl7_1])
  cases gk with
  | zero => exact absurd HA.out (by simp [nat_shifted.l0])
  | succ k1 =>
   have H := HA.out
   clear HA
   simp only [nat_shifted.l0] at H
   by_cases c9 : x14_1 < (y101.length : Int)
   rotate_left
   ·rw [if_neg c9] at H
    have c9b0 : decide (x14_1 < (y101.length : Int)) = false := decide_eq_false c9
    have c9b9 := c9b0
    rw [hl7_1] at c9b9
    clear c9
    obtain rfl := Option.some.inj H
    go_wp2
    go_ret
    exact ⟨_, er, rup HO_7.out, bup HB.out⟩
   rw [if_pos c9] at H
   have c9b0 : decide (x14_1 < (y101.length : Int)) = true := decide_eq_true c9
   clear c9
   replace H := bi H
   obtain ⟨t104, A10, H⟩ := H
   replace H := iS H
   obtain ⟨c11, H⟩ := H
   have c11b0 := eq_true c11
   have c11b1 : decide (0 ≤ a1) = true := decide_eq_true c11
   clear c11
   obtain ⟨ji12, hji12⟩ : ∃ j_ : Int, (shl .u64 t104 a1) = j_ := ⟨_, rfl⟩
   replace H : (if x14_1 > 0 then ((nat_Nat_at.f l0 (wrap64 (x14_1 - 1))).bind fun t105 => (if 0 ≤ x14_1 then (if x14_1 < (x7_1.length : Int) then (nat_shifted.l0 k1 l0 a1 (x7_1.set (x14_1 : Int).toNat ((Go.bits .or .u64 (ji12) ((shl .u64 t105 a1) / 4294967296)) % 4294967296)) (y101.length : Int) (wrap64 (x14_1 + 1))) else (none)) else (none))) else (if 0 ≤ x14_1 then (if x14_1 < (x7_1.length : Int) then (nat_shifted.l0 k1 l0 a1 (x7_1.set (x14_1 : Int).toNat ((ji12) % 4294967296)) (y101.length : Int) (wrap64 (x14_1 + 1))) else (none)) else (none))) = some r := by first | (rw [hji12] at H; exact H) | (simp only [hji12] at H ⊢; exact H)
   (try rw [hji12] at A10)
   have hji12_ : (IntKind.u64.wrap (t104 * 2 ^ min a1.toNat 64)) = ji12 := hji12
   have hji12z : a1 ≤ 64 → (IntKind.u64.wrap (t104 * 2 ^ a1.toNat)) = ji12 := shl_small hji12
   by_cases c13 : x14_1 > 0
   rotate_left
   ·rw [if_neg c13] at H
    have c13b0 : decide (0 < x14_1) = false := decide_eq_false c13
    clear c13
    replace H := iS H
    obtain ⟨c22, H⟩ := H
    have c22b0 : decide (0 ≤ x14_1) = true := decide_eq_true c22
    clear c22
    replace H := iS H
    obtain ⟨c23, H⟩ := H
    have c23b0 : decide (x14_1 < (x7_1.length : Int)) = true := decide_eq_true c23
    clear c23
    obtain ⟨y107, hy107⟩ : ∃ y_ : List Int, y_ = (x7_1.set (x14_1 : Int).toNat ((ji12) % 4294967296)) := ⟨_, rfl⟩
    replace H : (nat_shifted.l0 k1 l0 a1 y107 (y101.length : Int) (wrap64 (x14_1 + 1))) = some r := by first | (rw [hy107]; with_reducible exact H) | (have H2_ := (Option.bind_some _ _).symm.trans H; rw [hy107]; with_reducible exact H2_) | (have H2_ := (Option.bind_some _ _).symm.trans H; with_reducible exact H2_) | with_reducible exact H | (rw [hy107]; exact H) | exact H
    have Ny107 := Aside0.mk hy107
    clear hy107
    have H' := Aside0.mk H
    clear H
    go_wp2_with (first | ((with_reducible refine gc 108 rfl ?_); refine gL 19 Try.func108 #[.slice A0 l0.length c0, .int .i64 x14_1] ?_; (with_reducible refine (nat_Nat_at.calls _ _ l0 x14_1 t104 _ ?_ ?_ A10.out).mono ?_); exact Kd.C_below HR0.out (bup HB.out); exact HC0.out; rintro e w' ⟨rfl, ⟨nd, rfl⟩⟩; refine ⟨_, rfl, ?_⟩; (try (rw [drewN_self wr]; generalize hq_ : World.drewN wr _ = wr; have n0_ : Aside0 (Kd.R (Kd.int .u32) 118 wr w.heap.size (fun _ => True) (.slice Ao8 x7_1.length co8) x7_1) := ⟨by rw [← hq_]; exact (rup HO_7.out)⟩; have n1_ : Aside0 (Below w.heap.size w wr) := ⟨by rw [← hq_]; exact (bup HB.out)⟩; clear HO_7 HB hq_; have HO_7 := n0_; have HB := n1_; clear n0_ n1_)); have p24 : 0 ≤ (x14_1 : Int) := of_decide_eq_true asm; have q24 : (x14_1 : Int) < ((x7_1.length : Int) : Int) := of_decide_eq_true asm; obtain ⟨go24, co24, eo24, gb24, gl24, cl24, HG24⟩ := Kd.R_form HO_7.out (by omega); (first | cases eo24 | (injection eo24 with ea_ en_ ec_; (first | subst ea_ | (injection ea_ with ea_; subst ea_)); subst ec_; clear en_)); have GB24 := Aside0.mk gb24; have GG24 := Aside0.mk HG24; clear gb24 gl24 HG24; obtain ⟨hx24_0, hf24_0⟩ := Kd.R_celln 0 HO_7.out (x14_1 : Int) p24 q24; replace p24 := eq_true p24; replace q24 := eq_true q24; obtain ⟨hy25_, hz25_⟩ := Kd.R_celln 0 HO_7.out (x14_1 : Int) (of_decide_eq_true asm) (of_decide_eq_true asm); have HP25 := Kd.R_putg HO_7.out (x14_1 : Int) ((ji12) % 4294967296)) | ((with_reducible refine gate_store (t := 118) (p := 37) rfl ?_); refine store_event (t := 118) (p := 37) (v := ?vo_w26) (w1 := (wr.setCell ⟨go24, (x14_1 : Int).toNat, none⟩ (.int .u32 ((ji12) % 4294967296)))) ?hg ?ho ?hn ?hr ?_; (case ho => rfl); (case hg => rfl); (case hn => rfl); (case hr => first | (go_simp; done) | (go_simp; rfl)); intro w26 hw; have hg : wr.grownBy w26 (some go24) := (by rw [hw]; exact HP25.2); have hp_ : Kd.R (Kd.int .u32) 118 w26 w.heap.size (fun _ => True) (.slice (some ⟨go24, 0, none⟩) x7_1.length co8) y107 := (by rw [hw, Ny107.out]; exact HP25.1); clear HP25; replace HO_7 := Aside0.mk (hp_); replace HB := Aside0.mk ((by rw [hw]; exact below_set (HB.out) GB24.out : Below w.heap.size w w26)); clear hg hw hp_))
    (try simp only [← hl7_1])
    go_roundg k1
    case measure => have := HK1.out; omega
    case rel => exact ⟨(y107), (wrap64 (x14_1 + 1)), rS, H', ⟨hk1⟩, ⟨by (try simp only [hl7_1]); (with_reducible repeat (first | apply Kd.R_alloc | apply Kd.R_drewN | apply Kd.R_drew)); exact HO_7.out⟩, ⟨bup HB.out⟩⟩
   rw [if_pos c13] at H
   have c13b0 : decide (0 < x14_1) = true := decide_eq_true c13
   clear c13
   replace H := bi H
   obtain ⟨t105, A14, H⟩ := H
   have c15b0 := eq_true (of_decide_eq_true asm : 0 ≤ a1)
   obtain ⟨ji16, hji16⟩ : ∃ j_ : Int, (shl .u64 t105 a1) = j_ := ⟨_, rfl⟩
   replace H : (if 0 ≤ x14_1 then (if x14_1 < (x7_1.length : Int) then (nat_shifted.l0 k1 l0 a1 (x7_1.set (x14_1 : Int).toNat ((Go.bits .or .u64 (ji12) ((ji16) / 4294967296)) % 4294967296)) (y101.length : Int) (wrap64 (x14_1 + 1))) else (none)) else (none)) = some r := by first | (rw [hji16] at H; exact H) | (simp only [hji16] at H ⊢; exact H)
   (try rw [hji16] at A10)
   (try rw [hji16] at A14)
   have hji16_ : (IntKind.u64.wrap (t105 * 2 ^ min a1.toNat 64)) = ji16 := hji16
   have hji16z : a1 ≤ 64 → (IntKind.u64.wrap (t105 * 2 ^ a1.toNat)) = ji16 := shl_small hji16
   replace H := iS H
   obtain ⟨c17, H⟩ := H
   have c17b0 : decide (0 ≤ x14_1) = true := decide_eq_true c17
   clear c17
   replace H := iS H
   obtain ⟨c18, H⟩ := H
   have c18b0 : decide (x14_1 < (x7_1.length : Int)) = true := decide_eq_true c18
   clear c18
   obtain ⟨y106, hy106⟩ : ∃ y_ : List Int, y_ = (x7_1.set (x14_1 : Int).toNat ((Go.bits .or .u64 (ji12) ((ji16) / 4294967296)) % 4294967296)) := ⟨_, rfl⟩
   replace H : (nat_shifted.l0 k1 l0 a1 y106 (y101.length : Int) (wrap64 (x14_1 + 1))) = some r := by first | (rw [hy106]; with_reducible exact H) | (have H2_ := (Option.bind_some _ _).symm.trans H; rw [hy106]; with_reducible exact H2_) | (have H2_ := (Option.bind_some _ _).symm.trans H; with_reducible exact H2_) | with_reducible exact H | (rw [hy106]; exact H) | exact H
   have Ny106 := Aside0.mk hy106
   clear hy106
   have H' := Aside0.mk H
   clear H
   go_wp2_with (first | ((with_reducible refine gc 108 rfl ?_); refine gL 19 Try.func108 #[.slice A0 l0.length c0, .int .i64 x14_1] ?_; (with_reducible refine (nat_Nat_at.calls _ _ l0 x14_1 t104 _ ?_ ?_ A10.out).mono ?_); exact Kd.C_below HR0.out (bup HB.out); exact HC0.out; rintro e w' ⟨rfl, ⟨nd, rfl⟩⟩; refine ⟨_, rfl, ?_⟩; (try (rw [drewN_self wr]; generalize hq_ : World.drewN wr _ = wr; have n0_ : Aside0 (Kd.R (Kd.int .u32) 118 wr w.heap.size (fun _ => True) (.slice Ao8 x7_1.length co8) x7_1) := ⟨by rw [← hq_]; exact (rup HO_7.out)⟩; have n1_ : Aside0 (Below w.heap.size w wr) := ⟨by rw [← hq_]; exact (bup HB.out)⟩; clear HO_7 HB hq_; have HO_7 := n0_; have HB := n1_; clear n0_ n1_))) | ((with_reducible refine gc 108 rfl ?_); refine gL 28 Try.func108 #[.slice A0 l0.length c0, .int .i64 (wrap64 (x14_1 - 1))] ?_; (with_reducible refine (nat_Nat_at.calls _ _ l0 (wrap64 (x14_1 - 1)) t105 _ ?_ ?_ A14.out).mono ?_); exact Kd.C_below HR0.out (bup HB.out); exact HC0.out; rintro e w' ⟨rfl, ⟨nd, rfl⟩⟩; refine ⟨_, rfl, ?_⟩; (try (rw [drewN_self wr]; generalize hq_ : World.drewN wr _ = wr; have n0_ : Aside0 (Kd.R (Kd.int .u32) 118 wr w.heap.size (fun _ => True) (.slice Ao8 x7_1.length co8) x7_1) := ⟨by rw [← hq_]; exact (rup HO_7.out)⟩; have n1_ : Aside0 (Below w.heap.size w wr) := ⟨by rw [← hq_]; exact (bup HB.out)⟩; clear HO_7 HB hq_; have HO_7 := n0_; have HB := n1_; clear n0_ n1_)); have p19 : 0 ≤ (x14_1 : Int) := of_decide_eq_true asm; have q19 : (x14_1 : Int) < ((x7_1.length : Int) : Int) := of_decide_eq_true asm; obtain ⟨go19, co19, eo19, gb19, gl19, cl19, HG19⟩ := Kd.R_form HO_7.out (by omega); (first | cases eo19 | (injection eo19 with ea_ en_ ec_; (first | subst ea_ | (injection ea_ with ea_; subst ea_)); subst ec_; clear en_)); have GB19 := Aside0.mk gb19; have GG19 := Aside0.mk HG19; clear gb19 gl19 HG19; obtain ⟨hx19_0, hf19_0⟩ := Kd.R_celln 0 HO_7.out (x14_1 : Int) p19 q19; replace p19 := eq_true p19; replace q19 := eq_true q19; obtain ⟨hy20_, hz20_⟩ := Kd.R_celln 0 HO_7.out (x14_1 : Int) (of_decide_eq_true asm) (of_decide_eq_true asm); have HP20 := Kd.R_putg HO_7.out (x14_1 : Int) ((Go.bits .or .u64 (ji12) ((ji16) / 4294967296)) % 4294967296)) | ((with_reducible refine gate_store (t := 118) (p := 37) rfl ?_); refine store_event (t := 118) (p := 37) (v := ?vo_w21) (w1 := (wr.setCell ⟨go19, (x14_1 : Int).toNat, none⟩ (.int .u32 ((Go.bits .or .u64 (ji12) ((ji16) / 4294967296)) % 4294967296)))) ?hg ?ho ?hn ?hr ?_; (case ho => rfl); (case hg => rfl); (case hn => rfl); (case hr => first | (go_simp; done) | (go_simp; rfl)); intro w21 hw; have hg : wr.grownBy w21 (some go19) := (by rw [hw]; exact HP20.2); have hp_ : Kd.R (Kd.int .u32) 118 w21 w.heap.size (fun _ => True) (.slice (some ⟨go19, 0, none⟩) x7_1.length co8) y106 := (by rw [hw, Ny106.out]; exact HP20.1); clear HP20; replace HO_7 := Aside0.mk (hp_); replace HB := Aside0.mk ((by rw [hw]; exact below_set (HB.out) GB19.out : Below w.heap.size w w21)); clear hg hw hp_))
   (try simp only [← hl7_1])
   go_roundg k1
   case measure => have := HK1.out; omega
   case rel => exact ⟨(y106), (wrap64 (x14_1 + 1)), rS, H', ⟨hk1⟩, ⟨by (try simp only [hl7_1]); (with_reducible repeat (first | apply Kd.R_alloc | apply Kd.R_drewN | apply Kd.R_drew)); exact HO_7.out⟩, ⟨bup HB.out⟩⟩
end Go.Proofs.Ytagbnkbhobmgjaa.Fn
end
section
/-! A window of a row of the call's own: words pre, then the window, then post; the window is handed on as a slice that begins inside the row's block. -/
set_option linter.unusedVariables false
set_option linter.unusedSimpArgs false
namespace Go.Proofs.Ytagbnkbhobmgjaa.Fn
open Go.RowKit Go.Proofs.YtagbnkbhobmgjaaW.PrintWords Go.Proofs.YtagbnkbhobmgjaaW.PrintLast Go.Proofs.YtagbnkbhobmgjaaW.PrintMore
structure WR (g o N cap : Nat) (pre post : List Int) (m : Nat) (w : World) (base : Nat) (ok : Nat → Prop) (xs : List Int) : Prop where
  row : Kd.R (Kd.int .u32) 118 w base ok (.slice (some ⟨g, 0, none⟩) N cap) (pre ++ xs ++ post)
  off : pre.length = o
  len : xs.length = m
section
variable {g o N cap m base : Nat} {pre post xs : List Int} {w w' : World} {ok ok' : Nat → Prop}
theorem WR_own (h : WR g o N cap pre post m w base ok xs) : ok g := h.row.1 g rfl
theorem WR_own' (h : WR g o N cap pre post m w base ok xs) (k : Nat) (e : some g = some k) : ok k := by cases e; exact WR_own h
theorem WR_mono (h : WR g o N cap pre post m w base ok xs) (hk : ∀ k, ok k → ok' k) : WR g o N cap pre post m w base ok' xs := ⟨Kd.R_mono h.row hk, h.off, h.len⟩
theorem WR_alloc (h : WR g o N cap pre post m w base ok xs) (b : Obj) : WR g o N cap pre post m (w.alloc b) base ok xs := ⟨Kd.R_alloc h.row b, h.off, h.len⟩
theorem WR_drew (h : WR g o N cap pre post m w base ok xs) : WR g o N cap pre post m w.drew base ok xs := ⟨Kd.R_drew h.row, h.off, h.len⟩
theorem WR_drewN (h : WR g o N cap pre post m w base ok xs) (n : Nat) : WR g o N cap pre post m (w.drewN n) base ok xs := ⟨Kd.R_drewN h.row n, h.off, h.len⟩
theorem WR_at {n : Nat} (hq : w.drewN n = w') (h : WR g o N cap pre post m w base ok xs) : WR g o N cap pre post m w' base ok xs := by subst hq; exact WR_drewN h n
theorem WR_len (h : WR g o N cap pre post m w base ok xs) : m = xs.length := h.len.symm
theorem WR_base (h : WR g o N cap pre post m w base ok xs) : base ≤ g := by
  obtain ⟨_, inner, hown, _⟩ := h.row
  exact own_base hown g rfl
theorem WR_N (h : WR g o N cap pre post m w base ok xs) : N = (pre ++ xs ++ post).length := (Kd.R_reads' h.row).1
theorem WR_cell (h : WR g o N cap pre post m w base ok xs) (i : Int) (h0 : 0 ≤ i) (hi : i < (m : Int)) : w.cell? ⟨g, o + i.toNat, none⟩ = some (.int .u32 (rd xs i)) ∧ w.frozen? ⟨g, o + i.toNat, none⟩ = false := by
  have hN := WR_N h
  have hl := h.len
  have ho := h.off
  simp only [List.length_append] at hN
  have := Kd.R_celln 0 h.row ((o + i.toNat : Nat) : Int) (by omega) (by omega)
  rw [Int.toNat_natCast] at this
  refine ⟨this.1.trans ?_, this.2⟩
  congr 2
  unfold rd rdOf
  rw [Int.toNat_natCast, List.getD_eq_getElem?_getD, List.getD_eq_getElem?_getD, List.append_assoc, List.getElem?_append_right (by omega), List.getElem?_append_left (by omega)]
  congr 2
  omega
theorem WR_putg (h : WR g o N cap pre post m w base ok xs) (i : Int) (h0 : 0 ≤ i) (hi : i < (m : Int)) (x : Int) : WR g o N cap pre post m (w.setCell ⟨g, o + i.toNat, none⟩ (.int .u32 x)) base ok (xs.set i.toNat x) ∧ w.grownBy (w.setCell ⟨g, o + i.toNat, none⟩ (.int .u32 x)) (some g) := by
  have hl := h.len
  have ho := h.off
  have := Kd.R_putg h.row ((o + i.toNat : Nat) : Int) x
  rw [Int.toNat_natCast] at this
  refine ⟨⟨?_, h.off, by rw [List.length_set]; exact h.len⟩, this.2⟩
  have e : (pre ++ xs ++ post).set (o + i.toNat) x = pre ++ xs.set i.toNat x ++ post := by
    rw [List.append_assoc, List.append_assoc, List.set_append_right _ _ (by omega), List.set_append_left _ _ (by omega)]
    congr 3
    omega
  rw [← e]
  exact this.1
end
end Go.Proofs.Ytagbnkbhobmgjaa.Fn
end
section
namespace Go.Proofs.Ytagbnkbhobmgjaa.Fn
open Go.RowKit Go.Proofs.YtagbnkbhobmgjaaW.PrintWords Go.Proofs.YtagbnkbhobmgjaaW.PrintLast Go.Proofs.YtagbnkbhobmgjaaW.PrintMore
attribute [local go_sem] max2_int min2_int max_two min_two max_three min_three max_four min_four   -- for this text's walks alone
set_option linter.unusedVariables false
set_option linter.unusedSimpArgs false
mutual
def nat_step.j2 : Nat → List Int → List Int → Int → Int → Option (Int × List Int)
 | 0, _, _, _, _ => none
 | k + 1, x0, x1, x5, x8 => nat_step.l1 k x0 x1 x5 x8 0 0 (x0.length : Int) 0
def nat_step.l1 : Nat → List Int → List Int → Int → Int → Int → Int → Int → Int → Option (Int × List Int)
 | 0, _, _, _, _, _, _, _, _ => none
 | k + 1, x0, x1, x5, x8, x10, x11, x73, x74 => if x74 < x73 then (if x74 < x5 then (if 0 ≤ x74 then (if x74 < (x1.length : Int) then (if x74 < (x0.length : Int) then (nat_step.l1 k (x0.set (x74 : Int).toNat ((IntKind.u64.wrap ((IntKind.u64.wrap ((IntKind.u64.wrap (rd x0 x74)) - (Go.bits .and .u64 (IntKind.u64.wrap (x11 + (IntKind.u64.wrap (x8 * (IntKind.u64.wrap (rd x1 x74)))))) 4294967295))) - x10)) % 4294967296)) x1 x5 x8 ((IntKind.u64.wrap ((IntKind.u64.wrap ((IntKind.u64.wrap (rd x0 x74)) - (Go.bits .and .u64 (IntKind.u64.wrap (x11 + (IntKind.u64.wrap (x8 * (IntKind.u64.wrap (rd x1 x74)))))) 4294967295))) - x10)) / 9223372036854775808) ((IntKind.u64.wrap (x11 + (IntKind.u64.wrap (x8 * (IntKind.u64.wrap (rd x1 x74)))))) / 4294967296) x73 (wrap64 (x74 + 1))) else (none)) else (none)) else (none)) else (if 0 ≤ x74 then (if x74 < (x0.length : Int) then (nat_step.l1 k (x0.set (x74 : Int).toNat ((IntKind.u64.wrap ((IntKind.u64.wrap ((IntKind.u64.wrap (rd x0 x74)) - (Go.bits .and .u64 x11 4294967295))) - x10)) % 4294967296)) x1 x5 x8 ((IntKind.u64.wrap ((IntKind.u64.wrap ((IntKind.u64.wrap (rd x0 x74)) - (Go.bits .and .u64 x11 4294967295))) - x10)) / 9223372036854775808) (x11 / 4294967296) x73 (wrap64 (x74 + 1))) else (none)) else (none))) else (if x10 = 0 then (some ((x8) % 4294967296, x0)) else (nat_step.l2 k x0 x1 x5 x8 0 (x0.length : Int) 0))
def nat_step.l2 : Nat → List Int → List Int → Int → Int → Int → Int → Int → Option (Int × List Int)
 | 0, _, _, _, _, _, _, _ => none
 | k + 1, x0, x1, x5, x8, x14, x114, x115 => if x115 < x114 then (if x115 < x5 then (if 0 ≤ x115 then (if x115 < (x1.length : Int) then (if x115 < (x0.length : Int) then (nat_step.l2 k (x0.set (x115 : Int).toNat ((IntKind.u64.wrap ((IntKind.u64.wrap (x14 + (IntKind.u64.wrap (rd x1 x115)))) + (IntKind.u64.wrap (rd x0 x115)))) % 4294967296)) x1 x5 x8 ((IntKind.u64.wrap ((IntKind.u64.wrap (x14 + (IntKind.u64.wrap (rd x1 x115)))) + (IntKind.u64.wrap (rd x0 x115)))) / 4294967296) x114 (wrap64 (x115 + 1))) else (none)) else (none)) else (none)) else (if 0 ≤ x115 then (if x115 < (x0.length : Int) then (nat_step.l2 k (x0.set (x115 : Int).toNat ((IntKind.u64.wrap (x14 + (IntKind.u64.wrap (rd x0 x115)))) % 4294967296)) x1 x5 x8 ((IntKind.u64.wrap (x14 + (IntKind.u64.wrap (rd x0 x115)))) / 4294967296) x114 (wrap64 (x115 + 1))) else (none)) else (none))) else (some ((IntKind.u64.wrap (x8 - 1)) % 4294967296, x0))
def nat_step.l0 : Nat → List Int → List Int → Int → Int → Int → Int → Option (Int × List Int)
 | 0, _, _, _, _, _, _ => none
 | k + 1, x0, x1, x5, x7, x8, x9 => if x8 ≥ 4294967296 then (nat_step.j1 k x0 x1 x5 x7 x8 x9 true) else (if 0 ≤ (wrap64 (x5 - 2)) then (if (wrap64 (x5 - 2)) < (x1.length : Int) then (if (wrap64 (x5 - 2)) < (x0.length : Int) then (nat_step.j1 k x0 x1 x5 x7 x8 x9 (decide ((IntKind.u64.wrap (x8 * (IntKind.u64.wrap (rd x1 (wrap64 (x5 - 2)))))) > (Go.bits .or .u64 (IntKind.u64.wrap (x9 * 4294967296)) (IntKind.u64.wrap (rd x0 (wrap64 (x5 - 2)))))))) else (none)) else (none)) else (none))
def nat_step.j1 : Nat → List Int → List Int → Int → Int → Int → Int → Bool → Option (Int × List Int)
 | 0, _, _, _, _, _, _, _ => none
 | k + 1, x0, x1, x5, x7, x8, x9, x64 => if x64 = true then (if (IntKind.u64.wrap (x9 + x7)) ≥ 4294967296 then (nat_step.j2 k x0 x1 x5 (IntKind.u64.wrap (x8 - 1))) else (nat_step.l0 k x0 x1 x5 x7 (IntKind.u64.wrap (x8 - 1)) (IntKind.u64.wrap (x9 + x7)))) else (nat_step.j2 k x0 x1 x5 x8)
end
def nat_step.f (k : Nat) (l0 : List Int) (l1 : List Int) : Option (Int × List Int) := if 0 ≤ (l1.length : Int) then (if (l1.length : Int) < (l0.length : Int) then (if 0 ≤ (wrap64 ((l1.length : Int) - 1)) then (if (wrap64 ((l1.length : Int) - 1)) < (l0.length : Int) then (if (wrap64 ((l1.length : Int) - 1)) < (l1.length : Int) then (if (IntKind.u64.wrap (rd l1 (wrap64 ((l1.length : Int) - 1)))) = 0 then (none) else (nat_step.l0 k l0 l1 (l1.length : Int) (IntKind.u64.wrap (rd l1 (wrap64 ((l1.length : Int) - 1)))) (IntKind.u64.wrap (Int.tdiv (Go.bits .or .u64 (IntKind.u64.wrap ((IntKind.u64.wrap (rd l0 (l1.length : Int))) * 4294967296)) (IntKind.u64.wrap (rd l0 (wrap64 ((l1.length : Int) - 1))))) (IntKind.u64.wrap (rd l1 (wrap64 ((l1.length : Int) - 1)))))) (Int.tmod (Go.bits .or .u64 (IntKind.u64.wrap ((IntKind.u64.wrap (rd l0 (l1.length : Int))) * 4294967296)) (IntKind.u64.wrap (rd l0 (wrap64 ((l1.length : Int) - 1))))) (IntKind.u64.wrap (rd l1 (wrap64 ((l1.length : Int) - 1))))))) else (none)) else (none)) else (none)) else (none)) else (none)
theorem nat_step.mono_l : ∀ k, (∀ y0 y1 y2 y3, LeO (nat_step.j2 k y0 y1 y2 y3) (nat_step.j2 (k + 1) y0 y1 y2 y3)) ∧ (∀ y0 y1 y2 y3 y4 y5 y6 y7, LeO (nat_step.l1 k y0 y1 y2 y3 y4 y5 y6 y7) (nat_step.l1 (k + 1) y0 y1 y2 y3 y4 y5 y6 y7)) ∧ (∀ y0 y1 y2 y3 y4 y5 y6, LeO (nat_step.l2 k y0 y1 y2 y3 y4 y5 y6) (nat_step.l2 (k + 1) y0 y1 y2 y3 y4 y5 y6)) ∧ (∀ y0 y1 y2 y3 y4 y5, LeO (nat_step.l0 k y0 y1 y2 y3 y4 y5) (nat_step.l0 (k + 1) y0 y1 y2 y3 y4 y5)) ∧ (∀ y0 y1 y2 y3 y4 y5 y6, LeO (nat_step.j1 k y0 y1 y2 y3 y4 y5 y6) (nat_step.j1 (k + 1) y0 y1 y2 y3 y4 y5 y6))
 | 0 => ⟨fun _ _ _ _ r h => by simp [nat_step.j2] at h, fun _ _ _ _ _ _ _ _ r h => by simp [nat_step.l1] at h, fun _ _ _ _ _ _ _ r h => by simp [nat_step.l2] at h, fun _ _ _ _ _ _ r h => by simp [nat_step.l0] at h, fun _ _ _ _ _ _ _ r h => by simp [nat_step.j1] at h⟩
 | k + 1 => by
  obtain ⟨ih0, ih1, ih2, ih3, ih4⟩ := nat_step.mono_l k
  refine ⟨?_, ?_, ?_, ?_, ?_⟩
  ·intro y0 y1 y2 y3
   unfold nat_step.j2
   repeat' with_reducible first | exact ih0 _ _ _ _ | exact ih1 _ _ _ _ _ _ _ _ | exact ih2 _ _ _ _ _ _ _ | exact ih3 _ _ _ _ _ _ | exact ih4 _ _ _ _ _ _ _ | exact LeO.refl _ | exact LeO.none _ | refine LeO.ite ?_ ?_ | refine LeO.bind ?_ (fun _ => ?_)
  ·intro y0 y1 y2 y3 y4 y5 y6 y7
   unfold nat_step.l1
   repeat' with_reducible first | exact ih0 _ _ _ _ | exact ih1 _ _ _ _ _ _ _ _ | exact ih2 _ _ _ _ _ _ _ | exact ih3 _ _ _ _ _ _ | exact ih4 _ _ _ _ _ _ _ | exact LeO.refl _ | exact LeO.none _ | refine LeO.ite ?_ ?_ | refine LeO.bind ?_ (fun _ => ?_)
  ·intro y0 y1 y2 y3 y4 y5 y6
   unfold nat_step.l2
   repeat' with_reducible first | exact ih0 _ _ _ _ | exact ih1 _ _ _ _ _ _ _ _ | exact ih2 _ _ _ _ _ _ _ | exact ih3 _ _ _ _ _ _ | exact ih4 _ _ _ _ _ _ _ | exact LeO.refl _ | exact LeO.none _ | refine LeO.ite ?_ ?_ | refine LeO.bind ?_ (fun _ => ?_)
  ·intro y0 y1 y2 y3 y4 y5
   unfold nat_step.l0
   repeat' with_reducible first | exact ih0 _ _ _ _ | exact ih1 _ _ _ _ _ _ _ _ | exact ih2 _ _ _ _ _ _ _ | exact ih3 _ _ _ _ _ _ | exact ih4 _ _ _ _ _ _ _ | exact LeO.refl _ | exact LeO.none _ | refine LeO.ite ?_ ?_ | refine LeO.bind ?_ (fun _ => ?_)
  ·intro y0 y1 y2 y3 y4 y5 y6
   unfold nat_step.j1
   repeat' with_reducible first | exact ih0 _ _ _ _ | exact ih1 _ _ _ _ _ _ _ _ | exact ih2 _ _ _ _ _ _ _ | exact ih3 _ _ _ _ _ _ | exact ih4 _ _ _ _ _ _ _ | exact LeO.refl _ | exact LeO.none _ | refine LeO.ite ?_ ?_ | refine LeO.bind ?_ (fun _ => ?_)
theorem nat_step.mono : ∀ a0 a1 k, LeO (nat_step.f k a0 a1) (nat_step.f (k + 1) a0 a1) := by
 intro a0 a1 k
 obtain ⟨ih0, ih1, ih2, ih3, ih4⟩ := nat_step.mono_l k
 unfold nat_step.f
 repeat' with_reducible first | exact ih0 _ _ _ _ | exact ih1 _ _ _ _ _ _ _ _ | exact ih2 _ _ _ _ _ _ _ | exact ih3 _ _ _ _ _ _ | exact ih4 _ _ _ _ _ _ _ | exact LeO.refl _ | exact LeO.none _ | refine LeO.ite ?_ ?_ | refine LeO.bind ?_ (fun _ => ?_)
set_option maxHeartbeats 8000000 in
set_option maxRecDepth 100000 in
theorem nat_step.win (k : Nat) (P0_ : Nat → Prop) (gW oW nW cW kW : Nat) (preW postW : List Int) (l0 : List Int) (A1 : Option Addr) (c1 : Nat) (l1 : List Int) (r1 : Int) (r2 : List Int) (w0 w : World) (hB : Below w0.heap.size w0 w) (ho0 : WR gW oW nW cW preW postW l0.length w w0.heap.size P0_ l0) (hr1 : ∀ W_, Kept w W_ (fun k_ => P0_ k_) → Kd.C (Kd.int .u32) W_ A1 l1.length l1) (hc1 : l1.length ≤ c1) (H : nat_step.f k l0 l1 = some (r1, r2)) :
  Calls Try.prog 114 #[.slice (some ⟨gW, oW, none⟩) l0.length kW, .slice A1 l1.length c1] w fun e w' => e = .returned (.int .u32 r1) ∧ WR gW oW nW cW preW postW l0.length w' w0.heap.size (fun k_ => (P0_ k_ ∨ w.heap.size ≤ k_)) r2 ∧ Below w0.heap.size w0 w' ∧ Kept w w' (fun k_ => P0_ k_) := by
 have HO0 := Aside0.mk (show WR gW oW nW cW preW postW l0.length w w0.heap.size (fun k_ => (P0_ k_ ∨ w.heap.size ≤ k_)) l0 from WR_mono ho0 (fun k_ hk => (.inl hk)))
 have HR1 := Aside0.mk hr1
 have HC1 := Aside0.mk hc1
 clear hr1 hc1
 have HK := Aside0.mk (Kept.refl w (fun k_ => P0_ k_))
 have HW0 := Aside0.mk hB.size
 have HB := Aside0.mk hB
 clear hB
 unfold nat_step.f at H
 replace H := iS H
 obtain ⟨c3, H⟩ := H
 have c3b0 : decide (0 ≤ (l1.length : Int)) = true := decide_eq_true c3
 have c3b1 : decide (0 ≤ l1.length) = true := decide_eq_true (by omega)
 clear c3
 replace H := iS H
 obtain ⟨c4, H⟩ := H
 have c4b0 : decide ((l1.length : Int) < (l0.length : Int)) = true := decide_eq_true c4
 have c4b1 : decide (l1.length < l0.length) = true := decide_eq_true (Int.ofNat_lt.mp c4)
 clear c4
 obtain ⟨ji5, hji5⟩ : ∃ j_ : Int, (wrap64 ((l1.length : Int) - 1)) = j_ := ⟨_, rfl⟩
 replace H : (if 0 ≤ (ji5) then (if (ji5) < (l0.length : Int) then (if (ji5) < (l1.length : Int) then (if (IntKind.u64.wrap (rd l1 (ji5))) = 0 then (none) else (nat_step.l0 k l0 l1 (l1.length : Int) (IntKind.u64.wrap (rd l1 (ji5))) (IntKind.u64.wrap (Int.tdiv (Go.bits .or .u64 (IntKind.u64.wrap ((IntKind.u64.wrap (rd l0 (l1.length : Int))) * 4294967296)) (IntKind.u64.wrap (rd l0 (ji5)))) (IntKind.u64.wrap (rd l1 (ji5))))) (Int.tmod (Go.bits .or .u64 (IntKind.u64.wrap ((IntKind.u64.wrap (rd l0 (l1.length : Int))) * 4294967296)) (IntKind.u64.wrap (rd l0 (ji5)))) (IntKind.u64.wrap (rd l1 (ji5)))))) else (none)) else (none)) else (none)) = some (r1, r2) := by first | (rw [hji5] at H; exact H) | (simp only [hji5] at H ⊢; exact H)
 have hji5w : (IntKind.i64.wrap ((l1.length : Int) - 1)) = ji5 := (i64_w _).trans hji5
 replace H := iS H
 obtain ⟨c6, H⟩ := H
 have c6b0 : decide (0 ≤ (ji5)) = true := decide_eq_true c6
 clear c6
 replace H := iS H
 obtain ⟨c7, H⟩ := H
 have c7b0 : decide ((ji5) < (l0.length : Int)) = true := decide_eq_true c7
 clear c7
 replace H := iS H
 obtain ⟨c8, H⟩ := H
 have c8b0 : decide ((ji5) < (l1.length : Int)) = true := decide_eq_true c8
 clear c8
 replace H := iN H
 obtain ⟨c9, H⟩ := H
 obtain ⟨c9b0, c9b1⟩ := bqF c9
 have HC10 := Aside0.mk H
 clear H
 have p101 : 0 ≤ ((l1.length : Int) : Int) := of_decide_eq_true asm
 have q101 : (l1.length : Int) < (l0.length : Int) := of_decide_eq_true asm
 have hx101_0 := (WR_cell HO0.out (l1.length : Int) p101 q101).1
 (try simp only [Go.IntWalk.toNatUp] at hx101_0)
 replace p101 := eq_true p101
 replace q101 := eq_true q101
 have p102 : 0 ≤ ((ji5) : Int) := of_decide_eq_true asm
 have q102 : (ji5) < (l0.length : Int) := of_decide_eq_true asm
 have hx102_0 := (WR_cell HO0.out (ji5) p102 q102).1
 replace p102 := eq_true p102
 replace q102 := eq_true q102
 have p103 : 0 ≤ ((ji5) : Int) := of_decide_eq_true asm
 have q103 : (ji5) < (l1.length : Int) := of_decide_eq_true asm
 obtain ⟨ad103, e103, hx103_0⟩ := Kd.at_int (Kd.C_kept_now HR1.out HK.out) (ji5) p103 q103
 cases e103
 replace p103 := eq_true p103
 replace q103 := eq_true q103
 go_enter Try.func114, Try.ntmps114
 go_upto_block 0 with (fail)
 repeat (go_quiet (fail); go_upto_block 0 with (fail))
 go_cut [8] (fun v8 wc => ∃ (kq : Nat) (x8_9 : Int), v8 = .int .u64 x8_9 ∧ Aside0 (nat_step.j2 kq l0 l1 (l1.length : Int) x8_9 = some (r1, r2)) ∧ Aside0 (kq ≤ k) ∧ Aside0 (WR gW oW nW cW preW postW l0.length wc w0.heap.size (fun k_ => (P0_ k_ ∨ w.heap.size ≤ k_)) l0) ∧ Aside0 (Kept w wc (fun k_ => P0_ k_)) ∧ Aside0 (Below w0.heap.size w0 wc))
 case first =>
  have H := HC10.out
  clear HC10
  have H' := Aside0.mk H
  clear H
  go_wp2
  repeat (go_quiet (fail); try go_wp2)
  go_loopg [8, 9] k (fun kq v8 v9 w' => ∃ (x8_1 : Int) (x9_1 : Int), v8 = .int .u64 x8_1 ∧ v9 = .int .u64 x9_1 ∧ Aside0 (nat_step.l0 kq l0 l1 (l1.length : Int) (IntKind.u64.wrap (rd l1 (ji5))) x8_1 x9_1 = some (r1, r2)) ∧ Aside0 (kq ≤ k) ∧ Aside0 (WR gW oW nW cW preW postW l0.length w' w0.heap.size (fun k_ => (P0_ k_ ∨ w.heap.size ≤ k_)) l0) ∧ Aside0 (Kept w w' (fun k_ => P0_ k_)) ∧ Aside0 (Below w0.heap.size w0 w'))
  case atStart => exact ⟨(IntKind.u64.wrap (Int.tdiv (Go.bits .or .u64 (IntKind.u64.wrap ((IntKind.u64.wrap (rd l0 (l1.length : Int))) * 4294967296)) (IntKind.u64.wrap (rd l0 (ji5)))) (IntKind.u64.wrap (rd l1 (ji5))))), (Int.tmod (Go.bits .or .u64 (IntKind.u64.wrap ((IntKind.u64.wrap (rd l0 (l1.length : Int))) * 4294967296)) (IntKind.u64.wrap (rd l0 (ji5)))) (IntKind.u64.wrap (rd l1 (ji5)))), (by first | rfl | (simp; done) | (simp only [← hji5] <;> (first | rfl | simp)) | (simp [*]; done)), (by first | rfl | (simp; done) | (simp only [← hji5] <;> (first | rfl | simp)) | (simp [*]; done)), H', ⟨Nat.le_refl _⟩, ⟨by (with_reducible repeat (first | apply WR_alloc | apply WR_drewN | apply WR_drew)); exact HO0.out⟩, ⟨hK0⟩, ⟨bup HB.out⟩⟩
  case round =>
   clear H'
   try clear c1
   try clear p1
   try clear q1
   try clear hx1
   try clear p2
   try clear c3
   try clear c3b0
   try clear c3b1
   try clear c4
   try clear c4b0
   try clear c4b1
   try clear c6
   try clear c6b0
   try clear p6
   try clear c7
   try clear c7b0
   try clear c8
   try clear c8b0
   try clear c9
   try clear c9b0
   try clear c9b1
   try clear p10
   try clear q10
   try clear hx10
   try clear c11
   try clear hx101_0
   try clear hx102_0
   try clear hx103_0
   try clear p101
   try clear p102
   try clear p103
   try clear q101
   try clear q102
   try clear q103
   obtain ⟨x8_1, x9_1, rfl, rfl, HA, HK1, HO_0, HK, HB⟩ := hrel
   cases gk with
   | zero => exact absurd HA.out (by simp [nat_step.l0])
   | succ k1 =>
    have H := HA.out
    clear HA
    simp only [nat_step.l0] at H
    have HC12 := Aside0.mk H
    clear H
    go_upto_region 5 with (fail)
    repeat (go_quiet (fail); go_upto_region 5 with (fail))
    go_cut [64] (fun v64 wc => ∃ (kq : Nat) (x64_11 : Bool), v64 = .bool x64_11 ∧ Aside0 (nat_step.j1 kq l0 l1 (l1.length : Int) (IntKind.u64.wrap (rd l1 (ji5))) x8_1 x9_1 x64_11 = some (r1, r2)) ∧ Aside0 (kq ≤ k1) ∧ Aside0 (WR gW oW nW cW preW postW l0.length wc w0.heap.size (fun k_ => (P0_ k_ ∨ w.heap.size ≤ k_)) l0) ∧ Aside0 (Kept w wc (fun k_ => P0_ k_)) ∧ Aside0 (Below w0.heap.size w0 wc))
    case first =>
     have H := HC12.out
     clear HC12
     by_cases c13 : x8_1 ≥ 4294967296
     ·rw [if_pos c13] at H
      have c13b0 : decide (4294967296 ≤ x8_1) = true := decide_eq_true c13
      clear c13
      (first | rw [c13b0] | (simp only [i64_w, i32_w]; rw [c13b0]) | skip)
      have H' := Aside0.mk H
      clear H
      go_wp2
      repeat (go_quiet (fail); try go_wp2)
      go_meet
      case rel => exact ⟨_, (true), rS, H', ⟨hk1⟩, ⟨by (with_reducible repeat (first | apply WR_alloc | apply WR_drewN | apply WR_drew)); exact HO_0.out⟩, ⟨hK0⟩, ⟨bup HB.out⟩⟩
     rw [if_neg c13] at H
     have c13b0 : decide (4294967296 ≤ x8_1) = false := decide_eq_false c13
     clear c13
     (first | rw [c13b0] | (simp only [i64_w, i32_w]; rw [c13b0]) | skip)
     obtain ⟨ji14, hji14⟩ : ∃ j_ : Int, (wrap64 ((l1.length : Int) - 2)) = j_ := ⟨_, rfl⟩
     replace H : (if 0 ≤ (ji14) then (if (ji14) < (l1.length : Int) then (if (ji14) < (l0.length : Int) then (nat_step.j1 k1 l0 l1 (l1.length : Int) (IntKind.u64.wrap (rd l1 (ji5))) x8_1 x9_1 (decide ((IntKind.u64.wrap (x8_1 * (IntKind.u64.wrap (rd l1 (ji14))))) > (Go.bits .or .u64 (IntKind.u64.wrap (x9_1 * 4294967296)) (IntKind.u64.wrap (rd l0 (ji14))))))) else (none)) else (none)) else (none)) = some (r1, r2) := by first | (rw [hji14] at H; exact H) | (simp only [hji14] at H ⊢; exact H)
     have hji14w : (IntKind.i64.wrap ((l1.length : Int) - 2)) = ji14 := (i64_w _).trans hji14
     replace H := iS H
     obtain ⟨c15, H⟩ := H
     have c15b0 : decide (0 ≤ (ji14)) = true := decide_eq_true c15
     clear c15
     replace H := iS H
     obtain ⟨c16, H⟩ := H
     have c16b0 : decide ((ji14) < (l1.length : Int)) = true := decide_eq_true c16
     clear c16
     replace H := iS H
     obtain ⟨c17, H⟩ := H
     have c17b0 : decide ((ji14) < (l0.length : Int)) = true := decide_eq_true c17
     clear c17
     have H' := Aside0.mk H
     clear H
     have p104 : 0 ≤ ((ji14) : Int) := of_decide_eq_true asm
     have q104 : (ji14) < (l1.length : Int) := of_decide_eq_true asm
     obtain ⟨ad104, e104, hx104_0⟩ := Kd.at_int (Kd.C_kept_now HR1.out HK.out) (ji14) p104 q104
     obtain rfl : ad103 = ad104 := (by injection e104)
     replace p104 := eq_true p104
     replace q104 := eq_true q104
     have p105 : 0 ≤ ((ji14) : Int) := of_decide_eq_true asm
     have q105 : (ji14) < (l0.length : Int) := of_decide_eq_true asm
     have hx105_0 := (WR_cell HO_0.out (ji14) p105 q105).1
     replace p105 := eq_true p105
     replace q105 := eq_true q105
     go_wp2
     repeat (go_quiet (fail); try go_wp2)
     go_meet
     case rel => exact ⟨_, (decide ((IntKind.u64.wrap (x8_1 * (IntKind.u64.wrap (rd l1 (ji14))))) > (Go.bits .or .u64 (IntKind.u64.wrap (x9_1 * 4294967296)) (IntKind.u64.wrap (rd l0 (ji14)))))), (by first | rfl | (simp; done) | (simp only [← hji14] <;> (first | rfl | simp)) | (simp [*]; done)), H', ⟨hk1⟩, ⟨by (with_reducible repeat (first | apply WR_alloc | apply WR_drewN | apply WR_drew)); exact HO_0.out⟩, ⟨hK0⟩, ⟨bup HB.out⟩⟩
    case rest =>
     clear HC12
     try clear c1
     try clear p1
     try clear q1
     try clear hx1
     try clear p2
     try clear c3
     try clear c3b0
     try clear c3b1
     try clear c4
     try clear c4b0
     try clear c4b1
     try clear c6
     try clear c6b0
     try clear p6
     try clear c7
     try clear c7b0
     try clear c8
     try clear c8b0
     try clear c9
     try clear c9b0
     try clear c9b1
     try clear p10
     try clear q10
     try clear hx10
     try clear c11
     try clear c13
     try clear c13b0
     try clear c15
     try clear c15b0
     try clear c16
     try clear c16b0
     try clear c17
     try clear c17b0
     try clear hx101_0
     try clear hx102_0
     try clear hx103_0
     try clear hx104_0
     try clear hx105_0
     try clear p1
     try clear p10
     try clear p101
     try clear p102
     try clear p103
     try clear p104
     try clear p105
     try clear p2
     try clear p6
     try clear q1
     try clear q10
     try clear q101
     try clear q102
     try clear q103
     try clear q104
     try clear q105
     obtain ⟨kq, x64_11, rfl, HA, HJ11, HO_0, HK, HB⟩ := hcut
     cases kq with
     | zero => exact absurd HA.out (by simp [nat_step.j1])
     | succ kj11 =>
      have H := HA.out
      clear HA
      simp only [nat_step.j1] at H
      by_cases c18 : x64_11 = true
      ·subst c18
       replace H := ifT H
       by_cases c19 : (IntKind.u64.wrap (x9_1 + (IntKind.u64.wrap (rd l1 (ji5))))) ≥ 4294967296
       ·rw [if_pos c19] at H
        have c19b0 : decide (4294967296 ≤ (IntKind.u64.wrap (x9_1 + (IntKind.u64.wrap (rd l1 (ji5)))))) = true := decide_eq_true c19
        clear c19
        have H' := Aside0.mk H
        clear H
        go_wp2
        repeat (go_quiet (fail); try go_wp2)
        go_meet
        case rel => exact ⟨_, (IntKind.u64.wrap (x8_1 - 1)), rS, H', ⟨by have := HK1.out; have := HJ11.out; first | omega | exact Nat.le_refl _⟩, ⟨by (with_reducible repeat (first | apply WR_alloc | apply WR_drewN | apply WR_drew)); exact HO_0.out⟩, ⟨hK0⟩, ⟨bup HB.out⟩⟩
       rw [if_neg c19] at H
       have c19b0 : decide (4294967296 ≤ (IntKind.u64.wrap (x9_1 + (IntKind.u64.wrap (rd l1 (ji5)))))) = false := decide_eq_false c19
       clear c19
       have H' := Aside0.mk H
       clear H
       go_wp2
       repeat (go_quiet (fail); try go_wp2)
       go_roundg kj11
       case measure => have := HK1.out; have := HJ11.out; omega
       case rel => exact ⟨(IntKind.u64.wrap (x8_1 - 1)), (IntKind.u64.wrap (x9_1 + (IntKind.u64.wrap (rd l1 (ji5))))), rS, (by first | rfl | (simp; done) | (simp only [← hji5] <;> (first | rfl | simp)) | (simp [*]; done)), H', ⟨by have := HK1.out; have := HJ11.out; omega⟩, ⟨by (with_reducible repeat (first | apply WR_alloc | apply WR_drewN | apply WR_drew)); exact HO_0.out⟩, ⟨hK0⟩, ⟨bup HB.out⟩⟩
      ·replace c18 := Bool.eq_false_iff.mpr c18
       subst c18
       have H1 : (nat_step.j2 kj11 l0 l1 (l1.length : Int) x8_1) = some (r1, r2) := by rw [if_neg (show ¬ (false = true) by decide)] at H; exact H
       clear H
       have H := H1
       clear H1
       have H' := Aside0.mk H
       clear H
       go_wp2
       repeat (go_quiet (fail); try go_wp2)
       go_meet
       case rel => exact ⟨_, (x8_1), rS, H', ⟨by have := HK1.out; have := HJ11.out; first | omega | exact Nat.le_refl _⟩, ⟨by (with_reducible repeat (first | apply WR_alloc | apply WR_drewN | apply WR_drew)); exact HO_0.out⟩, ⟨hK0⟩, ⟨bup HB.out⟩⟩
 case rest =>
  clear HC10
  try clear c1
  try clear p1
  try clear q1
  try clear hx1
  try clear p2
  try clear c3
  try clear c3b0
  try clear c3b1
  try clear c4
  try clear c4b0
  try clear c4b1
  try clear c6
  try clear c6b0
  try clear p6
  try clear c7
  try clear c7b0
  try clear c8
  try clear c8b0
  try clear c9
  try clear c9b0
  try clear c9b1
  try clear p10
  try clear q10
  try clear hx10
  try clear c11
  try clear c13
  try clear c13b0
  try clear c15
  try clear c15b0
  try clear c16
  try clear c16b0
  try clear c17
  try clear c17b0
  try clear c18
  try clear c19
  try clear c19b0
  try clear hx101_0
  try clear hx102_0
  try clear hx103_0
  try clear hx104_0
  try clear hx105_0
  try clear p1
  try clear p10
  try clear p101
  try clear p102
  try clear p103
  try clear p104
  try clear p105
  try clear p2
  try clear p6
  try clear q1
  try clear q10
  try clear q101
  try clear q102
  try clear q103
  try clear q104
  try clear q105
  obtain ⟨kq, x8_9, rfl, HA, HJ9, HO_0, HK, HB⟩ := hcut
  cases kq with
  | zero => exact absurd HA.out (by simp [nat_step.j2])
  | succ kj9 =>
   have H := HA.out
   clear HA
   simp only [nat_step.j2] at H
   have H' := Aside0.mk H
   clear H
   go_wp2
   repeat (go_quiet (fail); try go_wp2)
   go_loopg [10, 11, 74] kj9 (fun kq v10 v11 v74 w' => ∃ (x0_2 : List Int) (x10_2 : Int) (x11_2 : Int) (x74_2 : Int), v10 = .int .u64 x10_2 ∧ v11 = .int .u64 x11_2 ∧ v74 = .int .i64 x74_2 ∧ Aside0 (nat_step.l1 kq x0_2 l1 (l1.length : Int) x8_9 x10_2 x11_2 (l0.length : Int) x74_2 = some (r1, r2)) ∧ Aside0 (kq ≤ kj9) ∧ Aside0 (WR gW oW nW cW preW postW l0.length w' w0.heap.size (fun k_ => (P0_ k_ ∨ w.heap.size ≤ k_)) x0_2) ∧ Aside0 (Kept w w' (fun k_ => P0_ k_)) ∧ Aside0 (Below w0.heap.size w0 w'))
   case atStart => exact ⟨(l0), (0), (0), (0), rS, rS, rS, H', ⟨Nat.le_refl _⟩, ⟨by (with_reducible repeat (first | apply WR_alloc | apply WR_drewN | apply WR_drew)); exact HO_0.out⟩, ⟨hK0⟩, ⟨bup HB.out⟩⟩
   case round =>
    clear H'
    try clear c1
    try clear p1
    try clear q1
    try clear hx1
    try clear p2
    try clear c3
    try clear c3b0
    try clear c3b1
    try clear c4
    try clear c4b0
    try clear c4b1
    try clear c6
    try clear c6b0
    try clear p6
    try clear c7
    try clear c7b0
    try clear c8
    try clear c8b0
    try clear c9
    try clear c9b0
    try clear c9b1
    try clear p10
    try clear q10
    try clear hx10
    try clear c11
    try clear c13
    try clear c13b0
    try clear c15
    try clear c15b0
    try clear c16
    try clear c16b0
    try clear c17
    try clear c17b0
    try clear c18
    try clear c19
    try clear c19b0
    try clear hx101_0
    try clear hx102_0
    try clear hx103_0
    try clear hx104_0
    try clear hx105_0
    try clear p1
    try clear p10
    try clear p101
    try clear p102
    try clear p103
    try clear p104
    try clear p105
    try clear p2
    try clear p6
    try clear q1
    try clear q10
    try clear q101
    try clear q102
    try clear q103
    try clear q104
    try clear q105
    obtain ⟨x0_2, x10_2, x11_2, x74_2, rfl, rfl, rfl, HA, HK2, HO_0, HK, HB⟩ := hrel
    have hl0_2 := WR_len HO_0.out
    rw [hl0_2] at HO_0
    (try simp only [hl0_2])
    cases gk with
    | zero => exact absurd HA.out (by simp [nat_step.l1])
    | succ k2 =>
     have H := HA.out
     clear HA
     simp only [nat_step.l1] at H
     by_cases c20 : x74_2 < (l0.length : Int)
     ·rw [if_pos c20] at H
      have c20b0 : decide (x74_2 < (l0.length : Int)) = true := decide_eq_true c20
      clear c20
      by_cases c21 : x74_2 < (l1.length : Int)
      rotate_left
      ·rw [if_neg c21] at H
       have c21b0 : decide (x74_2 < (l1.length : Int)) = false := decide_eq_false c21
       clear c21
       replace H := iS H
       obtain ⟨c28, H⟩ := H
       have c28b0 : decide (0 ≤ x74_2) = true := decide_eq_true c28
       clear c28
       replace H := iS H
       obtain ⟨c29, H⟩ := H
       have c29b0 : decide (x74_2 < (x0_2.length : Int)) = true := decide_eq_true c29
       clear c29
       obtain ⟨y110, hy110⟩ : ∃ y_ : List Int, y_ = (x0_2.set (x74_2 : Int).toNat ((IntKind.u64.wrap ((IntKind.u64.wrap ((IntKind.u64.wrap (rd x0_2 x74_2)) - (Go.bits .and .u64 x11_2 4294967295))) - x10_2)) % 4294967296)) := ⟨_, rfl⟩
       replace H : (nat_step.l1 k2 y110 l1 (l1.length : Int) x8_9 ((IntKind.u64.wrap ((IntKind.u64.wrap ((IntKind.u64.wrap (rd x0_2 x74_2)) - (Go.bits .and .u64 x11_2 4294967295))) - x10_2)) / 9223372036854775808) (x11_2 / 4294967296) (l0.length : Int) (wrap64 (x74_2 + 1))) = some (r1, r2) := by first | (rw [hy110]; with_reducible exact H) | (have H2_ := (Option.bind_some _ _).symm.trans H; rw [hy110]; with_reducible exact H2_) | (have H2_ := (Option.bind_some _ _).symm.trans H; with_reducible exact H2_) | with_reducible exact H | (rw [hy110]; exact H) | exact H
       have Ny110 := Aside0.mk hy110
       clear hy110
       have H' := Aside0.mk H
       clear H
       have p109 : 0 ≤ (x74_2 : Int) := of_decide_eq_true asm
       have q109 : x74_2 < (x0_2.length : Int) := of_decide_eq_true asm
       have hx109_0 := (WR_cell HO_0.out x74_2 p109 q109).1
       replace p109 := eq_true p109
       replace q109 := eq_true q109
       have p30 : 0 ≤ (x74_2 : Int) := of_decide_eq_true asm
       have q30 : (x74_2 : Int) < ((x0_2.length : Int) : Int) := of_decide_eq_true asm
       have gb30 := WR_base HO_0.out
       have GB30 := Aside0.mk gb30
       clear gb30
       obtain ⟨hx30_0, hf30_0⟩ := WR_cell HO_0.out (x74_2 : Int) p30 q30
       replace p30 := eq_true p30
       replace q30 := eq_true q30
       have HP31 := WR_putg HO_0.out (x74_2 : Int) (of_eq_true p30) (of_eq_true q30) ((IntKind.u64.wrap ((IntKind.u64.wrap ((IntKind.u64.wrap (rd x0_2 x74_2)) - (Go.bits .and .u64 x11_2 4294967295))) - x10_2)) % 4294967296)
       go_wp2_with (first | ((with_reducible refine gate_store (t := 118) (p := 103) rfl ?_); (try (rw [drewN_self wr]; generalize hq_ : World.drewN wr _ = wr; replace HO_0 := Aside0.mk (WR_at hq_ HO_0.out); replace HK := Aside0.mk (kept_at hq_ HK.out); replace HB := Aside0.mk (below_at hq_ HB.out); clear hq_; (try (have HP31 := WR_putg HO_0.out (x74_2 : Int) (of_eq_true p30) (of_eq_true q30) ((IntKind.u64.wrap ((IntKind.u64.wrap ((IntKind.u64.wrap (rd x0_2 x74_2)) - (Go.bits .and .u64 x11_2 4294967295))) - x10_2)) % 4294967296))))); refine store_event (t := 118) (p := 103) (v := ?vo_w32) (w1 := (wr.setCell ⟨gW, oW + (x74_2 : Int).toNat, none⟩ (.int .u32 ((IntKind.u64.wrap ((IntKind.u64.wrap ((IntKind.u64.wrap (rd x0_2 x74_2)) - (Go.bits .and .u64 x11_2 4294967295))) - x10_2)) % 4294967296)))) ?hg ?ho ?hn ?hr ?_; (case ho => rfl); (case hg => rfl); (case hn => rfl); (case hr => first | (go_simp; done) | (go_simp; rfl)); intro w32 hw; have hg : wr.grownBy w32 (some gW) := (by rw [hw]; exact HP31.2); have hp_ : WR gW oW nW cW preW postW x0_2.length w32 w0.heap.size (fun k_ => (P0_ k_ ∨ w.heap.size ≤ k_)) y110 := (by rw [hw, Ny110.out]; exact HP31.1); clear HP31; replace HB := Aside0.mk ((by rw [hw]; exact below_set (HB.out) GB30.out : Below w0.heap.size w0 w32)); replace HK := Aside0.mk (Kept.of_grown (S := (fun k_ => P0_ k_)) hg hK0 (fun k_ e_ => WR_own' HO_0.out k_ e_)); replace HO_0 := Aside0.mk (hp_); clear hg hw hp_))
       repeat (go_quiet (first | ((with_reducible refine gate_store (t := 118) (p := 103) rfl ?_); (try (rw [drewN_self wr]; generalize hq_ : World.drewN wr _ = wr; replace HO_0 := Aside0.mk (WR_at hq_ HO_0.out); replace HK := Aside0.mk (kept_at hq_ HK.out); replace HB := Aside0.mk (below_at hq_ HB.out); clear hq_; (try (have HP31 := WR_putg HO_0.out (x74_2 : Int) (of_eq_true p30) (of_eq_true q30) ((IntKind.u64.wrap ((IntKind.u64.wrap ((IntKind.u64.wrap (rd x0_2 x74_2)) - (Go.bits .and .u64 x11_2 4294967295))) - x10_2)) % 4294967296))))); refine store_event (t := 118) (p := 103) (v := ?vo_w32) (w1 := (wr.setCell ⟨gW, oW + (x74_2 : Int).toNat, none⟩ (.int .u32 ((IntKind.u64.wrap ((IntKind.u64.wrap ((IntKind.u64.wrap (rd x0_2 x74_2)) - (Go.bits .and .u64 x11_2 4294967295))) - x10_2)) % 4294967296)))) ?hg ?ho ?hn ?hr ?_; (case ho => rfl); (case hg => rfl); (case hn => rfl); (case hr => first | (go_simp; done) | (go_simp; rfl)); intro w32 hw; have hg : wr.grownBy w32 (some gW) := (by rw [hw]; exact HP31.2); have hp_ : WR gW oW nW cW preW postW x0_2.length w32 w0.heap.size (fun k_ => (P0_ k_ ∨ w.heap.size ≤ k_)) y110 := (by rw [hw, Ny110.out]; exact HP31.1); clear HP31; replace HB := Aside0.mk ((by rw [hw]; exact below_set (HB.out) GB30.out : Below w0.heap.size w0 w32)); replace HK := Aside0.mk (Kept.of_grown (S := (fun k_ => P0_ k_)) hg hK0 (fun k_ e_ => WR_own' HO_0.out k_ e_)); replace HO_0 := Aside0.mk (hp_); clear hg hw hp_)); try go_wp2_with (first | ((with_reducible refine gate_store (t := 118) (p := 103) rfl ?_); (try (rw [drewN_self wr]; generalize hq_ : World.drewN wr _ = wr; replace HO_0 := Aside0.mk (WR_at hq_ HO_0.out); replace HK := Aside0.mk (kept_at hq_ HK.out); replace HB := Aside0.mk (below_at hq_ HB.out); clear hq_; (try (have HP31 := WR_putg HO_0.out (x74_2 : Int) (of_eq_true p30) (of_eq_true q30) ((IntKind.u64.wrap ((IntKind.u64.wrap ((IntKind.u64.wrap (rd x0_2 x74_2)) - (Go.bits .and .u64 x11_2 4294967295))) - x10_2)) % 4294967296))))); refine store_event (t := 118) (p := 103) (v := ?vo_w32) (w1 := (wr.setCell ⟨gW, oW + (x74_2 : Int).toNat, none⟩ (.int .u32 ((IntKind.u64.wrap ((IntKind.u64.wrap ((IntKind.u64.wrap (rd x0_2 x74_2)) - (Go.bits .and .u64 x11_2 4294967295))) - x10_2)) % 4294967296)))) ?hg ?ho ?hn ?hr ?_; (case ho => rfl); (case hg => rfl); (case hn => rfl); (case hr => first | (go_simp; done) | (go_simp; rfl)); intro w32 hw; have hg : wr.grownBy w32 (some gW) := (by rw [hw]; exact HP31.2); have hp_ : WR gW oW nW cW preW postW x0_2.length w32 w0.heap.size (fun k_ => (P0_ k_ ∨ w.heap.size ≤ k_)) y110 := (by rw [hw, Ny110.out]; exact HP31.1); clear HP31; replace HB := Aside0.mk ((by rw [hw]; exact below_set (HB.out) GB30.out : Below w0.heap.size w0 w32)); replace HK := Aside0.mk (Kept.of_grown (S := (fun k_ => P0_ k_)) hg hK0 (fun k_ e_ => WR_own' HO_0.out k_ e_)); replace HO_0 := Aside0.mk (hp_); clear hg hw hp_)))
       (try simp only [← hl0_2])
       go_roundg k2
       case measure => have := HJ9.out; have := HK2.out; omega
       case rel => exact ⟨(y110), ((IntKind.u64.wrap ((IntKind.u64.wrap ((IntKind.u64.wrap (rd x0_2 x74_2)) - (Go.bits .and .u64 x11_2 4294967295))) - x10_2)) / 9223372036854775808), (x11_2 / 4294967296), (wrap64 (x74_2 + 1)), rS, rS, rS, H', ⟨by have := HJ9.out; have := HK2.out; omega⟩, ⟨by (try simp only [hl0_2]); (with_reducible repeat (first | apply WR_alloc | apply WR_drewN | apply WR_drew)); exact HO_0.out⟩, ⟨hK0⟩, ⟨bup HB.out⟩⟩
      rw [if_pos c21] at H
      have c21b0 : decide (x74_2 < (l1.length : Int)) = true := decide_eq_true c21
      clear c21
      replace H := iS H
      obtain ⟨c22, H⟩ := H
      have c22b0 : decide (0 ≤ x74_2) = true := decide_eq_true c22
      clear c22
      replace H := iS H
      obtain ⟨c23, H⟩ := H
      have c23b0 : decide (x74_2 < (l1.length : Int)) = true := decide_eq_true c23
      clear c23
      replace H := iS H
      obtain ⟨c24, H⟩ := H
      have c24b0 : decide (x74_2 < (x0_2.length : Int)) = true := decide_eq_true c24
      clear c24
      obtain ⟨y108, hy108⟩ : ∃ y_ : List Int, y_ = (x0_2.set (x74_2 : Int).toNat ((IntKind.u64.wrap ((IntKind.u64.wrap ((IntKind.u64.wrap (rd x0_2 x74_2)) - (Go.bits .and .u64 (IntKind.u64.wrap (x11_2 + (IntKind.u64.wrap (x8_9 * (IntKind.u64.wrap (rd l1 x74_2)))))) 4294967295))) - x10_2)) % 4294967296)) := ⟨_, rfl⟩
      replace H : (nat_step.l1 k2 y108 l1 (l1.length : Int) x8_9 ((IntKind.u64.wrap ((IntKind.u64.wrap ((IntKind.u64.wrap (rd x0_2 x74_2)) - (Go.bits .and .u64 (IntKind.u64.wrap (x11_2 + (IntKind.u64.wrap (x8_9 * (IntKind.u64.wrap (rd l1 x74_2)))))) 4294967295))) - x10_2)) / 9223372036854775808) ((IntKind.u64.wrap (x11_2 + (IntKind.u64.wrap (x8_9 * (IntKind.u64.wrap (rd l1 x74_2)))))) / 4294967296) (l0.length : Int) (wrap64 (x74_2 + 1))) = some (r1, r2) := by first | (rw [hy108]; with_reducible exact H) | (have H2_ := (Option.bind_some _ _).symm.trans H; rw [hy108]; with_reducible exact H2_) | (have H2_ := (Option.bind_some _ _).symm.trans H; with_reducible exact H2_) | with_reducible exact H | (rw [hy108]; exact H) | exact H
      have Ny108 := Aside0.mk hy108
      clear hy108
      have H' := Aside0.mk H
      clear H
      have p106 : 0 ≤ (x74_2 : Int) := of_decide_eq_true asm
      have q106 : x74_2 < (l1.length : Int) := of_decide_eq_true asm
      obtain ⟨ad106, e106, hx106_0⟩ := Kd.at_int (Kd.C_kept_now HR1.out HK.out) x74_2 p106 q106
      obtain rfl : ad103 = ad106 := (by injection e106)
      replace p106 := eq_true p106
      replace q106 := eq_true q106
      have p107 : 0 ≤ (x74_2 : Int) := of_decide_eq_true asm
      have q107 : x74_2 < (x0_2.length : Int) := of_decide_eq_true asm
      have hx107_0 := (WR_cell HO_0.out x74_2 p107 q107).1
      replace p107 := eq_true p107
      replace q107 := eq_true q107
      have p25 : 0 ≤ (x74_2 : Int) := of_decide_eq_true asm
      have q25 : (x74_2 : Int) < ((x0_2.length : Int) : Int) := of_decide_eq_true asm
      have gb25 := WR_base HO_0.out
      have GB25 := Aside0.mk gb25
      clear gb25
      obtain ⟨hx25_0, hf25_0⟩ := WR_cell HO_0.out (x74_2 : Int) p25 q25
      replace p25 := eq_true p25
      replace q25 := eq_true q25
      have HP26 := WR_putg HO_0.out (x74_2 : Int) (of_eq_true p25) (of_eq_true q25) ((IntKind.u64.wrap ((IntKind.u64.wrap ((IntKind.u64.wrap (rd x0_2 x74_2)) - (Go.bits .and .u64 (IntKind.u64.wrap (x11_2 + (IntKind.u64.wrap (x8_9 * (IntKind.u64.wrap (rd l1 x74_2)))))) 4294967295))) - x10_2)) % 4294967296)
      go_wp2_with (first | ((with_reducible refine gate_store (t := 118) (p := 103) rfl ?_); (try (rw [drewN_self wr]; generalize hq_ : World.drewN wr _ = wr; replace HO_0 := Aside0.mk (WR_at hq_ HO_0.out); replace HK := Aside0.mk (kept_at hq_ HK.out); replace HB := Aside0.mk (below_at hq_ HB.out); clear hq_; (try (have HP26 := WR_putg HO_0.out (x74_2 : Int) (of_eq_true p25) (of_eq_true q25) ((IntKind.u64.wrap ((IntKind.u64.wrap ((IntKind.u64.wrap (rd x0_2 x74_2)) - (Go.bits .and .u64 (IntKind.u64.wrap (x11_2 + (IntKind.u64.wrap (x8_9 * (IntKind.u64.wrap (rd l1 x74_2)))))) 4294967295))) - x10_2)) % 4294967296))))); refine store_event (t := 118) (p := 103) (v := ?vo_w27) (w1 := (wr.setCell ⟨gW, oW + (x74_2 : Int).toNat, none⟩ (.int .u32 ((IntKind.u64.wrap ((IntKind.u64.wrap ((IntKind.u64.wrap (rd x0_2 x74_2)) - (Go.bits .and .u64 (IntKind.u64.wrap (x11_2 + (IntKind.u64.wrap (x8_9 * (IntKind.u64.wrap (rd l1 x74_2)))))) 4294967295))) - x10_2)) % 4294967296)))) ?hg ?ho ?hn ?hr ?_; (case ho => rfl); (case hg => rfl); (case hn => rfl); (case hr => first | (go_simp; done) | (go_simp; rfl)); intro w27 hw; have hg : wr.grownBy w27 (some gW) := (by rw [hw]; exact HP26.2); have hp_ : WR gW oW nW cW preW postW x0_2.length w27 w0.heap.size (fun k_ => (P0_ k_ ∨ w.heap.size ≤ k_)) y108 := (by rw [hw, Ny108.out]; exact HP26.1); clear HP26; replace HB := Aside0.mk ((by rw [hw]; exact below_set (HB.out) GB25.out : Below w0.heap.size w0 w27)); replace HK := Aside0.mk (Kept.of_grown (S := (fun k_ => P0_ k_)) hg hK0 (fun k_ e_ => WR_own' HO_0.out k_ e_)); replace HO_0 := Aside0.mk (hp_); clear hg hw hp_))
      repeat (go_quiet (first | ((with_reducible refine gate_store (t := 118) (p := 103) rfl ?_); (try (rw [drewN_self wr]; generalize hq_ : World.drewN wr _ = wr; replace HO_0 := Aside0.mk (WR_at hq_ HO_0.out); replace HK := Aside0.mk (kept_at hq_ HK.out); replace HB := Aside0.mk (below_at hq_ HB.out); clear hq_; (try (have HP26 := WR_putg HO_0.out (x74_2 : Int) (of_eq_true p25) (of_eq_true q25) ((IntKind.u64.wrap ((IntKind.u64.wrap ((IntKind.u64.wrap (rd x0_2 x74_2)) - (Go.bits .and .u64 (IntKind.u64.wrap (x11_2 + (IntKind.u64.wrap (x8_9 * (IntKind.u64.wrap (rd l1 x74_2)))))) 4294967295))) - x10_2)) % 4294967296))))); refine store_event (t := 118) (p := 103) (v := ?vo_w27) (w1 := (wr.setCell ⟨gW, oW + (x74_2 : Int).toNat, none⟩ (.int .u32 ((IntKind.u64.wrap ((IntKind.u64.wrap ((IntKind.u64.wrap (rd x0_2 x74_2)) - (Go.bits .and .u64 (IntKind.u64.wrap (x11_2 + (IntKind.u64.wrap (x8_9 * (IntKind.u64.wrap (rd l1 x74_2)))))) 4294967295))) - x10_2)) % 4294967296)))) ?hg ?ho ?hn ?hr ?_; (case ho => rfl); (case hg => rfl); (case hn => rfl); (case hr => first | (go_simp; done) | (go_simp; rfl)); intro w27 hw; have hg : wr.grownBy w27 (some gW) := (by rw [hw]; exact HP26.2); have hp_ : WR gW oW nW cW preW postW x0_2.length w27 w0.heap.size (fun k_ => (P0_ k_ ∨ w.heap.size ≤ k_)) y108 := (by rw [hw, Ny108.out]; exact HP26.1); clear HP26; replace HB := Aside0.mk ((by rw [hw]; exact below_set (HB.out) GB25.out : Below w0.heap.size w0 w27)); replace HK := Aside0.mk (Kept.of_grown (S := (fun k_ => P0_ k_)) hg hK0 (fun k_ e_ => WR_own' HO_0.out k_ e_)); replace HO_0 := Aside0.mk (hp_); clear hg hw hp_)); try go_wp2_with (first | ((with_reducible refine gate_store (t := 118) (p := 103) rfl ?_); (try (rw [drewN_self wr]; generalize hq_ : World.drewN wr _ = wr; replace HO_0 := Aside0.mk (WR_at hq_ HO_0.out); replace HK := Aside0.mk (kept_at hq_ HK.out); replace HB := Aside0.mk (below_at hq_ HB.out); clear hq_; (try (have HP26 := WR_putg HO_0.out (x74_2 : Int) (of_eq_true p25) (of_eq_true q25) ((IntKind.u64.wrap ((IntKind.u64.wrap ((IntKind.u64.wrap (rd x0_2 x74_2)) - (Go.bits .and .u64 (IntKind.u64.wrap (x11_2 + (IntKind.u64.wrap (x8_9 * (IntKind.u64.wrap (rd l1 x74_2)))))) 4294967295))) - x10_2)) % 4294967296))))); refine store_event (t := 118) (p := 103) (v := ?vo_w27) (w1 := (wr.setCell ⟨gW, oW + (x74_2 : Int).toNat, none⟩ (.int .u32 ((IntKind.u64.wrap ((IntKind.u64.wrap ((IntKind.u64.wrap (rd x0_2 x74_2)) - (Go.bits .and .u64 (IntKind.u64.wrap (x11_2 + (IntKind.u64.wrap (x8_9 * (IntKind.u64.wrap (rd l1 x74_2)))))) 4294967295))) - x10_2)) % 4294967296)))) ?hg ?ho ?hn ?hr ?_; (case ho => rfl); (case hg => rfl); (case hn => rfl); (case hr => first | (go_simp; done) | (go_simp; rfl)); intro w27 hw; have hg : wr.grownBy w27 (some gW) := (by rw [hw]; exact HP26.2); have hp_ : WR gW oW nW cW preW postW x0_2.length w27 w0.heap.size (fun k_ => (P0_ k_ ∨ w.heap.size ≤ k_)) y108 := (by rw [hw, Ny108.out]; exact HP26.1); clear HP26; replace HB := Aside0.mk ((by rw [hw]; exact below_set (HB.out) GB25.out : Below w0.heap.size w0 w27)); replace HK := Aside0.mk (Kept.of_grown (S := (fun k_ => P0_ k_)) hg hK0 (fun k_ e_ => WR_own' HO_0.out k_ e_)); replace HO_0 := Aside0.mk (hp_); clear hg hw hp_)))
      (try simp only [← hl0_2])
      go_roundg k2
      case measure => have := HJ9.out; have := HK2.out; omega
      case rel => exact ⟨(y108), ((IntKind.u64.wrap ((IntKind.u64.wrap ((IntKind.u64.wrap (rd x0_2 x74_2)) - (Go.bits .and .u64 (IntKind.u64.wrap (x11_2 + (IntKind.u64.wrap (x8_9 * (IntKind.u64.wrap (rd l1 x74_2)))))) 4294967295))) - x10_2)) / 9223372036854775808), ((IntKind.u64.wrap (x11_2 + (IntKind.u64.wrap (x8_9 * (IntKind.u64.wrap (rd l1 x74_2)))))) / 4294967296), (wrap64 (x74_2 + 1)), rS, rS, rS, H', ⟨by have := HJ9.out; have := HK2.out; omega⟩, ⟨by (try simp only [hl0_2]); (with_reducible repeat (first | apply WR_alloc | apply WR_drewN | apply WR_drew)); exact HO_0.out⟩, ⟨hK0⟩, ⟨bup HB.out⟩⟩
     rw [if_neg c20] at H
     have c20b0 : decide (x74_2 < (l0.length : Int)) = false := decide_eq_false c20
     (try (have c20b9 := c20b0; rw [hl0_2] at c20b9))
     clear c20
     by_cases c33 : x10_2 = 0
     ·rw [if_pos c33] at H
      obtain ⟨c33b0, c33b1⟩ := bqT c33
      clear c33
      simp only [Option.some.injEq, Prod.mk.injEq] at H
      obtain ⟨rfl, rfl⟩ := H
      go_wp2
      repeat (go_quiet (fail); try go_wp2)
      go_ret
      exact ⟨by first | rfl | (simp [errW_none, errW_some] <;> rfl) | (simp only [← hji5]; first | rfl | (simp [errW_none, errW_some] <;> rfl)) | (simp [*, errW_none, errW_some] <;> rfl), (by first | exact (by (with_reducible repeat (first | apply WR_alloc | apply WR_drewN | apply WR_drew)); exact HO_0.out) | (simp only [hl0_2]; exact (by (with_reducible repeat (first | apply WR_alloc | apply WR_drewN | apply WR_drew)); exact HO_0.out))), bup HB.out, hK0⟩
     rw [if_neg c33] at H
     obtain ⟨c33b0, c33b1⟩ := bqF c33
     have H' := Aside0.mk H
     clear H
     go_wp2
     repeat (go_quiet (fail); try go_wp2)
     go_loopg [14, 115] k2 (fun kq v14 v115 w' => ∃ (x0_3 : List Int) (x14_3 : Int) (x115_3 : Int), v14 = .int .u64 x14_3 ∧ v115 = .int .i64 x115_3 ∧ Aside0 (nat_step.l2 kq x0_3 l1 (l1.length : Int) x8_9 x14_3 (x0_2.length : Int) x115_3 = some (r1, r2)) ∧ Aside0 (kq ≤ k2) ∧ Aside0 (WR gW oW nW cW preW postW x0_2.length w' w0.heap.size (fun k_ => (P0_ k_ ∨ w.heap.size ≤ k_)) x0_3) ∧ Aside0 (Kept w w' (fun k_ => P0_ k_)) ∧ Aside0 (Below w0.heap.size w0 w'))
     case atStart => exact ⟨(x0_2), (0), (0), rS, rS, H', ⟨Nat.le_refl _⟩, ⟨by (try simp only [hl0_2]); (with_reducible repeat (first | apply WR_alloc | apply WR_drewN | apply WR_drew)); exact HO_0.out⟩, ⟨hK0⟩, ⟨bup HB.out⟩⟩
     case round =>
      clear H'
      try clear c1
      try clear p1
      try clear q1
      try clear hx1
      try clear c2
      try clear p2
      try clear q2
      try clear hx2
      try clear hf2
      try clear c3
      try clear c3b0
      try clear c3b1
      try clear p3
      try clear q3
      try clear hx3
      try clear hf3
      try clear c4
      try clear c4b0
      try clear c4b1
      try clear c6
      try clear c6b0
      try clear p6
      try clear c7
      try clear c7b0
      try clear c8
      try clear c8b0
      try clear c9
      try clear c9b0
      try clear c9b1
      try clear p10
      try clear q10
      try clear hx10
      try clear c11
      try clear c13
      try clear c13b0
      try clear c15
      try clear c15b0
      try clear c16
      try clear c16b0
      try clear c17
      try clear c17b0
      try clear c18
      try clear c19
      try clear c19b0
      try clear c20
      try clear c20b0
      try clear c21
      try clear c21b0
      try clear c22
      try clear c22b0
      try clear c23
      try clear c23b0
      try clear c24
      try clear c24b0
      try clear p25
      try clear q25
      try clear hx25
      try clear hf25
      try clear c28
      try clear c28b0
      try clear c29
      try clear c29b0
      try clear p30
      try clear q30
      try clear hx30
      try clear hf30
      try clear c33
      try clear c33b0
      try clear c33b1
      try clear hx101_0
      try clear hx102_0
      try clear hx103_0
      try clear hx104_0
      try clear hx105_0
      try clear hx106_0
      try clear hx107_0
      try clear hx109_0
      try clear hx25_0
      try clear hx30_0
      try clear p1
      try clear p10
      try clear p101
      try clear p102
      try clear p103
      try clear p104
      try clear p105
      try clear p106
      try clear p107
      try clear p109
      try clear p2
      try clear p25
      try clear p30
      try clear p6
      try clear q1
      try clear q10
      try clear q101
      try clear q102
      try clear q103
      try clear q104
      try clear q105
      try clear q106
      try clear q107
      try clear q109
      try clear q25
      try clear q30
      obtain ⟨x0_3, x14_3, x115_3, rfl, rfl, HA, HK3, HO_0, HK, HB⟩ := hrel
      have hl0_3 := WR_len HO_0.out
      rw [hl0_3] at HO_0
      (try simp only [hl0_3])
      cases gk with
      | zero => exact absurd HA.out (by simp [nat_step.l2])
      | succ k3 =>
       have H := HA.out
       clear HA
       simp only [nat_step.l2] at H
       by_cases c34 : x115_3 < (x0_2.length : Int)
       rotate_left
       ·rw [if_neg c34] at H
        have c34b0 : decide (x115_3 < (x0_2.length : Int)) = false := decide_eq_false c34
        (try (have c34b9 := c34b0; rw [hl0_3] at c34b9))
        clear c34
        simp only [Option.some.injEq, Prod.mk.injEq] at H
        obtain ⟨rfl, rfl⟩ := H
        go_wp2
        repeat (go_quiet (fail); try go_wp2)
        go_ret
        exact ⟨by first | rfl | (simp [errW_none, errW_some] <;> rfl) | (simp only [← hji5]; first | rfl | (simp [errW_none, errW_some] <;> rfl)) | (simp [*, errW_none, errW_some] <;> rfl), (by first | exact (by (with_reducible repeat (first | apply WR_alloc | apply WR_drewN | apply WR_drew)); exact HO_0.out) | (simp only [hl0_2, hl0_3]; exact (by (with_reducible repeat (first | apply WR_alloc | apply WR_drewN | apply WR_drew)); exact HO_0.out))), bup HB.out, hK0⟩
       rw [if_pos c34] at H
       have c34b0 : decide (x115_3 < (x0_2.length : Int)) = true := decide_eq_true c34
       clear c34
       by_cases c35 : x115_3 < (l1.length : Int)
       rotate_left
       ·rw [if_neg c35] at H
        have c35b0 : decide (x115_3 < (l1.length : Int)) = false := decide_eq_false c35
        clear c35
        replace H := iS H
        obtain ⟨c42, H⟩ := H
        have c42b0 : decide (0 ≤ x115_3) = true := decide_eq_true c42
        clear c42
        replace H := iS H
        obtain ⟨c43, H⟩ := H
        have c43b0 : decide (x115_3 < (x0_3.length : Int)) = true := decide_eq_true c43
        clear c43
        obtain ⟨y115, hy115⟩ : ∃ y_ : List Int, y_ = (x0_3.set (x115_3 : Int).toNat ((IntKind.u64.wrap (x14_3 + (IntKind.u64.wrap (rd x0_3 x115_3)))) % 4294967296)) := ⟨_, rfl⟩
        replace H : (nat_step.l2 k3 y115 l1 (l1.length : Int) x8_9 ((IntKind.u64.wrap (x14_3 + (IntKind.u64.wrap (rd x0_3 x115_3)))) / 4294967296) (x0_2.length : Int) (wrap64 (x115_3 + 1))) = some (r1, r2) := by first | (rw [hy115]; with_reducible exact H) | (have H2_ := (Option.bind_some _ _).symm.trans H; rw [hy115]; with_reducible exact H2_) | (have H2_ := (Option.bind_some _ _).symm.trans H; with_reducible exact H2_) | with_reducible exact H | (rw [hy115]; exact H) | exact H
        have Ny115 := Aside0.mk hy115
        clear hy115
        have H' := Aside0.mk H
        clear H
        have p114 : 0 ≤ (x115_3 : Int) := of_decide_eq_true asm
        have q114 : x115_3 < (x0_3.length : Int) := of_decide_eq_true asm
        have hx114_0 := (WR_cell HO_0.out x115_3 p114 q114).1
        replace p114 := eq_true p114
        replace q114 := eq_true q114
        have p44 : 0 ≤ (x115_3 : Int) := of_decide_eq_true asm
        have q44 : (x115_3 : Int) < ((x0_3.length : Int) : Int) := of_decide_eq_true asm
        have gb44 := WR_base HO_0.out
        have GB44 := Aside0.mk gb44
        clear gb44
        obtain ⟨hx44_0, hf44_0⟩ := WR_cell HO_0.out (x115_3 : Int) p44 q44
        replace p44 := eq_true p44
        replace q44 := eq_true q44
        have HP45 := WR_putg HO_0.out (x115_3 : Int) (of_eq_true p44) (of_eq_true q44) ((IntKind.u64.wrap (x14_3 + (IntKind.u64.wrap (rd x0_3 x115_3)))) % 4294967296)
        go_wp2_with (first | ((with_reducible refine gate_store (t := 118) (p := 139) rfl ?_); (try (rw [drewN_self wr]; generalize hq_ : World.drewN wr _ = wr; replace HO_0 := Aside0.mk (WR_at hq_ HO_0.out); replace HK := Aside0.mk (kept_at hq_ HK.out); replace HB := Aside0.mk (below_at hq_ HB.out); clear hq_; (try (have HP45 := WR_putg HO_0.out (x115_3 : Int) (of_eq_true p44) (of_eq_true q44) ((IntKind.u64.wrap (x14_3 + (IntKind.u64.wrap (rd x0_3 x115_3)))) % 4294967296))))); refine store_event (t := 118) (p := 139) (v := ?vo_w46) (w1 := (wr.setCell ⟨gW, oW + (x115_3 : Int).toNat, none⟩ (.int .u32 ((IntKind.u64.wrap (x14_3 + (IntKind.u64.wrap (rd x0_3 x115_3)))) % 4294967296)))) ?hg ?ho ?hn ?hr ?_; (case ho => rfl); (case hg => rfl); (case hn => rfl); (case hr => first | (go_simp; done) | (go_simp; rfl)); intro w46 hw; have hg : wr.grownBy w46 (some gW) := (by rw [hw]; exact HP45.2); have hp_ : WR gW oW nW cW preW postW x0_3.length w46 w0.heap.size (fun k_ => (P0_ k_ ∨ w.heap.size ≤ k_)) y115 := (by rw [hw, Ny115.out]; exact HP45.1); clear HP45; replace HB := Aside0.mk ((by rw [hw]; exact below_set (HB.out) GB44.out : Below w0.heap.size w0 w46)); replace HK := Aside0.mk (Kept.of_grown (S := (fun k_ => P0_ k_)) hg hK0 (fun k_ e_ => WR_own' HO_0.out k_ e_)); replace HO_0 := Aside0.mk (hp_); clear hg hw hp_))
        repeat (go_quiet (first | ((with_reducible refine gate_store (t := 118) (p := 139) rfl ?_); (try (rw [drewN_self wr]; generalize hq_ : World.drewN wr _ = wr; replace HO_0 := Aside0.mk (WR_at hq_ HO_0.out); replace HK := Aside0.mk (kept_at hq_ HK.out); replace HB := Aside0.mk (below_at hq_ HB.out); clear hq_; (try (have HP45 := WR_putg HO_0.out (x115_3 : Int) (of_eq_true p44) (of_eq_true q44) ((IntKind.u64.wrap (x14_3 + (IntKind.u64.wrap (rd x0_3 x115_3)))) % 4294967296))))); refine store_event (t := 118) (p := 139) (v := ?vo_w46) (w1 := (wr.setCell ⟨gW, oW + (x115_3 : Int).toNat, none⟩ (.int .u32 ((IntKind.u64.wrap (x14_3 + (IntKind.u64.wrap (rd x0_3 x115_3)))) % 4294967296)))) ?hg ?ho ?hn ?hr ?_; (case ho => rfl); (case hg => rfl); (case hn => rfl); (case hr => first | (go_simp; done) | (go_simp; rfl)); intro w46 hw; have hg : wr.grownBy w46 (some gW) := (by rw [hw]; exact HP45.2); have hp_ : WR gW oW nW cW preW postW x0_3.length w46 w0.heap.size (fun k_ => (P0_ k_ ∨ w.heap.size ≤ k_)) y115 := (by rw [hw, Ny115.out]; exact HP45.1); clear HP45; replace HB := Aside0.mk ((by rw [hw]; exact below_set (HB.out) GB44.out : Below w0.heap.size w0 w46)); replace HK := Aside0.mk (Kept.of_grown (S := (fun k_ => P0_ k_)) hg hK0 (fun k_ e_ => WR_own' HO_0.out k_ e_)); replace HO_0 := Aside0.mk (hp_); clear hg hw hp_)); try go_wp2_with (first | ((with_reducible refine gate_store (t := 118) (p := 139) rfl ?_); (try (rw [drewN_self wr]; generalize hq_ : World.drewN wr _ = wr; replace HO_0 := Aside0.mk (WR_at hq_ HO_0.out); replace HK := Aside0.mk (kept_at hq_ HK.out); replace HB := Aside0.mk (below_at hq_ HB.out); clear hq_; (try (have HP45 := WR_putg HO_0.out (x115_3 : Int) (of_eq_true p44) (of_eq_true q44) ((IntKind.u64.wrap (x14_3 + (IntKind.u64.wrap (rd x0_3 x115_3)))) % 4294967296))))); refine store_event (t := 118) (p := 139) (v := ?vo_w46) (w1 := (wr.setCell ⟨gW, oW + (x115_3 : Int).toNat, none⟩ (.int .u32 ((IntKind.u64.wrap (x14_3 + (IntKind.u64.wrap (rd x0_3 x115_3)))) % 4294967296)))) ?hg ?ho ?hn ?hr ?_; (case ho => rfl); (case hg => rfl); (case hn => rfl); (case hr => first | (go_simp; done) | (go_simp; rfl)); intro w46 hw; have hg : wr.grownBy w46 (some gW) := (by rw [hw]; exact HP45.2); have hp_ : WR gW oW nW cW preW postW x0_3.length w46 w0.heap.size (fun k_ => (P0_ k_ ∨ w.heap.size ≤ k_)) y115 := (by rw [hw, Ny115.out]; exact HP45.1); clear HP45; replace HB := Aside0.mk ((by rw [hw]; exact below_set (HB.out) GB44.out : Below w0.heap.size w0 w46)); replace HK := Aside0.mk (Kept.of_grown (S := (fun k_ => P0_ k_)) hg hK0 (fun k_ e_ => WR_own' HO_0.out k_ e_)); replace HO_0 := Aside0.mk (hp_); clear hg hw hp_)))
        (try simp only [← hl0_3])
        go_roundg k3
        case measure => have := HJ9.out; have := HK2.out; have := HK3.out; omega
        case rel => exact ⟨(y115), ((IntKind.u64.wrap (x14_3 + (IntKind.u64.wrap (rd x0_3 x115_3)))) / 4294967296), (wrap64 (x115_3 + 1)), rS, rS, H', ⟨by have := HJ9.out; have := HK2.out; have := HK3.out; omega⟩, ⟨by (try simp only [hl0_2]); (try simp only [hl0_3]); (with_reducible repeat (first | apply WR_alloc | apply WR_drewN | apply WR_drew)); exact HO_0.out⟩, ⟨hK0⟩, ⟨bup HB.out⟩⟩
       rw [if_pos c35] at H
       have c35b0 : decide (x115_3 < (l1.length : Int)) = true := decide_eq_true c35
       clear c35
       replace H := iS H
       obtain ⟨c36, H⟩ := H
       have c36b0 : decide (0 ≤ x115_3) = true := decide_eq_true c36
       clear c36
       replace H := iS H
       obtain ⟨c37, H⟩ := H
       have c37b0 : decide (x115_3 < (l1.length : Int)) = true := decide_eq_true c37
       clear c37
       replace H := iS H
       obtain ⟨c38, H⟩ := H
       have c38b0 : decide (x115_3 < (x0_3.length : Int)) = true := decide_eq_true c38
       clear c38
       obtain ⟨y113, hy113⟩ : ∃ y_ : List Int, y_ = (x0_3.set (x115_3 : Int).toNat ((IntKind.u64.wrap ((IntKind.u64.wrap (x14_3 + (IntKind.u64.wrap (rd l1 x115_3)))) + (IntKind.u64.wrap (rd x0_3 x115_3)))) % 4294967296)) := ⟨_, rfl⟩
       replace H : (nat_step.l2 k3 y113 l1 (l1.length : Int) x8_9 ((IntKind.u64.wrap ((IntKind.u64.wrap (x14_3 + (IntKind.u64.wrap (rd l1 x115_3)))) + (IntKind.u64.wrap (rd x0_3 x115_3)))) / 4294967296) (x0_2.length : Int) (wrap64 (x115_3 + 1))) = some (r1, r2) := by first | (rw [hy113]; with_reducible exact H) | (have H2_ := (Option.bind_some _ _).symm.trans H; rw [hy113]; with_reducible exact H2_) | (have H2_ := (Option.bind_some _ _).symm.trans H; with_reducible exact H2_) | with_reducible exact H | (rw [hy113]; exact H) | exact H
       have Ny113 := Aside0.mk hy113
       clear hy113
       have H' := Aside0.mk H
       clear H
       have p111 : 0 ≤ (x115_3 : Int) := of_decide_eq_true asm
       have q111 : x115_3 < (l1.length : Int) := of_decide_eq_true asm
       obtain ⟨ad111, e111, hx111_0⟩ := Kd.at_int (Kd.C_kept_now HR1.out HK.out) x115_3 p111 q111
       obtain rfl : ad103 = ad111 := (by injection e111)
       replace p111 := eq_true p111
       replace q111 := eq_true q111
       have p112 : 0 ≤ (x115_3 : Int) := of_decide_eq_true asm
       have q112 : x115_3 < (x0_3.length : Int) := of_decide_eq_true asm
       have hx112_0 := (WR_cell HO_0.out x115_3 p112 q112).1
       replace p112 := eq_true p112
       replace q112 := eq_true q112
       have p39 : 0 ≤ (x115_3 : Int) := of_decide_eq_true asm
       have q39 : (x115_3 : Int) < ((x0_3.length : Int) : Int) := of_decide_eq_true asm
       have gb39 := WR_base HO_0.out
       have GB39 := Aside0.mk gb39
       clear gb39
       obtain ⟨hx39_0, hf39_0⟩ := WR_cell HO_0.out (x115_3 : Int) p39 q39
       replace p39 := eq_true p39
       replace q39 := eq_true q39
       have HP40 := WR_putg HO_0.out (x115_3 : Int) (of_eq_true p39) (of_eq_true q39) ((IntKind.u64.wrap ((IntKind.u64.wrap (x14_3 + (IntKind.u64.wrap (rd l1 x115_3)))) + (IntKind.u64.wrap (rd x0_3 x115_3)))) % 4294967296)
       go_wp2_with (first | ((with_reducible refine gate_store (t := 118) (p := 139) rfl ?_); (try (rw [drewN_self wr]; generalize hq_ : World.drewN wr _ = wr; replace HO_0 := Aside0.mk (WR_at hq_ HO_0.out); replace HK := Aside0.mk (kept_at hq_ HK.out); replace HB := Aside0.mk (below_at hq_ HB.out); clear hq_; (try (have HP40 := WR_putg HO_0.out (x115_3 : Int) (of_eq_true p39) (of_eq_true q39) ((IntKind.u64.wrap ((IntKind.u64.wrap (x14_3 + (IntKind.u64.wrap (rd l1 x115_3)))) + (IntKind.u64.wrap (rd x0_3 x115_3)))) % 4294967296))))); refine store_event (t := 118) (p := 139) (v := ?vo_w41) (w1 := (wr.setCell ⟨gW, oW + (x115_3 : Int).toNat, none⟩ (.int .u32 ((IntKind.u64.wrap ((IntKind.u64.wrap (x14_3 + (IntKind.u64.wrap (rd l1 x115_3)))) + (IntKind.u64.wrap (rd x0_3 x115_3)))) % 4294967296)))) ?hg ?ho ?hn ?hr ?_; (case ho => rfl); (case hg => rfl); (case hn => rfl); (case hr => first | (go_simp; done) | (go_simp; rfl)); intro w41 hw; have hg : wr.grownBy w41 (some gW) := (by rw [hw]; exact HP40.2); have hp_ : WR gW oW nW cW preW postW x0_3.length w41 w0.heap.size (fun k_ => (P0_ k_ ∨ w.heap.size ≤ k_)) y113 := (by rw [hw, Ny113.out]; exact HP40.1); clear HP40; replace HB := Aside0.mk ((by rw [hw]; exact below_set (HB.out) GB39.out : Below w0.heap.size w0 w41)); replace HK := Aside0.mk (Kept.of_grown (S := (fun k_ => P0_ k_)) hg hK0 (fun k_ e_ => WR_own' HO_0.out k_ e_)); replace HO_0 := Aside0.mk (hp_); clear hg hw hp_))
       repeat (go_quiet (first | ((with_reducible refine gate_store (t := 118) (p := 139) rfl ?_); (try (rw [drewN_self wr]; generalize hq_ : World.drewN wr _ = wr; replace HO_0 := Aside0.mk (WR_at hq_ HO_0.out); replace HK := Aside0.mk (kept_at hq_ HK.out); replace HB := Aside0.mk (below_at hq_ HB.out); clear hq_; (try (have HP40 := WR_putg HO_0.out (x115_3 : Int) (of_eq_true p39) (of_eq_true q39) ((IntKind.u64.wrap ((IntKind.u64.wrap (x14_3 + (IntKind.u64.wrap (rd l1 x115_3)))) + (IntKind.u64.wrap (rd x0_3 x115_3)))) % 4294967296))))); refine store_event (t := 118) (p := 139) (v := ?vo_w41) (w1 := (wr.setCell ⟨gW, oW + (x115_3 : Int).toNat, none⟩ (.int .u32 ((IntKind.u64.wrap ((IntKind.u64.wrap (x14_3 + (IntKind.u64.wrap (rd l1 x115_3)))) + (IntKind.u64.wrap (rd x0_3 x115_3)))) % 4294967296)))) ?hg ?ho ?hn ?hr ?_; (case ho => rfl); (case hg => rfl); (case hn => rfl); (case hr => first | (go_simp; done) | (go_simp; rfl)); intro w41 hw; have hg : wr.grownBy w41 (some gW) := (by rw [hw]; exact HP40.2); have hp_ : WR gW oW nW cW preW postW x0_3.length w41 w0.heap.size (fun k_ => (P0_ k_ ∨ w.heap.size ≤ k_)) y113 := (by rw [hw, Ny113.out]; exact HP40.1); clear HP40; replace HB := Aside0.mk ((by rw [hw]; exact below_set (HB.out) GB39.out : Below w0.heap.size w0 w41)); replace HK := Aside0.mk (Kept.of_grown (S := (fun k_ => P0_ k_)) hg hK0 (fun k_ e_ => WR_own' HO_0.out k_ e_)); replace HO_0 := Aside0.mk (hp_); clear hg hw hp_)); try go_wp2_with (first | ((with_reducible refine gate_store (t := 118) (p := 139) rfl ?_); (try (rw [drewN_self wr]; generalize hq_ : World.drewN wr _ = wr; replace HO_0 := Aside0.mk (WR_at hq_ HO_0.out); replace HK := Aside0.mk (kept_at hq_ HK.out); replace HB := Aside0.mk (below_at hq_ HB.out); clear hq_; (try (have HP40 := WR_putg HO_0.out (x115_3 : Int) (of_eq_true p39) (of_eq_true q39) ((IntKind.u64.wrap ((IntKind.u64.wrap (x14_3 + (IntKind.u64.wrap (rd l1 x115_3)))) + (IntKind.u64.wrap (rd x0_3 x115_3)))) % 4294967296))))); refine store_event (t := 118) (p := 139) (v := ?vo_w41) (w1 := (wr.setCell ⟨gW, oW + (x115_3 : Int).toNat, none⟩ (.int .u32 ((IntKind.u64.wrap ((IntKind.u64.wrap (x14_3 + (IntKind.u64.wrap (rd l1 x115_3)))) + (IntKind.u64.wrap (rd x0_3 x115_3)))) % 4294967296)))) ?hg ?ho ?hn ?hr ?_; (case ho => rfl); (case hg => rfl); (case hn => rfl); (case hr => first | (go_simp; done) | (go_simp; rfl)); intro w41 hw; have hg : wr.grownBy w41 (some gW) := (by rw [hw]; exact HP40.2); have hp_ : WR gW oW nW cW preW postW x0_3.length w41 w0.heap.size (fun k_ => (P0_ k_ ∨ w.heap.size ≤ k_)) y113 := (by rw [hw, Ny113.out]; exact HP40.1); clear HP40; replace HB := Aside0.mk ((by rw [hw]; exact below_set (HB.out) GB39.out : Below w0.heap.size w0 w41)); replace HK := Aside0.mk (Kept.of_grown (S := (fun k_ => P0_ k_)) hg hK0 (fun k_ e_ => WR_own' HO_0.out k_ e_)); replace HO_0 := Aside0.mk (hp_); clear hg hw hp_)))
       (try simp only [← hl0_3])
       go_roundg k3
       case measure => have := HJ9.out; have := HK2.out; have := HK3.out; omega
       case rel => exact ⟨(y113), ((IntKind.u64.wrap ((IntKind.u64.wrap (x14_3 + (IntKind.u64.wrap (rd l1 x115_3)))) + (IntKind.u64.wrap (rd x0_3 x115_3)))) / 4294967296), (wrap64 (x115_3 + 1)), rS, rS, H', ⟨by have := HJ9.out; have := HK2.out; have := HK3.out; omega⟩, ⟨by (try simp only [hl0_2]); (try simp only [hl0_3]); (with_reducible repeat (first | apply WR_alloc | apply WR_drewN | apply WR_drew)); exact HO_0.out⟩, ⟨hK0⟩, ⟨bup HB.out⟩⟩
end Go.Proofs.Ytagbnkbhobmgjaa.Fn
end
section
/-! The loop of (nat.Nat).Div: a word of the quotient after another, by step on a window of the numerator. -/
set_option linter.unusedVariables false
namespace Go.Proofs.Ytagbnkbhobmgjaa.Fn
open Go.RowKit Go.Proofs.YtagbnkbhobmgjaaW.PrintWords Go.Proofs.YtagbnkbhobmgjaaW.PrintLast Go.Proofs.YtagbnkbhobmgjaaW.PrintMore
def nat_divloop.l0 : Nat → List Int → List Int → List Int → Int → Option (List Int × List Int)
  | 0, _, _, _, _ => none
  | k + 1, q, num, den, i => if 0 ≤ i then (if i.toNat + (den.length + 1) ≤ num.length then (if i < (q.length : Int) then ((nat_step.f k ((num.drop i.toNat).take (den.length + 1)) den).bind fun b => nat_divloop.l0 k (q.set i.toNat b.1) (num.take i.toNat ++ b.2 ++ num.drop (i.toNat + (den.length + 1))) den (i - 1)) else none) else none) else some (q, num)
def nat_divloop.f (k : Nat) (q num den : List Int) : Option (List Int × List Int) :=
  if 0 < num.length then nat_divloop.l0 k q num den ((q.length : Int) - 1) else none
theorem nat_divloop.mono_l : ∀ k q num den i, LeO (nat_divloop.l0 k q num den i) (nat_divloop.l0 (k + 1) q num den i)
  | 0 => fun _ _ _ _ r h => by simp [nat_divloop.l0] at h
  | k + 1 => by
    intro q num den i
    simp only [nat_divloop.l0]
    refine LeO.ite (LeO.ite (LeO.ite (LeO.bind (nat_step.mono _ _ _) (fun b => ?_)) (LeO.none _)) (LeO.none _)) (LeO.refl _)
    have := nat_divloop.mono_l k (q.set i.toNat b.1) (num.take i.toNat ++ b.2 ++ num.drop (i.toNat + (den.length + 1))) den (i - 1)
    simp only [nat_divloop.l0] at this
    exact this
theorem nat_divloop.mono : ∀ a0 a1 a2 k, LeO (nat_divloop.f k a0 a1 a2) (nat_divloop.f (k + 1) a0 a1 a2) := by
  intro a0 a1 a2 k
  unfold nat_divloop.f
  exact LeO.ite (nat_divloop.mono_l k _ _ _ _) (LeO.none _)
end Go.Proofs.Ytagbnkbhobmgjaa.Fn
end
section
namespace Go.Proofs.Ytagbnkbhobmgjaa.Fn
open Go.RowKit Go.Proofs.YtagbnkbhobmgjaaW.PrintWords Go.Proofs.YtagbnkbhobmgjaaW.PrintLast Go.Proofs.YtagbnkbhobmgjaaW.PrintMore
attribute [local go_sem] max2_int min2_int max_two min_two max_three min_three max_four min_four   -- for this text's walks alone
set_option linter.unusedVariables false
set_option linter.unusedSimpArgs false
mutual
def nat_Nat_Mul.l0 : Nat → List Int → List Int → List Int → Int → Int → Option (List Int)
 | 0, _, _, _, _, _ => none
 | k + 1, x1, x5, x17, x18, x19 => if x19 < x18 then (if 0 ≤ x19 then (if x19 < (x17.length : Int) then (nat_Nat_Mul.l1 k x1 x5 x19 (rd x17 x19) 0 x17 x18 x19 x1 (x1.length : Int) 0) else (none)) else (none)) else ((nat_trim.f k x5).bind fun t104 => (some t104))
def nat_Nat_Mul.l1 : Nat → List Int → List Int → Int → Int → Int → List Int → Int → Int → List Int → Int → Int → Option (List Int)
 | 0, _, _, _, _, _, _, _, _, _, _, _ => none
 | k + 1, x1, x5, x6, x7, x8, x17, x18, x19, x24, x25, x26 => if x26 < x25 then (if 0 ≤ x26 then (if x26 < (x24.length : Int) then (if 0 ≤ (wrap64 (x6 + x26)) then (if (wrap64 (x6 + x26)) < (x5.length : Int) then (nat_Nat_Mul.l1 k x1 (x5.set ((wrap64 (x6 + x26)) : Int).toNat ((IntKind.u64.wrap (x8 + (IntKind.u64.wrap ((IntKind.u64.wrap ((IntKind.u64.wrap (x7)) * (IntKind.u64.wrap (rd x24 x26)))) + (IntKind.u64.wrap (rd x5 (wrap64 (x6 + x26)))))))) % 4294967296)) x6 x7 ((IntKind.u64.wrap (x8 + (IntKind.u64.wrap ((IntKind.u64.wrap ((IntKind.u64.wrap (x7)) * (IntKind.u64.wrap (rd x24 x26)))) + (IntKind.u64.wrap (rd x5 (wrap64 (x6 + x26)))))))) / 4294967296) x17 x18 x19 x24 x25 (wrap64 (x26 + 1))) else (none)) else (none)) else (none)) else (none)) else (if 0 ≤ (wrap64 (x6 + (x1.length : Int))) then (if (wrap64 (x6 + (x1.length : Int))) < (x5.length : Int) then (nat_Nat_Mul.l0 k x1 (x5.set ((wrap64 (x6 + (x1.length : Int))) : Int).toNat ((x8) % 4294967296)) x17 x18 (wrap64 (x19 + 1))) else (none)) else (none))
end
def nat_Nat_Mul.f (k : Nat) (l0 : List Int) (l1 : List Int) : Option (List Int) := if 0 ≤ (wrap64 ((l0.length : Int) + (l1.length : Int))) then (if (wrap64 ((l0.length : Int) + (l1.length : Int)) : Int).toNat ≤ 70368744177664 then (nat_Nat_Mul.l0 k l1 (List.replicate (wrap64 ((l0.length : Int) + (l1.length : Int)) : Int).toNat 0) l0 (l0.length : Int) 0) else (none)) else (none)
theorem nat_Nat_Mul.mono_l : ∀ k, (∀ y0 y1 y2 y3 y4, LeO (nat_Nat_Mul.l0 k y0 y1 y2 y3 y4) (nat_Nat_Mul.l0 (k + 1) y0 y1 y2 y3 y4)) ∧ (∀ y0 y1 y2 y3 y4 y5 y6 y7 y8 y9 y10, LeO (nat_Nat_Mul.l1 k y0 y1 y2 y3 y4 y5 y6 y7 y8 y9 y10) (nat_Nat_Mul.l1 (k + 1) y0 y1 y2 y3 y4 y5 y6 y7 y8 y9 y10))
 | 0 => ⟨fun _ _ _ _ _ r h => by simp [nat_Nat_Mul.l0] at h, fun _ _ _ _ _ _ _ _ _ _ _ r h => by simp [nat_Nat_Mul.l1] at h⟩
 | k + 1 => by
  obtain ⟨ih0, ih1⟩ := nat_Nat_Mul.mono_l k
  refine ⟨?_, ?_⟩
  ·intro y0 y1 y2 y3 y4
   unfold nat_Nat_Mul.l0
   repeat' with_reducible first | exact ih0 _ _ _ _ _ | exact ih1 _ _ _ _ _ _ _ _ _ _ _ | exact nat_trim.mono _ _ | exact LeO.refl _ | exact LeO.none _ | refine LeO.ite ?_ ?_ | refine LeO.bind ?_ (fun _ => ?_)
  ·intro y0 y1 y2 y3 y4 y5 y6 y7 y8 y9 y10
   unfold nat_Nat_Mul.l1
   repeat' with_reducible first | exact ih0 _ _ _ _ _ | exact ih1 _ _ _ _ _ _ _ _ _ _ _ | exact nat_trim.mono _ _ | exact LeO.refl _ | exact LeO.none _ | refine LeO.ite ?_ ?_ | refine LeO.bind ?_ (fun _ => ?_)
theorem nat_Nat_Mul.mono : ∀ a0 a1 k, LeO (nat_Nat_Mul.f k a0 a1) (nat_Nat_Mul.f (k + 1) a0 a1) := by
 intro a0 a1 k
 obtain ⟨ih0, ih1⟩ := nat_Nat_Mul.mono_l k
 unfold nat_Nat_Mul.f
 repeat' with_reducible first | exact ih0 _ _ _ _ _ | exact ih1 _ _ _ _ _ _ _ _ _ _ _ | exact nat_trim.mono _ _ | exact LeO.refl _ | exact LeO.none _ | refine LeO.ite ?_ ?_ | refine LeO.bind ?_ (fun _ => ?_)
set_option maxHeartbeats 8000000 in
set_option maxRecDepth 100000 in
theorem nat_Nat_Mul.calls (k : Nat) (A0 : Option Addr) (c0 : Nat) (l0 : List Int) (A1 : Option Addr) (c1 : Nat) (l1 : List Int) (r : List Int) (w : World) (hr0 : Kd.C (Kd.int .u32) w A0 l0.length l0) (hc0 : l0.length ≤ c0) (hr1 : Kd.C (Kd.int .u32) w A1 l1.length l1) (hc1 : l1.length ≤ c1) (H : nat_Nat_Mul.f k l0 l1 = some r) :
  Calls Try.prog 30 #[.slice A0 l0.length c0, .slice A1 l1.length c1] w fun e w' => ∃ v0_ : Value, e = .returned (v0_) ∧ Kd.V (Kd.int .u32) 118 w' w.heap.size (fun k_ => (w.heap.size ≤ k_)) v0_ r ∧ Below w.heap.size w w' := by
 have HR0 := Aside0.mk hr0
 have HC0 := Aside0.mk hc0
 clear hr0 hc0
 have HR1 := Aside0.mk hr1
 have HC1 := Aside0.mk hc1
 clear hr1 hc1
 have HB := Aside0.mk (Below.refl w.heap.size w)
 unfold nat_Nat_Mul.f at H
 obtain ⟨ji3, hji3⟩ : ∃ j_ : Int, (wrap64 ((l0.length : Int) + (l1.length : Int))) = j_ := ⟨_, rfl⟩
 replace H : (if 0 ≤ (ji3) then (if (ji3 : Int).toNat ≤ 70368744177664 then (nat_Nat_Mul.l0 k l1 (List.replicate (ji3 : Int).toNat 0) l0 (l0.length : Int) 0) else (none)) else (none)) = some r := by first | (rw [hji3] at H; exact H) | (simp only [hji3] at H ⊢; exact H)
 have hji3w : (IntKind.i64.wrap ((l0.length : Int) + (l1.length : Int))) = ji3 := (i64_w _).trans hji3
 replace H := iS H
 obtain ⟨c4, H⟩ := H
 have c4b0 := eq_true c4
 have c4b1 : decide (0 ≤ (ji3)) = true := decide_eq_true c4
 clear c4
 replace H := iS H
 obtain ⟨c5, H⟩ := H
 have c5b0 := eq_true c5
 have c5b1 : decide ((ji3 : Int).toNat ≤ 70368744177664) = true := decide_eq_true c5
 clear c5
 obtain ⟨y101, hy101⟩ : ∃ y_ : List Int, y_ = (List.replicate (ji3 : Int).toNat 0) := ⟨_, rfl⟩
 replace H : (nat_Nat_Mul.l0 k l1 y101 l0 (l0.length : Int) 0) = some r := by first | (rw [hy101]; with_reducible exact H) | (have H2_ := (Option.bind_some _ _).symm.trans H; rw [hy101]; with_reducible exact H2_) | (have H2_ := (Option.bind_some _ _).symm.trans H; with_reducible exact H2_) | with_reducible exact H | (rw [hy101]; exact H) | exact H
 have Ny101 := Aside0.mk hy101
 clear hy101
 have H' := Aside0.mk H
 clear H
 go_enter Try.func30, Try.ntmps30
 go_wp2_with (first | ((with_reducible refine gd 16 rfl ?_); refine Kd.R_make (Kd.int .u32) _ 118 rfl (N := 16) rfl 22 _ _ rfl ji3 rfl rfl Try.underlying22 (.int .u32 0) 4 info118 rfl (by decide) (by omega) 0 (ok := fun _ => True) (okp := fun _ => True) rfl (fun _ hk => hk) trivial (of_decide_eq_true asm) (Nat.le_trans (Nat.mul_le_mul_right _ (of_decide_eq_true asm : ji3.toNat ≤ 70368744177664)) (by omega)) (Below.refl _ _) (Nat.le_refl _) ?_; intro v102 w6 ho7 hb hg_ hnew_; clear hg_ hnew_; (first | rw [← Ny101.out] at ho7 | (simp only [Int.reduceToNat] at ho7; rw [← Ny101.out] at ho7)); have HO103 := Aside0.mk (Kd.R_lower (Kd.R_newM (M := fun k_ => (w.heap.size ≤ k_)) ho7 (below_size (bup HB.out)) (fun k_ h_ => h_)) (below_size (bup HB.out))); replace HB := bA HB hb; clear hb ho7))
 go_loopg [19] k (fun kq v19 w' => ∃ (x5_1 : List Int) (x19_1 : Int), v19 = .int .i64 x19_1 ∧ Aside0 (nat_Nat_Mul.l0 kq l1 x5_1 l0 (l0.length : Int) x19_1 = some r) ∧ Aside0 (kq ≤ k) ∧ Aside0 (Kd.R (Kd.int .u32) 118 w' w.heap.size (fun k_ => (w.heap.size ≤ k_)) v102 x5_1) ∧ Aside0 (Below w.heap.size w w'))
 case atStart => exact ⟨(y101), (0), rS, H', ⟨Nat.le_refl _⟩, ⟨by (with_reducible repeat (first | apply Kd.R_alloc | apply Kd.R_drewN | apply Kd.R_drew)); exact Kd.R_mono HO103.out (fun _ hk => hk.1)⟩, ⟨bup HB.out⟩⟩
 case round =>
  clear H'
  try clear c1
  try clear p2
  try clear c3
  try clear c4
  try clear c4b0
  try clear c4b1
  try clear c5
  try clear c5b0
  try clear c5b1
  try clear p6
  obtain ⟨x5_1, x19_1, rfl, HA, HK1, HO_5, HB⟩ := hrel
  cases gk with
  | zero => exact absurd HA.out (by simp [nat_Nat_Mul.l0])
  | succ k1 =>
   have H := HA.out
   clear HA
   simp only [nat_Nat_Mul.l0] at H
   by_cases c8 : x19_1 < (l0.length : Int)
   rotate_left
   ·rw [if_neg c8] at H
    have c8b0 : decide (x19_1 < (l0.length : Int)) = false := decide_eq_false c8
    clear c8
    replace H := bi H
    obtain ⟨t104, A27, H⟩ := H
    obtain rfl := Option.some.inj H
    obtain ⟨Ao28, co28, eo28⟩ := Kd.R_slice HO_5.out
    subst eo28
    go_wp2_with (first | ((with_reducible refine gc 109 rfl ?_); refine gL 66 Try.func109 #[.slice Ao28 x5_1.length co28] ?_; (with_reducible refine (nat_trim.calls k1 (fun k_ => some k_ = (.slice Ao28 x5_1.length co28 : Value).ownBlock) _ _ x5_1 t104 _ ?_ A27.out).mono ?_); exact Kd.R_V (Kd.R_tight rfl (HO_5.out)); rintro e w29 ⟨v105, rfl, ho0, hb⟩; refine ⟨_, rfl, ?_⟩; have HO106 := lw HB (fun k_ => (w.heap.size ≤ k_)) ho0 (fun k_ hk_ => Or.elim hk_ (fun hs_ => (HO_5.out).1 k_ hs_.symm) (fun hn_ => Nat.le_trans (below_size (bup HB.out)) hn_)); replace HO_5 := rA HO_5 hb; replace HB := bA HB hb; clear hb ho0))
    go_ret
    exact ⟨_, by first | rfl | (simp [errW_none, errW_some] <;> rfl) | (simp only [← hji3]; first | rfl | (simp [errW_none, errW_some] <;> rfl)) | (simp [*, errW_none, errW_some] <;> rfl), vup HO106.out, bup HB.out⟩
   rw [if_pos c8] at H
   have c8b0 : decide (x19_1 < (l0.length : Int)) = true := decide_eq_true c8
   clear c8
   replace H := iS H
   obtain ⟨c9, H⟩ := H
   have c9b0 : decide (0 ≤ x19_1) = true := decide_eq_true c9
   clear c9
   replace H := iS H
   obtain ⟨c10, H⟩ := H
   have c10b0 : decide (x19_1 < (l0.length : Int)) = true := decide_eq_true c10
   clear c10
   have H' := Aside0.mk H
   clear H
   have p107 : 0 ≤ (x19_1 : Int) := of_decide_eq_true asm
   have q107 : x19_1 < (l0.length : Int) := of_decide_eq_true asm
   obtain ⟨ad107, e107, hx107_0⟩ := Kd.at_int HR0.out x19_1 p107 q107
   cases e107
   replace hx107_0 := (HB.out.cell (World.block_lt_of_cell? w _ hx107_0)).trans hx107_0
   replace p107 := eq_true p107
   replace q107 := eq_true q107
   go_wp2
   go_loopg [8, 26] k1 (fun kq v8 v26 w' => ∃ (x5_2 : List Int) (x8_2 : Int) (x26_2 : Int), v8 = .int .u64 x8_2 ∧ v26 = .int .i64 x26_2 ∧ Aside0 (nat_Nat_Mul.l1 kq l1 x5_2 x19_1 (rd l0 x19_1) x8_2 l0 (l0.length : Int) x19_1 l1 (l1.length : Int) x26_2 = some r) ∧ Aside0 (kq ≤ k1) ∧ Aside0 (Kd.R (Kd.int .u32) 118 w' w.heap.size (fun k_ => (w.heap.size ≤ k_)) v102 x5_2) ∧ Aside0 (Below w.heap.size w w'))
   case atStart => exact ⟨(x5_1), (0), (0), rS, rS, H', ⟨Nat.le_refl _⟩, ⟨rup HO_5.out⟩, ⟨bup HB.out⟩⟩
   case round =>
    clear H'
    try clear c1
    try clear p1
    try clear q1
    try clear hx1
    try clear p2
    try clear c3
    try clear c4
    try clear c4b0
    try clear c4b1
    try clear c5
    try clear c5b0
    try clear c5b1
    try clear p6
    try clear c8
    try clear c8b0
    try clear c9
    try clear c9b0
    try clear c10
    try clear c10b0
    try clear p10
    try clear q10
    try clear hx10
    try clear hx107_0
    try clear p107
    try clear p2
    try clear p6
    try clear q107
    obtain ⟨x5_2, x8_2, x26_2, rfl, rfl, HA, HK2, HO_5, HB⟩ := hrel
    cases gk with
    | zero => exact absurd HA.out (by simp [nat_Nat_Mul.l1])
    | succ k2 =>
     have H := HA.out
     clear HA
     simp only [nat_Nat_Mul.l1] at H
     by_cases c11 : x26_2 < (l1.length : Int)
     rotate_left
     ·rw [if_neg c11] at H
      have c11b0 : decide (x26_2 < (l1.length : Int)) = false := decide_eq_false c11
      clear c11
      obtain ⟨ji21, hji21⟩ : ∃ j_ : Int, (wrap64 (x19_1 + (l1.length : Int))) = j_ := ⟨_, rfl⟩
      replace H : (if 0 ≤ (ji21) then (if (ji21) < (x5_2.length : Int) then (nat_Nat_Mul.l0 k2 l1 (x5_2.set ((ji21) : Int).toNat ((x8_2) % 4294967296)) l0 (l0.length : Int) (wrap64 (x19_1 + 1))) else (none)) else (none)) = some r := by first | (rw [hji21] at H; exact H) | (simp only [hji21] at H ⊢; exact H)
      have hji21w : (IntKind.i64.wrap (x19_1 + (l1.length : Int))) = ji21 := (i64_w _).trans hji21
      replace H := iS H
      obtain ⟨c22, H⟩ := H
      have c22b0 : decide (0 ≤ (ji21)) = true := decide_eq_true c22
      clear c22
      replace H := iS H
      obtain ⟨c23, H⟩ := H
      have c23b0 : decide ((ji21) < (x5_2.length : Int)) = true := decide_eq_true c23
      clear c23
      obtain ⟨y111, hy111⟩ : ∃ y_ : List Int, y_ = (x5_2.set ((ji21) : Int).toNat ((x8_2) % 4294967296)) := ⟨_, rfl⟩
      replace H : (nat_Nat_Mul.l0 k2 l1 y111 l0 (l0.length : Int) (wrap64 (x19_1 + 1))) = some r := by first | (rw [hy111]; with_reducible exact H) | (have H2_ := (Option.bind_some _ _).symm.trans H; rw [hy111]; with_reducible exact H2_) | (have H2_ := (Option.bind_some _ _).symm.trans H; with_reducible exact H2_) | with_reducible exact H | (rw [hy111]; exact H) | exact H
      have Ny111 := Aside0.mk hy111
      clear hy111
      have H' := Aside0.mk H
      clear H
      have p24 : 0 ≤ ((ji21) : Int) := of_decide_eq_true asm
      have q24 : ((ji21) : Int) < ((x5_2.length : Int) : Int) := of_decide_eq_true asm
      obtain ⟨go24, co24, eo24, gb24, gl24, cl24, HG24⟩ := Kd.R_form HO_5.out (by omega)
      (first | cases eo24 | (injection eo24 with ea_ en_ ec_; (first | subst ea_ | (injection ea_ with ea_; subst ea_)); subst ec_; clear en_))
      have GB24 := Aside0.mk gb24
      have GG24 := Aside0.mk HG24
      clear gb24 gl24 HG24
      obtain ⟨hx24_0, hf24_0⟩ := Kd.R_celln 0 HO_5.out ((ji21) : Int) p24 q24
      replace p24 := eq_true p24
      replace q24 := eq_true q24
      have HP25 := Kd.R_putg HO_5.out ((ji21) : Int) ((x8_2) % 4294967296)
      go_wp2_with (first | ((with_reducible refine gate_store (t := 118) (p := 63) rfl ?_); refine store_event (t := 118) (p := 63) (v := ?vo_w26) (w1 := (wr.setCell ⟨go24, ((ji21) : Int).toNat, none⟩ (.int .u32 ((x8_2) % 4294967296)))) ?hg ?ho ?hn ?hr ?_; (case ho => rfl); (case hg => rfl); (case hn => rfl); (case hr => first | (go_simp; done) | (go_simp; rfl)); intro w26 hw; have hg : wr.grownBy w26 (some go24) := (by rw [hw]; exact HP25.2); have hp_ : Kd.R (Kd.int .u32) 118 w26 w.heap.size (fun k_ => (w.heap.size ≤ k_)) (.slice (some ⟨go24, 0, none⟩) x5_2.length co24) y111 := (by rw [hw, Ny111.out]; exact HP25.1); clear HP25; replace HO_5 := Aside0.mk (hp_); replace HB := Aside0.mk ((by rw [hw]; exact below_set (HB.out) GB24.out : Below w.heap.size w w26)); clear hg hw hp_))
      go_roundg k2
      case measure => have := HK1.out; have := HK2.out; omega
      case rel => exact ⟨(y111), (wrap64 (x19_1 + 1)), rS, H', ⟨by have := HK1.out; have := HK2.out; omega⟩, ⟨rup HO_5.out⟩, ⟨bup HB.out⟩⟩
     rw [if_pos c11] at H
     have c11b0 : decide (x26_2 < (l1.length : Int)) = true := decide_eq_true c11
     clear c11
     replace H := iS H
     obtain ⟨c12, H⟩ := H
     have c12b0 : decide (0 ≤ x26_2) = true := decide_eq_true c12
     clear c12
     replace H := iS H
     obtain ⟨c13, H⟩ := H
     have c13b0 : decide (x26_2 < (l1.length : Int)) = true := decide_eq_true c13
     clear c13
     obtain ⟨ji14, hji14⟩ : ∃ j_ : Int, (wrap64 (x19_1 + x26_2)) = j_ := ⟨_, rfl⟩
     replace H : (if 0 ≤ (ji14) then (if (ji14) < (x5_2.length : Int) then (nat_Nat_Mul.l1 k2 l1 (x5_2.set ((ji14) : Int).toNat ((IntKind.u64.wrap (x8_2 + (IntKind.u64.wrap ((IntKind.u64.wrap ((IntKind.u64.wrap ((rd l0 x19_1))) * (IntKind.u64.wrap (rd l1 x26_2)))) + (IntKind.u64.wrap (rd x5_2 (ji14))))))) % 4294967296)) x19_1 (rd l0 x19_1) ((IntKind.u64.wrap (x8_2 + (IntKind.u64.wrap ((IntKind.u64.wrap ((IntKind.u64.wrap ((rd l0 x19_1))) * (IntKind.u64.wrap (rd l1 x26_2)))) + (IntKind.u64.wrap (rd x5_2 (ji14))))))) / 4294967296) l0 (l0.length : Int) x19_1 l1 (l1.length : Int) (wrap64 (x26_2 + 1))) else (none)) else (none)) = some r := by first | (rw [hji14] at H; exact H) | (simp only [hji14] at H ⊢; exact H)
     have hji14w : (IntKind.i64.wrap (x19_1 + x26_2)) = ji14 := (i64_w _).trans hji14
     replace H := iS H
     obtain ⟨c15, H⟩ := H
     have c15b0 : decide (0 ≤ (ji14)) = true := decide_eq_true c15
     clear c15
     replace H := iS H
     obtain ⟨c16, H⟩ := H
     have c16b0 : decide ((ji14) < (x5_2.length : Int)) = true := decide_eq_true c16
     clear c16
     obtain ⟨y110, hy110⟩ : ∃ y_ : List Int, y_ = (x5_2.set ((ji14) : Int).toNat ((IntKind.u64.wrap (x8_2 + (IntKind.u64.wrap ((IntKind.u64.wrap ((IntKind.u64.wrap ((rd l0 x19_1))) * (IntKind.u64.wrap (rd l1 x26_2)))) + (IntKind.u64.wrap (rd x5_2 (ji14))))))) % 4294967296)) := ⟨_, rfl⟩
     replace H : (nat_Nat_Mul.l1 k2 l1 y110 x19_1 (rd l0 x19_1) ((IntKind.u64.wrap (x8_2 + (IntKind.u64.wrap ((IntKind.u64.wrap ((IntKind.u64.wrap ((rd l0 x19_1))) * (IntKind.u64.wrap (rd l1 x26_2)))) + (IntKind.u64.wrap (rd x5_2 (ji14))))))) / 4294967296) l0 (l0.length : Int) x19_1 l1 (l1.length : Int) (wrap64 (x26_2 + 1))) = some r := by first | (rw [hy110]; with_reducible exact H) | (have H2_ := (Option.bind_some _ _).symm.trans H; rw [hy110]; with_reducible exact H2_) | (have H2_ := (Option.bind_some _ _).symm.trans H; with_reducible exact H2_) | with_reducible exact H | (rw [hy110]; exact H) | exact H
     have Ny110 := Aside0.mk hy110
     clear hy110
     have H' := Aside0.mk H
     clear H
     have p108 : 0 ≤ (x26_2 : Int) := of_decide_eq_true asm
     have q108 : x26_2 < (l1.length : Int) := of_decide_eq_true asm
     obtain ⟨ad108, e108, hx108_0⟩ := Kd.at_int HR1.out x26_2 p108 q108
     cases e108
     replace hx108_0 := (HB.out.cell (World.block_lt_of_cell? w _ hx108_0)).trans hx108_0
     replace p108 := eq_true p108
     replace q108 := eq_true q108
     obtain ⟨Ao18, co18, eo18⟩ := Kd.R_slice HO_5.out
     subst eo18
     have p109 : 0 ≤ ((ji14) : Int) := of_decide_eq_true asm
     have q109 : (ji14) < (x5_2.length : Int) := of_decide_eq_true asm
     obtain ⟨ad109, e109, hx109_0⟩ := Kd.at_int (Kd.R_reads' HO_5.out).2.2 (ji14) p109 q109
     cases e109
     replace p109 := eq_true p109
     replace q109 := eq_true q109
     have p17 : 0 ≤ ((ji14) : Int) := of_decide_eq_true asm
     have q17 : ((ji14) : Int) < ((x5_2.length : Int) : Int) := of_decide_eq_true asm
     obtain ⟨go17, co17, eo17, gb17, gl17, cl17, HG17⟩ := Kd.R_form HO_5.out (by omega)
     (first | cases eo17 | (injection eo17 with ea_ en_ ec_; (first | subst ea_ | (injection ea_ with ea_; subst ea_)); subst ec_; clear en_))
     have GB17 := Aside0.mk gb17
     have GG17 := Aside0.mk HG17
     clear gb17 gl17 HG17
     (first | simp only [add_plain] at hx109_0 | skip)
     obtain ⟨hx17_0, hf17_0⟩ := Kd.R_celln 0 HO_5.out ((ji14) : Int) p17 q17
     replace p17 := eq_true p17
     replace q17 := eq_true q17
     have HP19 := Kd.R_putg HO_5.out ((ji14) : Int) ((IntKind.u64.wrap (x8_2 + (IntKind.u64.wrap ((IntKind.u64.wrap ((IntKind.u64.wrap ((rd l0 x19_1))) * (IntKind.u64.wrap (rd l1 x26_2)))) + (IntKind.u64.wrap (rd x5_2 (ji14))))))) % 4294967296)
     go_wp2_with (first | ((with_reducible refine gate_store (t := 118) (p := 52) rfl ?_); refine store_event (t := 118) (p := 52) (v := ?vo_w20) (w1 := (wr.setCell ⟨go17, ((ji14) : Int).toNat, none⟩ (.int .u32 ((IntKind.u64.wrap (x8_2 + (IntKind.u64.wrap ((IntKind.u64.wrap ((IntKind.u64.wrap ((rd l0 x19_1))) * (IntKind.u64.wrap (rd l1 x26_2)))) + (IntKind.u64.wrap (rd x5_2 (ji14))))))) % 4294967296)))) ?hg ?ho ?hn ?hr ?_; (case ho => rfl); (case hg => rfl); (case hn => rfl); (case hr => first | (go_simp; done) | (go_simp; rfl)); intro w20 hw; have hg : wr.grownBy w20 (some go17) := (by rw [hw]; exact HP19.2); have hp_ : Kd.R (Kd.int .u32) 118 w20 w.heap.size (fun k_ => (w.heap.size ≤ k_)) (.slice (some ⟨go17, 0, none⟩) x5_2.length co18) y110 := (by rw [hw, Ny110.out]; exact HP19.1); clear HP19; replace HO_5 := Aside0.mk (hp_); replace HB := Aside0.mk ((by rw [hw]; exact below_set (HB.out) GB17.out : Below w.heap.size w w20)); clear hg hw hp_))
     go_roundg k2
     case measure => have := HK1.out; have := HK2.out; omega
     case rel => exact ⟨(y110), ((IntKind.u64.wrap (x8_2 + (IntKind.u64.wrap ((IntKind.u64.wrap ((IntKind.u64.wrap ((rd l0 x19_1))) * (IntKind.u64.wrap (rd l1 x26_2)))) + (IntKind.u64.wrap (rd x5_2 (ji14))))))) / 4294967296), (wrap64 (x26_2 + 1)), (by first | rfl | (simp; done) | (simp only [← hji14] <;> (first | rfl | simp)) | (simp [*]; done)), rS, H', ⟨by have := HK1.out; have := HK2.out; omega⟩, ⟨rup HO_5.out⟩, ⟨bup HB.out⟩⟩

mutual
def pattern_Class.j0 : Nat → Int → Int → Bool → Option (Int)
 | 0, _, _, _ => none
 | k + 1, x4, x5, x12 => if x12 = true then (some 3) else (if x4 = 2047 then (some 4) else (if x4 = 0 then (pattern_Class.j1 k x4 (x5 == 0)) else (pattern_Class.j1 k x4 false)))
def pattern_Class.j1 : Nat → Int → Bool → Option (Int)
 | 0, _, _ => none
 | k + 1, x4, x22 => if x22 = true then (some 0) else (if x4 = 0 then (some 1) else (some 2))
end




end Go.Proofs.Ytagbnkbhobmgjaa.Fn
end
section
/- A call through a function value that is known, and the closure of pattern.Max. -/
set_option linter.unusedVariables false
set_option linter.unusedSimpArgs false
namespace Go.Proofs.Ytagbnkbhobmgjaa.Fn
open Go.RowKit Go.Proofs.YtagbnkbhobmgjaaW.PrintWords Go.Proofs.YtagbnkbhobmgjaaW.PrintLast Go.Proofs.YtagbnkbhobmgjaaW.PrintMore
section
variable {P : Program} {ops : Array Oper} {Q : Exit → Act → World → Prop}
end
end Go.Proofs.Ytagbnkbhobmgjaa.Fn
end
section
namespace Go.Proofs.Ytagbnkbhobmgjaa.Fn
open Go.RowKit Go.Proofs.YtagbnkbhobmgjaaW.PrintWords Go.Proofs.YtagbnkbhobmgjaaW.PrintLast Go.Proofs.YtagbnkbhobmgjaaW.PrintMore
attribute [local go_sem] max2_int min2_int max_two min_two max_three min_three max_four min_four   -- for this text's walks alone
set_option linter.unusedVariables false
set_option linter.unusedSimpArgs false
def nat_Nat_Add.l0 : Nat → List Int → List Int → List Int → Int → Int → Int → Option (List Int)
 | 0, _, _, _, _, _, _ => none
 | k + 1, x0, x1, x5, x6, x12, x13 => if x13 < x12 then ((nat_Nat_at.f x0 x13).bind fun t101 => ((nat_Nat_at.f x1 x13).bind fun t102 => (if x5.length < 35184372088832 then (nat_Nat_Add.l0 k x0 x1 (x5 ++ [(IntKind.u64.wrap (x6 + (IntKind.u64.wrap (t101 + t102)))) % 4294967296]) ((IntKind.u64.wrap (x6 + (IntKind.u64.wrap (t101 + t102)))) / 4294967296) x12 (wrap64 (x13 + 1))) else (none)))) else (if x5.length < 35184372088832 then ((nat_trim.f k (x5 ++ [(x6) % 4294967296])).bind fun t109 => (some t109)) else (none))
def nat_Nat_Add.f (k : Nat) (l0 : List Int) (l1 : List Int) : Option (List Int) := nat_Nat_Add.l0 k l0 l1 ([] : List Int) 0 (mx (l0.length : Int) (l1.length : Int)) 0
theorem nat_Nat_Add.mono_l : ∀ k, (∀ y0 y1 y2 y3 y4 y5, LeO (nat_Nat_Add.l0 k y0 y1 y2 y3 y4 y5) (nat_Nat_Add.l0 (k + 1) y0 y1 y2 y3 y4 y5))
 | 0 => fun _ _ _ _ _ _ r h => by simp [nat_Nat_Add.l0] at h
 | k + 1 => by
  have ih0 := nat_Nat_Add.mono_l k
  ·intro y0 y1 y2 y3 y4 y5
   unfold nat_Nat_Add.l0
   repeat' with_reducible first | exact ih0 _ _ _ _ _ _ | exact nat_trim.mono _ _ | exact LeO.refl _ | exact LeO.none _ | refine LeO.ite ?_ ?_ | refine LeO.bind ?_ (fun _ => ?_)
theorem nat_Nat_Add.mono : ∀ a0 a1 k, LeO (nat_Nat_Add.f k a0 a1) (nat_Nat_Add.f (k + 1) a0 a1) := by
 intro a0 a1 k
 have ih0 := nat_Nat_Add.mono_l k
 unfold nat_Nat_Add.f
 repeat' with_reducible first | exact ih0 _ _ _ _ _ _ | exact nat_trim.mono _ _ | exact LeO.refl _ | exact LeO.none _ | refine LeO.ite ?_ ?_ | refine LeO.bind ?_ (fun _ => ?_)
set_option maxHeartbeats 8000000 in
set_option maxRecDepth 100000 in
theorem nat_Nat_Add.calls (k : Nat) (A0 : Option Addr) (c0 : Nat) (l0 : List Int) (A1 : Option Addr) (c1 : Nat) (l1 : List Int) (r : List Int) (w : World) (hr0 : Kd.C (Kd.int .u32) w A0 l0.length l0) (hc0 : l0.length ≤ c0) (hr1 : Kd.C (Kd.int .u32) w A1 l1.length l1) (hc1 : l1.length ≤ c1) (H : nat_Nat_Add.f k l0 l1 = some r) :
  Calls Try.prog 28 #[.slice A0 l0.length c0, .slice A1 l1.length c1] w fun e w' => ∃ v0_ : Value, e = .returned (v0_) ∧ Kd.V (Kd.int .u32) 118 w' w.heap.size (fun k_ => (w.heap.size ≤ k_)) v0_ r ∧ Below w.heap.size w w' := by
 have HR0 := Aside0.mk hr0
 have HC0 := Aside0.mk hc0
 clear hr0 hc0
 have HR1 := Aside0.mk hr1
 have HC1 := Aside0.mk hc1
 clear hr1 hc1
 have HB := Aside0.mk (Below.refl w.heap.size w)
 unfold nat_Nat_Add.f at H
 obtain ⟨ji3, hji3⟩ : ∃ j_ : Int, (mx (l0.length : Int) (l1.length : Int)) = j_ := ⟨_, rfl⟩
 replace H : (nat_Nat_Add.l0 k l0 l1 ([] : List Int) 0 ji3 0) = some r := by first | (rw [hji3] at H; exact H) | (simp only [hji3] at H ⊢; exact H)
 (try (have hji3l : 0 ≤ ji3 := by (rw [← hji3]; unfold mx; (repeat' split) <;> omega)))
 (try (have hji3m : 0 ≤ ji3 := by omega))
 have hji3_ : (if (l0.length : Int) < (l1.length : Int) then (l1.length : Int) else (l0.length : Int)) = ji3 := hji3
 have hji3n : (if l0.length < l1.length then (l1.length : Int) else (l0.length : Int)) = ji3 := by
  rw [← hji3_]; by_cases hq_ : l0.length < l1.length
  ·rw [if_pos hq_, if_pos (by omega)]
  ·rw [if_neg hq_, if_neg (by omega)]
 have H' := Aside0.mk H
 clear H
 go_enter Try.func28, Try.ntmps28
 go_wp2
 go_loopg [5, 6, 13] k (fun kq v5 v6 v13 w' => ∃ (x5_1 : List Int) (x6_1 : Int) (x13_1 : Int), v6 = .int .u64 x6_1 ∧ v13 = .int .i64 x13_1 ∧ Aside0 (nat_Nat_Add.l0 kq l0 l1 x5_1 x6_1 ji3 x13_1 = some r) ∧ Aside0 (kq ≤ k) ∧ Aside0 (Kd.R (Kd.int .u32) 118 w' w.heap.size (fun k_ => (w.heap.size ≤ k_)) v5 x5_1) ∧ Aside0 (Below w.heap.size w w'))
 case atStart => exact ⟨(([] : List Int)), (0), (0), rS, rS, H', ⟨Nat.le_refl _⟩, ⟨nil5⟩, ⟨bup HB.out⟩⟩
 case round =>
  clear H'
  try clear c1
  try clear c2
  try clear p2
  obtain ⟨x5_1, x6_1, x13_1, rfl, rfl, HA, HK1, HO_5, HB⟩ := hrel
  cases gk with
  | zero => exact absurd HA.out (by simp [nat_Nat_Add.l0])
  | succ k1 =>
   have H := HA.out
   clear HA
   simp only [nat_Nat_Add.l0] at H
   by_cases c4 : x13_1 < ji3
   rotate_left
   ·rw [if_neg c4] at H
    have c4b0 : decide (x13_1 < ji3) = false := decide_eq_false c4
    clear c4
    replace H := iS H
    obtain ⟨c9, H⟩ := H
    have LMc9 := Aside0.mk c9
    clear c9
    obtain ⟨y106, hy106⟩ : ∃ y_ : List Int, y_ = (x5_1 ++ [(x6_1) % 4294967296]) := ⟨_, rfl⟩
    replace H : ((nat_trim.f k1 y106).bind fun t109 => (some t109)) = some r := by first | (rw [hy106]; with_reducible exact H) | (have H2_ := (Option.bind_some _ _).symm.trans H; rw [hy106]; with_reducible exact H2_) | (have H2_ := (Option.bind_some _ _).symm.trans H; with_reducible exact H2_) | with_reducible exact H | (rw [hy106]; exact H) | exact H
    have Ny106 := Aside0.mk hy106
    clear hy106
    replace H := bi H
    obtain ⟨t109, A10, H⟩ := H
    obtain rfl := Option.some.inj H
    go_wp2_with (first | ((with_reducible refine gate_builtin (b := .append) (xs := #[.tmp 33, .tmp 36]) rfl ?_); at_builtin; refine Kd.R_append (Kd.int .u32) (w0 := w) w.heap.size rfl (.tmp 33) (.tmp 36) 23 118 (.int .u32 0) 4 rfl Try.underlying23 info118 rfl (by decide) (by omega) u5 x5_1 ((x6_1) % 4294967296) [.int .u32 ((x6_1) % 4294967296)] (fun k_ => (w.heap.size ≤ k_)) (fun _ => False) rfl rfl ?aP (fun _ hk => hk.elim) ?aF ?aO ?aB ?aS ?aL ?_; (case aP => exact rfl); (case aB => exact (bup HB.out)); (case aF => exact (fun k_ hk => (Nat.le_trans (below_size (bup HB.out)) hk))); (case aO => exact (rup HO_5.out)); (case aS => exact (below_size (bup HB.out))); (case aL => have := LMc9.out; omega); intro v107 w11 ho hb hg hat; rw [← Ny106.out] at ho; replace HB := Aside0.mk (hb); have HO108 := Aside0.mk (ho); clear HO_5; clear ho hb hg hat; obtain ⟨Ao12, co12, eo12⟩ := Kd.R_slice HO108.out; subst eo12) | ((with_reducible refine gc 109 rfl ?_); refine gL 38 Try.func109 #[.slice Ao12 y106.length co12] ?_; (with_reducible refine (nat_trim.calls k1 (fun k_ => some k_ = (.slice Ao12 y106.length co12 : Value).ownBlock) _ _ y106 t109 _ ?_ A10.out).mono ?_); exact Kd.R_V (Kd.R_tight rfl (HO108.out)); rintro e w13 ⟨v110, rfl, ho0, hb⟩; refine ⟨_, rfl, ?_⟩; have HO111 := lw HB (fun k_ => (w.heap.size ≤ k_)) ho0 (fun k_ hk_ => Or.elim hk_ (fun hs_ => (HO108.out).1 k_ hs_.symm) (fun hn_ => Nat.le_trans (below_size (bup HB.out)) hn_)); replace HO108 := rA HO108 hb; replace HB := bA HB hb; clear hb ho0))
    go_ret
    exact ⟨_, by first | rfl | (simp [errW_none, errW_some] <;> rfl) | (simp only [← hji3]; first | rfl | (simp [errW_none, errW_some] <;> rfl)) | (simp [*, errW_none, errW_some] <;> rfl), vup HO111.out, bup HB.out⟩
   rw [if_pos c4] at H
   have c4b0 : decide (x13_1 < ji3) = true := decide_eq_true c4
   clear c4
   replace H := bi H
   obtain ⟨t101, A5, H⟩ := H
   replace H := bi H
   obtain ⟨t102, A6, H⟩ := H
   replace H := iS H
   obtain ⟨c7, H⟩ := H
   have LMc7 := Aside0.mk c7
   clear c7
   obtain ⟨y103, hy103⟩ : ∃ y_ : List Int, y_ = (x5_1 ++ [(IntKind.u64.wrap (x6_1 + (IntKind.u64.wrap (t101 + t102)))) % 4294967296]) := ⟨_, rfl⟩
   replace H : (nat_Nat_Add.l0 k1 l0 l1 y103 ((IntKind.u64.wrap (x6_1 + (IntKind.u64.wrap (t101 + t102)))) / 4294967296) ji3 (wrap64 (x13_1 + 1))) = some r := by first | (rw [hy103]; with_reducible exact H) | (have H2_ := (Option.bind_some _ _).symm.trans H; rw [hy103]; with_reducible exact H2_) | (have H2_ := (Option.bind_some _ _).symm.trans H; with_reducible exact H2_) | with_reducible exact H | (rw [hy103]; exact H) | exact H
   have Ny103 := Aside0.mk hy103
   clear hy103
   have H' := Aside0.mk H
   clear H
   go_wp2_with (first | ((with_reducible refine gc 108 rfl ?_); refine gL 19 Try.func108 #[.slice A0 l0.length c0, .int .i64 x13_1] ?_; (with_reducible refine (nat_Nat_at.calls _ _ l0 x13_1 t101 _ ?_ ?_ A5.out).mono ?_); exact Kd.C_below HR0.out (bup HB.out); exact HC0.out; rintro e w' ⟨rfl, ⟨nd, rfl⟩⟩; refine ⟨_, rfl, ?_⟩) | ((with_reducible refine gc 108 rfl ?_); refine gL 22 Try.func108 #[.slice A1 l1.length c1, .int .i64 x13_1] ?_; (with_reducible refine (nat_Nat_at.calls _ _ l1 x13_1 t102 _ ?_ ?_ A6.out).mono ?_); exact Kd.C_below HR1.out (bup HB.out); exact HC1.out; rintro e w' ⟨rfl, ⟨nd, rfl⟩⟩; refine ⟨_, rfl, ?_⟩) | ((with_reducible refine gate_builtin (b := .append) (xs := #[.tmp 25, .tmp 28]) rfl ?_); at_builtin; refine Kd.R_append (Kd.int .u32) (w0 := w) w.heap.size rfl (.tmp 25) (.tmp 28) 23 118 (.int .u32 0) 4 rfl Try.underlying23 info118 rfl (by decide) (by omega) u5 x5_1 ((IntKind.u64.wrap (x6_1 + (IntKind.u64.wrap (t101 + t102)))) % 4294967296) [.int .u32 ((IntKind.u64.wrap (x6_1 + (IntKind.u64.wrap (t101 + t102)))) % 4294967296)] (fun k_ => (w.heap.size ≤ k_)) (fun _ => False) rfl rfl ?aP (fun _ hk => hk.elim) ?aF ?aO ?aB ?aS ?aL ?_; (case aP => exact rfl); (case aB => exact (bup HB.out)); (case aF => exact (fun k_ hk => (Nat.le_trans (below_size (bup HB.out)) hk))); (case aO => exact (rup HO_5.out)); (case aS => exact (below_size (bup HB.out))); (case aL => have := LMc7.out; omega); intro v104 w8 ho hb hg hat; rw [← Ny103.out] at ho; replace HB := Aside0.mk (hb); have HO105 := Aside0.mk (ho); clear HO_5; clear ho hb hg hat))
   go_roundg k1
   case measure => have := HK1.out; omega
   case rel => exact ⟨(y103), ((IntKind.u64.wrap (x6_1 + (IntKind.u64.wrap (t101 + t102)))) / 4294967296), (wrap64 (x13_1 + 1)), rS, rS, H', ⟨hk1⟩, ⟨rup HO105.out⟩, ⟨bup HB.out⟩⟩
def nat_Nat_Sub.l0 : Nat → List Int → List Int → List Int → Int → Int → Int → Option (List Int × Bool)
 | 0, _, _, _, _, _, _ => none
 | k + 1, x0, x1, x6, x7, x15, x16 => if x16 < x15 then ((nat_Nat_at.f x0 x16).bind fun t102 => ((nat_Nat_at.f x1 x16).bind fun t103 => (if x6.length < 35184372088832 then (nat_Nat_Sub.l0 k x0 x1 (x6 ++ [(IntKind.u64.wrap ((IntKind.u64.wrap (t102 - t103)) - x7)) % 4294967296]) ((IntKind.u64.wrap ((IntKind.u64.wrap (t102 - t103)) - x7)) / 9223372036854775808) x15 (wrap64 (x16 + 1))) else (none)))) else ((nat_trim.f k x6).bind fun t107 => (some (t107, true)))
def nat_Nat_Sub.f (k : Nat) (l0 : List Int) (l1 : List Int) : Option (List Int × Bool) := (nat_Nat_Cmp.f k l0 l1).bind fun t101 => (if t101 < 0 then (some (([] : List Int), false)) else (nat_Nat_Sub.l0 k l0 l1 ([] : List Int) 0 (l0.length : Int) 0))
theorem nat_Nat_Sub.mono_l : ∀ k, (∀ y0 y1 y2 y3 y4 y5, LeO (nat_Nat_Sub.l0 k y0 y1 y2 y3 y4 y5) (nat_Nat_Sub.l0 (k + 1) y0 y1 y2 y3 y4 y5))
 | 0 => fun _ _ _ _ _ _ r h => by simp [nat_Nat_Sub.l0] at h
 | k + 1 => by
  have ih0 := nat_Nat_Sub.mono_l k
  ·intro y0 y1 y2 y3 y4 y5
   unfold nat_Nat_Sub.l0
   repeat' with_reducible first | exact ih0 _ _ _ _ _ _ | exact nat_Nat_Cmp.mono _ _ _ | exact nat_trim.mono _ _ | exact LeO.refl _ | exact LeO.none _ | refine LeO.ite ?_ ?_ | refine LeO.bind ?_ (fun _ => ?_)
theorem nat_Nat_Sub.mono : ∀ a0 a1 k, LeO (nat_Nat_Sub.f k a0 a1) (nat_Nat_Sub.f (k + 1) a0 a1) := by
 intro a0 a1 k
 have ih0 := nat_Nat_Sub.mono_l k
 unfold nat_Nat_Sub.f
 repeat' with_reducible first | exact ih0 _ _ _ _ _ _ | exact nat_Nat_Cmp.mono _ _ _ | exact nat_trim.mono _ _ | exact LeO.refl _ | exact LeO.none _ | refine LeO.ite ?_ ?_ | refine LeO.bind ?_ (fun _ => ?_)
set_option maxHeartbeats 8000000 in
set_option maxRecDepth 100000 in
theorem nat_Nat_Sub.calls (k : Nat) (A0 : Option Addr) (c0 : Nat) (l0 : List Int) (A1 : Option Addr) (c1 : Nat) (l1 : List Int) (r1 : List Int) (r2 : Bool) (w : World) (hr0 : Kd.C (Kd.int .u32) w A0 l0.length l0) (hc0 : l0.length ≤ c0) (hr1 : Kd.C (Kd.int .u32) w A1 l1.length l1) (hc1 : l1.length ≤ c1) (H : nat_Nat_Sub.f k l0 l1 = some (r1, r2)) :
  Calls Try.prog 32 #[.slice A0 l0.length c0, .slice A1 l1.length c1] w fun e w' => ∃ v0_ : Value, e = .returned (.tuple #[v0_, .bool r2]) ∧ Kd.V (Kd.int .u32) 118 w' w.heap.size (fun k_ => (w.heap.size ≤ k_)) v0_ r1 ∧ Below w.heap.size w w' := by
 have HR0 := Aside0.mk hr0
 have HC0 := Aside0.mk hc0
 clear hr0 hc0
 have HR1 := Aside0.mk hr1
 have HC1 := Aside0.mk hc1
 clear hr1 hc1
 have HB := Aside0.mk (Below.refl w.heap.size w)
 unfold nat_Nat_Sub.f at H
 replace H := bi H
 obtain ⟨t101, A3, H⟩ := H
 by_cases c4 : t101 < 0
 ·rw [if_pos c4] at H
  have c4b0 : decide (t101 < 0) = true := decide_eq_true c4
  clear c4
  simp only [Option.some.injEq, Prod.mk.injEq] at H
  obtain ⟨rfl, rfl⟩ := H
  go_enter Try.func32, Try.ntmps32
  go_wp2_with (first | ((with_reducible refine gc 33 rfl ?_); refine gL 12 Try.func33 #[.slice A0 l0.length c0, .slice A1 l1.length c1] ?_; (with_reducible refine (nat_Nat_Cmp.calls k _ _ l0 _ _ l1 t101 _ ?_ ?_ ?_ ?_ A3.out).mono ?_); exact cup (HR0.out); exact HC0.out; exact cup (HR1.out); exact HC1.out; rintro e w5 ⟨rfl, hb⟩; refine ⟨_, rfl, ?_⟩; replace HB := bA HB hb; clear hb))
  go_ret2
  exact ⟨.slice none 0 0, er, Kd.V_nil _ _ _ _ _, bup HB.out⟩
 rw [if_neg c4] at H
 have c4b0 : decide (t101 < 0) = false := decide_eq_false c4
 clear c4
 have H' := Aside0.mk H
 clear H
 go_enter Try.func32, Try.ntmps32
 go_wp2_with (first | ((with_reducible refine gc 33 rfl ?_); refine gL 12 Try.func33 #[.slice A0 l0.length c0, .slice A1 l1.length c1] ?_; (with_reducible refine (nat_Nat_Cmp.calls k _ _ l0 _ _ l1 t101 _ ?_ ?_ ?_ ?_ A3.out).mono ?_); exact cup (HR0.out); exact HC0.out; exact cup (HR1.out); exact HC1.out; rintro e w6 ⟨rfl, hb⟩; refine ⟨_, rfl, ?_⟩; replace HB := bA HB hb; clear hb))
 go_loopg [6, 7, 16] k (fun kq v6 v7 v16 w' => ∃ (x6_1 : List Int) (x7_1 : Int) (x16_1 : Int), v7 = .int .u64 x7_1 ∧ v16 = .int .i64 x16_1 ∧ Aside0 (nat_Nat_Sub.l0 kq l0 l1 x6_1 x7_1 (l0.length : Int) x16_1 = some (r1, r2)) ∧ Aside0 (kq ≤ k) ∧ Aside0 (Kd.R (Kd.int .u32) 118 w' w.heap.size (fun k_ => (w.heap.size ≤ k_)) v6 x6_1) ∧ Aside0 (Below w.heap.size w w'))
 case atStart => exact ⟨(([] : List Int)), (0), (0), rS, rS, H', ⟨Nat.le_refl _⟩, ⟨nil5⟩, ⟨bup HB.out⟩⟩
 case round =>
  clear H'
  try clear c1
  try clear p2
  try clear c3
  try clear c4
  try clear c4b0
  obtain ⟨x6_1, x7_1, x16_1, rfl, rfl, HA, HK1, HO_6, HB⟩ := hrel
  cases gk with
  | zero => exact absurd HA.out (by simp [nat_Nat_Sub.l0])
  | succ k1 =>
   have H := HA.out
   clear HA
   simp only [nat_Nat_Sub.l0] at H
   by_cases c7 : x16_1 < (l0.length : Int)
   rotate_left
   ·rw [if_neg c7] at H
    have c7b0 : decide (x16_1 < (l0.length : Int)) = false := decide_eq_false c7
    clear c7
    replace H := bi H
    obtain ⟨t107, A12, H⟩ := H
    simp only [Option.some.injEq, Prod.mk.injEq] at H
    obtain ⟨rfl, rfl⟩ := H
    obtain ⟨Ao13, co13, eo13⟩ := Kd.R_slice HO_6.out
    subst eo13
    go_wp2_with (first | ((with_reducible refine gc 109 rfl ?_); refine gL 37 Try.func109 #[.slice Ao13 x6_1.length co13] ?_; (with_reducible refine (nat_trim.calls k1 (fun k_ => some k_ = (.slice Ao13 x6_1.length co13 : Value).ownBlock) _ _ x6_1 t107 _ ?_ A12.out).mono ?_); exact Kd.R_V (Kd.R_tight rfl (HO_6.out)); rintro e w14 ⟨v108, rfl, ho0, hb⟩; refine ⟨_, rfl, ?_⟩; have HO109 := lw HB (fun k_ => (w.heap.size ≤ k_)) ho0 (fun k_ hk_ => Or.elim hk_ (fun hs_ => (HO_6.out).1 k_ hs_.symm) (fun hn_ => Nat.le_trans (below_size (bup HB.out)) hn_)); replace HO_6 := rA HO_6 hb; replace HB := bA HB hb; clear hb ho0))
    go_ret2
    exact ⟨_, er, vup HO109.out, bup HB.out⟩
   rw [if_pos c7] at H
   have c7b0 : decide (x16_1 < (l0.length : Int)) = true := decide_eq_true c7
   clear c7
   replace H := bi H
   obtain ⟨t102, A8, H⟩ := H
   replace H := bi H
   obtain ⟨t103, A9, H⟩ := H
   replace H := iS H
   obtain ⟨c10, H⟩ := H
   have LMc10 := Aside0.mk c10
   clear c10
   obtain ⟨y104, hy104⟩ : ∃ y_ : List Int, y_ = (x6_1 ++ [(IntKind.u64.wrap ((IntKind.u64.wrap (t102 - t103)) - x7_1)) % 4294967296]) := ⟨_, rfl⟩
   replace H : (nat_Nat_Sub.l0 k1 l0 l1 y104 ((IntKind.u64.wrap ((IntKind.u64.wrap (t102 - t103)) - x7_1)) / 9223372036854775808) (l0.length : Int) (wrap64 (x16_1 + 1))) = some (r1, r2) := by first | (rw [hy104]; with_reducible exact H) | (have H2_ := (Option.bind_some _ _).symm.trans H; rw [hy104]; with_reducible exact H2_) | (have H2_ := (Option.bind_some _ _).symm.trans H; with_reducible exact H2_) | with_reducible exact H | (rw [hy104]; exact H) | exact H
   have Ny104 := Aside0.mk hy104
   clear hy104
   have H' := Aside0.mk H
   clear H
   go_wp2_with (first | ((with_reducible refine gc 108 rfl ?_); refine gL 21 Try.func108 #[.slice A0 l0.length c0, .int .i64 x16_1] ?_; (with_reducible refine (nat_Nat_at.calls _ _ l0 x16_1 t102 _ ?_ ?_ A8.out).mono ?_); exact Kd.C_below HR0.out (bup HB.out); exact HC0.out; rintro e w' ⟨rfl, ⟨nd, rfl⟩⟩; refine ⟨_, rfl, ?_⟩) | ((with_reducible refine gc 108 rfl ?_); refine gL 24 Try.func108 #[.slice A1 l1.length c1, .int .i64 x16_1] ?_; (with_reducible refine (nat_Nat_at.calls _ _ l1 x16_1 t103 _ ?_ ?_ A9.out).mono ?_); exact Kd.C_below HR1.out (bup HB.out); exact HC1.out; rintro e w' ⟨rfl, ⟨nd, rfl⟩⟩; refine ⟨_, rfl, ?_⟩) | ((with_reducible refine gate_builtin (b := .append) (xs := #[.tmp 28, .tmp 31]) rfl ?_); at_builtin; refine Kd.R_append (Kd.int .u32) (w0 := w) w.heap.size rfl (.tmp 28) (.tmp 31) 23 118 (.int .u32 0) 4 rfl Try.underlying23 info118 rfl (by decide) (by omega) u6 x6_1 ((IntKind.u64.wrap ((IntKind.u64.wrap (t102 - t103)) - x7_1)) % 4294967296) [.int .u32 ((IntKind.u64.wrap ((IntKind.u64.wrap (t102 - t103)) - x7_1)) % 4294967296)] (fun k_ => (w.heap.size ≤ k_)) (fun _ => False) rfl rfl ?aP (fun _ hk => hk.elim) ?aF ?aO ?aB ?aS ?aL ?_; (case aP => exact rfl); (case aB => exact (bup HB.out)); (case aF => exact (fun k_ hk => (Nat.le_trans (below_size (bup HB.out)) hk))); (case aO => exact (rup HO_6.out)); (case aS => exact (below_size (bup HB.out))); (case aL => have := LMc10.out; omega); intro v105 w11 ho hb hg hat; rw [← Ny104.out] at ho; replace HB := Aside0.mk (hb); have HO106 := Aside0.mk (ho); clear HO_6; clear ho hb hg hat))
   go_roundg k1
   case measure => have := HK1.out; omega
   case rel => exact ⟨(y104), ((IntKind.u64.wrap ((IntKind.u64.wrap (t102 - t103)) - x7_1)) / 9223372036854775808), (wrap64 (x16_1 + 1)), rS, rS, H', ⟨hk1⟩, ⟨rup HO106.out⟩, ⟨bup HB.out⟩⟩
def slices_Reverse_byte_byte.l0 : Nat → List Int → Int → Int → Option (List Int)
 | 0, _, _, _ => none
 | k + 1, x0, x2, x3 => if x2 < x3 then (if 0 ≤ x3 then (if x3 < (x0.length : Int) then (if 0 ≤ x2 then (if x2 < (x0.length : Int) then (slices_Reverse_byte_byte.l0 k ((x0.set (x2 : Int).toNat (rd x0 x3)).set (x3 : Int).toNat (rd x0 x2)) (wrap64 (x2 + 1)) (wrap64 (x3 - 1))) else (none)) else (none)) else (none)) else (none)) else (some x0)
def slices_Reverse_byte_byte.f (k : Nat) (l0 : List Int) : Option (List Int) := slices_Reverse_byte_byte.l0 k l0 0 (wrap64 ((l0.length : Int) - 1))
theorem slices_Reverse_byte_byte.mono_l : ∀ k, (∀ y0 y1 y2, LeO (slices_Reverse_byte_byte.l0 k y0 y1 y2) (slices_Reverse_byte_byte.l0 (k + 1) y0 y1 y2))
 | 0 => fun _ _ _ r h => by simp [slices_Reverse_byte_byte.l0] at h
 | k + 1 => by
  have ih0 := slices_Reverse_byte_byte.mono_l k
  ·intro y0 y1 y2
   unfold slices_Reverse_byte_byte.l0
   repeat' with_reducible first | exact ih0 _ _ _ | exact LeO.refl _ | exact LeO.none _ | refine LeO.ite ?_ ?_ | refine LeO.bind ?_ (fun _ => ?_)
theorem slices_Reverse_byte_byte.mono : ∀ a0 k, LeO (slices_Reverse_byte_byte.f k a0) (slices_Reverse_byte_byte.f (k + 1) a0) := by
 intro a0 k
 have ih0 := slices_Reverse_byte_byte.mono_l k
 unfold slices_Reverse_byte_byte.f
 repeat' with_reducible first | exact ih0 _ _ _ | exact LeO.refl _ | exact LeO.none _ | refine LeO.ite ?_ ?_ | refine LeO.bind ?_ (fun _ => ?_)
def slices_Reverse_byte_byte.T3 : Bool × List (List Nat × List Nat) := (true, [([], []), ([], []), ([], []), ([], []), ([], []), ([], []), ([4, 5], [4, 5]), ([6], [6]), ([], []), ([], []), ([8, 9], [8, 9]), ([10], [10]), ([0, 1, 0, 1, 4, 5, 6, 7, 11], [0, 1]), ([12, 7, 0, 1, 4, 5, 6, 7, 11], [7, 12]), ([2, 3, 0, 1, 2, 3, 4, 5, 6, 7, 8, 9, 10, 11, 12, 13], [2, 3]), ([14, 11, 13, 0, 1, 2, 3, 4, 5, 6, 7, 8, 9, 10, 11, 12, 13], [11, 14])])
def slices_Reverse_byte_byte.B3 : List Nat := [0, 0, 0, 0, 0, 0, 48, 112, 0, 0, 768, 1792, 4083, 8179, 16383, 32767]
theorem slices_Reverse_byte_byte.tab3 : rtab .any (opsOf Try.f116 3) = slices_Reverse_byte_byte.T3 := by kernel_rfl
theorem slices_Reverse_byte_byte.bits3 : waitsOk slices_Reverse_byte_byte.T3.2 slices_Reverse_byte_byte.B3 = true := by kernel_rfl
set_option maxHeartbeats 8000000 in
set_option maxRecDepth 100000 in
theorem slices_Reverse_byte_byte.calls (k : Nat) (P0_ : Nat → Prop) (u9000_ : Value) (l0 : List Int) (r : List Int) (w0 w : World) (hB : Below w0.heap.size w0 w) (ho0 : Kd.R (Kd.int .u8) 5 w w0.heap.size P0_ u9000_ l0) (H : slices_Reverse_byte_byte.f k l0 = some r) :
  Calls Try.prog 116 #[u9000_] w fun e w' => e = .returned (.tuple #[]) ∧ Kd.R (Kd.int .u8) 5 w' w0.heap.size (fun k_ => (P0_ k_ ∨ w.heap.size ≤ k_)) u9000_ r ∧ Below w0.heap.size w0 w' ∧ Kept w w' (fun k_ => P0_ k_) := by
 have HO0 := Aside0.mk (show Kd.R (Kd.int .u8) 5 w w0.heap.size (fun k_ => (P0_ k_ ∨ w.heap.size ≤ k_)) u9000_ l0 from Kd.R_mono ho0 (fun k_ hk => (.inl hk)))
 have HK := Aside0.mk (Kept.refl w (fun k_ => P0_ k_))
 have HW0 := Aside0.mk hB.size
 have HB := Aside0.mk hB
 clear hB
 unfold slices_Reverse_byte_byte.f at H
 have H' := Aside0.mk H
 clear H
 obtain ⟨Ao2, co2, eo2⟩ := Kd.R_slice HO0.out
 subst eo2
 go_enter Try.func116, Try.ntmps116
 go_wp2
 go_loopg [2, 3] k (fun kq v2 v3 w' => ∃ (x0_1 : List Int) (x2_1 : Int) (x3_1 : Int), v2 = .int .i64 x2_1 ∧ v3 = .int .i64 x3_1 ∧ Aside0 (slices_Reverse_byte_byte.l0 kq x0_1 x2_1 x3_1 = some r) ∧ Aside0 (kq ≤ k) ∧ Aside0 (Kd.R (Kd.int .u8) 5 w' w0.heap.size (fun k_ => (P0_ k_ ∨ w.heap.size ≤ k_)) (.slice Ao2 l0.length co2) x0_1) ∧ Aside0 (Kept w w' (fun k_ => P0_ k_)) ∧ Aside0 (Below w0.heap.size w0 w'))
 case atStart => exact ⟨(l0), (0), (wrap64 ((l0.length : Int) - 1)), rS, rS, H', ⟨Nat.le_refl _⟩, ⟨rup HO0.out⟩, ⟨hK0⟩, ⟨bup HB.out⟩⟩
 case round =>
  clear H'
  try clear c1
  try clear p2
  obtain ⟨x0_1, x2_1, x3_1, rfl, rfl, HA, HK1, HO_0, HK, HB⟩ := hrel
  have hl0_1 := (Kd.R_reads' HO_0.out).1
  rw [hl0_1] at HO_0
  (try simp only [hl0_1])
  cases gk with
  | zero => exact absurd HA.out (by simp [slices_Reverse_byte_byte.l0])
  | succ k1 =>
   have H := HA.out
   clear HA
   simp only [slices_Reverse_byte_byte.l0] at H
   by_cases c3 : x2_1 < x3_1
   rotate_left
   ·rw [if_neg c3] at H
    have c3b0 : decide (x2_1 < x3_1) = false := decide_eq_false c3
    clear c3
    obtain rfl := Option.some.inj H
    go_wp2
    first | go_end0 | ((try simp only [Exit.inBlock, Exit.then]); refine bodyPost_ret (results_none rfl _ _ _) rfl ?_)
    exact ⟨er, (by first | exact (rup HO_0.out) | (simp only [hl0_1]; exact (rup HO_0.out))), bup HB.out, hK0⟩
   rw [if_pos c3] at H
   have c3b0 : decide (x2_1 < x3_1) = true := decide_eq_true c3
   clear c3
   replace H := iS H
   obtain ⟨c4, H⟩ := H
   have c4b0 : decide (0 ≤ x3_1) = true := decide_eq_true c4
   clear c4
   replace H := iS H
   obtain ⟨c5, H⟩ := H
   have c5b0 : decide (x3_1 < (x0_1.length : Int)) = true := decide_eq_true c5
   clear c5
   replace H := iS H
   obtain ⟨c6, H⟩ := H
   have c6b0 : decide (0 ≤ x2_1) = true := decide_eq_true c6
   clear c6
   replace H := iS H
   obtain ⟨c7, H⟩ := H
   have c7b0 : decide (x2_1 < (x0_1.length : Int)) = true := decide_eq_true c7
   clear c7
   obtain ⟨y103, hy103⟩ : ∃ y_ : List Int, y_ = (x0_1.set (x2_1 : Int).toNat (rd x0_1 x3_1)) := ⟨_, rfl⟩
   replace H : (slices_Reverse_byte_byte.l0 k1 (y103.set (x3_1 : Int).toNat (rd x0_1 x2_1)) (wrap64 (x2_1 + 1)) (wrap64 (x3_1 - 1))) = some r := by first | (rw [hy103]; with_reducible exact H) | (have H2_ := (Option.bind_some _ _).symm.trans H; rw [hy103]; with_reducible exact H2_) | (have H2_ := (Option.bind_some _ _).symm.trans H; with_reducible exact H2_) | with_reducible exact H | (rw [hy103]; exact H) | exact H
   have Ny103 := Aside0.mk hy103
   clear hy103
   obtain ⟨y104, hy104⟩ : ∃ y_ : List Int, y_ = (y103.set (x3_1 : Int).toNat (rd x0_1 x2_1)) := ⟨_, rfl⟩
   replace H : (slices_Reverse_byte_byte.l0 k1 y104 (wrap64 (x2_1 + 1)) (wrap64 (x3_1 - 1))) = some r := by first | (rw [hy104]; with_reducible exact H) | (have H2_ := (Option.bind_some _ _).symm.trans H; rw [hy104]; with_reducible exact H2_) | (have H2_ := (Option.bind_some _ _).symm.trans H; with_reducible exact H2_) | with_reducible exact H | (rw [hy104]; exact H) | exact H
   have Ny104 := Aside0.mk hy104
   clear hy104
   have H' := Aside0.mk H
   clear H
   try go_wp2
   replace HO_0 := Aside0.mk (Kd.R_drew HO_0.out)
   replace HK := Aside0.mk (Kept.drew HK.out)
   replace HB := bd HB
   have p101 : 0 ≤ (x3_1 : Int) := of_decide_eq_true asm
   have q101 : x3_1 < (x0_1.length : Int) := of_decide_eq_true asm
   obtain ⟨ad101, e101, hx101_0⟩ := Kd.at_int (Kd.R_reads' HO_0.out).2.2 x3_1 p101 q101
   cases e101
   replace p101 := eq_true p101
   replace q101 := eq_true q101
   have p102 : 0 ≤ (x2_1 : Int) := of_decide_eq_true asm
   have q102 : x2_1 < (x0_1.length : Int) := of_decide_eq_true asm
   obtain ⟨ad102, e102, hx102_0⟩ := Kd.at_int (Kd.R_reads' HO_0.out).2.2 x2_1 p102 q102
   obtain rfl : ad101 = ad102 := (by injection e102)
   replace p102 := eq_true p102
   replace q102 := eq_true q102
   have p8 : 0 ≤ (x2_1 : Int) := of_decide_eq_true asm
   have q8 : (x2_1 : Int) < ((x0_1.length : Int) : Int) := of_decide_eq_true asm
   obtain ⟨go8, co8, eo8, gb8, gl8, cl8, HG8⟩ := Kd.R_form HO_0.out (by omega)
   (first | cases eo8 | (injection eo8 with ea_ en_ ec_; (first | subst ea_ | (injection ea_ with ea_; subst ea_)); subst ec_; clear en_))
   have GB8 := Aside0.mk gb8
   have GG8 := Aside0.mk HG8
   clear gb8 gl8 HG8
   have HMgo8 := Aside0.mk (show (P0_ go8 ∨ w.heap.size ≤ go8) from (HO_0.out.1 _ rfl))
   (first | simp only [add_plain] at hx101_0 | skip)
   (first | simp only [add_plain] at hx102_0 | skip)
   obtain ⟨hx8_0, hf8_0⟩ := Kd.R_celln 0 HO_0.out (x2_1 : Int) p8 q8
   replace p8 := eq_true p8
   replace q8 := eq_true q8
   have HP11 := Kd.R_putn HO_0.out (x2_1 : Int) (rd x0_1 x3_1)
   rw [← Ny103.out] at HP11
   have HQ11 := Aside0.mk HP11
   clear HP11
   have p9 : 0 ≤ (x3_1 : Int) := of_decide_eq_true asm
   have q9 : (x3_1 : Int) < ((x0_1.length : Int) : Int) := of_decide_eq_true asm
   obtain ⟨hx9_0, hf9_0⟩ := Kd.R_celln 0 HQ11.out (x3_1 : Int) p9 q9
   replace p9 := eq_true p9
   replace q9 := eq_true q9
   have HP12 := Kd.R_putn HQ11.out (x3_1 : Int) (rd x0_1 x2_1)
   rw [← Ny104.out] at HP12
   have HQ12 := Aside0.mk HP12
   clear HP12
   refine st (S := fun w' => w'.cell? ⟨go8, (x3_1).toNat, none⟩ = some (.int .u8 (rd x0_1 x3_1)) ∧ w'.cell? ⟨go8, (x2_1).toNat, none⟩ = some (.int .u8 (rd x0_1 x2_1))) 16 [13, 15] (tf 0 16) ⟨hx101_0, hx102_0⟩ (fun hHeld => ?_); refine with_tabW slices_Reverse_byte_byte.tab3 slices_Reverse_byte_byte.bits3 (fun HT_ HW_ => ?_)
   generalize wr.drew = w10 at HO_0 HK HB GG8 HQ11 HQ12 hf8_0 hf9_0 hx101_0 hx102_0 hx8_0 hx9_0 hHeld ⊢
   refine pu 0 14 (tf 1 15) ?_
   refine pu 1 15 (tf 2 14) ?_
   refine pu 2 16 (tf 3 13) ?_
   refine pu 3 17 (tf 4 12) ?_
   refine pu 4 18 (tf 5 11) ?_
   refine pu 5 19 (tf 6 10) ?_
   refine pu 6 20 (tf 7 9) ?_
   refine pu 8 22 #[true, true, true, true, true, true, true, false, true, false, false, false, false, false, false, false] ?_
   refine pu 9 23 #[true, true, true, true, true, true, true, false, true, true, false, false, false, false, false, false] ?_
   refine pu 10 24 #[true, true, true, true, true, true, true, false, true, true, true, false, false, false, false, false] ?_
   refine tk 7 21 (tf 11 5) hHeld ?_
   refine tk 11 25 (tf 12 4) hHeld ?_
   refine pu 12 26 (tf 13 3) ?_
   refine la 13 none (tf 14 2) (fun K hK => ?_)
   refine sk (hK.out _ _ ?_)
   clear hK K
   refine pu 14 27 (tf 15 1) ?_
   refine la 15 none (tf 16 0) (fun K hK => ?_)
   refine sk (hK.out _ _ ?_)
   clear hK K
   refine done_ (done_of HT_.out (by kernel_rfl)) ?_
   try go_wp2
   (try simp only [← hl0_1])
   go_roundg k1
   case measure => have := HK1.out; omega
   case rel => exact ⟨(y104), (wrap64 (x2_1 + 1)), (wrap64 (x3_1 - 1)), rS, rS, H', ⟨hk1⟩, ⟨by (try simp only [hl0_1]); (with_reducible repeat (first | apply Kd.R_alloc | apply Kd.R_drewN | apply Kd.R_drew)); exact HQ12.out⟩, ⟨by repeat (first | (with_reducible first | exact HK.out | apply Kept.alloc | apply Kept.drewN | apply Kept.drew | refine Kept.setCell ?_ HMgo8.out _ | refine Kept.setCell ?_ HMgo8.out _) | exact HK.out)⟩, ⟨by repeat (first | (with_reducible first | exact HB.out | apply below_alloc | apply pw_below_drewN | apply below_drew1 | refine below_set ?_ GB8.out | refine below_set ?_ GB8.out) | exact HB.out)⟩⟩
end Go.Proofs.Ytagbnkbhobmgjaa.Fn
end
section
/-! make with a capacity of its own, of 32-bit words. -/
set_option linter.unusedVariables false
set_option linter.unusedSimpArgs false
namespace Go.Proofs.Ytagbnkbhobmgjaa.Fn
open Go.RowKit Go.Proofs.YtagbnkbhobmgjaaW.PrintWords Go.Proofs.YtagbnkbhobmgjaaW.PrintLast Go.Proofs.YtagbnkbhobmgjaaW.PrintMore
theorem madeCells_u32 (m : Nat) : madeCells (Value.int .u32 0).cells m = Array.replicate m (.int .u32 0) := by
  apply Array.ext
  · simp [madeCells]
  · intro i h1 h2
    simp [madeCells, Value.cells, Nat.mod_one]
section
variable {P : Program} {ops : Array Oper} {rest : List Oper} {o : Oper} {a : Act} {Q : Exit → Act → World → Prop}
theorem R_makec {w0 W : World} (base : Nat) (hgd : o.guard = none) {N : Tmp} (_hd : o.dst = some N) (x y : Operand) (ho : o.op = .makeSlice 22 x y) (n m : Int) (hx : a.eval x = .int .i64 n) (hy : a.eval y = .int .i64 m)
    (ht : P.underlying 22 = some (.slice 118)) (hinfo : (P.info? 118).map (fun i => (i.zero, i.size, i.bytes)) = some (some (.int .u32 0), 1, 4))
    {ok : Nat → Prop} (hfresh : ok W.heap.size) (h0 : 0 ≤ n) (hnm : n ≤ m) (hl : m ≤ 70368744177664) (HB : Below base w0 W) (hbase : base ≤ W.heap.size)
    (h : ∀ v1 w1, Kd.R (Kd.int .u32) 118 w1 base ok v1 (List.replicate n.toNat 0) → Below base w0 w1 → W.grownBy w1 none → (∃ b, v1.ownBlock = some b ∧ W.heap.size ≤ b) → wpList P ops Q rest (a.put o.dst v1) w1) : wpList P ops Q (o :: rest) a W := by
  obtain ⟨i0, hi, hzz⟩ := Option.map_eq_some_iff.1 hinfo
  simp only [Prod.mk.injEq] at hzz
  obtain ⟨hz0, hz1, hz2⟩ := hzz
  have hr := run_make (P := P) W 22 118 i0 (.int .u32 0) ht hi hz0 .i64 .i64 n m h0 hnm (by rw [hz2]; omega) (by omega)
  rw [hz1, Nat.mul_one, madeCells_u32] at hr
  have hrun : (execOp a.eval o).run P W = .ok (.value (.slice (some ⟨W.heap.size, 0, none⟩) n.toNat m.toNat)) (W.alloc (.cells (Array.replicate m.toNat (.int .u32 0)) 118)) := by
    simp [execOp, ho, hx, hy, hr]
  refine Kd.event_run hgd hrun (h _ _ ⟨fun k hk => ?_, List.replicate n.toNat (.int .u32 0), ⟨?_, .inr ⟨W.heap.size, m.toNat, Array.replicate m.toNat (.int .u32 0), ?_, hbase, heap_alloc_new W _, ?_, ?_, ?_, ?_⟩⟩, ?_⟩ (HB.alloc hbase _) (World.grownBy_alloc W _ none) ⟨W.heap.size, by simp [Value.ownBlock], Nat.le_refl _⟩)
  · have : W.heap.size = k := by simpa [Value.ownBlock] using hk
    subst this
    exact hfresh
  · show (List.replicate n.toNat (Value.int .u32 0)).length = (List.replicate n.toNat (0 : Int)).length * 1
    simp
  · simp
  · simp; omega
  · simp only [maxLen]; omega
  · show (Array.replicate m.toNat (Value.int .u32 0)).size = m.toNat * 1
    simp
  · show (Array.replicate m.toNat (Value.int .u32 0)).toList.take ((List.replicate n.toNat (0 : Int)).length * 1) = _
    simp [List.take_replicate]; omega
  · have hq := Kd.reps_made (R := (Kd.int .u32).M (W.alloc (.cells (Array.replicate m.toNat (Value.int .u32 0)) 118)) base (fun k => ok k ∧ some k ≠ (Value.slice (some ⟨W.heap.size, 0, none⟩) n.toNat m.toNat).ownBlock)) (z := .int .u32 0) (size := 1) (z0 := (0 : Int)) rfl (by omega) rfl n.toNat
    rw [Nat.mul_one, madeCells_u32] at hq
    simp only [Array.toList_replicate] at hq
    exact hq
end
end Go.Proofs.Ytagbnkbhobmgjaa.Fn
end
section
namespace Go.Proofs.Ytagbnkbhobmgjaa.Fn
open Go.RowKit Go.Proofs.YtagbnkbhobmgjaaW.PrintWords Go.Proofs.YtagbnkbhobmgjaaW.PrintLast Go.Proofs.YtagbnkbhobmgjaaW.PrintMore
attribute [local go_sem] max2_int min2_int max_two min_two max_three min_three max_four min_four   -- for this text's walks alone
set_option linter.unusedVariables false
set_option linter.unusedSimpArgs false
def flyballref02_Same.l0 : Nat → List Int → List Int → Int → Option (Bool)
 | 0, _, _, _ => none
 | k + 1, x0, x1, x5 => if x5 < (x0.length : Int) then (if 0 ≤ x5 then (if x5 < (x1.length : Int) then (if (rd x0 x5) = (rd x1 x5) then (flyballref02_Same.l0 k x0 x1 (wrap64 (x5 + 1))) else (some false)) else (none)) else (none)) else (some true)
def flyballref02_Same.f (k : Nat) (l0 : List Int) (l1 : List Int) : Option (Bool) := if (l0.length : Int) = (l1.length : Int) then (flyballref02_Same.l0 k l0 l1 0) else (some false)
set_option maxHeartbeats 8000000 in
set_option maxRecDepth 100000 in
theorem flyballref02_Same.calls (k : Nat) (A0 : Option Addr) (c0 : Nat) (l0 : List Int) (A1 : Option Addr) (c1 : Nat) (l1 : List Int) (r : Bool) (w : World) (hr0 : Kd.C (Kd.int .u32) w A0 l0.length l0) (hc0 : l0.length ≤ c0) (hr1 : Kd.C (Kd.int .u32) w A1 l1.length l1) (hc1 : l1.length ≤ c1) (H : flyballref02_Same.f k l0 l1 = some r) :
  Calls Try.prog 106 #[.slice A0 l0.length c0, .slice A1 l1.length c1] w fun e w' => e = .returned (.bool r) ∧ Drawn0 w w' := by
 have HR0 := Aside0.mk hr0
 have HC0 := Aside0.mk hc0
 clear hr0 hc0
 have HR1 := Aside0.mk hr1
 have HC1 := Aside0.mk hc1
 clear hr1 hc1
 unfold flyballref02_Same.f at H
 by_cases c3 : (l0.length : Int) = (l1.length : Int)
 rotate_left
 ·rw [if_neg c3] at H
  obtain ⟨c3b0, c3b1⟩ := bqF c3
  have c3b2 : (l0.length == l1.length) = false := by first | simpa using c3 | (simp at c3 ⊢; omega)
  obtain rfl := Option.some.inj H
  go_enter Try.func106, Try.ntmps106
  go_wp2
  repeat (go_quiet (fail); try go_wp2)
  go_ret
  exact ⟨rS, by repeat (first | exact Drawn0.refl _ | apply Drawn0.step)⟩
 rw [if_pos c3] at H
 obtain ⟨c3b0, c3b1⟩ := bqT c3
 have c3b2 : (l0.length == l1.length) = true := by first | simpa using c3 | (simp at c3 ⊢; omega)
 clear c3
 have H' := Aside0.mk H
 clear H
 go_enter Try.func106, Try.ntmps106
 go_wp2
 repeat (go_quiet (fail); try go_wp2)
 go_loopg [5] k (fun kq v5 w' => ∃ (x5_1 : Int), v5 = .int .i64 x5_1 ∧ Aside0 (flyballref02_Same.l0 kq l0 l1 x5_1 = some r) ∧ Aside0 (kq ≤ k) ∧ Drawn0 w w')
 case atStart => exact ⟨(0), rS, H', ⟨Nat.le_refl _⟩, by repeat (first | exact Drawn0.refl _ | apply Drawn0.step)⟩
 case round =>
  clear H'
  try clear c1
  try clear p2
  try clear c3
  try clear c3b0
  try clear c3b1
  try clear c3b2
  obtain ⟨x5_1, rfl, HA, HK1, ⟨m1, rfl⟩⟩ := hrel
  cases gk with
  | zero => exact absurd HA.out (by simp [flyballref02_Same.l0])
  | succ k1 =>
   have H := HA.out
   clear HA
   simp only [flyballref02_Same.l0] at H
   by_cases c4 : x5_1 < (l0.length : Int)
   rotate_left
   ·rw [if_neg c4] at H
    have c4b0 : decide (x5_1 < (l0.length : Int)) = false := decide_eq_false c4
    clear c4
    obtain rfl := Option.some.inj H
    go_wp2
    repeat (go_quiet (fail); try go_wp2)
    go_ret
    exact ⟨rS, by repeat (first | exact Drawn0.refl _ | apply Drawn0.step)⟩
   rw [if_pos c4] at H
   have c4b0 : decide (x5_1 < (l0.length : Int)) = true := decide_eq_true c4
   clear c4
   replace H := iS H
   obtain ⟨c5, H⟩ := H
   have c5b0 : decide (0 ≤ x5_1) = true := decide_eq_true c5
   clear c5
   replace H := iS H
   obtain ⟨c6, H⟩ := H
   have c6b0 : decide (x5_1 < (l1.length : Int)) = true := decide_eq_true c6
   clear c6
   by_cases c7 : (rd l0 x5_1) = (rd l1 x5_1)
   rotate_left
   ·rw [if_neg c7] at H
    obtain ⟨c7b0, c7b1⟩ := bqF c7
    obtain rfl := Option.some.inj H
    have p101 : 0 ≤ (x5_1 : Int) := of_decide_eq_true asm
    have q101 : x5_1 < (l0.length : Int) := of_decide_eq_true asm
    obtain ⟨ad101, e101, hx101_0⟩ := Kd.at_int HR0.out x5_1 p101 q101
    cases e101
    replace p101 := eq_true p101
    replace q101 := eq_true q101
    have p102 : 0 ≤ (x5_1 : Int) := of_decide_eq_true asm
    have q102 : x5_1 < (l1.length : Int) := of_decide_eq_true asm
    obtain ⟨ad102, e102, hx102_0⟩ := Kd.at_int HR1.out x5_1 p102 q102
    cases e102
    replace p102 := eq_true p102
    replace q102 := eq_true q102
    go_wp2
    repeat (go_quiet (fail); try go_wp2)
    go_ret
    exact ⟨rS, by repeat (first | exact Drawn0.refl _ | apply Drawn0.step)⟩
   rw [if_pos c7] at H
   obtain ⟨c7b0, c7b1⟩ := bqT c7
   clear c7
   have H' := Aside0.mk H
   clear H
   have p101 : 0 ≤ (x5_1 : Int) := of_decide_eq_true asm
   have q101 : x5_1 < (l0.length : Int) := of_decide_eq_true asm
   obtain ⟨ad101, e101, hx101_0⟩ := Kd.at_int HR0.out x5_1 p101 q101
   cases e101
   replace p101 := eq_true p101
   replace q101 := eq_true q101
   have p102 : 0 ≤ (x5_1 : Int) := of_decide_eq_true asm
   have q102 : x5_1 < (l1.length : Int) := of_decide_eq_true asm
   obtain ⟨ad102, e102, hx102_0⟩ := Kd.at_int HR1.out x5_1 p102 q102
   cases e102
   replace p102 := eq_true p102
   replace q102 := eq_true q102
   go_wp2
   repeat (go_quiet (fail); try go_wp2)
   go_roundg k1
   case measure => have := HK1.out; omega
   case rel => exact ⟨(wrap64 (x5_1 + 1)), rS, H', ⟨hk1⟩, by repeat (first | exact Drawn0.refl _ | apply Drawn0.step)⟩
def flyballref02_Words.l0 : Nat → List Bool → Int → List Int → Int → Option (List Int)
 | 0, _, _, _, _ => none
 | k + 1, x0, x3, x4, x5 => if x5 < x3 then (if 0 ≤ x5 then (if x5 < (x0.length : Int) then (if rdOf false x0 x5 = true then (if 0 ≤ (wrap64 (Int.tdiv x5 32)) then (if (wrap64 (Int.tdiv x5 32)) < (x4.length : Int) then (if 0 ≤ (IntKind.u64.wrap (Int.tmod x5 32)) then (flyballref02_Words.l0 k x0 x3 (x4.set ((wrap64 (Int.tdiv x5 32)) : Int).toNat (Go.bits .or .u32 (rd x4 (wrap64 (Int.tdiv x5 32))) (shl .u32 1 (IntKind.u64.wrap (Int.tmod x5 32))))) (wrap64 (x5 + 1))) else (none)) else (none)) else (none)) else (flyballref02_Words.l0 k x0 x3 x4 (wrap64 (x5 + 1)))) else (none)) else (none)) else (some x4)
def flyballref02_Words.f (k : Nat) (l0 : List Bool) : Option (List Int) := (flyballref01_Len.f k l0).bind fun t101 => (if 0 ≤ (wrap64 (Int.tdiv (wrap64 (t101 + 31)) 32)) then (if (wrap64 (Int.tdiv (wrap64 (t101 + 31)) 32) : Int).toNat ≤ 70368744177664 then (flyballref02_Words.l0 k l0 t101 (List.replicate (wrap64 (Int.tdiv (wrap64 (t101 + 31)) 32) : Int).toNat 0) 0) else (none)) else (none))
set_option maxHeartbeats 8000000 in
set_option maxRecDepth 100000 in
theorem flyballref02_Words.calls (k : Nat) (A0 : Option Addr) (c0 : Nat) (l0 : List Bool) (r : List Int) (w : World) (hr0 : Kd.C Kd.bool w A0 l0.length l0) (hc0 : l0.length ≤ c0) (H : flyballref02_Words.f k l0 = some r) :
  Calls Try.prog 107 #[.slice A0 l0.length c0] w fun e w' => ∃ v0_ : Value, e = .returned (v0_) ∧ Kd.R (Kd.int .u32) 118 w' w.heap.size (fun _ => True) v0_ r ∧ Below w.heap.size w w' := by
 have HR0 := Aside0.mk hr0
 have HC0 := Aside0.mk hc0
 clear hr0 hc0
 have HB := Aside0.mk (Below.refl w.heap.size w)
 unfold flyballref02_Words.f at H
 replace H := bi H
 obtain ⟨t101, A2, H⟩ := H
 obtain ⟨ji3, hji3⟩ : ∃ j_ : Int, (wrap64 (Int.tdiv (wrap64 (t101 + 31)) 32)) = j_ := ⟨_, rfl⟩
 replace H : (if 0 ≤ (ji3) then (if (ji3 : Int).toNat ≤ 70368744177664 then (flyballref02_Words.l0 k l0 t101 (List.replicate (ji3 : Int).toNat 0) 0) else (none)) else (none)) = some r := by first | (rw [hji3] at H; exact H) | (simp only [hji3] at H ⊢; exact H)
 (try rw [hji3] at A2)
 have hji3w : (IntKind.i64.wrap (Int.tdiv (wrap64 (t101 + 31)) 32)) = ji3 := (i64_w _).trans hji3
 replace H := iS H
 obtain ⟨c4, H⟩ := H
 have c4b0 := eq_true c4
 have c4b1 : decide (0 ≤ (ji3)) = true := decide_eq_true c4
 clear c4
 replace H := iS H
 obtain ⟨c5, H⟩ := H
 have c5b0 := eq_true c5
 have c5b1 : decide ((ji3 : Int).toNat ≤ 70368744177664) = true := decide_eq_true c5
 clear c5
 obtain ⟨y102, hy102⟩ : ∃ y_ : List Int, y_ = (List.replicate (ji3 : Int).toNat 0) := ⟨_, rfl⟩
 replace H : (flyballref02_Words.l0 k l0 t101 y102 0) = some r := by first | (rw [hy102]; with_reducible exact H) | (have H2_ := (Option.bind_some _ _).symm.trans H; rw [hy102]; with_reducible exact H2_) | (have H2_ := (Option.bind_some _ _).symm.trans H; with_reducible exact H2_) | with_reducible exact H | (rw [hy102]; exact H) | exact H
 have Ny102 := Aside0.mk hy102
 clear hy102
 have H' := Aside0.mk H
 clear H
 go_enter Try.func107, Try.ntmps107
 go_wp2_with (first | ((with_reducible refine gc 53 rfl ?_); refine gL 7 Try.func53 #[.slice A0 l0.length c0] ?_; (with_reducible refine (flyballref01_Len.calls k _ _ l0 t101 _ ?_ ?_ A2.out).mono ?_); exact cup (HR0.out); exact HC0.out; rintro e w' ⟨rfl, ⟨nd, rfl⟩⟩; refine ⟨_, rfl, ?_⟩) | ((with_reducible refine gd 11 rfl ?_); refine Kd.R_make (Kd.int .u32) _ 118 rfl (N := 11) rfl 22 _ _ rfl ji3 rfl rfl Try.underlying22 (.int .u32 0) 4 info118 rfl (by decide) (by omega) 0 (ok := fun _ => True) (okp := fun _ => True) rfl (fun _ hk => hk) trivial (of_decide_eq_true asm) (Nat.le_trans (Nat.mul_le_mul_right _ (of_decide_eq_true asm : ji3.toNat ≤ 70368744177664)) (by omega)) (Below.refl _ _) (Nat.le_refl _) ?_; intro v103 w6 ho7 hb hg_ hnew_; clear hg_ hnew_; (first | rw [← Ny102.out] at ho7 | (simp only [Int.reduceToNat] at ho7; rw [← Ny102.out] at ho7)); have HO104 := Aside0.mk (Kd.R_lower ho7 (below_size (bup HB.out))); replace HB := bA HB hb; clear hb ho7))
 go_loopg [5] k (fun kq v5 w' => ∃ (x4_1 : List Int) (x5_1 : Int), v5 = .int .i64 x5_1 ∧ Aside0 (flyballref02_Words.l0 kq l0 t101 x4_1 x5_1 = some r) ∧ Aside0 (kq ≤ k) ∧ Aside0 (Kd.R (Kd.int .u32) 118 w' w.heap.size (fun _ => True) v103 x4_1) ∧ Aside0 (Below w.heap.size w w'))
 case atStart => exact ⟨(y102), (0), rS, H', ⟨Nat.le_refl _⟩, ⟨rup HO104.out⟩, ⟨bup HB.out⟩⟩
 case round =>
  clear H'
  try clear c1
  try clear p2
  try clear c4
  try clear c4b0
  try clear c4b1
  try clear c5
  try clear c5b0
  try clear c5b1
  try clear p6
  obtain ⟨x4_1, x5_1, rfl, HA, HK1, HO_4, HB⟩ := hrel
  cases gk with
  | zero => exact absurd HA.out (by simp [flyballref02_Words.l0])
  | succ k1 =>
   have H := HA.out
   clear HA
   simp only [flyballref02_Words.l0] at H
   by_cases c8 : x5_1 < t101
   rotate_left
   ·rw [if_neg c8] at H
    have c8b0 : decide (x5_1 < t101) = false := decide_eq_false c8
    clear c8
    obtain rfl := Option.some.inj H
    go_wp2
    go_ret
    exact ⟨_, by first | rfl | (simp [errW_none, errW_some] <;> rfl) | (simp only [← hji3]; first | rfl | (simp [errW_none, errW_some] <;> rfl)) | (simp [*, errW_none, errW_some] <;> rfl), rup HO_4.out, bup HB.out⟩
   rw [if_pos c8] at H
   have c8b0 : decide (x5_1 < t101) = true := decide_eq_true c8
   clear c8
   replace H := iS H
   obtain ⟨c9, H⟩ := H
   have c9b0 : decide (0 ≤ x5_1) = true := decide_eq_true c9
   clear c9
   replace H := iS H
   obtain ⟨c10, H⟩ := H
   have c10b0 : decide (x5_1 < (l0.length : Int)) = true := decide_eq_true c10
   clear c10
   obtain ⟨bq11, hbq11⟩ : ∃ b_ : Bool, b_ = (rdOf false l0 x5_1) := ⟨_, rfl⟩
   replace H : (if bq11 = true then (if 0 ≤ (wrap64 (Int.tdiv x5_1 32)) then (if (wrap64 (Int.tdiv x5_1 32)) < (x4_1.length : Int) then (if 0 ≤ (IntKind.u64.wrap (Int.tmod x5_1 32)) then (flyballref02_Words.l0 k1 l0 t101 (x4_1.set ((wrap64 (Int.tdiv x5_1 32)) : Int).toNat (Go.bits .or .u32 (rd x4_1 (wrap64 (Int.tdiv x5_1 32))) (shl .u32 1 (IntKind.u64.wrap (Int.tmod x5_1 32))))) (wrap64 (x5_1 + 1))) else (none)) else (none)) else (none)) else (flyballref02_Words.l0 k1 l0 t101 x4_1 (wrap64 (x5_1 + 1)))) = some r := by rw [← hbq11] at H; exact H
   have Nbq11 := Aside0.mk hbq11
   clear hbq11
   by_cases c12 : bq11 = true
   ·subst c12
    replace H := ifT H
    obtain ⟨ji13, hji13⟩ : ∃ j_ : Int, (wrap64 (Int.tdiv x5_1 32)) = j_ := ⟨_, rfl⟩
    replace H : (if 0 ≤ (ji13) then (if (ji13) < (x4_1.length : Int) then (if 0 ≤ (IntKind.u64.wrap (Int.tmod x5_1 32)) then (flyballref02_Words.l0 k1 l0 t101 (x4_1.set ((ji13) : Int).toNat (Go.bits .or .u32 (rd x4_1 (ji13)) (shl .u32 1 (IntKind.u64.wrap (Int.tmod x5_1 32))))) (wrap64 (x5_1 + 1))) else (none)) else (none)) else (none)) = some r := by first | (rw [hji13] at H; exact H) | (simp only [hji13] at H ⊢; exact H)
    have hji13w : (IntKind.i64.wrap (Int.tdiv x5_1 32)) = ji13 := (i64_w _).trans hji13
    replace H := iS H
    obtain ⟨c14, H⟩ := H
    have c14b0 : decide (0 ≤ (ji13)) = true := decide_eq_true c14
    clear c14
    replace H := iS H
    obtain ⟨c15, H⟩ := H
    have c15b0 : decide ((ji13) < (x4_1.length : Int)) = true := decide_eq_true c15
    clear c15
    obtain ⟨ji16, hji16⟩ : ∃ j_ : Int, (IntKind.u64.wrap (Int.tmod x5_1 32)) = j_ := ⟨_, rfl⟩
    replace H : (if 0 ≤ (ji16) then (flyballref02_Words.l0 k1 l0 t101 (x4_1.set ((ji13) : Int).toNat (Go.bits .or .u32 (rd x4_1 (ji13)) (shl .u32 1 (ji16)))) (wrap64 (x5_1 + 1))) else (none)) = some r := by first | (rw [hji16] at H; exact H) | (simp only [hji16] at H ⊢; exact H)
    replace H := iS H
    obtain ⟨c17, H⟩ := H
    have c17b0 := eq_true c17
    have c17b1 : decide (0 ≤ (ji16)) = true := decide_eq_true c17
    clear c17
    obtain ⟨ji18, hji18⟩ : ∃ j_ : Int, (shl .u32 1 (ji16)) = j_ := ⟨_, rfl⟩
    replace H : (flyballref02_Words.l0 k1 l0 t101 (x4_1.set ((ji13) : Int).toNat (Go.bits .or .u32 (rd x4_1 (ji13)) (ji18))) (wrap64 (x5_1 + 1))) = some r := by first | (rw [hji18] at H; exact H) | (simp only [hji18] at H ⊢; exact H)
    have hji18_ : (IntKind.u32.wrap (1 * 2 ^ min (ji16).toNat 32)) = ji18 := hji18
    have hji18z : (ji16) ≤ 32 → (IntKind.u32.wrap (1 * 2 ^ (ji16).toNat)) = ji18 := shl_small hji18
    have hji18u : (IntKind.u32.wrap (2 ^ min (ji16).toNat 32)) = ji18 := by have h_ := hji18_; rw [Int.one_mul] at h_; exact h_
    have hji18v : (ji16) ≤ 32 → (IntKind.u32.wrap (2 ^ (ji16).toNat)) = ji18 := fun hle_ => by have h_ := hji18z hle_; rw [Int.one_mul] at h_; exact h_
    obtain ⟨y107, hy107⟩ : ∃ y_ : List Int, y_ = (x4_1.set ((ji13) : Int).toNat (Go.bits .or .u32 (rd x4_1 (ji13)) (ji18))) := ⟨_, rfl⟩
    replace H : (flyballref02_Words.l0 k1 l0 t101 y107 (wrap64 (x5_1 + 1))) = some r := by first | (rw [hy107]; with_reducible exact H) | (have H2_ := (Option.bind_some _ _).symm.trans H; rw [hy107]; with_reducible exact H2_) | (have H2_ := (Option.bind_some _ _).symm.trans H; with_reducible exact H2_) | with_reducible exact H | (rw [hy107]; exact H) | exact H
    have Ny107 := Aside0.mk hy107
    clear hy107
    have H' := Aside0.mk H
    clear H
    have p105 : 0 ≤ (x5_1 : Int) := of_decide_eq_true asm
    have q105 : x5_1 < (l0.length : Int) := of_decide_eq_true asm
    obtain ⟨ad105, e105, hx105_0⟩ := Kd.at_bool HR0.out x5_1 p105 q105
    (try rw [← Nbq11.out] at hx105_0)
    cases e105
    replace hx105_0 := (HB.out.cell (World.block_lt_of_cell? w _ hx105_0)).trans hx105_0
    replace p105 := eq_true p105
    replace q105 := eq_true q105
    obtain ⟨Ao20, co20, eo20⟩ := Kd.R_slice HO_4.out
    subst eo20
    have p106 : 0 ≤ ((ji13) : Int) := of_decide_eq_true asm
    have q106 : (ji13) < (x4_1.length : Int) := of_decide_eq_true asm
    obtain ⟨ad106, e106, hx106_0⟩ := Kd.at_int (Kd.R_reads' HO_4.out).2.2 (ji13) p106 q106
    cases e106
    replace p106 := eq_true p106
    replace q106 := eq_true q106
    have p19 : 0 ≤ ((ji13) : Int) := of_decide_eq_true asm
    have q19 : ((ji13) : Int) < ((x4_1.length : Int) : Int) := of_decide_eq_true asm
    obtain ⟨go19, co19, eo19, gb19, gl19, cl19, HG19⟩ := Kd.R_form HO_4.out (by omega)
    (first | cases eo19 | (injection eo19 with ea_ en_ ec_; (first | subst ea_ | (injection ea_ with ea_; subst ea_)); subst ec_; clear en_))
    have GB19 := Aside0.mk gb19
    have GG19 := Aside0.mk HG19
    clear gb19 gl19 HG19
    (first | simp only [add_plain] at hx106_0 | skip)
    obtain ⟨hx19_0, hf19_0⟩ := Kd.R_celln 0 HO_4.out ((ji13) : Int) p19 q19
    replace p19 := eq_true p19
    replace q19 := eq_true q19
    have HP21 := Kd.R_putg HO_4.out ((ji13) : Int) (Go.bits .or .u32 (rd x4_1 (ji13)) (ji18))
    go_wp2_with (first | ((with_reducible refine gate_store (t := 118) (p := 34) rfl ?_); refine store_event (t := 118) (p := 34) (v := ?vo_w22) (w1 := (wr.setCell ⟨go19, ((ji13) : Int).toNat, none⟩ (.int .u32 (Go.bits .or .u32 (rd x4_1 (ji13)) (ji18))))) ?hg ?ho ?hn ?hr ?_; (case ho => rfl); (case hg => rfl); (case hn => rfl); (case hr => first | (go_simp; done) | (go_simp; rfl)); intro w22 hw; have hg : wr.grownBy w22 (some go19) := (by rw [hw]; exact HP21.2); have hp_ : Kd.R (Kd.int .u32) 118 w22 w.heap.size (fun _ => True) (.slice (some ⟨go19, 0, none⟩) x4_1.length co20) y107 := (by rw [hw, Ny107.out]; exact HP21.1); clear HP21; replace HO_4 := Aside0.mk (hp_); replace HB := Aside0.mk ((by rw [hw]; exact below_set (HB.out) GB19.out : Below w.heap.size w w22)); clear hg hw hp_))
    go_roundg k1
    case measure => have := HK1.out; omega
    case rel => exact ⟨(y107), (wrap64 (x5_1 + 1)), rS, H', ⟨hk1⟩, ⟨rup HO_4.out⟩, ⟨bup HB.out⟩⟩
   ·replace c12 := Bool.eq_false_iff.mpr c12
    subst c12
    have H1 : (flyballref02_Words.l0 k1 l0 t101 x4_1 (wrap64 (x5_1 + 1))) = some r := by rw [if_neg (show ¬ (false = true) by decide)] at H; exact H
    clear H
    have H := H1
    clear H1
    have H' := Aside0.mk H
    clear H
    have p105 : 0 ≤ (x5_1 : Int) := of_decide_eq_true asm
    have q105 : x5_1 < (l0.length : Int) := of_decide_eq_true asm
    obtain ⟨ad105, e105, hx105_0⟩ := Kd.at_bool HR0.out x5_1 p105 q105
    (try rw [← Nbq11.out] at hx105_0)
    cases e105
    replace hx105_0 := (HB.out.cell (World.block_lt_of_cell? w _ hx105_0)).trans hx105_0
    replace p105 := eq_true p105
    replace q105 := eq_true q105
    go_wp2
    go_roundg k1
    case measure => have := HK1.out; omega
    case rel => exact ⟨(x4_1), (wrap64 (x5_1 + 1)), rS, H', ⟨hk1⟩, ⟨rup HO_4.out⟩, ⟨bup HB.out⟩⟩
def flyballref02_Is.f (k : Nat) (l0 : List Int) (l1 : List Bool) : Option (Bool) := (flyballref02_Words.f k l1).bind fun t101 => ((flyballref02_Same.f k l0 t101).bind fun t104 => (some t104))
set_option maxHeartbeats 8000000 in
set_option maxRecDepth 100000 in
theorem flyballref02_Is.calls (k : Nat) (A0 : Option Addr) (c0 : Nat) (l0 : List Int) (A1 : Option Addr) (c1 : Nat) (l1 : List Bool) (r : Bool) (w : World) (hr0 : Kd.C (Kd.int .u32) w A0 l0.length l0) (hc0 : l0.length ≤ c0) (hr1 : Kd.C Kd.bool w A1 l1.length l1) (hc1 : l1.length ≤ c1) (H : flyballref02_Is.f k l0 l1 = some r) :
  Calls Try.prog 27 #[.slice A0 l0.length c0, .slice A1 l1.length c1] w fun e w' => e = .returned (.bool r) ∧ Below w.heap.size w w' := by
 have HR0 := Aside0.mk hr0
 have HC0 := Aside0.mk hc0
 clear hr0 hc0
 have HR1 := Aside0.mk hr1
 have HC1 := Aside0.mk hc1
 clear hr1 hc1
 have HB := Aside0.mk (Below.refl w.heap.size w)
 unfold flyballref02_Is.f at H
 replace H := bi H
 obtain ⟨t101, A3, H⟩ := H
 replace H := bi H
 obtain ⟨t104, A4, H⟩ := H
 obtain rfl := Option.some.inj H
 go_enter Try.func27, Try.ntmps27
 go_wp2_with (first | ((with_reducible refine gc 107 rfl ?_); refine gL 7 Try.func107 #[.slice A1 l1.length c1] ?_; (with_reducible refine (flyballref02_Words.calls k _ _ l1 t101 _ ?_ ?_ A3.out).mono ?_); exact cup (HR1.out); exact HC1.out; rintro e w5 ⟨v102, rfl, ho0, hb⟩; refine ⟨_, rfl, ?_⟩; have HO103 := Aside0.mk (Kd.R_lower ho0 (below_size (bup HB.out))); replace HB := bA HB hb; clear hb ho0; obtain ⟨Ao6, co6, eo6⟩ := Kd.R_slice HO103.out; subst eo6) | ((with_reducible refine gc 106 rfl ?_); refine gL 8 Try.func106 #[.slice A0 l0.length c0, .slice Ao6 t101.length co6] ?_; (with_reducible refine (flyballref02_Same.calls k _ _ l0 _ _ t101 t104 _ ?_ ?_ ?_ ?_ A4.out).mono ?_); exact Kd.C_below HR0.out (bup HB.out); exact HC0.out; exact cup ((Kd.R_reads' HO103.out).2.2); exact (Kd.R_reads' HO103.out).2.1; rintro e w' ⟨rfl, ⟨nd, rfl⟩⟩; refine ⟨_, rfl, ?_⟩))
 go_ret
 exact ⟨er, bup HB.out⟩
def flyballlaw03_is.f (k : Nat) (a0_0 : Bool) (l0_1 : List Int) (l0_2 : List Int) (a1_0 : Bool) (l1_1 : List Bool) (l1_2 : List Bool) : Option (Bool) := if (a0_0 == a1_0) = true then ((flyballref02_Is.f k l0_1 l1_1).bind fun t103 => (if t103 = true then ((flyballref02_Is.f k l0_2 l1_2).bind fun t104 => (some t104)) else (some false))) else (some false)
set_option maxHeartbeats 8000000 in
set_option maxRecDepth 100000 in
theorem flyballlaw03_is.calls (k : Nat) (a0_0 : Bool) (A0_1 : Option Addr) (c0_1 : Nat) (l0_1 : List Int) (A0_2 : Option Addr) (c0_2 : Nat) (l0_2 : List Int) (a1_0 : Bool) (A1_1 : Option Addr) (c1_1 : Nat) (l1_1 : List Bool) (A1_2 : Option Addr) (c1_2 : Nat) (l1_2 : List Bool) (r : Bool) (w : World) (hr0_1 : Kd.C (Kd.int .u32) w A0_1 l0_1.length l0_1) (hc0_1 : l0_1.length ≤ c0_1) (hr0_2 : Kd.C (Kd.int .u32) w A0_2 l0_2.length l0_2) (hc0_2 : l0_2.length ≤ c0_2) (hr1_1 : Kd.C Kd.bool w A1_1 l1_1.length l1_1) (hc1_1 : l1_1.length ≤ c1_1) (hr1_2 : Kd.C Kd.bool w A1_2 l1_2.length l1_2) (hc1_2 : l1_2.length ≤ c1_2) (H : flyballlaw03_is.f k a0_0 l0_1 l0_2 a1_0 l1_1 l1_2 = some r) :
  Calls Try.prog 85 #[.agg #[.bool a0_0, .slice A0_1 l0_1.length c0_1, .slice A0_2 l0_2.length c0_2], .agg #[.bool a1_0, .slice A1_1 l1_1.length c1_1, .slice A1_2 l1_2.length c1_2]] w fun e w' => e = .returned (.bool r) ∧ Below w.heap.size w w' := by
 have hu69 := Try.underlying69
 have hu92 := Try.underlying92
 have HR0_1 := Aside0.mk hr0_1
 have HC0_1 := Aside0.mk hc0_1
 clear hr0_1 hc0_1
 have HR0_2 := Aside0.mk hr0_2
 have HC0_2 := Aside0.mk hc0_2
 clear hr0_2 hc0_2
 have HR1_1 := Aside0.mk hr1_1
 have HC1_1 := Aside0.mk hc1_1
 clear hr1_1 hc1_1
 have HR1_2 := Aside0.mk hr1_2
 have HC1_2 := Aside0.mk hc1_2
 clear hr1_2 hc1_2
 have HB := Aside0.mk (Below.refl w.heap.size w)
 unfold flyballlaw03_is.f at H
 by_cases c3 : (a0_0 == a1_0) = true
 rotate_left
 ·rw [if_neg c3] at H
  have c3b0 : (a0_0 == a1_0) = false := by simpa using c3
  (try (have c3b1 : decide (a0_0 = a1_0) = false := by simpa using c3))
  (try (have c3b2 : (a0_0 == a1_0) = false := by simpa using c3))
  (try (have c3b3 : ¬ (a0_0 = a1_0) := by simpa using c3))
  clear c3
  obtain rfl := Option.some.inj H
  go_enter Try.func85, Try.ntmps85
  go_wp2_with (first | ((with_reducible refine gd 2 rfl ?_); refine bx 2 #[.bool a0_0, .slice A0_1 l0_1.length c0_1, .slice A0_2 l0_2.length c0_2] ?_; intro gb101 hg w22 hbox hb; have BK101 := Aside0.mk hbox; have GW101 := gB hg HB; have GE101 := gB hg HB; replace HB := bA HB hb; clear hb hbox hg) | ((with_reducible refine gd 3 rfl ?_); refine box_event ?hg (N := 3) ?hd (cs := #[.bool a1_0, .slice A1_1 l1_1.length c1_1, .slice A1_2 l1_2.length c1_2]) (t := 92) ?hr ?_; (case hd => rfl); (case hg => rfl); (case hr => first | (go_simp; done) | (go_simp; rfl)); intro gb102 hg w23 hbox hb; have BK102 := Aside0.mk hbox; have GW102 := gS' hg HB; have GE102 := gS' hg HB; replace HB := bS HB hb; have NB101_102 := nL hg BK101; have NB102_101 := nR hg BK101; replace BK101 := kA BK101 hb; clear hb hbox hg; have hnb24 := NB101_102.out; have hnc24 := NB102_101.out; obtain ⟨⟨hcz25_0, hcz25_1, hcz25_2⟩, hfz25_0, hfz25_1, hfz25_2⟩ := cE BK101; obtain ⟨⟨hcz26_0, hcz26_1, hcz26_2⟩, hfz26_0, hfz26_1, hfz26_2⟩ := cE BK102))
  go_ret
  exact ⟨er, hB⟩
 rw [if_pos c3] at H
 have c3b0 : (a0_0 == a1_0) = true := c3
 (try (have c3b1 : decide (a0_0 = a1_0) = true := by simpa using c3))
 (try (have c3b2 : (a0_0 == a1_0) = true := by simpa using c3))
 clear c3
 replace H := bi H
 obtain ⟨t103, A4, H⟩ := H
 by_cases c5 : t103 = true
 ·subst c5
  replace H := ifT H
  replace H := bi H
  obtain ⟨t104, A6, H⟩ := H
  obtain rfl := Option.some.inj H
  go_enter Try.func85, Try.ntmps85
  go_wp2_with (first | ((with_reducible refine gd 2 rfl ?_); refine bx 2 #[.bool a0_0, .slice A0_1 l0_1.length c0_1, .slice A0_2 l0_2.length c0_2] ?_; intro gb101 hg w7 hbox hb; have BK101 := Aside0.mk hbox; have GW101 := gB hg HB; have GE101 := gB hg HB; replace HB := bA HB hb; clear hb hbox hg) | ((with_reducible refine gd 3 rfl ?_); refine box_event ?hg (N := 3) ?hd (cs := #[.bool a1_0, .slice A1_1 l1_1.length c1_1, .slice A1_2 l1_2.length c1_2]) (t := 92) ?hr ?_; (case hd => rfl); (case hg => rfl); (case hr => first | (go_simp; done) | (go_simp; rfl)); intro gb102 hg w8 hbox hb; have BK102 := Aside0.mk hbox; have GW102 := gS' hg HB; have GE102 := gS' hg HB; replace HB := bS HB hb; have NB101_102 := nL hg BK101; have NB102_101 := nR hg BK101; replace BK101 := kA BK101 hb; clear hb hbox hg; have hnb9 := NB101_102.out; have hnc9 := NB102_101.out; obtain ⟨⟨hcz10_0, hcz10_1, hcz10_2⟩, hfz10_0, hfz10_1, hfz10_2⟩ := cE BK101; obtain ⟨⟨hcz11_0, hcz11_1, hcz11_2⟩, hfz11_0, hfz11_1, hfz11_2⟩ := cE BK102) | (go_at_call 27; (with_reducible refine (flyballref02_Is.calls k _ _ l0_1 _ _ l1_1 true _ ?_ ?_ ?_ ?_ A4.out).mono ?_); exact Kd.C_below HR0_1.out (bup HB.out); exact HC0_1.out; exact Kd.C_below HR1_1.out (bup HB.out); exact HC1_1.out; rintro e w12 ⟨rfl, hb⟩; replace BK101 := kA BK101 hb; replace BK102 := kA BK102 hb; replace HB := bS HB hb; clear hb; obtain ⟨⟨hcz13_0, hcz13_1, hcz13_2⟩, hfz13_0, hfz13_1, hfz13_2⟩ := cE BK101; obtain ⟨⟨hcz14_0, hcz14_1, hcz14_2⟩, hfz14_0, hfz14_1, hfz14_2⟩ := cE BK102) | (go_at_call 27; (with_reducible refine (flyballref02_Is.calls k _ _ l0_2 _ _ l1_2 t104 _ ?_ ?_ ?_ ?_ A6.out).mono ?_); exact Kd.C_below HR0_2.out (bup HB.out); exact HC0_2.out; exact Kd.C_below HR1_2.out (bup HB.out); exact HC1_2.out; rintro e w15 ⟨rfl, hb⟩; replace BK101 := kA BK101 hb; replace BK102 := kA BK102 hb; replace HB := bS HB hb; clear hb))
  go_ret
  exact ⟨er, hB⟩
 ·replace c5 := Bool.eq_false_iff.mpr c5
  subst c5
  have H1 : (some false) = some r := by rw [if_neg (show ¬ (false = true) by decide)] at H; exact H
  clear H
  have H := H1
  clear H1
  obtain rfl := Option.some.inj H
  go_enter Try.func85, Try.ntmps85
  go_wp2_with (first | ((with_reducible refine gd 2 rfl ?_); refine bx 2 #[.bool a0_0, .slice A0_1 l0_1.length c0_1, .slice A0_2 l0_2.length c0_2] ?_; intro gb101 hg w16 hbox hb; have BK101 := Aside0.mk hbox; have GW101 := gB hg HB; have GE101 := gB hg HB; replace HB := bA HB hb; clear hb hbox hg) | ((with_reducible refine gd 3 rfl ?_); refine box_event ?hg (N := 3) ?hd (cs := #[.bool a1_0, .slice A1_1 l1_1.length c1_1, .slice A1_2 l1_2.length c1_2]) (t := 92) ?hr ?_; (case hd => rfl); (case hg => rfl); (case hr => first | (go_simp; done) | (go_simp; rfl)); intro gb102 hg w17 hbox hb; have BK102 := Aside0.mk hbox; have GW102 := gS' hg HB; have GE102 := gS' hg HB; replace HB := bS HB hb; have NB101_102 := nL hg BK101; have NB102_101 := nR hg BK101; replace BK101 := kA BK101 hb; clear hb hbox hg; have hnb18 := NB101_102.out; have hnc18 := NB102_101.out; obtain ⟨⟨hcz19_0, hcz19_1, hcz19_2⟩, hfz19_0, hfz19_1, hfz19_2⟩ := cE BK101; obtain ⟨⟨hcz20_0, hcz20_1, hcz20_2⟩, hfz20_0, hfz20_1, hfz20_2⟩ := cE BK102) | (go_at_call 27; (with_reducible refine (flyballref02_Is.calls k _ _ l0_1 _ _ l1_1 false _ ?_ ?_ ?_ ?_ A4.out).mono ?_); exact Kd.C_below HR0_1.out (bup HB.out); exact HC0_1.out; exact Kd.C_below HR1_1.out (bup HB.out); exact HC1_1.out; rintro e w21 ⟨rfl, hb⟩; replace BK101 := kA BK101 hb; replace BK102 := kA BK102 hb; replace HB := bS HB hb; clear hb))
  go_ret
  exact ⟨er, hB⟩
def flyballref01_bit.f (l0 : List Bool) (a1 : Int) : Option (Bool) := if a1 ≥ 0 then (if a1 < (l0.length : Int) then (if 0 ≤ a1 then (some (rdOf false l0 a1)) else (none)) else (some false)) else (some false)
set_option maxHeartbeats 8000000 in
set_option maxRecDepth 100000 in
theorem flyballref01_bit.calls (A0 : Option Addr) (c0 : Nat) (l0 : List Bool) (a1 : Int) (r : Bool) (w : World) (hr0 : Kd.C Kd.bool w A0 l0.length l0) (hc0 : l0.length ≤ c0) (H : flyballref01_bit.f l0 a1 = some r) :
  Calls Try.prog 105 #[.slice A0 l0.length c0, .int .i64 a1] w fun e w' => e = .returned (.bool r) ∧ Drawn0 w w' := by
 have HR0 := Aside0.mk hr0
 have HC0 := Aside0.mk hc0
 clear hr0 hc0
 unfold flyballref01_bit.f at H
 by_cases c3 : a1 ≥ 0
 rotate_left
 ·rw [if_neg c3] at H
  have c3b0 : decide (0 ≤ a1) = false := decide_eq_false c3
  clear c3
  obtain rfl := Option.some.inj H
  go_enter Try.func105, Try.ntmps105
  go_wp2
  go_ret
  exact ⟨rS, by repeat (first | exact Drawn0.refl _ | apply Drawn0.step)⟩
 rw [if_pos c3] at H
 have c3b0 : decide (0 ≤ a1) = true := decide_eq_true c3
 clear c3
 by_cases c4 : a1 < (l0.length : Int)
 rotate_left
 ·rw [if_neg c4] at H
  have c4b0 : decide (a1 < (l0.length : Int)) = false := decide_eq_false c4
  clear c4
  obtain rfl := Option.some.inj H
  go_enter Try.func105, Try.ntmps105
  go_wp2
  go_ret
  exact ⟨rS, by repeat (first | exact Drawn0.refl _ | apply Drawn0.step)⟩
 rw [if_pos c4] at H
 have c4b0 : decide (a1 < (l0.length : Int)) = true := decide_eq_true c4
 clear c4
 replace H := iS H
 obtain ⟨c5, H⟩ := H
 have c5b0 : decide (0 ≤ a1) = true := decide_eq_true c5
 clear c5
 obtain rfl := Option.some.inj H
 have p101 : 0 ≤ (a1 : Int) := of_decide_eq_true asm
 have q101 : a1 < (l0.length : Int) := of_decide_eq_true asm
 obtain ⟨ad101, e101, hx101_0⟩ := Kd.at_bool HR0.out a1 p101 q101
 cases e101
 replace p101 := eq_true p101
 replace q101 := eq_true q101
 go_enter Try.func105, Try.ntmps105
 go_wp2
 go_ret
 exact ⟨rS, by repeat (first | exact Drawn0.refl _ | apply Drawn0.step)⟩
def flyballref01_Cmp.l0 : Nat → List Bool → List Bool → Int → Option (Int)
 | 0, _, _, _ => none
 | k + 1, x0, x1, x5 => if x5 ≥ 0 then ((flyballref01_bit.f x0 x5).bind fun t101 => ((flyballref01_bit.f x1 x5).bind fun t102 => (if (t101 != t102) = true then (if t101 = true then (some 1) else (some (-1))) else (flyballref01_Cmp.l0 k x0 x1 (wrap64 (x5 - 1)))))) else (some 0)
def flyballref01_Cmp.f (k : Nat) (l0 : List Bool) (l1 : List Bool) : Option (Int) := flyballref01_Cmp.l0 k l0 l1 (wrap64 ((mx (l0.length : Int) (l1.length : Int)) - 1))
set_option maxHeartbeats 8000000 in
set_option maxRecDepth 100000 in
theorem flyballref01_Cmp.calls (k : Nat) (A0 : Option Addr) (c0 : Nat) (l0 : List Bool) (A1 : Option Addr) (c1 : Nat) (l1 : List Bool) (r : Int) (w : World) (hr0 : Kd.C Kd.bool w A0 l0.length l0) (hc0 : l0.length ≤ c0) (hr1 : Kd.C Kd.bool w A1 l1.length l1) (hc1 : l1.length ≤ c1) (H : flyballref01_Cmp.f k l0 l1 = some r) :
  Calls Try.prog 26 #[.slice A0 l0.length c0, .slice A1 l1.length c1] w fun e w' => e = .returned (.int .i64 r) ∧ Below w.heap.size w w' := by
 have HR0 := Aside0.mk hr0
 have HC0 := Aside0.mk hc0
 clear hr0 hc0
 have HR1 := Aside0.mk hr1
 have HC1 := Aside0.mk hc1
 clear hr1 hc1
 have HB := Aside0.mk (Below.refl w.heap.size w)
 unfold flyballref01_Cmp.f at H
 obtain ⟨ji3, hji3⟩ : ∃ j_ : Int, (mx (l0.length : Int) (l1.length : Int)) = j_ := ⟨_, rfl⟩
 replace H : (flyballref01_Cmp.l0 k l0 l1 (wrap64 ((ji3) - 1))) = some r := by first | (rw [hji3] at H; exact H) | (simp only [hji3] at H ⊢; exact H)
 (try (have hji3l : 0 ≤ ji3 := by (rw [← hji3]; unfold mx; (repeat' split) <;> omega)))
 (try (have hji3m : 0 ≤ ji3 := by omega))
 have hji3_ : (if (l0.length : Int) < (l1.length : Int) then (l1.length : Int) else (l0.length : Int)) = ji3 := hji3
 have hji3n : (if l0.length < l1.length then (l1.length : Int) else (l0.length : Int)) = ji3 := by
  rw [← hji3_]; by_cases hq_ : l0.length < l1.length
  ·rw [if_pos hq_, if_pos (by omega)]
  ·rw [if_neg hq_, if_neg (by omega)]
 have H' := Aside0.mk H
 clear H
 go_enter Try.func26, Try.ntmps26
 go_wp2
 go_loopg [5] k (fun kq v5 w' => ∃ (x5_1 : Int), v5 = .int .i64 x5_1 ∧ Aside0 (flyballref01_Cmp.l0 kq l0 l1 x5_1 = some r) ∧ Aside0 (kq ≤ k) ∧ Aside0 (Below w.heap.size w w'))
 case atStart => exact ⟨(wrap64 ((ji3) - 1)), (by first | rfl | (simp; done) | (simp only [← hji3] <;> (first | rfl | simp)) | (simp [*]; done)), H', ⟨Nat.le_refl _⟩, ⟨bup HB.out⟩⟩
 case round =>
  clear H'
  try clear c1
  try clear c2
  try clear p2
  obtain ⟨x5_1, rfl, HA, HK1, HB⟩ := hrel
  cases gk with
  | zero => exact absurd HA.out (by simp [flyballref01_Cmp.l0])
  | succ k1 =>
   have H := HA.out
   clear HA
   simp only [flyballref01_Cmp.l0] at H
   by_cases c4 : x5_1 ≥ 0
   rotate_left
   ·rw [if_neg c4] at H
    have c4b0 : decide (0 ≤ x5_1) = false := decide_eq_false c4
    clear c4
    obtain rfl := Option.some.inj H
    go_wp2
    go_ret
    exact ⟨by first | rfl | (simp [errW_none, errW_some] <;> rfl) | (simp only [← hji3]; first | rfl | (simp [errW_none, errW_some] <;> rfl)) | (simp [*, errW_none, errW_some] <;> rfl), bup HB.out⟩
   rw [if_pos c4] at H
   have c4b0 : decide (0 ≤ x5_1) = true := decide_eq_true c4
   clear c4
   replace H := bi H
   obtain ⟨t101, A5, H⟩ := H
   replace H := bi H
   obtain ⟨t102, A6, H⟩ := H
   by_cases c7 : (t101 != t102) = true
   rotate_left
   ·rw [if_neg c7] at H
    have c7b0 : (t101 != t102) = false := by simpa using c7
    (try (have c7b1 : decide (t101 = t102) = true := by simpa using c7))
    (try (have c7b2 : (t101 == t102) = true := by simpa using c7))
    clear c7
    have H' := Aside0.mk H
    clear H
    go_wp2_with (first | ((with_reducible refine gc 105 rfl ?_); refine gL 20 Try.func105 #[.slice A0 l0.length c0, .int .i64 x5_1] ?_; (with_reducible refine (flyballref01_bit.calls _ _ l0 x5_1 t101 _ ?_ ?_ A5.out).mono ?_); exact Kd.C_below HR0.out (bup HB.out); exact HC0.out; rintro e w' ⟨rfl, ⟨nd, rfl⟩⟩; refine ⟨_, rfl, ?_⟩) | ((with_reducible refine gc 105 rfl ?_); refine gL 23 Try.func105 #[.slice A1 l1.length c1, .int .i64 x5_1] ?_; (with_reducible refine (flyballref01_bit.calls _ _ l1 x5_1 t102 _ ?_ ?_ A6.out).mono ?_); exact Kd.C_below HR1.out (bup HB.out); exact HC1.out; rintro e w' ⟨rfl, ⟨nd, rfl⟩⟩; refine ⟨_, rfl, ?_⟩))
    go_roundg k1
    case measure => have := HK1.out; omega
    case rel => exact ⟨(wrap64 (x5_1 - 1)), rS, H', ⟨hk1⟩, ⟨bup HB.out⟩⟩
   rw [if_pos c7] at H
   have c7b0 : (t101 != t102) = true := c7
   (try (have c7b1 : decide (t101 = t102) = false := by simpa using c7))
   (try (have c7b2 : (t101 == t102) = false := by simpa using c7))
   (try (have c7b3 : ¬ (t101 = t102) := by simpa using c7))
   clear c7
   by_cases c8 : t101 = true
   ·subst c8
    replace H := ifT H
    obtain rfl := Option.some.inj H
    go_wp2_with (first | ((with_reducible refine gc 105 rfl ?_); refine gL 20 Try.func105 #[.slice A0 l0.length c0, .int .i64 x5_1] ?_; (with_reducible refine (flyballref01_bit.calls _ _ l0 x5_1 true _ ?_ ?_ A5.out).mono ?_); exact Kd.C_below HR0.out (bup HB.out); exact HC0.out; rintro e w' ⟨rfl, ⟨nd, rfl⟩⟩; refine ⟨_, rfl, ?_⟩) | ((with_reducible refine gc 105 rfl ?_); refine gL 23 Try.func105 #[.slice A1 l1.length c1, .int .i64 x5_1] ?_; (with_reducible refine (flyballref01_bit.calls _ _ l1 x5_1 t102 _ ?_ ?_ A6.out).mono ?_); exact Kd.C_below HR1.out (bup HB.out); exact HC1.out; rintro e w' ⟨rfl, ⟨nd, rfl⟩⟩; refine ⟨_, rfl, ?_⟩))
    go_ret
    exact ⟨by first | rfl | (simp [errW_none, errW_some] <;> rfl) | (simp only [← hji3]; first | rfl | (simp [errW_none, errW_some] <;> rfl)) | (simp [*, errW_none, errW_some] <;> rfl), bup HB.out⟩
   ·replace c8 := Bool.eq_false_iff.mpr c8
    subst c8
    have H1 : (some (-1)) = some r := by rw [if_neg (show ¬ (false = true) by decide)] at H; exact H
    clear H
    have H := H1
    clear H1
    obtain rfl := Option.some.inj H
    go_wp2_with (first | ((with_reducible refine gc 105 rfl ?_); refine gL 20 Try.func105 #[.slice A0 l0.length c0, .int .i64 x5_1] ?_; (with_reducible refine (flyballref01_bit.calls _ _ l0 x5_1 false _ ?_ ?_ A5.out).mono ?_); exact Kd.C_below HR0.out (bup HB.out); exact HC0.out; rintro e w' ⟨rfl, ⟨nd, rfl⟩⟩; refine ⟨_, rfl, ?_⟩) | ((with_reducible refine gc 105 rfl ?_); refine gL 23 Try.func105 #[.slice A1 l1.length c1, .int .i64 x5_1] ?_; (with_reducible refine (flyballref01_bit.calls _ _ l1 x5_1 t102 _ ?_ ?_ A6.out).mono ?_); exact Kd.C_below HR1.out (bup HB.out); exact HC1.out; rintro e w' ⟨rfl, ⟨nd, rfl⟩⟩; refine ⟨_, rfl, ?_⟩))
    go_ret
    exact ⟨by first | rfl | (simp [errW_none, errW_some] <;> rfl) | (simp only [← hji3]; first | rfl | (simp [errW_none, errW_some] <;> rfl)) | (simp [*, errW_none, errW_some] <;> rfl), bup HB.out⟩
def flyballref03_trim.f (k : Nat) (l0 : List Bool) : Option (List Bool) := (flyballref01_Len.f k l0).bind fun t101 => (if 0 ≤ t101 then (if t101 ≤ (l0.length : Int) then (some (l0.take (t101 : Int).toNat)) else (none)) else (none))
set_option maxHeartbeats 8000000 in
set_option maxRecDepth 100000 in
theorem flyballref03_trim.calls (k : Nat) (P0_ : Nat → Prop) (A0 : Option Addr) (c0 : Nat) (l0 : List Bool) (r : List Bool) (w : World) (hs0 : Kd.V Kd.bool 4 w w.heap.size (fun k_ => P0_ k_) (.slice A0 l0.length c0) l0) (H : flyballref03_trim.f k l0 = some r) :
  Calls Try.prog 127 #[.slice A0 l0.length c0] w fun e w' => ∃ v0_ : Value, e = .returned (v0_) ∧ Kd.V Kd.bool 4 w' w.heap.size (fun k_ => (P0_ k_ ∨ w.heap.size ≤ k_)) v0_ r ∧ Below w.heap.size w w' := by
 have HO0 := Aside0.mk (show Kd.V Kd.bool 4 w w.heap.size (fun k_ => (P0_ k_ ∨ w.heap.size ≤ k_)) (.slice A0 l0.length c0) l0 from Kd.V_mono hs0 (fun k_ hk => .inl hk))
 have HB := Aside0.mk (Below.refl w.heap.size w)
 unfold flyballref03_trim.f at H
 replace H := bi H
 obtain ⟨t101, A2, H⟩ := H
 replace H := iS H
 obtain ⟨c3, H⟩ := H
 have c3b0 := eq_true c3
 have c3b1 : decide (0 ≤ t101) = true := decide_eq_true c3
 clear c3
 replace H := iS H
 obtain ⟨c4, H⟩ := H
 have c4b0 := eq_true c4
 have c4b1 : decide (t101 ≤ (l0.length : Int)) = true := decide_eq_true c4
 clear c4
 obtain ⟨y102, hy102⟩ : ∃ y_ : List Bool, y_ = (l0.take (t101 : Int).toNat) := ⟨_, rfl⟩
 replace H : (some y102) = some r := by first | (rw [hy102]; with_reducible exact H) | (have H2_ := (Option.bind_some _ _).symm.trans H; rw [hy102]; with_reducible exact H2_) | (have H2_ := (Option.bind_some _ _).symm.trans H; with_reducible exact H2_) | with_reducible exact H | (rw [hy102]; exact H) | exact H
 have Ny102 := Aside0.mk hy102
 clear hy102
 obtain rfl := Option.some.inj H
 go_enter Try.func127, Try.ntmps127
 go_wp2_with (first | ((with_reducible refine gc 53 rfl ?_); refine gL 5 Try.func53 #[.slice A0 l0.length c0] ?_; (with_reducible refine (flyballref01_Len.calls k _ _ l0 t101 _ ?_ ?_ A2.out).mono ?_); exact cup ((Kd.V_reads' HO0.out).2.2); exact (Kd.V_reads' HO0.out).2.1; rintro e w' ⟨rfl, ⟨nd, rfl⟩⟩; refine ⟨_, rfl, ?_⟩; have q5 : (t101 : Int) ≤ ((l0.length : Int) : Int) := of_decide_eq_true asm; obtain ⟨i05, hi05, _, hsz5, _⟩ := info_parts info4; have hroom5 : l0.length ≤ c0 := (Kd.V_reads' HO0.out).2.1; have hC5 : Kd.F Kd.bool _ _ A0 l0.length l0 := (Kd.V_at (base := w.heap.size) HO0.out).2.2; have hcut5 := cut_to (P := Try.prog) 26 4 .i64 Try.underlying26 hi05 A0 l0.length c0 t101 (of_decide_eq_true asm) q5 hroom5; have hr5 := Kd.F_take (m := (t101 : Int).toNat) hC5 (by omega); have hy5 : y102.length = (t101 : Int).toNat := (by rw [Ny102.out, List.length_take]; omega); rw [← Ny102.out] at hr5; rw [← hy5] at hcut5; have HO106 := Aside0.mk (show Kd.V Kd.bool 4 _ w.heap.size _ (.slice A0 y102.length c0) y102 from Kd.V_mk (by omega) hr5); have HC106 := Aside0.mk (show y102.length ≤ c0 from by omega); clear hr5 hC5 hroom5 hi05 hsz5; have KY5 := Aside0.mk hy5; clear hy5; replace q5 := eq_true q5))
 go_ret
 exact ⟨_, er, vup HO106.out, bup HB.out⟩
def flyballref03_one.f  : Option (List Bool) := some (([true] : List Bool))
set_option maxHeartbeats 8000000 in
set_option maxRecDepth 100000 in
theorem flyballref03_one.calls  (r : List Bool) (w : World) (h : flyballref03_one.f  = some r) :
  Calls Try.prog 128 #[] w fun e w' => ∃ v0_ : Value, e = .returned (v0_) ∧ Kd.R Kd.bool 4 w' w.heap.size (fun _ => True) v0_ r ∧ Below w.heap.size w w' := by
 have HB := Aside0.mk (Below.refl w.heap.size w)
 have H : (some (([true] : List Bool))) = some r := h
 clear h
 obtain ⟨y101, hy101⟩ : ∃ y_ : List Bool, y_ = (([true] : List Bool)) := ⟨_, rfl⟩
 replace H : (some y101) = some r := by first | (rw [hy101]; with_reducible exact H) | (have H2_ := (Option.bind_some _ _).symm.trans H; rw [hy101]; with_reducible exact H2_) | (have H2_ := (Option.bind_some _ _).symm.trans H; with_reducible exact H2_) | with_reducible exact H | (rw [hy101]; exact H) | exact H
 have Ny101 := Aside0.mk hy101
 clear hy101
 obtain rfl := Option.some.inj H
 go_enter Try.func128, Try.ntmps128
 go_wp2_with (first | ((with_reducible refine gate_dst (N := 1) rfl ?_); refine Kd.R_lit Kd.bool _ 4 ?hg (N := 1) ?hd (xs := ([true] : List Bool)) (inner := [.bool true]) (ok := fun _ => True) (okp := fun _ => True) ?hr ?hp (fun _ hk => hk) trivial (Below.refl _ _) (Nat.le_refl _) (by simp) ?_; (case hd => rfl); (case hg => rfl); (case hr => first | (go_simp; done) | (go_simp; rfl)); (case hp => exact (Reps.one (show Kd.M Kd.bool _ _ _ true [.bool true] from rfl) (Reps.none _ _))); intro v102 w1 ho2 hb hg_ hnew_; clear hg_ hnew_; (first | rw [← Ny101.out] at ho2 | (simp only [Int.reduceToNat] at ho2; rw [← Ny101.out] at ho2)); have n0_ := Aside0.mk (Kd.R_lower ho2 (below_size (by repeat (first | (with_reducible first | exact HB.out | apply below_alloc | apply pw_below_drewN | apply below_drew1) | exact HB.out)))); have n1_ := Aside0.mk (below_step (by repeat (first | (with_reducible first | exact HB.out | apply below_alloc | apply pw_below_drewN | apply below_drew1) | exact HB.out)) hb); clear HB; have HO103 := n0_; have HB := n1_; clear n0_ n1_; clear hb ho2))
 go_ret
 exact ⟨_, by first | rfl | (simp [errW_none, errW_some] <;> rfl) | (simp [*, errW_none, errW_some] <;> rfl), by (with_reducible repeat (first | apply Kd.R_alloc | apply Kd.R_drewN | apply Kd.R_drew)); exact HO103.out, by repeat (first | (with_reducible first | exact HB.out | apply below_alloc | apply pw_below_drewN | apply below_drew1) | exact HB.out)⟩
end Go.Proofs.Ytagbnkbhobmgjaa.Fn
end
section
/-! Small words on wrapped numbers. -/
set_option linter.unusedVariables false
set_option linter.unusedSimpArgs false
namespace Go.Proofs.Ytagbnkbhobmgjaa.Fn
open Go.RowKit Go.Proofs.YtagbnkbhobmgjaaW.PrintWords
end Go.Proofs.Ytagbnkbhobmgjaa.Fn
end
section
namespace Go.Proofs.Ytagbnkbhobmgjaa.Fn
open Go.RowKit Go.Proofs.YtagbnkbhobmgjaaW.PrintWords Go.Proofs.YtagbnkbhobmgjaaW.PrintLast Go.Proofs.YtagbnkbhobmgjaaW.PrintMore
attribute [local go_sem] max2_int min2_int max_two min_two max_three min_three max_four min_four   -- for this text's walks alone
set_option linter.unusedVariables false
set_option linter.unusedSimpArgs false

mutual
def flyballref01_Add.l0 : Nat → List Bool → List Bool → List Bool → Bool → Int → Option (List Bool)
 | 0, _, _, _, _, _ => none
 | k + 1, x0, x1, x5, x6, x7 => if x7 < (x0.length : Int) then (flyballref01_Add.j1 k x0 x1 x5 x6 x7 true) else (if x7 < (x1.length : Int) then (flyballref01_Add.j1 k x0 x1 x5 x6 x7 true) else (flyballref01_Add.j1 k x0 x1 x5 x6 x7 x6))
def flyballref01_Add.j1 : Nat → List Bool → List Bool → List Bool → Bool → Int → Bool → Option (List Bool)
 | 0, _, _, _, _, _, _ => none
 | k + 1, x0, x1, x5, x6, x7, x22 => if x22 = true then ((flyballref01_bit.f x0 x7).bind fun t101 => ((flyballref01_bit.f x1 x7).bind fun t102 => (if x5.length < 140737488355328 then ((some (x5 ++ [((t101 != t102) != x6)] : List Bool)).bind fun y103 => (if t101 = true then (if t102 = true then (flyballref01_Add.l0 k x0 x1 y103 true (wrap64 (x7 + 1))) else (if x6 = true then (flyballref01_Add.l0 k x0 x1 y103 true (wrap64 (x7 + 1))) else (flyballref01_Add.l0 k x0 x1 y103 false (wrap64 (x7 + 1))))) else (if t102 = true then (flyballref01_Add.l0 k x0 x1 y103 x6 (wrap64 (x7 + 1))) else (flyballref01_Add.l0 k x0 x1 y103 false (wrap64 (x7 + 1)))))) else (none)))) else (some x5)
end


mutual
def nat_Parse.l0 : Nat → ByteArray → List Int → Int → Int → Int → Int → Option (List Int × Int)
 | 0, _, _, _, _, _, _ => none
 | k + 1, x0, x4, x5, x6, x16, x17 => if x17 < x16 then (if 0 ≤ x17 then (if x17 < (x0.size : Int) then (if (bt x0 x17) < 48 then (nat_Parse.j1 k x0 x4 x5 x6 x17 x16 x17 true) else (nat_Parse.j1 k x0 x4 x5 x6 x17 x16 x17 (decide ((bt x0 x17) > 57)))) else (none)) else (none)) else (some (x4, 0))
def nat_Parse.j1 : Nat → ByteArray → List Int → Int → Int → Int → Int → Int → Bool → Option (List Int × Int)
 | 0, _, _, _, _, _, _, _, _ => none
 | k + 1, x0, x4, x5, x6, x7, x16, x17, x29 => if x29 = true then (some (([] : List Int), 22)) else (if 0 ≤ x7 then (if x7 < (x0.size : Int) then (if (IntKind.u64.wrap (x6 * 10)) = 1000000000 then (nat_Parse.j2 k x0 x4 (IntKind.u64.wrap ((IntKind.u64.wrap (x5 * 10)) + (((bt x0 x7) - 48) % 256))) (IntKind.u64.wrap (x6 * 10)) x16 x17 true) else (nat_Parse.j2 k x0 x4 (IntKind.u64.wrap ((IntKind.u64.wrap (x5 * 10)) + (((bt x0 x7) - 48) % 256))) (IntKind.u64.wrap (x6 * 10)) x16 x17 (x7 == (wrap64 ((x0.size : Int) - 1))))) else (none)) else (none))
def nat_Parse.j2 : Nat → ByteArray → List Int → Int → Int → Int → Int → Bool → Option (List Int × Int)
 | 0, _, _, _, _, _, _, _ => none
 | k + 1, x0, x4, x5, x6, x16, x17, x48 => if x48 = true then ((nat_New.f k x6).bind fun t101 => ((nat_Nat_Mul.f k x4 t101).bind fun t104 => ((nat_New.f k x5).bind fun t107 => ((nat_Nat_Add.f k t104 t107).bind fun t110 => (nat_Parse.l0 k x0 t110 0 1 x16 (wrap64 (x17 + 1))))))) else (nat_Parse.l0 k x0 x4 x5 x6 x16 (wrap64 (x17 + 1)))
end

end Go.Proofs.Ytagbnkbhobmgjaa.Fn
end
