/- How rational numbers compare, their signs, what they are without these, how long they are, and their digits, are just what the document says. Part 18 of 20. -/
import Derived.Test.YtagbnkbhobmgjaaRows
import Derived.Test.YtagbnkbhobmgjaaProg
import Derived.Test.YtagbnkbhobmgjaaRatioOrdersE
import Derived.WalkKit
import Derived.ProofKit
import Derived.OpenShut
import Derived.ChangeOld
import Derived.Below
import Derived.Lib.SmallJoins
section
/- A rational number that comes in as an argument of a law: its cells and its rows of words. -/
set_option linter.unusedVariables false
namespace Go.Proofs.Ytagbnkbhobmgjaa.RowR
open Go.ChangeShapes Go.WideShapes Go.ChangeAt Go.RowKit Go.Joins
open Go.Proofs.YtagbnkbhobmgjaaW.PrintWords
def IsRow (k : IntKind) (w : World) (a : Option Addr) (len cap : Nat) (zs : List Int) : Prop :=
  (a = none ∧ len = 0 ∧ cap = 0 ∧ zs = []) ∨
  ∃ x, a = some x ∧ len ≤ cap ∧ cap ≤ maxLen ∧ zs.length = cap ∧ (∀ i, i < zs.length → w.cell? (x.add i) = some (.int k (zs.getD i 0))) ∧ ∀ n ∈ zs, (Lit.int k n).wf = true
set_option maxRecDepth 100000 in
theorem row_of {H : Type} {enc : TypeId × Value → H} {W : World} {n : Nat} {v : Value} {y : DataW H × List MemPlace} (h : DataW.trod enc Try.prog W 0 (fun _ => true) true n 23 [v] = some y) :
    ∃ a len cap zs, v = .slice a len cap ∧ IsRow .u32 W a len cap zs := by
  rcases open_ints Try.underlying23 Try.underlying118 (by kernel_rfl) h with ⟨hcs, _⟩ | ⟨x, l, c, zs, hcs, _, hl, hm, hz, _, hcell, hwz⟩
  · simp at hcs
    exact ⟨none, 0, 0, [], hcs, .inl ⟨rfl, rfl, rfl, rfl⟩⟩
  · simp at hcs
    exact ⟨some x, l, c, zs, hcs, .inr ⟨_, rfl, hl, hm, by simpa using hz, hcell, hwz⟩⟩
set_option maxRecDepth 100000 in
theorem open_R {H : Type} {enc : TypeId × Value → H} {W : World} {r : Reach} {b0 : Nat} {v : Value} {d : DataW H} {p : List MemPlace} (hv : Value.okWide Try.prog W r b0 69 v) (h : DataW.Trod enc Try.prog W 0 (fun _ => true) true 69 v d p) :
    ∃ b a1 len1 cap1 z1 a2 len2 cap2 z2, v = .agg #[.bool b, .slice a1 len1 cap1, .slice a2 len2 cap2] ∧ IsRow .u32 W a1 len1 cap1 z1 ∧ IsRow .u32 W a2 len2 cap2 z2 := by
  obtain ⟨c0, c1, c2, y0, y1, y2, n, rfl, _, _, h0, h1, h2⟩ := open_agg3 Try.underlying69 (by kernel_rfl) (by kernel_rfl) hv h
  obtain ⟨b, hb, _⟩ := DataW.trod_bool Try.underlying4 h0
  obtain ⟨a1, len1, cap1, z1, rfl, w1⟩ := row_of h1
  obtain ⟨a2, len2, cap2, z2, rfl, w2⟩ := row_of h2
  simp at hb
  subst hb
  exact ⟨b, a1, len1, cap1, z1, a2, len2, cap2, z2, rfl, w1, w2⟩
/-- .. told as what may be shared. -/
theorem row_V {W : World} {a : Option Addr} {len cap : Nat} {z : List Int} (h : IsRow .u32 W a len cap z) :
    ∃ l : List Int, len = l.length ∧ l.length ≤ maxLen ∧ (∀ n ∈ l, (Lit.int .u32 n).wf = true) ∧ Kd.V (Kd.int .u32) 118 W W.heap.size (fun k_ => k_ < W.heap.size) (.slice a l.length cap) l := by
  obtain ⟨l0, rfl, hr0, hm0, hw0, hc0⟩ := ReadsInt.ofRowC h
  exact ⟨l0, rfl, hm0, hw0, Fn.V_of_C (Kd.C_of_reads (d := (0 : Int)) (h1 := fun _ => rfl) hr0) hc0⟩
end Go.Proofs.Ytagbnkbhobmgjaa.RowR
end
