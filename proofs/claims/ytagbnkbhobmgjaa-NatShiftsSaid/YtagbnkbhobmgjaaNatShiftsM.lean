/- What is shifted, how long a number is, its bits, and whether it is a word of 64, are just what the document says. Part 13 of 18. -/
import Derived.Test.YtagbnkbhobmgjaaNatShiftsE
import Derived.Test.YtagbnkbhobmgjaaNatShiftsK
import Derived.Test.YtagbnkbhobmgjaaNatShiftsJ
import Derived.Test.YtagbnkbhobmgjaaNatShiftsH
import Derived.Test.YtagbnkbhobmgjaaNatShiftsL
import Derived.Test.YtagbnkbhobmgjaaNatShiftsC
section
-- Written by a program of this session (a turned copy of the kit's printer, and hand-written parts). Not trusted: Lean checks it.
namespace Go.Proofs.Ytagbnkbhobmgjaa.Fn
open Go.RowKit Go.Proofs.YtagbnkbhobmgjaaW.PrintWords Go.Proofs.YtagbnkbhobmgjaaW.PrintLast Go.Proofs.YtagbnkbhobmgjaaW.PrintMore
attribute [local go_sem] max2_int min2_int max_two min_two max_three min_three max_four min_four   -- for this text's walks alone
set_option linter.unusedVariables false
set_option linter.unusedSimpArgs false
/-! ### flyballlaw02_works: function 23 -/
def flyballlaw02_worksg.f (k : Nat)  : Option (Bool) := (nat_New.f k 4294967296).bind fun t101 => ((nat_New.f k 7).bind fun t104 => ((nat_New.f k 9).bind fun t107 => ((nat_Nat_Sub.f k t104 t107).bind fun bt110 => ((nat_Parse.f k (⟨#[48, 48, 51, 52, 48, 50, 56, 50, 51, 54, 54, 57, 50, 48, 57, 51, 56, 52, 54, 51, 52, 54, 51, 51, 55, 52, 54, 48, 55, 52, 51, 49, 55, 54, 56, 50, 49, 49, 52, 53, 54]⟩ : ByteArray)).bind fun bt114 => ((nat_Pow.f k 10 3).bind fun bt118 => ((nat_Pow.f k 2 65536).bind fun bt122 => ((nat_New.f k 12).bind fun t126 => ((nat_New.f k 18).bind fun t129 => ((nat_Nat_Gcd.f k t126 t129).bind fun t132 => ((nat_Nat_Uint.f k t132).bind fun bt135 => ((nat_New.f k 17).bind fun t137 => ((nat_New.f k 5).bind fun t140 => ((nat_Nat_Div.f k t137 t140).bind fun bt143 => ((nat_New.f k 1).bind fun t150 => ((nat_Nat_Shl.f k t150 40).bind fun bt153 => (if (t101.length : Int) = 2 then (if 0 < (t101.length : Int) then (if (rd t101 0) = 0 then (if 1 < (t101.length : Int) then (if (rd t101 1) = 1 then (if bt110.2 = true then (some false) else (if (bt114.1.length : Int) = 5 then (if 4 < (bt114.1.length : Int) then (if (rd bt114.1 4) = 1 then (if bt114.2 = 0 then ((nat_Nat_Text.f k bt118.1).bind fun t160 => (if t160.toList = ([49, 48, 48, 48] : List UInt8) then (if bt118.2 = 0 then (if bt122.2 = 20 then (if bt135.1 = 6 then (if bt135.2 = true then ((nat_New.f k 3).bind fun t161 => ((nat_Nat_Cmp.f k bt143.1 t161).bind fun t164 => (if t164 = 0 then ((nat_New.f k 2).bind fun t165 => ((nat_Nat_Cmp.f k bt143.2.1 t165).bind fun t168 => (if t168 = 0 then (if bt143.2.2 = 0 then ((nat_Nat_Bit.f bt153.1 40).bind fun t169 => (if t169 = 1 then (if bt153.2 = 0 then ((nat_Nat_Shr.f k bt153.1 40).bind fun t170 => ((nat_Nat_Len.f k t170).bind fun t173 => (if t173 = 1 then ((nat_Nat_Mul.f k t101 t101).bind fun t174 => ((nat_Nat_Len.f k t174).bind fun t177 => (if t177 = 65 then ((nat_Nat_Add.f k t101 t101).bind fun t178 => ((nat_Nat_Len.f k t178).bind fun t181 => (some (t181 == 34)))) else (some false)))) else (some false)))) else (some false)) else (some false))) else (some false)) else (some false)))) else (some false)))) else (some false)) else (some false)) else (some false)) else (some false)) else (some false))) else (some false)) else (some false)) else (none)) else (some false))) else (some false)) else (none)) else (some false)) else (none)) else (some false)))))))))))))))))
theorem flyballlaw02_worksg.mono : ∀ k, LeO (flyballlaw02_worksg.f k ) (flyballlaw02_worksg.f (k + 1) ) := by
  intro  k
  unfold flyballlaw02_worksg.f
  repeat' first
      | (with_reducible exact nat_Nat_Add.mono _ _ _)
      | (with_reducible exact nat_Nat_Cmp.mono _ _ _)
      | (with_reducible exact nat_Nat_Div.mono _ _ _)
      | (with_reducible exact nat_Nat_Gcd.mono _ _ _)
      | (with_reducible exact nat_Nat_Len.mono _ _)
      | (with_reducible exact nat_Nat_Mul.mono _ _ _)
      | (with_reducible exact nat_Nat_Shl.mono _ _ _)
      | (with_reducible exact nat_Nat_Shr.mono _ _ _)
      | (with_reducible exact nat_Nat_Sub.mono _ _ _)
      | (with_reducible exact nat_Nat_Text.mono _ _)
      | (with_reducible exact nat_Nat_Uint.mono _ _)
      | (with_reducible exact nat_New.mono _ _)
      | (with_reducible exact nat_Parse.mono _ _)
      | (with_reducible exact nat_Pow.mono _ _ _)
      | (with_reducible exact LeO.refl _)
      | (with_reducible exact LeO.none _)
      | (with_reducible refine LeO.ite ?_ ?_)
      | (with_reducible refine LeO.bind ?_ (fun _ => ?_))
      | exact nat_Nat_Add.mono _ _ _
      | exact nat_Nat_Cmp.mono _ _ _
      | exact nat_Nat_Div.mono _ _ _
      | exact nat_Nat_Gcd.mono _ _ _
      | exact nat_Nat_Len.mono _ _
      | exact nat_Nat_Mul.mono _ _ _
      | exact nat_Nat_Shl.mono _ _ _
      | exact nat_Nat_Shr.mono _ _ _
      | exact nat_Nat_Sub.mono _ _ _
      | exact nat_Nat_Text.mono _ _
      | exact nat_Nat_Uint.mono _ _
      | exact nat_New.mono _ _
      | exact nat_Parse.mono _ _
      | exact nat_Pow.mono _ _ _
      | exact LeO.none _
      | refine LeO.ite ?_ ?_
      | refine LeO.bind ?_ (fun _ => ?_)
set_option maxHeartbeats 8000000 in
set_option maxRecDepth 100000 in
theorem flyballlaw02_worksg.calls (k : Nat)  (w : World) (h : flyballlaw02_worksg.f k  = some true) :
    Calls Try.prog 23 #[] w fun e w' => e = .returned (.bool true) ∧ Below w.heap.size w w' := by
  have HB := Aside0.mk (Below.refl w.heap.size w)
  have H : ((nat_New.f k 4294967296).bind fun t101 => ((nat_New.f k 7).bind fun t104 => ((nat_New.f k 9).bind fun t107 => ((nat_Nat_Sub.f k t104 t107).bind fun bt110 => ((nat_Parse.f k (⟨#[48, 48, 51, 52, 48, 50, 56, 50, 51, 54, 54, 57, 50, 48, 57, 51, 56, 52, 54, 51, 52, 54, 51, 51, 55, 52, 54, 48, 55, 52, 51, 49, 55, 54, 56, 50, 49, 49, 52, 53, 54]⟩ : ByteArray)).bind fun bt114 => ((nat_Pow.f k 10 3).bind fun bt118 => ((nat_Pow.f k 2 65536).bind fun bt122 => ((nat_New.f k 12).bind fun t126 => ((nat_New.f k 18).bind fun t129 => ((nat_Nat_Gcd.f k t126 t129).bind fun t132 => ((nat_Nat_Uint.f k t132).bind fun bt135 => ((nat_New.f k 17).bind fun t137 => ((nat_New.f k 5).bind fun t140 => ((nat_Nat_Div.f k t137 t140).bind fun bt143 => ((nat_New.f k 1).bind fun t150 => ((nat_Nat_Shl.f k t150 40).bind fun bt153 => (if (t101.length : Int) = 2 then (if 0 < (t101.length : Int) then (if (rd t101 0) = 0 then (if 1 < (t101.length : Int) then (if (rd t101 1) = 1 then (if bt110.2 = true then (some false) else (if (bt114.1.length : Int) = 5 then (if 4 < (bt114.1.length : Int) then (if (rd bt114.1 4) = 1 then (if bt114.2 = 0 then ((nat_Nat_Text.f k bt118.1).bind fun t160 => (if t160.toList = ([49, 48, 48, 48] : List UInt8) then (if bt118.2 = 0 then (if bt122.2 = 20 then (if bt135.1 = 6 then (if bt135.2 = true then ((nat_New.f k 3).bind fun t161 => ((nat_Nat_Cmp.f k bt143.1 t161).bind fun t164 => (if t164 = 0 then ((nat_New.f k 2).bind fun t165 => ((nat_Nat_Cmp.f k bt143.2.1 t165).bind fun t168 => (if t168 = 0 then (if bt143.2.2 = 0 then ((nat_Nat_Bit.f bt153.1 40).bind fun t169 => (if t169 = 1 then (if bt153.2 = 0 then ((nat_Nat_Shr.f k bt153.1 40).bind fun t170 => ((nat_Nat_Len.f k t170).bind fun t173 => (if t173 = 1 then ((nat_Nat_Mul.f k t101 t101).bind fun t174 => ((nat_Nat_Len.f k t174).bind fun t177 => (if t177 = 65 then ((nat_Nat_Add.f k t101 t101).bind fun t178 => ((nat_Nat_Len.f k t178).bind fun t181 => (some (t181 == 34)))) else (some false)))) else (some false)))) else (some false)) else (some false))) else (some false)) else (some false)))) else (some false)))) else (some false)) else (some false)) else (some false)) else (some false)) else (some false))) else (some false)) else (some false)) else (none)) else (some false))) else (some false)) else (none)) else (some false)) else (none)) else (some false)))))))))))))))))) = some true := h
  clear h
  replace H := Option.bind_eq_some_iff.mp H
  obtain ⟨t101, A10, H⟩ := H
  replace H : ((nat_New.f k 7).bind fun t104 => ((nat_New.f k 9).bind fun t107 => ((nat_Nat_Sub.f k t104 t107).bind fun bt110 => ((nat_Parse.f k (⟨#[48, 48, 51, 52, 48, 50, 56, 50, 51, 54, 54, 57, 50, 48, 57, 51, 56, 52, 54, 51, 52, 54, 51, 51, 55, 52, 54, 48, 55, 52, 51, 49, 55, 54, 56, 50, 49, 49, 52, 53, 54]⟩ : ByteArray)).bind fun bt114 => ((nat_Pow.f k 10 3).bind fun bt118 => ((nat_Pow.f k 2 65536).bind fun bt122 => ((nat_New.f k 12).bind fun t126 => ((nat_New.f k 18).bind fun t129 => ((nat_Nat_Gcd.f k t126 t129).bind fun t132 => ((nat_Nat_Uint.f k t132).bind fun bt135 => ((nat_New.f k 17).bind fun t137 => ((nat_New.f k 5).bind fun t140 => ((nat_Nat_Div.f k t137 t140).bind fun bt143 => ((nat_New.f k 1).bind fun t150 => ((nat_Nat_Shl.f k t150 40).bind fun bt153 => (if (t101.length : Int) = 2 then (if 0 < (t101.length : Int) then (if (rd t101 0) = 0 then (if 1 < (t101.length : Int) then (if (rd t101 1) = 1 then (if bt110.2 = true then (some false) else (if (bt114.1.length : Int) = 5 then (if 4 < (bt114.1.length : Int) then (if (rd bt114.1 4) = 1 then (if bt114.2 = 0 then ((nat_Nat_Text.f k bt118.1).bind fun t160 => (if t160.toList = ([49, 48, 48, 48] : List UInt8) then (if bt118.2 = 0 then (if bt122.2 = 20 then (if bt135.1 = 6 then (if bt135.2 = true then ((nat_New.f k 3).bind fun t161 => ((nat_Nat_Cmp.f k bt143.1 t161).bind fun t164 => (if t164 = 0 then ((nat_New.f k 2).bind fun t165 => ((nat_Nat_Cmp.f k bt143.2.1 t165).bind fun t168 => (if t168 = 0 then (if bt143.2.2 = 0 then ((nat_Nat_Bit.f bt153.1 40).bind fun t169 => (if t169 = 1 then (if bt153.2 = 0 then ((nat_Nat_Shr.f k bt153.1 40).bind fun t170 => ((nat_Nat_Len.f k t170).bind fun t173 => (if t173 = 1 then ((nat_Nat_Mul.f k t101 t101).bind fun t174 => ((nat_Nat_Len.f k t174).bind fun t177 => (if t177 = 65 then ((nat_Nat_Add.f k t101 t101).bind fun t178 => ((nat_Nat_Len.f k t178).bind fun t181 => (some (t181 == 34)))) else (some false)))) else (some false)))) else (some false)) else (some false))) else (some false)) else (some false)))) else (some false)))) else (some false)) else (some false)) else (some false)) else (some false)) else (some false))) else (some false)) else (some false)) else (none)) else (some false))) else (some false)) else (none)) else (some false)) else (none)) else (some false))))))))))))))))) = some true := H
  have A1 := Aside0.mk A10
  clear A10
  replace H := Option.bind_eq_some_iff.mp H
  obtain ⟨t104, A20, H⟩ := H
  replace H : ((nat_New.f k 9).bind fun t107 => ((nat_Nat_Sub.f k t104 t107).bind fun bt110 => ((nat_Parse.f k (⟨#[48, 48, 51, 52, 48, 50, 56, 50, 51, 54, 54, 57, 50, 48, 57, 51, 56, 52, 54, 51, 52, 54, 51, 51, 55, 52, 54, 48, 55, 52, 51, 49, 55, 54, 56, 50, 49, 49, 52, 53, 54]⟩ : ByteArray)).bind fun bt114 => ((nat_Pow.f k 10 3).bind fun bt118 => ((nat_Pow.f k 2 65536).bind fun bt122 => ((nat_New.f k 12).bind fun t126 => ((nat_New.f k 18).bind fun t129 => ((nat_Nat_Gcd.f k t126 t129).bind fun t132 => ((nat_Nat_Uint.f k t132).bind fun bt135 => ((nat_New.f k 17).bind fun t137 => ((nat_New.f k 5).bind fun t140 => ((nat_Nat_Div.f k t137 t140).bind fun bt143 => ((nat_New.f k 1).bind fun t150 => ((nat_Nat_Shl.f k t150 40).bind fun bt153 => (if (t101.length : Int) = 2 then (if 0 < (t101.length : Int) then (if (rd t101 0) = 0 then (if 1 < (t101.length : Int) then (if (rd t101 1) = 1 then (if bt110.2 = true then (some false) else (if (bt114.1.length : Int) = 5 then (if 4 < (bt114.1.length : Int) then (if (rd bt114.1 4) = 1 then (if bt114.2 = 0 then ((nat_Nat_Text.f k bt118.1).bind fun t160 => (if t160.toList = ([49, 48, 48, 48] : List UInt8) then (if bt118.2 = 0 then (if bt122.2 = 20 then (if bt135.1 = 6 then (if bt135.2 = true then ((nat_New.f k 3).bind fun t161 => ((nat_Nat_Cmp.f k bt143.1 t161).bind fun t164 => (if t164 = 0 then ((nat_New.f k 2).bind fun t165 => ((nat_Nat_Cmp.f k bt143.2.1 t165).bind fun t168 => (if t168 = 0 then (if bt143.2.2 = 0 then ((nat_Nat_Bit.f bt153.1 40).bind fun t169 => (if t169 = 1 then (if bt153.2 = 0 then ((nat_Nat_Shr.f k bt153.1 40).bind fun t170 => ((nat_Nat_Len.f k t170).bind fun t173 => (if t173 = 1 then ((nat_Nat_Mul.f k t101 t101).bind fun t174 => ((nat_Nat_Len.f k t174).bind fun t177 => (if t177 = 65 then ((nat_Nat_Add.f k t101 t101).bind fun t178 => ((nat_Nat_Len.f k t178).bind fun t181 => (some (t181 == 34)))) else (some false)))) else (some false)))) else (some false)) else (some false))) else (some false)) else (some false)))) else (some false)))) else (some false)) else (some false)) else (some false)) else (some false)) else (some false))) else (some false)) else (some false)) else (none)) else (some false))) else (some false)) else (none)) else (some false)) else (none)) else (some false)))))))))))))))) = some true := H
  have A2 := Aside0.mk A20
  clear A20
  replace H := Option.bind_eq_some_iff.mp H
  obtain ⟨t107, A30, H⟩ := H
  replace H : ((nat_Nat_Sub.f k t104 t107).bind fun bt110 => ((nat_Parse.f k (⟨#[48, 48, 51, 52, 48, 50, 56, 50, 51, 54, 54, 57, 50, 48, 57, 51, 56, 52, 54, 51, 52, 54, 51, 51, 55, 52, 54, 48, 55, 52, 51, 49, 55, 54, 56, 50, 49, 49, 52, 53, 54]⟩ : ByteArray)).bind fun bt114 => ((nat_Pow.f k 10 3).bind fun bt118 => ((nat_Pow.f k 2 65536).bind fun bt122 => ((nat_New.f k 12).bind fun t126 => ((nat_New.f k 18).bind fun t129 => ((nat_Nat_Gcd.f k t126 t129).bind fun t132 => ((nat_Nat_Uint.f k t132).bind fun bt135 => ((nat_New.f k 17).bind fun t137 => ((nat_New.f k 5).bind fun t140 => ((nat_Nat_Div.f k t137 t140).bind fun bt143 => ((nat_New.f k 1).bind fun t150 => ((nat_Nat_Shl.f k t150 40).bind fun bt153 => (if (t101.length : Int) = 2 then (if 0 < (t101.length : Int) then (if (rd t101 0) = 0 then (if 1 < (t101.length : Int) then (if (rd t101 1) = 1 then (if bt110.2 = true then (some false) else (if (bt114.1.length : Int) = 5 then (if 4 < (bt114.1.length : Int) then (if (rd bt114.1 4) = 1 then (if bt114.2 = 0 then ((nat_Nat_Text.f k bt118.1).bind fun t160 => (if t160.toList = ([49, 48, 48, 48] : List UInt8) then (if bt118.2 = 0 then (if bt122.2 = 20 then (if bt135.1 = 6 then (if bt135.2 = true then ((nat_New.f k 3).bind fun t161 => ((nat_Nat_Cmp.f k bt143.1 t161).bind fun t164 => (if t164 = 0 then ((nat_New.f k 2).bind fun t165 => ((nat_Nat_Cmp.f k bt143.2.1 t165).bind fun t168 => (if t168 = 0 then (if bt143.2.2 = 0 then ((nat_Nat_Bit.f bt153.1 40).bind fun t169 => (if t169 = 1 then (if bt153.2 = 0 then ((nat_Nat_Shr.f k bt153.1 40).bind fun t170 => ((nat_Nat_Len.f k t170).bind fun t173 => (if t173 = 1 then ((nat_Nat_Mul.f k t101 t101).bind fun t174 => ((nat_Nat_Len.f k t174).bind fun t177 => (if t177 = 65 then ((nat_Nat_Add.f k t101 t101).bind fun t178 => ((nat_Nat_Len.f k t178).bind fun t181 => (some (t181 == 34)))) else (some false)))) else (some false)))) else (some false)) else (some false))) else (some false)) else (some false)))) else (some false)))) else (some false)) else (some false)) else (some false)) else (some false)) else (some false))) else (some false)) else (some false)) else (none)) else (some false))) else (some false)) else (none)) else (some false)) else (none)) else (some false))))))))))))))) = some true := H
  have A3 := Aside0.mk A30
  clear A30
  replace H := Option.bind_eq_some_iff.mp H
  obtain ⟨⟨t110, t113⟩, A40, H⟩ := H
  replace H : ((nat_Parse.f k (⟨#[48, 48, 51, 52, 48, 50, 56, 50, 51, 54, 54, 57, 50, 48, 57, 51, 56, 52, 54, 51, 52, 54, 51, 51, 55, 52, 54, 48, 55, 52, 51, 49, 55, 54, 56, 50, 49, 49, 52, 53, 54]⟩ : ByteArray)).bind fun bt114 => ((nat_Pow.f k 10 3).bind fun bt118 => ((nat_Pow.f k 2 65536).bind fun bt122 => ((nat_New.f k 12).bind fun t126 => ((nat_New.f k 18).bind fun t129 => ((nat_Nat_Gcd.f k t126 t129).bind fun t132 => ((nat_Nat_Uint.f k t132).bind fun bt135 => ((nat_New.f k 17).bind fun t137 => ((nat_New.f k 5).bind fun t140 => ((nat_Nat_Div.f k t137 t140).bind fun bt143 => ((nat_New.f k 1).bind fun t150 => ((nat_Nat_Shl.f k t150 40).bind fun bt153 => (if (t101.length : Int) = 2 then (if 0 < (t101.length : Int) then (if (rd t101 0) = 0 then (if 1 < (t101.length : Int) then (if (rd t101 1) = 1 then (if t113 = true then (some false) else (if (bt114.1.length : Int) = 5 then (if 4 < (bt114.1.length : Int) then (if (rd bt114.1 4) = 1 then (if bt114.2 = 0 then ((nat_Nat_Text.f k bt118.1).bind fun t160 => (if t160.toList = ([49, 48, 48, 48] : List UInt8) then (if bt118.2 = 0 then (if bt122.2 = 20 then (if bt135.1 = 6 then (if bt135.2 = true then ((nat_New.f k 3).bind fun t161 => ((nat_Nat_Cmp.f k bt143.1 t161).bind fun t164 => (if t164 = 0 then ((nat_New.f k 2).bind fun t165 => ((nat_Nat_Cmp.f k bt143.2.1 t165).bind fun t168 => (if t168 = 0 then (if bt143.2.2 = 0 then ((nat_Nat_Bit.f bt153.1 40).bind fun t169 => (if t169 = 1 then (if bt153.2 = 0 then ((nat_Nat_Shr.f k bt153.1 40).bind fun t170 => ((nat_Nat_Len.f k t170).bind fun t173 => (if t173 = 1 then ((nat_Nat_Mul.f k t101 t101).bind fun t174 => ((nat_Nat_Len.f k t174).bind fun t177 => (if t177 = 65 then ((nat_Nat_Add.f k t101 t101).bind fun t178 => ((nat_Nat_Len.f k t178).bind fun t181 => (some (t181 == 34)))) else (some false)))) else (some false)))) else (some false)) else (some false))) else (some false)) else (some false)))) else (some false)))) else (some false)) else (some false)) else (some false)) else (some false)) else (some false))) else (some false)) else (some false)) else (none)) else (some false))) else (some false)) else (none)) else (some false)) else (none)) else (some false)))))))))))))) = some true := H
  have A4 := Aside0.mk A40
  clear A40
  replace H := Option.bind_eq_some_iff.mp H
  obtain ⟨⟨t114, t117⟩, A50, H⟩ := H
  replace H : ((nat_Pow.f k 10 3).bind fun bt118 => ((nat_Pow.f k 2 65536).bind fun bt122 => ((nat_New.f k 12).bind fun t126 => ((nat_New.f k 18).bind fun t129 => ((nat_Nat_Gcd.f k t126 t129).bind fun t132 => ((nat_Nat_Uint.f k t132).bind fun bt135 => ((nat_New.f k 17).bind fun t137 => ((nat_New.f k 5).bind fun t140 => ((nat_Nat_Div.f k t137 t140).bind fun bt143 => ((nat_New.f k 1).bind fun t150 => ((nat_Nat_Shl.f k t150 40).bind fun bt153 => (if (t101.length : Int) = 2 then (if 0 < (t101.length : Int) then (if (rd t101 0) = 0 then (if 1 < (t101.length : Int) then (if (rd t101 1) = 1 then (if t113 = true then (some false) else (if (t114.length : Int) = 5 then (if 4 < (t114.length : Int) then (if (rd t114 4) = 1 then (if t117 = 0 then ((nat_Nat_Text.f k bt118.1).bind fun t160 => (if t160.toList = ([49, 48, 48, 48] : List UInt8) then (if bt118.2 = 0 then (if bt122.2 = 20 then (if bt135.1 = 6 then (if bt135.2 = true then ((nat_New.f k 3).bind fun t161 => ((nat_Nat_Cmp.f k bt143.1 t161).bind fun t164 => (if t164 = 0 then ((nat_New.f k 2).bind fun t165 => ((nat_Nat_Cmp.f k bt143.2.1 t165).bind fun t168 => (if t168 = 0 then (if bt143.2.2 = 0 then ((nat_Nat_Bit.f bt153.1 40).bind fun t169 => (if t169 = 1 then (if bt153.2 = 0 then ((nat_Nat_Shr.f k bt153.1 40).bind fun t170 => ((nat_Nat_Len.f k t170).bind fun t173 => (if t173 = 1 then ((nat_Nat_Mul.f k t101 t101).bind fun t174 => ((nat_Nat_Len.f k t174).bind fun t177 => (if t177 = 65 then ((nat_Nat_Add.f k t101 t101).bind fun t178 => ((nat_Nat_Len.f k t178).bind fun t181 => (some (t181 == 34)))) else (some false)))) else (some false)))) else (some false)) else (some false))) else (some false)) else (some false)))) else (some false)))) else (some false)) else (some false)) else (some false)) else (some false)) else (some false))) else (some false)) else (some false)) else (none)) else (some false))) else (some false)) else (none)) else (some false)) else (none)) else (some false))))))))))))) = some true := H
  have A5 := Aside0.mk A50
  clear A50
  replace H := Option.bind_eq_some_iff.mp H
  obtain ⟨⟨t118, t121⟩, A60, H⟩ := H
  replace H : ((nat_Pow.f k 2 65536).bind fun bt122 => ((nat_New.f k 12).bind fun t126 => ((nat_New.f k 18).bind fun t129 => ((nat_Nat_Gcd.f k t126 t129).bind fun t132 => ((nat_Nat_Uint.f k t132).bind fun bt135 => ((nat_New.f k 17).bind fun t137 => ((nat_New.f k 5).bind fun t140 => ((nat_Nat_Div.f k t137 t140).bind fun bt143 => ((nat_New.f k 1).bind fun t150 => ((nat_Nat_Shl.f k t150 40).bind fun bt153 => (if (t101.length : Int) = 2 then (if 0 < (t101.length : Int) then (if (rd t101 0) = 0 then (if 1 < (t101.length : Int) then (if (rd t101 1) = 1 then (if t113 = true then (some false) else (if (t114.length : Int) = 5 then (if 4 < (t114.length : Int) then (if (rd t114 4) = 1 then (if t117 = 0 then ((nat_Nat_Text.f k t118).bind fun t160 => (if t160.toList = ([49, 48, 48, 48] : List UInt8) then (if t121 = 0 then (if bt122.2 = 20 then (if bt135.1 = 6 then (if bt135.2 = true then ((nat_New.f k 3).bind fun t161 => ((nat_Nat_Cmp.f k bt143.1 t161).bind fun t164 => (if t164 = 0 then ((nat_New.f k 2).bind fun t165 => ((nat_Nat_Cmp.f k bt143.2.1 t165).bind fun t168 => (if t168 = 0 then (if bt143.2.2 = 0 then ((nat_Nat_Bit.f bt153.1 40).bind fun t169 => (if t169 = 1 then (if bt153.2 = 0 then ((nat_Nat_Shr.f k bt153.1 40).bind fun t170 => ((nat_Nat_Len.f k t170).bind fun t173 => (if t173 = 1 then ((nat_Nat_Mul.f k t101 t101).bind fun t174 => ((nat_Nat_Len.f k t174).bind fun t177 => (if t177 = 65 then ((nat_Nat_Add.f k t101 t101).bind fun t178 => ((nat_Nat_Len.f k t178).bind fun t181 => (some (t181 == 34)))) else (some false)))) else (some false)))) else (some false)) else (some false))) else (some false)) else (some false)))) else (some false)))) else (some false)) else (some false)) else (some false)) else (some false)) else (some false))) else (some false)) else (some false)) else (none)) else (some false))) else (some false)) else (none)) else (some false)) else (none)) else (some false)))))))))))) = some true := H
  have A6 := Aside0.mk A60
  clear A60
  replace H := Option.bind_eq_some_iff.mp H
  obtain ⟨⟨t122, t125⟩, A70, H⟩ := H
  replace H : ((nat_New.f k 12).bind fun t126 => ((nat_New.f k 18).bind fun t129 => ((nat_Nat_Gcd.f k t126 t129).bind fun t132 => ((nat_Nat_Uint.f k t132).bind fun bt135 => ((nat_New.f k 17).bind fun t137 => ((nat_New.f k 5).bind fun t140 => ((nat_Nat_Div.f k t137 t140).bind fun bt143 => ((nat_New.f k 1).bind fun t150 => ((nat_Nat_Shl.f k t150 40).bind fun bt153 => (if (t101.length : Int) = 2 then (if 0 < (t101.length : Int) then (if (rd t101 0) = 0 then (if 1 < (t101.length : Int) then (if (rd t101 1) = 1 then (if t113 = true then (some false) else (if (t114.length : Int) = 5 then (if 4 < (t114.length : Int) then (if (rd t114 4) = 1 then (if t117 = 0 then ((nat_Nat_Text.f k t118).bind fun t160 => (if t160.toList = ([49, 48, 48, 48] : List UInt8) then (if t121 = 0 then (if t125 = 20 then (if bt135.1 = 6 then (if bt135.2 = true then ((nat_New.f k 3).bind fun t161 => ((nat_Nat_Cmp.f k bt143.1 t161).bind fun t164 => (if t164 = 0 then ((nat_New.f k 2).bind fun t165 => ((nat_Nat_Cmp.f k bt143.2.1 t165).bind fun t168 => (if t168 = 0 then (if bt143.2.2 = 0 then ((nat_Nat_Bit.f bt153.1 40).bind fun t169 => (if t169 = 1 then (if bt153.2 = 0 then ((nat_Nat_Shr.f k bt153.1 40).bind fun t170 => ((nat_Nat_Len.f k t170).bind fun t173 => (if t173 = 1 then ((nat_Nat_Mul.f k t101 t101).bind fun t174 => ((nat_Nat_Len.f k t174).bind fun t177 => (if t177 = 65 then ((nat_Nat_Add.f k t101 t101).bind fun t178 => ((nat_Nat_Len.f k t178).bind fun t181 => (some (t181 == 34)))) else (some false)))) else (some false)))) else (some false)) else (some false))) else (some false)) else (some false)))) else (some false)))) else (some false)) else (some false)) else (some false)) else (some false)) else (some false))) else (some false)) else (some false)) else (none)) else (some false))) else (some false)) else (none)) else (some false)) else (none)) else (some false))))))))))) = some true := H
  have A7 := Aside0.mk A70
  clear A70
  replace H := Option.bind_eq_some_iff.mp H
  obtain ⟨t126, A80, H⟩ := H
  replace H : ((nat_New.f k 18).bind fun t129 => ((nat_Nat_Gcd.f k t126 t129).bind fun t132 => ((nat_Nat_Uint.f k t132).bind fun bt135 => ((nat_New.f k 17).bind fun t137 => ((nat_New.f k 5).bind fun t140 => ((nat_Nat_Div.f k t137 t140).bind fun bt143 => ((nat_New.f k 1).bind fun t150 => ((nat_Nat_Shl.f k t150 40).bind fun bt153 => (if (t101.length : Int) = 2 then (if 0 < (t101.length : Int) then (if (rd t101 0) = 0 then (if 1 < (t101.length : Int) then (if (rd t101 1) = 1 then (if t113 = true then (some false) else (if (t114.length : Int) = 5 then (if 4 < (t114.length : Int) then (if (rd t114 4) = 1 then (if t117 = 0 then ((nat_Nat_Text.f k t118).bind fun t160 => (if t160.toList = ([49, 48, 48, 48] : List UInt8) then (if t121 = 0 then (if t125 = 20 then (if bt135.1 = 6 then (if bt135.2 = true then ((nat_New.f k 3).bind fun t161 => ((nat_Nat_Cmp.f k bt143.1 t161).bind fun t164 => (if t164 = 0 then ((nat_New.f k 2).bind fun t165 => ((nat_Nat_Cmp.f k bt143.2.1 t165).bind fun t168 => (if t168 = 0 then (if bt143.2.2 = 0 then ((nat_Nat_Bit.f bt153.1 40).bind fun t169 => (if t169 = 1 then (if bt153.2 = 0 then ((nat_Nat_Shr.f k bt153.1 40).bind fun t170 => ((nat_Nat_Len.f k t170).bind fun t173 => (if t173 = 1 then ((nat_Nat_Mul.f k t101 t101).bind fun t174 => ((nat_Nat_Len.f k t174).bind fun t177 => (if t177 = 65 then ((nat_Nat_Add.f k t101 t101).bind fun t178 => ((nat_Nat_Len.f k t178).bind fun t181 => (some (t181 == 34)))) else (some false)))) else (some false)))) else (some false)) else (some false))) else (some false)) else (some false)))) else (some false)))) else (some false)) else (some false)) else (some false)) else (some false)) else (some false))) else (some false)) else (some false)) else (none)) else (some false))) else (some false)) else (none)) else (some false)) else (none)) else (some false)))))))))) = some true := H
  have A8 := Aside0.mk A80
  clear A80
  replace H := Option.bind_eq_some_iff.mp H
  obtain ⟨t129, A90, H⟩ := H
  replace H : ((nat_Nat_Gcd.f k t126 t129).bind fun t132 => ((nat_Nat_Uint.f k t132).bind fun bt135 => ((nat_New.f k 17).bind fun t137 => ((nat_New.f k 5).bind fun t140 => ((nat_Nat_Div.f k t137 t140).bind fun bt143 => ((nat_New.f k 1).bind fun t150 => ((nat_Nat_Shl.f k t150 40).bind fun bt153 => (if (t101.length : Int) = 2 then (if 0 < (t101.length : Int) then (if (rd t101 0) = 0 then (if 1 < (t101.length : Int) then (if (rd t101 1) = 1 then (if t113 = true then (some false) else (if (t114.length : Int) = 5 then (if 4 < (t114.length : Int) then (if (rd t114 4) = 1 then (if t117 = 0 then ((nat_Nat_Text.f k t118).bind fun t160 => (if t160.toList = ([49, 48, 48, 48] : List UInt8) then (if t121 = 0 then (if t125 = 20 then (if bt135.1 = 6 then (if bt135.2 = true then ((nat_New.f k 3).bind fun t161 => ((nat_Nat_Cmp.f k bt143.1 t161).bind fun t164 => (if t164 = 0 then ((nat_New.f k 2).bind fun t165 => ((nat_Nat_Cmp.f k bt143.2.1 t165).bind fun t168 => (if t168 = 0 then (if bt143.2.2 = 0 then ((nat_Nat_Bit.f bt153.1 40).bind fun t169 => (if t169 = 1 then (if bt153.2 = 0 then ((nat_Nat_Shr.f k bt153.1 40).bind fun t170 => ((nat_Nat_Len.f k t170).bind fun t173 => (if t173 = 1 then ((nat_Nat_Mul.f k t101 t101).bind fun t174 => ((nat_Nat_Len.f k t174).bind fun t177 => (if t177 = 65 then ((nat_Nat_Add.f k t101 t101).bind fun t178 => ((nat_Nat_Len.f k t178).bind fun t181 => (some (t181 == 34)))) else (some false)))) else (some false)))) else (some false)) else (some false))) else (some false)) else (some false)))) else (some false)))) else (some false)) else (some false)) else (some false)) else (some false)) else (some false))) else (some false)) else (some false)) else (none)) else (some false))) else (some false)) else (none)) else (some false)) else (none)) else (some false))))))))) = some true := H
  have A9 := Aside0.mk A90
  clear A90
  replace H := Option.bind_eq_some_iff.mp H
  obtain ⟨t132, A100, H⟩ := H
  replace H : ((nat_Nat_Uint.f k t132).bind fun bt135 => ((nat_New.f k 17).bind fun t137 => ((nat_New.f k 5).bind fun t140 => ((nat_Nat_Div.f k t137 t140).bind fun bt143 => ((nat_New.f k 1).bind fun t150 => ((nat_Nat_Shl.f k t150 40).bind fun bt153 => (if (t101.length : Int) = 2 then (if 0 < (t101.length : Int) then (if (rd t101 0) = 0 then (if 1 < (t101.length : Int) then (if (rd t101 1) = 1 then (if t113 = true then (some false) else (if (t114.length : Int) = 5 then (if 4 < (t114.length : Int) then (if (rd t114 4) = 1 then (if t117 = 0 then ((nat_Nat_Text.f k t118).bind fun t160 => (if t160.toList = ([49, 48, 48, 48] : List UInt8) then (if t121 = 0 then (if t125 = 20 then (if bt135.1 = 6 then (if bt135.2 = true then ((nat_New.f k 3).bind fun t161 => ((nat_Nat_Cmp.f k bt143.1 t161).bind fun t164 => (if t164 = 0 then ((nat_New.f k 2).bind fun t165 => ((nat_Nat_Cmp.f k bt143.2.1 t165).bind fun t168 => (if t168 = 0 then (if bt143.2.2 = 0 then ((nat_Nat_Bit.f bt153.1 40).bind fun t169 => (if t169 = 1 then (if bt153.2 = 0 then ((nat_Nat_Shr.f k bt153.1 40).bind fun t170 => ((nat_Nat_Len.f k t170).bind fun t173 => (if t173 = 1 then ((nat_Nat_Mul.f k t101 t101).bind fun t174 => ((nat_Nat_Len.f k t174).bind fun t177 => (if t177 = 65 then ((nat_Nat_Add.f k t101 t101).bind fun t178 => ((nat_Nat_Len.f k t178).bind fun t181 => (some (t181 == 34)))) else (some false)))) else (some false)))) else (some false)) else (some false))) else (some false)) else (some false)))) else (some false)))) else (some false)) else (some false)) else (some false)) else (some false)) else (some false))) else (some false)) else (some false)) else (none)) else (some false))) else (some false)) else (none)) else (some false)) else (none)) else (some false)))))))) = some true := H
  have A10 := Aside0.mk A100
  clear A100
  replace H := Option.bind_eq_some_iff.mp H
  obtain ⟨⟨t135, t136⟩, A110, H⟩ := H
  replace H : ((nat_New.f k 17).bind fun t137 => ((nat_New.f k 5).bind fun t140 => ((nat_Nat_Div.f k t137 t140).bind fun bt143 => ((nat_New.f k 1).bind fun t150 => ((nat_Nat_Shl.f k t150 40).bind fun bt153 => (if (t101.length : Int) = 2 then (if 0 < (t101.length : Int) then (if (rd t101 0) = 0 then (if 1 < (t101.length : Int) then (if (rd t101 1) = 1 then (if t113 = true then (some false) else (if (t114.length : Int) = 5 then (if 4 < (t114.length : Int) then (if (rd t114 4) = 1 then (if t117 = 0 then ((nat_Nat_Text.f k t118).bind fun t160 => (if t160.toList = ([49, 48, 48, 48] : List UInt8) then (if t121 = 0 then (if t125 = 20 then (if t135 = 6 then (if t136 = true then ((nat_New.f k 3).bind fun t161 => ((nat_Nat_Cmp.f k bt143.1 t161).bind fun t164 => (if t164 = 0 then ((nat_New.f k 2).bind fun t165 => ((nat_Nat_Cmp.f k bt143.2.1 t165).bind fun t168 => (if t168 = 0 then (if bt143.2.2 = 0 then ((nat_Nat_Bit.f bt153.1 40).bind fun t169 => (if t169 = 1 then (if bt153.2 = 0 then ((nat_Nat_Shr.f k bt153.1 40).bind fun t170 => ((nat_Nat_Len.f k t170).bind fun t173 => (if t173 = 1 then ((nat_Nat_Mul.f k t101 t101).bind fun t174 => ((nat_Nat_Len.f k t174).bind fun t177 => (if t177 = 65 then ((nat_Nat_Add.f k t101 t101).bind fun t178 => ((nat_Nat_Len.f k t178).bind fun t181 => (some (t181 == 34)))) else (some false)))) else (some false)))) else (some false)) else (some false))) else (some false)) else (some false)))) else (some false)))) else (some false)) else (some false)) else (some false)) else (some false)) else (some false))) else (some false)) else (some false)) else (none)) else (some false))) else (some false)) else (none)) else (some false)) else (none)) else (some false))))))) = some true := H
  have A11 := Aside0.mk A110
  clear A110
  replace H := Option.bind_eq_some_iff.mp H
  obtain ⟨t137, A120, H⟩ := H
  replace H : ((nat_New.f k 5).bind fun t140 => ((nat_Nat_Div.f k t137 t140).bind fun bt143 => ((nat_New.f k 1).bind fun t150 => ((nat_Nat_Shl.f k t150 40).bind fun bt153 => (if (t101.length : Int) = 2 then (if 0 < (t101.length : Int) then (if (rd t101 0) = 0 then (if 1 < (t101.length : Int) then (if (rd t101 1) = 1 then (if t113 = true then (some false) else (if (t114.length : Int) = 5 then (if 4 < (t114.length : Int) then (if (rd t114 4) = 1 then (if t117 = 0 then ((nat_Nat_Text.f k t118).bind fun t160 => (if t160.toList = ([49, 48, 48, 48] : List UInt8) then (if t121 = 0 then (if t125 = 20 then (if t135 = 6 then (if t136 = true then ((nat_New.f k 3).bind fun t161 => ((nat_Nat_Cmp.f k bt143.1 t161).bind fun t164 => (if t164 = 0 then ((nat_New.f k 2).bind fun t165 => ((nat_Nat_Cmp.f k bt143.2.1 t165).bind fun t168 => (if t168 = 0 then (if bt143.2.2 = 0 then ((nat_Nat_Bit.f bt153.1 40).bind fun t169 => (if t169 = 1 then (if bt153.2 = 0 then ((nat_Nat_Shr.f k bt153.1 40).bind fun t170 => ((nat_Nat_Len.f k t170).bind fun t173 => (if t173 = 1 then ((nat_Nat_Mul.f k t101 t101).bind fun t174 => ((nat_Nat_Len.f k t174).bind fun t177 => (if t177 = 65 then ((nat_Nat_Add.f k t101 t101).bind fun t178 => ((nat_Nat_Len.f k t178).bind fun t181 => (some (t181 == 34)))) else (some false)))) else (some false)))) else (some false)) else (some false))) else (some false)) else (some false)))) else (some false)))) else (some false)) else (some false)) else (some false)) else (some false)) else (some false))) else (some false)) else (some false)) else (none)) else (some false))) else (some false)) else (none)) else (some false)) else (none)) else (some false)))))) = some true := H
  have A12 := Aside0.mk A120
  clear A120
  replace H := Option.bind_eq_some_iff.mp H
  obtain ⟨t140, A130, H⟩ := H
  replace H : ((nat_Nat_Div.f k t137 t140).bind fun bt143 => ((nat_New.f k 1).bind fun t150 => ((nat_Nat_Shl.f k t150 40).bind fun bt153 => (if (t101.length : Int) = 2 then (if 0 < (t101.length : Int) then (if (rd t101 0) = 0 then (if 1 < (t101.length : Int) then (if (rd t101 1) = 1 then (if t113 = true then (some false) else (if (t114.length : Int) = 5 then (if 4 < (t114.length : Int) then (if (rd t114 4) = 1 then (if t117 = 0 then ((nat_Nat_Text.f k t118).bind fun t160 => (if t160.toList = ([49, 48, 48, 48] : List UInt8) then (if t121 = 0 then (if t125 = 20 then (if t135 = 6 then (if t136 = true then ((nat_New.f k 3).bind fun t161 => ((nat_Nat_Cmp.f k bt143.1 t161).bind fun t164 => (if t164 = 0 then ((nat_New.f k 2).bind fun t165 => ((nat_Nat_Cmp.f k bt143.2.1 t165).bind fun t168 => (if t168 = 0 then (if bt143.2.2 = 0 then ((nat_Nat_Bit.f bt153.1 40).bind fun t169 => (if t169 = 1 then (if bt153.2 = 0 then ((nat_Nat_Shr.f k bt153.1 40).bind fun t170 => ((nat_Nat_Len.f k t170).bind fun t173 => (if t173 = 1 then ((nat_Nat_Mul.f k t101 t101).bind fun t174 => ((nat_Nat_Len.f k t174).bind fun t177 => (if t177 = 65 then ((nat_Nat_Add.f k t101 t101).bind fun t178 => ((nat_Nat_Len.f k t178).bind fun t181 => (some (t181 == 34)))) else (some false)))) else (some false)))) else (some false)) else (some false))) else (some false)) else (some false)))) else (some false)))) else (some false)) else (some false)) else (some false)) else (some false)) else (some false))) else (some false)) else (some false)) else (none)) else (some false))) else (some false)) else (none)) else (some false)) else (none)) else (some false))))) = some true := H
  have A13 := Aside0.mk A130
  clear A130
  replace H := Option.bind_eq_some_iff.mp H
  obtain ⟨⟨t143, t146, t149⟩, A140, H⟩ := H
  replace H : ((nat_New.f k 1).bind fun t150 => ((nat_Nat_Shl.f k t150 40).bind fun bt153 => (if (t101.length : Int) = 2 then (if 0 < (t101.length : Int) then (if (rd t101 0) = 0 then (if 1 < (t101.length : Int) then (if (rd t101 1) = 1 then (if t113 = true then (some false) else (if (t114.length : Int) = 5 then (if 4 < (t114.length : Int) then (if (rd t114 4) = 1 then (if t117 = 0 then ((nat_Nat_Text.f k t118).bind fun t160 => (if t160.toList = ([49, 48, 48, 48] : List UInt8) then (if t121 = 0 then (if t125 = 20 then (if t135 = 6 then (if t136 = true then ((nat_New.f k 3).bind fun t161 => ((nat_Nat_Cmp.f k t143 t161).bind fun t164 => (if t164 = 0 then ((nat_New.f k 2).bind fun t165 => ((nat_Nat_Cmp.f k t146 t165).bind fun t168 => (if t168 = 0 then (if t149 = 0 then ((nat_Nat_Bit.f bt153.1 40).bind fun t169 => (if t169 = 1 then (if bt153.2 = 0 then ((nat_Nat_Shr.f k bt153.1 40).bind fun t170 => ((nat_Nat_Len.f k t170).bind fun t173 => (if t173 = 1 then ((nat_Nat_Mul.f k t101 t101).bind fun t174 => ((nat_Nat_Len.f k t174).bind fun t177 => (if t177 = 65 then ((nat_Nat_Add.f k t101 t101).bind fun t178 => ((nat_Nat_Len.f k t178).bind fun t181 => (some (t181 == 34)))) else (some false)))) else (some false)))) else (some false)) else (some false))) else (some false)) else (some false)))) else (some false)))) else (some false)) else (some false)) else (some false)) else (some false)) else (some false))) else (some false)) else (some false)) else (none)) else (some false))) else (some false)) else (none)) else (some false)) else (none)) else (some false)))) = some true := H
  have A14 := Aside0.mk A140
  clear A140
  replace H := Option.bind_eq_some_iff.mp H
  obtain ⟨t150, A150, H⟩ := H
  replace H : ((nat_Nat_Shl.f k t150 40).bind fun bt153 => (if (t101.length : Int) = 2 then (if 0 < (t101.length : Int) then (if (rd t101 0) = 0 then (if 1 < (t101.length : Int) then (if (rd t101 1) = 1 then (if t113 = true then (some false) else (if (t114.length : Int) = 5 then (if 4 < (t114.length : Int) then (if (rd t114 4) = 1 then (if t117 = 0 then ((nat_Nat_Text.f k t118).bind fun t160 => (if t160.toList = ([49, 48, 48, 48] : List UInt8) then (if t121 = 0 then (if t125 = 20 then (if t135 = 6 then (if t136 = true then ((nat_New.f k 3).bind fun t161 => ((nat_Nat_Cmp.f k t143 t161).bind fun t164 => (if t164 = 0 then ((nat_New.f k 2).bind fun t165 => ((nat_Nat_Cmp.f k t146 t165).bind fun t168 => (if t168 = 0 then (if t149 = 0 then ((nat_Nat_Bit.f bt153.1 40).bind fun t169 => (if t169 = 1 then (if bt153.2 = 0 then ((nat_Nat_Shr.f k bt153.1 40).bind fun t170 => ((nat_Nat_Len.f k t170).bind fun t173 => (if t173 = 1 then ((nat_Nat_Mul.f k t101 t101).bind fun t174 => ((nat_Nat_Len.f k t174).bind fun t177 => (if t177 = 65 then ((nat_Nat_Add.f k t101 t101).bind fun t178 => ((nat_Nat_Len.f k t178).bind fun t181 => (some (t181 == 34)))) else (some false)))) else (some false)))) else (some false)) else (some false))) else (some false)) else (some false)))) else (some false)))) else (some false)) else (some false)) else (some false)) else (some false)) else (some false))) else (some false)) else (some false)) else (none)) else (some false))) else (some false)) else (none)) else (some false)) else (none)) else (some false))) = some true := H
  have A15 := Aside0.mk A150
  clear A150
  replace H := Option.bind_eq_some_iff.mp H
  obtain ⟨⟨t153, t156⟩, A160, H⟩ := H
  replace H : (if (t101.length : Int) = 2 then (if 0 < (t101.length : Int) then (if (rd t101 0) = 0 then (if 1 < (t101.length : Int) then (if (rd t101 1) = 1 then (if t113 = true then (some false) else (if (t114.length : Int) = 5 then (if 4 < (t114.length : Int) then (if (rd t114 4) = 1 then (if t117 = 0 then ((nat_Nat_Text.f k t118).bind fun t160 => (if t160.toList = ([49, 48, 48, 48] : List UInt8) then (if t121 = 0 then (if t125 = 20 then (if t135 = 6 then (if t136 = true then ((nat_New.f k 3).bind fun t161 => ((nat_Nat_Cmp.f k t143 t161).bind fun t164 => (if t164 = 0 then ((nat_New.f k 2).bind fun t165 => ((nat_Nat_Cmp.f k t146 t165).bind fun t168 => (if t168 = 0 then (if t149 = 0 then ((nat_Nat_Bit.f t153 40).bind fun t169 => (if t169 = 1 then (if t156 = 0 then ((nat_Nat_Shr.f k t153 40).bind fun t170 => ((nat_Nat_Len.f k t170).bind fun t173 => (if t173 = 1 then ((nat_Nat_Mul.f k t101 t101).bind fun t174 => ((nat_Nat_Len.f k t174).bind fun t177 => (if t177 = 65 then ((nat_Nat_Add.f k t101 t101).bind fun t178 => ((nat_Nat_Len.f k t178).bind fun t181 => (some (t181 == 34)))) else (some false)))) else (some false)))) else (some false)) else (some false))) else (some false)) else (some false)))) else (some false)))) else (some false)) else (some false)) else (some false)) else (some false)) else (some false))) else (some false)) else (some false)) else (none)) else (some false))) else (some false)) else (none)) else (some false)) else (none)) else (some false)) = some true := H
  have A16 := Aside0.mk A160
  clear A160
  by_cases c17 : (t101.length : Int) = 2
  · rw [if_pos c17] at H
    have c17b0 : ((t101.length : Int) == 2) = true := beq_iff_eq.mpr c17
    have c17b1 : ((t101.length : Int) != 2) = false := bne_eq_false_iff_eq.mpr c17
    clear c17
    by_cases c18 : 0 < (t101.length : Int)
    · rw [if_pos c18] at H
      have c18b0 : decide (0 < (t101.length : Int)) = true := decide_eq_true c18
      have c18b1 : decide (0 < t101.length) = true := decide_eq_true (by omega)
      clear c18
      by_cases c19 : (rd t101 0) = 0
      · rw [if_pos c19] at H
        have c19b0 : ((rd t101 0) == 0) = true := beq_iff_eq.mpr c19
        have c19b1 : ((rd t101 0) != 0) = false := bne_eq_false_iff_eq.mpr c19
        clear c19
        by_cases c20 : 1 < (t101.length : Int)
        · rw [if_pos c20] at H
          have c20b0 : decide (1 < (t101.length : Int)) = true := decide_eq_true c20
          have c20b1 : decide (1 < t101.length) = true := decide_eq_true (by omega)
          clear c20
          by_cases c21 : (rd t101 1) = 1
          · rw [if_pos c21] at H
            have c21b0 : ((rd t101 1) == 1) = true := beq_iff_eq.mpr c21
            have c21b1 : ((rd t101 1) != 1) = false := bne_eq_false_iff_eq.mpr c21
            clear c21
            by_cases c22 : t113 = true
            · subst c22
              have H1 : (some false) = some true := by rw [if_pos rfl] at H; first | done | exact H
              clear H
              have H := H1
              clear H1
              exact absurd H (by simp)
            · replace c22 := Bool.eq_false_iff.mpr c22
              subst c22
              have H1 : (if (t114.length : Int) = 5 then (if 4 < (t114.length : Int) then (if (rd t114 4) = 1 then (if t117 = 0 then ((nat_Nat_Text.f k t118).bind fun t160 => (if t160.toList = ([49, 48, 48, 48] : List UInt8) then (if t121 = 0 then (if t125 = 20 then (if t135 = 6 then (if t136 = true then ((nat_New.f k 3).bind fun t161 => ((nat_Nat_Cmp.f k t143 t161).bind fun t164 => (if t164 = 0 then ((nat_New.f k 2).bind fun t165 => ((nat_Nat_Cmp.f k t146 t165).bind fun t168 => (if t168 = 0 then (if t149 = 0 then ((nat_Nat_Bit.f t153 40).bind fun t169 => (if t169 = 1 then (if t156 = 0 then ((nat_Nat_Shr.f k t153 40).bind fun t170 => ((nat_Nat_Len.f k t170).bind fun t173 => (if t173 = 1 then ((nat_Nat_Mul.f k t101 t101).bind fun t174 => ((nat_Nat_Len.f k t174).bind fun t177 => (if t177 = 65 then ((nat_Nat_Add.f k t101 t101).bind fun t178 => ((nat_Nat_Len.f k t178).bind fun t181 => (some (t181 == 34)))) else (some false)))) else (some false)))) else (some false)) else (some false))) else (some false)) else (some false)))) else (some false)))) else (some false)) else (some false)) else (some false)) else (some false)) else (some false))) else (some false)) else (some false)) else (none)) else (some false)) = some true := by rw [if_neg (show ¬ (false = true) by decide)] at H; first | done | exact H
              clear H
              have H := H1
              clear H1
              by_cases c48 : (t114.length : Int) = 5
              · rw [if_pos c48] at H
                have c48b0 : ((t114.length : Int) == 5) = true := beq_iff_eq.mpr c48
                have c48b1 : ((t114.length : Int) != 5) = false := bne_eq_false_iff_eq.mpr c48
                clear c48
                by_cases c49 : 4 < (t114.length : Int)
                · rw [if_pos c49] at H
                  have c49b0 : decide (4 < (t114.length : Int)) = true := decide_eq_true c49
                  have c49b1 : decide (4 < t114.length) = true := decide_eq_true (by omega)
                  clear c49
                  by_cases c50 : (rd t114 4) = 1
                  · rw [if_pos c50] at H
                    have c50b0 : ((rd t114 4) == 1) = true := beq_iff_eq.mpr c50
                    have c50b1 : ((rd t114 4) != 1) = false := bne_eq_false_iff_eq.mpr c50
                    clear c50
                    by_cases c51 : t117 = 0
                    · rw [if_pos c51] at H
                      have c51b0 : (t117 == 0) = true := beq_iff_eq.mpr c51
                      have c51b1 : (t117 != 0) = false := bne_eq_false_iff_eq.mpr c51
                      clear c51
                      replace H := Option.bind_eq_some_iff.mp H
                      obtain ⟨t160, A520, H⟩ := H
                      replace H : (if t160.toList = ([49, 48, 48, 48] : List UInt8) then (if t121 = 0 then (if t125 = 20 then (if t135 = 6 then (if t136 = true then ((nat_New.f k 3).bind fun t161 => ((nat_Nat_Cmp.f k t143 t161).bind fun t164 => (if t164 = 0 then ((nat_New.f k 2).bind fun t165 => ((nat_Nat_Cmp.f k t146 t165).bind fun t168 => (if t168 = 0 then (if t149 = 0 then ((nat_Nat_Bit.f t153 40).bind fun t169 => (if t169 = 1 then (if t156 = 0 then ((nat_Nat_Shr.f k t153 40).bind fun t170 => ((nat_Nat_Len.f k t170).bind fun t173 => (if t173 = 1 then ((nat_Nat_Mul.f k t101 t101).bind fun t174 => ((nat_Nat_Len.f k t174).bind fun t177 => (if t177 = 65 then ((nat_Nat_Add.f k t101 t101).bind fun t178 => ((nat_Nat_Len.f k t178).bind fun t181 => (some (t181 == 34)))) else (some false)))) else (some false)))) else (some false)) else (some false))) else (some false)) else (some false)))) else (some false)))) else (some false)) else (some false)) else (some false)) else (some false)) else (some false)) = some true := H
                      have A52 := Aside0.mk A520
                      clear A520
                      by_cases c53 : t160.toList = ([49, 48, 48, 48] : List UInt8)
                      · rw [if_pos c53] at H
                        have c53b0 : (t160.toList == ([49, 48, 48, 48] : List UInt8)) = true := beq_iff_eq.mpr c53
                        have c53b1 : (t160.toList != ([49, 48, 48, 48] : List UInt8)) = false := bne_eq_false_iff_eq.mpr c53
                        clear c53
                        by_cases c54 : t121 = 0
                        · rw [if_pos c54] at H
                          have c54b0 : (t121 == 0) = true := beq_iff_eq.mpr c54
                          have c54b1 : (t121 != 0) = false := bne_eq_false_iff_eq.mpr c54
                          clear c54
                          by_cases c55 : t125 = 20
                          · rw [if_pos c55] at H
                            have c55b0 : (t125 == 20) = true := beq_iff_eq.mpr c55
                            have c55b1 : (t125 != 20) = false := bne_eq_false_iff_eq.mpr c55
                            clear c55
                            by_cases c56 : t135 = 6
                            · rw [if_pos c56] at H
                              have c56b0 : (t135 == 6) = true := beq_iff_eq.mpr c56
                              have c56b1 : (t135 != 6) = false := bne_eq_false_iff_eq.mpr c56
                              clear c56
                              by_cases c57 : t136 = true
                              · subst c57
                                have H1 : ((nat_New.f k 3).bind fun t161 => ((nat_Nat_Cmp.f k t143 t161).bind fun t164 => (if t164 = 0 then ((nat_New.f k 2).bind fun t165 => ((nat_Nat_Cmp.f k t146 t165).bind fun t168 => (if t168 = 0 then (if t149 = 0 then ((nat_Nat_Bit.f t153 40).bind fun t169 => (if t169 = 1 then (if t156 = 0 then ((nat_Nat_Shr.f k t153 40).bind fun t170 => ((nat_Nat_Len.f k t170).bind fun t173 => (if t173 = 1 then ((nat_Nat_Mul.f k t101 t101).bind fun t174 => ((nat_Nat_Len.f k t174).bind fun t177 => (if t177 = 65 then ((nat_Nat_Add.f k t101 t101).bind fun t178 => ((nat_Nat_Len.f k t178).bind fun t181 => (some (t181 == 34)))) else (some false)))) else (some false)))) else (some false)) else (some false))) else (some false)) else (some false)))) else (some false)))) = some true := by rw [if_pos rfl] at H; first | done | exact H
                                clear H
                                have H := H1
                                clear H1
                                replace H := Option.bind_eq_some_iff.mp H
                                obtain ⟨t161, A580, H⟩ := H
                                replace H : ((nat_Nat_Cmp.f k t143 t161).bind fun t164 => (if t164 = 0 then ((nat_New.f k 2).bind fun t165 => ((nat_Nat_Cmp.f k t146 t165).bind fun t168 => (if t168 = 0 then (if t149 = 0 then ((nat_Nat_Bit.f t153 40).bind fun t169 => (if t169 = 1 then (if t156 = 0 then ((nat_Nat_Shr.f k t153 40).bind fun t170 => ((nat_Nat_Len.f k t170).bind fun t173 => (if t173 = 1 then ((nat_Nat_Mul.f k t101 t101).bind fun t174 => ((nat_Nat_Len.f k t174).bind fun t177 => (if t177 = 65 then ((nat_Nat_Add.f k t101 t101).bind fun t178 => ((nat_Nat_Len.f k t178).bind fun t181 => (some (t181 == 34)))) else (some false)))) else (some false)))) else (some false)) else (some false))) else (some false)) else (some false)))) else (some false))) = some true := H
                                have A58 := Aside0.mk A580
                                clear A580
                                replace H := Option.bind_eq_some_iff.mp H
                                obtain ⟨t164, A590, H⟩ := H
                                replace H : (if t164 = 0 then ((nat_New.f k 2).bind fun t165 => ((nat_Nat_Cmp.f k t146 t165).bind fun t168 => (if t168 = 0 then (if t149 = 0 then ((nat_Nat_Bit.f t153 40).bind fun t169 => (if t169 = 1 then (if t156 = 0 then ((nat_Nat_Shr.f k t153 40).bind fun t170 => ((nat_Nat_Len.f k t170).bind fun t173 => (if t173 = 1 then ((nat_Nat_Mul.f k t101 t101).bind fun t174 => ((nat_Nat_Len.f k t174).bind fun t177 => (if t177 = 65 then ((nat_Nat_Add.f k t101 t101).bind fun t178 => ((nat_Nat_Len.f k t178).bind fun t181 => (some (t181 == 34)))) else (some false)))) else (some false)))) else (some false)) else (some false))) else (some false)) else (some false)))) else (some false)) = some true := H
                                have A59 := Aside0.mk A590
                                clear A590
                                by_cases c60 : t164 = 0
                                · rw [if_pos c60] at H
                                  have c60b0 : (t164 == 0) = true := beq_iff_eq.mpr c60
                                  have c60b1 : (t164 != 0) = false := bne_eq_false_iff_eq.mpr c60
                                  clear c60
                                  replace H := Option.bind_eq_some_iff.mp H
                                  obtain ⟨t165, A610, H⟩ := H
                                  replace H : ((nat_Nat_Cmp.f k t146 t165).bind fun t168 => (if t168 = 0 then (if t149 = 0 then ((nat_Nat_Bit.f t153 40).bind fun t169 => (if t169 = 1 then (if t156 = 0 then ((nat_Nat_Shr.f k t153 40).bind fun t170 => ((nat_Nat_Len.f k t170).bind fun t173 => (if t173 = 1 then ((nat_Nat_Mul.f k t101 t101).bind fun t174 => ((nat_Nat_Len.f k t174).bind fun t177 => (if t177 = 65 then ((nat_Nat_Add.f k t101 t101).bind fun t178 => ((nat_Nat_Len.f k t178).bind fun t181 => (some (t181 == 34)))) else (some false)))) else (some false)))) else (some false)) else (some false))) else (some false)) else (some false))) = some true := H
                                  have A61 := Aside0.mk A610
                                  clear A610
                                  replace H := Option.bind_eq_some_iff.mp H
                                  obtain ⟨t168, A620, H⟩ := H
                                  replace H : (if t168 = 0 then (if t149 = 0 then ((nat_Nat_Bit.f t153 40).bind fun t169 => (if t169 = 1 then (if t156 = 0 then ((nat_Nat_Shr.f k t153 40).bind fun t170 => ((nat_Nat_Len.f k t170).bind fun t173 => (if t173 = 1 then ((nat_Nat_Mul.f k t101 t101).bind fun t174 => ((nat_Nat_Len.f k t174).bind fun t177 => (if t177 = 65 then ((nat_Nat_Add.f k t101 t101).bind fun t178 => ((nat_Nat_Len.f k t178).bind fun t181 => (some (t181 == 34)))) else (some false)))) else (some false)))) else (some false)) else (some false))) else (some false)) else (some false)) = some true := H
                                  have A62 := Aside0.mk A620
                                  clear A620
                                  by_cases c63 : t168 = 0
                                  · rw [if_pos c63] at H
                                    have c63b0 : (t168 == 0) = true := beq_iff_eq.mpr c63
                                    have c63b1 : (t168 != 0) = false := bne_eq_false_iff_eq.mpr c63
                                    clear c63
                                    by_cases c64 : t149 = 0
                                    · rw [if_pos c64] at H
                                      have c64b0 : (t149 == 0) = true := beq_iff_eq.mpr c64
                                      have c64b1 : (t149 != 0) = false := bne_eq_false_iff_eq.mpr c64
                                      clear c64
                                      replace H := Option.bind_eq_some_iff.mp H
                                      obtain ⟨t169, A650, H⟩ := H
                                      replace H : (if t169 = 1 then (if t156 = 0 then ((nat_Nat_Shr.f k t153 40).bind fun t170 => ((nat_Nat_Len.f k t170).bind fun t173 => (if t173 = 1 then ((nat_Nat_Mul.f k t101 t101).bind fun t174 => ((nat_Nat_Len.f k t174).bind fun t177 => (if t177 = 65 then ((nat_Nat_Add.f k t101 t101).bind fun t178 => ((nat_Nat_Len.f k t178).bind fun t181 => (some (t181 == 34)))) else (some false)))) else (some false)))) else (some false)) else (some false)) = some true := H
                                      have A65 := Aside0.mk A650
                                      clear A650
                                      by_cases c66 : t169 = 1
                                      · rw [if_pos c66] at H
                                        have c66b0 : (t169 == 1) = true := beq_iff_eq.mpr c66
                                        have c66b1 : (t169 != 1) = false := bne_eq_false_iff_eq.mpr c66
                                        clear c66
                                        by_cases c67 : t156 = 0
                                        · rw [if_pos c67] at H
                                          have c67b0 : (t156 == 0) = true := beq_iff_eq.mpr c67
                                          have c67b1 : (t156 != 0) = false := bne_eq_false_iff_eq.mpr c67
                                          clear c67
                                          replace H := Option.bind_eq_some_iff.mp H
                                          obtain ⟨t170, A680, H⟩ := H
                                          replace H : ((nat_Nat_Len.f k t170).bind fun t173 => (if t173 = 1 then ((nat_Nat_Mul.f k t101 t101).bind fun t174 => ((nat_Nat_Len.f k t174).bind fun t177 => (if t177 = 65 then ((nat_Nat_Add.f k t101 t101).bind fun t178 => ((nat_Nat_Len.f k t178).bind fun t181 => (some (t181 == 34)))) else (some false)))) else (some false))) = some true := H
                                          have A68 := Aside0.mk A680
                                          clear A680
                                          replace H := Option.bind_eq_some_iff.mp H
                                          obtain ⟨t173, A690, H⟩ := H
                                          replace H : (if t173 = 1 then ((nat_Nat_Mul.f k t101 t101).bind fun t174 => ((nat_Nat_Len.f k t174).bind fun t177 => (if t177 = 65 then ((nat_Nat_Add.f k t101 t101).bind fun t178 => ((nat_Nat_Len.f k t178).bind fun t181 => (some (t181 == 34)))) else (some false)))) else (some false)) = some true := H
                                          have A69 := Aside0.mk A690
                                          clear A690
                                          by_cases c70 : t173 = 1
                                          · rw [if_pos c70] at H
                                            have c70b0 : (t173 == 1) = true := beq_iff_eq.mpr c70
                                            have c70b1 : (t173 != 1) = false := bne_eq_false_iff_eq.mpr c70
                                            clear c70
                                            replace H := Option.bind_eq_some_iff.mp H
                                            obtain ⟨t174, A710, H⟩ := H
                                            replace H : ((nat_Nat_Len.f k t174).bind fun t177 => (if t177 = 65 then ((nat_Nat_Add.f k t101 t101).bind fun t178 => ((nat_Nat_Len.f k t178).bind fun t181 => (some (t181 == 34)))) else (some false))) = some true := H
                                            have A71 := Aside0.mk A710
                                            clear A710
                                            replace H := Option.bind_eq_some_iff.mp H
                                            obtain ⟨t177, A720, H⟩ := H
                                            replace H : (if t177 = 65 then ((nat_Nat_Add.f k t101 t101).bind fun t178 => ((nat_Nat_Len.f k t178).bind fun t181 => (some (t181 == 34)))) else (some false)) = some true := H
                                            have A72 := Aside0.mk A720
                                            clear A720
                                            by_cases c73 : t177 = 65
                                            · rw [if_pos c73] at H
                                              have c73b0 : (t177 == 65) = true := beq_iff_eq.mpr c73
                                              have c73b1 : (t177 != 65) = false := bne_eq_false_iff_eq.mpr c73
                                              clear c73
                                              replace H := Option.bind_eq_some_iff.mp H
                                              obtain ⟨t178, A740, H⟩ := H
                                              replace H : ((nat_Nat_Len.f k t178).bind fun t181 => (some (t181 == 34))) = some true := H
                                              have A74 := Aside0.mk A740
                                              clear A740
                                              replace H := Option.bind_eq_some_iff.mp H
                                              obtain ⟨t181, A750, H⟩ := H
                                              replace H : (some (t181 == 34)) = some true := H
                                              have A75 := Aside0.mk A750
                                              clear A750
                                              have HT_ := Option.some.inj H
                                              clear H
                                              go_enter Try.func23, Try.ntmps23
                                              go_wp2_with (first | ((with_reducible refine gate_callee (f := 52) rfl ?_); refine goesL_ (some 17) rfl rfl Try.func52 (by kernel_rfl) rfl #[.int .u64 4294967296] rfl (by (try simp only [List.map_toArray, List.map_cons, List.map_nil]); first | done | rfl | (simp only [List.length_drop, List.length_take]; rfl)) ?_; (with_reducible refine (nat_New.calls k 4294967296 t101 _ A1.out).mono ?_); rintro e w76 ⟨v102, rfl, ho0, hb⟩; refine ⟨_, rfl, ?_⟩; have n0_ := Aside0.mk (Kd.V_lower (Kd.V_mono (ok' := fun k_ => True) ho0 (fun k_ hk_ => trivial)) (below_size (by repeat (first | (with_reducible first | exact HB.out | apply below_alloc | apply pw_below_drewN | apply below_drew1) | exact HB.out)))); have n1_ := Aside0.mk (below_step (by repeat (first | (with_reducible first | exact HB.out | apply below_alloc | apply pw_below_drewN | apply below_drew1) | exact HB.out)) hb); clear HB; have HO103 := n0_; have HB := n1_; clear n0_ n1_; (try clear hb); (try clear hb2); (try clear hk); (try clear hi); (try clear ho0)) | ((with_reducible refine gate_callee (f := 52) rfl ?_); refine goesL_ (some 19) rfl rfl Try.func52 (by kernel_rfl) rfl #[.int .u64 7] rfl (by (try simp only [List.map_toArray, List.map_cons, List.map_nil]); first | done | rfl | (simp only [List.length_drop, List.length_take]; rfl)) ?_; (with_reducible refine (nat_New.calls k 7 t104 _ A2.out).mono ?_); rintro e w77 ⟨v105, rfl, ho0, hb⟩; refine ⟨_, rfl, ?_⟩; have n0_ := Aside0.mk (Kd.V_below (by (with_reducible repeat (first | apply Kd.V_alloc | apply Kd.V_drewN | apply Kd.V_drew)); exact HO103.out) hb); have n1_ := Aside0.mk (Kd.V_lower (Kd.V_mono (ok' := fun k_ => True) ho0 (fun k_ hk_ => trivial)) (below_size (by repeat (first | (with_reducible first | exact HB.out | apply below_alloc | apply pw_below_drewN | apply below_drew1) | exact HB.out)))); have n2_ := Aside0.mk (below_step (by repeat (first | (with_reducible first | exact HB.out | apply below_alloc | apply pw_below_drewN | apply below_drew1) | exact HB.out)) hb); clear HO103; clear HB; have HO103 := n0_; have HO106 := n1_; have HB := n2_; clear n0_ n1_ n2_; (try clear hb); (try clear hb2); (try clear hk); (try clear hi); (try clear ho0)) | ((with_reducible refine gate_callee (f := 52) rfl ?_); refine goesL_ (some 20) rfl rfl Try.func52 (by kernel_rfl) rfl #[.int .u64 9] rfl (by (try simp only [List.map_toArray, List.map_cons, List.map_nil]); first | done | rfl | (simp only [List.length_drop, List.length_take]; rfl)) ?_; (with_reducible refine (nat_New.calls k 9 t107 _ A3.out).mono ?_); rintro e w78 ⟨v108, rfl, ho0, hb⟩; refine ⟨_, rfl, ?_⟩; have n0_ := Aside0.mk (Kd.V_below (by (with_reducible repeat (first | apply Kd.V_alloc | apply Kd.V_drewN | apply Kd.V_drew)); exact HO103.out) hb); have n1_ := Aside0.mk (Kd.V_below (by (with_reducible repeat (first | apply Kd.V_alloc | apply Kd.V_drewN | apply Kd.V_drew)); exact HO106.out) hb); have n2_ := Aside0.mk (Kd.V_lower (Kd.V_mono (ok' := fun k_ => True) ho0 (fun k_ hk_ => trivial)) (below_size (by repeat (first | (with_reducible first | exact HB.out | apply below_alloc | apply pw_below_drewN | apply below_drew1) | exact HB.out)))); have n3_ := Aside0.mk (below_step (by repeat (first | (with_reducible first | exact HB.out | apply below_alloc | apply pw_below_drewN | apply below_drew1) | exact HB.out)) hb); clear HO103; clear HO106; clear HB; have HO103 := n0_; have HO106 := n1_; have HO109 := n2_; have HB := n3_; clear n0_ n1_ n2_ n3_; (try clear hb); (try clear hb2); (try clear hk); (try clear hi); (try clear ho0); obtain ⟨Ao79, co79, eo79⟩ := Kd.V_slice HO106.out; subst eo79; obtain ⟨Ao80, co80, eo80⟩ := Kd.V_slice HO109.out; subst eo80) | ((with_reducible refine gate_callee (f := 32) rfl ?_); refine goesL_ (some 21) rfl rfl Try.func32 (by kernel_rfl) rfl #[.slice Ao79 t104.length co79, .slice Ao80 t107.length co80] rfl (by (try simp only [List.map_toArray, List.map_cons, List.map_nil]); first | done | rfl | (simp only [List.length_drop, List.length_take]; rfl)) ?_; (with_reducible refine (nat_Nat_Sub.calls k _ _ t104 _ _ t107 t110 false _ ?side1 ?side2 ?side3 ?side4 A4.out).mono ?_); (case side1 => repeat (first | exact (Kd.V_reads' HO106.out).2.2 | (with_reducible refine Kd.C_alloc ?_ _) | (with_reducible refine Kd.C_drewN ?_ _) | (with_reducible refine Kd.C_drew ?_))); (case side2 => exact (Kd.V_reads' HO106.out).2.1); (case side3 => repeat (first | exact (Kd.V_reads' HO109.out).2.2 | (with_reducible refine Kd.C_alloc ?_ _) | (with_reducible refine Kd.C_drewN ?_ _) | (with_reducible refine Kd.C_drew ?_))); (case side4 => exact (Kd.V_reads' HO109.out).2.1); rintro e w81 ⟨v111, rfl, ho0, hb⟩; refine ⟨_, rfl, ?_⟩; have n0_ := Aside0.mk (Kd.V_below (by (with_reducible repeat (first | apply Kd.V_alloc | apply Kd.V_drewN | apply Kd.V_drew)); exact HO103.out) hb); have n1_ := Aside0.mk (Kd.V_below (by (with_reducible repeat (first | apply Kd.V_alloc | apply Kd.V_drewN | apply Kd.V_drew)); exact HO106.out) hb); have n2_ := Aside0.mk (Kd.V_below (by (with_reducible repeat (first | apply Kd.V_alloc | apply Kd.V_drewN | apply Kd.V_drew)); exact HO109.out) hb); have n3_ := Aside0.mk (Kd.V_lower (Kd.V_mono (ok' := fun k_ => True) ho0 (fun k_ hk_ => trivial)) (below_size (by repeat (first | (with_reducible first | exact HB.out | apply below_alloc | apply pw_below_drewN | apply below_drew1) | exact HB.out)))); have n4_ := Aside0.mk (below_step (by repeat (first | (with_reducible first | exact HB.out | apply below_alloc | apply pw_below_drewN | apply below_drew1) | exact HB.out)) hb); clear HO103; clear HO106; clear HO109; clear HB; have HO103 := n0_; have HO106 := n1_; have HO109 := n2_; have HO112 := n3_; have HB := n4_; clear n0_ n1_ n2_ n3_ n4_; (try clear hb); (try clear hb2); (try clear hk); (try clear hi); (try clear ho0)) | ((with_reducible refine gate_callee (f := 47) rfl ?_); refine goesL_ (some 25) rfl rfl Try.func47 (by kernel_rfl) rfl #[.string (⟨#[48, 48, 51, 52, 48, 50, 56, 50, 51, 54, 54, 57, 50, 48, 57, 51, 56, 52, 54, 51, 52, 54, 51, 51, 55, 52, 54, 48, 55, 52, 51, 49, 55, 54, 56, 50, 49, 49, 52, 53, 54]⟩ : ByteArray)] rfl (by (try simp only [List.map_toArray, List.map_cons, List.map_nil]); first | done | rfl | (simp only [List.length_drop, List.length_take]; rfl)) ?_; (with_reducible refine (nat_Parse.calls k (⟨#[48, 48, 51, 52, 48, 50, 56, 50, 51, 54, 54, 57, 50, 48, 57, 51, 56, 52, 54, 51, 52, 54, 51, 51, 55, 52, 54, 48, 55, 52, 51, 49, 55, 54, 56, 50, 49, 49, 52, 53, 54]⟩ : ByteArray) t114 t117 _ A5.out).mono ?_); rintro e w82 ⟨v115, rfl, ho0, hb⟩; refine ⟨_, rfl, ?_⟩; have n0_ := Aside0.mk (Kd.V_below (by (with_reducible repeat (first | apply Kd.V_alloc | apply Kd.V_drewN | apply Kd.V_drew)); exact HO103.out) hb); have n1_ := Aside0.mk (Kd.V_below (by (with_reducible repeat (first | apply Kd.V_alloc | apply Kd.V_drewN | apply Kd.V_drew)); exact HO106.out) hb); have n2_ := Aside0.mk (Kd.V_below (by (with_reducible repeat (first | apply Kd.V_alloc | apply Kd.V_drewN | apply Kd.V_drew)); exact HO109.out) hb); have n3_ := Aside0.mk (Kd.V_below (by (with_reducible repeat (first | apply Kd.V_alloc | apply Kd.V_drewN | apply Kd.V_drew)); exact HO112.out) hb); have n4_ := Aside0.mk (Kd.V_lower (Kd.V_mono (ok' := fun k_ => True) ho0 (fun k_ hk_ => trivial)) (below_size (by repeat (first | (with_reducible first | exact HB.out | apply below_alloc | apply pw_below_drewN | apply below_drew1) | exact HB.out)))); have n5_ := Aside0.mk (below_step (by repeat (first | (with_reducible first | exact HB.out | apply below_alloc | apply pw_below_drewN | apply below_drew1) | exact HB.out)) hb); clear HO103; clear HO106; clear HO109; clear HO112; clear HB; have HO103 := n0_; have HO106 := n1_; have HO109 := n2_; have HO112 := n3_; have HO116 := n4_; have HB := n5_; clear n0_ n1_ n2_ n3_ n4_ n5_; (try clear hb); (try clear hb2); (try clear hk); (try clear hi); (try clear ho0)) | ((with_reducible refine gate_callee (f := 50) rfl ?_); refine goesL_ (some 29) rfl rfl Try.func50 (by kernel_rfl) rfl #[.int .u64 10, .int .i64 3] rfl (by (try simp only [List.map_toArray, List.map_cons, List.map_nil]); first | done | rfl | (simp only [List.length_drop, List.length_take]; rfl)) ?_; (with_reducible refine (nat_Pow.calls k 10 3 t118 t121 _ A6.out).mono ?_); rintro e w83 ⟨v119, rfl, ho0, hb⟩; refine ⟨_, rfl, ?_⟩; have n0_ := Aside0.mk (Kd.V_below (by (with_reducible repeat (first | apply Kd.V_alloc | apply Kd.V_drewN | apply Kd.V_drew)); exact HO103.out) hb); have n1_ := Aside0.mk (Kd.V_below (by (with_reducible repeat (first | apply Kd.V_alloc | apply Kd.V_drewN | apply Kd.V_drew)); exact HO106.out) hb); have n2_ := Aside0.mk (Kd.V_below (by (with_reducible repeat (first | apply Kd.V_alloc | apply Kd.V_drewN | apply Kd.V_drew)); exact HO109.out) hb); have n3_ := Aside0.mk (Kd.V_below (by (with_reducible repeat (first | apply Kd.V_alloc | apply Kd.V_drewN | apply Kd.V_drew)); exact HO112.out) hb); have n4_ := Aside0.mk (Kd.V_below (by (with_reducible repeat (first | apply Kd.V_alloc | apply Kd.V_drewN | apply Kd.V_drew)); exact HO116.out) hb); have n5_ := Aside0.mk (Kd.V_lower (Kd.V_mono (ok' := fun k_ => True) ho0 (fun k_ hk_ => trivial)) (below_size (by repeat (first | (with_reducible first | exact HB.out | apply below_alloc | apply pw_below_drewN | apply below_drew1) | exact HB.out)))); have n6_ := Aside0.mk (below_step (by repeat (first | (with_reducible first | exact HB.out | apply below_alloc | apply pw_below_drewN | apply below_drew1) | exact HB.out)) hb); clear HO103; clear HO106; clear HO109; clear HO112; clear HO116; clear HB; have HO103 := n0_; have HO106 := n1_; have HO109 := n2_; have HO112 := n3_; have HO116 := n4_; have HO120 := n5_; have HB := n6_; clear n0_ n1_ n2_ n3_ n4_ n5_ n6_; (try clear hb); (try clear hb2); (try clear hk); (try clear hi); (try clear ho0)) | ((with_reducible refine gate_callee (f := 50) rfl ?_); refine goesL_ (some 33) rfl rfl Try.func50 (by kernel_rfl) rfl #[.int .u64 2, .int .i64 65536] rfl (by (try simp only [List.map_toArray, List.map_cons, List.map_nil]); first | done | rfl | (simp only [List.length_drop, List.length_take]; rfl)) ?_; (with_reducible refine (nat_Pow.calls k 2 65536 t122 t125 _ A7.out).mono ?_); rintro e w84 ⟨v123, rfl, ho0, hb⟩; refine ⟨_, rfl, ?_⟩; have n0_ := Aside0.mk (Kd.V_below (by (with_reducible repeat (first | apply Kd.V_alloc | apply Kd.V_drewN | apply Kd.V_drew)); exact HO103.out) hb); have n1_ := Aside0.mk (Kd.V_below (by (with_reducible repeat (first | apply Kd.V_alloc | apply Kd.V_drewN | apply Kd.V_drew)); exact HO106.out) hb); have n2_ := Aside0.mk (Kd.V_below (by (with_reducible repeat (first | apply Kd.V_alloc | apply Kd.V_drewN | apply Kd.V_drew)); exact HO109.out) hb); have n3_ := Aside0.mk (Kd.V_below (by (with_reducible repeat (first | apply Kd.V_alloc | apply Kd.V_drewN | apply Kd.V_drew)); exact HO112.out) hb); have n4_ := Aside0.mk (Kd.V_below (by (with_reducible repeat (first | apply Kd.V_alloc | apply Kd.V_drewN | apply Kd.V_drew)); exact HO116.out) hb); have n5_ := Aside0.mk (Kd.V_below (by (with_reducible repeat (first | apply Kd.V_alloc | apply Kd.V_drewN | apply Kd.V_drew)); exact HO120.out) hb); have n6_ := Aside0.mk (Kd.V_lower (Kd.V_mono (ok' := fun k_ => True) ho0 (fun k_ hk_ => trivial)) (below_size (by repeat (first | (with_reducible first | exact HB.out | apply below_alloc | apply pw_below_drewN | apply below_drew1) | exact HB.out)))); have n7_ := Aside0.mk (below_step (by repeat (first | (with_reducible first | exact HB.out | apply below_alloc | apply pw_below_drewN | apply below_drew1) | exact HB.out)) hb); clear HO103; clear HO106; clear HO109; clear HO112; clear HO116; clear HO120; clear HB; have HO103 := n0_; have HO106 := n1_; have HO109 := n2_; have HO112 := n3_; have HO116 := n4_; have HO120 := n5_; have HO124 := n6_; have HB := n7_; clear n0_ n1_ n2_ n3_ n4_ n5_ n6_ n7_; (try clear hb); (try clear hb2); (try clear hk); (try clear hi); (try clear ho0)) | ((with_reducible refine gate_callee (f := 52) rfl ?_); refine goesL_ (some 37) rfl rfl Try.func52 (by kernel_rfl) rfl #[.int .u64 12] rfl (by (try simp only [List.map_toArray, List.map_cons, List.map_nil]); first | done | rfl | (simp only [List.length_drop, List.length_take]; rfl)) ?_; (with_reducible refine (nat_New.calls k 12 t126 _ A8.out).mono ?_); rintro e w85 ⟨v127, rfl, ho0, hb⟩; refine ⟨_, rfl, ?_⟩; have n0_ := Aside0.mk (Kd.V_below (by (with_reducible repeat (first | apply Kd.V_alloc | apply Kd.V_drewN | apply Kd.V_drew)); exact HO103.out) hb); have n1_ := Aside0.mk (Kd.V_below (by (with_reducible repeat (first | apply Kd.V_alloc | apply Kd.V_drewN | apply Kd.V_drew)); exact HO106.out) hb); have n2_ := Aside0.mk (Kd.V_below (by (with_reducible repeat (first | apply Kd.V_alloc | apply Kd.V_drewN | apply Kd.V_drew)); exact HO109.out) hb); have n3_ := Aside0.mk (Kd.V_below (by (with_reducible repeat (first | apply Kd.V_alloc | apply Kd.V_drewN | apply Kd.V_drew)); exact HO112.out) hb); have n4_ := Aside0.mk (Kd.V_below (by (with_reducible repeat (first | apply Kd.V_alloc | apply Kd.V_drewN | apply Kd.V_drew)); exact HO116.out) hb); have n5_ := Aside0.mk (Kd.V_below (by (with_reducible repeat (first | apply Kd.V_alloc | apply Kd.V_drewN | apply Kd.V_drew)); exact HO120.out) hb); have n6_ := Aside0.mk (Kd.V_below (by (with_reducible repeat (first | apply Kd.V_alloc | apply Kd.V_drewN | apply Kd.V_drew)); exact HO124.out) hb); have n7_ := Aside0.mk (Kd.V_lower (Kd.V_mono (ok' := fun k_ => True) ho0 (fun k_ hk_ => trivial)) (below_size (by repeat (first | (with_reducible first | exact HB.out | apply below_alloc | apply pw_below_drewN | apply below_drew1) | exact HB.out)))); have n8_ := Aside0.mk (below_step (by repeat (first | (with_reducible first | exact HB.out | apply below_alloc | apply pw_below_drewN | apply below_drew1) | exact HB.out)) hb); clear HO103; clear HO106; clear HO109; clear HO112; clear HO116; clear HO120; clear HO124; clear HB; have HO103 := n0_; have HO106 := n1_; have HO109 := n2_; have HO112 := n3_; have HO116 := n4_; have HO120 := n5_; have HO124 := n6_; have HO128 := n7_; have HB := n8_; clear n0_ n1_ n2_ n3_ n4_ n5_ n6_ n7_ n8_; (try clear hb); (try clear hb2); (try clear hk); (try clear hi); (try clear ho0)) | ((with_reducible refine gate_callee (f := 52) rfl ?_); refine goesL_ (some 38) rfl rfl Try.func52 (by kernel_rfl) rfl #[.int .u64 18] rfl (by (try simp only [List.map_toArray, List.map_cons, List.map_nil]); first | done | rfl | (simp only [List.length_drop, List.length_take]; rfl)) ?_; (with_reducible refine (nat_New.calls k 18 t129 _ A9.out).mono ?_); rintro e w86 ⟨v130, rfl, ho0, hb⟩; refine ⟨_, rfl, ?_⟩; have n0_ := Aside0.mk (Kd.V_below (by (with_reducible repeat (first | apply Kd.V_alloc | apply Kd.V_drewN | apply Kd.V_drew)); exact HO103.out) hb); have n1_ := Aside0.mk (Kd.V_below (by (with_reducible repeat (first | apply Kd.V_alloc | apply Kd.V_drewN | apply Kd.V_drew)); exact HO106.out) hb); have n2_ := Aside0.mk (Kd.V_below (by (with_reducible repeat (first | apply Kd.V_alloc | apply Kd.V_drewN | apply Kd.V_drew)); exact HO109.out) hb); have n3_ := Aside0.mk (Kd.V_below (by (with_reducible repeat (first | apply Kd.V_alloc | apply Kd.V_drewN | apply Kd.V_drew)); exact HO112.out) hb); have n4_ := Aside0.mk (Kd.V_below (by (with_reducible repeat (first | apply Kd.V_alloc | apply Kd.V_drewN | apply Kd.V_drew)); exact HO116.out) hb); have n5_ := Aside0.mk (Kd.V_below (by (with_reducible repeat (first | apply Kd.V_alloc | apply Kd.V_drewN | apply Kd.V_drew)); exact HO120.out) hb); have n6_ := Aside0.mk (Kd.V_below (by (with_reducible repeat (first | apply Kd.V_alloc | apply Kd.V_drewN | apply Kd.V_drew)); exact HO124.out) hb); have n7_ := Aside0.mk (Kd.V_below (by (with_reducible repeat (first | apply Kd.V_alloc | apply Kd.V_drewN | apply Kd.V_drew)); exact HO128.out) hb); have n8_ := Aside0.mk (Kd.V_lower (Kd.V_mono (ok' := fun k_ => True) ho0 (fun k_ hk_ => trivial)) (below_size (by repeat (first | (with_reducible first | exact HB.out | apply below_alloc | apply pw_below_drewN | apply below_drew1) | exact HB.out)))); have n9_ := Aside0.mk (below_step (by repeat (first | (with_reducible first | exact HB.out | apply below_alloc | apply pw_below_drewN | apply below_drew1) | exact HB.out)) hb); clear HO103; clear HO106; clear HO109; clear HO112; clear HO116; clear HO120; clear HO124; clear HO128; clear HB; have HO103 := n0_; have HO106 := n1_; have HO109 := n2_; have HO112 := n3_; have HO116 := n4_; have HO120 := n5_; have HO124 := n6_; have HO128 := n7_; have HO131 := n8_; have HB := n9_; clear n0_ n1_ n2_ n3_ n4_ n5_ n6_ n7_ n8_ n9_; (try clear hb); (try clear hb2); (try clear hk); (try clear hi); (try clear ho0); obtain ⟨Ao87, co87, eo87⟩ := Kd.V_slice HO128.out; subst eo87; obtain ⟨Ao88, co88, eo88⟩ := Kd.V_slice HO131.out; subst eo88) | ((with_reducible refine gate_callee (f := 35) rfl ?_); refine goesL_ (some 39) rfl rfl Try.func35 (by kernel_rfl) rfl #[.slice Ao87 t126.length co87, .slice Ao88 t129.length co88] rfl (by (try simp only [List.map_toArray, List.map_cons, List.map_nil]); first | done | rfl | (simp only [List.length_drop, List.length_take]; rfl)) ?_; (with_reducible refine (nat_Nat_Gcd.calls k (fun k_ => True) _ _ t126 (fun k_ => True) _ _ t129 t132 _ ?side1 ?side2 A10.out).mono ?_); (case side1 => exact HO128.out); (case side2 => exact HO131.out); rintro e w89 ⟨v133, rfl, ho0, hb⟩; refine ⟨_, rfl, ?_⟩; have n0_ := Aside0.mk (Kd.V_below (by (with_reducible repeat (first | apply Kd.V_alloc | apply Kd.V_drewN | apply Kd.V_drew)); exact HO103.out) hb); have n1_ := Aside0.mk (Kd.V_below (by (with_reducible repeat (first | apply Kd.V_alloc | apply Kd.V_drewN | apply Kd.V_drew)); exact HO106.out) hb); have n2_ := Aside0.mk (Kd.V_below (by (with_reducible repeat (first | apply Kd.V_alloc | apply Kd.V_drewN | apply Kd.V_drew)); exact HO109.out) hb); have n3_ := Aside0.mk (Kd.V_below (by (with_reducible repeat (first | apply Kd.V_alloc | apply Kd.V_drewN | apply Kd.V_drew)); exact HO112.out) hb); have n4_ := Aside0.mk (Kd.V_below (by (with_reducible repeat (first | apply Kd.V_alloc | apply Kd.V_drewN | apply Kd.V_drew)); exact HO116.out) hb); have n5_ := Aside0.mk (Kd.V_below (by (with_reducible repeat (first | apply Kd.V_alloc | apply Kd.V_drewN | apply Kd.V_drew)); exact HO120.out) hb); have n6_ := Aside0.mk (Kd.V_below (by (with_reducible repeat (first | apply Kd.V_alloc | apply Kd.V_drewN | apply Kd.V_drew)); exact HO124.out) hb); have n7_ := Aside0.mk (Kd.V_below (by (with_reducible repeat (first | apply Kd.V_alloc | apply Kd.V_drewN | apply Kd.V_drew)); exact HO128.out) hb); have n8_ := Aside0.mk (Kd.V_below (by (with_reducible repeat (first | apply Kd.V_alloc | apply Kd.V_drewN | apply Kd.V_drew)); exact HO131.out) hb); have n9_ := Aside0.mk (Kd.V_lower (Kd.V_mono (ok' := fun k_ => True) ho0 (fun k_ hk_ => trivial)) (below_size (by repeat (first | (with_reducible first | exact HB.out | apply below_alloc | apply pw_below_drewN | apply below_drew1) | exact HB.out)))); have n10_ := Aside0.mk (below_step (by repeat (first | (with_reducible first | exact HB.out | apply below_alloc | apply pw_below_drewN | apply below_drew1) | exact HB.out)) hb); clear HO103; clear HO106; clear HO109; clear HO112; clear HO116; clear HO120; clear HO124; clear HO128; clear HO131; clear HB; have HO103 := n0_; have HO106 := n1_; have HO109 := n2_; have HO112 := n3_; have HO116 := n4_; have HO120 := n5_; have HO124 := n6_; have HO128 := n7_; have HO131 := n8_; have HO134 := n9_; have HB := n10_; clear n0_ n1_ n2_ n3_ n4_ n5_ n6_ n7_ n8_ n9_ n10_; (try clear hb); (try clear hb2); (try clear hk); (try clear hi); (try clear ho0); obtain ⟨Ao90, co90, eo90⟩ := Kd.V_slice HO134.out; subst eo90) | ((with_reducible refine gate_callee (f := 41) rfl ?_); refine goesL_ (some 40) rfl rfl Try.func41 (by kernel_rfl) rfl #[.slice Ao90 t132.length co90] rfl (by (try simp only [List.map_toArray, List.map_cons, List.map_nil]); first | done | rfl | (simp only [List.length_drop, List.length_take]; rfl)) ?_; (with_reducible refine (nat_Nat_Uint.calls k _ _ t132 t135 true _ ?side1 ?side2 A11.out).mono ?_); (case side1 => repeat (first | exact (Kd.V_reads' HO134.out).2.2 | (with_reducible refine Kd.C_alloc ?_ _) | (with_reducible refine Kd.C_drewN ?_ _) | (with_reducible refine Kd.C_drew ?_))); (case side2 => exact (Kd.V_reads' HO134.out).2.1); rintro e w91 ⟨rfl, hb⟩; refine ⟨_, rfl, ?_⟩; have n0_ := Aside0.mk (Kd.V_below (by (with_reducible repeat (first | apply Kd.V_alloc | apply Kd.V_drewN | apply Kd.V_drew)); exact HO103.out) hb); have n1_ := Aside0.mk (Kd.V_below (by (with_reducible repeat (first | apply Kd.V_alloc | apply Kd.V_drewN | apply Kd.V_drew)); exact HO106.out) hb); have n2_ := Aside0.mk (Kd.V_below (by (with_reducible repeat (first | apply Kd.V_alloc | apply Kd.V_drewN | apply Kd.V_drew)); exact HO109.out) hb); have n3_ := Aside0.mk (Kd.V_below (by (with_reducible repeat (first | apply Kd.V_alloc | apply Kd.V_drewN | apply Kd.V_drew)); exact HO112.out) hb); have n4_ := Aside0.mk (Kd.V_below (by (with_reducible repeat (first | apply Kd.V_alloc | apply Kd.V_drewN | apply Kd.V_drew)); exact HO116.out) hb); have n5_ := Aside0.mk (Kd.V_below (by (with_reducible repeat (first | apply Kd.V_alloc | apply Kd.V_drewN | apply Kd.V_drew)); exact HO120.out) hb); have n6_ := Aside0.mk (Kd.V_below (by (with_reducible repeat (first | apply Kd.V_alloc | apply Kd.V_drewN | apply Kd.V_drew)); exact HO124.out) hb); have n7_ := Aside0.mk (Kd.V_below (by (with_reducible repeat (first | apply Kd.V_alloc | apply Kd.V_drewN | apply Kd.V_drew)); exact HO128.out) hb); have n8_ := Aside0.mk (Kd.V_below (by (with_reducible repeat (first | apply Kd.V_alloc | apply Kd.V_drewN | apply Kd.V_drew)); exact HO131.out) hb); have n9_ := Aside0.mk (Kd.V_below (by (with_reducible repeat (first | apply Kd.V_alloc | apply Kd.V_drewN | apply Kd.V_drew)); exact HO134.out) hb); have n10_ := Aside0.mk (below_step (by repeat (first | (with_reducible first | exact HB.out | apply below_alloc | apply pw_below_drewN | apply below_drew1) | exact HB.out)) hb); clear HO103; clear HO106; clear HO109; clear HO112; clear HO116; clear HO120; clear HO124; clear HO128; clear HO131; clear HO134; clear HB; have HO103 := n0_; have HO106 := n1_; have HO109 := n2_; have HO112 := n3_; have HO116 := n4_; have HO120 := n5_; have HO124 := n6_; have HO128 := n7_; have HO131 := n8_; have HO134 := n9_; have HB := n10_; clear n0_ n1_ n2_ n3_ n4_ n5_ n6_ n7_ n8_ n9_ n10_; (try clear hb); (try clear hb2); (try clear hk); (try clear hi)) | ((with_reducible refine gate_callee (f := 52) rfl ?_); refine goesL_ (some 44) rfl rfl Try.func52 (by kernel_rfl) rfl #[.int .u64 17] rfl (by (try simp only [List.map_toArray, List.map_cons, List.map_nil]); first | done | rfl | (simp only [List.length_drop, List.length_take]; rfl)) ?_; (with_reducible refine (nat_New.calls k 17 t137 _ A12.out).mono ?_); rintro e w92 ⟨v138, rfl, ho0, hb⟩; refine ⟨_, rfl, ?_⟩; have n0_ := Aside0.mk (Kd.V_below (by (with_reducible repeat (first | apply Kd.V_alloc | apply Kd.V_drewN | apply Kd.V_drew)); exact HO103.out) hb); have n1_ := Aside0.mk (Kd.V_below (by (with_reducible repeat (first | apply Kd.V_alloc | apply Kd.V_drewN | apply Kd.V_drew)); exact HO106.out) hb); have n2_ := Aside0.mk (Kd.V_below (by (with_reducible repeat (first | apply Kd.V_alloc | apply Kd.V_drewN | apply Kd.V_drew)); exact HO109.out) hb); have n3_ := Aside0.mk (Kd.V_below (by (with_reducible repeat (first | apply Kd.V_alloc | apply Kd.V_drewN | apply Kd.V_drew)); exact HO112.out) hb); have n4_ := Aside0.mk (Kd.V_below (by (with_reducible repeat (first | apply Kd.V_alloc | apply Kd.V_drewN | apply Kd.V_drew)); exact HO116.out) hb); have n5_ := Aside0.mk (Kd.V_below (by (with_reducible repeat (first | apply Kd.V_alloc | apply Kd.V_drewN | apply Kd.V_drew)); exact HO120.out) hb); have n6_ := Aside0.mk (Kd.V_below (by (with_reducible repeat (first | apply Kd.V_alloc | apply Kd.V_drewN | apply Kd.V_drew)); exact HO124.out) hb); have n7_ := Aside0.mk (Kd.V_below (by (with_reducible repeat (first | apply Kd.V_alloc | apply Kd.V_drewN | apply Kd.V_drew)); exact HO128.out) hb); have n8_ := Aside0.mk (Kd.V_below (by (with_reducible repeat (first | apply Kd.V_alloc | apply Kd.V_drewN | apply Kd.V_drew)); exact HO131.out) hb); have n9_ := Aside0.mk (Kd.V_below (by (with_reducible repeat (first | apply Kd.V_alloc | apply Kd.V_drewN | apply Kd.V_drew)); exact HO134.out) hb); have n10_ := Aside0.mk (Kd.V_lower (Kd.V_mono (ok' := fun k_ => True) ho0 (fun k_ hk_ => trivial)) (below_size (by repeat (first | (with_reducible first | exact HB.out | apply below_alloc | apply pw_below_drewN | apply below_drew1) | exact HB.out)))); have n11_ := Aside0.mk (below_step (by repeat (first | (with_reducible first | exact HB.out | apply below_alloc | apply pw_below_drewN | apply below_drew1) | exact HB.out)) hb); clear HO103; clear HO106; clear HO109; clear HO112; clear HO116; clear HO120; clear HO124; clear HO128; clear HO131; clear HO134; clear HB; have HO103 := n0_; have HO106 := n1_; have HO109 := n2_; have HO112 := n3_; have HO116 := n4_; have HO120 := n5_; have HO124 := n6_; have HO128 := n7_; have HO131 := n8_; have HO134 := n9_; have HO139 := n10_; have HB := n11_; clear n0_ n1_ n2_ n3_ n4_ n5_ n6_ n7_ n8_ n9_ n10_ n11_; (try clear hb); (try clear hb2); (try clear hk); (try clear hi); (try clear ho0)) | ((with_reducible refine gate_callee (f := 52) rfl ?_); refine goesL_ (some 45) rfl rfl Try.func52 (by kernel_rfl) rfl #[.int .u64 5] rfl (by (try simp only [List.map_toArray, List.map_cons, List.map_nil]); first | done | rfl | (simp only [List.length_drop, List.length_take]; rfl)) ?_; (with_reducible refine (nat_New.calls k 5 t140 _ A13.out).mono ?_); rintro e w93 ⟨v141, rfl, ho0, hb⟩; refine ⟨_, rfl, ?_⟩; have n0_ := Aside0.mk (Kd.V_below (by (with_reducible repeat (first | apply Kd.V_alloc | apply Kd.V_drewN | apply Kd.V_drew)); exact HO103.out) hb); have n1_ := Aside0.mk (Kd.V_below (by (with_reducible repeat (first | apply Kd.V_alloc | apply Kd.V_drewN | apply Kd.V_drew)); exact HO106.out) hb); have n2_ := Aside0.mk (Kd.V_below (by (with_reducible repeat (first | apply Kd.V_alloc | apply Kd.V_drewN | apply Kd.V_drew)); exact HO109.out) hb); have n3_ := Aside0.mk (Kd.V_below (by (with_reducible repeat (first | apply Kd.V_alloc | apply Kd.V_drewN | apply Kd.V_drew)); exact HO112.out) hb); have n4_ := Aside0.mk (Kd.V_below (by (with_reducible repeat (first | apply Kd.V_alloc | apply Kd.V_drewN | apply Kd.V_drew)); exact HO116.out) hb); have n5_ := Aside0.mk (Kd.V_below (by (with_reducible repeat (first | apply Kd.V_alloc | apply Kd.V_drewN | apply Kd.V_drew)); exact HO120.out) hb); have n6_ := Aside0.mk (Kd.V_below (by (with_reducible repeat (first | apply Kd.V_alloc | apply Kd.V_drewN | apply Kd.V_drew)); exact HO124.out) hb); have n7_ := Aside0.mk (Kd.V_below (by (with_reducible repeat (first | apply Kd.V_alloc | apply Kd.V_drewN | apply Kd.V_drew)); exact HO128.out) hb); have n8_ := Aside0.mk (Kd.V_below (by (with_reducible repeat (first | apply Kd.V_alloc | apply Kd.V_drewN | apply Kd.V_drew)); exact HO131.out) hb); have n9_ := Aside0.mk (Kd.V_below (by (with_reducible repeat (first | apply Kd.V_alloc | apply Kd.V_drewN | apply Kd.V_drew)); exact HO134.out) hb); have n10_ := Aside0.mk (Kd.V_below (by (with_reducible repeat (first | apply Kd.V_alloc | apply Kd.V_drewN | apply Kd.V_drew)); exact HO139.out) hb); have n11_ := Aside0.mk (Kd.V_lower (Kd.V_mono (ok' := fun k_ => True) ho0 (fun k_ hk_ => trivial)) (below_size (by repeat (first | (with_reducible first | exact HB.out | apply below_alloc | apply pw_below_drewN | apply below_drew1) | exact HB.out)))); have n12_ := Aside0.mk (below_step (by repeat (first | (with_reducible first | exact HB.out | apply below_alloc | apply pw_below_drewN | apply below_drew1) | exact HB.out)) hb); clear HO103; clear HO106; clear HO109; clear HO112; clear HO116; clear HO120; clear HO124; clear HO128; clear HO131; clear HO134; clear HO139; clear HB; have HO103 := n0_; have HO106 := n1_; have HO109 := n2_; have HO112 := n3_; have HO116 := n4_; have HO120 := n5_; have HO124 := n6_; have HO128 := n7_; have HO131 := n8_; have HO134 := n9_; have HO139 := n10_; have HO142 := n11_; have HB := n12_; clear n0_ n1_ n2_ n3_ n4_ n5_ n6_ n7_ n8_ n9_ n10_ n11_ n12_; (try clear hb); (try clear hb2); (try clear hk); (try clear hi); (try clear ho0); obtain ⟨Ao94, co94, eo94⟩ := Kd.V_slice HO139.out; subst eo94; obtain ⟨Ao95, co95, eo95⟩ := Kd.V_slice HO142.out; subst eo95) | ((with_reducible refine gate_callee (f := 37) rfl ?_); refine goesL_ (some 46) rfl rfl Try.func37 (by kernel_rfl) rfl #[.slice Ao94 t137.length co94, .slice Ao95 t140.length co95] rfl (by (try simp only [List.map_toArray, List.map_cons, List.map_nil]); first | done | rfl | (simp only [List.length_drop, List.length_take]; rfl)) ?_; (with_reducible refine (nat_Nat_Div.calls k (fun k_ => True) _ _ t137 (fun k_ => True) _ _ t140 t143 t146 t149 _ ?side1 ?side2 A14.out).mono ?_); (case side1 => exact HO139.out); (case side2 => exact HO142.out); rintro e w96 ⟨v144, v147, rfl, ho0, ho1, hb⟩; refine ⟨_, rfl, ?_⟩; have n0_ := Aside0.mk (Kd.V_below (by (with_reducible repeat (first | apply Kd.V_alloc | apply Kd.V_drewN | apply Kd.V_drew)); exact HO103.out) hb); have n1_ := Aside0.mk (Kd.V_below (by (with_reducible repeat (first | apply Kd.V_alloc | apply Kd.V_drewN | apply Kd.V_drew)); exact HO106.out) hb); have n2_ := Aside0.mk (Kd.V_below (by (with_reducible repeat (first | apply Kd.V_alloc | apply Kd.V_drewN | apply Kd.V_drew)); exact HO109.out) hb); have n3_ := Aside0.mk (Kd.V_below (by (with_reducible repeat (first | apply Kd.V_alloc | apply Kd.V_drewN | apply Kd.V_drew)); exact HO112.out) hb); have n4_ := Aside0.mk (Kd.V_below (by (with_reducible repeat (first | apply Kd.V_alloc | apply Kd.V_drewN | apply Kd.V_drew)); exact HO116.out) hb); have n5_ := Aside0.mk (Kd.V_below (by (with_reducible repeat (first | apply Kd.V_alloc | apply Kd.V_drewN | apply Kd.V_drew)); exact HO120.out) hb); have n6_ := Aside0.mk (Kd.V_below (by (with_reducible repeat (first | apply Kd.V_alloc | apply Kd.V_drewN | apply Kd.V_drew)); exact HO124.out) hb); have n7_ := Aside0.mk (Kd.V_below (by (with_reducible repeat (first | apply Kd.V_alloc | apply Kd.V_drewN | apply Kd.V_drew)); exact HO128.out) hb); have n8_ := Aside0.mk (Kd.V_below (by (with_reducible repeat (first | apply Kd.V_alloc | apply Kd.V_drewN | apply Kd.V_drew)); exact HO131.out) hb); have n9_ := Aside0.mk (Kd.V_below (by (with_reducible repeat (first | apply Kd.V_alloc | apply Kd.V_drewN | apply Kd.V_drew)); exact HO134.out) hb); have n10_ := Aside0.mk (Kd.V_below (by (with_reducible repeat (first | apply Kd.V_alloc | apply Kd.V_drewN | apply Kd.V_drew)); exact HO139.out) hb); have n11_ := Aside0.mk (Kd.V_below (by (with_reducible repeat (first | apply Kd.V_alloc | apply Kd.V_drewN | apply Kd.V_drew)); exact HO142.out) hb); have n12_ := Aside0.mk (Kd.V_lower (Kd.V_mono (ok' := fun k_ => True) ho0 (fun k_ hk_ => trivial)) (below_size (by repeat (first | (with_reducible first | exact HB.out | apply below_alloc | apply pw_below_drewN | apply below_drew1) | exact HB.out)))); have n13_ := Aside0.mk (Kd.V_lower (Kd.V_mono (ok' := fun k_ => True) ho1 (fun k_ hk_ => trivial)) (below_size (by repeat (first | (with_reducible first | exact HB.out | apply below_alloc | apply pw_below_drewN | apply below_drew1) | exact HB.out)))); have n14_ := Aside0.mk (below_step (by repeat (first | (with_reducible first | exact HB.out | apply below_alloc | apply pw_below_drewN | apply below_drew1) | exact HB.out)) hb); clear HO103; clear HO106; clear HO109; clear HO112; clear HO116; clear HO120; clear HO124; clear HO128; clear HO131; clear HO134; clear HO139; clear HO142; clear HB; have HO103 := n0_; have HO106 := n1_; have HO109 := n2_; have HO112 := n3_; have HO116 := n4_; have HO120 := n5_; have HO124 := n6_; have HO128 := n7_; have HO131 := n8_; have HO134 := n9_; have HO139 := n10_; have HO142 := n11_; have HO145 := n12_; have HO148 := n13_; have HB := n14_; clear n0_ n1_ n2_ n3_ n4_ n5_ n6_ n7_ n8_ n9_ n10_ n11_ n12_ n13_ n14_; (try clear hb); (try clear hb2); (try clear hk); (try clear hi); (try clear ho0); (try clear ho1)) | ((with_reducible refine gate_callee (f := 52) rfl ?_); refine goesL_ (some 51) rfl rfl Try.func52 (by kernel_rfl) rfl #[.int .u64 1] rfl (by (try simp only [List.map_toArray, List.map_cons, List.map_nil]); first | done | rfl | (simp only [List.length_drop, List.length_take]; rfl)) ?_; (with_reducible refine (nat_New.calls k 1 t150 _ A15.out).mono ?_); rintro e w97 ⟨v151, rfl, ho0, hb⟩; refine ⟨_, rfl, ?_⟩; have n0_ := Aside0.mk (Kd.V_below (by (with_reducible repeat (first | apply Kd.V_alloc | apply Kd.V_drewN | apply Kd.V_drew)); exact HO103.out) hb); have n1_ := Aside0.mk (Kd.V_below (by (with_reducible repeat (first | apply Kd.V_alloc | apply Kd.V_drewN | apply Kd.V_drew)); exact HO106.out) hb); have n2_ := Aside0.mk (Kd.V_below (by (with_reducible repeat (first | apply Kd.V_alloc | apply Kd.V_drewN | apply Kd.V_drew)); exact HO109.out) hb); have n3_ := Aside0.mk (Kd.V_below (by (with_reducible repeat (first | apply Kd.V_alloc | apply Kd.V_drewN | apply Kd.V_drew)); exact HO112.out) hb); have n4_ := Aside0.mk (Kd.V_below (by (with_reducible repeat (first | apply Kd.V_alloc | apply Kd.V_drewN | apply Kd.V_drew)); exact HO116.out) hb); have n5_ := Aside0.mk (Kd.V_below (by (with_reducible repeat (first | apply Kd.V_alloc | apply Kd.V_drewN | apply Kd.V_drew)); exact HO120.out) hb); have n6_ := Aside0.mk (Kd.V_below (by (with_reducible repeat (first | apply Kd.V_alloc | apply Kd.V_drewN | apply Kd.V_drew)); exact HO124.out) hb); have n7_ := Aside0.mk (Kd.V_below (by (with_reducible repeat (first | apply Kd.V_alloc | apply Kd.V_drewN | apply Kd.V_drew)); exact HO128.out) hb); have n8_ := Aside0.mk (Kd.V_below (by (with_reducible repeat (first | apply Kd.V_alloc | apply Kd.V_drewN | apply Kd.V_drew)); exact HO131.out) hb); have n9_ := Aside0.mk (Kd.V_below (by (with_reducible repeat (first | apply Kd.V_alloc | apply Kd.V_drewN | apply Kd.V_drew)); exact HO134.out) hb); have n10_ := Aside0.mk (Kd.V_below (by (with_reducible repeat (first | apply Kd.V_alloc | apply Kd.V_drewN | apply Kd.V_drew)); exact HO139.out) hb); have n11_ := Aside0.mk (Kd.V_below (by (with_reducible repeat (first | apply Kd.V_alloc | apply Kd.V_drewN | apply Kd.V_drew)); exact HO142.out) hb); have n12_ := Aside0.mk (Kd.V_below (by (with_reducible repeat (first | apply Kd.V_alloc | apply Kd.V_drewN | apply Kd.V_drew)); exact HO145.out) hb); have n13_ := Aside0.mk (Kd.V_below (by (with_reducible repeat (first | apply Kd.V_alloc | apply Kd.V_drewN | apply Kd.V_drew)); exact HO148.out) hb); have n14_ := Aside0.mk (Kd.V_lower (Kd.V_mono (ok' := fun k_ => True) ho0 (fun k_ hk_ => trivial)) (below_size (by repeat (first | (with_reducible first | exact HB.out | apply below_alloc | apply pw_below_drewN | apply below_drew1) | exact HB.out)))); have n15_ := Aside0.mk (below_step (by repeat (first | (with_reducible first | exact HB.out | apply below_alloc | apply pw_below_drewN | apply below_drew1) | exact HB.out)) hb); clear HO103; clear HO106; clear HO109; clear HO112; clear HO116; clear HO120; clear HO124; clear HO128; clear HO131; clear HO134; clear HO139; clear HO142; clear HO145; clear HO148; clear HB; have HO103 := n0_; have HO106 := n1_; have HO109 := n2_; have HO112 := n3_; have HO116 := n4_; have HO120 := n5_; have HO124 := n6_; have HO128 := n7_; have HO131 := n8_; have HO134 := n9_; have HO139 := n10_; have HO142 := n11_; have HO145 := n12_; have HO148 := n13_; have HO152 := n14_; have HB := n15_; clear n0_ n1_ n2_ n3_ n4_ n5_ n6_ n7_ n8_ n9_ n10_ n11_ n12_ n13_ n14_ n15_; (try clear hb); (try clear hb2); (try clear hk); (try clear hi); (try clear ho0); obtain ⟨Ao98, co98, eo98⟩ := Kd.V_slice HO152.out; subst eo98) | ((with_reducible refine gate_callee (f := 44) rfl ?_); refine goesL_ (some 52) rfl rfl Try.func44 (by kernel_rfl) rfl #[.slice Ao98 t150.length co98, .int .i64 40] rfl (by (try simp only [List.map_toArray, List.map_cons, List.map_nil]); first | done | rfl | (simp only [List.length_drop, List.length_take]; rfl)) ?_; (with_reducible refine (nat_Nat_Shl.calls k _ _ t150 40 t153 t156 _ ?side1 ?side2 A16.out).mono ?_); (case side1 => repeat (first | exact (Kd.V_reads' HO152.out).2.2 | (with_reducible refine Kd.C_alloc ?_ _) | (with_reducible refine Kd.C_drewN ?_ _) | (with_reducible refine Kd.C_drew ?_))); (case side2 => exact (Kd.V_reads' HO152.out).2.1); rintro e w99 ⟨v154, rfl, ho0, hb⟩; refine ⟨_, rfl, ?_⟩; have n0_ := Aside0.mk (Kd.V_below (by (with_reducible repeat (first | apply Kd.V_alloc | apply Kd.V_drewN | apply Kd.V_drew)); exact HO103.out) hb); have n1_ := Aside0.mk (Kd.V_below (by (with_reducible repeat (first | apply Kd.V_alloc | apply Kd.V_drewN | apply Kd.V_drew)); exact HO106.out) hb); have n2_ := Aside0.mk (Kd.V_below (by (with_reducible repeat (first | apply Kd.V_alloc | apply Kd.V_drewN | apply Kd.V_drew)); exact HO109.out) hb); have n3_ := Aside0.mk (Kd.V_below (by (with_reducible repeat (first | apply Kd.V_alloc | apply Kd.V_drewN | apply Kd.V_drew)); exact HO112.out) hb); have n4_ := Aside0.mk (Kd.V_below (by (with_reducible repeat (first | apply Kd.V_alloc | apply Kd.V_drewN | apply Kd.V_drew)); exact HO116.out) hb); have n5_ := Aside0.mk (Kd.V_below (by (with_reducible repeat (first | apply Kd.V_alloc | apply Kd.V_drewN | apply Kd.V_drew)); exact HO120.out) hb); have n6_ := Aside0.mk (Kd.V_below (by (with_reducible repeat (first | apply Kd.V_alloc | apply Kd.V_drewN | apply Kd.V_drew)); exact HO124.out) hb); have n7_ := Aside0.mk (Kd.V_below (by (with_reducible repeat (first | apply Kd.V_alloc | apply Kd.V_drewN | apply Kd.V_drew)); exact HO128.out) hb); have n8_ := Aside0.mk (Kd.V_below (by (with_reducible repeat (first | apply Kd.V_alloc | apply Kd.V_drewN | apply Kd.V_drew)); exact HO131.out) hb); have n9_ := Aside0.mk (Kd.V_below (by (with_reducible repeat (first | apply Kd.V_alloc | apply Kd.V_drewN | apply Kd.V_drew)); exact HO134.out) hb); have n10_ := Aside0.mk (Kd.V_below (by (with_reducible repeat (first | apply Kd.V_alloc | apply Kd.V_drewN | apply Kd.V_drew)); exact HO139.out) hb); have n11_ := Aside0.mk (Kd.V_below (by (with_reducible repeat (first | apply Kd.V_alloc | apply Kd.V_drewN | apply Kd.V_drew)); exact HO142.out) hb); have n12_ := Aside0.mk (Kd.V_below (by (with_reducible repeat (first | apply Kd.V_alloc | apply Kd.V_drewN | apply Kd.V_drew)); exact HO145.out) hb); have n13_ := Aside0.mk (Kd.V_below (by (with_reducible repeat (first | apply Kd.V_alloc | apply Kd.V_drewN | apply Kd.V_drew)); exact HO148.out) hb); have n14_ := Aside0.mk (Kd.V_below (by (with_reducible repeat (first | apply Kd.V_alloc | apply Kd.V_drewN | apply Kd.V_drew)); exact HO152.out) hb); have n15_ := Aside0.mk (Kd.V_lower (Kd.V_mono (ok' := fun k_ => True) ho0 (fun k_ hk_ => trivial)) (below_size (by repeat (first | (with_reducible first | exact HB.out | apply below_alloc | apply pw_below_drewN | apply below_drew1) | exact HB.out)))); have n16_ := Aside0.mk (below_step (by repeat (first | (with_reducible first | exact HB.out | apply below_alloc | apply pw_below_drewN | apply below_drew1) | exact HB.out)) hb); clear HO103; clear HO106; clear HO109; clear HO112; clear HO116; clear HO120; clear HO124; clear HO128; clear HO131; clear HO134; clear HO139; clear HO142; clear HO145; clear HO148; clear HO152; clear HB; have HO103 := n0_; have HO106 := n1_; have HO109 := n2_; have HO112 := n3_; have HO116 := n4_; have HO120 := n5_; have HO124 := n6_; have HO128 := n7_; have HO131 := n8_; have HO134 := n9_; have HO139 := n10_; have HO142 := n11_; have HO145 := n12_; have HO148 := n13_; have HO152 := n14_; have HO155 := n15_; have HB := n16_; clear n0_ n1_ n2_ n3_ n4_ n5_ n6_ n7_ n8_ n9_ n10_ n11_ n12_ n13_ n14_ n15_ n16_; (try clear hb); (try clear hb2); (try clear hk); (try clear hi); (try clear ho0); obtain ⟨Ao100, co100, eo100⟩ := Kd.V_slice HO103.out; subst eo100; have p157 : 0 ≤ (0 : Int) := (by omega); have q157 : 0 < (t101.length : Int) := of_decide_eq_true (by first | (with_reducible assumption) | assumption); obtain ⟨ad157, e157, hx157_0⟩ := Kd.at_int (Kd.V_reads' HO103.out).2.2 0 p157 q157; cases e157; have qi157 : (0 < t101.length) = True := eq_true (by omega); (try rw [show ((0 : Int)).toNat = 0 from rfl] at hx157_0); (try rw [Addr.add_zero'] at hx157_0); replace p157 := eq_true p157; replace q157 := eq_true q157; have p158 : 0 ≤ (1 : Int) := (by omega); have q158 : 1 < (t101.length : Int) := of_decide_eq_true (by first | (with_reducible assumption) | assumption); obtain ⟨ad158, e158, hx158_0⟩ := Kd.at_int (Kd.V_reads' HO103.out).2.2 1 p158 q158; obtain rfl : ad157 = ad158 := (by injection e158); (try simp only [show (1 : Int).toNat = 1 from rfl, Nat.reduceMul, Nat.reduceEqDiff, Go.Addr.add, ↓reduceIte] at hx158_0); have qi158 : (1 < t101.length) = True := eq_true (by omega); (try rw [show ((1 : Int)).toNat = 1 from rfl] at hx158_0); replace p158 := eq_true p158; replace q158 := eq_true q158; obtain ⟨Ao101, co101, eo101⟩ := Kd.V_slice HO116.out; subst eo101; have p159 : 0 ≤ (4 : Int) := (by omega); have q159 : 4 < (t114.length : Int) := of_decide_eq_true (by first | (with_reducible assumption) | assumption); obtain ⟨ad159, e159, hx159_0⟩ := Kd.at_int (Kd.V_reads' HO116.out).2.2 4 p159 q159; cases e159; (try simp only [show (4 : Int).toNat = 4 from rfl, Nat.reduceMul, Nat.reduceEqDiff, Go.Addr.add, ↓reduceIte] at hx159_0); have qi159 : (4 < t114.length) = True := eq_true (by omega); (try rw [show ((4 : Int)).toNat = 4 from rfl] at hx159_0); replace p159 := eq_true p159; replace q159 := eq_true q159; obtain ⟨Ao102, co102, eo102⟩ := Kd.V_slice HO120.out; subst eo102) | (go_at_call 46; (with_reducible refine (nat_Nat_Text.calls k _ _ t118 t160 _ ?side1 ?side2 A52.out).mono ?_); (case side1 => repeat (first | exact (Kd.V_reads' HO120.out).2.2 | (with_reducible refine Kd.C_alloc ?_ _) | (with_reducible refine Kd.C_drewN ?_ _) | (with_reducible refine Kd.C_drew ?_))); (case side2 => exact (Kd.V_reads' HO120.out).2.1); rintro e w103 ⟨rfl, hb⟩; have n0_ := Aside0.mk (Kd.V_below (by (with_reducible repeat (first | apply Kd.V_alloc | apply Kd.V_drewN | apply Kd.V_drew)); exact HO103.out) hb); have n1_ := Aside0.mk (Kd.V_below (by (with_reducible repeat (first | apply Kd.V_alloc | apply Kd.V_drewN | apply Kd.V_drew)); exact HO106.out) hb); have n2_ := Aside0.mk (Kd.V_below (by (with_reducible repeat (first | apply Kd.V_alloc | apply Kd.V_drewN | apply Kd.V_drew)); exact HO109.out) hb); have n3_ := Aside0.mk (Kd.V_below (by (with_reducible repeat (first | apply Kd.V_alloc | apply Kd.V_drewN | apply Kd.V_drew)); exact HO112.out) hb); have n4_ := Aside0.mk (Kd.V_below (by (with_reducible repeat (first | apply Kd.V_alloc | apply Kd.V_drewN | apply Kd.V_drew)); exact HO116.out) hb); have n5_ := Aside0.mk (Kd.V_below (by (with_reducible repeat (first | apply Kd.V_alloc | apply Kd.V_drewN | apply Kd.V_drew)); exact HO120.out) hb); have n6_ := Aside0.mk (Kd.V_below (by (with_reducible repeat (first | apply Kd.V_alloc | apply Kd.V_drewN | apply Kd.V_drew)); exact HO124.out) hb); have n7_ := Aside0.mk (Kd.V_below (by (with_reducible repeat (first | apply Kd.V_alloc | apply Kd.V_drewN | apply Kd.V_drew)); exact HO128.out) hb); have n8_ := Aside0.mk (Kd.V_below (by (with_reducible repeat (first | apply Kd.V_alloc | apply Kd.V_drewN | apply Kd.V_drew)); exact HO131.out) hb); have n9_ := Aside0.mk (Kd.V_below (by (with_reducible repeat (first | apply Kd.V_alloc | apply Kd.V_drewN | apply Kd.V_drew)); exact HO134.out) hb); have n10_ := Aside0.mk (Kd.V_below (by (with_reducible repeat (first | apply Kd.V_alloc | apply Kd.V_drewN | apply Kd.V_drew)); exact HO139.out) hb); have n11_ := Aside0.mk (Kd.V_below (by (with_reducible repeat (first | apply Kd.V_alloc | apply Kd.V_drewN | apply Kd.V_drew)); exact HO142.out) hb); have n12_ := Aside0.mk (Kd.V_below (by (with_reducible repeat (first | apply Kd.V_alloc | apply Kd.V_drewN | apply Kd.V_drew)); exact HO145.out) hb); have n13_ := Aside0.mk (Kd.V_below (by (with_reducible repeat (first | apply Kd.V_alloc | apply Kd.V_drewN | apply Kd.V_drew)); exact HO148.out) hb); have n14_ := Aside0.mk (Kd.V_below (by (with_reducible repeat (first | apply Kd.V_alloc | apply Kd.V_drewN | apply Kd.V_drew)); exact HO152.out) hb); have n15_ := Aside0.mk (Kd.V_below (by (with_reducible repeat (first | apply Kd.V_alloc | apply Kd.V_drewN | apply Kd.V_drew)); exact HO155.out) hb); have n16_ := Aside0.mk (below_step (by repeat (first | (with_reducible first | exact HB.out | apply below_alloc | apply pw_below_drewN | apply below_drew1) | exact HB.out)) hb); clear HO103; clear HO106; clear HO109; clear HO112; clear HO116; clear HO120; clear HO124; clear HO128; clear HO131; clear HO134; clear HO139; clear HO142; clear HO145; clear HO148; clear HO152; clear HO155; clear HB; have HO103 := n0_; have HO106 := n1_; have HO109 := n2_; have HO112 := n3_; have HO116 := n4_; have HO120 := n5_; have HO124 := n6_; have HO128 := n7_; have HO131 := n8_; have HO134 := n9_; have HO139 := n10_; have HO142 := n11_; have HO145 := n12_; have HO148 := n13_; have HO152 := n14_; have HO155 := n15_; have HB := n16_; clear n0_ n1_ n2_ n3_ n4_ n5_ n6_ n7_ n8_ n9_ n10_ n11_ n12_ n13_ n14_ n15_ n16_; (try clear hb); (try clear hb2); (try clear hk); (try clear hi)) | (go_at_call 52; (with_reducible refine (nat_New.calls k 3 t161 _ A58.out).mono ?_); rintro e w104 ⟨v162, rfl, ho0, hb⟩; have n0_ := Aside0.mk (Kd.V_below (by (with_reducible repeat (first | apply Kd.V_alloc | apply Kd.V_drewN | apply Kd.V_drew)); exact HO103.out) hb); have n1_ := Aside0.mk (Kd.V_below (by (with_reducible repeat (first | apply Kd.V_alloc | apply Kd.V_drewN | apply Kd.V_drew)); exact HO106.out) hb); have n2_ := Aside0.mk (Kd.V_below (by (with_reducible repeat (first | apply Kd.V_alloc | apply Kd.V_drewN | apply Kd.V_drew)); exact HO109.out) hb); have n3_ := Aside0.mk (Kd.V_below (by (with_reducible repeat (first | apply Kd.V_alloc | apply Kd.V_drewN | apply Kd.V_drew)); exact HO112.out) hb); have n4_ := Aside0.mk (Kd.V_below (by (with_reducible repeat (first | apply Kd.V_alloc | apply Kd.V_drewN | apply Kd.V_drew)); exact HO116.out) hb); have n5_ := Aside0.mk (Kd.V_below (by (with_reducible repeat (first | apply Kd.V_alloc | apply Kd.V_drewN | apply Kd.V_drew)); exact HO120.out) hb); have n6_ := Aside0.mk (Kd.V_below (by (with_reducible repeat (first | apply Kd.V_alloc | apply Kd.V_drewN | apply Kd.V_drew)); exact HO124.out) hb); have n7_ := Aside0.mk (Kd.V_below (by (with_reducible repeat (first | apply Kd.V_alloc | apply Kd.V_drewN | apply Kd.V_drew)); exact HO128.out) hb); have n8_ := Aside0.mk (Kd.V_below (by (with_reducible repeat (first | apply Kd.V_alloc | apply Kd.V_drewN | apply Kd.V_drew)); exact HO131.out) hb); have n9_ := Aside0.mk (Kd.V_below (by (with_reducible repeat (first | apply Kd.V_alloc | apply Kd.V_drewN | apply Kd.V_drew)); exact HO134.out) hb); have n10_ := Aside0.mk (Kd.V_below (by (with_reducible repeat (first | apply Kd.V_alloc | apply Kd.V_drewN | apply Kd.V_drew)); exact HO139.out) hb); have n11_ := Aside0.mk (Kd.V_below (by (with_reducible repeat (first | apply Kd.V_alloc | apply Kd.V_drewN | apply Kd.V_drew)); exact HO142.out) hb); have n12_ := Aside0.mk (Kd.V_below (by (with_reducible repeat (first | apply Kd.V_alloc | apply Kd.V_drewN | apply Kd.V_drew)); exact HO145.out) hb); have n13_ := Aside0.mk (Kd.V_below (by (with_reducible repeat (first | apply Kd.V_alloc | apply Kd.V_drewN | apply Kd.V_drew)); exact HO148.out) hb); have n14_ := Aside0.mk (Kd.V_below (by (with_reducible repeat (first | apply Kd.V_alloc | apply Kd.V_drewN | apply Kd.V_drew)); exact HO152.out) hb); have n15_ := Aside0.mk (Kd.V_below (by (with_reducible repeat (first | apply Kd.V_alloc | apply Kd.V_drewN | apply Kd.V_drew)); exact HO155.out) hb); have n16_ := Aside0.mk (Kd.V_lower (Kd.V_mono (ok' := fun k_ => True) ho0 (fun k_ hk_ => trivial)) (below_size (by repeat (first | (with_reducible first | exact HB.out | apply below_alloc | apply pw_below_drewN | apply below_drew1) | exact HB.out)))); have n17_ := Aside0.mk (below_step (by repeat (first | (with_reducible first | exact HB.out | apply below_alloc | apply pw_below_drewN | apply below_drew1) | exact HB.out)) hb); clear HO103; clear HO106; clear HO109; clear HO112; clear HO116; clear HO120; clear HO124; clear HO128; clear HO131; clear HO134; clear HO139; clear HO142; clear HO145; clear HO148; clear HO152; clear HO155; clear HB; have HO103 := n0_; have HO106 := n1_; have HO109 := n2_; have HO112 := n3_; have HO116 := n4_; have HO120 := n5_; have HO124 := n6_; have HO128 := n7_; have HO131 := n8_; have HO134 := n9_; have HO139 := n10_; have HO142 := n11_; have HO145 := n12_; have HO148 := n13_; have HO152 := n14_; have HO155 := n15_; have HO163 := n16_; have HB := n17_; clear n0_ n1_ n2_ n3_ n4_ n5_ n6_ n7_ n8_ n9_ n10_ n11_ n12_ n13_ n14_ n15_ n16_ n17_; (try clear hb); (try clear hb2); (try clear hk); (try clear hi); (try clear ho0); obtain ⟨Ao105, co105, eo105⟩ := Kd.V_slice HO145.out; subst eo105; obtain ⟨Ao106, co106, eo106⟩ := Kd.V_slice HO163.out; subst eo106) | (go_at_call 33; (with_reducible refine (nat_Nat_Cmp.calls k _ _ t143 _ _ t161 t164 _ ?side1 ?side2 ?side3 ?side4 A59.out).mono ?_); (case side1 => repeat (first | exact (Kd.V_reads' HO145.out).2.2 | (with_reducible refine Kd.C_alloc ?_ _) | (with_reducible refine Kd.C_drewN ?_ _) | (with_reducible refine Kd.C_drew ?_))); (case side2 => exact (Kd.V_reads' HO145.out).2.1); (case side3 => repeat (first | exact (Kd.V_reads' HO163.out).2.2 | (with_reducible refine Kd.C_alloc ?_ _) | (with_reducible refine Kd.C_drewN ?_ _) | (with_reducible refine Kd.C_drew ?_))); (case side4 => exact (Kd.V_reads' HO163.out).2.1); rintro e w107 ⟨rfl, hb⟩; have n0_ := Aside0.mk (Kd.V_below (by (with_reducible repeat (first | apply Kd.V_alloc | apply Kd.V_drewN | apply Kd.V_drew)); exact HO103.out) hb); have n1_ := Aside0.mk (Kd.V_below (by (with_reducible repeat (first | apply Kd.V_alloc | apply Kd.V_drewN | apply Kd.V_drew)); exact HO106.out) hb); have n2_ := Aside0.mk (Kd.V_below (by (with_reducible repeat (first | apply Kd.V_alloc | apply Kd.V_drewN | apply Kd.V_drew)); exact HO109.out) hb); have n3_ := Aside0.mk (Kd.V_below (by (with_reducible repeat (first | apply Kd.V_alloc | apply Kd.V_drewN | apply Kd.V_drew)); exact HO112.out) hb); have n4_ := Aside0.mk (Kd.V_below (by (with_reducible repeat (first | apply Kd.V_alloc | apply Kd.V_drewN | apply Kd.V_drew)); exact HO116.out) hb); have n5_ := Aside0.mk (Kd.V_below (by (with_reducible repeat (first | apply Kd.V_alloc | apply Kd.V_drewN | apply Kd.V_drew)); exact HO120.out) hb); have n6_ := Aside0.mk (Kd.V_below (by (with_reducible repeat (first | apply Kd.V_alloc | apply Kd.V_drewN | apply Kd.V_drew)); exact HO124.out) hb); have n7_ := Aside0.mk (Kd.V_below (by (with_reducible repeat (first | apply Kd.V_alloc | apply Kd.V_drewN | apply Kd.V_drew)); exact HO128.out) hb); have n8_ := Aside0.mk (Kd.V_below (by (with_reducible repeat (first | apply Kd.V_alloc | apply Kd.V_drewN | apply Kd.V_drew)); exact HO131.out) hb); have n9_ := Aside0.mk (Kd.V_below (by (with_reducible repeat (first | apply Kd.V_alloc | apply Kd.V_drewN | apply Kd.V_drew)); exact HO134.out) hb); have n10_ := Aside0.mk (Kd.V_below (by (with_reducible repeat (first | apply Kd.V_alloc | apply Kd.V_drewN | apply Kd.V_drew)); exact HO139.out) hb); have n11_ := Aside0.mk (Kd.V_below (by (with_reducible repeat (first | apply Kd.V_alloc | apply Kd.V_drewN | apply Kd.V_drew)); exact HO142.out) hb); have n12_ := Aside0.mk (Kd.V_below (by (with_reducible repeat (first | apply Kd.V_alloc | apply Kd.V_drewN | apply Kd.V_drew)); exact HO145.out) hb); have n13_ := Aside0.mk (Kd.V_below (by (with_reducible repeat (first | apply Kd.V_alloc | apply Kd.V_drewN | apply Kd.V_drew)); exact HO148.out) hb); have n14_ := Aside0.mk (Kd.V_below (by (with_reducible repeat (first | apply Kd.V_alloc | apply Kd.V_drewN | apply Kd.V_drew)); exact HO152.out) hb); have n15_ := Aside0.mk (Kd.V_below (by (with_reducible repeat (first | apply Kd.V_alloc | apply Kd.V_drewN | apply Kd.V_drew)); exact HO155.out) hb); have n16_ := Aside0.mk (Kd.V_below (by (with_reducible repeat (first | apply Kd.V_alloc | apply Kd.V_drewN | apply Kd.V_drew)); exact HO163.out) hb); have n17_ := Aside0.mk (below_step (by repeat (first | (with_reducible first | exact HB.out | apply below_alloc | apply pw_below_drewN | apply below_drew1) | exact HB.out)) hb); clear HO103; clear HO106; clear HO109; clear HO112; clear HO116; clear HO120; clear HO124; clear HO128; clear HO131; clear HO134; clear HO139; clear HO142; clear HO145; clear HO148; clear HO152; clear HO155; clear HO163; clear HB; have HO103 := n0_; have HO106 := n1_; have HO109 := n2_; have HO112 := n3_; have HO116 := n4_; have HO120 := n5_; have HO124 := n6_; have HO128 := n7_; have HO131 := n8_; have HO134 := n9_; have HO139 := n10_; have HO142 := n11_; have HO145 := n12_; have HO148 := n13_; have HO152 := n14_; have HO155 := n15_; have HO163 := n16_; have HB := n17_; clear n0_ n1_ n2_ n3_ n4_ n5_ n6_ n7_ n8_ n9_ n10_ n11_ n12_ n13_ n14_ n15_ n16_ n17_; (try clear hb); (try clear hb2); (try clear hk); (try clear hi)) | (go_at_call 52; (with_reducible refine (nat_New.calls k 2 t165 _ A61.out).mono ?_); rintro e w108 ⟨v166, rfl, ho0, hb⟩; have n0_ := Aside0.mk (Kd.V_below (by (with_reducible repeat (first | apply Kd.V_alloc | apply Kd.V_drewN | apply Kd.V_drew)); exact HO103.out) hb); have n1_ := Aside0.mk (Kd.V_below (by (with_reducible repeat (first | apply Kd.V_alloc | apply Kd.V_drewN | apply Kd.V_drew)); exact HO106.out) hb); have n2_ := Aside0.mk (Kd.V_below (by (with_reducible repeat (first | apply Kd.V_alloc | apply Kd.V_drewN | apply Kd.V_drew)); exact HO109.out) hb); have n3_ := Aside0.mk (Kd.V_below (by (with_reducible repeat (first | apply Kd.V_alloc | apply Kd.V_drewN | apply Kd.V_drew)); exact HO112.out) hb); have n4_ := Aside0.mk (Kd.V_below (by (with_reducible repeat (first | apply Kd.V_alloc | apply Kd.V_drewN | apply Kd.V_drew)); exact HO116.out) hb); have n5_ := Aside0.mk (Kd.V_below (by (with_reducible repeat (first | apply Kd.V_alloc | apply Kd.V_drewN | apply Kd.V_drew)); exact HO120.out) hb); have n6_ := Aside0.mk (Kd.V_below (by (with_reducible repeat (first | apply Kd.V_alloc | apply Kd.V_drewN | apply Kd.V_drew)); exact HO124.out) hb); have n7_ := Aside0.mk (Kd.V_below (by (with_reducible repeat (first | apply Kd.V_alloc | apply Kd.V_drewN | apply Kd.V_drew)); exact HO128.out) hb); have n8_ := Aside0.mk (Kd.V_below (by (with_reducible repeat (first | apply Kd.V_alloc | apply Kd.V_drewN | apply Kd.V_drew)); exact HO131.out) hb); have n9_ := Aside0.mk (Kd.V_below (by (with_reducible repeat (first | apply Kd.V_alloc | apply Kd.V_drewN | apply Kd.V_drew)); exact HO134.out) hb); have n10_ := Aside0.mk (Kd.V_below (by (with_reducible repeat (first | apply Kd.V_alloc | apply Kd.V_drewN | apply Kd.V_drew)); exact HO139.out) hb); have n11_ := Aside0.mk (Kd.V_below (by (with_reducible repeat (first | apply Kd.V_alloc | apply Kd.V_drewN | apply Kd.V_drew)); exact HO142.out) hb); have n12_ := Aside0.mk (Kd.V_below (by (with_reducible repeat (first | apply Kd.V_alloc | apply Kd.V_drewN | apply Kd.V_drew)); exact HO145.out) hb); have n13_ := Aside0.mk (Kd.V_below (by (with_reducible repeat (first | apply Kd.V_alloc | apply Kd.V_drewN | apply Kd.V_drew)); exact HO148.out) hb); have n14_ := Aside0.mk (Kd.V_below (by (with_reducible repeat (first | apply Kd.V_alloc | apply Kd.V_drewN | apply Kd.V_drew)); exact HO152.out) hb); have n15_ := Aside0.mk (Kd.V_below (by (with_reducible repeat (first | apply Kd.V_alloc | apply Kd.V_drewN | apply Kd.V_drew)); exact HO155.out) hb); have n16_ := Aside0.mk (Kd.V_below (by (with_reducible repeat (first | apply Kd.V_alloc | apply Kd.V_drewN | apply Kd.V_drew)); exact HO163.out) hb); have n17_ := Aside0.mk (Kd.V_lower (Kd.V_mono (ok' := fun k_ => True) ho0 (fun k_ hk_ => trivial)) (below_size (by repeat (first | (with_reducible first | exact HB.out | apply below_alloc | apply pw_below_drewN | apply below_drew1) | exact HB.out)))); have n18_ := Aside0.mk (below_step (by repeat (first | (with_reducible first | exact HB.out | apply below_alloc | apply pw_below_drewN | apply below_drew1) | exact HB.out)) hb); clear HO103; clear HO106; clear HO109; clear HO112; clear HO116; clear HO120; clear HO124; clear HO128; clear HO131; clear HO134; clear HO139; clear HO142; clear HO145; clear HO148; clear HO152; clear HO155; clear HO163; clear HB; have HO103 := n0_; have HO106 := n1_; have HO109 := n2_; have HO112 := n3_; have HO116 := n4_; have HO120 := n5_; have HO124 := n6_; have HO128 := n7_; have HO131 := n8_; have HO134 := n9_; have HO139 := n10_; have HO142 := n11_; have HO145 := n12_; have HO148 := n13_; have HO152 := n14_; have HO155 := n15_; have HO163 := n16_; have HO167 := n17_; have HB := n18_; clear n0_ n1_ n2_ n3_ n4_ n5_ n6_ n7_ n8_ n9_ n10_ n11_ n12_ n13_ n14_ n15_ n16_ n17_ n18_; (try clear hb); (try clear hb2); (try clear hk); (try clear hi); (try clear ho0); obtain ⟨Ao109, co109, eo109⟩ := Kd.V_slice HO148.out; subst eo109; obtain ⟨Ao110, co110, eo110⟩ := Kd.V_slice HO167.out; subst eo110) | (go_at_call 33; (with_reducible refine (nat_Nat_Cmp.calls k _ _ t146 _ _ t165 t168 _ ?side1 ?side2 ?side3 ?side4 A62.out).mono ?_); (case side1 => repeat (first | exact (Kd.V_reads' HO148.out).2.2 | (with_reducible refine Kd.C_alloc ?_ _) | (with_reducible refine Kd.C_drewN ?_ _) | (with_reducible refine Kd.C_drew ?_))); (case side2 => exact (Kd.V_reads' HO148.out).2.1); (case side3 => repeat (first | exact (Kd.V_reads' HO167.out).2.2 | (with_reducible refine Kd.C_alloc ?_ _) | (with_reducible refine Kd.C_drewN ?_ _) | (with_reducible refine Kd.C_drew ?_))); (case side4 => exact (Kd.V_reads' HO167.out).2.1); rintro e w111 ⟨rfl, hb⟩; have n0_ := Aside0.mk (Kd.V_below (by (with_reducible repeat (first | apply Kd.V_alloc | apply Kd.V_drewN | apply Kd.V_drew)); exact HO103.out) hb); have n1_ := Aside0.mk (Kd.V_below (by (with_reducible repeat (first | apply Kd.V_alloc | apply Kd.V_drewN | apply Kd.V_drew)); exact HO106.out) hb); have n2_ := Aside0.mk (Kd.V_below (by (with_reducible repeat (first | apply Kd.V_alloc | apply Kd.V_drewN | apply Kd.V_drew)); exact HO109.out) hb); have n3_ := Aside0.mk (Kd.V_below (by (with_reducible repeat (first | apply Kd.V_alloc | apply Kd.V_drewN | apply Kd.V_drew)); exact HO112.out) hb); have n4_ := Aside0.mk (Kd.V_below (by (with_reducible repeat (first | apply Kd.V_alloc | apply Kd.V_drewN | apply Kd.V_drew)); exact HO116.out) hb); have n5_ := Aside0.mk (Kd.V_below (by (with_reducible repeat (first | apply Kd.V_alloc | apply Kd.V_drewN | apply Kd.V_drew)); exact HO120.out) hb); have n6_ := Aside0.mk (Kd.V_below (by (with_reducible repeat (first | apply Kd.V_alloc | apply Kd.V_drewN | apply Kd.V_drew)); exact HO124.out) hb); have n7_ := Aside0.mk (Kd.V_below (by (with_reducible repeat (first | apply Kd.V_alloc | apply Kd.V_drewN | apply Kd.V_drew)); exact HO128.out) hb); have n8_ := Aside0.mk (Kd.V_below (by (with_reducible repeat (first | apply Kd.V_alloc | apply Kd.V_drewN | apply Kd.V_drew)); exact HO131.out) hb); have n9_ := Aside0.mk (Kd.V_below (by (with_reducible repeat (first | apply Kd.V_alloc | apply Kd.V_drewN | apply Kd.V_drew)); exact HO134.out) hb); have n10_ := Aside0.mk (Kd.V_below (by (with_reducible repeat (first | apply Kd.V_alloc | apply Kd.V_drewN | apply Kd.V_drew)); exact HO139.out) hb); have n11_ := Aside0.mk (Kd.V_below (by (with_reducible repeat (first | apply Kd.V_alloc | apply Kd.V_drewN | apply Kd.V_drew)); exact HO142.out) hb); have n12_ := Aside0.mk (Kd.V_below (by (with_reducible repeat (first | apply Kd.V_alloc | apply Kd.V_drewN | apply Kd.V_drew)); exact HO145.out) hb); have n13_ := Aside0.mk (Kd.V_below (by (with_reducible repeat (first | apply Kd.V_alloc | apply Kd.V_drewN | apply Kd.V_drew)); exact HO148.out) hb); have n14_ := Aside0.mk (Kd.V_below (by (with_reducible repeat (first | apply Kd.V_alloc | apply Kd.V_drewN | apply Kd.V_drew)); exact HO152.out) hb); have n15_ := Aside0.mk (Kd.V_below (by (with_reducible repeat (first | apply Kd.V_alloc | apply Kd.V_drewN | apply Kd.V_drew)); exact HO155.out) hb); have n16_ := Aside0.mk (Kd.V_below (by (with_reducible repeat (first | apply Kd.V_alloc | apply Kd.V_drewN | apply Kd.V_drew)); exact HO163.out) hb); have n17_ := Aside0.mk (Kd.V_below (by (with_reducible repeat (first | apply Kd.V_alloc | apply Kd.V_drewN | apply Kd.V_drew)); exact HO167.out) hb); have n18_ := Aside0.mk (below_step (by repeat (first | (with_reducible first | exact HB.out | apply below_alloc | apply pw_below_drewN | apply below_drew1) | exact HB.out)) hb); clear HO103; clear HO106; clear HO109; clear HO112; clear HO116; clear HO120; clear HO124; clear HO128; clear HO131; clear HO134; clear HO139; clear HO142; clear HO145; clear HO148; clear HO152; clear HO155; clear HO163; clear HO167; clear HB; have HO103 := n0_; have HO106 := n1_; have HO109 := n2_; have HO112 := n3_; have HO116 := n4_; have HO120 := n5_; have HO124 := n6_; have HO128 := n7_; have HO131 := n8_; have HO134 := n9_; have HO139 := n10_; have HO142 := n11_; have HO145 := n12_; have HO148 := n13_; have HO152 := n14_; have HO155 := n15_; have HO163 := n16_; have HO167 := n17_; have HB := n18_; clear n0_ n1_ n2_ n3_ n4_ n5_ n6_ n7_ n8_ n9_ n10_ n11_ n12_ n13_ n14_ n15_ n16_ n17_ n18_; (try clear hb); (try clear hb2); (try clear hk); (try clear hi); obtain ⟨Ao112, co112, eo112⟩ := Kd.V_slice HO155.out; subst eo112) | (go_at_call 42; (with_reducible refine (nat_Nat_Bit.calls _ _ t153 40 t169 _ ?side1 ?side2 A65.out).mono ?_); (case side1 => repeat (first | exact (Kd.V_reads' HO155.out).2.2 | (with_reducible refine Kd.C_alloc ?_ _) | (with_reducible refine Kd.C_drewN ?_ _) | (with_reducible refine Kd.C_drew ?_))); (case side2 => exact (Kd.V_reads' HO155.out).2.1); rintro e w' ⟨rfl, ⟨nd, rfl⟩⟩) | (go_at_call 39; (with_reducible refine (nat_Nat_Shr.calls k _ _ t153 40 t170 _ ?side1 ?side2 A68.out).mono ?_); (case side1 => repeat (first | exact (Kd.V_reads' HO155.out).2.2 | (with_reducible refine Kd.C_alloc ?_ _) | (with_reducible refine Kd.C_drewN ?_ _) | (with_reducible refine Kd.C_drew ?_))); (case side2 => exact (Kd.V_reads' HO155.out).2.1); rintro e w113 ⟨v171, rfl, ho0, hb⟩; have n0_ := Aside0.mk (Kd.V_below (by (with_reducible repeat (first | apply Kd.V_alloc | apply Kd.V_drewN | apply Kd.V_drew)); exact HO103.out) hb); have n1_ := Aside0.mk (Kd.V_below (by (with_reducible repeat (first | apply Kd.V_alloc | apply Kd.V_drewN | apply Kd.V_drew)); exact HO106.out) hb); have n2_ := Aside0.mk (Kd.V_below (by (with_reducible repeat (first | apply Kd.V_alloc | apply Kd.V_drewN | apply Kd.V_drew)); exact HO109.out) hb); have n3_ := Aside0.mk (Kd.V_below (by (with_reducible repeat (first | apply Kd.V_alloc | apply Kd.V_drewN | apply Kd.V_drew)); exact HO112.out) hb); have n4_ := Aside0.mk (Kd.V_below (by (with_reducible repeat (first | apply Kd.V_alloc | apply Kd.V_drewN | apply Kd.V_drew)); exact HO116.out) hb); have n5_ := Aside0.mk (Kd.V_below (by (with_reducible repeat (first | apply Kd.V_alloc | apply Kd.V_drewN | apply Kd.V_drew)); exact HO120.out) hb); have n6_ := Aside0.mk (Kd.V_below (by (with_reducible repeat (first | apply Kd.V_alloc | apply Kd.V_drewN | apply Kd.V_drew)); exact HO124.out) hb); have n7_ := Aside0.mk (Kd.V_below (by (with_reducible repeat (first | apply Kd.V_alloc | apply Kd.V_drewN | apply Kd.V_drew)); exact HO128.out) hb); have n8_ := Aside0.mk (Kd.V_below (by (with_reducible repeat (first | apply Kd.V_alloc | apply Kd.V_drewN | apply Kd.V_drew)); exact HO131.out) hb); have n9_ := Aside0.mk (Kd.V_below (by (with_reducible repeat (first | apply Kd.V_alloc | apply Kd.V_drewN | apply Kd.V_drew)); exact HO134.out) hb); have n10_ := Aside0.mk (Kd.V_below (by (with_reducible repeat (first | apply Kd.V_alloc | apply Kd.V_drewN | apply Kd.V_drew)); exact HO139.out) hb); have n11_ := Aside0.mk (Kd.V_below (by (with_reducible repeat (first | apply Kd.V_alloc | apply Kd.V_drewN | apply Kd.V_drew)); exact HO142.out) hb); have n12_ := Aside0.mk (Kd.V_below (by (with_reducible repeat (first | apply Kd.V_alloc | apply Kd.V_drewN | apply Kd.V_drew)); exact HO145.out) hb); have n13_ := Aside0.mk (Kd.V_below (by (with_reducible repeat (first | apply Kd.V_alloc | apply Kd.V_drewN | apply Kd.V_drew)); exact HO148.out) hb); have n14_ := Aside0.mk (Kd.V_below (by (with_reducible repeat (first | apply Kd.V_alloc | apply Kd.V_drewN | apply Kd.V_drew)); exact HO152.out) hb); have n15_ := Aside0.mk (Kd.V_below (by (with_reducible repeat (first | apply Kd.V_alloc | apply Kd.V_drewN | apply Kd.V_drew)); exact HO155.out) hb); have n16_ := Aside0.mk (Kd.V_below (by (with_reducible repeat (first | apply Kd.V_alloc | apply Kd.V_drewN | apply Kd.V_drew)); exact HO163.out) hb); have n17_ := Aside0.mk (Kd.V_below (by (with_reducible repeat (first | apply Kd.V_alloc | apply Kd.V_drewN | apply Kd.V_drew)); exact HO167.out) hb); have n18_ := Aside0.mk (Kd.V_lower (Kd.V_mono (ok' := fun k_ => True) ho0 (fun k_ hk_ => trivial)) (below_size (by repeat (first | (with_reducible first | exact HB.out | apply below_alloc | apply pw_below_drewN | apply below_drew1) | exact HB.out)))); have n19_ := Aside0.mk (below_step (by repeat (first | (with_reducible first | exact HB.out | apply below_alloc | apply pw_below_drewN | apply below_drew1) | exact HB.out)) hb); clear HO103; clear HO106; clear HO109; clear HO112; clear HO116; clear HO120; clear HO124; clear HO128; clear HO131; clear HO134; clear HO139; clear HO142; clear HO145; clear HO148; clear HO152; clear HO155; clear HO163; clear HO167; clear HB; have HO103 := n0_; have HO106 := n1_; have HO109 := n2_; have HO112 := n3_; have HO116 := n4_; have HO120 := n5_; have HO124 := n6_; have HO128 := n7_; have HO131 := n8_; have HO134 := n9_; have HO139 := n10_; have HO142 := n11_; have HO145 := n12_; have HO148 := n13_; have HO152 := n14_; have HO155 := n15_; have HO163 := n16_; have HO167 := n17_; have HO172 := n18_; have HB := n19_; clear n0_ n1_ n2_ n3_ n4_ n5_ n6_ n7_ n8_ n9_ n10_ n11_ n12_ n13_ n14_ n15_ n16_ n17_ n18_ n19_; (try clear hb); (try clear hb2); (try clear hk); (try clear hi); (try clear ho0); obtain ⟨Ao114, co114, eo114⟩ := Kd.V_slice HO172.out; subst eo114) | (go_at_call 43; (with_reducible refine (nat_Nat_Len.calls k _ _ t170 t173 _ ?side1 ?side2 A69.out).mono ?_); (case side1 => repeat (first | exact (Kd.V_reads' HO172.out).2.2 | (with_reducible refine Kd.C_alloc ?_ _) | (with_reducible refine Kd.C_drewN ?_ _) | (with_reducible refine Kd.C_drew ?_))); (case side2 => exact (Kd.V_reads' HO172.out).2.1); rintro e w115 ⟨rfl, hb⟩; have n0_ := Aside0.mk (Kd.V_below (by (with_reducible repeat (first | apply Kd.V_alloc | apply Kd.V_drewN | apply Kd.V_drew)); exact HO103.out) hb); have n1_ := Aside0.mk (Kd.V_below (by (with_reducible repeat (first | apply Kd.V_alloc | apply Kd.V_drewN | apply Kd.V_drew)); exact HO106.out) hb); have n2_ := Aside0.mk (Kd.V_below (by (with_reducible repeat (first | apply Kd.V_alloc | apply Kd.V_drewN | apply Kd.V_drew)); exact HO109.out) hb); have n3_ := Aside0.mk (Kd.V_below (by (with_reducible repeat (first | apply Kd.V_alloc | apply Kd.V_drewN | apply Kd.V_drew)); exact HO112.out) hb); have n4_ := Aside0.mk (Kd.V_below (by (with_reducible repeat (first | apply Kd.V_alloc | apply Kd.V_drewN | apply Kd.V_drew)); exact HO116.out) hb); have n5_ := Aside0.mk (Kd.V_below (by (with_reducible repeat (first | apply Kd.V_alloc | apply Kd.V_drewN | apply Kd.V_drew)); exact HO120.out) hb); have n6_ := Aside0.mk (Kd.V_below (by (with_reducible repeat (first | apply Kd.V_alloc | apply Kd.V_drewN | apply Kd.V_drew)); exact HO124.out) hb); have n7_ := Aside0.mk (Kd.V_below (by (with_reducible repeat (first | apply Kd.V_alloc | apply Kd.V_drewN | apply Kd.V_drew)); exact HO128.out) hb); have n8_ := Aside0.mk (Kd.V_below (by (with_reducible repeat (first | apply Kd.V_alloc | apply Kd.V_drewN | apply Kd.V_drew)); exact HO131.out) hb); have n9_ := Aside0.mk (Kd.V_below (by (with_reducible repeat (first | apply Kd.V_alloc | apply Kd.V_drewN | apply Kd.V_drew)); exact HO134.out) hb); have n10_ := Aside0.mk (Kd.V_below (by (with_reducible repeat (first | apply Kd.V_alloc | apply Kd.V_drewN | apply Kd.V_drew)); exact HO139.out) hb); have n11_ := Aside0.mk (Kd.V_below (by (with_reducible repeat (first | apply Kd.V_alloc | apply Kd.V_drewN | apply Kd.V_drew)); exact HO142.out) hb); have n12_ := Aside0.mk (Kd.V_below (by (with_reducible repeat (first | apply Kd.V_alloc | apply Kd.V_drewN | apply Kd.V_drew)); exact HO145.out) hb); have n13_ := Aside0.mk (Kd.V_below (by (with_reducible repeat (first | apply Kd.V_alloc | apply Kd.V_drewN | apply Kd.V_drew)); exact HO148.out) hb); have n14_ := Aside0.mk (Kd.V_below (by (with_reducible repeat (first | apply Kd.V_alloc | apply Kd.V_drewN | apply Kd.V_drew)); exact HO152.out) hb); have n15_ := Aside0.mk (Kd.V_below (by (with_reducible repeat (first | apply Kd.V_alloc | apply Kd.V_drewN | apply Kd.V_drew)); exact HO155.out) hb); have n16_ := Aside0.mk (Kd.V_below (by (with_reducible repeat (first | apply Kd.V_alloc | apply Kd.V_drewN | apply Kd.V_drew)); exact HO163.out) hb); have n17_ := Aside0.mk (Kd.V_below (by (with_reducible repeat (first | apply Kd.V_alloc | apply Kd.V_drewN | apply Kd.V_drew)); exact HO167.out) hb); have n18_ := Aside0.mk (Kd.V_below (by (with_reducible repeat (first | apply Kd.V_alloc | apply Kd.V_drewN | apply Kd.V_drew)); exact HO172.out) hb); have n19_ := Aside0.mk (below_step (by repeat (first | (with_reducible first | exact HB.out | apply below_alloc | apply pw_below_drewN | apply below_drew1) | exact HB.out)) hb); clear HO103; clear HO106; clear HO109; clear HO112; clear HO116; clear HO120; clear HO124; clear HO128; clear HO131; clear HO134; clear HO139; clear HO142; clear HO145; clear HO148; clear HO152; clear HO155; clear HO163; clear HO167; clear HO172; clear HB; have HO103 := n0_; have HO106 := n1_; have HO109 := n2_; have HO112 := n3_; have HO116 := n4_; have HO120 := n5_; have HO124 := n6_; have HO128 := n7_; have HO131 := n8_; have HO134 := n9_; have HO139 := n10_; have HO142 := n11_; have HO145 := n12_; have HO148 := n13_; have HO152 := n14_; have HO155 := n15_; have HO163 := n16_; have HO167 := n17_; have HO172 := n18_; have HB := n19_; clear n0_ n1_ n2_ n3_ n4_ n5_ n6_ n7_ n8_ n9_ n10_ n11_ n12_ n13_ n14_ n15_ n16_ n17_ n18_ n19_; (try clear hb); (try clear hb2); (try clear hk); (try clear hi)) | (go_at_call 30; (with_reducible refine (nat_Nat_Mul.calls k _ _ t101 _ _ t101 t174 _ ?side1 ?side2 ?side3 ?side4 A71.out).mono ?_); (case side1 => repeat (first | exact (Kd.V_reads' HO103.out).2.2 | (with_reducible refine Kd.C_alloc ?_ _) | (with_reducible refine Kd.C_drewN ?_ _) | (with_reducible refine Kd.C_drew ?_))); (case side2 => exact (Kd.V_reads' HO103.out).2.1); (case side3 => repeat (first | exact (Kd.V_reads' HO103.out).2.2 | (with_reducible refine Kd.C_alloc ?_ _) | (with_reducible refine Kd.C_drewN ?_ _) | (with_reducible refine Kd.C_drew ?_))); (case side4 => exact (Kd.V_reads' HO103.out).2.1); rintro e w116 ⟨v175, rfl, ho0, hb⟩; have n0_ := Aside0.mk (Kd.V_below (by (with_reducible repeat (first | apply Kd.V_alloc | apply Kd.V_drewN | apply Kd.V_drew)); exact HO103.out) hb); have n1_ := Aside0.mk (Kd.V_below (by (with_reducible repeat (first | apply Kd.V_alloc | apply Kd.V_drewN | apply Kd.V_drew)); exact HO106.out) hb); have n2_ := Aside0.mk (Kd.V_below (by (with_reducible repeat (first | apply Kd.V_alloc | apply Kd.V_drewN | apply Kd.V_drew)); exact HO109.out) hb); have n3_ := Aside0.mk (Kd.V_below (by (with_reducible repeat (first | apply Kd.V_alloc | apply Kd.V_drewN | apply Kd.V_drew)); exact HO112.out) hb); have n4_ := Aside0.mk (Kd.V_below (by (with_reducible repeat (first | apply Kd.V_alloc | apply Kd.V_drewN | apply Kd.V_drew)); exact HO116.out) hb); have n5_ := Aside0.mk (Kd.V_below (by (with_reducible repeat (first | apply Kd.V_alloc | apply Kd.V_drewN | apply Kd.V_drew)); exact HO120.out) hb); have n6_ := Aside0.mk (Kd.V_below (by (with_reducible repeat (first | apply Kd.V_alloc | apply Kd.V_drewN | apply Kd.V_drew)); exact HO124.out) hb); have n7_ := Aside0.mk (Kd.V_below (by (with_reducible repeat (first | apply Kd.V_alloc | apply Kd.V_drewN | apply Kd.V_drew)); exact HO128.out) hb); have n8_ := Aside0.mk (Kd.V_below (by (with_reducible repeat (first | apply Kd.V_alloc | apply Kd.V_drewN | apply Kd.V_drew)); exact HO131.out) hb); have n9_ := Aside0.mk (Kd.V_below (by (with_reducible repeat (first | apply Kd.V_alloc | apply Kd.V_drewN | apply Kd.V_drew)); exact HO134.out) hb); have n10_ := Aside0.mk (Kd.V_below (by (with_reducible repeat (first | apply Kd.V_alloc | apply Kd.V_drewN | apply Kd.V_drew)); exact HO139.out) hb); have n11_ := Aside0.mk (Kd.V_below (by (with_reducible repeat (first | apply Kd.V_alloc | apply Kd.V_drewN | apply Kd.V_drew)); exact HO142.out) hb); have n12_ := Aside0.mk (Kd.V_below (by (with_reducible repeat (first | apply Kd.V_alloc | apply Kd.V_drewN | apply Kd.V_drew)); exact HO145.out) hb); have n13_ := Aside0.mk (Kd.V_below (by (with_reducible repeat (first | apply Kd.V_alloc | apply Kd.V_drewN | apply Kd.V_drew)); exact HO148.out) hb); have n14_ := Aside0.mk (Kd.V_below (by (with_reducible repeat (first | apply Kd.V_alloc | apply Kd.V_drewN | apply Kd.V_drew)); exact HO152.out) hb); have n15_ := Aside0.mk (Kd.V_below (by (with_reducible repeat (first | apply Kd.V_alloc | apply Kd.V_drewN | apply Kd.V_drew)); exact HO155.out) hb); have n16_ := Aside0.mk (Kd.V_below (by (with_reducible repeat (first | apply Kd.V_alloc | apply Kd.V_drewN | apply Kd.V_drew)); exact HO163.out) hb); have n17_ := Aside0.mk (Kd.V_below (by (with_reducible repeat (first | apply Kd.V_alloc | apply Kd.V_drewN | apply Kd.V_drew)); exact HO167.out) hb); have n18_ := Aside0.mk (Kd.V_below (by (with_reducible repeat (first | apply Kd.V_alloc | apply Kd.V_drewN | apply Kd.V_drew)); exact HO172.out) hb); have n19_ := Aside0.mk (Kd.V_lower (Kd.V_mono (ok' := fun k_ => True) ho0 (fun k_ hk_ => trivial)) (below_size (by repeat (first | (with_reducible first | exact HB.out | apply below_alloc | apply pw_below_drewN | apply below_drew1) | exact HB.out)))); have n20_ := Aside0.mk (below_step (by repeat (first | (with_reducible first | exact HB.out | apply below_alloc | apply pw_below_drewN | apply below_drew1) | exact HB.out)) hb); clear HO103; clear HO106; clear HO109; clear HO112; clear HO116; clear HO120; clear HO124; clear HO128; clear HO131; clear HO134; clear HO139; clear HO142; clear HO145; clear HO148; clear HO152; clear HO155; clear HO163; clear HO167; clear HO172; clear HB; have HO103 := n0_; have HO106 := n1_; have HO109 := n2_; have HO112 := n3_; have HO116 := n4_; have HO120 := n5_; have HO124 := n6_; have HO128 := n7_; have HO131 := n8_; have HO134 := n9_; have HO139 := n10_; have HO142 := n11_; have HO145 := n12_; have HO148 := n13_; have HO152 := n14_; have HO155 := n15_; have HO163 := n16_; have HO167 := n17_; have HO172 := n18_; have HO176 := n19_; have HB := n20_; clear n0_ n1_ n2_ n3_ n4_ n5_ n6_ n7_ n8_ n9_ n10_ n11_ n12_ n13_ n14_ n15_ n16_ n17_ n18_ n19_ n20_; (try clear hb); (try clear hb2); (try clear hk); (try clear hi); (try clear ho0); obtain ⟨Ao117, co117, eo117⟩ := Kd.V_slice HO176.out; subst eo117) | (go_at_call 43; (with_reducible refine (nat_Nat_Len.calls k _ _ t174 t177 _ ?side1 ?side2 A72.out).mono ?_); (case side1 => repeat (first | exact (Kd.V_reads' HO176.out).2.2 | (with_reducible refine Kd.C_alloc ?_ _) | (with_reducible refine Kd.C_drewN ?_ _) | (with_reducible refine Kd.C_drew ?_))); (case side2 => exact (Kd.V_reads' HO176.out).2.1); rintro e w118 ⟨rfl, hb⟩; have n0_ := Aside0.mk (Kd.V_below (by (with_reducible repeat (first | apply Kd.V_alloc | apply Kd.V_drewN | apply Kd.V_drew)); exact HO103.out) hb); have n1_ := Aside0.mk (Kd.V_below (by (with_reducible repeat (first | apply Kd.V_alloc | apply Kd.V_drewN | apply Kd.V_drew)); exact HO106.out) hb); have n2_ := Aside0.mk (Kd.V_below (by (with_reducible repeat (first | apply Kd.V_alloc | apply Kd.V_drewN | apply Kd.V_drew)); exact HO109.out) hb); have n3_ := Aside0.mk (Kd.V_below (by (with_reducible repeat (first | apply Kd.V_alloc | apply Kd.V_drewN | apply Kd.V_drew)); exact HO112.out) hb); have n4_ := Aside0.mk (Kd.V_below (by (with_reducible repeat (first | apply Kd.V_alloc | apply Kd.V_drewN | apply Kd.V_drew)); exact HO116.out) hb); have n5_ := Aside0.mk (Kd.V_below (by (with_reducible repeat (first | apply Kd.V_alloc | apply Kd.V_drewN | apply Kd.V_drew)); exact HO120.out) hb); have n6_ := Aside0.mk (Kd.V_below (by (with_reducible repeat (first | apply Kd.V_alloc | apply Kd.V_drewN | apply Kd.V_drew)); exact HO124.out) hb); have n7_ := Aside0.mk (Kd.V_below (by (with_reducible repeat (first | apply Kd.V_alloc | apply Kd.V_drewN | apply Kd.V_drew)); exact HO128.out) hb); have n8_ := Aside0.mk (Kd.V_below (by (with_reducible repeat (first | apply Kd.V_alloc | apply Kd.V_drewN | apply Kd.V_drew)); exact HO131.out) hb); have n9_ := Aside0.mk (Kd.V_below (by (with_reducible repeat (first | apply Kd.V_alloc | apply Kd.V_drewN | apply Kd.V_drew)); exact HO134.out) hb); have n10_ := Aside0.mk (Kd.V_below (by (with_reducible repeat (first | apply Kd.V_alloc | apply Kd.V_drewN | apply Kd.V_drew)); exact HO139.out) hb); have n11_ := Aside0.mk (Kd.V_below (by (with_reducible repeat (first | apply Kd.V_alloc | apply Kd.V_drewN | apply Kd.V_drew)); exact HO142.out) hb); have n12_ := Aside0.mk (Kd.V_below (by (with_reducible repeat (first | apply Kd.V_alloc | apply Kd.V_drewN | apply Kd.V_drew)); exact HO145.out) hb); have n13_ := Aside0.mk (Kd.V_below (by (with_reducible repeat (first | apply Kd.V_alloc | apply Kd.V_drewN | apply Kd.V_drew)); exact HO148.out) hb); have n14_ := Aside0.mk (Kd.V_below (by (with_reducible repeat (first | apply Kd.V_alloc | apply Kd.V_drewN | apply Kd.V_drew)); exact HO152.out) hb); have n15_ := Aside0.mk (Kd.V_below (by (with_reducible repeat (first | apply Kd.V_alloc | apply Kd.V_drewN | apply Kd.V_drew)); exact HO155.out) hb); have n16_ := Aside0.mk (Kd.V_below (by (with_reducible repeat (first | apply Kd.V_alloc | apply Kd.V_drewN | apply Kd.V_drew)); exact HO163.out) hb); have n17_ := Aside0.mk (Kd.V_below (by (with_reducible repeat (first | apply Kd.V_alloc | apply Kd.V_drewN | apply Kd.V_drew)); exact HO167.out) hb); have n18_ := Aside0.mk (Kd.V_below (by (with_reducible repeat (first | apply Kd.V_alloc | apply Kd.V_drewN | apply Kd.V_drew)); exact HO172.out) hb); have n19_ := Aside0.mk (Kd.V_below (by (with_reducible repeat (first | apply Kd.V_alloc | apply Kd.V_drewN | apply Kd.V_drew)); exact HO176.out) hb); have n20_ := Aside0.mk (below_step (by repeat (first | (with_reducible first | exact HB.out | apply below_alloc | apply pw_below_drewN | apply below_drew1) | exact HB.out)) hb); clear HO103; clear HO106; clear HO109; clear HO112; clear HO116; clear HO120; clear HO124; clear HO128; clear HO131; clear HO134; clear HO139; clear HO142; clear HO145; clear HO148; clear HO152; clear HO155; clear HO163; clear HO167; clear HO172; clear HO176; clear HB; have HO103 := n0_; have HO106 := n1_; have HO109 := n2_; have HO112 := n3_; have HO116 := n4_; have HO120 := n5_; have HO124 := n6_; have HO128 := n7_; have HO131 := n8_; have HO134 := n9_; have HO139 := n10_; have HO142 := n11_; have HO145 := n12_; have HO148 := n13_; have HO152 := n14_; have HO155 := n15_; have HO163 := n16_; have HO167 := n17_; have HO172 := n18_; have HO176 := n19_; have HB := n20_; clear n0_ n1_ n2_ n3_ n4_ n5_ n6_ n7_ n8_ n9_ n10_ n11_ n12_ n13_ n14_ n15_ n16_ n17_ n18_ n19_ n20_; (try clear hb); (try clear hb2); (try clear hk); (try clear hi)) | (go_at_call 28; (with_reducible refine (nat_Nat_Add.calls k _ _ t101 _ _ t101 t178 _ ?side1 ?side2 ?side3 ?side4 A74.out).mono ?_); (case side1 => repeat (first | exact (Kd.V_reads' HO103.out).2.2 | (with_reducible refine Kd.C_alloc ?_ _) | (with_reducible refine Kd.C_drewN ?_ _) | (with_reducible refine Kd.C_drew ?_))); (case side2 => exact (Kd.V_reads' HO103.out).2.1); (case side3 => repeat (first | exact (Kd.V_reads' HO103.out).2.2 | (with_reducible refine Kd.C_alloc ?_ _) | (with_reducible refine Kd.C_drewN ?_ _) | (with_reducible refine Kd.C_drew ?_))); (case side4 => exact (Kd.V_reads' HO103.out).2.1); rintro e w119 ⟨v179, rfl, ho0, hb⟩; have n0_ := Aside0.mk (Kd.V_below (by (with_reducible repeat (first | apply Kd.V_alloc | apply Kd.V_drewN | apply Kd.V_drew)); exact HO103.out) hb); have n1_ := Aside0.mk (Kd.V_below (by (with_reducible repeat (first | apply Kd.V_alloc | apply Kd.V_drewN | apply Kd.V_drew)); exact HO106.out) hb); have n2_ := Aside0.mk (Kd.V_below (by (with_reducible repeat (first | apply Kd.V_alloc | apply Kd.V_drewN | apply Kd.V_drew)); exact HO109.out) hb); have n3_ := Aside0.mk (Kd.V_below (by (with_reducible repeat (first | apply Kd.V_alloc | apply Kd.V_drewN | apply Kd.V_drew)); exact HO112.out) hb); have n4_ := Aside0.mk (Kd.V_below (by (with_reducible repeat (first | apply Kd.V_alloc | apply Kd.V_drewN | apply Kd.V_drew)); exact HO116.out) hb); have n5_ := Aside0.mk (Kd.V_below (by (with_reducible repeat (first | apply Kd.V_alloc | apply Kd.V_drewN | apply Kd.V_drew)); exact HO120.out) hb); have n6_ := Aside0.mk (Kd.V_below (by (with_reducible repeat (first | apply Kd.V_alloc | apply Kd.V_drewN | apply Kd.V_drew)); exact HO124.out) hb); have n7_ := Aside0.mk (Kd.V_below (by (with_reducible repeat (first | apply Kd.V_alloc | apply Kd.V_drewN | apply Kd.V_drew)); exact HO128.out) hb); have n8_ := Aside0.mk (Kd.V_below (by (with_reducible repeat (first | apply Kd.V_alloc | apply Kd.V_drewN | apply Kd.V_drew)); exact HO131.out) hb); have n9_ := Aside0.mk (Kd.V_below (by (with_reducible repeat (first | apply Kd.V_alloc | apply Kd.V_drewN | apply Kd.V_drew)); exact HO134.out) hb); have n10_ := Aside0.mk (Kd.V_below (by (with_reducible repeat (first | apply Kd.V_alloc | apply Kd.V_drewN | apply Kd.V_drew)); exact HO139.out) hb); have n11_ := Aside0.mk (Kd.V_below (by (with_reducible repeat (first | apply Kd.V_alloc | apply Kd.V_drewN | apply Kd.V_drew)); exact HO142.out) hb); have n12_ := Aside0.mk (Kd.V_below (by (with_reducible repeat (first | apply Kd.V_alloc | apply Kd.V_drewN | apply Kd.V_drew)); exact HO145.out) hb); have n13_ := Aside0.mk (Kd.V_below (by (with_reducible repeat (first | apply Kd.V_alloc | apply Kd.V_drewN | apply Kd.V_drew)); exact HO148.out) hb); have n14_ := Aside0.mk (Kd.V_below (by (with_reducible repeat (first | apply Kd.V_alloc | apply Kd.V_drewN | apply Kd.V_drew)); exact HO152.out) hb); have n15_ := Aside0.mk (Kd.V_below (by (with_reducible repeat (first | apply Kd.V_alloc | apply Kd.V_drewN | apply Kd.V_drew)); exact HO155.out) hb); have n16_ := Aside0.mk (Kd.V_below (by (with_reducible repeat (first | apply Kd.V_alloc | apply Kd.V_drewN | apply Kd.V_drew)); exact HO163.out) hb); have n17_ := Aside0.mk (Kd.V_below (by (with_reducible repeat (first | apply Kd.V_alloc | apply Kd.V_drewN | apply Kd.V_drew)); exact HO167.out) hb); have n18_ := Aside0.mk (Kd.V_below (by (with_reducible repeat (first | apply Kd.V_alloc | apply Kd.V_drewN | apply Kd.V_drew)); exact HO172.out) hb); have n19_ := Aside0.mk (Kd.V_below (by (with_reducible repeat (first | apply Kd.V_alloc | apply Kd.V_drewN | apply Kd.V_drew)); exact HO176.out) hb); have n20_ := Aside0.mk (Kd.V_lower (Kd.V_mono (ok' := fun k_ => True) ho0 (fun k_ hk_ => trivial)) (below_size (by repeat (first | (with_reducible first | exact HB.out | apply below_alloc | apply pw_below_drewN | apply below_drew1) | exact HB.out)))); have n21_ := Aside0.mk (below_step (by repeat (first | (with_reducible first | exact HB.out | apply below_alloc | apply pw_below_drewN | apply below_drew1) | exact HB.out)) hb); clear HO103; clear HO106; clear HO109; clear HO112; clear HO116; clear HO120; clear HO124; clear HO128; clear HO131; clear HO134; clear HO139; clear HO142; clear HO145; clear HO148; clear HO152; clear HO155; clear HO163; clear HO167; clear HO172; clear HO176; clear HB; have HO103 := n0_; have HO106 := n1_; have HO109 := n2_; have HO112 := n3_; have HO116 := n4_; have HO120 := n5_; have HO124 := n6_; have HO128 := n7_; have HO131 := n8_; have HO134 := n9_; have HO139 := n10_; have HO142 := n11_; have HO145 := n12_; have HO148 := n13_; have HO152 := n14_; have HO155 := n15_; have HO163 := n16_; have HO167 := n17_; have HO172 := n18_; have HO176 := n19_; have HO180 := n20_; have HB := n21_; clear n0_ n1_ n2_ n3_ n4_ n5_ n6_ n7_ n8_ n9_ n10_ n11_ n12_ n13_ n14_ n15_ n16_ n17_ n18_ n19_ n20_ n21_; (try clear hb); (try clear hb2); (try clear hk); (try clear hi); (try clear ho0); obtain ⟨Ao120, co120, eo120⟩ := Kd.V_slice HO180.out; subst eo120) | (go_at_call 43; (with_reducible refine (nat_Nat_Len.calls k _ _ t178 t181 _ ?side1 ?side2 A75.out).mono ?_); (case side1 => repeat (first | exact (Kd.V_reads' HO180.out).2.2 | (with_reducible refine Kd.C_alloc ?_ _) | (with_reducible refine Kd.C_drewN ?_ _) | (with_reducible refine Kd.C_drew ?_))); (case side2 => exact (Kd.V_reads' HO180.out).2.1); rintro e w121 ⟨rfl, hb⟩; have n0_ := Aside0.mk (Kd.V_below (by (with_reducible repeat (first | apply Kd.V_alloc | apply Kd.V_drewN | apply Kd.V_drew)); exact HO103.out) hb); have n1_ := Aside0.mk (Kd.V_below (by (with_reducible repeat (first | apply Kd.V_alloc | apply Kd.V_drewN | apply Kd.V_drew)); exact HO106.out) hb); have n2_ := Aside0.mk (Kd.V_below (by (with_reducible repeat (first | apply Kd.V_alloc | apply Kd.V_drewN | apply Kd.V_drew)); exact HO109.out) hb); have n3_ := Aside0.mk (Kd.V_below (by (with_reducible repeat (first | apply Kd.V_alloc | apply Kd.V_drewN | apply Kd.V_drew)); exact HO112.out) hb); have n4_ := Aside0.mk (Kd.V_below (by (with_reducible repeat (first | apply Kd.V_alloc | apply Kd.V_drewN | apply Kd.V_drew)); exact HO116.out) hb); have n5_ := Aside0.mk (Kd.V_below (by (with_reducible repeat (first | apply Kd.V_alloc | apply Kd.V_drewN | apply Kd.V_drew)); exact HO120.out) hb); have n6_ := Aside0.mk (Kd.V_below (by (with_reducible repeat (first | apply Kd.V_alloc | apply Kd.V_drewN | apply Kd.V_drew)); exact HO124.out) hb); have n7_ := Aside0.mk (Kd.V_below (by (with_reducible repeat (first | apply Kd.V_alloc | apply Kd.V_drewN | apply Kd.V_drew)); exact HO128.out) hb); have n8_ := Aside0.mk (Kd.V_below (by (with_reducible repeat (first | apply Kd.V_alloc | apply Kd.V_drewN | apply Kd.V_drew)); exact HO131.out) hb); have n9_ := Aside0.mk (Kd.V_below (by (with_reducible repeat (first | apply Kd.V_alloc | apply Kd.V_drewN | apply Kd.V_drew)); exact HO134.out) hb); have n10_ := Aside0.mk (Kd.V_below (by (with_reducible repeat (first | apply Kd.V_alloc | apply Kd.V_drewN | apply Kd.V_drew)); exact HO139.out) hb); have n11_ := Aside0.mk (Kd.V_below (by (with_reducible repeat (first | apply Kd.V_alloc | apply Kd.V_drewN | apply Kd.V_drew)); exact HO142.out) hb); have n12_ := Aside0.mk (Kd.V_below (by (with_reducible repeat (first | apply Kd.V_alloc | apply Kd.V_drewN | apply Kd.V_drew)); exact HO145.out) hb); have n13_ := Aside0.mk (Kd.V_below (by (with_reducible repeat (first | apply Kd.V_alloc | apply Kd.V_drewN | apply Kd.V_drew)); exact HO148.out) hb); have n14_ := Aside0.mk (Kd.V_below (by (with_reducible repeat (first | apply Kd.V_alloc | apply Kd.V_drewN | apply Kd.V_drew)); exact HO152.out) hb); have n15_ := Aside0.mk (Kd.V_below (by (with_reducible repeat (first | apply Kd.V_alloc | apply Kd.V_drewN | apply Kd.V_drew)); exact HO155.out) hb); have n16_ := Aside0.mk (Kd.V_below (by (with_reducible repeat (first | apply Kd.V_alloc | apply Kd.V_drewN | apply Kd.V_drew)); exact HO163.out) hb); have n17_ := Aside0.mk (Kd.V_below (by (with_reducible repeat (first | apply Kd.V_alloc | apply Kd.V_drewN | apply Kd.V_drew)); exact HO167.out) hb); have n18_ := Aside0.mk (Kd.V_below (by (with_reducible repeat (first | apply Kd.V_alloc | apply Kd.V_drewN | apply Kd.V_drew)); exact HO172.out) hb); have n19_ := Aside0.mk (Kd.V_below (by (with_reducible repeat (first | apply Kd.V_alloc | apply Kd.V_drewN | apply Kd.V_drew)); exact HO176.out) hb); have n20_ := Aside0.mk (Kd.V_below (by (with_reducible repeat (first | apply Kd.V_alloc | apply Kd.V_drewN | apply Kd.V_drew)); exact HO180.out) hb); have n21_ := Aside0.mk (below_step (by repeat (first | (with_reducible first | exact HB.out | apply below_alloc | apply pw_below_drewN | apply below_drew1) | exact HB.out)) hb); clear HO103; clear HO106; clear HO109; clear HO112; clear HO116; clear HO120; clear HO124; clear HO128; clear HO131; clear HO134; clear HO139; clear HO142; clear HO145; clear HO148; clear HO152; clear HO155; clear HO163; clear HO167; clear HO172; clear HO176; clear HO180; clear HB; have HO103 := n0_; have HO106 := n1_; have HO109 := n2_; have HO112 := n3_; have HO116 := n4_; have HO120 := n5_; have HO124 := n6_; have HO128 := n7_; have HO131 := n8_; have HO134 := n9_; have HO139 := n10_; have HO142 := n11_; have HO145 := n12_; have HO148 := n13_; have HO152 := n14_; have HO155 := n15_; have HO163 := n16_; have HO167 := n17_; have HO172 := n18_; have HO176 := n19_; have HO180 := n20_; have HB := n21_; clear n0_ n1_ n2_ n3_ n4_ n5_ n6_ n7_ n8_ n9_ n10_ n11_ n12_ n13_ n14_ n15_ n16_ n17_ n18_ n19_ n20_ n21_; (try clear hb); (try clear hb2); (try clear hk); (try clear hi)))
                                              go_ret
                                              exact ⟨by first | rfl | (simp [errW_none, errW_some] <;> rfl) | (simp [*, errW_none, errW_some] <;> rfl), by repeat (first | (with_reducible first | exact HB.out | apply below_alloc | apply pw_below_drewN | apply below_drew1) | exact HB.out)⟩
                                            · rw [if_neg c73] at H
                                              have c73b0 : (t177 == 65) = false := beq_eq_false_iff_ne.mpr c73
                                              have c73b1 : (t177 != 65) = true := bne_iff_ne.mpr c73
                                              exact absurd H (by simp)
                                          · rw [if_neg c70] at H
                                            have c70b0 : (t173 == 1) = false := beq_eq_false_iff_ne.mpr c70
                                            have c70b1 : (t173 != 1) = true := bne_iff_ne.mpr c70
                                            exact absurd H (by simp)
                                        · rw [if_neg c67] at H
                                          have c67b0 : (t156 == 0) = false := beq_eq_false_iff_ne.mpr c67
                                          have c67b1 : (t156 != 0) = true := bne_iff_ne.mpr c67
                                          exact absurd H (by simp)
                                      · rw [if_neg c66] at H
                                        have c66b0 : (t169 == 1) = false := beq_eq_false_iff_ne.mpr c66
                                        have c66b1 : (t169 != 1) = true := bne_iff_ne.mpr c66
                                        exact absurd H (by simp)
                                    · rw [if_neg c64] at H
                                      have c64b0 : (t149 == 0) = false := beq_eq_false_iff_ne.mpr c64
                                      have c64b1 : (t149 != 0) = true := bne_iff_ne.mpr c64
                                      exact absurd H (by simp)
                                  · rw [if_neg c63] at H
                                    have c63b0 : (t168 == 0) = false := beq_eq_false_iff_ne.mpr c63
                                    have c63b1 : (t168 != 0) = true := bne_iff_ne.mpr c63
                                    exact absurd H (by simp)
                                · rw [if_neg c60] at H
                                  have c60b0 : (t164 == 0) = false := beq_eq_false_iff_ne.mpr c60
                                  have c60b1 : (t164 != 0) = true := bne_iff_ne.mpr c60
                                  exact absurd H (by simp)
                              · replace c57 := Bool.eq_false_iff.mpr c57
                                subst c57
                                have H1 : (some false) = some true := by rw [if_neg (show ¬ (false = true) by decide)] at H; first | done | exact H
                                clear H
                                have H := H1
                                clear H1
                                exact absurd H (by simp)
                            · rw [if_neg c56] at H
                              have c56b0 : (t135 == 6) = false := beq_eq_false_iff_ne.mpr c56
                              have c56b1 : (t135 != 6) = true := bne_iff_ne.mpr c56
                              exact absurd H (by simp)
                          · rw [if_neg c55] at H
                            have c55b0 : (t125 == 20) = false := beq_eq_false_iff_ne.mpr c55
                            have c55b1 : (t125 != 20) = true := bne_iff_ne.mpr c55
                            exact absurd H (by simp)
                        · rw [if_neg c54] at H
                          have c54b0 : (t121 == 0) = false := beq_eq_false_iff_ne.mpr c54
                          have c54b1 : (t121 != 0) = true := bne_iff_ne.mpr c54
                          exact absurd H (by simp)
                      · rw [if_neg c53] at H
                        have c53b0 : (t160.toList == ([49, 48, 48, 48] : List UInt8)) = false := beq_eq_false_iff_ne.mpr c53
                        have c53b1 : (t160.toList != ([49, 48, 48, 48] : List UInt8)) = true := bne_iff_ne.mpr c53
                        exact absurd H (by simp)
                    · rw [if_neg c51] at H
                      have c51b0 : (t117 == 0) = false := beq_eq_false_iff_ne.mpr c51
                      have c51b1 : (t117 != 0) = true := bne_iff_ne.mpr c51
                      exact absurd H (by simp)
                  · rw [if_neg c50] at H
                    have c50b0 : ((rd t114 4) == 1) = false := beq_eq_false_iff_ne.mpr c50
                    have c50b1 : ((rd t114 4) != 1) = true := bne_iff_ne.mpr c50
                    exact absurd H (by simp)
                · rw [if_neg c49] at H
                  exact absurd H (by simp)
              · rw [if_neg c48] at H
                have c48b0 : ((t114.length : Int) == 5) = false := beq_eq_false_iff_ne.mpr c48
                have c48b1 : ((t114.length : Int) != 5) = true := bne_iff_ne.mpr c48
                exact absurd H (by simp)
          · rw [if_neg c21] at H
            have c21b0 : ((rd t101 1) == 1) = false := beq_eq_false_iff_ne.mpr c21
            have c21b1 : ((rd t101 1) != 1) = true := bne_iff_ne.mpr c21
            exact absurd H (by simp)
        · rw [if_neg c20] at H
          exact absurd H (by simp)
      · rw [if_neg c19] at H
        have c19b0 : ((rd t101 0) == 0) = false := beq_eq_false_iff_ne.mpr c19
        have c19b1 : ((rd t101 0) != 0) = true := bne_iff_ne.mpr c19
        exact absurd H (by simp)
    · rw [if_neg c18] at H
      exact absurd H (by simp)
  · rw [if_neg c17] at H
    have c17b0 : ((t101.length : Int) == 2) = false := beq_eq_false_iff_ne.mpr c17
    have c17b1 : ((t101.length : Int) != 2) = true := bne_iff_ne.mpr c17
    exact absurd H (by simp)
def flyballlaw02_works.f (k : Nat) : Option (Bool) := if flyballlaw02_worksg.f k = some true then some true else none
theorem flyballlaw02_works.mono : ∀ k, LeO (flyballlaw02_works.f k) (flyballlaw02_works.f (k + 1)) := by
  intro k r h
  unfold flyballlaw02_works.f at h ⊢
  by_cases hg : flyballlaw02_worksg.f k = some true
  · rw [if_pos hg] at h
    rw [if_pos (flyballlaw02_worksg.mono k true hg)]
    exact h
  · rw [if_neg hg] at h; cases h
theorem flyballlaw02_works.calls (k : Nat) (r : Bool) (w : World) (h : flyballlaw02_works.f k = some r) :
    Calls Try.prog 23 #[] w fun e w' => e = .returned (.bool r) ∧ Below w.heap.size w w' := by
  unfold flyballlaw02_works.f at h
  by_cases hg : flyballlaw02_worksg.f k = some true
  · rw [if_pos hg] at h
    obtain rfl := Option.some.inj h
    exact flyballlaw02_worksg.calls k w hg
  · rw [if_neg hg] at h; cases h
end Go.Proofs.Ytagbnkbhobmgjaa.Fn
end
section
-- Written by a program of this session (a turned copy of the kit's printer, and hand-written parts). Not trusted: Lean checks it.
namespace Go.Proofs.Ytagbnkbhobmgjaa.Fn
open Go.RowKit Go.Proofs.YtagbnkbhobmgjaaW.PrintWords Go.Proofs.YtagbnkbhobmgjaaW.PrintLast Go.Proofs.YtagbnkbhobmgjaaW.PrintMore
attribute [local go_sem] max2_int min2_int max_two min_two max_three min_three max_four min_four   -- for this text's walks alone
set_option linter.unusedVariables false
set_option linter.unusedSimpArgs false
/-! ### flyballlaw02_NatShifts: function 5 -/
mutual
def flyballlaw02_NatShifts.j0 : Nat → List Int → Int → Int → Bool → List Bool → Bool → Int → Bool → Option (Bool)
  | 0, _, _, _, _, _, _, _, _ => none
  | k + 1, x0, x1, x2, x7, x9, x11, x12, x55 => if x55 = true then (flyballlaw02_NatShifts.j1 k x0 x1 x2 x7 x9 x11 1) else (flyballlaw02_NatShifts.j1 k x0 x1 x2 x7 x9 x11 x12)
def flyballlaw02_NatShifts.j1 : Nat → List Int → Int → Int → Bool → List Bool → Bool → Int → Option (Bool)
  | 0, _, _, _, _, _, _, _ => none
  | k + 1, x0, x1, x2, x7, x9, x11, x12 => (flyballref01_Words.f k x9 1).bind fun t119 => ((nat_Nat_Uint.f k x0).bind fun bt122 => (if (bt122.2 != (decide ((x9.length : Int) ≤ 64))) = true then (flyballlaw02_NatShifts.j2 k x0 x1 x7 x9 true) else (if bt122.2 = true then (if 0 < (t119.length : Int) then (if bt122.1 = (rd t119 0) then ((nat_Nat_Bit.f x0 x2).bind fun t125 => (if t125 = x12 then ((nat_Nat_Len.f k x0).bind fun t126 => (if t126 = (x9.length : Int) then (flyballlaw02_NatShifts.j2 k x0 x1 x7 x9 (!x11)) else (flyballlaw02_NatShifts.j2 k x0 x1 x7 x9 true))) else (flyballlaw02_NatShifts.j2 k x0 x1 x7 x9 true))) else (flyballlaw02_NatShifts.j2 k x0 x1 x7 x9 true)) else (none)) else (if bt122.1 = 0 then ((nat_Nat_Bit.f x0 x2).bind fun t127 => (if t127 = x12 then ((nat_Nat_Len.f k x0).bind fun t128 => (if t128 = (x9.length : Int) then (flyballlaw02_NatShifts.j2 k x0 x1 x7 x9 (!x11)) else (flyballlaw02_NatShifts.j2 k x0 x1 x7 x9 true))) else (flyballlaw02_NatShifts.j2 k x0 x1 x7 x9 true))) else (flyballlaw02_NatShifts.j2 k x0 x1 x7 x9 true)))))
def flyballlaw02_NatShifts.j2 : Nat → List Int → Int → Bool → List Bool → Bool → Option (Bool)
  | 0, _, _, _, _, _ => none
  | k + 1, x0, x1, x7, x9, x103 => if x103 = true then (some false) else ((nat_Nat_Shl.f k x0 x1).bind fun bt129 => (if (x9.length : Int) > 0 then (flyballlaw02_NatShifts.j3 k x1 x7 x9 bt129.1 bt129.2 (decide (x1 > (wrap64 (65536 - (x9.length : Int)))))) else (flyballlaw02_NatShifts.j3 k x1 x7 x9 bt129.1 bt129.2 false)))
def flyballlaw02_NatShifts.j3 : Nat → Int → Bool → List Bool → List Int → Int → Bool → Option (Bool)
  | 0, _, _, _, _, _, _ => none
  | k + 1, x1, x7, x9, x16, x17, x119 => if x119 = true then (if x7 = true then (if (x16.length : Int) = 0 then (some (x17 == 20)) else (some false)) else (some false)) else (if (x9.length : Int) = 0 then (if x7 = true then (if (x16.length : Int) = 0 then (some (x17 == 0)) else (some false)) else (some false)) else ((flyballref01_Shl.f k x9 (mx x1 0)).bind fun t133 => ((flyballref02_Is.f k x16 t133).bind fun t136 => (if x7 = true then (if t136 = true then (some (x17 == 0)) else (some false)) else (some false)))))
end
def flyballlaw02_NatShifts.f (k : Nat) (l0 : List Int) (a1 : Int) (a2 : Int) : Option (Bool) := (flyballlaw02_works.f k).bind fun t101 => (if t101 = true then ((flyballlaw02_small.f k (([l0] : List (List Int)))).bind fun t105 => (if t105 = true then ((flyballref02_Bits.f k l0).bind fun t106 => ((nat_Nat_Shr.f k l0 a1).bind fun t109 => (if 0 ≤ (mn (mx a1 0) (t106.length : Int)) then (if (mn (mx a1 0) (t106.length : Int)) ≤ (t106.length : Int) then ((flyballref02_Is.f k t109 (t106.drop ((mn (mx a1 0) (t106.length : Int)) : Int).toNat)).bind fun t117 => (if a2 ≥ 0 then (if a2 < (t106.length : Int) then (if 0 ≤ a2 then (flyballlaw02_NatShifts.j0 k l0 a1 a2 t101 t106 t117 0 (rdOf false t106 a2)) else (none)) else (flyballlaw02_NatShifts.j0 k l0 a1 a2 t101 t106 t117 0 false)) else (flyballlaw02_NatShifts.j0 k l0 a1 a2 t101 t106 t117 0 false))) else (none)) else (none)))) else (some t101))) else (some false))
theorem flyballlaw02_NatShifts.mono_l : ∀ k, (∀ y0 y1 y2 y3 y4 y5 y6 y7, LeO (flyballlaw02_NatShifts.j0 k y0 y1 y2 y3 y4 y5 y6 y7) (flyballlaw02_NatShifts.j0 (k + 1) y0 y1 y2 y3 y4 y5 y6 y7)) ∧ (∀ y0 y1 y2 y3 y4 y5 y6, LeO (flyballlaw02_NatShifts.j1 k y0 y1 y2 y3 y4 y5 y6) (flyballlaw02_NatShifts.j1 (k + 1) y0 y1 y2 y3 y4 y5 y6)) ∧ (∀ y0 y1 y2 y3 y4, LeO (flyballlaw02_NatShifts.j2 k y0 y1 y2 y3 y4) (flyballlaw02_NatShifts.j2 (k + 1) y0 y1 y2 y3 y4)) ∧ (∀ y0 y1 y2 y3 y4 y5, LeO (flyballlaw02_NatShifts.j3 k y0 y1 y2 y3 y4 y5) (flyballlaw02_NatShifts.j3 (k + 1) y0 y1 y2 y3 y4 y5))
  | 0 => ⟨fun _ _ _ _ _ _ _ _ r h => by simp [flyballlaw02_NatShifts.j0] at h, fun _ _ _ _ _ _ _ r h => by simp [flyballlaw02_NatShifts.j1] at h, fun _ _ _ _ _ r h => by simp [flyballlaw02_NatShifts.j2] at h, fun _ _ _ _ _ _ r h => by simp [flyballlaw02_NatShifts.j3] at h⟩
  | k + 1 => by
    obtain ⟨ih0, ih1, ih2, ih3⟩ := flyballlaw02_NatShifts.mono_l k
    refine ⟨?_, ?_, ?_, ?_⟩
    · intro y0 y1 y2 y3 y4 y5 y6 y7
      unfold flyballlaw02_NatShifts.j0
      repeat' first
      | (with_reducible exact ih0 _ _ _ _ _ _ _ _)
      | (with_reducible exact ih1 _ _ _ _ _ _ _)
      | (with_reducible exact ih2 _ _ _ _ _)
      | (with_reducible exact ih3 _ _ _ _ _ _)
      | (with_reducible exact flyballlaw02_small.mono _ _)
      | (with_reducible exact flyballlaw02_works.mono _)
      | (with_reducible exact flyballref01_Shl.mono _ _ _)
      | (with_reducible exact flyballref01_Words.mono _ _ _)
      | (with_reducible exact flyballref02_Bits.mono _ _)
      | (with_reducible exact flyballref02_Is.mono _ _ _)
      | (with_reducible exact nat_Nat_Len.mono _ _)
      | (with_reducible exact nat_Nat_Shl.mono _ _ _)
      | (with_reducible exact nat_Nat_Shr.mono _ _ _)
      | (with_reducible exact nat_Nat_Uint.mono _ _)
      | (with_reducible exact LeO.refl _)
      | (with_reducible exact LeO.none _)
      | (with_reducible refine LeO.ite ?_ ?_)
      | (with_reducible refine LeO.bind ?_ (fun _ => ?_))
      | exact ih0 _ _ _ _ _ _ _ _
      | exact ih1 _ _ _ _ _ _ _
      | exact ih2 _ _ _ _ _
      | exact ih3 _ _ _ _ _ _
      | exact flyballlaw02_small.mono _ _
      | exact flyballlaw02_works.mono _
      | exact flyballref01_Shl.mono _ _ _
      | exact flyballref01_Words.mono _ _ _
      | exact flyballref02_Bits.mono _ _
      | exact flyballref02_Is.mono _ _ _
      | exact nat_Nat_Len.mono _ _
      | exact nat_Nat_Shl.mono _ _ _
      | exact nat_Nat_Shr.mono _ _ _
      | exact nat_Nat_Uint.mono _ _
      | exact LeO.none _
      | refine LeO.ite ?_ ?_
      | refine LeO.bind ?_ (fun _ => ?_)
    · intro y0 y1 y2 y3 y4 y5 y6
      unfold flyballlaw02_NatShifts.j1
      repeat' first
      | (with_reducible exact ih0 _ _ _ _ _ _ _ _)
      | (with_reducible exact ih1 _ _ _ _ _ _ _)
      | (with_reducible exact ih2 _ _ _ _ _)
      | (with_reducible exact ih3 _ _ _ _ _ _)
      | (with_reducible exact flyballlaw02_small.mono _ _)
      | (with_reducible exact flyballlaw02_works.mono _)
      | (with_reducible exact flyballref01_Shl.mono _ _ _)
      | (with_reducible exact flyballref01_Words.mono _ _ _)
      | (with_reducible exact flyballref02_Bits.mono _ _)
      | (with_reducible exact flyballref02_Is.mono _ _ _)
      | (with_reducible exact nat_Nat_Len.mono _ _)
      | (with_reducible exact nat_Nat_Shl.mono _ _ _)
      | (with_reducible exact nat_Nat_Shr.mono _ _ _)
      | (with_reducible exact nat_Nat_Uint.mono _ _)
      | (with_reducible exact LeO.refl _)
      | (with_reducible exact LeO.none _)
      | (with_reducible refine LeO.ite ?_ ?_)
      | (with_reducible refine LeO.bind ?_ (fun _ => ?_))
      | exact ih0 _ _ _ _ _ _ _ _
      | exact ih1 _ _ _ _ _ _ _
      | exact ih2 _ _ _ _ _
      | exact ih3 _ _ _ _ _ _
      | exact flyballlaw02_small.mono _ _
      | exact flyballlaw02_works.mono _
      | exact flyballref01_Shl.mono _ _ _
      | exact flyballref01_Words.mono _ _ _
      | exact flyballref02_Bits.mono _ _
      | exact flyballref02_Is.mono _ _ _
      | exact nat_Nat_Len.mono _ _
      | exact nat_Nat_Shl.mono _ _ _
      | exact nat_Nat_Shr.mono _ _ _
      | exact nat_Nat_Uint.mono _ _
      | exact LeO.none _
      | refine LeO.ite ?_ ?_
      | refine LeO.bind ?_ (fun _ => ?_)
    · intro y0 y1 y2 y3 y4
      unfold flyballlaw02_NatShifts.j2
      repeat' first
      | (with_reducible exact ih0 _ _ _ _ _ _ _ _)
      | (with_reducible exact ih1 _ _ _ _ _ _ _)
      | (with_reducible exact ih2 _ _ _ _ _)
      | (with_reducible exact ih3 _ _ _ _ _ _)
      | (with_reducible exact flyballlaw02_small.mono _ _)
      | (with_reducible exact flyballlaw02_works.mono _)
      | (with_reducible exact flyballref01_Shl.mono _ _ _)
      | (with_reducible exact flyballref01_Words.mono _ _ _)
      | (with_reducible exact flyballref02_Bits.mono _ _)
      | (with_reducible exact flyballref02_Is.mono _ _ _)
      | (with_reducible exact nat_Nat_Len.mono _ _)
      | (with_reducible exact nat_Nat_Shl.mono _ _ _)
      | (with_reducible exact nat_Nat_Shr.mono _ _ _)
      | (with_reducible exact nat_Nat_Uint.mono _ _)
      | (with_reducible exact LeO.refl _)
      | (with_reducible exact LeO.none _)
      | (with_reducible refine LeO.ite ?_ ?_)
      | (with_reducible refine LeO.bind ?_ (fun _ => ?_))
      | exact ih0 _ _ _ _ _ _ _ _
      | exact ih1 _ _ _ _ _ _ _
      | exact ih2 _ _ _ _ _
      | exact ih3 _ _ _ _ _ _
      | exact flyballlaw02_small.mono _ _
      | exact flyballlaw02_works.mono _
      | exact flyballref01_Shl.mono _ _ _
      | exact flyballref01_Words.mono _ _ _
      | exact flyballref02_Bits.mono _ _
      | exact flyballref02_Is.mono _ _ _
      | exact nat_Nat_Len.mono _ _
      | exact nat_Nat_Shl.mono _ _ _
      | exact nat_Nat_Shr.mono _ _ _
      | exact nat_Nat_Uint.mono _ _
      | exact LeO.none _
      | refine LeO.ite ?_ ?_
      | refine LeO.bind ?_ (fun _ => ?_)
    · intro y0 y1 y2 y3 y4 y5
      unfold flyballlaw02_NatShifts.j3
      repeat' first
      | (with_reducible exact ih0 _ _ _ _ _ _ _ _)
      | (with_reducible exact ih1 _ _ _ _ _ _ _)
      | (with_reducible exact ih2 _ _ _ _ _)
      | (with_reducible exact ih3 _ _ _ _ _ _)
      | (with_reducible exact flyballlaw02_small.mono _ _)
      | (with_reducible exact flyballlaw02_works.mono _)
      | (with_reducible exact flyballref01_Shl.mono _ _ _)
      | (with_reducible exact flyballref01_Words.mono _ _ _)
      | (with_reducible exact flyballref02_Bits.mono _ _)
      | (with_reducible exact flyballref02_Is.mono _ _ _)
      | (with_reducible exact nat_Nat_Len.mono _ _)
      | (with_reducible exact nat_Nat_Shl.mono _ _ _)
      | (with_reducible exact nat_Nat_Shr.mono _ _ _)
      | (with_reducible exact nat_Nat_Uint.mono _ _)
      | (with_reducible exact LeO.refl _)
      | (with_reducible exact LeO.none _)
      | (with_reducible refine LeO.ite ?_ ?_)
      | (with_reducible refine LeO.bind ?_ (fun _ => ?_))
      | exact ih0 _ _ _ _ _ _ _ _
      | exact ih1 _ _ _ _ _ _ _
      | exact ih2 _ _ _ _ _
      | exact ih3 _ _ _ _ _ _
      | exact flyballlaw02_small.mono _ _
      | exact flyballlaw02_works.mono _
      | exact flyballref01_Shl.mono _ _ _
      | exact flyballref01_Words.mono _ _ _
      | exact flyballref02_Bits.mono _ _
      | exact flyballref02_Is.mono _ _ _
      | exact nat_Nat_Len.mono _ _
      | exact nat_Nat_Shl.mono _ _ _
      | exact nat_Nat_Shr.mono _ _ _
      | exact nat_Nat_Uint.mono _ _
      | exact LeO.none _
      | refine LeO.ite ?_ ?_
      | refine LeO.bind ?_ (fun _ => ?_)
theorem flyballlaw02_NatShifts.mono : ∀ a0 a1 a2 k, LeO (flyballlaw02_NatShifts.f k a0 a1 a2) (flyballlaw02_NatShifts.f (k + 1) a0 a1 a2) := by
  intro a0 a1 a2 k
  obtain ⟨ih0, ih1, ih2, ih3⟩ := flyballlaw02_NatShifts.mono_l k
  unfold flyballlaw02_NatShifts.f
  repeat' first
      | (with_reducible exact ih0 _ _ _ _ _ _ _ _)
      | (with_reducible exact ih1 _ _ _ _ _ _ _)
      | (with_reducible exact ih2 _ _ _ _ _)
      | (with_reducible exact ih3 _ _ _ _ _ _)
      | (with_reducible exact flyballlaw02_small.mono _ _)
      | (with_reducible exact flyballlaw02_works.mono _)
      | (with_reducible exact flyballref01_Shl.mono _ _ _)
      | (with_reducible exact flyballref01_Words.mono _ _ _)
      | (with_reducible exact flyballref02_Bits.mono _ _)
      | (with_reducible exact flyballref02_Is.mono _ _ _)
      | (with_reducible exact nat_Nat_Len.mono _ _)
      | (with_reducible exact nat_Nat_Shl.mono _ _ _)
      | (with_reducible exact nat_Nat_Shr.mono _ _ _)
      | (with_reducible exact nat_Nat_Uint.mono _ _)
      | (with_reducible exact LeO.refl _)
      | (with_reducible exact LeO.none _)
      | (with_reducible refine LeO.ite ?_ ?_)
      | (with_reducible refine LeO.bind ?_ (fun _ => ?_))
      | exact ih0 _ _ _ _ _ _ _ _
      | exact ih1 _ _ _ _ _ _ _
      | exact ih2 _ _ _ _ _
      | exact ih3 _ _ _ _ _ _
      | exact flyballlaw02_small.mono _ _
      | exact flyballlaw02_works.mono _
      | exact flyballref01_Shl.mono _ _ _
      | exact flyballref01_Words.mono _ _ _
      | exact flyballref02_Bits.mono _ _
      | exact flyballref02_Is.mono _ _ _
      | exact nat_Nat_Len.mono _ _
      | exact nat_Nat_Shl.mono _ _ _
      | exact nat_Nat_Shr.mono _ _ _
      | exact nat_Nat_Uint.mono _ _
      | exact LeO.none _
      | refine LeO.ite ?_ ?_
      | refine LeO.bind ?_ (fun _ => ?_)
def flyballlaw02_NatShifts.T9 : Bool × List (List Nat × List Nat) := (true, [([], []), ([], []), ([0, 1], [0, 1]), ([], []), ([], []), ([3, 4], [3, 4]), ([2, 5, 2], [2, 5]), ([6, 6, 0, 1, 2, 3, 4, 5, 6], [6])])
def flyballlaw02_NatShifts.B9 : List Nat := [0, 0, 3, 0, 0, 24, 63, 127]
theorem flyballlaw02_NatShifts.tab9 : rtab .any (opsOf Try.f5 9) = flyballlaw02_NatShifts.T9 := by kernel_rfl
theorem flyballlaw02_NatShifts.bits9 : waitsOk flyballlaw02_NatShifts.T9.2 flyballlaw02_NatShifts.B9 = true := by kernel_rfl
set_option maxHeartbeats 8000000 in
set_option maxRecDepth 100000 in
theorem flyballlaw02_NatShifts.calls (k : Nat) (P0_ : Nat → Prop) (A0 : Option Addr) (c0 : Nat) (l0 : List Int) (a1 : Int) (a2 : Int) (r : Bool) (w : World) (hs0 : Kd.V (Kd.int .u32) 118 w w.heap.size (fun k_ => P0_ k_) (.slice A0 l0.length c0) l0) (h : flyballlaw02_NatShifts.f k l0 a1 a2 = some r) :
    Calls Try.prog 5 #[.slice A0 l0.length c0, .int .i64 a1, .int .i64 a2] w fun e w' => e = .returned (.bool r) ∧ Below w.heap.size w w' := by
  have HO0 := Aside0.mk (show Kd.V (Kd.int .u32) 118 w w.heap.size (fun k_ => (P0_ k_ ∨ w.heap.size ≤ k_)) (.slice A0 l0.length c0) l0 from Kd.V_mono hs0 (fun k_ hk => .inl hk))
  have HB := Aside0.mk (Below.refl w.heap.size w)
  have H : ((flyballlaw02_works.f k).bind fun t101 => (if t101 = true then ((flyballlaw02_small.f k (([l0] : List (List Int)))).bind fun t105 => (if t105 = true then ((flyballref02_Bits.f k l0).bind fun t106 => ((nat_Nat_Shr.f k l0 a1).bind fun t109 => (if 0 ≤ (mn (mx a1 0) (t106.length : Int)) then (if (mn (mx a1 0) (t106.length : Int)) ≤ (t106.length : Int) then ((flyballref02_Is.f k t109 (t106.drop ((mn (mx a1 0) (t106.length : Int)) : Int).toNat)).bind fun t117 => (if a2 ≥ 0 then (if a2 < (t106.length : Int) then (if 0 ≤ a2 then (flyballlaw02_NatShifts.j0 k l0 a1 a2 t101 t106 t117 0 (rdOf false t106 a2)) else (none)) else (flyballlaw02_NatShifts.j0 k l0 a1 a2 t101 t106 t117 0 false)) else (flyballlaw02_NatShifts.j0 k l0 a1 a2 t101 t106 t117 0 false))) else (none)) else (none)))) else (some t101))) else (some false))) = some r := h
  clear h
  replace H := Option.bind_eq_some_iff.mp H
  obtain ⟨t101, A40, H⟩ := H
  replace H : (if t101 = true then ((flyballlaw02_small.f k (([l0] : List (List Int)))).bind fun t105 => (if t105 = true then ((flyballref02_Bits.f k l0).bind fun t106 => ((nat_Nat_Shr.f k l0 a1).bind fun t109 => (if 0 ≤ (mn (mx a1 0) (t106.length : Int)) then (if (mn (mx a1 0) (t106.length : Int)) ≤ (t106.length : Int) then ((flyballref02_Is.f k t109 (t106.drop ((mn (mx a1 0) (t106.length : Int)) : Int).toNat)).bind fun t117 => (if a2 ≥ 0 then (if a2 < (t106.length : Int) then (if 0 ≤ a2 then (flyballlaw02_NatShifts.j0 k l0 a1 a2 t101 t106 t117 0 (rdOf false t106 a2)) else (none)) else (flyballlaw02_NatShifts.j0 k l0 a1 a2 t101 t106 t117 0 false)) else (flyballlaw02_NatShifts.j0 k l0 a1 a2 t101 t106 t117 0 false))) else (none)) else (none)))) else (some t101))) else (some false)) = some r := H
  have A4 := Aside0.mk A40
  clear A40
  by_cases c5 : t101 = true
  · subst c5
    have H1 : ((flyballlaw02_small.f k (([l0] : List (List Int)))).bind fun t105 => (if t105 = true then ((flyballref02_Bits.f k l0).bind fun t106 => ((nat_Nat_Shr.f k l0 a1).bind fun t109 => (if 0 ≤ (mn (mx a1 0) (t106.length : Int)) then (if (mn (mx a1 0) (t106.length : Int)) ≤ (t106.length : Int) then ((flyballref02_Is.f k t109 (t106.drop ((mn (mx a1 0) (t106.length : Int)) : Int).toNat)).bind fun t117 => (if a2 ≥ 0 then (if a2 < (t106.length : Int) then (if 0 ≤ a2 then (flyballlaw02_NatShifts.j0 k l0 a1 a2 true t106 t117 0 (rdOf false t106 a2)) else (none)) else (flyballlaw02_NatShifts.j0 k l0 a1 a2 true t106 t117 0 false)) else (flyballlaw02_NatShifts.j0 k l0 a1 a2 true t106 t117 0 false))) else (none)) else (none)))) else (some true))) = some r := by rw [if_pos rfl] at H; exact H
    clear H
    have H := H1
    clear H1
    obtain ⟨y102, hy102⟩ : ∃ y_ : List (List Int), y_ = (([l0] : List (List Int))) := ⟨_, rfl⟩
    replace H : ((flyballlaw02_small.f k y102).bind fun t105 => (if t105 = true then ((flyballref02_Bits.f k l0).bind fun t106 => ((nat_Nat_Shr.f k l0 a1).bind fun t109 => (if 0 ≤ (mn (mx a1 0) (t106.length : Int)) then (if (mn (mx a1 0) (t106.length : Int)) ≤ (t106.length : Int) then ((flyballref02_Is.f k t109 (t106.drop ((mn (mx a1 0) (t106.length : Int)) : Int).toNat)).bind fun t117 => (if a2 ≥ 0 then (if a2 < (t106.length : Int) then (if 0 ≤ a2 then (flyballlaw02_NatShifts.j0 k l0 a1 a2 true t106 t117 0 (rdOf false t106 a2)) else (none)) else (flyballlaw02_NatShifts.j0 k l0 a1 a2 true t106 t117 0 false)) else (flyballlaw02_NatShifts.j0 k l0 a1 a2 true t106 t117 0 false))) else (none)) else (none)))) else (some true))) = some r := by first | (rw [hy102]; with_reducible exact H) | (have H2_ := (Option.bind_some _ _).symm.trans H; rw [hy102]; with_reducible exact H2_) | (have H2_ := (Option.bind_some _ _).symm.trans H; with_reducible exact H2_) | with_reducible exact H | (rw [hy102]; exact H) | exact H
    have Ny102 := Aside0.mk hy102
    clear hy102
    replace H := Option.bind_eq_some_iff.mp H
    obtain ⟨t105, A60, H⟩ := H
    replace H : (if t105 = true then ((flyballref02_Bits.f k l0).bind fun t106 => ((nat_Nat_Shr.f k l0 a1).bind fun t109 => (if 0 ≤ (mn (mx a1 0) (t106.length : Int)) then (if (mn (mx a1 0) (t106.length : Int)) ≤ (t106.length : Int) then ((flyballref02_Is.f k t109 (t106.drop ((mn (mx a1 0) (t106.length : Int)) : Int).toNat)).bind fun t117 => (if a2 ≥ 0 then (if a2 < (t106.length : Int) then (if 0 ≤ a2 then (flyballlaw02_NatShifts.j0 k l0 a1 a2 true t106 t117 0 (rdOf false t106 a2)) else (none)) else (flyballlaw02_NatShifts.j0 k l0 a1 a2 true t106 t117 0 false)) else (flyballlaw02_NatShifts.j0 k l0 a1 a2 true t106 t117 0 false))) else (none)) else (none)))) else (some true)) = some r := H
    have A6 := Aside0.mk A60
    clear A60
    by_cases c7 : t105 = true
    · subst c7
      have H1 : ((flyballref02_Bits.f k l0).bind fun t106 => ((nat_Nat_Shr.f k l0 a1).bind fun t109 => (if 0 ≤ (mn (mx a1 0) (t106.length : Int)) then (if (mn (mx a1 0) (t106.length : Int)) ≤ (t106.length : Int) then ((flyballref02_Is.f k t109 (t106.drop ((mn (mx a1 0) (t106.length : Int)) : Int).toNat)).bind fun t117 => (if a2 ≥ 0 then (if a2 < (t106.length : Int) then (if 0 ≤ a2 then (flyballlaw02_NatShifts.j0 k l0 a1 a2 true t106 t117 0 (rdOf false t106 a2)) else (none)) else (flyballlaw02_NatShifts.j0 k l0 a1 a2 true t106 t117 0 false)) else (flyballlaw02_NatShifts.j0 k l0 a1 a2 true t106 t117 0 false))) else (none)) else (none)))) = some r := by rw [if_pos rfl] at H; exact H
      clear H
      have H := H1
      clear H1
      replace H := Option.bind_eq_some_iff.mp H
      obtain ⟨t106, A80, H⟩ := H
      replace H : ((nat_Nat_Shr.f k l0 a1).bind fun t109 => (if 0 ≤ (mn (mx a1 0) (t106.length : Int)) then (if (mn (mx a1 0) (t106.length : Int)) ≤ (t106.length : Int) then ((flyballref02_Is.f k t109 (t106.drop ((mn (mx a1 0) (t106.length : Int)) : Int).toNat)).bind fun t117 => (if a2 ≥ 0 then (if a2 < (t106.length : Int) then (if 0 ≤ a2 then (flyballlaw02_NatShifts.j0 k l0 a1 a2 true t106 t117 0 (rdOf false t106 a2)) else (none)) else (flyballlaw02_NatShifts.j0 k l0 a1 a2 true t106 t117 0 false)) else (flyballlaw02_NatShifts.j0 k l0 a1 a2 true t106 t117 0 false))) else (none)) else (none))) = some r := H
      have A8 := Aside0.mk A80
      clear A80
      obtain ⟨ji9, hji9⟩ : ∃ j_ : Int, (mx a1 0) = j_ := ⟨_, rfl⟩
      replace H : ((nat_Nat_Shr.f k l0 a1).bind fun t109 => (if 0 ≤ (mn (ji9) (t106.length : Int)) then (if (mn (ji9) (t106.length : Int)) ≤ (t106.length : Int) then ((flyballref02_Is.f k t109 (t106.drop ((mn (ji9) (t106.length : Int)) : Int).toNat)).bind fun t117 => (if a2 ≥ 0 then (if a2 < (t106.length : Int) then (if 0 ≤ a2 then (flyballlaw02_NatShifts.j0 k l0 a1 a2 true t106 t117 0 (rdOf false t106 a2)) else (none)) else (flyballlaw02_NatShifts.j0 k l0 a1 a2 true t106 t117 0 false)) else (flyballlaw02_NatShifts.j0 k l0 a1 a2 true t106 t117 0 false))) else (none)) else (none))) = some r := by first | (rw [hji9] at H; exact H) | (simp only [hji9] at H ⊢; exact H)
      (try rw [hji9] at A4)
      (try rw [hji9] at A6)
      (try rw [hji9] at A8)
      (try (have hji9l : 0 ≤ ji9 := by (rw [← hji9]; unfold mx; (repeat' split) <;> omega)))
      (try (have hji9m : 0 ≤ ji9 := by omega))
      have hji9_ : (if a1 < 0 then 0 else a1) = ji9 := hji9
      obtain ⟨ji10, hji10⟩ : ∃ j_ : Int, (mn (ji9) (t106.length : Int)) = j_ := ⟨_, rfl⟩
      replace H : ((nat_Nat_Shr.f k l0 a1).bind fun t109 => (if 0 ≤ (ji10) then (if (ji10) ≤ (t106.length : Int) then ((flyballref02_Is.f k t109 (t106.drop ((ji10) : Int).toNat)).bind fun t117 => (if a2 ≥ 0 then (if a2 < (t106.length : Int) then (if 0 ≤ a2 then (flyballlaw02_NatShifts.j0 k l0 a1 a2 true t106 t117 0 (rdOf false t106 a2)) else (none)) else (flyballlaw02_NatShifts.j0 k l0 a1 a2 true t106 t117 0 false)) else (flyballlaw02_NatShifts.j0 k l0 a1 a2 true t106 t117 0 false))) else (none)) else (none))) = some r := by first | (rw [hji10] at H; exact H) | (simp only [hji10] at H ⊢; exact H)
      (try rw [hji10] at A4)
      (try rw [hji10] at A6)
      (try rw [hji10] at A8)
      have hji10_ : (if (t106.length : Int) < (ji9) then (t106.length : Int) else (ji9)) = ji10 := hji10
      replace H := Option.bind_eq_some_iff.mp H
      obtain ⟨t109, A110, H⟩ := H
      replace H : (if 0 ≤ (ji10) then (if (ji10) ≤ (t106.length : Int) then ((flyballref02_Is.f k t109 (t106.drop ((ji10) : Int).toNat)).bind fun t117 => (if a2 ≥ 0 then (if a2 < (t106.length : Int) then (if 0 ≤ a2 then (flyballlaw02_NatShifts.j0 k l0 a1 a2 true t106 t117 0 (rdOf false t106 a2)) else (none)) else (flyballlaw02_NatShifts.j0 k l0 a1 a2 true t106 t117 0 false)) else (flyballlaw02_NatShifts.j0 k l0 a1 a2 true t106 t117 0 false))) else (none)) else (none)) = some r := H
      have A11 := Aside0.mk A110
      clear A110
      by_cases c12 : 0 ≤ (ji10)
      · rw [if_pos c12] at H
        have c12b0 := eq_true c12
        have c12b1 : decide (0 ≤ (ji10)) = true := decide_eq_true c12
        clear c12
        by_cases c13 : (ji10) ≤ (t106.length : Int)
        · rw [if_pos c13] at H
          have c13b0 := eq_true c13
          have c13b1 : decide ((ji10) ≤ (t106.length : Int)) = true := decide_eq_true c13
          clear c13
          obtain ⟨y112, hy112⟩ : ∃ y_ : List Bool, y_ = (t106.drop ((ji10) : Int).toNat) := ⟨_, rfl⟩
          replace H : ((flyballref02_Is.f k t109 y112).bind fun t117 => (if a2 ≥ 0 then (if a2 < (t106.length : Int) then (if 0 ≤ a2 then (flyballlaw02_NatShifts.j0 k l0 a1 a2 true t106 t117 0 (rdOf false t106 a2)) else (none)) else (flyballlaw02_NatShifts.j0 k l0 a1 a2 true t106 t117 0 false)) else (flyballlaw02_NatShifts.j0 k l0 a1 a2 true t106 t117 0 false))) = some r := by first | (rw [hy112]; with_reducible exact H) | (have H2_ := (Option.bind_some _ _).symm.trans H; rw [hy112]; with_reducible exact H2_) | (have H2_ := (Option.bind_some _ _).symm.trans H; with_reducible exact H2_) | with_reducible exact H | (rw [hy112]; exact H) | exact H
          have Ny112 := Aside0.mk hy112
          clear hy112
          replace H := Option.bind_eq_some_iff.mp H
          obtain ⟨t117, A140, H⟩ := H
          replace H : (if a2 ≥ 0 then (if a2 < (t106.length : Int) then (if 0 ≤ a2 then (flyballlaw02_NatShifts.j0 k l0 a1 a2 true t106 t117 0 (rdOf false t106 a2)) else (none)) else (flyballlaw02_NatShifts.j0 k l0 a1 a2 true t106 t117 0 false)) else (flyballlaw02_NatShifts.j0 k l0 a1 a2 true t106 t117 0 false)) = some r := H
          have A14 := Aside0.mk A140
          clear A140
          have HC15 := Aside0.mk H
          clear H
          go_enter Try.func5, Try.ntmps5
          try go_wp2_with (first | ((with_reducible refine gate_callee (f := 23) rfl ?_); refine goesL_ (some 19) rfl rfl Try.func23 (by kernel_rfl) rfl #[] rfl (by (try simp only [List.map_toArray, List.map_cons, List.map_nil]); first | done | rfl | (simp only [List.length_drop, List.length_take]; rfl)) ?_; (with_reducible refine (flyballlaw02_works.calls k  true _ A4.out).mono ?_); rintro e w16 ⟨rfl, hb⟩; refine ⟨_, rfl, ?_⟩; have n0_ := Aside0.mk (Kd.V_below (by (with_reducible repeat (first | apply Kd.V_alloc | apply Kd.V_drewN | apply Kd.V_drew)); exact HO0.out) hb); have n1_ := Aside0.mk (below_step (by repeat (first | (with_reducible first | exact HB.out | apply below_alloc | apply pw_below_drewN | apply below_drew1) | exact HB.out)) hb); clear HO0; clear HB; have HO0 := n0_; have HB := n1_; clear n0_ n1_; (try clear hb); (try clear hb2); (try clear hk); (try clear hi)) | ((with_reducible refine gate_dst (N := 23) rfl ?_); (try (refine gate_guard (by rfl) ?_; dsimp only)); refine Kd.N_lit (Kd.slice 118 (Kd.int .u32)) _ 23 ?hg (N' := 23) ?hd (xs := ([l0] : List (List Int))) (inner := [.slice A0 l0.length c0]) (ok := (fun k_ => (P0_ k_ ∨ w.heap.size ≤ k_))) (okp := (fun k_ => (P0_ k_ ∨ w.heap.size ≤ k_))) ?hr ?hp (fun _ hk => hk) ((show ∀ k_, w16.heap.size ≤ k_ → (fun k_ => (P0_ k_ ∨ w.heap.size ≤ k_)) k_ from fun k_ hk => (.inr (Nat.le_trans (below_size (by repeat (first | (with_reducible first | exact HB.out | apply below_alloc | apply pw_below_drewN | apply below_drew1) | exact HB.out))) hk))) _ (Nat.le_refl _)) (Below.refl _ _) (Nat.le_refl _) (by simp) ?_; (case hd => rfl); (case hg => rfl); (case hr => first | (go_simp; done) | (go_simp; rfl)); (case hp => exact (Reps.one (show Kd.FK (Kd.slice 118 (Kd.int .u32)) _ _ l0 [.slice A0 l0.length c0] from (Kd.FK_slice_mk (Kd.V_reads' (Kd.V_mono (ok' := (fun k_ => (P0_ k_ ∨ w.heap.size ≤ k_))) (HO0.out) (fun k_ hk => hk))).2.1 (Kd.V_F (Kd.V_mono (ok' := (fun k_ => (P0_ k_ ∨ w.heap.size ≤ k_))) (HO0.out) (fun k_ hk => hk))))) (Reps.none _ _))); intro v103 w17 ho18 hb hg_ hnew_; clear hg_ hnew_; (first | rw [← Ny102.out] at ho18 | (simp only [Int.reduceToNat] at ho18; rw [← Ny102.out] at ho18)); have n0_ := Aside0.mk (Kd.V_elder' (by (with_reducible repeat (first | apply Kd.V_alloc | apply Kd.V_drewN | apply Kd.V_drew)); exact HO0.out) (Kd.N_base ho18) hb); have n1_ := Aside0.mk (Kd.N_lower ho18 (below_size (by repeat (first | (with_reducible first | exact HB.out | apply below_alloc | apply pw_below_drewN | apply below_drew1) | exact HB.out)))); have n2_ := Aside0.mk (below_step (by repeat (first | (with_reducible first | exact HB.out | apply below_alloc | apply pw_below_drewN | apply below_drew1) | exact HB.out)) hb); clear HO0; clear HB; have HO0 := n0_; have HO104 := n1_; have HB := n2_; clear n0_ n1_ n2_; clear hb ho18; obtain ⟨Ao19, co19, eo19⟩ := Kd.N_slice HO104.out; subst eo19) | ((with_reducible refine gate_callee (f := 24) rfl ?_); refine goesL_ (some 24) rfl rfl Try.func24 (by kernel_rfl) rfl #[.slice Ao19 y102.length co19] rfl (by (try simp only [List.map_toArray, List.map_cons, List.map_nil]); first | done | rfl | (simp only [List.length_drop, List.length_take]; rfl)) ?_; (with_reducible refine (flyballlaw02_small.calls k _ _ y102 true _ ?side1 ?side2 A6.out).mono ?_); (case side1 => repeat (first | exact (Kd.N_reads' HO104.out).2.2 | (with_reducible refine Kd.C_alloc ?_ _) | (with_reducible refine Kd.C_drewN ?_ _) | (with_reducible refine Kd.C_drew ?_))); (case side2 => exact (Kd.N_reads' HO104.out).2.1); rintro e w' ⟨rfl, ⟨nd, rfl⟩⟩; refine ⟨_, rfl, ?_⟩) | ((with_reducible refine gate_callee (f := 25) rfl ?_); refine goesL_ (some 29) rfl rfl Try.func25 (by kernel_rfl) rfl #[.slice A0 l0.length c0] rfl (by (try simp only [List.map_toArray, List.map_cons, List.map_nil]); first | done | rfl | (simp only [List.length_drop, List.length_take]; rfl)) ?_; (with_reducible refine (flyballref02_Bits.calls k _ _ l0 t106 _ ?side1 ?side2 A8.out).mono ?_); (case side1 => repeat (first | exact (Kd.V_reads' HO0.out).2.2 | (with_reducible refine Kd.C_alloc ?_ _) | (with_reducible refine Kd.C_drewN ?_ _) | (with_reducible refine Kd.C_drew ?_))); (case side2 => exact (Kd.V_reads' HO0.out).2.1); rintro e w20 ⟨v107, rfl, ho0, hb⟩; refine ⟨_, rfl, ?_⟩; have n0_ := Aside0.mk (Kd.V_elder' (by (with_reducible repeat (first | apply Kd.V_alloc | apply Kd.V_drewN | apply Kd.V_drew)); exact HO0.out) (Kd.R_base ho0) hb); have n1_ := Aside0.mk (Kd.N_elder' (by (with_reducible repeat (first | apply Kd.N_alloc | apply Kd.N_drewN | apply Kd.N_drew)); exact HO104.out) (Kd.R_base ho0) hb); have n2_ := Aside0.mk (Kd.R_lower (Kd.R_newM (M := fun k_ => (w.heap.size ≤ k_)) ho0 (below_size (by repeat (first | (with_reducible first | exact HB.out | apply below_alloc | apply pw_below_drewN | apply below_drew1) | exact HB.out))) (fun k_ h_ => h_)) (below_size (by repeat (first | (with_reducible first | exact HB.out | apply below_alloc | apply pw_below_drewN | apply below_drew1) | exact HB.out)))); have n3_ := Aside0.mk (below_step (by repeat (first | (with_reducible first | exact HB.out | apply below_alloc | apply pw_below_drewN | apply below_drew1) | exact HB.out)) hb); clear HO0; clear HO104; clear HB; have HO0 := n0_; have HO104 := n1_; have HO108 := n2_; have HB := n3_; clear n0_ n1_ n2_ n3_; (try clear hb); (try clear hb2); (try clear hk); (try clear hi); (try clear ho0); obtain ⟨Ao21, co21, eo21⟩ := Kd.R_slice HO108.out; subst eo21))
          have n0_ := Aside0.mk (Kd.V_drew HO0.out)
          have n1_ := Aside0.mk (Kd.N_drew HO104.out)
          have n2_ := Aside0.mk (Kd.R_drew HO108.out)
          have n3_ := Aside0.mk (below_drew1 HB.out)
          clear HO0
          clear HO104
          clear HO108
          clear HB
          have HO0 := n0_
          have HO104 := n1_
          have HO108 := n2_
          have HB := n3_
          clear n0_ n1_ n2_ n3_
          have q23 : ((ji10) : Int) ≤ ((t106.length : Int) : Int) := of_decide_eq_true (by first | (with_reducible assumption) | assumption)
          obtain ⟨i023, hi023, _, hsz23, _⟩ := info_parts info4
          have hroom23 : t106.length ≤ co21 := (Kd.R_reads' HO108.out).2.1
          have hC23 : Kd.F Kd.bool _ _ Ao21 t106.length t106 := (Kd.V_at (base := w.heap.size) (Kd.V_mono (ok' := (fun k_ => (((P0_ k_ ∨ w.heap.size ≤ k_) ∧ True) ∧ some k_ ≠ (.slice Ao19 y102.length co19 : Value).ownBlock))) (Kd.R_V (Kd.R_apart' (HO108.out) (Kd.N_typed HO104.out) (by decide))) (fun k_ hk => ⟨⟨(.inr (hk.1.1)), trivial⟩, hk.2⟩))).2.2
          have q023 : (0 : Int) ≤ ((ji10) : Int) := of_decide_eq_true (by first | (with_reducible assumption) | assumption)
          have hcut23 := cut_from (P := Try.prog) 26 4 .i64 Try.underlying26 hi023 1 hsz23 Ao21 t106.length co21 (ji10) q023 q23
          have hr23 := Kd.F_cut (m := ((ji10) : Int).toNat) (c := co21) hC23 (by omega) hroom23
          obtain ⟨A23, hA23⟩ : ∃ A1, A1 = (if co21 = ((ji10) : Int).toNat then Ao21 else (Ao21 : Option Addr).map (·.add (((ji10) : Int).toNat * 1))) := ⟨_, rfl⟩
          obtain ⟨c23, hc23⟩ : ∃ c1, c1 = co21 - ((ji10) : Int).toNat := ⟨_, rfl⟩
          have hy23 : y112.length = t106.length - ((ji10) : Int).toNat := (by rw [Ny112.out, List.length_drop] <;> omega)
          rw [show (t106).drop ((ji10) : Int).toNat = y112 from Ny112.out.symm] at hr23
          replace hr23 : Kd.F Kd.bool _ _ A23 y112.length y112 := (by rw [hA23]; exact hr23)
          rw [← hy23, ← hA23, ← hc23] at hcut23
          have HO116 := Aside0.mk (show Kd.V Kd.bool 4 _ w.heap.size _ (.slice A23 y112.length c23) y112 from Kd.V_mk (by rw [hy23, hc23]; exact Nat.sub_le_sub_right hroom23 _) hr23)
          have HC116 := Aside0.mk (show y112.length ≤ c23 from by rw [hy23, hc23]; exact Nat.sub_le_sub_right hroom23 _)
          clear hr23 hC23 hroom23 hi023 hsz23 hc23
          have KY23 := Aside0.mk hy23
          have KA23 := Aside0.mk hA23
          clear hy23 hA23
          replace q23 := eq_true q23
          refine start_ (n := 8) (S := fun w' => True) (ds := []) #[false, false, false, false, false, false, false, false] (by kernel_rfl) rfl rfl trivial (fun hHeld => ?_); refine with_tabW flyballlaw02_NatShifts.tab9 flyballlaw02_NatShifts.bits9 (fun HT_ HW_ => ?_)
          generalize w20.drew = w22 at HO0 HO104 HO108 HB HO116 hHeld ⊢
          refine pure_ (i := 0) (N := some 35) (v := ?_) (a' := ?_) #[true, false, false, false, false, false, false, false] rfl rfl (any_of HT_.out (by kernel_rfl)) (fun _ _ _ h => h) (Or.inl ⟨by rfl, ?_⟩) ?_ ?_
          rotate_left
          · intro w'
            go_simp
            with_reducible rfl
          rotate_left
          · simp only [Act.put, List.setIfInBounds_toArray, List.set_cons_zero, List.set_cons_succ, i64_w, i32_w]
            rfl
          refine pure_ (i := 1) (N := some 36) (v := ?_) (a' := ?_) #[true, true, false, false, false, false, false, false] rfl rfl (any_of HT_.out (by kernel_rfl)) (fun _ _ _ h => h) (Or.inl ⟨by rfl, ?_⟩) ?_ ?_
          rotate_left
          · intro w'
            go_simp
            with_reducible rfl
          rotate_left
          · simp only [Act.put, List.setIfInBounds_toArray, List.set_cons_zero, List.set_cons_succ, i64_w, i32_w]
            rfl
          refine pure_ (i := 3) (N := some 38) (v := ?_) (a' := ?_) #[true, true, false, true, false, false, false, false] rfl rfl (any_of HT_.out (by kernel_rfl)) (fun _ _ _ h => h) (Or.inl ⟨by rfl, ?_⟩) ?_ ?_
          rotate_left
          · intro w'
            go_simp
            with_reducible rfl
          rotate_left
          · simp only [Act.put, List.setIfInBounds_toArray, List.set_cons_zero, List.set_cons_succ, i64_w, i32_w]
            rfl
          refine pure_ (i := 4) (N := some 39) (v := ?_) (a' := ?_) #[true, true, false, true, true, false, false, false] rfl rfl (any_of HT_.out (by kernel_rfl)) (fun _ _ _ h => h) (Or.inl ⟨by rfl, ?_⟩) ?_ ?_
          rotate_left
          · intro w'
            go_simp
            with_reducible rfl
          rotate_left
          · simp only [Act.put, List.setIfInBounds_toArray, List.set_cons_zero, List.set_cons_succ, i64_w, i32_w]
            rfl
          refine pure_ (i := 5) (N := some 40) (v := ?_) (a' := ?_) #[true, true, false, true, true, true, false, false] rfl rfl (any_of HT_.out (by kernel_rfl)) (fun _ _ _ h => h) (Or.inl ⟨by rfl, ?_⟩) ?_ ?_
          rotate_left
          · intro w'
            go_simp
            with_reducible rfl
          rotate_left
          · simp only [Act.put, List.setIfInBounds_toArray, List.set_cons_zero, List.set_cons_succ, i64_w, i32_w]
            rfl
          refine one_ (i := 2) (N := some 37) #[true, true, true, true, true, true, false, false] rfl rfl (one_of HT_.out (by kernel_rfl)) (by decide) (fun K hK => ?_)
          refine goes_ Try.func39 (by kernel_rfl) rfl #[.slice A0 l0.length c0, .int .i64 a1] (by rfl) rfl rfl (by (try simp only [List.map_toArray, List.map_cons, List.map_nil]); first | done | rfl | (simp only [List.length_drop, List.length_take]; rfl)) ?_
          with_reducible refine (nat_Nat_Shr.calls k _ _ l0 a1 t109 _ ?side1 ?side2 A11.out).mono ?_
          (case side1 => repeat (first | exact (Kd.V_reads' HO0.out).2.2 | (with_reducible refine Kd.C_alloc ?_ _) | (with_reducible refine Kd.C_drewN ?_ _) | (with_reducible refine Kd.C_drew ?_)))
          (case side2 => exact (Kd.V_reads' HO0.out).2.1)
          rintro e w24 ⟨v110, rfl, ho0, hb⟩
          refine ⟨_, rfl, ?_⟩
          have n0_ := Aside0.mk (Kd.V_below (by (with_reducible repeat (first | apply Kd.V_alloc | apply Kd.V_drewN | apply Kd.V_drew)); exact HO0.out) hb)
          have n1_ := Aside0.mk (Kd.N_below (by (with_reducible repeat (first | apply Kd.N_alloc | apply Kd.N_drewN | apply Kd.N_drew)); exact HO104.out) hb)
          have n2_ := Aside0.mk (Kd.R_below (by (with_reducible repeat (first | apply Kd.R_alloc | apply Kd.R_drewN | apply Kd.R_drew)); exact HO108.out) hb)
          have n3_ := Aside0.mk (Kd.V_below (by (with_reducible repeat (first | apply Kd.V_alloc | apply Kd.V_drewN | apply Kd.V_drew)); exact HO116.out) hb)
          have n4_ := Aside0.mk (Kd.V_lower (Kd.V_mono (ok' := fun k_ => (P0_ k_ ∨ w.heap.size ≤ k_) ∧ some k_ ≠ (.slice Ao19 y102.length co19 : Value).ownBlock ∧ some k_ ≠ (.slice Ao21 t106.length co21 : Value).ownBlock) ho0 (fun k_ hk_ => ⟨(.inr (Nat.le_trans (below_size (by repeat (first | (with_reducible first | exact HB.out | apply below_alloc | apply pw_below_drewN | apply below_drew1) | exact HB.out))) hk_)), (Kd.fresh' (Kd.N_lt (by (with_reducible repeat (first | apply Kd.N_alloc | apply Kd.N_drewN | apply Kd.N_drew)); exact HO104.out)) k_ hk_), (Kd.fresh' (Kd.R_lt (by (with_reducible repeat (first | apply Kd.R_alloc | apply Kd.R_drewN | apply Kd.R_drew)); exact HO108.out)) k_ hk_)⟩)) (below_size (by repeat (first | (with_reducible first | exact HB.out | apply below_alloc | apply pw_below_drewN | apply below_drew1) | exact HB.out))))
          have n5_ := Aside0.mk (below_step (by repeat (first | (with_reducible first | exact HB.out | apply below_alloc | apply pw_below_drewN | apply below_drew1) | exact HB.out)) hb)
          clear HO0
          clear HO104
          clear HO108
          clear HO116
          clear HB
          have HO0 := n0_
          have HO104 := n1_
          have HO108 := n2_
          have HO116 := n3_
          have HO111 := n4_
          have HB := n5_
          clear n0_ n1_ n2_ n3_ n4_ n5_
          (try clear hb)
          (try clear hb2)
          (try clear hk)
          (try clear hi)
          (try clear ho0)
          obtain ⟨Ao25, co25, eo25⟩ := Kd.V_slice HO111.out
          (first | subst eo25 | (injection eo25 with f1_ f2_ f3_; have f4_ := f1_.symm; have f5_ := f3_.symm; clear f1_ f2_ f3_; subst f4_; subst f5_))
          refine hK.out _ _ trivial (fun hHeld => ?_)
          clear hK K
          refine norm_ (a' := ?_) ?_ ?_
          rotate_left
          · show Act.put _ (some 37) _ = _
            simp only [Act.put, List.setIfInBounds_toArray, List.set_cons_zero, List.set_cons_succ, i64_w, i32_w]
            rfl
          refine one_ (i := 6) (N := some 41) #[true, true, true, true, true, true, true, false] rfl rfl (one_of HT_.out (by kernel_rfl)) (by decide) (fun K hK => ?_)
          refine goes_ Try.func27 (by kernel_rfl) rfl #[.slice Ao25 t109.length co25, .slice A23 y112.length c23] (by rfl) rfl rfl (by (try simp only [List.map_toArray, List.map_cons, List.map_nil]); first | done | rfl | (simp only [List.length_drop, List.length_take]; rfl)) ?_
          with_reducible refine (flyballref02_Is.calls k _ _ t109 _ _ y112 t117 _ ?side1 ?side2 ?side3 ?side4 A14.out).mono ?_
          (case side1 => repeat (first | exact (Kd.V_reads' HO111.out).2.2 | (with_reducible refine Kd.C_alloc ?_ _) | (with_reducible refine Kd.C_drewN ?_ _) | (with_reducible refine Kd.C_drew ?_)))
          (case side2 => exact (Kd.V_reads' HO111.out).2.1)
          (case side3 => repeat (first | exact (Kd.V_reads' HO116.out).2.2 | (with_reducible refine Kd.C_alloc ?_ _) | (with_reducible refine Kd.C_drewN ?_ _) | (with_reducible refine Kd.C_drew ?_)))
          (case side4 => exact (Kd.V_reads' HO116.out).2.1)
          rintro e w26 ⟨rfl, hb⟩
          refine ⟨_, rfl, ?_⟩
          have n0_ := Aside0.mk (Kd.V_below (by (with_reducible repeat (first | apply Kd.V_alloc | apply Kd.V_drewN | apply Kd.V_drew)); exact HO0.out) hb)
          have n1_ := Aside0.mk (Kd.N_below (by (with_reducible repeat (first | apply Kd.N_alloc | apply Kd.N_drewN | apply Kd.N_drew)); exact HO104.out) hb)
          have n2_ := Aside0.mk (Kd.R_below (by (with_reducible repeat (first | apply Kd.R_alloc | apply Kd.R_drewN | apply Kd.R_drew)); exact HO108.out) hb)
          have n3_ := Aside0.mk (Kd.V_below (by (with_reducible repeat (first | apply Kd.V_alloc | apply Kd.V_drewN | apply Kd.V_drew)); exact HO116.out) hb)
          have n4_ := Aside0.mk (Kd.V_below (by (with_reducible repeat (first | apply Kd.V_alloc | apply Kd.V_drewN | apply Kd.V_drew)); exact HO111.out) hb)
          have n5_ := Aside0.mk (below_step (by repeat (first | (with_reducible first | exact HB.out | apply below_alloc | apply pw_below_drewN | apply below_drew1) | exact HB.out)) hb)
          clear HO0
          clear HO104
          clear HO108
          clear HO116
          clear HO111
          clear HB
          have HO0 := n0_
          have HO104 := n1_
          have HO108 := n2_
          have HO116 := n3_
          have HO111 := n4_
          have HB := n5_
          clear n0_ n1_ n2_ n3_ n4_ n5_
          (try clear hb)
          (try clear hb2)
          (try clear hk)
          (try clear hi)
          refine hK.out _ _ trivial (fun hHeld => ?_)
          clear hK K
          refine norm_ (a' := ?_) ?_ ?_
          rotate_left
          · show Act.put _ (some 41) _ = _
            simp only [Act.put, List.setIfInBounds_toArray, List.set_cons_zero, List.set_cons_succ, i64_w, i32_w]
            rfl
          refine pure_ (i := 7) (N := some 11) (v := ?_) (a' := ?_) #[true, true, true, true, true, true, true, true] rfl rfl (any_of HT_.out (by kernel_rfl)) (fun _ _ _ h => h) (Or.inl ⟨by rfl, ?_⟩) ?_ ?_
          rotate_left
          · intro w'
            go_simp
            with_reducible rfl
          rotate_left
          · simp only [Act.put, List.setIfInBounds_toArray, List.set_cons_zero, List.set_cons_succ, i64_w, i32_w]
            rfl
          refine done_ (done_of HT_.out (by kernel_rfl)) ?_
          go_upto_region 11 with (fail)
          go_cut [55] (fun v55 wc => ∃ (kq : Nat) (x55_14 : Bool), v55 = .bool x55_14 ∧ Aside0 (flyballlaw02_NatShifts.j0 kq l0 a1 a2 true t106 t117 0 x55_14 = some r) ∧ Aside0 (kq ≤ k) ∧ Aside0 (Kd.V (Kd.int .u32) 118 wc w.heap.size (fun k_ => (P0_ k_ ∨ w.heap.size ≤ k_) ∧ some k_ ≠ ((.slice Ao21 t106.length co21) : Value).ownBlock) (.slice A0 l0.length c0) l0) ∧ Aside0 (Kd.R Kd.bool 4 wc w.heap.size (fun k_ => (w.heap.size ≤ k_)) (.slice Ao21 t106.length co21) t106) ∧ Aside0 (Below w.heap.size w wc))
          case first =>
            have H := HC15.out
            clear HC15
            by_cases c27 : a2 ≥ 0
            · rw [if_pos c27] at H
              have c27b0 : decide (0 ≤ a2) = true := decide_eq_true c27
              clear c27
              (first | rw [c27b0] | (simp only [i64_w, i32_w]; rw [c27b0]) | skip)
              by_cases c28 : a2 < (t106.length : Int)
              · rw [if_pos c28] at H
                have c28b0 : decide (a2 < (t106.length : Int)) = true := decide_eq_true c28
                clear c28
                by_cases c29 : 0 ≤ a2
                · rw [if_pos c29] at H
                  have c29b0 : decide (0 ≤ a2) = true := decide_eq_true c29
                  clear c29
                  have H' := Aside0.mk H
                  clear H
                  have p118 : 0 ≤ (a2 : Int) := of_decide_eq_true (by first | (with_reducible assumption) | assumption)
                  have q118 : a2 < (t106.length : Int) := of_decide_eq_true (by first | (with_reducible assumption) | assumption)
                  obtain ⟨ad118, e118, hx118_0⟩ := Kd.at_bool (Kd.R_reads' HO108.out).2.2 a2 p118 q118
                  cases e118
                  replace p118 := eq_true p118
                  replace q118 := eq_true q118
                  go_wp2
                  go_meet
                  case rel => exact ⟨_, (rdOf false t106 a2), (by first | rfl | (simp; done) | (simp [*]; done)), H', ⟨by first | omega | exact Nat.le_refl _⟩, ⟨by (with_reducible repeat (first | apply Kd.V_alloc | apply Kd.V_drewN | apply Kd.V_drew)); exact Kd.V_mono HO0.out (fun _ hk => ⟨hk.1.1, hk.2⟩)⟩, ⟨by (with_reducible repeat (first | apply Kd.R_alloc | apply Kd.R_drewN | apply Kd.R_drew)); exact Kd.R_mono HO108.out (fun _ hk => hk.1)⟩, ⟨by repeat (first | (with_reducible first | exact HB.out | apply below_alloc | apply pw_below_drewN | apply below_drew1) | exact HB.out)⟩⟩
                · rw [if_neg c29] at H
                  exact absurd H (by simp)
              · rw [if_neg c28] at H
                have c28b0 : decide (a2 < (t106.length : Int)) = false := decide_eq_false c28
                clear c28
                have H' := Aside0.mk H
                clear H
                go_wp2
                go_meet
                case rel => exact ⟨_, (false), (by first | rfl | (simp; done) | (simp [*]; done)), H', ⟨by first | omega | exact Nat.le_refl _⟩, ⟨by (with_reducible repeat (first | apply Kd.V_alloc | apply Kd.V_drewN | apply Kd.V_drew)); exact Kd.V_mono HO0.out (fun _ hk => ⟨hk.1.1, hk.2⟩)⟩, ⟨by (with_reducible repeat (first | apply Kd.R_alloc | apply Kd.R_drewN | apply Kd.R_drew)); exact Kd.R_mono HO108.out (fun _ hk => hk.1)⟩, ⟨by repeat (first | (with_reducible first | exact HB.out | apply below_alloc | apply pw_below_drewN | apply below_drew1) | exact HB.out)⟩⟩
            · rw [if_neg c27] at H
              have c27b0 : decide (0 ≤ a2) = false := decide_eq_false c27
              clear c27
              (first | rw [c27b0] | (simp only [i64_w, i32_w]; rw [c27b0]) | skip)
              have H' := Aside0.mk H
              clear H
              go_wp2
              go_meet
              case rel => exact ⟨_, (false), (by first | rfl | (simp; done) | (simp [*]; done)), H', ⟨by first | omega | exact Nat.le_refl _⟩, ⟨by (with_reducible repeat (first | apply Kd.V_alloc | apply Kd.V_drewN | apply Kd.V_drew)); exact Kd.V_mono HO0.out (fun _ hk => ⟨hk.1.1, hk.2⟩)⟩, ⟨by (with_reducible repeat (first | apply Kd.R_alloc | apply Kd.R_drewN | apply Kd.R_drew)); exact Kd.R_mono HO108.out (fun _ hk => hk.1)⟩, ⟨by repeat (first | (with_reducible first | exact HB.out | apply below_alloc | apply pw_below_drewN | apply below_drew1) | exact HB.out)⟩⟩
          case rest =>
            clear HC15
            try clear c1
            try clear p1
            try clear q1
            try clear hx1
            try clear c2
            try clear p2
            try clear q2
            try clear c3
            try clear c5
            try clear c7
            try clear p11
            try clear q11
            try clear hx11
            try clear c12
            try clear c12b0
            try clear c12b1
            try clear c13
            try clear c13b0
            try clear c13b1
            try clear c23
            try clear q23
            try clear c24
            try clear c25
            try clear c27
            try clear c27b0
            try clear c28
            try clear c28b0
            try clear c29
            try clear c29b0
            try clear hx118_0
            try clear p118
            try clear q023
            try clear q118
            try clear q23
            obtain ⟨kq, x55_14, rfl, HA, HJ14, HO_0, HO_9, HB⟩ := hcut
            cases kq with
            | zero => exact absurd HA.out (by simp [flyballlaw02_NatShifts.j0])
            | succ kj14 =>
              have H := HA.out
              clear HA
              simp only [flyballlaw02_NatShifts.j0] at H
              have HC30 := Aside0.mk H
              clear H
              go_upto_if 55 with (fail)
              go_cut [12] (fun v12 wc => ∃ (kq : Nat) (x12_29 : Int), v12 = .int .u64 x12_29 ∧ Aside0 (flyballlaw02_NatShifts.j1 kq l0 a1 a2 true t106 t117 x12_29 = some r) ∧ Aside0 (kq ≤ kj14) ∧ Aside0 (Kd.V (Kd.int .u32) 118 wc w.heap.size (fun k_ => (P0_ k_ ∨ w.heap.size ≤ k_) ∧ some k_ ≠ ((.slice Ao21 t106.length co21) : Value).ownBlock) (.slice A0 l0.length c0) l0) ∧ Aside0 (Kd.R Kd.bool 4 wc w.heap.size (fun k_ => (w.heap.size ≤ k_)) (.slice Ao21 t106.length co21) t106) ∧ Aside0 (Below w.heap.size w wc))
              case first =>
                have H := HC30.out
                clear HC30
                by_cases c31 : x55_14 = true
                · subst c31
                  have H1 : (flyballlaw02_NatShifts.j1 kj14 l0 a1 a2 true t106 t117 1) = some r := by rw [if_pos rfl] at H; exact H
                  clear H
                  have H := H1
                  clear H1
                  have H' := Aside0.mk H
                  clear H
                  go_wp2
                  go_meet
                  case rel => exact ⟨_, (1), (by first | rfl | (simp; done) | (simp [*]; done)), H', ⟨by have := HJ14.out; first | omega | exact Nat.le_refl _⟩, ⟨by (with_reducible repeat (first | apply Kd.V_alloc | apply Kd.V_drewN | apply Kd.V_drew)); exact HO_0.out⟩, ⟨by (with_reducible repeat (first | apply Kd.R_alloc | apply Kd.R_drewN | apply Kd.R_drew)); exact HO_9.out⟩, ⟨by repeat (first | (with_reducible first | exact HB.out | apply below_alloc | apply pw_below_drewN | apply below_drew1) | exact HB.out)⟩⟩
                · replace c31 := Bool.eq_false_iff.mpr c31
                  subst c31
                  have H1 : (flyballlaw02_NatShifts.j1 kj14 l0 a1 a2 true t106 t117 0) = some r := by rw [if_neg (show ¬ (false = true) by decide)] at H; exact H
                  clear H
                  have H := H1
                  clear H1
                  have H' := Aside0.mk H
                  clear H
                  go_wp2
                  go_meet
                  case rel => exact ⟨_, (0), (by first | rfl | (simp; done) | (simp [*]; done)), H', ⟨by have := HJ14.out; first | omega | exact Nat.le_refl _⟩, ⟨by (with_reducible repeat (first | apply Kd.V_alloc | apply Kd.V_drewN | apply Kd.V_drew)); exact HO_0.out⟩, ⟨by (with_reducible repeat (first | apply Kd.R_alloc | apply Kd.R_drewN | apply Kd.R_drew)); exact HO_9.out⟩, ⟨by repeat (first | (with_reducible first | exact HB.out | apply below_alloc | apply pw_below_drewN | apply below_drew1) | exact HB.out)⟩⟩
              case rest =>
                clear HC30
                try clear c1
                try clear p1
                try clear q1
                try clear hx1
                try clear c2
                try clear p2
                try clear q2
                try clear c3
                try clear c5
                try clear c7
                try clear p11
                try clear q11
                try clear hx11
                try clear c12
                try clear c12b0
                try clear c12b1
                try clear c13
                try clear c13b0
                try clear c13b1
                try clear c23
                try clear q23
                try clear c24
                try clear c25
                try clear c27
                try clear c27b0
                try clear c28
                try clear c28b0
                try clear c29
                try clear c29b0
                try clear c31
                try clear hx118_0
                try clear p1
                try clear p11
                try clear p118
                try clear p2
                try clear q023
                try clear q1
                try clear q11
                try clear q118
                try clear q2
                try clear q23
                obtain ⟨kq, x12_29, rfl, HA, HJ29, HO_0, HO_9, HB⟩ := hcut
                cases kq with
                | zero => exact absurd HA.out (by simp [flyballlaw02_NatShifts.j1])
                | succ kj29 =>
                  have H := HA.out
                  clear HA
                  simp only [flyballlaw02_NatShifts.j1] at H
                  replace H := Option.bind_eq_some_iff.mp H
                  obtain ⟨t119, A320, H⟩ := H
                  replace H : ((nat_Nat_Uint.f kj29 l0).bind fun bt122 => (if (bt122.2 != (decide ((t106.length : Int) ≤ 64))) = true then (flyballlaw02_NatShifts.j2 kj29 l0 a1 true t106 true) else (if bt122.2 = true then (if 0 < (t119.length : Int) then (if bt122.1 = (rd t119 0) then ((nat_Nat_Bit.f l0 a2).bind fun t125 => (if t125 = x12_29 then ((nat_Nat_Len.f kj29 l0).bind fun t126 => (if t126 = (t106.length : Int) then (flyballlaw02_NatShifts.j2 kj29 l0 a1 true t106 (!t117)) else (flyballlaw02_NatShifts.j2 kj29 l0 a1 true t106 true))) else (flyballlaw02_NatShifts.j2 kj29 l0 a1 true t106 true))) else (flyballlaw02_NatShifts.j2 kj29 l0 a1 true t106 true)) else (none)) else (if bt122.1 = 0 then ((nat_Nat_Bit.f l0 a2).bind fun t127 => (if t127 = x12_29 then ((nat_Nat_Len.f kj29 l0).bind fun t128 => (if t128 = (t106.length : Int) then (flyballlaw02_NatShifts.j2 kj29 l0 a1 true t106 (!t117)) else (flyballlaw02_NatShifts.j2 kj29 l0 a1 true t106 true))) else (flyballlaw02_NatShifts.j2 kj29 l0 a1 true t106 true))) else (flyballlaw02_NatShifts.j2 kj29 l0 a1 true t106 true))))) = some r := H
                  have A32 := Aside0.mk A320
                  clear A320
                  replace H := Option.bind_eq_some_iff.mp H
                  obtain ⟨⟨t122, t123⟩, A330, H⟩ := H
                  replace H : (if (t123 != (decide ((t106.length : Int) ≤ 64))) = true then (flyballlaw02_NatShifts.j2 kj29 l0 a1 true t106 true) else (if t123 = true then (if 0 < (t119.length : Int) then (if t122 = (rd t119 0) then ((nat_Nat_Bit.f l0 a2).bind fun t125 => (if t125 = x12_29 then ((nat_Nat_Len.f kj29 l0).bind fun t126 => (if t126 = (t106.length : Int) then (flyballlaw02_NatShifts.j2 kj29 l0 a1 true t106 (!t117)) else (flyballlaw02_NatShifts.j2 kj29 l0 a1 true t106 true))) else (flyballlaw02_NatShifts.j2 kj29 l0 a1 true t106 true))) else (flyballlaw02_NatShifts.j2 kj29 l0 a1 true t106 true)) else (none)) else (if t122 = 0 then ((nat_Nat_Bit.f l0 a2).bind fun t127 => (if t127 = x12_29 then ((nat_Nat_Len.f kj29 l0).bind fun t128 => (if t128 = (t106.length : Int) then (flyballlaw02_NatShifts.j2 kj29 l0 a1 true t106 (!t117)) else (flyballlaw02_NatShifts.j2 kj29 l0 a1 true t106 true))) else (flyballlaw02_NatShifts.j2 kj29 l0 a1 true t106 true))) else (flyballlaw02_NatShifts.j2 kj29 l0 a1 true t106 true)))) = some r := H
                  have A33 := Aside0.mk A330
                  clear A330
                  have HC34 := Aside0.mk H
                  clear H
                  go_upto_region 15 with (first | ((with_reducible refine gate_callee (f := 40) rfl ?_); refine goesL_ (some 57) rfl rfl Try.func40 (by kernel_rfl) rfl #[.slice Ao21 t106.length co21, .int .i64 1] rfl (by (try simp only [List.map_toArray, List.map_cons, List.map_nil]); first | done | rfl | (simp only [List.length_drop, List.length_take]; rfl)) ?_; (with_reducible refine (flyballref01_Words.calls kj29 _ _ t106 1 t119 _ ?side1 ?side2 A32.out).mono ?_); (case side1 => repeat (first | exact (Kd.R_reads' HO_9.out).2.2 | (with_reducible refine Kd.C_alloc ?_ _) | (with_reducible refine Kd.C_drewN ?_ _) | (with_reducible refine Kd.C_drew ?_))); (case side2 => exact (Kd.R_reads' HO_9.out).2.1); rintro e w35 ⟨v120, rfl, ho0, hb⟩; refine ⟨_, rfl, ?_⟩; have n0_ := Aside0.mk (Kd.V_elder' (by (with_reducible repeat (first | apply Kd.V_alloc | apply Kd.V_drewN | apply Kd.V_drew)); exact HO_0.out) (Kd.R_base ho0) hb); have n1_ := Aside0.mk (Kd.R_below (by (with_reducible repeat (first | apply Kd.R_alloc | apply Kd.R_drewN | apply Kd.R_drew)); exact HO_9.out) hb); have n2_ := Aside0.mk (Kd.R_lower (Kd.R_newM (M := fun k_ => (w.heap.size ≤ k_)) ho0 (below_size (by repeat (first | (with_reducible first | exact HB.out | apply below_alloc | apply pw_below_drewN | apply below_drew1) | exact HB.out))) (fun k_ h_ => h_)) (below_size (by repeat (first | (with_reducible first | exact HB.out | apply below_alloc | apply pw_below_drewN | apply below_drew1) | exact HB.out)))); have n3_ := Aside0.mk (below_step (by repeat (first | (with_reducible first | exact HB.out | apply below_alloc | apply pw_below_drewN | apply below_drew1) | exact HB.out)) hb); clear HO_0; clear HO_9; clear HB; have HO_0 := n0_; have HO_9 := n1_; have HO121 := n2_; have HB := n3_; clear n0_ n1_ n2_ n3_; (try clear hb); (try clear hb2); (try clear hk); (try clear hi); (try clear ho0)) | ((with_reducible refine gate_callee (f := 41) rfl ?_); refine goesL_ (some 60) rfl rfl Try.func41 (by kernel_rfl) rfl #[.slice A0 l0.length c0] rfl (by (try simp only [List.map_toArray, List.map_cons, List.map_nil]); first | done | rfl | (simp only [List.length_drop, List.length_take]; rfl)) ?_; (with_reducible refine (nat_Nat_Uint.calls kj29 _ _ l0 t122 t123 _ ?side1 ?side2 A33.out).mono ?_); (case side1 => repeat (first | exact (Kd.V_reads' HO_0.out).2.2 | (with_reducible refine Kd.C_alloc ?_ _) | (with_reducible refine Kd.C_drewN ?_ _) | (with_reducible refine Kd.C_drew ?_))); (case side2 => exact (Kd.V_reads' HO_0.out).2.1); rintro e w36 ⟨rfl, hb⟩; refine ⟨_, rfl, ?_⟩; have n0_ := Aside0.mk (Kd.V_below (by (with_reducible repeat (first | apply Kd.V_alloc | apply Kd.V_drewN | apply Kd.V_drew)); exact HO_0.out) hb); have n1_ := Aside0.mk (Kd.R_below (by (with_reducible repeat (first | apply Kd.R_alloc | apply Kd.R_drewN | apply Kd.R_drew)); exact HO_9.out) hb); have n2_ := Aside0.mk (Kd.R_below (by (with_reducible repeat (first | apply Kd.R_alloc | apply Kd.R_drewN | apply Kd.R_drew)); exact HO121.out) hb); have n3_ := Aside0.mk (below_step (by repeat (first | (with_reducible first | exact HB.out | apply below_alloc | apply pw_below_drewN | apply below_drew1) | exact HB.out)) hb); clear HO_0; clear HO_9; clear HO121; clear HB; have HO_0 := n0_; have HO_9 := n1_; have HO121 := n2_; have HB := n3_; clear n0_ n1_ n2_ n3_; (try clear hb); (try clear hb2); (try clear hk); (try clear hi)))
                  (try simp only [Act.put, List.setIfInBounds_toArray, List.set_cons_zero, List.set_cons_succ])
                  go_cut [103] (fun v103 wc => ∃ (kq : Nat) (x103_33 : Bool), v103 = .bool x103_33 ∧ Aside0 (flyballlaw02_NatShifts.j2 kq l0 a1 true t106 x103_33 = some r) ∧ Aside0 (kq ≤ kj29) ∧ Aside0 (Kd.V (Kd.int .u32) 118 wc w.heap.size (fun k_ => (P0_ k_ ∨ w.heap.size ≤ k_) ∧ some k_ ≠ ((.slice Ao21 t106.length co21) : Value).ownBlock) (.slice A0 l0.length c0) l0) ∧ Aside0 (Kd.R Kd.bool 4 wc w.heap.size (fun k_ => (w.heap.size ≤ k_)) (.slice Ao21 t106.length co21) t106) ∧ Aside0 (Below w.heap.size w wc))
                  case first =>
                    have H := HC34.out
                    clear HC34
                    by_cases c37 : (t123 != (decide ((t106.length : Int) ≤ 64))) = true
                    · rw [if_pos c37] at H
                      have c37b0 : (t123 != (decide ((t106.length : Int) ≤ 64))) = true := c37
                      (try (have c37b1 : decide (t123 = (decide ((t106.length : Int) ≤ 64))) = false := by simpa using c37))
                      (try (have c37b2 : (t123 == (decide ((t106.length : Int) ≤ 64))) = false := by simpa using c37))
                      (try (have c37b3 : ¬ (t123 = (decide ((t106.length : Int) ≤ 64))) := by simpa using c37))
                      clear c37
                      (first | rw [c37b0] | (simp only [i64_w, i32_w]; rw [c37b0]) | skip)
                      have H' := Aside0.mk H
                      clear H
                      go_wp2
                      go_meet
                      case rel => exact ⟨_, (true), (by first | rfl | (simp; done) | (simp [*]; done)), H', ⟨by have := HJ14.out; have := HJ29.out; first | omega | exact Nat.le_refl _⟩, ⟨by (with_reducible repeat (first | apply Kd.V_alloc | apply Kd.V_drewN | apply Kd.V_drew)); exact Kd.V_mono HO_0.out (fun _ hk => ⟨hk.1.1, hk.1.2⟩)⟩, ⟨by (with_reducible repeat (first | apply Kd.R_alloc | apply Kd.R_drewN | apply Kd.R_drew)); exact HO_9.out⟩, ⟨by repeat (first | (with_reducible first | exact HB.out | apply below_alloc | apply pw_below_drewN | apply below_drew1) | exact HB.out)⟩⟩
                    · rw [if_neg c37] at H
                      have c37b0 : (t123 != (decide ((t106.length : Int) ≤ 64))) = false := by simpa using c37
                      (try (have c37b1 : decide (t123 = (decide ((t106.length : Int) ≤ 64))) = true := by simpa using c37))
                      (try (have c37b2 : (t123 == (decide ((t106.length : Int) ≤ 64))) = true := by simpa using c37))
                      clear c37
                      (first | rw [c37b0] | (simp only [i64_w, i32_w]; rw [c37b0]) | skip)
                      by_cases c38 : t123 = true
                      · subst c38
                        have H1 : (if 0 < (t119.length : Int) then (if t122 = (rd t119 0) then ((nat_Nat_Bit.f l0 a2).bind fun t125 => (if t125 = x12_29 then ((nat_Nat_Len.f kj29 l0).bind fun t126 => (if t126 = (t106.length : Int) then (flyballlaw02_NatShifts.j2 kj29 l0 a1 true t106 (!t117)) else (flyballlaw02_NatShifts.j2 kj29 l0 a1 true t106 true))) else (flyballlaw02_NatShifts.j2 kj29 l0 a1 true t106 true))) else (flyballlaw02_NatShifts.j2 kj29 l0 a1 true t106 true)) else (none)) = some r := by rw [if_pos rfl] at H; exact H
                        clear H
                        have H := H1
                        clear H1
                        by_cases c39 : 0 < (t119.length : Int)
                        · rw [if_pos c39] at H
                          have c39b0 : decide (0 < (t119.length : Int)) = true := decide_eq_true c39
                          have c39b1 : decide (0 < t119.length) = true := decide_eq_true (by omega)
                          clear c39
                          by_cases c40 : t122 = (rd t119 0)
                          · rw [if_pos c40] at H
                            have c40b0 : (t122 == (rd t119 0)) = true := beq_iff_eq.mpr c40
                            have c40b1 : (t122 != (rd t119 0)) = false := bne_eq_false_iff_eq.mpr c40
                            clear c40
                            replace H := Option.bind_eq_some_iff.mp H
                            obtain ⟨t125, A410, H⟩ := H
                            replace H : (if t125 = x12_29 then ((nat_Nat_Len.f kj29 l0).bind fun t126 => (if t126 = (t106.length : Int) then (flyballlaw02_NatShifts.j2 kj29 l0 a1 true t106 (!t117)) else (flyballlaw02_NatShifts.j2 kj29 l0 a1 true t106 true))) else (flyballlaw02_NatShifts.j2 kj29 l0 a1 true t106 true)) = some r := H
                            have A41 := Aside0.mk A410
                            clear A410
                            by_cases c42 : t125 = x12_29
                            · rw [if_pos c42] at H
                              have c42b0 : (t125 == x12_29) = true := beq_iff_eq.mpr c42
                              have c42b1 : (t125 != x12_29) = false := bne_eq_false_iff_eq.mpr c42
                              clear c42
                              replace H := Option.bind_eq_some_iff.mp H
                              obtain ⟨t126, A430, H⟩ := H
                              replace H : (if t126 = (t106.length : Int) then (flyballlaw02_NatShifts.j2 kj29 l0 a1 true t106 (!t117)) else (flyballlaw02_NatShifts.j2 kj29 l0 a1 true t106 true)) = some r := H
                              have A43 := Aside0.mk A430
                              clear A430
                              by_cases c44 : t126 = (t106.length : Int)
                              · rw [if_pos c44] at H
                                have c44b0 : (t126 == (t106.length : Int)) = true := beq_iff_eq.mpr c44
                                have c44b1 : (t126 != (t106.length : Int)) = false := bne_eq_false_iff_eq.mpr c44
                                clear c44
                                have H' := Aside0.mk H
                                clear H
                                obtain ⟨Ao45, co45, eo45⟩ := Kd.R_slice HO121.out
                                subst eo45
                                have p124 : 0 ≤ (0 : Int) := (by omega)
                                have q124 : 0 < (t119.length : Int) := of_decide_eq_true (by first | (with_reducible assumption) | assumption)
                                obtain ⟨ad124, e124, hx124_0⟩ := Kd.at_int (Kd.R_reads' HO121.out).2.2 0 p124 q124
                                cases e124
                                have qi124 : (0 < t119.length) = True := eq_true (by omega)
                                (try rw [show ((0 : Int)).toNat = 0 from rfl] at hx124_0)
                                (try rw [Addr.add_zero'] at hx124_0)
                                replace p124 := eq_true p124
                                replace q124 := eq_true q124
                                go_wp2_with (first | (go_at_call 42; (with_reducible refine (nat_Nat_Bit.calls _ _ l0 a2 t125 _ ?side1 ?side2 A41.out).mono ?_); (case side1 => repeat (first | exact (Kd.V_reads' HO_0.out).2.2 | (with_reducible refine Kd.C_alloc ?_ _) | (with_reducible refine Kd.C_drewN ?_ _) | (with_reducible refine Kd.C_drew ?_))); (case side2 => exact (Kd.V_reads' HO_0.out).2.1); rintro e w' ⟨rfl, ⟨nd, rfl⟩⟩) | (go_at_call 43; (with_reducible refine (nat_Nat_Len.calls kj29 _ _ l0 t126 _ ?side1 ?side2 A43.out).mono ?_); (case side1 => repeat (first | exact (Kd.V_reads' HO_0.out).2.2 | (with_reducible refine Kd.C_alloc ?_ _) | (with_reducible refine Kd.C_drewN ?_ _) | (with_reducible refine Kd.C_drew ?_))); (case side2 => exact (Kd.V_reads' HO_0.out).2.1); rintro e w46 ⟨rfl, hb⟩; have n0_ := Aside0.mk (Kd.V_below (by (with_reducible repeat (first | apply Kd.V_alloc | apply Kd.V_drewN | apply Kd.V_drew)); exact HO_0.out) hb); have n1_ := Aside0.mk (Kd.R_below (by (with_reducible repeat (first | apply Kd.R_alloc | apply Kd.R_drewN | apply Kd.R_drew)); exact HO_9.out) hb); have n2_ := Aside0.mk (Kd.R_below (by (with_reducible repeat (first | apply Kd.R_alloc | apply Kd.R_drewN | apply Kd.R_drew)); exact HO121.out) hb); have n3_ := Aside0.mk (below_step (by repeat (first | (with_reducible first | exact HB.out | apply below_alloc | apply pw_below_drewN | apply below_drew1) | exact HB.out)) hb); clear HO_0; clear HO_9; clear HO121; clear HB; have HO_0 := n0_; have HO_9 := n1_; have HO121 := n2_; have HB := n3_; clear n0_ n1_ n2_ n3_; (try clear hb); (try clear hb2); (try clear hk); (try clear hi)))
                                go_meet
                                case rel => exact ⟨_, (!t117), (by first | rfl | (simp; done) | (simp [*]; done)), H', ⟨by have := HJ14.out; have := HJ29.out; first | omega | exact Nat.le_refl _⟩, ⟨by (with_reducible repeat (first | apply Kd.V_alloc | apply Kd.V_drewN | apply Kd.V_drew)); exact Kd.V_mono HO_0.out (fun _ hk => ⟨hk.1.1, hk.1.2⟩)⟩, ⟨by (with_reducible repeat (first | apply Kd.R_alloc | apply Kd.R_drewN | apply Kd.R_drew)); exact HO_9.out⟩, ⟨by repeat (first | (with_reducible first | exact HB.out | apply below_alloc | apply pw_below_drewN | apply below_drew1) | exact HB.out)⟩⟩
                              · rw [if_neg c44] at H
                                have c44b0 : (t126 == (t106.length : Int)) = false := beq_eq_false_iff_ne.mpr c44
                                have c44b1 : (t126 != (t106.length : Int)) = true := bne_iff_ne.mpr c44
                                have H' := Aside0.mk H
                                clear H
                                obtain ⟨Ao47, co47, eo47⟩ := Kd.R_slice HO121.out
                                subst eo47
                                have p124 : 0 ≤ (0 : Int) := (by omega)
                                have q124 : 0 < (t119.length : Int) := of_decide_eq_true (by first | (with_reducible assumption) | assumption)
                                obtain ⟨ad124, e124, hx124_0⟩ := Kd.at_int (Kd.R_reads' HO121.out).2.2 0 p124 q124
                                cases e124
                                have qi124 : (0 < t119.length) = True := eq_true (by omega)
                                (try rw [show ((0 : Int)).toNat = 0 from rfl] at hx124_0)
                                (try rw [Addr.add_zero'] at hx124_0)
                                replace p124 := eq_true p124
                                replace q124 := eq_true q124
                                go_wp2_with (first | (go_at_call 42; (with_reducible refine (nat_Nat_Bit.calls _ _ l0 a2 t125 _ ?side1 ?side2 A41.out).mono ?_); (case side1 => repeat (first | exact (Kd.V_reads' HO_0.out).2.2 | (with_reducible refine Kd.C_alloc ?_ _) | (with_reducible refine Kd.C_drewN ?_ _) | (with_reducible refine Kd.C_drew ?_))); (case side2 => exact (Kd.V_reads' HO_0.out).2.1); rintro e w' ⟨rfl, ⟨nd, rfl⟩⟩) | (go_at_call 43; (with_reducible refine (nat_Nat_Len.calls kj29 _ _ l0 t126 _ ?side1 ?side2 A43.out).mono ?_); (case side1 => repeat (first | exact (Kd.V_reads' HO_0.out).2.2 | (with_reducible refine Kd.C_alloc ?_ _) | (with_reducible refine Kd.C_drewN ?_ _) | (with_reducible refine Kd.C_drew ?_))); (case side2 => exact (Kd.V_reads' HO_0.out).2.1); rintro e w48 ⟨rfl, hb⟩; have n0_ := Aside0.mk (Kd.V_below (by (with_reducible repeat (first | apply Kd.V_alloc | apply Kd.V_drewN | apply Kd.V_drew)); exact HO_0.out) hb); have n1_ := Aside0.mk (Kd.R_below (by (with_reducible repeat (first | apply Kd.R_alloc | apply Kd.R_drewN | apply Kd.R_drew)); exact HO_9.out) hb); have n2_ := Aside0.mk (Kd.R_below (by (with_reducible repeat (first | apply Kd.R_alloc | apply Kd.R_drewN | apply Kd.R_drew)); exact HO121.out) hb); have n3_ := Aside0.mk (below_step (by repeat (first | (with_reducible first | exact HB.out | apply below_alloc | apply pw_below_drewN | apply below_drew1) | exact HB.out)) hb); clear HO_0; clear HO_9; clear HO121; clear HB; have HO_0 := n0_; have HO_9 := n1_; have HO121 := n2_; have HB := n3_; clear n0_ n1_ n2_ n3_; (try clear hb); (try clear hb2); (try clear hk); (try clear hi)))
                                go_meet
                                case rel => exact ⟨_, (true), (by first | rfl | (simp; done) | (simp [*]; done)), H', ⟨by have := HJ14.out; have := HJ29.out; first | omega | exact Nat.le_refl _⟩, ⟨by (with_reducible repeat (first | apply Kd.V_alloc | apply Kd.V_drewN | apply Kd.V_drew)); exact Kd.V_mono HO_0.out (fun _ hk => ⟨hk.1.1, hk.1.2⟩)⟩, ⟨by (with_reducible repeat (first | apply Kd.R_alloc | apply Kd.R_drewN | apply Kd.R_drew)); exact HO_9.out⟩, ⟨by repeat (first | (with_reducible first | exact HB.out | apply below_alloc | apply pw_below_drewN | apply below_drew1) | exact HB.out)⟩⟩
                            · rw [if_neg c42] at H
                              have c42b0 : (t125 == x12_29) = false := beq_eq_false_iff_ne.mpr c42
                              have c42b1 : (t125 != x12_29) = true := bne_iff_ne.mpr c42
                              have H' := Aside0.mk H
                              clear H
                              obtain ⟨Ao49, co49, eo49⟩ := Kd.R_slice HO121.out
                              subst eo49
                              have p124 : 0 ≤ (0 : Int) := (by omega)
                              have q124 : 0 < (t119.length : Int) := of_decide_eq_true (by first | (with_reducible assumption) | assumption)
                              obtain ⟨ad124, e124, hx124_0⟩ := Kd.at_int (Kd.R_reads' HO121.out).2.2 0 p124 q124
                              cases e124
                              have qi124 : (0 < t119.length) = True := eq_true (by omega)
                              (try rw [show ((0 : Int)).toNat = 0 from rfl] at hx124_0)
                              (try rw [Addr.add_zero'] at hx124_0)
                              replace p124 := eq_true p124
                              replace q124 := eq_true q124
                              go_wp2_with (first | (go_at_call 42; (with_reducible refine (nat_Nat_Bit.calls _ _ l0 a2 t125 _ ?side1 ?side2 A41.out).mono ?_); (case side1 => repeat (first | exact (Kd.V_reads' HO_0.out).2.2 | (with_reducible refine Kd.C_alloc ?_ _) | (with_reducible refine Kd.C_drewN ?_ _) | (with_reducible refine Kd.C_drew ?_))); (case side2 => exact (Kd.V_reads' HO_0.out).2.1); rintro e w' ⟨rfl, ⟨nd, rfl⟩⟩))
                              go_meet
                              case rel => exact ⟨_, (true), (by first | rfl | (simp; done) | (simp [*]; done)), H', ⟨by have := HJ14.out; have := HJ29.out; first | omega | exact Nat.le_refl _⟩, ⟨by (with_reducible repeat (first | apply Kd.V_alloc | apply Kd.V_drewN | apply Kd.V_drew)); exact Kd.V_mono HO_0.out (fun _ hk => ⟨hk.1.1, hk.1.2⟩)⟩, ⟨by (with_reducible repeat (first | apply Kd.R_alloc | apply Kd.R_drewN | apply Kd.R_drew)); exact HO_9.out⟩, ⟨by repeat (first | (with_reducible first | exact HB.out | apply below_alloc | apply pw_below_drewN | apply below_drew1) | exact HB.out)⟩⟩
                          · rw [if_neg c40] at H
                            have c40b0 : (t122 == (rd t119 0)) = false := beq_eq_false_iff_ne.mpr c40
                            have c40b1 : (t122 != (rd t119 0)) = true := bne_iff_ne.mpr c40
                            have H' := Aside0.mk H
                            clear H
                            obtain ⟨Ao50, co50, eo50⟩ := Kd.R_slice HO121.out
                            subst eo50
                            have p124 : 0 ≤ (0 : Int) := (by omega)
                            have q124 : 0 < (t119.length : Int) := of_decide_eq_true (by first | (with_reducible assumption) | assumption)
                            obtain ⟨ad124, e124, hx124_0⟩ := Kd.at_int (Kd.R_reads' HO121.out).2.2 0 p124 q124
                            cases e124
                            have qi124 : (0 < t119.length) = True := eq_true (by omega)
                            (try rw [show ((0 : Int)).toNat = 0 from rfl] at hx124_0)
                            (try rw [Addr.add_zero'] at hx124_0)
                            replace p124 := eq_true p124
                            replace q124 := eq_true q124
                            go_wp2
                            go_meet
                            case rel => exact ⟨_, (true), (by first | rfl | (simp; done) | (simp [*]; done)), H', ⟨by have := HJ14.out; have := HJ29.out; first | omega | exact Nat.le_refl _⟩, ⟨by (with_reducible repeat (first | apply Kd.V_alloc | apply Kd.V_drewN | apply Kd.V_drew)); exact Kd.V_mono HO_0.out (fun _ hk => ⟨hk.1.1, hk.1.2⟩)⟩, ⟨by (with_reducible repeat (first | apply Kd.R_alloc | apply Kd.R_drewN | apply Kd.R_drew)); exact HO_9.out⟩, ⟨by repeat (first | (with_reducible first | exact HB.out | apply below_alloc | apply pw_below_drewN | apply below_drew1) | exact HB.out)⟩⟩
                        · rw [if_neg c39] at H
                          exact absurd H (by simp)
                      · replace c38 := Bool.eq_false_iff.mpr c38
                        subst c38
                        have H1 : (if t122 = 0 then ((nat_Nat_Bit.f l0 a2).bind fun t127 => (if t127 = x12_29 then ((nat_Nat_Len.f kj29 l0).bind fun t128 => (if t128 = (t106.length : Int) then (flyballlaw02_NatShifts.j2 kj29 l0 a1 true t106 (!t117)) else (flyballlaw02_NatShifts.j2 kj29 l0 a1 true t106 true))) else (flyballlaw02_NatShifts.j2 kj29 l0 a1 true t106 true))) else (flyballlaw02_NatShifts.j2 kj29 l0 a1 true t106 true)) = some r := by rw [if_neg (show ¬ (false = true) by decide)] at H; exact H
                        clear H
                        have H := H1
                        clear H1
                        by_cases c51 : t122 = 0
                        · rw [if_pos c51] at H
                          have c51b0 : (t122 == 0) = true := beq_iff_eq.mpr c51
                          have c51b1 : (t122 != 0) = false := bne_eq_false_iff_eq.mpr c51
                          clear c51
                          replace H := Option.bind_eq_some_iff.mp H
                          obtain ⟨t127, A520, H⟩ := H
                          replace H : (if t127 = x12_29 then ((nat_Nat_Len.f kj29 l0).bind fun t128 => (if t128 = (t106.length : Int) then (flyballlaw02_NatShifts.j2 kj29 l0 a1 true t106 (!t117)) else (flyballlaw02_NatShifts.j2 kj29 l0 a1 true t106 true))) else (flyballlaw02_NatShifts.j2 kj29 l0 a1 true t106 true)) = some r := H
                          have A52 := Aside0.mk A520
                          clear A520
                          by_cases c53 : t127 = x12_29
                          · rw [if_pos c53] at H
                            have c53b0 : (t127 == x12_29) = true := beq_iff_eq.mpr c53
                            have c53b1 : (t127 != x12_29) = false := bne_eq_false_iff_eq.mpr c53
                            clear c53
                            replace H := Option.bind_eq_some_iff.mp H
                            obtain ⟨t128, A540, H⟩ := H
                            replace H : (if t128 = (t106.length : Int) then (flyballlaw02_NatShifts.j2 kj29 l0 a1 true t106 (!t117)) else (flyballlaw02_NatShifts.j2 kj29 l0 a1 true t106 true)) = some r := H
                            have A54 := Aside0.mk A540
                            clear A540
                            by_cases c55 : t128 = (t106.length : Int)
                            · rw [if_pos c55] at H
                              have c55b0 : (t128 == (t106.length : Int)) = true := beq_iff_eq.mpr c55
                              have c55b1 : (t128 != (t106.length : Int)) = false := bne_eq_false_iff_eq.mpr c55
                              clear c55
                              have H' := Aside0.mk H
                              clear H
                              go_wp2_with (first | (go_at_call 42; (with_reducible refine (nat_Nat_Bit.calls _ _ l0 a2 t127 _ ?side1 ?side2 A52.out).mono ?_); (case side1 => repeat (first | exact (Kd.V_reads' HO_0.out).2.2 | (with_reducible refine Kd.C_alloc ?_ _) | (with_reducible refine Kd.C_drewN ?_ _) | (with_reducible refine Kd.C_drew ?_))); (case side2 => exact (Kd.V_reads' HO_0.out).2.1); rintro e w' ⟨rfl, ⟨nd, rfl⟩⟩) | (go_at_call 43; (with_reducible refine (nat_Nat_Len.calls kj29 _ _ l0 t128 _ ?side1 ?side2 A54.out).mono ?_); (case side1 => repeat (first | exact (Kd.V_reads' HO_0.out).2.2 | (with_reducible refine Kd.C_alloc ?_ _) | (with_reducible refine Kd.C_drewN ?_ _) | (with_reducible refine Kd.C_drew ?_))); (case side2 => exact (Kd.V_reads' HO_0.out).2.1); rintro e w56 ⟨rfl, hb⟩; have n0_ := Aside0.mk (Kd.V_below (by (with_reducible repeat (first | apply Kd.V_alloc | apply Kd.V_drewN | apply Kd.V_drew)); exact HO_0.out) hb); have n1_ := Aside0.mk (Kd.R_below (by (with_reducible repeat (first | apply Kd.R_alloc | apply Kd.R_drewN | apply Kd.R_drew)); exact HO_9.out) hb); have n2_ := Aside0.mk (Kd.R_below (by (with_reducible repeat (first | apply Kd.R_alloc | apply Kd.R_drewN | apply Kd.R_drew)); exact HO121.out) hb); have n3_ := Aside0.mk (below_step (by repeat (first | (with_reducible first | exact HB.out | apply below_alloc | apply pw_below_drewN | apply below_drew1) | exact HB.out)) hb); clear HO_0; clear HO_9; clear HO121; clear HB; have HO_0 := n0_; have HO_9 := n1_; have HO121 := n2_; have HB := n3_; clear n0_ n1_ n2_ n3_; (try clear hb); (try clear hb2); (try clear hk); (try clear hi)))
                              go_meet
                              case rel => exact ⟨_, (!t117), (by first | rfl | (simp; done) | (simp [*]; done)), H', ⟨by have := HJ14.out; have := HJ29.out; first | omega | exact Nat.le_refl _⟩, ⟨by (with_reducible repeat (first | apply Kd.V_alloc | apply Kd.V_drewN | apply Kd.V_drew)); exact Kd.V_mono HO_0.out (fun _ hk => ⟨hk.1.1, hk.1.2⟩)⟩, ⟨by (with_reducible repeat (first | apply Kd.R_alloc | apply Kd.R_drewN | apply Kd.R_drew)); exact HO_9.out⟩, ⟨by repeat (first | (with_reducible first | exact HB.out | apply below_alloc | apply pw_below_drewN | apply below_drew1) | exact HB.out)⟩⟩
                            · rw [if_neg c55] at H
                              have c55b0 : (t128 == (t106.length : Int)) = false := beq_eq_false_iff_ne.mpr c55
                              have c55b1 : (t128 != (t106.length : Int)) = true := bne_iff_ne.mpr c55
                              have H' := Aside0.mk H
                              clear H
                              go_wp2_with (first | (go_at_call 42; (with_reducible refine (nat_Nat_Bit.calls _ _ l0 a2 t127 _ ?side1 ?side2 A52.out).mono ?_); (case side1 => repeat (first | exact (Kd.V_reads' HO_0.out).2.2 | (with_reducible refine Kd.C_alloc ?_ _) | (with_reducible refine Kd.C_drewN ?_ _) | (with_reducible refine Kd.C_drew ?_))); (case side2 => exact (Kd.V_reads' HO_0.out).2.1); rintro e w' ⟨rfl, ⟨nd, rfl⟩⟩) | (go_at_call 43; (with_reducible refine (nat_Nat_Len.calls kj29 _ _ l0 t128 _ ?side1 ?side2 A54.out).mono ?_); (case side1 => repeat (first | exact (Kd.V_reads' HO_0.out).2.2 | (with_reducible refine Kd.C_alloc ?_ _) | (with_reducible refine Kd.C_drewN ?_ _) | (with_reducible refine Kd.C_drew ?_))); (case side2 => exact (Kd.V_reads' HO_0.out).2.1); rintro e w57 ⟨rfl, hb⟩; have n0_ := Aside0.mk (Kd.V_below (by (with_reducible repeat (first | apply Kd.V_alloc | apply Kd.V_drewN | apply Kd.V_drew)); exact HO_0.out) hb); have n1_ := Aside0.mk (Kd.R_below (by (with_reducible repeat (first | apply Kd.R_alloc | apply Kd.R_drewN | apply Kd.R_drew)); exact HO_9.out) hb); have n2_ := Aside0.mk (Kd.R_below (by (with_reducible repeat (first | apply Kd.R_alloc | apply Kd.R_drewN | apply Kd.R_drew)); exact HO121.out) hb); have n3_ := Aside0.mk (below_step (by repeat (first | (with_reducible first | exact HB.out | apply below_alloc | apply pw_below_drewN | apply below_drew1) | exact HB.out)) hb); clear HO_0; clear HO_9; clear HO121; clear HB; have HO_0 := n0_; have HO_9 := n1_; have HO121 := n2_; have HB := n3_; clear n0_ n1_ n2_ n3_; (try clear hb); (try clear hb2); (try clear hk); (try clear hi)))
                              go_meet
                              case rel => exact ⟨_, (true), (by first | rfl | (simp; done) | (simp [*]; done)), H', ⟨by have := HJ14.out; have := HJ29.out; first | omega | exact Nat.le_refl _⟩, ⟨by (with_reducible repeat (first | apply Kd.V_alloc | apply Kd.V_drewN | apply Kd.V_drew)); exact Kd.V_mono HO_0.out (fun _ hk => ⟨hk.1.1, hk.1.2⟩)⟩, ⟨by (with_reducible repeat (first | apply Kd.R_alloc | apply Kd.R_drewN | apply Kd.R_drew)); exact HO_9.out⟩, ⟨by repeat (first | (with_reducible first | exact HB.out | apply below_alloc | apply pw_below_drewN | apply below_drew1) | exact HB.out)⟩⟩
                          · rw [if_neg c53] at H
                            have c53b0 : (t127 == x12_29) = false := beq_eq_false_iff_ne.mpr c53
                            have c53b1 : (t127 != x12_29) = true := bne_iff_ne.mpr c53
                            have H' := Aside0.mk H
                            clear H
                            go_wp2_with (first | (go_at_call 42; (with_reducible refine (nat_Nat_Bit.calls _ _ l0 a2 t127 _ ?side1 ?side2 A52.out).mono ?_); (case side1 => repeat (first | exact (Kd.V_reads' HO_0.out).2.2 | (with_reducible refine Kd.C_alloc ?_ _) | (with_reducible refine Kd.C_drewN ?_ _) | (with_reducible refine Kd.C_drew ?_))); (case side2 => exact (Kd.V_reads' HO_0.out).2.1); rintro e w' ⟨rfl, ⟨nd, rfl⟩⟩))
                            go_meet
                            case rel => exact ⟨_, (true), (by first | rfl | (simp; done) | (simp [*]; done)), H', ⟨by have := HJ14.out; have := HJ29.out; first | omega | exact Nat.le_refl _⟩, ⟨by (with_reducible repeat (first | apply Kd.V_alloc | apply Kd.V_drewN | apply Kd.V_drew)); exact Kd.V_mono HO_0.out (fun _ hk => ⟨hk.1.1, hk.1.2⟩)⟩, ⟨by (with_reducible repeat (first | apply Kd.R_alloc | apply Kd.R_drewN | apply Kd.R_drew)); exact HO_9.out⟩, ⟨by repeat (first | (with_reducible first | exact HB.out | apply below_alloc | apply pw_below_drewN | apply below_drew1) | exact HB.out)⟩⟩
                        · rw [if_neg c51] at H
                          have c51b0 : (t122 == 0) = false := beq_eq_false_iff_ne.mpr c51
                          have c51b1 : (t122 != 0) = true := bne_iff_ne.mpr c51
                          have H' := Aside0.mk H
                          clear H
                          go_wp2
                          go_meet
                          case rel => exact ⟨_, (true), (by first | rfl | (simp; done) | (simp [*]; done)), H', ⟨by have := HJ14.out; have := HJ29.out; first | omega | exact Nat.le_refl _⟩, ⟨by (with_reducible repeat (first | apply Kd.V_alloc | apply Kd.V_drewN | apply Kd.V_drew)); exact Kd.V_mono HO_0.out (fun _ hk => ⟨hk.1.1, hk.1.2⟩)⟩, ⟨by (with_reducible repeat (first | apply Kd.R_alloc | apply Kd.R_drewN | apply Kd.R_drew)); exact HO_9.out⟩, ⟨by repeat (first | (with_reducible first | exact HB.out | apply below_alloc | apply pw_below_drewN | apply below_drew1) | exact HB.out)⟩⟩
                  case rest =>
                    clear HC34
                    try clear c1
                    try clear p1
                    try clear q1
                    try clear hx1
                    try clear qi1
                    try clear c2
                    try clear p2
                    try clear q2
                    try clear c3
                    try clear c4
                    try clear c5
                    try clear c7
                    try clear p11
                    try clear q11
                    try clear hx11
                    try clear c12
                    try clear c12b0
                    try clear c12b1
                    try clear p12
                    try clear q12
                    try clear hx12
                    try clear qi12
                    try clear c13
                    try clear c13b0
                    try clear c13b1
                    try clear c23
                    try clear q23
                    try clear c24
                    try clear c25
                    try clear c27
                    try clear c27b0
                    try clear c28
                    try clear c28b0
                    try clear c29
                    try clear c29b0
                    try clear c31
                    try clear c37
                    try clear c37b0
                    try clear c37b1
                    try clear c37b2
                    try clear c38
                    try clear c39
                    try clear c39b0
                    try clear c39b1
                    try clear c40
                    try clear c40b0
                    try clear c40b1
                    try clear c41
                    try clear c42
                    try clear c42b0
                    try clear c42b1
                    try clear c44
                    try clear c44b0
                    try clear c44b1
                    try clear c51
                    try clear c51b0
                    try clear c51b1
                    try clear c53
                    try clear c53b0
                    try clear c53b1
                    try clear c55
                    try clear c55b0
                    try clear c55b1
                    try clear hx118_0
                    try clear hx124_0
                    try clear p1
                    try clear p11
                    try clear p118
                    try clear p124
                    try clear p2
                    try clear q023
                    try clear q1
                    try clear q11
                    try clear q118
                    try clear q124
                    try clear q2
                    try clear q23
                    obtain ⟨kq, x103_33, rfl, HA, HJ33, HO_0, HO_9, HB⟩ := hcut
                    cases kq with
                    | zero => exact absurd HA.out (by simp [flyballlaw02_NatShifts.j2])
                    | succ kj33 =>
                      have H := HA.out
                      clear HA
                      simp only [flyballlaw02_NatShifts.j2] at H
                      by_cases c58 : x103_33 = true
                      · subst c58
                        have H1 : (some false) = some r := by rw [if_pos rfl] at H; exact H
                        clear H
                        have H := H1
                        clear H1
                        obtain rfl := Option.some.inj H
                        go_wp2
                        go_ret
                        exact ⟨by first | rfl | (simp [errW_none, errW_some] <;> rfl) | (simp only [← hji9, ← hji10]; first | rfl | (simp [errW_none, errW_some] <;> rfl)) | (simp [*, errW_none, errW_some] <;> rfl), by repeat (first | (with_reducible first | exact HB.out | apply below_alloc | apply pw_below_drewN | apply below_drew1) | exact HB.out)⟩
                      · replace c58 := Bool.eq_false_iff.mpr c58
                        subst c58
                        have H1 : ((nat_Nat_Shl.f kj33 l0 a1).bind fun bt129 => (if (t106.length : Int) > 0 then (flyballlaw02_NatShifts.j3 kj33 a1 true t106 bt129.1 bt129.2 (decide (a1 > (wrap64 (65536 - (t106.length : Int)))))) else (flyballlaw02_NatShifts.j3 kj33 a1 true t106 bt129.1 bt129.2 false))) = some r := by rw [if_neg (show ¬ (false = true) by decide)] at H; exact H
                        clear H
                        have H := H1
                        clear H1
                        replace H := Option.bind_eq_some_iff.mp H
                        obtain ⟨⟨t129, t132⟩, A590, H⟩ := H
                        replace H : (if (t106.length : Int) > 0 then (flyballlaw02_NatShifts.j3 kj33 a1 true t106 t129 t132 (decide (a1 > (wrap64 (65536 - (t106.length : Int)))))) else (flyballlaw02_NatShifts.j3 kj33 a1 true t106 t129 t132 false)) = some r := H
                        have A59 := Aside0.mk A590
                        clear A590
                        have HC60 := Aside0.mk H
                        clear H
                        go_upto_region 18 with (first | ((with_reducible refine gate_callee (f := 44) rfl ?_); refine goesL_ (some 107) rfl rfl Try.func44 (by kernel_rfl) rfl #[.slice A0 l0.length c0, .int .i64 a1] rfl (by (try simp only [List.map_toArray, List.map_cons, List.map_nil]); first | done | rfl | (simp only [List.length_drop, List.length_take]; rfl)) ?_; (with_reducible refine (nat_Nat_Shl.calls kj33 _ _ l0 a1 t129 t132 _ ?side1 ?side2 A59.out).mono ?_); (case side1 => repeat (first | exact (Kd.V_reads' HO_0.out).2.2 | (with_reducible refine Kd.C_alloc ?_ _) | (with_reducible refine Kd.C_drewN ?_ _) | (with_reducible refine Kd.C_drew ?_))); (case side2 => exact (Kd.V_reads' HO_0.out).2.1); rintro e w61 ⟨v130, rfl, ho0, hb⟩; refine ⟨_, rfl, ?_⟩; have n0_ := Aside0.mk (Kd.V_below (by (with_reducible repeat (first | apply Kd.V_alloc | apply Kd.V_drewN | apply Kd.V_drew)); exact HO_0.out) hb); have n1_ := Aside0.mk (Kd.R_below (by (with_reducible repeat (first | apply Kd.R_alloc | apply Kd.R_drewN | apply Kd.R_drew)); exact HO_9.out) hb); have n2_ := Aside0.mk (Kd.V_lower (Kd.V_mono (ok' := fun k_ => (P0_ k_ ∨ w.heap.size ≤ k_) ∧ some k_ ≠ (.slice Ao21 t106.length co21 : Value).ownBlock) ho0 (fun k_ hk_ => ⟨(.inr (Nat.le_trans (below_size (by repeat (first | (with_reducible first | exact HB.out | apply below_alloc | apply pw_below_drewN | apply below_drew1) | exact HB.out))) hk_)), (Kd.fresh' (Kd.R_lt (by (with_reducible repeat (first | apply Kd.R_alloc | apply Kd.R_drewN | apply Kd.R_drew)); exact HO_9.out)) k_ hk_)⟩)) (below_size (by repeat (first | (with_reducible first | exact HB.out | apply below_alloc | apply pw_below_drewN | apply below_drew1) | exact HB.out)))); have n3_ := Aside0.mk (below_step (by repeat (first | (with_reducible first | exact HB.out | apply below_alloc | apply pw_below_drewN | apply below_drew1) | exact HB.out)) hb); clear HO_0; clear HO_9; clear HB; have HO_0 := n0_; have HO_9 := n1_; have HO131 := n2_; have HB := n3_; clear n0_ n1_ n2_ n3_; (try clear hb); (try clear hb2); (try clear hk); (try clear hi); (try clear ho0)))
                        (try simp only [Act.put, List.setIfInBounds_toArray, List.set_cons_zero, List.set_cons_succ])
                        go_cut [119] (fun v119 wc => ∃ (kq : Nat) (x119_59 : Bool), v119 = .bool x119_59 ∧ Aside0 (flyballlaw02_NatShifts.j3 kq a1 true t106 t129 t132 x119_59 = some r) ∧ Aside0 (kq ≤ kj33) ∧ Aside0 (Kd.R Kd.bool 4 wc w.heap.size (fun k_ => (w.heap.size ≤ k_)) (.slice Ao21 t106.length co21) t106) ∧ Aside0 (Kd.V (Kd.int .u32) 118 wc w.heap.size (fun k_ => (P0_ k_ ∨ w.heap.size ≤ k_) ∧ some k_ ≠ ((.slice Ao21 t106.length co21) : Value).ownBlock) v130 t129) ∧ Aside0 (Below w.heap.size w wc))
                        case first =>
                          have H := HC60.out
                          clear HC60
                          by_cases c62 : (t106.length : Int) > 0
                          · rw [if_pos c62] at H
                            have c62b0 : decide (0 < (t106.length : Int)) = true := decide_eq_true c62
                            have c62b1 : decide (0 < t106.length) = true := decide_eq_true (by omega)
                            clear c62
                            (first | rw [c62b0] | (simp only [i64_w, i32_w]; rw [c62b0]) | skip)
                            have H' := Aside0.mk H
                            clear H
                            go_wp2
                            go_meet
                            case rel => exact ⟨_, (decide (a1 > (wrap64 (65536 - (t106.length : Int))))), (by first | rfl | (simp; done) | (simp [*]; done)), H', ⟨by have := HJ14.out; have := HJ29.out; have := HJ33.out; first | omega | exact Nat.le_refl _⟩, ⟨by (with_reducible repeat (first | apply Kd.R_alloc | apply Kd.R_drewN | apply Kd.R_drew)); exact HO_9.out⟩, ⟨by (with_reducible repeat (first | apply Kd.V_alloc | apply Kd.V_drewN | apply Kd.V_drew)); exact HO131.out⟩, ⟨by repeat (first | (with_reducible first | exact HB.out | apply below_alloc | apply pw_below_drewN | apply below_drew1) | exact HB.out)⟩⟩
                          · rw [if_neg c62] at H
                            have c62b0 : decide (0 < (t106.length : Int)) = false := decide_eq_false c62
                            have c62b1 : decide (0 < t106.length) = false := decide_eq_false (by omega)
                            clear c62
                            (first | rw [c62b0] | (simp only [i64_w, i32_w]; rw [c62b0]) | skip)
                            have H' := Aside0.mk H
                            clear H
                            go_wp2
                            go_meet
                            case rel => exact ⟨_, (false), (by first | rfl | (simp; done) | (simp [*]; done)), H', ⟨by have := HJ14.out; have := HJ29.out; have := HJ33.out; first | omega | exact Nat.le_refl _⟩, ⟨by (with_reducible repeat (first | apply Kd.R_alloc | apply Kd.R_drewN | apply Kd.R_drew)); exact HO_9.out⟩, ⟨by (with_reducible repeat (first | apply Kd.V_alloc | apply Kd.V_drewN | apply Kd.V_drew)); exact HO131.out⟩, ⟨by repeat (first | (with_reducible first | exact HB.out | apply below_alloc | apply pw_below_drewN | apply below_drew1) | exact HB.out)⟩⟩
                        case rest =>
                          clear HC60
                          try clear c1
                          try clear p1
                          try clear q1
                          try clear hx1
                          try clear qi1
                          try clear c2
                          try clear p2
                          try clear q2
                          try clear c3
                          try clear c4
                          try clear c5
                          try clear c6
                          try clear p6
                          try clear c7
                          try clear p11
                          try clear q11
                          try clear hx11
                          try clear c12
                          try clear c12b0
                          try clear c12b1
                          try clear p12
                          try clear q12
                          try clear hx12
                          try clear qi12
                          try clear c13
                          try clear c13b0
                          try clear c13b1
                          try clear c23
                          try clear q23
                          try clear c24
                          try clear c25
                          try clear c27
                          try clear c27b0
                          try clear c28
                          try clear c28b0
                          try clear c29
                          try clear c29b0
                          try clear c31
                          try clear c37
                          try clear c37b0
                          try clear c37b1
                          try clear c37b2
                          try clear c38
                          try clear c39
                          try clear c39b0
                          try clear c39b1
                          try clear c40
                          try clear c40b0
                          try clear c40b1
                          try clear c41
                          try clear c42
                          try clear c42b0
                          try clear c42b1
                          try clear c44
                          try clear c44b0
                          try clear c44b1
                          try clear c51
                          try clear c51b0
                          try clear c51b1
                          try clear c53
                          try clear c53b0
                          try clear c53b1
                          try clear c55
                          try clear c55b0
                          try clear c55b1
                          try clear c58
                          try clear c62
                          try clear c62b0
                          try clear c62b1
                          try clear hx118_0
                          try clear hx124_0
                          try clear p1
                          try clear p11
                          try clear p118
                          try clear p12
                          try clear p124
                          try clear p2
                          try clear q023
                          try clear q1
                          try clear q11
                          try clear q118
                          try clear q12
                          try clear q124
                          try clear q2
                          try clear q23
                          obtain ⟨kq, x119_59, rfl, HA, HJ59, HO_9, HO_16, HB⟩ := hcut
                          cases kq with
                          | zero => exact absurd HA.out (by simp [flyballlaw02_NatShifts.j3])
                          | succ kj59 =>
                            have H := HA.out
                            clear HA
                            simp only [flyballlaw02_NatShifts.j3] at H
                            by_cases c63 : x119_59 = true
                            · subst c63
                              have H1 : (if true = true then (if (t129.length : Int) = 0 then (some (t132 == 20)) else (some false)) else (some false)) = some r := by rw [if_pos rfl] at H; exact H
                              clear H
                              have H := H1
                              clear H1
                              by_cases c64 : (true : Bool) = true
                              · clear c64
                                have H1 : (if (t129.length : Int) = 0 then (some (t132 == 20)) else (some false)) = some r := by rw [if_pos rfl] at H; exact H
                                clear H
                                have H := H1
                                clear H1
                                by_cases c65 : (t129.length : Int) = 0
                                · rw [if_pos c65] at H
                                  have c65b0 : ((t129.length : Int) == 0) = true := beq_iff_eq.mpr c65
                                  have c65b1 : ((t129.length : Int) != 0) = false := bne_eq_false_iff_eq.mpr c65
                                  clear c65
                                  obtain rfl := Option.some.inj H
                                  obtain ⟨Ao66, co66, eo66⟩ := Kd.V_slice HO_16.out
                                  subst eo66
                                  go_wp2
                                  go_ret
                                  exact ⟨by first | rfl | (simp [errW_none, errW_some] <;> rfl) | (simp only [← hji9, ← hji10]; first | rfl | (simp [errW_none, errW_some] <;> rfl)) | (simp [*, errW_none, errW_some] <;> rfl), by repeat (first | (with_reducible first | exact HB.out | apply below_alloc | apply pw_below_drewN | apply below_drew1) | exact HB.out)⟩
                                · rw [if_neg c65] at H
                                  have c65b0 : ((t129.length : Int) == 0) = false := beq_eq_false_iff_ne.mpr c65
                                  have c65b1 : ((t129.length : Int) != 0) = true := bne_iff_ne.mpr c65
                                  have c65b2 : ¬ (t129 = []) := fun h_ => c65 (by rw [h_]; rfl)
                                  obtain rfl := Option.some.inj H
                                  obtain ⟨Ao67, co67, eo67⟩ := Kd.V_slice HO_16.out
                                  subst eo67
                                  go_wp2
                                  go_ret
                                  exact ⟨by first | rfl | (simp [errW_none, errW_some] <;> rfl) | (simp only [← hji9, ← hji10]; first | rfl | (simp [errW_none, errW_some] <;> rfl)) | (simp [*, errW_none, errW_some] <;> rfl), by repeat (first | (with_reducible first | exact HB.out | apply below_alloc | apply pw_below_drewN | apply below_drew1) | exact HB.out)⟩
                              · exact absurd rfl c64
                            · replace c63 := Bool.eq_false_iff.mpr c63
                              subst c63
                              have H1 : (if (t106.length : Int) = 0 then (if true = true then (if (t129.length : Int) = 0 then (some (t132 == 0)) else (some false)) else (some false)) else ((flyballref01_Shl.f kj59 t106 (mx a1 0)).bind fun t133 => ((flyballref02_Is.f kj59 t129 t133).bind fun t136 => (if true = true then (if t136 = true then (some (t132 == 0)) else (some false)) else (some false))))) = some r := by rw [if_neg (show ¬ (false = true) by decide)] at H; exact H
                              clear H
                              have H := H1
                              clear H1
                              by_cases c68 : (t106.length : Int) = 0
                              · rw [if_pos c68] at H
                                have c68b0 : ((t106.length : Int) == 0) = true := beq_iff_eq.mpr c68
                                have c68b1 : ((t106.length : Int) != 0) = false := bne_eq_false_iff_eq.mpr c68
                                clear c68
                                by_cases c69 : (true : Bool) = true
                                · clear c69
                                  have H1 : (if (t129.length : Int) = 0 then (some (t132 == 0)) else (some false)) = some r := by rw [if_pos rfl] at H; exact H
                                  clear H
                                  have H := H1
                                  clear H1
                                  by_cases c70 : (t129.length : Int) = 0
                                  · rw [if_pos c70] at H
                                    have c70b0 : ((t129.length : Int) == 0) = true := beq_iff_eq.mpr c70
                                    have c70b1 : ((t129.length : Int) != 0) = false := bne_eq_false_iff_eq.mpr c70
                                    clear c70
                                    obtain rfl := Option.some.inj H
                                    obtain ⟨Ao71, co71, eo71⟩ := Kd.V_slice HO_16.out
                                    subst eo71
                                    go_wp2
                                    go_ret
                                    exact ⟨by first | rfl | (simp [errW_none, errW_some] <;> rfl) | (simp only [← hji9, ← hji10]; first | rfl | (simp [errW_none, errW_some] <;> rfl)) | (simp [*, errW_none, errW_some] <;> rfl), by repeat (first | (with_reducible first | exact HB.out | apply below_alloc | apply pw_below_drewN | apply below_drew1) | exact HB.out)⟩
                                  · rw [if_neg c70] at H
                                    have c70b0 : ((t129.length : Int) == 0) = false := beq_eq_false_iff_ne.mpr c70
                                    have c70b1 : ((t129.length : Int) != 0) = true := bne_iff_ne.mpr c70
                                    have c70b2 : ¬ (t129 = []) := fun h_ => c70 (by rw [h_]; rfl)
                                    obtain rfl := Option.some.inj H
                                    obtain ⟨Ao72, co72, eo72⟩ := Kd.V_slice HO_16.out
                                    subst eo72
                                    go_wp2
                                    go_ret
                                    exact ⟨by first | rfl | (simp [errW_none, errW_some] <;> rfl) | (simp only [← hji9, ← hji10]; first | rfl | (simp [errW_none, errW_some] <;> rfl)) | (simp [*, errW_none, errW_some] <;> rfl), by repeat (first | (with_reducible first | exact HB.out | apply below_alloc | apply pw_below_drewN | apply below_drew1) | exact HB.out)⟩
                                · exact absurd rfl c69
                              · rw [if_neg c68] at H
                                have c68b0 : ((t106.length : Int) == 0) = false := beq_eq_false_iff_ne.mpr c68
                                have c68b1 : ((t106.length : Int) != 0) = true := bne_iff_ne.mpr c68
                                have c68b2 : ¬ (t106 = []) := fun h_ => c68 (by rw [h_]; rfl)
                                replace H : ((flyballref01_Shl.f kj59 t106 (ji9)).bind fun t133 => ((flyballref02_Is.f kj59 t129 t133).bind fun t136 => (if true = true then (if t136 = true then (some (t132 == 0)) else (some false)) else (some false)))) = some r := by first | (rw [hji9] at H; exact H) | (simp only [hji9] at H ⊢; exact H)
                                (try (have hji9l : 0 ≤ ji9 := by (rw [← hji9]; unfold mx; (repeat' split) <;> omega)))
                                (try (have hji9m : 0 ≤ ji9 := by omega))
                                have hji9_ : (if a1 < 0 then 0 else a1) = ji9 := hji9
                                replace H := Option.bind_eq_some_iff.mp H
                                obtain ⟨t133, A740, H⟩ := H
                                replace H : ((flyballref02_Is.f kj59 t129 t133).bind fun t136 => (if true = true then (if t136 = true then (some (t132 == 0)) else (some false)) else (some false))) = some r := H
                                have A74 := Aside0.mk A740
                                clear A740
                                replace H := Option.bind_eq_some_iff.mp H
                                obtain ⟨t136, A750, H⟩ := H
                                replace H : (if true = true then (if t136 = true then (some (t132 == 0)) else (some false)) else (some false)) = some r := H
                                have A75 := Aside0.mk A750
                                clear A750
                                by_cases c76 : (true : Bool) = true
                                · clear c76
                                  have H1 : (if t136 = true then (some (t132 == 0)) else (some false)) = some r := by rw [if_pos rfl] at H; exact H
                                  clear H
                                  have H := H1
                                  clear H1
                                  by_cases c77 : t136 = true
                                  · subst c77
                                    have H1 : (some (t132 == 0)) = some r := by rw [if_pos rfl] at H; exact H
                                    clear H
                                    have H := H1
                                    clear H1
                                    obtain rfl := Option.some.inj H
                                    go_wp2_with (first | ((with_reducible refine gate_callee (f := 45) rfl ?_); refine goesL_ (some 147) rfl rfl Try.func45 (by kernel_rfl) rfl #[.slice Ao21 t106.length co21, .int .i64 ji9] rfl (by (try simp only [List.map_toArray, List.map_cons, List.map_nil]); first | done | (simp only [hji9]; rfl) | rfl | (simp only [List.length_drop, List.length_take]; rfl)) ?_; (with_reducible refine (flyballref01_Shl.calls kj59 _ _ t106 ji9 t133 _ ?side1 ?side2 A74.out).mono ?_); (case side1 => repeat (first | exact (Kd.R_reads' HO_9.out).2.2 | (with_reducible refine Kd.C_alloc ?_ _) | (with_reducible refine Kd.C_drewN ?_ _) | (with_reducible refine Kd.C_drew ?_))); (case side2 => exact (Kd.R_reads' HO_9.out).2.1); rintro e w78 ⟨v134, rfl, ho0, hb⟩; refine ⟨_, rfl, ?_⟩; have n0_ := Aside0.mk (Kd.R_elder' (by (with_reducible repeat (first | apply Kd.R_alloc | apply Kd.R_drewN | apply Kd.R_drew)); exact HO_9.out) (Kd.R_base ho0) hb); have n1_ := Aside0.mk (Kd.V_elder' (by (with_reducible repeat (first | apply Kd.V_alloc | apply Kd.V_drewN | apply Kd.V_drew)); exact HO_16.out) (Kd.R_base ho0) hb); have n2_ := Aside0.mk (Kd.R_lower (Kd.R_new' (Kd.R_newM (M := fun k_ => (w.heap.size ≤ k_)) ho0 (below_size (by repeat (first | (with_reducible first | exact HB.out | apply below_alloc | apply pw_below_drewN | apply below_drew1) | exact HB.out))) (fun k_ h_ => h_)) (Kd.R_lt (by (with_reducible repeat (first | apply Kd.R_alloc | apply Kd.R_drewN | apply Kd.R_drew)); exact HO_9.out))) (below_size (by repeat (first | (with_reducible first | exact HB.out | apply below_alloc | apply pw_below_drewN | apply below_drew1) | exact HB.out)))); have n3_ := Aside0.mk (below_step (by repeat (first | (with_reducible first | exact HB.out | apply below_alloc | apply pw_below_drewN | apply below_drew1) | exact HB.out)) hb); clear HO_9; clear HO_16; clear HB; have HO_9 := n0_; have HO_16 := n1_; have HO135 := n2_; have HB := n3_; clear n0_ n1_ n2_ n3_; (try clear hb); (try clear hb2); (try clear hk); (try clear hi); (try clear ho0); obtain ⟨Ao79, co79, eo79⟩ := Kd.V_slice HO_16.out; subst eo79; obtain ⟨Ao80, co80, eo80⟩ := Kd.R_slice HO135.out; subst eo80) | ((with_reducible refine gate_callee (f := 27) rfl ?_); refine goesL_ (some 148) rfl rfl Try.func27 (by kernel_rfl) rfl #[.slice Ao79 t129.length co79, .slice Ao80 t133.length co80] rfl (by (try simp only [List.map_toArray, List.map_cons, List.map_nil]); first | done | rfl | (simp only [List.length_drop, List.length_take]; rfl)) ?_; (with_reducible refine (flyballref02_Is.calls kj59 _ _ t129 _ _ t133 true _ ?side1 ?side2 ?side3 ?side4 A75.out).mono ?_); (case side1 => repeat (first | exact (Kd.V_reads' HO_16.out).2.2 | (with_reducible refine Kd.C_alloc ?_ _) | (with_reducible refine Kd.C_drewN ?_ _) | (with_reducible refine Kd.C_drew ?_))); (case side2 => exact (Kd.V_reads' HO_16.out).2.1); (case side3 => repeat (first | exact (Kd.R_reads' HO135.out).2.2 | (with_reducible refine Kd.C_alloc ?_ _) | (with_reducible refine Kd.C_drewN ?_ _) | (with_reducible refine Kd.C_drew ?_))); (case side4 => exact (Kd.R_reads' HO135.out).2.1); rintro e w81 ⟨rfl, hb⟩; refine ⟨_, rfl, ?_⟩; have n0_ := Aside0.mk (Kd.R_below (by (with_reducible repeat (first | apply Kd.R_alloc | apply Kd.R_drewN | apply Kd.R_drew)); exact HO_9.out) hb); have n1_ := Aside0.mk (Kd.V_below (by (with_reducible repeat (first | apply Kd.V_alloc | apply Kd.V_drewN | apply Kd.V_drew)); exact HO_16.out) hb); have n2_ := Aside0.mk (Kd.R_below (by (with_reducible repeat (first | apply Kd.R_alloc | apply Kd.R_drewN | apply Kd.R_drew)); exact HO135.out) hb); have n3_ := Aside0.mk (below_step (by repeat (first | (with_reducible first | exact HB.out | apply below_alloc | apply pw_below_drewN | apply below_drew1) | exact HB.out)) hb); clear HO_9; clear HO_16; clear HO135; clear HB; have HO_9 := n0_; have HO_16 := n1_; have HO135 := n2_; have HB := n3_; clear n0_ n1_ n2_ n3_; (try clear hb); (try clear hb2); (try clear hk); (try clear hi)))
                                    go_ret
                                    exact ⟨by first | rfl | (simp [errW_none, errW_some] <;> rfl) | (simp only [← hji9, ← hji10, ← hji9]; first | rfl | (simp [errW_none, errW_some] <;> rfl)) | (simp [*, errW_none, errW_some] <;> rfl), by repeat (first | (with_reducible first | exact HB.out | apply below_alloc | apply pw_below_drewN | apply below_drew1) | exact HB.out)⟩
                                  · replace c77 := Bool.eq_false_iff.mpr c77
                                    subst c77
                                    have H1 : (some false) = some r := by rw [if_neg (show ¬ (false = true) by decide)] at H; exact H
                                    clear H
                                    have H := H1
                                    clear H1
                                    obtain rfl := Option.some.inj H
                                    go_wp2_with (first | ((with_reducible refine gate_callee (f := 45) rfl ?_); refine goesL_ (some 147) rfl rfl Try.func45 (by kernel_rfl) rfl #[.slice Ao21 t106.length co21, .int .i64 ji9] rfl (by (try simp only [List.map_toArray, List.map_cons, List.map_nil]); first | done | (simp only [hji9]; rfl) | rfl | (simp only [List.length_drop, List.length_take]; rfl)) ?_; (with_reducible refine (flyballref01_Shl.calls kj59 _ _ t106 ji9 t133 _ ?side1 ?side2 A74.out).mono ?_); (case side1 => repeat (first | exact (Kd.R_reads' HO_9.out).2.2 | (with_reducible refine Kd.C_alloc ?_ _) | (with_reducible refine Kd.C_drewN ?_ _) | (with_reducible refine Kd.C_drew ?_))); (case side2 => exact (Kd.R_reads' HO_9.out).2.1); rintro e w82 ⟨v134, rfl, ho0, hb⟩; refine ⟨_, rfl, ?_⟩; have n0_ := Aside0.mk (Kd.R_elder' (by (with_reducible repeat (first | apply Kd.R_alloc | apply Kd.R_drewN | apply Kd.R_drew)); exact HO_9.out) (Kd.R_base ho0) hb); have n1_ := Aside0.mk (Kd.V_elder' (by (with_reducible repeat (first | apply Kd.V_alloc | apply Kd.V_drewN | apply Kd.V_drew)); exact HO_16.out) (Kd.R_base ho0) hb); have n2_ := Aside0.mk (Kd.R_lower (Kd.R_new' (Kd.R_newM (M := fun k_ => (w.heap.size ≤ k_)) ho0 (below_size (by repeat (first | (with_reducible first | exact HB.out | apply below_alloc | apply pw_below_drewN | apply below_drew1) | exact HB.out))) (fun k_ h_ => h_)) (Kd.R_lt (by (with_reducible repeat (first | apply Kd.R_alloc | apply Kd.R_drewN | apply Kd.R_drew)); exact HO_9.out))) (below_size (by repeat (first | (with_reducible first | exact HB.out | apply below_alloc | apply pw_below_drewN | apply below_drew1) | exact HB.out)))); have n3_ := Aside0.mk (below_step (by repeat (first | (with_reducible first | exact HB.out | apply below_alloc | apply pw_below_drewN | apply below_drew1) | exact HB.out)) hb); clear HO_9; clear HO_16; clear HB; have HO_9 := n0_; have HO_16 := n1_; have HO135 := n2_; have HB := n3_; clear n0_ n1_ n2_ n3_; (try clear hb); (try clear hb2); (try clear hk); (try clear hi); (try clear ho0); obtain ⟨Ao83, co83, eo83⟩ := Kd.V_slice HO_16.out; subst eo83; obtain ⟨Ao84, co84, eo84⟩ := Kd.R_slice HO135.out; subst eo84) | ((with_reducible refine gate_callee (f := 27) rfl ?_); refine goesL_ (some 148) rfl rfl Try.func27 (by kernel_rfl) rfl #[.slice Ao83 t129.length co83, .slice Ao84 t133.length co84] rfl (by (try simp only [List.map_toArray, List.map_cons, List.map_nil]); first | done | rfl | (simp only [List.length_drop, List.length_take]; rfl)) ?_; (with_reducible refine (flyballref02_Is.calls kj59 _ _ t129 _ _ t133 false _ ?side1 ?side2 ?side3 ?side4 A75.out).mono ?_); (case side1 => repeat (first | exact (Kd.V_reads' HO_16.out).2.2 | (with_reducible refine Kd.C_alloc ?_ _) | (with_reducible refine Kd.C_drewN ?_ _) | (with_reducible refine Kd.C_drew ?_))); (case side2 => exact (Kd.V_reads' HO_16.out).2.1); (case side3 => repeat (first | exact (Kd.R_reads' HO135.out).2.2 | (with_reducible refine Kd.C_alloc ?_ _) | (with_reducible refine Kd.C_drewN ?_ _) | (with_reducible refine Kd.C_drew ?_))); (case side4 => exact (Kd.R_reads' HO135.out).2.1); rintro e w85 ⟨rfl, hb⟩; refine ⟨_, rfl, ?_⟩; have n0_ := Aside0.mk (Kd.R_below (by (with_reducible repeat (first | apply Kd.R_alloc | apply Kd.R_drewN | apply Kd.R_drew)); exact HO_9.out) hb); have n1_ := Aside0.mk (Kd.V_below (by (with_reducible repeat (first | apply Kd.V_alloc | apply Kd.V_drewN | apply Kd.V_drew)); exact HO_16.out) hb); have n2_ := Aside0.mk (Kd.R_below (by (with_reducible repeat (first | apply Kd.R_alloc | apply Kd.R_drewN | apply Kd.R_drew)); exact HO135.out) hb); have n3_ := Aside0.mk (below_step (by repeat (first | (with_reducible first | exact HB.out | apply below_alloc | apply pw_below_drewN | apply below_drew1) | exact HB.out)) hb); clear HO_9; clear HO_16; clear HO135; clear HB; have HO_9 := n0_; have HO_16 := n1_; have HO135 := n2_; have HB := n3_; clear n0_ n1_ n2_ n3_; (try clear hb); (try clear hb2); (try clear hk); (try clear hi)))
                                    go_ret
                                    exact ⟨by first | rfl | (simp [errW_none, errW_some] <;> rfl) | (simp only [← hji9, ← hji10, ← hji9]; first | rfl | (simp [errW_none, errW_some] <;> rfl)) | (simp [*, errW_none, errW_some] <;> rfl), by repeat (first | (with_reducible first | exact HB.out | apply below_alloc | apply pw_below_drewN | apply below_drew1) | exact HB.out)⟩
                                · exact absurd rfl c76
        · rw [if_neg c13] at H
          exact absurd H (by simp)
      · rw [if_neg c12] at H
        exact absurd H (by simp)
    · replace c7 := Bool.eq_false_iff.mpr c7
      subst c7
      have H1 : (some true) = some r := by rw [if_neg (show ¬ (false = true) by decide)] at H; exact H
      clear H
      have H := H1
      clear H1
      obtain rfl := Option.some.inj H
      go_enter Try.func5, Try.ntmps5
      go_wp2_with (first | ((with_reducible refine gate_callee (f := 23) rfl ?_); refine goesL_ (some 19) rfl rfl Try.func23 (by kernel_rfl) rfl #[] rfl (by (try simp only [List.map_toArray, List.map_cons, List.map_nil]); first | done | rfl | (simp only [List.length_drop, List.length_take]; rfl)) ?_; (with_reducible refine (flyballlaw02_works.calls k  true _ A4.out).mono ?_); rintro e w90 ⟨rfl, hb⟩; refine ⟨_, rfl, ?_⟩; have n0_ := Aside0.mk (Kd.V_below (by (with_reducible repeat (first | apply Kd.V_alloc | apply Kd.V_drewN | apply Kd.V_drew)); exact HO0.out) hb); have n1_ := Aside0.mk (below_step (by repeat (first | (with_reducible first | exact HB.out | apply below_alloc | apply pw_below_drewN | apply below_drew1) | exact HB.out)) hb); clear HO0; clear HB; have HO0 := n0_; have HB := n1_; clear n0_ n1_; (try clear hb); (try clear hb2); (try clear hk); (try clear hi)) | ((with_reducible refine gate_dst (N := 23) rfl ?_); (try (refine gate_guard (by rfl) ?_; dsimp only)); refine Kd.N_lit (Kd.slice 118 (Kd.int .u32)) _ 23 ?hg (N' := 23) ?hd (xs := ([l0] : List (List Int))) (inner := [.slice A0 l0.length c0]) (ok := (fun k_ => (P0_ k_ ∨ w.heap.size ≤ k_))) (okp := (fun k_ => (P0_ k_ ∨ w.heap.size ≤ k_))) ?hr ?hp (fun _ hk => hk) ((show ∀ k_, w90.heap.size ≤ k_ → (fun k_ => (P0_ k_ ∨ w.heap.size ≤ k_)) k_ from fun k_ hk => (.inr (Nat.le_trans (below_size (by repeat (first | (with_reducible first | exact HB.out | apply below_alloc | apply pw_below_drewN | apply below_drew1) | exact HB.out))) hk))) _ (Nat.le_refl _)) (Below.refl _ _) (Nat.le_refl _) (by simp) ?_; (case hd => rfl); (case hg => rfl); (case hr => first | (go_simp; done) | (go_simp; rfl)); (case hp => exact (Reps.one (show Kd.FK (Kd.slice 118 (Kd.int .u32)) _ _ l0 [.slice A0 l0.length c0] from (Kd.FK_slice_mk (Kd.V_reads' (Kd.V_mono (ok' := (fun k_ => (P0_ k_ ∨ w.heap.size ≤ k_))) (HO0.out) (fun k_ hk => hk))).2.1 (Kd.V_F (Kd.V_mono (ok' := (fun k_ => (P0_ k_ ∨ w.heap.size ≤ k_))) (HO0.out) (fun k_ hk => hk))))) (Reps.none _ _))); intro v103 w91 ho92 hb hg_ hnew_; clear hg_ hnew_; (first | rw [← Ny102.out] at ho92 | (simp only [Int.reduceToNat] at ho92; rw [← Ny102.out] at ho92)); have n0_ := Aside0.mk (Kd.V_elder' (by (with_reducible repeat (first | apply Kd.V_alloc | apply Kd.V_drewN | apply Kd.V_drew)); exact HO0.out) (Kd.N_base ho92) hb); have n1_ := Aside0.mk (Kd.N_lower ho92 (below_size (by repeat (first | (with_reducible first | exact HB.out | apply below_alloc | apply pw_below_drewN | apply below_drew1) | exact HB.out)))); have n2_ := Aside0.mk (below_step (by repeat (first | (with_reducible first | exact HB.out | apply below_alloc | apply pw_below_drewN | apply below_drew1) | exact HB.out)) hb); clear HO0; clear HB; have HO0 := n0_; have HO104 := n1_; have HB := n2_; clear n0_ n1_ n2_; clear hb ho92; obtain ⟨Ao93, co93, eo93⟩ := Kd.N_slice HO104.out; subst eo93) | ((with_reducible refine gate_callee (f := 24) rfl ?_); refine goesL_ (some 24) rfl rfl Try.func24 (by kernel_rfl) rfl #[.slice Ao93 y102.length co93] rfl (by (try simp only [List.map_toArray, List.map_cons, List.map_nil]); first | done | rfl | (simp only [List.length_drop, List.length_take]; rfl)) ?_; (with_reducible refine (flyballlaw02_small.calls k _ _ y102 false _ ?side1 ?side2 A6.out).mono ?_); (case side1 => repeat (first | exact (Kd.N_reads' HO104.out).2.2 | (with_reducible refine Kd.C_alloc ?_ _) | (with_reducible refine Kd.C_drewN ?_ _) | (with_reducible refine Kd.C_drew ?_))); (case side2 => exact (Kd.N_reads' HO104.out).2.1); rintro e w' ⟨rfl, ⟨nd, rfl⟩⟩; refine ⟨_, rfl, ?_⟩))
      go_ret
      exact ⟨by first | rfl | (simp [errW_none, errW_some] <;> rfl) | (simp [*, errW_none, errW_some] <;> rfl), by repeat (first | (with_reducible first | exact HB.out | apply below_alloc | apply pw_below_drewN | apply below_drew1) | exact HB.out)⟩
  · replace c5 := Bool.eq_false_iff.mpr c5
    subst c5
    have H1 : (some false) = some r := by rw [if_neg (show ¬ (false = true) by decide)] at H; exact H
    clear H
    have H := H1
    clear H1
    obtain rfl := Option.some.inj H
    go_enter Try.func5, Try.ntmps5
    go_wp2_with (first | ((with_reducible refine gate_callee (f := 23) rfl ?_); refine goesL_ (some 19) rfl rfl Try.func23 (by kernel_rfl) rfl #[] rfl (by (try simp only [List.map_toArray, List.map_cons, List.map_nil]); first | done | rfl | (simp only [List.length_drop, List.length_take]; rfl)) ?_; (with_reducible refine (flyballlaw02_works.calls k  false _ A4.out).mono ?_); rintro e w94 ⟨rfl, hb⟩; refine ⟨_, rfl, ?_⟩; have n0_ := Aside0.mk (Kd.V_below (by (with_reducible repeat (first | apply Kd.V_alloc | apply Kd.V_drewN | apply Kd.V_drew)); exact HO0.out) hb); have n1_ := Aside0.mk (below_step (by repeat (first | (with_reducible first | exact HB.out | apply below_alloc | apply pw_below_drewN | apply below_drew1) | exact HB.out)) hb); clear HO0; clear HB; have HO0 := n0_; have HB := n1_; clear n0_ n1_; (try clear hb); (try clear hb2); (try clear hk); (try clear hi)))
    go_ret
    exact ⟨by first | rfl | (simp [errW_none, errW_some] <;> rfl) | (simp [*, errW_none, errW_some] <;> rfl), by repeat (first | (with_reducible first | exact HB.out | apply below_alloc | apply pw_below_drewN | apply below_drew1) | exact HB.out)⟩
/-- THE ONE PURE STATEMENT of flyballlaw02_NatShifts: yours. -/
def flyballlaw02_NatShifts.Pure : Prop := ∀ (l0 : List Int) (a1 : Int) (a2 : Int), l0.length ≤ maxLen → l0.length * 4 ≤ 140737488351232 → (∀ x ∈ l0, (Lit.int .u32 x).wf = true) → (Lit.int .i64 a1).wf = true → (Lit.int .i64 a2).wf = true → ∃ k, flyballlaw02_NatShifts.f k l0 a1 a2 = some true
theorem flyballlaw02_NatShifts.walk (P : flyballlaw02_NatShifts.Pure) (a0 : Option Addr) (len0 cap0 : Nat) (z0 : List Int) (a1 : Int) (a2 : Int) (w : World) (w0 : (a0 = none ∧ len0 = 0 ∧ cap0 = 0 ∧ z0 = []) ∨ ∃ x, a0 = some x ∧ len0 ≤ cap0 ∧ cap0 ≤ maxLen ∧ z0.length = cap0 ∧ (∀ i, i < z0.length → w.cell? (x.add i) = some (.int .u32 (z0.getD i 0))) ∧ ∀ n ∈ z0, (Lit.int .u32 n).wf = true) (y0 : len0 * 4 ≤ 140737488351232) (w1 : (Lit.int .i64 a1).wf = true) (w2 : (Lit.int .i64 a2).wf = true) :
    Calls Try.prog 5 #[.slice a0 len0 cap0, .int .i64 a1, .int .i64 a2] w fun e w' => e = .returned (.bool true) ∧ Below w.heap.size w w' := by
  obtain ⟨l0, rfl, hr0, hm0, hw0, hc0⟩ := ReadsInt.ofRowC w0
  obtain ⟨k, h⟩ := P l0 a1 a2 hm0 y0 hw0 w1 w2
  refine (flyballlaw02_NatShifts.calls k (fun k_ => k_ < w.heap.size) _ _ l0 a1 a2 true w (V_of_C (Kd.C_of_reads (d := (0 : Int)) (h1 := fun _ => rfl) hr0) hc0) h).mono ?_
  rintro e w' ⟨rfl, hd⟩
  exact ⟨rfl, hd⟩
end Go.Proofs.Ytagbnkbhobmgjaa.Fn
end
section
/- The chapter's own trial of the numbers. -/
set_option linter.unusedVariables false
namespace Go.Proofs.Ytagbnkbhobmgjaa.Pure
open Go.RowKit Go.Proofs.Ytagbnkbhobmgjaa.Fn Go.Proofs.YtagbnkbhobmgjaaW.PrintWords Go.Proofs.YtagbnkbhobmgjaaW.PrintMore Go.Proofs.YtagbnkbhobmgjaaW.PrintLast
set_option maxRecDepth 100000 in
theorem worksg02 : flyballlaw02_worksg.f 500 = some true := by decide +kernel
theorem works02_spec : Ev (fun k => flyballlaw02_works.f k) true := by
  refine Ev.of flyballlaw02_works.mono (k := 500) ?_
  unfold flyballlaw02_works.f
  rw [if_pos worksg02]
end Go.Proofs.Ytagbnkbhobmgjaa.Pure
end
