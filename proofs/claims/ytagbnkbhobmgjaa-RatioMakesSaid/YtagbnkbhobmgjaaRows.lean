/-
  No cell of these rows narrows 'for every input' (looked for: loops, veiled, ifaces, maps, wideKeys, modest, calm, conditions, laid).
  DERIVED. THE GIVEN ROWS OF THIS SEAT. 20 by the template 'for every input the law returns true; each argument reads behind the call as it read before'; 0 by the template 'total and deterministic' (their statements: YtagbnkbhobmgjaaTotals.lean).
  GIVEN WITH THE SEED: the statements are not yours to turn. If you find one false, say at which input.
  Laid BY PROGRAM, IN A SANDBOX (cutbox-rows.mjs): the forced cells as the released guide's own fill.sh prints them over the translation 9d262779cccdaf43… (all of the seat's roots in one cut). By AI agents, Wed Nov 11 2026. No macro, syntax, notation, axiom, sorry.
-/
import Derived.Test.YtagbnkbhobmgjaaChecked
import GoSem.Claim
import GoSem.ClaimJoined
import GoSem.ClaimMapViews
import Derived.JoinedTies
import Derived.KernelRfl
namespace Go.Proofs.Ytagbnkbhobmgjaa
/- THE CELL 'sum', in the pinned program and in every row, IS THE sha256 OF THE DUMP (.gsa) THAT YtagbnkbhobmgjaaProg.lean LOADS. Nothing in Lean hashes anything: it is a label: what it is worth is what the hold of that sum in a sandbox is worth. -/
noncomputable def Try.pinned : Pinned := { name := "ytagbnkbhobmgjaa", sum := "9d262779cccdaf43e741b7bd4cd41925abc1bae68a234eca7b9302d2b74bf92f", checked := Try.checked }
namespace Rows
def none {H : Type} : Left H := { results := [], args := [] }

/-- 'flyballlaw02.NatAdds': WHATEVER THE INPUT: true; the input reads as it did. -/
def natAddsSpec : ChangeSpec := { name := "natAdds", fn := fun _ => fun
  | [d1, d2] => { results := [.lit (.bool true)], args := [d1, d2] }
  | _ => none }
def natAddsRow : OpenClaim := { program := "ytagbnkbhobmgjaa", sum := "9d262779cccdaf43e741b7bd4cd41925abc1bae68a234eca7b9302d2b74bf92f", func := "flyball/flyballlaw02.NatAdds", spec := "natAdds", unfollowed := true, recurses := true, apart := false }
def NatAddsSaid : Prop := natAddsRow.holds Try.pinned (OpenSpec.ofChange natAddsSpec)

/-- ITS FALSE NEIGHBOUR: 'it returns false'. Refute it at one input. -/
def natAddsWrong : ChangeSpec := { name := "natAdds", fn := fun _ => fun
  | [d1, d2] => { results := [.lit (.bool false)], args := [d1, d2] }
  | _ => none }
def NatAddsWrongFalsely : Prop := natAddsRow.holds Try.pinned (OpenSpec.ofChange natAddsWrong)

/-- 'flyballlaw02.NatDivides': WHATEVER THE INPUT: true; the input reads as it did. -/
def natDividesSpec : ChangeSpec := { name := "natDivides", fn := fun _ => fun
  | [d1, d2] => { results := [.lit (.bool true)], args := [d1, d2] }
  | _ => none }
def natDividesRow : OpenClaim := { program := "ytagbnkbhobmgjaa", sum := "9d262779cccdaf43e741b7bd4cd41925abc1bae68a234eca7b9302d2b74bf92f", func := "flyball/flyballlaw02.NatDivides", spec := "natDivides", unfollowed := true, recurses := true, apart := false }
def NatDividesSaid : Prop := natDividesRow.holds Try.pinned (OpenSpec.ofChange natDividesSpec)

/-- ITS FALSE NEIGHBOUR: 'it returns false'. Refute it at one input. -/
def natDividesWrong : ChangeSpec := { name := "natDivides", fn := fun _ => fun
  | [d1, d2] => { results := [.lit (.bool false)], args := [d1, d2] }
  | _ => none }
def NatDividesWrongFalsely : Prop := natDividesRow.holds Try.pinned (OpenSpec.ofChange natDividesWrong)

/-- 'flyballlaw02.NatShifts': WHATEVER THE INPUT: true; the input reads as it did. -/
def natShiftsSpec : ChangeSpec := { name := "natShifts", fn := fun _ => fun
  | [d1, d2, d3] => { results := [.lit (.bool true)], args := [d1, d2, d3] }
  | _ => none }
def natShiftsRow : OpenClaim := { program := "ytagbnkbhobmgjaa", sum := "9d262779cccdaf43e741b7bd4cd41925abc1bae68a234eca7b9302d2b74bf92f", func := "flyball/flyballlaw02.NatShifts", spec := "natShifts", unfollowed := true, recurses := true, apart := false }
def NatShiftsSaid : Prop := natShiftsRow.holds Try.pinned (OpenSpec.ofChange natShiftsSpec)

/-- ITS FALSE NEIGHBOUR: 'it returns false'. Refute it at one input. -/
def natShiftsWrong : ChangeSpec := { name := "natShifts", fn := fun _ => fun
  | [d1, d2, d3] => { results := [.lit (.bool false)], args := [d1, d2, d3] }
  | _ => none }
def NatShiftsWrongFalsely : Prop := natShiftsRow.holds Try.pinned (OpenSpec.ofChange natShiftsWrong)

/-- 'flyballlaw02.NatTexts': WHATEVER THE INPUT: true; the input reads as it did. -/
def natTextsSpec : ChangeSpec := { name := "natTexts", fn := fun _ => fun
  | [d1, d2] => { results := [.lit (.bool true)], args := [d1, d2] }
  | _ => none }
def natTextsRow : OpenClaim := { program := "ytagbnkbhobmgjaa", sum := "9d262779cccdaf43e741b7bd4cd41925abc1bae68a234eca7b9302d2b74bf92f", func := "flyball/flyballlaw02.NatTexts", spec := "natTexts", unfollowed := true, recurses := true, apart := false }
def NatTextsSaid : Prop := natTextsRow.holds Try.pinned (OpenSpec.ofChange natTextsSpec)

/-- ITS FALSE NEIGHBOUR: 'it returns false'. Refute it at one input. -/
def natTextsWrong : ChangeSpec := { name := "natTexts", fn := fun _ => fun
  | [d1, d2] => { results := [.lit (.bool false)], args := [d1, d2] }
  | _ => none }
def NatTextsWrongFalsely : Prop := natTextsRow.holds Try.pinned (OpenSpec.ofChange natTextsWrong)

/-- 'flyballlaw02.NatPowers': WHATEVER THE INPUT: true; the input reads as it did. -/
def natPowersSpec : ChangeSpec := { name := "natPowers", fn := fun _ => fun
  | [d1, d2] => { results := [.lit (.bool true)], args := [d1, d2] }
  | _ => none }
def natPowersRow : OpenClaim := { program := "ytagbnkbhobmgjaa", sum := "9d262779cccdaf43e741b7bd4cd41925abc1bae68a234eca7b9302d2b74bf92f", func := "flyball/flyballlaw02.NatPowers", spec := "natPowers", unfollowed := true, recurses := true, apart := false }
def NatPowersSaid : Prop := natPowersRow.holds Try.pinned (OpenSpec.ofChange natPowersSpec)

/-- ITS FALSE NEIGHBOUR: 'it returns false'. Refute it at one input. -/
def natPowersWrong : ChangeSpec := { name := "natPowers", fn := fun _ => fun
  | [d1, d2] => { results := [.lit (.bool false)], args := [d1, d2] }
  | _ => none }
def NatPowersWrongFalsely : Prop := natPowersRow.holds Try.pinned (OpenSpec.ofChange natPowersWrong)

/-- 'flyballlaw03.RatioMost': WHATEVER THE INPUT: true; the input reads as it did. -/
def ratioMostSpec : ChangeSpec := { name := "ratioMost", fn := fun _ => fun
  | [d] => { results := [.lit (.bool true)], args := [d] }
  | _ => none }
def ratioMostRow : OpenClaim := { program := "ytagbnkbhobmgjaa", sum := "9d262779cccdaf43e741b7bd4cd41925abc1bae68a234eca7b9302d2b74bf92f", func := "flyball/flyballlaw03.RatioMost", spec := "ratioMost", unfollowed := true, recurses := true, apart := false }
def RatioMostSaid : Prop := ratioMostRow.holds Try.pinned (OpenSpec.ofChange ratioMostSpec)

/-- ITS FALSE NEIGHBOUR: 'it returns false'. Refute it at one input. -/
def ratioMostWrong : ChangeSpec := { name := "ratioMost", fn := fun _ => fun
  | [d] => { results := [.lit (.bool false)], args := [d] }
  | _ => none }
def RatioMostWrongFalsely : Prop := ratioMostRow.holds Try.pinned (OpenSpec.ofChange ratioMostWrong)

/-- 'flyballlaw02.NatLaws': WHATEVER THE INPUT: true; the input reads as it did. -/
def natLawsSpec : ChangeSpec := { name := "natLaws", fn := fun _ => fun
  | [d1, d2, d3] => { results := [.lit (.bool true)], args := [d1, d2, d3] }
  | _ => none }
def natLawsRow : OpenClaim := { program := "ytagbnkbhobmgjaa", sum := "9d262779cccdaf43e741b7bd4cd41925abc1bae68a234eca7b9302d2b74bf92f", func := "flyball/flyballlaw02.NatLaws", spec := "natLaws", unfollowed := true, recurses := true, apart := false }
def NatLawsSaid : Prop := natLawsRow.holds Try.pinned (OpenSpec.ofChange natLawsSpec)

/-- ITS FALSE NEIGHBOUR: 'it returns false'. Refute it at one input. -/
def natLawsWrong : ChangeSpec := { name := "natLaws", fn := fun _ => fun
  | [d1, d2, d3] => { results := [.lit (.bool false)], args := [d1, d2, d3] }
  | _ => none }
def NatLawsWrongFalsely : Prop := natLawsRow.holds Try.pinned (OpenSpec.ofChange natLawsWrong)

/-- 'flyballlaw04.PatternOrders': WHATEVER THE INPUT: true; the input reads as it did. -/
def patternOrdersSpec : ChangeSpec := { name := "patternOrders", fn := fun _ => fun
  | [d1, d2] => { results := [.lit (.bool true)], args := [d1, d2] }
  | _ => none }
def patternOrdersRow : OpenClaim := { program := "ytagbnkbhobmgjaa", sum := "9d262779cccdaf43e741b7bd4cd41925abc1bae68a234eca7b9302d2b74bf92f", func := "flyball/flyballlaw04.PatternOrders", spec := "patternOrders", unfollowed := true, recurses := true, apart := false }
def PatternOrdersSaid : Prop := patternOrdersRow.holds Try.pinned (OpenSpec.ofChange patternOrdersSpec)

/-- ITS FALSE NEIGHBOUR: 'it returns false'. Refute it at one input. -/
def patternOrdersWrong : ChangeSpec := { name := "patternOrders", fn := fun _ => fun
  | [d1, d2] => { results := [.lit (.bool false)], args := [d1, d2] }
  | _ => none }
def PatternOrdersWrongFalsely : Prop := patternOrdersRow.holds Try.pinned (OpenSpec.ofChange patternOrdersWrong)

/-- 'flyballlaw02.NatCommon': WHATEVER THE INPUT: true; the input reads as it did. -/
def natCommonSpec : ChangeSpec := { name := "natCommon", fn := fun _ => fun
  | [d1, d2] => { results := [.lit (.bool true)], args := [d1, d2] }
  | _ => none }
def natCommonRow : OpenClaim := { program := "ytagbnkbhobmgjaa", sum := "9d262779cccdaf43e741b7bd4cd41925abc1bae68a234eca7b9302d2b74bf92f", func := "flyball/flyballlaw02.NatCommon", spec := "natCommon", unfollowed := true, recurses := true, apart := false }
def NatCommonSaid : Prop := natCommonRow.holds Try.pinned (OpenSpec.ofChange natCommonSpec)

/-- ITS FALSE NEIGHBOUR: 'it returns false'. Refute it at one input. -/
def natCommonWrong : ChangeSpec := { name := "natCommon", fn := fun _ => fun
  | [d1, d2] => { results := [.lit (.bool false)], args := [d1, d2] }
  | _ => none }
def NatCommonWrongFalsely : Prop := natCommonRow.holds Try.pinned (OpenSpec.ofChange natCommonWrong)

/-- 'flyballlaw04.PatternParts': WHATEVER THE INPUT: true; the input reads as it did. -/
def patternPartsSpec : ChangeSpec := { name := "patternParts", fn := fun _ => fun
  | [d1, d2, d3, d4] => { results := [.lit (.bool true)], args := [d1, d2, d3, d4] }
  | _ => none }
def patternPartsRow : OpenClaim := { program := "ytagbnkbhobmgjaa", sum := "9d262779cccdaf43e741b7bd4cd41925abc1bae68a234eca7b9302d2b74bf92f", func := "flyball/flyballlaw04.PatternParts", spec := "patternParts", unfollowed := true, recurses := true, apart := false }
def PatternPartsSaid : Prop := patternPartsRow.holds Try.pinned (OpenSpec.ofChange patternPartsSpec)

/-- ITS FALSE NEIGHBOUR: 'it returns false'. Refute it at one input. -/
def patternPartsWrong : ChangeSpec := { name := "patternParts", fn := fun _ => fun
  | [d1, d2, d3, d4] => { results := [.lit (.bool false)], args := [d1, d2, d3, d4] }
  | _ => none }
def PatternPartsWrongFalsely : Prop := patternPartsRow.holds Try.pinned (OpenSpec.ofChange patternPartsWrong)

/-- 'flyballlaw04.PatternValues': WHATEVER THE INPUT: true; the input reads as it did. -/
def patternValuesSpec : ChangeSpec := { name := "patternValues", fn := fun _ => fun
  | [d] => { results := [.lit (.bool true)], args := [d] }
  | _ => none }
def patternValuesRow : OpenClaim := { program := "ytagbnkbhobmgjaa", sum := "9d262779cccdaf43e741b7bd4cd41925abc1bae68a234eca7b9302d2b74bf92f", func := "flyball/flyballlaw04.PatternValues", spec := "patternValues", unfollowed := true, recurses := true, apart := false }
def PatternValuesSaid : Prop := patternValuesRow.holds Try.pinned (OpenSpec.ofChange patternValuesSpec)

/-- ITS FALSE NEIGHBOUR: 'it returns false'. Refute it at one input. -/
def patternValuesWrong : ChangeSpec := { name := "patternValues", fn := fun _ => fun
  | [d] => { results := [.lit (.bool false)], args := [d] }
  | _ => none }
def PatternValuesWrongFalsely : Prop := patternValuesRow.holds Try.pinned (OpenSpec.ofChange patternValuesWrong)

/-- 'flyballlaw04.PatternNeighbours': WHATEVER THE INPUT: true; the input reads as it did. -/
def patternNeighboursSpec : ChangeSpec := { name := "patternNeighbours", fn := fun _ => fun
  | [d] => { results := [.lit (.bool true)], args := [d] }
  | _ => none }
def patternNeighboursRow : OpenClaim := { program := "ytagbnkbhobmgjaa", sum := "9d262779cccdaf43e741b7bd4cd41925abc1bae68a234eca7b9302d2b74bf92f", func := "flyball/flyballlaw04.PatternNeighbours", spec := "patternNeighbours", unfollowed := true, recurses := true, apart := false }
def PatternNeighboursSaid : Prop := patternNeighboursRow.holds Try.pinned (OpenSpec.ofChange patternNeighboursSpec)

/-- ITS FALSE NEIGHBOUR: 'it returns false'. Refute it at one input. -/
def patternNeighboursWrong : ChangeSpec := { name := "patternNeighbours", fn := fun _ => fun
  | [d] => { results := [.lit (.bool false)], args := [d] }
  | _ => none }
def PatternNeighboursWrongFalsely : Prop := patternNeighboursRow.holds Try.pinned (OpenSpec.ofChange patternNeighboursWrong)

/-- 'flyballlaw04.PatternBetween': WHATEVER THE INPUT: true; the input reads as it did. -/
def patternBetweenSpec : ChangeSpec := { name := "patternBetween", fn := fun _ => fun
  | [d1, d2] => { results := [.lit (.bool true)], args := [d1, d2] }
  | _ => none }
def patternBetweenRow : OpenClaim := { program := "ytagbnkbhobmgjaa", sum := "9d262779cccdaf43e741b7bd4cd41925abc1bae68a234eca7b9302d2b74bf92f", func := "flyball/flyballlaw04.PatternBetween", spec := "patternBetween", unfollowed := true, recurses := true, apart := false }
def PatternBetweenSaid : Prop := patternBetweenRow.holds Try.pinned (OpenSpec.ofChange patternBetweenSpec)

/-- ITS FALSE NEIGHBOUR: 'it returns false'. Refute it at one input. -/
def patternBetweenWrong : ChangeSpec := { name := "patternBetween", fn := fun _ => fun
  | [d1, d2] => { results := [.lit (.bool false)], args := [d1, d2] }
  | _ => none }
def PatternBetweenWrongFalsely : Prop := patternBetweenRow.holds Try.pinned (OpenSpec.ofChange patternBetweenWrong)

/-- 'flyballlaw04.PatternSigns': WHATEVER THE INPUT: true; the input reads as it did. -/
def patternSignsSpec : ChangeSpec := { name := "patternSigns", fn := fun _ => fun
  | [d] => { results := [.lit (.bool true)], args := [d] }
  | _ => none }
def patternSignsRow : OpenClaim := { program := "ytagbnkbhobmgjaa", sum := "9d262779cccdaf43e741b7bd4cd41925abc1bae68a234eca7b9302d2b74bf92f", func := "flyball/flyballlaw04.PatternSigns", spec := "patternSigns", unfollowed := true, recurses := true, apart := false }
def PatternSignsSaid : Prop := patternSignsRow.holds Try.pinned (OpenSpec.ofChange patternSignsSpec)

/-- ITS FALSE NEIGHBOUR: 'it returns false'. Refute it at one input. -/
def patternSignsWrong : ChangeSpec := { name := "patternSigns", fn := fun _ => fun
  | [d] => { results := [.lit (.bool false)], args := [d] }
  | _ => none }
def PatternSignsWrongFalsely : Prop := patternSignsRow.holds Try.pinned (OpenSpec.ofChange patternSignsWrong)

/-- 'flyballlaw04.PatternMost': WHATEVER THE INPUT: true; the input reads as it did. -/
def patternMostSpec : ChangeSpec := { name := "patternMost", fn := fun _ => fun
  | [d] => { results := [.lit (.bool true)], args := [d] }
  | _ => none }
def patternMostRow : OpenClaim := { program := "ytagbnkbhobmgjaa", sum := "9d262779cccdaf43e741b7bd4cd41925abc1bae68a234eca7b9302d2b74bf92f", func := "flyball/flyballlaw04.PatternMost", spec := "patternMost", unfollowed := true, recurses := true, apart := false }
def PatternMostSaid : Prop := patternMostRow.holds Try.pinned (OpenSpec.ofChange patternMostSpec)

/-- ITS FALSE NEIGHBOUR: 'it returns false'. Refute it at one input. -/
def patternMostWrong : ChangeSpec := { name := "patternMost", fn := fun _ => fun
  | [d] => { results := [.lit (.bool false)], args := [d] }
  | _ => none }
def PatternMostWrongFalsely : Prop := patternMostRow.holds Try.pinned (OpenSpec.ofChange patternMostWrong)

/-- 'flyballlaw03.RatioAdds': WHATEVER THE INPUT: true; the input reads as it did. -/
def ratioAddsSpec : ChangeSpec := { name := "ratioAdds", fn := fun _ => fun
  | [d1, d2] => { results := [.lit (.bool true)], args := [d1, d2] }
  | _ => none }
def ratioAddsRow : OpenClaim := { program := "ytagbnkbhobmgjaa", sum := "9d262779cccdaf43e741b7bd4cd41925abc1bae68a234eca7b9302d2b74bf92f", func := "flyball/flyballlaw03.RatioAdds", spec := "ratioAdds", unfollowed := true, recurses := true, apart := false }
def RatioAddsSaid : Prop := ratioAddsRow.holds Try.pinned (OpenSpec.ofChange ratioAddsSpec)

/-- ITS FALSE NEIGHBOUR: 'it returns false'. Refute it at one input. -/
def ratioAddsWrong : ChangeSpec := { name := "ratioAdds", fn := fun _ => fun
  | [d1, d2] => { results := [.lit (.bool false)], args := [d1, d2] }
  | _ => none }
def RatioAddsWrongFalsely : Prop := ratioAddsRow.holds Try.pinned (OpenSpec.ofChange ratioAddsWrong)

/-- 'flyballlaw03.RatioMuls': WHATEVER THE INPUT: true; the input reads as it did. -/
def ratioMulsSpec : ChangeSpec := { name := "ratioMuls", fn := fun _ => fun
  | [d1, d2] => { results := [.lit (.bool true)], args := [d1, d2] }
  | _ => none }
def ratioMulsRow : OpenClaim := { program := "ytagbnkbhobmgjaa", sum := "9d262779cccdaf43e741b7bd4cd41925abc1bae68a234eca7b9302d2b74bf92f", func := "flyball/flyballlaw03.RatioMuls", spec := "ratioMuls", unfollowed := true, recurses := true, apart := false }
def RatioMulsSaid : Prop := ratioMulsRow.holds Try.pinned (OpenSpec.ofChange ratioMulsSpec)

/-- ITS FALSE NEIGHBOUR: 'it returns false'. Refute it at one input. -/
def ratioMulsWrong : ChangeSpec := { name := "ratioMuls", fn := fun _ => fun
  | [d1, d2] => { results := [.lit (.bool false)], args := [d1, d2] }
  | _ => none }
def RatioMulsWrongFalsely : Prop := ratioMulsRow.holds Try.pinned (OpenSpec.ofChange ratioMulsWrong)

/-- 'flyballlaw03.RatioOrders': WHATEVER THE INPUT: true; the input reads as it did. -/
def ratioOrdersSpec : ChangeSpec := { name := "ratioOrders", fn := fun _ => fun
  | [d1, d2] => { results := [.lit (.bool true)], args := [d1, d2] }
  | _ => none }
def ratioOrdersRow : OpenClaim := { program := "ytagbnkbhobmgjaa", sum := "9d262779cccdaf43e741b7bd4cd41925abc1bae68a234eca7b9302d2b74bf92f", func := "flyball/flyballlaw03.RatioOrders", spec := "ratioOrders", unfollowed := true, recurses := true, apart := false }
def RatioOrdersSaid : Prop := ratioOrdersRow.holds Try.pinned (OpenSpec.ofChange ratioOrdersSpec)

/-- ITS FALSE NEIGHBOUR: 'it returns false'. Refute it at one input. -/
def ratioOrdersWrong : ChangeSpec := { name := "ratioOrders", fn := fun _ => fun
  | [d1, d2] => { results := [.lit (.bool false)], args := [d1, d2] }
  | _ => none }
def RatioOrdersWrongFalsely : Prop := ratioOrdersRow.holds Try.pinned (OpenSpec.ofChange ratioOrdersWrong)

/-- 'flyballlaw03.RatioMakes': WHATEVER THE INPUT: true; the input reads as it did. -/
def ratioMakesSpec : ChangeSpec := { name := "ratioMakes", fn := fun _ => fun
  | [d1, d2, d3, d4, d5, d6] => { results := [.lit (.bool true)], args := [d1, d2, d3, d4, d5, d6] }
  | _ => none }
def ratioMakesRow : OpenClaim := { program := "ytagbnkbhobmgjaa", sum := "9d262779cccdaf43e741b7bd4cd41925abc1bae68a234eca7b9302d2b74bf92f", func := "flyball/flyballlaw03.RatioMakes", spec := "ratioMakes", unfollowed := true, recurses := true, apart := false }
def RatioMakesSaid : Prop := ratioMakesRow.holds Try.pinned (OpenSpec.ofChange ratioMakesSpec)

/-- ITS FALSE NEIGHBOUR: 'it returns false'. Refute it at one input. -/
def ratioMakesWrong : ChangeSpec := { name := "ratioMakes", fn := fun _ => fun
  | [d1, d2, d3, d4, d5, d6] => { results := [.lit (.bool false)], args := [d1, d2, d3, d4, d5, d6] }
  | _ => none }
def RatioMakesWrongFalsely : Prop := ratioMakesRow.holds Try.pinned (OpenSpec.ofChange ratioMakesWrong)

/-- 'flyballlaw03.RatioField': WHATEVER THE INPUT: true; the input reads as it did. -/
def ratioFieldSpec : ChangeSpec := { name := "ratioField", fn := fun _ => fun
  | [d1, d2, d3] => { results := [.lit (.bool true)], args := [d1, d2, d3] }
  | _ => none }
def ratioFieldRow : OpenClaim := { program := "ytagbnkbhobmgjaa", sum := "9d262779cccdaf43e741b7bd4cd41925abc1bae68a234eca7b9302d2b74bf92f", func := "flyball/flyballlaw03.RatioField", spec := "ratioField", unfollowed := true, recurses := true, apart := false }
def RatioFieldSaid : Prop := ratioFieldRow.holds Try.pinned (OpenSpec.ofChange ratioFieldSpec)

/-- ITS FALSE NEIGHBOUR: 'it returns false'. Refute it at one input. -/
def ratioFieldWrong : ChangeSpec := { name := "ratioField", fn := fun _ => fun
  | [d1, d2, d3] => { results := [.lit (.bool false)], args := [d1, d2, d3] }
  | _ => none }
def RatioFieldWrongFalsely : Prop := ratioFieldRow.holds Try.pinned (OpenSpec.ofChange ratioFieldWrong)

/- THE SECOND FORM. 'bulk': how many values and letters a reading holds, each counted each time it is reached (what is shared counts as often as it is met; a slice's spare places count too). A statement '..UptoSaid' is the law's where the arguments, and the package variables that the reading takes, are together of bulk at most 1048576: NARROWER than '..Said'. Prove '..Said' where nothing that the law and all that it calls make is longer than what came in: it says more and counts as full. Else prove '..UptoSaid'. A law counts once. -/
mutual
def uptoBulk {H : Type} : DataW H → Nat
  | .lit (.string bytes) => bytes.length + 1
  | .lit _ => 1
  | .nil => 1
  | .ptr d => uptoBulk d + 1
  | .slice elems spare => uptoBulkAll elems + uptoBulkAll spare + 1
  | .agg parts => uptoBulkAll parts + 1
  | .iface _ d => uptoBulk d + 1
  | .map entries => uptoBulkEntries entries + 1
  | .held _ => 1
def uptoBulkAll {H : Type} : List (DataW H) → Nat
  | [] => 0
  | d :: r => uptoBulk d + uptoBulkAll r
def uptoBulkEntries {H : Type} : List (Lit × DataW H) → Nat
  | [] => 0
  | x :: r => uptoBulkEntry x + uptoBulkEntries r
def uptoBulkEntry {H : Type} : Lit × DataW H → Nat
  | (.string bytes, d) => bytes.length + uptoBulk d + 1
  | (_, d) => uptoBulk d + 1
 end
def uptoSmall : (H : Type) → List (DataW H) → Bool := fun _ ds => decide (uptoBulkAll ds ≤ 1048576)
def OpenSpec.upto (s : _root_.Go.ChangeSpec) : _root_.Go.OpenSpec := { _root_.Go.OpenSpec.ofChange s with cond := some uptoSmall }

/-- 'flyballlaw02.NatAdds', WHERE WHAT IT READS IS OF BULK AT MOST 1048576: true; the input reads as it did. -/
def natAddsUptoRow : OpenClaim := { program := "ytagbnkbhobmgjaa", sum := "9d262779cccdaf43e741b7bd4cd41925abc1bae68a234eca7b9302d2b74bf92f", func := "flyball/flyballlaw02.NatAdds", spec := "natAdds", unfollowed := true, recurses := true, apart := false, narrowed := true }
def NatAddsUptoSaid : Prop := natAddsUptoRow.holds Try.pinned (OpenSpec.upto natAddsSpec)

/-- 'flyballlaw02.NatDivides', WHERE WHAT IT READS IS OF BULK AT MOST 1048576: true; the input reads as it did. -/
def natDividesUptoRow : OpenClaim := { program := "ytagbnkbhobmgjaa", sum := "9d262779cccdaf43e741b7bd4cd41925abc1bae68a234eca7b9302d2b74bf92f", func := "flyball/flyballlaw02.NatDivides", spec := "natDivides", unfollowed := true, recurses := true, apart := false, narrowed := true }
def NatDividesUptoSaid : Prop := natDividesUptoRow.holds Try.pinned (OpenSpec.upto natDividesSpec)

/-- 'flyballlaw02.NatShifts', WHERE WHAT IT READS IS OF BULK AT MOST 1048576: true; the input reads as it did. -/
def natShiftsUptoRow : OpenClaim := { program := "ytagbnkbhobmgjaa", sum := "9d262779cccdaf43e741b7bd4cd41925abc1bae68a234eca7b9302d2b74bf92f", func := "flyball/flyballlaw02.NatShifts", spec := "natShifts", unfollowed := true, recurses := true, apart := false, narrowed := true }
def NatShiftsUptoSaid : Prop := natShiftsUptoRow.holds Try.pinned (OpenSpec.upto natShiftsSpec)

/-- 'flyballlaw02.NatTexts', WHERE WHAT IT READS IS OF BULK AT MOST 1048576: true; the input reads as it did. -/
def natTextsUptoRow : OpenClaim := { program := "ytagbnkbhobmgjaa", sum := "9d262779cccdaf43e741b7bd4cd41925abc1bae68a234eca7b9302d2b74bf92f", func := "flyball/flyballlaw02.NatTexts", spec := "natTexts", unfollowed := true, recurses := true, apart := false, narrowed := true }
def NatTextsUptoSaid : Prop := natTextsUptoRow.holds Try.pinned (OpenSpec.upto natTextsSpec)

/-- 'flyballlaw02.NatPowers', WHERE WHAT IT READS IS OF BULK AT MOST 1048576: true; the input reads as it did. -/
def natPowersUptoRow : OpenClaim := { program := "ytagbnkbhobmgjaa", sum := "9d262779cccdaf43e741b7bd4cd41925abc1bae68a234eca7b9302d2b74bf92f", func := "flyball/flyballlaw02.NatPowers", spec := "natPowers", unfollowed := true, recurses := true, apart := false, narrowed := true }
def NatPowersUptoSaid : Prop := natPowersUptoRow.holds Try.pinned (OpenSpec.upto natPowersSpec)

/-- 'flyballlaw03.RatioMost', WHERE WHAT IT READS IS OF BULK AT MOST 1048576: true; the input reads as it did. -/
def ratioMostUptoRow : OpenClaim := { program := "ytagbnkbhobmgjaa", sum := "9d262779cccdaf43e741b7bd4cd41925abc1bae68a234eca7b9302d2b74bf92f", func := "flyball/flyballlaw03.RatioMost", spec := "ratioMost", unfollowed := true, recurses := true, apart := false, narrowed := true }
def RatioMostUptoSaid : Prop := ratioMostUptoRow.holds Try.pinned (OpenSpec.upto ratioMostSpec)

/-- 'flyballlaw02.NatLaws', WHERE WHAT IT READS IS OF BULK AT MOST 1048576: true; the input reads as it did. -/
def natLawsUptoRow : OpenClaim := { program := "ytagbnkbhobmgjaa", sum := "9d262779cccdaf43e741b7bd4cd41925abc1bae68a234eca7b9302d2b74bf92f", func := "flyball/flyballlaw02.NatLaws", spec := "natLaws", unfollowed := true, recurses := true, apart := false, narrowed := true }
def NatLawsUptoSaid : Prop := natLawsUptoRow.holds Try.pinned (OpenSpec.upto natLawsSpec)

/-- 'flyballlaw04.PatternOrders', WHERE WHAT IT READS IS OF BULK AT MOST 1048576: true; the input reads as it did. -/
def patternOrdersUptoRow : OpenClaim := { program := "ytagbnkbhobmgjaa", sum := "9d262779cccdaf43e741b7bd4cd41925abc1bae68a234eca7b9302d2b74bf92f", func := "flyball/flyballlaw04.PatternOrders", spec := "patternOrders", unfollowed := true, recurses := true, apart := false, narrowed := true }
def PatternOrdersUptoSaid : Prop := patternOrdersUptoRow.holds Try.pinned (OpenSpec.upto patternOrdersSpec)

/-- 'flyballlaw02.NatCommon', WHERE WHAT IT READS IS OF BULK AT MOST 1048576: true; the input reads as it did. -/
def natCommonUptoRow : OpenClaim := { program := "ytagbnkbhobmgjaa", sum := "9d262779cccdaf43e741b7bd4cd41925abc1bae68a234eca7b9302d2b74bf92f", func := "flyball/flyballlaw02.NatCommon", spec := "natCommon", unfollowed := true, recurses := true, apart := false, narrowed := true }
def NatCommonUptoSaid : Prop := natCommonUptoRow.holds Try.pinned (OpenSpec.upto natCommonSpec)

/-- 'flyballlaw04.PatternParts', WHERE WHAT IT READS IS OF BULK AT MOST 1048576: true; the input reads as it did. -/
def patternPartsUptoRow : OpenClaim := { program := "ytagbnkbhobmgjaa", sum := "9d262779cccdaf43e741b7bd4cd41925abc1bae68a234eca7b9302d2b74bf92f", func := "flyball/flyballlaw04.PatternParts", spec := "patternParts", unfollowed := true, recurses := true, apart := false, narrowed := true }
def PatternPartsUptoSaid : Prop := patternPartsUptoRow.holds Try.pinned (OpenSpec.upto patternPartsSpec)

/-- 'flyballlaw04.PatternValues', WHERE WHAT IT READS IS OF BULK AT MOST 1048576: true; the input reads as it did. -/
def patternValuesUptoRow : OpenClaim := { program := "ytagbnkbhobmgjaa", sum := "9d262779cccdaf43e741b7bd4cd41925abc1bae68a234eca7b9302d2b74bf92f", func := "flyball/flyballlaw04.PatternValues", spec := "patternValues", unfollowed := true, recurses := true, apart := false, narrowed := true }
def PatternValuesUptoSaid : Prop := patternValuesUptoRow.holds Try.pinned (OpenSpec.upto patternValuesSpec)

/-- 'flyballlaw04.PatternNeighbours', WHERE WHAT IT READS IS OF BULK AT MOST 1048576: true; the input reads as it did. -/
def patternNeighboursUptoRow : OpenClaim := { program := "ytagbnkbhobmgjaa", sum := "9d262779cccdaf43e741b7bd4cd41925abc1bae68a234eca7b9302d2b74bf92f", func := "flyball/flyballlaw04.PatternNeighbours", spec := "patternNeighbours", unfollowed := true, recurses := true, apart := false, narrowed := true }
def PatternNeighboursUptoSaid : Prop := patternNeighboursUptoRow.holds Try.pinned (OpenSpec.upto patternNeighboursSpec)

/-- 'flyballlaw04.PatternBetween', WHERE WHAT IT READS IS OF BULK AT MOST 1048576: true; the input reads as it did. -/
def patternBetweenUptoRow : OpenClaim := { program := "ytagbnkbhobmgjaa", sum := "9d262779cccdaf43e741b7bd4cd41925abc1bae68a234eca7b9302d2b74bf92f", func := "flyball/flyballlaw04.PatternBetween", spec := "patternBetween", unfollowed := true, recurses := true, apart := false, narrowed := true }
def PatternBetweenUptoSaid : Prop := patternBetweenUptoRow.holds Try.pinned (OpenSpec.upto patternBetweenSpec)

/-- 'flyballlaw04.PatternSigns', WHERE WHAT IT READS IS OF BULK AT MOST 1048576: true; the input reads as it did. -/
def patternSignsUptoRow : OpenClaim := { program := "ytagbnkbhobmgjaa", sum := "9d262779cccdaf43e741b7bd4cd41925abc1bae68a234eca7b9302d2b74bf92f", func := "flyball/flyballlaw04.PatternSigns", spec := "patternSigns", unfollowed := true, recurses := true, apart := false, narrowed := true }
def PatternSignsUptoSaid : Prop := patternSignsUptoRow.holds Try.pinned (OpenSpec.upto patternSignsSpec)

/-- 'flyballlaw04.PatternMost', WHERE WHAT IT READS IS OF BULK AT MOST 1048576: true; the input reads as it did. -/
def patternMostUptoRow : OpenClaim := { program := "ytagbnkbhobmgjaa", sum := "9d262779cccdaf43e741b7bd4cd41925abc1bae68a234eca7b9302d2b74bf92f", func := "flyball/flyballlaw04.PatternMost", spec := "patternMost", unfollowed := true, recurses := true, apart := false, narrowed := true }
def PatternMostUptoSaid : Prop := patternMostUptoRow.holds Try.pinned (OpenSpec.upto patternMostSpec)

/-- 'flyballlaw03.RatioAdds', WHERE WHAT IT READS IS OF BULK AT MOST 1048576: true; the input reads as it did. -/
def ratioAddsUptoRow : OpenClaim := { program := "ytagbnkbhobmgjaa", sum := "9d262779cccdaf43e741b7bd4cd41925abc1bae68a234eca7b9302d2b74bf92f", func := "flyball/flyballlaw03.RatioAdds", spec := "ratioAdds", unfollowed := true, recurses := true, apart := false, narrowed := true }
def RatioAddsUptoSaid : Prop := ratioAddsUptoRow.holds Try.pinned (OpenSpec.upto ratioAddsSpec)

/-- 'flyballlaw03.RatioMuls', WHERE WHAT IT READS IS OF BULK AT MOST 1048576: true; the input reads as it did. -/
def ratioMulsUptoRow : OpenClaim := { program := "ytagbnkbhobmgjaa", sum := "9d262779cccdaf43e741b7bd4cd41925abc1bae68a234eca7b9302d2b74bf92f", func := "flyball/flyballlaw03.RatioMuls", spec := "ratioMuls", unfollowed := true, recurses := true, apart := false, narrowed := true }
def RatioMulsUptoSaid : Prop := ratioMulsUptoRow.holds Try.pinned (OpenSpec.upto ratioMulsSpec)

/-- 'flyballlaw03.RatioOrders', WHERE WHAT IT READS IS OF BULK AT MOST 1048576: true; the input reads as it did. -/
def ratioOrdersUptoRow : OpenClaim := { program := "ytagbnkbhobmgjaa", sum := "9d262779cccdaf43e741b7bd4cd41925abc1bae68a234eca7b9302d2b74bf92f", func := "flyball/flyballlaw03.RatioOrders", spec := "ratioOrders", unfollowed := true, recurses := true, apart := false, narrowed := true }
def RatioOrdersUptoSaid : Prop := ratioOrdersUptoRow.holds Try.pinned (OpenSpec.upto ratioOrdersSpec)

/-- 'flyballlaw03.RatioMakes', WHERE WHAT IT READS IS OF BULK AT MOST 1048576: true; the input reads as it did. -/
def ratioMakesUptoRow : OpenClaim := { program := "ytagbnkbhobmgjaa", sum := "9d262779cccdaf43e741b7bd4cd41925abc1bae68a234eca7b9302d2b74bf92f", func := "flyball/flyballlaw03.RatioMakes", spec := "ratioMakes", unfollowed := true, recurses := true, apart := false, narrowed := true }
def RatioMakesUptoSaid : Prop := ratioMakesUptoRow.holds Try.pinned (OpenSpec.upto ratioMakesSpec)

/-- 'flyballlaw03.RatioField', WHERE WHAT IT READS IS OF BULK AT MOST 1048576: true; the input reads as it did. -/
def ratioFieldUptoRow : OpenClaim := { program := "ytagbnkbhobmgjaa", sum := "9d262779cccdaf43e741b7bd4cd41925abc1bae68a234eca7b9302d2b74bf92f", func := "flyball/flyballlaw03.RatioField", spec := "ratioField", unfollowed := true, recurses := true, apart := false, narrowed := true }
def RatioFieldUptoSaid : Prop := ratioFieldUptoRow.holds Try.pinned (OpenSpec.upto ratioFieldSpec)

end Rows
end Go.Proofs.Ytagbnkbhobmgjaa
