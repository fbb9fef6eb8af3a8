/- Rational numbers are made in lowest terms, as the document says: of two naturals, of an integer, of an integer times a power of two. Part 4 of 19. -/
import Derived.Test.YtagbnkbhobmgjaaRatioMakesA
import Derived.Laws.StructEq
section
-- PRINTED BY print.sh 35421559b90ae4d0a3588c463048766b98c2df88dd9212a6774a882060cdf62d: not written by this session
/-! ### 53. '==' of structs as_ one Bool -/
namespace Go.Proofs.YtagbnkbhobmgjaaW.PrintWords
open Go.RowKit
section
variable {P : Program} {d : Nat} {xs ys : Array Value} {f : Field} {fs : List Field} {a b : Value} {r s : Bool} {w : World}
end
end Go.Proofs.YtagbnkbhobmgjaaW.PrintWords
end
