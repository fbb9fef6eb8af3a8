/- Rational numbers are made in lowest terms, as the document says: of two naturals, of an integer, of an integer times a power of two. Part 17 of 19. -/
import Derived.Test.YtagbnkbhobmgjaaRows
import Derived.Test.YtagbnkbhobmgjaaProg
import Derived.WalkKit
import Derived.ProofKit
import Derived.ChangeOld
section
/- The great closed facts on the program that each law's row asks for. -/
namespace Go.Proofs.Ytagbnkbhobmgjaa.Join
open Go.ChangeShapes Go.WideShapes Go.ChangeAt Go.RowKit
theorem both {a b : Bool} (h : a = true) (k : b = true) : (a && b) = true := by rw [h, k]; rfl
theorem may : (Try.pinned.checked.prog.mayEnter) = true := by kernel_rfl
theorem lifts : ((Rows.natAddsRow.lifted == Try.pinned.checked.prog.liftsFinal)) = true := by kernel_rfl
theorem made : ((Try.pinned.checked.prog.make == some Rows.natAddsRow.make)) = true := by kernel_rfl
end Go.Proofs.Ytagbnkbhobmgjaa.Join
end
