/-
  The statement of familychecklaw05.CoverMonotone holds.
-/
import Derived.Test.YtgokbcjkbdabnaaGreatDoorTa
import Derived.Test.YtgokbcjkbdabnaaGreatDoorNf
namespace Go.Proofs.YtgokbcjkbdabnaaGreatDoor
open Go.Ab Go.Proofs
/-- familychecklaw05.CoverMonotone: the second form's card. -/
theorem coverMonotone_holds : Rows.CoverMonotoneUptoCardSaid := cardOf S.law05_sane
end Go.Proofs.YtgokbcjkbdabnaaGreatDoor
