/-
  The statement of familychecklaw05.CoverElements holds.
-/
import Derived.Test.YtgokbcjkbdabnaaGreatDoorTa
import Derived.Test.YtgokbcjkbdabnaaGreatDoorNf
namespace Go.Proofs.YtgokbcjkbdabnaaGreatDoor
open Go.Ab Go.Proofs
/-- familychecklaw05.CoverElements: the second form's card. -/
theorem coverElements_holds : Rows.CoverElementsUptoCardSaid := cardOf S.law05_sane
end Go.Proofs.YtgokbcjkbdabnaaGreatDoor
