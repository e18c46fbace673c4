/-
  The statement of familychecklaw05.CoverMinimizes holds.
-/
import Derived.Test.YtpcmibeefiajaaaGreatDoorTa
import Derived.Test.YtpcmibeefiajaaaGreatDoorNf
namespace Go.Proofs.YtpcmibeefiajaaaGreatDoor
open Go.Ab Go.Proofs
/-- familychecklaw05.CoverMinimizes: the second form's card. -/
theorem coverMinimizes_holds : Rows.CoverMinimizesUptoCardSaid := cardOf S.law05_sane
end Go.Proofs.YtpcmibeefiajaaaGreatDoor
