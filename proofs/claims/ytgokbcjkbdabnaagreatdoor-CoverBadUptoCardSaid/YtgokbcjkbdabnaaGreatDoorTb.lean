/-
 The statement of familychecklaw05.CoverBad holds.
-/
import Derived.Test.YtgokbcjkbdabnaaGreatDoorTa
import Derived.Test.YtgokbcjkbdabnaaGreatDoorNf
namespace Go.Proofs.YtgokbcjkbdabnaaGreatDoor
open Go.Ab Go.Proofs
theorem coverBad_holds : Rows.CoverBadUptoCardSaid := cardOf S.law05_sane
end Go.Proofs.YtgokbcjkbdabnaaGreatDoor
