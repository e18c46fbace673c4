/-
 The statement of familychecklaw05.CoverAbstracts holds.
-/
import Derived.Test.YtdhobgbagphngaaGreatDoorUcCoverAbstracts
import Derived.Test.YtdhobgbagphngaaGreatDoorQd
namespace Go.Proofs.YtdhobgbagphngaaGreatDoor
open Go.Ab Go.Proofs
theorem coverAbstracts_holds:Rows.CoverAbstractsUptoCardSaid:=ae7 S.V9
end Go.Proofs.YtdhobgbagphngaaGreatDoor
