/-
 The statement of familychecklaw05.CoverAdjoint holds.
-/
import Derived.Test.YtkmldgihhaooaaaGreatDoorUcCoverAdjoint
import Derived.Test.YtkmldgihhaooaaaGreatDoorQd
namespace Go.Proofs.YtkmldgihhaooaaaGreatDoor
open Go.Ab Go.Proofs
theorem coverAdjoint_holds:Rows.CoverAdjointUptoCardSaid:=aec S.Un
end Go.Proofs.YtkmldgihhaooaaaGreatDoor
