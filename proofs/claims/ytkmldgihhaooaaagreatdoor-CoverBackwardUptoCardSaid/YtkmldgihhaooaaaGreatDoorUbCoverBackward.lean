/-
 The statement of familychecklaw05.CoverBackward holds.
-/
import Derived.Test.YtkmldgihhaooaaaGreatDoorUcCoverBackward
import Derived.Test.YtkmldgihhaooaaaGreatDoorQd
namespace Go.Proofs.YtkmldgihhaooaaaGreatDoor
open Go.Ab Go.Proofs
theorem coverBackward_holds:Rows.CoverBackwardUptoCardSaid:=agA S.aeS
end Go.Proofs.YtkmldgihhaooaaaGreatDoor
