/-
 The statement of familychecklaw05.CoverClosed holds.
-/
import Derived.Test.YtkmldgihhaooaaaGreatDoorUcCoverClosed
import Derived.Test.YtkmldgihhaooaaaGreatDoorQd
namespace Go.Proofs.YtkmldgihhaooaaaGreatDoor
open Go.Ab Go.Proofs
theorem coverClosed_holds:Rows.CoverClosedUptoCardSaid:=KX S.En
end Go.Proofs.YtkmldgihhaooaaaGreatDoor
