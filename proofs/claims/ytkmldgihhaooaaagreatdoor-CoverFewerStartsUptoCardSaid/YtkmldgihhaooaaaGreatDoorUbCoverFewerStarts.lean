/-
 The statement of familychecklaw05.CoverFewerStarts holds.
-/
import Derived.Test.YtkmldgihhaooaaaGreatDoorUcCoverFewerStarts
import Derived.Test.YtkmldgihhaooaaaGreatDoorQd
namespace Go.Proofs.YtkmldgihhaooaaaGreatDoor
open Go.Ab Go.Proofs
theorem coverFewerStarts_holds:Rows.CoverFewerStartsUptoCardSaid:=KX S.En
end Go.Proofs.YtkmldgihhaooaaaGreatDoor
