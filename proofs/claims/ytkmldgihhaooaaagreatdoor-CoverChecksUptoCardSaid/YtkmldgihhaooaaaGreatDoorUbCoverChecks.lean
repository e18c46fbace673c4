/-
 The statement of familychecklaw05.CoverChecks holds.
-/
import Derived.Test.YtkmldgihhaooaaaGreatDoorUcCoverChecks
import Derived.Test.YtkmldgihhaooaaaGreatDoorQd
namespace Go.Proofs.YtkmldgihhaooaaaGreatDoor
open Go.Ab Go.Proofs
theorem coverChecks_holds:Rows.CoverChecksUptoCardSaid:=agj S.V6
end Go.Proofs.YtkmldgihhaooaaaGreatDoor
