/-
 The statement of familychecklaw05.CoverFewerRules holds.
-/
import Derived.Test.YtkmldgihhaooaaaGreatDoorUcCoverFewerRules
import Derived.Test.YtkmldgihhaooaaaGreatDoorQd
namespace Go.Proofs.YtkmldgihhaooaaaGreatDoor
open Go.Ab Go.Proofs
theorem coverFewerRules_holds:Rows.CoverFewerRulesUptoCardSaid:=KX S.En
end Go.Proofs.YtkmldgihhaooaaaGreatDoor
