/-
 The statement of familychecklaw05.CoverPres holds.
-/
import Derived.Test.YtkmldgihhaooaaaGreatDoorUcCoverPres
import Derived.Test.YtkmldgihhaooaaaGreatDoorQd
namespace Go.Proofs.YtkmldgihhaooaaaGreatDoor
open Go.Ab Go.Proofs
theorem coverPres_holds:Rows.CoverPresUptoCardSaid:=af5 S.Zx
end Go.Proofs.YtkmldgihhaooaaaGreatDoor
