/-
 The statement of familychecklaw09.FairSimulates holds.
-/
import Derived.Test.YtkomllaebngbfaaGreatDoorUcFairSimulates
import Derived.Test.YtkomllaebngbfaaGreatDoorOb
namespace Go.Proofs.YtkomllaebngbfaaGreatDoor
open Go.Ab Go.Proofs
theorem fairSimulates_holds:Rows.FairSimulatesUptoCardSaid:=DN S.fJ
end Go.Proofs.YtkomllaebngbfaaGreatDoor
