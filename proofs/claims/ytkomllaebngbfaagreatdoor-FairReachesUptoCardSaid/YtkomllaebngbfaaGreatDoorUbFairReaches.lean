/-
 The statement of familychecklaw09.FairReaches holds.
-/
import Derived.Test.YtkomllaebngbfaaGreatDoorUcFairReaches
import Derived.Test.YtkomllaebngbfaaGreatDoorOb
namespace Go.Proofs.YtkomllaebngbfaaGreatDoor
open Go.Ab Go.Proofs
theorem fairReaches_holds:Rows.FairReachesUptoCardSaid:=aeQ S.nN
end Go.Proofs.YtkomllaebngbfaaGreatDoor
