/-
 The statement of familychecklaw09.FairDescends holds.
-/
import Derived.Test.YtkomllaebngbfaaGreatDoorUcFairDescends
import Derived.Test.YtkomllaebngbfaaGreatDoorOb
namespace Go.Proofs.YtkomllaebngbfaaGreatDoor
open Go.Ab Go.Proofs
theorem fairDescends_holds:Rows.FairDescendsUptoCardSaid:=G5 S.fH
end Go.Proofs.YtkomllaebngbfaaGreatDoor
