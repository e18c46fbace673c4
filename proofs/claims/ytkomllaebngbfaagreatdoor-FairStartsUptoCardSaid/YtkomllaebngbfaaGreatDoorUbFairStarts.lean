/-
 The statement of familychecklaw09.FairStarts holds.
-/
import Derived.Test.YtkomllaebngbfaaGreatDoorUcFairStarts
import Derived.Test.YtkomllaebngbfaaGreatDoorOb
namespace Go.Proofs.YtkomllaebngbfaaGreatDoor
open Go.Ab Go.Proofs
theorem fairStarts_holds:Rows.FairStartsUptoCardSaid:=DN S.fJ
end Go.Proofs.YtkomllaebngbfaaGreatDoor
