/-
 The statement of familychecklaw09.FairStates holds.
-/
import Derived.Test.YtkomllaebngbfaaGreatDoorUcFairStates
import Derived.Test.YtkomllaebngbfaaGreatDoorOb
namespace Go.Proofs.YtkomllaebngbfaaGreatDoor
open Go.Ab Go.Proofs
theorem fairStates_holds:Rows.FairStatesUptoCardSaid:=G5 S.fH
end Go.Proofs.YtkomllaebngbfaaGreatDoor
