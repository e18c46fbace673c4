/-
 The statement of familychecklaw09.FairWeighs holds.
-/
import Derived.Test.YtkomllaebngbfaaGreatDoorUcFairWeighs
import Derived.Test.YtkomllaebngbfaaGreatDoorOb
namespace Go.Proofs.YtkomllaebngbfaaGreatDoor
open Go.Ab Go.Proofs
theorem fairWeighs_holds:Rows.FairWeighsUptoCardSaid:=G5 S.fH
end Go.Proofs.YtkomllaebngbfaaGreatDoor
