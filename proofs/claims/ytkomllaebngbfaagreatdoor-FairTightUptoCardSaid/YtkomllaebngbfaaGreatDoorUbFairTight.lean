/-
 The statement of familychecklaw09.FairTight holds.
-/
import Derived.Test.YtkomllaebngbfaaGreatDoorUcFairTight
import Derived.Test.YtkomllaebngbfaaGreatDoorOb
namespace Go.Proofs.YtkomllaebngbfaaGreatDoor
open Go.Ab Go.Proofs
theorem fairTight_holds:Rows.FairTightUptoCardSaid:=DN S.fJ
end Go.Proofs.YtkomllaebngbfaaGreatDoor
