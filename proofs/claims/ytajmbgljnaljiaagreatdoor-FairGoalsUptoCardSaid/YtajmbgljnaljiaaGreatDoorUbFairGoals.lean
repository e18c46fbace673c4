/-
 The statement of familychecklaw09.FairGoals holds.
-/
import Derived.Test.YtajmbgljnaljiaaGreatDoorUcFairGoals
import Derived.Test.YtajmbgljnaljiaaGreatDoorOg
namespace Go.Proofs.YtajmbgljnaljiaaGreatDoor
open Go.Ab Go.Proofs
theorem fairGoals_holds:Rows.FairGoalsUptoCardSaid:=acK S.WT
end Go.Proofs.YtajmbgljnaljiaaGreatDoor
