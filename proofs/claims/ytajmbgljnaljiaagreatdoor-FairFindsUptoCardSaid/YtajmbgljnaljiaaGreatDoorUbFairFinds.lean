/-
 The statement of familychecklaw09.FairFinds holds.
-/
import Derived.Test.YtajmbgljnaljiaaGreatDoorUcFairFinds
import Derived.Test.YtajmbgljnaljiaaGreatDoorOg
namespace Go.Proofs.YtajmbgljnaljiaaGreatDoor
open Go.Ab Go.Proofs
theorem fairFinds_holds:Rows.FairFindsUptoCardSaid:=Wj S.RS
end Go.Proofs.YtajmbgljnaljiaaGreatDoor
