/-
 The statement of familychecklaw09.FairScales holds.
-/
import Derived.Test.YtajmbgljnaljiaaGreatDoorUcFairScales
import Derived.Test.YtajmbgljnaljiaaGreatDoorOg
namespace Go.Proofs.YtajmbgljnaljiaaGreatDoor
open Go.Ab Go.Proofs
theorem fairScales_holds:Rows.FairScalesUptoCardSaid:=Wj S.RS
end Go.Proofs.YtajmbgljnaljiaaGreatDoor
