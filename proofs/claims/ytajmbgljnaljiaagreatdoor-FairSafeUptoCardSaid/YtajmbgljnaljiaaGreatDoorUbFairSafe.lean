/-
 The statement of familychecklaw09.FairSafe holds.
-/
import Derived.Test.YtajmbgljnaljiaaGreatDoorUcFairSafe
import Derived.Test.YtajmbgljnaljiaaGreatDoorOb
namespace Go.Proofs.YtajmbgljnaljiaaGreatDoor
open Go.Ab Go.Proofs
theorem fairSafe_holds:Rows.FairSafeUptoCardSaid:=aeX S.pG
end Go.Proofs.YtajmbgljnaljiaaGreatDoor
