/-
 The statement of familychecklaw09.FairHelps holds.
-/
import Derived.Test.YtajmbgljnaljiaaGreatDoorUcFairHelps
import Derived.Test.YtajmbgljnaljiaaGreatDoorOg
namespace Go.Proofs.YtajmbgljnaljiaaGreatDoor
open Go.Ab Go.Proofs
theorem fairHelps_holds:Rows.FairHelpsUptoCardSaid:=V7 S.WV
end Go.Proofs.YtajmbgljnaljiaaGreatDoor
