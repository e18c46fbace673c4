/-
 The statement of familychecklaw09.FairChecks holds.
-/
import Derived.Test.YtajmbgljnaljiaaGreatDoorUcFairChecks
import Derived.Test.YtajmbgljnaljiaaGreatDoorOg
namespace Go.Proofs.YtajmbgljnaljiaaGreatDoor
open Go.Ab Go.Proofs
theorem fairChecks_holds:Rows.FairChecksUptoCardSaid:=V7 S.WV
end Go.Proofs.YtajmbgljnaljiaaGreatDoor
