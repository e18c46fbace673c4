/-
 The statement of familychecklaw05.CoverSound holds.
-/
import Derived.Test.YtdloaandiobgdaaGreatDoorUcCoverSound
import Derived.Test.YtdloaandiobgdaaGreatDoorQd
namespace Go.Proofs.YtdloaandiobgdaaGreatDoor
open Go.Ab Go.Proofs
theorem coverSound_holds:Rows.CoverSoundUptoCardSaid:=alx S.ads
end Go.Proofs.YtdloaandiobgdaaGreatDoor
