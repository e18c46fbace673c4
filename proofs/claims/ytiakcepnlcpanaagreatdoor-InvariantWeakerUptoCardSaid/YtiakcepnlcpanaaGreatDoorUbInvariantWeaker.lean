/-
 The statement of familychecklaw08.InvariantWeaker holds.
-/
import Derived.Test.YtiakcepnlcpanaaGreatDoorUcInvariantWeaker
import Derived.Test.YtiakcepnlcpanaaGreatDoorBb
namespace Go.Proofs.YtiakcepnlcpanaaGreatDoor
open Go.Ab Go.Proofs
theorem invariantWeaker_holds:Rows.InvariantWeakerUptoCardSaid:=abu S.kU
end Go.Proofs.YtiakcepnlcpanaaGreatDoor
