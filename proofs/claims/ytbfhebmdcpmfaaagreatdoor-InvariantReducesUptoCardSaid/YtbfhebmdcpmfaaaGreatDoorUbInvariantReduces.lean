/-
 The statement of familychecklaw08.InvariantReduces holds.
-/
import Derived.Test.YtbfhebmdcpmfaaaGreatDoorUcInvariantReduces
import Derived.Test.YtbfhebmdcpmfaaaGreatDoorBb
namespace Go.Proofs.YtbfhebmdcpmfaaaGreatDoor
open Go.Ab Go.Proofs
theorem invariantReduces_holds:Rows.InvariantReducesUptoCardSaid:=ab2 S.oh
end Go.Proofs.YtbfhebmdcpmfaaaGreatDoor
