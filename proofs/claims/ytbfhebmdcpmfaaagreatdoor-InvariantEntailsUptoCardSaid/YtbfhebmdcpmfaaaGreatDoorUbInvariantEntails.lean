/-
 The statement of familychecklaw08.InvariantEntails holds.
-/
import Derived.Test.YtbfhebmdcpmfaaaGreatDoorUcInvariantEntails
import Derived.Test.YtbfhebmdcpmfaaaGreatDoorBb
namespace Go.Proofs.YtbfhebmdcpmfaaaGreatDoor
open Go.Ab Go.Proofs
theorem invariantEntails_holds:Rows.InvariantEntailsUptoCardSaid:=aa0 S.nP
end Go.Proofs.YtbfhebmdcpmfaaaGreatDoor
