/-
 The statement of familychecklaw08.InvariantCandidates holds.
-/
import Derived.Test.YtbfhebmdcpmfaaaGreatDoorUcInvariantCandidates
import Derived.Test.YtbfhebmdcpmfaaaGreatDoorBb
namespace Go.Proofs.YtbfhebmdcpmfaaaGreatDoor
open Go.Ab Go.Proofs
theorem invariantCandidates_holds:Rows.InvariantCandidatesUptoCardSaid:=aaQ S.pU
end Go.Proofs.YtbfhebmdcpmfaaaGreatDoor
