/-
 The statement of familychecklaw08.InvariantChecks holds.
-/
import Derived.Test.YtifbibbicplneaaGreatDoorUcInvariantChecks
import Derived.Test.YtifbibbicplneaaGreatDoorBb
namespace Go.Proofs.YtifbibbicplneaaGreatDoor
open Go.Ab Go.Proofs
theorem invariantChecks_holds:Rows.InvariantChecksUptoCardSaid:=DI S.eU
end Go.Proofs.YtifbibbicplneaaGreatDoor
