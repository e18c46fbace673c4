/-
 The statement of familychecklaw08.InvariantHolds holds.
-/
import Derived.Test.YtifbibbicplneaaGreatDoorUcInvariantHolds
import Derived.Test.YtifbibbicplneaaGreatDoorBb
namespace Go.Proofs.YtifbibbicplneaaGreatDoor
open Go.Ab Go.Proofs
theorem invariantHolds_holds : Rows.InvariantHoldsUptoCardSaid := yO S.fA
end Go.Proofs.YtifbibbicplneaaGreatDoor
