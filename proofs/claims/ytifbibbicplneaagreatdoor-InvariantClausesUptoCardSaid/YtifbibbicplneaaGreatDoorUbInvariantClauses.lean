/-
 The statement of familychecklaw08.InvariantClauses holds.
-/
import Derived.Test.YtifbibbicplneaaGreatDoorUcInvariantClauses
import Derived.Test.YtifbibbicplneaaGreatDoorBb
namespace Go.Proofs.YtifbibbicplneaaGreatDoor
open Go.Ab Go.Proofs
theorem invariantClauses_holds : Rows.InvariantClausesUptoCardSaid := yO S.fA
end Go.Proofs.YtifbibbicplneaaGreatDoor
