/-
 The statement of familychecklaw08.InvariantElements holds.
-/
import Derived.Test.YtifbibbicplneaaGreatDoorUcInvariantElements
import Derived.Test.YtifbibbicplneaaGreatDoorBb
namespace Go.Proofs.YtifbibbicplneaaGreatDoor
open Go.Ab Go.Proofs
theorem invariantElements_holds : Rows.InvariantElementsUptoCardSaid := yO S.fA
end Go.Proofs.YtifbibbicplneaaGreatDoor
