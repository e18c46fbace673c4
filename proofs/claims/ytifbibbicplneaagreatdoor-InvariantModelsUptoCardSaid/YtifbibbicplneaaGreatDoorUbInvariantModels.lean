/-
 The statement of familychecklaw08.InvariantModels holds.
-/
import Derived.Test.YtifbibbicplneaaGreatDoorUcInvariantModels
import Derived.Test.YtifbibbicplneaaGreatDoorBb
namespace Go.Proofs.YtifbibbicplneaaGreatDoor
open Go.Ab Go.Proofs
theorem invariantModels_holds : Rows.InvariantModelsUptoCardSaid := yO S.fA
end Go.Proofs.YtifbibbicplneaaGreatDoor
