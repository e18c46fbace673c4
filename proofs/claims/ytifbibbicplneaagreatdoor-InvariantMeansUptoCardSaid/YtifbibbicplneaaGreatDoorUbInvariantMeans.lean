/-
 The statement of familychecklaw08.InvariantMeans holds.
-/
import Derived.Test.YtifbibbicplneaaGreatDoorUcInvariantMeans
import Derived.Test.YtifbibbicplneaaGreatDoorBb
namespace Go.Proofs.YtifbibbicplneaaGreatDoor
open Go.Ab Go.Proofs
theorem invariantMeans_holds:Rows.InvariantMeansUptoCardSaid:=DI S.eU
end Go.Proofs.YtifbibbicplneaaGreatDoor
