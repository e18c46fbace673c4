/-
 The statement of familychecklaw08.InvariantLargest holds.
-/
import Derived.Test.YtifbibbicplneaaGreatDoorUcInvariantLargest
import Derived.Test.YtifbibbicplneaaGreatDoorBb
namespace Go.Proofs.YtifbibbicplneaaGreatDoor
open Go.Ab Go.Proofs
theorem invariantLargest_holds:Rows.InvariantLargestUptoCardSaid:=TP S.jd
end Go.Proofs.YtifbibbicplneaaGreatDoor
