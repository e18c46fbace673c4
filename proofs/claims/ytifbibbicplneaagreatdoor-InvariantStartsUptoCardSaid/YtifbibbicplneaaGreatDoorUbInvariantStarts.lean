/-
 The statement of familychecklaw08.InvariantStarts holds.
-/
import Derived.Test.YtifbibbicplneaaGreatDoorUcInvariantStarts
import Derived.Test.YtifbibbicplneaaGreatDoorBb
namespace Go.Proofs.YtifbibbicplneaaGreatDoor
open Go.Ab Go.Proofs
theorem invariantStarts_holds : Rows.InvariantStartsUptoCardSaid := yO S.fA
end Go.Proofs.YtifbibbicplneaaGreatDoor
