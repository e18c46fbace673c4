/-
 The statement of familychecklaw08.InvariantSteps holds.
-/
import Derived.Test.YtifbibbicplneaaGreatDoorUcInvariantSteps
import Derived.Test.YtifbibbicplneaaGreatDoorBb
namespace Go.Proofs.YtifbibbicplneaaGreatDoor
open Go.Ab Go.Proofs
theorem invariantSteps_holds:Rows.InvariantStepsUptoCardSaid:=DI S.eU
end Go.Proofs.YtifbibbicplneaaGreatDoor
