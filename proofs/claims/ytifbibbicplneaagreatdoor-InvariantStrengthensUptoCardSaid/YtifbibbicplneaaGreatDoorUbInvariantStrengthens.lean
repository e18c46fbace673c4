/-
 The statement of familychecklaw08.InvariantStrengthens holds.
-/
import Derived.Test.YtifbibbicplneaaGreatDoorUcInvariantStrengthens
import Derived.Test.YtifbibbicplneaaGreatDoorBb
namespace Go.Proofs.YtifbibbicplneaaGreatDoor
open Go.Ab Go.Proofs
theorem invariantStrengthens_holds:Rows.InvariantStrengthensUptoCardSaid:=TP S.jd
end Go.Proofs.YtifbibbicplneaaGreatDoor
