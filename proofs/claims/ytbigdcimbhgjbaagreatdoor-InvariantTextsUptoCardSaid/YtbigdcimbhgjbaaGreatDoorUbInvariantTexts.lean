/-
 The statement of familychecklaw08.InvariantTexts holds.
-/
import Derived.Test.YtbigdcimbhgjbaaGreatDoorUcInvariantTexts
import Derived.Test.YtbigdcimbhgjbaaGreatDoorBb
namespace Go.Proofs.YtbigdcimbhgjbaaGreatDoor
open Go.Ab Go.Proofs
theorem invariantTexts_holds:Rows.InvariantTextsUptoCardSaid:=ach S.lC
end Go.Proofs.YtbigdcimbhgjbaaGreatDoor
