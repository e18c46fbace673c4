/-
 The statement of familychecklaw08.InvariantCaps holds.
-/
import Derived.Test.YtifbibbicplneaaDoorUcInvariantCaps
import Derived.Test.YtifbibbicplneaaDoorBb
namespace Go.Proofs.YtifbibbicplneaaDoor
open Go.Ab Go.Proofs
theorem invariantCaps_holds:Rows.InvariantCapsUptoCardSaid:=Ot S.jE
end Go.Proofs.YtifbibbicplneaaDoor
