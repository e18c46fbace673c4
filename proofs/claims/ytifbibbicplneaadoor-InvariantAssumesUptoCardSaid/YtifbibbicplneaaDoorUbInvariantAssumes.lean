/-
 The statement of familychecklaw08.InvariantAssumes holds.
-/
import Derived.Test.YtifbibbicplneaaDoorUcInvariantAssumes
import Derived.Test.YtifbibbicplneaaDoorBb
namespace Go.Proofs.YtifbibbicplneaaDoor
open Go.Ab Go.Proofs
theorem invariantAssumes_holds:Rows.InvariantAssumesUptoCardSaid:=Ot S.jE
end Go.Proofs.YtifbibbicplneaaDoor
