/-
 The statement of familychecklaw05.CoverUnfolds holds.
-/
import Derived.Test.YtbdbmfccbpfeoaaGreatDoorUcCoverUnfolds
import Derived.Test.YtbdbmfccbpfeoaaGreatDoorQd
namespace Go.Proofs.YtbdbmfccbpfeoaaGreatDoor
open Go.Ab Go.Proofs
theorem coverUnfolds_holds:Rows.CoverUnfoldsUptoCardSaid:=ahK S.ac8
end Go.Proofs.YtbdbmfccbpfeoaaGreatDoor
