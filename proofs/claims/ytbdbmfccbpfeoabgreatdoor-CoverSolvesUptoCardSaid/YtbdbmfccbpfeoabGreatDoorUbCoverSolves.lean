/-
 The statement of familychecklaw05.CoverSolves holds.
-/
import Derived.Test.YtbdbmfccbpfeoabGreatDoorUcCoverSolves
import Derived.Test.YtbdbmfccbpfeoabGreatDoorQd
namespace Go.Proofs.YtbdbmfccbpfeoabGreatDoor
open Go.Ab Go.Proofs
theorem coverSolves_holds:Rows.CoverSolvesUptoCardSaid:=ag6 S.afo
end Go.Proofs.YtbdbmfccbpfeoabGreatDoor
