/-
 The statement of familychecklaw08.InvariantFilters holds.
-/
import Derived.Test.YtifbibbicplneaaGreatDoorUcInvariantFilters
import Derived.Test.YtifbibbicplneaaGreatDoorBb
namespace Go.Proofs.YtifbibbicplneaaGreatDoor
open Go.Ab Go.Proofs
theorem invariantFilters_holds:Rows.InvariantFiltersUptoCardSaid:=DI S.eU
end Go.Proofs.YtifbibbicplneaaGreatDoor
