/-
 The statement of familychecklaw09.FairPosts holds.
-/
import Derived.Test.YtkomllaebngbfaaGreatDoorUcFairPosts
import Derived.Test.YtkomllaebngbfaaGreatDoorOb
namespace Go.Proofs.YtkomllaebngbfaaGreatDoor
open Go.Ab Go.Proofs
theorem fairPosts_holds:Rows.FairPostsUptoCardSaid:=DN S.fJ
end Go.Proofs.YtkomllaebngbfaaGreatDoor
