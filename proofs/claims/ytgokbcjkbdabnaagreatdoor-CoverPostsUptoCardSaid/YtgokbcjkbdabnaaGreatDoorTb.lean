/-
  The statement of familychecklaw05.CoverPosts holds.
-/
import Derived.Test.YtgokbcjkbdabnaaGreatDoorTa
import Derived.Test.YtgokbcjkbdabnaaGreatDoorNf
namespace Go.Proofs.YtgokbcjkbdabnaaGreatDoor
open Go.Ab Go.Proofs
/-- familychecklaw05.CoverPosts: the second form's card. -/
theorem coverPosts_holds : Rows.CoverPostsUptoCardSaid := cardOf S.law05_sane
end Go.Proofs.YtgokbcjkbdabnaaGreatDoor
