/-
 The minimal bad elements of the chapter's first example: the run. No condition.
-/
import Derived.Test.YtgokbcjkbdabnaaGreatDoorNc
namespace Go.Proofs.YtgokbcjkbdabnaaGreatDoor
open Go.Ab Go.Proofs
set_option maxRecDepth 100000
theorem m28 : ∀ n, yP K5 (yf K5 39) false n 45 [mxT, exT] = some (.own n, some ⟨29, 3, badL⟩) := fun n => by kernel_rfl
end Go.Proofs.YtgokbcjkbdabnaaGreatDoor
