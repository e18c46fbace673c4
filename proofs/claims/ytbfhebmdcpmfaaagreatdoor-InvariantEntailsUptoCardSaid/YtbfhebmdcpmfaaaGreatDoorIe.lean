/-
 A part of the proof. No condition.
-/
import Derived.Test.YtbfhebmdcpmfaaaGreatDoorIb
import Derived.Test.YtbfhebmdcpmfaaaGreatDoorId
namespace Go.Proofs.YtbfhebmdcpmfaaaGreatDoor
open Go.Ab Go.Proofs
set_option maxRecDepth 100000
section
variable {rs:List Rule} {es:List Elem} {l a:List Clause} {f:Clause->Bool}
end
end Go.Proofs.YtbfhebmdcpmfaaaGreatDoor
