/-
 familychecklaw09.FairStarts, as a contract. No condition.
-/
import Derived.Test.YtajmbgljnaljiaaGreatDoorAb
import Derived.Test.YtajmbgljnaljiaaGreatDoorOb
namespace Go.Proofs.YtajmbgljnaljiaaGreatDoor
open Go.Ab Go.Proofs
set_option maxRecDepth 100000
theorem VP(l:List Elem):(sS l).length<=l.length:=by
 unfold sS ru
 have:=GZ (qJ l) (qJ l).length
 rw[E5] at this
 rw[E5]; exact this
theorem VQ{r:Rule}{a x:Elem}(hx:x∈mV r a):x.counts.length=a.counts.length:=by
 unfold mV at hx
 exact zN (n:=a.counts.length) (fun e he=>by rw[(AL he).2.1,kH]) ((rH _ _).1 hx)
end Go.Proofs.YtajmbgljnaljiaaGreatDoor
