/-
 familychecklaw09.FairStarts, as a contract. No condition.
-/
import Derived.Test.YtkomllaebngbfaaGreatDoorAb
import Derived.Test.YtkomllaebngbfaaGreatDoorOb
namespace Go.Proofs.YtkomllaebngbfaaGreatDoor
open Go.Ab Go.Proofs
set_option maxRecDepth 100000
theorem S.VY(l:List Elem)(f g:Bool)(hl:l.length<2^40)(hs:eH l):aj Tryz.prog 28 [.row 3 f (.elems l),.row 3 g (.elems l)] (.bool true):=by
 have:=S.vG l l f g hl hl hs hs
 rwa [decide_eq_true rfl] at this
theorem VU(l:List Elem):(sV l).length<=l.length:=by
 unfold sV rC
 have:=GV (qJ l) (qJ l).length
 rw[E8] at this
 rw[E8]; exact this
theorem VW{r:Rule}{a x:Elem}(hx:x∈mX r a):x.counts.length=a.counts.length:=by
 unfold mX at hx
 exact zS (n:=a.counts.length) (fun e he=>by rw[(AP he).2.1,kQ]) ((rM _ _).1 hx)
end Go.Proofs.YtkomllaebngbfaaGreatDoor
