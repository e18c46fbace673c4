/-
 familychecklaw09.FairStarts, as a contract. No condition.
-/
import Derived.Test.YtajmbgljnaljiaaGreatDoorAb
namespace Go.Proofs.YtajmbgljnaljiaaGreatDoor
open Go.Ab Go.Proofs
set_option maxRecDepth 100000
theorem S.TV(l:List Elem)(f g:Bool)(hl:l.length<2^40)(hs:eU l):au Tryz.prog 32 [.row 3 f (.elems l),.row 3 g (.elems l)] (.bool true):=by
 have:=S.yg l l f g hl hl hs hs
 rwa [decide_eq_true rfl] at this
theorem TA(l:List Elem):(qI l).length<=l.length:=by
 unfold qI o9
 have:=EK (oD l) (oD l).length
 rw[Dl] at this
 rw[Dl]; exact this
theorem IX{r:Rule}{a x:Elem}(hx:x∈jL r a):x.counts.length=a.counts.length:=by
 unfold jL at hx
 exact Ea (n:=a.counts.length) (fun e he=>by rw[(AX he).2.1,lX]) ((rO _ _).1 hx)
end Go.Proofs.YtajmbgljnaljiaaGreatDoor
