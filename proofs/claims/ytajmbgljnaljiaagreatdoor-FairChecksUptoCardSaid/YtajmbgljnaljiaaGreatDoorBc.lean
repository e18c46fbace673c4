/-
 familychecklaw09.FairStarts, as a contract. No condition.
-/
import Derived.Test.YtajmbgljnaljiaaGreatDoorAb
namespace Go.Proofs.YtajmbgljnaljiaaGreatDoor
open Go.Ab Go.Proofs
set_option maxRecDepth 100000
theorem S.Yy(l:List Elem)(f g:Bool)(hl:l.length<2^40)(hs:eF l):aj Tryz.prog 32 [.row 3 f (.elems l),.row 3 g (.elems l)] (.bool true):=by
 have:=S.BQ l l f g hl hl hs hs
 rwa [decide_eq_true rfl] at this
theorem Yi(l:List Elem):(uz l).length<=l.length:=by
 unfold uz sS
 have:=Ja (rJ l) (rJ l).length
 rw[G5] at this
 rw[G5]; exact this
theorem He{r:Rule}{a x:Elem}(hx:x∈gI r a):x.counts.length=a.counts.length:=by
 unfold gI at hx
 exact Bo (n:=a.counts.length) (fun e he=>by rw[(Dj he).2.1,kN]) ((oO _ _).1 hx)
end Go.Proofs.YtajmbgljnaljiaaGreatDoor
