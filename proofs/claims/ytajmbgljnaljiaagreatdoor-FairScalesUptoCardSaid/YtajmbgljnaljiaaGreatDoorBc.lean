/-
 familychecklaw09.FairStarts, as a contract. No condition.
-/
import Derived.Test.YtajmbgljnaljiaaGreatDoorAb
namespace Go.Proofs.YtajmbgljnaljiaaGreatDoor
open Go.Ab Go.Proofs
set_option maxRecDepth 100000
theorem S.Yy(l:List Elem)(f g:Bool)(hl:l.length<2^40)(hs:eF l):aj Tryz.prog 32 [.row 3 f (.elems l),.row 3 g (.elems l)] (.bool true):=by
 have:=S.BQ l l f g hl hl hs hs
 rwa [decide_eq_true rfl] at this
theorem Yi(l:List Elem):(uy l).length<=l.length:=by
 unfold uy sQ
 have:=I7 (rM l) (rM l).length
 rw[GV] at this
 rw[GV]; exact this
theorem G6{r:Rule}{a x:Elem}(hx:x∈gy r a):x.counts.length=a.counts.length:=by
 unfold gy at hx
 exact Bv (n:=a.counts.length) (fun e he=>by rw[(Dh he).2.1,kM]) ((oP _ _).1 hx)
end Go.Proofs.YtajmbgljnaljiaaGreatDoor
