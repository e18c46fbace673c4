/-
 familychecklaw09.FairSafe, as a contract. No condition.
-/
import Derived.Test.YtajmbgljnaljiaaGreatDoorAd
import Derived.Test.YtajmbgljnaljiaaGreatDoorOb
namespace Go.Proofs.YtajmbgljnaljiaaGreatDoor
open Go.Ab Go.Proofs
set_option maxRecDepth 100000
theorem S.jP(p:aO)(q:Prop')(hp:fG p)(hq:iW q):aj Tryz.prog 3 [.dat (.kS p),.dat (.prop q)] (.bool true):=by
 refine aj.of Bd.jP (by simp) rfl rfl ?_
 conv=>whnf
 refine ah.pure (S.rU p q hp hq) rfl ?_
 conv=>whnf
 refine ah.pure (S.vk p q hp hq) rfl ?_
 conv=>whnf
 repeat(refine VC.mk (by first|exact id|exact fun h=>⟨h,h⟩) ?_; conv=>whnf)
 refine ah.iD (fun _=>S.pG) rfl ?_
 conv=>whnf
 refine VC.mk id ?_
 conv=>whnf
 exact ak.bool (by simp)
end Go.Proofs.YtajmbgljnaljiaaGreatDoor
