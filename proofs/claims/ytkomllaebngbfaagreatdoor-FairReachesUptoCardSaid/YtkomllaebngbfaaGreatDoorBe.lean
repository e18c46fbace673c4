/-
 familychecklaw09.FairReaches, as a contract. No condition.
-/
import Derived.Test.YtkomllaebngbfaaGreatDoorAd
import Derived.Test.YtkomllaebngbfaaGreatDoorBc
namespace Go.Proofs.YtkomllaebngbfaaGreatDoor
open Go.Ab Go.Proofs
set_option maxRecDepth 100000
theorem S.iG(p:aN)(q:Prop')(a:Elem)(hp:dP p)(hq:jd q)(ha:a.counts.length<2^30):aj Tryz.prog 9 [.dat (.jA p),.dat (.prop q),.dat (.elem a)] (.bool true):=by
 have hs:eH [a]:=fun y hy=>by rw[List.mem_singleton] at hy; subst hy; omega
 obtain⟨h1,h2⟩:=adr p q
 have h3:eH (rcL p q):=fun x hx=>by have:=(h2 x hx).abs.len; omega
 refine aj.of Bd.iG (by simp) rfl rfl ?_
 conv=>whnf
 refine ah.lend (S.o9 [a] false (show 1<2^40 by decide) hs) (And.intro (adf trivial rfl rfl) trivial) rfl rfl ?_
 conv=>whnf
 refine⟨fun h1=>?_,fun h1=>?_⟩
 ·conv=>whnf
  refine ah.pure (S.nN) rfl ?_
  conv=>whnf
  exact ak.bool rfl
 conv=>whnf
 refine ah.pure (S.lU p q a hp hq ha) rfl ?_
 conv=>whnf
 refine ah.pure (S.nM p q a hp hq ha) rfl ?_
 conv=>whnf
 refine ah.pure (S.pI p q hp hq) rfl ?_
 conv=>whnf
 refine ah.pure (S.rV p q hp hq) rfl ?_
 conv=>whnf
 repeat(refine VC.mk (by first|exact id|exact fun h=>⟨h,h⟩) ?_; conv=>whnf)
 refine ah.gG (fun _=>S.VY _ false false (by omega) h3) rfl ?_
 conv=>whnf
 refine VC.mk id ?_
 conv=>whnf
 refine ah.gG (fun _=>S.nN) rfl ?_
 conv=>whnf
 refine VC.mk id ?_
 conv=>whnf
 exact ak.bool (by simp)
end Go.Proofs.YtkomllaebngbfaaGreatDoor
