/-
 A part of the proof. No condition.
-/
import Derived.Test.YtbfhebmdcpmfaaaGreatDoorBb
import Derived.Test.YtbfhebmdcpmfaaaGreatDoorIi
namespace Go.Proofs.YtbfhebmdcpmfaaaGreatDoor
open Go.Ab Go.Proofs
set_option maxRecDepth 100000
set_option maxHeartbeats 1000000 in
theorem S.fM(p:aW)(l:List Clause)(c:Clause)(f:Bool)(hp:dD p)(hl:SmallK l)(hc:rD c):ak Tryz.prog 4 [.dat (.dJ p),.row 4 f (.clauses l),.dat (.clause c)] (.bool true):=by
 have k1:=hl.len
 have hce: ∀ i,([c].getD i default).each.length<2^30:=fun i=>by
  cases i with
  |zero=>exact hc.each
  |succ i=>show(default:Clause).each.length<_; decide
 refine ak.of Bd.fM (by simp) (by cases f<;>rfl) rfl ?_
 conv=>whnf
 refine ah.Xk (h2:=[(0,some (.box 27 11 (.dat (.dJ p)))),(1,some (.box 36 4 (.dat (.clause c)))),(6,some (.row 28 0 .nil [.row 4 f (.clauses l),.row 4 false (.clauses [c])]))]) (fun i=>i=5) ?_ (S.Ld 20 l [c] false f false k1 (fun i=>(hl.cl i).each) (by simp) hce) ?_ rfl ?_
 ·exact⟨bn (Z:=fun i=>i=5) rfl (by decide),bn (Z:=fun i=>i=5) rfl (by decide),⟨_,rfl,by decide,rfl,rfl,⟨aC _,Uw (Z:=fun i=>i=5) (j:=5) rfl rfl,trivial⟩,rfl,rfl⟩,trivial⟩
 ·exact And.intro (aC _) (And.intro (wM trivial rfl (by decide) rfl) trivial)
 conv=>whnf
 refine⟨fun h1=>?_,fun h1=>?_⟩
 ·conv=>whnf
  refine ah.pure (S.nP) rfl ?_
  conv=>whnf
  exact au.bool rfl
 conv=>whnf
 refine ah.pure (S.jH p l c f hp hl hc) rfl ?_
 rw[zD]
 conv=>whnf
 refine ah.pure (S.qO p l c f hp hl hc) rfl ?_
 rw[zD]
 conv=>whnf
 repeat(refine VC.mk (by first|exact id|exact fun h=>⟨h,h⟩) ?_; conv=>whnf)
 refine ah.fJ (fun _=>S.nP) rfl ?_
 conv=>whnf
 refine VC.mk id ?_
 conv=>whnf
 exact au.bool (by simp)
end Go.Proofs.YtbfhebmdcpmfaaaGreatDoor
