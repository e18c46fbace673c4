/-
 A basis is checked: the program and the reference agree. No condition.
-/
import Derived.Test.YtkmldgihhaooaaaGreatDoorQe
namespace Go.Proofs.YtkmldgihhaooaaaGreatDoor
open Go.Ab Go.Proofs
set_option maxRecDepth 100000
set_option maxHeartbeats 2000000 in
theorem S.kR(p:aJ)(q:Prop')(b:List Elem)(i:Int)(hp:dW p)(hq:jw q)(hl:b.length<2^30)(hs:yN b):aj Tryz.prog 3 [.agg ((Dat.fQ p).cells++(Dat.prop q).cells),.row 3 false (.elems b),.int i] (.bool true):=by
 refine aj.of Bd.kR (by simp) rfl rfl ?_;refine aA.objs 3 [1,2] (fun k:Nat=>[(9,.int k),(7,.ptr 1 0 0),(8,.ptr 2 0 0)]) (fun _=>[(1,yg p),(2,Hl q)]) (fun k=>k<=b.length) (fun k=>b.length-k) 0 [6,7] rfl (by decide) (fun _=>rfl) (Nat.zero_le _) (sR rfl) ⟨dQ rfl rfl,dQ rfl rfl,trivial⟩ ?_;refine⟨(sR rfl),rfl,?_⟩;rintro k hk;refine⟨fun h1=>?_,fun h1=>?_⟩
 ·have hk':k<b.length:=by simpa using h1
  have hm:b.getD k default∈b:=ZK hk';refine .mk (by first|(simp only[Rw.rng]; omega)|(simp only[Rw.rng]; omega)) ?_;refine⟨fun h2=>?_,fun h2=>?_⟩
  ·conv=>whnf
   refine ah.pure (S.V6) rfl ?_;exact ak.bool rfl
  ·conv=>whnf
   refine .mk (by first|(simp only[okI]; omega)|omega) ?_;exact⟨k+1,[1,2],hk',by omega,(sR rfl),(sR rfl),dQ rfl rfl,dQ rfl rfl,trivial⟩
 ·conv=>whnf
  refine⟨fun h2=>?_,fun h2=>?_⟩
  ·conv=>whnf
   refine ah.pure (S.V6) rfl ?_;exact ak.bool rfl
  refine ah.pure (S.kP p q b i false hp hq hl hs) rfl ?_;refine ah.pure (S.nP p q b i false hp hq hl hs) rfl ?_;refine .mk (by intro h; simp[]; done) ?_;refine ah.fV (fun _=>S.jO p q b false hp hq hl hs) rfl ?_;refine .mk (by intro h; simp[]; done) ?_;refine ah.fV (fun _=>S.oM p q b false hp hq hl hs) rfl ?_;repeat(refine VC.mk (by first|exact id|exact fun h=>⟨h,h⟩) ?_)
  refine ah.fV (fun _=>S.V6) rfl ?_;refine VC.mk id ?_;exact ak.bool (by simp)
end Go.Proofs.YtkmldgihhaooaaaGreatDoor
