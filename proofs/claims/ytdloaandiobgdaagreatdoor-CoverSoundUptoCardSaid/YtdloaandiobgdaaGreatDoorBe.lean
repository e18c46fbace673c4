/-
 The law: a property with an accepted basis is not violated. No condition.
-/
import Derived.Test.YtdloaandiobgdaaGreatDoorQi
import Derived.Test.YtdloaandiobgdaaGreatDoorQd
namespace Go.Proofs.YtdloaandiobgdaaGreatDoor
open Go.Ab Go.Proofs
set_option maxRecDepth 100000
theorem Rj{p:aF}{q:Prop'}{b:List Elem}(h:Ej p q b=true):fB p q=0:=by
 simp only[Ej,aD] at h;obtain⟨⟨⟨⟨hc,_⟩,_⟩,_⟩,_⟩:=h;simpa using hc
set_option maxHeartbeats 1000000 in
theorem S.jW(p:aF)(q:Prop')(b:List Elem)(hp:dW p)(hq:lg q)(hl:b.length<2^30)(hs:EF b):ak Tryz.prog 3 [.dat (.fM p),.dat (.prop q),.row 3 false (.elems b)] (.bool true):=by
 refine ak.of Bd.jW (by simp) rfl rfl ?_;conv=>whnf
 refine ah.pure (S.uH b false (by omega) hs.E) rfl ?_;conv=>whnf
 refine .mk (by intro h; simp[h]; done) ?_;conv=>whnf
 refine ah.iJ (fun _=>S.jl p q b false hp hq hl hs) rfl ?_;conv=>whnf
 repeat(refine VC.mk (by first|exact id|exact fun h=>⟨h,h⟩|(intro h; rw[h]; rfl)) ?_; conv=>whnf)
 refine ah.iJ (res:=.bool (XZ (fE p q).length 4 1)) (fun h=>?_) rfl ?_
 ·have h':(!(Vk b|| !Ej p q b))=true:=h;have hb:Ej p q b=true:=by
   rw[bq,bk,dg] at h';exact h'.2
  exact S.adr p q 4 hp hq (rE (Rj hb)) (by decide)
 conv=>whnf
 repeat(refine VC.mk (by first|exact id|(intro h; rw[h]; rfl)) ?_; conv=>whnf)
 refine⟨fun h1=>?_,fun h1=>?_⟩
 ·conv=>whnf
  refine ah.pure (S.ads) rfl ?_;conv=>whnf
  exact ay.bool rfl
 rw[bk,bk,dg] at h1;have hb:=h1.1.2;have hck:=Rj hb;obtain⟨hk,hbf,hv,hcl⟩:=Bg hck;have hpl:=IY (FW hcl).1;conv=>whnf
 refine ah.pure (S.Kw p q 4 hp hq (rE hck) hk hbf hpl (by decide) (fun n n1 n4 c hr=>adt hb n1 (by omega) hr)) rfl ?_;conv=>whnf
 repeat(refine VC.mk (by first|exact id|(intro h; rw[h]; rfl)) ?_; conv=>whnf)
 refine ah.iJ (fun _=>S.ads) rfl ?_;conv=>whnf
 refine VC.mk id ?_;conv=>whnf
 refine ay.bool ?_;cases (aa8 p q 0 4 !=0)<;>rfl
end Go.Proofs.YtdloaandiobgdaaGreatDoor
