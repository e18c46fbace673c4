/-
 A part of the proof. No condition.
-/
import Derived.Test.YtbfhebmdcpmfaaaGreatDoorBb
import Derived.Test.YtbfhebmdcpmfaaaGreatDoorIh
namespace Go.Proofs.YtbfhebmdcpmfaaaGreatDoor
open Go.Ab Go.Proofs
set_option maxRecDepth 100000
theorem S.eH(p:aW)(hp:dM p):au Tryz.prog 3 [.dat (.dw p)] (.bool true):=by
 refine au.of Bd.eH (by simp) rfl rfl ?_
 conv=>whnf
 refine ah.pure (S.gY p hp) rfl ?_
 rw[Yw]
 conv=>whnf
 refine ah.pure (S.mg p hp) rfl ?_
 rw[Yw]
 conv=>whnf
 refine .mk (by exact fun h=>⟨h,h⟩) ?_
 conv=>whnf
 have hsm:SmallK (Wy p):=Qv
 have hok: ∀ k∈Wy p,zZ p=0/\xR p k=0:=fun k hk=>Y3 hk
 have hle:=hsm.len
 generalize Wy p=l at hsm hok hle
 refine ah.gZ (fun _=>S.xU l l false false hsm hsm) rfl ?_
 conv=>whnf
 repeat(refine VC.mk (by first|exact id|(intro h; rw[h]; rfl)) ?_; conv=>whnf)
 refine Fork.mk (fun hx=>absurd hx (by rw[ND]; simp)) (fun _=>?_)
 conv=>whnf
 refine aJ.same [1,3] (fun i:Nat=>[(7,.int i)]) (fun i=>i<=l.length) (fun i=>l.length-i) 0 rfl (by decide) rfl (fun _=>rfl) (Nat.zero_le _) ⟨⟨_,rfl,rfl⟩,trivial⟩ ?_
 conv=>whnf
 refine⟨rfl,?_⟩
 rintro i hi
 conv=>whnf
 refine⟨fun h3=>?_,fun h3=>?_⟩
 ·have hi':i<l.length:=by simpa using h3
  obtain⟨k1,k2⟩:=hok _ (getM (d:=default) hi')
  conv=>whnf
  refine .mk (by simp only[Rw.rng] at *; first|omega|(simp_all; done)|(simp_all; omega)) ?_
  conv=>whnf
  refine ah.pure (S.eU p (l.getD i default) hp (hsm.cl i)) rfl ?_
  conv=>whnf
  refine Fork.mk (fun hx=>absurd hx (by rw[k1,k2]; decide)) (fun _=>?_)
  conv=>whnf
  refine .mk (by simp only[okI] at *; first|omega|(simp_all; done)|(simp_all; omega)) ?_
  conv=>whnf
  refine⟨i+1,by omega,by omega,⟨⟨_,rfl,rfl⟩,trivial⟩,?_,rfl⟩
  repeat' (first|exact trivial|exact⟨_,rfl,rfl⟩|constructor)
 ·conv=>whnf
  refine ah.pure (S.pU) rfl ?_
  conv=>whnf
  exact aA.bool rfl
end Go.Proofs.YtbfhebmdcpmfaaaGreatDoor
