/-
 familychecklaw08.InvariantTexts. No condition.
-/
import Derived.Test.YtbigdcimbhgjbaaGreatDoorIl
import Derived.Test.YtbigdcimbhgjbaaGreatDoorBb
namespace Go.Proofs.YtbigdcimbhgjbaaGreatDoor
open Go.Ab Go.Proofs
set_option maxRecDepth 100000
theorem D8: ∀ {l:List Int},cmpL l l=0:=by
 intro l
 induction l with
 |nil=>rfl
 |cons x l ih=>simp[cmpL,ih]
theorem PI: ∀ {l:List (List Int)},yR l l=0:=by
 intro l
 induction l with
 |nil=>rfl
 |cons x l ih=>rw[yR,D8,ih]; rfl
theorem Jp{k:Clause}:PK k k=0:=by
 rw[PK,PI,D8,D8]; simp[Vs,VL]
theorem PL{p:aS}{s:Str}(hs:s.length<2^28):nS (nY p s):=by
 unfold nY
 cases qL p s==0 with
 |true=>exact Gw.small (by omega)
 |false=>exact VN.small (n:=0) ⟨Nat.zero_le _,(fun x hx=>by cases hx),Nat.zero_le _,Nat.zero_le _⟩ (by decide)
theorem MX{p:aS}{s:Str}(h:qL p s=0):Fp p (nY p s)=0/\fmtS p (nY p s)=s:=by
 have hc:nY p s=(qM p s).1:=by unfold nY; rw[h]; rfl
 unfold qL at h
 obtain⟨h1,h⟩:=bz nz h
 obtain⟨_,h⟩:=bz (fun _=>by decide) h
 have hin:tC p=0:=by simpa using h1
 rw[hc]
 cases e1:nT p (qM p s).1==0 with
 |false=>rw[e1] at h; simp at h
 |true =>
  cases e2:fmtS p (qM p s).1==s with
  |false=>rw[e2] at h; simp at h
  |true=>exact⟨by unfold Fp; rw[hin]; simpa using e1,beq_iff_eq.1 e2⟩
theorem S.iF(p:aS)(c:Clause)(s:Str)(hp:dK p)(hc:nS c)(hs:s.length<2^28):ak Tryz.prog 3 [.dat (.eu p),.dat (.clause c),.str s] (.bool true):=by
 refine ak.of Bd.iF (by simp) rfl rfl ?_
 conv=>whnf
 refine ah.pure (S.bM p c hp hc) rfl ?_
 conv=>whnf
 conv=>whnf
 refine ah.pure (S.jo p c hp hc) rfl ?_
 conv=>whnf
 conv=>whnf
 refine ah.pure (S.fC p s hp (by omega)) rfl ?_
 conv=>whnf
 conv=>whnf
 refine ah.pure (S.lJ p s hp (by omega)) rfl ?_
 conv=>whnf
 repeat(refine VC.mk (by first|exact fun h=>⟨h,h⟩|(intro h; rw[h]; rfl)) ?_; conv=>whnf)
 have hx:=PL (p:=p) (s:=s) hs
 refine ah.iD (fun _=>S.iK (nY p s) (nY p s) hx hx) rfl ?_
 conv=>whnf
 repeat(refine VC.mk (by first|exact id|(intro h; rw[h]; rfl)) ?_; conv=>whnf)
 refine⟨fun h1=>?_,fun h1=>?_⟩
 ·rw[Jp] at h1
  simp at h1
 conv=>whnf
 refine⟨fun h2=>?_,fun h2=>?_⟩
 ·have hz:Fp p c=0:=beq_iff_eq.1 h2
  obtain⟨hin,hcl⟩:=KI hz
  have eA:(bif Fp p c !=0 then [] else fmtS p c)=fmtS p c:=by rw[hz]; rfl
  obtain⟨hn,hv⟩:=yS hin
  have hF:=Bc (uG hin)
  have hlen:=Rt hn hv (MZ hcl) hF.states hF.values
  obtain⟨f1,f2⟩:=YN hin hcl
  have hP:=S.fC p (bif Fp p c !=0 then [] else fmtS p c) hp (by rw[eA]; omega)
  rw[CB,show qL p (bif Fp p c !=0 then [] else fmtS p c)=0 by rw[eA]; exact f1,show nY p (bif Fp p c !=0 then [] else fmtS p c)=c by rw[eA]; exact f2] at hP
  conv=>whnf
  refine ah.pure (hP) rfl ?_
  conv=>whnf
  refine .mk (by exact fun h=>⟨h,h⟩) ?_
  conv=>whnf
  conv=>whnf
  refine ah.iD (fun _=>S.iK c c hc hc) rfl ?_
  conv=>whnf
  repeat(refine VC.mk (by first|exact id|(intro h; rw[h]; rfl)) ?_; conv=>whnf)
  refine⟨fun h5=>?_,fun h5=>?_⟩
  ·rw[Jp] at h5
   simp at h5
  conv=>whnf
  refine⟨fun h3=>?_,fun h3=>?_⟩
  ·have hz:qL p s=0:=beq_iff_eq.1 h3
   obtain⟨v1,v2⟩:=MX hz
   have hF:=S.bM p (nY p s) hp hx
   rw[CG,v1,show(bif (0:Int) !=0 then([]:Str) else fmtS p (nY p s))=fmtS p (nY p s) from rfl,v2] at hF
   conv=>whnf
   refine ah.pure (hF) rfl ?_
   conv=>whnf
   repeat(refine VC.mk (by first|exact fun h=>⟨h,h⟩|(intro h; rw[h]; rfl)) ?_; conv=>whnf)
   conv=>whnf
   refine⟨fun h4=>?_,fun h4=>?_⟩
   ·simp at h4
   conv=>whnf
   refine ah.pure (S.lC) rfl ?_
   conv=>whnf
   exact au.bool rfl
  ·conv=>whnf
   refine ah.pure (S.lC) rfl ?_
   conv=>whnf
   exact au.bool rfl
 ·conv=>whnf
  refine⟨fun h3=>?_,fun h3=>?_⟩
  ·have hz:qL p s=0:=beq_iff_eq.1 h3
   obtain⟨v1,v2⟩:=MX hz
   have hF:=S.bM p (nY p s) hp hx
   rw[CG,v1,show(bif (0:Int) !=0 then([]:Str) else fmtS p (nY p s))=fmtS p (nY p s) from rfl,v2] at hF
   conv=>whnf
   refine ah.pure (hF) rfl ?_
   conv=>whnf
   repeat(refine VC.mk (by first|exact fun h=>⟨h,h⟩|(intro h; rw[h]; rfl)) ?_; conv=>whnf)
   conv=>whnf
   refine⟨fun h4=>?_,fun h4=>?_⟩
   ·simp at h4
   conv=>whnf
   refine ah.pure (S.lC) rfl ?_
   conv=>whnf
   exact au.bool rfl
  ·conv=>whnf
   refine ah.pure (S.lC) rfl ?_
   conv=>whnf
   exact au.bool rfl
end Go.Proofs.YtbigdcimbhgjbaaGreatDoor
