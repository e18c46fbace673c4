/-
 Configurations of families without faults, messages and conditions in a clique: which are valid. No condition.
-/
import Derived.Test.YtbdbmfccbpfeoaaGreatDoorQd
import Derived.Test.YtbdbmfccbpfeoaaGreatDoorLh
namespace Go.Proofs.YtbdbmfccbpfeoaaGreatDoor
open Go.Ab Go.Proofs
set_option maxRecDepth 100000
structure nD where
 shape:List Int
 states:List Int
 correct:Int
 sent:List Int
 kY:List Int
 value:Int
@[reducible] def AB(c:nD):V:=.agg [.row 0 false (.ints c.shape),.row 0 false (.ints c.states),.int c.correct,.row 0 false (.ints c.sent),.row 0 false (.ints c.kY),.int c.value]
@[reducible] def zI(n:Int):V:=.agg [.int n,.int 0,.int 0]
structure nV(c:nD):Prop where
 shape:c.shape.length<2^30
 states:c.states.length<2^30
 sent:c.sent.length<2^30
 kY:c.kY.length<2^30
structure lV(p:aB):Prop where
 top:p.topology=1
 fault:p.fault=0
 msg:p.messages=[]
 res:p.bY=[]
theorem ada{p:aB}(h:qg p=true):lV p:=by
 unfold qg at h;simp only[aD,bo] at h;obtain⟨⟨⟨h1,h2⟩,h3⟩,h4⟩:=h;exact⟨h1,h2,ai (by omega),ai (by omega)⟩
theorem NM{p:aB}(h:zN p=0):aW p=0/\lV p:=by
 unfold zN at h;cases h1:aW p !=0 with
 |true=>rw[h1] at h; rw[show aW p=0 from h] at h1; cases h1
 |false =>
  rw[h1,bB] at h;refine⟨by simpa using h1,?_⟩;cases h2:qg p with
  |true=>exact ada h2
  |false =>
   exfalso;have e1:(iF p).cover=false:=by unfold iF; simp only; rw[h2]; rfl
   have e2:(iF p).monadic=false:=by unfold iF; simp only; rw[h2]; rfl
   rw[e1,e2] at h;exact absurd (show(7:Int)=0 from h) (by decide)
theorem Yt{x m:Int}:(decide (x<0)||decide (m<x))= !(dX x 0 m):=by
 unfold dX; rw[cF]; simp
def CB(l:List Int)(m:Int):Bool:=l.all fun x=>dX x 0 m
theorem S.zJ(l:List Int)(m:Int)(f:Bool)(hl:l.length<2^40):aj Tryz.prog 88 [.row 0 f (.ints l),.int m] (.bool (CB l m)):=by
 refine aj.of Bd.nX (by simp) rfl rfl ?_;conv=>whnf
 refine aF.same [1,7,8] (fun i:Nat=>[(9,.int i)]) (fun i=>i<=l.length/\(l.take i).all (fun x=>dX x 0 m)=true) (fun i=>l.length-i) 0 rfl (by decide) rfl (fun _=>rfl) ⟨by omega,by simp⟩ ⟨⟨_,rfl,rfl⟩,trivial⟩ ?_;conv=>whnf
 refine⟨rfl,?_⟩;rintro i ⟨hi,hall⟩;conv=>whnf
 refine⟨fun h3=>?_,fun h3=>?_⟩
 ·have hi':i<l.length:=by simpa using h3
  conv=>whnf
  repeat(refine VC.mk (by first|exact fun h=>⟨h,h⟩|(intro h; rw[h]; rfl)|(simp only[Rw.rng] at *; first|omega|(simp_all; done)|(simp_all; omega))) ?_; conv=>whnf)
  refine⟨fun h4=>?_,fun h4=>?_⟩
  ·conv=>whnf
   refine ak.bool ?_;replace h4:(decide (l.getD i 0<0)||decide (m<l.getD i 0))=true:=h4;rw[Yt] at h4;unfold CB;rw[xY (d:=0) hi' (by simpa using h4)]
  ·conv=>whnf
   refine .mk (by simp only[okI] at *; first|omega|(simp_all; done)|(simp_all; omega)) ?_;conv=>whnf
   replace h4:(decide (l.getD i 0<0)||decide (m<l.getD i 0))=false:=h4;rw[Yt] at h4;refine⟨i+1,⟨by omega,?_⟩,by omega,⟨⟨_,rfl,rfl⟩,trivial⟩,?_,rfl⟩
   ·rw[zS (d:=0) hi' hall]; simpa using h4
   ·repeat' (first|exact trivial|exact⟨_,rfl,rfl⟩|constructor)
 ·have hi':l.length<=i:=by simpa using h3
  rw[bk hi'] at hall;conv=>whnf
  refine ak.bool ?_;exact hall
theorem S.o8(p:aB)(n:Int)(hpl:lV p):aj Tryz.prog 89 [.dat (.fM p),zI n] (.int n):=by
 refine aj.of Bd.o8 (by simp) rfl rfl ?_;conv=>whnf
 refine Fork.mk (fun q=>absurd (q.symm.trans (show(p.fault==3)=false by rw[hpl.fault]; rfl)).symm aM) (fun _=>?_);conv=>whnf
 exact ak.int rfl
def Jq(n:Int):Bool:=dX n 1 1048576
theorem S.um(p:aB)(n:Int)(hpl:lV p):aj Tryz.prog 117 [.dat (.fM p),zI n] (.bool (Jq n)):=by
 have h1:=hpl.top; have h2:=hpl.fault; have h3:=hpl.res;obtain⟨nm,tp,st,ms,vs,ft,rs,ini,ld,rl⟩:=p;simp only at h1 h2 h3;subst h1 h2 h3;refine aj.of Bd.um (by simp) rfl rfl ?_;conv=>whnf
 repeat(refine VC.mk (by first|exact id|exact fun h=>⟨h,h⟩|(intro h; rw[h]; rfl)) ?_; conv=>whnf)
 refine⟨fun q=>?_,fun q=>?_⟩
 ·conv=>whnf
  refine ak.bool ?_;unfold Jq dX;rw[cF];simp at q ⊢;omega
 ·conv=>whnf
  repeat(refine VC.mk (by first|exact id|(intro h; simp[]; done)) ?_; conv=>whnf)
  refine Fork.mk (fun q=>absurd (q.symm.trans (rfl)).symm aM) (fun _=>?_);conv=>whnf
  refine VC.mk id ?_;conv=>whnf
  refine Fork.mk (fun q=>absurd (q.symm.trans (rfl)).symm aM) (fun _=>?_);conv=>whnf
  repeat(refine VC.mk id ?_; conv=>whnf)
  refine Fork.mk (fun q=>absurd (q.symm.trans (rfl)).symm aM) (fun _=>?_);conv=>whnf
  refine aF.times 1 rfl ?_;conv=>whnf
  refine Fork.mk (fun q=>absurd (q.symm.trans (rfl)).symm aM) (fun _=>?_);conv=>whnf
  refine ak.bool ?_;unfold Jq dX;rw[cF];simp at q ⊢;omega
theorem S.jB(p:aB)(n:Int)(hp:dJ p)(hv:aW p=0)(hpl:lV p):aj Tryz.prog 87 [.dat (.fM p),zI n] (.bool (Jq n)):=by
 refine aj.of Bd.jB (by simp) rfl rfl ?_;conv=>whnf
 refine ah.pure (S.fU p hp) rfl ?_;rw[hv];conv=>whnf
 refine .mk (by exact fun h=>⟨h,h⟩) ?_;conv=>whnf
 refine ah.eY (fun _=>S.um p n hpl) rfl ?_;conv=>whnf
 refine VC.mk id ?_;conv=>whnf
 exact ak.bool rfl
def zK(n:Int):Int:=bif Jq n then(bif decide (8<n) then 4 else 0) else 8
theorem S.lX(p:aB)(n:Int)(hp:dJ p)(hv:aW p=0)(hpl:lV p):aj Tryz.prog 54 [.dat (.fM p),zI n] (.int (zK n)):=by
 refine aj.of Bd.lX (by simp) rfl rfl ?_;conv=>whnf
 refine ah.pure (S.fU p hp) rfl ?_;rw[hv];conv=>whnf
 refine Fork.mk (fun q=>absurd (q.symm.trans (rfl)).symm aM) (fun _=>?_);conv=>whnf
 refine ah.pure (S.jB p n hp hv hpl) rfl ?_;conv=>whnf
 refine⟨fun h1=>?_,fun h1=>?_⟩
 ·conv=>whnf
  exact ak.int (by unfold zK; rw[show Jq n=false by simpa using h1]; rfl)
 ·have h1':Jq n=true:=by simpa using h1
  conv=>whnf
  refine⟨fun h2=>?_,fun h2=>?_⟩
  ·conv=>whnf
   exact ak.int (by unfold zK; rw[h1',h2]; rfl)
  ·conv=>whnf
   exact ak.int (by unfold zK; rw[h1',h2]; rfl)
def AL(p:aB)(n:Int)(c:nD):Bool:=((c.states.length:Int)==n)&&CB c.states ((p.states.length:Int)-1)&&(c.correct==n-0)&&((c.sent.length:Int)==0)&&CB c.sent 1048576&&((c.kY.length:Int)==0)&&CB c.kY 0&&decide (0<=c.value)&&decide (c.value<max 1 (p.values.length:Int))&&((c.shape.length:Int)==0)
theorem NP{l:List Int}{m:Int}(h:((l.length:Int)==0)=true):CB l m=true:=by
 have:l=[]:=ai (by simpa using h)
 subst this; rfl
theorem S.jU(p:aB)(n:Int)(c:nD)(hp:dJ p)(hpl:lV p)(hc:nV c)(hn:0<=n/\n<2^40):aj Tryz.prog 55 [.dat (.fM p),zI n,AB c] (.int (bif AL p n c then 0 else 1)):=by
 have g1:=hp.states; have g3:=hp.values;have c1:=hc.shape; have c2:=hc.states; have c3:=hc.sent; have c4:=hc.kY;have hpl':=hpl;have h1:=hpl.top; have h2:=hpl.fault; have h3:=hpl.msg;obtain⟨nm,tp,st,ms,vs,ft,rs,ini,ld,rl⟩:=p;simp only at h1 h2 h3 g1 g3;subst h1 h2 h3;generalize hr:(bif AL _ n c then(0:Int) else 1)=res;refine aj.of Bd.jU (by simp) rfl rfl ?_;conv=>whnf
 repeat(refine VC.mk id ?_; conv=>whnf)
 refine Fork.mk (fun _=>?_) (fun q=>absurd (q.symm.trans (rfl)) aM);conv=>whnf
 refine ah.pure (S.o8 _ n hpl') rfl ?_;conv=>whnf
 repeat(refine VC.mk (by first|exact id|(intro h; simp[h]; done)|(intro h; (repeat' apply And.intro)<;>first|exact h|omega|(simp only[]; omega)|(simp only[Rw.rng]; omega))) ?_; conv=>whnf)
 refine ah.eY (fun _=>S.zJ c.states ((st.length:Int)-1) false (by omega)) rfl ?_;conv=>whnf
 repeat(refine VC.mk (by first|exact id|exact fun h=>⟨h,h⟩|(intro h; (repeat' apply And.intro)<;>first|exact h|omega|(simp only[Rw.sH]; omega)|(simp only[Rw.rng]; omega))) ?_; conv=>whnf)
 refine ah.eY (fun _=>S.zJ c.sent 1048576 false (by omega)) rfl ?_;conv=>whnf
 repeat(refine VC.mk (by first|exact id|exact fun h=>⟨h,h⟩|(intro h; simp only[h,gH]; done)) ?_; conv=>whnf)
 refine ah.eY (fun _=>S.zJ c.kY 0 false (by omega)) rfl ?_;conv=>whnf
 repeat(refine VC.mk (by first|exact id|exact fun h=>⟨h,h⟩) ?_; conv=>whnf)
 refine Fork.mk (fun q=>absurd (q.symm.trans (rfl)).symm aM) (fun _=>?_);conv=>whnf
 repeat(refine VC.mk id ?_; conv=>whnf)
 refine⟨fun h=>?_,fun h=>?_⟩
 ·conv=>whnf
  refine ak.int ?_;rw[<- hr,show AL ⟨nm,1,st,[],vs,0,rs,ini,ld,rl⟩ n c=false by simpa only[bl] using (show(!(AL ⟨nm,1,st,[],vs,0,rs,ini,ld,rl⟩ n c))=true from h)]; rfl
 ·conv=>whnf
  refine ak.int ?_;rw[<- hr,show AL ⟨nm,1,st,[],vs,0,rs,ini,ld,rl⟩ n c=true by simpa only[da] using (show(!(AL ⟨nm,1,st,[],vs,0,rs,ini,ld,rl⟩ n c))=false from h)]; rfl
theorem Rj{n:Int}(h:(zK n !=0)=false):1<=n/\n<=8:=by
 have h2:zK n=0:=by simpa using h
 unfold zK Jq dX at h2;cases h3:decide (n>=1)&&decide (n<=1048576) with
 |false=>rw[h3] at h2; exact absurd (show(8:Int)=0 from h2) (by decide)
 |true =>
  rw[h3,bS] at h2;cases h4:decide (8<n) with
  |true=>rw[h4] at h2; exact absurd (show(4:Int)=0 from h2) (by decide)
  |false =>
   rw[aD] at h3;have h5:=aq h3.1;have h6:=aR h4;omega
def vcN(p:aB)(n:Int)(c:nD):Int:=bif zK n !=0 then zK n else bif AL p n c then 0 else 1
theorem S.gZ(p:aB)(n:Int)(c:nD)(hp:dJ p)(hv:aW p=0)(hpl:lV p)(hc:nV c):aj Tryz.prog 21 [.dat (.fM p),zI n,AB c] (.int (vcN p n c)):=by
 refine aj.of Bd.gZ (by simp) rfl rfl ?_;conv=>whnf
 refine ah.pure (S.lX p n hp hv hpl) rfl ?_;conv=>whnf
 refine⟨fun h1=>?_,fun h1=>?_⟩
 ·replace h1:(zK n !=0)=true:=h1;conv=>whnf
  exact ak.int (by unfold vcN; rw[h1]; rfl)
 ·replace h1:(zK n !=0)=false:=h1;obtain⟨n1,n2⟩:=Rj h1;conv=>whnf
  refine ah.pure (S.jU p n c hp hpl hc ⟨by omega,by omega⟩) rfl ?_;conv=>whnf
  exact ak.int (by unfold vcN; rw[h1]; rfl)
theorem S.rH(n lo hi:Int):aj Tryz.prog 43 [.int n,.int lo,.int hi] (.bool (dX n lo hi)):=by
 refine aj.of Bd.rH (by simp) rfl rfl ?_;conv=>whnf
 repeat(refine VC.mk (by first|exact id|exact fun h=>⟨h,h⟩) ?_; conv=>whnf)
 exact ak.bool rfl
theorem S.wC(p:aB)(n:Int)(hpl:lV p):aj Tryz.prog 39 [.dat (.fM p),zI n] (.int n):=by
 refine aj.of Bd.wC (by simp) rfl rfl ?_;conv=>whnf
 refine Fork.mk (fun q=>absurd (q.symm.trans (show(p.fault==3)=false by rw[hpl.fault]; rfl)).symm aM) (fun _=>?_);conv=>whnf
 exact ak.int rfl
theorem S.yV(p:aB)(l:List Int)(hp:dJ p)(hl:l.length<2^40):aj Tryz.prog 40 [.dat (.fM p),.row 0 false (.ints l)] (.bool (CB l ((p.states.length:Int)-1))):=by
 have g1:=hp.states;refine aj.of Bd.yV (by simp) rfl rfl ?_;conv=>whnf
 refine aF.same [1,2] (fun i:Nat=>[(5,.int i)]) (fun i=>i<=l.length/\(l.take i).all (fun x=>dX x 0 ((p.states.length:Int)-1))=true) (fun i=>l.length-i) 0 rfl (by decide) rfl (fun _=>rfl) ⟨by omega,by simp⟩ ⟨⟨_,rfl,rfl⟩,trivial⟩ ?_;conv=>whnf
 refine⟨rfl,?_⟩;rintro i ⟨hi,hall⟩;conv=>whnf
 refine⟨fun h3=>?_,fun h3=>?_⟩
 ·have hi':i<l.length:=by simpa using h3
  conv=>whnf
  repeat(refine VC.mk (by simp only[okI,Rw.rng] at *; first|omega|(simp_all; done)|(simp_all; omega)) ?_; conv=>whnf)
  refine ah.pure (S.rH (l.getD i 0) 0 ((p.states.length:Int)-1)) rfl ?_;conv=>whnf
  refine⟨fun h4=>?_,fun h4=>?_⟩
  ·conv=>whnf
   refine ak.bool ?_;unfold CB;rw[xY (d:=0) hi' (by simpa using h4)]
  ·conv=>whnf
   refine .mk (by simp only[okI] at *; first|omega|(simp_all; done)|(simp_all; omega)) ?_;conv=>whnf
   refine⟨i+1,⟨by omega,?_⟩,by omega,⟨⟨_,rfl,rfl⟩,trivial⟩,?_,rfl⟩
   ·rw[zS (d:=0) hi' hall]; simpa using h4
   ·repeat' (first|exact trivial|exact⟨_,rfl,rfl⟩|constructor)
 ·have hi':l.length<=i:=by simpa using h3
  rw[bk hi'] at hall;conv=>whnf
  exact ak.bool hall
theorem S.rY(l:List Int)(n:Int)(hl:l.length<2^40):aj Tryz.prog 41 [.row 0 false (.ints l),.int n] (.bool (((l.length:Int)==n)&&CB l 1048576)):=by
 refine aj.of Bd.rY (by simp) rfl rfl ?_;conv=>whnf
 refine⟨fun h1=>?_,fun h1=>?_⟩
 ·conv=>whnf
  refine ak.bool ?_;replace h1:((l.length:Int) !=n)=true:=h1;rw[show((l.length:Int)==n)=false by simpa using h1]; rfl
 replace h1:((l.length:Int) !=n)=false:=h1;rw[show((l.length:Int)==n)=true by simpa using h1,cj];conv=>whnf
 refine aF.same [0] (fun i:Nat=>[(5,.int i)]) (fun i=>i<=l.length/\(l.take i).all (fun x=>dX x 0 1048576)=true) (fun i=>l.length-i) 0 rfl (by decide) rfl (fun _=>rfl) ⟨by omega,by simp⟩ ⟨⟨_,rfl,rfl⟩,trivial⟩ ?_;conv=>whnf
 refine⟨rfl,?_⟩;rintro i ⟨hi,hall⟩;conv=>whnf
 refine⟨fun h3=>?_,fun h3=>?_⟩
 ·have hi':i<l.length:=by simpa using h3
  conv=>whnf
  refine .mk (by simp only[Rw.rng] at *; first|omega|(simp_all; done)|(simp_all; omega)) ?_;conv=>whnf
  refine ah.pure (S.rH (l.getD i 0) 0 1048576) rfl ?_;conv=>whnf
  refine⟨fun h4=>?_,fun h4=>?_⟩
  ·conv=>whnf
   refine ak.bool ?_;unfold CB;rw[xY (d:=0) hi' (by simpa using h4)]
  ·conv=>whnf
   refine .mk (by simp only[okI] at *; first|omega|(simp_all; done)|(simp_all; omega)) ?_;conv=>whnf
   refine⟨i+1,⟨by omega,?_⟩,by omega,⟨⟨_,rfl,rfl⟩,trivial⟩,?_,rfl⟩
   ·rw[zS (d:=0) hi' hall]; simpa using h4
   ·repeat' (first|exact trivial|exact⟨_,rfl,rfl⟩|constructor)
 ·have hi':l.length<=i:=by simpa using h3
  rw[bk hi'] at hall;conv=>whnf
  exact ak.bool hall
theorem S.o9(p:aB)(n:Int)(hpl:lV p):aj Tryz.prog 38 [.dat (.fM p),zI n] (.bool (Jq n)):=by
 have h1:=hpl.top; have h2:=hpl.fault; have h3:=hpl.res;obtain⟨nm,tp,st,ms,vs,ft,rs,ini,ld,rl⟩:=p;simp only at h1 h2 h3;subst h1 h2 h3;refine aj.of Bd.o9 (by simp) rfl rfl ?_;conv=>whnf
 refine ah.pure (S.aY n 1 1048576) rfl ?_;conv=>whnf
 repeat(refine VC.mk (by first|exact id|exact fun h=>⟨h,h⟩) ?_; conv=>whnf)
 refine ah.eY (fun _=>S.aY 0 0 n) rfl ?_;conv=>whnf
 repeat(refine VC.mk (by first|exact id|exact fun h=>⟨h,h⟩|(intro h; rw[h]; rfl)) ?_; conv=>whnf)
 refine ah.eY (fun _=>S.aY 0 0 n) rfl ?_;conv=>whnf
 repeat(refine VC.mk (by first|exact id|(intro h; rw[h]; rfl)) ?_; conv=>whnf)
 refine⟨fun q=>?_,fun q=>?_⟩
 ·conv=>whnf
  refine ak.bool ?_;unfold Jq dX at *;rw[cF];simp at q ⊢;omega
 ·conv=>whnf
  refine aF.times 1 rfl ?_;conv=>whnf
  refine Fork.mk (fun q=>absurd (q.symm.trans (rfl)).symm aM) (fun _=>?_);conv=>whnf
  repeat(refine VC.mk (by first|exact id|(intro h; simp[]; done)) ?_; conv=>whnf)
  refine Fork.mk (fun q=>absurd (q.symm.trans (rfl)).symm aM) (fun _=>?_);conv=>whnf
  refine VC.mk id ?_;conv=>whnf
  refine Fork.mk (fun q=>absurd (q.symm.trans (rfl)).symm aM) (fun _=>?_);conv=>whnf
  repeat(refine VC.mk (by first|exact id|(intro h; rw[h]; rfl)) ?_; conv=>whnf)
  refine ak.bool ?_;unfold Jq dX at *;rw[cF];simp at q ⊢;omega
theorem S.AO(p:aB)(n:Int)(hp:dJ p)(hv:aW p=0)(hpl:lV p):aj Tryz.prog 14 [.dat (.fM p),zI n] (.int (zK n)):=by
 refine aj.of Bd.AO (by simp) rfl rfl ?_;conv=>whnf
 refine ah.pure (S.pV p hp) rfl ?_;rw[hv];conv=>whnf
 refine Fork.mk (fun q=>absurd (q.symm.trans (rfl)).symm aM) (fun _=>?_);conv=>whnf
 refine ah.pure (S.o9 p n hpl) rfl ?_;conv=>whnf
 refine⟨fun h1=>?_,fun h1=>?_⟩
 ·conv=>whnf
  exact ak.int (by unfold zK; rw[show Jq n=false by simpa using h1]; rfl)
 ·have h1':Jq n=true:=by simpa using h1
  conv=>whnf
  refine⟨fun h2=>?_,fun h2=>?_⟩
  ·conv=>whnf
   exact ak.int (by unfold zK; rw[h1',h2]; rfl)
  ·conv=>whnf
   exact ak.int (by unfold zK; rw[h1',h2]; rfl)
theorem num_nil{l:List Int}:(((l.length:Int)==((([]:List Str).length:Nat):Int))&&CB l 1048576)=((l.length:Int)==0):=by
 cases h:((l.length:Int)==0) with
 |true=>rw[NP h]; simp_all
 |false=>rfl
theorem afs{n:Nat}{v:Int}:dX v 0 (max 0 ((n:Int)-1))=(decide (0<=v)&&decide (v<max 1 (n:Int))):=by
 unfold dX;rw[cF];simp only[aD,ab];omega
theorem aft{p:aB}{n:Int}{c:nD}:AL p n c=(!(((c.states.length:Int) !=n)|| !(CB c.states ((p.states.length:Int)-1))||(c.correct !=n-0)|| !((c.sent.length:Int)==0)|| !((c.kY.length:Int)==0))&&dX c.value 0 (max 0 ((p.values.length:Int)-1))&&((c.shape.length:Int)==0)):=by
 rw[afs];unfold AL bne;cases h1:((c.sent.length:Int)==0) with
 |false=>simp
 |true =>
  cases h2:((c.kY.length:Int)==0) with
  |false=>simp
  |true =>
   rw[NP h1,NP h2];simp[Bool.and_assoc]
set_option maxHeartbeats 1000000 in
theorem S.nG(p:aB)(n:Int)(c:nD)(hp:dJ p)(hpl:lV p)(hc:nV c)(hn:0<=n/\n<2^40):aj Tryz.prog 15 [.dat (.fM p),zI n,AB c] (.bool (AL p n c)):=by
 have g1:=hp.states; have g3:=hp.values;have c1:=hc.shape; have c2:=hc.states; have c3:=hc.sent; have c4:=hc.kY;have hpl':=hpl; have hp':=hp;have h1:=hpl.top; have h2:=hpl.fault; have h3:=hpl.msg;obtain⟨nm,tp,st,ms,vs,ft,rs,ini,ld,rl⟩:=p;simp only at h1 h2 h3 g1 g3;subst h1 h2 h3;rw[aft];generalize hr:(!(((c.states.length:Int) !=n)|| !(CB c.states (((⟨nm,1,st,[],vs,0,rs,ini,ld,rl⟩:aB).states.length:Int)-1))||(c.correct !=n-0)|| !((c.sent.length:Int)==0)|| !((c.kY.length:Int)==0))&&dX c.value 0 (max 0 (((⟨nm,1,st,[],vs,0,rs,ini,ld,rl⟩:aB).values.length:Int)-1))&&((c.shape.length:Int)==0))=res;refine aj.of Bd.nG (by simp) rfl rfl ?_;conv=>whnf
 refine ah.pure (S.wC _ n hpl') rfl ?_;conv=>whnf
 repeat(refine VC.mk (by first|exact id|exact fun h=>⟨h,h⟩) ?_; conv=>whnf)
 refine ah.eY (fun _=>S.yV _ c.states hp' (by omega)) rfl ?_;conv=>whnf
 repeat(refine VC.mk (by first|exact id|exact fun h=>⟨h,h⟩|(intro h; rw[h]; rfl)|(intro h; (repeat' apply And.intro)<;>first|exact h|omega|(simp only[Rw.sH]; omega)|(simp only[Rw.rng]; omega))) ?_; conv=>whnf)
 refine ah.eY (fun _=>S.rY c.sent ((([]:List Str).length:Nat):Int) (by omega)) rfl ?_;rw[num_nil];conv=>whnf
 repeat(refine VC.mk (by first|exact id|exact fun h=>⟨h,h⟩|(intro h; rw[h]; rfl)) ?_; conv=>whnf)
 refine ah.eY (fun _=>S.rY c.kY ((([]:List Str).length:Nat):Int) (by omega)) rfl ?_;rw[num_nil];conv=>whnf
 repeat(refine VC.mk (by first|exact id|(intro h; rw[h]; rfl)) ?_; conv=>whnf)
 refine⟨fun h=>?_,fun h=>?_⟩
 ·conv=>whnf
  refine ak.bool ?_;rw[<- hr];replace h:(((c.states.length:Int) !=n)|| !(CB c.states ((st.length:Int)-1))||(c.correct !=n-0)|| !((c.sent.length:Int)==0)|| !((c.kY.length:Int)==0))=true:=h;rw[h]; rfl
 replace h:(((c.states.length:Int) !=n)|| !(CB c.states ((st.length:Int)-1))||(c.correct !=n-0)|| !((c.sent.length:Int)==0)|| !((c.kY.length:Int)==0))=false:=h;have hf:c.kY.length=0:=by
  simp only[bi] at h;have:=h.2;simp at this;simp[this]
 conv=>whnf
 refine aF.times 1 rfl ?_;conv=>whnf
 refine Fork.mk (fun q=>absurd (q.symm.trans (cH (by omega))).symm aM) (fun _=>?_);conv=>whnf
 refine .mk (by simp only[okI] at *; first|omega|(simp_all; done)|(simp_all; omega)) ?_;conv=>whnf
 refine ah.pure (S.rH c.value 0 (max 0 ((vs.length:Int)-1))) rfl ?_;conv=>whnf
 refine⟨fun h4=>?_,fun h4=>?_⟩
 ·conv=>whnf
  refine ak.bool ?_;rw[<- hr];rw[h,show dX c.value 0 (max 0 ((vs.length:Int)-1))=false by simpa using h4]; rfl
 ·conv=>whnf
  refine Fork.mk (fun q=>absurd (q.symm.trans (rfl)).symm aM) (fun _=>?_);conv=>whnf
  refine ak.bool ?_;rw[<- hr];rw[h,show dX c.value 0 (max 0 ((vs.length:Int)-1))=true by simpa using h4]; rfl
theorem S.nH(p:aB)(n:Int)(c:nD)(hp:dJ p)(hv:aW p=0)(hpl:lV p)(hc:nV c):aj Tryz.prog 5 [.dat (.fM p),zI n,AB c] (.int (vcN p n c)):=by
 refine aj.of Bd.nH (by simp) rfl rfl ?_;conv=>whnf
 refine ah.pure (S.AO p n hp hv hpl) rfl ?_;conv=>whnf
 refine⟨fun h1=>?_,fun h1=>?_⟩
 ·replace h1:(zK n !=0)=true:=h1;conv=>whnf
  exact ak.int (by unfold vcN; rw[h1]; rfl)
 ·replace h1:(zK n !=0)=false:=h1;obtain⟨n1,n2⟩:=Rj h1;conv=>whnf
  refine ah.pure (S.nG p n c hp hpl hc ⟨by omega,by omega⟩) rfl ?_;conv=>whnf
  refine⟨fun h2=>?_,fun h2=>?_⟩
  ·conv=>whnf
   exact ak.int (by unfold vcN; rw[h1,show AL p n c=false by simpa using h2]; rfl)
  ·conv=>whnf
   exact ak.int (by unfold vcN; rw[h1,show AL p n c=true by simpa using h2]; rfl)
def Yu(a:List Int)(x:Int):List Int:=a.set x.toNat (a.getD x.toNat 0+1)
def jV(k:Nat)(l:List Int):List Int:=l.foldl Yu (List.replicate k 0)
theorem adb: ∀ {l a:List Int},(l.foldl Yu a).length=a.length:=by
 intro l;induction l with
 |nil=>intro a; rfl
 |cons x l ih=>intro a; rw[dq,ih]; simp[Yu]
theorem jW{k:Nat}{l:List Int}:(jV k l).length=k:=by unfold jV; rw[adb,List.length_replicate]
theorem aaB{k i:Nat}{l:List Int}(hi:i<l.length):jV k (l.take (i+1))=Yu (jV k (l.take i)) (l.getD i 0):=by
 unfold jV;rw[cJ,eJ];simp[hi]
theorem afu: ∀ {l a:List Int} {j:Nat},a.getD j 0<=(l.foldl Yu a).getD j 0/\(l.foldl Yu a).getD j 0<=a.getD j 0+l.length:=by
 intro l;induction l with
 |nil=>intro a j; simp
 |cons x l ih =>
  intro a j;rw[dq];have h:=ih (a:=Yu a x) (j:=j);have e:a.getD j 0<=(Yu a x).getD j 0/\(Yu a x).getD j 0<=a.getD j 0+1:=by
   unfold Yu;rw[ag (l:=a.set _ _),List.getElem?_set];by_cases h1:x.toNat=j
   ·subst h1;rw[ba rfl];by_cases h2:x.toNat<a.length
    ·rw[ba h2]; simp only[dt]; omega
    ·rw[av h2]
     have:a.getD x.toNat 0=0:=by simp[List.getD_eq_getElem?_getD,List.getElem?_eq_none (Nat.le_of_not_lt h2)]
     simp only[Option.getD_none]; omega
   ·rw[av h1,<- ag]; omega
  simp only[bN];omega
theorem afv{k j:Nat}{l:List Int}:0<=(jV k l).getD j 0/\(jV k l).getD j 0<=l.length:=by
 have h:=afu (l:=l) (a:=List.replicate k 0) (j:=j);have e:(List.replicate k (0:Int)).getD j 0=0:=by
  rw[ag,List.getElem?_replicate]; split<;>rfl
 unfold jV;rw[e] at h;omega
def gV(p:aB)(c:nD):Elem:=⟨c.value,jV p.states.length c.states⟩
def Rk(p:aB)(c:nD):Elem×Int:=bif zN p !=0 then(⟨0,[]⟩,zN p) else bif vcN p c.states.length c !=0 then(⟨0,[]⟩,1) else(gV p c,0)
theorem NQ{p:aB}{n:Int}{c:nD}(h:vcN p n c=0):1<=n/\n<=8/\AL p n c=true:=by
 unfold vcN at h;cases h1:zK n !=0 with
 |true=>rw[h1] at h; rw[show zK n=0 from h] at h1; cases h1
 |false =>
  rw[h1,bB] at h;obtain⟨n1,n2⟩:=Rj h1;refine⟨n1,n2,?_⟩;cases h7:AL p n c with
  |true=>rfl
  |false=>rw[h7] at h; exact absurd (show(1:Int)=0 from h) (by decide)
theorem vk{p:aB}{n:Int}{c:nD}(h:AL p n c=true): ∀ x∈c.states,0<=x/\x<p.states.length:=by
 unfold AL CB at h;simp only[aD,cA] at h;intro x hx;have:=h.1.1.1.1.1.1.1.1.2 x hx;unfold dX at this;simp only[aD,ab] at this;omega
theorem ak.ade{h:Hz}{e:Int}:ak (.bU [.dat (.elem ⟨0,[]⟩),.int e]) (.bU [.agg [.int 0,.row 0 true .nil],.int e]) h:=⟨by
 simp only[V.aI,V.aQ,Dat.aI,fG,T.sub,T.dG,Rw.aQ]
 simp⟩
theorem ak.aiN{h:Hz}{j:Nat}{v e:Int}{l:List Int}(q:h.get j=some (.row 3 0 (.ints l) [])):ak (.bU [.dat (.elem ⟨v,l⟩),.int e]) (.bU [.agg [.int v,.own j],.int e]) h:=⟨by
 show T.sub (fun _=>True) h.au (.bU [.agg [.int v,.sl 0 false (l.map T.int)],.int e]) (.bU [.agg [.int v,.own j],.int e]);have:=xK (Z:=fun _=>True) trivial q;replace this:T.sub (fun _=>True) h.au (.sl 0 false (l.map T.int)) (.own j):=this;simp only[T.sub] at this;simp only[T.sub,T.dG]
 exact⟨⟨trivial,this,trivial⟩,trivial,trivial⟩⟩
abbrev Xd(c:nD):OV:=.box 29 7 (AB c)
set_option maxHeartbeats 1000000 in
theorem S.lY(p:aB)(c:nD)(hp:dJ p)(hc:nV c):aj Tryz.prog 7 [.dat (.fM p),AB c] (.bU [.dat (.elem (Rk p c).1),.int (Rk p c).2]):=by
 have c2:=hc.states; have g1:=hp.states;generalize hres:(V.bU [.dat (.elem (Rk p c).1),.int (Rk p c).2])=res;refine aj.of Bd.lY (by simp) rfl (by rw[<- hres]; rfl) ?_;conv=>whnf
 refine ah.pure (S.jm p hp) rfl ?_;conv=>whnf
 refine⟨fun h1=>?_,fun h1=>?_⟩
 ·replace h1:(zN p !=0)=true:=h1;conv=>whnf
  rw[<- hres,Rk,h1];exact ak.ade
 replace h1:(zN p !=0)=false:=h1;obtain⟨hv,hpl⟩:=NM (EP h1);conv=>whnf
 refine ah.pure (S.gZ p c.states.length c hp hv hpl hc) rfl ?_;conv=>whnf
 refine⟨fun h2=>?_,fun h2=>?_⟩
 ·replace h2:(vcN p c.states.length c !=0)=true:=h2;conv=>whnf
  rw[<- hres,Rk,h1,h2];exact ak.ade
 replace h2:(vcN p c.states.length c !=0)=false:=h2;obtain⟨n1,n2,hcb⟩:=NQ (EP h2);have hst:=vk hcb;have hk:0<p.states.length:=by
  have:c.states.getD 0 0∈c.states:=by
   cases hl:c.states with
   |nil=>rw[hl] at n1; simp at n1
   |cons x r=>simp
  have:=hst _ this;omega
 conv=>whnf
 have hm:=CJ (n:=p.states.length) hk;rw[hm];conv=>whnf
 refine .mk (by omega) ?_;conv=>whnf
 refine aF.PL 30 [4,7,33,34] (fun i:Nat=>[(35,.int i)]) (fun i=>[(0,EN p),(1,Xd c),(2,.box 40 3 (.agg [.int 0,.row 0 true .nil])),(22,jI (jV p.states.length (c.states.take i))),(24,.box 40 3 (.agg [.int c.value,.own 22]))]) (fun i=>i<=c.states.length) (fun i=>c.states.length-i) 0 [0,1,2,22,24] rfl (by decide) (fun _=>rfl) (ap _) ?_ ?_ ?_
 ·exact(sR rfl)
 ·exact⟨qG rfl rfl,qG rfl rfl,qG rfl rfl,qG rfl rfl,Xr rfl rfl rfl ⟨rfl,rfl⟩ (dH.of_eq rfl),trivial⟩
 conv=>whnf
 refine⟨(sR rfl),rfl,?_⟩;rintro i hi;have hln:=jW (k:=p.states.length) (l:=c.states.take i);conv=>whnf
 refine⟨fun g1=>?_,fun g1=>?_⟩
 ·have hi':i<c.states.length:=by simpa using g1
  have hx:c.states.getD i 0∈c.states:=by rw[getD_some hi']; exact bR hi'
  obtain⟨x1,x2⟩:=hst _ hx;have hb:=afv (k:=p.states.length) (j:=(c.states.getD i 0).toNat) (l:=c.states.take i);have hlt:(c.states.take i).length<=i:=by rw[bL]; omega
  conv=>whnf
  repeat(refine VC.mk (by first|(simp only[Rw.rng,be]; omega)|(simp only[okI,be] at *; omega)) ?_; conv=>whnf)
  refine⟨i+1,[0,1,2,22,24],by omega,by omega,(sR rfl),(sR rfl),qG rfl rfl,qG rfl rfl,qG rfl rfl,okF rfl nofun rfl rfl rfl ⟨rfl,rfl⟩ ?_,Xr rfl rfl rfl ⟨rfl,rfl⟩ (dH.of_eq rfl),trivial⟩;rw[aaB hi']; rfl
 ·have hi':i=c.states.length:=by
   have: ¬ ((i:Int)<(c.states.length:Int)):=aR g1
   omega
  subst hi';rw[cB];conv=>whnf
  rw[<- hres,Rk,h1,h2];exact ak.aiN rfl
abbrev afw:V:=.row 0 true .nil
def UJ(n i:Nat):List Int:=List.replicate i (-1)++List.replicate (n-i) 0
theorem UK{n i:Nat}(h:i<=n):(UJ n i).length=n:=by simp[UJ]; omega
theorem aaC{n i:Nat}(h:i<n):(UJ n i).set i (-1)=UJ n (i+1):=by
 unfold UJ;rw[f9 _ _ (by simp),List.length_replicate,fe,show n-i=(n-(i+1))+1 by omega,eV,eO,List.replicate_succ',ax]; rfl
theorem S.pq(n:Nat)(h0:0<n)(hn:n<2^20):aj Tryz.prog 96 [.int n] (.row 0 false (.ints (List.replicate n (-1)))):=by
 refine aj.of Bd.pq (by simp) rfl rfl ?_;conv=>whnf
 have hmx:max (n:Int) 0=n:=by omega
 rw[hmx,CJ h0];conv=>whnf
 refine .mk (by omega) ?_;conv=>whnf
 refine aF.PL 30 [3,8,9] (fun i:Nat=>[(10,.int i)]) (fun i=>[(3,jI (UJ n i))]) (fun i=>i<=n) (fun i=>n-i) 0 [3] rfl (by decide) (fun _=>rfl) (ap _) ?_ ?_ ?_
 ·exact(sR rfl)
 ·exact⟨qG rfl rfl,trivial⟩
 conv=>whnf
 refine⟨(sR rfl),rfl,?_⟩;rintro i hi;have hl:=UK hi;conv=>whnf
 refine⟨fun g1=>?_,fun g1=>?_⟩
 ·have hi':i<n:=by simpa using g1
  conv=>whnf
  repeat(refine VC.mk (by first|(simp only[Rw.rng,be]; omega)|(simp only[okI] at *; omega)) ?_; conv=>whnf)
  refine⟨i+1,[3],by omega,by omega,(sR rfl),(sR rfl),okF rfl nofun rfl rfl rfl ⟨rfl,rfl⟩ ?_,trivial⟩;rw[<- aaC hi']; rfl
 ·have hi':i=n:=by
   have: ¬ ((i:Int)<(n:Int)):=by simpa using g1
   omega
  subst hi';conv=>whnf
  have:=UK (n:=i) (bO i);have hf:UJ i i=List.replicate i (-1):=by simp[UJ]
  rw[hf];exact⟨xK trivial rfl⟩
@[reducible] def ajF(n:Nat):V:=.agg [.row 0 false (.ints (List.replicate n (-1))),.row 0 false (.ints (List.replicate n (-1))),.row 0 false (.ints (List.replicate n (-1)))]
theorem S.wE(l:List Int)(n:Nat)(h0:0<n)(hn:n<2^20):aj Tryz.prog 61 [.int 1,.row 0 false (.ints l),.int n] (.bU [ajF n,.bool true]):=by
 refine aj.of Bd.wE (by simp) rfl rfl ?_;conv=>whnf
 refine ah.pure (S.pq n h0 hn) rfl ?_;conv=>whnf
 refine ah.pure (S.pq n h0 hn) rfl ?_;conv=>whnf
 refine ah.pure (S.pq n h0 hn) rfl ?_;conv=>whnf
 refine Fork.mk (fun q=>absurd (q.symm.trans (rfl)).symm aM) (fun _=>?_);conv=>whnf
 refine Fork.mk (fun q=>absurd (q.symm.trans (rfl)).symm aM) (fun _=>?_);conv=>whnf
 refine Fork.mk (fun q=>absurd (q.symm.trans (rfl)).symm aM) (fun _=>?_);conv=>whnf
 exact ak.eqv rfl
@[reducible] def ahu(n:Nat):V:=.row 0 false (.ints (List.replicate n (-1)))
@[reducible] def J4(p:aB)(n:Nat)(c:nD):V:=.agg ((Dat.fM p).cells++[.int n,.int 0,.int 0,.row 0 false (.ints c.shape),.row 0 false (.ints c.states),.int c.correct,.row 0 false (.ints c.sent),.row 0 false (.ints c.kY),.int c.value,ahu n,ahu n,ahu n])
theorem S.vw(p:aB)(n:Nat)(c:nD)(hp:p.topology=1)(hn:c.states.length=n)(h0:0<n)(h1:n<2^20):aj Tryz.prog 25 [.dat (.fM p),zI n,AB c] (J4 p n c):=by
 refine aj.of Bd.vw (by simp) rfl rfl ?_;conv=>whnf
 rw[hp,hn];refine ah.pure (S.wE c.shape n h0 h1) rfl ?_;conv=>whnf
 exact ak.eqv rfl
theorem S.OA(p:aB)(n:Nat)(c:nD)(r:Rule)(b:Bool)(hg:r.guards=[]):aj Tryz.prog 64 [J4 p n c,.dat (.rule r),.bool b] (.bool true):=by
 refine aj.of Bd.qE (by simp) rfl rfl ?_;conv=>whnf
 refine aF.same [12,13] (fun i:Nat=>[(14,.int i)]) (fun i=>i=0) (fun _=>0) 0 rfl (by decide) rfl (fun _=>rfl) rfl ⟨⟨_,rfl,rfl⟩,trivial⟩ ?_;conv=>whnf
 refine⟨rfl,?_⟩;rintro i rfl;conv=>whnf
 refine Fork.mk (fun q=>absurd (q.symm.trans (by rw[hg]; rfl)).symm aM) (fun _=>?_);conv=>whnf
 exact ak.bool rfl
def exC(r:Rule)(st:List Int)(x:Int)(i:Nat):Bool:=(r.ex.length:Int)==0||(List.range i).any (fun j=> !((j:Int)==x)&&Jv r.ex (st.getD j 0))
def alC(r:Rule)(st:List Int)(x:Int)(i:Nat):Bool:=(List.range i).all (fun j=>((j:Int)==x)||((r.all.length:Int)==0||Jv r.all (st.getD j 0)))
def Xe(r:Rule)(st:List Int)(x:Int):Bool:=exC r st x st.length&&alC r st x st.length
theorem UL{r:Rule}{st:List Int}{x:Int}{i:Nat}:exC r st x (i+1)=(exC r st x i||(!((i:Int)==x)&&Jv r.ex (st.getD i 0))):=by
 simp only[exC,ce,dz,ez,List.any_nil,fk,Bool.or_assoc]
theorem UM{r:Rule}{st:List Int}{x:Int}{i:Nat}:alC r st x (i+1)=(alC r st x i&&(((i:Int)==x)||((r.all.length:Int)==0||Jv r.all (st.getD i 0)))):=by
 simp only[alC,ce,List.all_append,gA,List.all_nil,dx]
theorem S.OB(p:aB)(n:Nat)(c:nD)(r:Rule)(x:Int)(hr:sN r)(hc:nV c):aj Tryz.prog 65 [J4 p n c,.dat (.rule r),.int x] (.bool (Xe r c.states x)):=by
 have g1:=hr.ex; have g2:=hr.all; have g3:=hc.states;refine aj.of Bd.qF (by simp) rfl rfl ?_;conv=>whnf
 refine aF.same [2,3,4,17,18] (fun i:Nat=>[(19,.int i),(7,.bool (exC r c.states x i)),(8,.bool (alC r c.states x i))]) (fun i=>i<=c.states.length) (fun i=>c.states.length-i) 0 rfl (by decide) rfl (fun _=>rfl) (ap _) ⟨⟨_,rfl,rfl⟩,⟨_,rfl,?_⟩,⟨_,rfl,rfl⟩,trivial⟩ ?_
 ·show(V.bool (exC r c.states x 0)).aI=(V.bool ((r.ex.length:Int)==0)).aI;rw[exC]; simp
 conv=>whnf
 refine⟨rfl,?_⟩;rintro i hi;conv=>whnf
 refine⟨fun h3=>?_,fun h3=>?_⟩
 ·have hi':i<c.states.length:=by simpa using h3
  conv=>whnf
  refine .mk (by simp only[Rw.rng] at *; first|omega|(simp_all; done)|(simp_all; omega)) ?_;conv=>whnf
  refine⟨fun h4=>?_,fun h4=>?_⟩
  ·replace h4:((i:Int)==x)=true:=h4;conv=>whnf
   refine .mk (by simp only[okI] at *; first|omega|(simp_all; done)|(simp_all; omega)) ?_;conv=>whnf
   refine⟨i+1,hi',by omega,⟨⟨_,rfl,rfl⟩,⟨_,rfl,?_⟩,⟨_,rfl,?_⟩,trivial⟩,?_,rfl⟩
   ·rw[UL,h4]; simp[V.aI]
   ·rw[UM,h4]; simp[V.aI]
   ·repeat' (first|exact trivial|exact⟨_,rfl,rfl⟩|constructor)
  ·replace h4:((i:Int)==x)=false:=h4;conv=>whnf
   repeat(refine VC.mk (by first|exact id|exact fun h=>⟨h,h⟩) ?_; conv=>whnf)
   refine ah.eY (fun _=>S.slices_Contains_int r.ex (c.states.getD i 0) false (by omega)) rfl ?_;conv=>whnf
   repeat(refine VC.mk (by first|exact id|exact fun h=>⟨h,h⟩|(intro h; rw[h]; rfl)) ?_; conv=>whnf)
   refine ah.eY (fun _=>S.slices_Contains_int r.all (c.states.getD i 0) false (by omega)) rfl ?_;conv=>whnf
   repeat(refine VC.mk (by first|exact id|(intro h; simp[h]; done)|(simp only[okI] at *; first|omega|(simp_all; done)|(simp_all; omega))) ?_; conv=>whnf)
   refine⟨i+1,hi',by omega,⟨⟨_,rfl,rfl⟩,⟨_,rfl,?_⟩,⟨_,rfl,?_⟩,trivial⟩,?_,rfl⟩
   ·rw[UL,h4]; simp[V.aI,sG]
   ·rw[UM,h4]; simp[V.aI,sG]
   ·repeat' (first|exact trivial|exact⟨_,rfl,rfl⟩|constructor)
 ·have hi':i=c.states.length:=by
   have: ¬ ((i:Int)<(c.states.length:Int)):=by simpa using h3
   omega
  subst hi';conv=>whnf
  refine VC.mk id ?_;conv=>whnf
  exact ak.bool rfl
structure adf(p:aB):Prop where
 kind: ∀ r∈p.rules,r.kind=1\/r.kind=2\/r.kind=3
 guards: ∀ r∈p.rules,r.guards=[]
@[reducible] def Xf(k w o:Int):V:=.agg [.int k,.int w,.int o]
def Xg(r:Rule)(c:nD)(w o:Int):Bool :=
 bif (c.states.getD w.toNat 0 !=r.fr)||(decide (0<=r.read)&&c.value !=r.read) then false
 else bif r.kind==2 then !(decide (o<0)||decide ((c.states.length:Int)<=o)||o==w||c.states.getD o.toNat 0 !=r.dZ)
 else bif o != -1 then false
 else bif r.kind==1 then Xe r c.states w
 else true
def enB(p:aB)(c:nD)(k w o:Int):Bool :=
 bif decide (k<0)||decide ((p.rules.length:Int)<=k)||decide (w<0)||decide ((c.states.length:Int)<=w) then false
 else Xg (p.rules.getD k.toNat default) c w o
theorem Yv{p:aB}{k:Int}(h1:0<=k)(h2:k<p.rules.length):p.rules.getD k.toNat default∈p.rules:=by
 have:k.toNat<p.rules.length:=by omega
 rw[getD_some this]; exact bR this
theorem S.DW(p:aB)(n:Nat)(c:nD)(k w o:Int)(b:Bool)(hp:dJ p)(hc:nV c)(hk:adf p):aj Tryz.prog 27 [J4 p n c,Xf k w o,.bool b] (.bool (enB p c k w o)):=by
 have g3:=hc.states;generalize hres:enB p c k w o=res;refine aj.of Bd.pz (by simp) rfl rfl ?_;conv=>whnf
 repeat(refine VC.mk (by first|exact id|exact fun h=>⟨h,h⟩|(intro h; rw[h]; rfl)) ?_; conv=>whnf)
 refine⟨fun h1=>?_,fun h1=>?_⟩
 ·conv=>whnf
  refine ak.bool ?_;rw[<- hres];unfold enB;rw[show(decide (k<0)||decide ((p.rules.length:Int)<=k)||decide (w<0)||decide ((c.states.length:Int)<=w))=true from h1]; rfl
 replace h1:(decide (k<0)||decide ((p.rules.length:Int)<=k)||decide (w<0)||decide ((c.states.length:Int)<=w))=false:=h1;have hres':Xg (p.rules.getD k.toNat default) c w o=res:=by rw[<- hres]; unfold enB; rw[h1]; rfl
 simp only[bi,ao] at h1;obtain⟨⟨⟨k1,k2⟩,w1⟩,w2⟩:=h1;have hm:=Yv (p:=p) (k:=k) (by omega) (by omega);have hkd:=hk.kind _ hm;have hgd:=hk.guards _ hm;have hsr:=hp.rule k.toNat;conv=>whnf
 repeat(refine VC.mk (by first|exact id|exact fun h=>⟨h,h⟩|(intro h; rw[h]; rfl)|(intro h; simp_all; done)|(simp only[Rw.rng] at *; first|omega|(simp_all; done)|(simp_all; omega))) ?_; conv=>whnf)
 revert hkd hgd hsr hres' hm;generalize p.rules.getD k.toNat default=r;intro hres' hm hkd hgd hsr;refine⟨fun h2=>?_,fun h2=>?_⟩
 ·conv=>whnf
  refine ak.bool ?_;rw[<- hres',Xg,show(c.states.getD w.toNat 0 !=r.fr||decide (0<=r.read)&&c.value !=r.read)=true from h2]; rfl
 replace h2:(c.states.getD w.toNat 0 !=r.fr||decide (0<=r.read)&&c.value !=r.read)=false:=h2;rw[Xg,h2,bB] at hres';conv=>whnf
 repeat(refine VC.mk (by first|exact id|(intro h; rw[h]; rfl)) ?_; conv=>whnf)
 refine⟨fun h3=>?_,fun h3=>?_⟩
 ·replace h3:(r.kind==2||r.kind==5)=true:=h3;have h3':(r.kind==2)=true:=by
   rcases hkd with h|h|h<;>simp_all
  rw[h3',bS] at hres';conv=>whnf
  repeat(refine VC.mk (by first|exact id|exact fun h=>⟨h,h⟩|(intro h; rw[h]; rfl)|(simp only[Rw.rng] at *; first|omega|(simp_all; done)|(simp_all; omega))) ?_; conv=>whnf)
  refine⟨fun h4=>?_,fun h4=>?_⟩
  ·conv=>whnf
   refine ak.bool ?_;rw[<- hres',show(decide (o<0)||decide ((c.states.length:Int)<=o)||o==w||c.states.getD o.toNat 0 !=r.dZ)=true from h4]; rfl
  replace h4:(decide (o<0)||decide ((c.states.length:Int)<=o)||o==w||c.states.getD o.toNat 0 !=r.dZ)=false:=h4;rw[h4] at hres';conv=>whnf
  repeat(refine VC.mk (by first|exact id|(intro h; simp[h]; done)) ?_; conv=>whnf)
  refine ah.eY (res:=.bool true) (fun q=>by rw[h3'] at q; cases q) rfl ?_;conv=>whnf
  refine .mk (by intro h; rw[h]; rfl) ?_;conv=>whnf
  exact ak.bool (by rw[<- hres',h3']; rfl)
 replace h3:(r.kind==2||r.kind==5)=false:=h3;have h3':(r.kind==2)=false:=by simp_all
 rw[h3',bB] at hres';conv=>whnf
 refine⟨fun h4=>?_,fun h4=>?_⟩
 ·replace h4:(o != -1)=true:=h4;conv=>whnf
  rw[h4] at hres';exact ak.bool hres'.symm
 replace h4:(o != -1)=false:=h4;rw[h4,bB] at hres';conv=>whnf
 refine⟨fun h5=>?_,fun h5=>?_⟩
 ·replace h5:(r.kind==1)=true:=h5;rw[h5,bS] at hres';conv=>whnf
  refine ah.pure (S.OA p n c r b hgd) rfl ?_;conv=>whnf
  repeat(refine VC.mk (by first|exact id|(intro h; simp[]; done)) ?_; conv=>whnf)
  refine ah.eY (fun _=>S.OB p n c r w hsr hc) rfl ?_;conv=>whnf
  refine VC.mk id ?_;conv=>whnf
  exact ak.bool hres'.symm
 replace h5:(r.kind==1)=false:=h5;rw[h5,bB] at hres';conv=>whnf
 have h6:(r.kind==4)=false:=by rcases hkd with h|h|h<;>simp_all
 refine Fork.mk (fun q=>absurd (q.symm.trans (h6)).symm aM) (fun _=>?_);conv=>whnf
 exact ak.bool hres'.symm
abbrev UN(c:nD)(n:Nat):V:=.agg [.row 0 false (.ints c.shape),.own n,.int c.correct,.row 0 false (.ints c.sent),.row 0 false (.ints c.kY),.int c.value]
theorem gG.zZ{h0 h:Hz}{n c j:Nat}{post:T->Hp->Prop}{v:V}{o:OV}{t:T}(hj:h.get j=some o)(hg:o.good (j+1)=true)(hf:o.Ce=true)(hc:(h0.get c).isSome=true->j=c)(hc':(h0.get c).isSome=true\/c=n)
  (ht:t.ids (fun i=>i=c)) (hv:T.sub (fun i=>i≠j) h.au (t.ren fun _=>j) v.aI) (hp:post t (Hz.au [(c,some o)])):gG h0 n post v h:=by
 have hgood:=(OV.tY hg).2;have hM: ∀ i,i=c->(h0.au i).isSome=true\/i=n:=by
  rintro i rfl;rcases hc' with h|h
  ·left; simpa [Hz.au] using h
  ·exact .inr h
 have hx: ∀ i ob,Hz.au [(c,some o)] i=some ob->i=c/\ob=o.ay:=fun i ob hi=>by
  rw[JU] at hi;split at hi
  ·cases hi; exact⟨by assumption,rfl⟩
  ·cases hi
 refine⟨fun i=>i≠j,fun _=>j,t,Hz.au [(c,some o)],hp,hv,fun i ob hi=>?_,fun i i' hi hi' _=>?_,T.aT hM _ ht,fun i ob hi=>?_,fun i hi hi'=>?_⟩
 ·obtain⟨rfl,rfl⟩:=hx i ob hi;refine⟨o.ay,aP hj,by simp,rfl,rfl,?_,yN hgood⟩;rw[OV.dR hf]; exact dL _
 ·obtain⟨oi,hi⟩:=am.1 hi;obtain⟨oj,hi'⟩:=am.1 hi';rw[(hx _ _ hi).1,(hx _ _ hi').1]
 ·obtain⟨rfl,rfl⟩:=hx i ob hi;exact⟨hM _ rfl,T.aA (fun _ h=>h.elim) _ (OV.wW hf)⟩
 ·obtain⟨oi,hi'⟩:=am.1 hi';obtain⟨rfl,_⟩:=hx _ _ hi';exact hc (by simpa [Hz.au] using hi)
theorem Rl(l:List Int)(ρ:Nat->Nat):(V.row 0 false (.ints l)).aI.ren ρ=(V.row 0 false (.ints l)).aI:=I5 _ (dP (V.iZ _ rfl))
theorem afx{c:nD}{n:Nat}{ρ:Nat->Nat}:(UN c n).aI.ren ρ=(UN c (ρ n)).aI:=by
 show T.agg [(V.row 0 false (.ints c.shape)).aI.ren ρ,.own (ρ n),.int c.correct,(V.row 0 false (.ints c.sent)).aI.ren ρ,(V.row 0 false (.ints c.kY)).aI.ren ρ,.int c.value]=_;rw[Rl,Rl,Rl]; rfl
theorem Rn(l:List Int)(M:Nat->Prop):(V.row 0 false (.ints l)).aI.ids M:=T.aT (fun _ h=>h.elim) _ (dP (V.iZ (.row 0 false (.ints l)) rfl))
theorem Yw{c:nD}{n:Nat}:(UN c n).aI.ids (fun i=>i=n):=⟨Rn _ _,rfl,trivial,Rn _ _,Rn _ _,trivial,trivial⟩
theorem S.uo(c:nD)(hc:nV c)(n:Nat):aO Tryz.prog 68 (V.aQ [AB c]) (Hz.au []) n (fun t hp=>t=(UN c n).aI/\hp=Hz.au [(n,some (jI c.states))]):=by
 have g1:=hc.shape; have g2:=hc.states; have g3:=hc.sent; have g4:=hc.kY;refine og.of (nx:=0) Bd.uo (by simp) ⟨_,_,rfl,rfl⟩ rfl rfl ?_;conv=>whnf
 repeat(refine VC.mk (by simp only[mD,mV,Rw.len]; omega) ?_; conv=>whnf)
 refine gG.zZ (c:=n) (j:=9) (o:=jI c.states) (t:=(UN c n).aI) rfl rfl rfl nofun (.inr rfl) Yw ?_ ⟨rfl,rfl⟩;rw[afx];exact⟨xK (by decide) rfl,aG _,aG _,xK (by decide) rfl,xK (by decide) rfl,aG _,trivial⟩
theorem S.OC(c:nD)(hc:nV c):zL Tryz.prog 68 (V.aQ [AB c]) (fun n=>(UN c n).aI) (some ⟨3,0,c.states.map T.int⟩):=by
 refine⟨by exact V.fE [AB c] rfl,fun n=>Yw,fun ob h=>?_,fun ob h=>?_,fun n=>?_⟩
 ·cases h;show T.bG (c.states.map T.int)=true;rw[ig]; intro t ht; obtain⟨x,_,rfl⟩:=bA.1 ht; rfl
 ·cases h; exact show(0:Nat)≠iE by decide
 ·have:=S.uo c hc n;have e1:Hz.au [(n,some (jI c.states))]=iL no n (some ⟨3,0,c.states.map T.int⟩):=by
   rw[bK]; simp[iL,OV.ay,Rw.aQ,V.aQ]; rfl
  rw[e1] at this;exact this
def Gf(r:Rule)(s:List Int)(w:Int)(a:List Int)(i:Nat):List Int:=(List.range i).foldl (fun a (j:Nat)=>bif (j:Int) !=w then a.set j (r.response.getD (s.getD j 0).toNat 0) else a) a
theorem Io{r:Rule}{s a:List Int}{w:Int}{i:Nat}:Gf r s w a (i+1)=bif (i:Int) !=w then(Gf r s w a i).set i (r.response.getD (s.getD i 0).toNat 0) else Gf r s w a i:=by
 unfold Gf; rw[ce,eJ]; rfl
theorem KP{r:Rule}{s a:List Int}{w:Int}{i:Nat}:(Gf r s w a i).length=a.length:=by
 induction i with
 |zero=>rfl
 |succ i ih=>rw[Io]; cases ((i:Int) !=w) with
  |true=>rw[bS,co,ih]
  |false=>exact ih
def DX(r:Rule)(s:List Int)(w o:Int):List Int :=
 let a:=s.set w.toNat r.to
 bif r.kind==2 then a.set o.toNat r.y7 else bif r.kind==3 then Gf r s w a s.length else a
def yX(r:Rule)(c:nD)(w o:Int):nD:=⟨c.shape,DX r c.states w o,c.correct,c.sent,c.kY,bif decide (0<=r.write) then r.write else c.value⟩
theorem ak.aaD{h:Hz}{j:Nat}{s l t f:List Int}{x v z:Int}(q:h.get j=some (jI l)):ak (.bU [AB ⟨s,l,x,t,f,v⟩,.int z]) (.bU [.agg [.row 0 false (.ints s),.own j,.int x,.row 0 false (.ints t),.row 0 false (.ints f),.int v],.int z]) h :=
 ⟨⟨⟨aG _,xK trivial q,aG _,aG _,aG _,aG _,trivial⟩,aG _,trivial⟩⟩
set_option maxHeartbeats 1000000 in
theorem S.Ro(p:aB)(n:Nat)(c:nD)(k w o:Int)(r:Rule)(hc:nV c)(hr:p.rules.getD k.toNat default=r)(h1:0<=k/\k<p.rules.length)(h2:0<=w/\w<c.states.length)(h3:r.kind=2->0<=o/\o<c.states.length)
  (hk:r.kind=1\/r.kind=2\/r.kind=3) (hs:r.send=[]) (hb:r.kind=3-> ∀ x∈c.states,0<=x/\x<r.response.length) (_hp:p.rules.length<2^30) (_ajW:r.response.length<2^30):aj Tryz.prog 28 [J4 p n c,Xf k w o] (.bU [AB (yX r c w o),.int 0]):=by
 have g2:=hc.states;generalize hres:(V.bU [AB (yX r c w o),.int 0])=res;refine aj.of Bd.rJ (by simp) rfl (by rw[<- hres]; rfl) ?_;conv=>whnf
 refine .mk (by simp only[Rw.rng] at *; first|omega|(simp_all; done)|(simp_all; omega)) ?_;conv=>whnf
 refine ah.heap (zL.frame (S.OC c hc) _ _) ?_;rintro t hp' ⟨rfl,rfl⟩;refine⟨UN c 15,(15,some (jI c.states))::_,rfl,adV,?_⟩;rw[hr];obtain⟨w1,w2⟩:=h2;conv=>whnf
 repeat(refine VC.mk (by first|(simp only[Rw.rng]; omega)|(simp only[okI] at *; omega)) ?_; conv=>whnf)
 rcases hk with hk|hk|hk
 ·have hN:DX r c.states w o=c.states.set w.toNat r.to:=by unfold DX; rw[hk]; rfl
  rw[hk];refine Fork.mk (fun q=>absurd (q.symm.trans (rfl)).symm aM) (fun _=>?_);conv=>whnf
  refine Fork.mk (fun q=>absurd (q.symm.trans (rfl)).symm aM) (fun _=>?_);conv=>whnf
  refine Fork.mk (fun q=>absurd (q.symm.trans (rfl)).symm aM) (fun _=>?_);conv=>whnf
  refine⟨fun h5=>?_,fun h5=>?_⟩
  all_goals
   conv=>whnf
   refine aF.same [4,6,7,77,78] (fun i:Nat=>[(79,.int i)]) (fun i=>i=0) (fun _=>0) 0 rfl (by decide) rfl (fun _=>rfl) rfl ⟨⟨_,rfl,rfl⟩,trivial⟩ ?_;conv=>whnf
   refine⟨rfl,?_⟩;rintro i rfl;conv=>whnf
   refine Fork.mk (fun q=>absurd (q.symm.trans (by rw[hs]; rfl)).symm aM) (fun _=>?_);conv=>whnf
   refine⟨fun h6=>?_,fun h6=>?_⟩
   ·replace h6:decide (0<=r.write)=true:=h6;conv=>whnf
    rw[<- hres,yX,h6,hN];exact ak.aaD rfl
   ·replace h6:decide (0<=r.write)=false:=h6;conv=>whnf
    rw[<- hres,yX,h6,hN];exact ak.aaD rfl
 ·have hN:DX r c.states w o=(c.states.set w.toNat r.to).set o.toNat r.y7:=by unfold DX; rw[hk]; rfl
  obtain⟨o1,o2⟩:=h3 hk;rw[hk];refine Fork.mk (fun _=>?_) (fun q=>absurd (q.symm.trans (rfl)) aM);conv=>whnf
  refine Fork.mk (fun _=>?_) (fun q=>absurd (q.symm.trans (rfl)) aM);conv=>whnf
  repeat(refine VC.mk (by simp only[Rw.rng] at *; first|omega|(simp_all; done)|(simp_all; omega)) ?_; conv=>whnf)
  conv=>whnf
  refine⟨fun h5=>?_,fun h5=>?_⟩
  all_goals
   conv=>whnf
   refine aF.same [4,6,7,77,78] (fun i:Nat=>[(79,.int i)]) (fun i=>i=0) (fun _=>0) 0 rfl (by decide) rfl (fun _=>rfl) rfl ⟨⟨_,rfl,rfl⟩,trivial⟩ ?_;conv=>whnf
   refine⟨rfl,?_⟩;rintro i rfl;conv=>whnf
   refine Fork.mk (fun q=>absurd (q.symm.trans (by rw[hs]; rfl)).symm aM) (fun _=>?_);conv=>whnf
   refine⟨fun h6=>?_,fun h6=>?_⟩
   ·replace h6:decide (0<=r.write)=true:=h6;conv=>whnf
    rw[<- hres,yX,h6,hN];exact ak.aaD rfl
   ·replace h6:decide (0<=r.write)=false:=h6;conv=>whnf
    rw[<- hres,yX,h6,hN];exact ak.aaD rfl
 ·rw[hk];refine Fork.mk (fun q=>absurd (q.symm.trans (rfl)).symm aM) (fun _=>?_);conv=>whnf
  refine Fork.mk (fun q=>absurd (q.symm.trans (rfl)).symm aM) (fun _=>?_);conv=>whnf
  refine Fork.mk (fun _=>?_) (fun q=>absurd (q.symm.trans (rfl)) aM);conv=>whnf
  refine aF.PL 80 [2,3,4,6,7,46,47] (fun i:Nat=>[(48,.int i)]) (fun i=>[(0,.box 81 23 (J4 p n c)),(1,.box 52 4 (Xf k w o)),(2,.box 29 7 (.agg [afw,afw,.int 0,afw,afw,.int 0])),(11,.box 59 19 (.dat (.rule r))),(15,jI (Gf r c.states w (c.states.set w.toNat r.to) i)),(16,.box 29 7 (UN c 15))]) (fun i=>i<=c.states.length) (fun i=>c.states.length-i) 0 [0,1,2,11,15,16] rfl (by decide) (fun _=>rfl) (ap _) ?_ ?_ ?_
  ·exact(sR rfl)
  ·exact⟨qG rfl rfl,qG rfl rfl,qG rfl rfl,qG rfl rfl,qG rfl rfl,Xr rfl rfl rfl ⟨rfl,rfl⟩ (dH.of_eq rfl),trivial⟩
  conv=>whnf
  refine⟨(sR rfl),rfl,?_⟩;rintro i hi;have hbl:=KP (r:=r) (s:=c.states) (w:=w) (a:=c.states.set w.toNat r.to) (i:=i);rw[co] at hbl;conv=>whnf
  refine⟨fun g1=>?_,fun g1=>?_⟩
  ·have hi':i<c.states.length:=by simpa using g1
   obtain⟨x1,x2⟩:=hb hk (c.states.getD i 0) (by rw[getD_some hi']; exact bR hi');conv=>whnf
   refine .mk (by simp only[Rw.rng] at *; first|omega|(simp_all; done)|(simp_all; omega)) ?_;conv=>whnf
   refine⟨fun g4=>?_,fun g4=>?_⟩
   ·replace g4:((i:Int) !=w)=true:=g4;conv=>whnf
    repeat(refine VC.mk (by first|(simp only[Rw.rng,be]; omega)|(simp only[okI] at *; omega)) ?_; conv=>whnf)
    refine⟨i+1,[0,1,2,11,15,16],by omega,by omega,(sR rfl),(sR rfl),qG rfl rfl,qG rfl rfl,qG rfl rfl,qG rfl rfl,okF rfl nofun rfl rfl rfl ⟨rfl,rfl⟩ ?_,Xr rfl rfl rfl ⟨rfl,rfl⟩ (dH.of_eq rfl),trivial⟩;rw[Io,g4]; rfl
   ·replace g4:((i:Int) !=w)=false:=g4;conv=>whnf
    refine .mk (by simp only[okI] at *; first|omega|(simp_all; done)|(simp_all; omega)) ?_;conv=>whnf
    refine⟨i+1,[0,1,2,11,15,16],by omega,by omega,(sR rfl),(sR rfl),qG rfl rfl,qG rfl rfl,qG rfl rfl,qG rfl rfl,okF rfl nofun rfl rfl rfl ⟨rfl,rfl⟩ ?_,Xr rfl rfl rfl ⟨rfl,rfl⟩ (dH.of_eq rfl),trivial⟩;rw[Io,g4]; rfl
  ·have hi':i=c.states.length:=by
    have: ¬ ((i:Int)<(c.states.length:Int)):=by simpa using g1
    omega
   subst hi';have hN:DX r c.states w o=Gf r c.states w (c.states.set w.toNat r.to) c.states.length:=by unfold DX; rw[hk]; rfl
   conv=>whnf
   refine⟨fun h5=>?_,fun h5=>?_⟩
   all_goals
    conv=>whnf
    refine aF.same [4,6,7,77,78] (fun i:Nat=>[(79,.int i)]) (fun i=>i=0) (fun _=>0) 0 rfl (by decide) rfl (fun _=>rfl) rfl ⟨⟨_,rfl,rfl⟩,trivial⟩ ?_;conv=>whnf
    refine⟨rfl,?_⟩;rintro i rfl;conv=>whnf
    refine Fork.mk (fun q=>absurd (q.symm.trans (by rw[hs]; rfl)).symm aM) (fun _=>?_);conv=>whnf
    refine⟨fun h6=>?_,fun h6=>?_⟩
    ·replace h6:decide (0<=r.write)=true:=h6;conv=>whnf
     rw[<- hres,yX,h6,hN];exact ak.aaD rfl
    ·replace h6:decide (0<=r.write)=false:=h6;conv=>whnf
     rw[<- hres,yX,h6,hN];exact ak.aaD rfl
theorem aiO{l:List Int}(h:xJ 0 l):l=[]:=by
 cases l with
 |nil=>rfl
 |cons x r=>have:=h x (by simp); omega
theorem adg{p:aB}(hm:p.messages=[]): ∀ {l:List BA},jo p l=0->l=[]:=by
 intro l;cases l with
 |nil=>intro _; rfl
 |cons g r =>
  intro h;simp only[jo] at h;split at h
  ·rename_i h0;have:=AY (jq h0 (dn g.message p.messages.length) (by simp));rw[hm] at this;simp at this;omega
  ·rename_i h0; exact absurd h h0
structure agm(n:Nat)(p:aB)(r:Rule):Prop where
 f:Gp n p r
 guards:r.guards=[]
 send:r.send=[]
theorem aiP{p:aB}{i:Nat}(hv:CO p)(hpl:lV p)(hi:i<p.rules.length):agm p.states.length p (p.rules.getD i default):=by
 suffices hs:(p.rules.getD i default).guards=[]/\(p.rules.getD i default).send=[] from⟨OH hv hpl.top hi,hs.1,hs.2⟩
 have hF:=OH hv hpl.top hi;have h:=hv.rule i hi;simp only[gQ,qR] at h;revert hF;generalize (p.rules.getD i default)=r at h ⊢;intro hF;obtain⟨_,h⟩:=bz (fun _=>by decide) h;obtain⟨hb,h⟩:=bz (fun _=>by decide) h;obtain⟨_,h⟩:=bz nz h;rw[hpl.top,bi] at hb;by_cases hk:r.kind=1
 ·rw[hk] at h;have g:=jq h;have g1:=g (vI p r.guards) (by simp);have g2:=g (jr r.send p.messages.length) (by simp);rw[hpl.msg] at g2;refine⟨?_,aiO (D7 (n:=0) g2)⟩;unfold vI at g1;split at g1
  ·exact adg hpl.msg (by assumption)
  ·rename_i h0; exact absurd g1 h0
 ·have hu:lC r 1=false:=by rw[xP (by have:=hF.kind; omega)]; exact hb.2
  obtain⟨u0,_,_,u3⟩:=(Iw hu).1 hk;exact⟨u0,u3⟩
theorem Jr{p:aB}(hv:CO p)(hpl:lV p): ∀ r∈p.rules,agm p.states.length p r:=by
 intro r hr;obtain⟨i,hi,rfl⟩:=de hr;have:=aiP hv hpl hi;rwa [getD_some hi] at this
theorem agn{p:aB}(hv:CO p)(hpl:lV p):adf p:=⟨fun r hr=>(Jr hv hpl r hr).f.kind,fun r hr=>(Jr hv hpl r hr).guards⟩
theorem adh{p:aB}{c:nD}{k w o:Int}(h:enB p c k w o=true):(0<=k/\k<p.rules.length)/\(0<=w/\w<c.states.length)/\Xg (p.rules.getD k.toNat default) c w o=true:=by
 unfold enB at h;cases h1:decide (k<0)||decide ((p.rules.length:Int)<=k)||decide (w<0)||decide ((c.states.length:Int)<=w) with
 |true=>rw[h1] at h; cases h
 |false =>
  rw[h1,bB] at h;simp only[bi,ao] at h1;exact⟨⟨by omega,by omega⟩,⟨by omega,by omega⟩,h⟩
theorem afy{r:Rule}{c:nD}{w o:Int}(h:Xg r c w o=true)(hk:r.kind=2):0<=o/\o<c.states.length:=by
 unfold Xg at h;cases h1:(c.states.getD w.toNat 0 !=r.fr)||(decide (0<=r.read)&&c.value !=r.read) with
 |true=>rw[h1] at h; cases h
 |false =>
  rw[h1,bB,hk] at h;simp only[beq_self_eq_true,bS,bl,bi,ao] at h;omega
theorem S.uq(p:aB)(c:nD)(k w o:Int)(hp:dJ p)(hv:aW p=0)(hpl:lV p)(hc:nV c)(Xh:vcN p c.states.length c=0)(he:enB p c k w o=true) :
  aj Tryz.prog 10 [.dat (.fM p),zI c.states.length,AB c,Xf k w o] (.bU [AB (yX (p.rules.getD k.toNat default) c w o),.int 0]):=by
 obtain⟨n1,n2,hcb⟩:=NQ Xh;have hst:=vk hcb;have hvf:=CP hv;obtain⟨k1,w1,hR⟩:=adh he;have hm:=Yv (p:=p) (k:=k) k1.1 k1.2;have hrp:=Jr hvf hpl _ hm;refine aj.of Bd.uq (by simp) rfl rfl ?_;conv=>whnf
 refine ah.pure (S.gZ p c.states.length c hp hv hpl hc) rfl ?_;rw[Xh];conv=>whnf
 refine Fork.mk (fun q=>absurd (q.symm.trans (rfl)).symm aM) (fun _=>?_);conv=>whnf
 refine ah.pure (S.vw p c.states.length c hpl.top rfl (by omega) (by omega)) rfl ?_;conv=>whnf
 refine ah.pure (S.DW p c.states.length c k w o false hp hc (agn hvf hpl)) rfl ?_;rw[he];conv=>whnf
 refine Fork.mk (fun q=>absurd (q.symm.trans (rfl)).symm aM) (fun _=>?_);conv=>whnf
 refine ah.pure (S.Ro p c.states.length c k w o (p.rules.getD k.toNat default) hc rfl k1 w1 (fun hk=>afy hR hk) hrp.f.kind hrp.send (fun hk x hx=>?_) (by have:=hp.rules; omega) ?_) rfl ?_
 ·obtain⟨x1,x2⟩:=hst x hx;have:=(hrp.f.place.rsp hk).1;omega
 ·exact(hp.rule k.toNat).response
 conv=>whnf
 exact ak.eqv rfl
abbrev NR(p:aB)(n:Nat)(c:nD):OV:=.box 81 23 (J4 p n c)
abbrev afz(m:Nat):V:=.fn 62 [.ptr m 0 0]
theorem S.OD(p:aB)(n:Nat)(c:nD)(m:Nat):aO Tryz.prog 26 (V.aQ [J4 p n c]) (Hz.au []) m (fun t hp=>t=(afz m).aI/\hp=Hz.au [(m,some (NR p n c))]):=by
 refine og.of (nx:=0) Bd.rM (by simp) ⟨_,_,rfl,rfl⟩ rfl rfl ?_;conv=>whnf
 exact gG.one (c:=m) (j:=0) (o:=NR p n c) (t:=(afz m).aI) rfl rfl rfl nofun (.inr rfl) ⟨rfl,trivial⟩ (.eq rfl) ⟨rfl,rfl⟩
theorem adi(p:aB)(n:Nat)(c:nD):(J4 p n c).free=true:=rfl
theorem S.OE(p:aB)(n:Nat)(c:nD):zL Tryz.prog 26 (V.aQ [J4 p n c]) (fun m=>(afz m).aI) (some (NR p n c).ay):=by
 refine⟨V.fE [J4 p n c] rfl,fun m=>⟨rfl,trivial⟩,fun ob h=>?_,fun ob h=>?_,fun m=>?_⟩
 ·cases h;show T.bG [(J4 p n c).aI]=true;simp only[T.bG,dx];exact V.iZ _ (adi p n c)
 ·cases h; exact show(23:Nat)≠iE by decide
 ·have:=S.OD p n c m;have e1:Hz.au [(m,some (NR p n c))]=iL no m (some (NR p n c).ay):=by
   rw[bK]; rfl
  rw[e1] at this;exact this
theorem ahv{h:Hz}{n:Nat}{o:OV}:iL h.au n (some o.ay)=Hz.au ((n,some o)::h):=by
 rw[bK]; rfl
abbrev hS(p:aB)(c:nD)(L:List V):Hz:=[(18,some (.gen 52 4 L)),(12,some (.box 46 0 (.own 18))),(17,some (NR p c.states.length c)),(2,some (Xd c)),(1,some (.box 36 4 (zI c.states.length))),(0,some (EN p))]
abbrev frS:List V:=frV 29 [(9,.ptr 12 0 0)]
abbrev h0S(p:aB)(c:nD):Hz:=[(17,some (NR p c.states.length c)),(12,some (.box 46 0 (.row 0 true .nil))),(2,some (Xd c)),(1,some (.box 36 4 (zI c.states.length))),(0,some (EN p))]
def J5(t:Nat×Nat×Nat):V:=Xf t.1 t.2.1 ((t.2.2:Int)-1)
def enT(p:aB)(c:nD)(t:Nat×Nat×Nat):Bool:=enB p c t.1 t.2.1 ((t.2.2:Int)-1)
def s3(p:aB)(c:nD)(k w i:Nat):List (Nat×Nat×Nat):=((List.range i).map fun j=>(k,w,j)).filter (enT p c)
def s2(p:aB)(c:nD)(k i:Nat):List (Nat×Nat×Nat):=(List.range i).flatMap fun w=>s3 p c k w (c.states.length+1)
def s1(p:aB)(c:nD)(i:Nat):List (Nat×Nat×Nat):=(List.range i).flatMap fun k=>s2 p c k c.states.length
theorem Yx{p:aB}{c:nD}{k w i:Nat}:s3 p c k w (i+1)=s3 p c k w i++(bif enT p c (k,w,i) then [(k,w,i)] else []):=by
 unfold s3;rw[ce,cx,List.filter_append];cases h:enT p c (k,w,i)<;>simp[h]
theorem Yy{p:aB}{c:nD}{k i:Nat}:s2 p c k (i+1)=s2 p c k i++s3 p c k i (c.states.length+1):=by
 unfold s2; rw[ce,dc]; simp
theorem Yz{p:aB}{c:nD}{i:Nat}:s1 p c (i+1)=s1 p c i++s2 p c i c.states.length:=by
 unfold s1; rw[ce,dc]; simp
theorem adk{p:aB}{c:nD}{k w i:Nat}:(s3 p c k w i).length<=i:=by
 unfold s3;refine dg (fX _ _) (by simp)
theorem adl{p:aB}{c:nD}{k:Nat}: ∀ i,(s2 p c k i).length<=i*(c.states.length+1):=by
 intro i;induction i with
 |zero=>simp[s2]
 |succ i ih =>
  have:=adk (p:=p) (c:=c) (k:=k) (w:=i) (i:=c.states.length+1);rw[Yy,aL,eL]; omega
theorem adn{p:aB}{c:nD}: ∀ i,(s1 p c i).length<=i*(c.states.length*(c.states.length+1)):=by
 intro i;induction i with
 |zero=>simp[s1]
 |succ i ih =>
  have:=adl (p:=p) (c:=c) (k:=i) c.states.length;rw[Yz,aL,eL]; omega
theorem ahw{p:aB}{c:nD}{k w i:Nat}(hk:k<=8)(hN:c.states.length<=8)(hw:w<=c.states.length)(hi:i<=10):(s1 p c k++s2 p c k w++s3 p c k w i).length<=1000:=by
 have h1:=adn (p:=p) (c:=c) k;have h2:=adl (p:=p) (c:=c) (k:=k) w;have h3:=adk (p:=p) (c:=c) (k:=k) (w:=w) (i:=i);have e1:c.states.length*(c.states.length+1)<=8*9:=eT hN (by omega);have e2:k*(c.states.length*(c.states.length+1))<=8*(8*9):=eT hk e1;have e3:w*(c.states.length+1)<=8*9:=eT (by omega) (by omega);rw[aL,aL]; omega
abbrev ahx(p:aB)(c:nD)(l:List (Nat×Nat×Nat)):List (Nat×OV):=[(0,EN p),(1,.box 36 4 (zI c.states.length)),(2,Xd c),(12,.box 46 0 (.own 18)),(17,NR p c.states.length c),(18,.gen 52 4 (l.map J5))]
abbrev ado(p:aB)(c:nD)(k w o:Nat)(l:List (Nat×Nat×Nat)):List (Nat×OV):=[(78,.gen 52 4 (l.map J5)),(12,.box 46 0 (.own 78)),(70,.box 52 4 (Xf k w ((o:Int)-1))),(0,EN p),(1,.box 36 4 (zI c.states.length)),(2,Xd c),(17,NR p c.states.length c)]
theorem yY(l:List (Nat×Nat×Nat))(nx:Nat):((OV.gen 52 4 (l.map J5)).good nx&&(OV.gen 52 4 (l.map J5)).Ce)=true:=by
 have h:GH 4 (l.map J5)=true/\T.J9 nx (V.aQ (l.map J5))=true/\V.bG (l.map J5)=true:=by
  induction l with
  |nil=>exact⟨rfl,rfl,rfl⟩
  |cons t r ih =>
   obtain⟨h1,h2,h3⟩:=ih;refine⟨?_,?_,?_⟩
   ·simp only[bp,GH,h1,dx]; rfl
   ·simp only[bp,V.aQ,T.J9,h2,dx]; rfl
   ·simp only[bp,V.bG,h3,dx]; rfl
 obtain⟨h1,h2,h3⟩:=h;simp only[OV.good,OV.Ce,h1,h2,h3,dx,cj];decide
theorem UO(l:List (Nat×Nat×Nat))(nx:Nat):(OV.gen 52 4 (l.map J5)).good nx=true:=by
 have:=yY l nx;rw[aD] at this; exact this.1
theorem NS(l:List (Nat×Nat×Nat)):V.bG (l.map J5)=true:=by
 have:=yY l 0;rw[aD] at this; exact this.2
theorem YA(l:List (Nat×Nat×Nat)):V.fH (l.map J5)=true:=by
 induction l with
 |nil=>rfl
 |cons t r ih=>simp only[bp,V.fH,ih,dx]; rfl
theorem gG.mono{h0 h:Hz}{n:Nat}{post post':T->Hp->Prop}{v:V}(hp: ∀ t q,post t q->post' t q)(H:gG h0 n post v h):gG h0 n post' v h:=by
 obtain⟨Z,ρ,t,h',c1,c2⟩:=H.ok;exact⟨⟨Z,ρ,t,h',hp _ _ c1,c2⟩⟩
theorem gG.agp{h0 h:Hz}{m:Nat}{post:T->Hp->Prop}{v:V}(objs:List (Nat×OV))(nw:List Nat)(hg:Ar m h0=true)(hM: ∀ q∈objs,((h0.au q.1).isSome=true\/q.1=m)/\T.aN (fun i=>(h0.au i).isSome=true\/i=m) q.2.ay.l)
  (ho:okR (fZ objs nw) (m+1) m h objs nw) (hv:v.free=true) (hp:post v.aI (uG objs).au):gG h0 m post v h:=by
 have hfr:=V.iZ v hv;have hL:=MV (Z:=fun i=> ¬ MI (Aw objs nw) i) ho;have hG:=Au hg;have e:EJ (Aw objs nw)=fZ objs nw:=funext fun _=>Hu
 have hin: ∀ {i:Nat} {ob:Ob},(uG objs).au i=some ob-> ∃ q∈objs,q.1=i/\q.2.ay=ob:=by
  clear hM ho hp hL e;induction objs with
  |nil=>intro i ob h; cases h
  |cons q r ih =>
   intro i ob h;replace h:Hz.au ((q.1,some q.2)::uG r) i=some ob:=h;rw[oU] at h;split at h
   ·rename_i hi; cases h; exact⟨q,by simp,hi.symm,rfl⟩
   ·obtain⟨x,h1,h2⟩:=ih h;exact⟨x,by simp[h1],h2⟩
 refine⟨fun i=> ¬ MI (Aw objs nw) i,fZ objs nw,v.aI,(uG objs).au,hp,by rw[JK hfr]; exact aG _,fun i ob hi=>?_,fun i j hi hj q=>?_,T.aT (fun _ h=>h.elim) _ (dP hfr),fun i ob hi=>?_,fun i hi hs=>?_⟩
 ·rw[<- Dy ho] at hi;obtain⟨h1,h2⟩:=Bz hi;obtain⟨_,_,_,h4,l',h5,h6⟩:=Hf hL h1;rw[e] at h2 h5;exact⟨_,h5,fun hz=>hz h2,rfl,rfl,h6,yN h4⟩
 ·rw[<- Dy ho] at hi hj;obtain⟨oi,hi⟩:=am.1 hi;obtain⟨oj,hj⟩:=am.1 hj;exact XL hL hi hj (by rw[e]; exact q)
 ·obtain⟨q,q1,rfl,rfl⟩:=hin hi;exact hM q q1
 ·rw[<- Dy ho] at hs;obtain⟨ob,hob⟩:=am.1 hs;obtain⟨_,h2,_⟩:=Hf hL (Bz hob).1;rw[e] at h2;obtain⟨Vj,h0'⟩:=am.1 hi;exact h2 (hG i Vj h0').1
theorem ajG{k nt n:Nat}{aa bb:bC}{ps:List Nat}{cap args:List V}{h:Hz}{K:V->Hz->Prop}(hY: ∀ ts h n post,DJ Tryz.prog aa bb ps (V.aQ cap) ts h n post->wK Tryz.prog (.fn (8192+k) (V.aQ cap)) ts h n post)(nx:Nat)
  (hnt:cap.length=nt) (c1:(V.fH cap&&V.fH args&&JV h&&T.J9 nx (V.aQ cap)&&T.J9 nx (V.aQ args)&&Ar nx h&&Nat.beq args.length ps.length&&Uf nt ps&&lq nt aa&&lq nt bb)=true) (h':Hz) (hK:K (.bool true) h')
  (H:K (.bool true) h'->az Tryz.prog nt nx aa (QN fun m h1 nx1=>az Tryz.prog nt nx bb (QN fun _ h2 _=>gG h n (fun t hp=>t= .bU []/\ ∃ h':Hz,hp=h'.au/\K (.bool true) h') (.bU []) h2) m h1 nx1) (Nh ps args (rD 0 cap)) h nx):ZC Tryz.prog (8192+k) cap args h n K :=
 ZC.round hY nx hnt c1 ⟨h',hK⟩ (H hK)
theorem afA{p:aB}{c:nD}{k w o:Nat}{l:List (Nat×Nat×Nat)}{h0:Hz}(h12:(h0.au 12).isSome=true)(h70:(h0.au 70).isSome=true)(h1:(h0.au 0).isSome=true)(h2:(h0.au 1).isSome=true)(h3:(h0.au 2).isSome=true)(h4:(h0.au 17).isSome=true) :
  ∀ q∈ado p c k w o l,((h0.au q.1).isSome=true\/q.1=78)/\T.aN (fun i=>(h0.au i).isSome=true\/i=78) q.2.ay.l:=by
 have fr: ∀ o:OV,o.Ce=true->T.aN (fun i=>(h0.au i).isSome=true\/i=78) o.ay.l:=fun o ho=>T.aA (fun _ h=>h.elim) _ (OV.wW ho)
 intro q hq;simp only[ado,bm,du,gR] at hq;rcases hq with rfl|rfl|rfl|rfl|rfl|rfl|rfl
 ·exact⟨.inr rfl,fr _ (NS l)⟩
 ·exact⟨.inl h12,.inr rfl,trivial⟩
 ·exact⟨.inl h70,fr _ rfl⟩
 ·exact⟨.inl h1,fr _ rfl⟩
 ·exact⟨.inl h2,fr _ rfl⟩
 ·exact⟨.inl h3,fr _ rfl⟩
 ·exact⟨.inl h4,fr _ rfl⟩
abbrev afB(p:aB)(c:nD)(l:List (Nat×Nat×Nat)):List (Nat×OV):=[(18,.gen 52 4 (l.map J5)),(12,.box 46 0 (.own 18)),(17,NR p c.states.length c),(2,Xd c),(1,.box 36 4 (zI c.states.length)),(0,EN p)]
theorem afC{p:aB}{c:nD}{l:List (Nat×Nat×Nat)}: ∀ q∈afB p c l,(((h0S p c).au q.1).isSome=true\/q.1=18)/\T.aN (fun i=>((h0S p c).au i).isSome=true\/i=18) q.2.ay.l:=by
 have fr: ∀ o:OV,o.Ce=true->T.aN (fun i=>((h0S p c).au i).isSome=true\/i=18) o.ay.l:=fun o ho=>T.aA (fun _ h=>h.elim) _ (OV.wW ho)
 intro q hq;simp only[afB,bm,du,gR] at hq;rcases hq with rfl|rfl|rfl|rfl|rfl|rfl
 ·exact⟨.inr rfl,fr _ (NS l)⟩
 ·exact⟨.inl rfl,.inr rfl,trivial⟩
 ·exact⟨.inl rfl,fr _ rfl⟩
 ·exact⟨.inl rfl,fr _ rfl⟩
 ·exact⟨.inl rfl,fr _ rfl⟩
 ·exact⟨.inl rfl,fr _ rfl⟩
set_option maxHeartbeats 1000000 in
theorem S.adp(p:aB)(c:nD)(hp:dJ p)(hc:nV c)(hk:adf p)(hR:p.rules.length<=8)(hN:c.states.length<=8)(hY: ∀ ts h n post,DJ Tryz.prog C.BZ C.Cb [23] (V.aQ frS) ts h n post->wK Tryz.prog (.fn (8192+9) (V.aQ frS)) ts h n post) :
  aO Tryz.prog 62 (V.aQ [.fn (8192+9) frS,.ptr 17 0 0]) (h0S p c).au 18 (fun _ hp=> ∃ h':Hz,hp=h'.au/\h'=hS p c ((s1 p c p.rules.length).map J5)):=by
 refine og.of (nx:=18) Bd.nY (by simp) ⟨.bU [],_,_,rfl,rfl⟩ rfl rfl ?_;refine aF.Ov 12 52 4 rfl rfl (by decide) ?_;have hpr:=hp.rules;have hcs:=hc.states;refine aF.PL 60 [0,1,10] (fun i:Nat=>[(11,.int i)]) (fun i=>ahx p c (s1 p c i)) (fun i=>i<=p.rules.length) (fun i=>p.rules.length-i) 0 [0,1,2,12,17,23] rfl (by decide) (fun _=>rfl) (ap _) ?_ ?_ ?_
 ·exact(sR rfl)
 ·exact⟨qG rfl rfl,qG rfl rfl,qG rfl rfl,Xr rfl rfl rfl ⟨rfl,rfl⟩ (dH.of_eq rfl),qG rfl rfl,okF rfl nofun rfl (yY _ _) rfl ⟨rfl,rfl⟩ rfl,trivial⟩
 conv=>whnf
 refine⟨(sR rfl),rfl,?_⟩;rintro k hk1;conv=>whnf
 refine⟨fun g1=>?_,fun g1=>?_⟩
 ·have hk2:k<p.rules.length:=by simpa using g1
  conv=>whnf
  refine aF.PL 60 [0,1,3,10,11,17] (fun i:Nat=>[(18,.int i)]) (fun i=>ahx p c (s1 p c k++s2 p c k i)) (fun i=>i<=c.states.length) (fun i=>c.states.length-i) 0 [0,1,2,12,17,18] rfl (by decide) (fun _=>rfl) (ap _) ?_ ?_ ?_
  ·exact(sR rfl)
  ·exact⟨qG rfl rfl,qG rfl rfl,qG rfl rfl,Xr rfl rfl rfl ⟨rfl,rfl⟩ (dH.of_eq rfl),qG rfl rfl,okF rfl nofun rfl (yY _ _) rfl ⟨rfl,rfl⟩ (by simp[s2]),trivial⟩
  conv=>whnf
  refine⟨(sR rfl),rfl,?_⟩;rintro w hw1;conv=>whnf
  refine⟨fun g2=>?_,fun g2=>?_⟩
  ·have hw2:w<c.states.length:=by simpa using g2
   conv=>whnf
   refine aF.PL 60 [0,1,3,4,10,11,17,18] (fun i:Nat=>[(5,.int ((i:Int)-1))]) (fun i=>ahx p c (s1 p c k++s2 p c k w++s3 p c k w i)) (fun i=>i<=c.states.length+1) (fun i=>c.states.length+1-i) 0 [0,1,2,12,17,18] rfl (by decide) (fun _=>rfl) (ap _) ?_ ?_ ?_
   ·exact(sR rfl)
   ·exact⟨qG rfl rfl,qG rfl rfl,qG rfl rfl,Xr rfl rfl rfl ⟨rfl,rfl⟩ (dH.of_eq rfl),qG rfl rfl,okF rfl nofun rfl (yY _ _) rfl ⟨rfl,rfl⟩ (by simp[s3]),trivial⟩
   conv=>whnf
   refine⟨(sR rfl),rfl,?_⟩;rintro o ho1;conv=>whnf
   refine⟨fun g3=>?_,fun g3=>?_⟩
   ·have ho2:(o:Int)-1<c.states.length:=aq g3;conv=>whnf
    refine ah.pure (S.DW p c.states.length c k w ((o:Int)-1) false hp hc hk) rfl ?_;conv=>whnf
    refine .mk (by exact fun h=>⟨h,h⟩) ?_;conv=>whnf
    have hst:Xf k w ((o:Int)-1)=J5 (k,w,o):=rfl;refine⟨fun g4=>?_,fun g4=>?_⟩
    ·replace g4:enT p c (k,w,o)=true:=g4;refine ajG hY 90 rfl ?_ (uG (ado p c k w o (s1 p c k++s2 p c k w++s3 p c k w (o+1)))) ?_ fun hK=>?_
     ·simp only[uG,List.map,Ar,UO,JV,OV.qN,YA]; rfl
     ·conv=>whnf
      refine VC.mk id ?_;conv=>whnf
      refine Fork.mk (fun q=>absurd (q.symm.trans (by rw[Bool.not_true,Bool.and_false])).symm aM) (fun _=>?_);conv=>whnf
      refine .mk (by simp only[okI] at *; first|omega|(simp_all; done)|(simp_all; omega)) ?_;conv=>whnf
      refine⟨o+1,[0,1,2,12,17,78],by omega,by omega,⟨⟨_,rfl,.eq (by show T.int _=T.int _; congr 1; omega)⟩,trivial⟩,(sR rfl),qG rfl rfl,qG rfl rfl,qG rfl rfl,Xr rfl rfl rfl ⟨rfl,rfl⟩ (dH.of_eq rfl),qG rfl rfl,okF rfl nofun rfl (yY _ _) rfl ⟨rfl,rfl⟩ ?_,trivial⟩;rfl
     ·have hlen:=ahw (p:=p) (c:=c) (k:=k) (w:=w) (i:=o) (by omega) hN hw1 (by omega);conv=>whnf
      refine .mk (by show(List.length (List.map J5 _)+1)*24<=140737488355328/\List.length (List.map J5 _)+1<=1152921504606846976; rw[bh]; omega) ?_;conv=>whnf
      refine gG.mono (post:=fun t hp=>t= .bU []/\hp=Hz.au (uG (ado p c k w o (s1 p c k++s2 p c k w++s3 p c k w (o+1))))) (fun t q h=>⟨h.1,_,h.2,hK⟩) (gG.agp (ado p c k w o (s1 p c k++s2 p c k w++s3 p c k w (o+1))) [95,12,70,0,1,2,17] ?_ ?_ ?_ rfl ⟨rfl,rfl⟩)
      ·simp only[uG,List.map,Ar,UO]; rfl
      ·exact afA rfl rfl rfl rfl rfl rfl
      ·refine⟨okF rfl nofun rfl (yY _ _) rfl ⟨rfl,rfl⟩ ?_,Xr rfl rfl rfl ⟨rfl,rfl⟩ (dH.of_eq rfl),qG rfl rfl,qG rfl rfl,qG rfl rfl,qG rfl rfl,qG rfl rfl,trivial⟩;rw[Yx,g4,<- ax,cx (l₁:=s1 p c k++s2 p c k w++s3 p c k w o)]; rfl
    ·replace g4:enT p c (k,w,o)=false:=g4;conv=>whnf
     refine Fork.mk (fun q=>absurd (q.symm.trans (g4)).symm aM) (fun _=>?_);conv=>whnf
     refine .mk (by intro h; simp_all; done) ?_;conv=>whnf
     refine Fork.mk (fun q=>absurd (q.symm.trans (by rw[show enB p c k w ((o:Int)-1)=false from g4]; rfl)).symm aM) (fun _=>?_);conv=>whnf
     refine .mk (by simp only[okI] at *; first|omega|(simp_all; done)|(simp_all; omega)) ?_;conv=>whnf
     refine⟨o+1,[0,1,2,12,17,18],by omega,by omega,⟨⟨_,rfl,.eq (by show T.int _=T.int _; congr 1; omega)⟩,trivial⟩,(sR rfl),qG rfl rfl,qG rfl rfl,qG rfl rfl,Xr rfl rfl rfl ⟨rfl,rfl⟩ (dH.of_eq rfl),qG rfl rfl,okF rfl nofun rfl (yY _ _) rfl ⟨rfl,rfl⟩ ?_,trivial⟩;rw[Yx,g4]; simp
   ·have ho2:o=c.states.length+1:=by
     have: ¬ ((o:Int)-1<(c.states.length:Int)):=aR g3
     omega
    subst ho2;conv=>whnf
    refine .mk (by simp only[okI] at *; first|omega|(simp_all; done)|(simp_all; omega)) ?_;conv=>whnf
    refine⟨w+1,[0,1,2,12,17,18],by omega,by omega,(sR rfl),(sR rfl),qG rfl rfl,qG rfl rfl,qG rfl rfl,Xr rfl rfl rfl ⟨rfl,rfl⟩ (dH.of_eq rfl),qG rfl rfl,okF rfl nofun rfl (yY _ _) rfl ⟨rfl,rfl⟩ (by rw[Yy,ax]),trivial⟩
  ·have hw2:w=c.states.length:=by
    have: ¬ ((w:Int)<(c.states.length:Int)):=aR g2
    omega
   subst hw2;conv=>whnf
   refine .mk (by simp only[okI] at *; first|omega|(simp_all; done)|(simp_all; omega)) ?_;conv=>whnf
   refine⟨k+1,[0,1,2,12,17,18],by omega,by omega,(sR rfl),(sR rfl),qG rfl rfl,qG rfl rfl,qG rfl rfl,Xr rfl rfl rfl ⟨rfl,rfl⟩ (dH.of_eq rfl),qG rfl rfl,okF rfl nofun rfl (yY _ _) rfl ⟨rfl,rfl⟩ (by rw[Yz]),trivial⟩
 ·have hk2:k=p.rules.length:=by
   have: ¬ ((k:Int)<(p.rules.length:Int)):=aR g1
   omega
  subst hk2;conv=>whnf
  refine gG.mono (post:=fun t hp=>t= .bU []/\hp=Hz.au (uG (afB p c (s1 p c p.rules.length)))) (fun t q h=>⟨hS p c _,h.2,rfl⟩) (gG.agp (afB p c (s1 p c p.rules.length)) [18,12,17,2,1,0] rfl afC ?_ rfl ⟨rfl,rfl⟩);exact⟨okF rfl nofun rfl (yY _ _) rfl ⟨rfl,rfl⟩ rfl,Xr rfl rfl rfl ⟨rfl,rfl⟩ (dH.of_eq rfl),qG rfl rfl,qG rfl rfl,qG rfl rfl,qG rfl rfl,trivial⟩
theorem aa2{h:Hz}{j:Nat}{Z:Nat->Prop}{l:List V}(hz:Z j)(hl:V.bG l=true)(q:h.get j=some (.gen 52 4 l)):T.sub Z h.au (V.Cj 4 false l).aI (V.own j).aI:=by
 show T.sub Z h.au (.sl 4 false (V.aQ l)) (.own j);simp only[T.sub];refine⟨trivial,hz,V.fE l hl,by decide,52,?_⟩;have:=aP q;rw[this]; rfl
theorem S.BM(p:aB)(c:nD)(hp:dJ p)(hv:aW p=0)(hpl:lV p)(hc:nV c)(Xh:vcN p c.states.length c=0) :
  aj Tryz.prog 9 [.dat (.fM p),zI c.states.length,AB c] (.bU [.Cj 4 false ((s1 p c p.rules.length).map J5),.int 0]):=by
 obtain⟨n1,n2,hcb⟩:=NQ Xh;refine aj.ofR Bd.BM rfl (by simp) rfl (by simp[V.free,V.bG]) ?_;conv=>whnf
 refine ah.pure (S.gZ p c.states.length c hp hv hpl hc) rfl ?_;rw[Xh];conv=>whnf
 refine Fork.mk (fun q=>absurd (q.symm.trans (rfl)).symm aM) (fun _=>?_);conv=>whnf
 refine ah.pure (S.vw p c.states.length c hpl.top rfl (by omega) (by omega)) rfl ?_;conv=>whnf
 refine ah.heap (zL.frame (S.OE p c.states.length c) _ _) ?_;rintro t hp' ⟨rfl,rfl⟩;refine⟨afz 17,(17,some (NR p c.states.length c))::_,rfl,ahv,?_⟩;conv=>whnf
 refine Yi.walk [9] (fun h'=>h'=hS p c ((s1 p c p.rules.length).map J5)) 62 [.ptr 17 0 0] rfl rfl ?_;conv=>whnf
 have hvf:=CP hv;refine⟨rfl,fun hY=>S.adp p c hp hc (agn hvf hpl) hvf.Qe (by omega) hY,?_⟩;rintro h' rfl;refine⟨?_,?_⟩
 ·simp only[JV,OV.qN,YA]; rfl
 conv=>whnf
 exact⟨⟨[(18,some (.gen 52 4 ((s1 p c p.rules.length).map J5)))],⟨fun _=>False,⟨_,rfl,fun h=>h,rfl,rfl,dL _,rfl,rfl⟩,trivial⟩,⟨aa2 trivial (NS _) rfl,aG _,trivial⟩⟩⟩
theorem Ip{a:List Int}{i q:Nat}{v:Int}:(a.set i v).getD q 0=if q=i/\q<a.length then v else a.getD q 0:=by
 simp only[ag,List.getElem?_set];by_cases h:i=q
 ·subst h;by_cases hl:i<a.length
  ·simp[hl]
  ·simp[hl]
 ·simp[h,Ne.symm h]
theorem afD{q:Nat}: ∀ {s a:List Int},(∀ x∈s,0<=x/\x<a.length)->q<a.length->(s.foldl Yu a).getD q 0=a.getD q 0+(s.count (q:Int):Int):=by
 intro s;induction s with
 |nil=>intro a _ _; simp
 |cons x r ih =>
  intro a hs hq;have hx:=hs x (by simp);rw[dq,ih (by intro y hy; have:=hs y (by simp[hy]); simpa [Yu] using this) (by simpa [Yu] using hq)];unfold Yu;rw[Ip,List.count_cons];by_cases e:q=x.toNat
  ·have:x=(q:Int):=by omega
   subst this;simp[hq]; omega
  ·have: ¬ (x=(q:Int)):=by omega
   simp[e,this]
theorem BN{k q:Nat}{s:List Int}(hs: ∀ x∈s,0<=x/\x<k)(hq:q<k):(jV k s).getD q 0=(s.count (q:Int):Int):=by
 unfold jV;rw[afD (by simpa using hs) (by simpa using hq)];simp[List.getD_eq_getElem?_getD,hq]
theorem YB{k:Nat}{s:List Int}{a:List Int}(hs: ∀ x∈s,0<=x/\x<k)(ha:a.length=k)(h: ∀ q,q<k->a.getD q 0=(s.count (q:Int):Int)):jV k s=a:=by
 refine eC (by rw[jW,ha]) fun q h1 h2=>?_
 have hq:q<k:=by rwa [jW] at h1
 have e1:=BN hs hq;have e2:=h q hq;rw[getD_some h1] at e1;rw[getD_some h2] at e2;rw[e1,e2]
theorem Gg{s:List Int}{w:Nat}{t q:Int}(hw:w<s.length):((s.set w t).count q:Int)=(s.count q:Int)-(if s.getD w 0=q then 1 else 0)+(if t=q then 1 else 0):=by
 have h:=List.count_set (l:=s) (i:=w) (a:=t) (b:=q) hw;rw[h,getD_some hw];have hp:s[w]=q->1<=s.count q:=fun e=>by
  have:q∈s:=by rw[<- e]; exact bR hw
  exact List.count_pos_iff.2 this
 generalize s[w]=y at hp ⊢;generalize s.count q=z at hp ⊢;by_cases e1:y=q<;>by_cases e2:t=q
 ·have:=hp e1;rw[ba (bo.2 e1),ba (bo.2 e2),ba e1,ba e2]; omega
 ·have:=hp e1;rw[ba (bo.2 e1),av (fun h=>e2 (bo.1 h)),ba e1,av e2]; omega
 ·rw[av (fun h=>e1 (bo.1 h)),ba (bo.2 e2),av e1,ba e2]; omega
 ·rw[av (fun h=>e1 (bo.1 h)),av (fun h=>e2 (bo.1 h)),av e1,av e2]; omega
theorem EF{s:List Int}{w:Nat}{t:Int}{k:Nat}(hs: ∀ x∈s,0<=x/\x<k)(ht:0<=t/\t<k): ∀ x∈s.set w t,0<=x/\x<k:=by
 intro x hx;rcases fb hx with h|rfl
 ·exact hs x h
 ·exact ht
theorem NT{k:Nat}{s:List Int}{w:Nat}{f t:Int}(hs: ∀ x∈s,0<=x/\x<k)(hw:w<s.length)(hf:s.getD w 0=f)(ht:0<=t/\t<k):jV k (s.set w t)=aZ (bF (jV k s) f) t 1:=by
 have hfk:0<=f/\f<k:=by rw[<- hf,getD_some hw]; exact hs _ (bR hw)
 refine YB (EF hs ht) (by simp[aZ,bF,jW]) fun q hq=>?_
 rw[nJ,Gv,nJ,uJ,jW,BN hs hq,Gg hw,hf];by_cases e1:q=t.toNat<;>by_cases e2:q=f.toNat
 ·rw[ba ⟨e1,hq⟩,ba ⟨e2,hq⟩,ba (by omega),ba (by omega)]; omega
 ·rw[ba ⟨e1,hq⟩,av (fun h=>e2 h.1),av (by omega),ba (by omega)]; omega
 ·rw[av (fun h=>e1 h.1),ba ⟨e2,hq⟩,ba (by omega),av (by omega)]; omega
 ·rw[av (fun h=>e1 h.1),av (fun h=>e2 h.1),av (by omega),av (by omega)]; omega
theorem count_erase{s:List Int}{w:Nat}{q:Int}(hw:w<s.length):((s.eraseIdx w).count q:Int)=(s.count q:Int)-(if s.getD w 0=q then 1 else 0):=by
 have h:=Gg (s:=s) (w:=w) (t:=s.getD w 0) (q:=q) hw;have e:s=s.take w++s.getD w 0::s.drop (w+1):=by
  rw[getD_some hw,List.getElem_cons_drop,bx]
 have e2:s.eraseIdx w=s.take w++s.drop (w+1):=List.eraseIdx_eq_take_drop_succ ..;have c1:s.count q=(s.take w).count q+((s.drop (w+1)).count q+if s.getD w 0=q then 1 else 0):=by
  conv=>lhs; rw[e]
  rw[List.count_append,List.count_cons];simp only[bo]
 rw[e2,List.count_append,c1];split<;>omega
theorem afE{k q:Nat}{s:List Int}{w:Nat}{f:Int}(hs: ∀ x∈s,0<=x/\x<k)(hw:w<s.length)(hf:s.getD w 0=f)(hq:q<k):(bF (jV k s) f).getD q 0=((s.eraseIdx w).count (q:Int):Int):=by
 have hfk:0<=f/\f<k:=by rw[<- hf,getD_some hw]; exact hs _ (bR hw)
 rw[Gv,nJ,jW,BN hs hq,count_erase hw,hf];by_cases e2:q=f.toNat
 ·rw[ba ⟨e2,hq⟩,ba (by omega)]; omega
 ·rw[av (fun h=>e2 h.1),av (by omega)]; omega
theorem afF{s:List Int}{w:Nat}{x:Int}:x∈s.eraseIdx w↔ ∃ j,j<s.length/\j≠w/\s.getD j 0=x:=by
 rw[List.mem_eraseIdx_iff_getElem];constructor
 ·rintro⟨j,h,hj,e⟩; exact⟨j,h,hj,by rw[getD_some h]; exact e⟩
 ·rintro⟨j,h,hj,e⟩; exact⟨j,h,hj,by rw[getD_some h] at e; exact e⟩
theorem KQ{k q:Nat}{s:List Int}{w:Nat}{f:Int}(hs: ∀ x∈s,0<=x/\x<k)(hw:w<s.length)(hf:s.getD w 0=f)(hq:q<k):((bF (jV k s) f).getD q 0==0)=false↔ ∃ j,j<s.length/\j≠w/\s.getD j 0=q:=by
 rw[<- afF,afE hs hw hf hq,<- List.count_pos_iff,cE];omega
theorem P9{k:Nat}{s:List Int}{w:Nat}{r:Rule}(hs: ∀ x∈s,0<=x/\x<k)(hw:w<s.length)(hf:s.getD w 0=r.fr):Xe r s w=qU r (bF (jV k s) r.fr):=by
 have hlen:(bF (jV k s) r.fr).length=k:=by rw[uK,jW]
 have hj: ∀ j,j<s.length-> ∃ q:Nat,q<k/\s.getD j 0=q:=fun j hj=>by
  have:=hs (s.getD j 0) (by rw[getD_some hj]; exact bR hj);exact⟨(s.getD j 0).toNat,by omega,by omega⟩
 have key: ∀ P:Int->Bool,((List.range s.length).any fun j=> !((j:Int)==(w:Int))&&P (s.getD j 0))=((List.range k).any fun q=> !((bF (jV k s) r.fr).getD q 0==0)&&P q):=fun P=>by
  rw[cF,xg,xg];constructor
  ·rintro⟨j,h1,h2⟩;rw[aD,bl,cE] at h2;obtain⟨q,q1,q2⟩:=hj j h1;refine⟨q,q1,?_⟩;rw[aD,bl,KQ hs hw hf q1];exact⟨⟨j,h1,by omega,q2⟩,by rw[<- q2]; exact h2.2⟩
  ·rintro⟨q,q1,q2⟩;rw[aD,bl,KQ hs hw hf q1] at q2;obtain⟨⟨j,h1,h2,h3⟩,h4⟩:=q2;refine⟨j,h1,?_⟩;rw[aD,bl,cE,h3];exact⟨by omega,h4⟩
 have hex:exC r s w s.length=AV r.ex (bF (jV k s) r.fr) k:=by
  unfold exC AV;rw[key fun x=>Jv r.ex x]
 have hal:alC r s w s.length= !(CG r.all (bF (jV k s) r.fr) k):=by
  have e1:alC r s w s.length= !((List.range s.length).any fun j=> !((j:Int)==(w:Int))&& !((r.all.length:Int)==0||Jv r.all (s.getD j 0))):=by
   unfold alC;rw[List.not_any_eq_all_not]
   congr 1
   funext j;cases ((j:Int)==(w:Int))<;>simp
  rw[e1,key fun x=> !((r.all.length:Int)==0||Jv r.all x)];unfold CG
  congr 2
  funext q
  congr 1
  cases h:Jv r.all q
  ·cases hl:r.all with
   |nil=>simp
   |cons x l=>simp; omega
  ·simp
 unfold Xe qU;rw[hlen,hex,hal,Bool.and_comm]
theorem afG{r:Rule}{s a:List Int}{w:Nat}: ∀ {i q:Nat},q<a.length->(Gf r s w a i).getD q 0=if q<i/\q≠w then r.response.getD (s.getD q 0).toNat 0 else a.getD q 0:=by
 intro i;induction i with
 |zero=>intro q _; simp[Gf]
 |succ i ih =>
  intro q hq;rw[Io];cases hw:((i:Int) !=(w:Int)) with
  |true =>
   have hw':i≠w:=by
    have:(i:Int)≠(w:Int):=by simpa using hw
    omega
   rw[bS,Ip,KP];by_cases e:q=i
   ·subst e;rw[ba ⟨rfl,hq⟩,ba ⟨by omega,hw'⟩]
   ·rw[av (fun h=>e h.1),ih hq];by_cases e2:q<i/\q≠w
    ·rw[ba e2,ba ⟨by omega,e2.2⟩]
    ·rw[av e2,av (fun h=>e2 ⟨by omega,h.2⟩)]
  |false =>
   have hw':i=w:=by
    have:(i:Int)=(w:Int):=by simpa using hw
    omega
   rw[bB,ih hq];by_cases e2:q<i/\q≠w
   ·rw[ba e2,ba ⟨by omega,e2.2⟩]
   ·rw[av e2,av (fun h=>e2 ⟨by omega,h.2⟩)]
theorem adq{r:Rule}{s:List Int}{w:Nat}{t:Int}(hw:w<s.length):Gf r s w (s.set w t) s.length=(s.map fun x=>r.response.getD x.toNat 0).set w t:=by
 refine eC (by rw[KP]; simp) fun q h1 h2=>?_
 have hq:q<s.length:=by simpa using h2
 have e:=afG (r:=r) (s:=s) (a:=s.set w t) (w:=w) (i:=s.length) (q:=q) (by simpa using hq);rw[getD_some h1] at e;rw[e,List.getElem_set];by_cases e1:q=w
 ·subst e1;rw[av (fun h=>h.2 rfl),ba rfl,Ip,ba ⟨rfl,hq⟩]
 ·rw[ba ⟨hq,e1⟩,av (fun h=>e1 h.symm),fS,getD_some hq]
def toQ(r:Rule)(c:List Int)(q:Int):Nat->Int
 |0=>0
 |i+1=>toQ r c q i+if r.response.getD i 0=q then c.getD i 0 else 0
theorem adr{r:Rule}{c:List Int}{q:Nat}(hr: ∀ i,i<c.length->0<=r.response.getD i 0)(hq:q<c.length): ∀ i,i<=c.length->(vJ r c i).getD q 0=toQ r c q i:=by
 intro i;induction i with
 |zero=>intro _; simp[vJ,toQ,List.getD_eq_getElem?_getD,hq]
 |succ i ih =>
  intro hi;rw[D6,nJ,xM,ih (by omega),toQ];have:=hr i (by omega);by_cases e:r.response.getD i 0=(q:Int)
  ·rw[ba ⟨by omega,hq⟩,ba e]
  ·rw[av (fun h=>e (by omega)),av e,Int.add_zero]
theorem toQ_add{r:Rule}{c d:List Int}{q x:Int}{y:Nat}(h: ∀ i,d.getD i 0=c.getD i 0+if i=y then x else 0): ∀ i,toQ r d q i=toQ r c q i+if y<i/\r.response.getD y 0=q then x else 0:=by
 intro i;induction i with
 |zero=>simp[toQ]
 |succ i ih =>
  rw[toQ,toQ,ih,h i];by_cases e1:i=y
  ·subst e1;rw[av (fun h=>gN _ h.1),ba rfl];by_cases e2:r.response.getD i 0=q
   ·simp[]<;>omega
   ·simp[]<;>omega
  ·rw[av e1,Int.add_zero];have e3:(y<i+1/\r.response.getD y 0=q)↔(y<i/\r.response.getD y 0=q):=⟨fun h=>⟨by omega,h.2⟩,fun h=>⟨by omega,h.2⟩⟩
   simp only[e3]; omega
theorem afH{r:Rule}{k:Nat}{q:Int}: ∀ {s:List Int},(∀ x∈s,0<=x/\x<k)->toQ r (jV k s) q k=((s.map fun x=>r.response.getD x.toNat 0).count q:Int):=by
 have hz: ∀ i,toQ r (List.replicate k 0) q i=0:=fun i=>by
  induction i with
  |zero=>rfl
  |succ i ih =>
   rw[toQ,ih]
   have:(List.replicate k (0:Int)).getD i 0=0:=by
    rw[ag];by_cases h:i<k
    ·simp[h]
    ·simp[h]
   rw[this]; split<;>rfl
 intro s;induction s with
 |nil=>intro _; simp[jV,hz]
 |cons x t ih =>
  intro hs;have hx:=hs x (by simp);have ht: ∀ y∈t,0<=y/\y<k:=fun y hy=>hs y (by simp[hy])
  have hg: ∀ i,(jV k (x::t)).getD i 0=(jV k t).getD i 0+if i=x.toNat then 1 else 0:=fun i=>by
   by_cases hi:i<k
   ·rw[BN hs hi,BN ht hi,List.count_cons];by_cases e:i=x.toNat
    ·rw[ba (bo.2 (by omega)),ba e]; omega
    ·rw[av (fun h=>e (by have:=bo.1 h; omega)),av e]; omega
   ·rw[av (by omega),Int.add_zero];have o: ∀ s:List Int,(jV k s).getD i 0=0:=fun s=>by
     rw[ag,cq (by rw[jW]; omega)]; rfl
    rw[o,o]
  rw[toQ_add (c:=jV k t) hg,ih ht,bp,List.count_cons];by_cases e:r.response.getD x.toNat 0=q
  ·rw[ba ⟨by omega,e⟩,ba (bo.2 e)]; omega
  ·rw[av (fun h=>e h.2),av (fun h=>e (bo.1 h))]; omega
theorem afI{k:Nat}{s:List Int}{w:Nat}{t:Int}{r:Rule}(hs: ∀ x∈s,0<=x/\x<k)(hw:w<s.length)(hf:s.getD w 0=r.fr)(ht:0<=t/\t<k)(hl:r.response.length=k)(hp:xJ k r.response) :
  jV k (Gf r s w (s.set w t) s.length)=aZ (vJ r (bF (jV k s) r.fr) (bF (jV k s) r.fr).length) t 1:=by
 have hfk:0<=r.fr/\r.fr<k:=by rw[<- hf,getD_some hw]; exact hs _ (bR hw)
 have hrr: ∀ i,i<k->0<=r.response.getD i 0/\r.response.getD i 0<k:=fun i hi=>hp _ (by rw[getD_some (show i<r.response.length by omega)]; exact bR _)
 have hdl:(bF (jV k s) r.fr).length=k:=by rw[uK,jW]
 rw[adq hw,hdl];have hm: ∀ x∈s.map (fun x=>r.response.getD x.toNat 0),0<=x/\x<k:=fun x hx=>by
  obtain⟨y,hy,rfl⟩:=bA.1 hx;have:=hs y hy;exact hrr _ (by omega)
 refine YB (EF hm ht) (by rw[uJ,xM,hdl]) fun q hq=>?_
 rw[nJ,xM,hdl,adr (fun i hi=>(hrr i (by omega)).1) (by omega) k (by omega)];have hg: ∀ i,(bF (jV k s) r.fr).getD i 0=(jV k s).getD i 0+if i=r.fr.toNat then -1 else 0:=fun i=>by
  rw[Gv,nJ,jW];by_cases e:i=r.fr.toNat
  ·rw[ba ⟨e,by omega⟩,ba e]
  ·rw[av (fun h=>e h.1),av e,Int.add_zero]
 rw[toQ_add (c:=jV k s) hg,afH hs,Gg (by simpa using hw)];have e0:(s.map fun x=>r.response.getD x.toNat 0).getD w 0=r.response.getD r.fr.toNat 0:=by
  rw[getD_some (by simpa using hw),fS,<- hf,getD_some hw]
 rw[e0];by_cases e1:r.response.getD r.fr.toNat 0=(q:Int)<;>by_cases e2:q=t.toNat
 ·rw[ba ⟨e2,hq⟩,ba ⟨by omega,e1⟩,ba e1,ba (by omega)]; omega
 ·rw[av (fun h=>e2 h.1),ba ⟨by omega,e1⟩,ba e1,av (by omega)]; omega
 ·rw[ba ⟨e2,hq⟩,av (fun h=>e1 h.2),av e1,ba (by omega)]; omega
 ·rw[av (fun h=>e2 h.1),av (fun h=>e1 h.2),av e1,av (by omega)]; omega
end Go.Proofs.YtbdbmfccbpfeoaaGreatDoor
