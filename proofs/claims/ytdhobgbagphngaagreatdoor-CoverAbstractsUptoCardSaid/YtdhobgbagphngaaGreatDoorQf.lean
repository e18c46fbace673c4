/-
 Configurations of families without faults, messages and conditions in a clique: which are valid. No condition.
-/
import Derived.Test.YtdhobgbagphngaaGreatDoorQd
namespace Go.Proofs.YtdhobgbagphngaaGreatDoor
open Go.Ab Go.Proofs
set_option maxRecDepth 100000
structure MC where
 shape:List Int
 states:List Int
 correct:Int
 sent:List Int
 oK:List Int
 value:Int
@[reducible] def BX(c:MC):V:=.agg [.row 0 false (.ints c.shape),.row 0 false (.ints c.states),.int c.correct,.row 0 false (.ints c.sent),.row 0 false (.ints c.oK),.int c.value]
@[reducible] def Lr(n:Int):V:=.agg [.int n,.int 0,.int 0]
structure vF(c:MC):Prop where
 shape:c.shape.length<2^30
 states:c.states.length<2^30
 sent:c.sent.length<2^30
 oK:c.oK.length<2^30
structure uy(p:aH):Prop where
 top:p.topology=1
 fault:p.fault=0
 msg:p.messages=[]
 res:p.bU=[]
theorem aaN{p:aH}(h:o9 p=true):uy p:=by
 unfold o9 at h;simp only[Bool.and_eq_true,beq_iff_eq] at h;obtain⟨⟨⟨h1,h2⟩,h3⟩,h4⟩:=h;exact⟨h1,h2,List.eq_nil_of_length_eq_zero (by omega),List.eq_nil_of_length_eq_zero (by omega)⟩
theorem Ls{p:aH}(h:uX p=0):aX p=0/\uy p:=by
 unfold uX at h;cases h1:aX p !=0 with
 |true=>rw[h1] at h; rw[show aX p=0 from h] at h1; cases h1
 |false =>
  rw[h1,cond_false] at h;refine⟨by simpa using h1,?_⟩;cases h2:o9 p with
  |true=>exact aaN h2
  |false =>
   exfalso;have e1:(gW p).cover=false:=by unfold gW; simp only; rw[h2]; rfl
   have e2:(gW p).monadic=false:=by unfold gW; simp only; rw[h2]; rfl
   rw[e1,e2] at h;exact absurd (show(7:Int)=0 from h) (by decide)
theorem Wh{x m:Int}:(decide (x<0)||decide (m<x))= !(dP x 0 m):=by
 unfold dP; rw[Bool.eq_iff_iff]; simp
def zx(l:List Int)(m:Int):Bool:=l.all fun x=>dP x 0 m
theorem S.yK(l:List Int)(m:Int)(f:Bool)(hl:l.length<2^40):aj Tryz.prog 96 [.row 0 f (.ints l),.int m] (.bool (zx l m)):=by
 refine aj.of Bd.nN (by simp) rfl rfl ?_;conv=>whnf
 refine aC.same [1,7,8] (fun i:Nat=>[(9,.int i)]) (fun i=>i<=l.length/\(l.take i).all (fun x=>dP x 0 m)=true) (fun i=>l.length-i) 0 rfl (by decide) rfl (fun _=>rfl) ⟨by omega,by simp⟩ ⟨⟨_,rfl,rfl⟩,trivial⟩ ?_;conv=>whnf
 refine⟨rfl,?_⟩;rintro i ⟨hi,hall⟩;conv=>whnf
 refine⟨fun h3=>?_,fun h3=>?_⟩
 ·have hi':i<l.length:=by simpa using h3
  conv=>whnf
  repeat(refine VC.mk (by first|exact fun h=>⟨h,h⟩|(intro h; rw[h]; rfl)|(simp only[Rw.rng] at *; first|omega|(simp_all; done)|(simp_all; omega))) ?_; conv=>whnf)
  refine⟨fun h4=>?_,fun h4=>?_⟩
  ·conv=>whnf
   refine ak.bool ?_;replace h4:(decide (l.getD i 0<0)||decide (m<l.getD i 0))=true:=h4;rw[Wh] at h4;unfold zx;rw[qh (d:=0) hi' (by simpa using h4)]
  ·conv=>whnf
   refine .mk (by simp only[okI] at *; first|omega|(simp_all; done)|(simp_all; omega)) ?_;conv=>whnf
   replace h4:(decide (l.getD i 0<0)||decide (m<l.getD i 0))=false:=h4;rw[Wh] at h4;refine⟨i+1,⟨by omega,?_⟩,by omega,⟨⟨_,rfl,rfl⟩,trivial⟩,?_,rfl⟩
   ·rw[tK (d:=0) hi' hall]; simpa using h4
   ·repeat' (first|exact trivial|exact⟨_,rfl,rfl⟩|constructor)
 ·have hi':l.length<=i:=by simpa using h3
  rw[List.take_of_length_le hi'] at hall;conv=>whnf
  refine ak.bool ?_;exact hall
theorem S.oL(p:aH)(n:Int)(hpl:uy p):aj Tryz.prog 97 [.dat (.fK p),Lr n] (.int n):=by
 refine aj.of Bd.oL (by simp) rfl rfl ?_;conv=>whnf
 refine Fork.mk (fun q=>absurd (q.symm.trans (show(p.fault==3)=false by rw[hpl.fault]; rfl)).symm Bool.false_ne_true) (fun _=>?_);conv=>whnf
 exact ak.int rfl
def Gi(n:Int):Bool:=dP n 1 1048576
theorem S.sO(p:aH)(n:Int)(hpl:uy p):aj Tryz.prog 128 [.dat (.fK p),Lr n] (.bool (Gi n)):=by
 have h1:=hpl.top; have h2:=hpl.fault; have h3:=hpl.res;obtain⟨nm,tp,st,ms,vs,ft,rs,ini,ld,rl⟩:=p;simp only at h1 h2 h3;subst h1 h2 h3;refine aj.of Bd.sO (by simp) rfl rfl ?_;conv=>whnf
 repeat(refine VC.mk (by first|exact id|exact fun h=>⟨h,h⟩|(intro h; rw[h]; rfl)) ?_; conv=>whnf)
 refine⟨fun q=>?_,fun q=>?_⟩
 ·conv=>whnf
  refine ak.bool ?_;unfold Gi dP;rw[Bool.eq_iff_iff];simp at q ⊢;omega
 ·conv=>whnf
  repeat(refine VC.mk (by first|exact id|(intro h; simp[]; done)) ?_; conv=>whnf)
  refine Fork.mk (fun q=>absurd (q.symm.trans (rfl)).symm Bool.false_ne_true) (fun _=>?_);conv=>whnf
  refine VC.mk id ?_;conv=>whnf
  refine Fork.mk (fun q=>absurd (q.symm.trans (rfl)).symm Bool.false_ne_true) (fun _=>?_);conv=>whnf
  repeat(refine VC.mk id ?_; conv=>whnf)
  refine Fork.mk (fun q=>absurd (q.symm.trans (rfl)).symm Bool.false_ne_true) (fun _=>?_);conv=>whnf
  refine aC.times 1 rfl ?_;conv=>whnf
  refine Fork.mk (fun q=>absurd (q.symm.trans (rfl)).symm Bool.false_ne_true) (fun _=>?_);conv=>whnf
  refine ak.bool ?_;unfold Gi dP;rw[Bool.eq_iff_iff];simp at q ⊢;omega
theorem S.jh(p:aH)(n:Int)(hp:dG p)(hv:aX p=0)(hpl:uy p):aj Tryz.prog 95 [.dat (.fK p),Lr n] (.bool (Gi n)):=by
 refine aj.of Bd.jh (by simp) rfl rfl ?_;conv=>whnf
 refine ah.pure (S.fO p hp) rfl ?_;rw[hv];conv=>whnf
 refine .mk (by exact fun h=>⟨h,h⟩) ?_;conv=>whnf
 refine ah.eG (fun _=>S.sO p n hpl) rfl ?_;conv=>whnf
 refine VC.mk id ?_;conv=>whnf
 exact ak.bool rfl
def yL(n:Int):Int:=bif Gi n then(bif decide (8<n) then 4 else 0) else 8
theorem S.lI(p:aH)(n:Int)(hp:dG p)(hv:aX p=0)(hpl:uy p):aj Tryz.prog 51 [.dat (.fK p),Lr n] (.int (yL n)):=by
 refine aj.of Bd.lI (by simp) rfl rfl ?_;conv=>whnf
 refine ah.pure (S.fO p hp) rfl ?_;rw[hv];conv=>whnf
 refine Fork.mk (fun q=>absurd (q.symm.trans (rfl)).symm Bool.false_ne_true) (fun _=>?_);conv=>whnf
 refine ah.pure (S.jh p n hp hv hpl) rfl ?_;conv=>whnf
 refine⟨fun h1=>?_,fun h1=>?_⟩
 ·conv=>whnf
  exact ak.int (by unfold yL; rw[show Gi n=false by simpa using h1]; rfl)
 ·have h1':Gi n=true:=by simpa using h1
  conv=>whnf
  refine⟨fun h2=>?_,fun h2=>?_⟩
  ·conv=>whnf
   exact ak.int (by unfold yL; rw[h1',h2]; rfl)
  ·conv=>whnf
   exact ak.int (by unfold yL; rw[h1',h2]; rfl)
def Az(p:aH)(n:Int)(c:MC):Bool:=((c.states.length:Int)==n)&&zx c.states ((p.states.length:Int)-1)&&(c.correct==n-0)&&((c.sent.length:Int)==0)&&zx c.sent 1048576&&((c.oK.length:Int)==0)&&zx c.oK 0&&decide (0<=c.value)&&decide (c.value<max 1 (p.values.length:Int))&&((c.shape.length:Int)==0)
theorem Lu{l:List Int}{m:Int}(h:((l.length:Int)==0)=true):zx l m=true:=by
 have:l=[]:=List.eq_nil_of_length_eq_zero (by simpa using h)
 subst this; rfl
theorem S.jI(p:aH)(n:Int)(c:MC)(hp:dG p)(hpl:uy p)(hc:vF c)(hn:0<=n/\n<2^40):aj Tryz.prog 52 [.dat (.fK p),Lr n,BX c] (.int (bif Az p n c then 0 else 1)):=by
 have g1:=hp.states; have g3:=hp.values;have c1:=hc.shape; have c2:=hc.states; have c3:=hc.sent; have c4:=hc.oK;have hpl':=hpl;have h1:=hpl.top; have h2:=hpl.fault; have h3:=hpl.msg;obtain⟨nm,tp,st,ms,vs,ft,rs,ini,ld,rl⟩:=p;simp only at h1 h2 h3 g1 g3;subst h1 h2 h3;generalize hr:(bif Az _ n c then(0:Int) else 1)=res;refine aj.of Bd.jI (by simp) rfl rfl ?_;conv=>whnf
 repeat(refine VC.mk id ?_; conv=>whnf)
 refine Fork.mk (fun _=>?_) (fun q=>absurd (q.symm.trans (rfl)) Bool.false_ne_true);conv=>whnf
 refine ah.pure (S.oL _ n hpl') rfl ?_;conv=>whnf
 repeat(refine VC.mk (by first|exact id|(intro h; simp[h]; done)|(intro h; (repeat' apply And.intro)<;>first|exact h|omega|(simp only[]; omega)|(simp only[Rw.rng]; omega))) ?_; conv=>whnf)
 refine ah.eG (fun _=>S.yK c.states ((st.length:Int)-1) false (by omega)) rfl ?_;conv=>whnf
 repeat(refine VC.mk (by first|exact id|exact fun h=>⟨h,h⟩|(intro h; (repeat' apply And.intro)<;>first|exact h|omega|(simp only[Rw.rJ]; omega)|(simp only[Rw.rng]; omega))) ?_; conv=>whnf)
 refine ah.eG (fun _=>S.yK c.sent 1048576 false (by omega)) rfl ?_;conv=>whnf
 repeat(refine VC.mk (by first|exact id|exact fun h=>⟨h,h⟩|(intro h; simp only[h,true_and]; done)) ?_; conv=>whnf)
 refine ah.eG (fun _=>S.yK c.oK 0 false (by omega)) rfl ?_;conv=>whnf
 repeat(refine VC.mk (by first|exact id|exact fun h=>⟨h,h⟩) ?_; conv=>whnf)
 refine Fork.mk (fun q=>absurd (q.symm.trans (rfl)).symm Bool.false_ne_true) (fun _=>?_);conv=>whnf
 repeat(refine VC.mk id ?_; conv=>whnf)
 refine⟨fun h=>?_,fun h=>?_⟩
 ·conv=>whnf
  refine ak.int ?_;rw[<- hr,show Az ⟨nm,1,st,[],vs,0,rs,ini,ld,rl⟩ n c=false by simpa only[Bool.not_eq_true'] using (show(!(Az ⟨nm,1,st,[],vs,0,rs,ini,ld,rl⟩ n c))=true from h)]; rfl
 ·conv=>whnf
  refine ak.int ?_;rw[<- hr,show Az ⟨nm,1,st,[],vs,0,rs,ini,ld,rl⟩ n c=true by simpa only[Bool.not_eq_false'] using (show(!(Az ⟨nm,1,st,[],vs,0,rs,ini,ld,rl⟩ n c))=false from h)]; rfl
theorem PE{n:Int}(h:(yL n !=0)=false):1<=n/\n<=8:=by
 have h2:yL n=0:=by simpa using h
 unfold yL Gi dP at h2;cases h3:decide (n>=1)&&decide (n<=1048576) with
 |false=>rw[h3] at h2; exact absurd (show(8:Int)=0 from h2) (by decide)
 |true =>
  rw[h3,cond_true] at h2;cases h4:decide (8<n) with
  |true=>rw[h4] at h2; exact absurd (show(4:Int)=0 from h2) (by decide)
  |false =>
   rw[Bool.and_eq_true] at h3;have h5:=of_decide_eq_true h3.1;have h6:=of_decide_eq_false h4;omega
def vcN(p:aH)(n:Int)(c:MC):Int:=bif yL n !=0 then yL n else bif Az p n c then 0 else 1
theorem S.jJ(p:aH)(n:Int)(c:MC)(hp:dG p)(hv:aX p=0)(hpl:uy p)(hc:vF c):aj Tryz.prog 25 [.dat (.fK p),Lr n,BX c] (.int (vcN p n c)):=by
 refine aj.of Bd.jJ (by simp) rfl rfl ?_;conv=>whnf
 refine ah.pure (S.lI p n hp hv hpl) rfl ?_;conv=>whnf
 refine⟨fun h1=>?_,fun h1=>?_⟩
 ·replace h1:(yL n !=0)=true:=h1;conv=>whnf
  exact ak.int (by unfold vcN; rw[h1]; rfl)
 ·replace h1:(yL n !=0)=false:=h1;obtain⟨n1,n2⟩:=PE h1;conv=>whnf
  refine ah.pure (S.jI p n c hp hpl hc ⟨by omega,by omega⟩) rfl ?_;conv=>whnf
  exact ak.int (by unfold vcN; rw[h1]; rfl)
theorem S.qF(n lo hi:Int):aj Tryz.prog 68 [.int n,.int lo,.int hi] (.bool (dP n lo hi)):=by
 refine aj.of Bd.qF (by simp) rfl rfl ?_;conv=>whnf
 repeat(refine VC.mk (by first|exact id|exact fun h=>⟨h,h⟩) ?_; conv=>whnf)
 exact ak.bool rfl
theorem S.uU(p:aH)(n:Int)(hpl:uy p):aj Tryz.prog 64 [.dat (.fK p),Lr n] (.int n):=by
 refine aj.of Bd.uU (by simp) rfl rfl ?_;conv=>whnf
 refine Fork.mk (fun q=>absurd (q.symm.trans (show(p.fault==3)=false by rw[hpl.fault]; rfl)).symm Bool.false_ne_true) (fun _=>?_);conv=>whnf
 exact ak.int rfl
theorem S.xK(p:aH)(l:List Int)(hp:dG p)(hl:l.length<2^40):aj Tryz.prog 65 [.dat (.fK p),.row 0 false (.ints l)] (.bool (zx l ((p.states.length:Int)-1))):=by
 have g1:=hp.states;refine aj.of Bd.xK (by simp) rfl rfl ?_;conv=>whnf
 refine aC.same [1,2] (fun i:Nat=>[(5,.int i)]) (fun i=>i<=l.length/\(l.take i).all (fun x=>dP x 0 ((p.states.length:Int)-1))=true) (fun i=>l.length-i) 0 rfl (by decide) rfl (fun _=>rfl) ⟨by omega,by simp⟩ ⟨⟨_,rfl,rfl⟩,trivial⟩ ?_;conv=>whnf
 refine⟨rfl,?_⟩;rintro i ⟨hi,hall⟩;conv=>whnf
 refine⟨fun h3=>?_,fun h3=>?_⟩
 ·have hi':i<l.length:=by simpa using h3
  conv=>whnf
  repeat(refine VC.mk (by simp only[okI,Rw.rng] at *; first|omega|(simp_all; done)|(simp_all; omega)) ?_; conv=>whnf)
  refine ah.pure (S.qF (l.getD i 0) 0 ((p.states.length:Int)-1)) rfl ?_;conv=>whnf
  refine⟨fun h4=>?_,fun h4=>?_⟩
  ·conv=>whnf
   refine ak.bool ?_;unfold zx;rw[qh (d:=0) hi' (by simpa using h4)]
  ·conv=>whnf
   refine .mk (by simp only[okI] at *; first|omega|(simp_all; done)|(simp_all; omega)) ?_;conv=>whnf
   refine⟨i+1,⟨by omega,?_⟩,by omega,⟨⟨_,rfl,rfl⟩,trivial⟩,?_,rfl⟩
   ·rw[tK (d:=0) hi' hall]; simpa using h4
   ·repeat' (first|exact trivial|exact⟨_,rfl,rfl⟩|constructor)
 ·have hi':l.length<=i:=by simpa using h3
  rw[List.take_of_length_le hi'] at hall;conv=>whnf
  exact ak.bool hall
theorem S.qV(l:List Int)(n:Int)(hl:l.length<2^40):aj Tryz.prog 66 [.row 0 false (.ints l),.int n] (.bool (((l.length:Int)==n)&&zx l 1048576)):=by
 refine aj.of Bd.qV (by simp) rfl rfl ?_;conv=>whnf
 refine⟨fun h1=>?_,fun h1=>?_⟩
 ·conv=>whnf
  refine ak.bool ?_;replace h1:((l.length:Int) !=n)=true:=h1;rw[show((l.length:Int)==n)=false by simpa using h1]; rfl
 replace h1:((l.length:Int) !=n)=false:=h1;rw[show((l.length:Int)==n)=true by simpa using h1,Bool.true_and];conv=>whnf
 refine aC.same [0] (fun i:Nat=>[(5,.int i)]) (fun i=>i<=l.length/\(l.take i).all (fun x=>dP x 0 1048576)=true) (fun i=>l.length-i) 0 rfl (by decide) rfl (fun _=>rfl) ⟨by omega,by simp⟩ ⟨⟨_,rfl,rfl⟩,trivial⟩ ?_;conv=>whnf
 refine⟨rfl,?_⟩;rintro i ⟨hi,hall⟩;conv=>whnf
 refine⟨fun h3=>?_,fun h3=>?_⟩
 ·have hi':i<l.length:=by simpa using h3
  conv=>whnf
  refine .mk (by simp only[Rw.rng] at *; first|omega|(simp_all; done)|(simp_all; omega)) ?_;conv=>whnf
  refine ah.pure (S.qF (l.getD i 0) 0 1048576) rfl ?_;conv=>whnf
  refine⟨fun h4=>?_,fun h4=>?_⟩
  ·conv=>whnf
   refine ak.bool ?_;unfold zx;rw[qh (d:=0) hi' (by simpa using h4)]
  ·conv=>whnf
   refine .mk (by simp only[okI] at *; first|omega|(simp_all; done)|(simp_all; omega)) ?_;conv=>whnf
   refine⟨i+1,⟨by omega,?_⟩,by omega,⟨⟨_,rfl,rfl⟩,trivial⟩,?_,rfl⟩
   ·rw[tK (d:=0) hi' hall]; simpa using h4
   ·repeat' (first|exact trivial|exact⟨_,rfl,rfl⟩|constructor)
 ·have hi':l.length<=i:=by simpa using h3
  rw[List.take_of_length_le hi'] at hall;conv=>whnf
  exact ak.bool hall
theorem S.oM(p:aH)(n:Int)(hpl:uy p):aj Tryz.prog 63 [.dat (.fK p),Lr n] (.bool (Gi n)):=by
 have h1:=hpl.top; have h2:=hpl.fault; have h3:=hpl.res;obtain⟨nm,tp,st,ms,vs,ft,rs,ini,ld,rl⟩:=p;simp only at h1 h2 h3;subst h1 h2 h3;refine aj.of Bd.oM (by simp) rfl rfl ?_;conv=>whnf
 refine ah.pure (S.aY n 1 1048576) rfl ?_;conv=>whnf
 repeat(refine VC.mk (by first|exact id|exact fun h=>⟨h,h⟩) ?_; conv=>whnf)
 refine ah.eG (fun _=>S.aY 0 0 n) rfl ?_;conv=>whnf
 repeat(refine VC.mk (by first|exact id|exact fun h=>⟨h,h⟩|(intro h; rw[h]; rfl)) ?_; conv=>whnf)
 refine ah.eG (fun _=>S.aY 0 0 n) rfl ?_;conv=>whnf
 repeat(refine VC.mk (by first|exact id|(intro h; rw[h]; rfl)) ?_; conv=>whnf)
 refine⟨fun q=>?_,fun q=>?_⟩
 ·conv=>whnf
  refine ak.bool ?_;unfold Gi dP at *;rw[Bool.eq_iff_iff];simp at q ⊢;omega
 ·conv=>whnf
  refine aC.times 1 rfl ?_;conv=>whnf
  refine Fork.mk (fun q=>absurd (q.symm.trans (rfl)).symm Bool.false_ne_true) (fun _=>?_);conv=>whnf
  repeat(refine VC.mk (by first|exact id|(intro h; simp[]; done)) ?_; conv=>whnf)
  refine Fork.mk (fun q=>absurd (q.symm.trans (rfl)).symm Bool.false_ne_true) (fun _=>?_);conv=>whnf
  refine VC.mk id ?_;conv=>whnf
  refine Fork.mk (fun q=>absurd (q.symm.trans (rfl)).symm Bool.false_ne_true) (fun _=>?_);conv=>whnf
  repeat(refine VC.mk (by first|exact id|(intro h; rw[h]; rfl)) ?_; conv=>whnf)
  refine ak.bool ?_;unfold Gi dP at *;rw[Bool.eq_iff_iff];simp at q ⊢;omega
theorem S.zy(p:aH)(n:Int)(hp:dG p)(hv:aX p=0)(hpl:uy p):aj Tryz.prog 34 [.dat (.fK p),Lr n] (.int (yL n)):=by
 refine aj.of Bd.zy (by simp) rfl rfl ?_;conv=>whnf
 refine ah.pure (S.oW p hp) rfl ?_;rw[hv];conv=>whnf
 refine Fork.mk (fun q=>absurd (q.symm.trans (rfl)).symm Bool.false_ne_true) (fun _=>?_);conv=>whnf
 refine ah.pure (S.oM p n hpl) rfl ?_;conv=>whnf
 refine⟨fun h1=>?_,fun h1=>?_⟩
 ·conv=>whnf
  exact ak.int (by unfold yL; rw[show Gi n=false by simpa using h1]; rfl)
 ·have h1':Gi n=true:=by simpa using h1
  conv=>whnf
  refine⟨fun h2=>?_,fun h2=>?_⟩
  ·conv=>whnf
   exact ak.int (by unfold yL; rw[h1',h2]; rfl)
  ·conv=>whnf
   exact ak.int (by unfold yL; rw[h1',h2]; rfl)
theorem num_nil{l:List Int}:(((l.length:Int)==((([]:List Str).length:Nat):Int))&&zx l 1048576)=((l.length:Int)==0):=by
 cases h:((l.length:Int)==0) with
 |true=>rw[Lu h]; simp_all
 |false=>rfl
theorem acT{n:Nat}{v:Int}:dP v 0 (max 0 ((n:Int)-1))=(decide (0<=v)&&decide (v<max 1 (n:Int))):=by
 unfold dP;rw[Bool.eq_iff_iff];simp only[Bool.and_eq_true,decide_eq_true_eq];omega
theorem acU{p:aH}{n:Int}{c:MC}:Az p n c=(!(((c.states.length:Int) !=n)|| !(zx c.states ((p.states.length:Int)-1))||(c.correct !=n-0)|| !((c.sent.length:Int)==0)|| !((c.oK.length:Int)==0))&&dP c.value 0 (max 0 ((p.values.length:Int)-1))&&((c.shape.length:Int)==0)):=by
 rw[acT];unfold Az bne;cases h1:((c.sent.length:Int)==0) with
 |false=>simp
 |true =>
  cases h2:((c.oK.length:Int)==0) with
  |false=>simp
  |true =>
   rw[Lu h1,Lu h2];simp[Bool.and_assoc]
set_option maxHeartbeats 1000000 in
theorem S.mX(p:aH)(n:Int)(c:MC)(hp:dG p)(hpl:uy p)(hc:vF c)(hn:0<=n/\n<2^40):aj Tryz.prog 35 [.dat (.fK p),Lr n,BX c] (.bool (Az p n c)):=by
 have g1:=hp.states; have g3:=hp.values;have c1:=hc.shape; have c2:=hc.states; have c3:=hc.sent; have c4:=hc.oK;have hpl':=hpl; have hp':=hp;have h1:=hpl.top; have h2:=hpl.fault; have h3:=hpl.msg;obtain⟨nm,tp,st,ms,vs,ft,rs,ini,ld,rl⟩:=p;simp only at h1 h2 h3 g1 g3;subst h1 h2 h3;rw[acU];generalize hr:(!(((c.states.length:Int) !=n)|| !(zx c.states (((⟨nm,1,st,[],vs,0,rs,ini,ld,rl⟩:aH).states.length:Int)-1))||(c.correct !=n-0)|| !((c.sent.length:Int)==0)|| !((c.oK.length:Int)==0))&&dP c.value 0 (max 0 (((⟨nm,1,st,[],vs,0,rs,ini,ld,rl⟩:aH).values.length:Int)-1))&&((c.shape.length:Int)==0))=res;refine aj.of Bd.mX (by simp) rfl rfl ?_;conv=>whnf
 refine ah.pure (S.uU _ n hpl') rfl ?_;conv=>whnf
 repeat(refine VC.mk (by first|exact id|exact fun h=>⟨h,h⟩) ?_; conv=>whnf)
 refine ah.eG (fun _=>S.xK _ c.states hp' (by omega)) rfl ?_;conv=>whnf
 repeat(refine VC.mk (by first|exact id|exact fun h=>⟨h,h⟩|(intro h; rw[h]; rfl)|(intro h; (repeat' apply And.intro)<;>first|exact h|omega|(simp only[Rw.rJ]; omega)|(simp only[Rw.rng]; omega))) ?_; conv=>whnf)
 refine ah.eG (fun _=>S.qV c.sent ((([]:List Str).length:Nat):Int) (by omega)) rfl ?_;rw[num_nil];conv=>whnf
 repeat(refine VC.mk (by first|exact id|exact fun h=>⟨h,h⟩|(intro h; rw[h]; rfl)) ?_; conv=>whnf)
 refine ah.eG (fun _=>S.qV c.oK ((([]:List Str).length:Nat):Int) (by omega)) rfl ?_;rw[num_nil];conv=>whnf
 repeat(refine VC.mk (by first|exact id|(intro h; rw[h]; rfl)) ?_; conv=>whnf)
 refine⟨fun h=>?_,fun h=>?_⟩
 ·conv=>whnf
  refine ak.bool ?_;rw[<- hr];replace h:(((c.states.length:Int) !=n)|| !(zx c.states ((st.length:Int)-1))||(c.correct !=n-0)|| !((c.sent.length:Int)==0)|| !((c.oK.length:Int)==0))=true:=h;rw[h]; rfl
 replace h:(((c.states.length:Int) !=n)|| !(zx c.states ((st.length:Int)-1))||(c.correct !=n-0)|| !((c.sent.length:Int)==0)|| !((c.oK.length:Int)==0))=false:=h;have hf:c.oK.length=0:=by
  simp only[Bool.or_eq_false_iff] at h;have:=h.2;simp at this;simp[this]
 conv=>whnf
 refine aC.times 1 rfl ?_;conv=>whnf
 refine Fork.mk (fun q=>absurd (q.symm.trans (decide_eq_false (by omega))).symm Bool.false_ne_true) (fun _=>?_);conv=>whnf
 refine .mk (by simp only[okI] at *; first|omega|(simp_all; done)|(simp_all; omega)) ?_;conv=>whnf
 refine ah.pure (S.qF c.value 0 (max 0 ((vs.length:Int)-1))) rfl ?_;conv=>whnf
 refine⟨fun h4=>?_,fun h4=>?_⟩
 ·conv=>whnf
  refine ak.bool ?_;rw[<- hr];rw[h,show dP c.value 0 (max 0 ((vs.length:Int)-1))=false by simpa using h4]; rfl
 ·conv=>whnf
  refine Fork.mk (fun q=>absurd (q.symm.trans (rfl)).symm Bool.false_ne_true) (fun _=>?_);conv=>whnf
  refine ak.bool ?_;rw[<- hr];rw[h,show dP c.value 0 (max 0 ((vs.length:Int)-1))=true by simpa using h4]; rfl
theorem S.mY(p:aH)(n:Int)(c:MC)(hp:dG p)(hv:aX p=0)(hpl:uy p)(hc:vF c):aj Tryz.prog 14 [.dat (.fK p),Lr n,BX c] (.int (vcN p n c)):=by
 refine aj.of Bd.mY (by simp) rfl rfl ?_;conv=>whnf
 refine ah.pure (S.zy p n hp hv hpl) rfl ?_;conv=>whnf
 refine⟨fun h1=>?_,fun h1=>?_⟩
 ·replace h1:(yL n !=0)=true:=h1;conv=>whnf
  exact ak.int (by unfold vcN; rw[h1]; rfl)
 ·replace h1:(yL n !=0)=false:=h1;obtain⟨n1,n2⟩:=PE h1;conv=>whnf
  refine ah.pure (S.mX p n c hp hpl hc ⟨by omega,by omega⟩) rfl ?_;conv=>whnf
  refine⟨fun h2=>?_,fun h2=>?_⟩
  ·conv=>whnf
   exact ak.int (by unfold vcN; rw[h1,show Az p n c=false by simpa using h2]; rfl)
  ·conv=>whnf
   exact ak.int (by unfold vcN; rw[h1,show Az p n c=true by simpa using h2]; rfl)
theorem acV(c:Nat)(v:V): ∀ (cs:List V),V.aT (cs.set c v)=(V.aT cs).set c v.aG:=by
 induction c with
 |zero=>intro cs; cases cs<;>rfl
 |succ c ih =>
  intro cs;cases cs with
  |nil=>rfl
  |cons x r=>show x.aG::V.aT (r.set c v)=x.aG::(V.aT r).set c v.aG; rw[ih r]
theorem PG: ∀ (cs:List V),(V.aT cs).length=cs.length:=by
 intro cs;induction cs with
 |nil=>rfl
 |cons x r ih=>show(V.aT r).length+1=r.length+1; rw[ih]
theorem aC.agb{P:Program}{N pn nx:Nat}{b:fB}{Q:Qz}{m:Fm}{h:Hz}(j c ty k:Nat){k' oty:Nat}{cs:List V}(hj:h.get j=some (.box oty (cs.length+1) (.agg cs)))(hc:c<cs.length)(hg:(V.aT cs).getD c .any= .sl k' true [])(hk:yX k=true)(hn:j<nx)
  (H:aC P N pn b Q m ((nx,some (.row ty k .nil []))::(j,some (.box oty (cs.length+1) (.agg (cs.set c (.own nx)))))::h) (nx+1)):aC P N pn b Q m h nx:=by
 refine⟨fun fr hl R=>?_⟩;have H':=H.ok fr hl R;have e:Hz.au ((nx,some (.row ty k .nil []))::(j,some (.box oty (cs.length+1) (.agg (cs.set c (.own nx)))))::h)=upd (upd h.au j (some ⟨oty,(V.aT cs).length+1,[.agg ((V.aT cs).set c (.own nx))]⟩)) nx (some ⟨ty,k,[]⟩):=by
  rw[bP,bP,PG];show upd (upd h.au j (some ⟨oty,cs.length+1,[.agg (V.aT (cs.set c (.own nx)))]⟩)) nx (some ⟨ty,k,[]⟩)=_;rw[acV]; rfl
 rw[e] at H';obtain⟨I,μ,⟨s0,w0,i0⟩,round⟩:=H';have hj':h.au j=some ⟨oty,(V.aT cs).length+1,[.agg (V.aT cs)]⟩:=by rw[PG]; exact aP hj
 exact⟨I,μ,⟨s0,Wk.abQ j c ty k hj' (by rw[PG]; exact hc) hg hk hn w0,i0⟩,round⟩
def Wi(a:List Int)(x:Int):List Int:=a.set x.toNat (a.getD x.toNat 0+1)
def Gj(k:Nat)(l:List Int):List Int:=l.foldl Wi (List.replicate k 0)
theorem aaO: ∀ {l a:List Int},(l.foldl Wi a).length=a.length:=by
 intro l;induction l with
 |nil=>intro a; rfl
 |cons x l ih=>intro a; rw[List.foldl_cons,ih]; simp[Wi]
theorem LC{k:Nat}{l:List Int}:(Gj k l).length=k:=by unfold Gj; rw[aaO,List.length_replicate]
theorem NZ{k i:Nat}{l:List Int}(hi:i<l.length):Gj k (l.take (i+1))=Wi (Gj k (l.take i)) (l.getD i 0):=by
 unfold Gj;rw[List.take_add_one,List.foldl_append];simp[hi]
theorem acW: ∀ {l a:List Int} {j:Nat},a.getD j 0<=(l.foldl Wi a).getD j 0/\(l.foldl Wi a).getD j 0<=a.getD j 0+l.length:=by
 intro l;induction l with
 |nil=>intro a j; simp
 |cons x l ih =>
  intro a j;rw[List.foldl_cons];have h:=ih (a:=Wi a x) (j:=j);have e:a.getD j 0<=(Wi a x).getD j 0/\(Wi a x).getD j 0<=a.getD j 0+1:=by
   unfold Wi;rw[List.getD_eq_getElem?_getD (l:=a.set _ _),List.getElem?_set];by_cases h1:x.toNat=j
   ·subst h1;rw[if_pos rfl];by_cases h2:x.toNat<a.length
    ·rw[if_pos h2]; simp only[Option.getD_some]; omega
    ·rw[if_neg h2]
     have:a.getD x.toNat 0=0:=by simp[List.getD_eq_getElem?_getD,List.getElem?_eq_none (Nat.le_of_not_lt h2)]
     simp only[Option.getD_none]; omega
   ·rw[if_neg h1,<- List.getD_eq_getElem?_getD]; omega
  simp only[List.length_cons];omega
theorem Wj{k j:Nat}{l:List Int}:0<=(Gj k l).getD j 0/\(Gj k l).getD j 0<=l.length:=by
 have h:=acW (l:=l) (a:=List.replicate k 0) (j:=j);have e:(List.replicate k (0:Int)).getD j 0=0:=by
  rw[List.getD_eq_getElem?_getD,List.getElem?_replicate]; split<;>rfl
 unfold Gj;rw[e] at h;omega
def adz(p:aH)(c:MC):Elem:=⟨c.value,Gj p.states.length c.states⟩
def Ad(p:aH)(c:MC):Elem×Int:=bif uX p !=0 then(⟨0,[]⟩,uX p) else bif vcN p c.states.length c !=0 then(⟨0,[]⟩,1) else(adz p c,0)
theorem adA{p:aH}{n:Int}{c:MC}(h:vcN p n c=0):1<=n/\n<=8/\Az p n c=true:=by
 unfold vcN at h;cases h1:yL n !=0 with
 |true=>rw[h1] at h; rw[show yL n=0 from h] at h1; cases h1
 |false =>
  rw[h1,cond_false] at h;obtain⟨n1,n2⟩:=PE h1;refine⟨n1,n2,?_⟩;cases h7:Az p n c with
  |true=>rfl
  |false=>rw[h7] at h; exact absurd (show(1:Int)=0 from h) (by decide)
theorem LD{p:aH}{n:Int}{c:MC}(h:Az p n c=true): ∀ x∈c.states,0<=x/\x<p.states.length:=by
 unfold Az zx at h;simp only[Bool.and_eq_true,List.all_eq_true] at h;intro x hx;have:=h.1.1.1.1.1.1.1.1.2 x hx;unfold dP at this;simp only[Bool.and_eq_true,decide_eq_true_eq] at this;omega
theorem ak.PI{h:Hz}{e:Int}:ak (.dn [.dat (.elem ⟨0,[]⟩),.int e]) (.dn [.agg [.int 0,.row 0 true .nil],.int e]) h:=⟨by
 simp only[V.aG,V.aT,Dat.aG,iE,T.sub,T.dK,Rw.aT]
 simp⟩
theorem ak.adB{h:Hz}{j:Nat}{v e:Int}{l:List Int}(q:h.get j=some (.row 3 0 (.ints l) [])):ak (.dn [.dat (.elem ⟨v,l⟩),.int e]) (.dn [.agg [.int v,.own j],.int e]) h:=⟨by
 show T.sub (fun _=>True) h.au (.dn [.agg [.int v,.sl 0 false (l.map T.int)],.int e]) (.dn [.agg [.int v,.own j],.int e]);have:=EH (Z:=fun _=>True) trivial q;replace this:T.sub (fun _=>True) h.au (.sl 0 false (l.map T.int)) (.own j):=this;simp only[T.sub] at this;simp only[T.sub,T.dK]
 exact⟨⟨trivial,this,trivial⟩,trivial,trivial⟩⟩
abbrev agc(c:MC):OV:=.box 29 7 (BX c)
theorem S.uz(p:aH)(hp:dG p):aj Tryz.prog 26 [.dat (.fK p)] (.int (uX p)):=by
 refine aj.of Bd.uz (by simp) rfl rfl ?_;conv=>whnf
 refine ah.pure (S.sQ p hp) rfl ?_;conv=>whnf
 refine⟨fun h1=>?_,fun h1=>?_⟩
 ·conv=>whnf
  exact ak.int (by rw[uX,show(aX p !=0)=true from h1]; rfl)
 conv=>whnf
 repeat(refine VC.mk id ?_; conv=>whnf)
 replace h1:(aX p !=0)=false:=h1;refine⟨fun h2=>?_,fun h2=>?_⟩
 ·conv=>whnf
  exact ak.int (by rw[agd p h1,h2]; rfl)
 ·conv=>whnf
  exact ak.int (by rw[agd p h1,h2]; rfl)
theorem S.lJ(p:aH)(e:Elem)(hp:dG p)(he:e.counts.length<2^30):aj Tryz.prog 29 [.dat (.fK p),.dat (.elem e)] (.int (o7 p e)):=by
 refine aj.of Bd.lJ (by simp) rfl rfl ?_;conv=>whnf
 refine ah.pure (S.uz p hp) rfl ?_;conv=>whnf
 refine⟨fun h1=>?_,fun h1=>?_⟩
 ·conv=>whnf
  exact ak.int (by rw[o7,h1]; rfl)
 ·conv=>whnf
  refine ah.pure (S.BZ p e hp he) rfl ?_;conv=>whnf
  refine⟨fun h2=>?_,fun h2=>?_⟩
  ·conv=>whnf
   exact ak.int (by rw[o7,h1,show nX p e=true by simpa using h2]; rfl)
  ·conv=>whnf
   exact ak.int (by rw[o7,h1,show nX p e=false by simpa using h2]; rfl)
set_option maxHeartbeats 1000000 in
theorem S.lK(p:aH)(c:MC)(hp:dG p)(hc:vF c):aj Tryz.prog 7 [.dat (.fK p),BX c] (.dn [.dat (.elem (Ad p c).1),.int (Ad p c).2]):=by
 have c2:=hc.states; have g1:=hp.states;generalize hres:(V.dn [.dat (.elem (Ad p c).1),.int (Ad p c).2])=res;refine aj.of Bd.lK (by simp) rfl (by rw[<- hres]; rfl) ?_;conv=>whnf
 refine ah.pure (S.iW p hp) rfl ?_;conv=>whnf
 refine⟨fun h1=>?_,fun h1=>?_⟩
 ·replace h1:(uX p !=0)=true:=h1;conv=>whnf
  rw[<- hres,Ad,h1];exact ak.PI
 replace h1:(uX p !=0)=false:=h1;obtain⟨hv,hpl⟩:=Ls (AA h1);conv=>whnf
 refine ah.pure (S.jJ p c.states.length c hp hv hpl hc) rfl ?_;conv=>whnf
 refine⟨fun h2=>?_,fun h2=>?_⟩
 ·replace h2:(vcN p c.states.length c !=0)=true:=h2;conv=>whnf
  rw[<- hres,Ad,h1,h2];exact ak.PI
 replace h2:(vcN p c.states.length c !=0)=false:=h2;obtain⟨n1,n2,hcb⟩:=adA (AA h2);have hst:=LD hcb;have hk:0<p.states.length:=by
  have:c.states.getD 0 0∈c.states:=by
   cases hl:c.states with
   |nil=>rw[hl] at n1; simp at n1
   |cons x r=>simp
  have:=hst _ this;omega
 conv=>whnf
 have hm:=EI (n:=p.states.length) hk;rw[hm];conv=>whnf
 refine .mk (by omega) ?_;conv=>whnf
 refine aC.NI 30 [4,7,33,34] (fun i:Nat=>[(35,.int i)]) (fun i=>[(0,IJ p),(1,agc c),(2,.box 31 3 (.agg [.int 0,.row 0 true .nil])),(22,lX (Gj p.states.length (c.states.take i))),(24,.box 31 3 (.agg [.int c.value,.own 22]))]) (fun i=>i<=c.states.length) (fun i=>c.states.length-i) 0 [0,1,2,22,24] rfl (by decide) (fun _=>rfl) (Nat.zero_le _) ?_ ?_ ?_
 ·exact(sR rfl)
 ·exact⟨vJ rfl rfl,vJ rfl rfl,vJ rfl rfl,vJ rfl rfl,Yx rfl rfl rfl ⟨rfl,rfl⟩ (dQ.of_eq rfl),trivial⟩
 conv=>whnf
 refine⟨(sR rfl),rfl,?_⟩;rintro i hi;have hln:=LC (k:=p.states.length) (l:=c.states.take i);conv=>whnf
 refine⟨fun g1=>?_,fun g1=>?_⟩
 ·have hi':i<c.states.length:=by simpa using g1
  have hx:c.states.getD i 0∈c.states:=by rw[getD_some hi']; exact List.getElem_mem hi'
  obtain⟨x1,x2⟩:=hst _ hx;have hb:=Wj (k:=p.states.length) (j:=(c.states.getD i 0).toNat) (l:=c.states.take i);have hlt:(c.states.take i).length<=i:=by rw[List.length_take]; omega
  conv=>whnf
  repeat(refine VC.mk (by first|(simp only[Rw.rng,Int.toNat_natCast]; omega)|(simp only[okI,Int.toNat_natCast] at *; omega)) ?_; conv=>whnf)
  refine⟨i+1,[0,1,2,22,24],by omega,by omega,(sR rfl),(sR rfl),vJ rfl rfl,vJ rfl rfl,vJ rfl rfl,okF rfl nofun rfl rfl rfl ⟨rfl,rfl⟩ ?_,Yx rfl rfl rfl ⟨rfl,rfl⟩ (dQ.of_eq rfl),trivial⟩;rw[NZ hi']; rfl
 ·have hi':i=c.states.length:=by
   have: ¬ ((i:Int)<(c.states.length:Int)):=of_decide_eq_false g1
   omega
  subst hi';rw[List.take_length];conv=>whnf
  rw[<- hres,Ad,h1,h2];exact ak.adB rfl
set_option maxHeartbeats 1000000 in
theorem S.sS(p:aH)(c:MC)(hp:dG p)(hc:vF c):aj Tryz.prog 8 [.dat (.fK p),BX c] (.dn [.dat (.elem (Ad p c).1),.int (Ad p c).2]):=by
 have c2:=hc.states; have g1:=hp.states;generalize hres:(V.dn [.dat (.elem (Ad p c).1),.int (Ad p c).2])=res;refine aj.of Bd.sS (by simp) rfl (by rw[<- hres]; rfl) ?_;conv=>whnf
 refine ah.pure (S.uz p hp) rfl ?_;conv=>whnf
 refine⟨fun h1=>?_,fun h1=>?_⟩
 ·replace h1:(uX p !=0)=true:=h1;conv=>whnf
  rw[<- hres,Ad,h1];exact ak.PI
 replace h1:(uX p !=0)=false:=h1;obtain⟨hv,hpl⟩:=Ls (AA h1);conv=>whnf
 refine ah.pure (S.mY p c.states.length c hp hv hpl hc) rfl ?_;conv=>whnf
 refine⟨fun h2=>?_,fun h2=>?_⟩
 ·replace h2:(vcN p c.states.length c !=0)=true:=h2;conv=>whnf
  rw[<- hres,Ad,h1,h2];exact ak.PI
 replace h2:(vcN p c.states.length c !=0)=false:=h2;obtain⟨n1,n2,hcb⟩:=adA (AA h2);have hst:=LD hcb;have hk:0<p.states.length:=by
  have:c.states.getD 0 0∈c.states:=by
   cases hl:c.states with
   |nil=>rw[hl] at n1; simp at n1
   |cons x r=>simp
  have:=hst _ this;omega
 conv=>whnf
 have hm:=EI (n:=p.states.length) hk;rw[hm];conv=>whnf
 refine .mk (by omega) ?_;conv=>whnf
 refine aC.NI 30 [3,4,7] (fun i:Nat=>[(8,.int i)]) (fun i=>[(0,IJ p),(1,agc c),(2,.box 31 3 (.agg [.int 0,.row 0 true .nil])),(22,lX (Gj p.states.length (c.states.take i))),(24,.box 31 3 (.agg [.int c.value,.own 22]))]) (fun i=>i<=c.states.length) (fun i=>c.states.length-i) 0 [0,1,2,22,24] rfl (by decide) (fun _=>rfl) (Nat.zero_le _) ?_ ?_ ?_
 ·exact(sR rfl)
 ·exact⟨vJ rfl rfl,vJ rfl rfl,vJ rfl rfl,vJ rfl rfl,Yx rfl rfl rfl ⟨rfl,rfl⟩ (dQ.of_eq rfl),trivial⟩
 conv=>whnf
 refine⟨(sR rfl),rfl,?_⟩;rintro i hi;have hln:=LC (k:=p.states.length) (l:=c.states.take i);conv=>whnf
 refine⟨fun g1=>?_,fun g1=>?_⟩
 ·have hi':i<c.states.length:=by simpa using g1
  have hx:c.states.getD i 0∈c.states:=by rw[getD_some hi']; exact List.getElem_mem hi'
  obtain⟨x1,x2⟩:=hst _ hx;have hb:=Wj (k:=p.states.length) (j:=(c.states.getD i 0).toNat) (l:=c.states.take i);have hlt:(c.states.take i).length<=i:=by rw[List.length_take]; omega
  conv=>whnf
  repeat(refine VC.mk (by first|(simp only[Rw.rng,Int.toNat_natCast]; omega)|(simp only[okI,Int.toNat_natCast] at *; omega)) ?_; conv=>whnf)
  refine⟨i+1,[0,1,2,22,24],by omega,by omega,(sR rfl),(sR rfl),vJ rfl rfl,vJ rfl rfl,vJ rfl rfl,okF rfl nofun rfl rfl rfl ⟨rfl,rfl⟩ ?_,Yx rfl rfl rfl ⟨rfl,rfl⟩ (dQ.of_eq rfl),trivial⟩;rw[NZ hi']; rfl
 ·have hi':i=c.states.length:=by
   have: ¬ ((i:Int)<(c.states.length:Int)):=of_decide_eq_false g1
   omega
  subst hi';rw[List.take_length];conv=>whnf
  rw[<- hres,Ad,h1,h2];exact ak.adB rfl
def yM(l:List Int)(i:Nat):List Int:=(List.range i).flatMap fun x:Nat=>List.replicate (l.getD x 0).toNat (x:Int)
theorem zA{l:List Int}{i:Nat}:yM l (i+1)=yM l i++List.replicate (l.getD i 0).toNat (i:Int):=by
 unfold yM; rw[List.range_succ,List.flatMap_append]; simp
def lM(p:aH)(e:Elem):MC×Int:=bif o7 p e !=0 then(⟨[],[],0,[],[],0⟩,o7 p e) else bif bD e==0 then(⟨[],[],0,[],[],0⟩,1) else bif decide (8<bD e) then(⟨[],[],0,[],[],0⟩,4) else(⟨[],yM e.counts e.counts.length,bD e,[],[],e.value⟩,0)
theorem ak.Yl{h:Hz}{e:Int}:ak (.dn [BX ⟨[],[],0,[],[],0⟩,.int e]) (.dn [.agg [.row 0 true .nil,.row 0 true .nil,.int 0,.row 0 true .nil,.row 0 true .nil,.int 0],.int e]) h:=⟨by
 simp only[V.aG,V.aT,T.sub,T.dK,Rw.aT]
 simp⟩
abbrev MF:V:=.row 0 true .nil
abbrev agf(e:Elem):OV:=.box 31 3 (.dat (.elem e))
abbrev acX(p:aH)(e:Elem)(i j:Nat):List (Nat×OV):=[(0,IJ p),(1,agf e),(2,.box 29 7 (.agg [MF,MF,.int 0,MF,MF,.int 0])),(21,.box 29 7 (.agg [MF,.own 40,.int (bD e),MF,MF,.int e.value])),(40,lX (yM e.counts i++List.replicate j (i:Int)))]
theorem ak.agh{h:Hz}{j:Nat}{a b e:Int}{l:List Int}(q:h.get j=some (.row 3 0 (.ints (l++List.replicate 0 (l.length:Int))) [])):ak (.dn [BX ⟨[],l,a,[],[],b⟩,.int e]) (.dn [.agg [MF,.own j,.int a,MF,MF,.int b],.int e]) h:=⟨by
 show T.sub (fun _=>True) h.au (.dn [.agg [.sl 0 false [],.sl 0 false (l.map T.int),.int a,.sl 0 false [],.sl 0 false [],.int b],.int e]) (.dn [.agg [.sl 0 true [],.own j,.int a,.sl 0 true [],.sl 0 true [],.int b],.int e]);have:=EH (Z:=fun _=>True) trivial q;replace this:T.sub (fun _=>True) h.au (.sl 0 false ((l++List.replicate 0 (l.length:Int)).map T.int)) (.own j):=this;rw[List.replicate_zero,List.append_nil] at this;simp only[T.sub] at this;simp only[T.sub,T.dK]
 exact⟨⟨⟨.inl trivial,.inl trivial,nofun⟩,this,trivial,⟨.inl trivial,.inl trivial,nofun⟩,⟨.inl trivial,.inl trivial,nofun⟩,trivial,trivial⟩,trivial,trivial⟩⟩
theorem PK{p:aH}{e:Elem}(h:o7 p e=0):nX p e=false/\uX p=0:=by
 unfold o7 at h;cases h1:uX p !=0 with
 |true=>rw[h1] at h; rw[show uX p=0 from h] at h1; cases h1
 |false =>
  rw[h1,cond_false] at h;refine⟨?_,by simpa using h1⟩;cases h2:nX p e with
  |false=>rfl
  |true=>rw[h2] at h; exact absurd (show(1:Int)=0 from h) (by decide)
theorem PL{p:aH}{e:Elem}(h:nX p e=false)(i:Nat):0<=e.counts.getD i 0/\e.counts.getD i 0<=1048576:=by
 unfold nX at h;simp only[Bool.or_eq_false_iff,Bool.not_eq_false',List.all_eq_true] at h;by_cases hi:i<e.counts.length
 ·have:=h.1.1.2 (e.counts.getD i 0) (by rw[getD_some hi]; exact List.getElem_mem hi);unfold Ag at this;simp only[Bool.and_eq_true,decide_eq_true_eq] at this;exact this
 ·rw[show e.counts.getD i 0=0 by simp[List.getD_eq_getElem?_getD,List.getElem?_eq_none (Nat.le_of_not_lt hi)]]; omega
theorem SA{l:List Int}(h: ∀ i,0<=l.getD i 0/\l.getD i 0<=1048576): ∀ i,(yM l i).length<=i*1048576:=by
 intro i;induction i with
 |zero=>simp[yM]
 |succ i ih=>rw[zA,List.length_append,List.length_replicate]; have:=h i; omega
set_option maxHeartbeats 1000000 in
theorem S.jk(p:aH)(e:Elem)(hp:dG p)(he:e.counts.length<2^30):aj Tryz.prog 9 [.dat (.fK p),.dat (.elem e)] (.dn [BX (lM p e).1,.int (lM p e).2]):=by
 generalize hres:(V.dn [BX (lM p e).1,.int (lM p e).2])=res;refine aj.of Bd.jk (by simp) rfl (by rw[<- hres]; rfl) ?_;conv=>whnf
 refine ah.pure (S.jK p e hp he) rfl ?_;conv=>whnf
 refine⟨fun h1=>?_,fun h1=>?_⟩
 ·replace h1:(o7 p e !=0)=true:=h1;conv=>whnf
  rw[<- hres,lM,h1];exact ak.Yl
 replace h1:(o7 p e !=0)=false:=h1;conv=>whnf
 refine ah.pure (S.lS e (by omega)) rfl ?_;conv=>whnf
 refine⟨fun h2=>?_,fun h2=>?_⟩
 ·replace h2:(bD e==0)=true:=h2;conv=>whnf
  rw[<- hres,lM,h1,h2];exact ak.Yl
 replace h2:(bD e==0)=false:=h2;conv=>whnf
 refine⟨fun h3=>?_,fun h3=>?_⟩
 ·replace h3:decide (8<bD e)=true:=h3;conv=>whnf
  rw[<- hres,lM,h1,h2,h3];exact ak.Yl
 replace h3:decide (8<bD e)=false:=h3;conv=>whnf
 obtain⟨hF,hk⟩:=PK (AA h1);have hcn:=PL hF;have hl6:e.counts.length<=6:=by have h1:=(Oe hF).1; have h2:=(DT (Ls hk).1).states; omega
 generalize hzz:(V.agg [.row 0 true .nil,.row 0 true .nil,.int 0,.row 0 true .nil,.row 0 true .nil,.int 0])=zz;refine aC.agb 21 1 3 0 (cs:=[.row 0 true .nil,.row 0 true .nil,.int (bD e),.row 0 true .nil,.row 0 true .nil,.int e.value]) rfl (by show 1<6; decide) rfl rfl (by decide) ?_;refine aC.NI 60 [4,8,31,32] (fun i:Nat=>[(33,.int i)]) (fun i=>acX p e i 0) (fun i=>i<=e.counts.length) (fun i=>e.counts.length-i) 0 [0,1,2,21,27] rfl (by decide) (fun _=>rfl) (Nat.zero_le _) ?_ ?_ ?_
 ·exact(sR rfl)
 ·exact⟨vJ rfl rfl,vJ rfl rfl,vJ rfl rfl,Yx rfl rfl rfl ⟨rfl,rfl⟩ (dQ.of_eq rfl),vJ rfl rfl,trivial⟩
 conv=>whnf
 refine⟨(sR rfl),rfl,?_⟩;rintro i hi;have hbi:=SA hcn i;conv=>whnf
 refine⟨fun g1=>?_,fun g1=>?_⟩
 ·have hi':i<e.counts.length:=by simpa using g1
  obtain⟨q1,q2⟩:=hcn i;conv=>whnf
  refine .mk (by simp only[Rw.rng] at *; first|omega|(simp_all; done)|(simp_all; omega)) ?_;conv=>whnf
  refine aC.NI 60 [4,8,9,31,32,33,38] (fun j:Nat=>[(39,.int j)]) (fun j=>acX p e i j) (fun j=>(j:Int)<=e.counts.getD i 0) (fun j=>(e.counts.getD i 0).toNat-j) 0 [0,1,2,21,40] rfl (by decide) (fun _=>rfl) (by simpa using q1) ?_ ?_ ?_
  ·exact(sR rfl)
  ·exact⟨vJ rfl rfl,vJ rfl rfl,vJ rfl rfl,Yx rfl rfl rfl ⟨rfl,rfl⟩ (dQ.of_eq rfl),vJ rfl rfl,trivial⟩
  conv=>whnf
  refine⟨(sR rfl),rfl,?_⟩;rintro j hj;conv=>whnf
  refine⟨fun g2=>?_,fun g2=>?_⟩
  ·have hj':(j:Int)<e.counts.getD i 0:=of_decide_eq_true g2;conv=>whnf
   repeat(refine VC.mk (by first|(simp only[mJ,nP,Rw.len,List.length_append,List.length_replicate,List.length_nil,List.length_cons]; omega)|(simp only[okI]; omega)) ?_; conv=>whnf)
   refine⟨j+1,[0,1,2,21,65],by omega,by omega,(sR rfl),(sR rfl),vJ rfl rfl,vJ rfl rfl,vJ rfl rfl,Yx rfl rfl rfl ⟨rfl,rfl⟩ (dQ.of_eq rfl),okF rfl nofun rfl rfl rfl ⟨rfl,rfl⟩ ?_,trivial⟩;simp[OV.aA,Rw.aT,V.aT,List.replicate_succ',List.append_assoc]
  ·have hj':(j:Int)=e.counts.getD i 0:=by
    have: ¬ ((j:Int)<e.counts.getD i 0):=of_decide_eq_false g2
    omega
   conv=>whnf
   refine .mk (by simp only[okI] at *; first|omega|(simp_all; done)|(simp_all; omega)) ?_;conv=>whnf
   refine⟨i+1,[0,1,2,21,40],by omega,by omega,(sR rfl),(sR rfl),vJ rfl rfl,vJ rfl rfl,vJ rfl rfl,Yx rfl rfl rfl ⟨rfl,rfl⟩ (dQ.of_eq rfl),okF rfl nofun rfl rfl rfl ⟨rfl,rfl⟩ ?_,trivial⟩;rw[zA,<- hj']; simp
 ·have hi':i=e.counts.length:=by
   have: ¬ ((i:Int)<(e.counts.length:Int)):=of_decide_eq_false g1
   omega
  subst hi';conv=>whnf
  rw[<- hres,lM,h1,h2,h3];exact ak.agh rfl
set_option maxHeartbeats 1000000 in
theorem S.kK(p:aH)(e:Elem)(hp:dG p)(he:e.counts.length<2^30):aj Tryz.prog 10 [.dat (.fK p),.dat (.elem e)] (.dn [BX (lM p e).1,.int (lM p e).2]):=by
 generalize hres:(V.dn [BX (lM p e).1,.int (lM p e).2])=res;refine aj.of Bd.kK (by simp) rfl (by rw[<- hres]; rfl) ?_;conv=>whnf
 refine ah.pure (S.lJ p e hp he) rfl ?_;conv=>whnf
 refine⟨fun h1=>?_,fun h1=>?_⟩
 ·replace h1:(o7 p e !=0)=true:=h1;conv=>whnf
  rw[<- hres,lM,h1];exact ak.Yl
 replace h1:(o7 p e !=0)=false:=h1;conv=>whnf
 refine ah.pure (S.zB e (by omega)) rfl ?_;conv=>whnf
 refine⟨fun h2=>?_,fun h2=>?_⟩
 ·replace h2:(bD e==0)=true:=h2;conv=>whnf
  rw[<- hres,lM,h1,h2];exact ak.Yl
 replace h2:(bD e==0)=false:=h2;conv=>whnf
 refine⟨fun h3=>?_,fun h3=>?_⟩
 ·replace h3:decide (8<bD e)=true:=h3;conv=>whnf
  rw[<- hres,lM,h1,h2,h3];exact ak.Yl
 replace h3:decide (8<bD e)=false:=h3;conv=>whnf
 obtain⟨hF,hk⟩:=PK (AA h1);have hcn:=PL hF;have hl6:e.counts.length<=6:=by have h1:=(Oe hF).1; have h2:=(DT (Ls hk).1).states; omega
 generalize hzz:(V.agg [.row 0 true .nil,.row 0 true .nil,.int 0,.row 0 true .nil,.row 0 true .nil,.int 0])=zz;refine aC.agb 21 1 3 0 (cs:=[.row 0 true .nil,.row 0 true .nil,.int (bD e),.row 0 true .nil,.row 0 true .nil,.int e.value]) rfl (by show 1<6; decide) rfl rfl (by decide) ?_;refine aC.NI 60 [3,4,8] (fun i:Nat=>[(9,.int i)]) (fun i=>acX p e i 0) (fun i=>i<=e.counts.length) (fun i=>e.counts.length-i) 0 [0,1,2,21,24] rfl (by decide) (fun _=>rfl) (Nat.zero_le _) ?_ ?_ ?_
 ·exact(sR rfl)
 ·exact⟨vJ rfl rfl,vJ rfl rfl,vJ rfl rfl,Yx rfl rfl rfl ⟨rfl,rfl⟩ (dQ.of_eq rfl),vJ rfl rfl,trivial⟩
 conv=>whnf
 refine⟨(sR rfl),rfl,?_⟩;rintro i hi;have hbi:=SA hcn i;conv=>whnf
 refine⟨fun g1=>?_,fun g1=>?_⟩
 ·have hi':i<e.counts.length:=by simpa using g1
  obtain⟨q1,q2⟩:=hcn i;conv=>whnf
  refine aC.NI 60 [3,4,8,9] (fun j:Nat=>[(10,.int j)]) (fun j=>acX p e i j) (fun j=>(j:Int)<=e.counts.getD i 0) (fun j=>(e.counts.getD i 0).toNat-j) 0 [0,1,2,21,40] rfl (by decide) (fun _=>rfl) (by simpa using q1) ?_ ?_ ?_
  ·exact(sR rfl)
  ·exact⟨vJ rfl rfl,vJ rfl rfl,vJ rfl rfl,Yx rfl rfl rfl ⟨rfl,rfl⟩ (dQ.of_eq rfl),vJ rfl rfl,trivial⟩
  conv=>whnf
  refine⟨(sR rfl),rfl,?_⟩;rintro j hj;conv=>whnf
  refine .mk (by simp only[Rw.rng] at *; first|omega|(simp_all; done)|(simp_all; omega)) ?_;conv=>whnf
  refine⟨fun g2=>?_,fun g2=>?_⟩
  ·have hj':(j:Int)<e.counts.getD i 0:=of_decide_eq_true g2;conv=>whnf
   repeat(refine VC.mk (by first|(simp only[mJ,nP,Rw.len,List.length_append,List.length_replicate,List.length_nil,List.length_cons]; omega)|(simp only[okI]; omega)) ?_; conv=>whnf)
   refine⟨j+1,[0,1,2,21,71],by omega,by omega,(sR rfl),(sR rfl),vJ rfl rfl,vJ rfl rfl,vJ rfl rfl,Yx rfl rfl rfl ⟨rfl,rfl⟩ (dQ.of_eq rfl),okF rfl nofun rfl rfl rfl ⟨rfl,rfl⟩ ?_,trivial⟩;simp[OV.aA,Rw.aT,V.aT,List.replicate_succ',List.append_assoc]
  ·have hj':(j:Int)=e.counts.getD i 0:=by
    have: ¬ ((j:Int)<e.counts.getD i 0):=of_decide_eq_false g2
    omega
   conv=>whnf
   refine .mk (by simp only[okI] at *; first|omega|(simp_all; done)|(simp_all; omega)) ?_;conv=>whnf
   refine⟨i+1,[0,1,2,21,40],by omega,by omega,(sR rfl),(sR rfl),vJ rfl rfl,vJ rfl rfl,vJ rfl rfl,Yx rfl rfl rfl ⟨rfl,rfl⟩ (dQ.of_eq rfl),okF rfl nofun rfl rfl rfl ⟨rfl,rfl⟩ ?_,trivial⟩;rw[zA,<- hj']; simp
 ·have hi':i=e.counts.length:=by
   have: ¬ ((i:Int)<(e.counts.length:Int)):=of_decide_eq_false g1
   omega
  subst hi';conv=>whnf
  rw[<- hres,lM,h1,h2,h3];exact ak.agh rfl
theorem S.Ym(a b:List Int)(ha:a.length<2^40)(_hb:b.length<2^40):aj Tryz.prog 32 [.row 0 false (.ints a),.row 0 false (.ints b)] (.bool (decide (a=b))):=by
 refine aj.of Bd.oN (by simp) rfl rfl ?_;conv=>whnf
 refine⟨fun h1=>?_,fun h1=>?_⟩
 ·conv=>whnf
  refine ak.bool ?_;replace h1:((a.length:Int) !=b.length)=true:=h1
  have:a.length≠b.length:=by
   have h2:(a.length:Int)≠b.length:=by simpa using h1
   omega
  exact decide_eq_false fun e=>this (by rw[e])
 replace h1:((a.length:Int) !=b.length)=false:=h1;have hl:a.length=b.length:=by
  have h2:(a.length:Int)=b.length:=by simpa using h1
  omega
 conv=>whnf
 refine aC.same [0,1] (fun i:Nat=>[(5,.int i)]) (fun i=>i<=a.length/\a.take i=b.take i) (fun i=>a.length-i) 0 rfl (by decide) rfl (fun _=>rfl) ⟨by omega,by simp⟩ ⟨⟨_,rfl,rfl⟩,trivial⟩ ?_;conv=>whnf
 refine⟨rfl,?_⟩;rintro i ⟨hi,hall⟩;conv=>whnf
 refine⟨fun h3=>?_,fun h3=>?_⟩
 ·have hi':i<a.length:=by simpa using h3
  have hib:i<b.length:=by omega
  conv=>whnf
  repeat(refine VC.mk (by simp only[Rw.rng] at *; first|omega|(simp_all; done)|(simp_all; omega)) ?_; conv=>whnf)
  refine⟨fun h4=>?_,fun h4=>?_⟩
  ·conv=>whnf
   refine ak.bool ?_;replace h4:(a.getD i 0 !=b.getD i 0)=true:=h4;have h5:a.getD i 0≠b.getD i 0:=by simpa using h4
   exact decide_eq_false fun e=>h5 (by rw[e])
  ·conv=>whnf
   refine .mk (by simp only[okI] at *; first|omega|(simp_all; done)|(simp_all; omega)) ?_;conv=>whnf
   replace h4:(a.getD i 0 !=b.getD i 0)=false:=h4;have h5:a.getD i 0=b.getD i 0:=by simpa using h4
   refine⟨i+1,⟨by omega,?_⟩,by omega,⟨⟨_,rfl,rfl⟩,trivial⟩,?_,rfl⟩
   ·rw[List.take_add_one,List.take_add_one,hall];rw[getD_some hi',getD_some hib] at h5;simp[hi',hib,h5]
   ·repeat' (first|exact trivial|exact⟨_,rfl,rfl⟩|constructor)
 ·have hi':a.length<=i:=by simpa using h3
  conv=>whnf
  refine ak.bool ?_;rw[List.take_of_length_le hi',List.take_of_length_le (by omega)] at hall;exact decide_eq_true hall
theorem S.IU(a:MC)(ha:vF a):aj Tryz.prog 12 [BX a,BX a] (.bool true):=by
 have c1:=ha.shape; have c2:=ha.states; have c3:=ha.sent; have c4:=ha.oK;have hS: ∀ l:List Int,l.length<2^30->aj Tryz.prog 32 [.row 0 false (.ints l),.row 0 false (.ints l)] (.bool true):=fun l hl=>by
  have:=S.Ym l l (by omega) (by omega);rwa [decide_eq_true rfl] at this
 refine aj.of Bd.jL (by simp) rfl rfl ?_;conv=>whnf
 repeat(refine VC.mk (by first|exact id|exact fun h=>⟨h,h⟩) ?_; conv=>whnf)
 refine ah.eG (fun _=>hS a.shape c1) rfl ?_;conv=>whnf
 repeat(refine VC.mk (by first|exact id|exact fun h=>⟨h,h⟩) ?_; conv=>whnf)
 refine ah.eG (fun _=>hS a.states c2) rfl ?_;conv=>whnf
 repeat(refine VC.mk (by first|exact id|exact fun h=>⟨h,h⟩) ?_; conv=>whnf)
 refine ah.eG (fun _=>hS a.sent c3) rfl ?_;conv=>whnf
 repeat(refine VC.mk (by first|exact id|exact fun h=>⟨h,h⟩) ?_; conv=>whnf)
 refine ah.eG (fun _=>hS a.oK c4) rfl ?_;conv=>whnf
 refine VC.mk id ?_;conv=>whnf
 refine ak.bool ?_;simp
theorem S.xM(a b:Elem)(ha:a.counts.length<2^40)(hb:b.counts.length<2^40):aj Tryz.prog 11 [.dat (.elem a),.dat (.elem b)] (.bool (jY a b==0)):=by
 refine aj.of Bd.xM (by simp) rfl rfl ?_;conv=>whnf
 refine ah.pure (S.qK a b ha hb) rfl ?_;conv=>whnf
 exact ak.bool rfl
theorem aeV{i:Nat}: ∀ {m:Nat} {a:List Int},i<a.length->(List.replicate m (i:Int)).foldl Wi a=a.set i (a.getD i 0+m):=by
 intro m;induction m with
 |zero=>intro a hi; simp[List.getD_eq_getElem?_getD,hi]
 |succ m ih =>
  intro a hi;rw[List.replicate_succ,List.foldl_cons,ih (by simp[Wi]; exact hi)];unfold Wi;simp only[Int.toNat_natCast];rw[List.set_set,List.getD_eq_getElem?_getD (l:=a.set _ _),List.getElem?_set_self hi];simp only[Option.getD_some]
  congr 1
  omega
theorem aeW{l:List Int}(h: ∀ i,0<=l.getD i 0): ∀ i,i<=l.length->(yM l i).foldl Wi (List.replicate l.length 0)=l.take i++List.replicate (l.length-i) 0:=by
 intro i;induction i with
 |zero=>intro _; simp[yM]
 |succ i ih =>
  intro hi;rw[zA,List.foldl_append,ih (by omega),aeV (by simp; omega)];have h0:=h i;have e1:l.length-i=(l.length-(i+1))+1:=by omega
  rw[e1,List.replicate_succ,List.set_append_right _ _ (by simp; omega),List.length_take,Nat.min_eq_left (by omega),Nat.sub_self,List.set_cons_zero];have e2:(l.take i++0::List.replicate (l.length-(i+1)) (0:Int)).getD i 0=0:=by
   rw[List.getD_eq_getElem?_getD,List.getElem?_append_right (by simp; omega),List.length_take,Nat.min_eq_left (by omega),Nat.sub_self]; rfl
  rw[e2,List.take_add_one,show l[i]? =some (l.getD i 0) by rw[getD_some (show i<l.length by omega)]; exact List.getElem?_eq_getElem _];simp only[Option.toList_some,List.append_assoc,List.singleton_append];rw[Int.toNat_of_nonneg h0,Int.zero_add]
theorem acY{l:List Int}(h: ∀ i,0<=l.getD i 0):Gj l.length (yM l l.length)=l:=by
 unfold Gj;rw[aeW h l.length (Nat.le_refl _)];simp
theorem Yn{l:List Int}{i:Nat}(hi:i<l.length):(l.take (i+1)).sum=(l.take i).sum+l.getD i 0:=by
 rw[List.take_add_one,show l[i]? =some (l.getD i 0) by rw[getD_some hi]; exact List.getElem?_eq_getElem _];simp[List.sum_append]
theorem acZ{l:List Int}(h: ∀ i,0<=l.getD i 0): ∀ i,i<=l.length->((yM l i).length:Int)=(l.take i).sum:=by
 intro i;induction i with
 |zero=>intro _; simp[yM]
 |succ i ih =>
  intro hi;rw[zA,List.length_append,List.length_replicate,Yn (by omega),<- ih (by omega)];have:=h i;omega
theorem ac0{l:List Int}{i:Nat}{x:Int}(h:x∈yM l i):0<=x/\x<i:=by
 unfold yM at h;rw[List.mem_flatMap] at h;obtain⟨k,hk,hx⟩:=h;have:=List.mem_range.1 hk;rw[List.eq_of_mem_replicate hx]; omega
theorem SB{p:aH}{e:Elem}(h:(lM p e).2=0):Ad p (lM p e).1=(e,0)/\vF (lM p e).1:=by
 unfold lM at h ⊢;cases h1:o7 p e !=0 with
 |true=>rw[h1] at h; rw[show o7 p e=0 from h] at h1; cases h1
 |false =>
  rw[h1] at h;cases h2:bD e==0 with
  |true=>rw[h2] at h; exact absurd (show(1:Int)=0 from h) (by decide)
  |false =>
   rw[h2] at h;cases h3:decide (8<bD e) with
   |true=>rw[h3] at h; exact absurd (show(4:Int)=0 from h) (by decide)
   |false =>
    simp only[cond_false];obtain⟨hF,hk⟩:=PK (AA h1);obtain⟨v1,v2,v3,v4⟩:=Oe hF;have hcn:=PL hF;have hl6:e.counts.length<=6:=by have h2:=(DT (Ls hk).1).states; omega
    have hnn: ∀ i,0<=e.counts.getD i 0:=fun i=>(hcn i).1
    have hsum:=acZ hnn e.counts.length (Nat.le_refl _);rw[List.take_length] at hsum;have htot:bD e=e.counts.sum:=by
     unfold bD;rw[if_neg (by omega),if_pos (by rw[List.all_eq_true]; intro x hx; exact Oc.2 (v2 x hx))]
    have ht0:bD e≠0:=by simpa using h2
    have ht8:=of_decide_eq_false h3;have hlen:((yM e.counts e.counts.length).length:Int)=bD e:=by rw[htot]; exact hsum
    refine⟨?_,⟨by simp,by simp only; omega,by simp,by simp⟩⟩;unfold Ad;rw[hk];simp only[bne_self_eq_false,cond_false];have hsz:yL (yM e.counts e.counts.length).length=0:=by
     rw[hlen];unfold yL Gi dP;rw[show(decide (bD e>=1)&&decide (bD e<=1048576))=true by simp; omega,cond_true,h3]; rfl
    have ag1:Az p (yM e.counts e.counts.length).length ⟨[],yM e.counts e.counts.length,bD e,[],[],e.value⟩=true:=by
     have hw:zx (yM e.counts e.counts.length) ((p.states.length:Int)-1)=true:=by
      unfold zx dP;rw[List.all_eq_true];intro x hx;have:=ac0 hx;simp; omega
     unfold Az;simp only[hw,hlen,Int.sub_zero,beq_self_eq_true,Bool.and_true,Bool.true_and,List.length_nil];have e1:zx [] 1048576=true:=rfl;have e2:zx [] 0=true:=rfl;rw[e1,e2];simp; omega
    have hvc:vcN p (yM e.counts e.counts.length).length ⟨[],yM e.counts e.counts.length,bD e,[],[],e.value⟩=0:=by
     unfold vcN;rw[hsz,ag1]; rfl
    rw[hvc];simp only[bne_self_eq_false,cond_false];unfold adz;simp only;rw[<- v1,acY hnn]
theorem LG(a:Elem)(ha:a.counts.length<2^30):aj Tryz.prog 11 [.dat (.elem a),.dat (.elem a)] (.bool true):=by
 have:=S.xM a a (by omega) (by omega);rwa [show(jY a a==0)=true by rw[kU.2 rfl]; rfl] at this
theorem aaP(p:aH)(c:MC)(hp:p.states.length<2^30):(Ad p c).1.counts.length<2^30:=by
 unfold Ad;cases uX p !=0 with
 |true=>exact(by decide:0<2^30)
 |false=>cases vcN p c.states.length c !=0 with
  |true=>exact(by decide:0<2^30)
  |false=>show(Gj p.states.length c.states).length<_; rw[LC]; exact hp
theorem SC(p:aH)(e:Elem):vF (lM p e).1:=by
 have h0:vF ⟨[],[],0,[],[],0⟩:=⟨by simp,by simp,by simp,by simp⟩
 cases h:(lM p e).2==0 with
 |true=>exact(SB (by simpa using h)).2
 |false =>
  unfold lM at h ⊢;revert h;cases o7 p e !=0 with
  |true=>exact fun _=>h0
  |false=>cases bD e==0 with
   |true=>exact fun _=>h0
   |false=>cases decide (8<bD e) with
    |true=>exact fun _=>h0
    |false=>intro h; exact nomatch (show(true=false) from h)
theorem aeX{h:Hz}{j:Nat}{e:Elem}{Z:Nat->Prop}(hz:Z j)(q:h.get j=some (.row 31 3 .nil [.dat (.elem e)])):T.sub Z h.au (V.row 3 false (.elems [e])).aG (V.own j).aG:=by
 show T.sub Z h.au (.sl 3 false [iE e]) (.own j);simp only[T.sub];exact⟨trivial,hz,rfl,by decide,31,aP q⟩
set_option maxHeartbeats 1000000 in
theorem S.iP(p:aH)(c:MC)(e:Elem)(hp:dG p)(hc:vF c)(he:e.counts.length<2^30):aj Tryz.prog 3 [.dat (.fK p),BX c,.dat (.elem e)] (.bool true):=by
 have hs:eH [e]:=fun x hx=>by rw[List.mem_singleton] at hx; subst hx; omega
 refine aj.of Bd.iP (by simp) rfl rfl ?_;conv=>whnf
 refine ah.lend (S.wK [e] false (show 1<2^40 by decide) hs) (And.intro (aeX trivial rfl) trivial) rfl rfl ?_;conv=>whnf
 repeat(refine VC.mk (by first|exact id|(intro h; rw[h]; rfl)) ?_; conv=>whnf)
 refine⟨fun h1=>?_,fun h1=>?_⟩
 ·conv=>whnf
  refine ah.pure (S.V9) rfl ?_;conv=>whnf
  exact ak.bool rfl
 conv=>whnf
 refine ah.pure (S.lK p c hp hc) rfl ?_;conv=>whnf
 refine ah.pure (S.sS p c hp hc) rfl ?_;conv=>whnf
 refine ah.pure (S.jk p e hp he) rfl ?_;conv=>whnf
 refine ah.pure (S.kK p e hp he) rfl ?_;conv=>whnf
 refine .mk (by exact fun h=>⟨h,h⟩) ?_;conv=>whnf
 refine ah.eG (fun _=>LG (Ad p c).1 (aaP p c (by have:=hp.states; omega))) rfl ?_;conv=>whnf
 repeat(refine VC.mk (by first|exact id|exact fun h=>⟨h,h⟩|(intro h; rw[h]; rfl)) ?_; conv=>whnf)
 refine ah.eG (fun _=>S.IU (lM p e).1 (SC p e)) rfl ?_;conv=>whnf
 repeat(refine VC.mk (by first|exact id|(intro h; rw[h]; rfl)) ?_; conv=>whnf)
 refine⟨fun h2=>?_,fun h2=>?_⟩
 ·exfalso; simp at h2
 conv=>whnf
 refine⟨fun h3=>?_,fun h3=>?_⟩
 ·conv=>whnf
  refine ah.pure (S.V9) rfl ?_;conv=>whnf
  exact ak.bool rfl
 have h3':(lM p e).2=0:=by
  replace h3:((lM p e).2 !=0)=false:=h3;simpa using h3
 obtain⟨k1,k2⟩:=SB h3';conv=>whnf
 refine ah.pure (S.lK p (lM p e).1 hp k2) rfl ?_;rw[k1];conv=>whnf
 refine .mk (by exact fun h=>⟨h,h⟩) ?_;conv=>whnf
 refine ah.eG (fun _=>LG e he) rfl ?_;conv=>whnf
 refine VC.mk id ?_;conv=>whnf
 refine ah.eG (fun _=>S.V9) rfl ?_;conv=>whnf
 refine VC.mk id ?_;conv=>whnf
 refine ak.bool ?_;simp
end Go.Proofs.YtdhobgbagphngaaGreatDoor
