/-
 A part of the proof. No condition.
-/
import Derived.Test.YtbdbmfccbpfeoaaGreatDoorVa
namespace Go.Proofs.YtbdbmfccbpfeoaaGreatDoor
open Go.Ab Go.Proofs
set_option maxRecDepth 100000
def dX(n lo hi:Int):Bool:=decide (n>=lo)&&decide (n<=hi)
theorem S.aY(n lo hi:Int):aj Tryz.prog 32 [.int n,.int lo,.int hi] (.bool (dX n lo hi)):=by
 refine aj.of Bd.aY (by simp) rfl rfl ?_;repeat(refine VC.mk (by first|exact id|exact fun h=>⟨h,h⟩) ?_)
 exact ak.bool rfl
theorem pX{x n:Int}:dX x 0 (n-1)= !(sO x n):=by
 unfold dX sO;rw[cF]; simp; omega
theorem S.BO(l:Lin):aj Tryz.prog 34 [.dat (.lin l)] (.bool (UU l)):=by
 refine aj.of Bd.BO (by simp) rfl rfl ?_;refine ah.pure (S.aY l.c (-100) 100) rfl ?_;repeat(refine VC.mk id ?_)
 refine ah.eY (fun _=>S.aY l.n (-100) 100) rfl ?_;repeat(refine VC.mk id ?_)
 refine ah.eY (fun _=>S.aY l.t (-100) 100) rfl ?_;repeat(refine VC.mk id ?_)
 refine ah.eY (fun _=>S.aY l.f (-100) 100) rfl ?_;refine VC.mk id ?_;exact ak.bool rfl
theorem S.rZ(l:List Str)(s:Str)(f:Bool)(hl:l.length<2^40):aj Tryz.prog 33 [.row 0 f (.strs l),.str s] (.bool (l.any fun x=>s==x)):=by
 refine aj.of Bd.rZ (by simp) rfl rfl ?_;refine aF.same [0,1] (fun i:Nat=>[(5,.int i)]) (fun i=>i<=l.length/\(l.take i).any (fun x=>s==x)=false) (fun i=>l.length-i) 0 rfl (by decide) rfl (fun _=>rfl) ⟨by omega,by simp⟩ ⟨⟨_,rfl,rfl⟩,trivial⟩ ?_;refine⟨rfl,?_⟩;rintro i ⟨hi,hall⟩;refine⟨fun h3=>?_,fun h3=>?_⟩
 ·have hi':i<l.length:=by simpa using h3
  refine .mk (by simp only[Rw.rng] at *; omega) ?_;refine⟨fun h4=>?_,fun h4=>?_⟩
  ·have h4':(s==l.getD i [])=true:=by rw[show(s==l.getD i [])=(l.getD i []==s) from Bool.beq_comm]; exact h4
   exact ak.bool (oJ (d:=[]) hi' h4')
  ·have h4':(s==l.getD i [])=false:=by rw[show(s==l.getD i [])=(l.getD i []==s) from Bool.beq_comm]; exact h4
   refine .mk (by simp only[okI] at *; omega) ?_;refine⟨i+1,⟨by omega,?_⟩,by omega,⟨⟨_,rfl,rfl⟩,trivial⟩,?_,rfl⟩
   ·rw[sS (d:=[]) hi' hall]; exact h4'
   ·repeat' (first|exact trivial|exact⟨_,rfl,rfl⟩|constructor)
 ·have hi':l.length<=i:=by simpa using h3
  rw[bk hi'] at hall;exact ak.bool hall
theorem S.uy:aj Tryz.prog 70 [] (.row 0 false (.strs uh)):=by
 refine aj.of Bd.uy (by simp) rfl rfl ?_;exact ak.row (eK Rw.strs (by kernel_rfl))
theorem Em(s:Str):(bs s).toList=s:=by rw[Lib.toList_data]; rfl
theorem ahB(s:Str):nmB (bs s)=(!(s.isEmpty)&& !(decide (12<(s.length:Int)))&&lQ s):=by
 unfold nmB;rw[Em,KC]; rfl
theorem UW{c:Nat}(h:kE c=true):nameB c=true:=by unfold nameB; rw[h]; rfl
theorem UY{s:Str}(h:s≠[]):lQ s=(kE (s.getD 0 0).toNat&&s.all fun c=>nameB c.toNat):=by
 cases s with
 |nil=>exact absurd rfl h
 |cons c r =>
  simp only[lQ,List.getD_cons_zero,gA];cases hl:kE c.toNat with
  |false=>rfl
  |true=>rw[UW hl]; simp
theorem zS{α:Type}{l:List α}{p:α->Bool}{d:α}{i:Nat}(hi:i<l.length)(h:(l.take i).all p=true):(l.take (i+1)).all p=p (l.getD i d):=by
 rw[cJ,List.all_append,h,cj];simp[hi]
theorem xY{α:Type}{l:List α}{p:α->Bool}{d:α}{i:Nat}(hi:i<l.length)(h:p (l.getD i d)=false):l.all p=false:=by
 rw[gC]; intro q;rw[cA] at q;have:=q l[i] (bR hi);rw[show l.getD i d=l[i] by simp[hi]] at h;rw[h] at this; cases this
def u8(s:Str)(i:Nat):Nat:=(s.getD i 0).toNat
theorem ady{c:Nat}:nameB c=(decide (97<=c/\c<=122)||decide (48<=c/\c<=57)||decide (c=95)):=by
 rw[cF]; simp[nameB,kE]
theorem Xm{c:Nat}:kE c=decide (97<=c/\c<=122):=by
 rw[cF]; simp[kE]
theorem wN{n:Nat}(h:(bif false then !(dX n 1 12) else !!(dX n 1 12))=true):(0:Int)<n:=by
 simp only[bB,et,dX,aD,ab] at h; omega
theorem wN2{n:Nat}{b:Bool}(h:(bif false then !(dX n 1 12)||b else !(!(dX n 1 12)||b))=true):(0:Int)<n:=by
 simp only[bB,Bool.not_or,et,dX,aD,ab] at h; omega
def EG(s:Str):Bool:= !(dX s.length 1 12)||decide (((s.getD 0 0).toNat:Int)<97)||decide (122<((s.getD 0 0).toNat:Int))
theorem adz(s:Str):validName s=((!(EG s)&&s.all fun c=>nameB c.toNat)&& !(uh.any fun x=>s==x)):=by
 rw[validName,ahB]
 congr 1
 cases s with
 |nil=>rfl
 |cons c r =>
  rw[UY (by simp),Xm];generalize ((c::r).all fun c=>nameB c.toNat)=A;simp only[EG,dX,List.isEmpty_cons,bN,List.getD_cons_zero];rw[cF];simp;cases A<;>simp<;>omega
theorem nm4{c:Nat}:(!(decide (97<=(c:Int))&&decide ((c:Int)<=122))&& !(decide (48<=(c:Int))&&decide ((c:Int)<=57))&&(c:Int) !=95)= !(nameB c):=by
 rw[ady,cF]; simp; omega
theorem S.kZ(s:Str):aj Tryz.prog 31 [.str s] (.bool (validName s)):=by
 refine aj.of Bd.kZ (by simp) rfl rfl ?_;refine ah.pure (S.aY s.length 1 12) rfl ?_;conv=>whnf
 repeat(refine VC.mk (by first|(first|exact fun q=>⟨q,by omega,wN q⟩|exact fun q=>⟨q,by omega,wN2 q⟩)|exact fun h=>h|(intro h; rw[h]; rfl)) ?_)
 refine⟨fun h1=>?_,fun h1=>?_⟩
 ·conv=>whnf
  exact ak.bool (by rw[adz,show EG s=true from h1]; rfl)
 have hs:s.length<2^40:=by
  have h1':EG s=false:=h1;simp only[EG,dX,bi,da,aD,ab] at h1';omega
 refine aF.same [0] (fun i:Nat=>[(3,.int i)]) (fun i=>i<=s.length/\(s.take i).all (fun c=>nameB c.toNat)=true) (fun i=>s.length-i) 0 rfl (by decide) rfl (fun _=>rfl) ⟨by omega,by simp⟩ ⟨⟨_,rfl,rfl⟩,trivial⟩ ?_;refine⟨rfl,?_⟩;rintro i ⟨hi,hall⟩;refine⟨fun h3=>?_,fun h3=>?_⟩
 ·have hi':i<s.length:=by simpa using h3
  repeat(refine VC.mk (by first|exact id|(omega)|(intro h; simp_all; done)) ?_)
  refine⟨fun h4=>?_,fun h4=>?_⟩
  ·conv=>whnf
   have h4':nameB (s.getD i 0).toNat=false:=by
    rw[nm4] at h4; simpa using h4
   exact ak.bool (by rw[adz,xY (d:=0) hi' h4',Bool.and_false]; rfl)
  ·conv=>whnf
   refine .mk (by simp only[okI] at *; omega) ?_;refine⟨i+1,⟨by omega,?_⟩,by omega,⟨⟨_,rfl,rfl⟩,trivial⟩,?_,rfl⟩
   ·rw[zS (d:=0) hi' hall];rw[nm4] at h4; simpa using h4
   ·repeat' (first|exact trivial|exact⟨_,rfl,rfl⟩|constructor)
 ·have hi':s.length<=i:=by simpa using h3
  rw[bk hi'] at hall;refine ah.pure (S.uy) rfl ?_;refine ah.pure (S.rZ uh s false (by rw[KJ]; decide)) rfl ?_;exact ak.bool (by rw[adz,show EG s=false from h1,hall]; rfl)
theorem S.kF(l:List Int)(n:Int)(f:Bool)(hl:l.length<2^40)(hn: -2^40<n/\n<2^40):aj Tryz.prog 35 [.row 0 f (.ints l),.int n] (.int (jr l n)):=by
 refine aj.of Bd.kF (by simp) rfl rfl ?_;refine aF.same [0,1] (fun i:Nat=>[(5,.int i)]) (fun i=>i<=l.length/\(l.take i).any (fun i=>sO i n)=false) (fun i=>l.length-i) 0 rfl (by decide) rfl (fun _=>rfl) ⟨by omega,by simp⟩ ⟨⟨_,rfl,rfl⟩,trivial⟩ ?_;refine⟨rfl,?_⟩;rintro i ⟨hi,hall⟩;refine⟨fun h3=>?_,fun h3=>?_⟩
 ·have hi':i<l.length:=by simpa using h3
  repeat(refine VC.mk (by simp only[okI,Rw.rng] at *; omega) ?_)
  refine ah.pure (S.aY (l.getD i 0) 0 (n-1)) rfl ?_;refine⟨fun h4=>?_,fun h4=>?_⟩
  ·have h4':sO (l.getD i 0) n=true:=by
    have:(!dX (l.getD i 0) 0 (n-1))=true:=h4
    rw[pX,et] at this; exact this
   refine ak.int ?_;rw[jr,oJ (d:=0) hi' h4']; rfl
  ·have h4':sO (l.getD i 0) n=false:=by
    have:(!dX (l.getD i 0) 0 (n-1))=false:=h4
    rw[pX,et] at this; exact this
   refine .mk (by simp only[okI] at *; omega) ?_;refine⟨i+1,⟨by omega,?_⟩,by omega,⟨⟨_,rfl,rfl⟩,trivial⟩,?_,rfl⟩
   ·rw[sS (d:=0) hi' hall]; exact h4'
   ·repeat' (first|exact trivial|exact⟨_,rfl,rfl⟩|constructor)
 ·have hi':l.length<=i:=by simpa using h3
  rw[bk hi'] at hall;refine aF.same [0] (fun i:Nat=>[(6,.int (i+1))]) (fun i=>(i<l.length\/i=0)/\Ii l=Ii (l.drop i)) (fun i=>l.length-i) 0 rfl (by decide) rfl (fun _=>rfl) ⟨by omega,by simp⟩ ⟨⟨_,rfl,rfl⟩,trivial⟩ ?_;refine⟨rfl,?_⟩;rintro i ⟨hi,hinc⟩;refine⟨fun h5=>?_,fun h5=>?_⟩
  ·have hi1:i+1<l.length:=by have:=aq h5; omega
   rw[dh 0 (show i<l.length by omega),dh 0 hi1] at hinc;simp only[Ii] at hinc;rw[<- dh 0 hi1] at hinc;repeat(refine VC.mk (by simp only[okI,Rw.rng] at *; omega) ?_)
   refine⟨fun h6=>?_,fun h6=>?_⟩
   ·have e1:((i:Int)+1).toNat=i+1:=by omega
    have e2:((i:Int)+1-1).toNat=i:=by omega
    rw[e1,e2] at h6;have h6':l.getD (i+1) 0<=l.getD i 0:=aq h6;refine ak.int ?_;rw[jr,hall,hinc,cH (by omega)]; rfl
   ·have e1:((i:Int)+1).toNat=i+1:=by omega
    have e2:((i:Int)+1-1).toNat=i:=by omega
    rw[e1,e2] at h6;have h6': ¬ l.getD (i+1) 0<=l.getD i 0:=aR h6;refine .mk (by simp only[okI] at *; omega) ?_;conv=>whnf
    rw[cY (by omega),cj] at hinc;refine⟨i+1,⟨by omega,hinc⟩,by omega,⟨⟨_,rfl,rfl⟩,trivial⟩,?_,rfl⟩;repeat' (first|exact trivial|exact⟨_,rfl,rfl⟩|constructor)
  ·conv=>whnf
   refine ak.int ?_;have h5': ¬ ((i:Int)+1<l.length):=aR h5
   have:Ii l=true:=by
    rw[hinc];rcases hd:l.drop i with _|⟨a,_|⟨b,r⟩⟩
    ·rfl
    ·rfl
    ·have:=eK List.length hd;simp only[bv,bN] at this;omega
   rw[jr,hall,this]; rfl
theorem S.yZ(p:aB)(r:Rule):aj Tryz.prog 71 [.dat (.fM p),.dat (.rule r)] (.bool (lC r p.topology)):=by
 refine aj.of Bd.yZ (by simp) rfl rfl ?_;repeat(refine VC.mk (by first|exact id|(intro h; simp_all; done)) ?_)
 refine⟨fun h1=>?_,fun h1=>?_⟩
 ·conv=>whnf
  exact ak.bool (by rw[lC]; erw [h1]; rfl)
 repeat(refine VC.mk (by first|exact id|(intro h; simp_all; done)) ?_)
 refine⟨fun h2=>?_,fun h2=>?_⟩
 ·conv=>whnf
  exact ak.bool (by rw[lC]; erw [h1,h2]; rfl)
 repeat(refine VC.mk (by first|exact id|(intro h; simp_all; done)) ?_)
 refine⟨fun h3=>?_,fun h3=>?_⟩
 ·conv=>whnf
  exact ak.bool (by rw[lC]; erw [h1,h2,h3]; rfl)
 repeat(refine VC.mk (by first|exact id|(intro h; rw[h]; rfl)|(intro h; simp_all; done)) ?_)
 refine⟨fun h4=>?_,fun h4=>?_⟩
 ·conv=>whnf
  exact ak.bool (by rw[lC]; erw [h1,h2,h3,h4]; rfl)
 repeat(refine VC.mk (by first|exact id|(intro h; simp_all; done)) ?_)
 refine⟨fun h5=>?_,fun h5=>?_⟩
 ·conv=>whnf
  exact ak.bool (by rw[lC]; erw [h1,h2,h3,h4,h5]; rfl)
 repeat(refine VC.mk (by first|exact id|(intro h; simp_all; done)) ?_)
 exact ak.bool (by rw[lC]; erw [h1,h2,h3,h4,h5]; rfl)
theorem adA(a b:BA):((a.message==b.message)&&(a.Hg==b.Hg)&&(a.bound==b.bound))=(b==a):=by
 obtain⟨m,c,l⟩:=a;obtain⟨m',c',l'⟩:=b;rw[cF];simp only[aD,bo,BA.mk.injEq];constructor
 ·rintro⟨⟨h1,h2⟩,h3⟩; exact⟨h1.symm,h2.symm,h3.symm⟩
 ·rintro⟨h1,h2,h3⟩; exact⟨⟨h1.symm,h2.symm⟩,h3.symm⟩
theorem S.kR(a b:BA):aj Tryz.prog 99 [.dat (.RF a),.dat (.RF b)] (.bool (b==a)):=by
 refine aj.of Bd.kR (by simp) rfl rfl ?_;repeat(refine VC.mk (by first|exact id|exact fun h=>⟨h,h⟩) ?_)
 exact ak.bool (adA a b).symm
theorem S.jY(l:List BA)(g:BA)(f:Bool)(hl:l.length<2^40):aj Tryz.prog 72 [.row 7 f (.rC l),.dat (.RF g)] (.int (zx g l 0)):=by
 refine aj.of Bd.jY (by simp) rfl rfl ?_;refine aF.same [0,3] (fun i:Nat=>[(5,.int i)]) (fun i=>i<=l.length/\zx g l 0=zx g (l.drop i) i) (fun i=>l.length-i) 0 rfl (by decide) rfl (fun _=>rfl) ⟨by omega,by simp⟩ ⟨⟨_,rfl,rfl⟩,trivial⟩ ?_;refine⟨rfl,?_⟩;rintro i ⟨hi,hall⟩;refine⟨fun h3=>?_,fun h3=>?_⟩
 ·have hi':i<l.length:=by simpa using h3
  rw[dh default hi'] at hall;simp only[zx] at hall;refine .mk (by simp only[Rw.rng] at *; omega) ?_;refine ah.pure (S.kR (l.getD i default) g) rfl ?_;refine⟨fun h4=>?_,fun h4=>?_⟩
  ·conv=>whnf
   refine ak.int ?_;have h4':(g==l.getD i default)=true:=h4;rw[hall,h4']; rfl
  ·conv=>whnf
   refine .mk (by simp only[okI] at *; omega) ?_;refine⟨i+1,⟨by omega,?_⟩,by omega,⟨⟨_,rfl,rfl⟩,trivial⟩,?_,rfl⟩
   ·have h4':(g==l.getD i default)=false:=h4;rw[hall,h4']; rfl
   ·repeat' (first|exact trivial|exact⟨_,rfl,rfl⟩|constructor)
 ·conv=>whnf
  refine ak.int ?_;have hi':l.length<=i:=by simpa using h3
  rw[hall,cD hi']; rfl
theorem UZ{g:BA}{l:List BA}:decide (zx g l 0<0)= !(l.any fun x=>g==x):=by
 rw[<- U0 (i:=0),cF]; simp
theorem S.uz(p:aB)(hp:dJ p):aj Tryz.prog 37 [.dat (.fM p)] (.row 7 false (.rC (AP p.rules))):=by
 have hp1:=hp.rules;refine aj.of Bd.uz (by simp) rfl rfl ?_;refine aF.nil 3 131 7 (by rfl) rfl rfl rfl ?_;refine aF.objs 2 [1] (fun i:Nat=>[(4,.int i),(3,.own 1)]) (fun i=>[(0,.box 27 11 (.dat (.fM p))),(1,rowT (AP (p.rules.take i)))]) (fun i=>i<=p.rules.length) (fun i=>p.rules.length-i) 0 [0,4] rfl (by decide) (fun _=>rfl) (ap _) ?_ ?_ ?_
 ·exact(sR rfl)
 ·exact⟨gK rfl rfl,gK rfl rfl,trivial⟩
 refine⟨(sR rfl),rfl,?_⟩;rintro i hi;refine⟨fun h3=>?_,fun h3=>?_⟩
 ·have hi':i<p.rules.length:=by simpa using h3
  refine aF.objs 2 [1,4] (fun k:Nat=>[(5,.int k),(3,.own 1)]) (fun k=>[(0,.box 27 11 (.dat (.fM p))),(1,rowT (AQ p i k))]) (fun k=>k<=(p.rules.getD i default).guards.length) (fun k=>(p.rules.getD i default).guards.length-k) 0 [0,1] rfl (by decide) (fun _=>rfl) (ap _) ?_ ?_ ?_
  ·exact(sR rfl)
  ·exact⟨gK rfl rfl,gK rfl rfl,trivial⟩
  refine⟨(sR rfl),rfl,?_⟩;rintro k hk;have hacc:=U3 p hp i k hi';have hg:=(hp.rule i).guards;refine .mk (by simp only[Rw.rng] at *; first|omega|(simp_all; done)|(simp_all; omega)) ?_;refine⟨fun h4=>?_,fun h4=>?_⟩
  ·have hk':k<(p.rules.getD i default).guards.length:=by simpa using h4
   have hst:AQ p i (k+1)=J6 (AQ p i k) ((p.rules.getD i default).guards.getD k default):=DY hk';repeat(refine VC.mk (by simp only[Rw.rng] at *; first|omega|(simp_all; done)|(simp_all; omega)) ?_)
   refine ah.lend (S.jY (AQ p i k) ((p.rules.getD i default).guards.getD k default) false (by omega)) (And.intro (adB trivial rfl) (And.intro (aG _) trivial)) rfl rfl ?_;refine⟨fun h5=>?_,fun h5=>?_⟩
   ·conv=>whnf
    repeat(refine VC.mk (by first|(show((AQ p i k).length+(0+1))*48<=140737488355328/\(AQ p i k).length+(0+1)<=1152921504606846976; omega)|(simp only[okI] at *; first|omega|(simp_all; done)|(simp_all; omega))) ?_)
    have h5':((AQ p i k).any fun x=>(p.rules.getD i default).guards.getD k default==x)=false:=by rw[UZ] at h5; simpa using h5
    refine⟨k+1,[0,29],by omega,by omega,(sR rfl),(sR rfl),gK rfl rfl,⟨rfl,nofun,rfl,rfl,rfl,_,rfl,rfl,rfl,dH.of_eq ?_⟩,trivial⟩;rw[hst,J6,h5']; rfl
   ·conv=>whnf
    refine .mk (by simp only[okI] at *; first|omega|(simp_all; done)|(simp_all; omega)) ?_;conv=>whnf
    have h5':((AQ p i k).any fun x=>(p.rules.getD i default).guards.getD k default==x)=true:=by rw[UZ] at h5; simpa using h5
    refine⟨k+1,[0,1],by omega,by omega,(sR rfl),(sR rfl),gK rfl rfl,⟨rfl,nofun,rfl,rfl,rfl,_,rfl,rfl,rfl,dH.of_eq ?_⟩,trivial⟩;rw[hst,J6,h5']; rfl
  ·have hk':(p.rules.getD i default).guards.length<=k:=by simpa using h4
   have e:k=(p.rules.getD i default).guards.length:=fc hk hk';subst e;refine .mk (by simp only[okI] at *; first|omega|(simp_all; done)|(simp_all; omega)) ?_;refine⟨i+1,[0,1],by omega,by omega,(sR rfl),(sR rfl),gK rfl rfl,⟨rfl,nofun,rfl,rfl,rfl,_,rfl,rfl,rfl,dH.of_eq ?_⟩,trivial⟩;rw[Qb p hi']
 ·have hi':p.rules.length<=i:=by simpa using h3
  rw[bk hi'];exact ak.aiX rfl
def Cc(p:aB)(r:Rule):Bool:=(r.read != -1&& !(dX r.read 0 (p.values.length-1)))||(r.write != -1&& !(dX r.write 0 (p.values.length-1)))
def Gh(p:aB)(r:Rule):Bool:=(r.kind==4)&&(!(dX r.pos 0 2)||(r.pos !=0&&p.topology==3))
def Gi(p:aB)(r:Rule):Bool:=((r.kind==5)&&(p.topology==4))&& !(dX r.direction 3 4)
def Gj(p:aB)(r:Rule):Bool:=((r.kind==5)&&(p.topology !=4))&& !(dX r.direction 1 2)
def iK(p:aB)(r:Rule):Int :=
 let n:Int:=p.states.length
 bJ [jo p r.guards,eF (decide ((r.guards.length:Int)>2)) 4,jr r.ex n,jr r.all n,eF (Cc p r) 5,jr r.send p.messages.length,jr r.left n,jr r.right n,jr r.parent n,eF (Gh p r) 1,eF (Gi p r) 1,eF (Gj p r) 1]
def JM(p:aB)(r:Rule):Bool :=
 let n:Int:=p.states.length
 (!(dX r.fr 0 (n-1))|| !(dX r.to 0 (n-1)))||((r.kind==2||r.kind==5)&&(!(dX r.dZ 0 (n-1))|| !(dX r.y7 0 (n-1))))
def JO(p:aB)(r:Rule):Bool:=(!(dX r.kind 1 5)||(decide (r.kind<=3) !=(p.topology==1)))||lC r p.topology
def AU(p:aB)(i:Nat):Int :=
 let r:=p.rules.getD i default
 bif !(validName r.name) then 2 else bif (p.rules.take i).any (fun x=>x.name==r.name) then 2 else bif JO p r then 6 else bif JM p r then 5 else
 bif r.kind==3 then(bif (r.response.length:Int) !=p.states.length then 1 else bif qV r.response p.states.length !=0 then qV r.response p.states.length else iK p r) else iK p r
theorem sF{n lo hi:Int}:(!(dX n lo hi))=(decide (n<lo)||decide (n>hi)):=by
 unfold dX; rw[cF]; simp
theorem Vq{a b:Int}(h:(a !=b)=false):a=b:=by simpa using h
theorem f00{v:Int}{r:List Int}:bJ (eF false v::r)=bJ r:=rfl
theorem f0{r:List Int}:bJ (0::r)=bJ r:=rfl
theorem fN{x:Int}{r:List Int}(h:x≠0):bJ (x::r)=x:=av h
set_option maxHeartbeats 1000000 in
theorem S.DZ(p:aB)(i:Nat)(hi:i<p.rules.length)(hp:dJ p):aj Tryz.prog 36 [.dat (.fM p),.int i] (.int (AU p i)):=by
 have hr:=hp.rule i;have hp1:=hp.rules;have hp2:=hp.states;have hp3:=hp.messages;have hp4:=hp.values;refine aj.of Bd.DZ (by simp) rfl rfl ?_;refine .mk (by simp only[Rw.rng] at *; first|omega|(simp_all; done)|(simp_all; omega)) ?_;refine ah.pure (S.kZ (p.rules.getD i default).name) rfl ?_;refine⟨fun h1=>?_,fun h1=>?_⟩
 ·conv=>whnf
  exact ak.int (by rw[AU,h1]; rfl)
 refine aF.same [1,2,5,6] (fun j:Nat=>[(7,.int j)]) (fun j=>j<=i/\(p.rules.take j).any (fun x=>x.name==(p.rules.getD i default).name)=false) (fun j=>i-j) 0 rfl (by decide) rfl (fun _=>rfl) ⟨by omega,by simp⟩ ⟨⟨_,rfl,rfl⟩,trivial⟩ ?_;refine⟨rfl,?_⟩;rintro j ⟨hj,hall⟩;refine⟨fun h2=>?_,fun h2=>?_⟩
 ·have hj':j<i:=by simpa using h2
  have hj2:j<p.rules.length:=by omega
  refine .mk (by simp only[Rw.rng] at *; first|omega|(simp_all; done)|(simp_all; omega)) ?_;refine⟨fun h3=>?_,fun h3=>?_⟩
  ·conv=>whnf
   have hb:(p.rules.take i).any (fun x=>x.name==(p.rules.getD i default).name)=true:=by
    rw[di];refine⟨p.rules.getD j default,?_,h3⟩;rw[show p.rules.getD j default=p.rules[j] by simp[hj2],eD];exact⟨j,by omega,rfl⟩
   exact ak.int (by rw[AU,h1,hb]; rfl)
  ·conv=>whnf
   refine .mk (by simp only[okI] at *; first|omega|(simp_all; done)|(simp_all; omega)) ?_;refine⟨j+1,⟨by omega,?_⟩,by omega,⟨⟨_,rfl,rfl⟩,trivial⟩,?_,rfl⟩
   ·rw[sS (d:=default) hj2 hall]; exact h3
   ·repeat' (first|exact trivial|exact⟨_,rfl,rfl⟩|constructor)
 have hj':i<=j:=by simpa using h2
 have e:i=j:=fc hj' hj;subst e;refine ah.pure (S.aY (p.rules.getD i default).kind 1 5) rfl ?_;repeat(refine VC.mk (by first|exact id|exact fun h=>⟨h,h⟩|(intro h; rw[h]; rfl)) ?_)
 refine ah.eY (fun _=>S.yZ p (p.rules.getD i default)) rfl ?_;refine .mk (by intro h; rw[h]; rfl) ?_;refine⟨fun h4=>?_,fun h4=>?_⟩
 ·conv=>whnf
  exact ak.int (by rw[AU,h1,hall,show JO p (p.rules.getD i default)=true from h4]; rfl)
 repeat(refine VC.mk (by first|exact id|(intro h; rw[h]; rfl)|(simp only[okI] at *; first|omega|(simp_all; done)|(simp_all; omega))) ?_)
 refine ah.pure (S.aY (p.rules.getD i default).fr 0 (p.states.length-1)) rfl ?_;repeat(refine VC.mk (by first|exact id|exact fun h=>⟨h,h⟩|(intro h; (repeat' apply And.intro)<;>first|exact h|omega|(simp only[Rw.sH]; omega)|(simp only[Rw.rng]; omega))) ?_)
 refine ah.eY (fun _=>S.aY (p.rules.getD i default).to 0 (p.states.length-1)) rfl ?_;repeat(refine VC.mk (by first|exact id|exact fun h=>⟨h,h⟩|(intro h; rw[h]; rfl)|(intro h; (repeat' apply And.intro)<;>first|exact h|omega|(simp only[Rw.sH]; omega)|(simp only[Rw.rng]; omega))) ?_)
 refine ah.eY (fun _=>S.aY (p.rules.getD i default).dZ 0 (p.states.length-1)) rfl ?_;repeat(refine VC.mk (by first|exact id|exact fun h=>⟨h,h⟩|(intro h; (repeat' apply And.intro)<;>first|exact h|omega|(simp only[Rw.sH]; omega)|(simp only[Rw.rng]; omega))) ?_)
 refine ah.eY (fun _=>S.aY (p.rules.getD i default).y7 0 (p.states.length-1)) rfl ?_;repeat(refine VC.mk (by first|exact id|(intro h; rw[h]; rfl)|(intro h; simp_all; done)) ?_)
 refine⟨fun h5=>?_,fun h5=>?_⟩
 ·conv=>whnf
  exact ak.int (by rw[AU,h1,hall,show JO p (p.rules.getD i default)=false from h4,show JM p (p.rules.getD i default)=true from h5]; rfl)
 refine⟨fun h6=>?_,fun h6=>?_⟩
 ·replace h6:((p.rules.getD i default).kind==3)=true:=h6;refine⟨fun h7=>?_,fun h7=>?_⟩
  ·replace h7:(((p.rules.getD i default).response.length:Int) !=p.states.length)=true:=h7;exact ak.int (by rw[AU,h1,hall,show JO p (p.rules.getD i default)=false from h4,show JM p (p.rules.getD i default)=false from h5,h6,h7]; rfl)
  replace h7:(((p.rules.getD i default).response.length:Int) !=p.states.length)=false:=h7;have hn:(p.rules.getD i default).response.length=p.states.length:=by
   have:((p.rules.getD i default).response.length:Int)=p.states.length:=Vq h7
   omega
  refine aF.same [2,5,6] (fun k:Nat=>[(9,.int k)]) (fun k=>k<=p.states.length/\qV (p.rules.getD i default).response p.states.length=qV ((p.rules.getD i default).response.drop k) p.states.length) (fun k=>p.states.length-k) 0 rfl (by decide) rfl (fun _=>rfl) ⟨by omega,by simp⟩ ⟨⟨_,rfl,rfl⟩,trivial⟩ ?_;refine⟨rfl,?_⟩;rintro k ⟨hk,hg⟩;refine⟨fun g1=>?_,fun g1=>?_⟩
  ·have hk':k<(p.rules.getD i default).response.length:=by rw[hn]; simpa using g1
   rw[dh 0 hk'] at hg;simp only[qV] at hg;repeat(refine VC.mk (by simp only[okI,Rw.rng] at *; first|omega|(simp_all; done)|(simp_all; omega)) ?_)
   refine ah.pure (S.aY ((p.rules.getD i default).response.getD k 0) 0 (p.states.length-1)) rfl ?_;refine⟨fun g2=>?_,fun g2=>?_⟩
   ·rw[pX,et] at g2;have e:dn ((p.rules.getD i default).response.getD k 0) p.states.length=5:=by rw[dn,g2]; rfl
    rw[e,av (by decide)] at hg;exact ak.int (by rw[AU,h1,hall,show JO p (p.rules.getD i default)=false from h4,show JM p (p.rules.getD i default)=false from h5,h6,h7,hg]; rfl)
   rw[pX,et] at g2;have e:dn ((p.rules.getD i default).response.getD k 0) p.states.length=0:=by rw[dn,g2]; rfl
   rw[ba e] at hg;refine .mk (by simp only[okI] at *; first|omega|(simp_all; done)|(simp_all; omega)) ?_;refine⟨k+1,⟨by omega,hg⟩,by omega,⟨⟨_,rfl,rfl⟩,trivial⟩,?_,rfl⟩;repeat' (first|exact trivial|exact⟨_,rfl,rfl⟩|constructor)
  have hk':(p.rules.getD i default).response.length<=k:=by rw[hn]; simpa using g1
  rw[cD hk'] at hg;replace hg:qV (p.rules.getD i default).response p.states.length=0:=hg;have hR:AU p i=iK p (p.rules.getD i default):=by
   rw[AU,h1,hall,show JO p (p.rules.getD i default)=false from h4,show JM p (p.rules.getD i default)=false from h5,h6,h7,hg]; rfl
  clear hg g1 hk' hk;refine aF.same [2,5,6] (fun k:Nat=>[(10,.int k)]) (fun k=>k<=(p.rules.getD i default).guards.length/\jo p (p.rules.getD i default).guards=jo p ((p.rules.getD i default).guards.drop k)) (fun k=>(p.rules.getD i default).guards.length-k) 0 rfl (by decide) rfl (fun _=>rfl) ⟨by omega,by simp⟩ ⟨⟨_,rfl,rfl⟩,trivial⟩ ?_;refine⟨rfl,?_⟩;rintro k ⟨hk,hg⟩;have hgl:=hr.guards;refine⟨fun g1=>?_,fun g1=>?_⟩
  ·have hk':k<(p.rules.getD i default).guards.length:=by simpa using g1
   rw[dh default hk'] at hg;simp only[jo] at hg;repeat(refine VC.mk (by simp only[okI,Rw.rng] at *; first|omega|(simp_all; done)|(simp_all; omega)) ?_)
   refine ah.pure (S.aY ((p.rules.getD i default).guards.getD k default).message 0 (p.messages.length-1)) rfl ?_;refine⟨fun g2=>?_,fun g2=>?_⟩
   ·rw[pX,et] at g2;have e:guardE p ((p.rules.getD i default).guards.getD k default)=5:=by rw[guardE,dn,g2]; rfl
    rw[e,av (by decide)] at hg;exact ak.int (by rw[hR,iK,hg]; rfl)
   rw[pX,et] at g2;refine ah.pure (S.aY ((p.rules.getD i default).guards.getD k default).Hg 1 100) rfl ?_;refine⟨fun g3=>?_,fun g3=>?_⟩
   ·rw[sF] at g3;have e:guardE p ((p.rules.getD i default).guards.getD k default)=1:=by rw[guardE,dn,g2,g3]; rfl
    rw[e,av (by decide)] at hg;exact ak.int (by rw[hR,iK,hg]; rfl)
   rw[sF] at g3;refine ah.pure (S.BO ((p.rules.getD i default).guards.getD k default).bound) rfl ?_;refine⟨fun g4=>?_,fun g4=>?_⟩
   ·have e:guardE p ((p.rules.getD i default).guards.getD k default)=4:=by rw[guardE,dn,g2,g3,g4]; rfl
    rw[e,av (by decide)] at hg;exact ak.int (by rw[hR,iK,hg]; rfl)
   have e:guardE p ((p.rules.getD i default).guards.getD k default)=0:=by rw[guardE,dn,g2,g3,g4]; rfl
   rw[ba e] at hg;refine .mk (by simp only[okI] at *; first|omega|(simp_all; done)|(simp_all; omega)) ?_;refine⟨k+1,⟨by omega,hg⟩,by omega,⟨⟨_,rfl,rfl⟩,trivial⟩,?_,rfl⟩;repeat' (first|exact trivial|exact⟨_,rfl,rfl⟩|constructor)
  have hk':(p.rules.getD i default).guards.length<=k:=by simpa using g1
  rw[cD hk'] at hg;replace hg:jo p (p.rules.getD i default).guards=0:=hg;refine⟨fun c1=>?_,fun c1=>?_⟩
  ·replace c1:decide (((p.rules.getD i default).guards.length:Int)>2)=true:=c1;exact ak.int (by rw[hR,iK,hg,c1]; rfl)
  replace c1:decide (((p.rules.getD i default).guards.length:Int)>2)=false:=c1;refine ah.pure (S.kF (p.rules.getD i default).ex p.states.length false (by have:=hr.ex; omega) ⟨by omega,by omega⟩) rfl ?_;refine⟨fun c2=>?_,fun c2=>?_⟩
  ·conv=>whnf
   exact ak.int (by rw[hR,iK,hg,c1]; simp only[f00,f0,fN (U4 c2)])
  replace c2:=EP c2;refine ah.pure (S.kF (p.rules.getD i default).all p.states.length false (by have:=hr.all; omega) ⟨by omega,by omega⟩) rfl ?_;refine⟨fun c3=>?_,fun c3=>?_⟩
  ·conv=>whnf
   exact ak.int (by rw[hR,iK,hg,c1,c2]; simp only[f00,f0,fN (U4 c3)])
  replace c3:=EP c3;repeat(refine VC.mk (by first|exact id|exact fun h=>⟨h,h⟩|(intro h; (repeat' apply And.intro)<;>first|exact h|omega|(simp only[Rw.sH]; omega)|(simp only[Rw.rng]; omega))) ?_)
  refine ah.eY (fun _=>S.aY (p.rules.getD i default).read 0 (p.values.length-1)) rfl ?_;repeat(refine VC.mk (by first|exact id|exact fun h=>⟨h,h⟩|(intro h; (repeat' apply And.intro)<;>first|exact h|omega|(simp only[Rw.sH]; omega)|(simp only[Rw.rng]; omega))) ?_)
  refine ah.eY (fun _=>S.aY (p.rules.getD i default).write 0 (p.values.length-1)) rfl ?_;repeat(refine VC.mk (by first|exact id|(intro h; rw[h]; rfl)|(intro h; simp_all; done)) ?_)
  refine⟨fun c4=>?_,fun c4=>?_⟩
  ·conv=>whnf
   exact ak.int (by rw[hR,iK,hg,c1,c2,c3,show Cc p (p.rules.getD i default)=true from c4]; rfl)
  replace c4:Cc p (p.rules.getD i default)=false:=c4;refine ah.pure (S.kF (p.rules.getD i default).send p.messages.length false (by have:=hr.send; omega) ⟨by omega,by omega⟩) rfl ?_;refine⟨fun c5=>?_,fun c5=>?_⟩
  ·conv=>whnf
   exact ak.int (by rw[hR,iK,hg,c1,c2,c3,c4]; simp only[f00,f0,fN (U4 c5)])
  replace c5:=EP c5;refine ah.pure (S.kF (p.rules.getD i default).left p.states.length false (by have:=hr.left; omega) ⟨by omega,by omega⟩) rfl ?_;refine⟨fun c6=>?_,fun c6=>?_⟩
  ·conv=>whnf
   exact ak.int (by rw[hR,iK,hg,c1,c2,c3,c4,c5]; simp only[f00,f0,fN (U4 c6)])
  replace c6:=EP c6;refine ah.pure (S.kF (p.rules.getD i default).right p.states.length false (by have:=hr.right; omega) ⟨by omega,by omega⟩) rfl ?_;refine⟨fun c7=>?_,fun c7=>?_⟩
  ·conv=>whnf
   exact ak.int (by rw[hR,iK,hg,c1,c2,c3,c4,c5,c6]; simp only[f00,f0,fN (U4 c7)])
  replace c7:=EP c7;refine ah.pure (S.kF (p.rules.getD i default).parent p.states.length false (by have:=hr.parent; omega) ⟨by omega,by omega⟩) rfl ?_;refine⟨fun c8=>?_,fun c8=>?_⟩
  ·conv=>whnf
   exact ak.int (by rw[hR,iK,hg,c1,c2,c3,c4,c5,c6,c7]; simp only[f00,f0,fN (U4 c8)])
  replace c8:=EP c8;repeat(refine VC.mk id ?_)
  refine ah.eY (fun _=>S.aY (p.rules.getD i default).pos 0 2) rfl ?_;repeat(refine VC.mk (by first|exact id|(intro h; simp_all; done)) ?_)
  refine⟨fun c9=>?_,fun c9=>?_⟩
  ·conv=>whnf
   exact ak.int (by rw[hR,iK,hg,c1,c2,c3,c4,c5,c6,c7,c8,show Gh p (p.rules.getD i default)=true from c9]; rfl)
  replace c9:Gh p (p.rules.getD i default)=false:=c9;repeat(refine VC.mk id ?_)
  refine ah.eY (fun _=>S.aY (p.rules.getD i default).direction 3 4) rfl ?_;repeat(refine VC.mk id ?_)
  refine⟨fun c10=>?_,fun c10=>?_⟩
  ·conv=>whnf
   exact ak.int (by rw[hR,iK,hg,c1,c2,c3,c4,c5,c6,c7,c8,c9,show Gi p (p.rules.getD i default)=true from c10]; rfl)
  replace c10:Gi p (p.rules.getD i default)=false:=c10;repeat(refine VC.mk id ?_)
  refine ah.eY (fun _=>S.aY (p.rules.getD i default).direction 1 2) rfl ?_;repeat(refine VC.mk id ?_)
  refine⟨fun c11=>?_,fun c11=>?_⟩
  ·conv=>whnf
   exact ak.int (by rw[hR,iK,hg,c1,c2,c3,c4,c5,c6,c7,c8,c9,c10,show Gj p (p.rules.getD i default)=true from c11]; rfl)
  replace c11:Gj p (p.rules.getD i default)=false:=c11;exact ak.int (by rw[hR,iK,hg,c1,c2,c3,c4,c5,c6,c7,c8,c9,c10,c11]; rfl)
 ·replace h6:((p.rules.getD i default).kind==3)=false:=h6;have hR:AU p i=iK p (p.rules.getD i default):=by
   rw[AU,h1,hall,show JO p (p.rules.getD i default)=false from h4,show JM p (p.rules.getD i default)=false from h5,h6]; rfl
  refine aF.same [2,5,6] (fun k:Nat=>[(10,.int k)]) (fun k=>k<=(p.rules.getD i default).guards.length/\jo p (p.rules.getD i default).guards=jo p ((p.rules.getD i default).guards.drop k)) (fun k=>(p.rules.getD i default).guards.length-k) 0 rfl (by decide) rfl (fun _=>rfl) ⟨by omega,by simp⟩ ⟨⟨_,rfl,rfl⟩,trivial⟩ ?_;refine⟨rfl,?_⟩;rintro k ⟨hk,hg⟩;have hgl:=hr.guards;refine⟨fun g1=>?_,fun g1=>?_⟩
  ·have hk':k<(p.rules.getD i default).guards.length:=by simpa using g1
   rw[dh default hk'] at hg;simp only[jo] at hg;repeat(refine VC.mk (by simp only[okI,Rw.rng] at *; first|omega|(simp_all; done)|(simp_all; omega)) ?_)
   refine ah.pure (S.aY ((p.rules.getD i default).guards.getD k default).message 0 (p.messages.length-1)) rfl ?_;refine⟨fun g2=>?_,fun g2=>?_⟩
   ·rw[pX,et] at g2;have e:guardE p ((p.rules.getD i default).guards.getD k default)=5:=by rw[guardE,dn,g2]; rfl
    rw[e,av (by decide)] at hg;exact ak.int (by rw[hR,iK,hg]; rfl)
   rw[pX,et] at g2;refine ah.pure (S.aY ((p.rules.getD i default).guards.getD k default).Hg 1 100) rfl ?_;refine⟨fun g3=>?_,fun g3=>?_⟩
   ·rw[sF] at g3;have e:guardE p ((p.rules.getD i default).guards.getD k default)=1:=by rw[guardE,dn,g2,g3]; rfl
    rw[e,av (by decide)] at hg;exact ak.int (by rw[hR,iK,hg]; rfl)
   rw[sF] at g3;refine ah.pure (S.BO ((p.rules.getD i default).guards.getD k default).bound) rfl ?_;refine⟨fun g4=>?_,fun g4=>?_⟩
   ·have e:guardE p ((p.rules.getD i default).guards.getD k default)=4:=by rw[guardE,dn,g2,g3,g4]; rfl
    rw[e,av (by decide)] at hg;exact ak.int (by rw[hR,iK,hg]; rfl)
   have e:guardE p ((p.rules.getD i default).guards.getD k default)=0:=by rw[guardE,dn,g2,g3,g4]; rfl
   rw[ba e] at hg;refine .mk (by simp only[okI] at *; first|omega|(simp_all; done)|(simp_all; omega)) ?_;refine⟨k+1,⟨by omega,hg⟩,by omega,⟨⟨_,rfl,rfl⟩,trivial⟩,?_,rfl⟩;repeat' (first|exact trivial|exact⟨_,rfl,rfl⟩|constructor)
  have hk':(p.rules.getD i default).guards.length<=k:=by simpa using g1
  rw[cD hk'] at hg;replace hg:jo p (p.rules.getD i default).guards=0:=hg;refine⟨fun c1=>?_,fun c1=>?_⟩
  ·replace c1:decide (((p.rules.getD i default).guards.length:Int)>2)=true:=c1;exact ak.int (by rw[hR,iK,hg,c1]; rfl)
  replace c1:decide (((p.rules.getD i default).guards.length:Int)>2)=false:=c1;refine ah.pure (S.kF (p.rules.getD i default).ex p.states.length false (by have:=hr.ex; omega) ⟨by omega,by omega⟩) rfl ?_;refine⟨fun c2=>?_,fun c2=>?_⟩
  ·conv=>whnf
   exact ak.int (by rw[hR,iK,hg,c1]; simp only[f00,f0,fN (U4 c2)])
  replace c2:=EP c2;refine ah.pure (S.kF (p.rules.getD i default).all p.states.length false (by have:=hr.all; omega) ⟨by omega,by omega⟩) rfl ?_;refine⟨fun c3=>?_,fun c3=>?_⟩
  ·conv=>whnf
   exact ak.int (by rw[hR,iK,hg,c1,c2]; simp only[f00,f0,fN (U4 c3)])
  replace c3:=EP c3;repeat(refine VC.mk (by first|exact id|exact fun h=>⟨h,h⟩|(intro h; (repeat' apply And.intro)<;>first|exact h|omega|(simp only[Rw.sH]; omega)|(simp only[Rw.rng]; omega))) ?_)
  refine ah.eY (fun _=>S.aY (p.rules.getD i default).read 0 (p.values.length-1)) rfl ?_;repeat(refine VC.mk (by first|exact id|exact fun h=>⟨h,h⟩|(intro h; (repeat' apply And.intro)<;>first|exact h|omega|(simp only[Rw.sH]; omega)|(simp only[Rw.rng]; omega))) ?_)
  refine ah.eY (fun _=>S.aY (p.rules.getD i default).write 0 (p.values.length-1)) rfl ?_;repeat(refine VC.mk (by first|exact id|(intro h; rw[h]; rfl)|(intro h; simp_all; done)) ?_)
  refine⟨fun c4=>?_,fun c4=>?_⟩
  ·conv=>whnf
   exact ak.int (by rw[hR,iK,hg,c1,c2,c3,show Cc p (p.rules.getD i default)=true from c4]; rfl)
  replace c4:Cc p (p.rules.getD i default)=false:=c4;refine ah.pure (S.kF (p.rules.getD i default).send p.messages.length false (by have:=hr.send; omega) ⟨by omega,by omega⟩) rfl ?_;refine⟨fun c5=>?_,fun c5=>?_⟩
  ·conv=>whnf
   exact ak.int (by rw[hR,iK,hg,c1,c2,c3,c4]; simp only[f00,f0,fN (U4 c5)])
  replace c5:=EP c5;refine ah.pure (S.kF (p.rules.getD i default).left p.states.length false (by have:=hr.left; omega) ⟨by omega,by omega⟩) rfl ?_;refine⟨fun c6=>?_,fun c6=>?_⟩
  ·conv=>whnf
   exact ak.int (by rw[hR,iK,hg,c1,c2,c3,c4,c5]; simp only[f00,f0,fN (U4 c6)])
  replace c6:=EP c6;refine ah.pure (S.kF (p.rules.getD i default).right p.states.length false (by have:=hr.right; omega) ⟨by omega,by omega⟩) rfl ?_;refine⟨fun c7=>?_,fun c7=>?_⟩
  ·conv=>whnf
   exact ak.int (by rw[hR,iK,hg,c1,c2,c3,c4,c5,c6]; simp only[f00,f0,fN (U4 c7)])
  replace c7:=EP c7;refine ah.pure (S.kF (p.rules.getD i default).parent p.states.length false (by have:=hr.parent; omega) ⟨by omega,by omega⟩) rfl ?_;refine⟨fun c8=>?_,fun c8=>?_⟩
  ·conv=>whnf
   exact ak.int (by rw[hR,iK,hg,c1,c2,c3,c4,c5,c6,c7]; simp only[f00,f0,fN (U4 c8)])
  replace c8:=EP c8;repeat(refine VC.mk id ?_)
  refine ah.eY (fun _=>S.aY (p.rules.getD i default).pos 0 2) rfl ?_;repeat(refine VC.mk (by first|exact id|(intro h; simp_all; done)) ?_)
  refine⟨fun c9=>?_,fun c9=>?_⟩
  ·conv=>whnf
   exact ak.int (by rw[hR,iK,hg,c1,c2,c3,c4,c5,c6,c7,c8,show Gh p (p.rules.getD i default)=true from c9]; rfl)
  replace c9:Gh p (p.rules.getD i default)=false:=c9;repeat(refine VC.mk id ?_)
  refine ah.eY (fun _=>S.aY (p.rules.getD i default).direction 3 4) rfl ?_;repeat(refine VC.mk id ?_)
  refine⟨fun c10=>?_,fun c10=>?_⟩
  ·conv=>whnf
   exact ak.int (by rw[hR,iK,hg,c1,c2,c3,c4,c5,c6,c7,c8,c9,show Gi p (p.rules.getD i default)=true from c10]; rfl)
  replace c10:Gi p (p.rules.getD i default)=false:=c10;repeat(refine VC.mk id ?_)
  refine ah.eY (fun _=>S.aY (p.rules.getD i default).direction 1 2) rfl ?_;repeat(refine VC.mk id ?_)
  refine⟨fun c11=>?_,fun c11=>?_⟩
  ·conv=>whnf
   exact ak.int (by rw[hR,iK,hg,c1,c2,c3,c4,c5,c6,c7,c8,c9,c10,show Gj p (p.rules.getD i default)=true from c11]; rfl)
  replace c11:Gj p (p.rules.getD i default)=false:=c11;exact ak.int (by rw[hR,iK,hg,c1,c2,c3,c4,c5,c6,c7,c8,c9,c10,c11]; rfl)
end Go.Proofs.YtbdbmfccbpfeoaaGreatDoor
