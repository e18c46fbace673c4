/-
 A part of the proof. No condition.
-/
import Derived.Test.YtbdbmfccbpfeoabGreatDoorVa
namespace Go.Proofs.YtbdbmfccbpfeoabGreatDoor
open Go.Ab Go.Proofs
set_option maxRecDepth 100000
def iF(n lo hi:Int):Bool:=decide (n>=lo)&&decide (n<=hi)
theorem S.aY(n lo hi:Int):aj Tryz.prog 92 [.int n,.int lo,.int hi] (.bool (iF n lo hi)):=by
 refine aj.of Bd.aY (by simp) rfl rfl ?_;repeat(refine VC.mk (by first|exact id|exact fun h=>⟨h,h⟩) ?_)
 exact ak.bool rfl
theorem qE{x n:Int}:iF x 0 (n-1)= !(pR x n):=by
 unfold iF pR;rw[cK]; simp; omega
theorem S.Bq(l:Lin):aj Tryz.prog 119 [.dat (.lin l)] (.bool (U0 l)):=by
 refine aj.of Bd.Bq (by simp) rfl rfl ?_;refine ah.pure (S.aY l.c (-100) 100) rfl ?_;repeat(refine VC.mk id ?_)
 refine ah.gW (fun _=>S.aY l.n (-100) 100) rfl ?_;repeat(refine VC.mk id ?_)
 refine ah.gW (fun _=>S.aY l.t (-100) 100) rfl ?_;repeat(refine VC.mk id ?_)
 refine ah.gW (fun _=>S.aY l.f (-100) 100) rfl ?_;refine VC.mk id ?_;exact ak.bool rfl
theorem S.rZ(l:List Str)(s:Str)(f:Bool)(hl:l.length<2^40):aj Tryz.prog 118 [.row 0 f (.strs l),.str s] (.bool (l.any fun x=>s==x)):=by
 refine aj.of Bd.rZ (by simp) rfl rfl ?_;refine aA.same [0,1] (fun i:Nat=>[(5,.int i)]) (fun i=>i<=l.length/\(l.take i).any (fun x=>s==x)=false) (fun i=>l.length-i) 0 rfl (by decide) rfl (fun _=>rfl) ⟨by omega,by simp⟩ ⟨⟨_,rfl,rfl⟩,trivial⟩ ?_;refine⟨rfl,?_⟩;rintro i ⟨hi,hall⟩;refine⟨fun h3=>?_,fun h3=>?_⟩
 ·have hi':i<l.length:=by simpa using h3
  refine .mk (by simp only[Rw.rng] at *; omega) ?_;refine⟨fun h4=>?_,fun h4=>?_⟩
  ·have h4':(s==l.getD i [])=true:=by rw[show(s==l.getD i [])=(l.getD i []==s) from Bool.beq_comm]; exact h4
   exact ak.bool (iE (d:=[]) hi' h4')
  ·have h4':(s==l.getD i [])=false:=by rw[show(s==l.getD i [])=(l.getD i []==s) from Bool.beq_comm]; exact h4
   refine .mk (by simp only[okI] at *; omega) ?_;refine⟨i+1,⟨by omega,?_⟩,by omega,⟨⟨_,rfl,rfl⟩,trivial⟩,?_,rfl⟩
   ·rw[jU (d:=[]) hi' hall]; exact h4'
   ·repeat' (first|exact trivial|exact⟨_,rfl,rfl⟩|constructor)
 ·have hi':l.length<=i:=by simpa using h3
  rw[bB hi'] at hall;exact ak.bool hall
theorem S.uj:aj Tryz.prog 122 [] (.row 0 false (.strs ug)):=by
 refine aj.of Bd.uj (by simp) rfl rfl ?_;exact ak.row (dt Rw.strs (by kernel_rfl))
theorem Ec(s:Str):(bs s).toList=s:=by rw[Lib.toList_data]; rfl
theorem agY(s:Str):nmB (bs s)=(!(s.isEmpty)&& !(decide (12<(s.length:Int)))&&lZ s):=by
 unfold nmB;rw[Ec,KA]; rfl
theorem U3{c:Nat}(h:kJ c=true):nameB c=true:=by unfold nameB; rw[h]; rfl
theorem U4{s:Str}(h:s≠[]):lZ s=(kJ (s.getD 0 0).toNat&&s.all fun c=>nameB c.toNat):=by
 cases s with
 |nil=>exact absurd rfl h
 |cons c r =>
  simp only[lZ,f7,gR];cases hl:kJ c.toNat with
  |false=>rfl
  |true=>rw[U3 hl]; simp
theorem zD{α:Type}{l:List α}{p:α->Bool}{d:α}{i:Nat}(hi:i<l.length)(h:(l.take i).all p=true):(l.take (i+1)).all p=p (l.getD i d):=by
 rw[cR,List.all_append,h,cw];simp[hi]
theorem xw{α:Type}{l:List α}{p:α->Bool}{d:α}{i:Nat}(hi:i<l.length)(h:p (l.getD i d)=false):l.all p=false:=by
 rw[ek]; intro q;rw[bu] at q;have:=q l[i] (be hi);rw[show l.getD i d=l[i] by simp[hi]] at h;rw[h] at this; cases this
def u8(s:Str)(i:Nat):Nat:=(s.getD i 0).toNat
theorem ac7{c:Nat}:nameB c=(decide (97<=c/\c<=122)||decide (48<=c/\c<=57)||decide (c=95)):=by
 rw[cK]; simp[nameB,kJ]
theorem Xe{c:Nat}:kJ c=decide (97<=c/\c<=122):=by
 rw[cK]; simp[kJ]
theorem wN{n:Nat}(h:(bif false then !(iF n 1 12) else !!(iF n 1 12))=true):(0:Int)<n:=by
 simp only[bO,eL,iF,aD,ag] at h; omega
theorem wN2{n:Nat}{b:Bool}(h:(bif false then !(iF n 1 12)||b else !(!(iF n 1 12)||b))=true):(0:Int)<n:=by
 simp only[bO,Bool.not_or,eL,iF,aD,ag] at h; omega
def Es(s:Str):Bool:= !(iF s.length 1 12)||decide (((s.getD 0 0).toNat:Int)<97)||decide (122<((s.getD 0 0).toNat:Int))
theorem ac8(s:Str):validName s=((!(Es s)&&s.all fun c=>nameB c.toNat)&& !(ug.any fun x=>s==x)):=by
 rw[validName,agY]
 congr 1
 cases s with
 |nil=>rfl
 |cons c r =>
  rw[U4 (by simp),Xe];generalize ((c::r).all fun c=>nameB c.toNat)=A;simp only[Es,iF,List.isEmpty_cons,bL,f7];rw[cK];simp;cases A<;>simp<;>omega
theorem nm4{c:Nat}:(!(decide (97<=(c:Int))&&decide ((c:Int)<=122))&& !(decide (48<=(c:Int))&&decide ((c:Int)<=57))&&(c:Int) !=95)= !(nameB c):=by
 rw[ac7,cK]; simp; omega
theorem S.jR(s:Str):aj Tryz.prog 89 [.str s] (.bool (validName s)):=by
 refine aj.of Bd.jR (by simp) rfl rfl ?_;refine ah.pure (S.aY s.length 1 12) rfl ?_;conv=>whnf
 repeat(refine VC.mk (by first|(first|exact fun q=>⟨q,by omega,wN q⟩|exact fun q=>⟨q,by omega,wN2 q⟩)|exact fun h=>h|(intro h; rw[h]; rfl)) ?_)
 refine⟨fun h1=>?_,fun h1=>?_⟩
 ·conv=>whnf
  exact ak.bool (by rw[ac8,show Es s=true from h1]; rfl)
 have hs:s.length<2^40:=by
  have h1':Es s=false:=h1;simp only[Es,iF,bm,du,aD,ag] at h1';omega
 refine aA.same [0] (fun i:Nat=>[(3,.int i)]) (fun i=>i<=s.length/\(s.take i).all (fun c=>nameB c.toNat)=true) (fun i=>s.length-i) 0 rfl (by decide) rfl (fun _=>rfl) ⟨by omega,by simp⟩ ⟨⟨_,rfl,rfl⟩,trivial⟩ ?_;refine⟨rfl,?_⟩;rintro i ⟨hi,hall⟩;refine⟨fun h3=>?_,fun h3=>?_⟩
 ·have hi':i<s.length:=by simpa using h3
  repeat(refine VC.mk (by first|exact id|(omega)|(intro h; simp_all; done)) ?_)
  refine⟨fun h4=>?_,fun h4=>?_⟩
  ·conv=>whnf
   have h4':nameB (s.getD i 0).toNat=false:=by
    rw[nm4] at h4; simpa using h4
   exact ak.bool (by rw[ac8,xw (d:=0) hi' h4',Bool.and_false]; rfl)
  ·conv=>whnf
   refine .mk (by simp only[okI] at *; omega) ?_;refine⟨i+1,⟨by omega,?_⟩,by omega,⟨⟨_,rfl,rfl⟩,trivial⟩,?_,rfl⟩
   ·rw[zD (d:=0) hi' hall];rw[nm4] at h4; simpa using h4
   ·repeat' (first|exact trivial|exact⟨_,rfl,rfl⟩|constructor)
 ·have hi':s.length<=i:=by simpa using h3
  rw[bB hi'] at hall;refine ah.pure (S.uj) rfl ?_;refine ah.pure (S.rZ ug s false (by rw[KF]; decide)) rfl ?_;exact ak.bool (by rw[ac8,show Es s=false from h1,hall]; rfl)
theorem S.jg(l:List Int)(n:Int)(f:Bool)(hl:l.length<2^40)(hn: -2^40<n/\n<2^40):aj Tryz.prog 90 [.row 0 f (.ints l),.int n] (.int (jf l n)):=by
 refine aj.of Bd.jg (by simp) rfl rfl ?_;refine aA.same [0,1] (fun i:Nat=>[(5,.int i)]) (fun i=>i<=l.length/\(l.take i).any (fun i=>pR i n)=false) (fun i=>l.length-i) 0 rfl (by decide) rfl (fun _=>rfl) ⟨by omega,by simp⟩ ⟨⟨_,rfl,rfl⟩,trivial⟩ ?_;refine⟨rfl,?_⟩;rintro i ⟨hi,hall⟩;refine⟨fun h3=>?_,fun h3=>?_⟩
 ·have hi':i<l.length:=by simpa using h3
  repeat(refine VC.mk (by simp only[okI,Rw.rng] at *; omega) ?_)
  refine ah.pure (S.aY (l.getD i 0) 0 (n-1)) rfl ?_;refine⟨fun h4=>?_,fun h4=>?_⟩
  ·have h4':pR (l.getD i 0) n=true:=by
    have:(!iF (l.getD i 0) 0 (n-1))=true:=h4
    rw[qE,eL] at this; exact this
   refine ak.int ?_;rw[jf,iE (d:=0) hi' h4']; rfl
  ·have h4':pR (l.getD i 0) n=false:=by
    have:(!iF (l.getD i 0) 0 (n-1))=false:=h4
    rw[qE,eL] at this; exact this
   refine .mk (by simp only[okI] at *; omega) ?_;refine⟨i+1,⟨by omega,?_⟩,by omega,⟨⟨_,rfl,rfl⟩,trivial⟩,?_,rfl⟩
   ·rw[jU (d:=0) hi' hall]; exact h4'
   ·repeat' (first|exact trivial|exact⟨_,rfl,rfl⟩|constructor)
 ·have hi':l.length<=i:=by simpa using h3
  rw[bB hi'] at hall;refine aA.same [0] (fun i:Nat=>[(6,.int (i+1))]) (fun i=>(i<l.length\/i=0)/\Ig l=Ig (l.drop i)) (fun i=>l.length-i) 0 rfl (by decide) rfl (fun _=>rfl) ⟨by omega,by simp⟩ ⟨⟨_,rfl,rfl⟩,trivial⟩ ?_;refine⟨rfl,?_⟩;rintro i ⟨hi,hinc⟩;refine⟨fun h5=>?_,fun h5=>?_⟩
  ·have hi1:i+1<l.length:=by have:=ai h5; omega
   rw[bY 0 (show i<l.length by omega),bY 0 hi1] at hinc;simp only[Ig] at hinc;rw[<- bY 0 hi1] at hinc;repeat(refine VC.mk (by simp only[okI,Rw.rng] at *; omega) ?_)
   refine⟨fun h6=>?_,fun h6=>?_⟩
   ·have e1:((i:Int)+1).toNat=i+1:=by omega
    have e2:((i:Int)+1-1).toNat=i:=by omega
    rw[e1,e2] at h6;have h6':l.getD (i+1) 0<=l.getD i 0:=ai h6;refine ak.int ?_;rw[jf,hall,hinc,cF (by omega)]; rfl
   ·have e1:((i:Int)+1).toNat=i+1:=by omega
    have e2:((i:Int)+1-1).toNat=i:=by omega
    rw[e1,e2] at h6;have h6': ¬ l.getD (i+1) 0<=l.getD i 0:=aL h6;refine .mk (by simp only[okI] at *; omega) ?_;conv=>whnf
    rw[cJ (by omega),cw] at hinc;refine⟨i+1,⟨by omega,hinc⟩,by omega,⟨⟨_,rfl,rfl⟩,trivial⟩,?_,rfl⟩;repeat' (first|exact trivial|exact⟨_,rfl,rfl⟩|constructor)
  ·conv=>whnf
   refine ak.int ?_;have h5': ¬ ((i:Int)+1<l.length):=aL h5
   have:Ig l=true:=by
    rw[hinc];rcases hd:l.drop i with _|⟨a,_|⟨b,r⟩⟩
    ·rfl
    ·rfl
    ·have:=dt List.length hd;simp only[cB,bL] at this;omega
   rw[jf,hall,this]; rfl
theorem S.yB(p:aI)(r:Rule):aj Tryz.prog 146 [.dat (.fQ p),.dat (.rule r)] (.bool (mO r p.topology)):=by
 refine aj.of Bd.yB (by simp) rfl rfl ?_;repeat(refine VC.mk (by first|exact id|(intro h; simp_all; done)) ?_)
 refine⟨fun h1=>?_,fun h1=>?_⟩
 ·conv=>whnf
  exact ak.bool (by rw[mO]; erw [h1]; rfl)
 repeat(refine VC.mk (by first|exact id|(intro h; simp_all; done)) ?_)
 refine⟨fun h2=>?_,fun h2=>?_⟩
 ·conv=>whnf
  exact ak.bool (by rw[mO]; erw [h1,h2]; rfl)
 repeat(refine VC.mk (by first|exact id|(intro h; simp_all; done)) ?_)
 refine⟨fun h3=>?_,fun h3=>?_⟩
 ·conv=>whnf
  exact ak.bool (by rw[mO]; erw [h1,h2,h3]; rfl)
 repeat(refine VC.mk (by first|exact id|(intro h; rw[h]; rfl)|(intro h; simp_all; done)) ?_)
 refine⟨fun h4=>?_,fun h4=>?_⟩
 ·conv=>whnf
  exact ak.bool (by rw[mO]; erw [h1,h2,h3,h4]; rfl)
 repeat(refine VC.mk (by first|exact id|(intro h; simp_all; done)) ?_)
 refine⟨fun h5=>?_,fun h5=>?_⟩
 ·conv=>whnf
  exact ak.bool (by rw[mO]; erw [h1,h2,h3,h4,h5]; rfl)
 repeat(refine VC.mk (by first|exact id|(intro h; simp_all; done)) ?_)
 exact ak.bool (by rw[mO]; erw [h1,h2,h3,h4,h5]; rfl)
theorem ac9(a b:BP):((a.message==b.message)&&(a.GZ==b.GZ)&&(a.bound==b.bound))=(b==a):=by
 obtain⟨m,c,l⟩:=a;obtain⟨m',c',l'⟩:=b;rw[cK];simp only[aD,bv,BP.mk.injEq];constructor
 ·rintro⟨⟨h1,h2⟩,h3⟩; exact⟨h1.symm,h2.symm,h3.symm⟩
 ·rintro⟨h1,h2,h3⟩; exact⟨⟨h1.symm,h2.symm⟩,h3.symm⟩
theorem S.kX(a b:BP):aj Tryz.prog 157 [.dat (.Vo a),.dat (.Vo b)] (.bool (b==a)):=by
 refine aj.of Bd.kX (by simp) rfl rfl ?_;repeat(refine VC.mk (by first|exact id|exact fun h=>⟨h,h⟩) ?_)
 exact ak.bool (ac9 a b).symm
theorem S.kE(l:List BP)(g:BP)(f:Bool)(hl:l.length<2^40):aj Tryz.prog 147 [.row 7 f (.sF l),.dat (.Vo g)] (.int (yY g l 0)):=by
 refine aj.of Bd.kE (by simp) rfl rfl ?_;refine aA.same [0,3] (fun i:Nat=>[(5,.int i)]) (fun i=>i<=l.length/\yY g l 0=yY g (l.drop i) i) (fun i=>l.length-i) 0 rfl (by decide) rfl (fun _=>rfl) ⟨by omega,by simp⟩ ⟨⟨_,rfl,rfl⟩,trivial⟩ ?_;refine⟨rfl,?_⟩;rintro i ⟨hi,hall⟩;refine⟨fun h3=>?_,fun h3=>?_⟩
 ·have hi':i<l.length:=by simpa using h3
  rw[bY default hi'] at hall;simp only[yY] at hall;refine .mk (by simp only[Rw.rng] at *; omega) ?_;refine ah.pure (S.kX (l.getD i default) g) rfl ?_;refine⟨fun h4=>?_,fun h4=>?_⟩
  ·conv=>whnf
   refine ak.int ?_;have h4':(g==l.getD i default)=true:=h4;rw[hall,h4']; rfl
  ·conv=>whnf
   refine .mk (by simp only[okI] at *; omega) ?_;refine⟨i+1,⟨by omega,?_⟩,by omega,⟨⟨_,rfl,rfl⟩,trivial⟩,?_,rfl⟩
   ·have h4':(g==l.getD i default)=false:=h4;rw[hall,h4']; rfl
   ·repeat' (first|exact trivial|exact⟨_,rfl,rfl⟩|constructor)
 ·conv=>whnf
  refine ak.int ?_;have hi':l.length<=i:=by simpa using h3
  rw[hall,cI hi']; rfl
theorem U5{g:BP}{l:List BP}:decide (yY g l 0<0)= !(l.any fun x=>g==x):=by
 rw[<- U6 (i:=0),cK]; simp
theorem S.um(p:aI)(hp:dU p):aj Tryz.prog 121 [.dat (.fQ p)] (.row 7 false (.sF (Aj p.rules))):=by
 have hp1:=hp.rules;refine aj.of Bd.um (by simp) rfl rfl ?_;refine aA.nil 3 134 7 (by rfl) rfl rfl rfl ?_;refine aA.objs 2 [1] (fun i:Nat=>[(4,.int i),(3,.own 1)]) (fun i=>[(0,.box 27 11 (.dat (.fQ p))),(1,rowT (Aj (p.rules.take i)))]) (fun i=>i<=p.rules.length) (fun i=>p.rules.length-i) 0 [0,4] rfl (by decide) (fun _=>rfl) (ab _) ?_ ?_ ?_
 ·exact(sR rfl)
 ·exact⟨dA rfl rfl,dA rfl rfl,trivial⟩
 refine⟨(sR rfl),rfl,?_⟩;rintro i hi;refine⟨fun h3=>?_,fun h3=>?_⟩
 ·have hi':i<p.rules.length:=by simpa using h3
  refine aA.objs 2 [1,4] (fun k:Nat=>[(5,.int k),(3,.own 1)]) (fun k=>[(0,.box 27 11 (.dat (.fQ p))),(1,rowT (Ak p i k))]) (fun k=>k<=(p.rules.getD i default).guards.length) (fun k=>(p.rules.getD i default).guards.length-k) 0 [0,1] rfl (by decide) (fun _=>rfl) (ab _) ?_ ?_ ?_
  ·exact(sR rfl)
  ·exact⟨dA rfl rfl,dA rfl rfl,trivial⟩
  refine⟨(sR rfl),rfl,?_⟩;rintro k hk;have hacc:=U7 p hp i k hi';have hg:=(hp.rule i).guards;refine .mk (by simp only[Rw.rng] at *; first|omega|(simp_all; done)|(simp_all; omega)) ?_;refine⟨fun h4=>?_,fun h4=>?_⟩
  ·have hk':k<(p.rules.getD i default).guards.length:=by simpa using h4
   have hst:Ak p i (k+1)=J3 (Ak p i k) ((p.rules.getD i default).guards.getD k default):=DU hk';repeat(refine VC.mk (by simp only[Rw.rng] at *; first|omega|(simp_all; done)|(simp_all; omega)) ?_)
   refine ah.lend (S.kE (Ak p i k) ((p.rules.getD i default).guards.getD k default) false (by omega)) (And.intro (ada trivial rfl) (And.intro (aC _) trivial)) rfl rfl ?_;refine⟨fun h5=>?_,fun h5=>?_⟩
   ·conv=>whnf
    repeat(refine VC.mk (by first|(show((Ak p i k).length+(0+1))*48<=140737488355328/\(Ak p i k).length+(0+1)<=1152921504606846976; omega)|(simp only[okI] at *; first|omega|(simp_all; done)|(simp_all; omega))) ?_)
    have h5':((Ak p i k).any fun x=>(p.rules.getD i default).guards.getD k default==x)=false:=by rw[U5] at h5; simpa using h5
    refine⟨k+1,[0,29],by omega,by omega,(sR rfl),(sR rfl),dA rfl rfl,⟨rfl,nofun,rfl,rfl,rfl,_,rfl,rfl,rfl,dJ.of_eq ?_⟩,trivial⟩;rw[hst,J3,h5']; rfl
   ·conv=>whnf
    refine .mk (by simp only[okI] at *; first|omega|(simp_all; done)|(simp_all; omega)) ?_;conv=>whnf
    have h5':((Ak p i k).any fun x=>(p.rules.getD i default).guards.getD k default==x)=true:=by rw[U5] at h5; simpa using h5
    refine⟨k+1,[0,1],by omega,by omega,(sR rfl),(sR rfl),dA rfl rfl,⟨rfl,nofun,rfl,rfl,rfl,_,rfl,rfl,rfl,dJ.of_eq ?_⟩,trivial⟩;rw[hst,J3,h5']; rfl
  ·have hk':(p.rules.getD i default).guards.length<=k:=by simpa using h4
   have e:k=(p.rules.getD i default).guards.length:=ep hk hk';subst e;refine .mk (by simp only[okI] at *; first|omega|(simp_all; done)|(simp_all; omega)) ?_;refine⟨i+1,[0,1],by omega,by omega,(sR rfl),(sR rfl),dA rfl rfl,⟨rfl,nofun,rfl,rfl,rfl,_,rfl,rfl,rfl,dJ.of_eq ?_⟩,trivial⟩;rw[Qa p hi']
 ·have hi':p.rules.length<=i:=by simpa using h3
  rw[bB hi'];exact ak.ah5 rfl
def BK(p:aI)(r:Rule):Bool:=(r.read != -1&& !(iF r.read 0 (p.values.length-1)))||(r.write != -1&& !(iF r.write 0 (p.values.length-1)))
def FU(p:aI)(r:Rule):Bool:=(r.kind==4)&&(!(iF r.pos 0 2)||(r.pos !=0&&p.topology==3))
def FV(p:aI)(r:Rule):Bool:=((r.kind==5)&&(p.topology==4))&& !(iF r.direction 3 4)
def FW(p:aI)(r:Rule):Bool:=((r.kind==5)&&(p.topology !=4))&& !(iF r.direction 1 2)
def iK(p:aI)(r:Rule):Int :=
 let n:Int:=p.states.length
 bC [kK p r.guards,dR (decide ((r.guards.length:Int)>2)) 4,jf r.ex n,jf r.all n,dR (BK p r) 5,jf r.send p.messages.length,jf r.left n,jf r.right n,jf r.parent n,dR (FU p r) 1,dR (FV p r) 1,dR (FW p r) 1]
def JM(p:aI)(r:Rule):Bool :=
 let n:Int:=p.states.length
 (!(iF r.fr 0 (n-1))|| !(iF r.to 0 (n-1)))||((r.kind==2||r.kind==5)&&(!(iF r.jo 0 (n-1))|| !(iF r.Ap 0 (n-1))))
def JO(p:aI)(r:Rule):Bool:=(!(iF r.kind 1 5)||(decide (r.kind<=3) !=(p.topology==1)))||mO r p.topology
def Am(p:aI)(i:Nat):Int :=
 let r:=p.rules.getD i default
 bif !(validName r.name) then 2 else bif (p.rules.take i).any (fun x=>x.name==r.name) then 2 else bif JO p r then 6 else bif JM p r then 5 else
 bif r.kind==3 then(bif (r.response.length:Int) !=p.states.length then 1 else bif ru r.response p.states.length !=0 then ru r.response p.states.length else iK p r) else iK p r
theorem pV{n lo hi:Int}:(!(iF n lo hi))=(decide (n<lo)||decide (n>hi)):=by
 unfold iF; rw[cK]; simp
theorem Vr{a b:Int}(h:(a !=b)=false):a=b:=by simpa using h
theorem Xp{v:Int}{r:List Int}:bC (dR false v::r)=bC r:=rfl
theorem f0{r:List Int}:bC (0::r)=bC r:=rfl
theorem fN{x:Int}{r:List Int}(h:x≠0):bC (x::r)=x:=bX h
set_option maxHeartbeats 1000000 in
theorem S.DV(p:aI)(i:Nat)(hi:i<p.rules.length)(hp:dU p):aj Tryz.prog 120 [.dat (.fQ p),.int i] (.int (Am p i)):=by
 have hr:=hp.rule i;have hp1:=hp.rules;have hp2:=hp.states;have hp3:=hp.messages;have hp4:=hp.values;refine aj.of Bd.DV (by simp) rfl rfl ?_;refine .mk (by simp only[Rw.rng] at *; first|omega|(simp_all; done)|(simp_all; omega)) ?_;refine ah.pure (S.jR (p.rules.getD i default).name) rfl ?_;refine⟨fun h1=>?_,fun h1=>?_⟩
 ·conv=>whnf
  exact ak.int (by rw[Am,h1]; rfl)
 refine aA.same [1,2,5,6] (fun j:Nat=>[(7,.int j)]) (fun j=>j<=i/\(p.rules.take j).any (fun x=>x.name==(p.rules.getD i default).name)=false) (fun j=>i-j) 0 rfl (by decide) rfl (fun _=>rfl) ⟨by omega,by simp⟩ ⟨⟨_,rfl,rfl⟩,trivial⟩ ?_;refine⟨rfl,?_⟩;rintro j ⟨hj,hall⟩;refine⟨fun h2=>?_,fun h2=>?_⟩
 ·have hj':j<i:=by simpa using h2
  have hj2:j<p.rules.length:=by omega
  refine .mk (by simp only[Rw.rng] at *; first|omega|(simp_all; done)|(simp_all; omega)) ?_;refine⟨fun h3=>?_,fun h3=>?_⟩
  ·conv=>whnf
   have hb:(p.rules.take i).any (fun x=>x.name==(p.rules.getD i default).name)=true:=by
    rw[bw];refine⟨p.rules.getD j default,?_,h3⟩;rw[show p.rules.getD j default=p.rules[j] by simp[hj2],dz];exact⟨j,by omega,rfl⟩
   exact ak.int (by rw[Am,h1,hb]; rfl)
  ·conv=>whnf
   refine .mk (by simp only[okI] at *; first|omega|(simp_all; done)|(simp_all; omega)) ?_;refine⟨j+1,⟨by omega,?_⟩,by omega,⟨⟨_,rfl,rfl⟩,trivial⟩,?_,rfl⟩
   ·rw[jU (d:=default) hj2 hall]; exact h3
   ·repeat' (first|exact trivial|exact⟨_,rfl,rfl⟩|constructor)
 have hj':i<=j:=by simpa using h2
 have e:i=j:=ep hj' hj;subst e;refine ah.pure (S.aY (p.rules.getD i default).kind 1 5) rfl ?_;repeat(refine VC.mk (by first|exact id|exact fun h=>⟨h,h⟩|(intro h; rw[h]; rfl)) ?_)
 refine ah.gW (fun _=>S.yB p (p.rules.getD i default)) rfl ?_;refine .mk (by intro h; rw[h]; rfl) ?_;refine⟨fun h4=>?_,fun h4=>?_⟩
 ·conv=>whnf
  exact ak.int (by rw[Am,h1,hall,show JO p (p.rules.getD i default)=true from h4]; rfl)
 repeat(refine VC.mk (by first|exact id|(intro h; rw[h]; rfl)|(simp only[okI] at *; first|omega|(simp_all; done)|(simp_all; omega))) ?_)
 refine ah.pure (S.aY (p.rules.getD i default).fr 0 (p.states.length-1)) rfl ?_;repeat(refine VC.mk (by first|exact id|exact fun h=>⟨h,h⟩|(intro h; (repeat' apply And.intro)<;>first|exact h|omega|(simp only[Rw.qM]; omega)|(simp only[Rw.rng]; omega))) ?_)
 refine ah.gW (fun _=>S.aY (p.rules.getD i default).to 0 (p.states.length-1)) rfl ?_;repeat(refine VC.mk (by first|exact id|exact fun h=>⟨h,h⟩|(intro h; rw[h]; rfl)|(intro h; (repeat' apply And.intro)<;>first|exact h|omega|(simp only[Rw.qM]; omega)|(simp only[Rw.rng]; omega))) ?_)
 refine ah.gW (fun _=>S.aY (p.rules.getD i default).jo 0 (p.states.length-1)) rfl ?_;repeat(refine VC.mk (by first|exact id|exact fun h=>⟨h,h⟩|(intro h; (repeat' apply And.intro)<;>first|exact h|omega|(simp only[Rw.qM]; omega)|(simp only[Rw.rng]; omega))) ?_)
 refine ah.gW (fun _=>S.aY (p.rules.getD i default).Ap 0 (p.states.length-1)) rfl ?_;repeat(refine VC.mk (by first|exact id|(intro h; rw[h]; rfl)|(intro h; simp_all; done)) ?_)
 refine⟨fun h5=>?_,fun h5=>?_⟩
 ·conv=>whnf
  exact ak.int (by rw[Am,h1,hall,show JO p (p.rules.getD i default)=false from h4,show JM p (p.rules.getD i default)=true from h5]; rfl)
 refine⟨fun h6=>?_,fun h6=>?_⟩
 ·replace h6:((p.rules.getD i default).kind==3)=true:=h6;refine⟨fun h7=>?_,fun h7=>?_⟩
  ·replace h7:(((p.rules.getD i default).response.length:Int) !=p.states.length)=true:=h7;exact ak.int (by rw[Am,h1,hall,show JO p (p.rules.getD i default)=false from h4,show JM p (p.rules.getD i default)=false from h5,h6,h7]; rfl)
  replace h7:(((p.rules.getD i default).response.length:Int) !=p.states.length)=false:=h7;have hn:(p.rules.getD i default).response.length=p.states.length:=by
   have:((p.rules.getD i default).response.length:Int)=p.states.length:=Vr h7
   omega
  refine aA.same [2,5,6] (fun k:Nat=>[(9,.int k)]) (fun k=>k<=p.states.length/\ru (p.rules.getD i default).response p.states.length=ru ((p.rules.getD i default).response.drop k) p.states.length) (fun k=>p.states.length-k) 0 rfl (by decide) rfl (fun _=>rfl) ⟨by omega,by simp⟩ ⟨⟨_,rfl,rfl⟩,trivial⟩ ?_;refine⟨rfl,?_⟩;rintro k ⟨hk,hg⟩;refine⟨fun g1=>?_,fun g1=>?_⟩
  ·have hk':k<(p.rules.getD i default).response.length:=by rw[hn]; simpa using g1
   rw[bY 0 hk'] at hg;simp only[ru] at hg;repeat(refine VC.mk (by simp only[okI,Rw.rng] at *; first|omega|(simp_all; done)|(simp_all; omega)) ?_)
   refine ah.pure (S.aY ((p.rules.getD i default).response.getD k 0) 0 (p.states.length-1)) rfl ?_;refine⟨fun g2=>?_,fun g2=>?_⟩
   ·rw[qE,eL] at g2;have e:dh ((p.rules.getD i default).response.getD k 0) p.states.length=5:=by rw[dh,g2]; rfl
    rw[e,bX (by decide)] at hg;exact ak.int (by rw[Am,h1,hall,show JO p (p.rules.getD i default)=false from h4,show JM p (p.rules.getD i default)=false from h5,h6,h7,hg]; rfl)
   rw[qE,eL] at g2;have e:dh ((p.rules.getD i default).response.getD k 0) p.states.length=0:=by rw[dh,g2]; rfl
   rw[bk e] at hg;refine .mk (by simp only[okI] at *; first|omega|(simp_all; done)|(simp_all; omega)) ?_;refine⟨k+1,⟨by omega,hg⟩,by omega,⟨⟨_,rfl,rfl⟩,trivial⟩,?_,rfl⟩;repeat' (first|exact trivial|exact⟨_,rfl,rfl⟩|constructor)
  have hk':(p.rules.getD i default).response.length<=k:=by rw[hn]; simpa using g1
  rw[cI hk'] at hg;replace hg:ru (p.rules.getD i default).response p.states.length=0:=hg;have hR:Am p i=iK p (p.rules.getD i default):=by
   rw[Am,h1,hall,show JO p (p.rules.getD i default)=false from h4,show JM p (p.rules.getD i default)=false from h5,h6,h7,hg]; rfl
  clear hg g1 hk' hk;refine aA.same [2,5,6] (fun k:Nat=>[(10,.int k)]) (fun k=>k<=(p.rules.getD i default).guards.length/\kK p (p.rules.getD i default).guards=kK p ((p.rules.getD i default).guards.drop k)) (fun k=>(p.rules.getD i default).guards.length-k) 0 rfl (by decide) rfl (fun _=>rfl) ⟨by omega,by simp⟩ ⟨⟨_,rfl,rfl⟩,trivial⟩ ?_;refine⟨rfl,?_⟩;rintro k ⟨hk,hg⟩;have hgl:=hr.guards;refine⟨fun g1=>?_,fun g1=>?_⟩
  ·have hk':k<(p.rules.getD i default).guards.length:=by simpa using g1
   rw[bY default hk'] at hg;simp only[kK] at hg;repeat(refine VC.mk (by simp only[okI,Rw.rng] at *; first|omega|(simp_all; done)|(simp_all; omega)) ?_)
   refine ah.pure (S.aY ((p.rules.getD i default).guards.getD k default).message 0 (p.messages.length-1)) rfl ?_;refine⟨fun g2=>?_,fun g2=>?_⟩
   ·rw[qE,eL] at g2;have e:guardE p ((p.rules.getD i default).guards.getD k default)=5:=by rw[guardE,dh,g2]; rfl
    rw[e,bX (by decide)] at hg;exact ak.int (by rw[hR,iK,hg]; rfl)
   rw[qE,eL] at g2;refine ah.pure (S.aY ((p.rules.getD i default).guards.getD k default).GZ 1 100) rfl ?_;refine⟨fun g3=>?_,fun g3=>?_⟩
   ·rw[pV] at g3;have e:guardE p ((p.rules.getD i default).guards.getD k default)=1:=by rw[guardE,dh,g2,g3]; rfl
    rw[e,bX (by decide)] at hg;exact ak.int (by rw[hR,iK,hg]; rfl)
   rw[pV] at g3;refine ah.pure (S.Bq ((p.rules.getD i default).guards.getD k default).bound) rfl ?_;refine⟨fun g4=>?_,fun g4=>?_⟩
   ·have e:guardE p ((p.rules.getD i default).guards.getD k default)=4:=by rw[guardE,dh,g2,g3,g4]; rfl
    rw[e,bX (by decide)] at hg;exact ak.int (by rw[hR,iK,hg]; rfl)
   have e:guardE p ((p.rules.getD i default).guards.getD k default)=0:=by rw[guardE,dh,g2,g3,g4]; rfl
   rw[bk e] at hg;refine .mk (by simp only[okI] at *; first|omega|(simp_all; done)|(simp_all; omega)) ?_;refine⟨k+1,⟨by omega,hg⟩,by omega,⟨⟨_,rfl,rfl⟩,trivial⟩,?_,rfl⟩;repeat' (first|exact trivial|exact⟨_,rfl,rfl⟩|constructor)
  have hk':(p.rules.getD i default).guards.length<=k:=by simpa using g1
  rw[cI hk'] at hg;replace hg:kK p (p.rules.getD i default).guards=0:=hg;refine⟨fun c1=>?_,fun c1=>?_⟩
  ·replace c1:decide (((p.rules.getD i default).guards.length:Int)>2)=true:=c1;exact ak.int (by rw[hR,iK,hg,c1]; rfl)
  replace c1:decide (((p.rules.getD i default).guards.length:Int)>2)=false:=c1;refine ah.pure (S.jg (p.rules.getD i default).ex p.states.length false (by have:=hr.ex; omega) ⟨by omega,by omega⟩) rfl ?_;refine⟨fun c2=>?_,fun c2=>?_⟩
  ·conv=>whnf
   exact ak.int (by rw[hR,iK,hg,c1]; simp only[Xp,f0,fN (U8 c2)])
  replace c2:=BM c2;refine ah.pure (S.jg (p.rules.getD i default).all p.states.length false (by have:=hr.all; omega) ⟨by omega,by omega⟩) rfl ?_;refine⟨fun c3=>?_,fun c3=>?_⟩
  ·conv=>whnf
   exact ak.int (by rw[hR,iK,hg,c1,c2]; simp only[Xp,f0,fN (U8 c3)])
  replace c3:=BM c3;repeat(refine VC.mk (by first|exact id|exact fun h=>⟨h,h⟩|(intro h; (repeat' apply And.intro)<;>first|exact h|omega|(simp only[Rw.qM]; omega)|(simp only[Rw.rng]; omega))) ?_)
  refine ah.gW (fun _=>S.aY (p.rules.getD i default).read 0 (p.values.length-1)) rfl ?_;repeat(refine VC.mk (by first|exact id|exact fun h=>⟨h,h⟩|(intro h; (repeat' apply And.intro)<;>first|exact h|omega|(simp only[Rw.qM]; omega)|(simp only[Rw.rng]; omega))) ?_)
  refine ah.gW (fun _=>S.aY (p.rules.getD i default).write 0 (p.values.length-1)) rfl ?_;repeat(refine VC.mk (by first|exact id|(intro h; rw[h]; rfl)|(intro h; simp_all; done)) ?_)
  refine⟨fun c4=>?_,fun c4=>?_⟩
  ·conv=>whnf
   exact ak.int (by rw[hR,iK,hg,c1,c2,c3,show BK p (p.rules.getD i default)=true from c4]; rfl)
  replace c4:BK p (p.rules.getD i default)=false:=c4;refine ah.pure (S.jg (p.rules.getD i default).send p.messages.length false (by have:=hr.send; omega) ⟨by omega,by omega⟩) rfl ?_;refine⟨fun c5=>?_,fun c5=>?_⟩
  ·conv=>whnf
   exact ak.int (by rw[hR,iK,hg,c1,c2,c3,c4]; simp only[Xp,f0,fN (U8 c5)])
  replace c5:=BM c5;refine ah.pure (S.jg (p.rules.getD i default).left p.states.length false (by have:=hr.left; omega) ⟨by omega,by omega⟩) rfl ?_;refine⟨fun c6=>?_,fun c6=>?_⟩
  ·conv=>whnf
   exact ak.int (by rw[hR,iK,hg,c1,c2,c3,c4,c5]; simp only[Xp,f0,fN (U8 c6)])
  replace c6:=BM c6;refine ah.pure (S.jg (p.rules.getD i default).right p.states.length false (by have:=hr.right; omega) ⟨by omega,by omega⟩) rfl ?_;refine⟨fun c7=>?_,fun c7=>?_⟩
  ·conv=>whnf
   exact ak.int (by rw[hR,iK,hg,c1,c2,c3,c4,c5,c6]; simp only[Xp,f0,fN (U8 c7)])
  replace c7:=BM c7;refine ah.pure (S.jg (p.rules.getD i default).parent p.states.length false (by have:=hr.parent; omega) ⟨by omega,by omega⟩) rfl ?_;refine⟨fun c8=>?_,fun c8=>?_⟩
  ·conv=>whnf
   exact ak.int (by rw[hR,iK,hg,c1,c2,c3,c4,c5,c6,c7]; simp only[Xp,f0,fN (U8 c8)])
  replace c8:=BM c8;repeat(refine VC.mk id ?_)
  refine ah.gW (fun _=>S.aY (p.rules.getD i default).pos 0 2) rfl ?_;repeat(refine VC.mk (by first|exact id|(intro h; simp_all; done)) ?_)
  refine⟨fun c9=>?_,fun c9=>?_⟩
  ·conv=>whnf
   exact ak.int (by rw[hR,iK,hg,c1,c2,c3,c4,c5,c6,c7,c8,show FU p (p.rules.getD i default)=true from c9]; rfl)
  replace c9:FU p (p.rules.getD i default)=false:=c9;repeat(refine VC.mk id ?_)
  refine ah.gW (fun _=>S.aY (p.rules.getD i default).direction 3 4) rfl ?_;repeat(refine VC.mk id ?_)
  refine⟨fun c10=>?_,fun c10=>?_⟩
  ·conv=>whnf
   exact ak.int (by rw[hR,iK,hg,c1,c2,c3,c4,c5,c6,c7,c8,c9,show FV p (p.rules.getD i default)=true from c10]; rfl)
  replace c10:FV p (p.rules.getD i default)=false:=c10;repeat(refine VC.mk id ?_)
  refine ah.gW (fun _=>S.aY (p.rules.getD i default).direction 1 2) rfl ?_;repeat(refine VC.mk id ?_)
  refine⟨fun c11=>?_,fun c11=>?_⟩
  ·conv=>whnf
   exact ak.int (by rw[hR,iK,hg,c1,c2,c3,c4,c5,c6,c7,c8,c9,c10,show FW p (p.rules.getD i default)=true from c11]; rfl)
  replace c11:FW p (p.rules.getD i default)=false:=c11;exact ak.int (by rw[hR,iK,hg,c1,c2,c3,c4,c5,c6,c7,c8,c9,c10,c11]; rfl)
 ·replace h6:((p.rules.getD i default).kind==3)=false:=h6;have hR:Am p i=iK p (p.rules.getD i default):=by
   rw[Am,h1,hall,show JO p (p.rules.getD i default)=false from h4,show JM p (p.rules.getD i default)=false from h5,h6]; rfl
  refine aA.same [2,5,6] (fun k:Nat=>[(10,.int k)]) (fun k=>k<=(p.rules.getD i default).guards.length/\kK p (p.rules.getD i default).guards=kK p ((p.rules.getD i default).guards.drop k)) (fun k=>(p.rules.getD i default).guards.length-k) 0 rfl (by decide) rfl (fun _=>rfl) ⟨by omega,by simp⟩ ⟨⟨_,rfl,rfl⟩,trivial⟩ ?_;refine⟨rfl,?_⟩;rintro k ⟨hk,hg⟩;have hgl:=hr.guards;refine⟨fun g1=>?_,fun g1=>?_⟩
  ·have hk':k<(p.rules.getD i default).guards.length:=by simpa using g1
   rw[bY default hk'] at hg;simp only[kK] at hg;repeat(refine VC.mk (by simp only[okI,Rw.rng] at *; first|omega|(simp_all; done)|(simp_all; omega)) ?_)
   refine ah.pure (S.aY ((p.rules.getD i default).guards.getD k default).message 0 (p.messages.length-1)) rfl ?_;refine⟨fun g2=>?_,fun g2=>?_⟩
   ·rw[qE,eL] at g2;have e:guardE p ((p.rules.getD i default).guards.getD k default)=5:=by rw[guardE,dh,g2]; rfl
    rw[e,bX (by decide)] at hg;exact ak.int (by rw[hR,iK,hg]; rfl)
   rw[qE,eL] at g2;refine ah.pure (S.aY ((p.rules.getD i default).guards.getD k default).GZ 1 100) rfl ?_;refine⟨fun g3=>?_,fun g3=>?_⟩
   ·rw[pV] at g3;have e:guardE p ((p.rules.getD i default).guards.getD k default)=1:=by rw[guardE,dh,g2,g3]; rfl
    rw[e,bX (by decide)] at hg;exact ak.int (by rw[hR,iK,hg]; rfl)
   rw[pV] at g3;refine ah.pure (S.Bq ((p.rules.getD i default).guards.getD k default).bound) rfl ?_;refine⟨fun g4=>?_,fun g4=>?_⟩
   ·have e:guardE p ((p.rules.getD i default).guards.getD k default)=4:=by rw[guardE,dh,g2,g3,g4]; rfl
    rw[e,bX (by decide)] at hg;exact ak.int (by rw[hR,iK,hg]; rfl)
   have e:guardE p ((p.rules.getD i default).guards.getD k default)=0:=by rw[guardE,dh,g2,g3,g4]; rfl
   rw[bk e] at hg;refine .mk (by simp only[okI] at *; first|omega|(simp_all; done)|(simp_all; omega)) ?_;refine⟨k+1,⟨by omega,hg⟩,by omega,⟨⟨_,rfl,rfl⟩,trivial⟩,?_,rfl⟩;repeat' (first|exact trivial|exact⟨_,rfl,rfl⟩|constructor)
  have hk':(p.rules.getD i default).guards.length<=k:=by simpa using g1
  rw[cI hk'] at hg;replace hg:kK p (p.rules.getD i default).guards=0:=hg;refine⟨fun c1=>?_,fun c1=>?_⟩
  ·replace c1:decide (((p.rules.getD i default).guards.length:Int)>2)=true:=c1;exact ak.int (by rw[hR,iK,hg,c1]; rfl)
  replace c1:decide (((p.rules.getD i default).guards.length:Int)>2)=false:=c1;refine ah.pure (S.jg (p.rules.getD i default).ex p.states.length false (by have:=hr.ex; omega) ⟨by omega,by omega⟩) rfl ?_;refine⟨fun c2=>?_,fun c2=>?_⟩
  ·conv=>whnf
   exact ak.int (by rw[hR,iK,hg,c1]; simp only[Xp,f0,fN (U8 c2)])
  replace c2:=BM c2;refine ah.pure (S.jg (p.rules.getD i default).all p.states.length false (by have:=hr.all; omega) ⟨by omega,by omega⟩) rfl ?_;refine⟨fun c3=>?_,fun c3=>?_⟩
  ·conv=>whnf
   exact ak.int (by rw[hR,iK,hg,c1,c2]; simp only[Xp,f0,fN (U8 c3)])
  replace c3:=BM c3;repeat(refine VC.mk (by first|exact id|exact fun h=>⟨h,h⟩|(intro h; (repeat' apply And.intro)<;>first|exact h|omega|(simp only[Rw.qM]; omega)|(simp only[Rw.rng]; omega))) ?_)
  refine ah.gW (fun _=>S.aY (p.rules.getD i default).read 0 (p.values.length-1)) rfl ?_;repeat(refine VC.mk (by first|exact id|exact fun h=>⟨h,h⟩|(intro h; (repeat' apply And.intro)<;>first|exact h|omega|(simp only[Rw.qM]; omega)|(simp only[Rw.rng]; omega))) ?_)
  refine ah.gW (fun _=>S.aY (p.rules.getD i default).write 0 (p.values.length-1)) rfl ?_;repeat(refine VC.mk (by first|exact id|(intro h; rw[h]; rfl)|(intro h; simp_all; done)) ?_)
  refine⟨fun c4=>?_,fun c4=>?_⟩
  ·conv=>whnf
   exact ak.int (by rw[hR,iK,hg,c1,c2,c3,show BK p (p.rules.getD i default)=true from c4]; rfl)
  replace c4:BK p (p.rules.getD i default)=false:=c4;refine ah.pure (S.jg (p.rules.getD i default).send p.messages.length false (by have:=hr.send; omega) ⟨by omega,by omega⟩) rfl ?_;refine⟨fun c5=>?_,fun c5=>?_⟩
  ·conv=>whnf
   exact ak.int (by rw[hR,iK,hg,c1,c2,c3,c4]; simp only[Xp,f0,fN (U8 c5)])
  replace c5:=BM c5;refine ah.pure (S.jg (p.rules.getD i default).left p.states.length false (by have:=hr.left; omega) ⟨by omega,by omega⟩) rfl ?_;refine⟨fun c6=>?_,fun c6=>?_⟩
  ·conv=>whnf
   exact ak.int (by rw[hR,iK,hg,c1,c2,c3,c4,c5]; simp only[Xp,f0,fN (U8 c6)])
  replace c6:=BM c6;refine ah.pure (S.jg (p.rules.getD i default).right p.states.length false (by have:=hr.right; omega) ⟨by omega,by omega⟩) rfl ?_;refine⟨fun c7=>?_,fun c7=>?_⟩
  ·conv=>whnf
   exact ak.int (by rw[hR,iK,hg,c1,c2,c3,c4,c5,c6]; simp only[Xp,f0,fN (U8 c7)])
  replace c7:=BM c7;refine ah.pure (S.jg (p.rules.getD i default).parent p.states.length false (by have:=hr.parent; omega) ⟨by omega,by omega⟩) rfl ?_;refine⟨fun c8=>?_,fun c8=>?_⟩
  ·conv=>whnf
   exact ak.int (by rw[hR,iK,hg,c1,c2,c3,c4,c5,c6,c7]; simp only[Xp,f0,fN (U8 c8)])
  replace c8:=BM c8;repeat(refine VC.mk id ?_)
  refine ah.gW (fun _=>S.aY (p.rules.getD i default).pos 0 2) rfl ?_;repeat(refine VC.mk (by first|exact id|(intro h; simp_all; done)) ?_)
  refine⟨fun c9=>?_,fun c9=>?_⟩
  ·conv=>whnf
   exact ak.int (by rw[hR,iK,hg,c1,c2,c3,c4,c5,c6,c7,c8,show FU p (p.rules.getD i default)=true from c9]; rfl)
  replace c9:FU p (p.rules.getD i default)=false:=c9;repeat(refine VC.mk id ?_)
  refine ah.gW (fun _=>S.aY (p.rules.getD i default).direction 3 4) rfl ?_;repeat(refine VC.mk id ?_)
  refine⟨fun c10=>?_,fun c10=>?_⟩
  ·conv=>whnf
   exact ak.int (by rw[hR,iK,hg,c1,c2,c3,c4,c5,c6,c7,c8,c9,show FV p (p.rules.getD i default)=true from c10]; rfl)
  replace c10:FV p (p.rules.getD i default)=false:=c10;repeat(refine VC.mk id ?_)
  refine ah.gW (fun _=>S.aY (p.rules.getD i default).direction 1 2) rfl ?_;repeat(refine VC.mk id ?_)
  refine⟨fun c11=>?_,fun c11=>?_⟩
  ·conv=>whnf
   exact ak.int (by rw[hR,iK,hg,c1,c2,c3,c4,c5,c6,c7,c8,c9,c10,show FW p (p.rules.getD i default)=true from c11]; rfl)
  replace c11:FW p (p.rules.getD i default)=false:=c11;exact ak.int (by rw[hR,iK,hg,c1,c2,c3,c4,c5,c6,c7,c8,c9,c10,c11]; rfl)
end Go.Proofs.YtbdbmfccbpfeoabGreatDoor
