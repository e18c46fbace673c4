/-
 A part of the proof. No condition.
-/
import Derived.Test.YtdloaandiobgdaaGreatDoorVa
namespace Go.Proofs.YtdloaandiobgdaaGreatDoor
open Go.Ab Go.Proofs
set_option maxRecDepth 100000
def iq(n lo hi:Int):Bool:=decide (n>=lo)&&decide (n<=hi)
theorem S.aZ(n lo hi:Int):ak Tryz.prog 60 [.int n,.int lo,.int hi] (.bool (iq n lo hi)):=by
 refine ak.of Bd.aZ (by simp) rfl rfl ?_;repeat(refine VC.mk (by first|exact id|exact fun h=>⟨h,h⟩) ?_)
 exact ay.bool rfl
theorem sV{x n:Int}:iq x 0 (n-1)= !(tu x n):=by
 unfold iq tu;rw[cR]; simp; omega
theorem S.yS(l:Lin):ak Tryz.prog 91 [.dat (.lin l)] (.bool (XD l)):=by
 refine ak.of Bd.yS (by simp) rfl rfl ?_;refine ah.pure (S.aZ l.c (-100) 100) rfl ?_;repeat(refine VC.mk id ?_)
 refine ah.iJ (fun _=>S.aZ l.n (-100) 100) rfl ?_;repeat(refine VC.mk id ?_)
 refine ah.iJ (fun _=>S.aZ l.t (-100) 100) rfl ?_;repeat(refine VC.mk id ?_)
 refine ah.iJ (fun _=>S.aZ l.f (-100) 100) rfl ?_;refine VC.mk id ?_;exact ay.bool rfl
theorem S.pX(l:List Str)(s:Str)(f:Bool)(hl:l.length<2^40):ak Tryz.prog 90 [.row 0 f (.strs l),.str s] (.bool (l.any fun x=>s==x)):=by
 refine ak.of Bd.pX (by simp) rfl rfl ?_;refine aG.same [0,1] (fun i:Nat=>[(5,.int i)]) (fun i=>i<=l.length/\(l.take i).any (fun x=>s==x)=false) (fun i=>l.length-i) 0 rfl (by decide) rfl (fun _=>rfl) ⟨by omega,by simp⟩ ⟨⟨_,rfl,rfl⟩,trivial⟩ ?_;refine⟨rfl,?_⟩;rintro i ⟨hi,hall⟩;refine⟨fun h3=>?_,fun h3=>?_⟩
 ·have hi':i<l.length:=by simpa using h3
  refine .mk (by simp only[Rw.rng] at *; omega) ?_;refine⟨fun h4=>?_,fun h4=>?_⟩
  ·have h4':(s==l.getD i [])=true:=by rw[show(s==l.getD i [])=(l.getD i []==s) from Bool.beq_comm]; exact h4
   exact ay.bool (lD (d:=[]) hi' h4')
  ·have h4':(s==l.getD i [])=false:=by rw[show(s==l.getD i [])=(l.getD i []==s) from Bool.beq_comm]; exact h4
   refine .mk (by simp only[okI] at *; omega) ?_;refine⟨i+1,⟨by omega,?_⟩,by omega,⟨⟨_,rfl,rfl⟩,trivial⟩,?_,rfl⟩
   ·rw[o7 (d:=[]) hi' hall]; exact h4'
   ·repeat' (first|exact trivial|exact⟨_,rfl,rfl⟩|constructor)
 ·have hi':l.length<=i:=by simpa using h3
  rw[bm hi'] at hall;exact ay.bool hall
theorem S.qG:ak Tryz.prog 94 [] (.row 0 false (.strs wL)):=by
 refine ak.of Bd.qG (by simp) rfl rfl ?_;exact ay.row (dC Rw.strs (by kernel_rfl))
theorem Gf(s:Str):(bs s).toList=s:=by rw[Lib.toList_data]; rfl
theorem alo(s:Str):nmB (bs s)=(!(s.isEmpty)&& !(decide (12<(s.length:Int)))&&pK s):=by
 unfold nmB;rw[Gf,DT]; rfl
theorem XE{c:Nat}(h:nP c=true):nameB c=true:=by unfold nameB; rw[h]; rfl
theorem XF{s:Str}(h:s≠[]):pK s=(nP (s.getD 0 0).toNat&&s.all fun c=>nameB c.toNat):=by
 cases s with
 |nil=>exact absurd rfl h
 |cons c r =>
  simp only[pK,gH,eC];cases hl:nP c.toNat with
  |false=>rfl
  |true=>rw[XE hl]; simp
theorem KD{α:Type}{l:List α}{p:α->Bool}{d:α}{i:Nat}(hi:i<l.length)(h:(l.take i).all p=true):(l.take (i+1)).all p=p (l.getD i d):=by
 rw[cQ,en,h,cV];simp[hi]
theorem Hr{α:Type}{l:List α}{p:α->Bool}{d:α}{i:Nat}(hi:i<l.length)(h:p (l.getD i d)=false):l.all p=false:=by
 rw[gb]; intro q;rw[bj] at q;have:=q l[i] (bh hi);rw[show l.getD i d=l[i] by simp[hi]] at h;rw[h] at this; cases this
def u8(s:Str)(i:Nat):Nat:=(s.getD i 0).toNat
theorem ags{c:Nat}:nameB c=(decide (97<=c/\c<=122)||decide (48<=c/\c<=57)||decide (c=95)):=by
 rw[cR]; simp[nameB,nP]
theorem Zp{c:Nat}:nP c=decide (97<=c/\c<=122):=by
 rw[cR]; simp[nP]
theorem wN{n:Nat}(h:(bif false then !(iq n 1 12) else !!(iq n 1 12))=true):(0:Int)<n:=by
 simp only[ap,fh,iq,aD,aq] at h; omega
theorem wN2{n:Nat}{b:Bool}(h:(bif false then !(iq n 1 12)||b else !(!(iq n 1 12)||b))=true):(0:Int)<n:=by
 simp only[ap,Bool.not_or,fh,iq,aD,aq] at h; omega
def Gn(s:Str):Bool:= !(iq s.length 1 12)||decide (((s.getD 0 0).toNat:Int)<97)||decide (122<((s.getD 0 0).toNat:Int))
theorem agt(s:Str):validName s=((!(Gn s)&&s.all fun c=>nameB c.toNat)&& !(wL.any fun x=>s==x)):=by
 rw[validName,alo]
 congr 1
 cases s with
 |nil=>rfl
 |cons c r =>
  rw[XF (by simp),Zp];generalize ((c::r).all fun c=>nameB c.toNat)=A;simp only[Gn,iq,List.isEmpty_cons,bX,gH];rw[cR];simp;cases A<;>simp<;>omega
theorem nm4{c:Nat}:(!(decide (97<=(c:Int))&&decide ((c:Int)<=122))&& !(decide (48<=(c:Int))&&decide ((c:Int)<=57))&&(c:Int) !=95)= !(nameB c):=by
 rw[ags,cR]; simp; omega
theorem S.jy(s:Str):ak Tryz.prog 57 [.str s] (.bool (validName s)):=by
 refine ak.of Bd.jy (by simp) rfl rfl ?_;refine ah.pure (S.aZ s.length 1 12) rfl ?_;conv=>whnf
 repeat(refine VC.mk (by first|(first|exact fun q=>⟨q,by omega,wN q⟩|exact fun q=>⟨q,by omega,wN2 q⟩)|exact fun h=>h|(intro h; rw[h]; rfl)) ?_)
 refine⟨fun h1=>?_,fun h1=>?_⟩
 ·conv=>whnf
  exact ay.bool (by rw[agt,show Gn s=true from h1]; rfl)
 have hs:s.length<2^40:=by
  have h1':Gn s=false:=h1;simp only[Gn,iq,bk,dg,aD,aq] at h1';omega
 refine aG.same [0] (fun i:Nat=>[(3,.int i)]) (fun i=>i<=s.length/\(s.take i).all (fun c=>nameB c.toNat)=true) (fun i=>s.length-i) 0 rfl (by decide) rfl (fun _=>rfl) ⟨by omega,by simp⟩ ⟨⟨_,rfl,rfl⟩,trivial⟩ ?_;refine⟨rfl,?_⟩;rintro i ⟨hi,hall⟩;refine⟨fun h3=>?_,fun h3=>?_⟩
 ·have hi':i<s.length:=by simpa using h3
  repeat(refine VC.mk (by first|exact id|(omega)|(intro h; simp_all; done)) ?_)
  refine⟨fun h4=>?_,fun h4=>?_⟩
  ·conv=>whnf
   have h4':nameB (s.getD i 0).toNat=false:=by
    rw[nm4] at h4; simpa using h4
   exact ay.bool (by rw[agt,Hr (d:=0) hi' h4',Bool.and_false]; rfl)
  ·conv=>whnf
   refine .mk (by simp only[okI] at *; omega) ?_;refine⟨i+1,⟨by omega,?_⟩,by omega,⟨⟨_,rfl,rfl⟩,trivial⟩,?_,rfl⟩
   ·rw[KD (d:=0) hi' hall];rw[nm4] at h4; simpa using h4
   ·repeat' (first|exact trivial|exact⟨_,rfl,rfl⟩|constructor)
 ·have hi':s.length<=i:=by simpa using h3
  rw[bm hi'] at hall;refine ah.pure (S.qG) rfl ?_;refine ah.pure (S.pX wL s false (by rw[NQ]; decide)) rfl ?_;exact ay.bool (by rw[agt,show Gn s=false from h1,hall]; rfl)
theorem S.jD(l:List Int)(n:Int)(f:Bool)(hl:l.length<2^40)(hn: -2^40<n/\n<2^40):ak Tryz.prog 58 [.row 0 f (.ints l),.int n] (.int (jP l n)):=by
 refine ak.of Bd.jD (by simp) rfl rfl ?_;refine aG.same [0,1] (fun i:Nat=>[(5,.int i)]) (fun i=>i<=l.length/\(l.take i).any (fun i=>tu i n)=false) (fun i=>l.length-i) 0 rfl (by decide) rfl (fun _=>rfl) ⟨by omega,by simp⟩ ⟨⟨_,rfl,rfl⟩,trivial⟩ ?_;refine⟨rfl,?_⟩;rintro i ⟨hi,hall⟩;refine⟨fun h3=>?_,fun h3=>?_⟩
 ·have hi':i<l.length:=by simpa using h3
  repeat(refine VC.mk (by simp only[okI,Rw.rng] at *; omega) ?_)
  refine ah.pure (S.aZ (l.getD i 0) 0 (n-1)) rfl ?_;refine⟨fun h4=>?_,fun h4=>?_⟩
  ·have h4':tu (l.getD i 0) n=true:=by
    have:(!iq (l.getD i 0) 0 (n-1))=true:=h4
    rw[sV,fh] at this; exact this
   refine ay.int ?_;rw[jP,lD (d:=0) hi' h4']; rfl
  ·have h4':tu (l.getD i 0) n=false:=by
    have:(!iq (l.getD i 0) 0 (n-1))=false:=h4
    rw[sV,fh] at this; exact this
   refine .mk (by simp only[okI] at *; omega) ?_;refine⟨i+1,⟨by omega,?_⟩,by omega,⟨⟨_,rfl,rfl⟩,trivial⟩,?_,rfl⟩
   ·rw[o7 (d:=0) hi' hall]; exact h4'
   ·repeat' (first|exact trivial|exact⟨_,rfl,rfl⟩|constructor)
 ·have hi':l.length<=i:=by simpa using h3
  rw[bm hi'] at hall;refine aG.same [0] (fun i:Nat=>[(6,.int (i+1))]) (fun i=>(i<l.length\/i=0)/\JO l=JO (l.drop i)) (fun i=>l.length-i) 0 rfl (by decide) rfl (fun _=>rfl) ⟨by omega,by simp⟩ ⟨⟨_,rfl,rfl⟩,trivial⟩ ?_;refine⟨rfl,?_⟩;rintro i ⟨hi,hinc⟩;refine⟨fun h5=>?_,fun h5=>?_⟩
  ·have hi1:i+1<l.length:=by have:=ag h5; omega
   rw[dO 0 (show i<l.length by omega),dO 0 hi1] at hinc;simp only[JO] at hinc;rw[<- dO 0 hi1] at hinc;repeat(refine VC.mk (by simp only[okI,Rw.rng] at *; omega) ?_)
   refine⟨fun h6=>?_,fun h6=>?_⟩
   ·have e1:((i:Int)+1).toNat=i+1:=by omega
    have e2:((i:Int)+1-1).toNat=i:=by omega
    rw[e1,e2] at h6;have h6':l.getD (i+1) 0<=l.getD i 0:=ag h6;refine ay.int ?_;rw[jP,hall,hinc,cB (by omega)]; rfl
   ·have e1:((i:Int)+1).toNat=i+1:=by omega
    have e2:((i:Int)+1-1).toNat=i:=by omega
    rw[e1,e2] at h6;have h6': ¬ l.getD (i+1) 0<=l.getD i 0:=aM h6;refine .mk (by simp only[okI] at *; omega) ?_;conv=>whnf
    rw[cI (by omega),cV] at hinc;refine⟨i+1,⟨by omega,hinc⟩,by omega,⟨⟨_,rfl,rfl⟩,trivial⟩,?_,rfl⟩;repeat' (first|exact trivial|exact⟨_,rfl,rfl⟩|constructor)
  ·conv=>whnf
   refine ay.int ?_;have h5': ¬ ((i:Int)+1<l.length):=aM h5
   have:JO l=true:=by
    rw[hinc];rcases hd:l.drop i with _|⟨a,_|⟨b,r⟩⟩
    ·rfl
    ·rfl
    ·have:=dC List.length hd;simp only[cA,bX] at this;omega
   rw[jP,hall,this]; rfl
theorem S.uZ(p:aF)(r:Rule):ak Tryz.prog 127 [.dat (.fM p),.dat (.rule r)] (.bool (oU r p.topology)):=by
 refine ak.of Bd.uZ (by simp) rfl rfl ?_;repeat(refine VC.mk (by first|exact id|(intro h; simp_all; done)) ?_)
 refine⟨fun h1=>?_,fun h1=>?_⟩
 ·conv=>whnf
  exact ay.bool (by rw[oU]; erw [h1]; rfl)
 repeat(refine VC.mk (by first|exact id|(intro h; simp_all; done)) ?_)
 refine⟨fun h2=>?_,fun h2=>?_⟩
 ·conv=>whnf
  exact ay.bool (by rw[oU]; erw [h1,h2]; rfl)
 repeat(refine VC.mk (by first|exact id|(intro h; simp_all; done)) ?_)
 refine⟨fun h3=>?_,fun h3=>?_⟩
 ·conv=>whnf
  exact ay.bool (by rw[oU]; erw [h1,h2,h3]; rfl)
 repeat(refine VC.mk (by first|exact id|(intro h; rw[h]; rfl)|(intro h; simp_all; done)) ?_)
 refine⟨fun h4=>?_,fun h4=>?_⟩
 ·conv=>whnf
  exact ay.bool (by rw[oU]; erw [h1,h2,h3,h4]; rfl)
 repeat(refine VC.mk (by first|exact id|(intro h; simp_all; done)) ?_)
 refine⟨fun h5=>?_,fun h5=>?_⟩
 ·conv=>whnf
  exact ay.bool (by rw[oU]; erw [h1,h2,h3,h4,h5]; rfl)
 repeat(refine VC.mk (by first|exact id|(intro h; simp_all; done)) ?_)
 exact ay.bool (by rw[oU]; erw [h1,h2,h3,h4,h5]; rfl)
theorem agu(a b:DR):((a.message==b.message)&&(a.Jv==b.Jv)&&(a.bound==b.bound))=(b==a):=by
 obtain⟨m,c,l⟩:=a;obtain⟨m',c',l'⟩:=b;rw[cR];simp only[aD,bt,DR.mk.injEq];constructor
 ·rintro⟨⟨h1,h2⟩,h3⟩; exact⟨h1.symm,h2.symm,h3.symm⟩
 ·rintro⟨h1,h2,h3⟩; exact⟨⟨h1.symm,h2.symm⟩,h3.symm⟩
theorem S.oH(a b:DR):ak Tryz.prog 160 [.dat (.Vd a),.dat (.Vd b)] (.bool (b==a)):=by
 refine ak.of Bd.oH (by simp) rfl rfl ?_;repeat(refine VC.mk (by first|exact id|exact fun h=>⟨h,h⟩) ?_)
 exact ay.bool (agu a b).symm
theorem S.jg(l:List DR)(g:DR)(f:Bool)(hl:l.length<2^40):ak Tryz.prog 128 [.row 7 f (.uT l),.dat (.Vd g)] (.int (Bf g l 0)):=by
 refine ak.of Bd.jg (by simp) rfl rfl ?_;refine aG.same [0,3] (fun i:Nat=>[(5,.int i)]) (fun i=>i<=l.length/\Bf g l 0=Bf g (l.drop i) i) (fun i=>l.length-i) 0 rfl (by decide) rfl (fun _=>rfl) ⟨by omega,by simp⟩ ⟨⟨_,rfl,rfl⟩,trivial⟩ ?_;refine⟨rfl,?_⟩;rintro i ⟨hi,hall⟩;refine⟨fun h3=>?_,fun h3=>?_⟩
 ·have hi':i<l.length:=by simpa using h3
  rw[dO default hi'] at hall;simp only[Bf] at hall;refine .mk (by simp only[Rw.rng] at *; omega) ?_;refine ah.pure (S.oH (l.getD i default) g) rfl ?_;refine⟨fun h4=>?_,fun h4=>?_⟩
  ·conv=>whnf
   refine ay.int ?_;have h4':(g==l.getD i default)=true:=h4;rw[hall,h4']; rfl
  ·conv=>whnf
   refine .mk (by simp only[okI] at *; omega) ?_;refine⟨i+1,⟨by omega,?_⟩,by omega,⟨⟨_,rfl,rfl⟩,trivial⟩,?_,rfl⟩
   ·have h4':(g==l.getD i default)=false:=h4;rw[hall,h4']; rfl
   ·repeat' (first|exact trivial|exact⟨_,rfl,rfl⟩|constructor)
 ·conv=>whnf
  refine ay.int ?_;have hi':l.length<=i:=by simpa using h3
  rw[hall,cJ hi']; rfl
theorem XG{g:DR}{l:List DR}:decide (Bf g l 0<0)= !(l.any fun x=>g==x):=by
 rw[<- XH (i:=0),cR]; simp
theorem S.qH(p:aF)(hp:dW p):ak Tryz.prog 93 [.dat (.fM p)] (.row 7 false (.uT (Dk p.rules))):=by
 have hp1:=hp.rules;refine ak.of Bd.qH (by simp) rfl rfl ?_;refine aG.nil 3 174 7 (by rfl) rfl rfl rfl ?_;refine aG.objs 2 [1] (fun i:Nat=>[(4,.int i),(3,.own 1)]) (fun i=>[(0,.box 27 11 (.dat (.fM p))),(1,rowT (Dk (p.rules.take i)))]) (fun i=>i<=p.rules.length) (fun i=>p.rules.length-i) 0 [0,4] rfl (by decide) (fun _=>rfl) (ao _) ?_ ?_ ?_
 ·exact(sR rfl)
 ·exact⟨mV rfl rfl,mV rfl rfl,trivial⟩
 refine⟨(sR rfl),rfl,?_⟩;rintro i hi;refine⟨fun h3=>?_,fun h3=>?_⟩
 ·have hi':i<p.rules.length:=by simpa using h3
  refine aG.objs 2 [1,4] (fun k:Nat=>[(5,.int k),(3,.own 1)]) (fun k=>[(0,.box 27 11 (.dat (.fM p))),(1,rowT (Dl p i k))]) (fun k=>k<=(p.rules.getD i default).guards.length) (fun k=>(p.rules.getD i default).guards.length-k) 0 [0,1] rfl (by decide) (fun _=>rfl) (ao _) ?_ ?_ ?_
  ·exact(sR rfl)
  ·exact⟨mV rfl rfl,mV rfl rfl,trivial⟩
  refine⟨(sR rfl),rfl,?_⟩;rintro k hk;have hacc:=XI p hp i k hi';have hg:=(hp.rule i).guards;refine .mk (by simp only[Rw.rng] at *; first|omega|(simp_all; done)|(simp_all; omega)) ?_;refine⟨fun h4=>?_,fun h4=>?_⟩
  ·have hk':k<(p.rules.getD i default).guards.length:=by simpa using h4
   have hst:Dl p i (k+1)=Nj (Dl p i k) ((p.rules.getD i default).guards.getD k default):=J7 hk';repeat(refine VC.mk (by simp only[Rw.rng] at *; first|omega|(simp_all; done)|(simp_all; omega)) ?_)
   refine ah.lend (S.jg (Dl p i k) ((p.rules.getD i default).guards.getD k default) false (by omega)) (And.intro (agv trivial rfl) (And.intro (aH _) trivial)) rfl rfl ?_;refine⟨fun h5=>?_,fun h5=>?_⟩
   ·conv=>whnf
    repeat(refine VC.mk (by first|(show((Dl p i k).length+(0+1))*48<=140737488355328/\(Dl p i k).length+(0+1)<=1152921504606846976; omega)|(simp only[okI] at *; first|omega|(simp_all; done)|(simp_all; omega))) ?_)
    have h5':((Dl p i k).any fun x=>(p.rules.getD i default).guards.getD k default==x)=false:=by rw[XG] at h5; simpa using h5
    refine⟨k+1,[0,29],by omega,by omega,(sR rfl),(sR rfl),mV rfl rfl,⟨rfl,nofun,rfl,rfl,rfl,_,rfl,rfl,rfl,dB.of_eq ?_⟩,trivial⟩;rw[hst,Nj,h5']; rfl
   ·conv=>whnf
    refine .mk (by simp only[okI] at *; first|omega|(simp_all; done)|(simp_all; omega)) ?_;conv=>whnf
    have h5':((Dl p i k).any fun x=>(p.rules.getD i default).guards.getD k default==x)=true:=by rw[XG] at h5; simpa using h5
    refine⟨k+1,[0,1],by omega,by omega,(sR rfl),(sR rfl),mV rfl rfl,⟨rfl,nofun,rfl,rfl,rfl,_,rfl,rfl,rfl,dB.of_eq ?_⟩,trivial⟩;rw[hst,Nj,h5']; rfl
  ·have hk':(p.rules.getD i default).guards.length<=k:=by simpa using h4
   have e:k=(p.rules.getD i default).guards.length:=gT hk hk';subst e;refine .mk (by simp only[okI] at *; first|omega|(simp_all; done)|(simp_all; omega)) ?_;refine⟨i+1,[0,1],by omega,by omega,(sR rfl),(sR rfl),mV rfl rfl,⟨rfl,nofun,rfl,rfl,rfl,_,rfl,rfl,rfl,dB.of_eq ?_⟩,trivial⟩;rw[Tq p hi']
 ·have hi':p.rules.length<=i:=by simpa using h3
  rw[bm hi'];exact ay.am1 rfl
def Ei(p:aF)(r:Rule):Bool:=(r.read != -1&& !(iq r.read 0 (p.values.length-1)))||(r.write != -1&& !(iq r.write 0 (p.values.length-1)))
def Iz(p:aF)(r:Rule):Bool:=(r.kind==4)&&(!(iq r.pos 0 2)||(r.pos !=0&&p.topology==3))
def IB(p:aF)(r:Rule):Bool:=((r.kind==5)&&(p.topology==4))&& !(iq r.direction 3 4)
def IC(p:aF)(r:Rule):Bool:=((r.kind==5)&&(p.topology !=4))&& !(iq r.direction 1 2)
def jH(p:aF)(r:Rule):Int :=
 let n:Int:=p.states.length
 bP [kY p r.guards,fA (decide ((r.guards.length:Int)>2)) 4,jP r.ex n,jP r.all n,fA (Ei p r) 5,jP r.send p.messages.length,jP r.left n,jP r.right n,jP r.parent n,fA (Iz p r) 1,fA (IB p r) 1,fA (IC p r) 1]
def MO(p:aF)(r:Rule):Bool :=
 let n:Int:=p.states.length
 (!(iq r.fr 0 (n-1))|| !(iq r.to 0 (n-1)))||((r.kind==2||r.kind==5)&&(!(iq r.dQ 0 (n-1))|| !(iq r.yT 0 (n-1))))
def MP(p:aF)(r:Rule):Bool:=(!(iq r.kind 1 5)||(decide (r.kind<=3) !=(p.topology==1)))||oU r p.topology
def Dn(p:aF)(i:Nat):Int :=
 let r:=p.rules.getD i default
 bif !(validName r.name) then 2 else bif (p.rules.take i).any (fun x=>x.name==r.name) then 2 else bif MP p r then 6 else bif MO p r then 5 else
 bif r.kind==3 then(bif (r.response.length:Int) !=p.states.length then 1 else bif uI r.response p.states.length !=0 then uI r.response p.states.length else jH p r) else jH p r
theorem sN{n lo hi:Int}:(!(iq n lo hi))=(decide (n<lo)||decide (n>hi)):=by
 unfold iq; rw[cR]; simp
theorem X4{a b:Int}(h:(a !=b)=false):a=b:=by simpa using h
theorem ZC{v:Int}{r:List Int}:bP (fA false v::r)=bP r:=rfl
theorem f0{r:List Int}:bP (0::r)=bP r:=rfl
theorem fN{x:Int}{r:List Int}(h:x≠0):bP (x::r)=x:=bB h
set_option maxHeartbeats 1000000 in
theorem S.Ag(p:aF)(i:Nat)(hi:i<p.rules.length)(hp:dW p):ak Tryz.prog 92 [.dat (.fM p),.int i] (.int (Dn p i)):=by
 have hr:=hp.rule i;have hp1:=hp.rules;have hp2:=hp.states;have hp3:=hp.messages;have hp4:=hp.values;refine ak.of Bd.Ag (by simp) rfl rfl ?_;refine .mk (by simp only[Rw.rng] at *; first|omega|(simp_all; done)|(simp_all; omega)) ?_;refine ah.pure (S.jy (p.rules.getD i default).name) rfl ?_;refine⟨fun h1=>?_,fun h1=>?_⟩
 ·conv=>whnf
  exact ay.int (by rw[Dn,h1]; rfl)
 refine aG.same [1,2,5,6] (fun j:Nat=>[(7,.int j)]) (fun j=>j<=i/\(p.rules.take j).any (fun x=>x.name==(p.rules.getD i default).name)=false) (fun j=>i-j) 0 rfl (by decide) rfl (fun _=>rfl) ⟨by omega,by simp⟩ ⟨⟨_,rfl,rfl⟩,trivial⟩ ?_;refine⟨rfl,?_⟩;rintro j ⟨hj,hall⟩;refine⟨fun h2=>?_,fun h2=>?_⟩
 ·have hj':j<i:=by simpa using h2
  have hj2:j<p.rules.length:=by omega
  refine .mk (by simp only[Rw.rng] at *; first|omega|(simp_all; done)|(simp_all; omega)) ?_;refine⟨fun h3=>?_,fun h3=>?_⟩
  ·conv=>whnf
   have hb:(p.rules.take i).any (fun x=>x.name==(p.rules.getD i default).name)=true:=by
    rw[cL];refine⟨p.rules.getD j default,?_,h3⟩;rw[show p.rules.getD j default=p.rules[j] by simp[hj2],fW];exact⟨j,by omega,rfl⟩
   exact ay.int (by rw[Dn,h1,hb]; rfl)
  ·conv=>whnf
   refine .mk (by simp only[okI] at *; first|omega|(simp_all; done)|(simp_all; omega)) ?_;refine⟨j+1,⟨by omega,?_⟩,by omega,⟨⟨_,rfl,rfl⟩,trivial⟩,?_,rfl⟩
   ·rw[o7 (d:=default) hj2 hall]; exact h3
   ·repeat' (first|exact trivial|exact⟨_,rfl,rfl⟩|constructor)
 have hj':i<=j:=by simpa using h2
 have e:i=j:=gT hj' hj;subst e;refine ah.pure (S.aZ (p.rules.getD i default).kind 1 5) rfl ?_;repeat(refine VC.mk (by first|exact id|exact fun h=>⟨h,h⟩|(intro h; rw[h]; rfl)) ?_)
 refine ah.iJ (fun _=>S.uZ p (p.rules.getD i default)) rfl ?_;refine .mk (by intro h; rw[h]; rfl) ?_;refine⟨fun h4=>?_,fun h4=>?_⟩
 ·conv=>whnf
  exact ay.int (by rw[Dn,h1,hall,show MP p (p.rules.getD i default)=true from h4]; rfl)
 repeat(refine VC.mk (by first|exact id|(intro h; rw[h]; rfl)|(simp only[okI] at *; first|omega|(simp_all; done)|(simp_all; omega))) ?_)
 refine ah.pure (S.aZ (p.rules.getD i default).fr 0 (p.states.length-1)) rfl ?_;repeat(refine VC.mk (by first|exact id|exact fun h=>⟨h,h⟩|(intro h; (repeat' apply And.intro)<;>first|exact h|omega|(simp only[Rw.vT]; omega)|(simp only[Rw.rng]; omega))) ?_)
 refine ah.iJ (fun _=>S.aZ (p.rules.getD i default).to 0 (p.states.length-1)) rfl ?_;repeat(refine VC.mk (by first|exact id|exact fun h=>⟨h,h⟩|(intro h; rw[h]; rfl)|(intro h; (repeat' apply And.intro)<;>first|exact h|omega|(simp only[Rw.vT]; omega)|(simp only[Rw.rng]; omega))) ?_)
 refine ah.iJ (fun _=>S.aZ (p.rules.getD i default).dQ 0 (p.states.length-1)) rfl ?_;repeat(refine VC.mk (by first|exact id|exact fun h=>⟨h,h⟩|(intro h; (repeat' apply And.intro)<;>first|exact h|omega|(simp only[Rw.vT]; omega)|(simp only[Rw.rng]; omega))) ?_)
 refine ah.iJ (fun _=>S.aZ (p.rules.getD i default).yT 0 (p.states.length-1)) rfl ?_;repeat(refine VC.mk (by first|exact id|(intro h; rw[h]; rfl)|(intro h; simp_all; done)) ?_)
 refine⟨fun h5=>?_,fun h5=>?_⟩
 ·conv=>whnf
  exact ay.int (by rw[Dn,h1,hall,show MP p (p.rules.getD i default)=false from h4,show MO p (p.rules.getD i default)=true from h5]; rfl)
 refine⟨fun h6=>?_,fun h6=>?_⟩
 ·replace h6:((p.rules.getD i default).kind==3)=true:=h6;refine⟨fun h7=>?_,fun h7=>?_⟩
  ·replace h7:(((p.rules.getD i default).response.length:Int) !=p.states.length)=true:=h7;exact ay.int (by rw[Dn,h1,hall,show MP p (p.rules.getD i default)=false from h4,show MO p (p.rules.getD i default)=false from h5,h6,h7]; rfl)
  replace h7:(((p.rules.getD i default).response.length:Int) !=p.states.length)=false:=h7;have hn:(p.rules.getD i default).response.length=p.states.length:=by
   have:((p.rules.getD i default).response.length:Int)=p.states.length:=X4 h7
   omega
  refine aG.same [2,5,6] (fun k:Nat=>[(9,.int k)]) (fun k=>k<=p.states.length/\uI (p.rules.getD i default).response p.states.length=uI ((p.rules.getD i default).response.drop k) p.states.length) (fun k=>p.states.length-k) 0 rfl (by decide) rfl (fun _=>rfl) ⟨by omega,by simp⟩ ⟨⟨_,rfl,rfl⟩,trivial⟩ ?_;refine⟨rfl,?_⟩;rintro k ⟨hk,hg⟩;refine⟨fun g1=>?_,fun g1=>?_⟩
  ·have hk':k<(p.rules.getD i default).response.length:=by rw[hn]; simpa using g1
   rw[dO 0 hk'] at hg;simp only[uI] at hg;repeat(refine VC.mk (by simp only[okI,Rw.rng] at *; first|omega|(simp_all; done)|(simp_all; omega)) ?_)
   refine ah.pure (S.aZ ((p.rules.getD i default).response.getD k 0) 0 (p.states.length-1)) rfl ?_;refine⟨fun g2=>?_,fun g2=>?_⟩
   ·rw[sV,fh] at g2;have e:dK ((p.rules.getD i default).response.getD k 0) p.states.length=5:=by rw[dK,g2]; rfl
    rw[e,bB (by decide)] at hg;exact ay.int (by rw[Dn,h1,hall,show MP p (p.rules.getD i default)=false from h4,show MO p (p.rules.getD i default)=false from h5,h6,h7,hg]; rfl)
   rw[sV,fh] at g2;have e:dK ((p.rules.getD i default).response.getD k 0) p.states.length=0:=by rw[dK,g2]; rfl
   rw[bc e] at hg;refine .mk (by simp only[okI] at *; first|omega|(simp_all; done)|(simp_all; omega)) ?_;refine⟨k+1,⟨by omega,hg⟩,by omega,⟨⟨_,rfl,rfl⟩,trivial⟩,?_,rfl⟩;repeat' (first|exact trivial|exact⟨_,rfl,rfl⟩|constructor)
  have hk':(p.rules.getD i default).response.length<=k:=by rw[hn]; simpa using g1
  rw[cJ hk'] at hg;replace hg:uI (p.rules.getD i default).response p.states.length=0:=hg;have hR:Dn p i=jH p (p.rules.getD i default):=by
   rw[Dn,h1,hall,show MP p (p.rules.getD i default)=false from h4,show MO p (p.rules.getD i default)=false from h5,h6,h7,hg]; rfl
  clear hg g1 hk' hk;refine aG.same [2,5,6] (fun k:Nat=>[(10,.int k)]) (fun k=>k<=(p.rules.getD i default).guards.length/\kY p (p.rules.getD i default).guards=kY p ((p.rules.getD i default).guards.drop k)) (fun k=>(p.rules.getD i default).guards.length-k) 0 rfl (by decide) rfl (fun _=>rfl) ⟨by omega,by simp⟩ ⟨⟨_,rfl,rfl⟩,trivial⟩ ?_;refine⟨rfl,?_⟩;rintro k ⟨hk,hg⟩;have hgl:=hr.guards;refine⟨fun g1=>?_,fun g1=>?_⟩
  ·have hk':k<(p.rules.getD i default).guards.length:=by simpa using g1
   rw[dO default hk'] at hg;simp only[kY] at hg;repeat(refine VC.mk (by simp only[okI,Rw.rng] at *; first|omega|(simp_all; done)|(simp_all; omega)) ?_)
   refine ah.pure (S.aZ ((p.rules.getD i default).guards.getD k default).message 0 (p.messages.length-1)) rfl ?_;refine⟨fun g2=>?_,fun g2=>?_⟩
   ·rw[sV,fh] at g2;have e:guardE p ((p.rules.getD i default).guards.getD k default)=5:=by rw[guardE,dK,g2]; rfl
    rw[e,bB (by decide)] at hg;exact ay.int (by rw[hR,jH,hg]; rfl)
   rw[sV,fh] at g2;refine ah.pure (S.aZ ((p.rules.getD i default).guards.getD k default).Jv 1 100) rfl ?_;refine⟨fun g3=>?_,fun g3=>?_⟩
   ·rw[sN] at g3;have e:guardE p ((p.rules.getD i default).guards.getD k default)=1:=by rw[guardE,dK,g2,g3]; rfl
    rw[e,bB (by decide)] at hg;exact ay.int (by rw[hR,jH,hg]; rfl)
   rw[sN] at g3;refine ah.pure (S.yS ((p.rules.getD i default).guards.getD k default).bound) rfl ?_;refine⟨fun g4=>?_,fun g4=>?_⟩
   ·have e:guardE p ((p.rules.getD i default).guards.getD k default)=4:=by rw[guardE,dK,g2,g3,g4]; rfl
    rw[e,bB (by decide)] at hg;exact ay.int (by rw[hR,jH,hg]; rfl)
   have e:guardE p ((p.rules.getD i default).guards.getD k default)=0:=by rw[guardE,dK,g2,g3,g4]; rfl
   rw[bc e] at hg;refine .mk (by simp only[okI] at *; first|omega|(simp_all; done)|(simp_all; omega)) ?_;refine⟨k+1,⟨by omega,hg⟩,by omega,⟨⟨_,rfl,rfl⟩,trivial⟩,?_,rfl⟩;repeat' (first|exact trivial|exact⟨_,rfl,rfl⟩|constructor)
  have hk':(p.rules.getD i default).guards.length<=k:=by simpa using g1
  rw[cJ hk'] at hg;replace hg:kY p (p.rules.getD i default).guards=0:=hg;refine⟨fun c1=>?_,fun c1=>?_⟩
  ·replace c1:decide (((p.rules.getD i default).guards.length:Int)>2)=true:=c1;exact ay.int (by rw[hR,jH,hg,c1]; rfl)
  replace c1:decide (((p.rules.getD i default).guards.length:Int)>2)=false:=c1;refine ah.pure (S.jD (p.rules.getD i default).ex p.states.length false (by have:=hr.ex; omega) ⟨by omega,by omega⟩) rfl ?_;refine⟨fun c2=>?_,fun c2=>?_⟩
  ·conv=>whnf
   exact ay.int (by rw[hR,jH,hg,c1]; simp only[ZC,f0,fN (XJ c2)])
  replace c2:=II c2;refine ah.pure (S.jD (p.rules.getD i default).all p.states.length false (by have:=hr.all; omega) ⟨by omega,by omega⟩) rfl ?_;refine⟨fun c3=>?_,fun c3=>?_⟩
  ·conv=>whnf
   exact ay.int (by rw[hR,jH,hg,c1,c2]; simp only[ZC,f0,fN (XJ c3)])
  replace c3:=II c3;repeat(refine VC.mk (by first|exact id|exact fun h=>⟨h,h⟩|(intro h; (repeat' apply And.intro)<;>first|exact h|omega|(simp only[Rw.vT]; omega)|(simp only[Rw.rng]; omega))) ?_)
  refine ah.iJ (fun _=>S.aZ (p.rules.getD i default).read 0 (p.values.length-1)) rfl ?_;repeat(refine VC.mk (by first|exact id|exact fun h=>⟨h,h⟩|(intro h; (repeat' apply And.intro)<;>first|exact h|omega|(simp only[Rw.vT]; omega)|(simp only[Rw.rng]; omega))) ?_)
  refine ah.iJ (fun _=>S.aZ (p.rules.getD i default).write 0 (p.values.length-1)) rfl ?_;repeat(refine VC.mk (by first|exact id|(intro h; rw[h]; rfl)|(intro h; simp_all; done)) ?_)
  refine⟨fun c4=>?_,fun c4=>?_⟩
  ·conv=>whnf
   exact ay.int (by rw[hR,jH,hg,c1,c2,c3,show Ei p (p.rules.getD i default)=true from c4]; rfl)
  replace c4:Ei p (p.rules.getD i default)=false:=c4;refine ah.pure (S.jD (p.rules.getD i default).send p.messages.length false (by have:=hr.send; omega) ⟨by omega,by omega⟩) rfl ?_;refine⟨fun c5=>?_,fun c5=>?_⟩
  ·conv=>whnf
   exact ay.int (by rw[hR,jH,hg,c1,c2,c3,c4]; simp only[ZC,f0,fN (XJ c5)])
  replace c5:=II c5;refine ah.pure (S.jD (p.rules.getD i default).left p.states.length false (by have:=hr.left; omega) ⟨by omega,by omega⟩) rfl ?_;refine⟨fun c6=>?_,fun c6=>?_⟩
  ·conv=>whnf
   exact ay.int (by rw[hR,jH,hg,c1,c2,c3,c4,c5]; simp only[ZC,f0,fN (XJ c6)])
  replace c6:=II c6;refine ah.pure (S.jD (p.rules.getD i default).right p.states.length false (by have:=hr.right; omega) ⟨by omega,by omega⟩) rfl ?_;refine⟨fun c7=>?_,fun c7=>?_⟩
  ·conv=>whnf
   exact ay.int (by rw[hR,jH,hg,c1,c2,c3,c4,c5,c6]; simp only[ZC,f0,fN (XJ c7)])
  replace c7:=II c7;refine ah.pure (S.jD (p.rules.getD i default).parent p.states.length false (by have:=hr.parent; omega) ⟨by omega,by omega⟩) rfl ?_;refine⟨fun c8=>?_,fun c8=>?_⟩
  ·conv=>whnf
   exact ay.int (by rw[hR,jH,hg,c1,c2,c3,c4,c5,c6,c7]; simp only[ZC,f0,fN (XJ c8)])
  replace c8:=II c8;repeat(refine VC.mk id ?_)
  refine ah.iJ (fun _=>S.aZ (p.rules.getD i default).pos 0 2) rfl ?_;repeat(refine VC.mk (by first|exact id|(intro h; simp_all; done)) ?_)
  refine⟨fun c9=>?_,fun c9=>?_⟩
  ·conv=>whnf
   exact ay.int (by rw[hR,jH,hg,c1,c2,c3,c4,c5,c6,c7,c8,show Iz p (p.rules.getD i default)=true from c9]; rfl)
  replace c9:Iz p (p.rules.getD i default)=false:=c9;repeat(refine VC.mk id ?_)
  refine ah.iJ (fun _=>S.aZ (p.rules.getD i default).direction 3 4) rfl ?_;repeat(refine VC.mk id ?_)
  refine⟨fun c10=>?_,fun c10=>?_⟩
  ·conv=>whnf
   exact ay.int (by rw[hR,jH,hg,c1,c2,c3,c4,c5,c6,c7,c8,c9,show IB p (p.rules.getD i default)=true from c10]; rfl)
  replace c10:IB p (p.rules.getD i default)=false:=c10;repeat(refine VC.mk id ?_)
  refine ah.iJ (fun _=>S.aZ (p.rules.getD i default).direction 1 2) rfl ?_;repeat(refine VC.mk id ?_)
  refine⟨fun c11=>?_,fun c11=>?_⟩
  ·conv=>whnf
   exact ay.int (by rw[hR,jH,hg,c1,c2,c3,c4,c5,c6,c7,c8,c9,c10,show IC p (p.rules.getD i default)=true from c11]; rfl)
  replace c11:IC p (p.rules.getD i default)=false:=c11;exact ay.int (by rw[hR,jH,hg,c1,c2,c3,c4,c5,c6,c7,c8,c9,c10,c11]; rfl)
 ·replace h6:((p.rules.getD i default).kind==3)=false:=h6;have hR:Dn p i=jH p (p.rules.getD i default):=by
   rw[Dn,h1,hall,show MP p (p.rules.getD i default)=false from h4,show MO p (p.rules.getD i default)=false from h5,h6]; rfl
  refine aG.same [2,5,6] (fun k:Nat=>[(10,.int k)]) (fun k=>k<=(p.rules.getD i default).guards.length/\kY p (p.rules.getD i default).guards=kY p ((p.rules.getD i default).guards.drop k)) (fun k=>(p.rules.getD i default).guards.length-k) 0 rfl (by decide) rfl (fun _=>rfl) ⟨by omega,by simp⟩ ⟨⟨_,rfl,rfl⟩,trivial⟩ ?_;refine⟨rfl,?_⟩;rintro k ⟨hk,hg⟩;have hgl:=hr.guards;refine⟨fun g1=>?_,fun g1=>?_⟩
  ·have hk':k<(p.rules.getD i default).guards.length:=by simpa using g1
   rw[dO default hk'] at hg;simp only[kY] at hg;repeat(refine VC.mk (by simp only[okI,Rw.rng] at *; first|omega|(simp_all; done)|(simp_all; omega)) ?_)
   refine ah.pure (S.aZ ((p.rules.getD i default).guards.getD k default).message 0 (p.messages.length-1)) rfl ?_;refine⟨fun g2=>?_,fun g2=>?_⟩
   ·rw[sV,fh] at g2;have e:guardE p ((p.rules.getD i default).guards.getD k default)=5:=by rw[guardE,dK,g2]; rfl
    rw[e,bB (by decide)] at hg;exact ay.int (by rw[hR,jH,hg]; rfl)
   rw[sV,fh] at g2;refine ah.pure (S.aZ ((p.rules.getD i default).guards.getD k default).Jv 1 100) rfl ?_;refine⟨fun g3=>?_,fun g3=>?_⟩
   ·rw[sN] at g3;have e:guardE p ((p.rules.getD i default).guards.getD k default)=1:=by rw[guardE,dK,g2,g3]; rfl
    rw[e,bB (by decide)] at hg;exact ay.int (by rw[hR,jH,hg]; rfl)
   rw[sN] at g3;refine ah.pure (S.yS ((p.rules.getD i default).guards.getD k default).bound) rfl ?_;refine⟨fun g4=>?_,fun g4=>?_⟩
   ·have e:guardE p ((p.rules.getD i default).guards.getD k default)=4:=by rw[guardE,dK,g2,g3,g4]; rfl
    rw[e,bB (by decide)] at hg;exact ay.int (by rw[hR,jH,hg]; rfl)
   have e:guardE p ((p.rules.getD i default).guards.getD k default)=0:=by rw[guardE,dK,g2,g3,g4]; rfl
   rw[bc e] at hg;refine .mk (by simp only[okI] at *; first|omega|(simp_all; done)|(simp_all; omega)) ?_;refine⟨k+1,⟨by omega,hg⟩,by omega,⟨⟨_,rfl,rfl⟩,trivial⟩,?_,rfl⟩;repeat' (first|exact trivial|exact⟨_,rfl,rfl⟩|constructor)
  have hk':(p.rules.getD i default).guards.length<=k:=by simpa using g1
  rw[cJ hk'] at hg;replace hg:kY p (p.rules.getD i default).guards=0:=hg;refine⟨fun c1=>?_,fun c1=>?_⟩
  ·replace c1:decide (((p.rules.getD i default).guards.length:Int)>2)=true:=c1;exact ay.int (by rw[hR,jH,hg,c1]; rfl)
  replace c1:decide (((p.rules.getD i default).guards.length:Int)>2)=false:=c1;refine ah.pure (S.jD (p.rules.getD i default).ex p.states.length false (by have:=hr.ex; omega) ⟨by omega,by omega⟩) rfl ?_;refine⟨fun c2=>?_,fun c2=>?_⟩
  ·conv=>whnf
   exact ay.int (by rw[hR,jH,hg,c1]; simp only[ZC,f0,fN (XJ c2)])
  replace c2:=II c2;refine ah.pure (S.jD (p.rules.getD i default).all p.states.length false (by have:=hr.all; omega) ⟨by omega,by omega⟩) rfl ?_;refine⟨fun c3=>?_,fun c3=>?_⟩
  ·conv=>whnf
   exact ay.int (by rw[hR,jH,hg,c1,c2]; simp only[ZC,f0,fN (XJ c3)])
  replace c3:=II c3;repeat(refine VC.mk (by first|exact id|exact fun h=>⟨h,h⟩|(intro h; (repeat' apply And.intro)<;>first|exact h|omega|(simp only[Rw.vT]; omega)|(simp only[Rw.rng]; omega))) ?_)
  refine ah.iJ (fun _=>S.aZ (p.rules.getD i default).read 0 (p.values.length-1)) rfl ?_;repeat(refine VC.mk (by first|exact id|exact fun h=>⟨h,h⟩|(intro h; (repeat' apply And.intro)<;>first|exact h|omega|(simp only[Rw.vT]; omega)|(simp only[Rw.rng]; omega))) ?_)
  refine ah.iJ (fun _=>S.aZ (p.rules.getD i default).write 0 (p.values.length-1)) rfl ?_;repeat(refine VC.mk (by first|exact id|(intro h; rw[h]; rfl)|(intro h; simp_all; done)) ?_)
  refine⟨fun c4=>?_,fun c4=>?_⟩
  ·conv=>whnf
   exact ay.int (by rw[hR,jH,hg,c1,c2,c3,show Ei p (p.rules.getD i default)=true from c4]; rfl)
  replace c4:Ei p (p.rules.getD i default)=false:=c4;refine ah.pure (S.jD (p.rules.getD i default).send p.messages.length false (by have:=hr.send; omega) ⟨by omega,by omega⟩) rfl ?_;refine⟨fun c5=>?_,fun c5=>?_⟩
  ·conv=>whnf
   exact ay.int (by rw[hR,jH,hg,c1,c2,c3,c4]; simp only[ZC,f0,fN (XJ c5)])
  replace c5:=II c5;refine ah.pure (S.jD (p.rules.getD i default).left p.states.length false (by have:=hr.left; omega) ⟨by omega,by omega⟩) rfl ?_;refine⟨fun c6=>?_,fun c6=>?_⟩
  ·conv=>whnf
   exact ay.int (by rw[hR,jH,hg,c1,c2,c3,c4,c5]; simp only[ZC,f0,fN (XJ c6)])
  replace c6:=II c6;refine ah.pure (S.jD (p.rules.getD i default).right p.states.length false (by have:=hr.right; omega) ⟨by omega,by omega⟩) rfl ?_;refine⟨fun c7=>?_,fun c7=>?_⟩
  ·conv=>whnf
   exact ay.int (by rw[hR,jH,hg,c1,c2,c3,c4,c5,c6]; simp only[ZC,f0,fN (XJ c7)])
  replace c7:=II c7;refine ah.pure (S.jD (p.rules.getD i default).parent p.states.length false (by have:=hr.parent; omega) ⟨by omega,by omega⟩) rfl ?_;refine⟨fun c8=>?_,fun c8=>?_⟩
  ·conv=>whnf
   exact ay.int (by rw[hR,jH,hg,c1,c2,c3,c4,c5,c6,c7]; simp only[ZC,f0,fN (XJ c8)])
  replace c8:=II c8;repeat(refine VC.mk id ?_)
  refine ah.iJ (fun _=>S.aZ (p.rules.getD i default).pos 0 2) rfl ?_;repeat(refine VC.mk (by first|exact id|(intro h; simp_all; done)) ?_)
  refine⟨fun c9=>?_,fun c9=>?_⟩
  ·conv=>whnf
   exact ay.int (by rw[hR,jH,hg,c1,c2,c3,c4,c5,c6,c7,c8,show Iz p (p.rules.getD i default)=true from c9]; rfl)
  replace c9:Iz p (p.rules.getD i default)=false:=c9;repeat(refine VC.mk id ?_)
  refine ah.iJ (fun _=>S.aZ (p.rules.getD i default).direction 3 4) rfl ?_;repeat(refine VC.mk id ?_)
  refine⟨fun c10=>?_,fun c10=>?_⟩
  ·conv=>whnf
   exact ay.int (by rw[hR,jH,hg,c1,c2,c3,c4,c5,c6,c7,c8,c9,show IB p (p.rules.getD i default)=true from c10]; rfl)
  replace c10:IB p (p.rules.getD i default)=false:=c10;repeat(refine VC.mk id ?_)
  refine ah.iJ (fun _=>S.aZ (p.rules.getD i default).direction 1 2) rfl ?_;repeat(refine VC.mk id ?_)
  refine⟨fun c11=>?_,fun c11=>?_⟩
  ·conv=>whnf
   exact ay.int (by rw[hR,jH,hg,c1,c2,c3,c4,c5,c6,c7,c8,c9,c10,show IC p (p.rules.getD i default)=true from c11]; rfl)
  replace c11:IC p (p.rules.getD i default)=false:=c11;exact ay.int (by rw[hR,jH,hg,c1,c2,c3,c4,c5,c6,c7,c8,c9,c10,c11]; rfl)
end Go.Proofs.YtdloaandiobgdaaGreatDoor
