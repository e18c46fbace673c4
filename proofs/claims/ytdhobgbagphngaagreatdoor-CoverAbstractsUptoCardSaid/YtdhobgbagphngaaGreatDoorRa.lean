/-
 A part of the proof. No condition.
-/
import Derived.Test.YtdhobgbagphngaaGreatDoorVa
namespace Go.Proofs.YtdhobgbagphngaaGreatDoor
open Go.Ab Go.Proofs
set_option maxRecDepth 100000
def dP(n lo hi:Int):Bool:=decide (n>=lo)&&decide (n<=hi)
theorem S.aY(n lo hi:Int):aj Tryz.prog 57 [.int n,.int lo,.int hi] (.bool (dP n lo hi)):=by
 refine aj.of Bd.aY (by simp) rfl rfl ?_;repeat(refine VC.mk (by first|exact id|exact fun h=>⟨h,h⟩) ?_)
 exact ak.bool rfl
theorem oZ{x n:Int}:dP x 0 (n-1)= !(rE x n):=by
 unfold dP rE;rw[Bool.eq_iff_iff]; simp; omega
theorem S.Ae(l:Lin):aj Tryz.prog 59 [.dat (.lin l)] (.bool (SE l)):=by
 refine aj.of Bd.Ae (by simp) rfl rfl ?_;refine ah.pure (S.aY l.c (-100) 100) rfl ?_;repeat(refine VC.mk id ?_)
 refine ah.eG (fun _=>S.aY l.n (-100) 100) rfl ?_;repeat(refine VC.mk id ?_)
 refine ah.eG (fun _=>S.aY l.t (-100) 100) rfl ?_;repeat(refine VC.mk id ?_)
 refine ah.eG (fun _=>S.aY l.f (-100) 100) rfl ?_;refine VC.mk id ?_;exact ak.bool rfl
theorem S.qW(l:List Str)(s:Str)(f:Bool)(hl:l.length<2^40):aj Tryz.prog 58 [.row 0 f (.strs l),.str s] (.bool (l.any fun x=>s==x)):=by
 refine aj.of Bd.qW (by simp) rfl rfl ?_;refine aC.same [0,1] (fun i:Nat=>[(5,.int i)]) (fun i=>i<=l.length/\(l.take i).any (fun x=>s==x)=false) (fun i=>l.length-i) 0 rfl (by decide) rfl (fun _=>rfl) ⟨by omega,by simp⟩ ⟨⟨_,rfl,rfl⟩,trivial⟩ ?_;refine⟨rfl,?_⟩;rintro i ⟨hi,hall⟩;refine⟨fun h3=>?_,fun h3=>?_⟩
 ·have hi':i<l.length:=by simpa using h3
  refine .mk (by simp only[Rw.rng] at *; omega) ?_;refine⟨fun h4=>?_,fun h4=>?_⟩
  ·have h4':(s==l.getD i [])=true:=by rw[show(s==l.getD i [])=(l.getD i []==s) from Bool.beq_comm]; exact h4
   exact ak.bool (lZ (d:=[]) hi' h4')
  ·have h4':(s==l.getD i [])=false:=by rw[show(s==l.getD i [])=(l.getD i []==s) from Bool.beq_comm]; exact h4
   refine .mk (by simp only[okI] at *; omega) ?_;refine⟨i+1,⟨by omega,?_⟩,by omega,⟨⟨_,rfl,rfl⟩,trivial⟩,?_,rfl⟩
   ·rw[pK (d:=[]) hi' hall]; exact h4'
   ·repeat' (first|exact trivial|exact⟨_,rfl,rfl⟩|constructor)
 ·have hi':l.length<=i:=by simpa using h3
  rw[List.take_of_length_le hi'] at hall;exact ak.bool hall
theorem S.sV:aj Tryz.prog 99 [] (.row 0 false (.strs sK)):=by
 refine aj.of Bd.sV (by simp) rfl rfl ?_;exact ak.row (congrArg Rw.strs (by kernel_rfl))
theorem CU(s:Str):(bs s).toList=s:=by rw[Lib.toList_data]; rfl
theorem aeY(s:Str):nmB (bs s)=(!(s.isEmpty)&& !(decide (12<(s.length:Int)))&&lF s):=by
 unfold nmB;rw[CU,zT]; rfl
theorem SG{c:Nat}(h:jS c=true):nameB c=true:=by unfold nameB; rw[h]; rfl
theorem SI{s:Str}(h:s≠[]):lF s=(jS (s.getD 0 0).toNat&&s.all fun c=>nameB c.toNat):=by
 cases s with
 |nil=>exact absurd rfl h
 |cons c r =>
  simp only[lF,List.getD_cons_zero,List.all_cons];cases hl:jS c.toNat with
  |false=>rfl
  |true=>rw[SG hl]; simp
theorem tK{α:Type}{l:List α}{p:α->Bool}{d:α}{i:Nat}(hi:i<l.length)(h:(l.take i).all p=true):(l.take (i+1)).all p=p (l.getD i d):=by
 rw[List.take_add_one,List.all_append,h,Bool.true_and];simp[hi]
theorem qh{α:Type}{l:List α}{p:α->Bool}{d:α}{i:Nat}(hi:i<l.length)(h:p (l.getD i d)=false):l.all p=false:=by
 rw[Bool.eq_false_iff]; intro q;rw[List.all_eq_true] at q;have:=q l[i] (List.getElem_mem hi);rw[show l.getD i d=l[i] by simp[hi]] at h;rw[h] at this; cases this
def u8(s:Str)(i:Nat):Nat:=(s.getD i 0).toNat
theorem aaQ{c:Nat}:nameB c=(decide (97<=c/\c<=122)||decide (48<=c/\c<=57)||decide (c=95)):=by
 rw[Bool.eq_iff_iff]; simp[nameB,jS]
theorem Va{c:Nat}:jS c=decide (97<=c/\c<=122):=by
 rw[Bool.eq_iff_iff]; simp[jS]
theorem wN{n:Nat}(h:(bif false then !(dP n 1 12) else !!(dP n 1 12))=true):(0:Int)<n:=by
 simp only[cond_false,Bool.not_not,dP,Bool.and_eq_true,decide_eq_true_eq] at h; omega
theorem wN2{n:Nat}{b:Bool}(h:(bif false then !(dP n 1 12)||b else !(!(dP n 1 12)||b))=true):(0:Int)<n:=by
 simp only[cond_false,Bool.not_or,Bool.not_not,dP,Bool.and_eq_true,decide_eq_true_eq] at h; omega
def Dh(s:Str):Bool:= !(dP s.length 1 12)||decide (((s.getD 0 0).toNat:Int)<97)||decide (122<((s.getD 0 0).toNat:Int))
theorem aaR(s:Str):validName s=((!(Dh s)&&s.all fun c=>nameB c.toNat)&& !(sK.any fun x=>s==x)):=by
 rw[validName,aeY]
 congr 1
 cases s with
 |nil=>rfl
 |cons c r =>
  rw[SI (by simp),Va];generalize ((c::r).all fun c=>nameB c.toNat)=A;simp only[Dh,dP,List.isEmpty_cons,List.length_cons,List.getD_cons_zero];rw[Bool.eq_iff_iff];simp;cases A<;>simp<;>omega
theorem nm4{c:Nat}:(!(decide (97<=(c:Int))&&decide ((c:Int)<=122))&& !(decide (48<=(c:Int))&&decide ((c:Int)<=57))&&(c:Int) !=95)= !(nameB c):=by
 rw[aaQ,Bool.eq_iff_iff]; simp; omega
theorem S.kR(s:Str):aj Tryz.prog 56 [.str s] (.bool (validName s)):=by
 refine aj.of Bd.kR (by simp) rfl rfl ?_;refine ah.pure (S.aY s.length 1 12) rfl ?_;conv=>whnf
 repeat(refine VC.mk (by first|(first|exact fun q=>⟨q,by omega,wN q⟩|exact fun q=>⟨q,by omega,wN2 q⟩)|exact fun h=>h|(intro h; rw[h]; rfl)) ?_)
 refine⟨fun h1=>?_,fun h1=>?_⟩
 ·conv=>whnf
  exact ak.bool (by rw[aaR,show Dh s=true from h1]; rfl)
 have hs:s.length<2^40:=by
  have h1':Dh s=false:=h1;simp only[Dh,dP,Bool.or_eq_false_iff,Bool.not_eq_false',Bool.and_eq_true,decide_eq_true_eq] at h1';omega
 refine aC.same [0] (fun i:Nat=>[(3,.int i)]) (fun i=>i<=s.length/\(s.take i).all (fun c=>nameB c.toNat)=true) (fun i=>s.length-i) 0 rfl (by decide) rfl (fun _=>rfl) ⟨by omega,by simp⟩ ⟨⟨_,rfl,rfl⟩,trivial⟩ ?_;refine⟨rfl,?_⟩;rintro i ⟨hi,hall⟩;refine⟨fun h3=>?_,fun h3=>?_⟩
 ·have hi':i<s.length:=by simpa using h3
  repeat(refine VC.mk (by first|exact id|(omega)|(intro h; simp_all; done)) ?_)
  refine⟨fun h4=>?_,fun h4=>?_⟩
  ·conv=>whnf
   have h4':nameB (s.getD i 0).toNat=false:=by
    rw[nm4] at h4; simpa using h4
   exact ak.bool (by rw[aaR,qh (d:=0) hi' h4',Bool.and_false]; rfl)
  ·conv=>whnf
   refine .mk (by simp only[okI] at *; omega) ?_;refine⟨i+1,⟨by omega,?_⟩,by omega,⟨⟨_,rfl,rfl⟩,trivial⟩,?_,rfl⟩
   ·rw[tK (d:=0) hi' hall];rw[nm4] at h4; simpa using h4
   ·repeat' (first|exact trivial|exact⟨_,rfl,rfl⟩|constructor)
 ·have hi':s.length<=i:=by simpa using h3
  rw[List.take_of_length_le hi'] at hall;refine ah.pure (S.sV) rfl ?_;refine ah.pure (S.qW sK s false (by rw[Ji]; decide)) rfl ?_;exact ak.bool (by rw[aaR,show Dh s=false from h1,hall]; rfl)
theorem S.jT(l:List Int)(n:Int)(f:Bool)(hl:l.length<2^40)(hn: -2^40<n/\n<2^40):aj Tryz.prog 60 [.row 0 f (.ints l),.int n] (.int (jf l n)):=by
 refine aj.of Bd.jT (by simp) rfl rfl ?_;refine aC.same [0,1] (fun i:Nat=>[(5,.int i)]) (fun i=>i<=l.length/\(l.take i).any (fun i=>rE i n)=false) (fun i=>l.length-i) 0 rfl (by decide) rfl (fun _=>rfl) ⟨by omega,by simp⟩ ⟨⟨_,rfl,rfl⟩,trivial⟩ ?_;refine⟨rfl,?_⟩;rintro i ⟨hi,hall⟩;refine⟨fun h3=>?_,fun h3=>?_⟩
 ·have hi':i<l.length:=by simpa using h3
  repeat(refine VC.mk (by simp only[okI,Rw.rng] at *; omega) ?_)
  refine ah.pure (S.aY (l.getD i 0) 0 (n-1)) rfl ?_;refine⟨fun h4=>?_,fun h4=>?_⟩
  ·have h4':rE (l.getD i 0) n=true:=by
    have:(!dP (l.getD i 0) 0 (n-1))=true:=h4
    rw[oZ,Bool.not_not] at this; exact this
   refine ak.int ?_;rw[jf,lZ (d:=0) hi' h4']; rfl
  ·have h4':rE (l.getD i 0) n=false:=by
    have:(!dP (l.getD i 0) 0 (n-1))=false:=h4
    rw[oZ,Bool.not_not] at this; exact this
   refine .mk (by simp only[okI] at *; omega) ?_;refine⟨i+1,⟨by omega,?_⟩,by omega,⟨⟨_,rfl,rfl⟩,trivial⟩,?_,rfl⟩
   ·rw[pK (d:=0) hi' hall]; exact h4'
   ·repeat' (first|exact trivial|exact⟨_,rfl,rfl⟩|constructor)
 ·have hi':l.length<=i:=by simpa using h3
  rw[List.take_of_length_le hi'] at hall;refine aC.same [0] (fun i:Nat=>[(6,.int (i+1))]) (fun i=>(i<l.length\/i=0)/\F8 l=F8 (l.drop i)) (fun i=>l.length-i) 0 rfl (by decide) rfl (fun _=>rfl) ⟨by omega,by simp⟩ ⟨⟨_,rfl,rfl⟩,trivial⟩ ?_;refine⟨rfl,?_⟩;rintro i ⟨hi,hinc⟩;refine⟨fun h5=>?_,fun h5=>?_⟩
  ·have hi1:i+1<l.length:=by have:=of_decide_eq_true h5; omega
   rw[dA 0 (show i<l.length by omega),dA 0 hi1] at hinc;simp only[F8] at hinc;rw[<- dA 0 hi1] at hinc;repeat(refine VC.mk (by simp only[okI,Rw.rng] at *; omega) ?_)
   refine⟨fun h6=>?_,fun h6=>?_⟩
   ·have e1:((i:Int)+1).toNat=i+1:=by omega
    have e2:((i:Int)+1-1).toNat=i:=by omega
    rw[e1,e2] at h6;have h6':l.getD (i+1) 0<=l.getD i 0:=of_decide_eq_true h6;refine ak.int ?_;rw[jf,hall,hinc,decide_eq_false (by omega)]; rfl
   ·have e1:((i:Int)+1).toNat=i+1:=by omega
    have e2:((i:Int)+1-1).toNat=i:=by omega
    rw[e1,e2] at h6;have h6': ¬ l.getD (i+1) 0<=l.getD i 0:=of_decide_eq_false h6;refine .mk (by simp only[okI] at *; omega) ?_;conv=>whnf
    rw[decide_eq_true (by omega),Bool.true_and] at hinc;refine⟨i+1,⟨by omega,hinc⟩,by omega,⟨⟨_,rfl,rfl⟩,trivial⟩,?_,rfl⟩;repeat' (first|exact trivial|exact⟨_,rfl,rfl⟩|constructor)
  ·conv=>whnf
   refine ak.int ?_;have h5': ¬ ((i:Int)+1<l.length):=of_decide_eq_false h5
   have:F8 l=true:=by
    rw[hinc];rcases hd:l.drop i with _|⟨a,_|⟨b,r⟩⟩
    ·rfl
    ·rfl
    ·have:=congrArg List.length hd;simp only[List.length_drop,List.length_cons] at this;omega
   rw[jf,hall,this]; rfl
theorem S.xO(p:aH)(r:Rule):aj Tryz.prog 100 [.dat (.fK p),.dat (.rule r)] (.bool (lY r p.topology)):=by
 refine aj.of Bd.xO (by simp) rfl rfl ?_;repeat(refine VC.mk (by first|exact id|(intro h; simp_all; done)) ?_)
 refine⟨fun h1=>?_,fun h1=>?_⟩
 ·conv=>whnf
  exact ak.bool (by rw[lY]; erw [h1]; rfl)
 repeat(refine VC.mk (by first|exact id|(intro h; simp_all; done)) ?_)
 refine⟨fun h2=>?_,fun h2=>?_⟩
 ·conv=>whnf
  exact ak.bool (by rw[lY]; erw [h1,h2]; rfl)
 repeat(refine VC.mk (by first|exact id|(intro h; simp_all; done)) ?_)
 refine⟨fun h3=>?_,fun h3=>?_⟩
 ·conv=>whnf
  exact ak.bool (by rw[lY]; erw [h1,h2,h3]; rfl)
 repeat(refine VC.mk (by first|exact id|(intro h; rw[h]; rfl)|(intro h; simp_all; done)) ?_)
 refine⟨fun h4=>?_,fun h4=>?_⟩
 ·conv=>whnf
  exact ak.bool (by rw[lY]; erw [h1,h2,h3,h4]; rfl)
 repeat(refine VC.mk (by first|exact id|(intro h; simp_all; done)) ?_)
 refine⟨fun h5=>?_,fun h5=>?_⟩
 ·conv=>whnf
  exact ak.bool (by rw[lY]; erw [h1,h2,h3,h4,h5]; rfl)
 repeat(refine VC.mk (by first|exact id|(intro h; simp_all; done)) ?_)
 exact ak.bool (by rw[lY]; erw [h1,h2,h3,h4,h5]; rfl)
theorem aaS(a b:Ar):((a.message==b.message)&&(a.Fz==b.Fz)&&(a.bound==b.bound))=(b==a):=by
 obtain⟨m,c,l⟩:=a;obtain⟨m',c',l'⟩:=b;rw[Bool.eq_iff_iff];simp only[Bool.and_eq_true,beq_iff_eq,Ar.mk.injEq];constructor
 ·rintro⟨⟨h1,h2⟩,h3⟩; exact⟨h1.symm,h2.symm,h3.symm⟩
 ·rintro⟨h1,h2,h3⟩; exact⟨⟨h1.symm,h2.symm⟩,h3.symm⟩
theorem S.kL(a b:Ar):aj Tryz.prog 130 [.dat (.Tt a),.dat (.Tt b)] (.bool (b==a)):=by
 refine aj.of Bd.kL (by simp) rfl rfl ?_;repeat(refine VC.mk (by first|exact id|exact fun h=>⟨h,h⟩) ?_)
 exact ak.bool (aaS a b).symm
theorem S.jM(l:List Ar)(g:Ar)(f:Bool)(hl:l.length<2^40):aj Tryz.prog 101 [.row 7 f (.qZ l),.dat (.Tt g)] (.int (yw g l 0)):=by
 refine aj.of Bd.jM (by simp) rfl rfl ?_;refine aC.same [0,3] (fun i:Nat=>[(5,.int i)]) (fun i=>i<=l.length/\yw g l 0=yw g (l.drop i) i) (fun i=>l.length-i) 0 rfl (by decide) rfl (fun _=>rfl) ⟨by omega,by simp⟩ ⟨⟨_,rfl,rfl⟩,trivial⟩ ?_;refine⟨rfl,?_⟩;rintro i ⟨hi,hall⟩;refine⟨fun h3=>?_,fun h3=>?_⟩
 ·have hi':i<l.length:=by simpa using h3
  rw[dA default hi'] at hall;simp only[yw] at hall;refine .mk (by simp only[Rw.rng] at *; omega) ?_;refine ah.pure (S.kL (l.getD i default) g) rfl ?_;refine⟨fun h4=>?_,fun h4=>?_⟩
  ·conv=>whnf
   refine ak.int ?_;have h4':(g==l.getD i default)=true:=h4;rw[hall,h4']; rfl
  ·conv=>whnf
   refine .mk (by simp only[okI] at *; omega) ?_;refine⟨i+1,⟨by omega,?_⟩,by omega,⟨⟨_,rfl,rfl⟩,trivial⟩,?_,rfl⟩
   ·have h4':(g==l.getD i default)=false:=h4;rw[hall,h4']; rfl
   ·repeat' (first|exact trivial|exact⟨_,rfl,rfl⟩|constructor)
 ·conv=>whnf
  refine ak.int ?_;have hi':l.length<=i:=by simpa using h3
  rw[hall,List.drop_eq_nil_of_le hi']; rfl
theorem SK{g:Ar}{l:List Ar}:decide (yw g l 0<0)= !(l.any fun x=>g==x):=by
 rw[<- SL (i:=0),Bool.eq_iff_iff]; simp
theorem S.sZ(p:aH)(hp:dG p):aj Tryz.prog 62 [.dat (.fK p)] (.row 7 false (.qZ (zC p.rules))):=by
 have hp1:=hp.rules;refine aj.of Bd.sZ (by simp) rfl rfl ?_;refine aC.nil 3 143 7 (by rfl) rfl rfl rfl ?_;refine aC.objs 2 [1] (fun i:Nat=>[(4,.int i),(3,.own 1)]) (fun i=>[(0,.box 27 11 (.dat (.fK p))),(1,rowT (zC (p.rules.take i)))]) (fun i=>i<=p.rules.length) (fun i=>p.rules.length-i) 0 [0,4] rfl (by decide) (fun _=>rfl) (Nat.zero_le _) ?_ ?_ ?_
 ·exact(sR rfl)
 ·exact⟨iQ rfl rfl,iQ rfl rfl,trivial⟩
 refine⟨(sR rfl),rfl,?_⟩;rintro i hi;refine⟨fun h3=>?_,fun h3=>?_⟩
 ·have hi':i<p.rules.length:=by simpa using h3
  refine aC.objs 2 [1,4] (fun k:Nat=>[(5,.int k),(3,.own 1)]) (fun k=>[(0,.box 27 11 (.dat (.fK p))),(1,rowT (zD p i k))]) (fun k=>k<=(p.rules.getD i default).guards.length) (fun k=>(p.rules.getD i default).guards.length-k) 0 [0,1] rfl (by decide) (fun _=>rfl) (Nat.zero_le _) ?_ ?_ ?_
  ·exact(sR rfl)
  ·exact⟨iQ rfl rfl,iQ rfl rfl,trivial⟩
  refine⟨(sR rfl),rfl,?_⟩;rintro k hk;have hacc:=SN p hp i k hi';have hg:=(hp.rule i).guards;refine .mk (by simp only[Rw.rng] at *; first|omega|(simp_all; done)|(simp_all; omega)) ?_;refine⟨fun h4=>?_,fun h4=>?_⟩
  ·have hk':k<(p.rules.getD i default).guards.length:=by simpa using h4
   have hst:zD p i (k+1)=IV (zD p i k) ((p.rules.getD i default).guards.getD k default):=Cb hk';repeat(refine VC.mk (by simp only[Rw.rng] at *; first|omega|(simp_all; done)|(simp_all; omega)) ?_)
   refine ah.lend (S.jM (zD p i k) ((p.rules.getD i default).guards.getD k default) false (by omega)) (And.intro (aaT trivial rfl) (And.intro (aI _) trivial)) rfl rfl ?_;refine⟨fun h5=>?_,fun h5=>?_⟩
   ·conv=>whnf
    repeat(refine VC.mk (by first|(show((zD p i k).length+(0+1))*48<=140737488355328/\(zD p i k).length+(0+1)<=1152921504606846976; omega)|(simp only[okI] at *; first|omega|(simp_all; done)|(simp_all; omega))) ?_)
    have h5':((zD p i k).any fun x=>(p.rules.getD i default).guards.getD k default==x)=false:=by rw[SK] at h5; simpa using h5
    refine⟨k+1,[0,29],by omega,by omega,(sR rfl),(sR rfl),iQ rfl rfl,⟨rfl,nofun,rfl,rfl,rfl,_,rfl,rfl,rfl,dQ.of_eq ?_⟩,trivial⟩;rw[hst,IV,h5']; rfl
   ·conv=>whnf
    refine .mk (by simp only[okI] at *; first|omega|(simp_all; done)|(simp_all; omega)) ?_;conv=>whnf
    have h5':((zD p i k).any fun x=>(p.rules.getD i default).guards.getD k default==x)=true:=by rw[SK] at h5; simpa using h5
    refine⟨k+1,[0,1],by omega,by omega,(sR rfl),(sR rfl),iQ rfl rfl,⟨rfl,nofun,rfl,rfl,rfl,_,rfl,rfl,rfl,dQ.of_eq ?_⟩,trivial⟩;rw[hst,IV,h5']; rfl
  ·have hk':(p.rules.getD i default).guards.length<=k:=by simpa using h4
   have e:k=(p.rules.getD i default).guards.length:=Nat.le_antisymm hk hk';subst e;refine .mk (by simp only[okI] at *; first|omega|(simp_all; done)|(simp_all; omega)) ?_;refine⟨i+1,[0,1],by omega,by omega,(sR rfl),(sR rfl),iQ rfl rfl,⟨rfl,nofun,rfl,rfl,rfl,_,rfl,rfl,rfl,dQ.of_eq ?_⟩,trivial⟩;rw[N7 p hi']
 ·have hi':p.rules.length<=i:=by simpa using h3
  rw[List.take_of_length_le hi'];exact ak.agi rfl
def Aq(p:aH)(r:Rule):Bool:=(r.read != -1&& !(dP r.read 0 (p.values.length-1)))||(r.write != -1&& !(dP r.write 0 (p.values.length-1)))
def Ew(p:aH)(r:Rule):Bool:=(r.kind==4)&&(!(dP r.pos 0 2)||(r.pos !=0&&p.topology==3))
def Ey(p:aH)(r:Rule):Bool:=((r.kind==5)&&(p.topology==4))&& !(dP r.direction 3 4)
def Ez(p:aH)(r:Rule):Bool:=((r.kind==5)&&(p.topology !=4))&& !(dP r.direction 1 2)
def iq(p:aH)(r:Rule):Int :=
 let n:Int:=p.states.length
 bH [jU p r.guards,dV (decide ((r.guards.length:Int)>2)) 4,jf r.ex n,jf r.all n,dV (Aq p r) 5,jf r.send p.messages.length,jf r.left n,jf r.right n,jf r.parent n,dV (Ew p r) 1,dV (Ey p r) 1,dV (Ez p r) 1]
def Iz(p:aH)(r:Rule):Bool :=
 let n:Int:=p.states.length
 (!(dP r.fr 0 (n-1))|| !(dP r.to 0 (n-1)))||((r.kind==2||r.kind==5)&&(!(dP r.kG 0 (n-1))|| !(dP r.Di 0 (n-1))))
def IB(p:aH)(r:Rule):Bool:=(!(dP r.kind 1 5)||(decide (r.kind<=3) !=(p.topology==1)))||lY r p.topology
def zF(p:aH)(i:Nat):Int :=
 let r:=p.rules.getD i default
 bif !(validName r.name) then 2 else bif (p.rules.take i).any (fun x=>x.name==r.name) then 2 else bif IB p r then 6 else bif Iz p r then 5 else
 bif r.kind==3 then(bif (r.response.length:Int) !=p.states.length then 1 else bif qg r.response p.states.length !=0 then qg r.response p.states.length else iq p r) else iq p r
theorem qX{n lo hi:Int}:(!(dP n lo hi))=(decide (n<lo)||decide (n>hi)):=by
 unfold dP; rw[Bool.eq_iff_iff]; simp
theorem TD{a b:Int}(h:(a !=b)=false):a=b:=by simpa using h
theorem YD{v:Int}{r:List Int}:bH (dV false v::r)=bH r:=rfl
theorem f0{r:List Int}:bH (0::r)=bH r:=rfl
theorem fN{x:Int}{r:List Int}(h:x≠0):bH (x::r)=x:=if_neg h
set_option maxHeartbeats 1000000 in
theorem S.Cc(p:aH)(i:Nat)(hi:i<p.rules.length)(hp:dG p):aj Tryz.prog 61 [.dat (.fK p),.int i] (.int (zF p i)):=by
 have hr:=hp.rule i;have hp1:=hp.rules;have hp2:=hp.states;have hp3:=hp.messages;have hp4:=hp.values;refine aj.of Bd.Cc (by simp) rfl rfl ?_;refine .mk (by simp only[Rw.rng] at *; first|omega|(simp_all; done)|(simp_all; omega)) ?_;refine ah.pure (S.kR (p.rules.getD i default).name) rfl ?_;refine⟨fun h1=>?_,fun h1=>?_⟩
 ·conv=>whnf
  exact ak.int (by rw[zF,h1]; rfl)
 refine aC.same [1,2,5,6] (fun j:Nat=>[(7,.int j)]) (fun j=>j<=i/\(p.rules.take j).any (fun x=>x.name==(p.rules.getD i default).name)=false) (fun j=>i-j) 0 rfl (by decide) rfl (fun _=>rfl) ⟨by omega,by simp⟩ ⟨⟨_,rfl,rfl⟩,trivial⟩ ?_;refine⟨rfl,?_⟩;rintro j ⟨hj,hall⟩;refine⟨fun h2=>?_,fun h2=>?_⟩
 ·have hj':j<i:=by simpa using h2
  have hj2:j<p.rules.length:=by omega
  refine .mk (by simp only[Rw.rng] at *; first|omega|(simp_all; done)|(simp_all; omega)) ?_;refine⟨fun h3=>?_,fun h3=>?_⟩
  ·conv=>whnf
   have hb:(p.rules.take i).any (fun x=>x.name==(p.rules.getD i default).name)=true:=by
    rw[List.any_eq_true];refine⟨p.rules.getD j default,?_,h3⟩;rw[show p.rules.getD j default=p.rules[j] by simp[hj2],List.mem_take_iff_getElem];exact⟨j,by omega,rfl⟩
   exact ak.int (by rw[zF,h1,hb]; rfl)
  ·conv=>whnf
   refine .mk (by simp only[okI] at *; first|omega|(simp_all; done)|(simp_all; omega)) ?_;refine⟨j+1,⟨by omega,?_⟩,by omega,⟨⟨_,rfl,rfl⟩,trivial⟩,?_,rfl⟩
   ·rw[pK (d:=default) hj2 hall]; exact h3
   ·repeat' (first|exact trivial|exact⟨_,rfl,rfl⟩|constructor)
 have hj':i<=j:=by simpa using h2
 have e:i=j:=Nat.le_antisymm hj' hj;subst e;refine ah.pure (S.aY (p.rules.getD i default).kind 1 5) rfl ?_;repeat(refine VC.mk (by first|exact id|exact fun h=>⟨h,h⟩|(intro h; rw[h]; rfl)) ?_)
 refine ah.eG (fun _=>S.xO p (p.rules.getD i default)) rfl ?_;refine .mk (by intro h; rw[h]; rfl) ?_;refine⟨fun h4=>?_,fun h4=>?_⟩
 ·conv=>whnf
  exact ak.int (by rw[zF,h1,hall,show IB p (p.rules.getD i default)=true from h4]; rfl)
 repeat(refine VC.mk (by first|exact id|(intro h; rw[h]; rfl)|(simp only[okI] at *; first|omega|(simp_all; done)|(simp_all; omega))) ?_)
 refine ah.pure (S.aY (p.rules.getD i default).fr 0 (p.states.length-1)) rfl ?_;repeat(refine VC.mk (by first|exact id|exact fun h=>⟨h,h⟩|(intro h; (repeat' apply And.intro)<;>first|exact h|omega|(simp only[Rw.rJ]; omega)|(simp only[Rw.rng]; omega))) ?_)
 refine ah.eG (fun _=>S.aY (p.rules.getD i default).to 0 (p.states.length-1)) rfl ?_;repeat(refine VC.mk (by first|exact id|exact fun h=>⟨h,h⟩|(intro h; rw[h]; rfl)|(intro h; (repeat' apply And.intro)<;>first|exact h|omega|(simp only[Rw.rJ]; omega)|(simp only[Rw.rng]; omega))) ?_)
 refine ah.eG (fun _=>S.aY (p.rules.getD i default).kG 0 (p.states.length-1)) rfl ?_;repeat(refine VC.mk (by first|exact id|exact fun h=>⟨h,h⟩|(intro h; (repeat' apply And.intro)<;>first|exact h|omega|(simp only[Rw.rJ]; omega)|(simp only[Rw.rng]; omega))) ?_)
 refine ah.eG (fun _=>S.aY (p.rules.getD i default).Di 0 (p.states.length-1)) rfl ?_;repeat(refine VC.mk (by first|exact id|(intro h; rw[h]; rfl)|(intro h; simp_all; done)) ?_)
 refine⟨fun h5=>?_,fun h5=>?_⟩
 ·conv=>whnf
  exact ak.int (by rw[zF,h1,hall,show IB p (p.rules.getD i default)=false from h4,show Iz p (p.rules.getD i default)=true from h5]; rfl)
 refine⟨fun h6=>?_,fun h6=>?_⟩
 ·replace h6:((p.rules.getD i default).kind==3)=true:=h6;refine⟨fun h7=>?_,fun h7=>?_⟩
  ·replace h7:(((p.rules.getD i default).response.length:Int) !=p.states.length)=true:=h7;exact ak.int (by rw[zF,h1,hall,show IB p (p.rules.getD i default)=false from h4,show Iz p (p.rules.getD i default)=false from h5,h6,h7]; rfl)
  replace h7:(((p.rules.getD i default).response.length:Int) !=p.states.length)=false:=h7;have hn:(p.rules.getD i default).response.length=p.states.length:=by
   have:((p.rules.getD i default).response.length:Int)=p.states.length:=TD h7
   omega
  refine aC.same [2,5,6] (fun k:Nat=>[(9,.int k)]) (fun k=>k<=p.states.length/\qg (p.rules.getD i default).response p.states.length=qg ((p.rules.getD i default).response.drop k) p.states.length) (fun k=>p.states.length-k) 0 rfl (by decide) rfl (fun _=>rfl) ⟨by omega,by simp⟩ ⟨⟨_,rfl,rfl⟩,trivial⟩ ?_;refine⟨rfl,?_⟩;rintro k ⟨hk,hg⟩;refine⟨fun g1=>?_,fun g1=>?_⟩
  ·have hk':k<(p.rules.getD i default).response.length:=by rw[hn]; simpa using g1
   rw[dA 0 hk'] at hg;simp only[qg] at hg;repeat(refine VC.mk (by simp only[okI,Rw.rng] at *; first|omega|(simp_all; done)|(simp_all; omega)) ?_)
   refine ah.pure (S.aY ((p.rules.getD i default).response.getD k 0) 0 (p.states.length-1)) rfl ?_;refine⟨fun g2=>?_,fun g2=>?_⟩
   ·rw[oZ,Bool.not_not] at g2;have e:cO ((p.rules.getD i default).response.getD k 0) p.states.length=5:=by rw[cO,g2]; rfl
    rw[e,if_neg (by decide)] at hg;exact ak.int (by rw[zF,h1,hall,show IB p (p.rules.getD i default)=false from h4,show Iz p (p.rules.getD i default)=false from h5,h6,h7,hg]; rfl)
   rw[oZ,Bool.not_not] at g2;have e:cO ((p.rules.getD i default).response.getD k 0) p.states.length=0:=by rw[cO,g2]; rfl
   rw[if_pos e] at hg;refine .mk (by simp only[okI] at *; first|omega|(simp_all; done)|(simp_all; omega)) ?_;refine⟨k+1,⟨by omega,hg⟩,by omega,⟨⟨_,rfl,rfl⟩,trivial⟩,?_,rfl⟩;repeat' (first|exact trivial|exact⟨_,rfl,rfl⟩|constructor)
  have hk':(p.rules.getD i default).response.length<=k:=by rw[hn]; simpa using g1
  rw[List.drop_eq_nil_of_le hk'] at hg;replace hg:qg (p.rules.getD i default).response p.states.length=0:=hg;have hR:zF p i=iq p (p.rules.getD i default):=by
   rw[zF,h1,hall,show IB p (p.rules.getD i default)=false from h4,show Iz p (p.rules.getD i default)=false from h5,h6,h7,hg]; rfl
  clear hg g1 hk' hk;refine aC.same [2,5,6] (fun k:Nat=>[(10,.int k)]) (fun k=>k<=(p.rules.getD i default).guards.length/\jU p (p.rules.getD i default).guards=jU p ((p.rules.getD i default).guards.drop k)) (fun k=>(p.rules.getD i default).guards.length-k) 0 rfl (by decide) rfl (fun _=>rfl) ⟨by omega,by simp⟩ ⟨⟨_,rfl,rfl⟩,trivial⟩ ?_;refine⟨rfl,?_⟩;rintro k ⟨hk,hg⟩;have hgl:=hr.guards;refine⟨fun g1=>?_,fun g1=>?_⟩
  ·have hk':k<(p.rules.getD i default).guards.length:=by simpa using g1
   rw[dA default hk'] at hg;simp only[jU] at hg;repeat(refine VC.mk (by simp only[okI,Rw.rng] at *; first|omega|(simp_all; done)|(simp_all; omega)) ?_)
   refine ah.pure (S.aY ((p.rules.getD i default).guards.getD k default).message 0 (p.messages.length-1)) rfl ?_;refine⟨fun g2=>?_,fun g2=>?_⟩
   ·rw[oZ,Bool.not_not] at g2;have e:guardE p ((p.rules.getD i default).guards.getD k default)=5:=by rw[guardE,cO,g2]; rfl
    rw[e,if_neg (by decide)] at hg;exact ak.int (by rw[hR,iq,hg]; rfl)
   rw[oZ,Bool.not_not] at g2;refine ah.pure (S.aY ((p.rules.getD i default).guards.getD k default).Fz 1 100) rfl ?_;refine⟨fun g3=>?_,fun g3=>?_⟩
   ·rw[qX] at g3;have e:guardE p ((p.rules.getD i default).guards.getD k default)=1:=by rw[guardE,cO,g2,g3]; rfl
    rw[e,if_neg (by decide)] at hg;exact ak.int (by rw[hR,iq,hg]; rfl)
   rw[qX] at g3;refine ah.pure (S.Ae ((p.rules.getD i default).guards.getD k default).bound) rfl ?_;refine⟨fun g4=>?_,fun g4=>?_⟩
   ·have e:guardE p ((p.rules.getD i default).guards.getD k default)=4:=by rw[guardE,cO,g2,g3,g4]; rfl
    rw[e,if_neg (by decide)] at hg;exact ak.int (by rw[hR,iq,hg]; rfl)
   have e:guardE p ((p.rules.getD i default).guards.getD k default)=0:=by rw[guardE,cO,g2,g3,g4]; rfl
   rw[if_pos e] at hg;refine .mk (by simp only[okI] at *; first|omega|(simp_all; done)|(simp_all; omega)) ?_;refine⟨k+1,⟨by omega,hg⟩,by omega,⟨⟨_,rfl,rfl⟩,trivial⟩,?_,rfl⟩;repeat' (first|exact trivial|exact⟨_,rfl,rfl⟩|constructor)
  have hk':(p.rules.getD i default).guards.length<=k:=by simpa using g1
  rw[List.drop_eq_nil_of_le hk'] at hg;replace hg:jU p (p.rules.getD i default).guards=0:=hg;refine⟨fun c1=>?_,fun c1=>?_⟩
  ·replace c1:decide (((p.rules.getD i default).guards.length:Int)>2)=true:=c1;exact ak.int (by rw[hR,iq,hg,c1]; rfl)
  replace c1:decide (((p.rules.getD i default).guards.length:Int)>2)=false:=c1;refine ah.pure (S.jT (p.rules.getD i default).ex p.states.length false (by have:=hr.ex; omega) ⟨by omega,by omega⟩) rfl ?_;refine⟨fun c2=>?_,fun c2=>?_⟩
  ·conv=>whnf
   exact ak.int (by rw[hR,iq,hg,c1]; simp only[YD,f0,fN (SQ c2)])
  replace c2:=AA c2;refine ah.pure (S.jT (p.rules.getD i default).all p.states.length false (by have:=hr.all; omega) ⟨by omega,by omega⟩) rfl ?_;refine⟨fun c3=>?_,fun c3=>?_⟩
  ·conv=>whnf
   exact ak.int (by rw[hR,iq,hg,c1,c2]; simp only[YD,f0,fN (SQ c3)])
  replace c3:=AA c3;repeat(refine VC.mk (by first|exact id|exact fun h=>⟨h,h⟩|(intro h; (repeat' apply And.intro)<;>first|exact h|omega|(simp only[Rw.rJ]; omega)|(simp only[Rw.rng]; omega))) ?_)
  refine ah.eG (fun _=>S.aY (p.rules.getD i default).read 0 (p.values.length-1)) rfl ?_;repeat(refine VC.mk (by first|exact id|exact fun h=>⟨h,h⟩|(intro h; (repeat' apply And.intro)<;>first|exact h|omega|(simp only[Rw.rJ]; omega)|(simp only[Rw.rng]; omega))) ?_)
  refine ah.eG (fun _=>S.aY (p.rules.getD i default).write 0 (p.values.length-1)) rfl ?_;repeat(refine VC.mk (by first|exact id|(intro h; rw[h]; rfl)|(intro h; simp_all; done)) ?_)
  refine⟨fun c4=>?_,fun c4=>?_⟩
  ·conv=>whnf
   exact ak.int (by rw[hR,iq,hg,c1,c2,c3,show Aq p (p.rules.getD i default)=true from c4]; rfl)
  replace c4:Aq p (p.rules.getD i default)=false:=c4;refine ah.pure (S.jT (p.rules.getD i default).send p.messages.length false (by have:=hr.send; omega) ⟨by omega,by omega⟩) rfl ?_;refine⟨fun c5=>?_,fun c5=>?_⟩
  ·conv=>whnf
   exact ak.int (by rw[hR,iq,hg,c1,c2,c3,c4]; simp only[YD,f0,fN (SQ c5)])
  replace c5:=AA c5;refine ah.pure (S.jT (p.rules.getD i default).left p.states.length false (by have:=hr.left; omega) ⟨by omega,by omega⟩) rfl ?_;refine⟨fun c6=>?_,fun c6=>?_⟩
  ·conv=>whnf
   exact ak.int (by rw[hR,iq,hg,c1,c2,c3,c4,c5]; simp only[YD,f0,fN (SQ c6)])
  replace c6:=AA c6;refine ah.pure (S.jT (p.rules.getD i default).right p.states.length false (by have:=hr.right; omega) ⟨by omega,by omega⟩) rfl ?_;refine⟨fun c7=>?_,fun c7=>?_⟩
  ·conv=>whnf
   exact ak.int (by rw[hR,iq,hg,c1,c2,c3,c4,c5,c6]; simp only[YD,f0,fN (SQ c7)])
  replace c7:=AA c7;refine ah.pure (S.jT (p.rules.getD i default).parent p.states.length false (by have:=hr.parent; omega) ⟨by omega,by omega⟩) rfl ?_;refine⟨fun c8=>?_,fun c8=>?_⟩
  ·conv=>whnf
   exact ak.int (by rw[hR,iq,hg,c1,c2,c3,c4,c5,c6,c7]; simp only[YD,f0,fN (SQ c8)])
  replace c8:=AA c8;repeat(refine VC.mk id ?_)
  refine ah.eG (fun _=>S.aY (p.rules.getD i default).pos 0 2) rfl ?_;repeat(refine VC.mk (by first|exact id|(intro h; simp_all; done)) ?_)
  refine⟨fun c9=>?_,fun c9=>?_⟩
  ·conv=>whnf
   exact ak.int (by rw[hR,iq,hg,c1,c2,c3,c4,c5,c6,c7,c8,show Ew p (p.rules.getD i default)=true from c9]; rfl)
  replace c9:Ew p (p.rules.getD i default)=false:=c9;repeat(refine VC.mk id ?_)
  refine ah.eG (fun _=>S.aY (p.rules.getD i default).direction 3 4) rfl ?_;repeat(refine VC.mk id ?_)
  refine⟨fun c10=>?_,fun c10=>?_⟩
  ·conv=>whnf
   exact ak.int (by rw[hR,iq,hg,c1,c2,c3,c4,c5,c6,c7,c8,c9,show Ey p (p.rules.getD i default)=true from c10]; rfl)
  replace c10:Ey p (p.rules.getD i default)=false:=c10;repeat(refine VC.mk id ?_)
  refine ah.eG (fun _=>S.aY (p.rules.getD i default).direction 1 2) rfl ?_;repeat(refine VC.mk id ?_)
  refine⟨fun c11=>?_,fun c11=>?_⟩
  ·conv=>whnf
   exact ak.int (by rw[hR,iq,hg,c1,c2,c3,c4,c5,c6,c7,c8,c9,c10,show Ez p (p.rules.getD i default)=true from c11]; rfl)
  replace c11:Ez p (p.rules.getD i default)=false:=c11;exact ak.int (by rw[hR,iq,hg,c1,c2,c3,c4,c5,c6,c7,c8,c9,c10,c11]; rfl)
 ·replace h6:((p.rules.getD i default).kind==3)=false:=h6;have hR:zF p i=iq p (p.rules.getD i default):=by
   rw[zF,h1,hall,show IB p (p.rules.getD i default)=false from h4,show Iz p (p.rules.getD i default)=false from h5,h6]; rfl
  refine aC.same [2,5,6] (fun k:Nat=>[(10,.int k)]) (fun k=>k<=(p.rules.getD i default).guards.length/\jU p (p.rules.getD i default).guards=jU p ((p.rules.getD i default).guards.drop k)) (fun k=>(p.rules.getD i default).guards.length-k) 0 rfl (by decide) rfl (fun _=>rfl) ⟨by omega,by simp⟩ ⟨⟨_,rfl,rfl⟩,trivial⟩ ?_;refine⟨rfl,?_⟩;rintro k ⟨hk,hg⟩;have hgl:=hr.guards;refine⟨fun g1=>?_,fun g1=>?_⟩
  ·have hk':k<(p.rules.getD i default).guards.length:=by simpa using g1
   rw[dA default hk'] at hg;simp only[jU] at hg;repeat(refine VC.mk (by simp only[okI,Rw.rng] at *; first|omega|(simp_all; done)|(simp_all; omega)) ?_)
   refine ah.pure (S.aY ((p.rules.getD i default).guards.getD k default).message 0 (p.messages.length-1)) rfl ?_;refine⟨fun g2=>?_,fun g2=>?_⟩
   ·rw[oZ,Bool.not_not] at g2;have e:guardE p ((p.rules.getD i default).guards.getD k default)=5:=by rw[guardE,cO,g2]; rfl
    rw[e,if_neg (by decide)] at hg;exact ak.int (by rw[hR,iq,hg]; rfl)
   rw[oZ,Bool.not_not] at g2;refine ah.pure (S.aY ((p.rules.getD i default).guards.getD k default).Fz 1 100) rfl ?_;refine⟨fun g3=>?_,fun g3=>?_⟩
   ·rw[qX] at g3;have e:guardE p ((p.rules.getD i default).guards.getD k default)=1:=by rw[guardE,cO,g2,g3]; rfl
    rw[e,if_neg (by decide)] at hg;exact ak.int (by rw[hR,iq,hg]; rfl)
   rw[qX] at g3;refine ah.pure (S.Ae ((p.rules.getD i default).guards.getD k default).bound) rfl ?_;refine⟨fun g4=>?_,fun g4=>?_⟩
   ·have e:guardE p ((p.rules.getD i default).guards.getD k default)=4:=by rw[guardE,cO,g2,g3,g4]; rfl
    rw[e,if_neg (by decide)] at hg;exact ak.int (by rw[hR,iq,hg]; rfl)
   have e:guardE p ((p.rules.getD i default).guards.getD k default)=0:=by rw[guardE,cO,g2,g3,g4]; rfl
   rw[if_pos e] at hg;refine .mk (by simp only[okI] at *; first|omega|(simp_all; done)|(simp_all; omega)) ?_;refine⟨k+1,⟨by omega,hg⟩,by omega,⟨⟨_,rfl,rfl⟩,trivial⟩,?_,rfl⟩;repeat' (first|exact trivial|exact⟨_,rfl,rfl⟩|constructor)
  have hk':(p.rules.getD i default).guards.length<=k:=by simpa using g1
  rw[List.drop_eq_nil_of_le hk'] at hg;replace hg:jU p (p.rules.getD i default).guards=0:=hg;refine⟨fun c1=>?_,fun c1=>?_⟩
  ·replace c1:decide (((p.rules.getD i default).guards.length:Int)>2)=true:=c1;exact ak.int (by rw[hR,iq,hg,c1]; rfl)
  replace c1:decide (((p.rules.getD i default).guards.length:Int)>2)=false:=c1;refine ah.pure (S.jT (p.rules.getD i default).ex p.states.length false (by have:=hr.ex; omega) ⟨by omega,by omega⟩) rfl ?_;refine⟨fun c2=>?_,fun c2=>?_⟩
  ·conv=>whnf
   exact ak.int (by rw[hR,iq,hg,c1]; simp only[YD,f0,fN (SQ c2)])
  replace c2:=AA c2;refine ah.pure (S.jT (p.rules.getD i default).all p.states.length false (by have:=hr.all; omega) ⟨by omega,by omega⟩) rfl ?_;refine⟨fun c3=>?_,fun c3=>?_⟩
  ·conv=>whnf
   exact ak.int (by rw[hR,iq,hg,c1,c2]; simp only[YD,f0,fN (SQ c3)])
  replace c3:=AA c3;repeat(refine VC.mk (by first|exact id|exact fun h=>⟨h,h⟩|(intro h; (repeat' apply And.intro)<;>first|exact h|omega|(simp only[Rw.rJ]; omega)|(simp only[Rw.rng]; omega))) ?_)
  refine ah.eG (fun _=>S.aY (p.rules.getD i default).read 0 (p.values.length-1)) rfl ?_;repeat(refine VC.mk (by first|exact id|exact fun h=>⟨h,h⟩|(intro h; (repeat' apply And.intro)<;>first|exact h|omega|(simp only[Rw.rJ]; omega)|(simp only[Rw.rng]; omega))) ?_)
  refine ah.eG (fun _=>S.aY (p.rules.getD i default).write 0 (p.values.length-1)) rfl ?_;repeat(refine VC.mk (by first|exact id|(intro h; rw[h]; rfl)|(intro h; simp_all; done)) ?_)
  refine⟨fun c4=>?_,fun c4=>?_⟩
  ·conv=>whnf
   exact ak.int (by rw[hR,iq,hg,c1,c2,c3,show Aq p (p.rules.getD i default)=true from c4]; rfl)
  replace c4:Aq p (p.rules.getD i default)=false:=c4;refine ah.pure (S.jT (p.rules.getD i default).send p.messages.length false (by have:=hr.send; omega) ⟨by omega,by omega⟩) rfl ?_;refine⟨fun c5=>?_,fun c5=>?_⟩
  ·conv=>whnf
   exact ak.int (by rw[hR,iq,hg,c1,c2,c3,c4]; simp only[YD,f0,fN (SQ c5)])
  replace c5:=AA c5;refine ah.pure (S.jT (p.rules.getD i default).left p.states.length false (by have:=hr.left; omega) ⟨by omega,by omega⟩) rfl ?_;refine⟨fun c6=>?_,fun c6=>?_⟩
  ·conv=>whnf
   exact ak.int (by rw[hR,iq,hg,c1,c2,c3,c4,c5]; simp only[YD,f0,fN (SQ c6)])
  replace c6:=AA c6;refine ah.pure (S.jT (p.rules.getD i default).right p.states.length false (by have:=hr.right; omega) ⟨by omega,by omega⟩) rfl ?_;refine⟨fun c7=>?_,fun c7=>?_⟩
  ·conv=>whnf
   exact ak.int (by rw[hR,iq,hg,c1,c2,c3,c4,c5,c6]; simp only[YD,f0,fN (SQ c7)])
  replace c7:=AA c7;refine ah.pure (S.jT (p.rules.getD i default).parent p.states.length false (by have:=hr.parent; omega) ⟨by omega,by omega⟩) rfl ?_;refine⟨fun c8=>?_,fun c8=>?_⟩
  ·conv=>whnf
   exact ak.int (by rw[hR,iq,hg,c1,c2,c3,c4,c5,c6,c7]; simp only[YD,f0,fN (SQ c8)])
  replace c8:=AA c8;repeat(refine VC.mk id ?_)
  refine ah.eG (fun _=>S.aY (p.rules.getD i default).pos 0 2) rfl ?_;repeat(refine VC.mk (by first|exact id|(intro h; simp_all; done)) ?_)
  refine⟨fun c9=>?_,fun c9=>?_⟩
  ·conv=>whnf
   exact ak.int (by rw[hR,iq,hg,c1,c2,c3,c4,c5,c6,c7,c8,show Ew p (p.rules.getD i default)=true from c9]; rfl)
  replace c9:Ew p (p.rules.getD i default)=false:=c9;repeat(refine VC.mk id ?_)
  refine ah.eG (fun _=>S.aY (p.rules.getD i default).direction 3 4) rfl ?_;repeat(refine VC.mk id ?_)
  refine⟨fun c10=>?_,fun c10=>?_⟩
  ·conv=>whnf
   exact ak.int (by rw[hR,iq,hg,c1,c2,c3,c4,c5,c6,c7,c8,c9,show Ey p (p.rules.getD i default)=true from c10]; rfl)
  replace c10:Ey p (p.rules.getD i default)=false:=c10;repeat(refine VC.mk id ?_)
  refine ah.eG (fun _=>S.aY (p.rules.getD i default).direction 1 2) rfl ?_;repeat(refine VC.mk id ?_)
  refine⟨fun c11=>?_,fun c11=>?_⟩
  ·conv=>whnf
   exact ak.int (by rw[hR,iq,hg,c1,c2,c3,c4,c5,c6,c7,c8,c9,c10,show Ez p (p.rules.getD i default)=true from c11]; rfl)
  replace c11:Ez p (p.rules.getD i default)=false:=c11;exact ak.int (by rw[hR,iq,hg,c1,c2,c3,c4,c5,c6,c7,c8,c9,c10,c11]; rfl)
end Go.Proofs.YtdhobgbagphngaaGreatDoor
