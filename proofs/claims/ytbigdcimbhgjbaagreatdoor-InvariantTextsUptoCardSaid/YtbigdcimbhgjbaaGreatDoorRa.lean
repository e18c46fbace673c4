/-
 A part of the proof. No condition.
-/
import Derived.Test.YtbigdcimbhgjbaaGreatDoorVa
namespace Go.Proofs.YtbigdcimbhgjbaaGreatDoor
open Go.Ab Go.Proofs
set_option maxRecDepth 100000
def iP(n lo hi:Int):Bool:=decide (n>=lo)&&decide (n<=hi)
theorem S.bn(n lo hi:Int):ak Tryz.prog 79 [.int n,.int lo,.int hi] (.bool (iP n lo hi)):=by
 refine ak.of Bd.bn (by simp) rfl rfl ?_
 repeat(refine VC.mk (by first|exact id|exact fun h=>⟨h,h⟩) ?_)
 exact au.bool rfl
theorem nN{x n:Int}:iP x 0 (n-1)= !(oI x n):=by
 unfold iP oI
 rw[Bool.eq_iff_iff]; simp; omega
theorem S.yD(l:Zz):ak Tryz.prog 81 [.dat (.lin l)] (.bool (OT l)):=by
 refine ak.of Bd.yD (by simp) rfl rfl ?_
 refine ah.pure (S.bn l.c (-100) 100) rfl ?_
 repeat(refine VC.mk id ?_)
 refine ah.iD (fun _=>S.bn l.n (-100) 100) rfl ?_
 repeat(refine VC.mk id ?_)
 refine ah.iD (fun _=>S.bn l.t (-100) 100) rfl ?_
 repeat(refine VC.mk id ?_)
 refine ah.iD (fun _=>S.bn l.f (-100) 100) rfl ?_
 refine VC.mk id ?_
 exact au.bool rfl
theorem S.pq(l:List Str)(s:Str)(f:Bool)(hl:l.length<2^40):ak Tryz.prog 80 [.row 0 f (.strs l),.str s] (.bool (l.any fun x=>s==x)):=by
 refine ak.of Bd.pq (by simp) rfl rfl ?_
 refine aQ.same [0,1] (fun i:Nat=>[(5,.int i)]) (fun i=>i<=l.length/\(l.take i).any (fun x=>s==x)=false) (fun i=>l.length-i) 0 rfl (by decide) rfl (fun _=>rfl) ⟨by omega,by simp⟩ ⟨⟨_,rfl,rfl⟩,trivial⟩ ?_
 refine⟨rfl,?_⟩
 rintro i ⟨hi,hall⟩
 refine⟨fun h3=>?_,fun h3=>?_⟩
 ·have hi':i<l.length:=by simpa using h3
  refine .mk (by simp only[Rw.rng] at *; omega) ?_
  refine⟨fun h4=>?_,fun h4=>?_⟩
  ·have h4':(s==l.getD i [])=true:=by rw[show(s==l.getD i [])=(l.getD i []==s) from Bool.beq_comm]; exact h4
   exact au.bool (mQ (d:=[]) hi' h4')
  ·have h4':(s==l.getD i [])=false:=by rw[show(s==l.getD i [])=(l.getD i []==s) from Bool.beq_comm]; exact h4
   refine .mk (by simp only[okI] at *; omega) ?_
   refine⟨i+1,⟨by omega,?_⟩,by omega,⟨⟨_,rfl,rfl⟩,trivial⟩,?_,rfl⟩
   ·rw[pO (d:=[]) hi' hall]; exact h4'
   ·repeat' (first|exact trivial|exact⟨_,rfl,rfl⟩|constructor)
 ·have hi':l.length<=i:=by simpa using h3
  rw[List.take_of_length_le hi'] at hall
  exact au.bool hall
theorem S.qH:ak Tryz.prog 116 [] (.row 0 false (.strs qG)):=by
 refine ak.of Bd.qH (by simp) rfl rfl ?_
 exact au.row (congrArg Rw.strs (by kernel_rfl))
theorem Af(s:Str):(bs s).toList=s:=by rw[Lib.toList_data]; rfl
theorem ab7(s:Str):nmB (bs s)=(!(s.isEmpty)&& !(decide (12<(s.length:Int)))&&kG s):=by
 unfold nmB
 rw[Af,yw]; rfl
theorem OU{c:Nat}(h:jP c=true):nameB c=true:=by unfold nameB; rw[h]; rfl
theorem OW{s:Str}(h:s≠[]):kG s=(jP (s.getD 0 0).toNat&&s.all fun c=>nameB c.toNat):=by
 cases s with
 |nil=>exact absurd rfl h
 |cons c r =>
  simp only[kG,List.getD_cons_zero,List.all_cons]
  cases hl:jP c.toNat with
  |false=>rfl
  |true=>rw[OU hl]; simp
theorem tY{α:Type}{l:List α}{p:α->Bool}{d:α}{i:Nat}(hi:i<l.length)(h:(l.take i).all p=true):(l.take (i+1)).all p=p (l.getD i d):=by
 rw[List.take_add_one,List.all_append,h,Bool.true_and]
 simp[hi]
theorem uN{α:Type}{l:List α}{p:α->Bool}{d:α}{i:Nat}(hi:i<l.length)(h:p (l.getD i d)=false):l.all p=false:=by
 rw[Bool.eq_false_iff]; intro q
 rw[List.all_eq_true] at q
 have:=q l[i] (List.getElem_mem hi)
 rw[show l.getD i d=l[i] by simp[hi]] at h
 rw[h] at this; cases this
def u8(s:Str)(i:Nat):Nat:=(s.getD i 0).toNat
theorem Yc{c:Nat}:nameB c=(decide (97<=c/\c<=122)||decide (48<=c/\c<=57)||decide (c=95)):=by
 rw[Bool.eq_iff_iff]; simp[nameB,jP]
theorem Q9{c:Nat}:jP c=decide (97<=c/\c<=122):=by
 rw[Bool.eq_iff_iff]; simp[jP]
theorem wN{n:Nat}(h:(bif false then !(iP n 1 12) else !!(iP n 1 12))=true):(0:Int)<n:=by
 simp only[cond_false,Bool.not_not,iP,Bool.and_eq_true,decide_eq_true_eq] at h; omega
theorem wN2{n:Nat}{b:Bool}(h:(bif false then !(iP n 1 12)||b else !(!(iP n 1 12)||b))=true):(0:Int)<n:=by
 simp only[cond_false,Bool.not_or,Bool.not_not,iP,Bool.and_eq_true,decide_eq_true_eq] at h; omega
def Ai(s:Str):Bool:= !(iP s.length 1 12)||decide (((s.getD 0 0).toNat:Int)<97)||decide (122<((s.getD 0 0).toNat:Int))
theorem Ye(s:Str):validName s=((!(Ai s)&&s.all fun c=>nameB c.toNat)&& !(qG.any fun x=>s==x)):=by
 rw[validName,ab7]
 congr 1
 cases s with
 |nil=>rfl
 |cons c r =>
  rw[OW (by simp),Q9]
  generalize ((c::r).all fun c=>nameB c.toNat)=A
  simp only[Ai,iP,List.isEmpty_cons,List.length_cons,List.getD_cons_zero]
  rw[Bool.eq_iff_iff]
  simp
  cases A<;>simp<;>omega
theorem nm4{c:Nat}:(!(decide (97<=(c:Int))&&decide ((c:Int)<=122))&& !(decide (48<=(c:Int))&&decide ((c:Int)<=57))&&(c:Int) !=95)= !(nameB c):=by
 rw[Yc,Bool.eq_iff_iff]; simp; omega
theorem S.kM(s:Str):ak Tryz.prog 78 [.str s] (.bool (validName s)):=by
 refine ak.of Bd.kM (by simp) rfl rfl ?_
 refine ah.pure (S.bn s.length 1 12) rfl ?_
 conv=>whnf
 repeat(refine VC.mk (by first|(first|exact fun q=>⟨q,by omega,wN q⟩|exact fun q=>⟨q,by omega,wN2 q⟩)|exact fun h=>h|(intro h; rw[h]; rfl)) ?_)
 refine⟨fun h1=>?_,fun h1=>?_⟩
 ·conv=>whnf
  exact au.bool (by rw[Ye,show Ai s=true from h1]; rfl)
 have hs:s.length<2^40:=by
  have h1':Ai s=false:=h1
  simp only[Ai,iP,Bool.or_eq_false_iff,Bool.not_eq_false',Bool.and_eq_true,decide_eq_true_eq] at h1'
  omega
 refine aQ.same [0] (fun i:Nat=>[(3,.int i)]) (fun i=>i<=s.length/\(s.take i).all (fun c=>nameB c.toNat)=true) (fun i=>s.length-i) 0 rfl (by decide) rfl (fun _=>rfl) ⟨by omega,by simp⟩ ⟨⟨_,rfl,rfl⟩,trivial⟩ ?_
 refine⟨rfl,?_⟩
 rintro i ⟨hi,hall⟩
 refine⟨fun h3=>?_,fun h3=>?_⟩
 ·have hi':i<s.length:=by simpa using h3
  repeat(refine VC.mk (by first|exact id|(omega)|(intro h; simp_all; done)) ?_)
  refine⟨fun h4=>?_,fun h4=>?_⟩
  ·conv=>whnf
   have h4':nameB (s.getD i 0).toNat=false:=by
    rw[nm4] at h4; simpa using h4
   exact au.bool (by rw[Ye,uN (d:=0) hi' h4',Bool.and_false]; rfl)
  ·conv=>whnf
   refine .mk (by simp only[okI] at *; omega) ?_
   refine⟨i+1,⟨by omega,?_⟩,by omega,⟨⟨_,rfl,rfl⟩,trivial⟩,?_,rfl⟩
   ·rw[tY (d:=0) hi' hall]
    rw[nm4] at h4; simpa using h4
   ·repeat' (first|exact trivial|exact⟨_,rfl,rfl⟩|constructor)
 ·have hi':s.length<=i:=by simpa using h3
  rw[List.take_of_length_le hi'] at hall
  refine ah.pure (S.qH) rfl ?_
  refine ah.pure (S.pq qG s false (by rw[Gg]; decide)) rfl ?_
  exact au.bool (by rw[Ye,show Ai s=false from h1,hall]; rfl)
theorem S.jQ(l:List Int)(n:Int)(f:Bool)(hl:l.length<2^40)(hn: -2^40<n/\n<2^40):ak Tryz.prog 82 [.row 0 f (.ints l),.int n] (.int (dX l n)):=by
 refine ak.of Bd.jQ (by simp) rfl rfl ?_
 refine aQ.same [0,1] (fun i:Nat=>[(5,.int i)]) (fun i=>i<=l.length/\(l.take i).any (fun i=>oI i n)=false) (fun i=>l.length-i) 0 rfl (by decide) rfl (fun _=>rfl) ⟨by omega,by simp⟩ ⟨⟨_,rfl,rfl⟩,trivial⟩ ?_
 refine⟨rfl,?_⟩
 rintro i ⟨hi,hall⟩
 refine⟨fun h3=>?_,fun h3=>?_⟩
 ·have hi':i<l.length:=by simpa using h3
  repeat(refine VC.mk (by simp only[okI,Rw.rng] at *; omega) ?_)
  refine ah.pure (S.bn (l.getD i 0) 0 (n-1)) rfl ?_
  refine⟨fun h4=>?_,fun h4=>?_⟩
  ·have h4':oI (l.getD i 0) n=true:=by
    have:(!iP (l.getD i 0) 0 (n-1))=true:=h4
    rw[nN,Bool.not_not] at this; exact this
   refine au.int ?_
   rw[dX,mQ (d:=0) hi' h4']; rfl
  ·have h4':oI (l.getD i 0) n=false:=by
    have:(!iP (l.getD i 0) 0 (n-1))=false:=h4
    rw[nN,Bool.not_not] at this; exact this
   refine .mk (by simp only[okI] at *; omega) ?_
   refine⟨i+1,⟨by omega,?_⟩,by omega,⟨⟨_,rfl,rfl⟩,trivial⟩,?_,rfl⟩
   ·rw[pO (d:=0) hi' hall]; exact h4'
   ·repeat' (first|exact trivial|exact⟨_,rfl,rfl⟩|constructor)
 ·have hi':l.length<=i:=by simpa using h3
  rw[List.take_of_length_le hi'] at hall
  refine aQ.same [0] (fun i:Nat=>[(6,.int (i+1))]) (fun i=>(i<l.length\/i=0)/\wM l=wM (l.drop i)) (fun i=>l.length-i) 0 rfl (by decide) rfl (fun _=>rfl) ⟨by omega,by simp⟩ ⟨⟨_,rfl,rfl⟩,trivial⟩ ?_
  refine⟨rfl,?_⟩
  rintro i ⟨hi,hinc⟩
  refine⟨fun h5=>?_,fun h5=>?_⟩
  ·have hi1:i+1<l.length:=by have:=of_decide_eq_true h5; omega
   rw[aZ 0 (show i<l.length by omega),aZ 0 hi1] at hinc
   simp only[wM] at hinc
   rw[<- aZ 0 hi1] at hinc
   repeat(refine VC.mk (by simp only[okI,Rw.rng] at *; omega) ?_)
   refine⟨fun h6=>?_,fun h6=>?_⟩
   ·have e1:((i:Int)+1).toNat=i+1:=by omega
    have e2:((i:Int)+1-1).toNat=i:=by omega
    rw[e1,e2] at h6
    have h6':l.getD (i+1) 0<=l.getD i 0:=of_decide_eq_true h6
    refine au.int ?_
    rw[dX,hall,hinc,decide_eq_false (by omega)]; rfl
   ·have e1:((i:Int)+1).toNat=i+1:=by omega
    have e2:((i:Int)+1-1).toNat=i:=by omega
    rw[e1,e2] at h6
    have h6': ¬ l.getD (i+1) 0<=l.getD i 0:=of_decide_eq_false h6
    refine .mk (by simp only[okI] at *; omega) ?_
    conv=>whnf
    rw[decide_eq_true (by omega),Bool.true_and] at hinc
    refine⟨i+1,⟨by omega,hinc⟩,by omega,⟨⟨_,rfl,rfl⟩,trivial⟩,?_,rfl⟩
    repeat' (first|exact trivial|exact⟨_,rfl,rfl⟩|constructor)
  ·conv=>whnf
   refine au.int ?_
   have h5': ¬ ((i:Int)+1<l.length):=of_decide_eq_false h5
   have:wM l=true:=by
    rw[hinc]
    rcases hd:l.drop i with _|⟨a,_|⟨b,r⟩⟩
    ·rfl
    ·rfl
    ·have:=congrArg List.length hd
     simp only[List.length_drop,List.length_cons] at this
     omega
   rw[dX,hall,this]; rfl
theorem S.vJ(p:aS)(r:Rule):ak Tryz.prog 117 [.dat (.eu p),.dat (.rule r)] (.bool (lD r p.topology)):=by
 refine ak.of Bd.vJ (by simp) rfl rfl ?_
 repeat(refine VC.mk (by first|exact id|(intro h; simp_all; done)) ?_)
 refine⟨fun h1=>?_,fun h1=>?_⟩
 ·conv=>whnf
  exact au.bool (by rw[lD]; erw [h1]; rfl)
 repeat(refine VC.mk (by first|exact id|(intro h; simp_all; done)) ?_)
 refine⟨fun h2=>?_,fun h2=>?_⟩
 ·conv=>whnf
  exact au.bool (by rw[lD]; erw [h1,h2]; rfl)
 repeat(refine VC.mk (by first|exact id|(intro h; simp_all; done)) ?_)
 refine⟨fun h3=>?_,fun h3=>?_⟩
 ·conv=>whnf
  exact au.bool (by rw[lD]; erw [h1,h2,h3]; rfl)
 repeat(refine VC.mk (by first|exact id|(intro h; rw[h]; rfl)|(intro h; simp_all; done)) ?_)
 refine⟨fun h4=>?_,fun h4=>?_⟩
 ·conv=>whnf
  exact au.bool (by rw[lD]; erw [h1,h2,h3,h4]; rfl)
 repeat(refine VC.mk (by first|exact id|(intro h; simp_all; done)) ?_)
 refine⟨fun h5=>?_,fun h5=>?_⟩
 ·conv=>whnf
  exact au.bool (by rw[lD]; erw [h1,h2,h3,h4,h5]; rfl)
 repeat(refine VC.mk (by first|exact id|(intro h; simp_all; done)) ?_)
 exact au.bool (by rw[lD]; erw [h1,h2,h3,h4,h5]; rfl)
theorem Yf(a b:yM):((a.message==b.message)&&(a.DK==b.DK)&&(a.bound==b.bound))=(b==a):=by
 obtain⟨m,c,l⟩:=a
 obtain⟨m',c',l'⟩:=b
 rw[Bool.eq_iff_iff]
 simp only[Bool.and_eq_true,beq_iff_eq,yM.mk.injEq]
 constructor
 ·rintro⟨⟨h1,h2⟩,h3⟩; exact⟨h1.symm,h2.symm,h3.symm⟩
 ·rintro⟨h1,h2,h3⟩; exact⟨⟨h1.symm,h2.symm⟩,h3.symm⟩
theorem S.kH(a b:yM):ak Tryz.prog 132 [.dat (.Po a),.dat (.Po b)] (.bool (b==a)):=by
 refine ak.of Bd.kH (by simp) rfl rfl ?_
 repeat(refine VC.mk (by first|exact id|exact fun h=>⟨h,h⟩) ?_)
 exact au.bool (Yf a b).symm
theorem S.jF(l:List yM)(g:yM)(f:Bool)(hl:l.length<2^40):ak Tryz.prog 118 [.row 7 f (.pG l),.dat (.Po g)] (.int (wC g l 0)):=by
 refine ak.of Bd.jF (by simp) rfl rfl ?_
 refine aQ.same [0,3] (fun i:Nat=>[(5,.int i)]) (fun i=>i<=l.length/\wC g l 0=wC g (l.drop i) i) (fun i=>l.length-i) 0 rfl (by decide) rfl (fun _=>rfl) ⟨by omega,by simp⟩ ⟨⟨_,rfl,rfl⟩,trivial⟩ ?_
 refine⟨rfl,?_⟩
 rintro i ⟨hi,hall⟩
 refine⟨fun h3=>?_,fun h3=>?_⟩
 ·have hi':i<l.length:=by simpa using h3
  rw[aZ default hi'] at hall
  simp only[wC] at hall
  refine .mk (by simp only[Rw.rng] at *; omega) ?_
  refine ah.pure (S.kH (l.getD i default) g) rfl ?_
  refine⟨fun h4=>?_,fun h4=>?_⟩
  ·conv=>whnf
   refine au.int ?_
   have h4':(g==l.getD i default)=true:=h4
   rw[hall,h4']; rfl
  ·conv=>whnf
   refine .mk (by simp only[okI] at *; omega) ?_
   refine⟨i+1,⟨by omega,?_⟩,by omega,⟨⟨_,rfl,rfl⟩,trivial⟩,?_,rfl⟩
   ·have h4':(g==l.getD i default)=false:=h4
    rw[hall,h4']; rfl
   ·repeat' (first|exact trivial|exact⟨_,rfl,rfl⟩|constructor)
 ·conv=>whnf
  refine au.int ?_
  have hi':l.length<=i:=by simpa using h3
  rw[hall,List.drop_eq_nil_of_le hi']; rfl
theorem OX{g:yM}{l:List yM}:decide (wC g l 0<0)= !(l.any fun x=>g==x):=by
 rw[<- OY (i:=0),Bool.eq_iff_iff]; simp
theorem S.qI(p:aS)(hp:dK p):ak Tryz.prog 84 [.dat (.eu p)] (.row 7 false (.pG (xJ p.rules))):=by
 have hp1:=hp.rules
 refine ak.of Bd.qI (by simp) rfl rfl ?_
 refine aQ.nil 3 161 7 (by rfl) rfl rfl rfl ?_
 refine aQ.objs 2 [1] (fun i:Nat=>[(4,.int i),(3,.own 1)]) (fun i=>[(0,.box 27 11 (.dat (.eu p))),(1,rowT (xJ (p.rules.take i)))]) (fun i=>i<=p.rules.length) (fun i=>p.rules.length-i) 0 [0,4] rfl (by decide) (fun _=>rfl) (Nat.zero_le _) ?_ ?_ ?_
 ·exact(sR rfl)
 ·exact⟨rQ rfl rfl,rQ rfl rfl,trivial⟩
 refine⟨(sR rfl),rfl,?_⟩
 rintro i hi
 refine⟨fun h3=>?_,fun h3=>?_⟩
 ·have hi':i<p.rules.length:=by simpa using h3
  refine aQ.objs 2 [1,4] (fun k:Nat=>[(5,.int k),(3,.own 1)]) (fun k=>[(0,.box 27 11 (.dat (.eu p))),(1,rowT (xK p i k))]) (fun k=>k<=(p.rules.getD i default).guards.length) (fun k=>(p.rules.getD i default).guards.length-k) 0 [0,1] rfl (by decide) (fun _=>rfl) (Nat.zero_le _) ?_ ?_ ?_
  ·exact(sR rfl)
  ·exact⟨rQ rfl rfl,rQ rfl rfl,trivial⟩
  refine⟨(sR rfl),rfl,?_⟩
  rintro k hk
  have hacc:=OZ p hp i k hi'
  have hg:=(hp.rule i).guards
  refine .mk (by simp only[Rw.rng] at *; first|omega|(simp_all; done)|(simp_all; omega)) ?_
  refine⟨fun h4=>?_,fun h4=>?_⟩
  ·have hk':k<(p.rules.getD i default).guards.length:=by simpa using h4
   have hst:xK p i (k+1)=FN (xK p i k) ((p.rules.getD i default).guards.getD k default):=zJ hk'
   repeat(refine VC.mk (by simp only[Rw.rng] at *; first|omega|(simp_all; done)|(simp_all; omega)) ?_)
   refine ah.lend (S.jF (xK p i k) ((p.rules.getD i default).guards.getD k default) false (by omega)) (And.intro (Yg trivial rfl) (And.intro (aB _) trivial)) rfl rfl ?_
   refine⟨fun h5=>?_,fun h5=>?_⟩
   ·conv=>whnf
    repeat(refine VC.mk (by first|(show((xK p i k).length+(0+1))*48<=140737488355328/\(xK p i k).length+(0+1)<=1152921504606846976; omega)|(simp only[okI] at *; first|omega|(simp_all; done)|(simp_all; omega))) ?_)
    have h5':((xK p i k).any fun x=>(p.rules.getD i default).guards.getD k default==x)=false:=by rw[OX] at h5; simpa using h5
    refine⟨k+1,[0,29],by omega,by omega,(sR rfl),(sR rfl),rQ rfl rfl,⟨rfl,nofun,rfl,rfl,rfl,_,rfl,rfl,rfl,dD.of_eq ?_⟩,trivial⟩
    rw[hst,FN,h5']; rfl
   ·conv=>whnf
    refine .mk (by simp only[okI] at *; first|omega|(simp_all; done)|(simp_all; omega)) ?_
    conv=>whnf
    have h5':((xK p i k).any fun x=>(p.rules.getD i default).guards.getD k default==x)=true:=by rw[OX] at h5; simpa using h5
    refine⟨k+1,[0,1],by omega,by omega,(sR rfl),(sR rfl),rQ rfl rfl,⟨rfl,nofun,rfl,rfl,rfl,_,rfl,rfl,rfl,dD.of_eq ?_⟩,trivial⟩
    rw[hst,FN,h5']; rfl
  ·have hk':(p.rules.getD i default).guards.length<=k:=by simpa using h4
   have e:k=(p.rules.getD i default).guards.length:=Nat.le_antisymm hk hk'
   subst e
   refine .mk (by simp only[okI] at *; first|omega|(simp_all; done)|(simp_all; omega)) ?_
   refine⟨i+1,[0,1],by omega,by omega,(sR rfl),(sR rfl),rQ rfl rfl,⟨rfl,nofun,rfl,rfl,rfl,_,rfl,rfl,rfl,dD.of_eq ?_⟩,trivial⟩
   rw[KE p hi']
 ·have hi':p.rules.length<=i:=by simpa using h3
  rw[List.take_of_length_le hi']
  exact au.adv rfl
def yJ(p:aS)(r:Rule):Bool:=(r.read != -1&& !(iP r.read 0 (p.values.length-1)))||(r.write != -1&& !(iP r.write 0 (p.values.length-1)))
def BU(p:aS)(r:Rule):Bool:=(r.kind==4)&&(!(iP r.pos 0 2)||(r.pos !=0&&p.topology==3))
def BX(p:aS)(r:Rule):Bool:=((r.kind==5)&&(p.topology==4))&& !(iP r.direction 3 4)
def BZ(p:aS)(r:Rule):Bool:=((r.kind==5)&&(p.topology !=4))&& !(iP r.direction 1 2)
def gI(p:aS)(r:Rule):Int :=
 let n:Int:=p.states.length
 aU [jR p r.guards,eG (decide ((r.guards.length:Int)>2)) 4,dX r.ex n,dX r.all n,eG (yJ p r) 5,dX r.send p.messages.length,dX r.left n,dX r.right n,dX r.parent n,eG (BU p r) 1,eG (BX p r) 1,eG (BZ p r) 1]
def Fg(p:aS)(r:Rule):Bool :=
 let n:Int:=p.states.length
 (!(iP r.fr 0 (n-1))|| !(iP r.to 0 (n-1)))||((r.kind==2||r.kind==5)&&(!(iP r.jk 0 (n-1))|| !(iP r.CO 0 (n-1))))
def Fh(p:aS)(r:Rule):Bool:=(!(iP r.kind 1 5)||(decide (r.kind<=3) !=(p.topology==1)))||lD r p.topology
def xM(p:aS)(i:Nat):Int :=
 let r:=p.rules.getD i default
 bif !(validName r.name) then 2 else bif (p.rules.take i).any (fun x=>x.name==r.name) then 2 else bif Fh p r then 6 else bif Fg p r then 5 else
 bif r.kind==3 then(bif (r.response.length:Int) !=p.states.length then 1 else bif oJ r.response p.states.length !=0 then oJ r.response p.states.length else gI p r) else gI p r
theorem pz{n lo hi:Int}:(!(iP n lo hi))=(decide (n<lo)||decide (n>hi)):=by
 unfold iP; rw[Bool.eq_iff_iff]; simp
theorem PS{a b:Int}(h:(a !=b)=false):a=b:=by simpa using h
theorem Vw{v:Int}{r:List Int}:aU (eG false v::r)=aU r:=rfl
theorem f0{r:List Int}:aU (0::r)=aU r:=rfl
theorem fN{x:Int}{r:List Int}(h:x≠0):aU (x::r)=x:=if_neg h
set_option maxHeartbeats 1000000 in
theorem S.zK(p:aS)(i:Nat)(hi:i<p.rules.length)(hp:dK p):ak Tryz.prog 83 [.dat (.eu p),.int i] (.int (xM p i)):=by
 have hr:=hp.rule i
 have hp1:=hp.rules
 have hp2:=hp.states
 have hp3:=hp.messages
 have hp4:=hp.values
 refine ak.of Bd.zK (by simp) rfl rfl ?_
 refine .mk (by simp only[Rw.rng] at *; first|omega|(simp_all; done)|(simp_all; omega)) ?_
 refine ah.pure (S.kM (p.rules.getD i default).name) rfl ?_
 refine⟨fun h1=>?_,fun h1=>?_⟩
 ·conv=>whnf
  exact au.int (by rw[xM,h1]; rfl)
 refine aQ.same [1,2,5,6] (fun j:Nat=>[(7,.int j)]) (fun j=>j<=i/\(p.rules.take j).any (fun x=>x.name==(p.rules.getD i default).name)=false) (fun j=>i-j) 0 rfl (by decide) rfl (fun _=>rfl) ⟨by omega,by simp⟩ ⟨⟨_,rfl,rfl⟩,trivial⟩ ?_
 refine⟨rfl,?_⟩
 rintro j ⟨hj,hall⟩
 refine⟨fun h2=>?_,fun h2=>?_⟩
 ·have hj':j<i:=by simpa using h2
  have hj2:j<p.rules.length:=by omega
  refine .mk (by simp only[Rw.rng] at *; first|omega|(simp_all; done)|(simp_all; omega)) ?_
  refine⟨fun h3=>?_,fun h3=>?_⟩
  ·conv=>whnf
   have hb:(p.rules.take i).any (fun x=>x.name==(p.rules.getD i default).name)=true:=by
    rw[List.any_eq_true]
    refine⟨p.rules.getD j default,?_,h3⟩
    rw[show p.rules.getD j default=p.rules[j] by simp[hj2],List.mem_take_iff_getElem]
    exact⟨j,by omega,rfl⟩
   exact au.int (by rw[xM,h1,hb]; rfl)
  ·conv=>whnf
   refine .mk (by simp only[okI] at *; first|omega|(simp_all; done)|(simp_all; omega)) ?_
   refine⟨j+1,⟨by omega,?_⟩,by omega,⟨⟨_,rfl,rfl⟩,trivial⟩,?_,rfl⟩
   ·rw[pO (d:=default) hj2 hall]; exact h3
   ·repeat' (first|exact trivial|exact⟨_,rfl,rfl⟩|constructor)
 have hj':i<=j:=by simpa using h2
 have e:i=j:=Nat.le_antisymm hj' hj
 subst e
 refine ah.pure (S.bn (p.rules.getD i default).kind 1 5) rfl ?_
 repeat(refine VC.mk (by first|exact id|exact fun h=>⟨h,h⟩|(intro h; rw[h]; rfl)) ?_)
 refine ah.iD (fun _=>S.vJ p (p.rules.getD i default)) rfl ?_
 refine .mk (by intro h; rw[h]; rfl) ?_
 refine⟨fun h4=>?_,fun h4=>?_⟩
 ·conv=>whnf
  exact au.int (by rw[xM,h1,hall,show Fh p (p.rules.getD i default)=true from h4]; rfl)
 repeat(refine VC.mk (by first|exact id|(intro h; rw[h]; rfl)|(simp only[okI] at *; first|omega|(simp_all; done)|(simp_all; omega))) ?_)
 refine ah.pure (S.bn (p.rules.getD i default).fr 0 (p.states.length-1)) rfl ?_
 repeat(refine VC.mk (by first|exact id|exact fun h=>⟨h,h⟩|(intro h; (repeat' apply And.intro)<;>first|exact h|omega|(simp only[Rw.oK]; omega)|(simp only[Rw.rng]; omega))) ?_)
 refine ah.iD (fun _=>S.bn (p.rules.getD i default).to 0 (p.states.length-1)) rfl ?_
 repeat(refine VC.mk (by first|exact id|exact fun h=>⟨h,h⟩|(intro h; rw[h]; rfl)|(intro h; (repeat' apply And.intro)<;>first|exact h|omega|(simp only[Rw.oK]; omega)|(simp only[Rw.rng]; omega))) ?_)
 refine ah.iD (fun _=>S.bn (p.rules.getD i default).jk 0 (p.states.length-1)) rfl ?_
 repeat(refine VC.mk (by first|exact id|exact fun h=>⟨h,h⟩|(intro h; (repeat' apply And.intro)<;>first|exact h|omega|(simp only[Rw.oK]; omega)|(simp only[Rw.rng]; omega))) ?_)
 refine ah.iD (fun _=>S.bn (p.rules.getD i default).CO 0 (p.states.length-1)) rfl ?_
 repeat(refine VC.mk (by first|exact id|(intro h; rw[h]; rfl)|(intro h; simp_all; done)) ?_)
 refine⟨fun h5=>?_,fun h5=>?_⟩
 ·conv=>whnf
  exact au.int (by rw[xM,h1,hall,show Fh p (p.rules.getD i default)=false from h4,show Fg p (p.rules.getD i default)=true from h5]; rfl)
 refine⟨fun h6=>?_,fun h6=>?_⟩
 ·replace h6:((p.rules.getD i default).kind==3)=true:=h6
  refine⟨fun h7=>?_,fun h7=>?_⟩
  ·replace h7:(((p.rules.getD i default).response.length:Int) !=p.states.length)=true:=h7
   exact au.int (by rw[xM,h1,hall,show Fh p (p.rules.getD i default)=false from h4,show Fg p (p.rules.getD i default)=false from h5,h6,h7]; rfl)
  replace h7:(((p.rules.getD i default).response.length:Int) !=p.states.length)=false:=h7
  have hn:(p.rules.getD i default).response.length=p.states.length:=by
   have:((p.rules.getD i default).response.length:Int)=p.states.length:=PS h7
   omega
  refine aQ.same [2,5,6] (fun k:Nat=>[(9,.int k)]) (fun k=>k<=p.states.length/\oJ (p.rules.getD i default).response p.states.length=oJ ((p.rules.getD i default).response.drop k) p.states.length) (fun k=>p.states.length-k) 0 rfl (by decide) rfl (fun _=>rfl) ⟨by omega,by simp⟩ ⟨⟨_,rfl,rfl⟩,trivial⟩ ?_
  refine⟨rfl,?_⟩
  rintro k ⟨hk,hg⟩
  refine⟨fun g1=>?_,fun g1=>?_⟩
  ·have hk':k<(p.rules.getD i default).response.length:=by rw[hn]; simpa using g1
   rw[aZ 0 hk'] at hg
   simp only[oJ] at hg
   repeat(refine VC.mk (by simp only[okI,Rw.rng] at *; first|omega|(simp_all; done)|(simp_all; omega)) ?_)
   refine ah.pure (S.bn ((p.rules.getD i default).response.getD k 0) 0 (p.states.length-1)) rfl ?_
   refine⟨fun g2=>?_,fun g2=>?_⟩
   ·rw[nN,Bool.not_not] at g2
    have e:cu ((p.rules.getD i default).response.getD k 0) p.states.length=5:=by rw[cu,g2]; rfl
    rw[e,if_neg (by decide)] at hg
    exact au.int (by rw[xM,h1,hall,show Fh p (p.rules.getD i default)=false from h4,show Fg p (p.rules.getD i default)=false from h5,h6,h7,hg]; rfl)
   rw[nN,Bool.not_not] at g2
   have e:cu ((p.rules.getD i default).response.getD k 0) p.states.length=0:=by rw[cu,g2]; rfl
   rw[if_pos e] at hg
   refine .mk (by simp only[okI] at *; first|omega|(simp_all; done)|(simp_all; omega)) ?_
   refine⟨k+1,⟨by omega,hg⟩,by omega,⟨⟨_,rfl,rfl⟩,trivial⟩,?_,rfl⟩
   repeat' (first|exact trivial|exact⟨_,rfl,rfl⟩|constructor)
  have hk':(p.rules.getD i default).response.length<=k:=by rw[hn]; simpa using g1
  rw[List.drop_eq_nil_of_le hk'] at hg
  replace hg:oJ (p.rules.getD i default).response p.states.length=0:=hg
  have hR:xM p i=gI p (p.rules.getD i default):=by
   rw[xM,h1,hall,show Fh p (p.rules.getD i default)=false from h4,show Fg p (p.rules.getD i default)=false from h5,h6,h7,hg]; rfl
  clear hg g1 hk' hk
  refine aQ.same [2,5,6] (fun k:Nat=>[(10,.int k)]) (fun k=>k<=(p.rules.getD i default).guards.length/\jR p (p.rules.getD i default).guards=jR p ((p.rules.getD i default).guards.drop k)) (fun k=>(p.rules.getD i default).guards.length-k) 0 rfl (by decide) rfl (fun _=>rfl) ⟨by omega,by simp⟩ ⟨⟨_,rfl,rfl⟩,trivial⟩ ?_
  refine⟨rfl,?_⟩
  rintro k ⟨hk,hg⟩
  have hgl:=hr.guards
  refine⟨fun g1=>?_,fun g1=>?_⟩
  ·have hk':k<(p.rules.getD i default).guards.length:=by simpa using g1
   rw[aZ default hk'] at hg
   simp only[jR] at hg
   repeat(refine VC.mk (by simp only[okI,Rw.rng] at *; first|omega|(simp_all; done)|(simp_all; omega)) ?_)
   refine ah.pure (S.bn ((p.rules.getD i default).guards.getD k default).message 0 (p.messages.length-1)) rfl ?_
   refine⟨fun g2=>?_,fun g2=>?_⟩
   ·rw[nN,Bool.not_not] at g2
    have e:guardE p ((p.rules.getD i default).guards.getD k default)=5:=by rw[guardE,cu,g2]; rfl
    rw[e,if_neg (by decide)] at hg
    exact au.int (by rw[hR,gI,hg]; rfl)
   rw[nN,Bool.not_not] at g2
   refine ah.pure (S.bn ((p.rules.getD i default).guards.getD k default).DK 1 100) rfl ?_
   refine⟨fun g3=>?_,fun g3=>?_⟩
   ·rw[pz] at g3
    have e:guardE p ((p.rules.getD i default).guards.getD k default)=1:=by rw[guardE,cu,g2,g3]; rfl
    rw[e,if_neg (by decide)] at hg
    exact au.int (by rw[hR,gI,hg]; rfl)
   rw[pz] at g3
   refine ah.pure (S.yD ((p.rules.getD i default).guards.getD k default).bound) rfl ?_
   refine⟨fun g4=>?_,fun g4=>?_⟩
   ·have e:guardE p ((p.rules.getD i default).guards.getD k default)=4:=by rw[guardE,cu,g2,g3,g4]; rfl
    rw[e,if_neg (by decide)] at hg
    exact au.int (by rw[hR,gI,hg]; rfl)
   have e:guardE p ((p.rules.getD i default).guards.getD k default)=0:=by rw[guardE,cu,g2,g3,g4]; rfl
   rw[if_pos e] at hg
   refine .mk (by simp only[okI] at *; first|omega|(simp_all; done)|(simp_all; omega)) ?_
   refine⟨k+1,⟨by omega,hg⟩,by omega,⟨⟨_,rfl,rfl⟩,trivial⟩,?_,rfl⟩
   repeat' (first|exact trivial|exact⟨_,rfl,rfl⟩|constructor)
  have hk':(p.rules.getD i default).guards.length<=k:=by simpa using g1
  rw[List.drop_eq_nil_of_le hk'] at hg
  replace hg:jR p (p.rules.getD i default).guards=0:=hg
  refine⟨fun c1=>?_,fun c1=>?_⟩
  ·replace c1:decide (((p.rules.getD i default).guards.length:Int)>2)=true:=c1
   exact au.int (by rw[hR,gI,hg,c1]; rfl)
  replace c1:decide (((p.rules.getD i default).guards.length:Int)>2)=false:=c1
  refine ah.pure (S.jQ (p.rules.getD i default).ex p.states.length false (by have:=hr.ex; omega) ⟨by omega,by omega⟩) rfl ?_
  refine⟨fun c2=>?_,fun c2=>?_⟩
  ·conv=>whnf
   exact au.int (by rw[hR,gI,hg,c1]; simp only[Vw,f0,fN (JB c2)])
  replace c2:=Ce c2
  refine ah.pure (S.jQ (p.rules.getD i default).all p.states.length false (by have:=hr.all; omega) ⟨by omega,by omega⟩) rfl ?_
  refine⟨fun c3=>?_,fun c3=>?_⟩
  ·conv=>whnf
   exact au.int (by rw[hR,gI,hg,c1,c2]; simp only[Vw,f0,fN (JB c3)])
  replace c3:=Ce c3
  repeat(refine VC.mk (by first|exact id|exact fun h=>⟨h,h⟩|(intro h; (repeat' apply And.intro)<;>first|exact h|omega|(simp only[Rw.oK]; omega)|(simp only[Rw.rng]; omega))) ?_)
  refine ah.iD (fun _=>S.bn (p.rules.getD i default).read 0 (p.values.length-1)) rfl ?_
  repeat(refine VC.mk (by first|exact id|exact fun h=>⟨h,h⟩|(intro h; (repeat' apply And.intro)<;>first|exact h|omega|(simp only[Rw.oK]; omega)|(simp only[Rw.rng]; omega))) ?_)
  refine ah.iD (fun _=>S.bn (p.rules.getD i default).write 0 (p.values.length-1)) rfl ?_
  repeat(refine VC.mk (by first|exact id|(intro h; rw[h]; rfl)|(intro h; simp_all; done)) ?_)
  refine⟨fun c4=>?_,fun c4=>?_⟩
  ·conv=>whnf
   exact au.int (by rw[hR,gI,hg,c1,c2,c3,show yJ p (p.rules.getD i default)=true from c4]; rfl)
  replace c4:yJ p (p.rules.getD i default)=false:=c4
  refine ah.pure (S.jQ (p.rules.getD i default).send p.messages.length false (by have:=hr.send; omega) ⟨by omega,by omega⟩) rfl ?_
  refine⟨fun c5=>?_,fun c5=>?_⟩
  ·conv=>whnf
   exact au.int (by rw[hR,gI,hg,c1,c2,c3,c4]; simp only[Vw,f0,fN (JB c5)])
  replace c5:=Ce c5
  refine ah.pure (S.jQ (p.rules.getD i default).left p.states.length false (by have:=hr.left; omega) ⟨by omega,by omega⟩) rfl ?_
  refine⟨fun c6=>?_,fun c6=>?_⟩
  ·conv=>whnf
   exact au.int (by rw[hR,gI,hg,c1,c2,c3,c4,c5]; simp only[Vw,f0,fN (JB c6)])
  replace c6:=Ce c6
  refine ah.pure (S.jQ (p.rules.getD i default).right p.states.length false (by have:=hr.right; omega) ⟨by omega,by omega⟩) rfl ?_
  refine⟨fun c7=>?_,fun c7=>?_⟩
  ·conv=>whnf
   exact au.int (by rw[hR,gI,hg,c1,c2,c3,c4,c5,c6]; simp only[Vw,f0,fN (JB c7)])
  replace c7:=Ce c7
  refine ah.pure (S.jQ (p.rules.getD i default).parent p.states.length false (by have:=hr.parent; omega) ⟨by omega,by omega⟩) rfl ?_
  refine⟨fun c8=>?_,fun c8=>?_⟩
  ·conv=>whnf
   exact au.int (by rw[hR,gI,hg,c1,c2,c3,c4,c5,c6,c7]; simp only[Vw,f0,fN (JB c8)])
  replace c8:=Ce c8
  repeat(refine VC.mk id ?_)
  refine ah.iD (fun _=>S.bn (p.rules.getD i default).pos 0 2) rfl ?_
  repeat(refine VC.mk (by first|exact id|(intro h; simp_all; done)) ?_)
  refine⟨fun c9=>?_,fun c9=>?_⟩
  ·conv=>whnf
   exact au.int (by rw[hR,gI,hg,c1,c2,c3,c4,c5,c6,c7,c8,show BU p (p.rules.getD i default)=true from c9]; rfl)
  replace c9:BU p (p.rules.getD i default)=false:=c9
  repeat(refine VC.mk id ?_)
  refine ah.iD (fun _=>S.bn (p.rules.getD i default).direction 3 4) rfl ?_
  repeat(refine VC.mk id ?_)
  refine⟨fun c10=>?_,fun c10=>?_⟩
  ·conv=>whnf
   exact au.int (by rw[hR,gI,hg,c1,c2,c3,c4,c5,c6,c7,c8,c9,show BX p (p.rules.getD i default)=true from c10]; rfl)
  replace c10:BX p (p.rules.getD i default)=false:=c10
  repeat(refine VC.mk id ?_)
  refine ah.iD (fun _=>S.bn (p.rules.getD i default).direction 1 2) rfl ?_
  repeat(refine VC.mk id ?_)
  refine⟨fun c11=>?_,fun c11=>?_⟩
  ·conv=>whnf
   exact au.int (by rw[hR,gI,hg,c1,c2,c3,c4,c5,c6,c7,c8,c9,c10,show BZ p (p.rules.getD i default)=true from c11]; rfl)
  replace c11:BZ p (p.rules.getD i default)=false:=c11
  exact au.int (by rw[hR,gI,hg,c1,c2,c3,c4,c5,c6,c7,c8,c9,c10,c11]; rfl)
 ·replace h6:((p.rules.getD i default).kind==3)=false:=h6
  have hR:xM p i=gI p (p.rules.getD i default):=by
   rw[xM,h1,hall,show Fh p (p.rules.getD i default)=false from h4,show Fg p (p.rules.getD i default)=false from h5,h6]; rfl
  refine aQ.same [2,5,6] (fun k:Nat=>[(10,.int k)]) (fun k=>k<=(p.rules.getD i default).guards.length/\jR p (p.rules.getD i default).guards=jR p ((p.rules.getD i default).guards.drop k)) (fun k=>(p.rules.getD i default).guards.length-k) 0 rfl (by decide) rfl (fun _=>rfl) ⟨by omega,by simp⟩ ⟨⟨_,rfl,rfl⟩,trivial⟩ ?_
  refine⟨rfl,?_⟩
  rintro k ⟨hk,hg⟩
  have hgl:=hr.guards
  refine⟨fun g1=>?_,fun g1=>?_⟩
  ·have hk':k<(p.rules.getD i default).guards.length:=by simpa using g1
   rw[aZ default hk'] at hg
   simp only[jR] at hg
   repeat(refine VC.mk (by simp only[okI,Rw.rng] at *; first|omega|(simp_all; done)|(simp_all; omega)) ?_)
   refine ah.pure (S.bn ((p.rules.getD i default).guards.getD k default).message 0 (p.messages.length-1)) rfl ?_
   refine⟨fun g2=>?_,fun g2=>?_⟩
   ·rw[nN,Bool.not_not] at g2
    have e:guardE p ((p.rules.getD i default).guards.getD k default)=5:=by rw[guardE,cu,g2]; rfl
    rw[e,if_neg (by decide)] at hg
    exact au.int (by rw[hR,gI,hg]; rfl)
   rw[nN,Bool.not_not] at g2
   refine ah.pure (S.bn ((p.rules.getD i default).guards.getD k default).DK 1 100) rfl ?_
   refine⟨fun g3=>?_,fun g3=>?_⟩
   ·rw[pz] at g3
    have e:guardE p ((p.rules.getD i default).guards.getD k default)=1:=by rw[guardE,cu,g2,g3]; rfl
    rw[e,if_neg (by decide)] at hg
    exact au.int (by rw[hR,gI,hg]; rfl)
   rw[pz] at g3
   refine ah.pure (S.yD ((p.rules.getD i default).guards.getD k default).bound) rfl ?_
   refine⟨fun g4=>?_,fun g4=>?_⟩
   ·have e:guardE p ((p.rules.getD i default).guards.getD k default)=4:=by rw[guardE,cu,g2,g3,g4]; rfl
    rw[e,if_neg (by decide)] at hg
    exact au.int (by rw[hR,gI,hg]; rfl)
   have e:guardE p ((p.rules.getD i default).guards.getD k default)=0:=by rw[guardE,cu,g2,g3,g4]; rfl
   rw[if_pos e] at hg
   refine .mk (by simp only[okI] at *; first|omega|(simp_all; done)|(simp_all; omega)) ?_
   refine⟨k+1,⟨by omega,hg⟩,by omega,⟨⟨_,rfl,rfl⟩,trivial⟩,?_,rfl⟩
   repeat' (first|exact trivial|exact⟨_,rfl,rfl⟩|constructor)
  have hk':(p.rules.getD i default).guards.length<=k:=by simpa using g1
  rw[List.drop_eq_nil_of_le hk'] at hg
  replace hg:jR p (p.rules.getD i default).guards=0:=hg
  refine⟨fun c1=>?_,fun c1=>?_⟩
  ·replace c1:decide (((p.rules.getD i default).guards.length:Int)>2)=true:=c1
   exact au.int (by rw[hR,gI,hg,c1]; rfl)
  replace c1:decide (((p.rules.getD i default).guards.length:Int)>2)=false:=c1
  refine ah.pure (S.jQ (p.rules.getD i default).ex p.states.length false (by have:=hr.ex; omega) ⟨by omega,by omega⟩) rfl ?_
  refine⟨fun c2=>?_,fun c2=>?_⟩
  ·conv=>whnf
   exact au.int (by rw[hR,gI,hg,c1]; simp only[Vw,f0,fN (JB c2)])
  replace c2:=Ce c2
  refine ah.pure (S.jQ (p.rules.getD i default).all p.states.length false (by have:=hr.all; omega) ⟨by omega,by omega⟩) rfl ?_
  refine⟨fun c3=>?_,fun c3=>?_⟩
  ·conv=>whnf
   exact au.int (by rw[hR,gI,hg,c1,c2]; simp only[Vw,f0,fN (JB c3)])
  replace c3:=Ce c3
  repeat(refine VC.mk (by first|exact id|exact fun h=>⟨h,h⟩|(intro h; (repeat' apply And.intro)<;>first|exact h|omega|(simp only[Rw.oK]; omega)|(simp only[Rw.rng]; omega))) ?_)
  refine ah.iD (fun _=>S.bn (p.rules.getD i default).read 0 (p.values.length-1)) rfl ?_
  repeat(refine VC.mk (by first|exact id|exact fun h=>⟨h,h⟩|(intro h; (repeat' apply And.intro)<;>first|exact h|omega|(simp only[Rw.oK]; omega)|(simp only[Rw.rng]; omega))) ?_)
  refine ah.iD (fun _=>S.bn (p.rules.getD i default).write 0 (p.values.length-1)) rfl ?_
  repeat(refine VC.mk (by first|exact id|(intro h; rw[h]; rfl)|(intro h; simp_all; done)) ?_)
  refine⟨fun c4=>?_,fun c4=>?_⟩
  ·conv=>whnf
   exact au.int (by rw[hR,gI,hg,c1,c2,c3,show yJ p (p.rules.getD i default)=true from c4]; rfl)
  replace c4:yJ p (p.rules.getD i default)=false:=c4
  refine ah.pure (S.jQ (p.rules.getD i default).send p.messages.length false (by have:=hr.send; omega) ⟨by omega,by omega⟩) rfl ?_
  refine⟨fun c5=>?_,fun c5=>?_⟩
  ·conv=>whnf
   exact au.int (by rw[hR,gI,hg,c1,c2,c3,c4]; simp only[Vw,f0,fN (JB c5)])
  replace c5:=Ce c5
  refine ah.pure (S.jQ (p.rules.getD i default).left p.states.length false (by have:=hr.left; omega) ⟨by omega,by omega⟩) rfl ?_
  refine⟨fun c6=>?_,fun c6=>?_⟩
  ·conv=>whnf
   exact au.int (by rw[hR,gI,hg,c1,c2,c3,c4,c5]; simp only[Vw,f0,fN (JB c6)])
  replace c6:=Ce c6
  refine ah.pure (S.jQ (p.rules.getD i default).right p.states.length false (by have:=hr.right; omega) ⟨by omega,by omega⟩) rfl ?_
  refine⟨fun c7=>?_,fun c7=>?_⟩
  ·conv=>whnf
   exact au.int (by rw[hR,gI,hg,c1,c2,c3,c4,c5,c6]; simp only[Vw,f0,fN (JB c7)])
  replace c7:=Ce c7
  refine ah.pure (S.jQ (p.rules.getD i default).parent p.states.length false (by have:=hr.parent; omega) ⟨by omega,by omega⟩) rfl ?_
  refine⟨fun c8=>?_,fun c8=>?_⟩
  ·conv=>whnf
   exact au.int (by rw[hR,gI,hg,c1,c2,c3,c4,c5,c6,c7]; simp only[Vw,f0,fN (JB c8)])
  replace c8:=Ce c8
  repeat(refine VC.mk id ?_)
  refine ah.iD (fun _=>S.bn (p.rules.getD i default).pos 0 2) rfl ?_
  repeat(refine VC.mk (by first|exact id|(intro h; simp_all; done)) ?_)
  refine⟨fun c9=>?_,fun c9=>?_⟩
  ·conv=>whnf
   exact au.int (by rw[hR,gI,hg,c1,c2,c3,c4,c5,c6,c7,c8,show BU p (p.rules.getD i default)=true from c9]; rfl)
  replace c9:BU p (p.rules.getD i default)=false:=c9
  repeat(refine VC.mk id ?_)
  refine ah.iD (fun _=>S.bn (p.rules.getD i default).direction 3 4) rfl ?_
  repeat(refine VC.mk id ?_)
  refine⟨fun c10=>?_,fun c10=>?_⟩
  ·conv=>whnf
   exact au.int (by rw[hR,gI,hg,c1,c2,c3,c4,c5,c6,c7,c8,c9,show BX p (p.rules.getD i default)=true from c10]; rfl)
  replace c10:BX p (p.rules.getD i default)=false:=c10
  repeat(refine VC.mk id ?_)
  refine ah.iD (fun _=>S.bn (p.rules.getD i default).direction 1 2) rfl ?_
  repeat(refine VC.mk id ?_)
  refine⟨fun c11=>?_,fun c11=>?_⟩
  ·conv=>whnf
   exact au.int (by rw[hR,gI,hg,c1,c2,c3,c4,c5,c6,c7,c8,c9,c10,show BZ p (p.rules.getD i default)=true from c11]; rfl)
  replace c11:BZ p (p.rules.getD i default)=false:=c11
  exact au.int (by rw[hR,gI,hg,c1,c2,c3,c4,c5,c6,c7,c8,c9,c10,c11]; rfl)
end Go.Proofs.YtbigdcimbhgjbaaGreatDoor
