/-
 A part of the proof. No condition.
-/
import Derived.Test.YtkmldgihhaooaaaGreatDoorVa
namespace Go.Proofs.YtkmldgihhaooaaaGreatDoor
open Go.Ab Go.Proofs
set_option maxRecDepth 100000
def iC(n lo hi:Int):Bool:=decide (n>=lo)&&decide (n<=hi)
theorem S.aY(n lo hi:Int):ak Tryz.prog 82 [.int n,.int lo,.int hi] (.bool (iC n lo hi)):=by
 refine ak.of Bd.aY (by simp) rfl rfl ?_;repeat(refine VC.mk (by first|exact id|exact fun h=>⟨h,h⟩) ?_)
 exact aj.bool rfl
theorem qw{x n:Int}:iC x 0 (n-1)= !(pR x n):=by
 unfold iC pR;rw[Bool.eq_iff_iff]; simp; omega
theorem S.AP(l:Lin):ak Tryz.prog 102 [.dat (.lin l)] (.bool (Uo l)):=by
 refine ak.of Bd.AP (by simp) rfl rfl ?_;refine ah.pure (S.aY l.c (-100) 100) rfl ?_;repeat(refine VC.mk id ?_)
 refine ah.ig (fun _=>S.aY l.n (-100) 100) rfl ?_;repeat(refine VC.mk id ?_)
 refine ah.ig (fun _=>S.aY l.t (-100) 100) rfl ?_;repeat(refine VC.mk id ?_)
 refine ah.ig (fun _=>S.aY l.f (-100) 100) rfl ?_;refine VC.mk id ?_;exact aj.bool rfl
theorem S.rQ(l:List Str)(s:Str)(f:Bool)(hl:l.length<2^40):ak Tryz.prog 101 [.row 0 f (.strs l),.str s] (.bool (l.any fun x=>s==x)):=by
 refine ak.of Bd.rQ (by simp) rfl rfl ?_;refine aA.same [0,1] (fun i:Nat=>[(5,.int i)]) (fun i=>i<=l.length/\(l.take i).any (fun x=>s==x)=false) (fun i=>l.length-i) 0 rfl (by decide) rfl (fun _=>rfl) ⟨by omega,by simp⟩ ⟨⟨_,rfl,rfl⟩,trivial⟩ ?_;refine⟨rfl,?_⟩;rintro i ⟨hi,hall⟩;refine⟨fun h3=>?_,fun h3=>?_⟩
 ·have hi':i<l.length:=by simpa using h3
  refine .mk (by simp only[Rw.rng] at *; omega) ?_;refine⟨fun h4=>?_,fun h4=>?_⟩
  ·have h4':(s==l.getD i [])=true:=by rw[show(s==l.getD i [])=(l.getD i []==s) from Bool.beq_comm]; exact h4
   exact aj.bool (iQ (d:=[]) hi' h4')
  ·have h4':(s==l.getD i [])=false:=by rw[show(s==l.getD i [])=(l.getD i []==s) from Bool.beq_comm]; exact h4
   refine .mk (by simp only[okI] at *; omega) ?_;refine⟨i+1,⟨by omega,?_⟩,by omega,⟨⟨_,rfl,rfl⟩,trivial⟩,?_,rfl⟩
   ·rw[kS (d:=[]) hi' hall]; exact h4'
   ·repeat' (first|exact trivial|exact⟨_,rfl,rfl⟩|constructor)
 ·have hi':l.length<=i:=by simpa using h3
  rw[List.take_of_length_le hi'] at hall;exact aj.bool hall
theorem S.tN:ak Tryz.prog 119 [] (.row 0 false (.strs tJ)):=by
 refine ak.of Bd.tN (by simp) rfl rfl ?_;exact aj.row (congrArg Rw.strs (by kernel_rfl))
theorem DW(s:Str):(bs s).toList=s:=by rw[Lib.toList_data]; rfl
theorem ags(s:Str):nmB (bs s)=(!(s.isEmpty)&& !(decide (12<(s.length:Int)))&&mg s):=by
 unfold nmB;rw[DW,Ak]; rfl
theorem Ur{c:Nat}(h:kH c=true):nameB c=true:=by unfold nameB; rw[h]; rfl
theorem Us{s:Str}(h:s≠[]):mg s=(kH (s.getD 0 0).toNat&&s.all fun c=>nameB c.toNat):=by
 cases s with
 |nil=>exact absurd rfl h
 |cons c r =>
  simp only[mg,List.getD_cons_zero,List.all_cons];cases hl:kH c.toNat with
  |false=>rfl
  |true=>rw[Ur hl]; simp
theorem DC{α:Type}{l:List α}{p:α->Bool}{d:α}{i:Nat}(hi:i<l.length)(h:(l.take i).all p=true):(l.take (i+1)).all p=p (l.getD i d):=by
 rw[List.take_add_one,List.all_append,h,Bool.true_and];simp[hi]
theorem zW{α:Type}{l:List α}{p:α->Bool}{d:α}{i:Nat}(hi:i<l.length)(h:p (l.getD i d)=false):l.all p=false:=by
 rw[Bool.eq_false_iff]; intro q;rw[List.all_eq_true] at q;have:=q l[i] (List.getElem_mem hi);rw[show l.getD i d=l[i] by simp[hi]] at h;rw[h] at this; cases this
def u8(s:Str)(i:Nat):Nat:=(s.getD i 0).toNat
theorem acA{c:Nat}:nameB c=(decide (97<=c/\c<=122)||decide (48<=c/\c<=57)||decide (c=95)):=by
 rw[Bool.eq_iff_iff]; simp[nameB,kH]
theorem Wn{c:Nat}:kH c=decide (97<=c/\c<=122):=by
 rw[Bool.eq_iff_iff]; simp[kH]
theorem wN{n:Nat}(h:(bif false then !(iC n 1 12) else !!(iC n 1 12))=true):(0:Int)<n:=by
 simp only[cond_false,Bool.not_not,iC,Bool.and_eq_true,decide_eq_true_eq] at h; omega
theorem wN2{n:Nat}{b:Bool}(h:(bif false then !(iC n 1 12)||b else !(!(iC n 1 12)||b))=true):(0:Int)<n:=by
 simp only[cond_false,Bool.not_or,Bool.not_not,iC,Bool.and_eq_true,decide_eq_true_eq] at h; omega
def Ec(s:Str):Bool:= !(iC s.length 1 12)||decide (((s.getD 0 0).toNat:Int)<97)||decide (122<((s.getD 0 0).toNat:Int))
theorem acB(s:Str):validName s=((!(Ec s)&&s.all fun c=>nameB c.toNat)&& !(tJ.any fun x=>s==x)):=by
 rw[validName,ags]
 congr 1
 cases s with
 |nil=>rfl
 |cons c r =>
  rw[Us (by simp),Wn];generalize ((c::r).all fun c=>nameB c.toNat)=A;simp only[Ec,iC,List.isEmpty_cons,List.length_cons,List.getD_cons_zero];rw[Bool.eq_iff_iff];simp;cases A<;>simp<;>omega
theorem nm4{c:Nat}:(!(decide (97<=(c:Int))&&decide ((c:Int)<=122))&& !(decide (48<=(c:Int))&&decide ((c:Int)<=57))&&(c:Int) !=95)= !(nameB c):=by
 rw[acA,Bool.eq_iff_iff]; simp; omega
theorem S.jO(s:Str):ak Tryz.prog 79 [.str s] (.bool (validName s)):=by
 refine ak.of Bd.jO (by simp) rfl rfl ?_;refine ah.pure (S.aY s.length 1 12) rfl ?_;conv=>whnf
 repeat(refine VC.mk (by first|(first|exact fun q=>⟨q,by omega,wN q⟩|exact fun q=>⟨q,by omega,wN2 q⟩)|exact fun h=>h|(intro h; rw[h]; rfl)) ?_)
 refine⟨fun h1=>?_,fun h1=>?_⟩
 ·conv=>whnf
  exact aj.bool (by rw[acB,show Ec s=true from h1]; rfl)
 have hs:s.length<2^40:=by
  have h1':Ec s=false:=h1;simp only[Ec,iC,Bool.or_eq_false_iff,Bool.not_eq_false',Bool.and_eq_true,decide_eq_true_eq] at h1';omega
 refine aA.same [0] (fun i:Nat=>[(3,.int i)]) (fun i=>i<=s.length/\(s.take i).all (fun c=>nameB c.toNat)=true) (fun i=>s.length-i) 0 rfl (by decide) rfl (fun _=>rfl) ⟨by omega,by simp⟩ ⟨⟨_,rfl,rfl⟩,trivial⟩ ?_;refine⟨rfl,?_⟩;rintro i ⟨hi,hall⟩;refine⟨fun h3=>?_,fun h3=>?_⟩
 ·have hi':i<s.length:=by simpa using h3
  repeat(refine VC.mk (by first|exact id|(omega)|(intro h; simp_all; done)) ?_)
  refine⟨fun h4=>?_,fun h4=>?_⟩
  ·conv=>whnf
   have h4':nameB (s.getD i 0).toNat=false:=by
    rw[nm4] at h4; simpa using h4
   exact aj.bool (by rw[acB,zW (d:=0) hi' h4',Bool.and_false]; rfl)
  ·conv=>whnf
   refine .mk (by simp only[okI] at *; omega) ?_;refine⟨i+1,⟨by omega,?_⟩,by omega,⟨⟨_,rfl,rfl⟩,trivial⟩,?_,rfl⟩
   ·rw[DC (d:=0) hi' hall];rw[nm4] at h4; simpa using h4
   ·repeat' (first|exact trivial|exact⟨_,rfl,rfl⟩|constructor)
 ·have hi':s.length<=i:=by simpa using h3
  rw[List.take_of_length_le hi'] at hall;refine ah.pure (S.tN) rfl ?_;refine ah.pure (S.rQ tJ s false (by rw[J8]; decide)) rfl ?_;exact aj.bool (by rw[acB,show Ec s=false from h1,hall]; rfl)
theorem S.jc(l:List Int)(n:Int)(f:Bool)(hl:l.length<2^40)(hn: -2^40<n/\n<2^40):ak Tryz.prog 80 [.row 0 f (.ints l),.int n] (.int (iZ l n)):=by
 refine ak.of Bd.jc (by simp) rfl rfl ?_;refine aA.same [0,1] (fun i:Nat=>[(5,.int i)]) (fun i=>i<=l.length/\(l.take i).any (fun i=>pR i n)=false) (fun i=>l.length-i) 0 rfl (by decide) rfl (fun _=>rfl) ⟨by omega,by simp⟩ ⟨⟨_,rfl,rfl⟩,trivial⟩ ?_;refine⟨rfl,?_⟩;rintro i ⟨hi,hall⟩;refine⟨fun h3=>?_,fun h3=>?_⟩
 ·have hi':i<l.length:=by simpa using h3
  repeat(refine VC.mk (by simp only[okI,Rw.rng] at *; omega) ?_)
  refine ah.pure (S.aY (l.getD i 0) 0 (n-1)) rfl ?_;refine⟨fun h4=>?_,fun h4=>?_⟩
  ·have h4':pR (l.getD i 0) n=true:=by
    have:(!iC (l.getD i 0) 0 (n-1))=true:=h4
    rw[qw,Bool.not_not] at this; exact this
   refine aj.int ?_;rw[iZ,iQ (d:=0) hi' h4']; rfl
  ·have h4':pR (l.getD i 0) n=false:=by
    have:(!iC (l.getD i 0) 0 (n-1))=false:=h4
    rw[qw,Bool.not_not] at this; exact this
   refine .mk (by simp only[okI] at *; omega) ?_;refine⟨i+1,⟨by omega,?_⟩,by omega,⟨⟨_,rfl,rfl⟩,trivial⟩,?_,rfl⟩
   ·rw[kS (d:=0) hi' hall]; exact h4'
   ·repeat' (first|exact trivial|exact⟨_,rfl,rfl⟩|constructor)
 ·have hi':l.length<=i:=by simpa using h3
  rw[List.take_of_length_le hi'] at hall;refine aA.same [0] (fun i:Nat=>[(6,.int (i+1))]) (fun i=>(i<l.length\/i=0)/\Hq l=Hq (l.drop i)) (fun i=>l.length-i) 0 rfl (by decide) rfl (fun _=>rfl) ⟨by omega,by simp⟩ ⟨⟨_,rfl,rfl⟩,trivial⟩ ?_;refine⟨rfl,?_⟩;rintro i ⟨hi,hinc⟩;refine⟨fun h5=>?_,fun h5=>?_⟩
  ·have hi1:i+1<l.length:=by have:=of_decide_eq_true h5; omega
   rw[bY 0 (show i<l.length by omega),bY 0 hi1] at hinc;simp only[Hq] at hinc;rw[<- bY 0 hi1] at hinc;repeat(refine VC.mk (by simp only[okI,Rw.rng] at *; omega) ?_)
   refine⟨fun h6=>?_,fun h6=>?_⟩
   ·have e1:((i:Int)+1).toNat=i+1:=by omega
    have e2:((i:Int)+1-1).toNat=i:=by omega
    rw[e1,e2] at h6;have h6':l.getD (i+1) 0<=l.getD i 0:=of_decide_eq_true h6;refine aj.int ?_;rw[iZ,hall,hinc,decide_eq_false (by omega)]; rfl
   ·have e1:((i:Int)+1).toNat=i+1:=by omega
    have e2:((i:Int)+1-1).toNat=i:=by omega
    rw[e1,e2] at h6;have h6': ¬ l.getD (i+1) 0<=l.getD i 0:=of_decide_eq_false h6;refine .mk (by simp only[okI] at *; omega) ?_;conv=>whnf
    rw[decide_eq_true (by omega),Bool.true_and] at hinc;refine⟨i+1,⟨by omega,hinc⟩,by omega,⟨⟨_,rfl,rfl⟩,trivial⟩,?_,rfl⟩;repeat' (first|exact trivial|exact⟨_,rfl,rfl⟩|constructor)
  ·conv=>whnf
   refine aj.int ?_;have h5': ¬ ((i:Int)+1<l.length):=of_decide_eq_false h5
   have:Hq l=true:=by
    rw[hinc];rcases hd:l.drop i with _|⟨a,_|⟨b,r⟩⟩
    ·rfl
    ·rfl
    ·have:=congrArg List.length hd;simp only[List.length_drop,List.length_cons] at this;omega
   rw[iZ,hall,this]; rfl
theorem S.x9(p:aI)(r:Rule):ak Tryz.prog 130 [.dat (.fV p),.dat (.rule r)] (.bool (mV r p.topology)):=by
 refine ak.of Bd.x9 (by simp) rfl rfl ?_;repeat(refine VC.mk (by first|exact id|(intro h; simp_all; done)) ?_)
 refine⟨fun h1=>?_,fun h1=>?_⟩
 ·conv=>whnf
  exact aj.bool (by rw[mV]; erw [h1]; rfl)
 repeat(refine VC.mk (by first|exact id|(intro h; simp_all; done)) ?_)
 refine⟨fun h2=>?_,fun h2=>?_⟩
 ·conv=>whnf
  exact aj.bool (by rw[mV]; erw [h1,h2]; rfl)
 repeat(refine VC.mk (by first|exact id|(intro h; simp_all; done)) ?_)
 refine⟨fun h3=>?_,fun h3=>?_⟩
 ·conv=>whnf
  exact aj.bool (by rw[mV]; erw [h1,h2,h3]; rfl)
 repeat(refine VC.mk (by first|exact id|(intro h; rw[h]; rfl)|(intro h; simp_all; done)) ?_)
 refine⟨fun h4=>?_,fun h4=>?_⟩
 ·conv=>whnf
  exact aj.bool (by rw[mV]; erw [h1,h2,h3,h4]; rfl)
 repeat(refine VC.mk (by first|exact id|(intro h; simp_all; done)) ?_)
 refine⟨fun h5=>?_,fun h5=>?_⟩
 ·conv=>whnf
  exact aj.bool (by rw[mV]; erw [h1,h2,h3,h4,h5]; rfl)
 repeat(refine VC.mk (by first|exact id|(intro h; simp_all; done)) ?_)
 exact aj.bool (by rw[mV]; erw [h1,h2,h3,h4,h5]; rfl)
theorem acC(a b:Bq):((a.message==b.message)&&(a.Gw==b.Gw)&&(a.bound==b.bound))=(b==a):=by
 obtain⟨m,c,l⟩:=a;obtain⟨m',c',l'⟩:=b;rw[Bool.eq_iff_iff];simp only[Bool.and_eq_true,beq_iff_eq,Bq.mk.injEq];constructor
 ·rintro⟨⟨h1,h2⟩,h3⟩; exact⟨h1.symm,h2.symm,h3.symm⟩
 ·rintro⟨h1,h2,h3⟩; exact⟨⟨h1.symm,h2.symm⟩,h3.symm⟩
theorem S.kX(a b:Bq):ak Tryz.prog 153 [.dat (.UM a),.dat (.UM b)] (.bool (b==a)):=by
 refine ak.of Bd.kX (by simp) rfl rfl ?_;repeat(refine VC.mk (by first|exact id|exact fun h=>⟨h,h⟩) ?_)
 exact aj.bool (acC a b).symm
theorem S.kD(l:List Bq)(g:Bq)(f:Bool)(hl:l.length<2^40):ak Tryz.prog 131 [.row 7 f (.rU l),.dat (.UM g)] (.int (yK g l 0)):=by
 refine ak.of Bd.kD (by simp) rfl rfl ?_;refine aA.same [0,3] (fun i:Nat=>[(5,.int i)]) (fun i=>i<=l.length/\yK g l 0=yK g (l.drop i) i) (fun i=>l.length-i) 0 rfl (by decide) rfl (fun _=>rfl) ⟨by omega,by simp⟩ ⟨⟨_,rfl,rfl⟩,trivial⟩ ?_;refine⟨rfl,?_⟩;rintro i ⟨hi,hall⟩;refine⟨fun h3=>?_,fun h3=>?_⟩
 ·have hi':i<l.length:=by simpa using h3
  rw[bY default hi'] at hall;simp only[yK] at hall;refine .mk (by simp only[Rw.rng] at *; omega) ?_;refine ah.pure (S.kX (l.getD i default) g) rfl ?_;refine⟨fun h4=>?_,fun h4=>?_⟩
  ·conv=>whnf
   refine aj.int ?_;have h4':(g==l.getD i default)=true:=h4;rw[hall,h4']; rfl
  ·conv=>whnf
   refine .mk (by simp only[okI] at *; omega) ?_;refine⟨i+1,⟨by omega,?_⟩,by omega,⟨⟨_,rfl,rfl⟩,trivial⟩,?_,rfl⟩
   ·have h4':(g==l.getD i default)=false:=h4;rw[hall,h4']; rfl
   ·repeat' (first|exact trivial|exact⟨_,rfl,rfl⟩|constructor)
 ·conv=>whnf
  refine aj.int ?_;have hi':l.length<=i:=by simpa using h3
  rw[hall,List.drop_eq_nil_of_le hi']; rfl
theorem Ut{g:Bq}{l:List Bq}:decide (yK g l 0<0)= !(l.any fun x=>g==x):=by
 rw[<- Uu (i:=0),Bool.eq_iff_iff]; simp
theorem S.tV(p:aI)(hp:eU p):ak Tryz.prog 104 [.dat (.fV p)] (.row 7 false (.rU (zS p.rules))):=by
 have hp1:=hp.rules;refine ak.of Bd.tV (by simp) rfl rfl ?_;refine aA.nil 3 148 7 (by rfl) rfl rfl rfl ?_;refine aA.objs 2 [1] (fun i:Nat=>[(4,.int i),(3,.own 1)]) (fun i=>[(0,.box 27 11 (.dat (.fV p))),(1,rowT (zS (p.rules.take i)))]) (fun i=>i<=p.rules.length) (fun i=>p.rules.length-i) 0 [0,4] rfl (by decide) (fun _=>rfl) (Nat.zero_le _) ?_ ?_ ?_
 ·exact(sR rfl)
 ·exact⟨dL rfl rfl,dL rfl rfl,trivial⟩
 refine⟨(sR rfl),rfl,?_⟩;rintro i hi;refine⟨fun h3=>?_,fun h3=>?_⟩
 ·have hi':i<p.rules.length:=by simpa using h3
  refine aA.objs 2 [1,4] (fun k:Nat=>[(5,.int k),(3,.own 1)]) (fun k=>[(0,.box 27 11 (.dat (.fV p))),(1,rowT (zT p i k))]) (fun k=>k<=(p.rules.getD i default).guards.length) (fun k=>(p.rules.getD i default).guards.length-k) 0 [0,1] rfl (by decide) (fun _=>rfl) (Nat.zero_le _) ?_ ?_ ?_
  ·exact(sR rfl)
  ·exact⟨dL rfl rfl,dL rfl rfl,trivial⟩
  refine⟨(sR rfl),rfl,?_⟩;rintro k hk;have hacc:=Uw p hp i k hi';have hg:=(hp.rule i).guards;refine .mk (by simp only[Rw.rng] at *; first|omega|(simp_all; done)|(simp_all; omega)) ?_;refine⟨fun h4=>?_,fun h4=>?_⟩
  ·have hk':k<(p.rules.getD i default).guards.length:=by simpa using h4
   have hst:zT p i (k+1)=JI (zT p i k) ((p.rules.getD i default).guards.getD k default):=Dv hk';repeat(refine VC.mk (by simp only[Rw.rng] at *; first|omega|(simp_all; done)|(simp_all; omega)) ?_)
   refine ah.lend (S.kD (zT p i k) ((p.rules.getD i default).guards.getD k default) false (by omega)) (And.intro (acD trivial rfl) (And.intro (aC _) trivial)) rfl rfl ?_;refine⟨fun h5=>?_,fun h5=>?_⟩
   ·conv=>whnf
    repeat(refine VC.mk (by first|(show((zT p i k).length+(0+1))*48<=140737488355328/\(zT p i k).length+(0+1)<=1152921504606846976; omega)|(simp only[okI] at *; first|omega|(simp_all; done)|(simp_all; omega))) ?_)
    have h5':((zT p i k).any fun x=>(p.rules.getD i default).guards.getD k default==x)=false:=by rw[Ut] at h5; simpa using h5
    refine⟨k+1,[0,29],by omega,by omega,(sR rfl),(sR rfl),dL rfl rfl,⟨rfl,nofun,rfl,rfl,rfl,_,rfl,rfl,rfl,dP.of_eq ?_⟩,trivial⟩;rw[hst,JI,h5']; rfl
   ·conv=>whnf
    refine .mk (by simp only[okI] at *; first|omega|(simp_all; done)|(simp_all; omega)) ?_;conv=>whnf
    have h5':((zT p i k).any fun x=>(p.rules.getD i default).guards.getD k default==x)=true:=by rw[Ut] at h5; simpa using h5
    refine⟨k+1,[0,1],by omega,by omega,(sR rfl),(sR rfl),dL rfl rfl,⟨rfl,nofun,rfl,rfl,rfl,_,rfl,rfl,rfl,dP.of_eq ?_⟩,trivial⟩;rw[hst,JI,h5']; rfl
  ·have hk':(p.rules.getD i default).guards.length<=k:=by simpa using h4
   have e:k=(p.rules.getD i default).guards.length:=Nat.le_antisymm hk hk';subst e;refine .mk (by simp only[okI] at *; first|omega|(simp_all; done)|(simp_all; omega)) ?_;refine⟨i+1,[0,1],by omega,by omega,(sR rfl),(sR rfl),dL rfl rfl,⟨rfl,nofun,rfl,rfl,rfl,_,rfl,rfl,rfl,dP.of_eq ?_⟩,trivial⟩;rw[Pn p hi']
 ·have hi':p.rules.length<=i:=by simpa using h3
  rw[List.take_of_length_le hi'];exact aj.ahy rfl
def Bg(p:aI)(r:Rule):Bool:=(r.read != -1&& !(iC r.read 0 (p.values.length-1)))||(r.write != -1&& !(iC r.write 0 (p.values.length-1)))
def Fz(p:aI)(r:Rule):Bool:=(r.kind==4)&&(!(iC r.pos 0 2)||(r.pos !=0&&p.topology==3))
def FB(p:aI)(r:Rule):Bool:=((r.kind==5)&&(p.topology==4))&& !(iC r.direction 3 4)
def FC(p:aI)(r:Rule):Bool:=((r.kind==5)&&(p.topology !=4))&& !(iC r.direction 1 2)
def iI(p:aI)(r:Rule):Int :=
 let n:Int:=p.states.length
 bD [kJ p r.guards,dQ (decide ((r.guards.length:Int)>2)) 4,iZ r.ex n,iZ r.all n,dQ (Bg p r) 5,iZ r.send p.messages.length,iZ r.left n,iZ r.right n,iZ r.parent n,dQ (Fz p r) 1,dQ (FB p r) 1,dQ (FC p r) 1]
def Jy(p:aI)(r:Rule):Bool :=
 let n:Int:=p.states.length
 (!(iC r.fr 0 (n-1))|| !(iC r.to 0 (n-1)))||((r.kind==2||r.kind==5)&&(!(iC r.jh 0 (n-1))|| !(iC r.zV 0 (n-1))))
def Jz(p:aI)(r:Rule):Bool:=(!(iC r.kind 1 5)||(decide (r.kind<=3) !=(p.topology==1)))||mV r p.topology
def zU(p:aI)(i:Nat):Int :=
 let r:=p.rules.getD i default
 bif !(validName r.name) then 2 else bif (p.rules.take i).any (fun x=>x.name==r.name) then 2 else bif Jz p r then 6 else bif Jy p r then 5 else
 bif r.kind==3 then(bif (r.response.length:Int) !=p.states.length then 1 else bif qW r.response p.states.length !=0 then qW r.response p.states.length else iI p r) else iI p r
theorem pU{n lo hi:Int}:(!(iC n lo hi))=(decide (n<lo)||decide (n>hi)):=by
 unfold iC; rw[Bool.eq_iff_iff]; simp
theorem UQ{a b:Int}(h:(a !=b)=false):a=b:=by simpa using h
theorem WE{v:Int}{r:List Int}:bD (dQ false v::r)=bD r:=rfl
theorem f0{r:List Int}:bD (0::r)=bD r:=rfl
theorem fN{x:Int}{r:List Int}(h:x≠0):bD (x::r)=x:=if_neg h
set_option maxHeartbeats 1000000 in
theorem S.Dw(p:aI)(i:Nat)(hi:i<p.rules.length)(hp:eU p):ak Tryz.prog 103 [.dat (.fV p),.int i] (.int (zU p i)):=by
 have hr:=hp.rule i;have hp1:=hp.rules;have hp2:=hp.states;have hp3:=hp.messages;have hp4:=hp.values;refine ak.of Bd.Dw (by simp) rfl rfl ?_;refine .mk (by simp only[Rw.rng] at *; first|omega|(simp_all; done)|(simp_all; omega)) ?_;refine ah.pure (S.jO (p.rules.getD i default).name) rfl ?_;refine⟨fun h1=>?_,fun h1=>?_⟩
 ·conv=>whnf
  exact aj.int (by rw[zU,h1]; rfl)
 refine aA.same [1,2,5,6] (fun j:Nat=>[(7,.int j)]) (fun j=>j<=i/\(p.rules.take j).any (fun x=>x.name==(p.rules.getD i default).name)=false) (fun j=>i-j) 0 rfl (by decide) rfl (fun _=>rfl) ⟨by omega,by simp⟩ ⟨⟨_,rfl,rfl⟩,trivial⟩ ?_;refine⟨rfl,?_⟩;rintro j ⟨hj,hall⟩;refine⟨fun h2=>?_,fun h2=>?_⟩
 ·have hj':j<i:=by simpa using h2
  have hj2:j<p.rules.length:=by omega
  refine .mk (by simp only[Rw.rng] at *; first|omega|(simp_all; done)|(simp_all; omega)) ?_;refine⟨fun h3=>?_,fun h3=>?_⟩
  ·conv=>whnf
   have hb:(p.rules.take i).any (fun x=>x.name==(p.rules.getD i default).name)=true:=by
    rw[List.any_eq_true];refine⟨p.rules.getD j default,?_,h3⟩;rw[show p.rules.getD j default=p.rules[j] by simp[hj2],List.mem_take_iff_getElem];exact⟨j,by omega,rfl⟩
   exact aj.int (by rw[zU,h1,hb]; rfl)
  ·conv=>whnf
   refine .mk (by simp only[okI] at *; first|omega|(simp_all; done)|(simp_all; omega)) ?_;refine⟨j+1,⟨by omega,?_⟩,by omega,⟨⟨_,rfl,rfl⟩,trivial⟩,?_,rfl⟩
   ·rw[kS (d:=default) hj2 hall]; exact h3
   ·repeat' (first|exact trivial|exact⟨_,rfl,rfl⟩|constructor)
 have hj':i<=j:=by simpa using h2
 have e:i=j:=Nat.le_antisymm hj' hj;subst e;refine ah.pure (S.aY (p.rules.getD i default).kind 1 5) rfl ?_;repeat(refine VC.mk (by first|exact id|exact fun h=>⟨h,h⟩|(intro h; rw[h]; rfl)) ?_)
 refine ah.ig (fun _=>S.x9 p (p.rules.getD i default)) rfl ?_;refine .mk (by intro h; rw[h]; rfl) ?_;refine⟨fun h4=>?_,fun h4=>?_⟩
 ·conv=>whnf
  exact aj.int (by rw[zU,h1,hall,show Jz p (p.rules.getD i default)=true from h4]; rfl)
 repeat(refine VC.mk (by first|exact id|(intro h; rw[h]; rfl)|(simp only[okI] at *; first|omega|(simp_all; done)|(simp_all; omega))) ?_)
 refine ah.pure (S.aY (p.rules.getD i default).fr 0 (p.states.length-1)) rfl ?_;repeat(refine VC.mk (by first|exact id|exact fun h=>⟨h,h⟩|(intro h; (repeat' apply And.intro)<;>first|exact h|omega|(simp only[Rw.qY]; omega)|(simp only[Rw.rng]; omega))) ?_)
 refine ah.ig (fun _=>S.aY (p.rules.getD i default).to 0 (p.states.length-1)) rfl ?_;repeat(refine VC.mk (by first|exact id|exact fun h=>⟨h,h⟩|(intro h; rw[h]; rfl)|(intro h; (repeat' apply And.intro)<;>first|exact h|omega|(simp only[Rw.qY]; omega)|(simp only[Rw.rng]; omega))) ?_)
 refine ah.ig (fun _=>S.aY (p.rules.getD i default).jh 0 (p.states.length-1)) rfl ?_;repeat(refine VC.mk (by first|exact id|exact fun h=>⟨h,h⟩|(intro h; (repeat' apply And.intro)<;>first|exact h|omega|(simp only[Rw.qY]; omega)|(simp only[Rw.rng]; omega))) ?_)
 refine ah.ig (fun _=>S.aY (p.rules.getD i default).zV 0 (p.states.length-1)) rfl ?_;repeat(refine VC.mk (by first|exact id|(intro h; rw[h]; rfl)|(intro h; simp_all; done)) ?_)
 refine⟨fun h5=>?_,fun h5=>?_⟩
 ·conv=>whnf
  exact aj.int (by rw[zU,h1,hall,show Jz p (p.rules.getD i default)=false from h4,show Jy p (p.rules.getD i default)=true from h5]; rfl)
 refine⟨fun h6=>?_,fun h6=>?_⟩
 ·replace h6:((p.rules.getD i default).kind==3)=true:=h6;refine⟨fun h7=>?_,fun h7=>?_⟩
  ·replace h7:(((p.rules.getD i default).response.length:Int) !=p.states.length)=true:=h7;exact aj.int (by rw[zU,h1,hall,show Jz p (p.rules.getD i default)=false from h4,show Jy p (p.rules.getD i default)=false from h5,h6,h7]; rfl)
  replace h7:(((p.rules.getD i default).response.length:Int) !=p.states.length)=false:=h7;have hn:(p.rules.getD i default).response.length=p.states.length:=by
   have:((p.rules.getD i default).response.length:Int)=p.states.length:=UQ h7
   omega
  refine aA.same [2,5,6] (fun k:Nat=>[(9,.int k)]) (fun k=>k<=p.states.length/\qW (p.rules.getD i default).response p.states.length=qW ((p.rules.getD i default).response.drop k) p.states.length) (fun k=>p.states.length-k) 0 rfl (by decide) rfl (fun _=>rfl) ⟨by omega,by simp⟩ ⟨⟨_,rfl,rfl⟩,trivial⟩ ?_;refine⟨rfl,?_⟩;rintro k ⟨hk,hg⟩;refine⟨fun g1=>?_,fun g1=>?_⟩
  ·have hk':k<(p.rules.getD i default).response.length:=by rw[hn]; simpa using g1
   rw[bY 0 hk'] at hg;simp only[qW] at hg;repeat(refine VC.mk (by simp only[okI,Rw.rng] at *; first|omega|(simp_all; done)|(simp_all; omega)) ?_)
   refine ah.pure (S.aY ((p.rules.getD i default).response.getD k 0) 0 (p.states.length-1)) rfl ?_;refine⟨fun g2=>?_,fun g2=>?_⟩
   ·rw[qw,Bool.not_not] at g2;have e:cZ ((p.rules.getD i default).response.getD k 0) p.states.length=5:=by rw[cZ,g2]; rfl
    rw[e,if_neg (by decide)] at hg;exact aj.int (by rw[zU,h1,hall,show Jz p (p.rules.getD i default)=false from h4,show Jy p (p.rules.getD i default)=false from h5,h6,h7,hg]; rfl)
   rw[qw,Bool.not_not] at g2;have e:cZ ((p.rules.getD i default).response.getD k 0) p.states.length=0:=by rw[cZ,g2]; rfl
   rw[if_pos e] at hg;refine .mk (by simp only[okI] at *; first|omega|(simp_all; done)|(simp_all; omega)) ?_;refine⟨k+1,⟨by omega,hg⟩,by omega,⟨⟨_,rfl,rfl⟩,trivial⟩,?_,rfl⟩;repeat' (first|exact trivial|exact⟨_,rfl,rfl⟩|constructor)
  have hk':(p.rules.getD i default).response.length<=k:=by rw[hn]; simpa using g1
  rw[List.drop_eq_nil_of_le hk'] at hg;replace hg:qW (p.rules.getD i default).response p.states.length=0:=hg;have hR:zU p i=iI p (p.rules.getD i default):=by
   rw[zU,h1,hall,show Jz p (p.rules.getD i default)=false from h4,show Jy p (p.rules.getD i default)=false from h5,h6,h7,hg]; rfl
  clear hg g1 hk' hk;refine aA.same [2,5,6] (fun k:Nat=>[(10,.int k)]) (fun k=>k<=(p.rules.getD i default).guards.length/\kJ p (p.rules.getD i default).guards=kJ p ((p.rules.getD i default).guards.drop k)) (fun k=>(p.rules.getD i default).guards.length-k) 0 rfl (by decide) rfl (fun _=>rfl) ⟨by omega,by simp⟩ ⟨⟨_,rfl,rfl⟩,trivial⟩ ?_;refine⟨rfl,?_⟩;rintro k ⟨hk,hg⟩;have hgl:=hr.guards;refine⟨fun g1=>?_,fun g1=>?_⟩
  ·have hk':k<(p.rules.getD i default).guards.length:=by simpa using g1
   rw[bY default hk'] at hg;simp only[kJ] at hg;repeat(refine VC.mk (by simp only[okI,Rw.rng] at *; first|omega|(simp_all; done)|(simp_all; omega)) ?_)
   refine ah.pure (S.aY ((p.rules.getD i default).guards.getD k default).message 0 (p.messages.length-1)) rfl ?_;refine⟨fun g2=>?_,fun g2=>?_⟩
   ·rw[qw,Bool.not_not] at g2;have e:guardE p ((p.rules.getD i default).guards.getD k default)=5:=by rw[guardE,cZ,g2]; rfl
    rw[e,if_neg (by decide)] at hg;exact aj.int (by rw[hR,iI,hg]; rfl)
   rw[qw,Bool.not_not] at g2;refine ah.pure (S.aY ((p.rules.getD i default).guards.getD k default).Gw 1 100) rfl ?_;refine⟨fun g3=>?_,fun g3=>?_⟩
   ·rw[pU] at g3;have e:guardE p ((p.rules.getD i default).guards.getD k default)=1:=by rw[guardE,cZ,g2,g3]; rfl
    rw[e,if_neg (by decide)] at hg;exact aj.int (by rw[hR,iI,hg]; rfl)
   rw[pU] at g3;refine ah.pure (S.AP ((p.rules.getD i default).guards.getD k default).bound) rfl ?_;refine⟨fun g4=>?_,fun g4=>?_⟩
   ·have e:guardE p ((p.rules.getD i default).guards.getD k default)=4:=by rw[guardE,cZ,g2,g3,g4]; rfl
    rw[e,if_neg (by decide)] at hg;exact aj.int (by rw[hR,iI,hg]; rfl)
   have e:guardE p ((p.rules.getD i default).guards.getD k default)=0:=by rw[guardE,cZ,g2,g3,g4]; rfl
   rw[if_pos e] at hg;refine .mk (by simp only[okI] at *; first|omega|(simp_all; done)|(simp_all; omega)) ?_;refine⟨k+1,⟨by omega,hg⟩,by omega,⟨⟨_,rfl,rfl⟩,trivial⟩,?_,rfl⟩;repeat' (first|exact trivial|exact⟨_,rfl,rfl⟩|constructor)
  have hk':(p.rules.getD i default).guards.length<=k:=by simpa using g1
  rw[List.drop_eq_nil_of_le hk'] at hg;replace hg:kJ p (p.rules.getD i default).guards=0:=hg;refine⟨fun c1=>?_,fun c1=>?_⟩
  ·replace c1:decide (((p.rules.getD i default).guards.length:Int)>2)=true:=c1;exact aj.int (by rw[hR,iI,hg,c1]; rfl)
  replace c1:decide (((p.rules.getD i default).guards.length:Int)>2)=false:=c1;refine ah.pure (S.jc (p.rules.getD i default).ex p.states.length false (by have:=hr.ex; omega) ⟨by omega,by omega⟩) rfl ?_;refine⟨fun c2=>?_,fun c2=>?_⟩
  ·conv=>whnf
   exact aj.int (by rw[hR,iI,hg,c1]; simp only[WE,f0,fN (Ux c2)])
  replace c2:=BD c2;refine ah.pure (S.jc (p.rules.getD i default).all p.states.length false (by have:=hr.all; omega) ⟨by omega,by omega⟩) rfl ?_;refine⟨fun c3=>?_,fun c3=>?_⟩
  ·conv=>whnf
   exact aj.int (by rw[hR,iI,hg,c1,c2]; simp only[WE,f0,fN (Ux c3)])
  replace c3:=BD c3;repeat(refine VC.mk (by first|exact id|exact fun h=>⟨h,h⟩|(intro h; (repeat' apply And.intro)<;>first|exact h|omega|(simp only[Rw.qY]; omega)|(simp only[Rw.rng]; omega))) ?_)
  refine ah.ig (fun _=>S.aY (p.rules.getD i default).read 0 (p.values.length-1)) rfl ?_;repeat(refine VC.mk (by first|exact id|exact fun h=>⟨h,h⟩|(intro h; (repeat' apply And.intro)<;>first|exact h|omega|(simp only[Rw.qY]; omega)|(simp only[Rw.rng]; omega))) ?_)
  refine ah.ig (fun _=>S.aY (p.rules.getD i default).write 0 (p.values.length-1)) rfl ?_;repeat(refine VC.mk (by first|exact id|(intro h; rw[h]; rfl)|(intro h; simp_all; done)) ?_)
  refine⟨fun c4=>?_,fun c4=>?_⟩
  ·conv=>whnf
   exact aj.int (by rw[hR,iI,hg,c1,c2,c3,show Bg p (p.rules.getD i default)=true from c4]; rfl)
  replace c4:Bg p (p.rules.getD i default)=false:=c4;refine ah.pure (S.jc (p.rules.getD i default).send p.messages.length false (by have:=hr.send; omega) ⟨by omega,by omega⟩) rfl ?_;refine⟨fun c5=>?_,fun c5=>?_⟩
  ·conv=>whnf
   exact aj.int (by rw[hR,iI,hg,c1,c2,c3,c4]; simp only[WE,f0,fN (Ux c5)])
  replace c5:=BD c5;refine ah.pure (S.jc (p.rules.getD i default).left p.states.length false (by have:=hr.left; omega) ⟨by omega,by omega⟩) rfl ?_;refine⟨fun c6=>?_,fun c6=>?_⟩
  ·conv=>whnf
   exact aj.int (by rw[hR,iI,hg,c1,c2,c3,c4,c5]; simp only[WE,f0,fN (Ux c6)])
  replace c6:=BD c6;refine ah.pure (S.jc (p.rules.getD i default).right p.states.length false (by have:=hr.right; omega) ⟨by omega,by omega⟩) rfl ?_;refine⟨fun c7=>?_,fun c7=>?_⟩
  ·conv=>whnf
   exact aj.int (by rw[hR,iI,hg,c1,c2,c3,c4,c5,c6]; simp only[WE,f0,fN (Ux c7)])
  replace c7:=BD c7;refine ah.pure (S.jc (p.rules.getD i default).parent p.states.length false (by have:=hr.parent; omega) ⟨by omega,by omega⟩) rfl ?_;refine⟨fun c8=>?_,fun c8=>?_⟩
  ·conv=>whnf
   exact aj.int (by rw[hR,iI,hg,c1,c2,c3,c4,c5,c6,c7]; simp only[WE,f0,fN (Ux c8)])
  replace c8:=BD c8;repeat(refine VC.mk id ?_)
  refine ah.ig (fun _=>S.aY (p.rules.getD i default).pos 0 2) rfl ?_;repeat(refine VC.mk (by first|exact id|(intro h; simp_all; done)) ?_)
  refine⟨fun c9=>?_,fun c9=>?_⟩
  ·conv=>whnf
   exact aj.int (by rw[hR,iI,hg,c1,c2,c3,c4,c5,c6,c7,c8,show Fz p (p.rules.getD i default)=true from c9]; rfl)
  replace c9:Fz p (p.rules.getD i default)=false:=c9;repeat(refine VC.mk id ?_)
  refine ah.ig (fun _=>S.aY (p.rules.getD i default).direction 3 4) rfl ?_;repeat(refine VC.mk id ?_)
  refine⟨fun c10=>?_,fun c10=>?_⟩
  ·conv=>whnf
   exact aj.int (by rw[hR,iI,hg,c1,c2,c3,c4,c5,c6,c7,c8,c9,show FB p (p.rules.getD i default)=true from c10]; rfl)
  replace c10:FB p (p.rules.getD i default)=false:=c10;repeat(refine VC.mk id ?_)
  refine ah.ig (fun _=>S.aY (p.rules.getD i default).direction 1 2) rfl ?_;repeat(refine VC.mk id ?_)
  refine⟨fun c11=>?_,fun c11=>?_⟩
  ·conv=>whnf
   exact aj.int (by rw[hR,iI,hg,c1,c2,c3,c4,c5,c6,c7,c8,c9,c10,show FC p (p.rules.getD i default)=true from c11]; rfl)
  replace c11:FC p (p.rules.getD i default)=false:=c11;exact aj.int (by rw[hR,iI,hg,c1,c2,c3,c4,c5,c6,c7,c8,c9,c10,c11]; rfl)
 ·replace h6:((p.rules.getD i default).kind==3)=false:=h6;have hR:zU p i=iI p (p.rules.getD i default):=by
   rw[zU,h1,hall,show Jz p (p.rules.getD i default)=false from h4,show Jy p (p.rules.getD i default)=false from h5,h6]; rfl
  refine aA.same [2,5,6] (fun k:Nat=>[(10,.int k)]) (fun k=>k<=(p.rules.getD i default).guards.length/\kJ p (p.rules.getD i default).guards=kJ p ((p.rules.getD i default).guards.drop k)) (fun k=>(p.rules.getD i default).guards.length-k) 0 rfl (by decide) rfl (fun _=>rfl) ⟨by omega,by simp⟩ ⟨⟨_,rfl,rfl⟩,trivial⟩ ?_;refine⟨rfl,?_⟩;rintro k ⟨hk,hg⟩;have hgl:=hr.guards;refine⟨fun g1=>?_,fun g1=>?_⟩
  ·have hk':k<(p.rules.getD i default).guards.length:=by simpa using g1
   rw[bY default hk'] at hg;simp only[kJ] at hg;repeat(refine VC.mk (by simp only[okI,Rw.rng] at *; first|omega|(simp_all; done)|(simp_all; omega)) ?_)
   refine ah.pure (S.aY ((p.rules.getD i default).guards.getD k default).message 0 (p.messages.length-1)) rfl ?_;refine⟨fun g2=>?_,fun g2=>?_⟩
   ·rw[qw,Bool.not_not] at g2;have e:guardE p ((p.rules.getD i default).guards.getD k default)=5:=by rw[guardE,cZ,g2]; rfl
    rw[e,if_neg (by decide)] at hg;exact aj.int (by rw[hR,iI,hg]; rfl)
   rw[qw,Bool.not_not] at g2;refine ah.pure (S.aY ((p.rules.getD i default).guards.getD k default).Gw 1 100) rfl ?_;refine⟨fun g3=>?_,fun g3=>?_⟩
   ·rw[pU] at g3;have e:guardE p ((p.rules.getD i default).guards.getD k default)=1:=by rw[guardE,cZ,g2,g3]; rfl
    rw[e,if_neg (by decide)] at hg;exact aj.int (by rw[hR,iI,hg]; rfl)
   rw[pU] at g3;refine ah.pure (S.AP ((p.rules.getD i default).guards.getD k default).bound) rfl ?_;refine⟨fun g4=>?_,fun g4=>?_⟩
   ·have e:guardE p ((p.rules.getD i default).guards.getD k default)=4:=by rw[guardE,cZ,g2,g3,g4]; rfl
    rw[e,if_neg (by decide)] at hg;exact aj.int (by rw[hR,iI,hg]; rfl)
   have e:guardE p ((p.rules.getD i default).guards.getD k default)=0:=by rw[guardE,cZ,g2,g3,g4]; rfl
   rw[if_pos e] at hg;refine .mk (by simp only[okI] at *; first|omega|(simp_all; done)|(simp_all; omega)) ?_;refine⟨k+1,⟨by omega,hg⟩,by omega,⟨⟨_,rfl,rfl⟩,trivial⟩,?_,rfl⟩;repeat' (first|exact trivial|exact⟨_,rfl,rfl⟩|constructor)
  have hk':(p.rules.getD i default).guards.length<=k:=by simpa using g1
  rw[List.drop_eq_nil_of_le hk'] at hg;replace hg:kJ p (p.rules.getD i default).guards=0:=hg;refine⟨fun c1=>?_,fun c1=>?_⟩
  ·replace c1:decide (((p.rules.getD i default).guards.length:Int)>2)=true:=c1;exact aj.int (by rw[hR,iI,hg,c1]; rfl)
  replace c1:decide (((p.rules.getD i default).guards.length:Int)>2)=false:=c1;refine ah.pure (S.jc (p.rules.getD i default).ex p.states.length false (by have:=hr.ex; omega) ⟨by omega,by omega⟩) rfl ?_;refine⟨fun c2=>?_,fun c2=>?_⟩
  ·conv=>whnf
   exact aj.int (by rw[hR,iI,hg,c1]; simp only[WE,f0,fN (Ux c2)])
  replace c2:=BD c2;refine ah.pure (S.jc (p.rules.getD i default).all p.states.length false (by have:=hr.all; omega) ⟨by omega,by omega⟩) rfl ?_;refine⟨fun c3=>?_,fun c3=>?_⟩
  ·conv=>whnf
   exact aj.int (by rw[hR,iI,hg,c1,c2]; simp only[WE,f0,fN (Ux c3)])
  replace c3:=BD c3;repeat(refine VC.mk (by first|exact id|exact fun h=>⟨h,h⟩|(intro h; (repeat' apply And.intro)<;>first|exact h|omega|(simp only[Rw.qY]; omega)|(simp only[Rw.rng]; omega))) ?_)
  refine ah.ig (fun _=>S.aY (p.rules.getD i default).read 0 (p.values.length-1)) rfl ?_;repeat(refine VC.mk (by first|exact id|exact fun h=>⟨h,h⟩|(intro h; (repeat' apply And.intro)<;>first|exact h|omega|(simp only[Rw.qY]; omega)|(simp only[Rw.rng]; omega))) ?_)
  refine ah.ig (fun _=>S.aY (p.rules.getD i default).write 0 (p.values.length-1)) rfl ?_;repeat(refine VC.mk (by first|exact id|(intro h; rw[h]; rfl)|(intro h; simp_all; done)) ?_)
  refine⟨fun c4=>?_,fun c4=>?_⟩
  ·conv=>whnf
   exact aj.int (by rw[hR,iI,hg,c1,c2,c3,show Bg p (p.rules.getD i default)=true from c4]; rfl)
  replace c4:Bg p (p.rules.getD i default)=false:=c4;refine ah.pure (S.jc (p.rules.getD i default).send p.messages.length false (by have:=hr.send; omega) ⟨by omega,by omega⟩) rfl ?_;refine⟨fun c5=>?_,fun c5=>?_⟩
  ·conv=>whnf
   exact aj.int (by rw[hR,iI,hg,c1,c2,c3,c4]; simp only[WE,f0,fN (Ux c5)])
  replace c5:=BD c5;refine ah.pure (S.jc (p.rules.getD i default).left p.states.length false (by have:=hr.left; omega) ⟨by omega,by omega⟩) rfl ?_;refine⟨fun c6=>?_,fun c6=>?_⟩
  ·conv=>whnf
   exact aj.int (by rw[hR,iI,hg,c1,c2,c3,c4,c5]; simp only[WE,f0,fN (Ux c6)])
  replace c6:=BD c6;refine ah.pure (S.jc (p.rules.getD i default).right p.states.length false (by have:=hr.right; omega) ⟨by omega,by omega⟩) rfl ?_;refine⟨fun c7=>?_,fun c7=>?_⟩
  ·conv=>whnf
   exact aj.int (by rw[hR,iI,hg,c1,c2,c3,c4,c5,c6]; simp only[WE,f0,fN (Ux c7)])
  replace c7:=BD c7;refine ah.pure (S.jc (p.rules.getD i default).parent p.states.length false (by have:=hr.parent; omega) ⟨by omega,by omega⟩) rfl ?_;refine⟨fun c8=>?_,fun c8=>?_⟩
  ·conv=>whnf
   exact aj.int (by rw[hR,iI,hg,c1,c2,c3,c4,c5,c6,c7]; simp only[WE,f0,fN (Ux c8)])
  replace c8:=BD c8;repeat(refine VC.mk id ?_)
  refine ah.ig (fun _=>S.aY (p.rules.getD i default).pos 0 2) rfl ?_;repeat(refine VC.mk (by first|exact id|(intro h; simp_all; done)) ?_)
  refine⟨fun c9=>?_,fun c9=>?_⟩
  ·conv=>whnf
   exact aj.int (by rw[hR,iI,hg,c1,c2,c3,c4,c5,c6,c7,c8,show Fz p (p.rules.getD i default)=true from c9]; rfl)
  replace c9:Fz p (p.rules.getD i default)=false:=c9;repeat(refine VC.mk id ?_)
  refine ah.ig (fun _=>S.aY (p.rules.getD i default).direction 3 4) rfl ?_;repeat(refine VC.mk id ?_)
  refine⟨fun c10=>?_,fun c10=>?_⟩
  ·conv=>whnf
   exact aj.int (by rw[hR,iI,hg,c1,c2,c3,c4,c5,c6,c7,c8,c9,show FB p (p.rules.getD i default)=true from c10]; rfl)
  replace c10:FB p (p.rules.getD i default)=false:=c10;repeat(refine VC.mk id ?_)
  refine ah.ig (fun _=>S.aY (p.rules.getD i default).direction 1 2) rfl ?_;repeat(refine VC.mk id ?_)
  refine⟨fun c11=>?_,fun c11=>?_⟩
  ·conv=>whnf
   exact aj.int (by rw[hR,iI,hg,c1,c2,c3,c4,c5,c6,c7,c8,c9,c10,show FC p (p.rules.getD i default)=true from c11]; rfl)
  replace c11:FC p (p.rules.getD i default)=false:=c11;exact aj.int (by rw[hR,iI,hg,c1,c2,c3,c4,c5,c6,c7,c8,c9,c10,c11]; rfl)
end Go.Proofs.YtkmldgihhaooaaaGreatDoor
